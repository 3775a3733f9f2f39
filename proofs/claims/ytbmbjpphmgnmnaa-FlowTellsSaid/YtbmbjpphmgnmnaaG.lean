import Derived.Test.YtbmbjpphmgnmnaaE
import Derived.Test.YtbmbjpphmgnmnaaF
import Derived.Test.YtbmbjpphmgnmnaaC
set_option linter.unusedVariables false
set_option linter.unusedSimpArgs false
namespace Go.Proofs.W
open Go.Vl
set_option maxRecDepth 100000

theorem putL_mem {n x : Nat} : ∀ {l : List Nat}, x ∈ putL l n ↔ x ∈ l ∨ x = n
  | [] => by simp [putL]
  | y :: l => by
    unfold putL
    split
    · rw [List.mem_cons, putL_mem (l := l), List.mem_cons, or_assoc]
    · split
      · rename_i h1 h2
        subst h2
        simp
        intro h; subst h; exact .inl rfl
      · rw [List.mem_cons]; exact or_comm
theorem putL_sorted {n : Nat} : ∀ {l : List Nat}, l.Pairwise (· < ·) → (putL l n).Pairwise (· < ·)
  | [], _ => by simp [putL]
  | y :: l, h => by
    obtain ⟨h1, h2⟩ := List.pairwise_cons.1 h
    unfold putL
    split
    · rename_i hy
      refine List.pairwise_cons.2 ⟨fun a ha => ?_, putL_sorted h2⟩
      rcases putL_mem.1 ha with ha | rfl
      · exact h1 a ha
      · exact hy
    · split
      · exact h
      · refine List.pairwise_cons.2 ⟨fun a ha => ?_, h⟩
        rcases List.mem_cons.1 ha with rfl | ha
        · omega
        · have := h1 a ha; omega
theorem toldP_sorted (l : List Ins) (K : Nat) : ∀ i, (toldP l K i).Pairwise (· < ·)
  | 0 => .nil
  | i + 1 => by
    unfold toldP; split
    · exact putL_sorted (toldP_sorted l K i)
    · exact toldP_sorted l K i
theorem told_met (l : List Ins) (hR : reachedOf l = reachI l) (K x : Nat) : ∀ i, x ∈ toldP l K i ↔ x ∈ metTo l K i
  | 0 => Iff.rfl
  | i + 1 => by
    have ih := told_met l hR K x i
    unfold toldP metTo
    rw [hR]
    split
    · rw [putL_mem, addK_mem, ih]
    · exact ih
theorem told_metA (l : List Ins) (hR : reachedOf l = reachI l) : ∀ i, toldA l i = metA l i
  | 0 => rfl
  | i + 1 => by unfold toldA metA; rw [told_metA l hR i, hR]
theorem sort_told (l : List Ins) (hR : reachedOf l = reachI l) (K i : Nat) : sortBy Go.Sort.ltInt ((metTo l K i).map Int.ofNat) = (toldP l K i).map Int.ofNat := by
  have hinj : ∀ {l : List Nat}, l.Nodup → (l.map Int.ofNat).Nodup := fun h => (List.pairwise_map).2 (h.imp fun hne he => hne (Int.ofNat_inj.1 he))
  refine sorted_same (lt := Go.Sort.ltInt) ltInt_tot (sortBy_pair Go.Sort.swo_ltInt _) ?_ ?_ (hinj ((toldP_sorted l K i).imp fun h => by omega)) (fun x => ?_)
  · refine List.pairwise_map.2 ((toldP_sorted l K i).imp fun {a b} h => ?_)
    simp [Go.Sort.ltInt]; omega
  · exact (List.mergeSort_perm _ _).nodup_iff.2 (hinj (metTo_nodup l K i))
  · rw [sortBy_mem]
    simp only [List.mem_map]
    exact ⟨fun ⟨n, h1, h2⟩ => ⟨n, (told_met l hR K n i).2 h1, h2⟩, fun ⟨n, h1, h2⟩ => ⟨n, (told_met l hR K n i).1 h1, h2⟩⟩
theorem natsI_nat (k : IntKind) (l : List Nat) : natsI k (l.map Int.ofNat) = slOf 1 (fun n : Nat => AV.v (.int k (n : Int))) 0 l := by
  unfold natsI slOf
  rw [List.length_map]
  congr 1
  funext n
  have : (l.map Int.ofNat).getD n 0 = ((l.getD n 0 : Nat) : Int) := by
    simp only [List.getD, List.getElem?_map]
    cases l[n]? <;> rfl
  rw [this]
theorem getD_eq {l : List Nat} {i : Nat} {f : Nat → AV} : f (l.getD i 0) = f (l.getD i 0) := rfl
theorem toldP_small (l : List Ins) (hok : okL l) (hl : l.length ≤ 1000000) (hR : Right l) : ∀ i, i ≤ l.length → ∀ x ∈ toldP l 14 i, x < 4294967296
  | 0, _, x, h => by cases h
  | i + 1, hi, x, h => by
    have ih := toldP_small l hok hl hR i (by omega)
    unfold toldP at h
    split at h
    · rcases putL_mem.1 h with h | rfl
      · exact ih x h
      · exact (hok.get (by omega)).2.2.2
    · exact ih x h
set_option maxHeartbeats 4000000 in
theorem tells_spec (l : List Ins) (hok : okL l) (hl : l.length ≤ maxLen) : PCall Try.prog 3 [inss l] (fun r => r = .v (.bool true)) := by
  refine pcall_of_aw Try.func3 rfl rfl fun nx => ?_
  have haw := awake_spec
  (repeat((conv=>whnf);first|apply ω0|apply ω1|apply ω2|refine τ3 rfl ?_|refine τ4 rfl ?_|refine ⟨rfl,?_⟩|apply τa|refine τb rfl ?_|refine ⟨⟨by kernel_rfl,by kernel_rfl⟩,?_⟩|refine ⟨by decide,?_⟩|apply τt|apply τf))
  intro c h1; cases c
  · have h1 := not_of h1
    have hl2 : l.length ≤ 200 := by omega
    have hen := ends_spec l hok (by omega)
    have hlo := loads_spec l hok (by omega)
    have hcr := checkR_spec l hok (by omega)
    have hre : Tells Try.prog 5 [inss l] (bools (reachedOf l)) := reach_spec l hok (by omega)
    have hpr := prune_spec l hok (by omega)
    have hlg := longest_spec l hok (by omega)
    (repeat((conv=>whnf);first|apply ω0|apply ω1|apply ω2|refine τ3 rfl ?_|refine τ4 rfl ?_|refine ⟨rfl,?_⟩|apply τa|refine τb rfl ?_|refine ⟨⟨by kernel_rfl,by kernel_rfl⟩,?_⟩|refine ⟨by decide,?_⟩|apply τt|apply τf))
    refine aop_tells rfl rfl (all_spec l (by omega)) ⟨AVle.refl _, trivial⟩ fun nx1 => ?_
    by_cases hR : Right l
    · have hro : reachedOf l = reachI l := reachedOf_ok hR
      have hrl := reachI_length l
      have hf := hR.1
      have hck := check_iff.2 hR
      have e1 : endsI l = (toldP l 14 l.length).map Int.ofNat := by unfold endsI; rw [hro, hrl]; exact sort_told l hro 14 _
      have e2 : loadsI l = (toldP l 1 l.length).map Int.ofNat := by unfold loadsI; rw [hro, hrl]; exact sort_told l hro 1 _
      have e3 : metA l (reachedOf l).length = toldA l l.length := by rw [hro, hrl]; exact (told_metA l hro _).symm
      rw [e1, e3, natsI_nat] at hen
      rw [e2, natsI_nat] at hlo
      rw [hro] at hre
      rw [hck] at hcr
      rw [if_pos hck] at hlg
      have hrr := reachedI_spec l hok hf
      have htd := told_spec l hok hf
      have hpR := pruneR_spec l hok hR
      have hlR := longestR_spec l hok hf
      have hpl : (pruneI l).length ≤ l.length := Nat.le_trans (prTo_length l _) (reachedOf_len l)
      have hsm := isame_true (pruneI l) (by omega)
      have hb1 := toldP_length l 14 l.length
      have hb2 := toldP_length l 1 l.length
      have hm1 : ∀ i, i < (toldP l 14 l.length).length → (toldP l 14 l.length).getD i 0 < 4294967296 := fun i hi => toldP_small l hok (by omega) hR _ (Nat.le_refl _) _ (by simp only [List.getD, List.getElem?_eq_getElem hi]; exact List.getElem_mem hi)
      clear hck e1 e2 e3 hro
      generalize reachI l = o at *
      generalize pruneI l = p at *
      generalize toldP l 14 l.length = T1 at *
      generalize toldP l 1 l.length = T2 at *
      generalize toldA l l.length = A at *
      generalize longI l = G at *
      generalize (checkI l).1 = c1 at *
      (repeat((conv=>whnf);first|apply ω0|apply ω1|apply ω2|refine τ3 rfl ?_|refine τ4 rfl ?_|refine ⟨rfl,?_⟩|apply τa|refine τb rfl ?_|refine ⟨⟨by kernel_rfl,by kernel_rfl⟩,?_⟩|refine ⟨by decide,?_⟩|apply τt|apply τf))
      refine aop_tells rfl rfl hre ⟨AVle.refl _, trivial⟩ fun nx2 => ?_
      (repeat((conv=>whnf);first|apply ω0|apply ω1|apply ω2|refine τ3 rfl ?_|refine τ4 rfl ?_|refine ⟨rfl,?_⟩|apply τa|refine τb rfl ?_|refine ⟨⟨by kernel_rfl,by kernel_rfl⟩,?_⟩|refine ⟨by decide,?_⟩|apply τt|apply τf))
      refine aop_tells rfl rfl hpr ⟨AVle.refl _, trivial⟩ fun nx3 => ?_
      (repeat((conv=>whnf);first|apply ω0|apply ω1|apply ω2|refine τ3 rfl ?_|refine τ4 rfl ?_|refine ⟨rfl,?_⟩|apply τa|refine τb rfl ?_|refine ⟨⟨by kernel_rfl,by kernel_rfl⟩,?_⟩|refine ⟨by decide,?_⟩|apply τt|apply τf))
      refine aop_tells rfl rfl hlg ⟨AVle.refl _, trivial⟩ fun nx4 => ?_
      (repeat((conv=>whnf);first|apply ω0|apply ω1|apply ω2|refine τ3 rfl ?_|refine τ4 rfl ?_|refine ⟨rfl,?_⟩|apply τa|refine τb rfl ?_|refine ⟨⟨by kernel_rfl,by kernel_rfl⟩,?_⟩|refine ⟨by decide,?_⟩|apply τt|apply τf))
      refine aop_tells rfl rfl hen ⟨AVle.refl _, trivial⟩ fun nx5 => ?_
      (repeat((conv=>whnf);first|apply ω0|apply ω1|apply ω2|refine τ3 rfl ?_|refine τ4 rfl ?_|refine ⟨rfl,?_⟩|apply τa|refine τb rfl ?_|refine ⟨⟨by kernel_rfl,by kernel_rfl⟩,?_⟩|refine ⟨by decide,?_⟩|apply τt|apply τf))
      intro A1 hA1
      obtain rfl : A1 = A := hA1
      (repeat((conv=>whnf);first|apply ω0|apply ω1|apply ω2|refine τ3 rfl ?_|refine τ4 rfl ?_|refine ⟨rfl,?_⟩|apply τa|refine τb rfl ?_|refine ⟨⟨by kernel_rfl,by kernel_rfl⟩,?_⟩|refine ⟨by decide,?_⟩|apply τt|apply τf))
      refine aop_tells rfl rfl hlo ⟨AVle.refl _, trivial⟩ fun nx6 => ?_
      (repeat((conv=>whnf);first|apply ω0|apply ω1|apply ω2|refine τ3 rfl ?_|refine τ4 rfl ?_|refine ⟨rfl,?_⟩|apply τa|refine τb rfl ?_|refine ⟨⟨by kernel_rfl,by kernel_rfl⟩,?_⟩|refine ⟨by decide,?_⟩|apply τt|apply τf))
      refine aop_tells rfl rfl hcr ⟨AVle.refl _, trivial⟩ fun nx7 => ?_
      (repeat((conv=>whnf);first|apply ω0|apply ω1|apply ω2|refine τ3 rfl ?_|refine τ4 rfl ?_|refine ⟨rfl,?_⟩|apply τa|refine τb rfl ?_|refine ⟨⟨by kernel_rfl,by kernel_rfl⟩,?_⟩|refine ⟨by decide,?_⟩|apply τt|apply τf))
      refine aop_tells rfl rfl hrr ⟨AVle.refl _, AVle.refl _, trivial⟩ fun nx8 => ?_
      (repeat((conv=>whnf);first|apply ω0|apply ω1|apply ω2|refine τ3 rfl ?_|refine τ4 rfl ?_|refine ⟨rfl,?_⟩|apply τa|refine τb rfl ?_|refine ⟨⟨by kernel_rfl,by kernel_rfl⟩,?_⟩|refine ⟨by decide,?_⟩|apply τt|apply τf))
      refine aop_tells rfl rfl htd ⟨AVle.refl _, trivial⟩ fun nx9 => ?_
      (repeat((conv=>whnf);first|apply ω0|apply ω1|apply ω2|refine τ3 rfl ?_|refine τ4 rfl ?_|refine ⟨rfl,?_⟩|apply τa|refine τb rfl ?_|refine ⟨⟨by kernel_rfl,by kernel_rfl⟩,?_⟩|refine ⟨by decide,?_⟩|apply τt|apply τf))
      intro A2 hA2
      obtain rfl : A2 = A1 := hA2
      (repeat((conv=>whnf);first|apply ω0|apply ω2|refine τ3 rfl ?_|refine τ4 rfl ?_|refine ⟨rfl,?_⟩|apply τa|refine τb rfl ?_|refine ⟨⟨by kernel_rfl,by kernel_rfl⟩,?_⟩|refine ⟨by decide,?_⟩|apply τt|apply τf))
      refine aw_reset (bx := []) (pm := []) (nx := nx9) (nn := 0) (df := some []) (L := [(0, inss l), (4, bools o), (5, inss p), (6, int G), (7, slOf 1 (fun n : Nat => AV.v (.int .u32 (n : Int))) 0 T1), (8, .v (.bool A2)), (9, slOf 1 (fun n : Nat => AV.v (.int .i64 (n : Int))) 0 T2), (12, bools o), (13, ints T1), (14, .v (.bool A2)), (15, ints T2)]) rfl rfl rfl (List.nil_sublist _) (List.nil_sublist _) ⟨AVle.refl _, AVle.refl _, AVle.refl _, AVle.refl _, AVle.refl _, AVle.refl _, AVle.refl _, AVle.refl _, AVle.refl _, AVle.refl _, AVle.refl _, trivial⟩ ?_
      clear hen htd hcr hlg hlo hpr hrr hre
      (repeat((conv=>whnf);first|apply ω0|apply ω1|apply ω2|refine τ3 rfl ?_|refine τ4 rfl ?_|refine ⟨rfl,?_⟩|apply τa|refine τb rfl ?_|refine ⟨⟨by kernel_rfl,by kernel_rfl⟩,?_⟩|refine ⟨by decide,?_⟩|apply τt|apply τf))
      (intro c hc; (first | (rw [bne_self_eq_false] at hc; subst hc) | (obtain rfl : c = false := hc.trans (bne_self_eq_false _))); (repeat((conv=>whnf);first|apply ω0|apply ω1|apply ω2|refine τ3 rfl ?_|refine τ4 rfl ?_|refine ⟨rfl,?_⟩|apply τa|refine τb rfl ?_|refine ⟨⟨by kernel_rfl,by kernel_rfl⟩,?_⟩|refine ⟨by decide,?_⟩|apply τt|apply τf)))
      refine aop_tells rfl rfl hpR ⟨AVle.refl _, trivial⟩ fun nx10 => ?_
      (repeat((conv=>whnf);first|apply ω0|apply ω1|apply ω2|refine τ3 rfl ?_|refine τ4 rfl ?_|refine ⟨rfl,?_⟩|apply τa|refine τb rfl ?_|refine ⟨⟨by kernel_rfl,by kernel_rfl⟩,?_⟩|refine ⟨by decide,?_⟩|apply τt|apply τf))
      refine aop_tells rfl rfl hsm ⟨AVle.refl _, AVle.refl _, trivial⟩ fun nx11 => ?_
      (repeat((conv=>whnf);first|apply ω0|apply ω1|apply ω2|refine τ3 rfl ?_|refine τ4 rfl ?_|refine ⟨rfl,?_⟩|apply τa|refine τb rfl ?_|refine ⟨⟨by kernel_rfl,by kernel_rfl⟩,?_⟩|refine ⟨by decide,?_⟩|apply τt|apply τf))
      refine aop_tells rfl rfl hlR ⟨AVle.refl _, trivial⟩ fun nx12 => ?_
      (repeat((conv=>whnf);first|apply ω0|apply ω1|apply ω2|refine τ3 rfl ?_|refine τ4 rfl ?_|refine ⟨rfl,?_⟩|apply τa|refine τb rfl ?_|refine ⟨⟨by kernel_rfl,by kernel_rfl⟩,?_⟩|refine ⟨by decide,?_⟩|apply τt|apply τf))
      (intro c hc; (first | (rw [bne_self_eq_false] at hc; subst hc) | (obtain rfl : c = false := hc.trans (bne_self_eq_false _))); (repeat((conv=>whnf);first|apply ω0|apply ω1|apply ω2|refine τ3 rfl ?_|refine τ4 rfl ?_|refine ⟨rfl,?_⟩|apply τa|refine τb rfl ?_|refine ⟨⟨by kernel_rfl,by kernel_rfl⟩,?_⟩|refine ⟨by decide,?_⟩|apply τt|apply τf)))
      intro A3 hA3
      have hA4 : A3 = false := by rw [hA3]; cases A2 <;> rfl
      clear hA3
      subst hA4
      (repeat((conv=>whnf);first|apply ω0|apply ω1|apply ω2|refine τ3 rfl ?_|refine τ4 rfl ?_|refine ⟨rfl,?_⟩|apply τa|refine τb rfl ?_|refine ⟨⟨by kernel_rfl,by kernel_rfl⟩,?_⟩|refine ⟨by decide,?_⟩|apply τt|apply τf))
      (intro c hc; (first | (rw [bne_self_eq_false] at hc; subst hc) | (obtain rfl : c = false := hc.trans (bne_self_eq_false _))); (repeat((conv=>whnf);first|apply ω0|apply ω1|apply ω2|refine τ3 rfl ?_|refine τ4 rfl ?_|refine ⟨rfl,?_⟩|apply τa|refine τb rfl ?_|refine ⟨⟨by kernel_rfl,by kernel_rfl⟩,?_⟩|refine ⟨by decide,?_⟩|apply τt|apply τf)))
      (intro c hc; (first | (rw [bne_self_eq_false] at hc; subst hc) | (obtain rfl : c = false := hc.trans (bne_self_eq_false _))); (repeat((conv=>whnf);first|apply ω0|apply ω1|apply ω2|refine τ3 rfl ?_|refine τ4 rfl ?_|refine ⟨rfl,?_⟩|apply τa|refine τb rfl ?_|refine ⟨⟨by kernel_rfl,by kernel_rfl⟩,?_⟩|refine ⟨by decide,?_⟩|apply τt|apply τf)))
      refine aw_midB (fun y : Nat => mk 165 [(4, bools o), (7, slOf 1 (fun n : Nat => AV.v (.int .u32 (n : Int))) 0 T1), (9, slOf 1 (fun n : Nat => AV.v (.int .i64 (n : Int))) 0 T2), (12, bools o), (13, ints T1), (15, ints T2)] ⟨[], [], y, 0⟩) (fun _ => True) ?_ ?_
      · refine aw_loop (fun s : Nat × Nat => mk 165 [(4, bools o), (7, slOf 1 (fun n : Nat => AV.v (.int .u32 (n : Int))) 0 T1), (9, slOf 1 (fun n : Nat => AV.v (.int .i64 (n : Int))) 0 T2), (12, bools o), (13, ints T1), (15, ints T2), (16, int s.1)] ⟨[], [], s.2, 0⟩) (fun s => s.1 ≤ o.length) (fun s => o.length - s.1) ?_ ?_
        · exact ⟨(0, _), Nat.zero_le _, ele_keep rfl rfl (List.nil_sublist _) (List.nil_sublist _) ⟨AVle.refl _, AVle.refl _, AVle.refl _, AVle.refl _, AVle.refl _, AVle.refl _, AVle.refl _, trivial⟩⟩
        · rintro ⟨i, nx'⟩ h4
          dsimp only at h4
          (repeat((conv=>whnf);first|apply ω0|apply ω1|apply ω2|refine τ3 rfl ?_|refine τ4 rfl ?_|refine ⟨rfl,?_⟩|apply τa|refine τb rfl ?_|refine ⟨⟨by kernel_rfl,by kernel_rfl⟩,?_⟩|refine ⟨by decide,?_⟩|apply τt|apply τf))
          intro c h5; cases c
          · (repeat((conv=>whnf);first|apply ω0|apply ω1|apply ω2|refine τ3 rfl ?_|refine τ4 rfl ?_|refine ⟨rfl,?_⟩|apply τa|refine τb rfl ?_|refine ⟨⟨by kernel_rfl,by kernel_rfl⟩,?_⟩|refine ⟨by decide,?_⟩|apply τt|apply τf))
            exact ⟨nx', trivial, ele_keep rfl rfl (List.nil_sublist _) (List.nil_sublist _) ⟨AVle.refl _, AVle.refl _, AVle.refl _, AVle.refl _, AVle.refl _, AVle.refl _, trivial⟩⟩
          · have h5 := yes_of h5
            dsimp only at h5
            (repeat((conv=>whnf);first|apply ω0|apply ω1|apply ω2|refine τ3 rfl ?_|refine τ4 rfl ?_|refine ⟨rfl,?_⟩|apply τa|refine τb rfl ?_|refine ⟨⟨by kernel_rfl,by kernel_rfl⟩,?_⟩|refine ⟨by decide,?_⟩|apply τt|apply τf))
            (refine aw_draw 9 ?_ ?_ ?_ ?_; (· kernel_rfl); (· kernel_rfl); (· kernel_rfl))
            (repeat((conv=>whnf);first|apply ω0|apply ω1|apply ω2|refine τ3 rfl ?_|refine τ4 rfl ?_|refine ⟨rfl,?_⟩|apply τa|refine τb rfl ?_|refine ⟨⟨by kernel_rfl,by kernel_rfl⟩,?_⟩|refine ⟨by decide,?_⟩|apply τt|apply τf))
            refine ⟨⟨by first | omega | (dsimp only; omega), by first | omega | (dsimp only; omega)⟩, ?_⟩
            (repeat((conv=>whnf);first|apply ω0|apply ω1|apply ω2|refine τ3 rfl ?_|refine τ4 rfl ?_|refine ⟨rfl,?_⟩|apply τa|refine τb rfl ?_|refine ⟨⟨by kernel_rfl,by kernel_rfl⟩,?_⟩|refine ⟨by decide,?_⟩|apply τt|apply τf))
            intro b1 hb1
            (repeat((conv=>whnf);first|apply ω0|apply ω1|apply ω2|refine τ3 rfl ?_|refine τ4 rfl ?_|refine ⟨rfl,?_⟩|apply τa|refine τb rfl ?_|refine ⟨⟨by kernel_rfl,by kernel_rfl⟩,?_⟩|refine ⟨by decide,?_⟩|apply τt|apply τf))
            refine ⟨⟨by first | omega | (dsimp only; omega), by first | omega | (dsimp only; omega)⟩, ?_⟩
            (repeat((conv=>whnf);first|apply ω0|apply ω1|apply ω2|refine τ3 rfl ?_|refine τ4 rfl ?_|refine ⟨rfl,?_⟩|apply τa|refine τb rfl ?_|refine ⟨⟨by kernel_rfl,by kernel_rfl⟩,?_⟩|refine ⟨by decide,?_⟩|apply τt|apply τf))
            intro b2 hb2
            have hb3 : b2 = b1 := hb2.trans hb1.symm
            clear hb2
            subst hb3
            (repeat((conv=>whnf);first|apply ω0|apply ω1|apply ω2|refine τ3 rfl ?_|refine τ4 rfl ?_|refine ⟨rfl,?_⟩|apply τa|refine τb rfl ?_|refine ⟨⟨by kernel_rfl,by kernel_rfl⟩,?_⟩|refine ⟨by decide,?_⟩|apply τt|apply τf))
            (intro c hc; (first | (rw [bne_self_eq_false] at hc; subst hc) | (obtain rfl : c = false := hc.trans (bne_self_eq_false _))); (repeat((conv=>whnf);first|apply ω0|apply ω1|apply ω2|refine τ3 rfl ?_|refine τ4 rfl ?_|refine ⟨rfl,?_⟩|apply τa|refine τb rfl ?_|refine ⟨⟨by kernel_rfl,by kernel_rfl⟩,?_⟩|refine ⟨by decide,?_⟩|apply τt|apply τf)))
            exact back (i + 1, nx') (by first | omega | (dsimp only; omega)) (by first | omega | (dsimp only; omega)) (ele_keep rfl rfl (List.nil_sublist _) (List.nil_sublist _) ⟨AVle.refl _, AVle.refl _, AVle.refl _, AVle.refl _, AVle.refl _, AVle.refl _, le_int (wrap_succ (by first | omega | (dsimp only; omega))), trivial⟩)
      · intro nx13 _
        (repeat((conv=>whnf);first|apply ω0|apply ω1|apply ω2|refine τ3 rfl ?_|refine τ4 rfl ?_|refine ⟨rfl,?_⟩|apply τa|refine τb rfl ?_|refine ⟨⟨by kernel_rfl,by kernel_rfl⟩,?_⟩|refine ⟨by decide,?_⟩|apply τt|apply τf))
        refine aw_midB (fun y : Nat => mk 165 [(4, bools o), (7, slOf 1 (fun n : Nat => AV.v (.int .u32 (n : Int))) 0 T1), (9, slOf 1 (fun n : Nat => AV.v (.int .i64 (n : Int))) 0 T2), (12, bools o), (13, ints T1), (15, ints T2)] ⟨[], [], y, 0⟩) (fun _ => True) ?_ ?_
        · refine aw_loop (fun s : Nat × Nat => mk 165 [(4, bools o), (7, slOf 1 (fun n : Nat => AV.v (.int .u32 (n : Int))) 0 T1), (9, slOf 1 (fun n : Nat => AV.v (.int .i64 (n : Int))) 0 T2), (12, bools o), (13, ints T1), (15, ints T2), (17, int s.1)] ⟨[], [], s.2, 0⟩) (fun s => s.1 ≤ T1.length) (fun s => T1.length - s.1) ?_ ?_
          · exact ⟨(0, _), Nat.zero_le _, ele_keep rfl rfl (List.nil_sublist _) (List.nil_sublist _) ⟨AVle.refl _, AVle.refl _, AVle.refl _, AVle.refl _, AVle.refl _, AVle.refl _, AVle.refl _, trivial⟩⟩
          · rintro ⟨i, nx'⟩ h4
            dsimp only at h4
            (repeat((conv=>whnf);first|apply ω0|apply ω1|apply ω2|refine τ3 rfl ?_|refine τ4 rfl ?_|refine ⟨rfl,?_⟩|apply τa|refine τb rfl ?_|refine ⟨⟨by kernel_rfl,by kernel_rfl⟩,?_⟩|refine ⟨by decide,?_⟩|apply τt|apply τf))
            intro c h5; cases c
            · (repeat((conv=>whnf);first|apply ω0|apply ω1|apply ω2|refine τ3 rfl ?_|refine τ4 rfl ?_|refine ⟨rfl,?_⟩|apply τa|refine τb rfl ?_|refine ⟨⟨by kernel_rfl,by kernel_rfl⟩,?_⟩|refine ⟨by decide,?_⟩|apply τt|apply τf))
              exact ⟨nx', trivial, ele_keep rfl rfl (List.nil_sublist _) (List.nil_sublist _) ⟨AVle.refl _, AVle.refl _, AVle.refl _, AVle.refl _, AVle.refl _, AVle.refl _, trivial⟩⟩
            · have h5 := yes_of h5
              dsimp only at h5
              have hm := hm1 i (by omega)
              have hw : IntKind.i64.wrap ((T1.getD i 0 : Nat) : Int) = ((T1.getD i 0 : Nat) : Int) := wrap_id (by omega) (by omega)
              (repeat((conv=>whnf);first|apply ω0|apply ω1|apply ω2|refine τ3 rfl ?_|refine τ4 rfl ?_|refine ⟨rfl,?_⟩|apply τa|refine τb rfl ?_|refine ⟨⟨by kernel_rfl,by kernel_rfl⟩,?_⟩|refine ⟨by decide,?_⟩|apply τt|apply τf))
              (refine aw_draw 10 ?_ ?_ ?_ ?_; (· kernel_rfl); (· kernel_rfl); (· kernel_rfl))
              (repeat((conv=>whnf);first|apply ω0|apply ω1|apply ω2|refine τ3 rfl ?_|refine τ4 rfl ?_|refine ⟨rfl,?_⟩|apply τa|refine τb rfl ?_|refine ⟨⟨by kernel_rfl,by kernel_rfl⟩,?_⟩|refine ⟨by decide,?_⟩|apply τt|apply τf))
              refine ⟨⟨by first | omega | (dsimp only; omega), by first | omega | (dsimp only; omega)⟩, ?_⟩
              (repeat((conv=>whnf);first|apply ω0|apply ω1|apply ω2|refine τ3 rfl ?_|refine τ4 rfl ?_|refine ⟨rfl,?_⟩|apply τa|refine τb rfl ?_|refine ⟨⟨by kernel_rfl,by kernel_rfl⟩,?_⟩|refine ⟨by decide,?_⟩|apply τt|apply τf))
              refine ⟨⟨by first | omega | (dsimp only; omega), by first | omega | (dsimp only; omega)⟩, ?_⟩
              (repeat((conv=>whnf);first|apply ω0|apply ω1|apply ω2|refine τ3 rfl ?_|refine τ4 rfl ?_|refine ⟨rfl,?_⟩|apply τa|refine τb rfl ?_|refine ⟨⟨by kernel_rfl,by kernel_rfl⟩,?_⟩|refine ⟨by decide,?_⟩|apply τt|apply τf))
              intro c hc
              replace hc : c = (IntKind.i64.wrap ((T1.getD i 0 : Nat) : Int) != ((T1.getD i 0 : Nat) : Int)) := hc
              rw [hw, bne_self_eq_false] at hc
              subst hc
              (repeat((conv=>whnf);first|apply ω0|apply ω1|apply ω2|refine τ3 rfl ?_|refine τ4 rfl ?_|refine ⟨rfl,?_⟩|apply τa|refine τb rfl ?_|refine ⟨⟨by kernel_rfl,by kernel_rfl⟩,?_⟩|refine ⟨by decide,?_⟩|apply τt|apply τf))
              exact back (i + 1, nx') (by first | omega | (dsimp only; omega)) (by first | omega | (dsimp only; omega)) (ele_keep rfl rfl (List.nil_sublist _) (List.nil_sublist _) ⟨AVle.refl _, AVle.refl _, AVle.refl _, AVle.refl _, AVle.refl _, AVle.refl _, le_int (wrap_succ (by first | omega | (dsimp only; omega))), trivial⟩)
        · intro nx14 _
          (repeat((conv=>whnf);first|apply ω0|apply ω1|apply ω2|refine τ3 rfl ?_|refine τ4 rfl ?_|refine ⟨rfl,?_⟩|apply τa|refine τb rfl ?_|refine ⟨⟨by kernel_rfl,by kernel_rfl⟩,?_⟩|refine ⟨by decide,?_⟩|apply τt|apply τf))
          refine aw_loop (fun s : Nat × Nat => mk 165 [(4, bools o), (7, slOf 1 (fun n : Nat => AV.v (.int .u32 (n : Int))) 0 T1), (9, slOf 1 (fun n : Nat => AV.v (.int .i64 (n : Int))) 0 T2), (12, bools o), (13, ints T1), (15, ints T2), (18, int s.1)] ⟨[], [], s.2, 0⟩) (fun s => s.1 ≤ T2.length) (fun s => T2.length - s.1) ?_ ?_
          · exact ⟨(0, _), Nat.zero_le _, ele_keep rfl rfl (List.nil_sublist _) (List.nil_sublist _) ⟨AVle.refl _, AVle.refl _, AVle.refl _, AVle.refl _, AVle.refl _, AVle.refl _, AVle.refl _, trivial⟩⟩
          · rintro ⟨i, nx'⟩ h4
            dsimp only at h4
            (repeat((conv=>whnf);first|apply ω0|apply ω1|apply ω2|refine τ3 rfl ?_|refine τ4 rfl ?_|refine ⟨rfl,?_⟩|apply τa|refine τb rfl ?_|refine ⟨⟨by kernel_rfl,by kernel_rfl⟩,?_⟩|refine ⟨by decide,?_⟩|apply τt|apply τf))
            intro c h5; cases c
            · (repeat((conv=>whnf);first|apply ω0|apply ω1|apply ω2|refine τ3 rfl ?_|refine τ4 rfl ?_|refine ⟨rfl,?_⟩|apply τa|refine τb rfl ?_|refine ⟨⟨by kernel_rfl,by kernel_rfl⟩,?_⟩|refine ⟨by decide,?_⟩|apply τt|apply τf))
              refine aop_tells rfl rfl haw trivial fun nx15 => ?_
              (repeat((conv=>whnf);first|apply ω0|apply ω1|apply ω2|refine τ3 rfl ?_|refine τ4 rfl ?_|refine ⟨rfl,?_⟩|apply τa|refine τb rfl ?_|refine ⟨⟨by kernel_rfl,by kernel_rfl⟩,?_⟩|refine ⟨by decide,?_⟩|apply τt|apply τf))
              refine ret_all rfl trivial rfl
            · have h5 := yes_of h5
              dsimp only at h5
              (repeat((conv=>whnf);first|apply ω0|apply ω1|apply ω2|refine τ3 rfl ?_|refine τ4 rfl ?_|refine ⟨rfl,?_⟩|apply τa|refine τb rfl ?_|refine ⟨⟨by kernel_rfl,by kernel_rfl⟩,?_⟩|refine ⟨by decide,?_⟩|apply τt|apply τf))
              (refine aw_draw 9 ?_ ?_ ?_ ?_; (· kernel_rfl); (· kernel_rfl); (· kernel_rfl))
              (repeat((conv=>whnf);first|apply ω0|apply ω1|apply ω2|refine τ3 rfl ?_|refine τ4 rfl ?_|refine ⟨rfl,?_⟩|apply τa|refine τb rfl ?_|refine ⟨⟨by kernel_rfl,by kernel_rfl⟩,?_⟩|refine ⟨by decide,?_⟩|apply τt|apply τf))
              refine ⟨⟨by first | omega | (dsimp only; omega), by first | omega | (dsimp only; omega)⟩, ?_⟩
              (repeat((conv=>whnf);first|apply ω0|apply ω1|apply ω2|refine τ3 rfl ?_|refine τ4 rfl ?_|refine ⟨rfl,?_⟩|apply τa|refine τb rfl ?_|refine ⟨⟨by kernel_rfl,by kernel_rfl⟩,?_⟩|refine ⟨by decide,?_⟩|apply τt|apply τf))
              refine ⟨⟨by first | omega | (dsimp only; omega), by first | omega | (dsimp only; omega)⟩, ?_⟩
              (repeat((conv=>whnf);first|apply ω0|apply ω1|apply ω2|refine τ3 rfl ?_|refine τ4 rfl ?_|refine ⟨rfl,?_⟩|apply τa|refine τb rfl ?_|refine ⟨⟨by kernel_rfl,by kernel_rfl⟩,?_⟩|refine ⟨by decide,?_⟩|apply τt|apply τf))
              (intro c hc; (first | (rw [bne_self_eq_false] at hc; subst hc) | (obtain rfl : c = false := hc.trans (bne_self_eq_false _))); (repeat((conv=>whnf);first|apply ω0|apply ω1|apply ω2|refine τ3 rfl ?_|refine τ4 rfl ?_|refine ⟨rfl,?_⟩|apply τa|refine τb rfl ?_|refine ⟨⟨by kernel_rfl,by kernel_rfl⟩,?_⟩|refine ⟨by decide,?_⟩|apply τt|apply τf)))
              exact back (i + 1, nx') (by first | omega | (dsimp only; omega)) (by first | omega | (dsimp only; omega)) (ele_keep rfl rfl (List.nil_sublist _) (List.nil_sublist _) ⟨AVle.refl _, AVle.refl _, AVle.refl _, AVle.refl _, AVle.refl _, AVle.refl _, le_int (wrap_succ (by first | omega | (dsimp only; omega))), trivial⟩)
    · have hro : reachedOf l = [] := by unfold reachedOf; rw [if_neg (fun h => hR (check_iff.1 h))]
      have hck : ¬ (checkI l).2 = 0 := fun h => hR (check_iff.1 h)
      have e0 : sortBy Go.Sort.ltInt ([].map Int.ofNat) = [] := List.eq_nil_of_length_eq_zero sortBy_length
      have e1 : endsI l = [] := by unfold endsI; rw [hro]; exact e0
      have e2 : loadsI l = [] := by unfold loadsI; rw [hro]; exact e0
      have e3 : metA l (reachedOf l).length = false := by rw [hro]; rfl
      rw [e1, e3] at hen
      rw [e2] at hlo
      rw [hro] at hre
      rw [if_neg hck] at hlg
      rw [prune_nil hR] at hpr
      clear e0 e1 e2 e3 hro
      generalize (checkI l).1 = c1 at *
      generalize (checkI l).2 = c2 at *
      (repeat((conv=>whnf);first|apply ω0|apply ω1|apply ω2|refine τ3 rfl ?_|refine τ4 rfl ?_|refine ⟨rfl,?_⟩|apply τa|refine τb rfl ?_|refine ⟨⟨by kernel_rfl,by kernel_rfl⟩,?_⟩|refine ⟨by decide,?_⟩|apply τt|apply τf))
      refine aop_tells rfl rfl hre ⟨AVle.refl _, trivial⟩ fun nx2 => ?_
      (repeat((conv=>whnf);first|apply ω0|apply ω1|apply ω2|refine τ3 rfl ?_|refine τ4 rfl ?_|refine ⟨rfl,?_⟩|apply τa|refine τb rfl ?_|refine ⟨⟨by kernel_rfl,by kernel_rfl⟩,?_⟩|refine ⟨by decide,?_⟩|apply τt|apply τf))
      refine aop_tells rfl rfl hpr ⟨AVle.refl _, trivial⟩ fun nx3 => ?_
      (repeat((conv=>whnf);first|apply ω0|apply ω1|apply ω2|refine τ3 rfl ?_|refine τ4 rfl ?_|refine ⟨rfl,?_⟩|apply τa|refine τb rfl ?_|refine ⟨⟨by kernel_rfl,by kernel_rfl⟩,?_⟩|refine ⟨by decide,?_⟩|apply τt|apply τf))
      refine aop_tells rfl rfl hlg ⟨AVle.refl _, trivial⟩ fun nx4 => ?_
      (repeat((conv=>whnf);first|apply ω0|apply ω1|apply ω2|refine τ3 rfl ?_|refine τ4 rfl ?_|refine ⟨rfl,?_⟩|apply τa|refine τb rfl ?_|refine ⟨⟨by kernel_rfl,by kernel_rfl⟩,?_⟩|refine ⟨by decide,?_⟩|apply τt|apply τf))
      refine aop_tells rfl rfl hen ⟨AVle.refl _, trivial⟩ fun nx5 => ?_
      (repeat((conv=>whnf);first|apply ω0|apply ω1|apply ω2|refine τ3 rfl ?_|refine τ4 rfl ?_|refine ⟨rfl,?_⟩|apply τa|refine τb rfl ?_|refine ⟨⟨by kernel_rfl,by kernel_rfl⟩,?_⟩|refine ⟨by decide,?_⟩|apply τt|apply τf))
      refine aop_tells rfl rfl hlo ⟨AVle.refl _, trivial⟩ fun nx6 => ?_
      (repeat((conv=>whnf);first|apply ω0|apply ω1|apply ω2|refine τ3 rfl ?_|refine τ4 rfl ?_|refine ⟨rfl,?_⟩|apply τa|refine τb rfl ?_|refine ⟨⟨by kernel_rfl,by kernel_rfl⟩,?_⟩|refine ⟨by decide,?_⟩|apply τt|apply τf))
      refine aop_tells rfl rfl hcr ⟨AVle.refl _, trivial⟩ fun nx7 => ?_
      (repeat((conv=>whnf);first|apply ω0|apply ω1|apply ω2|refine τ3 rfl ?_|refine τ4 rfl ?_|refine ⟨rfl,?_⟩|apply τa|refine τb rfl ?_|refine ⟨⟨by kernel_rfl,by kernel_rfl⟩,?_⟩|refine ⟨by decide,?_⟩|apply τt|apply τf))
      intro c g; cases c
      · exfalso
        have := bne_no g
        exact hck (by omega)
      · (repeat((conv=>whnf);first|apply ω0|apply ω1|apply ω2|refine τ3 rfl ?_|refine τ4 rfl ?_|refine ⟨rfl,?_⟩|apply τa|refine τb rfl ?_|refine ⟨⟨by kernel_rfl,by kernel_rfl⟩,?_⟩|refine ⟨by decide,?_⟩|apply τt|apply τf))
        refine aop_tells rfl rfl haw trivial fun nx15 => ?_
        (repeat((conv=>whnf);first|apply ω0|apply ω1|apply ω2|refine τ3 rfl ?_|refine τ4 rfl ?_|refine ⟨rfl,?_⟩|apply τa|refine τb rfl ?_|refine ⟨⟨by kernel_rfl,by kernel_rfl⟩,?_⟩|refine ⟨by decide,?_⟩|apply τt|apply τf))
        refine ret_all rfl trivial rfl
  · (repeat((conv=>whnf);first|apply ω0|apply ω1|apply ω2|refine τ3 rfl ?_|refine τ4 rfl ?_|refine ⟨rfl,?_⟩|apply τa|refine τb rfl ?_|refine ⟨⟨by kernel_rfl,by kernel_rfl⟩,?_⟩|refine ⟨by decide,?_⟩|apply τt|apply τf))
    refine ret_all rfl trivial rfl
end Go.Proofs.W
