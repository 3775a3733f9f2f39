import Derived.Test.YtbmbjpphmgnmnaaDoorD
import Derived.Test.YtbmbjpphmgnmnaaDoorC
import Derived.Lib.Strings
set_option linter.unusedVariables false
set_option linter.unusedSimpArgs false
namespace Go.Proofs.W
open Go.Vl
set_option maxRecDepth 100000

/-- Conditions joined, none twice. -/
def joinC (a b : List Cnd) : List Cnd := b.foldl (fun l c => if c ∈ l then l else l ++ [c]) a
def pairR (a b : Rul) : Rul := ⟨a.name, bothA a.act b.act, joinC a.conds b.conds⟩
theorem splitV_eq {a b : AV} {K : AV → Prop} (h : a = b) (hk : splitV b K) : splitV a K := h ▸ hk
def rcs (s : ByteArray) (k n : Int) (cs : List Cnd) : List AV := [strA s, int k, int n, cnds cs]
theorem pmEq_nm {oi : Option Nat} {a m : Nat} : PmEq (pmOf (nmN a oi) m) (pmOf (nmd oi) m) := by cases oi <;> exact (by first | trivial | exact ⟨rfl, rfl, trivial⟩)
theorem os_nmd {oi : Option Nat} {a sz m : Nat} {f : Nat → AV} : AVle (.os sz m f (nmN a oi)) (.os sz m f (nmd oi)) := by
  cases oi
  · exact AVle.refl _
  · exact AVle.os_nm rfl
theorem join_le (l : List Cnd) : ∀ ds : List Cnd, (joinC l ds).length ≤ l.length + ds.length := by
  intro ds
  unfold joinC
  induction ds generalizing l with
  | nil => simp
  | cons d ds ih =>
    rw [List.foldl_cons]
    have := ih (if d ∈ l then l else l ++ [d])
    have : (if d ∈ l then l else l ++ [d]).length ≤ l.length + 1 := by split <;> simp
    simp only [List.length_cons]
    omega
theorem join_snoc (l ds : List Cnd) (c : Cnd) : joinC l (ds ++ [c]) = if c ∈ joinC l ds then joinC l ds else joinC l ds ++ [c] := by
  unfold joinC; rw [List.foldl_append]; rfl
theorem le_cat {L : List Cnd} {c : Cnd} {f' : Nat → AV} {i j : Vl.Id} (hf : f' 0 = cndA c := by rfl) (h : i.2 = j.2 := by rfl) : AVle (.os 4 (L.length + 1) (appF L.length (cndF L) f') (some i)) (.os 4 (L ++ [c]).length (cndF (L ++ [c])) (some j)) := by
  rw [List.length_append]
  refine (AVle.os_fun (appF_one (fun k hk => ?_) ?_)).trans (AVle.os_nm h)
  · simp [cndF, List.getD, List.getElem?_append_left hk, hk]
  · rw [hf]; simp [cndF, List.getD]
def prB (nx sb : Nat) (s : ByteArray) (ka na : Int) (Z : List AV) (s2 : ByteArray) (k2 n2 : Int) (ds L : List Cnd) (oi : Option Nat) : List (Vl.Id × Own) :=
  [((3, sb), .c [strA s, int ka, int na, .os 4 L.length (cndF L) (nmd oi)]), ((2, nx + 2), .c Z), ((1, nx + 1), .c (rcs s2 k2 n2 ds))]
set_option maxHeartbeats 4000000 in
theorem pair25_spec (a b : Rul) (ha : a.conds.length ≤ 1000) (hb : b.conds.length ≤ 1000) : Tells Tryd.prog 34 [rulA a, rulA b] (rulA (pairR a b)) := by
  obtain ⟨s, ⟨k, n⟩, cs⟩ := a
  obtain ⟨s2, ⟨k2, n2⟩, ds⟩ := b
  dsimp only at ha hb
  have hjl := join_le cs
  refine tells_of_aw Tryd.func34 rfl rfl fun nx => ?_
  have hboth := both25_spec (k, n) (k2, n2)
  (repeat((conv=>whnf);first|apply ω0|apply ω2|refine τ3 rfl ?_|refine τ4 rfl ?_|refine ⟨rfl,?_⟩|apply τa|refine τb rfl ?_|refine ⟨⟨by kernel_rfl,by kernel_rfl⟩,?_⟩|refine ⟨by decide,?_⟩|apply τt|apply τf))
  refine aw_region ?_
  (repeat((conv=>whnf);first|apply ω0|apply ω2|refine τ3 rfl ?_|refine τ4 rfl ?_|refine ⟨rfl,?_⟩|apply τa|refine τb rfl ?_|refine ⟨⟨by kernel_rfl,by kernel_rfl⟩,?_⟩|refine ⟨by decide,?_⟩|apply τt|apply τf))
  refine AW.le (E' := mk 39 [(2, .bp (0, nx) 0), (3, .bp (1, nx + 1) 0), (4, .bp (2, nx + 2) 0)] ⟨[((2, nx + 2), .c [strA ⟨#[]⟩, int 0, int 0, .os 0 0 (fun _ => .any) none]), ((1, nx + 1), .c (rcs s2 k2 n2 ds)), ((0, nx), .c (rcs s k n cs))], [], nx + 3, 3⟩) (ele_tell _ _ rfl rfl (List.Sublist.refl _) .slnil (BxLe.refl _) trivial ⟨AVle.refl _, AVle.refl _, AVle.refl _, trivial⟩) ?_
  unfold pairR
  dsimp only
  generalize hbo : bothA (k, n) (k2, n2) = ab at hboth ⊢
  obtain ⟨ka, na⟩ := ab
  generalize hZ : [strA ⟨#[]⟩, int 0, int 0, AV.os 0 0 (fun _ => .any) none] = Z
  refine aw_mid (fun y : Nat × Option Nat × Nat => mk 39 [(3, .bp (1, nx + 1) 0), (4, .bp (2, nx + 2) 0), (5, .bp (3, y.1) 0)] ⟨prB nx y.1 s ka na Z s2 k2 n2 ds cs y.2.1, pmOf (nmd y.2.1) (cs.length * 4), y.2.2, 5⟩) (fun y => y.2.1 = none → cs = []) ?_ ?_
  · subst hZ
    refine aw_mix2 12 _ (fun i => match i with | 9 => true | 11 => true | _ => false) (fun i => match i with | 6 => true | _ => false) [0, 1, 2, 3, 4, 5, 6, 7, 8] 11 9 [10] (by kernel_rfl) (by kernel_rfl) (HB.refl _) ?_
    (repeat((conv=>whnf);first|apply ω0|apply ω1|apply ω2|refine τ3 rfl ?_|refine τ4 rfl ?_|refine ⟨rfl,?_⟩|apply τa|refine τb rfl ?_|refine ⟨⟨by kernel_rfl,by kernel_rfl⟩,?_⟩|refine ⟨by decide,?_⟩|apply τt|apply τf))
    refine ⟨_, pure_tells rfl rfl rfl hboth ⟨AVle.refl _, AVle.refl _, trivial⟩ (NoId.ag (by intro y hy; simp at hy; rcases hy with rfl | rfl <;> exact NoId.v _)), ?_⟩
    (repeat((conv=>whnf);first|apply ω0|apply ω1|apply ω2|refine τ3 rfl ?_|refine τ4 rfl ?_|refine ⟨rfl,?_⟩|apply τa|refine τb rfl ?_|refine ⟨⟨by kernel_rfl,by kernel_rfl⟩,?_⟩|refine ⟨by decide,?_⟩|apply τt|apply τf))
    refine splitV_eq (b := cnds cs) rfl ?_
    (conv => whnf)
    refine ⟨?_, ?_⟩
    · refine ⟨_, eff_alloc rfl rfl rfl (HB.cons rfl (HB.cons rfl (HB.one rfl))), fun r h' hr => ?_⟩
      obtain ⟨rfl, rfl⟩ := hr
      (conv => whnf)
      refine ⟨_, eff_clonec 4 cs (by omega) (HB.cons rfl (HB.cons rfl (HB.one rfl))) rfl rfl rfl ⟨AVle.refl _, trivial⟩, fun r h' hr => ?_⟩
      obtain ⟨oi, nx2, hoi, rfl, rfl⟩ := hr
      (repeat((conv=>whnf);first|apply ω0|apply ω1|apply ω2|refine τ3 rfl ?_|refine τ4 rfl ?_|refine ⟨rfl,?_⟩|apply τa|refine τb rfl ?_|refine ⟨⟨by kernel_rfl,by kernel_rfl⟩,?_⟩|refine ⟨by decide,?_⟩|apply τt|apply τf))
      exact ⟨(nx + 3, oi, nx2), hoi, ele_tell (bx := prB nx (nx + 3) s ka na [strA ⟨#[]⟩, int 0, int 0, AV.os 0 0 (fun _ => .any) none] s2 k2 n2 ds cs oi) _ (pmOf (nmN 4 oi) (cs.length * 4) ++ []) rfl rfl (.cons_cons _ (.cons_cons _ (.cons_cons _ (List.nil_sublist _)))) (List.Sublist.refl _) ⟨rfl, ⟨AVle.refl _, AVle.refl _, AVle.refl _, os_nmd, trivial⟩, rfl, OwnLe.refl _, rfl, OwnLe.refl _, trivial⟩ (by rw [List.append_nil]; exact pmEq_nm) ⟨AVle.refl _, AVle.refl _, AVle.refl _, trivial⟩⟩
    · refine ⟨_, eff_clonec 3 cs (by omega) (HB.refl _) rfl rfl rfl ⟨AVle.refl _, trivial⟩, fun r h' hr => ?_⟩
      obtain ⟨oi, nx2, hoi, rfl, rfl⟩ := hr
      (conv => whnf)
      refine ⟨_, eff_alloc rfl rfl rfl (HB.cons rfl (HB.cons rfl (HB.one rfl))), fun r h' hr => ?_⟩
      obtain ⟨rfl, rfl⟩ := hr
      (repeat((conv=>whnf);first|apply ω0|apply ω1|apply ω2|refine τ3 rfl ?_|refine τ4 rfl ?_|refine ⟨rfl,?_⟩|apply τa|refine τb rfl ?_|refine ⟨⟨by kernel_rfl,by kernel_rfl⟩,?_⟩|refine ⟨by decide,?_⟩|apply τt|apply τf))
      exact ⟨(nx2, oi, nx2 + 1), hoi, ele_tell (bx := prB nx nx2 s ka na [strA ⟨#[]⟩, int 0, int 0, AV.os 0 0 (fun _ => .any) none] s2 k2 n2 ds cs oi) _ (pmOf (nmN 3 oi) (cs.length * 4) ++ []) rfl rfl (.cons_cons _ (.cons_cons _ (.cons_cons _ (List.nil_sublist _)))) (List.Sublist.refl _) ⟨rfl, ⟨AVle.refl _, AVle.refl _, AVle.refl _, os_nmd, trivial⟩, rfl, OwnLe.refl _, rfl, OwnLe.refl _, trivial⟩ (by rw [List.append_nil]; exact pmEq_nm) ⟨AVle.refl _, AVle.refl _, AVle.bp_nm rfl, trivial⟩⟩
  · rintro ⟨sb, oi, nx2⟩ hoi
    dsimp only at hoi
    (repeat((conv=>whnf);first|apply ω0|apply ω1|apply ω2|refine τ3 rfl ?_|refine τ4 rfl ?_|refine ⟨rfl,?_⟩|apply τa|refine τb rfl ?_|refine ⟨⟨by kernel_rfl,by kernel_rfl⟩,?_⟩|refine ⟨by decide,?_⟩|apply τt|apply τf))
    refine aw_loop (fun y : Nat × List Cnd × Option Nat × Nat => mk 39 [(3, .bp (1, nx + 1) 0), (4, .bp (2, nx + 2) 0), (5, .bp (3, sb) 0), (20, cnds ds), (21, int ds.length), (22, int y.1)] ⟨prB nx sb s ka na Z s2 k2 n2 ds y.2.1 y.2.2.1, pmOf (nmd y.2.2.1) (y.2.1.length * 4), y.2.2.2, 5⟩) (fun y => y.1 ≤ ds.length ∧ (y.2.2.1 = none → y.2.1 = []) ∧ y.2.1 = joinC cs (ds.take y.1)) (fun y => ds.length - y.1) ?_ ?_
    · exact ⟨(0, cs, oi, nx2), ⟨Nat.zero_le _, hoi, rfl⟩, ele_tell _ _ rfl rfl (List.Sublist.refl _) (List.Sublist.refl _) (BxLe.refl _) (PmEq_refl' _) ⟨AVle.refl _, AVle.refl _, AVle.refl _, AVle.refl _, AVle.refl _, AVle.refl _, trivial⟩⟩
    · rintro ⟨i, L, oi, nx3⟩ ⟨h1, h2, hL⟩
      dsimp only at h1 h2 hL
      have hjl2 := hjl (ds.take i)
      rw [List.length_take, ← hL] at hjl2
      (repeat((conv=>whnf);first|apply ω0|apply ω1|apply ω2|refine τ3 rfl ?_|refine τ4 rfl ?_|refine ⟨rfl,?_⟩|apply τa|refine τb rfl ?_|refine ⟨⟨by kernel_rfl,by kernel_rfl⟩,?_⟩|refine ⟨by decide,?_⟩|apply τt|apply τf))
      intro c g; cases c
      · have g := not_of g
        try dsimp only at g
        obtain rfl : i = ds.length := by omega
        rw [List.take_length] at hL
        rw [← hL]
        subst hZ
        (repeat((conv=>whnf);first|apply ω0|apply ω1|apply ω2|refine τ3 rfl ?_|refine τ4 rfl ?_|refine ⟨rfl,?_⟩|apply τa|refine τb rfl ?_|refine ⟨⟨by kernel_rfl,by kernel_rfl⟩,?_⟩|refine ⟨by decide,?_⟩|apply τt|apply τf))
        exact ret_tells_all rfl (by first | trivial | exact ⟨rfl, trivial⟩ | exact ⟨⟨rfl, rfl⟩, trivial⟩) (AVle.ags (cs := [_, _, _, _]) ⟨AVle.refl _, AVle.refl _, AVle.refl _, AVle.os_sl, trivial⟩)
      · have g := yes_of g
        try dsimp only at g
        have hi : i < ds.length := by omega
        have hsn : joinC cs (ds.take (i + 1)) = if ds.getD i cnd0 ∈ L then L else L ++ [ds.getD i cnd0] := by rw [take_getD cnd0 hi, join_snoc, ← hL]
        have hcn := cntc_spec L (ds.getD i cnd0) (by omega)
        clear hL hjl hboth
        (repeat((conv=>whnf);first|apply ω0|apply ω1|apply ω2|refine τ3 rfl ?_|refine τ4 rfl ?_|refine ⟨rfl,?_⟩|apply τa|refine τb rfl ?_|refine ⟨⟨by kernel_rfl,by kernel_rfl⟩,?_⟩|refine ⟨by decide,?_⟩|apply τt|apply τf))
        refine ⟨⟨by first | omega | (dsimp only; omega), by first | omega | (dsimp only; omega)⟩, ?_⟩
        (repeat((conv=>whnf);first|apply ω0|apply ω1|apply ω2|refine τ3 rfl ?_|refine τ4 rfl ?_|refine ⟨rfl,?_⟩|apply τa|refine τb rfl ?_|refine ⟨⟨by kernel_rfl,by kernel_rfl⟩,?_⟩|refine ⟨by decide,?_⟩|apply τt|apply τf))
        refine splitO_eq (b := cndA (ds.getD i cnd0)) rfl ?_
        (repeat((conv=>whnf);first|apply ω0|apply ω1|apply ω2|refine τ3 rfl ?_|refine τ4 rfl ?_|refine ⟨rfl,?_⟩|apply τa|refine τb rfl ?_|refine ⟨⟨by kernel_rfl,by kernel_rfl⟩,?_⟩|refine ⟨by decide,?_⟩|apply τt|apply τf))
        refine aop_tells rfl rfl hcn ⟨AVle.os_sl, AVle.refl _, trivial⟩ fun nx4 => ?_
        by_cases hc : ds.getD i cnd0 ∈ L
        · rw [if_pos hc] at hsn
          rw [decide_eq_true hc]
          (repeat((conv=>whnf);first|apply ω0|apply ω1|apply ω2|refine τ3 rfl ?_|refine τ4 rfl ?_|refine ⟨rfl,?_⟩|apply τa|refine τb rfl ?_|refine ⟨⟨by kernel_rfl,by kernel_rfl⟩,?_⟩|refine ⟨by decide,?_⟩|apply τt|apply τf))
          exact back (i + 1, L, oi, nx4) ⟨hi, h2, hsn.symm⟩ (by dsimp only; omega) (ele_tell (bx := prB nx sb s ka na Z s2 k2 n2 ds L oi) _ _ rfl rfl (.cons _ (List.Sublist.refl _)) (List.Sublist.refl _) (BxLe.refl _) (PmEq_refl' _) ⟨AVle.refl _, AVle.refl _, AVle.refl _, AVle.refl _, AVle.refl _, le_int (wrap_succ (by first | omega | (dsimp only; omega))), trivial⟩)
        · rw [if_neg hc] at hsn
          rw [decide_eq_false hc]
          (repeat((conv=>whnf);first|apply ω0|apply ω1|apply ω2|refine τ3 rfl ?_|refine τ4 rfl ?_|refine ⟨rfl,?_⟩|apply τa|refine τb rfl ?_|refine ⟨⟨by kernel_rfl,by kernel_rfl⟩,?_⟩|refine ⟨by decide,?_⟩|apply τt|apply τf))
          refine splitO_eq (b := cndA (ds.getD i cnd0)) rfl ?_
          cases oi with
          | none =>
            (repeat((conv=>whnf);first|apply ω0|apply ω1|apply ω2|refine τ3 rfl ?_|refine τ4 rfl ?_|refine ⟨rfl,?_⟩|apply τa|refine τb rfl ?_|refine ⟨⟨by kernel_rfl,by kernel_rfl⟩,?_⟩|refine ⟨by decide,?_⟩|apply τt|apply τf))
            refine ⟨oneRow_one rfl, by show (L.length + 1) * 32 ≤ _; omega, by dsimp only; omega, ?_⟩
            (repeat((conv=>whnf);first|apply ω0|apply ω1|apply ω2|refine τ3 rfl ?_|refine τ4 rfl ?_|refine ⟨rfl,?_⟩|apply τa|refine τb rfl ?_|refine ⟨⟨by kernel_rfl,by kernel_rfl⟩,?_⟩|refine ⟨by decide,?_⟩|apply τt|apply τf))
            exact back (i + 1, L ++ [ds.getD i cnd0], some nx4, nx4 + 1) ⟨hi, (fun h => by cases h), hsn.symm⟩ (by dsimp only; omega) (ele_tell (bx := prB nx sb s ka na Z s2 k2 n2 ds (L ++ [ds.getD i cnd0]) (some nx4)) (pm := pmOf (nmd (some nx4)) ((L ++ [ds.getD i cnd0]).length * 4)) _ _ rfl rfl (.cons _ (List.Sublist.refl _)) (List.Sublist.refl _) ⟨rfl, ⟨AVle.refl _, AVle.refl _, AVle.refl _, le_cat, trivial⟩, rfl, OwnLe.refl _, rfl, OwnLe.refl _, trivial⟩ (by rw [List.length_append]; exact ⟨rfl, rfl, trivial⟩) ⟨AVle.refl _, AVle.refl _, AVle.refl _, AVle.refl _, AVle.refl _, le_int (wrap_succ (by first | omega | (dsimp only; omega))), trivial⟩)
          | some o1 =>
            (repeat((conv=>whnf);first|apply ω0|apply ω1|apply ω2|refine τ3 rfl ?_|refine τ4 rfl ?_|refine ⟨rfl,?_⟩|apply τa|refine τb rfl ?_|refine ⟨⟨by kernel_rfl,by kernel_rfl⟩,?_⟩|refine ⟨by decide,?_⟩|apply τt|apply τf))
            refine ⟨oneRow_one rfl, by show (L.length + 1) * 32 ≤ _; omega, by dsimp only; omega, ?_⟩
            (repeat((conv=>whnf);first|apply ω0|apply ω1|apply ω2|refine τ3 rfl ?_|refine τ4 rfl ?_|refine ⟨rfl,?_⟩|apply τa|refine τb rfl ?_|refine ⟨⟨by kernel_rfl,by kernel_rfl⟩,?_⟩|refine ⟨by decide,?_⟩|apply τt|apply τf))
            exact back (i + 1, L ++ [ds.getD i cnd0], some nx4, nx4 + 1) ⟨hi, (fun h => by cases h), hsn.symm⟩ (by dsimp only; omega) (ele_tell (bx := prB nx sb s ka na Z s2 k2 n2 ds (L ++ [ds.getD i cnd0]) (some nx4)) (pm := pmOf (nmd (some nx4)) ((L ++ [ds.getD i cnd0]).length * 4)) _ _ rfl rfl (.cons _ (List.Sublist.refl _)) (List.Sublist.refl _) ⟨rfl, ⟨AVle.refl _, AVle.refl _, AVle.refl _, le_cat, trivial⟩, rfl, OwnLe.refl _, rfl, OwnLe.refl _, trivial⟩ (by rw [List.length_append]; exact ⟨rfl, rfl, trivial⟩) ⟨AVle.refl _, AVle.refl _, AVle.refl _, AVle.refl _, AVle.refl _, le_int (wrap_succ (by first | omega | (dsimp only; omega))), trivial⟩)
end Go.Proofs.W

namespace Go.Proofs.W
open Go.Vl
set_option maxRecDepth 100000

set_option maxHeartbeats 1000000 in
theorem rules25_spec (p : Pol) (s : ByteArray) (hl : p.rules.length ≤ 1000000) : Tells Tryd.prog 26 [polA p, strA s] (ruls (ofL p s)) := by
  obtain ⟨⟨k, n⟩, x, rs⟩ := p
  dsimp only at hl
  refine tells_of_aw Tryd.func26 rfl rfl fun nx => ?_
  (repeat((conv=>whnf);first|apply ω0|apply ω1|apply ω2|refine τ3 rfl ?_|refine τ4 rfl ?_|refine ⟨rfl,?_⟩|apply τa|refine τb rfl ?_|refine ⟨⟨by kernel_rfl,by kernel_rfl⟩,?_⟩|refine ⟨by decide,?_⟩|apply τt|apply τf))
  refine aw_loop (fun y : Nat × Option Nat × Nat => mk 37 [(1, strA s), (2, .bp (0, nx) 0), (5, .os 4 (fil rs s y.1).length (fun j => rulA ((fil rs s y.1).getD j rul0)) (nmd y.2.1)), (6, int y.1)] ⟨[((0, nx), .c [int k, int n, boolA x, ruls rs])], pmOf (nmd y.2.1) ((fil rs s y.1).length * 4), y.2.2, 1⟩) (fun y => y.1 ≤ rs.length ∧ (y.2.1 = none → (fil rs s y.1).length = 0)) (fun y => rs.length - y.1) ?_ ?_
  · exact ⟨(0, none, nx + 1), ⟨Nat.zero_le _, fun _ => rfl⟩, ele_tell (pm := []) _ [] rfl rfl (List.Sublist.refl _) (List.Sublist.refl _) ⟨rfl, OwnLe.refl _, trivial⟩ trivial ⟨AVle.refl _, AVle.refl _, AVle.os_nil, AVle.refl _, trivial⟩⟩
  · rintro ⟨i, oi, nx2⟩ ⟨h3, h4⟩
    dsimp only at h3 h4
    have hfl := fil_le (rs := rs) (s := s) (i := i)
    by_cases hi : i < rs.length
    · have hsucc := fil_succ (s := s) hi
      (repeat((conv=>whnf);first|apply ω0|apply ω1|apply ω2|refine τ3 rfl ?_|refine τ4 rfl ?_|refine ⟨rfl,?_⟩|apply τa|refine τb rfl ?_|refine ⟨⟨by kernel_rfl,by kernel_rfl⟩,?_⟩|refine ⟨by decide,?_⟩|apply τt|apply τf))
      intro c hc
      obtain rfl : c = true := hc.trans (decide_eq_true (by dsimp only; omega))
      (repeat((conv=>whnf);first|apply ω0|apply ω1|apply ω2|refine τ3 rfl ?_|refine τ4 rfl ?_|refine ⟨rfl,?_⟩|apply τa|refine τb rfl ?_|refine ⟨⟨by kernel_rfl,by kernel_rfl⟩,?_⟩|refine ⟨by decide,?_⟩|apply τt|apply τf))
      refine ⟨⟨by dsimp only; omega, by dsimp only; omega⟩, ?_⟩
      (repeat((conv=>whnf);first|apply ω0|apply ω1|apply ω2|refine τ3 rfl ?_|refine τ4 rfl ?_|refine ⟨rfl,?_⟩|apply τa|refine τb rfl ?_|refine ⟨⟨by kernel_rfl,by kernel_rfl⟩,?_⟩|refine ⟨by decide,?_⟩|apply τt|apply τf))
      intro d hd
      have hd2 : d = nmEq (rs.getD i rul0).name s := hd
      cases d
      · rw [if_neg (by rw [← hd2]; decide)] at hsucc
        (repeat((conv=>whnf);first|apply ω0|apply ω1|apply ω2|refine τ3 rfl ?_|refine τ4 rfl ?_|refine ⟨rfl,?_⟩|apply τa|refine τb rfl ?_|refine ⟨⟨by kernel_rfl,by kernel_rfl⟩,?_⟩|refine ⟨by decide,?_⟩|apply τt|apply τf))
        refine back (i + 1, oi, nx2) ⟨by dsimp only; omega, fun h => by dsimp only; rw [hsucc]; exact h4 h⟩ (by dsimp only; omega) (ele_tell (pm := pmOf (nmd oi) ((fil rs s (i + 1)).length * 4)) _ _ rfl rfl (List.Sublist.refl _) (List.Sublist.refl _) ⟨rfl, OwnLe.refl _, trivial⟩ (by rw [hsucc]; exact PmEq_refl' _) ⟨AVle.refl _, AVle.refl _, by rw [hsucc]; exact AVle.refl _, le_int (wrap_succ (by dsimp only; omega)), trivial⟩)
      · rw [if_pos hd2.symm] at hsucc
        have hlen : (fil rs s (i + 1)).length = (fil rs s i).length + 1 := by rw [hsucc]; simp
        have hget : ∀ j, j < (fil rs s i).length → rulA ((fil rs s i).getD j rul0) = rulA ((fil rs s (i + 1)).getD j rul0) := fun j hj => by rw [hsucc, snoc_get hj]
        have hlast : rulA (rs.getD i rul0) = rulA ((fil rs s (i + 1)).getD (fil rs s i).length rul0) := by rw [hsucc, snoc_last]
        (repeat((conv=>whnf);first|apply ω0|apply ω1|apply ω2|refine τ3 rfl ?_|refine τ4 rfl ?_|refine ⟨rfl,?_⟩|apply τa|refine τb rfl ?_|refine ⟨⟨by kernel_rfl,by kernel_rfl⟩,?_⟩|refine ⟨by decide,?_⟩|apply τt|apply τf))
        refine ⟨⟨by dsimp only; omega, by dsimp only; omega⟩, ?_⟩
        cases oi with
        | none =>
          (repeat((conv=>whnf);first|apply ω0|apply ω1|apply ω2|refine τ3 rfl ?_|refine τ4 rfl ?_|refine ⟨rfl,?_⟩|apply τa|refine τb rfl ?_|refine ⟨⟨by kernel_rfl,by kernel_rfl⟩,?_⟩|refine ⟨by decide,?_⟩|apply τt|apply τf))
          refine ⟨oneRow_one rfl, by show ((fil rs s i).length + 1) * 56 ≤ _; omega, by dsimp only; omega, ?_⟩
          (repeat((conv=>whnf);first|apply ω0|apply ω1|apply ω2|refine τ3 rfl ?_|refine τ4 rfl ?_|refine ⟨rfl,?_⟩|apply τa|refine τb rfl ?_|refine ⟨⟨by kernel_rfl,by kernel_rfl⟩,?_⟩|refine ⟨by decide,?_⟩|apply τt|apply τf))
          refine back (i + 1, some nx2, nx2 + 1) ⟨by dsimp only; omega, fun h => by cases h⟩ (by dsimp only; omega) (ele_tell (pm := [((0, nx2), (fil rs s (i + 1)).length * 4)]) _ _ rfl rfl (List.Sublist.refl _) (List.Sublist.refl _) ⟨rfl, OwnLe.refl _, trivial⟩ (by rw [hlen]; exact ⟨rfl, rfl, trivial⟩) ⟨AVle.refl _, AVle.refl _, by dsimp only; rw [hlen]; exact (AVle.os_fun (appF_one hget hlast)).trans (AVle.os_nm rfl), le_int (wrap_succ (by dsimp only; omega)), trivial⟩)
        | some o1 =>
          (repeat((conv=>whnf);first|apply ω0|apply ω1|apply ω2|refine τ3 rfl ?_|refine τ4 rfl ?_|refine ⟨rfl,?_⟩|apply τa|refine τb rfl ?_|refine ⟨⟨by kernel_rfl,by kernel_rfl⟩,?_⟩|refine ⟨by decide,?_⟩|apply τt|apply τf))
          refine ⟨oneRow_one rfl, by show ((fil rs s i).length + 1) * 56 ≤ _; omega, by dsimp only; omega, ?_⟩
          (repeat((conv=>whnf);first|apply ω0|apply ω1|apply ω2|refine τ3 rfl ?_|refine τ4 rfl ?_|refine ⟨rfl,?_⟩|apply τa|refine τb rfl ?_|refine ⟨⟨by kernel_rfl,by kernel_rfl⟩,?_⟩|refine ⟨by decide,?_⟩|apply τt|apply τf))
          refine back (i + 1, some nx2, nx2 + 1) ⟨by dsimp only; omega, fun h => by cases h⟩ (by dsimp only; omega) (ele_tell (pm := [((0, nx2), (fil rs s (i + 1)).length * 4)]) _ _ rfl rfl (List.Sublist.refl _) (List.Sublist.refl _) ⟨rfl, OwnLe.refl _, trivial⟩ (by rw [hlen]; exact ⟨rfl, rfl, trivial⟩) ⟨AVle.refl _, AVle.refl _, by dsimp only; rw [hlen]; exact (AVle.os_fun (appF_one hget hlast)).trans (AVle.os_nm rfl), le_int (wrap_succ (by dsimp only; omega)), trivial⟩)
    · have hL : (ofL ⟨(k, n), x, rs⟩ s).length = (fil rs s i).length + 1 := ofL_len (by first | omega | (dsimp only; omega))
      have hg : ∀ j, j < (fil rs s i).length → rulA ((fil rs s i).getD j rul0) = rulA ((ofL ⟨(k, n), x, rs⟩ s).getD j rul0) := fun j hj => by rw [ofL_at (by first | omega | (dsimp only; omega)) hj]
      have hz : rulA ((ofL ⟨(k, n), x, rs⟩ s).getD (fil rs s i).length rul0) = rulA ⟨s, (k, n), []⟩ := by rw [ofL_last (by first | omega | (dsimp only; omega))]
      (repeat((conv=>whnf);first|apply ω0|apply ω1|apply ω2|refine τ3 rfl ?_|refine τ4 rfl ?_|refine ⟨rfl,?_⟩|apply τa|refine τb rfl ?_|refine ⟨⟨by kernel_rfl,by kernel_rfl⟩,?_⟩|refine ⟨by decide,?_⟩|apply τt|apply τf))
      intro c hc
      obtain rfl : c = false := hc.trans (decide_eq_false (by dsimp only; omega))
      (repeat((conv=>whnf);first|apply ω0|apply ω1|apply ω2|refine τ3 rfl ?_|refine τ4 rfl ?_|refine ⟨rfl,?_⟩|apply τa|refine τb rfl ?_|refine ⟨⟨by kernel_rfl,by kernel_rfl⟩,?_⟩|refine ⟨by decide,?_⟩|apply τt|apply τf))
      refine splitO_eq (b := .ag [int k, int n]) rfl ?_
      cases oi with
      | none =>
        (repeat((conv=>whnf);first|apply ω0|apply ω1|apply ω2|refine τ3 rfl ?_|refine τ4 rfl ?_|refine ⟨rfl,?_⟩|apply τa|refine τb rfl ?_|refine ⟨⟨by kernel_rfl,by kernel_rfl⟩,?_⟩|refine ⟨by decide,?_⟩|apply τt|apply τf))
        refine ⟨oneRow_one rfl, by show ((fil rs s i).length + 1) * 56 ≤ _; omega, by dsimp only; omega, ?_⟩
        (repeat((conv=>whnf);first|apply ω0|apply ω1|apply ω2|refine τ3 rfl ?_|refine τ4 rfl ?_|refine ⟨rfl,?_⟩|apply τa|refine τb rfl ?_|refine ⟨⟨by kernel_rfl,by kernel_rfl⟩,?_⟩|refine ⟨by decide,?_⟩|apply τt|apply τf))
        refine ret_tells rfl (AVle.os_sl.trans ?_)
        unfold ruls slOf
        rw [hL]
        exact sl_last (a := strA s) (b := int k) (c := int n) (g := fun _ => .any) (oi := none) (fun j hj => (appF_lt hj).trans (hg j hj)) appF_eq hz
      | some o1 =>
        (repeat((conv=>whnf);first|apply ω0|apply ω1|apply ω2|refine τ3 rfl ?_|refine τ4 rfl ?_|refine ⟨rfl,?_⟩|apply τa|refine τb rfl ?_|refine ⟨⟨by kernel_rfl,by kernel_rfl⟩,?_⟩|refine ⟨by decide,?_⟩|apply τt|apply τf))
        refine ⟨oneRow_one rfl, by show ((fil rs s i).length + 1) * 56 ≤ _; omega, by dsimp only; omega, ?_⟩
        (repeat((conv=>whnf);first|apply ω0|apply ω1|apply ω2|refine τ3 rfl ?_|refine τ4 rfl ?_|refine ⟨rfl,?_⟩|apply τa|refine τb rfl ?_|refine ⟨⟨by kernel_rfl,by kernel_rfl⟩,?_⟩|refine ⟨by decide,?_⟩|apply τt|apply τf))
        refine ret_tells rfl (AVle.os_sl.trans ?_)
        unfold ruls slOf
        rw [hL]
        exact sl_last (a := strA s) (b := int k) (c := int n) (g := fun _ => .any) (oi := none) (fun j hj => (appF_lt hj).trans (hg j hj)) appF_eq hz
end Go.Proofs.W

namespace Go.Proofs.W
open Go.Vl
set_option maxRecDepth 100000

def esS (N : List ByteArray) : List (Value × AV) := N.map fun s => (.string s, .v (.bool true))
def inN (N : List ByteArray) (s : ByteArray) : Bool := N.any fun t => nmEq s t
def addN (N : List ByteArray) (s : ByteArray) : List ByteArray := if inN N s then N else N ++ [s]
def namesL (l : List Rul) : List ByteArray := l.foldl (fun N r => addN N r.name) []
def strs (N : List ByteArray) : AV := slOf 1 strA ⟨#[]⟩ N
def strF (N : List ByteArray) (k : Nat) : AV := strA (N.getD k ⟨#[]⟩)
theorem esS_fit (N : List ByteArray) : keysFit .string (esS N) = true := by simp [keysFit, esS, keyFit]
theorem esS_look (s : ByteArray) : ∀ N : List ByteArray, alook (.string s) (esS N) = if inN N s then some (.v (.bool true)) else none
  | [] => rfl
  | t :: N => by
    have ih := esS_look s N
    show (bif s.toList == t.toList then _ else alook (.string s) (esS N)) = _
    rw [ih]
    unfold inN
    rw [List.any_cons]
    unfold nmEq
    cases s.toList == t.toList <;> rfl
theorem esS_put (s : ByteArray) : ∀ N : List ByteArray, inN N s = false → aput (.string s) (.v (.bool true)) (esS N) = esS (N ++ [s])
  | [], _ => rfl
  | t :: N, h => by
    unfold inN at h
    rw [List.any_cons, Bool.or_eq_false_iff] at h
    show (bif s.toList == t.toList then _ else (_ : Value × AV) :: aput _ _ (esS N)) = _
    unfold nmEq at h
    rw [h.1, cond_false, esS_put s N h.2]; rfl
theorem namesL_snoc (l : List Rul) (r : Rul) : namesL (l ++ [r]) = addN (namesL l) r.name := by unfold namesL; rw [List.foldl_append]; rfl
theorem namesL_le (l : List Rul) : (namesL l).length ≤ l.length := by
  unfold namesL
  have key : ∀ (l : List Rul) (N : List ByteArray), (l.foldl (fun N r => addN N r.name) N).length ≤ N.length + l.length := by
    intro l
    induction l with
    | nil => intro N; simp
    | cons r l ih =>
      intro N
      rw [List.foldl_cons]
      have := ih (addN N r.name)
      have h2 : (addN N r.name).length ≤ N.length + 1 := by unfold addN; split <;> simp
      simp only [List.length_cons]; omega
  simpa using key l []
theorem bytes_str : Tryd.prog.bytesOf 9 = 16 := by kernel_rfl
theorem le_catS {N : List ByteArray} {s : ByteArray} {f' : Nat → AV} {i j : Vl.Id} (hf : f' 0 = strA s := by rfl) (h : i.2 = j.2 := by rfl) : AVle (.os 1 (N.length + 1) (appF N.length (strF N) f') (some i)) (.os 1 (N ++ [s]).length (strF (N ++ [s])) (some j)) := by
  rw [List.length_append]
  refine (AVle.os_fun (appF_one (fun k hk => ?_) ?_)).trans (AVle.os_nm h)
  · simp [strF, List.getD, List.getElem?_append_left hk, hk]
  · rw [hf]; simp [strF, List.getD]
theorem eqOwn {a b : Own} (h : a = b) : OwnLe a b := h ▸ OwnLe.refl a
def nmB (nx : Nat) (N : List ByteArray) : List (Vl.Id × Own) := [((2, nx + 2), .mp (esS N))]
set_option maxHeartbeats 4000000 in
theorem names_spec (p q : Pol) (hp : p.rules.length ≤ 1000) (hq : q.rules.length ≤ 1000) : Tells Tryd.prog 14 [polA p, polA q] (strs (namesL (p.rules ++ q.rules))) := by
  obtain ⟨⟨k, n⟩, x, rs⟩ := p
  obtain ⟨⟨k2, n2⟩, x2, rs2⟩ := q
  dsimp only at hp hq
  refine tells_of_aw Tryd.func14 rfl rfl fun nx => ?_
  have hcc := concat_rul [rs, rs2] (by simp) (by simp; omega) none
  rw [show [rs, rs2].flatten = rs ++ rs2 by simp] at hcc
  have hal : (rs ++ rs2).length ≤ 2000 := by simp; omega
  generalize hall : rs ++ rs2 = all at hcc hal
  (repeat((conv=>whnf);first|apply ω0|apply ω1|apply ω2|refine τ3 rfl ?_|refine τ4 rfl ?_|refine ⟨rfl,?_⟩|apply τa|refine τb rfl ?_|refine ⟨⟨by kernel_rfl,by kernel_rfl⟩,?_⟩|refine ⟨by decide,?_⟩|apply τt|apply τf))
  refine aop_tells rfl rfl hcc ⟨AVle.os_fun (fun k hk => ?_), trivial⟩ fun nx2 => ?_
  · match k, hk with
    | 0, _ => rfl
    | 1, _ => rfl
  (repeat((conv=>whnf);first|apply ω0|apply ω1|apply ω2|refine τ3 rfl ?_|refine τ4 rfl ?_|refine ⟨rfl,?_⟩|apply τa|refine τb rfl ?_|refine ⟨⟨by kernel_rfl,by kernel_rfl⟩,?_⟩|refine ⟨by decide,?_⟩|apply τt|apply τf))
  refine aw_loop (fun y : Nat × List ByteArray × Option Nat × Nat => mk 36 [(5, .om (2, nx + 2)), (6, .os 1 y.2.1.length (strF y.2.1) (nmd y.2.2.1)), (15, ruls all), (16, int all.length), (17, int y.1)] ⟨nmB nx y.2.1, pmOf (nmd y.2.2.1) (y.2.1.length * 1), y.2.2.2, 3⟩) (fun y => y.1 ≤ all.length ∧ (y.2.2.1 = none → y.2.1 = []) ∧ y.2.1 = namesL (all.take y.1)) (fun y => all.length - y.1) ?_ ?_
  · exact ⟨(0, [], none, nx2), ⟨Nat.zero_le _, fun _ => rfl, rfl⟩, ele_tell (bx := nmB nx []) (pm := []) _ _ rfl rfl (.cons_cons _ (List.nil_sublist _)) (List.Sublist.refl _) ⟨rfl, OwnLe.refl _, trivial⟩ trivial ⟨AVle.refl _, AVle.os_nil, AVle.refl _, AVle.refl _, AVle.refl _, trivial⟩⟩
  · rintro ⟨i, N, oi, nx3⟩ ⟨h1, h2, hN⟩
    dsimp only at h1 h2 hN
    have hNl := namesL_le (all.take i)
    rw [← hN, List.length_take] at hNl
    (repeat((conv=>whnf);first|apply ω0|apply ω1|apply ω2|refine τ3 rfl ?_|refine τ4 rfl ?_|refine ⟨rfl,?_⟩|apply τa|refine τb rfl ?_|refine ⟨⟨by kernel_rfl,by kernel_rfl⟩,?_⟩|refine ⟨by decide,?_⟩|apply τt|apply τf))
    intro c g; cases c
    · have g := not_of g
      try dsimp only at g
      obtain rfl : i = all.length := by omega
      rw [List.take_length] at hN
      rw [← hN]
      (repeat((conv=>whnf);first|apply ω0|apply ω1|apply ω2|refine τ3 rfl ?_|refine τ4 rfl ?_|refine ⟨rfl,?_⟩|apply τa|refine τb rfl ?_|refine ⟨⟨by kernel_rfl,by kernel_rfl⟩,?_⟩|refine ⟨by decide,?_⟩|apply τt|apply τf))
      exact ret_tells rfl AVle.os_sl
    · have g := yes_of g
      try dsimp only at g
      have hi : i < all.length := by omega
      have hsn : namesL (all.take (i + 1)) = addN N (all.getD i rul0).name := by rw [take_getD rul0 hi, namesL_snoc, ← hN]
      (repeat((conv=>whnf);first|apply ω0|apply ω1|apply ω2|refine τ3 rfl ?_|refine τ4 rfl ?_|refine ⟨rfl,?_⟩|apply τa|refine τb rfl ?_|refine ⟨⟨by kernel_rfl,by kernel_rfl⟩,?_⟩|refine ⟨by decide,?_⟩|apply τt|apply τf))
      refine ⟨⟨by first | omega | (dsimp only; omega), by first | omega | (dsimp only; omega)⟩, ?_⟩
      (repeat((conv=>whnf);first|apply ω0|apply ω1|apply ω2|refine τ3 rfl ?_|refine τ4 rfl ?_|refine ⟨rfl,?_⟩|apply τa|refine τb rfl ?_|refine ⟨by decide,?_⟩|apply τt|apply τf))
      refine ⟨⟨rfl, esS_fit _⟩, splitO_eq (b := .v (.bool (inN N (all.getD i rul0).name))) (by
        show lookR (alook (.string (all.getD i rul0).name) (esS N)) (.v (.bool false)) false = _
        rw [esS_look]; cases inN N (all.getD i rul0).name <;> rfl) ?_⟩
      unfold addN at hsn
      cases hb : inN N (all.getD i rul0).name
      · rw [if_neg (by rw [hb]; decide)] at hsn
        (repeat((conv=>whnf);first|apply ω0|apply ω1|apply ω2|refine τ3 rfl ?_|refine τ4 rfl ?_|refine ⟨rfl,?_⟩|apply τa|refine τb rfl ?_|refine ⟨by decide,?_⟩|apply τt|apply τf))
        refine ⟨⟨rfl, esS_fit _⟩, ?_⟩
        (repeat((conv=>whnf);first|apply ω0|apply ω1|apply ω2|refine τ3 rfl ?_|refine τ4 rfl ?_|refine ⟨rfl,?_⟩|apply τa|refine τb rfl ?_|refine ⟨by decide,?_⟩|apply τt|apply τf))
        refine forceM_intro ?_
        cases oi with
        | none =>
          (repeat((conv=>whnf);first|apply ω0|apply ω1|apply ω2|refine τ3 rfl ?_|refine τ4 rfl ?_|refine ⟨rfl,?_⟩|apply τa|refine τb rfl ?_|refine ⟨⟨by kernel_rfl,by kernel_rfl⟩,?_⟩|refine ⟨by decide,?_⟩|apply τt|apply τf))
          refine ⟨oneRow_one rfl, by show (N.length + 1) * 16 ≤ _; omega, by dsimp only; omega, ?_⟩
          (repeat((conv=>whnf);first|apply ω0|apply ω1|apply ω2|refine τ3 rfl ?_|refine τ4 rfl ?_|refine ⟨rfl,?_⟩|apply τa|refine τb rfl ?_|refine ⟨⟨by kernel_rfl,by kernel_rfl⟩,?_⟩|refine ⟨by decide,?_⟩|apply τt|apply τf))
          exact back (i + 1, N ++ [(all.getD i rul0).name], some (nx3 + 1), nx3 + 2) ⟨hi, (fun h => by cases h), hsn.symm⟩ (by dsimp only; omega) (ele_tell (bx := nmB nx (N ++ [(all.getD i rul0).name])) (pm := pmOf (nmd (some (nx3 + 1))) ((N ++ [(all.getD i rul0).name]).length * 1)) _ _ rfl rfl (.cons _ (List.Sublist.refl _)) (List.Sublist.refl _) ⟨rfl, eqOwn (congrArg Own.mp (esS_put _ N hb)), trivial⟩ (by rw [List.length_append]; exact ⟨rfl, rfl, trivial⟩) ⟨AVle.refl _, le_catS, AVle.refl _, AVle.refl _, le_int (wrap_succ (by first | omega | (dsimp only; omega))), trivial⟩)
        | some o1 =>
          (repeat((conv=>whnf);first|apply ω0|apply ω1|apply ω2|refine τ3 rfl ?_|refine τ4 rfl ?_|refine ⟨rfl,?_⟩|apply τa|refine τb rfl ?_|refine ⟨⟨by kernel_rfl,by kernel_rfl⟩,?_⟩|refine ⟨by decide,?_⟩|apply τt|apply τf))
          refine ⟨oneRow_one rfl, by show (N.length + 1) * 16 ≤ _; omega, by dsimp only; omega, ?_⟩
          (repeat((conv=>whnf);first|apply ω0|apply ω1|apply ω2|refine τ3 rfl ?_|refine τ4 rfl ?_|refine ⟨rfl,?_⟩|apply τa|refine τb rfl ?_|refine ⟨⟨by kernel_rfl,by kernel_rfl⟩,?_⟩|refine ⟨by decide,?_⟩|apply τt|apply τf))
          exact back (i + 1, N ++ [(all.getD i rul0).name], some (nx3 + 1), nx3 + 2) ⟨hi, (fun h => by cases h), hsn.symm⟩ (by dsimp only; omega) (ele_tell (bx := nmB nx (N ++ [(all.getD i rul0).name])) (pm := pmOf (nmd (some (nx3 + 1))) ((N ++ [(all.getD i rul0).name]).length * 1)) _ _ rfl rfl (.cons _ (List.Sublist.refl _)) (List.Sublist.refl _) ⟨rfl, eqOwn (congrArg Own.mp (esS_put _ N hb)), trivial⟩ (by rw [List.length_append]; exact ⟨rfl, rfl, trivial⟩) ⟨AVle.refl _, le_catS, AVle.refl _, AVle.refl _, le_int (wrap_succ (by first | omega | (dsimp only; omega))), trivial⟩)
      · rw [if_pos hb] at hsn
        (repeat((conv=>whnf);first|apply ω0|apply ω1|apply ω2|refine τ3 rfl ?_|refine τ4 rfl ?_|refine ⟨rfl,?_⟩|apply τa|refine τb rfl ?_|refine ⟨⟨by kernel_rfl,by kernel_rfl⟩,?_⟩|refine ⟨by decide,?_⟩|apply τt|apply τf))
        exact back (i + 1, N, oi, nx3 + 1) ⟨hi, h2, hsn.symm⟩ (by dsimp only; omega) (ele_tell (bx := nmB nx N) _ _ rfl rfl (.cons _ (List.Sublist.refl _)) (List.Sublist.refl _) (BxLe.refl _) (PmEq_refl' _) ⟨AVle.refl _, AVle.refl _, AVle.refl _, AVle.refl _, le_int (wrap_succ (by first | omega | (dsimp only; omega))), trivial⟩)
end Go.Proofs.W

namespace Go.Proofs.W
open Go.Vl
set_option maxRecDepth 100000

def rulF (R : List Rul) (k : Nat) : AV := rulA (R.getD k rul0)
def outB (s1 : Nat) (d : A2) (x : Bool) (R : List Rul) (oi : Option Nat) : List (Vl.Id × Own) := [((0, s1), .c [int d.1, int d.2, boolA x, .os 4 R.length (rulF R) (nmd oi)])]
def outH (s1 : Nat) (d : A2) (x : Bool) (R : List Rul) (oi : Option Nat) (nx : Nat) : Heap := ⟨outB s1 d x R oi, pmOf (nmd oi) (R.length * 4), nx, 1⟩
def badR (R : List Rul) (r : Rul) : Bool := decide (6 < r.conds.length) || decide (R.length = 500)
theorem le_catR {L : List Rul} {c : Rul} {f' : Nat → AV} {i j : Vl.Id} (hf : f' 0 = rulA c := by rfl) (h : i.2 = j.2 := by rfl) : AVle (.os 4 (L.length + 1) (appF L.length (rulF L) f') (some i)) (.os 4 (L ++ [c]).length (rulF (L ++ [c])) (some j)) := by
  rw [List.length_append]
  refine (AVle.os_fun (appF_one (fun k hk => ?_) ?_)).trans (AVle.os_nm h)
  · simp [rulF, List.getD, List.getElem?_append_left hk, hk]
  · rw [hf]; simp [rulF, List.getD]
set_option maxHeartbeats 4000000 in
theorem put_spec (s1 nx : Nat) (d : A2) (x : Bool) (R : List Rul) (oi : Option Nat) (r : Rul) (h0 : oi = none → R = []) (hr : r.conds.length ≤ 100000) (hR : R.length ≤ 500) :
    ECall Tryd.prog 13 [rulA r, .bp (0, s1) 0] (outH s1 d x R oi nx)
      fun b h' => ∃ oi' nx', b = boolA (!badR R r) ∧ (badR R r = false → (oi' = none → R ++ [r] = []) ∧ h' = outH s1 d x (R ++ [r]) oi' nx') ∧ (badR R r = true → h' = outH s1 d x R oi nx') := by
  obtain ⟨s, ⟨k, n⟩, cs⟩ := r
  obtain ⟨d1, d2⟩ := d
  dsimp only at hr
  unfold badR
  dsimp only
  refine ECall.wk (ecall_of_aw Tryd.func13 rfl rfl ?_)
  (repeat((conv=>whnf);first|apply ω0|apply ω1|apply ω2|refine τ3 rfl ?_|refine τ4 rfl ?_|refine ⟨rfl,?_⟩|apply τa|refine τb rfl ?_|refine ⟨⟨by kernel_rfl,by kernel_rfl⟩,?_⟩|refine ⟨by decide,?_⟩|apply τt|apply τf))
  intro c g1; cases c
  · have g1 := not_of g1
    try dsimp only at g1
    rw [decide_eq_false (by omega : ¬ 6 < cs.length), Bool.false_or]
    (repeat((conv=>whnf);first|apply ω0|apply ω1|apply ω2|refine τ3 rfl ?_|refine τ4 rfl ?_|refine ⟨rfl,?_⟩|apply τa|refine τb rfl ?_|refine ⟨⟨by kernel_rfl,by kernel_rfl⟩,?_⟩|refine ⟨by decide,?_⟩|apply τt|apply τf))
    by_cases hq : R.length = 500
    · rw [decide_eq_true hq]
      intro c hc
      have hc2 : c = true := hc.trans (beq_iff_eq.2 (congrArg Int.ofNat hq))
      clear hc; subst hc2
      (repeat((conv=>whnf);first|apply ω0|apply ω1|apply ω2|refine τ3 rfl ?_|refine τ4 rfl ?_|refine ⟨rfl,?_⟩|apply τa|refine τb rfl ?_|refine ⟨⟨by kernel_rfl,by kernel_rfl⟩,?_⟩|refine ⟨by decide,?_⟩|apply τt|apply τf))
      exact ret_is rfl ⟨_, _, AVle.refl _, hle_tell (nn := 1) (bx := outB s1 (d1, d2) x R oi) (pm := pmOf (nmd oi) (R.length * 4)) _ _ rfl (.cons _ (List.Sublist.refl _)) (List.Sublist.refl _) (BxLe.refl _) (PmEq_refl' _), oi, _, rfl, (fun h => by cases h), fun _ => rfl⟩
    · rw [decide_eq_false hq]
      intro c hc
      have hc2 : c = false := hc.trans (beq_eq_false_iff_ne.2 fun h => hq (Int.ofNat.inj h))
      clear hc; subst hc2
      (repeat((conv=>whnf);first|apply ω0|apply ω1|apply ω2|refine τ3 rfl ?_|refine τ4 rfl ?_|refine ⟨rfl,?_⟩|apply τa|refine τb rfl ?_|refine ⟨⟨by kernel_rfl,by kernel_rfl⟩,?_⟩|refine ⟨by decide,?_⟩|apply τt|apply τf))
      refine splitO_eq (b := rulA ⟨s, (k, n), cs⟩) rfl ?_
      rcases oi with _ | o1
      · obtain rfl := h0 rfl
        (repeat((conv=>whnf);first|apply ω0|apply ω1|apply ω2|refine τ3 rfl ?_|refine τ4 rfl ?_|refine ⟨rfl,?_⟩|apply τa|refine τb rfl ?_|refine ⟨⟨by kernel_rfl,by kernel_rfl⟩,?_⟩|refine ⟨by decide,?_⟩|apply τt|apply τf))
        refine ⟨oneRow_one rfl, by show (0 + 1) * 56 ≤ _; omega, by decide, ?_⟩
        (repeat((conv=>whnf);first|apply ω0|apply ω1|apply ω2|refine τ3 rfl ?_|refine τ4 rfl ?_|refine ⟨rfl,?_⟩|apply τa|refine τb rfl ?_|refine ⟨⟨by kernel_rfl,by kernel_rfl⟩,?_⟩|refine ⟨by decide,?_⟩|apply τt|apply τf))
        exact ret_is rfl ⟨_, _, AVle.refl _, hle_tell (nn := 1) (bx := outB s1 (d1, d2) x [⟨s, (k, n), cs⟩] (some (nx + 1))) (pm := [((0, nx + 1), 4)]) _ _ rfl (.cons _ (.cons_cons _ .slnil)) (.cons_cons _ .slnil) ⟨rfl, ⟨AVle.refl _, AVle.refl _, AVle.refl _, le_catR (L := []), trivial⟩, trivial⟩ ⟨rfl, rfl, trivial⟩, some (nx + 1), _, rfl, fun _ => ⟨(fun h => by cases h), rfl⟩, fun h => by cases h⟩
      · (repeat((conv=>whnf);first|apply ω0|apply ω1|apply ω2|refine τ3 rfl ?_|refine τ4 rfl ?_|refine ⟨rfl,?_⟩|apply τa|refine τb rfl ?_|refine ⟨⟨by kernel_rfl,by kernel_rfl⟩,?_⟩|refine ⟨by decide,?_⟩|apply τt|apply τf))
        refine ⟨oneRow_one rfl, by show (R.length + 1) * 56 ≤ _; omega, by omega, ?_⟩
        (repeat((conv=>whnf);first|apply ω0|apply ω1|apply ω2|refine τ3 rfl ?_|refine τ4 rfl ?_|refine ⟨rfl,?_⟩|apply τa|refine τb rfl ?_|refine ⟨⟨by kernel_rfl,by kernel_rfl⟩,?_⟩|refine ⟨by decide,?_⟩|apply τt|apply τf))
        exact ret_is rfl ⟨_, _, AVle.refl _, hle_tell (nn := 1) (bx := outB s1 (d1, d2) x (R ++ [⟨s, (k, n), cs⟩]) (some (nx + 1))) (pm := [((0, nx + 1), (R ++ [(⟨s, (k, n), cs⟩ : Rul)]).length * 4)]) _ _ rfl (.cons _ (.cons_cons _ .slnil)) (.cons_cons _ .slnil) ⟨rfl, ⟨AVle.refl _, AVle.refl _, AVle.refl _, le_catR, trivial⟩, trivial⟩ ⟨rfl, by rw [List.length_append]; rfl, trivial⟩, some (nx + 1), _, rfl, fun _ => ⟨(fun h => by cases h), rfl⟩, fun h => by cases h⟩
  · have g1 := yes_of g1
    try dsimp only at g1
    rw [decide_eq_true (by omega : 6 < cs.length), Bool.true_or]
    (repeat((conv=>whnf);first|apply ω0|apply ω1|apply ω2|refine τ3 rfl ?_|refine τ4 rfl ?_|refine ⟨rfl,?_⟩|apply τa|refine τb rfl ?_|refine ⟨⟨by kernel_rfl,by kernel_rfl⟩,?_⟩|refine ⟨by decide,?_⟩|apply τt|apply τf))
    exact ret_is rfl ⟨_, _, AVle.refl _, hle_tell (nn := 1) (bx := outB s1 (d1, d2) x R oi) (pm := pmOf (nmd oi) (R.length * 4)) _ _ rfl (.cons _ (List.Sublist.refl _)) (List.Sublist.refl _) (BxLe.refl _) (PmEq_refl' _), oi, _, rfl, (fun h => by cases h), fun _ => rfl⟩
end Go.Proofs.W

namespace Go.Proofs.W
open Go.Vl
set_option maxRecDepth 100000

/-- A row's pairs with the other policy's rules: none: no room; (true, R): enough; (false, R): go on. -/
def pairB (a : Rul) : List Rul → List Rul → Option (Bool × List Rul)
  | [], R => some (false, R)
  | b :: bs, R => if badR R (pairR a b) then none else if (pairR a b).conds = [] then some (true, R ++ [pairR a b]) else pairB a bs (R ++ [pairR a b])
def pairA (bs : List Rul) : List Rul → List Rul → Option (List Rul)
  | [], R => some R
  | a :: as', R => match pairB a bs R with
    | none => none
    | some (true, R') => some R'
    | some (false, R') => pairA bs as' R'
theorem drop_getD {l : List Rul} {i : Nat} (h : i < l.length) : l.drop i = l.getD i rul0 :: l.drop (i + 1) := by
  rw [List.drop_eq_getElem_cons h]; simp [List.getD, h]
theorem pairB_done {a : Rul} {bs R : List Rul} {j : Nat} (h : j = bs.length) : pairB a (bs.drop j) R = some (false, R) := by subst h; rw [List.drop_length]; rfl
theorem pairB_bad {a : Rul} {bs R : List Rul} {j : Nat} (h : j < bs.length) (hb : badR R (pairR a (bs.getD j rul0)) = true) : pairB a (bs.drop j) R = none := by
  rw [drop_getD h]; unfold pairB; rw [if_pos hb]
theorem pairB_stop {a : Rul} {bs R : List Rul} {j : Nat} (h : j < bs.length) (hb : badR R (pairR a (bs.getD j rul0)) = false) (hc : (pairR a (bs.getD j rul0)).conds = []) : pairB a (bs.drop j) R = some (true, R ++ [pairR a (bs.getD j rul0)]) := by
  rw [drop_getD h, pairB]; rw [if_neg (by rw [hb]; decide), if_pos hc]
theorem pairB_go {a : Rul} {bs R : List Rul} {j : Nat} (h : j < bs.length) (hb : badR R (pairR a (bs.getD j rul0)) = false) (hc : (pairR a (bs.getD j rul0)).conds ≠ []) : pairB a (bs.drop j) R = pairB a (bs.drop (j + 1)) (R ++ [pairR a (bs.getD j rul0)]) := by
  rw [drop_getD h, pairB]; rw [if_neg (by rw [hb]; decide), if_neg hc]
theorem pairA_done {bs l R : List Rul} {i : Nat} (h : i = l.length) : pairA bs (l.drop i) R = some R := by subst h; rw [List.drop_length]; rfl
theorem pairA_at {bs l R : List Rul} {i : Nat} (h : i < l.length) : pairA bs (l.drop i) R = match pairB (l.getD i rul0) bs R with
    | none => none
    | some (true, R') => some R'
    | some (false, R') => pairA bs (l.drop (i + 1)) R' := by rw [drop_getD h]; rfl
theorem badR_le {R : List Rul} {r : Rul} (h : badR R r = false) (hR : R.length ≤ 500) : (R ++ [r]).length ≤ 500 ∧ r.conds.length ≤ 6 := by
  unfold badR at h
  simp only [Bool.or_eq_false_iff, decide_eq_false_iff_not] at h
  simp; omega
theorem ofL_conds {p : Pol} {s : ByteArray} (hc : ∀ r ∈ p.rules, r.conds.length ≤ 1000) (i : Nat) : ((ofL p s).getD i rul0).conds.length ≤ 1000 := by
  by_cases h : i < (ofL p s).length
  · have : (ofL p s).getD i rul0 ∈ ofL p s := by simp [List.getD, h]
    generalize (ofL p s).getD i rul0 = z at this ⊢
    unfold ofL at this
    rcases List.mem_append.1 this with q | q
    · exact hc _ ((List.mem_filter.1 q).1)
    · rw [List.mem_singleton.1 q]; simp
  · have : (ofL p s).getD i rul0 = rul0 := by simp [List.getD, h]
    rw [this]; decide
theorem ofL_le {p : Pol} {s : ByteArray} (h : p.rules.length ≤ 1000) : (ofL p s).length ≤ 1001 := by
  unfold ofL
  have := List.length_filter_le (fun r : Rul => nmEq r.name s) p.rules
  simp only [List.length_append, List.length_cons, List.length_nil]; omega
theorem pair_conds {a b : Rul} (ha : a.conds.length ≤ 1000) (hb : b.conds.length ≤ 1000) : (pairR a b).conds.length ≤ 2000 := by
  have := join_le a.conds b.conds
  show (joinC a.conds b.conds).length ≤ _
  omega
def polC (p : Pol) : List AV := [int p.dflt.1, int p.dflt.2, boolA p.x32, ruls p.rules]
def rulC (r : Rul) : List AV := [strA r.name, int r.act.1, int r.act.2, cnds r.conds]
def psB (nx : Nat) (p q : Pol) (s1 : Nat) (d : A2) (x : Bool) (R : List Rul) (oi : Option Nat) : List (Vl.Id × Own) := [((2, nx + 1), .c (polC q)), ((1, nx), .c (polC p))] ++ outB s1 d x R oi
def psB2 (nx sa : Nat) (a : Rul) (p q : Pol) (s1 : Nat) (d : A2) (x : Bool) (R : List Rul) (oi : Option Nat) : List (Vl.Id × Own) := ((3, sa), .c (rulC a)) :: psB nx p q s1 d x R oi
def putF (s1 : Nat) : AV := .fn (.func 13) [] [.bp (0, s1) 0]
def PairsQ (s1 : Nat) (d : A2) (x : Bool) (o : Option (List Rul)) (b : AV) (h' : Heap) : Prop :=
  ∃ R' oi' nx', b = boolA o.isSome ∧ (oi' = none → R' = []) ∧ R'.length ≤ 500 ∧ (∀ R'', o = some R'' → R' = R'') ∧ h' = outH s1 d x R' oi' nx'
set_option maxHeartbeats 4000000 in
theorem pairs_spec (s1 nx : Nat) (p q : Pol) (s : ByteArray) (d : A2) (x : Bool) (R0 : List Rul) (oi : Option Nat) (h0 : oi = none → R0 = []) (hR : R0.length ≤ 500)
    (hp : p.rules.length ≤ 1000) (hq : q.rules.length ≤ 1000) (hpc : ∀ r ∈ p.rules, r.conds.length ≤ 1000) (hqc : ∀ r ∈ q.rules, r.conds.length ≤ 1000) :
    ECall Tryd.prog 15 [polA p, polA q, strA s, putF s1] (outH s1 d x R0 oi nx) (PairsQ s1 d x (pairA (ofL q s) (ofL p s) R0)) := by
  have hop := of25_spec p s (by omega)
  have hoq := of25_spec q s (by omega)
  have hla := ofL_le (s := s) hp
  have hlb := ofL_le (s := s) hq
  have hca := ofL_conds (s := s) hpc
  have hcb := ofL_conds (s := s) hqc
  generalize hA : ofL p s = A at hop hla hca ⊢
  generalize hB : ofL q s = B at hoq hlb hcb ⊢
  refine ECall.wk (ecall_of_aw Tryd.func15 rfl rfl ?_)
  (repeat((conv=>whnf);first|apply ω0|apply ω1|apply ω2|refine τ3 rfl ?_|refine τ4 rfl ?_|refine ⟨rfl,?_⟩|apply τa|refine τb rfl ?_|refine ⟨⟨by kernel_rfl,by kernel_rfl⟩,?_⟩|refine ⟨by decide,?_⟩|apply τt|apply τf))
  refine aop_tells rfl rfl hop ⟨AVle.refl _, AVle.refl _, trivial⟩ fun nx2 => ?_
  (repeat((conv=>whnf);first|apply ω0|apply ω1|apply ω2|refine τ3 rfl ?_|refine τ4 rfl ?_|refine ⟨rfl,?_⟩|apply τa|refine τb rfl ?_|refine ⟨⟨by kernel_rfl,by kernel_rfl⟩,?_⟩|refine ⟨by decide,?_⟩|apply τt|apply τf))
  refine aw_loop (fun y : Nat × List Rul × Option Nat × Nat => mk 43 [(2, strA s), (3, putF s1), (4, .bp (1, nx) 0), (5, .bp (2, nx + 1) 0), (16, ruls A), (17, int A.length), (18, int y.1)] ⟨psB nx p q s1 d x y.2.1 y.2.2.1, pmOf (nmd y.2.2.1) (y.2.1.length * 4), y.2.2.2, 3⟩) (fun y => y.1 ≤ A.length ∧ (y.2.2.1 = none → y.2.1 = []) ∧ y.2.1.length ≤ 500 ∧ pairA B (A.drop y.1) y.2.1 = pairA B A R0) (fun y => A.length - y.1) ?_ ?_
  · exact ⟨(0, R0, oi, nx2), ⟨Nat.zero_le _, h0, hR, rfl⟩, ele_tell _ _ rfl rfl (List.Sublist.refl _) (List.Sublist.refl _) (BxLe.refl _) (PmEq_refl' _) ⟨AVle.refl _, AVle.refl _, AVle.refl _, AVle.refl _, AVle.refl _, AVle.refl _, AVle.refl _, trivial⟩⟩
  · rintro ⟨i, R, oi, nx3⟩ ⟨h1, h2, h3, h4⟩
    dsimp only at h1 h2 h3 h4
    (repeat((conv=>whnf);first|apply ω0|apply ω1|apply ω2|refine τ3 rfl ?_|refine τ4 rfl ?_|refine ⟨rfl,?_⟩|apply τa|refine τb rfl ?_|refine ⟨⟨by kernel_rfl,by kernel_rfl⟩,?_⟩|refine ⟨by decide,?_⟩|apply τt|apply τf))
    intro c g; cases c
    · have g := not_of g
      try dsimp only at g
      rw [pairA_done (by omega)] at h4
      rw [← h4]
      (repeat((conv=>whnf);first|apply ω0|apply ω1|apply ω2|refine τ3 rfl ?_|refine τ4 rfl ?_|refine ⟨rfl,?_⟩|apply τa|refine τb rfl ?_|refine ⟨⟨by kernel_rfl,by kernel_rfl⟩,?_⟩|refine ⟨by decide,?_⟩|apply τt|apply τf))
      exact ret_is rfl ⟨_, _, AVle.refl _, hle_tell (nn := 1) (bx := outB s1 d x R oi) (pm := pmOf (nmd oi) (R.length * 4)) _ _ rfl (.cons _ (.cons _ (List.Sublist.refl _))) (List.Sublist.refl _) (BxLe.refl _) (PmEq_refl' _), R, oi, _, rfl, h2, h3, fun _ h => Option.some.inj h, rfl⟩
    · have g := yes_of g
      try dsimp only at g
      have hi : i < A.length := by omega
      rw [pairA_at hi] at h4
      have hcai := hca i
      (repeat((conv=>whnf);first|apply ω0|apply ω1|apply ω2|refine τ3 rfl ?_|refine τ4 rfl ?_|refine ⟨rfl,?_⟩|apply τa|refine τb rfl ?_|refine ⟨⟨by kernel_rfl,by kernel_rfl⟩,?_⟩|refine ⟨by decide,?_⟩|apply τt|apply τf))
      refine ⟨⟨by first | omega | (dsimp only; omega), by first | omega | (dsimp only; omega)⟩, ?_⟩
      (repeat((conv=>whnf);first|apply ω0|apply ω1|apply ω2|refine τ3 rfl ?_|refine τ4 rfl ?_|refine ⟨rfl,?_⟩|apply τa|refine τb rfl ?_|refine ⟨⟨by kernel_rfl,by kernel_rfl⟩,?_⟩|refine ⟨by decide,?_⟩|apply τt|apply τf))
      refine splitO_eq (b := polA q) rfl ?_
      (repeat((conv=>whnf);first|apply ω0|apply ω1|apply ω2|refine τ3 rfl ?_|refine τ4 rfl ?_|refine ⟨rfl,?_⟩|apply τa|refine τb rfl ?_|refine ⟨⟨by kernel_rfl,by kernel_rfl⟩,?_⟩|refine ⟨by decide,?_⟩|apply τt|apply τf))
      refine aop_tells rfl rfl hoq ⟨AVle.refl _, AVle.refl _, trivial⟩ fun nx4 => ?_
      (repeat((conv=>whnf);first|apply ω0|apply ω1|apply ω2|refine τ3 rfl ?_|refine τ4 rfl ?_|refine ⟨rfl,?_⟩|apply τa|refine τb rfl ?_|refine ⟨⟨by kernel_rfl,by kernel_rfl⟩,?_⟩|refine ⟨by decide,?_⟩|apply τt|apply τf))
      refine aw_loop (fun y : Nat × List Rul × Option Nat × Nat => mk 43 [(2, strA s), (3, putF s1), (4, .bp (1, nx) 0), (5, .bp (2, nx + 1) 0), (10, .bp (3, nx3) 0), (16, ruls A), (17, int A.length), (18, int i), (24, ruls B), (25, int B.length), (26, int y.1)] ⟨psB2 nx nx3 (A.getD i rul0) p q s1 d x y.2.1 y.2.2.1, pmOf (nmd y.2.2.1) (y.2.1.length * 4), y.2.2.2, 4⟩) (fun y => y.1 ≤ B.length ∧ (y.2.2.1 = none → y.2.1 = []) ∧ y.2.1.length ≤ 500 ∧ pairB (A.getD i rul0) (B.drop y.1) y.2.1 = pairB (A.getD i rul0) B R) (fun y => B.length - y.1) ?_ ?_
      · exact ⟨(0, R, oi, nx4), ⟨Nat.zero_le _, h2, h3, rfl⟩, ele_tell (bx := psB2 nx nx3 (A.getD i rul0) p q s1 d x R oi) _ _ rfl rfl (List.Sublist.refl _) (List.Sublist.refl _) (BxLe.refl _) (PmEq_refl' _) ⟨AVle.refl _, AVle.refl _, AVle.refl _, AVle.refl _, AVle.refl _, AVle.refl _, AVle.refl _, AVle.refl _, AVle.refl _, AVle.refl _, AVle.refl _, trivial⟩⟩
      · rintro ⟨j, R2, oi2, nx5⟩ ⟨k1, k2, k3, k4⟩
        dsimp only at k1 k2 k3 k4
        (repeat((conv=>whnf);first|apply ω0|apply ω1|apply ω2|refine τ3 rfl ?_|refine τ4 rfl ?_|refine ⟨rfl,?_⟩|apply τa|refine τb rfl ?_|refine ⟨⟨by kernel_rfl,by kernel_rfl⟩,?_⟩|refine ⟨by decide,?_⟩|apply τt|apply τf))
        intro c g2; cases c
        · have g2 := not_of g2
          try dsimp only at g2
          rw [pairB_done (by omega)] at k4
          rw [← k4] at h4
          (repeat((conv=>whnf);first|apply ω0|apply ω1|apply ω2|refine τ3 rfl ?_|refine τ4 rfl ?_|refine ⟨rfl,?_⟩|apply τa|refine τb rfl ?_|refine ⟨⟨by kernel_rfl,by kernel_rfl⟩,?_⟩|refine ⟨by decide,?_⟩|apply τt|apply τf))
          exact back (i + 1, R2, oi2, nx5) ⟨hi, k2, k3, h4⟩ (by dsimp only; omega) (ele_tell (bx := psB nx p q s1 d x R2 oi2) _ _ rfl rfl (.cons _ (List.Sublist.refl _)) (List.Sublist.refl _) (BxLe.refl _) (PmEq_refl' _) ⟨AVle.refl _, AVle.refl _, AVle.refl _, AVle.refl _, AVle.refl _, AVle.refl _, le_int (wrap_succ (by first | omega | (dsimp only; omega))), trivial⟩)
        · have g2 := yes_of g2
          try dsimp only at g2
          have hj : j < B.length := by omega
          have hcbj := hcb j
          have e1 := pairB_bad (a := A.getD i rul0) (R := R2) hj
          have e2 := pairB_stop (a := A.getD i rul0) (R := R2) hj
          have e3 := pairB_go (a := A.getD i rul0) (R := R2) hj
          have hpr := pair25_spec (A.getD i rul0) (B.getD j rul0) hcai hcbj
          have hpc2 := pair_conds hcai hcbj
          generalize hx : pairR (A.getD i rul0) (B.getD j rul0) = xr at hpr hpc2 e1 e2 e3
          (repeat((conv=>whnf);first|apply ω0|apply ω1|apply ω2|refine τ3 rfl ?_|refine τ4 rfl ?_|refine ⟨rfl,?_⟩|apply τa|refine τb rfl ?_|refine ⟨⟨by kernel_rfl,by kernel_rfl⟩,?_⟩|refine ⟨by decide,?_⟩|apply τt|apply τf))
          refine ⟨⟨by first | omega | (dsimp only; omega), by first | omega | (dsimp only; omega)⟩, ?_⟩
          (repeat((conv=>whnf);first|apply ω0|apply ω1|apply ω2|refine τ3 rfl ?_|refine τ4 rfl ?_|refine ⟨rfl,?_⟩|apply τa|refine τb rfl ?_|refine ⟨⟨by kernel_rfl,by kernel_rfl⟩,?_⟩|refine ⟨by decide,?_⟩|apply τt|apply τf))
          refine aop_tells rfl rfl hpr ⟨AVle.refl _, AVle.refl _, trivial⟩ fun nx6 => ?_
          (repeat((conv=>whnf);first|apply ω0|apply ω1|apply ω2|refine τ3 rfl ?_|refine τ4 rfl ?_|refine ⟨rfl,?_⟩|apply τa|refine τb rfl ?_|refine ⟨⟨by kernel_rfl,by kernel_rfl⟩,?_⟩|refine ⟨by decide,?_⟩|apply τt|apply τf))
          refine splitO_eq (b := rulA xr) rfl ?_
          (repeat((conv=>whnf);first|apply ω0|apply ω1|apply ω2|refine τ3 rfl ?_|refine τ4 rfl ?_|refine ⟨rfl,?_⟩|apply τa|refine τb rfl ?_|refine ⟨⟨by kernel_rfl,by kernel_rfl⟩,?_⟩|refine ⟨by decide,?_⟩|apply τt|apply τf))
          refine splitO_eq (b := rulA xr) rfl ?_
          (repeat((conv=>whnf);first|apply ω0|apply ω1|apply ω2|refine τ3 rfl ?_|refine τ4 rfl ?_|refine ⟨rfl,?_⟩|apply τa|refine τb rfl ?_|refine ⟨⟨by kernel_rfl,by kernel_rfl⟩,?_⟩|refine ⟨by decide,?_⟩|apply τt|apply τf))
          refine aop_callF (xs := [rulA xr, .bp (0, s1) 0]) (h1 := outH s1 d x R2 oi2 (nx6 + 1)) (bx1 := outB s1 d x R2 oi2) (pm1 := pmOf (nmd oi2) (R2.length * 4)) [((5, nx6), .c (rulC xr)), ((4, nx5), .c (rulC (B.getD j rul0))), ((3, nx3), .c (rulC (A.getD i rul0))), ((2, nx + 1), .c (polC q)), ((1, nx), .c (polC p))] [] 6 rfl rfl rfl rfl ⟨AVle.refl _, AVle.refl _, trivial⟩ (put_spec s1 (nx6 + 1) d x R2 oi2 xr k2 (by omega) k3) (BxLe.refl _) (PmEq_refl' _) rfl fun r h' hq => ?_
          obtain ⟨oi3, nx7, hr, q1, q2⟩ := hq
          subst hr
          cases hb : badR R2 xr
          · obtain ⟨q3, hq4⟩ := q1 hb
            subst hq4
            have hle := badR_le hb k3
            have e2 := e2 hb
            have e3 := e3 hb
            clear q2 q1 e1
            (repeat((conv=>whnf);first|apply ω0|apply ω1|apply ω2|refine τ3 rfl ?_|refine τ4 rfl ?_|refine ⟨rfl,?_⟩|apply τa|refine τb rfl ?_|refine ⟨⟨by kernel_rfl,by kernel_rfl⟩,?_⟩|refine ⟨by decide,?_⟩|apply τt|apply τf))
            by_cases hc : xr.conds = []
            · have e2 := e2 hc
              rw [k4] at e2
              rw [e2] at h4
              intro c hcc
              have hc2 : c = true := hcc.trans (beq_iff_eq.2 (congrArg (fun l : List Cnd => Int.ofNat l.length) hc))
              clear hcc; subst hc2
              rw [← h4]
              (repeat((conv=>whnf);first|apply ω0|apply ω1|apply ω2|refine τ3 rfl ?_|refine τ4 rfl ?_|refine ⟨rfl,?_⟩|apply τa|refine τb rfl ?_|refine ⟨⟨by kernel_rfl,by kernel_rfl⟩,?_⟩|refine ⟨by decide,?_⟩|apply τt|apply τf))
              exact ret_is rfl ⟨_, _, AVle.refl _, hle_tell (nn := 1) (bx := outB s1 d x (R2 ++ [xr]) oi3) (pm := pmOf (nmd oi3) ((R2 ++ [xr]).length * 4)) _ _ rfl (.cons _ (.cons _ (.cons _ (.cons _ (.cons _ (List.Sublist.refl _)))))) (List.Sublist.refl _) (BxLe.refl _) (PmEq_refl' _), R2 ++ [xr], oi3, _, rfl, q3, hle.1, fun _ h => Option.some.inj h, rfl⟩
            · have e3 := e3 hc
              intro c hcc
              have hc2 : c = false := hcc.trans (beq_eq_false_iff_ne.2 fun h => hc (List.length_eq_zero_iff.1 (Int.ofNat.inj h)))
              clear hcc; subst hc2
              (repeat((conv=>whnf);first|apply ω0|apply ω1|apply ω2|refine τ3 rfl ?_|refine τ4 rfl ?_|refine ⟨rfl,?_⟩|apply τa|refine τb rfl ?_|refine ⟨⟨by kernel_rfl,by kernel_rfl⟩,?_⟩|refine ⟨by decide,?_⟩|apply τt|apply τf))
              exact back (j + 1, R2 ++ [xr], oi3, nx7) ⟨hj, q3, hle.1, by rw [← k4, e3]⟩ (by dsimp only; omega) (ele_tell (bx := psB2 nx nx3 (A.getD i rul0) p q s1 d x (R2 ++ [xr]) oi3) _ _ rfl rfl (.cons _ (.cons _ (List.Sublist.refl _))) (List.Sublist.refl _) (BxLe.refl _) (PmEq_refl' _) ⟨AVle.refl _, AVle.refl _, AVle.refl _, AVle.refl _, AVle.refl _, AVle.refl _, AVle.refl _, AVle.refl _, AVle.refl _, AVle.refl _, le_int (wrap_succ (by first | omega | (dsimp only; omega))), trivial⟩)
          · have hq4 := q2 hb
            subst hq4
            have e1 := e1 hb
            rw [k4] at e1
            rw [e1] at h4
            clear q2 q1
            rw [← h4]
            (repeat((conv=>whnf);first|apply ω0|apply ω1|apply ω2|refine τ3 rfl ?_|refine τ4 rfl ?_|refine ⟨rfl,?_⟩|apply τa|refine τb rfl ?_|refine ⟨⟨by kernel_rfl,by kernel_rfl⟩,?_⟩|refine ⟨by decide,?_⟩|apply τt|apply τf))
            exact ret_is rfl ⟨_, _, AVle.refl _, hle_tell (nn := 1) (bx := outB s1 d x R2 oi2) (pm := pmOf (nmd oi2) ((R2).length * 4)) _ _ rfl (.cons _ (.cons _ (.cons _ (.cons _ (.cons _ (List.Sublist.refl _)))))) (List.Sublist.refl _) (BxLe.refl _) (PmEq_refl' _), R2, oi2, _, rfl, k2, k3, (fun _ h => by cases h), rfl⟩
end Go.Proofs.W

namespace Go.Proofs.W
open Go.Vl
set_option maxRecDepth 100000

def mergeR (p q : Pol) : List ByteArray → List Rul → Option (List Rul)
  | [], R => some R
  | s :: N, R => match pairA (ofL q s) (ofL p s) R with
    | none => none
    | some R' => mergeR p q N R'
def pol0 : Pol := ⟨(0, 0), false, []⟩
/-- What stack.Merge tells. -/
def mergeP (p q : Pol) : Pol × Int :=
  if rightP p && rightP q then
    match mergeR p q (namesL (p.rules ++ q.rules)) [] with
    | some R => (⟨bothA p.dflt q.dflt, p.x32 && q.x32, R⟩, 0)
    | none => (pol0, 3)
  else (pol0, 13)
theorem mergeR_done {p q : Pol} {N : List ByteArray} {R : List Rul} {i : Nat} (h : i = N.length) : mergeR p q (N.drop i) R = some R := by subst h; rw [List.drop_length]; rfl
theorem mergeR_at {p q : Pol} {N : List ByteArray} {R : List Rul} {i : Nat} (h : i < N.length) : mergeR p q (N.drop i) R = match pairA (ofL q (N.getD i ⟨#[]⟩)) (ofL p (N.getD i ⟨#[]⟩)) R with
    | none => none
    | some R' => mergeR p q (N.drop (i + 1)) R' := by
  rw [List.drop_eq_getElem_cons h, show N[i] = N.getD i ⟨#[]⟩ by simp [List.getD, h]]; rfl
theorem rightP_conds {p : Pol} (h : rightP p = true) : p.rules.length ≤ 500 ∧ ∀ r ∈ p.rules, r.conds.length ≤ 6 := by
  unfold rightP at h
  simp only [Bool.and_eq_true, decide_eq_true_eq, Bool.not_eq_true'] at h
  refine ⟨h.2.1, fun r hr => ?_⟩
  have h2 := List.any_eq_false.1 h.2.2 r hr
  unfold rightR at h2
  simp only [Bool.not_eq_true', Bool.not_eq_false, Bool.and_eq_true, decide_eq_true_eq] at h2
  exact h2.2.2.1
theorem z_pol : zcells Tryd.prog 31 = some [int 0, int 0, boolA false, .os 0 0 (fun _ => .any) none] := by kernel_rfl
def mgB (nx : Nat) (p q : Pol) : List (Vl.Id × Own) := [((2, nx + 2), .c [int 0, int 0, boolA false, .os 0 0 (fun _ => .any) none]), ((1, nx + 1), .c (polC q)), ((0, nx), .c (polC p))]
def mgO (s1 : Nat) (d : A2) (x : Bool) (R : List Rul) (oi : Option Nat) : List (Vl.Id × Own) := [((3, s1), .c [int d.1, int d.2, boolA x, .os 4 R.length (rulF R) (nmd oi)])]
set_option maxHeartbeats 4000000 in
theorem merge_spec (p q : Pol) (hp : p.ok) (hq : q.ok) : Tells Tryd.prog 5 [polA p, polA q] (.tup [polA (mergeP p q).1, int (mergeP p q).2]) := by
  have hrp := pright_spec p hp
  have hrq := pright_spec q hq
  have hcp : rightP p = true → _ := rightP_conds
  have hcq : rightP q = true → _ := rightP_conds
  unfold mergeP
  generalize rightP p = rp at hrp hcp ⊢
  generalize rightP q = rq at hrq hcq ⊢
  refine tells_of_aw Tryd.func5 rfl rfl fun nx => ?_
  (repeat((conv=>whnf);first|apply ω0|apply ω1|apply ω2|refine τ3 rfl ?_|refine τ4 rfl ?_|refine ⟨rfl,?_⟩|apply τa|refine τb rfl ?_|refine ⟨⟨by kernel_rfl,by kernel_rfl⟩,?_⟩|refine ⟨by decide,?_⟩|apply τt|apply τf))
  refine splitO_eq (b := polA p) rfl ?_
  (repeat((conv=>whnf);first|apply ω0|apply ω1|apply ω2|refine τ3 rfl ?_|refine τ4 rfl ?_|refine ⟨rfl,?_⟩|apply τa|refine τb rfl ?_|refine ⟨⟨by kernel_rfl,by kernel_rfl⟩,?_⟩|refine ⟨by decide,?_⟩|apply τt|apply τf))
  refine aop_tells rfl rfl hrp ⟨AVle.refl _, trivial⟩ fun nx2 => ?_
  cases rp
  · (repeat((conv=>whnf);first|apply ω0|apply ω1|apply ω2|refine τ3 rfl ?_|refine τ4 rfl ?_|refine ⟨rfl,?_⟩|apply τa|refine τb rfl ?_|refine ⟨⟨by kernel_rfl,by kernel_rfl⟩,?_⟩|refine ⟨by decide,?_⟩|apply τt|apply τf))
    exact ret_tells_all rfl (by first | trivial | exact ⟨rfl, trivial⟩ | exact ⟨⟨rfl, rfl⟩, trivial⟩) (AVle.tups (cs := [_, _]) ⟨AVle.ags (cs := [_, _, _, _]) ⟨AVle.refl _, AVle.refl _, AVle.refl _, AVle.os_sl0, trivial⟩, AVle.refl _, trivial⟩)
  have hcp := hcp rfl
  (repeat((conv=>whnf);first|apply ω0|apply ω1|apply ω2|refine τ3 rfl ?_|refine τ4 rfl ?_|refine ⟨rfl,?_⟩|apply τa|refine τb rfl ?_|refine ⟨⟨by kernel_rfl,by kernel_rfl⟩,?_⟩|refine ⟨by decide,?_⟩|apply τt|apply τf))
  refine splitO_eq (b := polA q) rfl ?_
  (repeat((conv=>whnf);first|apply ω0|apply ω1|apply ω2|refine τ3 rfl ?_|refine τ4 rfl ?_|refine ⟨rfl,?_⟩|apply τa|refine τb rfl ?_|refine ⟨⟨by kernel_rfl,by kernel_rfl⟩,?_⟩|refine ⟨by decide,?_⟩|apply τt|apply τf))
  refine aop_tells rfl rfl hrq ⟨AVle.refl _, trivial⟩ fun nx3 => ?_
  cases rq
  · (repeat((conv=>whnf);first|apply ω0|apply ω1|apply ω2|refine τ3 rfl ?_|refine τ4 rfl ?_|refine ⟨rfl,?_⟩|apply τa|refine τb rfl ?_|refine ⟨⟨by kernel_rfl,by kernel_rfl⟩,?_⟩|refine ⟨by decide,?_⟩|apply τt|apply τf))
    exact ret_tells_all rfl (by first | trivial | exact ⟨rfl, trivial⟩ | exact ⟨⟨rfl, rfl⟩, trivial⟩) (AVle.tups (cs := [_, _]) ⟨AVle.ags (cs := [_, _, _, _]) ⟨AVle.refl _, AVle.refl _, AVle.refl _, AVle.os_sl0, trivial⟩, AVle.refl _, trivial⟩)
  have hcq := hcq rfl
  (repeat((conv=>whnf);first|apply ω0|apply ω1|apply ω2|refine τ3 rfl ?_|refine τ4 rfl ?_|refine ⟨rfl,?_⟩|apply τa|refine τb rfl ?_|refine ⟨⟨by kernel_rfl,by kernel_rfl⟩,?_⟩|refine ⟨by decide,?_⟩|apply τt|apply τf))
  refine AW.le (E' := mk 49 [(2, .bp (0, nx) 0), (3, .bp (1, nx + 1) 0), (4, .bp (2, nx + 2) 0)] ⟨mgB nx p q, [], nx3, 3⟩) (ele_tell _ _ rfl rfl (List.Sublist.refl _) .slnil (BxLe.refl _) trivial ⟨AVle.refl _, AVle.refl _, AVle.refl _, trivial⟩) ?_
  have hboth := both25_spec p.dflt q.dflt
  have hnm := names_spec p q (by omega) (by omega)
  have hNl := namesL_le (p.rules ++ q.rules)
  rw [List.length_append] at hNl
  simp only [Bool.and_true, if_true]
  generalize namesL (p.rules ++ q.rules) = N at hnm hNl ⊢
  generalize hd : bothA p.dflt q.dflt = d at hboth ⊢
  generalize hx : (p.x32 && q.x32) = x
  refine aw_mid (fun y : Nat => mk 49 [(2, .bp (0, nx) 0), (3, .bp (1, nx + 1) 0), (4, .bp (2, nx + 2) 0), (6, .bp (3, y) 0)] ⟨mgO y d x [] none ++ mgB nx p q, [], y + 1, 4⟩) (fun y => True) ?_ ?_
  · rcases p with ⟨pd, px, prs⟩
    cases px
    · dsimp only at hx
      refine aw_mixN 13 _ (fun i => match i with | 12 => true | _ => false) (fun i => match i with | 4 => true | _ => false) [0, 1, 2, 3, 4, 5, 6, 7, 8, 9, 10, 11, 12] (by kernel_rfl) (by kernel_rfl) (HB.refl _) ?_
      (repeat((conv=>whnf);first|apply ω0|apply ω1|apply ω2|refine τ3 rfl ?_|refine τ4 rfl ?_|refine ⟨rfl,?_⟩|apply τa|refine τb rfl ?_|refine ⟨⟨by kernel_rfl,by kernel_rfl⟩,?_⟩|refine ⟨by decide,?_⟩|apply τt|apply τf))
      refine splitV_eq (b := actP q.dflt) rfl ?_
      (repeat((conv=>whnf);first|apply ω0|apply ω1|apply ω2|refine τ3 rfl ?_|refine τ4 rfl ?_|refine ⟨rfl,?_⟩|apply τa|refine τb rfl ?_|refine ⟨⟨by kernel_rfl,by kernel_rfl⟩,?_⟩|refine ⟨by decide,?_⟩|apply τt|apply τf))
      refine ⟨_, pure_tells rfl rfl rfl hboth ⟨AVle.refl _, AVle.refl _, trivial⟩ (NoId.ag (by intro y hy; simp at hy; rcases hy with rfl | rfl <;> exact NoId.v _)), ?_⟩
      (repeat((conv=>whnf);first|apply ω0|apply ω1|apply ω2|refine τ3 rfl ?_|refine τ4 rfl ?_|refine ⟨rfl,?_⟩|apply τa|refine τb rfl ?_|refine ⟨⟨by kernel_rfl,by kernel_rfl⟩,?_⟩|refine ⟨by decide,?_⟩|apply τt|apply τf))
      refine splitV_eq (b := .v (.bool false)) rfl ?_
      (repeat((conv=>whnf);first|apply ω0|apply ω1|apply ω2|refine τ3 rfl ?_|refine τ4 rfl ?_|refine ⟨rfl,?_⟩|apply τa|refine τb rfl ?_|refine ⟨⟨by kernel_rfl,by kernel_rfl⟩,?_⟩|refine ⟨by decide,?_⟩|apply τt|apply τf))
      refine ⟨_, pure_no rfl rfl rfl, ?_⟩
      (repeat((conv=>whnf);first|apply ω0|apply ω1|apply ω2|refine τ3 rfl ?_|refine τ4 rfl ?_|refine ⟨rfl,?_⟩|apply τa|refine τb rfl ?_|refine ⟨⟨by kernel_rfl,by kernel_rfl⟩,?_⟩|refine ⟨by decide,?_⟩|apply τt|apply τf))
      refine ⟨_, pure_no rfl rfl rfl, ?_⟩
      (repeat((conv=>whnf);first|apply ω0|apply ω1|apply ω2|refine τ3 rfl ?_|refine τ4 rfl ?_|refine ⟨rfl,?_⟩|apply τa|refine τb rfl ?_|refine ⟨⟨by kernel_rfl,by kernel_rfl⟩,?_⟩|refine ⟨by decide,?_⟩|apply τt|apply τf))
      refine ⟨_, eff_alloc rfl rfl z_pol (HB.cons rfl (HB.cons rfl (HB.one rfl))), fun r h' hr => ?_⟩
      obtain ⟨rfl, rfl⟩ := hr
      (repeat((conv=>whnf);first|apply ω0|apply ω1|apply ω2|refine τ3 rfl ?_|refine τ4 rfl ?_|refine ⟨rfl,?_⟩|apply τa|refine τb rfl ?_|refine ⟨⟨by kernel_rfl,by kernel_rfl⟩,?_⟩|refine ⟨by decide,?_⟩|apply τt|apply τf))
      exact ⟨nx3, trivial, ele_tell (bx := mgO nx3 d x [] none ++ mgB nx ⟨pd, false, prs⟩ q) _ _ rfl rfl (List.Sublist.refl _) (List.Sublist.refl _) ⟨rfl, ⟨AVle.refl _, AVle.refl _, le_bool hx, AVle.os_nil, trivial⟩, BxLe.refl _⟩ trivial ⟨AVle.refl _, AVle.refl _, AVle.refl _, AVle.refl _, trivial⟩⟩
    · dsimp only at hx
      refine aw_mixN 13 _ (fun i => match i with | 12 => true | _ => false) (fun i => match i with | 4 => true | _ => false) [0, 1, 2, 3, 4, 5, 6, 7, 8, 9, 10, 11, 12] (by kernel_rfl) (by kernel_rfl) (HB.refl _) ?_
      (repeat((conv=>whnf);first|apply ω0|apply ω1|apply ω2|refine τ3 rfl ?_|refine τ4 rfl ?_|refine ⟨rfl,?_⟩|apply τa|refine τb rfl ?_|refine ⟨⟨by kernel_rfl,by kernel_rfl⟩,?_⟩|refine ⟨by decide,?_⟩|apply τt|apply τf))
      refine splitV_eq (b := actP q.dflt) rfl ?_
      (repeat((conv=>whnf);first|apply ω0|apply ω1|apply ω2|refine τ3 rfl ?_|refine τ4 rfl ?_|refine ⟨rfl,?_⟩|apply τa|refine τb rfl ?_|refine ⟨⟨by kernel_rfl,by kernel_rfl⟩,?_⟩|refine ⟨by decide,?_⟩|apply τt|apply τf))
      refine ⟨_, pure_tells rfl rfl rfl hboth ⟨AVle.refl _, AVle.refl _, trivial⟩ (NoId.ag (by intro y hy; simp at hy; rcases hy with rfl | rfl <;> exact NoId.v _)), ?_⟩
      (repeat((conv=>whnf);first|apply ω0|apply ω1|apply ω2|refine τ3 rfl ?_|refine τ4 rfl ?_|refine ⟨rfl,?_⟩|apply τa|refine τb rfl ?_|refine ⟨⟨by kernel_rfl,by kernel_rfl⟩,?_⟩|refine ⟨by decide,?_⟩|apply τt|apply τf))
      refine splitV_eq (b := .v (.bool true)) rfl ?_
      (repeat((conv=>whnf);first|apply ω0|apply ω1|apply ω2|refine τ3 rfl ?_|refine τ4 rfl ?_|refine ⟨rfl,?_⟩|apply τa|refine τb rfl ?_|refine ⟨⟨by kernel_rfl,by kernel_rfl⟩,?_⟩|refine ⟨by decide,?_⟩|apply τt|apply τf))
      refine ⟨_, pure_yes rfl rfl rfl rfl (by first | trivial | exact ⟨rfl, Nat.le_of_ble_eq_true rfl⟩), ?_⟩
      (repeat((conv=>whnf);first|apply ω0|apply ω1|apply ω2|refine τ3 rfl ?_|refine τ4 rfl ?_|refine ⟨rfl,?_⟩|apply τa|refine τb rfl ?_|refine ⟨⟨by kernel_rfl,by kernel_rfl⟩,?_⟩|refine ⟨by decide,?_⟩|apply τt|apply τf))
      refine ⟨_, pure_yes rfl rfl rfl rfl (by first | trivial | exact ⟨rfl, Nat.le_of_ble_eq_true rfl⟩), ?_⟩
      (repeat((conv=>whnf);first|apply ω0|apply ω1|apply ω2|refine τ3 rfl ?_|refine τ4 rfl ?_|refine ⟨rfl,?_⟩|apply τa|refine τb rfl ?_|refine ⟨⟨by kernel_rfl,by kernel_rfl⟩,?_⟩|refine ⟨by decide,?_⟩|apply τt|apply τf))
      refine splitV_eq (b := .v (.bool q.x32)) rfl ?_
      (repeat((conv=>whnf);first|apply ω0|apply ω1|apply ω2|refine τ3 rfl ?_|refine τ4 rfl ?_|refine ⟨rfl,?_⟩|apply τa|refine τb rfl ?_|refine ⟨⟨by kernel_rfl,by kernel_rfl⟩,?_⟩|refine ⟨by decide,?_⟩|apply τt|apply τf))
      refine ⟨_, eff_alloc rfl rfl z_pol (HB.cons rfl (HB.cons rfl (HB.one rfl))), fun r h' hr => ?_⟩
      obtain ⟨rfl, rfl⟩ := hr
      (repeat((conv=>whnf);first|apply ω0|apply ω1|apply ω2|refine τ3 rfl ?_|refine τ4 rfl ?_|refine ⟨rfl,?_⟩|apply τa|refine τb rfl ?_|refine ⟨⟨by kernel_rfl,by kernel_rfl⟩,?_⟩|refine ⟨by decide,?_⟩|apply τt|apply τf))
      exact ⟨nx3, trivial, ele_tell (bx := mgO nx3 d x [] none ++ mgB nx ⟨pd, true, prs⟩ q) _ _ rfl rfl (List.Sublist.refl _) (List.Sublist.refl _) ⟨rfl, ⟨AVle.refl _, AVle.refl _, le_bool hx, AVle.os_nil, trivial⟩, BxLe.refl _⟩ trivial ⟨AVle.refl _, AVle.refl _, AVle.refl _, AVle.refl _, trivial⟩⟩
  · rintro s1 -
    (repeat((conv=>whnf);first|apply ω0|apply ω1|apply ω2|refine τ3 rfl ?_|refine τ4 rfl ?_|refine ⟨rfl,?_⟩|apply τa|refine τb rfl ?_|refine ⟨⟨by kernel_rfl,by kernel_rfl⟩,?_⟩|refine ⟨by decide,?_⟩|apply τt|apply τf))
    refine splitO_eq (b := polA q) rfl ?_
    (repeat((conv=>whnf);first|apply ω0|apply ω1|apply ω2|refine τ3 rfl ?_|refine τ4 rfl ?_|refine ⟨rfl,?_⟩|apply τa|refine τb rfl ?_|refine ⟨⟨by kernel_rfl,by kernel_rfl⟩,?_⟩|refine ⟨by decide,?_⟩|apply τt|apply τf))
    refine aop_tells rfl rfl hnm ⟨AVle.refl _, AVle.refl _, trivial⟩ fun nx4 => ?_
    (repeat((conv=>whnf);first|apply ω0|apply ω1|apply ω2|refine τ3 rfl ?_|refine τ4 rfl ?_|refine ⟨rfl,?_⟩|apply τa|refine τb rfl ?_|refine ⟨⟨by kernel_rfl,by kernel_rfl⟩,?_⟩|refine ⟨by decide,?_⟩|apply τt|apply τf))
    refine aw_loop (fun y : Nat × List Rul × Option Nat × Nat × Nat => mk 49 [(2, .bp (0, nx) 0), (3, .bp (1, nx + 1) 0), (4, .bp (2, nx + 2) 0), (6, .bp (3, s1) 0), (7, .fn (.func 13) [] [.bp (3, s1) 0]), (34, strs N), (35, int N.length), (36, int y.1)] ⟨mgO s1 d x y.2.1 y.2.2.1 ++ mgB nx p q, pmOf (nmd y.2.2.1) (y.2.1.length * 4), y.2.2.2.1, 4⟩) (fun y => y.1 ≤ N.length ∧ (y.2.2.1 = none → y.2.1 = []) ∧ y.2.1.length ≤ 500 ∧ mergeR p q (N.drop y.1) y.2.1 = mergeR p q N []) (fun y => N.length - y.1) ?_ ?_
    · exact ⟨(0, [], none, nx4, 0), ⟨Nat.zero_le _, fun _ => rfl, Nat.zero_le _, rfl⟩, ele_tell (pm := []) _ _ rfl rfl (List.Sublist.refl _) (List.Sublist.refl _) (BxLe.refl _) trivial ⟨AVle.refl _, AVle.refl _, AVle.refl _, AVle.refl _, AVle.refl _, AVle.refl _, AVle.refl _, AVle.refl _, trivial⟩⟩
    · rintro ⟨i, R, oi, nx5, z⟩ ⟨h1, h2, h3, h4⟩
      dsimp only at h1 h2 h3 h4
      (repeat((conv=>whnf);first|apply ω0|apply ω1|apply ω2|refine τ3 rfl ?_|refine τ4 rfl ?_|refine ⟨rfl,?_⟩|apply τa|refine τb rfl ?_|refine ⟨⟨by kernel_rfl,by kernel_rfl⟩,?_⟩|refine ⟨by decide,?_⟩|apply τt|apply τf))
      intro c g; cases c
      · have g := not_of g
        try dsimp only at g
        rw [mergeR_done (by omega)] at h4
        rw [← h4]
        (repeat((conv=>whnf);first|apply ω0|apply ω1|apply ω2|refine τ3 rfl ?_|refine τ4 rfl ?_|refine ⟨rfl,?_⟩|apply τa|refine τb rfl ?_|refine ⟨⟨by kernel_rfl,by kernel_rfl⟩,?_⟩|refine ⟨by decide,?_⟩|apply τt|apply τf))
        exact ret_tells_all rfl (by first | trivial | exact ⟨rfl, trivial⟩ | exact ⟨⟨rfl, rfl⟩, trivial⟩) (AVle.tups (cs := [_, _]) ⟨AVle.ags (cs := [_, _, _, _]) ⟨AVle.refl _, AVle.refl _, AVle.refl _, AVle.os_sl, trivial⟩, AVle.refl _, trivial⟩)
      · have g := yes_of g
        try dsimp only at g
        have hi : i < N.length := by omega
        rw [mergeR_at hi] at h4
        (repeat((conv=>whnf);first|apply ω0|apply ω1|apply ω2|refine τ3 rfl ?_|refine τ4 rfl ?_|refine ⟨rfl,?_⟩|apply τa|refine τb rfl ?_|refine ⟨⟨by kernel_rfl,by kernel_rfl⟩,?_⟩|refine ⟨by decide,?_⟩|apply τt|apply τf))
        refine ⟨⟨by first | omega | (dsimp only; omega), by first | omega | (dsimp only; omega)⟩, ?_⟩
        (repeat((conv=>whnf);first|apply ω0|apply ω1|apply ω2|refine τ3 rfl ?_|refine τ4 rfl ?_|refine ⟨rfl,?_⟩|apply τa|refine τb rfl ?_|refine ⟨⟨by kernel_rfl,by kernel_rfl⟩,?_⟩|refine ⟨by decide,?_⟩|apply τt|apply τf))
        refine splitO_eq (b := polA q) rfl ?_
        (repeat((conv=>whnf);first|apply ω0|apply ω1|apply ω2|refine τ3 rfl ?_|refine τ4 rfl ?_|refine ⟨rfl,?_⟩|apply τa|refine τb rfl ?_|refine ⟨⟨by kernel_rfl,by kernel_rfl⟩,?_⟩|refine ⟨by decide,?_⟩|apply τt|apply τf))
        refine splitO_eq (b := polA q) rfl ?_
        (repeat((conv=>whnf);first|apply ω0|apply ω1|apply ω2|refine τ3 rfl ?_|refine τ4 rfl ?_|refine ⟨rfl,?_⟩|apply τa|refine τb rfl ?_|refine ⟨⟨by kernel_rfl,by kernel_rfl⟩,?_⟩|refine ⟨by decide,?_⟩|apply τt|apply τf))
        have hps := pairs_spec s1 nx5 p q (N.getD i ⟨#[]⟩) d x R oi h2 h3 (by omega) (by omega) (fun r hr => by have := hcp.2 r hr; omega) (fun r hr => by have := hcq.2 r hr; omega)
        generalize pairA (ofL q (N.getD i ⟨#[]⟩)) (ofL p (N.getD i ⟨#[]⟩)) R = o at h4 hps
        refine aop_callP (xs := [polA p, polA q, strA (N.getD i ⟨#[]⟩), putF s1]) (h1 := outH s1 d x R oi nx5) (bx1 := mgO s1 d x R oi) (pm1 := pmOf (nmd oi) (R.length * 4)) (mgB nx p q) [] 4 rfl rfl rfl rfl ⟨AVle.refl _, AVle.refl _, AVle.refl _, AVle.fn_caps ⟨AVle.bp_nm rfl, trivial⟩, trivial⟩ hps ⟨rfl, OwnLe.refl _, trivial⟩ (PmEq_refl' _) rfl fun r h' hq => ?_
        obtain ⟨R', oi', nx6, hr, hoi', hR', hsm, hh⟩ := hq
        subst hr hh
        clear hps
        cases o with
        | none =>
          rw [← h4]
          (repeat((conv=>whnf);first|apply ω0|apply ω1|apply ω2|refine τ3 rfl ?_|refine τ4 rfl ?_|refine ⟨rfl,?_⟩|apply τa|refine τb rfl ?_|refine ⟨⟨by kernel_rfl,by kernel_rfl⟩,?_⟩|refine ⟨by decide,?_⟩|apply τt|apply τf))
          exact ret_tells_all rfl (by first | trivial | exact ⟨rfl, trivial⟩ | exact ⟨⟨rfl, rfl⟩, trivial⟩) (AVle.tups (cs := [_, _]) ⟨AVle.ags (cs := [_, _, _, _]) ⟨AVle.refl _, AVle.refl _, AVle.refl _, AVle.os_sl0, trivial⟩, AVle.refl _, trivial⟩)
        | some R'' =>
          have he := hsm R'' rfl
          clear hsm; subst he
          (repeat((conv=>whnf);first|apply ω0|apply ω1|apply ω2|refine τ3 rfl ?_|refine τ4 rfl ?_|refine ⟨rfl,?_⟩|apply τa|refine τb rfl ?_|refine ⟨⟨by kernel_rfl,by kernel_rfl⟩,?_⟩|refine ⟨by decide,?_⟩|apply τt|apply τf))
          exact back (i + 1, R', oi', nx6, 0) ⟨hi, hoi', hR', h4⟩ (by dsimp only; omega) (ele_tell (bx := mgO s1 d x R' oi' ++ mgB nx p q) _ _ rfl rfl (List.Sublist.refl _) (List.Sublist.refl _) ⟨rfl, OwnLe.refl _, BxLe.refl _⟩ (PmEq_refl' _) ⟨AVle.refl _, AVle.refl _, AVle.refl _, AVle.refl _, AVle.refl _, AVle.refl _, AVle.refl _, le_int (wrap_succ (by first | omega | (dsimp only; omega))), trivial⟩)
end Go.Proofs.W

namespace Go.Proofs.W
open Go.Vl
set_option maxRecDepth 100000

/-- A kind's code, how great its number may be. -/
def kb (k : Nat) : Nat := [2147483648, 0, 196608, 327680, 2143289344, 2146435072, 2147221504, 2147418112].getD k 0
def km (k : Nat) : Nat := if k = 3 then 4095 else if k = 5 then 65535 else 0
def fits (v k : Nat) : Bool := decide (kb k ≤ v) && decide (v ≤ kb k + km k)
def fromI (v : Nat) : Option Nat := (List.range 8).find? (fits v)
def fromA (v : Nat) : A2 := match fromI v with
  | some k => ((k + 1 : Nat), (v - kb k : Nat))
  | none => (1, 0)
theorem row_kb (k : Nat) (h : k < 8) : ∃ s m, rowF rowsL k = .ag [.v (.string s), .v (.int .u32 (kb k)), m] ∧ Tells Tryd.prog 41 [rowF rowsL k] (int (km k)) := by
  have key := row_most k h
  rcases k with _ | _ | _ | _ | _ | _ | _ | _ | k
  · exact ⟨_, _, rfl, f27_nil _ _⟩
  · exact ⟨_, _, rfl, f27_nil _ _⟩
  · exact ⟨_, _, rfl, f27_nil _ _⟩
  · exact ⟨_, _, rfl, f27_below _ _ 4096 (by decide)⟩
  · exact ⟨_, _, rfl, f27_nil _ _⟩
  · exact ⟨_, _, rfl, f27_below _ _ 65536 (by decide)⟩
  · exact ⟨_, _, rfl, f27_nil _ _⟩
  · exact ⟨_, _, rfl, f27_nil _ _⟩
  · omega
theorem kb_le {k : Nat} (h : k < 8) : kb k + km k < 4294967296 := by
  rcases k with _ | _ | _ | _ | _ | _ | _ | _ | k
  all_goals first | decide | omega
theorem km_le {k : Nat} (h : k < 8) : km k < 65536 := by
  rcases k with _ | _ | _ | _ | _ | _ | _ | _ | k
  all_goals first | decide | omega
end Go.Proofs.W

namespace Go.Proofs.W
open Go.Vl
set_option maxRecDepth 100000

def fromR (v : Nat) : A2 × Int := match fromI v with
  | some k => (((k + 1 : Nat), (v - kb k : Nat)), 0)
  | none => ((0, 0), 5)
theorem fromI_some {v k : Nat} (h : fromI v = some k) : k < 8 ∧ kb k ≤ v ∧ v ≤ kb k + km k := by
  unfold fromI at h
  rw [List.find?_range_eq_some] at h
  obtain ⟨h1, h2, _⟩ := h
  simp [fits] at h1 h2
  exact ⟨h2, h1.1, h1.2⟩
end Go.Proofs.W

namespace Go.Proofs.W
open Go.Vl
set_option maxRecDepth 100000

theorem le_u32' {a b : Int} (h : a = b) : AVle (.v (.int .u32 a)) (u32 b) := h ▸ AVle.refl _
theorem build9 : abuildCells Tryd.prog 111 9 [(0, int 0), (1, int 2147483648), (2, int 0), (3, int 196608), (4, int 327680), (5, int 2143289344), (6, int 2146435072), (7, int 2147221504), (8, int 2147418112)] = some (3, [int 0, int 2147483648, int 0, int 196608, int 327680, int 2143289344, int 2146435072, int 2147221504, int 2147418112]) := by kernel_rfl
theorem most09_spec (k : Nat) (hk : k < 8) : Tells Tryd.prog 36 [int (k + 1 : Nat)] (int (km k)) := by
  rw [show ((km k : Nat) : Int) = most9 ((k + 1 : Nat) : Int) by
    rcases k with _ | _ | _ | _ | _ | _ | _ | _ | k
    all_goals first | decide | omega]
  exact most9_spec _
end Go.Proofs.W

namespace Go.Proofs.W
open Go.Vl
set_option maxRecDepth 100000

def fromQ (v : Nat) : A2 := match fromI v with
  | some k => (((k + 1 : Nat) : Int), ((v - kb k : Nat) : Int))
  | none => (0, 0)
end Go.Proofs.W

namespace Go.Proofs.W
open Go.Vl
set_option maxRecDepth 100000

def gR (x m : A2) : A2 := if x.1 < m.1 then x else m
theorem gR_strict (m x : A2) : (if x.1 ≤ m.1 then x else m) = gR m x := by
  unfold gR
  by_cases h : x.1 ≤ m.1
  · rw [if_pos h, if_neg (by omega)]
  · rw [if_neg h, if_pos (by omega)]
theorem gR_assoc (a b c : A2) : gR (gR a b) c = gR a (gR b c) := by
  unfold gR
  repeat' split
  all_goals first | rfl | omega
theorem strict_gR (a : A2) (l : List A2) : strict a l = l.foldl gR a := by
  unfold strict
  congr 1
  funext m x
  exact gR_strict m x
theorem foldl_gR (a b : A2) (l : List A2) : l.foldl gR (gR a b) = gR a (l.foldl gR b) := by
  induction l generalizing b with
  | nil => rfl
  | cons c l ih => rw [List.foldl_cons, gR_assoc, ih, List.foldl_cons]
theorem foldr_gR (a d : A2) (l : List A2) : (a :: l).foldr gR d = gR (l.foldl gR a) d := by
  induction l generalizing a with
  | nil => rfl
  | cons b l ih => rw [List.foldr_cons, ih, ← gR_assoc, List.foldl_cons, foldl_gR]
theorem gR_self (x y : A2) : gR (gR x y) y = gR x y := by
  rw [gR_assoc]; unfold gR; simp
theorem foldr_last (a : A2) (r : List A2) : (a :: r).foldr gR ((a :: r).getD r.length (0, 0)) = strict a r := by
  rw [foldr_gR, strict_gR]
  rcases List.eq_nil_or_concat r with rfl | ⟨r', x, rfl⟩
  · simp [gR]
  · rw [List.concat_eq_append, List.foldl_append]
    simp [gR_self]

theorem f11_spec (a : A2) (r : List A2) (hl : r.length ≤ 1000000000) : Tells Tryd.prog 24 [acts (a :: r)] (actP (strict a r)) := by
  refine tells_of_aw Tryd.func24 rfl rfl fun nx => ?_
  (repeat((conv=>whnf);first|apply ω0|apply ω1|apply ω2|refine τ3 rfl ?_|refine τ4 rfl ?_|refine ⟨rfl,?_⟩|apply τa|refine τb rfl ?_|refine ⟨⟨by kernel_rfl,by kernel_rfl⟩,?_⟩|refine ⟨by decide,?_⟩|apply τt|apply τf))
  have hw : IntKind.i64.wrap (((a :: r).length : Int) - 1) = (r.length : Int) := by
    have : (((a :: r).length : Nat) : Int) = (r.length : Int) + 1 := by simp
    rw [this, wrap_id (by omega) (by omega)]; omega
  refine ⟨⟨?_, ?_⟩, ?_⟩
  · rw [hw]; omega
  · rw [hw]; simp; omega
  rw [hw]
  (repeat((conv=>whnf);first|apply ω0|apply ω1|apply ω2|refine τ3 rfl ?_|refine τ4 rfl ?_|refine ⟨rfl,?_⟩|apply τa|refine τb rfl ?_|refine ⟨⟨by kernel_rfl,by kernel_rfl⟩,?_⟩|refine ⟨by decide,?_⟩|apply τt|apply τf))
  refine aw_loop (fun s : Int × A2 × Nat => mk 31 [(0, acts (a :: r)), (2, .bp (0, nx) 0), (3, .bp (1, nx + 1) 0), (4, int s.1)] ⟨[((1, nx + 1), .c [int s.2.1.1, int s.2.1.2]), ((0, nx), .c [int 0, int 0])], [], s.2.2, 2⟩)
    (fun s => -1 ≤ s.1 ∧ s.1 ≤ r.length ∧ s.2.1 = ((a :: r).drop (s.1 + 1).toNat).foldr gR ((a :: r).getD r.length (0, 0))) (fun s => (s.1 + 1).toNat) ?_ ?_
  · refine ⟨(r.length, (a :: r).getD r.length (0, 0), nx + 2), ⟨by dsimp only; omega, by dsimp only; omega, ?_⟩, ele_mk rfl rfl ⟨AVle.refl _, AVle.refl _, AVle.refl _, le_int hw, trivial⟩⟩
    dsimp only
    rw [List.drop_of_length_le (by simp)]; rfl
  · rintro ⟨i, m, nx2⟩ ⟨h2, h3, h4⟩
    dsimp only at h2 h3 h4
    (repeat((conv=>whnf);first|apply ω0|apply ω1|apply ω2|refine τ3 rfl ?_|refine τ4 rfl ?_|refine ⟨rfl,?_⟩|apply τa|refine τb rfl ?_|refine ⟨⟨by kernel_rfl,by kernel_rfl⟩,?_⟩|refine ⟨by decide,?_⟩|apply τt|apply τf))
    intro c h5; cases c
    · (repeat((conv=>whnf);first|apply ω0|apply ω1|apply ω2|refine τ3 rfl ?_|refine τ4 rfl ?_|refine ⟨rfl,?_⟩|apply τa|refine τb rfl ?_|refine ⟨⟨by kernel_rfl,by kernel_rfl⟩,?_⟩|refine ⟨by decide,?_⟩|apply τt|apply τf))
      (refine ret_tells_all rfl ?_ ?_; (· exact ⟨rfl, trivial⟩))
      have h6 := not_of h5
      obtain rfl : i = -1 := by omega
      have : m = strict a r := by rw [h4, ← foldr_last]; rfl
      subst this
      exact AVle.refl _
    · obtain ⟨j, rfl⟩ := Int.eq_ofNat_of_zero_le (yes_of h5)
      have hd : (a :: r).drop j = (a :: r).getD j (0, 0) :: (a :: r).drop (j + 1) := by
        have hj : j < (a :: r).length := by simp; omega
        rw [List.drop_eq_getElem_cons hj, List.getD_eq_getElem?_getD, List.getElem?_eq_getElem hj]; rfl
      have hs : ((a :: r).drop j).foldr gR ((a :: r).getD r.length (0, 0)) = gR ((a :: r).getD j (0, 0)) m := by
        rw [hd, List.foldr_cons, h4]; rfl
      have hw2 : IntKind.i64.wrap ((j : Int) - 1) = (j : Int) - 1 := wrap_id (by omega) (by omega)
      (repeat((conv=>whnf);first|apply ω0|apply ω1|apply ω2|refine τ3 rfl ?_|refine τ4 rfl ?_|refine ⟨rfl,?_⟩|apply τa|refine τb rfl ?_|refine ⟨⟨by kernel_rfl,by kernel_rfl⟩,?_⟩|refine ⟨by decide,?_⟩|apply τt|apply τf))
      (refine aw_draw 8 ?_ ?_ ?_ ?_; (· kernel_rfl); (· kernel_rfl); (· kernel_rfl))
      refine ⟨⟨by omega, by simp; omega⟩, ?_⟩
      (repeat((conv=>whnf);first|apply ω0|apply ω1|apply ω2|refine τ3 rfl ?_|refine τ4 rfl ?_|refine ⟨rfl,?_⟩|apply τa|refine τb rfl ?_|refine ⟨⟨by kernel_rfl,by kernel_rfl⟩,?_⟩|refine ⟨by decide,?_⟩|apply τt|apply τf))
      intro c h6; cases c
      · (repeat((conv=>whnf);first|apply ω0|apply ω1|apply ω2|refine τ3 rfl ?_|refine τ4 rfl ?_|refine ⟨rfl,?_⟩|apply τa|refine τb rfl ?_|refine ⟨⟨by kernel_rfl,by kernel_rfl⟩,?_⟩|refine ⟨by decide,?_⟩|apply τt|apply τf))
        refine back ((j : Int) - 1, m, nx2) ⟨by dsimp only; omega, by dsimp only; omega, ?_⟩ (by dsimp only; omega) (ele_mk rfl rfl ⟨AVle.refl _, AVle.refl _, AVle.refl _, le_int hw2, trivial⟩)
        have h7 : ¬ ((a :: r).getD j (0, 0)).1 < m.1 := not_of h6
        dsimp only
        rw [Int.sub_add_cancel, Int.toNat_natCast, hs, gR, if_neg h7]
      · (repeat((conv=>whnf);first|apply ω0|apply ω1|apply ω2|refine τ3 rfl ?_|refine τ4 rfl ?_|refine ⟨rfl,?_⟩|apply τa|refine τb rfl ?_|refine ⟨⟨by kernel_rfl,by kernel_rfl⟩,?_⟩|refine ⟨by decide,?_⟩|apply τt|apply τf))
        refine ⟨⟨by omega, by simp; omega⟩, ?_⟩
        (repeat((conv=>whnf);first|apply ω0|apply ω1|apply ω2|refine τ3 rfl ?_|refine τ4 rfl ?_|refine ⟨rfl,?_⟩|apply τa|refine τb rfl ?_|refine ⟨⟨by kernel_rfl,by kernel_rfl⟩,?_⟩|refine ⟨by decide,?_⟩|apply τt|apply τf))
        refine back ((j : Int) - 1, (a :: r).getD j (0, 0), nx2) ⟨by dsimp only; omega, by dsimp only; omega, ?_⟩ (by dsimp only; omega) (ele_mk rfl rfl ⟨AVle.refl _, AVle.refl _, AVle.refl _, le_int hw2, trivial⟩)
        have h7 : ((a :: r).getD j (0, 0)).1 < m.1 := yes_of h6
        dsimp only
        rw [Int.sub_add_cancel, Int.toNat_natCast, hs, gR, if_pos h7]

theorem f10_spec : Tells Tryd.prog 9 [] (boolA true) := by
  refine tells_of_aw Tryd.func9 rfl rfl fun nx => ?_
  (repeat((conv=>whnf);first|apply ω0|apply ω1|apply ω2|refine τ3 rfl ?_|refine τ4 rfl ?_|refine ⟨rfl,?_⟩|apply τa|refine τb rfl ?_|refine ⟨⟨by kernel_rfl,by kernel_rfl⟩,?_⟩|refine ⟨by decide,?_⟩|apply τt|apply τf))
  refine aop_tells (s := .tup [act 4 1, int 0]) rfl rfl ((f9_spec [(7, 0), (4, 1)] (by decide)).of_eq rfl) ⟨AVle.os_sl.trans (AVle.sl_fun (allK_use ⟨⟨trivial, rfl⟩, rfl⟩)), trivial⟩ fun nx' => ?_
  (repeat((conv=>whnf);first|apply ω0|apply ω1|apply ω2|refine τ3 rfl ?_|refine τ4 rfl ?_|refine ⟨rfl,?_⟩|apply τa|refine τb rfl ?_|refine ⟨⟨by kernel_rfl,by kernel_rfl⟩,?_⟩|refine ⟨by decide,?_⟩|apply τt|apply τf))
  refine aop_tells (s := .tup [act 4 2, int 0]) rfl rfl ((f9_spec [(4, 1), (4, 2)] (by decide)).of_eq rfl) ⟨AVle.os_sl.trans (AVle.sl_fun (allK_use ⟨⟨trivial, rfl⟩, rfl⟩)), trivial⟩ fun nx' => ?_
  (repeat((conv=>whnf);first|apply ω0|apply ω1|apply ω2|refine τ3 rfl ?_|refine τ4 rfl ?_|refine ⟨rfl,?_⟩|apply τa|refine τb rfl ?_|refine ⟨⟨by kernel_rfl,by kernel_rfl⟩,?_⟩|refine ⟨by decide,?_⟩|apply τt|apply τf))
  refine ret_tells rfl (AVle.refl _)

end Go.Proofs.W

namespace Go.Proofs.W
open Go.Vl
set_option maxRecDepth 100000

def pairS (s : ByteArray) (a b : Rul) : Rul := ⟨s, strict a.act [b.act], joinC a.conds b.conds⟩
def badS (R : List Rul) (r : Rul) : Bool := decide (6 < r.conds.length) || decide (500 ≤ R.length)
def pairBS (s : ByteArray) (a : Rul) : List Rul → List Rul → Option (Bool × List Rul)
  | [], R => some (false, R)
  | b :: bs, R => if badS R (pairS s a b) then none else if (pairS s a b).conds = [] then some (true, R ++ [pairS s a b]) else pairBS s a bs (R ++ [pairS s a b])
def pairAS (s : ByteArray) (bs : List Rul) : List Rul → List Rul → Option (List Rul)
  | [], R => some R
  | a :: as', R => match pairBS s a bs R with
    | none => none
    | some (true, R') => some R'
    | some (false, R') => pairAS s bs as' R'
def refR (p q : Pol) : List Rul → List Rul → List Rul → Option (List Rul)
  | _, [], R => some R
  | pre, r :: l, R => if hasN pre r.name then refR p q (pre ++ [r]) l R else match pairAS r.name (ofL q r.name) (ofL p r.name) R with
    | none => none
    | some R' => refR p q (pre ++ [r]) l R'
def refMerge (p q : Pol) : Pol × Bool :=
  match refR p q [] (p.rules ++ q.rules) [] with
  | some R => (⟨strict p.dflt [q.dflt], p.x32 && q.x32, R⟩, true)
  | none => (pol0, false)
/-- The inner state: enough, or what is left to do. -/
def contB (s : ByteArray) (a : Rul) (over : Bool) (bs R : List Rul) : Option (Bool × List Rul) := if over then some (true, R) else pairBS s a bs R
def contA (s : ByteArray) (bs : List Rul) (over : Bool) (l R : List Rul) : Option (List Rul) := if over then some R else pairAS s bs l R
theorem appF_cat {n : Nat} {f f' : Nat → AV} {k : Nat} : appF n f f' k = if k < n then f k else f' (k - n) := by
  unfold appF
  by_cases h : k < n
  · have : Nat.blt k n = true := by simpa [Nat.blt_eq] using h
    rw [this, if_pos h]; rfl
  · have : Nat.blt k n = false := by rw [← Bool.not_eq_true, Nat.blt_eq]; exact h
    rw [this, if_neg h]; rfl
theorem le_rows {n : Nat} {F : Nat → AV} {L : List Rul} (hn : n = L.length) (hF : ∀ k, k < n → F k = rulF L k) : AVle (.sl 4 n F) (ruls L) := by
  subst hn; exact AVle.sl_fun hF
theorem cat_q {F : Nat → AV} {A B : List Rul} (hA : ¬ A.length ≠ 0) : ∀ k, k < 0 + B.length → appF 0 F (rulF B) k = rulF (A ++ B) k := by
  intro k hk
  have : A = [] := List.length_eq_zero_iff.1 (by omega)
  rw [appF_cat, if_neg (by omega), this]; rfl
theorem cat_p {F : Nat → AV} {A B : List Rul} (hB : B.length = 0) : ∀ k, k < 0 + A.length → appF 0 F (rulF A) k = rulF (A ++ B) k := by
  intro k hk
  have : B = [] := List.length_eq_zero_iff.1 (by omega)
  rw [appF_cat, if_neg (by omega), this, List.append_nil]; rfl
theorem cat_pq {F : Nat → AV} {A B : List Rul} : ∀ k, k < 0 + A.length + B.length → appF (0 + A.length) (appF 0 F (rulF A)) (rulF B) k = rulF (A ++ B) k := by
  intro k hk
  rw [appF_cat]
  by_cases h : k < 0 + A.length
  · rw [if_pos h, appF_cat, if_neg (by omega)]
    simp [rulF, List.getD, List.getElem?_append_left (by omega : k < A.length)]
  · rw [if_neg h]
    simp only [rulF, List.getD, List.getElem?_append_right (by omega : A.length ≤ k)]
    rw [show k - (0 + A.length) = k - A.length by omega]
theorem refR_at {p q : Pol} {all R : List Rul} {i : Nat} (h : i < all.length) : refR p q (all.take i) (all.drop i) R = if hasN (all.take i) (all.getD i rul0).name then refR p q (all.take (i + 1)) (all.drop (i + 1)) R else match pairAS (all.getD i rul0).name (ofL q (all.getD i rul0).name) (ofL p (all.getD i rul0).name) R with
    | none => none
    | some R' => refR p q (all.take (i + 1)) (all.drop (i + 1)) R' := by
  rw [drop_getD h, take_getD rul0 h]; rfl
theorem noid_cndsR (l : List Cnd) : NoId (cnds l) := NoId.sl fun i _ c hc => by
  have hc : c ∈ (cndA (l.getD i cnd0)).cells := hc
  unfold cndA AV.cells at hc
  simp only [List.mem_cons, List.not_mem_nil, or_false] at hc
  rcases hc with rfl | rfl | rfl | rfl <;> exact NoId.v _
theorem noid_ruls (L : List Rul) : NoId (ruls L) := NoId.sl fun i _ c hc => by
  have hc : c ∈ (rulA (L.getD i rul0)).cells := hc
  unfold rulA AV.cells at hc
  simp only [List.mem_cons, List.not_mem_nil, or_false] at hc
  rcases hc with rfl | rfl | rfl | rfl
  · exact NoId.v _
  · exact NoId.v _
  · exact NoId.v _
  · exact noid_cndsR _
theorem contA_done {s : ByteArray} {bs l R : List Rul} {j : Nat} (h : j = l.length) : contA s bs false (l.drop j) R = some R := by subst h; rw [List.drop_length]; rfl
theorem contA_over {s : ByteArray} {bs l R : List Rul} : contA s bs true l R = some R := rfl
theorem contA_at {s : ByteArray} {bs l R : List Rul} {i : Nat} (h : i < l.length) : contA s bs false (l.drop i) R = match pairBS s (l.getD i rul0) bs R with
    | none => none
    | some (true, R') => contA s bs true (l.drop (i + 1)) R'
    | some (false, R') => contA s bs false (l.drop (i + 1)) R' := by rw [drop_getD h]; rfl
theorem contB_done {s : ByteArray} {a : Rul} {bs R : List Rul} {j : Nat} (h : j = bs.length) : contB s a false (bs.drop j) R = some (false, R) := by subst h; rw [List.drop_length]; rfl
theorem contB_over {s : ByteArray} {a : Rul} {bs R : List Rul} : contB s a true bs R = some (true, R) := rfl
theorem contB_bad {s : ByteArray} {a : Rul} {bs R : List Rul} {j : Nat} (h : j < bs.length) (hb : badS R (pairS s a (bs.getD j rul0)) = true) : contB s a false (bs.drop j) R = none := by
  rw [drop_getD h]; show pairBS s a _ R = _; rw [pairBS, if_pos hb]
theorem contB_go {s : ByteArray} {a : Rul} {bs R : List Rul} {j : Nat} (h : j < bs.length) (hb : badS R (pairS s a (bs.getD j rul0)) = false) : contB s a false (bs.drop j) R = contB s a (decide ((pairS s a (bs.getD j rul0)).conds.length = 0)) (bs.drop (j + 1)) (R ++ [pairS s a (bs.getD j rul0)]) := by
  rw [drop_getD h]; show pairBS s a _ R = _; rw [pairBS, if_neg (by rw [hb]; decide)]
  by_cases hc : (pairS s a (bs.getD j rul0)).conds = []
  · rw [if_pos hc, decide_eq_true (by rw [hc]; rfl)]; rfl
  · rw [if_neg hc, decide_eq_false (fun h => hc (List.length_eq_zero_iff.1 h))]; rfl
theorem z_pol14 : zcells Tryd.prog 26 = some [int 0, int 0, boolA false, .os 0 0 (fun _ => .any) none] := by kernel_rfl
def xrB (sx : Nat) (s : ByteArray) (ab : A2) (L : List Cnd) (oi : Option Nat) : List (Vl.Id × Own) := [((4, sx), .c [strA s, int ab.1, int ab.2, .os 4 L.length (cndF L) (nmN 4 oi)])]
theorem le_none {L : List Cnd} {f : Nat → AV} (h : L.length = 0) : AVle (.os 4 0 f none) (.os 4 L.length (cndF L) (nmN 4 none)) := by
  rw [h]; exact AVle.os_fun fun k hk => absurd hk (Nat.not_lt_zero _)
theorem le_first {L : List Cnd} {f : Nat → AV} {i : Vl.Id} {k : Nat} (h : i.2 = k := by rfl) : AVle (.os 4 (0 + L.length) (appF 0 f (cndF L)) (some i)) (.os 4 L.length (cndF L) (nmN 4 (some k))) := by
  rw [Nat.zero_add]
  refine (AVle.os_fun fun k hk => ?_).trans (AVle.os_nm h)
  rw [appF_cat, if_neg (by omega), Nat.sub_zero]
theorem bytes_cnd10 : Tryd.prog.bytesOf 59 = 32 := by kernel_rfl
theorem eq0_nat (n : Nat) : ((n : Int) == 0) = decide (n = 0) := by
  rw [Bool.eq_iff_iff]; simp
theorem z_rul14 : zcells Tryd.prog 43 = some [strA ⟨#[]⟩, int 0, int 0, .os 0 0 (fun _ => .any) none] := by kernel_rfl
theorem cells_rul14 : Tryd.prog.cellsOf 43 = 4 := by kernel_rfl
theorem bytes_rul14 : Tryd.prog.bytesOf 43 = 56 := by kernel_rfl
set_option maxHeartbeats 4000000 in
theorem refmerge_spec (p q : Pol) (hp : p.rules.length ≤ 1000) (hq : q.rules.length ≤ 1000) (hpc : ∀ r ∈ p.rules, r.conds.length ≤ 1000) (hqc : ∀ r ∈ q.rules, r.conds.length ≤ 1000) :
    Tells Tryd.prog 10 [polA p, polA q] (.tup [polA (refMerge p q).1, boolA (refMerge p q).2]) := by
  unfold refMerge
  have hst := f11_spec p.dflt [q.dflt] (by simp)
  refine tells_of_aw Tryd.func10 rfl rfl fun nx => ?_
  (repeat((conv=>whnf);first|apply ω0|apply ω1|apply ω2|refine τ3 rfl ?_|refine τ4 rfl ?_|refine ⟨rfl,?_⟩|apply τa|refine τb rfl ?_|refine ⟨⟨by kernel_rfl,by kernel_rfl⟩,?_⟩|refine ⟨by decide,?_⟩|apply τt|apply τf))
  refine AW.le (E' := mk 158 [(2, .bp (0, nx) 0), (3, .bp (1, nx + 1) 0), (4, .bp (2, nx + 2) 0)] ⟨mgB nx p q, [], nx + 3, 3⟩) (ele_tell _ _ rfl rfl (List.Sublist.refl _) .slnil (BxLe.refl _) trivial ⟨AVle.refl _, AVle.refl _, AVle.refl _, trivial⟩) ?_
  generalize hd : strict p.dflt [q.dflt] = d at hst ⊢
  generalize hx : (p.x32 && q.x32) = x
  refine aw_mid (fun y : Nat => mk 158 [(2, .bp (0, nx) 0), (3, .bp (1, nx + 1) 0), (4, .bp (2, nx + 2) 0), (6, .bp (3, y) 0)] ⟨mgO y d x [] none ++ mgB nx p q, [], y + 1, 4⟩) (fun y => True) ?_ ?_
  · rcases p with ⟨pd, px, prs⟩
    cases px
    · dsimp only at hx
      refine aw_mixN 14 _ (fun i => match i with | 13 => true | _ => false) (fun i => match i with | 5 => true | _ => false) [0, 1, 2, 3, 4, 5, 6, 7, 8, 9, 10, 11, 12, 13] (by kernel_rfl) (by kernel_rfl) (HB.refl _) ?_
      (repeat((conv=>whnf);first|apply ω0|apply ω1|apply ω2|refine τ3 rfl ?_|refine τ4 rfl ?_|refine ⟨rfl,?_⟩|apply τa|refine τb rfl ?_|refine ⟨⟨by kernel_rfl,by kernel_rfl⟩,?_⟩|refine ⟨by decide,?_⟩|apply τt|apply τf))
      refine splitV_eq (b := actP q.dflt) rfl ?_
      (repeat((conv=>whnf);first|apply ω0|apply ω1|apply ω2|refine τ3 rfl ?_|refine τ4 rfl ?_|refine ⟨rfl,?_⟩|apply τa|refine τb rfl ?_|refine ⟨⟨by kernel_rfl,by kernel_rfl⟩,?_⟩|refine ⟨by decide,?_⟩|apply τt|apply τf))
      refine ⟨_, pure_tells rfl rfl rfl hst ⟨AVle.os_sl.trans (AVle.sl_fun fun k hk => ?_), trivial⟩ (NoId.ag (by intro y hy; simp at hy; rcases hy with rfl | rfl <;> exact NoId.v _)), ?_⟩
      · match k, hk with
        | 0, _ => rfl
        | 1, _ => rfl
      (repeat((conv=>whnf);first|apply ω0|apply ω1|apply ω2|refine τ3 rfl ?_|refine τ4 rfl ?_|refine ⟨rfl,?_⟩|apply τa|refine τb rfl ?_|refine ⟨⟨by kernel_rfl,by kernel_rfl⟩,?_⟩|refine ⟨by decide,?_⟩|apply τt|apply τf))
      refine splitV_eq (b := .v (.bool false)) rfl ?_
      (repeat((conv=>whnf);first|apply ω0|apply ω1|apply ω2|refine τ3 rfl ?_|refine τ4 rfl ?_|refine ⟨rfl,?_⟩|apply τa|refine τb rfl ?_|refine ⟨⟨by kernel_rfl,by kernel_rfl⟩,?_⟩|refine ⟨by decide,?_⟩|apply τt|apply τf))
      refine ⟨_, pure_no rfl rfl rfl, ?_⟩
      (repeat((conv=>whnf);first|apply ω0|apply ω1|apply ω2|refine τ3 rfl ?_|refine τ4 rfl ?_|refine ⟨rfl,?_⟩|apply τa|refine τb rfl ?_|refine ⟨⟨by kernel_rfl,by kernel_rfl⟩,?_⟩|refine ⟨by decide,?_⟩|apply τt|apply τf))
      refine ⟨_, pure_no rfl rfl rfl, ?_⟩
      (repeat((conv=>whnf);first|apply ω0|apply ω1|apply ω2|refine τ3 rfl ?_|refine τ4 rfl ?_|refine ⟨rfl,?_⟩|apply τa|refine τb rfl ?_|refine ⟨⟨by kernel_rfl,by kernel_rfl⟩,?_⟩|refine ⟨by decide,?_⟩|apply τt|apply τf))
      refine ⟨_, eff_alloc rfl rfl z_pol14 (HB.cons rfl (HB.cons rfl (HB.one rfl))), fun r h' hr => ?_⟩
      obtain ⟨rfl, rfl⟩ := hr
      (repeat((conv=>whnf);first|apply ω0|apply ω1|apply ω2|refine τ3 rfl ?_|refine τ4 rfl ?_|refine ⟨rfl,?_⟩|apply τa|refine τb rfl ?_|refine ⟨⟨by kernel_rfl,by kernel_rfl⟩,?_⟩|refine ⟨by decide,?_⟩|apply τt|apply τf))
      exact ⟨nx + 3, trivial, ele_tell (bx := mgO (nx + 3) d x [] none ++ mgB nx ⟨pd, false, prs⟩ q) _ _ rfl rfl (List.Sublist.refl _) (List.Sublist.refl _) ⟨rfl, ⟨AVle.refl _, AVle.refl _, le_bool hx, AVle.os_nil, trivial⟩, BxLe.refl _⟩ trivial ⟨AVle.refl _, AVle.refl _, AVle.refl _, AVle.refl _, trivial⟩⟩
    · dsimp only at hx
      refine aw_mixN 14 _ (fun i => match i with | 13 => true | _ => false) (fun i => match i with | 5 => true | _ => false) [0, 1, 2, 3, 4, 5, 6, 7, 8, 9, 10, 11, 12, 13] (by kernel_rfl) (by kernel_rfl) (HB.refl _) ?_
      (repeat((conv=>whnf);first|apply ω0|apply ω1|apply ω2|refine τ3 rfl ?_|refine τ4 rfl ?_|refine ⟨rfl,?_⟩|apply τa|refine τb rfl ?_|refine ⟨⟨by kernel_rfl,by kernel_rfl⟩,?_⟩|refine ⟨by decide,?_⟩|apply τt|apply τf))
      refine splitV_eq (b := actP q.dflt) rfl ?_
      (repeat((conv=>whnf);first|apply ω0|apply ω1|apply ω2|refine τ3 rfl ?_|refine τ4 rfl ?_|refine ⟨rfl,?_⟩|apply τa|refine τb rfl ?_|refine ⟨⟨by kernel_rfl,by kernel_rfl⟩,?_⟩|refine ⟨by decide,?_⟩|apply τt|apply τf))
      refine ⟨_, pure_tells rfl rfl rfl hst ⟨AVle.os_sl.trans (AVle.sl_fun fun k hk => ?_), trivial⟩ (NoId.ag (by intro y hy; simp at hy; rcases hy with rfl | rfl <;> exact NoId.v _)), ?_⟩
      · match k, hk with
        | 0, _ => rfl
        | 1, _ => rfl
      (repeat((conv=>whnf);first|apply ω0|apply ω1|apply ω2|refine τ3 rfl ?_|refine τ4 rfl ?_|refine ⟨rfl,?_⟩|apply τa|refine τb rfl ?_|refine ⟨⟨by kernel_rfl,by kernel_rfl⟩,?_⟩|refine ⟨by decide,?_⟩|apply τt|apply τf))
      refine splitV_eq (b := .v (.bool true)) rfl ?_
      (repeat((conv=>whnf);first|apply ω0|apply ω1|apply ω2|refine τ3 rfl ?_|refine τ4 rfl ?_|refine ⟨rfl,?_⟩|apply τa|refine τb rfl ?_|refine ⟨⟨by kernel_rfl,by kernel_rfl⟩,?_⟩|refine ⟨by decide,?_⟩|apply τt|apply τf))
      refine ⟨_, pure_yes rfl rfl rfl rfl (by first | trivial | exact ⟨rfl, Nat.le_of_ble_eq_true rfl⟩), ?_⟩
      (repeat((conv=>whnf);first|apply ω0|apply ω1|apply ω2|refine τ3 rfl ?_|refine τ4 rfl ?_|refine ⟨rfl,?_⟩|apply τa|refine τb rfl ?_|refine ⟨⟨by kernel_rfl,by kernel_rfl⟩,?_⟩|refine ⟨by decide,?_⟩|apply τt|apply τf))
      refine ⟨_, pure_yes rfl rfl rfl rfl (by first | trivial | exact ⟨rfl, Nat.le_of_ble_eq_true rfl⟩), ?_⟩
      (repeat((conv=>whnf);first|apply ω0|apply ω1|apply ω2|refine τ3 rfl ?_|refine τ4 rfl ?_|refine ⟨rfl,?_⟩|apply τa|refine τb rfl ?_|refine ⟨⟨by kernel_rfl,by kernel_rfl⟩,?_⟩|refine ⟨by decide,?_⟩|apply τt|apply τf))
      refine splitV_eq (b := .v (.bool q.x32)) rfl ?_
      (repeat((conv=>whnf);first|apply ω0|apply ω1|apply ω2|refine τ3 rfl ?_|refine τ4 rfl ?_|refine ⟨rfl,?_⟩|apply τa|refine τb rfl ?_|refine ⟨⟨by kernel_rfl,by kernel_rfl⟩,?_⟩|refine ⟨by decide,?_⟩|apply τt|apply τf))
      refine ⟨_, eff_alloc rfl rfl z_pol14 (HB.cons rfl (HB.cons rfl (HB.one rfl))), fun r h' hr => ?_⟩
      obtain ⟨rfl, rfl⟩ := hr
      (repeat((conv=>whnf);first|apply ω0|apply ω1|apply ω2|refine τ3 rfl ?_|refine τ4 rfl ?_|refine ⟨rfl,?_⟩|apply τa|refine τb rfl ?_|refine ⟨⟨by kernel_rfl,by kernel_rfl⟩,?_⟩|refine ⟨by decide,?_⟩|apply τt|apply τf))
      exact ⟨nx + 3, trivial, ele_tell (bx := mgO (nx + 3) d x [] none ++ mgB nx ⟨pd, true, prs⟩ q) _ _ rfl rfl (List.Sublist.refl _) (List.Sublist.refl _) ⟨rfl, ⟨AVle.refl _, AVle.refl _, le_bool hx, AVle.os_nil, trivial⟩, BxLe.refl _⟩ trivial ⟨AVle.refl _, AVle.refl _, AVle.refl _, AVle.refl _, trivial⟩⟩
  · rintro s1 -
    (repeat((conv=>whnf);first|apply ω0|apply ω1|apply ω2|refine τ3 rfl ?_|refine τ4 rfl ?_|refine ⟨rfl,?_⟩|apply τa|refine τb rfl ?_|refine ⟨⟨by kernel_rfl,by kernel_rfl⟩,?_⟩|refine ⟨by decide,?_⟩|apply τt|apply τf))
    refine aw_mid (fun y : Nat => mk 158 [(2, .bp (0, nx) 0), (3, .bp (1, nx + 1) 0), (4, .bp (2, nx + 2) 0), (6, .bp (3, s1) 0), (7, ruls (p.rules ++ q.rules))] ⟨mgO s1 d x [] none ++ mgB nx p q, [], y, 4⟩) (fun y => True) ?_ ?_
    · have hP : (ruls p.rules) = .sl 4 p.rules.length (rulF p.rules) := rfl
      refine aw_mixN 7 _ (fun i => match i with | 3 => true | 6 => true | _ => false) (fun i => false) [0, 1, 2, 4, 5, 3, 6] (by kernel_rfl) (by kernel_rfl) (HB.refl _) ?_
      (repeat((conv=>whnf);first|apply ω0|apply ω1|apply ω2|refine τ3 rfl ?_|refine τ4 rfl ?_|refine ⟨rfl,?_⟩|apply τa|refine τb rfl ?_|refine ⟨⟨by kernel_rfl,by kernel_rfl⟩,?_⟩|refine ⟨by decide,?_⟩|apply τt|apply τf))
      refine splitV_eq (b := .sl 4 q.rules.length (rulF q.rules)) rfl ?_
      (repeat((conv=>whnf);first|apply ω0|apply ω1|apply ω2|refine τ3 rfl ?_|refine τ4 rfl ?_|refine ⟨rfl,?_⟩|apply τa|refine τb rfl ?_|refine ⟨⟨by kernel_rfl,by kernel_rfl⟩,?_⟩|refine ⟨by decide,?_⟩|apply τt|apply τf))
      refine ⟨_, eff_append (HB.refl _) rfl rfl rfl (.inl rfl) (by kernel_rfl) (by kernel_rfl) (.inl ⟨rfl, rfl⟩) (.inr cells_rul14.symm) (fun _ h => by cases h) (fun _ _ => rfl) (fun _ => by rw [bytes_rul14]; omega) (fun _ => by omega), fun r h' hr => ?_⟩
      rcases hr with ⟨m0, rfl, rfl⟩ | ⟨m0, rfl, rfl⟩
      · (repeat((conv=>whnf);first|apply ω0|apply ω1|apply ω2|refine τ3 rfl ?_|refine τ4 rfl ?_|refine ⟨rfl,?_⟩|apply τa|refine τb rfl ?_|refine ⟨⟨by kernel_rfl,by kernel_rfl⟩,?_⟩|refine ⟨by decide,?_⟩|apply τt|apply τf))
        refine ⟨_, eff_append (HB.refl _) rfl rfl rfl (.inl rfl) (by kernel_rfl) (by kernel_rfl) (.inl ⟨rfl, rfl⟩) (.inr cells_rul14.symm) (fun _ h => by cases h) (fun _ _ => rfl) (fun _ => by rw [bytes_rul14]; omega) (fun _ => by omega), fun r h' hr => ?_⟩
        rcases hr with ⟨n0, rfl, rfl⟩ | ⟨n0, rfl, rfl⟩
        · (repeat((conv=>whnf);first|apply ω0|apply ω1|apply ω2|refine τ3 rfl ?_|refine τ4 rfl ?_|refine ⟨rfl,?_⟩|apply τa|refine τb rfl ?_|refine ⟨⟨by kernel_rfl,by kernel_rfl⟩,?_⟩|refine ⟨by decide,?_⟩|apply τt|apply τf))
          refine ⟨_, trivial, ele_tell (pm := []) _ [] rfl rfl (List.Sublist.refl _) (List.nil_sublist _) (BxLe.refl _) trivial ⟨AVle.refl _, AVle.refl _, AVle.refl _, AVle.refl _, ?_, trivial⟩⟩
          exact AVle.os_sl.trans (le_rows (by rw [List.length_append, m0, n0]) (fun k hk => absurd hk (Nat.not_lt_zero _)))
        · (repeat((conv=>whnf);first|apply ω0|apply ω1|apply ω2|refine τ3 rfl ?_|refine τ4 rfl ?_|refine ⟨rfl,?_⟩|apply τa|refine τb rfl ?_|refine ⟨⟨by kernel_rfl,by kernel_rfl⟩,?_⟩|refine ⟨by decide,?_⟩|apply τt|apply τf))
          refine ⟨_, trivial, ele_tell (pm := []) _ [] rfl rfl (List.Sublist.refl _) (List.nil_sublist _) (BxLe.refl _) trivial ⟨AVle.refl _, AVle.refl _, AVle.refl _, AVle.refl _, ?_, trivial⟩⟩
          exact AVle.os_sl.trans (le_rows (by rw [List.length_append, m0]) (cat_q (by omega)))
      · (repeat((conv=>whnf);first|apply ω0|apply ω1|apply ω2|refine τ3 rfl ?_|refine τ4 rfl ?_|refine ⟨rfl,?_⟩|apply τa|refine τb rfl ?_|refine ⟨⟨by kernel_rfl,by kernel_rfl⟩,?_⟩|refine ⟨by decide,?_⟩|apply τt|apply τf))
        refine ⟨_, eff_append (HB.refl _) rfl rfl rfl (.inl rfl) (by kernel_rfl) (by kernel_rfl) (.inr cells_rul14.symm) (.inr cells_rul14.symm) (fun j hj => by cases hj; rfl) (fun _ _ => rfl) (fun _ => by rw [bytes_rul14]; omega) (fun _ => by omega), fun r h' hr => ?_⟩
        rcases hr with ⟨n0, rfl, rfl⟩ | ⟨n0, rfl, rfl⟩
        · (repeat((conv=>whnf);first|apply ω0|apply ω1|apply ω2|refine τ3 rfl ?_|refine τ4 rfl ?_|refine ⟨rfl,?_⟩|apply τa|refine τb rfl ?_|refine ⟨⟨by kernel_rfl,by kernel_rfl⟩,?_⟩|refine ⟨by decide,?_⟩|apply τt|apply τf))
          refine ⟨_, trivial, ele_tell (pm := []) _ [] rfl rfl (List.Sublist.refl _) (List.nil_sublist _) (BxLe.refl _) trivial ⟨AVle.refl _, AVle.refl _, AVle.refl _, AVle.refl _, ?_, trivial⟩⟩
          exact AVle.os_sl.trans (le_rows (by rw [List.length_append, n0]; omega) (cat_p n0))
        · (repeat((conv=>whnf);first|apply ω0|apply ω1|apply ω2|refine τ3 rfl ?_|refine τ4 rfl ?_|refine ⟨rfl,?_⟩|apply τa|refine τb rfl ?_|refine ⟨⟨by kernel_rfl,by kernel_rfl⟩,?_⟩|refine ⟨by decide,?_⟩|apply τt|apply τf))
          refine ⟨_, trivial, ele_tell (pm := []) _ [] rfl rfl (List.Sublist.refl _) (List.nil_sublist _) (BxLe.refl _) trivial ⟨AVle.refl _, AVle.refl _, AVle.refl _, AVle.refl _, ?_, trivial⟩⟩
          exact AVle.os_sl.trans (le_rows (by rw [List.length_append]; omega) cat_pq)
    · rintro nx2 -
      have hall : (p.rules ++ q.rules).length ≤ 2000 := by rw [List.length_append]; omega
      generalize p.rules ++ q.rules = all at hall ⊢
      (repeat((conv=>whnf);first|apply ω0|apply ω1|apply ω2|refine τ3 rfl ?_|refine τ4 rfl ?_|refine ⟨rfl,?_⟩|apply τa|refine τb rfl ?_|refine ⟨⟨by kernel_rfl,by kernel_rfl⟩,?_⟩|refine ⟨by decide,?_⟩|apply τt|apply τf))
      refine aw_loop (fun y : Nat × List Rul × Option Nat × Nat => mk 158 [(2, .bp (0, nx) 0), (3, .bp (1, nx + 1) 0), (4, .bp (2, nx + 2) 0), (6, .bp (3, s1) 0), (7, ruls all), (8, int y.1)] ⟨mgO s1 d x y.2.1 y.2.2.1 ++ mgB nx p q, pmOf (nmd y.2.2.1) (y.2.1.length * 4), y.2.2.2, 4⟩) (fun y => y.1 ≤ all.length ∧ (y.2.2.1 = none → y.2.1 = []) ∧ y.2.1.length ≤ 500 ∧ refR p q (all.take y.1) (all.drop y.1) y.2.1 = refR p q [] all []) (fun y => all.length - y.1) ?_ ?_
      · exact ⟨(0, [], none, nx2), ⟨Nat.zero_le _, fun _ => rfl, Nat.zero_le _, rfl⟩, ele_tell (pm := []) _ _ rfl rfl (List.Sublist.refl _) (List.Sublist.refl _) (BxLe.refl _) trivial ⟨AVle.refl _, AVle.refl _, AVle.refl _, AVle.refl _, AVle.refl _, AVle.refl _, trivial⟩⟩
      · rintro ⟨i, R, oi, nx3⟩ ⟨h1, h2, h3, h4⟩
        dsimp only at h1 h2 h3 h4
        (repeat((conv=>whnf);first|apply ω0|apply ω1|apply ω2|refine τ3 rfl ?_|refine τ4 rfl ?_|refine ⟨rfl,?_⟩|apply τa|refine τb rfl ?_|refine ⟨⟨by kernel_rfl,by kernel_rfl⟩,?_⟩|refine ⟨by decide,?_⟩|apply τt|apply τf))
        intro c g; cases c
        · have g := not_of g
          try dsimp only at g
          have hil : i = all.length := by omega
          rw [hil, List.drop_length] at h4
          rw [← h4]
          (repeat((conv=>whnf);first|apply ω0|apply ω1|apply ω2|refine τ3 rfl ?_|refine τ4 rfl ?_|refine ⟨rfl,?_⟩|apply τa|refine τb rfl ?_|refine ⟨⟨by kernel_rfl,by kernel_rfl⟩,?_⟩|refine ⟨by decide,?_⟩|apply τt|apply τf))
          exact ret_tells_all rfl (by first | trivial | exact ⟨rfl, trivial⟩ | exact ⟨⟨rfl, rfl⟩, trivial⟩) (AVle.tups (cs := [_, _]) ⟨AVle.ags (cs := [_, _, _, _]) ⟨AVle.refl _, AVle.refl _, AVle.refl _, AVle.os_sl, trivial⟩, AVle.refl _, trivial⟩)
        · have g := yes_of g
          try dsimp only at g
          have hi : i < all.length := by omega
          have hhas := has_spec (all.take i) (all.getD i rul0).name (by rw [List.length_take]; omega)
          have hra := rules25_spec p (all.getD i rul0).name (by omega)
          have hrb := rules25_spec q (all.getD i rul0).name (by omega)
          (repeat((conv=>whnf);first|apply ω0|apply ω1|apply ω2|refine τ3 rfl ?_|refine τ4 rfl ?_|refine ⟨rfl,?_⟩|apply τa|refine τb rfl ?_|refine ⟨⟨by kernel_rfl,by kernel_rfl⟩,?_⟩|refine ⟨by decide,?_⟩|apply τt|apply τf))
          refine ⟨⟨by first | omega | (dsimp only; omega), by first | omega | (dsimp only; omega)⟩, ?_⟩
          (repeat((conv=>whnf);first|apply ω0|apply ω1|apply ω2|refine τ3 rfl ?_|refine τ4 rfl ?_|refine ⟨rfl,?_⟩|apply τa|refine τb rfl ?_|refine ⟨⟨by kernel_rfl,by kernel_rfl⟩,?_⟩|refine ⟨by decide,?_⟩|apply τt|apply τf))
          refine ⟨⟨Int.natCast_nonneg _, Int.ofNat_le.2 (by omega)⟩, ?_⟩
          (repeat((conv=>whnf);first|apply ω0|apply ω1|apply ω2|refine τ3 rfl ?_|refine τ4 rfl ?_|refine ⟨rfl,?_⟩|apply τa|refine τb rfl ?_|refine ⟨⟨by kernel_rfl,by kernel_rfl⟩,?_⟩|refine ⟨by decide,?_⟩|apply τt|apply τf))
          refine aop_tells rfl rfl hhas ⟨AVle.trans (b := .sl 4 i (rulF all)) (AVle.refl _) (le_rows (by rw [List.length_take]; omega) (fun k hk => by simp [rulF, List.getD, hk])), AVle.refl _, trivial⟩ fun nx4 => ?_
          have hR := refR_at (p := p) (q := q) (R := R) hi
          rw [hR] at h4
          clear hhas hR
          cases hh : hasN (all.take i) (all.getD i rul0).name
          · rw [hh] at h4
            rw [if_neg (by decide)] at h4
            (repeat((conv=>whnf);first|apply ω0|apply ω1|apply ω2|refine τ3 rfl ?_|refine τ4 rfl ?_|refine ⟨rfl,?_⟩|apply τa|refine τb rfl ?_|refine ⟨⟨by kernel_rfl,by kernel_rfl⟩,?_⟩|refine ⟨by decide,?_⟩|apply τt|apply τf))
            (refine aw_draw 6 ?_ ?_ ?_ ?_; (· kernel_rfl); (· kernel_rfl); (· kernel_rfl))
            (repeat((conv=>whnf);first|apply ω0|apply ω1|apply ω2|refine τ3 rfl ?_|refine τ4 rfl ?_|refine ⟨rfl,?_⟩|apply τa|refine τb rfl ?_|refine ⟨⟨by kernel_rfl,by kernel_rfl⟩,?_⟩|refine ⟨by decide,?_⟩|apply τt|apply τf))
            refine splitO_eq (b := polA p) rfl ?_
            (repeat((conv=>whnf);first|apply ω0|apply ω1|apply ω2|refine τ3 rfl ?_|refine τ4 rfl ?_|refine ⟨rfl,?_⟩|apply τa|refine τb rfl ?_|refine ⟨⟨by kernel_rfl,by kernel_rfl⟩,?_⟩|refine ⟨by decide,?_⟩|apply τt|apply τf))
            refine ex_yields (yields_tells rfl rfl hra ⟨AVle.refl _, AVle.refl _, trivial⟩ (noid_ruls _)) ?_
            (repeat((conv=>whnf);first|apply ω0|apply ω1|apply ω2|refine τ3 rfl ?_|refine τ4 rfl ?_|refine ⟨rfl,?_⟩|apply τa|refine τb rfl ?_|refine ⟨⟨by kernel_rfl,by kernel_rfl⟩,?_⟩|refine ⟨by decide,?_⟩|apply τt|apply τf))
            refine splitO_eq (b := polA q) rfl ?_
            (repeat((conv=>whnf);first|apply ω0|apply ω1|apply ω2|refine τ3 rfl ?_|refine τ4 rfl ?_|refine ⟨rfl,?_⟩|apply τa|refine τb rfl ?_|refine ⟨⟨by kernel_rfl,by kernel_rfl⟩,?_⟩|refine ⟨by decide,?_⟩|apply τt|apply τf))
            refine ex_yields (yields_tells rfl rfl hrb ⟨AVle.refl _, AVle.refl _, trivial⟩ (noid_ruls _)) ?_
            have hlA := ofL_le (s := (all.getD i rul0).name) hp
            have hlB := ofL_le (s := (all.getD i rul0).name) hq
            have hcA := ofL_conds (s := (all.getD i rul0).name) hpc
            have hcB := ofL_conds (s := (all.getD i rul0).name) hqc
            generalize hA : ofL p (all.getD i rul0).name = A at h4 hlA hcA ⊢
            generalize hB : ofL q (all.getD i rul0).name = B at h4 hlB hcB ⊢
            clear hra hrb
            (repeat((conv=>whnf);first|apply ω0|apply ω1|apply ω2|refine τ3 rfl ?_|refine τ4 rfl ?_|refine ⟨rfl,?_⟩|apply τa|refine τb rfl ?_|refine ⟨⟨by kernel_rfl,by kernel_rfl⟩,?_⟩|refine ⟨by decide,?_⟩|apply τt|apply τf))
            refine aw_loop (fun y : Nat × Bool × List Rul × Option Nat × Nat => mk 158 [(2, .bp (0, nx) 0), (3, .bp (1, nx + 1) 0), (4, .bp (2, nx + 2) 0), (6, .bp (3, s1) 0), (7, ruls all), (8, int i), (9, strA (all.getD i rul0).name), (10, ruls A), (11, ruls B), (12, boolA y.2.1), (13, int y.1)] ⟨mgO s1 d x y.2.2.1 y.2.2.2.1 ++ mgB nx p q, pmOf (nmd y.2.2.2.1) (y.2.2.1.length * 4), y.2.2.2.2, 4⟩) (fun y => y.1 ≤ A.length ∧ (y.2.2.2.1 = none → y.2.2.1 = []) ∧ y.2.2.1.length ≤ 500 ∧ contA (all.getD i rul0).name B y.2.1 (A.drop y.1) y.2.2.1 = pairAS (all.getD i rul0).name B A R) (fun y => A.length - y.1) ?_ ?_
            · exact ⟨(0, false, R, oi, nx4), ⟨Nat.zero_le _, h2, h3, rfl⟩, ele_tell (bx := mgO s1 d x R oi ++ mgB nx p q) _ _ rfl rfl (List.Sublist.refl _) (List.Sublist.refl _) (BxLe.refl _) (PmEq_refl' _) ⟨AVle.refl _, AVle.refl _, AVle.refl _, AVle.refl _, AVle.refl _, AVle.refl _, AVle.refl _, AVle.refl _, AVle.refl _, AVle.refl _, AVle.refl _, trivial⟩⟩
            · rintro ⟨ia, over, R2, oi2, nx5⟩ ⟨k1, k2, k3, k4⟩
              dsimp only at k1 k2 k3 k4
              cases over
              · (repeat((conv=>whnf);first|apply ω0|apply ω1|apply ω2|refine τ3 rfl ?_|refine τ4 rfl ?_|refine ⟨rfl,?_⟩|apply τa|refine τb rfl ?_|refine ⟨⟨by kernel_rfl,by kernel_rfl⟩,?_⟩|refine ⟨by decide,?_⟩|apply τt|apply τf))
                intro c g2; cases c
                · have g2 := not_of g2
                  try dsimp only at g2
                  rw [contA_done (by omega)] at k4
                  rw [← k4] at h4
                  (repeat((conv=>whnf);first|apply ω0|apply ω1|apply ω2|refine τ3 rfl ?_|refine τ4 rfl ?_|refine ⟨rfl,?_⟩|apply τa|refine τb rfl ?_|refine ⟨⟨by kernel_rfl,by kernel_rfl⟩,?_⟩|refine ⟨by decide,?_⟩|apply τt|apply τf))
                  exact back (i + 1, R2, oi2, nx5) ⟨hi, k2, k3, h4⟩ (by dsimp only; omega) (ele_tell (bx := mgO s1 d x R2 oi2 ++ mgB nx p q) _ _ rfl rfl (List.Sublist.refl _) (List.Sublist.refl _) (BxLe.refl _) (PmEq_refl' _) ⟨AVle.refl _, AVle.refl _, AVle.refl _, AVle.refl _, AVle.refl _, le_int (wrap_succ (by first | omega | (dsimp only; omega))), trivial⟩)
                · have g2 := yes_of g2
                  try dsimp only at g2
                  have hia : ia < A.length := by omega
                  rw [contA_at hia] at k4
                  have hcAi := hcA ia
                  (repeat((conv=>whnf);first|apply ω0|apply ω1|apply ω2|refine τ3 rfl ?_|refine τ4 rfl ?_|refine ⟨rfl,?_⟩|apply τa|refine τb rfl ?_|refine ⟨⟨by kernel_rfl,by kernel_rfl⟩,?_⟩|refine ⟨by decide,?_⟩|apply τt|apply τf))
                  refine aw_loop (fun y : Nat × Bool × List Rul × Option Nat × Nat => mk 158 [(2, .bp (0, nx) 0), (3, .bp (1, nx + 1) 0), (4, .bp (2, nx + 2) 0), (6, .bp (3, s1) 0), (7, ruls all), (8, int i), (9, strA (all.getD i rul0).name), (10, ruls A), (11, ruls B), (12, boolA y.2.1), (13, int ia), (14, int y.1)] ⟨mgO s1 d x y.2.2.1 y.2.2.2.1 ++ mgB nx p q, pmOf (nmd y.2.2.2.1) (y.2.2.1.length * 4), y.2.2.2.2, 4⟩) (fun y => y.1 ≤ B.length ∧ (y.2.2.2.1 = none → y.2.2.1 = []) ∧ y.2.2.1.length ≤ 500 ∧ contB (all.getD i rul0).name (A.getD ia rul0) y.2.1 (B.drop y.1) y.2.2.1 = pairBS (all.getD i rul0).name (A.getD ia rul0) B R2) (fun y => B.length - y.1) ?_ ?_
                  · exact ⟨(0, false, R2, oi2, nx5), ⟨Nat.zero_le _, k2, k3, rfl⟩, ele_tell (bx := mgO s1 d x R2 oi2 ++ mgB nx p q) _ _ rfl rfl (List.Sublist.refl _) (List.Sublist.refl _) (BxLe.refl _) (PmEq_refl' _) ⟨AVle.refl _, AVle.refl _, AVle.refl _, AVle.refl _, AVle.refl _, AVle.refl _, AVle.refl _, AVle.refl _, AVle.refl _, AVle.refl _, AVle.refl _, AVle.refl _, trivial⟩⟩
                  · rintro ⟨ib, over, R3, oi3, nx6⟩ ⟨l1, l2, l3, l4⟩
                    dsimp only at l1 l2 l3 l4
                    cases over
                    · (repeat((conv=>whnf);first|apply ω0|apply ω1|apply ω2|refine τ3 rfl ?_|refine τ4 rfl ?_|refine ⟨rfl,?_⟩|apply τa|refine τb rfl ?_|refine ⟨⟨by kernel_rfl,by kernel_rfl⟩,?_⟩|refine ⟨by decide,?_⟩|apply τt|apply τf))
                      intro c g3; cases c
                      · have g3 := not_of g3
                        try dsimp only at g3
                        rw [contB_done (by omega)] at l4
                        rw [← l4] at k4
                        (repeat((conv=>whnf);first|apply ω0|apply ω1|apply ω2|refine τ3 rfl ?_|refine τ4 rfl ?_|refine ⟨rfl,?_⟩|apply τa|refine τb rfl ?_|refine ⟨⟨by kernel_rfl,by kernel_rfl⟩,?_⟩|refine ⟨by decide,?_⟩|apply τt|apply τf))
                        exact back (ia + 1, false, R3, oi3, nx6) ⟨hia, l2, l3, k4⟩ (by dsimp only; omega) (ele_tell (bx := mgO s1 d x R3 oi3 ++ mgB nx p q) _ _ rfl rfl (List.Sublist.refl _) (List.Sublist.refl _) (BxLe.refl _) (PmEq_refl' _) ⟨AVle.refl _, AVle.refl _, AVle.refl _, AVle.refl _, AVle.refl _, AVle.refl _, AVle.refl _, AVle.refl _, AVle.refl _, AVle.refl _, le_int (wrap_succ (by first | omega | (dsimp only; omega))), trivial⟩)
                      · have g3 := yes_of g3
                        try dsimp only at g3
                        have hib : ib < B.length := by omega
                        have hcBi := hcB ib
                        have hs2 := f11_spec (A.getD ia rul0).act [(B.getD ib rul0).act] (by simp)
                        have e1 := contB_bad (s := (all.getD i rul0).name) (a := A.getD ia rul0) (R := R3) hib
                        have e2 := contB_go (s := (all.getD i rul0).name) (a := A.getD ia rul0) (R := R3) hib
                        unfold pairS at e1 e2
                        generalize strict (A.getD ia rul0).act [(B.getD ib rul0).act] = ab at hs2 e1 e2
                        (repeat((conv=>whnf);first|apply ω0|apply ω1|apply ω2|refine τ3 rfl ?_|refine τ4 rfl ?_|refine ⟨rfl,?_⟩|apply τa|refine τb rfl ?_|refine ⟨⟨by kernel_rfl,by kernel_rfl⟩,?_⟩|refine ⟨by decide,?_⟩|apply τt|apply τf))
                        refine AW.le (E' := mk 158 [(2, .bp (0, nx) 0), (3, .bp (1, nx + 1) 0), (4, .bp (2, nx + 2) 0), (6, .bp (3, s1) 0), (7, ruls all), (8, int i), (9, strA (all.getD i rul0).name), (10, ruls A), (11, ruls B), (12, boolA false), (13, int ia), (14, int ib)] ⟨mgO s1 d x R3 oi3 ++ mgB nx p q, pmOf (nmd oi3) (R3.length * 4), nx6, 4⟩) (ele_tell _ _ rfl rfl (List.Sublist.refl _) (List.Sublist.refl _) (BxLe.refl _) (PmEq_refl' _) ⟨AVle.refl _, AVle.refl _, AVle.refl _, AVle.refl _, AVle.refl _, AVle.refl _, AVle.refl _, AVle.refl _, AVle.refl _, AVle.refl _, AVle.refl _, AVle.refl _, trivial⟩) ?_
                        refine aw_mid (fun y : Nat => mk 158 [(2, .bp (0, nx) 0), (3, .bp (1, nx + 1) 0), (4, .bp (2, nx + 2) 0), (6, .bp (3, s1) 0), (7, ruls all), (8, int i), (9, strA (all.getD i rul0).name), (10, ruls A), (11, ruls B), (12, boolA false), (13, int ia), (14, int ib), (15, .bp (4, y) 0)] ⟨((4, y), .c [strA (all.getD i rul0).name, int ab.1, int ab.2, .os 0 0 (fun _ => .any) none]) :: (mgO s1 d x R3 oi3 ++ mgB nx p q), pmOf (nmd oi3) (R3.length * 4), y + 1, 5⟩) (fun y => True) ?_ ?_
                        · refine aw_mixN 15 _ (fun i => match i with | 14 => true | _ => false) (fun i => match i with | 12 => true | _ => false) [0, 1, 2, 3, 4, 5, 6, 7, 8, 9, 10, 11, 12, 13, 14] (by kernel_rfl) (by kernel_rfl) (HB.refl _) ?_
                          (repeat((conv=>whnf);first|apply ω0|apply ω1|apply ω2|refine τ3 rfl ?_|refine τ4 rfl ?_|refine ⟨rfl,?_⟩|apply τa|refine τb rfl ?_|refine ⟨⟨by kernel_rfl,by kernel_rfl⟩,?_⟩|refine ⟨by decide,?_⟩|apply τt|apply τf))
                          refine ⟨⟨by first | omega | (dsimp only; omega), by first | omega | (dsimp only; omega)⟩, ?_⟩
                          (repeat((conv=>whnf);first|apply ω0|apply ω1|apply ω2|refine τ3 rfl ?_|refine τ4 rfl ?_|refine ⟨rfl,?_⟩|apply τa|refine τb rfl ?_|refine ⟨⟨by kernel_rfl,by kernel_rfl⟩,?_⟩|refine ⟨by decide,?_⟩|apply τt|apply τf))
                          refine ⟨⟨by first | omega | (dsimp only; omega), by first | omega | (dsimp only; omega)⟩, ?_⟩
                          (repeat((conv=>whnf);first|apply ω0|apply ω1|apply ω2|refine τ3 rfl ?_|refine τ4 rfl ?_|refine ⟨rfl,?_⟩|apply τa|refine τb rfl ?_|refine ⟨⟨by kernel_rfl,by kernel_rfl⟩,?_⟩|refine ⟨by decide,?_⟩|apply τt|apply τf))
                          refine ⟨_, pure_tells rfl rfl rfl hs2 ⟨AVle.os_sl.trans (AVle.sl_fun fun k hk => ?_), trivial⟩ (NoId.ag (by intro y hy; simp at hy; rcases hy with rfl | rfl <;> exact NoId.v _)), ?_⟩
                          · match k, hk with
                            | 0, _ => rfl
                            | 1, _ => rfl
                          (repeat((conv=>whnf);first|apply ω0|apply ω1|apply ω2|refine τ3 rfl ?_|refine τ4 rfl ?_|refine ⟨rfl,?_⟩|apply τa|refine τb rfl ?_|refine ⟨⟨by kernel_rfl,by kernel_rfl⟩,?_⟩|refine ⟨by decide,?_⟩|apply τt|apply τf))
                          refine ⟨_, eff_alloc rfl rfl z_rul14 (HB.cons rfl (HB.cons rfl (HB.cons rfl (HB.one rfl)))), fun r h' hr => ?_⟩
                          obtain ⟨rfl, rfl⟩ := hr
                          (repeat((conv=>whnf);first|apply ω0|apply ω1|apply ω2|refine τ3 rfl ?_|refine τ4 rfl ?_|refine ⟨rfl,?_⟩|apply τa|refine τb rfl ?_|refine ⟨⟨by kernel_rfl,by kernel_rfl⟩,?_⟩|refine ⟨by decide,?_⟩|apply τt|apply τf))
                          exact ⟨nx6, trivial, ele_tell _ _ rfl rfl (List.Sublist.refl _) (List.Sublist.refl _) (BxLe.refl _) (PmEq_refl' _) ⟨AVle.refl _, AVle.refl _, AVle.refl _, AVle.refl _, AVle.refl _, AVle.refl _, AVle.refl _, AVle.refl _, AVle.refl _, AVle.refl _, AVle.refl _, AVle.refl _, AVle.refl _, trivial⟩⟩
                        · rintro sx -
                          (repeat((conv=>whnf);first|apply ω0|apply ω2|refine τ3 rfl ?_|refine τ4 rfl ?_|refine ⟨rfl,?_⟩|apply τa|refine τb rfl ?_|refine ⟨⟨by kernel_rfl,by kernel_rfl⟩,?_⟩|refine ⟨by decide,?_⟩|apply τt|apply τf))
                          refine aw_mid (fun y : Option Nat × Nat => mk 158 [(2, .bp (0, nx) 0), (3, .bp (1, nx + 1) 0), (4, .bp (2, nx + 2) 0), (6, .bp (3, s1) 0), (7, ruls all), (8, int i), (9, strA (all.getD i rul0).name), (10, ruls A), (11, ruls B), (12, boolA false), (13, int ia), (14, int ib), (15, .bp (4, sx) 0)] ⟨xrB sx (all.getD i rul0).name ab (A.getD ia rul0).conds y.1 ++ (mgO s1 d x R3 oi3 ++ mgB nx p q), pmOf (nmN 4 y.1) ((A.getD ia rul0).conds.length * 4) ++ pmOf (nmd oi3) (R3.length * 4), y.2, 5⟩) (fun y => y.1 = none → (A.getD ia rul0).conds = []) ?_ ?_
                          · refine aw_region ?_
                            (repeat((conv=>whnf);first|apply ω0|apply ω1|apply ω2|refine τ3 rfl ?_|refine τ4 rfl ?_|refine ⟨rfl,?_⟩|apply τa|refine τb rfl ?_|refine ⟨⟨by kernel_rfl,by kernel_rfl⟩,?_⟩|refine ⟨by decide,?_⟩|apply τt|apply τf))
                            refine ⟨⟨by first | omega | (dsimp only; omega), by first | omega | (dsimp only; omega)⟩, ?_⟩
                            (repeat((conv=>whnf);first|apply ω0|apply ω1|apply ω2|refine τ3 rfl ?_|refine τ4 rfl ?_|refine ⟨rfl,?_⟩|apply τa|refine τb rfl ?_|refine ⟨⟨by kernel_rfl,by kernel_rfl⟩,?_⟩|refine ⟨by decide,?_⟩|apply τt|apply τf))
                            refine appK_intro (fun m0 => ?_) (fun m0 => ?_)
                            · (repeat((conv=>whnf);first|apply ω0|apply ω1|apply ω2|refine τ3 rfl ?_|refine τ4 rfl ?_|refine ⟨rfl,?_⟩|apply τa|refine τb rfl ?_|refine ⟨⟨by kernel_rfl,by kernel_rfl⟩,?_⟩|refine ⟨by decide,?_⟩|apply τt|apply τf))
                              exact ⟨(none, sx + 1), (fun _ => List.length_eq_zero_iff.1 m0), ele_tell (bx := xrB sx (all.getD i rul0).name ab (A.getD ia rul0).conds none ++ (mgO s1 d x R3 oi3 ++ mgB nx p q)) _ _ rfl rfl (List.Sublist.refl _) (List.Sublist.refl _) ⟨rfl, ⟨AVle.refl _, AVle.refl _, AVle.refl _, le_none m0, trivial⟩, BxLe.refl _⟩ (PmEq_refl' _) ⟨AVle.refl _, AVle.refl _, AVle.refl _, AVle.refl _, AVle.refl _, AVle.refl _, AVle.refl _, AVle.refl _, AVle.refl _, AVle.refl _, AVle.refl _, AVle.refl _, AVle.refl _, trivial⟩⟩
                            · refine ⟨fun _ _ => rfl, by show (0 + (A.getD ia rul0).conds.length) * 32 ≤ _; omega, by show 0 + (A.getD ia rul0).conds.length ≤ _; omega, ?_⟩
                              (repeat((conv=>whnf);first|apply ω0|apply ω1|apply ω2|refine τ3 rfl ?_|refine τ4 rfl ?_|refine ⟨rfl,?_⟩|apply τa|refine τb rfl ?_|refine ⟨⟨by kernel_rfl,by kernel_rfl⟩,?_⟩|refine ⟨by decide,?_⟩|apply τt|apply τf))
                              exact ⟨(some (sx + 1), sx + 2), (fun h => by cases h), ele_tell (bx := xrB sx (all.getD i rul0).name ab (A.getD ia rul0).conds (some (sx + 1)) ++ (mgO s1 d x R3 oi3 ++ mgB nx p q)) _ _ rfl rfl (List.Sublist.refl _) (List.Sublist.refl _) ⟨rfl, ⟨AVle.refl _, AVle.refl _, AVle.refl _, le_first, trivial⟩, BxLe.refl _⟩ ⟨rfl, by rw [Nat.zero_add]; rfl, PmEq_refl' _⟩ ⟨AVle.refl _, AVle.refl _, AVle.refl _, AVle.refl _, AVle.refl _, AVle.refl _, AVle.refl _, AVle.refl _, AVle.refl _, AVle.refl _, AVle.refl _, AVle.refl _, AVle.refl _, trivial⟩⟩
                          · rintro ⟨oi4, nx7⟩ hoi4
                            dsimp only at hoi4
                            have hjl := join_le (A.getD ia rul0).conds
                            (repeat((conv=>whnf);first|apply ω0|apply ω1|apply ω2|refine τ3 rfl ?_|refine τ4 rfl ?_|refine ⟨rfl,?_⟩|apply τa|refine τb rfl ?_|refine ⟨⟨by kernel_rfl,by kernel_rfl⟩,?_⟩|refine ⟨by decide,?_⟩|apply τt|apply τf))
                            refine aw_loop (fun y : Nat × List Cnd × Option Nat × Nat => mk 158 [(2, .bp (0, nx) 0), (3, .bp (1, nx + 1) 0), (4, .bp (2, nx + 2) 0), (6, .bp (3, s1) 0), (7, ruls all), (8, int i), (9, strA (all.getD i rul0).name), (10, ruls A), (11, ruls B), (12, boolA false), (13, int ia), (14, int ib), (15, .bp (4, sx) 0), (16, int y.1)] ⟨xrB sx (all.getD i rul0).name ab y.2.1 y.2.2.1 ++ (mgO s1 d x R3 oi3 ++ mgB nx p q), pmOf (nmN 4 y.2.2.1) (y.2.1.length * 4) ++ pmOf (nmd oi3) (R3.length * 4), y.2.2.2, 5⟩) (fun y => y.1 ≤ (B.getD ib rul0).conds.length ∧ (y.2.2.1 = none → y.2.1 = []) ∧ y.2.1 = joinC (A.getD ia rul0).conds ((B.getD ib rul0).conds.take y.1)) (fun y => (B.getD ib rul0).conds.length - y.1) ?_ ?_
                            · exact ⟨(0, (A.getD ia rul0).conds, oi4, nx7), ⟨Nat.zero_le _, hoi4, rfl⟩, ele_tell _ _ rfl rfl (List.Sublist.refl _) (List.Sublist.refl _) (BxLe.refl _) (PmEq_refl' _) ⟨AVle.refl _, AVle.refl _, AVle.refl _, AVle.refl _, AVle.refl _, AVle.refl _, AVle.refl _, AVle.refl _, AVle.refl _, AVle.refl _, AVle.refl _, AVle.refl _, AVle.refl _, AVle.refl _, trivial⟩⟩
                            · rintro ⟨j, L, oi5, nx8⟩ ⟨m1, m2, m3⟩
                              dsimp only at m1 m2 m3
                              have hjl2 := hjl ((B.getD ib rul0).conds.take j)
                              rw [List.length_take, ← m3] at hjl2
                              (repeat((conv=>whnf);first|apply ω0|apply ω1|apply ω2|refine τ3 rfl ?_|refine τ4 rfl ?_|refine ⟨rfl,?_⟩|apply τa|refine τb rfl ?_|refine ⟨⟨by kernel_rfl,by kernel_rfl⟩,?_⟩|refine ⟨by decide,?_⟩|apply τt|apply τf))
                              refine ⟨⟨by first | omega | (dsimp only; omega), by first | omega | (dsimp only; omega)⟩, ?_⟩
                              (repeat((conv=>whnf);first|apply ω0|apply ω1|apply ω2|refine τ3 rfl ?_|refine τ4 rfl ?_|refine ⟨rfl,?_⟩|apply τa|refine τb rfl ?_|refine ⟨⟨by kernel_rfl,by kernel_rfl⟩,?_⟩|refine ⟨by decide,?_⟩|apply τt|apply τf))
                              intro c g4; cases c
                              · have g4 : ¬ ((j : Int) < (((B.getD ib rul0).conds.length : Nat) : Int)) := not_of g4
                                have hjj : j = (B.getD ib rul0).conds.length := (by omega)
                                rw [hjj, List.take_length] at m3
                                rw [← m3] at e1 e2
                                clear m3 hjl hjl2
                                (repeat((conv=>whnf);first|apply ω0|apply ω1|apply ω2|refine τ3 rfl ?_|refine τ4 rfl ?_|refine ⟨rfl,?_⟩|apply τa|refine τb rfl ?_|refine ⟨⟨by kernel_rfl,by kernel_rfl⟩,?_⟩|refine ⟨by decide,?_⟩|apply τt|apply τf))
                                refine splitO_eq (b := .os 4 L.length (cndF L) (nmN 4 oi5)) rfl ?_
                                (repeat((conv=>whnf);first|apply ω0|apply ω1|apply ω2|refine τ3 rfl ?_|refine τ4 rfl ?_|refine ⟨rfl,?_⟩|apply τa|refine τb rfl ?_|refine ⟨⟨by kernel_rfl,by kernel_rfl⟩,?_⟩|refine ⟨by decide,?_⟩|apply τt|apply τf))
                                intro c g5; cases c
                                · have g5 : ¬ ((((L.length : Nat) : Int)) > 6) := not_of g5
                                  (repeat((conv=>whnf);first|apply ω0|apply ω1|apply ω2|refine τ3 rfl ?_|refine τ4 rfl ?_|refine ⟨rfl,?_⟩|apply τa|refine τb rfl ?_|refine ⟨⟨by kernel_rfl,by kernel_rfl⟩,?_⟩|refine ⟨by decide,?_⟩|apply τt|apply τf))
                                  refine splitO_eq (b := .os 4 R3.length (rulF R3) (nmd oi3)) rfl ?_
                                  (repeat((conv=>whnf);first|apply ω0|apply ω1|apply ω2|refine τ3 rfl ?_|refine τ4 rfl ?_|refine ⟨rfl,?_⟩|apply τa|refine τb rfl ?_|refine ⟨⟨by kernel_rfl,by kernel_rfl⟩,?_⟩|refine ⟨by decide,?_⟩|apply τt|apply τf))
                                  intro c g6; cases c
                                  · have g6 : ¬ ((((R3.length : Nat) : Int)) ≥ 500) := not_of g6
                                    have hb : badS R3 ⟨(all.getD i rul0).name, ab, L⟩ = false := by
                                      unfold badS; rw [decide_eq_false (by show ¬ 6 < L.length; omega), decide_eq_false (by omega)]; rfl
                                    have e2 := e2 hb
                                    rw [e2] at l4
                                    clear e1 e2
                                    (repeat((conv=>whnf);first|apply ω0|apply ω2|refine τ3 rfl ?_|refine τ4 rfl ?_|refine ⟨rfl,?_⟩|apply τa|refine τb rfl ?_|refine ⟨⟨by kernel_rfl,by kernel_rfl⟩,?_⟩|refine ⟨by decide,?_⟩|apply τt|apply τf))
                                    refine AW.le (E' := mk 158 [(2, .bp (0, nx) 0), (3, .bp (1, nx + 1) 0), (4, .bp (2, nx + 2) 0), (6, .bp (3, s1) 0), (7, ruls all), (8, int i), (9, strA (all.getD i rul0).name), (10, ruls A), (11, ruls B), (12, boolA false), (13, int ia), (14, int ib), (15, .bp (4, sx) 0)] ⟨((4, sx), .c (rulC ⟨(all.getD i rul0).name, ab, L⟩)) :: (mgO s1 d x R3 oi3 ++ mgB nx p q), pmOf (nmd oi3) (R3.length * 4), nx8, 5⟩) (ele_tell _ _ rfl rfl (List.Sublist.refl _) (List.sublist_append_right _ _) ⟨rfl, ⟨AVle.refl _, AVle.refl _, AVle.refl _, AVle.os_sl, trivial⟩, BxLe.refl _⟩ (PmEq_refl' _) ⟨AVle.refl _, AVle.refl _, AVle.refl _, AVle.refl _, AVle.refl _, AVle.refl _, AVle.refl _, AVle.refl _, AVle.refl _, AVle.refl _, AVle.refl _, AVle.refl _, AVle.refl _, trivial⟩) ?_
                                    (repeat((conv=>whnf);first|apply ω0|apply ω1|apply ω2|refine τ3 rfl ?_|refine τ4 rfl ?_|refine ⟨rfl,?_⟩|apply τa|refine τb rfl ?_|refine ⟨⟨by kernel_rfl,by kernel_rfl⟩,?_⟩|refine ⟨by decide,?_⟩|apply τt|apply τf))
                                    refine splitO_eq (b := rulA ⟨(all.getD i rul0).name, ab, L⟩) rfl ?_
                                    cases oi3 with
                                    | none =>
                                      (repeat((conv=>whnf);first|apply ω0|apply ω1|apply ω2|refine τ3 rfl ?_|refine τ4 rfl ?_|refine ⟨rfl,?_⟩|apply τa|refine τb rfl ?_|refine ⟨⟨by kernel_rfl,by kernel_rfl⟩,?_⟩|refine ⟨by decide,?_⟩|apply τt|apply τf))
                                      refine ⟨oneRow_one rfl, by show (R3.length + 1) * 56 ≤ _; omega, by omega, ?_⟩
                                      (repeat((conv=>whnf);first|apply ω0|apply ω1|apply ω2|refine τ3 rfl ?_|refine τ4 rfl ?_|refine ⟨rfl,?_⟩|apply τa|refine τb rfl ?_|refine ⟨⟨by kernel_rfl,by kernel_rfl⟩,?_⟩|refine ⟨by decide,?_⟩|apply τt|apply τf))
                                      refine splitO_eq (b := cnds L) rfl ?_
                                      (repeat((conv=>whnf);first|apply ω0|apply ω1|apply ω2|refine τ3 rfl ?_|refine τ4 rfl ?_|refine ⟨rfl,?_⟩|apply τa|refine τb rfl ?_|refine ⟨⟨by kernel_rfl,by kernel_rfl⟩,?_⟩|refine ⟨by decide,?_⟩|apply τt|apply τf))
                                      intro c hc
                                      have hc2 : c = decide (L.length = 0) := hc.trans (eq0_nat _)
                                      clear hc; subst hc2
                                      (repeat((conv=>whnf);first|apply ω0|apply ω1|apply ω2|refine τ3 rfl ?_|refine τ4 rfl ?_|refine ⟨rfl,?_⟩|apply τa|refine τb rfl ?_|refine ⟨⟨by kernel_rfl,by kernel_rfl⟩,?_⟩|refine ⟨by decide,?_⟩|apply τt|apply τf))
                                      exact back (ib + 1, decide (L.length = 0), R3 ++ [(⟨(all.getD i rul0).name, ab, L⟩ : Rul)], some nx8, nx8 + 1) ⟨hib, (fun h => by cases h), by dsimp only; rw [List.length_append]; show R3.length + 1 ≤ 500; omega, l4⟩ (by dsimp only; omega) (ele_tell (bx := mgO s1 d x (R3 ++ [(⟨(all.getD i rul0).name, ab, L⟩ : Rul)]) (some nx8) ++ mgB nx p q) (pm := pmOf (nmd (some nx8)) ((R3 ++ [(⟨(all.getD i rul0).name, ab, L⟩ : Rul)]).length * 4)) _ _ rfl rfl (.cons _ (List.Sublist.refl _)) (List.Sublist.refl _) ⟨rfl, ⟨AVle.refl _, AVle.refl _, AVle.refl _, le_catR, trivial⟩, BxLe.refl _⟩ (by rw [List.length_append]; exact ⟨rfl, rfl, trivial⟩) ⟨AVle.refl _, AVle.refl _, AVle.refl _, AVle.refl _, AVle.refl _, AVle.refl _, AVle.refl _, AVle.refl _, AVle.refl _, AVle.refl _, AVle.refl _, le_int (wrap_succ (by first | omega | (dsimp only; omega))), trivial⟩)
                                    | some o3 =>
                                      (repeat((conv=>whnf);first|apply ω0|apply ω1|apply ω2|refine τ3 rfl ?_|refine τ4 rfl ?_|refine ⟨rfl,?_⟩|apply τa|refine τb rfl ?_|refine ⟨⟨by kernel_rfl,by kernel_rfl⟩,?_⟩|refine ⟨by decide,?_⟩|apply τt|apply τf))
                                      refine ⟨oneRow_one rfl, by show (R3.length + 1) * 56 ≤ _; omega, by omega, ?_⟩
                                      (repeat((conv=>whnf);first|apply ω0|apply ω1|apply ω2|refine τ3 rfl ?_|refine τ4 rfl ?_|refine ⟨rfl,?_⟩|apply τa|refine τb rfl ?_|refine ⟨⟨by kernel_rfl,by kernel_rfl⟩,?_⟩|refine ⟨by decide,?_⟩|apply τt|apply τf))
                                      refine splitO_eq (b := cnds L) rfl ?_
                                      (repeat((conv=>whnf);first|apply ω0|apply ω1|apply ω2|refine τ3 rfl ?_|refine τ4 rfl ?_|refine ⟨rfl,?_⟩|apply τa|refine τb rfl ?_|refine ⟨⟨by kernel_rfl,by kernel_rfl⟩,?_⟩|refine ⟨by decide,?_⟩|apply τt|apply τf))
                                      intro c hc
                                      have hc2 : c = decide (L.length = 0) := hc.trans (eq0_nat _)
                                      clear hc; subst hc2
                                      (repeat((conv=>whnf);first|apply ω0|apply ω1|apply ω2|refine τ3 rfl ?_|refine τ4 rfl ?_|refine ⟨rfl,?_⟩|apply τa|refine τb rfl ?_|refine ⟨⟨by kernel_rfl,by kernel_rfl⟩,?_⟩|refine ⟨by decide,?_⟩|apply τt|apply τf))
                                      exact back (ib + 1, decide (L.length = 0), R3 ++ [(⟨(all.getD i rul0).name, ab, L⟩ : Rul)], some nx8, nx8 + 1) ⟨hib, (fun h => by cases h), by dsimp only; rw [List.length_append]; show R3.length + 1 ≤ 500; omega, l4⟩ (by dsimp only; omega) (ele_tell (bx := mgO s1 d x (R3 ++ [(⟨(all.getD i rul0).name, ab, L⟩ : Rul)]) (some nx8) ++ mgB nx p q) (pm := pmOf (nmd (some nx8)) ((R3 ++ [(⟨(all.getD i rul0).name, ab, L⟩ : Rul)]).length * 4)) _ _ rfl rfl (.cons _ (List.Sublist.refl _)) (List.Sublist.refl _) ⟨rfl, ⟨AVle.refl _, AVle.refl _, AVle.refl _, le_catR, trivial⟩, BxLe.refl _⟩ (by rw [List.length_append]; exact ⟨rfl, rfl, trivial⟩) ⟨AVle.refl _, AVle.refl _, AVle.refl _, AVle.refl _, AVle.refl _, AVle.refl _, AVle.refl _, AVle.refl _, AVle.refl _, AVle.refl _, AVle.refl _, le_int (wrap_succ (by first | omega | (dsimp only; omega))), trivial⟩)
                                  · have g6 : (((R3.length : Nat) : Int)) ≥ 500 := yes_of g6
                                    have hb : badS R3 ⟨(all.getD i rul0).name, ab, L⟩ = true := by
                                      unfold badS; rw [decide_eq_true (by omega : 500 ≤ R3.length), Bool.or_true]
                                    rw [e1 hb] at l4
                                    rw [← l4] at k4
                                    rw [← k4] at h4
                                    rw [← h4]
                                    (repeat((conv=>whnf);first|apply ω0|apply ω1|apply ω2|refine τ3 rfl ?_|refine τ4 rfl ?_|refine ⟨rfl,?_⟩|apply τa|refine τb rfl ?_|refine ⟨⟨by kernel_rfl,by kernel_rfl⟩,?_⟩|refine ⟨by decide,?_⟩|apply τt|apply τf))
                                    exact ret_tells_all rfl (by first | trivial | exact ⟨rfl, trivial⟩ | exact ⟨⟨rfl, rfl⟩, trivial⟩) (AVle.tups (cs := [_, _]) ⟨AVle.ags (cs := [_, _, _, _]) ⟨AVle.refl _, AVle.refl _, AVle.refl _, AVle.os_sl0, trivial⟩, AVle.refl _, trivial⟩)
                                · have g5 : (((L.length : Nat) : Int)) > 6 := yes_of g5
                                  have hb : badS R3 ⟨(all.getD i rul0).name, ab, L⟩ = true := by
                                    unfold badS; rw [decide_eq_true (by show 6 < L.length; omega)]; rfl
                                  rw [e1 hb] at l4
                                  rw [← l4] at k4
                                  rw [← k4] at h4
                                  rw [← h4]
                                  (repeat((conv=>whnf);first|apply ω0|apply ω1|apply ω2|refine τ3 rfl ?_|refine τ4 rfl ?_|refine ⟨rfl,?_⟩|apply τa|refine τb rfl ?_|refine ⟨⟨by kernel_rfl,by kernel_rfl⟩,?_⟩|refine ⟨by decide,?_⟩|apply τt|apply τf))
                                  exact ret_tells_all rfl (by first | trivial | exact ⟨rfl, trivial⟩ | exact ⟨⟨rfl, rfl⟩, trivial⟩) (AVle.tups (cs := [_, _]) ⟨AVle.ags (cs := [_, _, _, _]) ⟨AVle.refl _, AVle.refl _, AVle.refl _, AVle.os_sl0, trivial⟩, AVle.refl _, trivial⟩)
                              · have g4 : (j : Int) < (((B.getD ib rul0).conds.length : Nat) : Int) := yes_of g4
                                have g7 := g4
                                have hj : j < (B.getD ib rul0).conds.length := by omega
                                have hsn : joinC (A.getD ia rul0).conds ((B.getD ib rul0).conds.take (j + 1)) = if (B.getD ib rul0).conds.getD j cnd0 ∈ L then L else L ++ [(B.getD ib rul0).conds.getD j cnd0] := by rw [take_getD cnd0 hj, join_snoc, ← m3]
                                have hin := in_spec L ((B.getD ib rul0).conds.getD j cnd0) (by omega)
                                clear m3 hjl e1 e2
                                (repeat((conv=>whnf);first|apply ω0|apply ω1|apply ω2|refine τ3 rfl ?_|refine τ4 rfl ?_|refine ⟨rfl,?_⟩|apply τa|refine τb rfl ?_|refine ⟨⟨by kernel_rfl,by kernel_rfl⟩,?_⟩|refine ⟨by decide,?_⟩|apply τt|apply τf))
                                (refine aw_draw 12 ?_ ?_ ?_ ?_; (· kernel_rfl); (· kernel_rfl); (· kernel_rfl))
                                (repeat((conv=>whnf);first|apply ω0|apply ω1|apply ω2|refine τ3 rfl ?_|refine τ4 rfl ?_|refine ⟨rfl,?_⟩|apply τa|refine τb rfl ?_|refine ⟨⟨by kernel_rfl,by kernel_rfl⟩,?_⟩|refine ⟨by decide,?_⟩|apply τt|apply τf))
                                refine splitO_eq (b := .os 4 L.length (cndF L) (nmN 4 oi5)) rfl ?_
                                (repeat((conv=>whnf);first|apply ω0|apply ω1|apply ω2|refine τ3 rfl ?_|refine τ4 rfl ?_|refine ⟨rfl,?_⟩|apply τa|refine τb rfl ?_|refine ⟨⟨by kernel_rfl,by kernel_rfl⟩,?_⟩|refine ⟨by decide,?_⟩|apply τt|apply τf))
                                refine ⟨⟨by first | omega | (dsimp only; omega), by first | omega | (dsimp only; omega)⟩, ?_⟩
                                (repeat((conv=>whnf);first|apply ω0|apply ω1|apply ω2|refine τ3 rfl ?_|refine τ4 rfl ?_|refine ⟨rfl,?_⟩|apply τa|refine τb rfl ?_|refine ⟨⟨by kernel_rfl,by kernel_rfl⟩,?_⟩|refine ⟨by decide,?_⟩|apply τt|apply τf))
                                refine ⟨⟨Int.natCast_nonneg _, g4⟩, ?_⟩
                                (repeat((conv=>whnf);first|apply ω0|apply ω1|apply ω2|refine τ3 rfl ?_|refine τ4 rfl ?_|refine ⟨rfl,?_⟩|apply τa|refine τb rfl ?_|refine ⟨⟨by kernel_rfl,by kernel_rfl⟩,?_⟩|refine ⟨by decide,?_⟩|apply τt|apply τf))
                                refine ex_yields (yields_tells rfl rfl hin ⟨AVle.os_sl, AVle.refl _, trivial⟩ (NoId.v _)) ?_
                                clear hin
                                by_cases hc : (B.getD ib rul0).conds.getD j cnd0 ∈ L
                                · rw [if_pos hc] at hsn
                                  rw [decide_eq_true hc]
                                  (repeat((conv=>whnf);first|apply ω0|apply ω1|apply ω2|refine τ3 rfl ?_|refine τ4 rfl ?_|refine ⟨rfl,?_⟩|apply τa|refine τb rfl ?_|refine ⟨⟨by kernel_rfl,by kernel_rfl⟩,?_⟩|refine ⟨by decide,?_⟩|apply τt|apply τf))
                                  exact back (j + 1, L, oi5, nx8) ⟨hj, m2, hsn.symm⟩ (by dsimp only; omega) (ele_tell (bx := xrB sx (all.getD i rul0).name ab (L) (oi5) ++ (mgO s1 d x R3 oi3 ++ mgB nx p q)) (pm := pmOf (nmN 4 (oi5)) ((L).length * 4) ++ pmOf (nmd oi3) (R3.length * 4)) _ _ rfl rfl (List.Sublist.refl _) (List.Sublist.refl _) (BxLe.refl _) (PmEq_refl' _) ⟨AVle.refl _, AVle.refl _, AVle.refl _, AVle.refl _, AVle.refl _, AVle.refl _, AVle.refl _, AVle.refl _, AVle.refl _, AVle.refl _, AVle.refl _, AVle.refl _, AVle.refl _, le_int (wrap_succ (by first | omega | (dsimp only; omega))), trivial⟩)
                                · rw [if_neg hc] at hsn
                                  rw [decide_eq_false hc]
                                  (repeat((conv=>whnf);first|apply ω0|apply ω1|apply ω2|refine τ3 rfl ?_|refine τ4 rfl ?_|refine ⟨rfl,?_⟩|apply τa|refine τb rfl ?_|refine ⟨⟨by kernel_rfl,by kernel_rfl⟩,?_⟩|refine ⟨by decide,?_⟩|apply τt|apply τf))
                                  refine AW.le (E' := mk 158 [(2, .bp (0, nx) 0), (3, .bp (1, nx + 1) 0), (4, .bp (2, nx + 2) 0), (6, .bp (3, s1) 0), (7, ruls all), (8, int i), (9, strA (all.getD i rul0).name), (10, ruls A), (11, ruls B), (12, boolA false), (13, int ia), (14, int ib), (15, .bp (4, sx) 0), (16, int j)] ⟨xrB sx (all.getD i rul0).name ab L oi5 ++ (mgO s1 d x R3 oi3 ++ mgB nx p q), pmOf (nmN 4 oi5) (L.length * 4) ++ pmOf (nmd oi3) (R3.length * 4), nx8, 5⟩) (ele_tell _ _ rfl rfl (List.Sublist.refl _) (List.Sublist.refl _) (BxLe.refl _) (PmEq_refl' _) ⟨AVle.refl _, AVle.refl _, AVle.refl _, AVle.refl _, AVle.refl _, AVle.refl _, AVle.refl _, AVle.refl _, AVle.refl _, AVle.refl _, AVle.refl _, AVle.refl _, AVle.refl _, AVle.refl _, trivial⟩) ?_
                                  cases oi5 with
                                  | none =>
                                    (repeat((conv=>whnf);first|apply ω0|apply ω1|apply ω2|refine τ3 rfl ?_|refine τ4 rfl ?_|refine ⟨rfl,?_⟩|apply τa|refine τb rfl ?_|refine ⟨⟨by kernel_rfl,by kernel_rfl⟩,?_⟩|refine ⟨by decide,?_⟩|apply τt|apply τf))
                                    refine aw_mixN 13 _ (fun i => match i with | 11 => true | _ => false) (fun _ => false) [0, 1, 2, 3, 4, 5, 6, 7, 8, 9, 10, 11, 12] (by kernel_rfl) (by kernel_rfl) (HB.refl _) ?_
                                    (repeat((conv=>whnf);first|apply ω0|apply ω1|apply ω2|refine τ3 rfl ?_|refine τ4 rfl ?_|refine ⟨rfl,?_⟩|apply τa|refine τb rfl ?_|refine ⟨⟨by kernel_rfl,by kernel_rfl⟩,?_⟩|refine ⟨by decide,?_⟩|apply τt|apply τf))
                                    have hL0 := m2 rfl
                                    refine splitV_eq (b := .os 4 L.length (cndF L) (nmN 4 (none))) rfl ?_
                                    (conv => whnf)
                                    refine ⟨⟨by first | omega | (dsimp only; omega), by first | omega | (dsimp only; omega)⟩, ?_⟩
                                    (repeat((conv=>whnf);first|apply ω0|apply ω1|apply ω2|refine τ3 rfl ?_|refine τ4 rfl ?_|refine ⟨rfl,?_⟩|apply τa|refine τb rfl ?_|refine ⟨⟨by kernel_rfl,by kernel_rfl⟩,?_⟩|refine ⟨by decide,?_⟩|apply τt|apply τf))
                                    refine ⟨⟨Int.natCast_nonneg _, g7⟩, ?_⟩
                                    (repeat((conv=>whnf);first|apply ω0|apply ω1|apply ω2|refine τ3 rfl ?_|refine τ4 rfl ?_|refine ⟨rfl,?_⟩|apply τa|refine τb rfl ?_|refine ⟨⟨by kernel_rfl,by kernel_rfl⟩,?_⟩|refine ⟨by decide,?_⟩|apply τt|apply τf))
                                    refine ⟨_, eff_append1 (e := 59) (c := 4) (pm := pmOf (nmd oi3) (R3.length * 4)) (n := L.length) (oi := none) (sz := 4) (f := cndF L) (HB.refl _) rfl rfl rfl (.inr ⟨_, rfl⟩) (by kernel_rfl) (by kernel_rfl) (by kernel_rfl) (.inr rfl) (by kernel_rfl) rfl (oneRow_one rfl) (by rw [bytes_cnd10]; omega) (by omega), fun r h' hr => ?_⟩
                                    obtain ⟨rfl, rfl⟩ := hr
                                    (repeat((conv=>whnf);first|apply ω0|apply ω1|apply ω2|refine τ3 rfl ?_|refine τ4 rfl ?_|refine ⟨rfl,?_⟩|apply τa|refine τb rfl ?_|refine ⟨⟨by kernel_rfl,by kernel_rfl⟩,?_⟩|refine ⟨by decide,?_⟩|apply τt|apply τf))
                                    exact back (j + 1, L ++ [(B.getD ib rul0).conds.getD j cnd0], some nx8, nx8 + 1) ⟨hj, (fun h => by cases h), hsn.symm⟩ (by dsimp only; omega) (ele_tell (bx := xrB sx (all.getD i rul0).name ab (L ++ [(B.getD ib rul0).conds.getD j cnd0]) (some nx8) ++ (mgO s1 d x R3 oi3 ++ mgB nx p q)) (pm := pmOf (nmN 4 (some nx8)) ((L ++ [(B.getD ib rul0).conds.getD j cnd0]).length * 4) ++ pmOf (nmd oi3) (R3.length * 4)) _ _ rfl rfl (List.Sublist.refl _) (List.Sublist.refl _) ⟨rfl, ⟨AVle.refl _, AVle.refl _, AVle.refl _, le_cat, trivial⟩, BxLe.refl _⟩ (by rw [List.length_append]; exact ⟨rfl, rfl, PmEq_refl' _⟩) ⟨AVle.refl _, AVle.refl _, AVle.refl _, AVle.refl _, AVle.refl _, AVle.refl _, AVle.refl _, AVle.refl _, AVle.refl _, AVle.refl _, AVle.refl _, AVle.refl _, AVle.refl _, le_int (wrap_succ (by first | omega | (dsimp only; omega))), trivial⟩)
                                  | some o5 =>
                                    (repeat((conv=>whnf);first|apply ω0|apply ω1|apply ω2|refine τ3 rfl ?_|refine τ4 rfl ?_|refine ⟨rfl,?_⟩|apply τa|refine τb rfl ?_|refine ⟨⟨by kernel_rfl,by kernel_rfl⟩,?_⟩|refine ⟨by decide,?_⟩|apply τt|apply τf))
                                    refine aw_mixN 13 _ (fun i => match i with | 11 => true | _ => false) (fun _ => false) [0, 1, 2, 3, 4, 5, 6, 7, 8, 9, 10, 11, 12] (by kernel_rfl) (by kernel_rfl) (HB.refl _) ?_
                                    (repeat((conv=>whnf);first|apply ω0|apply ω1|apply ω2|refine τ3 rfl ?_|refine τ4 rfl ?_|refine ⟨rfl,?_⟩|apply τa|refine τb rfl ?_|refine ⟨⟨by kernel_rfl,by kernel_rfl⟩,?_⟩|refine ⟨by decide,?_⟩|apply τt|apply τf))
                                    refine splitV_eq (b := .os 4 L.length (cndF L) (nmN 4 (some o5))) rfl ?_
                                    (conv => whnf)
                                    refine ⟨⟨by first | omega | (dsimp only; omega), by first | omega | (dsimp only; omega)⟩, ?_⟩
                                    (repeat((conv=>whnf);first|apply ω0|apply ω1|apply ω2|refine τ3 rfl ?_|refine τ4 rfl ?_|refine ⟨rfl,?_⟩|apply τa|refine τb rfl ?_|refine ⟨⟨by kernel_rfl,by kernel_rfl⟩,?_⟩|refine ⟨by decide,?_⟩|apply τt|apply τf))
                                    refine ⟨⟨Int.natCast_nonneg _, g7⟩, ?_⟩
                                    (repeat((conv=>whnf);first|apply ω0|apply ω1|apply ω2|refine τ3 rfl ?_|refine τ4 rfl ?_|refine ⟨rfl,?_⟩|apply τa|refine τb rfl ?_|refine ⟨⟨by kernel_rfl,by kernel_rfl⟩,?_⟩|refine ⟨by decide,?_⟩|apply τt|apply τf))
                                    refine ⟨_, eff_append1 (e := 59) (c := 4) (pm := pmOf (nmd oi3) (R3.length * 4)) (n := L.length) (oi := some (4, o5)) (sz := 4) (f := cndF L) (HB.refl _) rfl rfl rfl (.inr ⟨_, rfl⟩) (by kernel_rfl) (by kernel_rfl) (by kernel_rfl) (.inr rfl) (by kernel_rfl) rfl (oneRow_one rfl) (by rw [bytes_cnd10]; omega) (by omega), fun r h' hr => ?_⟩
                                    obtain ⟨rfl, rfl⟩ := hr
                                    (repeat((conv=>whnf);first|apply ω0|apply ω1|apply ω2|refine τ3 rfl ?_|refine τ4 rfl ?_|refine ⟨rfl,?_⟩|apply τa|refine τb rfl ?_|refine ⟨⟨by kernel_rfl,by kernel_rfl⟩,?_⟩|refine ⟨by decide,?_⟩|apply τt|apply τf))
                                    exact back (j + 1, L ++ [(B.getD ib rul0).conds.getD j cnd0], some nx8, nx8 + 1) ⟨hj, (fun h => by cases h), hsn.symm⟩ (by dsimp only; omega) (ele_tell (bx := xrB sx (all.getD i rul0).name ab (L ++ [(B.getD ib rul0).conds.getD j cnd0]) (some nx8) ++ (mgO s1 d x R3 oi3 ++ mgB nx p q)) (pm := pmOf (nmN 4 (some nx8)) ((L ++ [(B.getD ib rul0).conds.getD j cnd0]).length * 4) ++ pmOf (nmd oi3) (R3.length * 4)) _ _ rfl rfl (List.Sublist.refl _) (List.Sublist.refl _) ⟨rfl, ⟨AVle.refl _, AVle.refl _, AVle.refl _, le_cat, trivial⟩, BxLe.refl _⟩ (by rw [List.length_append]; exact ⟨rfl, rfl, PmEq_refl' _⟩) ⟨AVle.refl _, AVle.refl _, AVle.refl _, AVle.refl _, AVle.refl _, AVle.refl _, AVle.refl _, AVle.refl _, AVle.refl _, AVle.refl _, AVle.refl _, AVle.refl _, AVle.refl _, le_int (wrap_succ (by first | omega | (dsimp only; omega))), trivial⟩)
                    · rw [contB_over] at l4
                      rw [← l4] at k4
                      (repeat((conv=>whnf);first|apply ω0|apply ω1|apply ω2|refine τ3 rfl ?_|refine τ4 rfl ?_|refine ⟨rfl,?_⟩|apply τa|refine τb rfl ?_|refine ⟨⟨by kernel_rfl,by kernel_rfl⟩,?_⟩|refine ⟨by decide,?_⟩|apply τt|apply τf))
                      intro c g3; cases c
                      · (repeat((conv=>whnf);first|apply ω0|apply ω1|apply ω2|refine τ3 rfl ?_|refine τ4 rfl ?_|refine ⟨rfl,?_⟩|apply τa|refine τb rfl ?_|refine ⟨⟨by kernel_rfl,by kernel_rfl⟩,?_⟩|refine ⟨by decide,?_⟩|apply τt|apply τf))
                        exact back (ia + 1, true, R3, oi3, nx6) ⟨hia, l2, l3, k4⟩ (by dsimp only; omega) (ele_tell (bx := mgO s1 d x R3 oi3 ++ mgB nx p q) _ _ rfl rfl (List.Sublist.refl _) (List.Sublist.refl _) (BxLe.refl _) (PmEq_refl' _) ⟨AVle.refl _, AVle.refl _, AVle.refl _, AVle.refl _, AVle.refl _, AVle.refl _, AVle.refl _, AVle.refl _, AVle.refl _, AVle.refl _, le_int (wrap_succ (by first | omega | (dsimp only; omega))), trivial⟩)
                      · (repeat((conv=>whnf);first|apply ω0|apply ω1|apply ω2|refine τ3 rfl ?_|refine τ4 rfl ?_|refine ⟨rfl,?_⟩|apply τa|refine τb rfl ?_|refine ⟨⟨by kernel_rfl,by kernel_rfl⟩,?_⟩|refine ⟨by decide,?_⟩|apply τt|apply τf))
                        exact back (ia + 1, true, R3, oi3, nx6) ⟨hia, l2, l3, k4⟩ (by dsimp only; omega) (ele_tell (bx := mgO s1 d x R3 oi3 ++ mgB nx p q) _ _ rfl rfl (List.Sublist.refl _) (List.Sublist.refl _) (BxLe.refl _) (PmEq_refl' _) ⟨AVle.refl _, AVle.refl _, AVle.refl _, AVle.refl _, AVle.refl _, AVle.refl _, AVle.refl _, AVle.refl _, AVle.refl _, AVle.refl _, le_int (wrap_succ (by first | omega | (dsimp only; omega))), trivial⟩)
              · rw [contA_over] at k4
                rw [← k4] at h4
                (repeat((conv=>whnf);first|apply ω0|apply ω1|apply ω2|refine τ3 rfl ?_|refine τ4 rfl ?_|refine ⟨rfl,?_⟩|apply τa|refine τb rfl ?_|refine ⟨⟨by kernel_rfl,by kernel_rfl⟩,?_⟩|refine ⟨by decide,?_⟩|apply τt|apply τf))
                intro c g2; cases c
                · (repeat((conv=>whnf);first|apply ω0|apply ω1|apply ω2|refine τ3 rfl ?_|refine τ4 rfl ?_|refine ⟨rfl,?_⟩|apply τa|refine τb rfl ?_|refine ⟨⟨by kernel_rfl,by kernel_rfl⟩,?_⟩|refine ⟨by decide,?_⟩|apply τt|apply τf))
                  exact back (i + 1, R2, oi2, nx5) ⟨hi, k2, k3, h4⟩ (by dsimp only; omega) (ele_tell (bx := mgO s1 d x R2 oi2 ++ mgB nx p q) _ _ rfl rfl (List.Sublist.refl _) (List.Sublist.refl _) (BxLe.refl _) (PmEq_refl' _) ⟨AVle.refl _, AVle.refl _, AVle.refl _, AVle.refl _, AVle.refl _, le_int (wrap_succ (by first | omega | (dsimp only; omega))), trivial⟩)
                · (repeat((conv=>whnf);first|apply ω0|apply ω1|apply ω2|refine τ3 rfl ?_|refine τ4 rfl ?_|refine ⟨rfl,?_⟩|apply τa|refine τb rfl ?_|refine ⟨⟨by kernel_rfl,by kernel_rfl⟩,?_⟩|refine ⟨by decide,?_⟩|apply τt|apply τf))
                  exact back (i + 1, R2, oi2, nx5) ⟨hi, k2, k3, h4⟩ (by dsimp only; omega) (ele_tell (bx := mgO s1 d x R2 oi2 ++ mgB nx p q) _ _ rfl rfl (List.Sublist.refl _) (List.Sublist.refl _) (BxLe.refl _) (PmEq_refl' _) ⟨AVle.refl _, AVle.refl _, AVle.refl _, AVle.refl _, AVle.refl _, le_int (wrap_succ (by first | omega | (dsimp only; omega))), trivial⟩)
          · rw [hh] at h4
            rw [if_pos rfl] at h4
            (repeat((conv=>whnf);first|apply ω0|apply ω1|apply ω2|refine τ3 rfl ?_|refine τ4 rfl ?_|refine ⟨rfl,?_⟩|apply τa|refine τb rfl ?_|refine ⟨⟨by kernel_rfl,by kernel_rfl⟩,?_⟩|refine ⟨by decide,?_⟩|apply τt|apply τf))
            exact back (i + 1, R, oi, nx4) ⟨hi, h2, h3, h4⟩ (by dsimp only; omega) (ele_tell (bx := mgO s1 d x R oi ++ mgB nx p q) _ _ rfl rfl (List.Sublist.refl _) (List.Sublist.refl _) (BxLe.refl _) (PmEq_refl' _) ⟨AVle.refl _, AVle.refl _, AVle.refl _, AVle.refl _, AVle.refl _, le_int (wrap_succ (by first | omega | (dsimp only; omega))), trivial⟩)
end Go.Proofs.W

namespace Go.Proofs.W
open Go.Vl
set_option maxRecDepth 100000

theorem nmEq_eq {a b : ByteArray} : nmEq a b = true ↔ a = b := by
  unfold nmEq
  rw [beq_iff_eq, Lib.toList_data, Lib.toList_data]
  constructor
  · intro h; cases a; cases b; exact congrArg ByteArray.mk (Array.toList_inj.1 h)
  · rintro rfl; rfl
theorem bothA_strict {a b : A2} (ha : right9 a.1 a.2 = true) (hb : right9 b.1 b.2 = true) : bothA a b = strict a [b] := by
  unfold bothA strictest
  have : (List.findIdx? wrongA [a, b]).isSome = false := by simp [wrongA, ha, hb]
  rw [this]; rfl
theorem bad_same {R : List Rul} {r : Rul} (h : R.length ≤ 500) : badS R r = badR R r := by
  unfold badS badR
  congr 1
  rw [decide_eq_decide]; omega
/-- Rows of rules that are right, all of one name. -/
def okL (s : ByteArray) (l : List Rul) : Prop := ∀ r ∈ l, r.name = s ∧ right9 r.act.1 r.act.2 = true
theorem pair_same {s : ByteArray} {a b : Rul} (ha : a.name = s ∧ right9 a.act.1 a.act.2 = true) (hb : b.name = s ∧ right9 b.act.1 b.act.2 = true) : pairS s a b = pairR a b := by
  unfold pairS pairR
  rw [bothA_strict ha.2 hb.2, ha.1]
theorem pairB_same {s : ByteArray} {a : Rul} (ha : a.name = s ∧ right9 a.act.1 a.act.2 = true) : ∀ (bs R : List Rul), okL s bs → R.length ≤ 500 → pairBS s a bs R = pairB a bs R ∧ ∀ o R', pairB a bs R = some (o, R') → R'.length ≤ 500
  | [], R, _, hR => ⟨rfl, fun o R' h => by cases h; exact hR⟩
  | b :: bs, R, hb, hR => by
    rw [pairBS, pairB, pair_same ha (hb b (.head _)), bad_same hR]
    cases hbad : badR R (pairR a b)
    · have hle := (badR_le hbad hR).1
      obtain ⟨i1, i2⟩ := pairB_same ha bs (R ++ [pairR a b]) (fun r hr => hb r (.tail _ hr)) hle
      simp only [Bool.false_eq_true, if_false]
      by_cases hc : (pairR a b).conds = []
      · simp only [if_pos hc]; exact ⟨trivial, fun o R' h => by cases h; exact hle⟩
      · simp only [if_neg hc]; exact ⟨i1, i2⟩
    · simp only [if_true]; exact ⟨trivial, fun o R' h => by cases h⟩
theorem pairA_same {s : ByteArray} {bs : List Rul} (hb : okL s bs) : ∀ (l R : List Rul), okL s l → R.length ≤ 500 → pairAS s bs l R = pairA bs l R ∧ ∀ R', pairA bs l R = some R' → R'.length ≤ 500
  | [], R, _, hR => ⟨rfl, fun R' h => by cases h; exact hR⟩
  | a :: l, R, hl, hR => by
    obtain ⟨j1, j2⟩ := pairB_same (hl a (.head _)) bs R hb hR
    rw [pairAS, pairA, j1]
    cases hx : pairB a bs R with
    | none => exact ⟨rfl, fun R' h => by cases h⟩
    | some y =>
      obtain ⟨o, R'⟩ := y
      have hle := j2 o R' hx
      cases o
      · exact pairA_same hb l R' (fun r hr => hl r (.tail _ hr)) hle
      · exact ⟨rfl, fun R'' h => by cases h; exact hle⟩
theorem rightR_act {r : Rul} (h : rightR r = true) : right9 r.act.1 r.act.2 = true := by
  unfold rightR at h
  simp only [Bool.and_eq_true] at h
  exact h.2.1
theorem ofL_ok {p : Pol} (hp : rightP p = true) (s : ByteArray) : okL s (ofL p s) := by
  unfold rightP at hp
  simp only [Bool.and_eq_true, Bool.not_eq_true'] at hp
  intro r hr
  unfold ofL at hr
  rcases List.mem_append.1 hr with q | q
  · obtain ⟨q1, q2⟩ := List.mem_filter.1 q
    have h2 := List.any_eq_false.1 hp.2.2 r q1
    exact ⟨nmEq_eq.1 q2, rightR_act (by simpa using h2)⟩
  · rw [List.mem_singleton.1 q]; exact ⟨rfl, hp.1⟩
/-- The names that a row of rules brings anew. -/
def newN : List ByteArray → List Rul → List ByteArray
  | _, [] => []
  | N, r :: l => if inN N r.name then newN N l else r.name :: newN (N ++ [r.name]) l
theorem names_new : ∀ (l : List Rul) (N : List ByteArray), l.foldl (fun N r => addN N r.name) N = N ++ newN N l
  | [], N => (List.append_nil N).symm
  | r :: l, N => by
    rw [List.foldl_cons, names_new l, newN]
    unfold addN
    by_cases h : inN N r.name = true
    · rw [if_pos h, if_pos h]
    · rw [if_neg h, if_neg h, List.append_assoc]; rfl
theorem ref_merge {p q : Pol} (hp : rightP p = true) (hq : rightP q = true) : ∀ (l pre R : List Rul) (N : List ByteArray), (∀ s, hasN pre s = inN N s) → R.length ≤ 500 → refR p q pre l R = mergeR p q (newN N l) R
  | [], pre, R, N, _, _ => rfl
  | r :: l, pre, R, N, hN, hR => by
    have hs := pairA_same (ofL_ok hq r.name) (ofL p r.name) R (ofL_ok hp r.name) hR
    rw [refR, newN, hN, hs.1]
    by_cases h : inN N r.name = true
    · rw [if_pos h, if_pos h]
      refine ref_merge hp hq l (pre ++ [r]) R N (fun s => ?_) hR
      unfold hasN at hN ⊢
      rw [List.any_append, hN]
      cases hx : inN N s
      · simp only [List.any_cons, List.any_nil, Bool.or_false, Bool.false_or]
        cases hy : nmEq r.name s
        · rfl
        · rw [nmEq_eq.1 hy] at h; rw [h] at hx; cases hx
      · rfl
    · rw [if_neg h, if_neg h, mergeR]
      cases hx : pairA (ofL q r.name) (ofL p r.name) R with
      | none => rfl
      | some R' =>
        refine ref_merge hp hq l (pre ++ [r]) R' (N ++ [r.name]) (fun s => ?_) (hs.2 R' hx)
        unfold hasN at hN ⊢
        unfold inN at hN ⊢
        rw [List.any_append, List.any_append, hN]
        simp only [List.any_cons, List.any_nil, Bool.or_false]
        congr 1
        unfold nmEq
        rw [Bool.eq_iff_iff, beq_iff_eq, beq_iff_eq]; exact eq_comm
/-- What the package merges is what the reference merges. -/
theorem merge_law {p q : Pol} (hp : rightP p = true) (hq : rightP q = true) : mergeP p q = (if (refMerge p q).2 then ((refMerge p q).1, 0) else (pol0, 3)) := by
  have h := ref_merge hp hq (p.rules ++ q.rules) [] [] [] (fun _ => rfl) (Nat.zero_le _)
  have hn : namesL (p.rules ++ q.rules) = newN [] (p.rules ++ q.rules) := names_new _ []
  have hd : bothA p.dflt q.dflt = strict p.dflt [q.dflt] := by
    unfold rightP at hp hq
    simp only [Bool.and_eq_true] at hp hq
    exact bothA_strict hp.1 hq.1
  unfold mergeP refMerge
  rw [hp, hq, h, hn, hd]
  cases mergeR p q (newN [] (p.rules ++ q.rules)) [] <;> rfl
end Go.Proofs.W

namespace Go.Proofs.W
open Go.Vl
set_option maxRecDepth 100000

theorem noid_rul (r : Rul) : NoId (.ag [strA r.name, int r.act.1, int r.act.2, cnds r.conds]) := NoId.ag (by
  intro y hy
  simp only [List.mem_cons, List.not_mem_nil, or_false] at hy
  rcases hy with rfl | rfl | rfl | rfl
  · exact NoId.v _
  · exact NoId.v _
  · exact NoId.v _
  · refine NoId.sl fun i hi c hc => ?_
    simp only [cndA, AV.cells, List.mem_cons, List.not_mem_nil, or_false] at hc
    rcases hc with rfl | rfl | rfl | rfl <;> exact NoId.v _)
theorem bytes_cnd_l25 : Tryd.prog.bytesOf 62 = 32 := by kernel_rfl
theorem bytes_rul_l25 : Tryd.prog.bytesOf 48 = 56 := by kernel_rfl
theorem conds_l25 (c : Cnd) : Tells Tryd.prog 35 [cndA c] (cndA c) := by
  refine tells_of_aw Tryd.func35 rfl rfl fun nx => ?_
  (repeat((conv=>whnf);first|apply ω0|apply ω1|apply ω2|refine τ3 rfl ?_|refine τ4 rfl ?_|refine ⟨rfl,?_⟩|apply τa|refine τb rfl ?_|refine ⟨⟨by kernel_rfl,by kernel_rfl⟩,?_⟩|refine ⟨by decide,?_⟩|apply τt|apply τf))
  exact ret_tells_all rfl ⟨rfl, trivial⟩ (AVle.refl _)

set_option maxHeartbeats 1000000 in
theorem rule_l25 (nm : ByteArray) (k n : Int) (cs : List Cnd) (hl : cs.length ≤ 1000000) : Tells Tryd.prog 16 [.ag [strA nm, int k, int n, cnds cs]] (.ag [strA nm, int k, int n, cnds cs]) := by
  refine tells_of_aw Tryd.func16 rfl rfl fun nx => ?_
  (repeat((conv=>whnf);first|apply ω0|apply ω1|apply ω2|refine τ3 rfl ?_|refine τ4 rfl ?_|refine ⟨rfl,?_⟩|apply τa|refine τb rfl ?_|refine ⟨⟨by kernel_rfl,by kernel_rfl⟩,?_⟩|refine ⟨by decide,?_⟩|apply τt|apply τf))
  refine aw_loop (fun s : Nat × Option Nat × Nat => mk 34 [(1, .bp (0, nx) 0), (2, .bp (1, nx + 1) 0), (3, .bp (2, nx + 2) 0), (4, int s.1)] ⟨[((2, nx + 2), .c [strA nm, int k, int n, .os 4 s.1 (fun j => cndA (cs.getD j cnd0)) (nmd s.2.1)]), ((1, nx + 1), .c [strA ⟨#[]⟩, int 0, int 0, .os 0 0 (fun _ => .any) none]), ((0, nx), .c [strA nm, int k, int n, cnds cs])], pmOf (nmd s.2.1) (s.1 * 4), s.2.2, 3⟩) (fun s => s.1 ≤ cs.length ∧ (s.2.1 = none → s.1 = 0)) (fun s => cs.length - s.1) ?_ ?_
  · exact ⟨(0, none, nx + 3), ⟨Nat.zero_le _, fun _ => rfl⟩, ele_tell (pm := []) _ [] rfl rfl (List.Sublist.refl _) (List.Sublist.refl _) ⟨rfl, ⟨AVle.refl _, AVle.refl _, AVle.refl _, AVle.os_nil, trivial⟩, rfl, OwnLe.refl _, rfl, OwnLe.refl _, trivial⟩ trivial ⟨AVle.refl _, AVle.refl _, AVle.refl _, AVle.refl _, trivial⟩⟩
  · rintro ⟨i, oi, nx2⟩ ⟨h3, h4⟩
    dsimp only at h3 h4
    (repeat((conv=>whnf);first|apply ω0|apply ω1|apply ω2|refine τ3 rfl ?_|refine τ4 rfl ?_|refine ⟨rfl,?_⟩|apply τa|refine τb rfl ?_|refine ⟨⟨by kernel_rfl,by kernel_rfl⟩,?_⟩|refine ⟨by decide,?_⟩|apply τt|apply τf))
    intro c h5; cases c
    · have h6 := not_of h5
      dsimp only at h6
      obtain rfl : i = cs.length := by omega
      (repeat((conv=>whnf);first|apply ω0|apply ω1|apply ω2|refine τ3 rfl ?_|refine τ4 rfl ?_|refine ⟨rfl,?_⟩|apply τa|refine τb rfl ?_|refine ⟨⟨by kernel_rfl,by kernel_rfl⟩,?_⟩|refine ⟨by decide,?_⟩|apply τt|apply τf))
      exact ret_tells_all rfl ⟨rfl, trivial⟩ (AVle.ags ⟨AVle.refl _, AVle.refl _, AVle.refl _, AVle.os_sl, trivial⟩)
    · have h6 := yes_of h5
      dsimp only at h6
      have hi : i < cs.length := by omega
      have hcall := conds_l25 (cs.getD i cnd0)
      (repeat((conv=>whnf);first|apply ω0|apply ω1|apply ω2|refine τ3 rfl ?_|refine τ4 rfl ?_|refine ⟨rfl,?_⟩|apply τa|refine τb rfl ?_|refine ⟨⟨by kernel_rfl,by kernel_rfl⟩,?_⟩|refine ⟨by decide,?_⟩|apply τt|apply τf))
      refine aw_mixN 11 [((2, nx + 2), .c [strA nm, int k, int n, .os 4 i (fun j => cndA (cs.getD j cnd0)) (nmd oi)]), ((1, nx + 1), .c [strA ⟨#[]⟩, int 0, int 0, .os 0 0 (fun _ => .any) none]), ((0, nx), .c [strA nm, int k, int n, cnds cs])] (fun i => match i with | 9 => true | _ => false) (fun i => match i with | 7 => true | _ => false) [0, 1, 2, 3, 4, 5, 6, 7, 8, 9, 10] (by kernel_rfl) (by kernel_rfl) (HB.refl _) ?_
      (repeat((conv=>whnf);first|apply ω0|apply ω1|apply ω2|refine τ3 rfl ?_|refine τ4 rfl ?_|refine ⟨rfl,?_⟩|apply τa|refine τb rfl ?_|refine ⟨⟨by kernel_rfl,by kernel_rfl⟩,?_⟩|refine ⟨by decide,?_⟩|apply τt|apply τf))
      refine ⟨⟨by dsimp only; omega, by dsimp only; omega⟩, ?_⟩
      (repeat((conv=>whnf);first|apply ω0|apply ω1|apply ω2|refine τ3 rfl ?_|refine τ4 rfl ?_|refine ⟨rfl,?_⟩|apply τa|refine τb rfl ?_|refine ⟨⟨by kernel_rfl,by kernel_rfl⟩,?_⟩|refine ⟨by decide,?_⟩|apply τt|apply τf))
      refine ⟨_, pure_tells rfl rfl rfl hcall ⟨AVle.refl _, trivial⟩ (noid_cndA _), ?_⟩
      (repeat((conv=>whnf);first|apply ω0|apply ω1|apply ω2|refine τ3 rfl ?_|refine τ4 rfl ?_|refine ⟨rfl,?_⟩|apply τa|refine τb rfl ?_|refine ⟨⟨by kernel_rfl,by kernel_rfl⟩,?_⟩|refine ⟨by decide,?_⟩|apply τt|apply τf))
      rcases oi with _ | id
      · obtain rfl := h4 rfl
        refine ⟨_, eff_append1 (e := 62) (c := 4) (pm := []) (n := 0) (oi := none) (sz := 4) (f := fun j => cndA (cs.getD j cnd0)) (HB.refl _) rfl rfl rfl (.inr ⟨_, rfl⟩) (by kernel_rfl) (by kernel_rfl) (by kernel_rfl) (.inr rfl) (by kernel_rfl) (List.append_nil _).symm (oneRow_one rfl) (by rw [bytes_cnd_l25]; omega) (by omega), fun r h' hr => ?_⟩
        obtain ⟨rfl, rfl⟩ := hr
        (repeat((conv=>whnf);first|apply ω0|apply ω1|apply ω2|refine τ3 rfl ?_|refine τ4 rfl ?_|refine ⟨rfl,?_⟩|apply τa|refine τb rfl ?_|refine ⟨⟨by kernel_rfl,by kernel_rfl⟩,?_⟩|refine ⟨by decide,?_⟩|apply τt|apply τf))
        refine back (0 + 1, some nx2, nx2 + 1) ⟨by dsimp only; omega, (fun h => by cases h)⟩ (by dsimp only; omega) (ele_tell (pm := [((0, nx2), (0 + 1) * 4)]) _ _ rfl rfl (List.Sublist.refl _) (List.Sublist.refl _) ⟨rfl, ⟨AVle.refl _, AVle.refl _, AVle.refl _, (AVle.os_fun (appF_one (fun k h => absurd h (Nat.not_lt_zero k)) ?_)).trans (AVle.os_nm rfl), trivial⟩, rfl, OwnLe.refl _, rfl, OwnLe.refl _, trivial⟩ ⟨rfl, rfl, trivial⟩ ⟨AVle.refl _, AVle.refl _, AVle.refl _, le_int (wrap_succ (by dsimp only; omega)), trivial⟩)
        rfl
      · refine ⟨_, eff_append1 (e := 62) (c := 4) (pm := []) (n := i) (oi := some (0, id)) (sz := 4) (f := fun j => cndA (cs.getD j cnd0)) (HB.refl _) rfl rfl rfl (.inr ⟨_, rfl⟩) (by kernel_rfl) (by kernel_rfl) (by kernel_rfl) (.inr rfl) (by kernel_rfl) (List.append_nil _).symm (oneRow_one rfl) (by rw [bytes_cnd_l25]; omega) (by omega), fun r h' hr => ?_⟩
        obtain ⟨rfl, rfl⟩ := hr
        (repeat((conv=>whnf);first|apply ω0|apply ω1|apply ω2|refine τ3 rfl ?_|refine τ4 rfl ?_|refine ⟨rfl,?_⟩|apply τa|refine τb rfl ?_|refine ⟨⟨by kernel_rfl,by kernel_rfl⟩,?_⟩|refine ⟨by decide,?_⟩|apply τt|apply τf))
        refine back (i + 1, some nx2, nx2 + 1) ⟨by dsimp only; omega, (fun h => by cases h)⟩ (by dsimp only; omega) (ele_tell (pm := [((0, nx2), (i + 1) * 4)]) _ _ rfl rfl (List.Sublist.refl _) (List.Sublist.refl _) ⟨rfl, ⟨AVle.refl _, AVle.refl _, AVle.refl _, (AVle.os_fun (appF_one (fun k hk => rfl) ?_)).trans (AVle.os_nm rfl), trivial⟩, rfl, OwnLe.refl _, rfl, OwnLe.refl _, trivial⟩ ⟨rfl, rfl, trivial⟩ ⟨AVle.refl _, AVle.refl _, AVle.refl _, le_int (wrap_succ (by dsimp only; omega)), trivial⟩)
        rfl

set_option maxHeartbeats 1000000 in
theorem oft_l25 (k n : Int) (rs : List Rul) (hl : rs.length ≤ 1000000) (hc : ∀ r ∈ rs, r.conds.length ≤ 1000000) : Tells Tryd.prog 6 [.ag [int k, int n, boolA true, ruls rs]] (.ag [int k, int n, boolA true, ruls rs]) := by
  refine tells_of_aw Tryd.func6 rfl rfl fun nx => ?_
  (repeat((conv=>whnf);first|apply ω0|apply ω1|apply ω2|refine τ3 rfl ?_|refine τ4 rfl ?_|refine ⟨rfl,?_⟩|apply τa|refine τb rfl ?_|refine ⟨⟨by kernel_rfl,by kernel_rfl⟩,?_⟩|refine ⟨by decide,?_⟩|apply τt|apply τf))
  refine aw_loop (fun s : Nat × Option Nat × Nat => mk 34 [(1, .bp (0, nx) 0), (2, .bp (1, nx + 1) 0), (3, .bp (2, nx + 2) 0), (4, int s.1)] ⟨[((2, nx + 2), .c [int k, int n, boolA true, .os 4 s.1 (fun j => rulA (rs.getD j rul0)) (nmd s.2.1)]), ((1, nx + 1), .c [int 0, int 0, boolA false, .os 0 0 (fun _ => .any) none]), ((0, nx), .c [int k, int n, boolA true, ruls rs])], pmOf (nmd s.2.1) (s.1 * 4), s.2.2, 3⟩) (fun s => s.1 ≤ rs.length ∧ (s.2.1 = none → s.1 = 0)) (fun s => rs.length - s.1) ?_ ?_
  · exact ⟨(0, none, nx + 3), ⟨Nat.zero_le _, fun _ => rfl⟩, ele_tell (pm := []) _ [] rfl rfl (List.Sublist.refl _) (List.Sublist.refl _) ⟨rfl, ⟨AVle.refl _, AVle.refl _, AVle.refl _, AVle.os_nil, trivial⟩, rfl, OwnLe.refl _, rfl, OwnLe.refl _, trivial⟩ trivial ⟨AVle.refl _, AVle.refl _, AVle.refl _, AVle.refl _, trivial⟩⟩
  · rintro ⟨i, oi, nx2⟩ ⟨h3, h4⟩
    dsimp only at h3 h4
    (repeat((conv=>whnf);first|apply ω0|apply ω1|apply ω2|refine τ3 rfl ?_|refine τ4 rfl ?_|refine ⟨rfl,?_⟩|apply τa|refine τb rfl ?_|refine ⟨⟨by kernel_rfl,by kernel_rfl⟩,?_⟩|refine ⟨by decide,?_⟩|apply τt|apply τf))
    intro c h5; cases c
    · have h6 := not_of h5
      dsimp only at h6
      obtain rfl : i = rs.length := by omega
      (repeat((conv=>whnf);first|apply ω0|apply ω1|apply ω2|refine τ3 rfl ?_|refine τ4 rfl ?_|refine ⟨rfl,?_⟩|apply τa|refine τb rfl ?_|refine ⟨⟨by kernel_rfl,by kernel_rfl⟩,?_⟩|refine ⟨by decide,?_⟩|apply τt|apply τf))
      exact ret_tells_all rfl ⟨rfl, trivial⟩ (AVle.ags ⟨AVle.refl _, AVle.refl _, AVle.refl _, AVle.os_sl, trivial⟩)
    · have h6 := yes_of h5
      dsimp only at h6
      have hi : i < rs.length := by omega
      have hcall := rule_l25 (rs.getD i rul0).name (rs.getD i rul0).act.1 (rs.getD i rul0).act.2 (rs.getD i rul0).conds (hc _ (by simp [List.getD, hi]))
      (repeat((conv=>whnf);first|apply ω0|apply ω1|apply ω2|refine τ3 rfl ?_|refine τ4 rfl ?_|refine ⟨rfl,?_⟩|apply τa|refine τb rfl ?_|refine ⟨⟨by kernel_rfl,by kernel_rfl⟩,?_⟩|refine ⟨by decide,?_⟩|apply τt|apply τf))
      refine aw_mixN 11 [((2, nx + 2), .c [int k, int n, boolA true, .os 4 i (fun j => rulA (rs.getD j rul0)) (nmd oi)]), ((1, nx + 1), .c [int 0, int 0, boolA false, .os 0 0 (fun _ => .any) none]), ((0, nx), .c [int k, int n, boolA true, ruls rs])] (fun i => match i with | 9 => true | _ => false) (fun i => match i with | 7 => true | _ => false) [0, 1, 2, 3, 4, 5, 6, 7, 8, 9, 10] (by kernel_rfl) (by kernel_rfl) (HB.refl _) ?_
      (repeat((conv=>whnf);first|apply ω0|apply ω1|apply ω2|refine τ3 rfl ?_|refine τ4 rfl ?_|refine ⟨rfl,?_⟩|apply τa|refine τb rfl ?_|refine ⟨⟨by kernel_rfl,by kernel_rfl⟩,?_⟩|refine ⟨by decide,?_⟩|apply τt|apply τf))
      refine ⟨⟨by dsimp only; omega, by dsimp only; omega⟩, ?_⟩
      (repeat((conv=>whnf);first|apply ω0|apply ω1|apply ω2|refine τ3 rfl ?_|refine τ4 rfl ?_|refine ⟨rfl,?_⟩|apply τa|refine τb rfl ?_|refine ⟨⟨by kernel_rfl,by kernel_rfl⟩,?_⟩|refine ⟨by decide,?_⟩|apply τt|apply τf))
      refine ⟨_, pure_tells rfl rfl rfl hcall ⟨AVle.refl _, trivial⟩ (noid_rul (rs.getD i rul0)), ?_⟩
      (repeat((conv=>whnf);first|apply ω0|apply ω1|apply ω2|refine τ3 rfl ?_|refine τ4 rfl ?_|refine ⟨rfl,?_⟩|apply τa|refine τb rfl ?_|refine ⟨⟨by kernel_rfl,by kernel_rfl⟩,?_⟩|refine ⟨by decide,?_⟩|apply τt|apply τf))
      rcases oi with _ | id
      · obtain rfl := h4 rfl
        refine ⟨_, eff_append1 (e := 48) (c := 4) (pm := []) (n := 0) (oi := none) (sz := 4) (f := fun j => rulA (rs.getD j rul0)) (HB.refl _) rfl rfl rfl (.inr ⟨_, rfl⟩) (by kernel_rfl) (by kernel_rfl) (by kernel_rfl) (.inr rfl) (by kernel_rfl) (List.append_nil _).symm (oneRow_one rfl) (by rw [bytes_rul_l25]; omega) (by omega), fun r h' hr => ?_⟩
        obtain ⟨rfl, rfl⟩ := hr
        (repeat((conv=>whnf);first|apply ω0|apply ω1|apply ω2|refine τ3 rfl ?_|refine τ4 rfl ?_|refine ⟨rfl,?_⟩|apply τa|refine τb rfl ?_|refine ⟨⟨by kernel_rfl,by kernel_rfl⟩,?_⟩|refine ⟨by decide,?_⟩|apply τt|apply τf))
        refine back (0 + 1, some nx2, nx2 + 1) ⟨by dsimp only; omega, (fun h => by cases h)⟩ (by dsimp only; omega) (ele_tell (pm := [((0, nx2), (0 + 1) * 4)]) _ _ rfl rfl (List.Sublist.refl _) (List.Sublist.refl _) ⟨rfl, ⟨AVle.refl _, AVle.refl _, AVle.refl _, (AVle.os_fun (appF_one (fun k h => absurd h (Nat.not_lt_zero k)) ?_)).trans (AVle.os_nm rfl), trivial⟩, rfl, OwnLe.refl _, rfl, OwnLe.refl _, trivial⟩ ⟨rfl, rfl, trivial⟩ ⟨AVle.refl _, AVle.refl _, AVle.refl _, le_int (wrap_succ (by dsimp only; omega)), trivial⟩)
        rfl
      · refine ⟨_, eff_append1 (e := 48) (c := 4) (pm := []) (n := i) (oi := some (0, id)) (sz := 4) (f := fun j => rulA (rs.getD j rul0)) (HB.refl _) rfl rfl rfl (.inr ⟨_, rfl⟩) (by kernel_rfl) (by kernel_rfl) (by kernel_rfl) (.inr rfl) (by kernel_rfl) (List.append_nil _).symm (oneRow_one rfl) (by rw [bytes_rul_l25]; omega) (by omega), fun r h' hr => ?_⟩
        obtain ⟨rfl, rfl⟩ := hr
        (repeat((conv=>whnf);first|apply ω0|apply ω1|apply ω2|refine τ3 rfl ?_|refine τ4 rfl ?_|refine ⟨rfl,?_⟩|apply τa|refine τb rfl ?_|refine ⟨⟨by kernel_rfl,by kernel_rfl⟩,?_⟩|refine ⟨by decide,?_⟩|apply τt|apply τf))
        refine back (i + 1, some nx2, nx2 + 1) ⟨by dsimp only; omega, (fun h => by cases h)⟩ (by dsimp only; omega) (ele_tell (pm := [((0, nx2), (i + 1) * 4)]) _ _ rfl rfl (List.Sublist.refl _) (List.Sublist.refl _) ⟨rfl, ⟨AVle.refl _, AVle.refl _, AVle.refl _, (AVle.os_fun (appF_one (fun k hk => rfl) ?_)).trans (AVle.os_nm rfl), trivial⟩, rfl, OwnLe.refl _, rfl, OwnLe.refl _, trivial⟩ ⟨rfl, rfl, trivial⟩ ⟨AVle.refl _, AVle.refl _, AVle.refl _, le_int (wrap_succ (by dsimp only; omega)), trivial⟩)
        rfl

set_option maxHeartbeats 1000000 in
theorem off_l25 (k n : Int) (rs : List Rul) (hl : rs.length ≤ 1000000) (hc : ∀ r ∈ rs, r.conds.length ≤ 1000000) : Tells Tryd.prog 6 [.ag [int k, int n, boolA false, ruls rs]] (.ag [int k, int n, boolA false, ruls rs]) := by
  refine tells_of_aw Tryd.func6 rfl rfl fun nx => ?_
  (repeat((conv=>whnf);first|apply ω0|apply ω1|apply ω2|refine τ3 rfl ?_|refine τ4 rfl ?_|refine ⟨rfl,?_⟩|apply τa|refine τb rfl ?_|refine ⟨⟨by kernel_rfl,by kernel_rfl⟩,?_⟩|refine ⟨by decide,?_⟩|apply τt|apply τf))
  refine aw_loop (fun s : Nat × Option Nat × Nat => mk 34 [(1, .bp (0, nx) 0), (2, .bp (1, nx + 1) 0), (3, .bp (2, nx + 2) 0), (4, int s.1)] ⟨[((2, nx + 2), .c [int k, int n, boolA false, .os 4 s.1 (fun j => rulA (rs.getD j rul0)) (nmd s.2.1)]), ((1, nx + 1), .c [int 0, int 0, boolA false, .os 0 0 (fun _ => .any) none]), ((0, nx), .c [int k, int n, boolA false, ruls rs])], pmOf (nmd s.2.1) (s.1 * 4), s.2.2, 3⟩) (fun s => s.1 ≤ rs.length ∧ (s.2.1 = none → s.1 = 0)) (fun s => rs.length - s.1) ?_ ?_
  · exact ⟨(0, none, nx + 3), ⟨Nat.zero_le _, fun _ => rfl⟩, ele_tell (pm := []) _ [] rfl rfl (List.Sublist.refl _) (List.Sublist.refl _) ⟨rfl, ⟨AVle.refl _, AVle.refl _, AVle.refl _, AVle.os_nil, trivial⟩, rfl, OwnLe.refl _, rfl, OwnLe.refl _, trivial⟩ trivial ⟨AVle.refl _, AVle.refl _, AVle.refl _, AVle.refl _, trivial⟩⟩
  · rintro ⟨i, oi, nx2⟩ ⟨h3, h4⟩
    dsimp only at h3 h4
    (repeat((conv=>whnf);first|apply ω0|apply ω1|apply ω2|refine τ3 rfl ?_|refine τ4 rfl ?_|refine ⟨rfl,?_⟩|apply τa|refine τb rfl ?_|refine ⟨⟨by kernel_rfl,by kernel_rfl⟩,?_⟩|refine ⟨by decide,?_⟩|apply τt|apply τf))
    intro c h5; cases c
    · have h6 := not_of h5
      dsimp only at h6
      obtain rfl : i = rs.length := by omega
      (repeat((conv=>whnf);first|apply ω0|apply ω1|apply ω2|refine τ3 rfl ?_|refine τ4 rfl ?_|refine ⟨rfl,?_⟩|apply τa|refine τb rfl ?_|refine ⟨⟨by kernel_rfl,by kernel_rfl⟩,?_⟩|refine ⟨by decide,?_⟩|apply τt|apply τf))
      exact ret_tells_all rfl ⟨rfl, trivial⟩ (AVle.ags ⟨AVle.refl _, AVle.refl _, AVle.refl _, AVle.os_sl, trivial⟩)
    · have h6 := yes_of h5
      dsimp only at h6
      have hi : i < rs.length := by omega
      have hcall := rule_l25 (rs.getD i rul0).name (rs.getD i rul0).act.1 (rs.getD i rul0).act.2 (rs.getD i rul0).conds (hc _ (by simp [List.getD, hi]))
      (repeat((conv=>whnf);first|apply ω0|apply ω1|apply ω2|refine τ3 rfl ?_|refine τ4 rfl ?_|refine ⟨rfl,?_⟩|apply τa|refine τb rfl ?_|refine ⟨⟨by kernel_rfl,by kernel_rfl⟩,?_⟩|refine ⟨by decide,?_⟩|apply τt|apply τf))
      refine aw_mixN 11 [((2, nx + 2), .c [int k, int n, boolA false, .os 4 i (fun j => rulA (rs.getD j rul0)) (nmd oi)]), ((1, nx + 1), .c [int 0, int 0, boolA false, .os 0 0 (fun _ => .any) none]), ((0, nx), .c [int k, int n, boolA false, ruls rs])] (fun i => match i with | 9 => true | _ => false) (fun i => match i with | 7 => true | _ => false) [0, 1, 2, 3, 4, 5, 6, 7, 8, 9, 10] (by kernel_rfl) (by kernel_rfl) (HB.refl _) ?_
      (repeat((conv=>whnf);first|apply ω0|apply ω1|apply ω2|refine τ3 rfl ?_|refine τ4 rfl ?_|refine ⟨rfl,?_⟩|apply τa|refine τb rfl ?_|refine ⟨⟨by kernel_rfl,by kernel_rfl⟩,?_⟩|refine ⟨by decide,?_⟩|apply τt|apply τf))
      refine ⟨⟨by dsimp only; omega, by dsimp only; omega⟩, ?_⟩
      (repeat((conv=>whnf);first|apply ω0|apply ω1|apply ω2|refine τ3 rfl ?_|refine τ4 rfl ?_|refine ⟨rfl,?_⟩|apply τa|refine τb rfl ?_|refine ⟨⟨by kernel_rfl,by kernel_rfl⟩,?_⟩|refine ⟨by decide,?_⟩|apply τt|apply τf))
      refine ⟨_, pure_tells rfl rfl rfl hcall ⟨AVle.refl _, trivial⟩ (noid_rul (rs.getD i rul0)), ?_⟩
      (repeat((conv=>whnf);first|apply ω0|apply ω1|apply ω2|refine τ3 rfl ?_|refine τ4 rfl ?_|refine ⟨rfl,?_⟩|apply τa|refine τb rfl ?_|refine ⟨⟨by kernel_rfl,by kernel_rfl⟩,?_⟩|refine ⟨by decide,?_⟩|apply τt|apply τf))
      rcases oi with _ | id
      · obtain rfl := h4 rfl
        refine ⟨_, eff_append1 (e := 48) (c := 4) (pm := []) (n := 0) (oi := none) (sz := 4) (f := fun j => rulA (rs.getD j rul0)) (HB.refl _) rfl rfl rfl (.inr ⟨_, rfl⟩) (by kernel_rfl) (by kernel_rfl) (by kernel_rfl) (.inr rfl) (by kernel_rfl) (List.append_nil _).symm (oneRow_one rfl) (by rw [bytes_rul_l25]; omega) (by omega), fun r h' hr => ?_⟩
        obtain ⟨rfl, rfl⟩ := hr
        (repeat((conv=>whnf);first|apply ω0|apply ω1|apply ω2|refine τ3 rfl ?_|refine τ4 rfl ?_|refine ⟨rfl,?_⟩|apply τa|refine τb rfl ?_|refine ⟨⟨by kernel_rfl,by kernel_rfl⟩,?_⟩|refine ⟨by decide,?_⟩|apply τt|apply τf))
        refine back (0 + 1, some nx2, nx2 + 1) ⟨by dsimp only; omega, (fun h => by cases h)⟩ (by dsimp only; omega) (ele_tell (pm := [((0, nx2), (0 + 1) * 4)]) _ _ rfl rfl (List.Sublist.refl _) (List.Sublist.refl _) ⟨rfl, ⟨AVle.refl _, AVle.refl _, AVle.refl _, (AVle.os_fun (appF_one (fun k h => absurd h (Nat.not_lt_zero k)) ?_)).trans (AVle.os_nm rfl), trivial⟩, rfl, OwnLe.refl _, rfl, OwnLe.refl _, trivial⟩ ⟨rfl, rfl, trivial⟩ ⟨AVle.refl _, AVle.refl _, AVle.refl _, le_int (wrap_succ (by dsimp only; omega)), trivial⟩)
        rfl
      · refine ⟨_, eff_append1 (e := 48) (c := 4) (pm := []) (n := i) (oi := some (0, id)) (sz := 4) (f := fun j => rulA (rs.getD j rul0)) (HB.refl _) rfl rfl rfl (.inr ⟨_, rfl⟩) (by kernel_rfl) (by kernel_rfl) (by kernel_rfl) (.inr rfl) (by kernel_rfl) (List.append_nil _).symm (oneRow_one rfl) (by rw [bytes_rul_l25]; omega) (by omega), fun r h' hr => ?_⟩
        obtain ⟨rfl, rfl⟩ := hr
        (repeat((conv=>whnf);first|apply ω0|apply ω1|apply ω2|refine τ3 rfl ?_|refine τ4 rfl ?_|refine ⟨rfl,?_⟩|apply τa|refine τb rfl ?_|refine ⟨⟨by kernel_rfl,by kernel_rfl⟩,?_⟩|refine ⟨by decide,?_⟩|apply τt|apply τf))
        refine back (i + 1, some nx2, nx2 + 1) ⟨by dsimp only; omega, (fun h => by cases h)⟩ (by dsimp only; omega) (ele_tell (pm := [((0, nx2), (i + 1) * 4)]) _ _ rfl rfl (List.Sublist.refl _) (List.Sublist.refl _) ⟨rfl, ⟨AVle.refl _, AVle.refl _, AVle.refl _, (AVle.os_fun (appF_one (fun k hk => rfl) ?_)).trans (AVle.os_nm rfl), trivial⟩, rfl, OwnLe.refl _, rfl, OwnLe.refl _, trivial⟩ ⟨rfl, rfl, trivial⟩ ⟨AVle.refl _, AVle.refl _, AVle.refl _, le_int (wrap_succ (by dsimp only; omega)), trivial⟩)
        rfl
theorem pol_l25 (p : Pol) (hl : p.rules.length ≤ 1000000) (hc : ∀ r ∈ p.rules, r.conds.length ≤ 1000000) : Tells Tryd.prog 6 [polA p] (polA p) := by
  obtain ⟨⟨k, n⟩, x, rs⟩ := p
  cases x
  · exact off_l25 k n rs hl hc
  · exact oft_l25 k n rs hl hc
end Go.Proofs.W

namespace Go.Proofs.W
open Go.Vl
set_option maxRecDepth 100000

theorem light_l25 (p : Pol) (hl : p.rules.length ≤ maxLen) : Tells Tryd.prog 4 [polA p] (boolA (lightP p)) := by
  obtain ⟨⟨k, n⟩, x, rs⟩ := p
  dsimp only at hl
  refine tells_of_aw Tryd.func4 rfl rfl fun nx => ?_
  (repeat((conv=>whnf);first|apply ω0|apply ω1|apply ω2|refine τ3 rfl ?_|refine τ4 rfl ?_|refine ⟨rfl,?_⟩|apply τa|refine τb rfl ?_|refine ⟨⟨by kernel_rfl,by kernel_rfl⟩,?_⟩|refine ⟨by decide,?_⟩|apply τt|apply τf))
  intro c g1; cases c
  rotate_left
  · (repeat((conv=>whnf);first|apply ω0|apply ω1|apply ω2|refine τ3 rfl ?_|refine τ4 rfl ?_|refine ⟨rfl,?_⟩|apply τa|refine τb rfl ?_|refine ⟨⟨by kernel_rfl,by kernel_rfl⟩,?_⟩|refine ⟨by decide,?_⟩|apply τt|apply τf))
    have g1 : ((rs.length : Nat) : Int) > 40 := yes_of g1
    exact ret_tells rfl (le_bool (by show false = (decide (rs.length ≤ 40) && _); rw [decide_eq_false (by omega)]; rfl))
  have g1 : ¬ ((rs.length : Nat) : Int) > 40 := not_of g1
  have h40 : rs.length ≤ 40 := by omega
  (repeat((conv=>whnf);first|apply ω0|apply ω1|apply ω2|refine τ3 rfl ?_|refine τ4 rfl ?_|refine ⟨rfl,?_⟩|apply τa|refine τb rfl ?_|refine ⟨⟨by kernel_rfl,by kernel_rfl⟩,?_⟩|refine ⟨by decide,?_⟩|apply τt|apply τf))
  refine aw_loop (fun s : Nat × Nat => mk 33 [(1, .bp (0, nx) 0), (3, int s.1)] ⟨[((0, nx), .c [int k, int n, boolA x, ruls rs])], [], s.2, 1⟩) (fun s => s.1 ≤ rs.length ∧ ∀ j, j < s.1 → lightR (rs.getD j rul0) = true) (fun s => rs.length - s.1) ?_ ?_
  · exact ⟨(0, nx + 1), ⟨Nat.zero_le _, fun j h => absurd h (Nat.not_lt_zero _)⟩, ele_tell (pm := []) _ [] rfl rfl (List.Sublist.refl _) (List.Sublist.refl _) ⟨rfl, OwnLe.refl _, trivial⟩ trivial ⟨AVle.refl _, AVle.refl _, trivial⟩⟩
  · rintro ⟨i, nx2⟩ ⟨h3, h4⟩
    dsimp only at h3 h4
    (repeat((conv=>whnf);first|apply ω0|apply ω1|apply ω2|refine τ3 rfl ?_|refine τ4 rfl ?_|refine ⟨rfl,?_⟩|apply τa|refine τb rfl ?_|refine ⟨⟨by kernel_rfl,by kernel_rfl⟩,?_⟩|refine ⟨by decide,?_⟩|apply τt|apply τf))
    intro c h5; cases c
    · have h6 := not_of h5
      dsimp only at h6
      obtain rfl : i = rs.length := by omega
      (repeat((conv=>whnf);first|apply ω0|apply ω1|apply ω2|refine τ3 rfl ?_|refine τ4 rfl ?_|refine ⟨rfl,?_⟩|apply τa|refine τb rfl ?_|refine ⟨⟨by kernel_rfl,by kernel_rfl⟩,?_⟩|refine ⟨by decide,?_⟩|apply τt|apply τf))
      refine ret_tells rfl (le_bool ?_)
      show true = (decide (rs.length ≤ 40) && rs.all lightR)
      rw [decide_eq_true h40, Bool.true_and, eq_comm, List.all_eq_true]
      intro r hr
      obtain ⟨j, hj, rfl⟩ := List.getElem_of_mem hr
      have := h4 j hj
      simpa [List.getD, hj] using this
    · have h6 := yes_of h5
      dsimp only at h6
      have hi : i < rs.length := by omega
      have hbad : ∀ b : Bool, lightR (rs.getD i rul0) = false → false = lightP ⟨(k, n), x, rs⟩ := fun b hb => by
        show false = (decide (rs.length ≤ 40) && rs.all lightR)
        rw [decide_eq_true h40, Bool.true_and, eq_comm, List.all_eq_false]
        exact ⟨rs.getD i rul0, by simp [List.getD, hi], by rw [hb]; decide⟩
      (repeat((conv=>whnf);first|apply ω0|apply ω1|apply ω2|refine τ3 rfl ?_|refine τ4 rfl ?_|refine ⟨rfl,?_⟩|apply τa|refine τb rfl ?_|refine ⟨⟨by kernel_rfl,by kernel_rfl⟩,?_⟩|refine ⟨by decide,?_⟩|apply τt|apply τf))
      refine ⟨⟨by dsimp only; omega, by dsimp only; omega⟩, ?_⟩
      (repeat((conv=>whnf);first|apply ω0|apply ω1|apply ω2|refine τ3 rfl ?_|refine τ4 rfl ?_|refine ⟨rfl,?_⟩|apply τa|refine τb rfl ?_|refine ⟨⟨by kernel_rfl,by kernel_rfl⟩,?_⟩|refine ⟨by decide,?_⟩|apply τt|apply τf))
      intro c t1; cases c
      · have t1 : ¬ (((rs.getD i rul0).name.size : Nat) : Int) > 60 := not_of t1
        (repeat((conv=>whnf);first|apply ω0|apply ω1|apply ω2|refine τ3 rfl ?_|refine τ4 rfl ?_|refine ⟨rfl,?_⟩|apply τa|refine τb rfl ?_|refine ⟨⟨by kernel_rfl,by kernel_rfl⟩,?_⟩|refine ⟨by decide,?_⟩|apply τt|apply τf))
        refine ⟨⟨by dsimp only; omega, by dsimp only; omega⟩, ?_⟩
        (repeat((conv=>whnf);first|apply ω0|apply ω1|apply ω2|refine τ3 rfl ?_|refine τ4 rfl ?_|refine ⟨rfl,?_⟩|apply τa|refine τb rfl ?_|refine ⟨⟨by kernel_rfl,by kernel_rfl⟩,?_⟩|refine ⟨by decide,?_⟩|apply τt|apply τf))
        intro c t2; cases c
        · have t2 : ¬ (((rs.getD i rul0).conds.length : Nat) : Int) > 12 := not_of t2
          (repeat((conv=>whnf);first|apply ω0|apply ω1|apply ω2|refine τ3 rfl ?_|refine τ4 rfl ?_|refine ⟨rfl,?_⟩|apply τa|refine τb rfl ?_|refine ⟨⟨by kernel_rfl,by kernel_rfl⟩,?_⟩|refine ⟨by decide,?_⟩|apply τt|apply τf))
          refine back (i + 1, nx2) ⟨by dsimp only; omega, fun j hj => ?_⟩ (by dsimp only; omega) (ele_tell (pm := []) _ [] rfl rfl (List.Sublist.refl _) (List.Sublist.refl _) ⟨rfl, OwnLe.refl _, trivial⟩ trivial ⟨AVle.refl _, le_int (wrap_succ (by dsimp only; omega)), trivial⟩)
          dsimp only at hj
          rcases Nat.lt_or_ge j i with h | h
          · exact h4 j h
          · obtain rfl : j = i := by omega
            unfold lightR
            rw [decide_eq_true (by omega), decide_eq_true (by omega)]; rfl
        · have t2 : (((rs.getD i rul0).conds.length : Nat) : Int) > 12 := yes_of t2
          (repeat((conv=>whnf);first|apply ω0|apply ω1|apply ω2|refine τ3 rfl ?_|refine τ4 rfl ?_|refine ⟨rfl,?_⟩|apply τa|refine τb rfl ?_|refine ⟨⟨by kernel_rfl,by kernel_rfl⟩,?_⟩|refine ⟨by decide,?_⟩|apply τt|apply τf))
          exact ret_tells rfl (le_bool (hbad true (by unfold lightR; rw [decide_eq_false (p := (rs.getD i rul0).conds.length ≤ 12) (by omega), Bool.and_false])))
      · have t1 : (((rs.getD i rul0).name.size : Nat) : Int) > 60 := yes_of t1
        (repeat((conv=>whnf);first|apply ω0|apply ω1|apply ω2|refine τ3 rfl ?_|refine τ4 rfl ?_|refine ⟨rfl,?_⟩|apply τa|refine τb rfl ?_|refine ⟨⟨by kernel_rfl,by kernel_rfl⟩,?_⟩|refine ⟨by decide,?_⟩|apply τt|apply τf))
        exact ret_tells rfl (le_bool (hbad true (by unfold lightR; rw [decide_eq_false (p := (rs.getD i rul0).name.size ≤ 60) (by omega), Bool.false_and])))
end Go.Proofs.W

namespace Go.Proofs.W
open Go.Vl
set_option maxRecDepth 100000

def okN (n : Nat) : Bool := (decide (97 ≤ n) && decide (n ≤ 122)) || (decide (48 ≤ n) && decide (n ≤ 57)) || decide (n = 95)
theorem signs_all : ∀ n, n < 256 → signsB.data.toList.contains (UInt8.ofNat n) = okN n := by decide +kernel
theorem letters_all : ∀ n, n < 256 → lettersB.data.toList.contains (UInt8.ofNat n) = (decide (97 ≤ n) && decide (n ≤ 122)) := by decide +kernel
theorem signs_ok (b : UInt8) : signsB.data.toList.contains b = okN b.toNat := by
  have := signs_all b.toNat b.toNat_lt
  rwa [UInt8.ofNat_toNat] at this
theorem letters_ok (b : UInt8) : lettersB.data.toList.contains b = (decide (97 ≤ b.toNat) && decide (b.toNat ≤ 122)) := by
  have := letters_all b.toNat b.toNat_lt
  rwa [UInt8.ofNat_toNat] at this
/-- As the reference asks. -/
theorem nameB_ref (l : List UInt8) : nameB l = true ↔ l.length ≠ 0 ∧ l.length ≤ 30 ∧ 97 ≤ (l.headD 0).toNat ∧ (l.headD 0).toNat ≤ 122 ∧ l ≠ defaultL ∧ l ≠ x32L ∧ ∀ j, j < l.length → okN (l.getD j 0).toNat = true := by
  unfold nameB
  simp only [Bool.and_eq_true, Bool.not_eq_true', beq_eq_false_iff_ne, decide_eq_true_eq, letters_ok, List.all_eq_true, signs_ok]
  constructor
  · rintro ⟨h1, h2, h3, h4, h5, h6, h7⟩
    refine ⟨fun h => h1 (List.length_eq_zero_iff.1 h), h4, h6, h7, h2, h3, fun j hj => ?_⟩
    exact h5 _ (by simp [List.getD, hj])
  · rintro ⟨h1, h2, h3, h4, h5, h6, h7⟩
    refine ⟨fun h => h1 (by rw [h]; rfl), h5, h6, h2, fun x hx => ?_, h3, h4⟩
    obtain ⟨j, hj, rfl⟩ := List.getElem_of_mem hx
    have := h7 j hj
    simpa [List.getD, hj] using this
theorem nameB_false {l : List UInt8} (h : ¬ (l.length ≠ 0 ∧ l.length ≤ 30 ∧ 97 ≤ (l.headD 0).toNat ∧ (l.headD 0).toNat ≤ 122 ∧ l ≠ defaultL ∧ l ≠ x32L ∧ ∀ j, j < l.length → okN (l.getD j 0).toNat = true)) : nameB l = false := by
  rw [← nameB_ref] at h
  simpa using h
theorem okN_in {n : Nat} (h : (97 ≤ n ∧ n ≤ 122) ∨ (48 ≤ n ∧ n ≤ 57) ∨ n = 95) : okN n = true := by
  unfold okN
  simp only [Bool.or_eq_true, Bool.and_eq_true, decide_eq_true_eq]
  omega
theorem okN_out {n : Nat} (h : ¬ ((97 ≤ n ∧ n ≤ 122) ∨ (48 ≤ n ∧ n ≤ 57) ∨ n = 95)) : okN n = false := by
  unfold okN
  simp only [Bool.or_eq_false_iff, Bool.and_eq_false_iff, decide_eq_false_iff_not]
  omega
theorem ba_get (s : ByteArray) (i : Nat) : s.data.getD i 0 = s.data.toList.getD i 0 := by
  simp [Array.getD_eq_getD_getElem?, List.getD]
theorem head_getD (l : List UInt8) : l.headD 0 = l.getD 0 0 := by cases l <;> rfl
set_option maxHeartbeats 1000000 in
theorem name11_spec (s : ByteArray) : Tells Tryd.prog 37 [strA s] (boolA (nameB s.data.toList)) := by
  have hsz : s.size = s.data.toList.length := rfl
  refine tells_of_aw Tryd.func37 rfl rfl fun nx => ?_
  (repeat((conv=>whnf);first|apply ω0|apply ω1|apply ω2|refine τ3 rfl ?_|refine τ4 rfl ?_|refine ⟨rfl,?_⟩|apply τa|refine τb rfl ?_|refine ⟨⟨by kernel_rfl,by kernel_rfl⟩,?_⟩|refine ⟨by decide,?_⟩|apply τt|apply τf))
  intro c t1; cases c
  rotate_left
  · have t1 : ((s.size : Nat) : Int) = 0 := fct_b1.1 t1
    (repeat((conv=>whnf);first|apply ω0|apply ω1|apply ω2|refine τ3 rfl ?_|refine τ4 rfl ?_|refine ⟨rfl,?_⟩|apply τa|refine τb rfl ?_|refine ⟨⟨by kernel_rfl,by kernel_rfl⟩,?_⟩|refine ⟨by decide,?_⟩|apply τt|apply τf))
    exact ret_tells rfl (le_bool (nameB_false (fun h => h.1 (by omega))).symm)
  have t1 : ((s.size : Nat) : Int) ≠ 0 := fct_b0.1 t1
  (repeat((conv=>whnf);first|apply ω0|apply ω1|apply ω2|refine τ3 rfl ?_|refine τ4 rfl ?_|refine ⟨rfl,?_⟩|apply τa|refine τb rfl ?_|refine ⟨⟨by kernel_rfl,by kernel_rfl⟩,?_⟩|refine ⟨by decide,?_⟩|apply τt|apply τf))
  intro c t2; cases c
  rotate_left
  · have t2 : ((s.size : Nat) : Int) > 30 := yes_of t2
    (repeat((conv=>whnf);first|apply ω0|apply ω1|apply ω2|refine τ3 rfl ?_|refine τ4 rfl ?_|refine ⟨rfl,?_⟩|apply τa|refine τb rfl ?_|refine ⟨⟨by kernel_rfl,by kernel_rfl⟩,?_⟩|refine ⟨by decide,?_⟩|apply τt|apply τf))
    exact ret_tells rfl (le_bool (nameB_false (fun h => absurd h.2.1 (by omega))).symm)
  have t2 : ¬ ((s.size : Nat) : Int) > 30 := not_of t2
  (repeat((conv=>whnf);first|apply ω0|apply ω1|apply ω2|refine τ3 rfl ?_|refine τ4 rfl ?_|refine ⟨rfl,?_⟩|apply τa|refine τb rfl ?_|refine ⟨⟨by kernel_rfl,by kernel_rfl⟩,?_⟩|refine ⟨by decide,?_⟩|apply τt|apply τf))
  refine ⟨⟨by decide, by show (0 : Int) < (s.size : Int); omega⟩, ?_⟩
  (repeat((conv=>whnf);first|apply ω0|apply ω1|apply ω2|refine τ3 rfl ?_|refine τ4 rfl ?_|refine ⟨rfl,?_⟩|apply τa|refine τb rfl ?_|refine ⟨⟨by kernel_rfl,by kernel_rfl⟩,?_⟩|refine ⟨by decide,?_⟩|apply τt|apply τf))
  intro c t3; cases c
  rotate_left
  · have t3 : (((s.data.getD 0 0).toNat : Nat) : Int) < 97 := yes_of t3
    rw [ba_get, ← head_getD] at t3
    (repeat((conv=>whnf);first|apply ω0|apply ω1|apply ω2|refine τ3 rfl ?_|refine τ4 rfl ?_|refine ⟨rfl,?_⟩|apply τa|refine τb rfl ?_|refine ⟨⟨by kernel_rfl,by kernel_rfl⟩,?_⟩|refine ⟨by decide,?_⟩|apply τt|apply τf))
    exact ret_tells rfl (le_bool (nameB_false (fun h => absurd h.2.2.1 (by omega))).symm)
  have t3 : ¬ (((s.data.getD 0 0).toNat : Nat) : Int) < 97 := not_of t3
  rw [ba_get, ← head_getD] at t3
  (repeat((conv=>whnf);first|apply ω0|apply ω1|apply ω2|refine τ3 rfl ?_|refine τ4 rfl ?_|refine ⟨rfl,?_⟩|apply τa|refine τb rfl ?_|refine ⟨⟨by kernel_rfl,by kernel_rfl⟩,?_⟩|refine ⟨by decide,?_⟩|apply τt|apply τf))
  refine ⟨⟨by decide, by show (0 : Int) < (s.size : Int); omega⟩, ?_⟩
  (repeat((conv=>whnf);first|apply ω0|apply ω1|apply ω2|refine τ3 rfl ?_|refine τ4 rfl ?_|refine ⟨rfl,?_⟩|apply τa|refine τb rfl ?_|refine ⟨⟨by kernel_rfl,by kernel_rfl⟩,?_⟩|refine ⟨by decide,?_⟩|apply τt|apply τf))
  intro c t4; cases c
  rotate_left
  · have t4 : (((s.data.getD 0 0).toNat : Nat) : Int) > 122 := yes_of t4
    rw [ba_get, ← head_getD] at t4
    (repeat((conv=>whnf);first|apply ω0|apply ω1|apply ω2|refine τ3 rfl ?_|refine τ4 rfl ?_|refine ⟨rfl,?_⟩|apply τa|refine τb rfl ?_|refine ⟨⟨by kernel_rfl,by kernel_rfl⟩,?_⟩|refine ⟨by decide,?_⟩|apply τt|apply τf))
    exact ret_tells rfl (le_bool (nameB_false (fun h => absurd h.2.2.2.1 (by omega))).symm)
  have t4 : ¬ (((s.data.getD 0 0).toNat : Nat) : Int) > 122 := not_of t4
  rw [ba_get, ← head_getD] at t4
  (repeat((conv=>whnf);first|apply ω0|apply ω1|apply ω2|refine τ3 rfl ?_|refine τ4 rfl ?_|refine ⟨rfl,?_⟩|apply τa|refine τb rfl ?_|refine ⟨⟨by kernel_rfl,by kernel_rfl⟩,?_⟩|refine ⟨by decide,?_⟩|apply τt|apply τf))
  intro c t5
  rw [Lib.toList_data, Lib.toList_data] at t5
  cases c
  rotate_left
  · have t5 : s.data.toList = defaultL := beq_iff_eq.1 t5.symm
    (repeat((conv=>whnf);first|apply ω0|apply ω1|apply ω2|refine τ3 rfl ?_|refine τ4 rfl ?_|refine ⟨rfl,?_⟩|apply τa|refine τb rfl ?_|refine ⟨⟨by kernel_rfl,by kernel_rfl⟩,?_⟩|refine ⟨by decide,?_⟩|apply τt|apply τf))
    exact ret_tells rfl (le_bool (nameB_false (fun h => h.2.2.2.2.1 t5)).symm)
  have t5 : ¬ s.data.toList = defaultL := beq_eq_false_iff_ne.1 t5.symm
  (repeat((conv=>whnf);first|apply ω0|apply ω1|apply ω2|refine τ3 rfl ?_|refine τ4 rfl ?_|refine ⟨rfl,?_⟩|apply τa|refine τb rfl ?_|refine ⟨⟨by kernel_rfl,by kernel_rfl⟩,?_⟩|refine ⟨by decide,?_⟩|apply τt|apply τf))
  intro c t6
  rw [Lib.toList_data, Lib.toList_data] at t6
  cases c
  rotate_left
  · have t6 : s.data.toList = x32L := beq_iff_eq.1 t6.symm
    (repeat((conv=>whnf);first|apply ω0|apply ω1|apply ω2|refine τ3 rfl ?_|refine τ4 rfl ?_|refine ⟨rfl,?_⟩|apply τa|refine τb rfl ?_|refine ⟨⟨by kernel_rfl,by kernel_rfl⟩,?_⟩|refine ⟨by decide,?_⟩|apply τt|apply τf))
    exact ret_tells rfl (le_bool (nameB_false (fun h => h.2.2.2.2.2.1 t6)).symm)
  have t6 : ¬ s.data.toList = x32L := beq_eq_false_iff_ne.1 t6.symm
  (repeat((conv=>whnf);first|apply ω0|apply ω1|apply ω2|refine τ3 rfl ?_|refine τ4 rfl ?_|refine ⟨rfl,?_⟩|apply τa|refine τb rfl ?_|refine ⟨⟨by kernel_rfl,by kernel_rfl⟩,?_⟩|refine ⟨by decide,?_⟩|apply τt|apply τf))
  refine aw_loop (fun y : Nat × Nat => mk 59 [(0, strA s), (3, int y.1)] ⟨[], [], y.2, 0⟩) (fun y => y.1 ≤ s.size ∧ ∀ j, j < y.1 → okN (s.data.toList.getD j 0).toNat = true) (fun y => s.size - y.1) ?_ ?_
  · exact ⟨(0, nx), ⟨Nat.zero_le _, fun j h => absurd h (Nat.not_lt_zero _)⟩, ele_mk rfl rfl ⟨AVle.refl _, AVle.refl _, trivial⟩⟩
  · rintro ⟨i, nx2⟩ ⟨h3, h4⟩
    dsimp only at h3 h4
    (repeat((conv=>whnf);first|apply ω0|apply ω1|apply ω2|refine τ3 rfl ?_|refine τ4 rfl ?_|refine ⟨rfl,?_⟩|apply τa|refine τb rfl ?_|refine ⟨⟨by kernel_rfl,by kernel_rfl⟩,?_⟩|refine ⟨by decide,?_⟩|apply τt|apply τf))
    intro c g; cases c
    · have g : ¬ ((i : Nat) : Int) < ((s.size : Nat) : Int) := not_of g
      obtain rfl : i = s.size := by omega
      have : nameB s.data.toList = true := (nameB_ref _).2 ⟨by omega, by omega, by omega, by omega, t5, t6, h4⟩
      rw [this]
      (repeat((conv=>whnf);first|apply ω0|apply ω1|apply ω2|refine τ3 rfl ?_|refine τ4 rfl ?_|refine ⟨rfl,?_⟩|apply τa|refine τb rfl ?_|refine ⟨⟨by kernel_rfl,by kernel_rfl⟩,?_⟩|refine ⟨by decide,?_⟩|apply τt|apply τf))
      exact ret_tells rfl (AVle.refl _)
    · have g : ((i : Nat) : Int) < ((s.size : Nat) : Int) := yes_of g
      have hbad : okN (s.data.toList.getD i 0).toNat = false → false = nameB s.data.toList := fun h => (nameB_false (fun hh => by have := hh.2.2.2.2.2.2 i (by omega); rw [h] at this; cases this)).symm
      (repeat((conv=>whnf);first|apply ω0|apply ω1|apply ω2|refine τ3 rfl ?_|refine τ4 rfl ?_|refine ⟨rfl,?_⟩|apply τa|refine τb rfl ?_|refine ⟨⟨by kernel_rfl,by kernel_rfl⟩,?_⟩|refine ⟨by decide,?_⟩|apply τt|apply τf))
      refine ⟨⟨by dsimp only; omega, by dsimp only; omega⟩, ?_⟩
      have hgood : okN (s.data.toList.getD i 0).toNat = true → ∀ j, j < i + 1 → okN (s.data.toList.getD j 0).toNat = true := fun h j hj => by
        rcases Nat.lt_or_ge j i with h1 | h1
        · exact h4 j h1
        · obtain rfl : j = i := by omega
          exact h
      have hval : (((s.data.getD i 0).toNat : Nat) : Int) = (((s.data.toList.getD i 0).toNat : Nat) : Int) := by rw [ba_get]
      generalize (s.data.toList.getD i 0).toNat = n at hbad hgood hval
      (repeat((conv=>whnf);first|apply ω0|apply ω1|apply ω2|refine τ3 rfl ?_|refine τ4 rfl ?_|refine ⟨rfl,?_⟩|apply τa|refine τb rfl ?_|refine ⟨⟨by kernel_rfl,by kernel_rfl⟩,?_⟩|refine ⟨by decide,?_⟩|apply τt|apply τf))
      intro c u1
      have u1 : c = decide ((n : Int) ≥ 97) := u1.trans (by rw [← hval]; rfl)
      cases c
      · have u1 : ¬ (n : Int) ≥ 97 := not_of u1
        (repeat((conv=>whnf);first|apply ω0|apply ω1|apply ω2|refine τ3 rfl ?_|refine τ4 rfl ?_|refine ⟨rfl,?_⟩|apply τa|refine τb rfl ?_|refine ⟨⟨by kernel_rfl,by kernel_rfl⟩,?_⟩|refine ⟨by decide,?_⟩|apply τt|apply τf))
        intro c u3
        have u3 : c = decide ((n : Int) ≥ 48) := u3.trans (by rw [← hval]; rfl)
        cases c
        · have u3 : ¬ (n : Int) ≥ 48 := not_of u3
          (repeat((conv=>whnf);first|apply ω0|apply ω1|apply ω2|refine τ3 rfl ?_|refine τ4 rfl ?_|refine ⟨rfl,?_⟩|apply τa|refine τb rfl ?_|refine ⟨⟨by kernel_rfl,by kernel_rfl⟩,?_⟩|refine ⟨by decide,?_⟩|apply τt|apply τf))
          intro c u5
          have u5 : c = ((n : Int) == 95) := u5.trans (by rw [← hval]; rfl)
          cases c
          · have u5 : (n : Int) ≠ 95 := fct_b0.1 u5
            (repeat((conv=>whnf);first|apply ω0|apply ω1|apply ω2|refine τ3 rfl ?_|refine τ4 rfl ?_|refine ⟨rfl,?_⟩|apply τa|refine τb rfl ?_|refine ⟨⟨by kernel_rfl,by kernel_rfl⟩,?_⟩|refine ⟨by decide,?_⟩|apply τt|apply τf))
            exact ret_tells rfl (le_bool (hbad (okN_out (by omega))))
          · have u5 : (n : Int) = 95 := fct_b1.1 u5
            (repeat((conv=>whnf);first|apply ω0|apply ω1|apply ω2|refine τ3 rfl ?_|refine τ4 rfl ?_|refine ⟨rfl,?_⟩|apply τa|refine τb rfl ?_|refine ⟨⟨by kernel_rfl,by kernel_rfl⟩,?_⟩|refine ⟨by decide,?_⟩|apply τt|apply τf))
            refine back (i + 1, nx2) ⟨by dsimp only; omega, hgood (okN_in (by omega))⟩ (by dsimp only; omega) (ele_mk rfl rfl ⟨AVle.refl _, le_int (wrap_succ (by dsimp only; omega)), trivial⟩)
        · have u3 : (n : Int) ≥ 48 := yes_of u3
          (repeat((conv=>whnf);first|apply ω0|apply ω1|apply ω2|refine τ3 rfl ?_|refine τ4 rfl ?_|refine ⟨rfl,?_⟩|apply τa|refine τb rfl ?_|refine ⟨⟨by kernel_rfl,by kernel_rfl⟩,?_⟩|refine ⟨by decide,?_⟩|apply τt|apply τf))
          intro c u4
          have u4 : c = decide ((n : Int) ≤ 57) := u4.trans (by rw [← hval]; rfl)
          cases c
          · have u4 : ¬ (n : Int) ≤ 57 := not_of u4
            (repeat((conv=>whnf);first|apply ω0|apply ω1|apply ω2|refine τ3 rfl ?_|refine τ4 rfl ?_|refine ⟨rfl,?_⟩|apply τa|refine τb rfl ?_|refine ⟨⟨by kernel_rfl,by kernel_rfl⟩,?_⟩|refine ⟨by decide,?_⟩|apply τt|apply τf))
            intro c u5
            have u5 : c = ((n : Int) == 95) := u5.trans (by rw [← hval]; rfl)
            cases c
            · have u5 : (n : Int) ≠ 95 := fct_b0.1 u5
              (repeat((conv=>whnf);first|apply ω0|apply ω1|apply ω2|refine τ3 rfl ?_|refine τ4 rfl ?_|refine ⟨rfl,?_⟩|apply τa|refine τb rfl ?_|refine ⟨⟨by kernel_rfl,by kernel_rfl⟩,?_⟩|refine ⟨by decide,?_⟩|apply τt|apply τf))
              exact ret_tells rfl (le_bool (hbad (okN_out (by omega))))
            · have u5 : (n : Int) = 95 := fct_b1.1 u5
              (repeat((conv=>whnf);first|apply ω0|apply ω1|apply ω2|refine τ3 rfl ?_|refine τ4 rfl ?_|refine ⟨rfl,?_⟩|apply τa|refine τb rfl ?_|refine ⟨⟨by kernel_rfl,by kernel_rfl⟩,?_⟩|refine ⟨by decide,?_⟩|apply τt|apply τf))
              refine back (i + 1, nx2) ⟨by dsimp only; omega, hgood (okN_in (by omega))⟩ (by dsimp only; omega) (ele_mk rfl rfl ⟨AVle.refl _, le_int (wrap_succ (by dsimp only; omega)), trivial⟩)
          · have u4 : (n : Int) ≤ 57 := yes_of u4
            (repeat((conv=>whnf);first|apply ω0|apply ω1|apply ω2|refine τ3 rfl ?_|refine τ4 rfl ?_|refine ⟨rfl,?_⟩|apply τa|refine τb rfl ?_|refine ⟨⟨by kernel_rfl,by kernel_rfl⟩,?_⟩|refine ⟨by decide,?_⟩|apply τt|apply τf))
            refine back (i + 1, nx2) ⟨by dsimp only; omega, hgood (okN_in (by omega))⟩ (by dsimp only; omega) (ele_mk rfl rfl ⟨AVle.refl _, le_int (wrap_succ (by dsimp only; omega)), trivial⟩)
      · have u1 : (n : Int) ≥ 97 := yes_of u1
        (repeat((conv=>whnf);first|apply ω0|apply ω1|apply ω2|refine τ3 rfl ?_|refine τ4 rfl ?_|refine ⟨rfl,?_⟩|apply τa|refine τb rfl ?_|refine ⟨⟨by kernel_rfl,by kernel_rfl⟩,?_⟩|refine ⟨by decide,?_⟩|apply τt|apply τf))
        intro c u2
        have u2 : c = decide ((n : Int) ≤ 122) := u2.trans (by rw [← hval]; rfl)
        cases c
        · have u2 : ¬ (n : Int) ≤ 122 := not_of u2
          (repeat((conv=>whnf);first|apply ω0|apply ω1|apply ω2|refine τ3 rfl ?_|refine τ4 rfl ?_|refine ⟨rfl,?_⟩|apply τa|refine τb rfl ?_|refine ⟨⟨by kernel_rfl,by kernel_rfl⟩,?_⟩|refine ⟨by decide,?_⟩|apply τt|apply τf))
          intro c u3
          have u3 : c = decide ((n : Int) ≥ 48) := u3.trans (by rw [← hval]; rfl)
          cases c
          · have u3 : ¬ (n : Int) ≥ 48 := not_of u3
            (repeat((conv=>whnf);first|apply ω0|apply ω1|apply ω2|refine τ3 rfl ?_|refine τ4 rfl ?_|refine ⟨rfl,?_⟩|apply τa|refine τb rfl ?_|refine ⟨⟨by kernel_rfl,by kernel_rfl⟩,?_⟩|refine ⟨by decide,?_⟩|apply τt|apply τf))
            intro c u5
            have u5 : c = ((n : Int) == 95) := u5.trans (by rw [← hval]; rfl)
            cases c
            · have u5 : (n : Int) ≠ 95 := fct_b0.1 u5
              (repeat((conv=>whnf);first|apply ω0|apply ω1|apply ω2|refine τ3 rfl ?_|refine τ4 rfl ?_|refine ⟨rfl,?_⟩|apply τa|refine τb rfl ?_|refine ⟨⟨by kernel_rfl,by kernel_rfl⟩,?_⟩|refine ⟨by decide,?_⟩|apply τt|apply τf))
              exact ret_tells rfl (le_bool (hbad (okN_out (by omega))))
            · have u5 : (n : Int) = 95 := fct_b1.1 u5
              (repeat((conv=>whnf);first|apply ω0|apply ω1|apply ω2|refine τ3 rfl ?_|refine τ4 rfl ?_|refine ⟨rfl,?_⟩|apply τa|refine τb rfl ?_|refine ⟨⟨by kernel_rfl,by kernel_rfl⟩,?_⟩|refine ⟨by decide,?_⟩|apply τt|apply τf))
              refine back (i + 1, nx2) ⟨by dsimp only; omega, hgood (okN_in (by omega))⟩ (by dsimp only; omega) (ele_mk rfl rfl ⟨AVle.refl _, le_int (wrap_succ (by dsimp only; omega)), trivial⟩)
          · have u3 : (n : Int) ≥ 48 := yes_of u3
            (repeat((conv=>whnf);first|apply ω0|apply ω1|apply ω2|refine τ3 rfl ?_|refine τ4 rfl ?_|refine ⟨rfl,?_⟩|apply τa|refine τb rfl ?_|refine ⟨⟨by kernel_rfl,by kernel_rfl⟩,?_⟩|refine ⟨by decide,?_⟩|apply τt|apply τf))
            intro c u4
            have u4 : c = decide ((n : Int) ≤ 57) := u4.trans (by rw [← hval]; rfl)
            cases c
            · have u4 : ¬ (n : Int) ≤ 57 := not_of u4
              (repeat((conv=>whnf);first|apply ω0|apply ω1|apply ω2|refine τ3 rfl ?_|refine τ4 rfl ?_|refine ⟨rfl,?_⟩|apply τa|refine τb rfl ?_|refine ⟨⟨by kernel_rfl,by kernel_rfl⟩,?_⟩|refine ⟨by decide,?_⟩|apply τt|apply τf))
              intro c u5
              have u5 : c = ((n : Int) == 95) := u5.trans (by rw [← hval]; rfl)
              cases c
              · have u5 : (n : Int) ≠ 95 := fct_b0.1 u5
                (repeat((conv=>whnf);first|apply ω0|apply ω1|apply ω2|refine τ3 rfl ?_|refine τ4 rfl ?_|refine ⟨rfl,?_⟩|apply τa|refine τb rfl ?_|refine ⟨⟨by kernel_rfl,by kernel_rfl⟩,?_⟩|refine ⟨by decide,?_⟩|apply τt|apply τf))
                exact ret_tells rfl (le_bool (hbad (okN_out (by omega))))
              · have u5 : (n : Int) = 95 := fct_b1.1 u5
                (repeat((conv=>whnf);first|apply ω0|apply ω1|apply ω2|refine τ3 rfl ?_|refine τ4 rfl ?_|refine ⟨rfl,?_⟩|apply τa|refine τb rfl ?_|refine ⟨⟨by kernel_rfl,by kernel_rfl⟩,?_⟩|refine ⟨by decide,?_⟩|apply τt|apply τf))
                refine back (i + 1, nx2) ⟨by dsimp only; omega, hgood (okN_in (by omega))⟩ (by dsimp only; omega) (ele_mk rfl rfl ⟨AVle.refl _, le_int (wrap_succ (by dsimp only; omega)), trivial⟩)
            · have u4 : (n : Int) ≤ 57 := yes_of u4
              (repeat((conv=>whnf);first|apply ω0|apply ω1|apply ω2|refine τ3 rfl ?_|refine τ4 rfl ?_|refine ⟨rfl,?_⟩|apply τa|refine τb rfl ?_|refine ⟨⟨by kernel_rfl,by kernel_rfl⟩,?_⟩|refine ⟨by decide,?_⟩|apply τt|apply τf))
              refine back (i + 1, nx2) ⟨by dsimp only; omega, hgood (okN_in (by omega))⟩ (by dsimp only; omega) (ele_mk rfl rfl ⟨AVle.refl _, le_int (wrap_succ (by dsimp only; omega)), trivial⟩)
        · have u2 : (n : Int) ≤ 122 := yes_of u2
          (repeat((conv=>whnf);first|apply ω0|apply ω1|apply ω2|refine τ3 rfl ?_|refine τ4 rfl ?_|refine ⟨rfl,?_⟩|apply τa|refine τb rfl ?_|refine ⟨⟨by kernel_rfl,by kernel_rfl⟩,?_⟩|refine ⟨by decide,?_⟩|apply τt|apply τf))
          refine back (i + 1, nx2) ⟨by dsimp only; omega, hgood (okN_in (by omega))⟩ (by dsimp only; omega) (ele_mk rfl rfl ⟨AVle.refl _, le_int (wrap_succ (by dsimp only; omega)), trivial⟩)
end Go.Proofs.W

namespace Go.Proofs.W
open Go.Vl
set_option maxRecDepth 100000

theorem right9_spec (k n : Int) : Tells Tryd.prog 17 [act k n] (boolA (right9 k n)) := by
  refine tells_of_aw Tryd.func17 rfl rfl fun nx => ?_
  (repeat((conv=>whnf);first|apply ω0|apply ω1|apply ω2|refine τ3 rfl ?_|refine τ4 rfl ?_|refine ⟨rfl,?_⟩|apply τa|refine τb rfl ?_|refine ⟨⟨by kernel_rfl,by kernel_rfl⟩,?_⟩|refine ⟨by decide,?_⟩|apply τt|apply τf))
  (refine aw_draw 21 ?_ ?_ ?_ ?_; (· kernel_rfl); (· kernel_rfl); (· kernel_rfl))
  (repeat((conv=>whnf);first|apply ω0|apply ω1|apply ω2|refine τ3 rfl ?_|refine τ4 rfl ?_|refine ⟨rfl,?_⟩|apply τa|refine τb rfl ?_|refine ⟨⟨by kernel_rfl,by kernel_rfl⟩,?_⟩|refine ⟨by decide,?_⟩|apply τt|apply τf))
  intro c h1; cases c
  · (repeat((conv=>whnf);first|apply ω0|apply ω1|apply ω2|refine τ3 rfl ?_|refine τ4 rfl ?_|refine ⟨rfl,?_⟩|apply τa|refine τb rfl ?_|refine ⟨⟨by kernel_rfl,by kernel_rfl⟩,?_⟩|refine ⟨by decide,?_⟩|apply τt|apply τf))
    refine ret_tells rfl (le_bool ?_)
    simp at h1; simp [right9]; omega
  (repeat((conv=>whnf);first|apply ω0|apply ω1|apply ω2|refine τ3 rfl ?_|refine τ4 rfl ?_|refine ⟨rfl,?_⟩|apply τa|refine τb rfl ?_|refine ⟨⟨by kernel_rfl,by kernel_rfl⟩,?_⟩|refine ⟨by decide,?_⟩|apply τt|apply τf))
  intro c h2; cases c
  · (repeat((conv=>whnf);first|apply ω0|apply ω1|apply ω2|refine τ3 rfl ?_|refine τ4 rfl ?_|refine ⟨rfl,?_⟩|apply τa|refine τb rfl ?_|refine ⟨⟨by kernel_rfl,by kernel_rfl⟩,?_⟩|refine ⟨by decide,?_⟩|apply τt|apply τf))
    refine ret_tells rfl (le_bool ?_)
    simp at h1 h2; simp [right9]; omega
  (repeat((conv=>whnf);first|apply ω0|apply ω1|apply ω2|refine τ3 rfl ?_|refine τ4 rfl ?_|refine ⟨rfl,?_⟩|apply τa|refine τb rfl ?_|refine ⟨⟨by kernel_rfl,by kernel_rfl⟩,?_⟩|refine ⟨by decide,?_⟩|apply τt|apply τf))
  intro c h3; cases c
  · (repeat((conv=>whnf);first|apply ω0|apply ω1|apply ω2|refine τ3 rfl ?_|refine τ4 rfl ?_|refine ⟨rfl,?_⟩|apply τa|refine τb rfl ?_|refine ⟨⟨by kernel_rfl,by kernel_rfl⟩,?_⟩|refine ⟨by decide,?_⟩|apply τt|apply τf))
    refine ret_tells rfl (le_bool ?_)
    simp at h1 h2 h3; simp [right9]; omega
  (repeat((conv=>whnf);first|apply ω0|apply ω1|apply ω2|refine τ3 rfl ?_|refine τ4 rfl ?_|refine ⟨rfl,?_⟩|apply τa|refine τb rfl ?_|refine ⟨⟨by kernel_rfl,by kernel_rfl⟩,?_⟩|refine ⟨by decide,?_⟩|apply τt|apply τf))
  refine ex_yields (yields_tells rfl rfl (most9_spec k) ⟨AVle.refl _, trivial⟩ (NoId.v _)) ?_
  intro c h4; cases c
  · (repeat((conv=>whnf);first|apply ω0|apply ω1|apply ω2|refine τ3 rfl ?_|refine τ4 rfl ?_|refine ⟨rfl,?_⟩|apply τa|refine τb rfl ?_|refine ⟨⟨by kernel_rfl,by kernel_rfl⟩,?_⟩|refine ⟨by decide,?_⟩|apply τt|apply τf))
    refine ret_tells rfl (le_bool ?_)
    simp at h1 h2 h3 h4; simp [right9]; omega
  (repeat((conv=>whnf);first|apply ω0|apply ω1|apply ω2|refine τ3 rfl ?_|refine τ4 rfl ?_|refine ⟨rfl,?_⟩|apply τa|refine τb rfl ?_|refine ⟨⟨by kernel_rfl,by kernel_rfl⟩,?_⟩|refine ⟨by decide,?_⟩|apply τt|apply τf))
  refine ret_tells rfl (le_bool ?_)
  simp at h1 h2 h3 h4; simp [right9]; omega
theorem name14_spec (s : ByteArray) : Tells Tryd.prog 18 [strA s] (boolA (nameB s.data.toList)) := by
  have h := name11_spec s
  generalize nameB s.data.toList = b at h ⊢
  refine tells_of_aw Tryd.func18 rfl rfl fun nx => ?_
  (repeat((conv=>whnf);first|apply ω0|apply ω1|apply ω2|refine τ3 rfl ?_|refine τ4 rfl ?_|refine ⟨rfl,?_⟩|apply τa|refine τb rfl ?_|refine ⟨⟨by kernel_rfl,by kernel_rfl⟩,?_⟩|refine ⟨by decide,?_⟩|apply τt|apply τf))
  refine aop_tells rfl rfl h ⟨AVle.refl _, trivial⟩ fun nx1 => ?_
  intro c hc
  (repeat((conv=>whnf);first|apply ω0|apply ω1|apply ω2|refine τ3 rfl ?_|refine τ4 rfl ?_|refine ⟨rfl,?_⟩|apply τa|refine τb rfl ?_|refine ⟨⟨by kernel_rfl,by kernel_rfl⟩,?_⟩|refine ⟨by decide,?_⟩|apply τt|apply τf))
  exact ret_tells rfl (le_bool hc)
theorem any_first {l : List Rul} {i : Nat} (hi : i < l.length) (h : rightR (l.getD i rul0) = false) : (l.any fun r => !rightR r) = true := by
  rw [List.any_eq_true]
  exact ⟨l.getD i rul0, by simp [List.getD, hi], by rw [h]; rfl⟩
theorem any_none {l : List Rul} (h : ∀ j, j < l.length → rightR (l.getD j rul0) = true) : (l.any fun r => !rightR r) = false := by
  rw [List.any_eq_false]
  intro r hr
  obtain ⟨j, hj, rfl⟩ := List.getElem_of_mem hr
  have := h j hj
  rw [List.getD_eq_getElem?_getD, List.getElem?_eq_getElem hj] at this
  simp at this
  simp [this]
theorem anyC_first {l : List Cnd} {i : Nat} (hi : i < l.length) (h : rightC (l.getD i cnd0) = false) : (l.any fun c => !rightC c) = true := by
  rw [List.any_eq_true]
  exact ⟨l.getD i cnd0, by simp [List.getD, hi], by rw [h]; rfl⟩
theorem anyC_none {l : List Cnd} (h : ∀ j, j < l.length → rightC (l.getD j cnd0) = true) : (l.any fun c => !rightC c) = false := by
  rw [List.any_eq_false]
  intro r hr
  obtain ⟨j, hj, rfl⟩ := List.getElem_of_mem hr
  have := h j hj
  rw [List.getD_eq_getElem?_getD, List.getElem?_eq_getElem hj] at this
  simp at this
  simp [this]
set_option maxHeartbeats 2000000 in
theorem right14_spec (p : Pol) : Tells Tryd.prog 7 [polA p] (boolA (rightP p)) := by
  have hd := right9_spec p.dflt.1 p.dflt.2
  have hP : rightP p = (right9 p.dflt.1 p.dflt.2 && (decide (p.rules.length ≤ 500) && !(p.rules.any fun r => !rightR r))) := rfl
  generalize rightP p = R at hP ⊢
  generalize right9 p.dflt.1 p.dflt.2 = b0 at hd hP
  obtain ⟨⟨k, n⟩, x, rs⟩ := p
  dsimp only at hP hd
  refine tells_of_aw Tryd.func7 rfl rfl fun nx => ?_
  (repeat((conv=>whnf);first|apply ω0|apply ω1|apply ω2|refine τ3 rfl ?_|refine τ4 rfl ?_|refine ⟨rfl,?_⟩|apply τa|refine τb rfl ?_|refine ⟨⟨by kernel_rfl,by kernel_rfl⟩,?_⟩|refine ⟨by decide,?_⟩|apply τt|apply τf))
  refine aop_tells rfl rfl hd ⟨AVle.refl _, trivial⟩ fun nx1 => ?_
  cases b0
  · (repeat((conv=>whnf);first|apply ω0|apply ω1|apply ω2|refine τ3 rfl ?_|refine τ4 rfl ?_|refine ⟨rfl,?_⟩|apply τa|refine τb rfl ?_|refine ⟨⟨by kernel_rfl,by kernel_rfl⟩,?_⟩|refine ⟨by decide,?_⟩|apply τt|apply τf))
    exact ret_tells rfl (le_bool (by rw [hP]; rfl))
  (repeat((conv=>whnf);first|apply ω0|apply ω1|apply ω2|refine τ3 rfl ?_|refine τ4 rfl ?_|refine ⟨rfl,?_⟩|apply τa|refine τb rfl ?_|refine ⟨⟨by kernel_rfl,by kernel_rfl⟩,?_⟩|refine ⟨by decide,?_⟩|apply τt|apply τf))
  intro c g1; cases c
  rotate_left
  · have g1 : ((rs.length : Nat) : Int) > 500 := yes_of g1
    (repeat((conv=>whnf);first|apply ω0|apply ω1|apply ω2|refine τ3 rfl ?_|refine τ4 rfl ?_|refine ⟨rfl,?_⟩|apply τa|refine τb rfl ?_|refine ⟨⟨by kernel_rfl,by kernel_rfl⟩,?_⟩|refine ⟨by decide,?_⟩|apply τt|apply τf))
    exact ret_tells rfl (le_bool (by rw [hP, decide_eq_false (by omega)]; rfl))
  have g1 : ¬ ((rs.length : Nat) : Int) > 500 := not_of g1
  have h500 : rs.length ≤ 500 := by omega
  rw [decide_eq_true h500, Bool.true_and, Bool.true_and] at hP
  (repeat((conv=>whnf);first|apply ω0|apply ω1|apply ω2|refine τ3 rfl ?_|refine τ4 rfl ?_|refine ⟨rfl,?_⟩|apply τa|refine τb rfl ?_|refine ⟨⟨by kernel_rfl,by kernel_rfl⟩,?_⟩|refine ⟨by decide,?_⟩|apply τt|apply τf))
  refine aw_loop (fun s : Nat × Nat => mk 58 [(1, .bp (0, nx) 0), (3, int s.1)] ⟨[((0, nx), .c [int k, int n, boolA x, ruls rs])], [], s.2, 1⟩) (fun s => s.1 ≤ rs.length ∧ ∀ j, j < s.1 → rightR (rs.getD j rul0) = true) (fun s => rs.length - s.1) ?_ ?_
  · exact ⟨(0, nx1), ⟨Nat.zero_le _, fun j h => absurd h (Nat.not_lt_zero _)⟩, ele_tell (pm := []) _ [] rfl rfl (List.Sublist.refl _) (List.Sublist.refl _) ⟨rfl, OwnLe.refl _, trivial⟩ trivial ⟨AVle.refl _, AVle.refl _, trivial⟩⟩
  · rintro ⟨i, nx2⟩ ⟨h3, h4⟩
    dsimp only at h3 h4
    (repeat((conv=>whnf);first|apply ω0|apply ω1|apply ω2|refine τ3 rfl ?_|refine τ4 rfl ?_|refine ⟨rfl,?_⟩|apply τa|refine τb rfl ?_|refine ⟨⟨by kernel_rfl,by kernel_rfl⟩,?_⟩|refine ⟨by decide,?_⟩|apply τt|apply τf))
    intro c h5; cases c
    · have h6 : ¬ ((i : Nat) : Int) < ((rs.length : Nat) : Int) := not_of h5
      obtain rfl : i = rs.length := by omega
      (repeat((conv=>whnf);first|apply ω0|apply ω1|apply ω2|refine τ3 rfl ?_|refine τ4 rfl ?_|refine ⟨rfl,?_⟩|apply τa|refine τb rfl ?_|refine ⟨⟨by kernel_rfl,by kernel_rfl⟩,?_⟩|refine ⟨by decide,?_⟩|apply τt|apply τf))
      exact ret_tells rfl (le_bool (by rw [hP, any_none h4]; rfl))
    · have h6 : ((i : Nat) : Int) < ((rs.length : Nat) : Int) := yes_of h5
      have hi : i < rs.length := by omega
      have hbad : rightR (rs.getD i rul0) = false → false = R := fun h => by rw [hP, any_first hi h]; rfl
      have hR : rightR (rs.getD i rul0) = (nameB (rs.getD i rul0).name.data.toList && (right9 (rs.getD i rul0).act.1 (rs.getD i rul0).act.2 && (decide ((rs.getD i rul0).conds.length ≤ 6) && !((rs.getD i rul0).conds.any fun c => !rightC c)))) := rfl
      have hn := name14_spec (rs.getD i rul0).name
      have ha := right9_spec (rs.getD i rul0).act.1 (rs.getD i rul0).act.2
      generalize nameB (rs.getD i rul0).name.data.toList = b1 at hn hR
      generalize right9 (rs.getD i rul0).act.1 (rs.getD i rul0).act.2 = b2 at ha hR
      (repeat((conv=>whnf);first|apply ω0|apply ω1|apply ω2|refine τ3 rfl ?_|refine τ4 rfl ?_|refine ⟨rfl,?_⟩|apply τa|refine τb rfl ?_|refine ⟨⟨by kernel_rfl,by kernel_rfl⟩,?_⟩|refine ⟨by decide,?_⟩|apply τt|apply τf))
      refine ⟨⟨by dsimp only; omega, by dsimp only; omega⟩, ?_⟩
      (repeat((conv=>whnf);first|apply ω0|apply ω1|apply ω2|refine τ3 rfl ?_|refine τ4 rfl ?_|refine ⟨rfl,?_⟩|apply τa|refine τb rfl ?_|refine ⟨⟨by kernel_rfl,by kernel_rfl⟩,?_⟩|refine ⟨by decide,?_⟩|apply τt|apply τf))
      refine aop_tells rfl rfl hn ⟨AVle.refl _, trivial⟩ fun nx3 => ?_
      cases b1
      · (repeat((conv=>whnf);first|apply ω0|apply ω1|apply ω2|refine τ3 rfl ?_|refine τ4 rfl ?_|refine ⟨rfl,?_⟩|apply τa|refine τb rfl ?_|refine ⟨⟨by kernel_rfl,by kernel_rfl⟩,?_⟩|refine ⟨by decide,?_⟩|apply τt|apply τf))
        exact ret_tells rfl (le_bool (hbad (by rw [hR]; rfl)))
      (repeat((conv=>whnf);first|apply ω0|apply ω1|apply ω2|refine τ3 rfl ?_|refine τ4 rfl ?_|refine ⟨rfl,?_⟩|apply τa|refine τb rfl ?_|refine ⟨⟨by kernel_rfl,by kernel_rfl⟩,?_⟩|refine ⟨by decide,?_⟩|apply τt|apply τf))
      refine aop_tells rfl rfl ha ⟨AVle.refl _, trivial⟩ fun nx4 => ?_
      cases b2
      · (repeat((conv=>whnf);first|apply ω0|apply ω1|apply ω2|refine τ3 rfl ?_|refine τ4 rfl ?_|refine ⟨rfl,?_⟩|apply τa|refine τb rfl ?_|refine ⟨⟨by kernel_rfl,by kernel_rfl⟩,?_⟩|refine ⟨by decide,?_⟩|apply τt|apply τf))
        exact ret_tells rfl (le_bool (hbad (by rw [hR]; rfl)))
      (repeat((conv=>whnf);first|apply ω0|apply ω1|apply ω2|refine τ3 rfl ?_|refine τ4 rfl ?_|refine ⟨rfl,?_⟩|apply τa|refine τb rfl ?_|refine ⟨⟨by kernel_rfl,by kernel_rfl⟩,?_⟩|refine ⟨by decide,?_⟩|apply τt|apply τf))
      intro c g2; cases c
      rotate_left
      · have g2 : (((rs.getD i rul0).conds.length : Nat) : Int) > 6 := yes_of g2
        (repeat((conv=>whnf);first|apply ω0|apply ω1|apply ω2|refine τ3 rfl ?_|refine τ4 rfl ?_|refine ⟨rfl,?_⟩|apply τa|refine τb rfl ?_|refine ⟨⟨by kernel_rfl,by kernel_rfl⟩,?_⟩|refine ⟨by decide,?_⟩|apply τt|apply τf))
        exact ret_tells rfl (le_bool (hbad (by rw [hR, decide_eq_false (by omega)]; rfl)))
      have g2 : ¬ (((rs.getD i rul0).conds.length : Nat) : Int) > 6 := not_of g2
      rw [decide_eq_true (show (rs.getD i rul0).conds.length ≤ 6 by omega), Bool.true_and, Bool.true_and, Bool.true_and] at hR
      (repeat((conv=>whnf);first|apply ω0|apply ω1|apply ω2|refine τ3 rfl ?_|refine τ4 rfl ?_|refine ⟨rfl,?_⟩|apply τa|refine τb rfl ?_|refine ⟨⟨by kernel_rfl,by kernel_rfl⟩,?_⟩|refine ⟨by decide,?_⟩|apply τt|apply τf))
      refine aw_loop (fun s : Nat × Nat => mk 58 [(1, .bp (0, nx) 0), (3, int i), (4, .bp (1, nx2) 0), (5, int s.1)] ⟨[((1, nx2), .c [strA (rs.getD i rul0).name, int (rs.getD i rul0).act.1, int (rs.getD i rul0).act.2, cnds (rs.getD i rul0).conds]), ((0, nx), .c [int k, int n, boolA x, ruls rs])], [], s.2, 2⟩) (fun s => s.1 ≤ (rs.getD i rul0).conds.length ∧ ∀ j, j < s.1 → rightC ((rs.getD i rul0).conds.getD j cnd0) = true) (fun s => (rs.getD i rul0).conds.length - s.1) ?_ ?_
      · exact ⟨(0, nx4), ⟨Nat.zero_le _, fun j h => absurd h (Nat.not_lt_zero _)⟩, ele_tell (pm := []) _ [] rfl rfl (List.Sublist.refl _) (List.Sublist.refl _) ⟨rfl, OwnLe.refl _, rfl, OwnLe.refl _, trivial⟩ trivial ⟨AVle.refl _, AVle.refl _, AVle.refl _, AVle.refl _, trivial⟩⟩
      · rintro ⟨j, nx5⟩ ⟨h7, h8⟩
        dsimp only at h7 h8
        (repeat((conv=>whnf);first|apply ω0|apply ω1|apply ω2|refine τ3 rfl ?_|refine τ4 rfl ?_|refine ⟨rfl,?_⟩|apply τa|refine τb rfl ?_|refine ⟨⟨by kernel_rfl,by kernel_rfl⟩,?_⟩|refine ⟨by decide,?_⟩|apply τt|apply τf))
        intro c h9; cases c
        · have h9 : ¬ ((j : Nat) : Int) < (((rs.getD i rul0).conds.length : Nat) : Int) := not_of h9
          have hj : j = (rs.getD i rul0).conds.length := by omega
          have hgood : rightR (rs.getD i rul0) = true := by rw [hR, anyC_none (fun q hq => h8 q (by omega))]; rfl
          (repeat((conv=>whnf);first|apply ω0|apply ω1|apply ω2|refine τ3 rfl ?_|refine τ4 rfl ?_|refine ⟨rfl,?_⟩|apply τa|refine τb rfl ?_|refine ⟨⟨by kernel_rfl,by kernel_rfl⟩,?_⟩|refine ⟨by decide,?_⟩|apply τt|apply τf))
          refine back (i + 1, nx5) ⟨by first | omega | (dsimp only; omega), fun q hq => ?_⟩ (by dsimp only; omega) (ele_tell (pm := []) _ [] rfl rfl (.cons _ (List.Sublist.refl _)) (List.Sublist.refl _) ⟨rfl, OwnLe.refl _, trivial⟩ trivial ⟨AVle.refl _, le_int (wrap_succ (by first | omega | (dsimp only; omega))), trivial⟩)
          dsimp only at hq
          rcases Nat.lt_or_ge q i with h | h
          · exact h4 q h
          · obtain rfl : q = i := by omega
            exact hgood
        · have h9 : ((j : Nat) : Int) < (((rs.getD i rul0).conds.length : Nat) : Int) := yes_of h9
          have hj : j < (rs.getD i rul0).conds.length := by omega
          have hbc : rightC ((rs.getD i rul0).conds.getD j cnd0) = false → false = R := fun h => hbad (by rw [hR, anyC_first hj h]; rfl)
          have hgc : rightC ((rs.getD i rul0).conds.getD j cnd0) = true → ∀ q, q < j + 1 → rightC ((rs.getD i rul0).conds.getD q cnd0) = true := fun h q hq => by
            rcases Nat.lt_or_ge q j with h1 | h1
            · exact h8 q h1
            · obtain rfl : q = j := by omega
              exact h
          have hc := right10_spec ((rs.getD i rul0).conds.getD j cnd0)
          generalize rightC ((rs.getD i rul0).conds.getD j cnd0) = b3 at hc hbc hgc
          (repeat((conv=>whnf);first|apply ω0|apply ω1|apply ω2|refine τ3 rfl ?_|refine τ4 rfl ?_|refine ⟨rfl,?_⟩|apply τa|refine τb rfl ?_|refine ⟨⟨by kernel_rfl,by kernel_rfl⟩,?_⟩|refine ⟨by decide,?_⟩|apply τt|apply τf))
          refine ⟨⟨by dsimp only; omega, by dsimp only; omega⟩, ?_⟩
          (repeat((conv=>whnf);first|apply ω0|apply ω1|apply ω2|refine τ3 rfl ?_|refine τ4 rfl ?_|refine ⟨rfl,?_⟩|apply τa|refine τb rfl ?_|refine ⟨⟨by kernel_rfl,by kernel_rfl⟩,?_⟩|refine ⟨by decide,?_⟩|apply τt|apply τf))
          refine aop_tells rfl rfl hc ⟨AVle.refl _, trivial⟩ fun nx6 => ?_
          cases b3
          · (repeat((conv=>whnf);first|apply ω0|apply ω1|apply ω2|refine τ3 rfl ?_|refine τ4 rfl ?_|refine ⟨rfl,?_⟩|apply τa|refine τb rfl ?_|refine ⟨⟨by kernel_rfl,by kernel_rfl⟩,?_⟩|refine ⟨by decide,?_⟩|apply τt|apply τf))
            exact ret_tells rfl (le_bool (hbc rfl))
          · (repeat((conv=>whnf);first|apply ω0|apply ω1|apply ω2|refine τ3 rfl ?_|refine τ4 rfl ?_|refine ⟨rfl,?_⟩|apply τa|refine τb rfl ?_|refine ⟨⟨by kernel_rfl,by kernel_rfl⟩,?_⟩|refine ⟨by decide,?_⟩|apply τt|apply τf))
            exact back (j + 1, nx6) ⟨by dsimp only; omega, hgc rfl⟩ (by dsimp only; omega) (ele_tell (pm := []) _ [] rfl rfl (List.Sublist.refl _) (List.Sublist.refl _) ⟨rfl, OwnLe.refl _, rfl, OwnLe.refl _, trivial⟩ trivial ⟨AVle.refl _, AVle.refl _, AVle.refl _, le_int (wrap_succ (by dsimp only; omega)), trivial⟩)
end Go.Proofs.W

namespace Go.Proofs.W
open Go.Vl
set_option maxRecDepth 100000

def okR (R : List Rul) : Prop := R.length ≤ 500 ∧ ∀ r ∈ R, r.conds.length ≤ 6
theorem okR_snoc {R : List Rul} {r : Rul} (h : okR R) (hb : badR R r = false) : okR (R ++ [r]) := by
  obtain ⟨h1, h2⟩ := badR_le hb h.1
  refine ⟨h1, fun x hx => ?_⟩
  rcases List.mem_append.1 hx with q | q
  · exact h.2 x q
  · rw [List.mem_singleton.1 q]; exact h2
theorem pairB_ok {a : Rul} : ∀ (bs R : List Rul), okR R → ∀ o R', pairB a bs R = some (o, R') → okR R'
  | [], R, hR, o, R', h => by cases h; exact hR
  | b :: bs, R, hR, o, R', h => by
    rw [pairB] at h
    cases hbad : badR R (pairR a b)
    · rw [hbad] at h
      simp only [Bool.false_eq_true, if_false] at h
      by_cases hc : (pairR a b).conds = []
      · rw [if_pos hc] at h; cases h; exact okR_snoc hR hbad
      · rw [if_neg hc] at h; exact pairB_ok bs _ (okR_snoc hR hbad) o R' h
    · rw [hbad] at h; simp at h
theorem pairA_ok {bs : List Rul} : ∀ (l R : List Rul), okR R → ∀ R', pairA bs l R = some R' → okR R'
  | [], R, hR, R', h => by cases h; exact hR
  | a :: l, R, hR, R', h => by
    rw [pairA] at h
    cases hx : pairB a bs R with
    | none => rw [hx] at h; cases h
    | some y =>
      obtain ⟨o, R2⟩ := y
      have h2 := pairB_ok bs R hR o R2 hx
      rw [hx] at h
      cases o
      · exact pairA_ok l R2 h2 R' h
      · cases h; exact h2
theorem mergeR_ok {p q : Pol} : ∀ (N : List ByteArray) (R : List Rul), okR R → ∀ R', mergeR p q N R = some R' → okR R'
  | [], R, hR, R', h => by cases h; exact hR
  | s :: N, R, hR, R', h => by
    rw [mergeR] at h
    cases hx : pairA (ofL q s) (ofL p s) R with
    | none => rw [hx] at h; cases h
    | some R2 => rw [hx] at h; exact mergeR_ok N R2 (pairA_ok _ R hR R2 hx) R' h
theorem mergeP_ok {p q : Pol} : okR (mergeP p q).1.rules := by
  unfold mergeP
  split
  · split
    · rename_i R hR
      exact mergeR_ok _ [] ⟨Nat.zero_le _, fun r hr => by cases hr⟩ R hR
    · exact ⟨Nat.zero_le _, fun r hr => by cases hr⟩
  · exact ⟨Nat.zero_le _, fun r hr => by cases hr⟩
theorem sameP_refl (a : Pol) : sameP a a = true := by
  unfold sameP
  rw [decide_eq_true rfl, decide_eq_true rfl]
  have : ∀ l : List Rul, sameL l l = true := by
    intro l
    induction l with
    | nil => simp [sameL]
    | cons r l ih => simp_all [sameL, sameR]
  rw [this]; rfl
theorem light_ok {p : Pol} (h : lightP p = true) : p.rules.length ≤ 40 ∧ ∀ r ∈ p.rules, r.conds.length ≤ 12 := by
  unfold lightP at h
  simp only [Bool.and_eq_true, decide_eq_true_eq, List.all_eq_true] at h
  refine ⟨h.1, fun r hr => ?_⟩
  have := h.2 r hr
  unfold lightR at this
  simp only [Bool.and_eq_true, decide_eq_true_eq] at this
  exact this.2
theorem noid_polA (p : Pol) : NoId (polA p) := NoId.ag (by
  intro y hy
  simp only [List.mem_cons, List.not_mem_nil, or_false] at hy
  rcases hy with rfl | rfl | rfl | rfl
  · exact NoId.v _
  · exact NoId.v _
  · exact NoId.v _
  · exact noid_ruls _)
set_option maxHeartbeats 4000000 in
theorem stackmerges_law (p q : Pol) (hp : p.ok) (hq : q.ok) : Tells Tryd.prog 3 [polA p, polA q] (boolA true) := by
  have hlp := light_l25 p hp.1
  have hlq := light_l25 q hq.1
  have hop : lightP p = true → _ := light_ok
  have hoq : lightP q = true → _ := light_ok
  generalize lightP p = lp at hlp hop
  generalize lightP q = lq at hlq hoq
  refine tells_of_aw Tryd.func3 rfl rfl fun nx => ?_
  (repeat((conv=>whnf);first|apply ω0|apply ω1|apply ω2|refine τ3 rfl ?_|refine τ4 rfl ?_|refine ⟨rfl,?_⟩|apply τa|refine τb rfl ?_|refine ⟨⟨by kernel_rfl,by kernel_rfl⟩,?_⟩|refine ⟨by decide,?_⟩|apply τt|apply τf))
  refine splitO_eq (b := polA p) rfl ?_
  (repeat((conv=>whnf);first|apply ω0|apply ω1|apply ω2|refine τ3 rfl ?_|refine τ4 rfl ?_|refine ⟨rfl,?_⟩|apply τa|refine τb rfl ?_|refine ⟨⟨by kernel_rfl,by kernel_rfl⟩,?_⟩|refine ⟨by decide,?_⟩|apply τt|apply τf))
  refine aop_tells rfl rfl hlp ⟨AVle.refl _, trivial⟩ fun nx2 => ?_
  cases lp
  · (repeat((conv=>whnf);first|apply ω0|apply ω1|apply ω2|refine τ3 rfl ?_|refine τ4 rfl ?_|refine ⟨rfl,?_⟩|apply τa|refine τb rfl ?_|refine ⟨⟨by kernel_rfl,by kernel_rfl⟩,?_⟩|refine ⟨by decide,?_⟩|apply τt|apply τf))
    exact ret_tells rfl (AVle.refl _)
  have hop := hop rfl
  (repeat((conv=>whnf);first|apply ω0|apply ω1|apply ω2|refine τ3 rfl ?_|refine τ4 rfl ?_|refine ⟨rfl,?_⟩|apply τa|refine τb rfl ?_|refine ⟨⟨by kernel_rfl,by kernel_rfl⟩,?_⟩|refine ⟨by decide,?_⟩|apply τt|apply τf))
  refine splitO_eq (b := polA q) rfl ?_
  (repeat((conv=>whnf);first|apply ω0|apply ω1|apply ω2|refine τ3 rfl ?_|refine τ4 rfl ?_|refine ⟨rfl,?_⟩|apply τa|refine τb rfl ?_|refine ⟨⟨by kernel_rfl,by kernel_rfl⟩,?_⟩|refine ⟨by decide,?_⟩|apply τt|apply τf))
  refine aop_tells rfl rfl hlq ⟨AVle.refl _, trivial⟩ fun nx3 => ?_
  cases lq
  · (repeat((conv=>whnf);first|apply ω0|apply ω1|apply ω2|refine τ3 rfl ?_|refine τ4 rfl ?_|refine ⟨rfl,?_⟩|apply τa|refine τb rfl ?_|refine ⟨⟨by kernel_rfl,by kernel_rfl⟩,?_⟩|refine ⟨by decide,?_⟩|apply τt|apply τf))
    exact ret_tells rfl (AVle.refl _)
  have hoq := hoq rfl
  have hpl := pol_l25 p (by omega) (fun r hr => by have := hop.2 r hr; omega)
  have hql := pol_l25 q (by omega) (fun r hr => by have := hoq.2 r hr; omega)
  have hm := merge_spec p q hp hq
  have hrm := refmerge_spec p q (by omega) (by omega) (fun r hr => by have := hop.2 r hr; omega) (fun r hr => by have := hoq.2 r hr; omega)
  have hok := mergeP_ok (p := p) (q := q)
  have hrp := right14_spec p
  have hrq := right14_spec q
  have hlaw : rightP p = true → rightP q = true → _ := merge_law
  have hbad : (rightP p && rightP q) = false → mergeP p q = (pol0, 13) := fun h => by unfold mergeP; rw [h]; rfl
  generalize rightP p = rp at hrp hlaw hbad
  generalize rightP q = rq at hrq hlaw hbad
  generalize refMerge p q = w at hrm hlaw
  generalize hM : mergeP p q = M at hm hok hlaw hbad
  clear hM
  obtain ⟨m, e⟩ := M
  obtain ⟨w, ok⟩ := w
  dsimp only at hm hok hlaw hrm
  have hsm := fun b : Pol => same_spec14 m b (by have := hok.1; omega) (fun r hr => by have := hok.2 r hr; omega)
  (repeat((conv=>whnf);first|apply ω0|apply ω1|apply ω2|refine τ3 rfl ?_|refine τ4 rfl ?_|refine ⟨rfl,?_⟩|apply τa|refine τb rfl ?_|refine ⟨⟨by kernel_rfl,by kernel_rfl⟩,?_⟩|refine ⟨by decide,?_⟩|apply τt|apply τf))
  refine AW.le (E' := mk 72 [(2, .bp (0, nx) 0), (3, .bp (1, nx + 1) 0)] ⟨[((1, nx + 1), .c (polC q)), ((0, nx), .c (polC p))], [], nx3, 2⟩) (ele_tell _ _ rfl rfl (List.Sublist.refl _) .slnil (BxLe.refl _) trivial ⟨AVle.refl _, AVle.refl _, trivial⟩) ?_
  refine aw_mid (fun y : Nat => mk 72 [(2, .bp (0, nx) 0), (3, .bp (1, nx + 1) 0), (5, .bp (2, y) 0), (6, int e)] ⟨[((2, y), .c (polC m)), ((1, nx + 1), .c (polC q)), ((0, nx), .c (polC p))], [], y + 1, 3⟩) (fun y => True) ?_ ?_
  · refine aw_mixN 10 _ (fun i => match i with | 8 => true | 9 => true | _ => false) (fun i => match i with | 1 => true | 3 => true | 4 => true | _ => false) [0, 1, 2, 3, 4, 5, 6, 7, 8, 9] (by kernel_rfl) (by kernel_rfl) (HB.refl _) ?_
    (repeat((conv=>whnf);first|apply ω0|apply ω1|apply ω2|refine τ3 rfl ?_|refine τ4 rfl ?_|refine ⟨rfl,?_⟩|apply τa|refine τb rfl ?_|refine ⟨⟨by kernel_rfl,by kernel_rfl⟩,?_⟩|refine ⟨by decide,?_⟩|apply τt|apply τf))
    refine splitV_eq (b := polA p) rfl ?_
    (conv => whnf)
    refine ⟨_, pure_tells rfl rfl rfl hpl ⟨AVle.refl _, trivial⟩ (noid_polA _), ?_⟩
    (repeat((conv=>whnf);first|apply ω0|apply ω1|apply ω2|refine τ3 rfl ?_|refine τ4 rfl ?_|refine ⟨rfl,?_⟩|apply τa|refine τb rfl ?_|refine ⟨⟨by kernel_rfl,by kernel_rfl⟩,?_⟩|refine ⟨by decide,?_⟩|apply τt|apply τf))
    refine splitV_eq (b := polA q) rfl ?_
    (conv => whnf)
    refine ⟨_, pure_tells rfl rfl rfl hql ⟨AVle.refl _, trivial⟩ (noid_polA _), ?_⟩
    (conv => whnf)
    refine ⟨_, pure_tells rfl rfl rfl hm ⟨AVle.refl _, AVle.refl _, trivial⟩ (NoId.tup (by intro y hy; simp only [List.mem_cons, List.not_mem_nil, or_false] at hy; rcases hy with rfl | rfl; exact noid_polA _; exact NoId.v _)), ?_⟩
    (repeat((conv=>whnf);first|apply ω0|apply ω1|apply ω2|refine τ3 rfl ?_|refine τ4 rfl ?_|refine ⟨rfl,?_⟩|apply τa|refine τb rfl ?_|refine ⟨⟨by kernel_rfl,by kernel_rfl⟩,?_⟩|refine ⟨by decide,?_⟩|apply τt|apply τf))
    refine ⟨_, eff_alloc rfl rfl z_pol (HB.cons rfl (HB.one rfl)), fun r h' hr => ?_⟩
    obtain ⟨rfl, rfl⟩ := hr
    refine ⟨_, eff_store (i := (2, nx3)) (off := 0) (cs := [int 0, int 0, boolA false, .os 0 0 (fun _ => .any) none]) rfl rfl rfl rfl rfl rfl rfl (by kernel_rfl) (by kernel_rfl) (by show 0 + 4 ≤ 4; omega) (HB.cons rfl (HB.one rfl)), fun r h' hr => ?_⟩
    obtain rfl := hr
    (repeat((conv=>whnf);first|apply ω0|apply ω1|apply ω2|refine τ3 rfl ?_|refine τ4 rfl ?_|refine ⟨rfl,?_⟩|apply τa|refine τb rfl ?_|refine ⟨⟨by kernel_rfl,by kernel_rfl⟩,?_⟩|refine ⟨by decide,?_⟩|apply τt|apply τf))
    exact ⟨nx3, trivial, ele_tell _ _ rfl rfl (List.Sublist.refl _) .slnil (BxLe.refl _) trivial ⟨AVle.refl _, AVle.refl _, AVle.refl _, AVle.refl _, trivial⟩⟩
  · rintro sm -
    cases rp
    · obtain ⟨h1, h2⟩ := Prod.mk.inj (hbad rfl)
      subst h1 h2
      have hsm := hsm pol0
      rw [sameP_refl] at hsm
      clear hlaw hbad hm hrm
      (repeat((conv=>whnf);first|apply ω0|apply ω1|apply ω2|refine τ3 rfl ?_|refine τ4 rfl ?_|refine ⟨rfl,?_⟩|apply τa|refine τb rfl ?_|refine ⟨⟨by kernel_rfl,by kernel_rfl⟩,?_⟩|refine ⟨by decide,?_⟩|apply τt|apply τf))
      refine splitO_eq (b := polA p) rfl ?_
      (repeat((conv=>whnf);first|apply ω0|apply ω1|apply ω2|refine τ3 rfl ?_|refine τ4 rfl ?_|refine ⟨rfl,?_⟩|apply τa|refine τb rfl ?_|refine ⟨⟨by kernel_rfl,by kernel_rfl⟩,?_⟩|refine ⟨by decide,?_⟩|apply τt|apply τf))
      refine aop_tells rfl rfl hrp ⟨AVle.refl _, trivial⟩ fun nx4 => ?_
      (repeat((conv=>whnf);first|apply ω0|apply ω1|apply ω2|refine τ3 rfl ?_|refine τ4 rfl ?_|refine ⟨rfl,?_⟩|apply τa|refine τb rfl ?_|refine ⟨⟨by kernel_rfl,by kernel_rfl⟩,?_⟩|refine ⟨by decide,?_⟩|apply τt|apply τf))
      refine splitO_eq (b := polA pol0) rfl ?_
      (repeat((conv=>whnf);first|apply ω0|apply ω1|apply ω2|refine τ3 rfl ?_|refine τ4 rfl ?_|refine ⟨rfl,?_⟩|apply τa|refine τb rfl ?_|refine ⟨⟨by kernel_rfl,by kernel_rfl⟩,?_⟩|refine ⟨by decide,?_⟩|apply τt|apply τf))
      refine aop_tells rfl rfl hsm ⟨AVle.refl _, (AVle.ags (cs := [_, _, _, _]) ⟨AVle.refl _, AVle.refl _, AVle.refl _, AVle.os_sl0, trivial⟩), trivial⟩ fun nx5 => ?_
      (repeat((conv=>whnf);first|apply ω0|apply ω1|apply ω2|refine τ3 rfl ?_|refine τ4 rfl ?_|refine ⟨rfl,?_⟩|apply τa|refine τb rfl ?_|refine ⟨⟨by kernel_rfl,by kernel_rfl⟩,?_⟩|refine ⟨by decide,?_⟩|apply τt|apply τf))
      refine aop_tells rfl rfl f10_spec trivial fun nx6 => ?_
      (repeat((conv=>whnf);first|apply ω0|apply ω1|apply ω2|refine τ3 rfl ?_|refine τ4 rfl ?_|refine ⟨rfl,?_⟩|apply τa|refine τb rfl ?_|refine ⟨⟨by kernel_rfl,by kernel_rfl⟩,?_⟩|refine ⟨by decide,?_⟩|apply τt|apply τf))
      exact ret_tells rfl (AVle.refl _)
    cases rq
    · obtain ⟨h1, h2⟩ := Prod.mk.inj (hbad rfl)
      subst h1 h2
      have hsm := hsm pol0
      rw [sameP_refl] at hsm
      clear hlaw hbad hm hrm
      (repeat((conv=>whnf);first|apply ω0|apply ω1|apply ω2|refine τ3 rfl ?_|refine τ4 rfl ?_|refine ⟨rfl,?_⟩|apply τa|refine τb rfl ?_|refine ⟨⟨by kernel_rfl,by kernel_rfl⟩,?_⟩|refine ⟨by decide,?_⟩|apply τt|apply τf))
      refine splitO_eq (b := polA p) rfl ?_
      (repeat((conv=>whnf);first|apply ω0|apply ω1|apply ω2|refine τ3 rfl ?_|refine τ4 rfl ?_|refine ⟨rfl,?_⟩|apply τa|refine τb rfl ?_|refine ⟨⟨by kernel_rfl,by kernel_rfl⟩,?_⟩|refine ⟨by decide,?_⟩|apply τt|apply τf))
      refine aop_tells rfl rfl hrp ⟨AVle.refl _, trivial⟩ fun nx4 => ?_
      (repeat((conv=>whnf);first|apply ω0|apply ω1|apply ω2|refine τ3 rfl ?_|refine τ4 rfl ?_|refine ⟨rfl,?_⟩|apply τa|refine τb rfl ?_|refine ⟨⟨by kernel_rfl,by kernel_rfl⟩,?_⟩|refine ⟨by decide,?_⟩|apply τt|apply τf))
      refine splitO_eq (b := polA q) rfl ?_
      (repeat((conv=>whnf);first|apply ω0|apply ω1|apply ω2|refine τ3 rfl ?_|refine τ4 rfl ?_|refine ⟨rfl,?_⟩|apply τa|refine τb rfl ?_|refine ⟨⟨by kernel_rfl,by kernel_rfl⟩,?_⟩|refine ⟨by decide,?_⟩|apply τt|apply τf))
      refine aop_tells rfl rfl hrq ⟨AVle.refl _, trivial⟩ fun nx5 => ?_
      (repeat((conv=>whnf);first|apply ω0|apply ω1|apply ω2|refine τ3 rfl ?_|refine τ4 rfl ?_|refine ⟨rfl,?_⟩|apply τa|refine τb rfl ?_|refine ⟨⟨by kernel_rfl,by kernel_rfl⟩,?_⟩|refine ⟨by decide,?_⟩|apply τt|apply τf))
      refine splitO_eq (b := polA pol0) rfl ?_
      (repeat((conv=>whnf);first|apply ω0|apply ω1|apply ω2|refine τ3 rfl ?_|refine τ4 rfl ?_|refine ⟨rfl,?_⟩|apply τa|refine τb rfl ?_|refine ⟨⟨by kernel_rfl,by kernel_rfl⟩,?_⟩|refine ⟨by decide,?_⟩|apply τt|apply τf))
      refine aop_tells rfl rfl hsm ⟨AVle.refl _, (AVle.ags (cs := [_, _, _, _]) ⟨AVle.refl _, AVle.refl _, AVle.refl _, AVle.os_sl0, trivial⟩), trivial⟩ fun nx5 => ?_
      (repeat((conv=>whnf);first|apply ω0|apply ω1|apply ω2|refine τ3 rfl ?_|refine τ4 rfl ?_|refine ⟨rfl,?_⟩|apply τa|refine τb rfl ?_|refine ⟨⟨by kernel_rfl,by kernel_rfl⟩,?_⟩|refine ⟨by decide,?_⟩|apply τt|apply τf))
      refine aop_tells rfl rfl f10_spec trivial fun nx6 => ?_
      (repeat((conv=>whnf);first|apply ω0|apply ω1|apply ω2|refine τ3 rfl ?_|refine τ4 rfl ?_|refine ⟨rfl,?_⟩|apply τa|refine τb rfl ?_|refine ⟨⟨by kernel_rfl,by kernel_rfl⟩,?_⟩|refine ⟨by decide,?_⟩|apply τt|apply τf))
      exact ret_tells rfl (AVle.refl _)
    have hlaw := hlaw rfl rfl
    clear hbad hm
    cases ok
    · obtain ⟨h1, h2⟩ := Prod.mk.inj hlaw
      subst h1 h2
      have hsm := hsm pol0
      rw [sameP_refl] at hsm
      clear hlaw
      (repeat((conv=>whnf);first|apply ω0|apply ω1|apply ω2|refine τ3 rfl ?_|refine τ4 rfl ?_|refine ⟨rfl,?_⟩|apply τa|refine τb rfl ?_|refine ⟨⟨by kernel_rfl,by kernel_rfl⟩,?_⟩|refine ⟨by decide,?_⟩|apply τt|apply τf))
      refine splitO_eq (b := polA p) rfl ?_
      (repeat((conv=>whnf);first|apply ω0|apply ω1|apply ω2|refine τ3 rfl ?_|refine τ4 rfl ?_|refine ⟨rfl,?_⟩|apply τa|refine τb rfl ?_|refine ⟨⟨by kernel_rfl,by kernel_rfl⟩,?_⟩|refine ⟨by decide,?_⟩|apply τt|apply τf))
      refine aop_tells rfl rfl hrp ⟨AVle.refl _, trivial⟩ fun nx4 => ?_
      (repeat((conv=>whnf);first|apply ω0|apply ω1|apply ω2|refine τ3 rfl ?_|refine τ4 rfl ?_|refine ⟨rfl,?_⟩|apply τa|refine τb rfl ?_|refine ⟨⟨by kernel_rfl,by kernel_rfl⟩,?_⟩|refine ⟨by decide,?_⟩|apply τt|apply τf))
      refine splitO_eq (b := polA q) rfl ?_
      (repeat((conv=>whnf);first|apply ω0|apply ω1|apply ω2|refine τ3 rfl ?_|refine τ4 rfl ?_|refine ⟨rfl,?_⟩|apply τa|refine τb rfl ?_|refine ⟨⟨by kernel_rfl,by kernel_rfl⟩,?_⟩|refine ⟨by decide,?_⟩|apply τt|apply τf))
      refine aop_tells rfl rfl hrq ⟨AVle.refl _, trivial⟩ fun nx5 => ?_
      (repeat((conv=>whnf);first|apply ω0|apply ω1|apply ω2|refine τ3 rfl ?_|refine τ4 rfl ?_|refine ⟨rfl,?_⟩|apply τa|refine τb rfl ?_|refine ⟨⟨by kernel_rfl,by kernel_rfl⟩,?_⟩|refine ⟨by decide,?_⟩|apply τt|apply τf))
      refine splitO_eq (b := polA q) rfl ?_
      (repeat((conv=>whnf);first|apply ω0|apply ω1|apply ω2|refine τ3 rfl ?_|refine τ4 rfl ?_|refine ⟨rfl,?_⟩|apply τa|refine τb rfl ?_|refine ⟨⟨by kernel_rfl,by kernel_rfl⟩,?_⟩|refine ⟨by decide,?_⟩|apply τt|apply τf))
      refine aop_tells rfl rfl hrm ⟨AVle.refl _, AVle.refl _, trivial⟩ fun nx6 => ?_
      (repeat((conv=>whnf);first|apply ω0|apply ω1|apply ω2|refine τ3 rfl ?_|refine τ4 rfl ?_|refine ⟨rfl,?_⟩|apply τa|refine τb rfl ?_|refine ⟨⟨by kernel_rfl,by kernel_rfl⟩,?_⟩|refine ⟨by decide,?_⟩|apply τt|apply τf))
      refine splitO_eq (b := polA pol0) rfl ?_
      (repeat((conv=>whnf);first|apply ω0|apply ω1|apply ω2|refine τ3 rfl ?_|refine τ4 rfl ?_|refine ⟨rfl,?_⟩|apply τa|refine τb rfl ?_|refine ⟨⟨by kernel_rfl,by kernel_rfl⟩,?_⟩|refine ⟨by decide,?_⟩|apply τt|apply τf))
      refine aop_tells rfl rfl hsm ⟨AVle.refl _, (AVle.ags (cs := [_, _, _, _]) ⟨AVle.refl _, AVle.refl _, AVle.refl _, AVle.os_sl0, trivial⟩), trivial⟩ fun nx5 => ?_
      (repeat((conv=>whnf);first|apply ω0|apply ω1|apply ω2|refine τ3 rfl ?_|refine τ4 rfl ?_|refine ⟨rfl,?_⟩|apply τa|refine τb rfl ?_|refine ⟨⟨by kernel_rfl,by kernel_rfl⟩,?_⟩|refine ⟨by decide,?_⟩|apply τt|apply τf))
      refine aop_tells rfl rfl f10_spec trivial fun nx6 => ?_
      (repeat((conv=>whnf);first|apply ω0|apply ω1|apply ω2|refine τ3 rfl ?_|refine τ4 rfl ?_|refine ⟨rfl,?_⟩|apply τa|refine τb rfl ?_|refine ⟨⟨by kernel_rfl,by kernel_rfl⟩,?_⟩|refine ⟨by decide,?_⟩|apply τt|apply τf))
      exact ret_tells rfl (AVle.refl _)
    · obtain ⟨h1, h2⟩ := Prod.mk.inj hlaw
      subst h1 h2
      have hwl := pol_l25 m (by have := hok.1; omega) (fun r hr => by have := hok.2 r hr; omega)
      have hsm := hsm m
      rw [sameP_refl] at hsm
      clear hlaw
      (repeat((conv=>whnf);first|apply ω0|apply ω1|apply ω2|refine τ3 rfl ?_|refine τ4 rfl ?_|refine ⟨rfl,?_⟩|apply τa|refine τb rfl ?_|refine ⟨⟨by kernel_rfl,by kernel_rfl⟩,?_⟩|refine ⟨by decide,?_⟩|apply τt|apply τf))
      refine splitO_eq (b := polA p) rfl ?_
      (repeat((conv=>whnf);first|apply ω0|apply ω1|apply ω2|refine τ3 rfl ?_|refine τ4 rfl ?_|refine ⟨rfl,?_⟩|apply τa|refine τb rfl ?_|refine ⟨⟨by kernel_rfl,by kernel_rfl⟩,?_⟩|refine ⟨by decide,?_⟩|apply τt|apply τf))
      refine aop_tells rfl rfl hrp ⟨AVle.refl _, trivial⟩ fun nx4 => ?_
      (repeat((conv=>whnf);first|apply ω0|apply ω1|apply ω2|refine τ3 rfl ?_|refine τ4 rfl ?_|refine ⟨rfl,?_⟩|apply τa|refine τb rfl ?_|refine ⟨⟨by kernel_rfl,by kernel_rfl⟩,?_⟩|refine ⟨by decide,?_⟩|apply τt|apply τf))
      refine splitO_eq (b := polA q) rfl ?_
      (repeat((conv=>whnf);first|apply ω0|apply ω1|apply ω2|refine τ3 rfl ?_|refine τ4 rfl ?_|refine ⟨rfl,?_⟩|apply τa|refine τb rfl ?_|refine ⟨⟨by kernel_rfl,by kernel_rfl⟩,?_⟩|refine ⟨by decide,?_⟩|apply τt|apply τf))
      refine aop_tells rfl rfl hrq ⟨AVle.refl _, trivial⟩ fun nx5 => ?_
      (repeat((conv=>whnf);first|apply ω0|apply ω1|apply ω2|refine τ3 rfl ?_|refine τ4 rfl ?_|refine ⟨rfl,?_⟩|apply τa|refine τb rfl ?_|refine ⟨⟨by kernel_rfl,by kernel_rfl⟩,?_⟩|refine ⟨by decide,?_⟩|apply τt|apply τf))
      refine splitO_eq (b := polA q) rfl ?_
      (repeat((conv=>whnf);first|apply ω0|apply ω1|apply ω2|refine τ3 rfl ?_|refine τ4 rfl ?_|refine ⟨rfl,?_⟩|apply τa|refine τb rfl ?_|refine ⟨⟨by kernel_rfl,by kernel_rfl⟩,?_⟩|refine ⟨by decide,?_⟩|apply τt|apply τf))
      refine aop_tells rfl rfl hrm ⟨AVle.refl _, AVle.refl _, trivial⟩ fun nx6 => ?_
      (repeat((conv=>whnf);first|apply ω0|apply ω1|apply ω2|refine τ3 rfl ?_|refine τ4 rfl ?_|refine ⟨rfl,?_⟩|apply τa|refine τb rfl ?_|refine ⟨⟨by kernel_rfl,by kernel_rfl⟩,?_⟩|refine ⟨by decide,?_⟩|apply τt|apply τf))
      (refine aw_draw 11 ?_ ?_ ?_ ?_; (· kernel_rfl); (· kernel_rfl); (· kernel_rfl))
      (repeat((conv=>whnf);first|apply ω0|apply ω1|apply ω2|refine τ3 rfl ?_|refine τ4 rfl ?_|refine ⟨rfl,?_⟩|apply τa|refine τb rfl ?_|refine ⟨⟨by kernel_rfl,by kernel_rfl⟩,?_⟩|refine ⟨by decide,?_⟩|apply τt|apply τf))
      refine splitO_eq (b := polA m) rfl ?_
      (repeat((conv=>whnf);first|apply ω0|apply ω1|apply ω2|refine τ3 rfl ?_|refine τ4 rfl ?_|refine ⟨rfl,?_⟩|apply τa|refine τb rfl ?_|refine ⟨⟨by kernel_rfl,by kernel_rfl⟩,?_⟩|refine ⟨by decide,?_⟩|apply τt|apply τf))
      refine splitO_eq (b := polA m) rfl ?_
      (repeat((conv=>whnf);first|apply ω0|apply ω1|apply ω2|refine τ3 rfl ?_|refine τ4 rfl ?_|refine ⟨rfl,?_⟩|apply τa|refine τb rfl ?_|refine ⟨⟨by kernel_rfl,by kernel_rfl⟩,?_⟩|refine ⟨by decide,?_⟩|apply τt|apply τf))
      refine ex_yields (yields_tells rfl rfl hwl ⟨AVle.refl _, trivial⟩ (noid_polA _)) ?_
      (repeat((conv=>whnf);first|apply ω0|apply ω1|apply ω2|refine τ3 rfl ?_|refine τ4 rfl ?_|refine ⟨rfl,?_⟩|apply τa|refine τb rfl ?_|refine ⟨⟨by kernel_rfl,by kernel_rfl⟩,?_⟩|refine ⟨by decide,?_⟩|apply τt|apply τf))
      refine ex_yields (yields_tells rfl rfl hsm ⟨AVle.refl _, AVle.refl _, trivial⟩ (NoId.v _)) ?_
      (repeat((conv=>whnf);first|apply ω0|apply ω1|apply ω2|refine τ3 rfl ?_|refine τ4 rfl ?_|refine ⟨rfl,?_⟩|apply τa|refine τb rfl ?_|refine ⟨⟨by kernel_rfl,by kernel_rfl⟩,?_⟩|refine ⟨by decide,?_⟩|apply τt|apply τf))
      refine ex_yields (yields_tells rfl rfl f10_spec trivial (NoId.v _)) ?_
      (repeat((conv=>whnf);first|apply ω0|apply ω1|apply ω2|refine τ3 rfl ?_|refine τ4 rfl ?_|refine ⟨rfl,?_⟩|apply τa|refine τb rfl ?_|refine ⟨⟨by kernel_rfl,by kernel_rfl⟩,?_⟩|refine ⟨by decide,?_⟩|apply τt|apply τf))
      exact ret_tells rfl (AVle.refl _)
end Go.Proofs.W
