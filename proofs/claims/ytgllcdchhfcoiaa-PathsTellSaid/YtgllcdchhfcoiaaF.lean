import Derived.Test.YtgllcdchhfcoiaaE
import Derived.Test.YtgllcdchhfcoiaaC
set_option linter.unusedVariables false
set_option linter.unusedSimpArgs false
namespace Go.Proofs.W
open Go.Vl
set_option maxRecDepth 100000

def manyF (a ts : List Nat) : Nat := ts.foldl (fun x t => min (x + a.getD t 0) 5000) (if ts.length = 0 then 1 else 0)
def manyP (a ts : List Nat) (i : Nat) : Nat := (ts.take i).foldl (fun x t => min (x + a.getD t 0) 5000) (if ts.length = 0 then 1 else 0)
theorem manyP_full (a ts : List Nat) : manyP a ts ts.length = manyF a ts := by unfold manyP manyF; rw [List.take_length]
theorem manyP_succ {a ts : List Nat} {i : Nat} (hi : i < ts.length) : manyP a ts (i + 1) = min (manyP a ts i + a.getD (ts.getD i 0) 0) 5000 := by
  unfold manyP; rw [take_getD 0 hi, List.foldl_append]; rfl
theorem manyP_le (a ts : List Nat) : ∀ i, i ≤ ts.length → manyP a ts i ≤ 5000
  | 0, _ => by unfold manyP; simp; split <;> decide
  | i + 1, h => by rw [manyP_succ (by omega)]; exact Nat.min_le_right _ _
def manyA (l : List Ins) : Nat → List Nat
  | 0 => List.replicate l.length 0
  | j + 1 => (manyA l j).set (l.length - 1 - j) (manyF (manyA l j) (nextsI l (l.length - 1 - j)))
theorem manyA_length (l : List Ins) : ∀ j, (manyA l j).length = l.length
  | 0 => by simp [manyA]
  | j + 1 => by rw [manyA, List.length_set, manyA_length l j]
theorem manyA_zero (l : List Ins) : ∀ j n, n + j < l.length → (manyA l j).getD n 0 = 0
  | 0, n, h => by simp [manyA, List.getD, List.getElem?_replicate]; split <;> rfl
  | j + 1, n, h => by
    rw [manyA, getDL_set, if_neg (by omega)]
    exact manyA_zero l j n (by omega)
theorem manyA_le (l : List Ins) : ∀ j n, (manyA l j).getD n 0 ≤ 5000
  | 0, n => by simp [manyA, List.getD, List.getElem?_replicate]; split <;> simp
  | j + 1, n => by
    rw [manyA, getDL_set]
    split
    · rw [← manyP_full]; exact manyP_le _ _ _ (Nat.le_refl _)
    · exact manyA_le l j n
theorem min_add (a b : Nat) : min (min a 5000 + min b 5000) 5000 = min (a + b) 5000 := by omega
theorem manyA_cnt {l : List Ins} (hp : Plain l) : ∀ j n, j ≤ l.length → n < l.length → l.length ≤ n + j → (manyA l j).getD n 0 = min (cntF l l.length n) 5000
  | 0, n, _, hn, h => by omega
  | j + 1, n, hj, hn, h => by
    have hf := hp.formed
    by_cases he : l.length - 1 - j = n
    · have ih := manyA_cnt hp j
      have hnx := nexts_lt hf hn
      have hk := hp.kinds hn
      rw [manyA, he, getDL_set, if_pos ⟨rfl, by rw [manyA_length]; omega⟩]
      obtain ⟨f, hf1⟩ : ∃ f, l.length = f + 1 := ⟨l.length - 1, by omega⟩
      have hc : cntF l l.length n = if kind l n = 14 then 1 else if kind l n = 1 ∨ kind l n = 21 then cntF l f (n + 1) else if 25 ≤ kind l n then cntF l f (n + 1 + (l.getD n ins0).jt) + cntF l f (n + 1 + (l.getD n ins0).jf) else cntF l f (n + 1 + (l.getD n ins0).k) := by rw [hf1]; rfl
      have hmore : ∀ m, n < m → m < l.length → cntF l f m = cntF l l.length m := fun m h1 h2 => by
        have := cntF_more hp f l.length m h2 (by omega) (by omega)
        exact this.symm
      have hone : ∀ m, n < m → m < l.length → manyF (manyA l j) [m] = min (cntF l l.length m) 5000 := fun m h1 h2 => by
        show min (0 + (manyA l j).getD m 0) 5000 = _
        rw [ih m (by omega) h2 (by omega)]; omega
      rw [hc]
      unfold nextsI at hnx ⊢
      by_cases h14 : kind l n = 14
      · rw [if_pos (.inl h14), if_pos h14]; rfl
      rw [if_neg (by omega)] at hnx ⊢
      rw [if_neg h14]
      by_cases h13 : kind l n = 13
      · rw [if_pos h13] at hnx ⊢
        have := hnx _ (List.mem_singleton.2 rfl)
        rw [if_neg (by omega), if_neg (by omega), hmore _ this.1 this.2]
        exact hone _ this.1 this.2
      rw [if_neg h13] at hnx ⊢
      by_cases h25 : 25 ≤ kind l n
      · rw [if_pos h25] at hnx ⊢
        have t1 := hnx (n + 1 + (l.getD n ins0).jt) (by simp)
        have t2 := hnx (n + 1 + (l.getD n ins0).jf) (by simp)
        rw [if_neg (by omega), if_pos h25, hmore _ t1.1 t1.2, hmore _ t2.1 t2.2]
        show min (min (0 + (manyA l j).getD (n + 1 + (l.getD n ins0).jt) 0) 5000 + (manyA l j).getD (n + 1 + (l.getD n ins0).jf) 0) 5000 = _
        rw [ih _ (by omega) t1.2 (by omega), ih _ (by omega) t2.2 (by omega)]
        omega
      · rw [if_neg h25] at hnx ⊢
        have := hnx _ (List.mem_singleton.2 rfl)
        rw [if_pos (by omega), hmore _ this.1 this.2]
        exact hone _ this.1 this.2
    · rw [manyA, getDL_set, if_neg (by omega)]
      exact manyA_cnt hp j n (by omega) hn (by omega)
def manyI (l : List Ins) : List Nat := manyA l l.length
theorem frz_ints {bs : List (Nat × Own)} {s0 : Nat} {o : List Nat} {n : Nat} (hn : o.length = n) (hm : (s0, .c (o.map intA)) ∈ bs) : Frz bs (.hs (0, s0) 0 n n) (ints o) := by
  subst hn
  refine Frz.hs1 (cs := o.map intA) hm (Nat.le_refl _) (by rw [List.length_map]; exact Nat.le_refl _) (fun _ _ => rfl) fun k hk => ?_
  rw [List.getElem?_map, List.getElem?_eq_getElem hk]
  simp [List.getD, hk]
  rfl
theorem manyR_spec (l : List Ins) (hok : okL l) (hf : Formed l) : Tells Try.prog 27 [inss l] (ints (manyI l)) := by
  have hle := hf.le
  have hpos := hf.pos
  refine tells_of_aw Try.func27 rfl rfl fun nx => ?_
  (repeat ((conv=>whnf);first|refine ω0 ?_|refine ω1 ?_|refine ω2 ?_|refine ω3 ?_|refine ω4 rfl ?_|refine ω5 rfl ?_|refine ω6 ?_|refine ω7 ?_|refine ω8 ?_|refine ⟨rfl,?_⟩|refine ⟨trivial,?_⟩|refine ⟨⟨rfl,Nat.le_of_ble_eq_true rfl⟩,?_⟩|refine ⟨⟨by kernel_rfl,by kernel_rfl⟩,?_⟩|refine ⟨by decide,?_⟩|refine lit_true ?_|refine lit_false ?_))
  (conv => whnf)
  refine ⟨by omega, by omega, by show ((8 : Nat) : Int) * _ ≤ _; omega, by omega, ?_⟩
  (repeat ((conv=>whnf);first|refine ω0 ?_|refine ω1 ?_|refine ω2 ?_|refine ω3 ?_|refine ω4 rfl ?_|refine ω5 rfl ?_|refine ω6 ?_|refine ω7 ?_|refine ω8 ?_|refine ⟨rfl,?_⟩|refine ⟨trivial,?_⟩|refine ⟨⟨rfl,Nat.le_of_ble_eq_true rfl⟩,?_⟩|refine ⟨⟨by kernel_rfl,by kernel_rfl⟩,?_⟩|refine ⟨by decide,?_⟩|refine lit_true ?_|refine lit_false ?_))
  refine aw_loop (fun s : Nat × Nat => mk 49 [(0, inss l), (3, .hs (0, nx) 0 l.length l.length), (4, int ((l.length : Int) - 1 - s.1))] ⟨[((0, nx), .c ((manyA l s.1).map intA))], [], s.2, 1⟩) (fun s => s.1 ≤ l.length) (fun s => l.length - s.1) ?_ ?_
  · refine ⟨(0, nx + 1), by dsimp only; omega, ele_tell _ _ rfl rfl (List.Sublist.refl _) .slnil ⟨rfl, OwnLe.of_eq ?_, trivial⟩ trivial ⟨AVle.refl _, AVle.refl _, le_int ((wrap_id (by omega) (by omega)).trans (by dsimp only; omega)), trivial⟩⟩
    dsimp only
    rw [manyA, List.map_replicate]
    rfl
  · rintro ⟨j, nx'⟩ h1
    dsimp only at h1
    have hlen := manyA_length l j
    (repeat ((conv=>whnf);first|refine ω0 ?_|refine ω1 ?_|refine ω2 ?_|refine ω3 ?_|refine ω4 rfl ?_|refine ω5 rfl ?_|refine ω6 ?_|refine ω7 ?_|refine ω8 ?_|refine ⟨rfl,?_⟩|refine ⟨trivial,?_⟩|refine ⟨⟨rfl,Nat.le_of_ble_eq_true rfl⟩,?_⟩|refine ⟨⟨by kernel_rfl,by kernel_rfl⟩,?_⟩|refine ⟨by decide,?_⟩|refine lit_true ?_|refine lit_false ?_))
    intro c g2; cases c
    · have g2 := not_of g2
      dsimp only at g2
      obtain rfl : j = l.length := by omega
      (repeat ((conv=>whnf);first|refine ω0 ?_|refine ω1 ?_|refine ω2 ?_|refine ω3 ?_|refine ω4 rfl ?_|refine ω5 rfl ?_|refine ω6 ?_|refine ω7 ?_|refine ⟨rfl,?_⟩|refine ⟨trivial,?_⟩|refine ⟨⟨rfl,Nat.le_of_ble_eq_true rfl⟩,?_⟩|refine ⟨⟨by kernel_rfl,by kernel_rfl⟩,?_⟩|refine ⟨by decide,?_⟩|refine lit_true ?_|refine lit_false ?_))
      refine AW.le (ele_freeze (L := [(2, ints (manyI l))]) (bx := []) (pm := []) (nn := 0) [((0, nx), .c ((manyI l).map intA))] rfl rfl (List.Sublist.refl _) .slnil ⟨?_, trivial⟩) ?_
      · exact frz_ints hlen (List.mem_cons_self ..)
      (repeat ((conv=>whnf);first|refine ω0 ?_|refine ω1 ?_|refine ω2 ?_|refine ω3 ?_|refine ω4 rfl ?_|refine ω5 rfl ?_|refine ω6 ?_|refine ω7 ?_|refine ω8 ?_|refine ⟨rfl,?_⟩|refine ⟨trivial,?_⟩|refine ⟨⟨rfl,Nat.le_of_ble_eq_true rfl⟩,?_⟩|refine ⟨⟨by kernel_rfl,by kernel_rfl⟩,?_⟩|refine ⟨by decide,?_⟩|refine lit_true ?_|refine lit_false ?_))
      exact ret_tells rfl (AVle.refl _)
    · have g2 := yes_of g2
      dsimp only at g2
      obtain ⟨n, hn⟩ : ∃ n, n + 1 + j = l.length := ⟨l.length - 1 - j, by omega⟩
      have hnI : ((l.length : Int) - 1 - j) = (n : Int) := by omega
      have hnN : l.length - 1 - j = n := by omega
      have hnx := nexts_lt hf (n := n) (by omega)
      have hz := manyA_zero l j n (by omega)
      have hset := set_same (a := manyA l j) (n := n) (by omega) hz
      have hm := manyA_le l j
      have hstep : manyA l (j + 1) = (manyA l j).set n (manyF (manyA l j) (nextsI l n)) := by rw [manyA, hnN]
      generalize manyA l j = A at *
      (repeat ((conv=>whnf);first|refine ω0 ?_|refine ω1 ?_|refine ω2 ?_|refine ω3 ?_|refine ω4 rfl ?_|refine ω5 rfl ?_|refine ω6 ?_|refine ω7 ?_|refine ω8 ?_|refine ⟨rfl,?_⟩|refine ⟨trivial,?_⟩|refine ⟨⟨rfl,Nat.le_of_ble_eq_true rfl⟩,?_⟩|refine ⟨⟨by kernel_rfl,by kernel_rfl⟩,?_⟩|refine ⟨by decide,?_⟩|refine lit_true ?_|refine lit_false ?_))
      refine aop_tells rfl rfl (nextR_spec l hok hf n (by omega)) ⟨AVle.refl _, le_int (by dsimp only; omega), trivial⟩ fun nx3 => ?_
      have hl2 : ∀ i, i < (nextsI l n).length → (nextsI l n).getD i 0 ∈ nextsI l n := fun i hi => by simp [List.getD, hi]
      have hshort : (nextsI l n).length ≤ 2 := by unfold nextsI; repeat' split
                                                  all_goals simp
      generalize nextsI l n = ts at *
      have hPle := manyP_le A ts
      have hP0 : manyP A ts 0 = if ts.length = 0 then 1 else 0 := rfl
      have hit : (0 + (Int.toNat (n : Int)) * Try.prog.cellsOf 3) = n := by rw [c3]; omega
      (repeat ((conv=>whnf);first|refine ω0 ?_|refine ω1 ?_|refine ω2 ?_|refine ω3 ?_|refine ω4 rfl ?_|refine ω5 rfl ?_|refine ω6 ?_|refine ω7 ?_|refine ω8 ?_|refine ⟨rfl,?_⟩|refine ⟨trivial,?_⟩|refine ⟨⟨rfl,Nat.le_of_ble_eq_true rfl⟩,?_⟩|refine ⟨⟨by kernel_rfl,by kernel_rfl⟩,?_⟩|refine ⟨by decide,?_⟩|refine lit_true ?_|refine lit_false ?_))
      intro c g4; cases c
      · have g4 := fct_b0.1 g4
        have hz0 : ts.length ≠ 0 := by omega
        (repeat ((conv=>whnf);first|refine ω0 ?_|refine ω1 ?_|refine ω2 ?_|refine ω3 ?_|refine ω4 rfl ?_|refine ω5 rfl ?_|refine ω6 ?_|refine ω7 ?_|refine ω8 ?_|refine ⟨rfl,?_⟩|refine ⟨trivial,?_⟩|refine ⟨⟨rfl,Nat.le_of_ble_eq_true rfl⟩,?_⟩|refine ⟨⟨by kernel_rfl,by kernel_rfl⟩,?_⟩|refine ⟨by decide,?_⟩|refine lit_true ?_|refine lit_false ?_))
        refine aw_loop (fun s : Nat × Nat => mk 49 [(0, inss l), (3, .hs (0, nx) 0 l.length l.length), (4, int n), (5, ints ts), (6, int s.1)] ⟨[((0, nx), .c ((A.set n (manyP A ts s.1)).map intA))], [], s.2, 1⟩) (fun s => s.1 ≤ ts.length) (fun s => ts.length - s.1) ?_ ?_
        · exact ⟨(0, nx3), Nat.zero_le _, ele_tell _ _ rfl rfl (List.Sublist.refl _) .slnil ⟨rfl, OwnLe.of_eq (by dsimp only; rw [hP0, if_neg hz0, hset]), trivial⟩ trivial ⟨AVle.refl _, AVle.refl _, le_int (by dsimp only; omega), AVle.refl _, AVle.refl _, trivial⟩⟩
        · rintro ⟨i, nx5⟩ h5
          dsimp only at h5
          have hF := hPle i h5
          have hgn : (A.set n (manyP A ts i)).getD n 0 = manyP A ts i := by rw [getDL_set, if_pos ⟨rfl, by omega⟩]
          (repeat ((conv=>whnf);first|refine ω0 ?_|refine ω1 ?_|refine ω2 ?_|refine ω3 ?_|refine ω4 rfl ?_|refine ω5 rfl ?_|refine ω6 ?_|refine ω7 ?_|refine ω8 ?_|refine ⟨rfl,?_⟩|refine ⟨trivial,?_⟩|refine ⟨⟨rfl,Nat.le_of_ble_eq_true rfl⟩,?_⟩|refine ⟨⟨by kernel_rfl,by kernel_rfl⟩,?_⟩|refine ⟨by decide,?_⟩|refine lit_true ?_|refine lit_false ?_))
          intro c g5; cases c
          · have g5 := not_of g5
            dsimp only at g5
            obtain rfl : i = ts.length := by omega
            (repeat ((conv=>whnf);first|refine ω0 ?_|refine ω1 ?_|refine ω2 ?_|refine ω3 ?_|refine ω4 rfl ?_|refine ω5 rfl ?_|refine ω6 ?_|refine ω7 ?_|refine ω8 ?_|refine ⟨rfl,?_⟩|refine ⟨trivial,?_⟩|refine ⟨⟨rfl,Nat.le_of_ble_eq_true rfl⟩,?_⟩|refine ⟨⟨by kernel_rfl,by kernel_rfl⟩,?_⟩|refine ⟨by decide,?_⟩|refine lit_true ?_|refine lit_false ?_))
            exact back (j + 1, nx5) (by dsimp only; omega) (by dsimp only; omega) (ele_tell _ _ rfl rfl (List.Sublist.refl _) .slnil ⟨rfl, OwnLe.of_eq (by dsimp only; rw [hstep, manyP_full]), trivial⟩ trivial ⟨AVle.refl _, AVle.refl _, le_int ((wrap_id (by omega) (by omega)).trans (by dsimp only; omega)), trivial⟩)
          · have g5 := yes_of g5
            dsimp only at g5
            have hi : i < ts.length := by omega
            have htn := hnx _ (hl2 i hi)
            have hAt := hm (ts.getD i 0)
            have hgt : (A.set n (manyP A ts i)).getD (ts.getD i 0) 0 = A.getD (ts.getD i 0) 0 := by rw [getDL_set, if_neg (by omega)]
            have htt : (0 + (Int.toNat ((ts.getD i 0 : Nat) : Int)) * Try.prog.cellsOf 3) = ts.getD i 0 := by rw [c3]; omega
            have hsucc := manyP_succ (a := A) hi
            (repeat ((conv=>whnf);first|refine ω0 ?_|refine ω1 ?_|refine ω2 ?_|refine ω3 ?_|refine ω4 rfl ?_|refine ω5 rfl ?_|refine ω6 ?_|refine ω7 ?_|refine ω8 ?_|refine ⟨rfl,?_⟩|refine ⟨trivial,?_⟩|refine ⟨⟨rfl,Nat.le_of_ble_eq_true rfl⟩,?_⟩|refine ⟨⟨by kernel_rfl,by kernel_rfl⟩,?_⟩|refine ⟨by decide,?_⟩|refine lit_true ?_|refine lit_false ?_))
            (refine aw_draw 15 ?_ ?_ ?_ ?_; (· kernel_rfl); (· kernel_rfl); (· kernel_rfl))
            (repeat ((conv=>whnf);first|refine ω0 ?_|refine ω1 ?_|refine ω2 ?_|refine ω3 ?_|refine ω4 rfl ?_|refine ω5 rfl ?_|refine ω6 ?_|refine ω7 ?_|refine ω8 ?_|refine ⟨rfl,?_⟩|refine ⟨trivial,?_⟩|refine ⟨⟨rfl,Nat.le_of_ble_eq_true rfl⟩,?_⟩|refine ⟨⟨by kernel_rfl,by kernel_rfl⟩,?_⟩|refine ⟨by decide,?_⟩|refine lit_true ?_|refine lit_false ?_))
            refine ⟨⟨by first | omega | (dsimp only; omega), by first | omega | (dsimp only; omega)⟩, splitO_eq (b := .bp (0, nx) n) (congrArg (AV.bp (0, nx)) hit) ?_⟩
            (conv => whnf)
            refine ⟨⟨rfl, (by first | omega | (simp only [List.length_map, List.length_set, List.length_cons, List.length_nil, List.length_replicate, List.length_append]; omega))⟩, splitO_eq (b := int (manyP A ts i : Nat)) ((getD_map (d := 0) (by first | omega | (simp only [List.length_map, List.length_set, List.length_cons, List.length_nil, List.length_replicate, List.length_append]; omega))).trans (congrArg intA hgn)) ?_⟩
            (repeat ((conv=>whnf);first|refine ω0 ?_|refine ω1 ?_|refine ω2 ?_|refine ω3 ?_|refine ω4 rfl ?_|refine ω5 rfl ?_|refine ω6 ?_|refine ω7 ?_|refine ω8 ?_|refine ⟨rfl,?_⟩|refine ⟨trivial,?_⟩|refine ⟨⟨rfl,Nat.le_of_ble_eq_true rfl⟩,?_⟩|refine ⟨⟨by kernel_rfl,by kernel_rfl⟩,?_⟩|refine ⟨by decide,?_⟩|refine lit_true ?_|refine lit_false ?_))
            refine ⟨⟨by first | omega | (dsimp only; omega), by first | omega | (dsimp only; omega)⟩, ?_⟩
            (repeat ((conv=>whnf);first|refine ω0 ?_|refine ω1 ?_|refine ω2 ?_|refine ω3 ?_|refine ω4 rfl ?_|refine ω5 rfl ?_|refine ω6 ?_|refine ω7 ?_|refine ω8 ?_|refine ⟨rfl,?_⟩|refine ⟨trivial,?_⟩|refine ⟨⟨rfl,Nat.le_of_ble_eq_true rfl⟩,?_⟩|refine ⟨⟨by kernel_rfl,by kernel_rfl⟩,?_⟩|refine ⟨by decide,?_⟩|refine lit_true ?_|refine lit_false ?_))
            (conv => whnf)
            refine ⟨⟨(by omega : (0 : Int) ≤ ((ts.getD i 0 : Nat) : Int)), (by omega : ((ts.getD i 0 : Nat) : Int) < (l.length : Int))⟩, splitO_eq (b := .bp (0, nx) (ts.getD i 0)) (congrArg (AV.bp (0, nx)) htt) ?_⟩
            (conv => whnf)
            refine ⟨⟨rfl, (by first | omega | (simp only [List.length_map, List.length_set, List.length_cons, List.length_nil, List.length_replicate, List.length_append]; omega))⟩, splitO_eq (b := int (A.getD (ts.getD i 0) 0 : Nat)) ((getD_map (d := 0) (by first | omega | (simp only [List.length_map, List.length_set, List.length_cons, List.length_nil, List.length_replicate, List.length_append]; omega))).trans (congrArg intA hgt)) ?_⟩
            (repeat ((conv=>whnf);first|refine ω0 ?_|refine ω1 ?_|refine ω2 ?_|refine ω3 ?_|refine ω4 rfl ?_|refine ω5 rfl ?_|refine ω6 ?_|refine ω7 ?_|refine ω8 ?_|refine ⟨rfl,?_⟩|refine ⟨trivial,?_⟩|refine ⟨⟨rfl,Nat.le_of_ble_eq_true rfl⟩,?_⟩|refine ⟨⟨by kernel_rfl,by kernel_rfl⟩,?_⟩|refine ⟨by decide,?_⟩|refine lit_true ?_|refine lit_false ?_))
            (conv => whnf)
            refine ⟨⟨by first | omega | (dsimp only; omega), by first | omega | (dsimp only; omega)⟩, splitO_eq (b := .bp (0, nx) n) (congrArg (AV.bp (0, nx)) hit) ?_⟩
            (conv => whnf)
            refine ⟨⟨rfl, (by first | omega | (simp only [List.length_map, List.length_set, List.length_cons, List.length_nil, List.length_replicate, List.length_append]; omega))⟩, ?_⟩
            have hmx : (if 5000 < IntKind.i64.wrap ((manyP A ts i : Int) + (A.getD (ts.getD i 0) 0 : Nat)) then 5000 else IntKind.i64.wrap ((manyP A ts i : Int) + (A.getD (ts.getD i 0) 0 : Nat))) = ((manyP A ts (i + 1) : Nat) : Int) := by
              rw [show IntKind.i64.wrap ((manyP A ts i : Int) + (A.getD (ts.getD i 0) 0 : Nat)) = (manyP A ts i : Int) + (A.getD (ts.getD i 0) 0 : Nat) from wrap_id (by omega) (by omega), hsucc]
              split <;> omega
            rw [show splice ((A.set n (manyP A ts i)).map intA) n [AV.v (.int .i64 (if 5000 < IntKind.i64.wrap ((manyP A ts i : Int) + (A.getD (ts.getD i 0) 0 : Nat)) then 5000 else IntKind.i64.wrap ((manyP A ts i : Int) + (A.getD (ts.getD i 0) 0 : Nat))))] = (A.set n (manyP A ts (i + 1))).map intA by
              rw [hmx]
              refine (splice_one (f := intA) (x := manyP A ts (i + 1)) (by simp; omega)).trans ?_
              rw [List.set_set]]
            (repeat ((conv=>whnf);first|refine ω0 ?_|refine ω1 ?_|refine ω2 ?_|refine ω3 ?_|refine ω4 rfl ?_|refine ω5 rfl ?_|refine ω6 ?_|refine ω7 ?_|refine ω8 ?_|refine ⟨rfl,?_⟩|refine ⟨trivial,?_⟩|refine ⟨⟨rfl,Nat.le_of_ble_eq_true rfl⟩,?_⟩|refine ⟨⟨by kernel_rfl,by kernel_rfl⟩,?_⟩|refine ⟨by decide,?_⟩|refine lit_true ?_|refine lit_false ?_))
            exact back (i + 1, nx5) (by dsimp only; omega) (by dsimp only; omega) (ele_tell _ _ rfl rfl (List.Sublist.refl _) .slnil ⟨rfl, OwnLe.refl _, trivial⟩ trivial ⟨AVle.refl _, AVle.refl _, AVle.refl _, AVle.refl _, le_int (wrap_succ (by dsimp only; omega)), trivial⟩)
      · have g4 := fct_b1.1 g4
        have hz0 : ts.length = 0 := by omega
        (repeat ((conv=>whnf);first|refine ω0 ?_|refine ω1 ?_|refine ω2 ?_|refine ω3 ?_|refine ω4 rfl ?_|refine ω5 rfl ?_|refine ω6 ?_|refine ω7 ?_|refine ω8 ?_|refine ⟨rfl,?_⟩|refine ⟨trivial,?_⟩|refine ⟨⟨rfl,Nat.le_of_ble_eq_true rfl⟩,?_⟩|refine ⟨⟨by kernel_rfl,by kernel_rfl⟩,?_⟩|refine ⟨by decide,?_⟩|refine lit_true ?_|refine lit_false ?_))
        refine ⟨⟨by dsimp only; omega, by dsimp only; omega⟩, splitO_eq (b := .bp (0, nx) n) (congrArg (AV.bp (0, nx)) (show 0 + Int.toNat ((l.length : Int) - 1 - (j : Nat)) * Try.prog.cellsOf 3 = n by rw [hnI]; exact hit)) ?_⟩
        (conv => whnf)
        refine ⟨⟨rfl, (by first | omega | (simp only [List.length_map, List.length_set, List.length_cons, List.length_nil, List.length_replicate, List.length_append]; omega))⟩, ?_⟩
        rw [show splice (A.map intA) n [AV.v (.int .i64 1)] = (A.set n 1).map intA from splice_one (f := intA) (x := 1) (by omega)]
        (repeat ((conv=>whnf);first|refine ω0 ?_|refine ω1 ?_|refine ω2 ?_|refine ω3 ?_|refine ω4 rfl ?_|refine ω5 rfl ?_|refine ω6 ?_|refine ω7 ?_|refine ω8 ?_|refine ⟨rfl,?_⟩|refine ⟨trivial,?_⟩|refine ⟨⟨rfl,Nat.le_of_ble_eq_true rfl⟩,?_⟩|refine ⟨⟨by kernel_rfl,by kernel_rfl⟩,?_⟩|refine ⟨by decide,?_⟩|refine lit_true ?_|refine lit_false ?_))
        refine aw_loop (fun s : Nat × Nat => mk 49 [(0, inss l), (3, .hs (0, nx) 0 l.length l.length), (4, int n), (5, ints ts), (6, int s.1)] ⟨[((0, nx), .c ((A.set n (manyP A ts s.1)).map intA))], [], s.2, 1⟩) (fun s => s.1 ≤ ts.length) (fun s => ts.length - s.1) ?_ ?_
        · exact ⟨(0, nx3), Nat.zero_le _, ele_tell _ _ rfl rfl (List.Sublist.refl _) .slnil ⟨rfl, OwnLe.of_eq (by dsimp only; rw [hP0, if_pos hz0]), trivial⟩ trivial ⟨AVle.refl _, AVle.refl _, le_int (by dsimp only; omega), AVle.refl _, AVle.refl _, trivial⟩⟩
        · rintro ⟨i, nx5⟩ h5
          dsimp only at h5
          have hF := hPle i h5
          have hgn : (A.set n (manyP A ts i)).getD n 0 = manyP A ts i := by rw [getDL_set, if_pos ⟨rfl, by omega⟩]
          (repeat ((conv=>whnf);first|refine ω0 ?_|refine ω1 ?_|refine ω2 ?_|refine ω3 ?_|refine ω4 rfl ?_|refine ω5 rfl ?_|refine ω6 ?_|refine ω7 ?_|refine ω8 ?_|refine ⟨rfl,?_⟩|refine ⟨trivial,?_⟩|refine ⟨⟨rfl,Nat.le_of_ble_eq_true rfl⟩,?_⟩|refine ⟨⟨by kernel_rfl,by kernel_rfl⟩,?_⟩|refine ⟨by decide,?_⟩|refine lit_true ?_|refine lit_false ?_))
          intro c g5; cases c
          · have g5 := not_of g5
            dsimp only at g5
            obtain rfl : i = ts.length := by omega
            (repeat ((conv=>whnf);first|refine ω0 ?_|refine ω1 ?_|refine ω2 ?_|refine ω3 ?_|refine ω4 rfl ?_|refine ω5 rfl ?_|refine ω6 ?_|refine ω7 ?_|refine ω8 ?_|refine ⟨rfl,?_⟩|refine ⟨trivial,?_⟩|refine ⟨⟨rfl,Nat.le_of_ble_eq_true rfl⟩,?_⟩|refine ⟨⟨by kernel_rfl,by kernel_rfl⟩,?_⟩|refine ⟨by decide,?_⟩|refine lit_true ?_|refine lit_false ?_))
            exact back (j + 1, nx5) (by dsimp only; omega) (by dsimp only; omega) (ele_tell _ _ rfl rfl (List.Sublist.refl _) .slnil ⟨rfl, OwnLe.of_eq (by dsimp only; rw [hstep, manyP_full]), trivial⟩ trivial ⟨AVle.refl _, AVle.refl _, le_int ((wrap_id (by omega) (by omega)).trans (by dsimp only; omega)), trivial⟩)
          · have g5 := yes_of g5
            dsimp only at g5
            have hi : i < ts.length := by omega
            have htn := hnx _ (hl2 i hi)
            have hAt := hm (ts.getD i 0)
            have hgt : (A.set n (manyP A ts i)).getD (ts.getD i 0) 0 = A.getD (ts.getD i 0) 0 := by rw [getDL_set, if_neg (by omega)]
            have htt : (0 + (Int.toNat ((ts.getD i 0 : Nat) : Int)) * Try.prog.cellsOf 3) = ts.getD i 0 := by rw [c3]; omega
            have hsucc := manyP_succ (a := A) hi
            (repeat ((conv=>whnf);first|refine ω0 ?_|refine ω1 ?_|refine ω2 ?_|refine ω3 ?_|refine ω4 rfl ?_|refine ω5 rfl ?_|refine ω6 ?_|refine ω7 ?_|refine ω8 ?_|refine ⟨rfl,?_⟩|refine ⟨trivial,?_⟩|refine ⟨⟨rfl,Nat.le_of_ble_eq_true rfl⟩,?_⟩|refine ⟨⟨by kernel_rfl,by kernel_rfl⟩,?_⟩|refine ⟨by decide,?_⟩|refine lit_true ?_|refine lit_false ?_))
            (refine aw_draw 15 ?_ ?_ ?_ ?_; (· kernel_rfl); (· kernel_rfl); (· kernel_rfl))
            (repeat ((conv=>whnf);first|refine ω0 ?_|refine ω1 ?_|refine ω2 ?_|refine ω3 ?_|refine ω4 rfl ?_|refine ω5 rfl ?_|refine ω6 ?_|refine ω7 ?_|refine ω8 ?_|refine ⟨rfl,?_⟩|refine ⟨trivial,?_⟩|refine ⟨⟨rfl,Nat.le_of_ble_eq_true rfl⟩,?_⟩|refine ⟨⟨by kernel_rfl,by kernel_rfl⟩,?_⟩|refine ⟨by decide,?_⟩|refine lit_true ?_|refine lit_false ?_))
            refine ⟨⟨by first | omega | (dsimp only; omega), by first | omega | (dsimp only; omega)⟩, splitO_eq (b := .bp (0, nx) n) (congrArg (AV.bp (0, nx)) hit) ?_⟩
            (conv => whnf)
            refine ⟨⟨rfl, (by first | omega | (simp only [List.length_map, List.length_set, List.length_cons, List.length_nil, List.length_replicate, List.length_append]; omega))⟩, splitO_eq (b := int (manyP A ts i : Nat)) ((getD_map (d := 0) (by first | omega | (simp only [List.length_map, List.length_set, List.length_cons, List.length_nil, List.length_replicate, List.length_append]; omega))).trans (congrArg intA hgn)) ?_⟩
            (repeat ((conv=>whnf);first|refine ω0 ?_|refine ω1 ?_|refine ω2 ?_|refine ω3 ?_|refine ω4 rfl ?_|refine ω5 rfl ?_|refine ω6 ?_|refine ω7 ?_|refine ω8 ?_|refine ⟨rfl,?_⟩|refine ⟨trivial,?_⟩|refine ⟨⟨rfl,Nat.le_of_ble_eq_true rfl⟩,?_⟩|refine ⟨⟨by kernel_rfl,by kernel_rfl⟩,?_⟩|refine ⟨by decide,?_⟩|refine lit_true ?_|refine lit_false ?_))
            refine ⟨⟨by first | omega | (dsimp only; omega), by first | omega | (dsimp only; omega)⟩, ?_⟩
            (repeat ((conv=>whnf);first|refine ω0 ?_|refine ω1 ?_|refine ω2 ?_|refine ω3 ?_|refine ω4 rfl ?_|refine ω5 rfl ?_|refine ω6 ?_|refine ω7 ?_|refine ω8 ?_|refine ⟨rfl,?_⟩|refine ⟨trivial,?_⟩|refine ⟨⟨rfl,Nat.le_of_ble_eq_true rfl⟩,?_⟩|refine ⟨⟨by kernel_rfl,by kernel_rfl⟩,?_⟩|refine ⟨by decide,?_⟩|refine lit_true ?_|refine lit_false ?_))
            (conv => whnf)
            refine ⟨⟨(by omega : (0 : Int) ≤ ((ts.getD i 0 : Nat) : Int)), (by omega : ((ts.getD i 0 : Nat) : Int) < (l.length : Int))⟩, splitO_eq (b := .bp (0, nx) (ts.getD i 0)) (congrArg (AV.bp (0, nx)) htt) ?_⟩
            (conv => whnf)
            refine ⟨⟨rfl, (by first | omega | (simp only [List.length_map, List.length_set, List.length_cons, List.length_nil, List.length_replicate, List.length_append]; omega))⟩, splitO_eq (b := int (A.getD (ts.getD i 0) 0 : Nat)) ((getD_map (d := 0) (by first | omega | (simp only [List.length_map, List.length_set, List.length_cons, List.length_nil, List.length_replicate, List.length_append]; omega))).trans (congrArg intA hgt)) ?_⟩
            (repeat ((conv=>whnf);first|refine ω0 ?_|refine ω1 ?_|refine ω2 ?_|refine ω3 ?_|refine ω4 rfl ?_|refine ω5 rfl ?_|refine ω6 ?_|refine ω7 ?_|refine ω8 ?_|refine ⟨rfl,?_⟩|refine ⟨trivial,?_⟩|refine ⟨⟨rfl,Nat.le_of_ble_eq_true rfl⟩,?_⟩|refine ⟨⟨by kernel_rfl,by kernel_rfl⟩,?_⟩|refine ⟨by decide,?_⟩|refine lit_true ?_|refine lit_false ?_))
            (conv => whnf)
            refine ⟨⟨by first | omega | (dsimp only; omega), by first | omega | (dsimp only; omega)⟩, splitO_eq (b := .bp (0, nx) n) (congrArg (AV.bp (0, nx)) hit) ?_⟩
            (conv => whnf)
            refine ⟨⟨rfl, (by first | omega | (simp only [List.length_map, List.length_set, List.length_cons, List.length_nil, List.length_replicate, List.length_append]; omega))⟩, ?_⟩
            have hmx : (if 5000 < IntKind.i64.wrap ((manyP A ts i : Int) + (A.getD (ts.getD i 0) 0 : Nat)) then 5000 else IntKind.i64.wrap ((manyP A ts i : Int) + (A.getD (ts.getD i 0) 0 : Nat))) = ((manyP A ts (i + 1) : Nat) : Int) := by
              rw [show IntKind.i64.wrap ((manyP A ts i : Int) + (A.getD (ts.getD i 0) 0 : Nat)) = (manyP A ts i : Int) + (A.getD (ts.getD i 0) 0 : Nat) from wrap_id (by omega) (by omega), hsucc]
              split <;> omega
            rw [show splice ((A.set n (manyP A ts i)).map intA) n [AV.v (.int .i64 (if 5000 < IntKind.i64.wrap ((manyP A ts i : Int) + (A.getD (ts.getD i 0) 0 : Nat)) then 5000 else IntKind.i64.wrap ((manyP A ts i : Int) + (A.getD (ts.getD i 0) 0 : Nat))))] = (A.set n (manyP A ts (i + 1))).map intA by
              rw [hmx]
              refine (splice_one (f := intA) (x := manyP A ts (i + 1)) (by simp; omega)).trans ?_
              rw [List.set_set]]
            (repeat ((conv=>whnf);first|refine ω0 ?_|refine ω1 ?_|refine ω2 ?_|refine ω3 ?_|refine ω4 rfl ?_|refine ω5 rfl ?_|refine ω6 ?_|refine ω7 ?_|refine ω8 ?_|refine ⟨rfl,?_⟩|refine ⟨trivial,?_⟩|refine ⟨⟨rfl,Nat.le_of_ble_eq_true rfl⟩,?_⟩|refine ⟨⟨by kernel_rfl,by kernel_rfl⟩,?_⟩|refine ⟨by decide,?_⟩|refine lit_true ?_|refine lit_false ?_))
            exact back (i + 1, nx5) (by dsimp only; omega) (by dsimp only; omega) (ele_tell _ _ rfl rfl (List.Sublist.refl _) .slnil ⟨rfl, OwnLe.refl _, trivial⟩ trivial ⟨AVle.refl _, AVle.refl _, AVle.refl _, AVle.refl _, le_int (wrap_succ (by dsimp only; omega)), trivial⟩)
end Go.Proofs.W

namespace Go.Proofs.W
open Go.Vl
set_option maxRecDepth 100000

def tstA (t : Tst) : AV := .ag [int t.at', u32 t.mask, int t.kind, u32 t.k, boolA t.is]
def tsts (l : List Tst) : AV := slOf 5 tstA tst0 l
def tstF (l : List Tst) (k : Nat) : AV := tstA (l.getD k tst0)
def pthA (p : Pth) : AV := .ag [tsts p.tests, int p.steps, u32 p.value]
def pthF (l : List Pth) (k : Nat) : AV := pthA (l.getD k pth0)
def pths (l : List Pth) : AV := slOf 3 pthA pth0 l
def nm0 : Option Nat → Option Vl.Id
  | none => none
  | some s => some (0, s)
theorem clone_spec (ts : List Tst) (hl : ts.length ≤ 1000000) (nx : Nat) : ECall Try.prog 58 [tsts ts] ⟨[], [], nx, 0⟩ fun r h' => ∃ oi nx' nn', (oi = none → ts = []) ∧ r = .os 5 ts.length (tstF ts) (nm0 oi) ∧ h' = ⟨[], pmOf (nm0 oi) (ts.length * 5), nx', nn'⟩ := by
  refine ECall.wk (ecall_of_aw Try.func58 rfl rfl ?_)
  (repeat ((conv=>whnf);first|refine ω0 ?_|refine ω1 ?_|refine ω2 ?_|refine ω3 ?_|refine ω4 rfl ?_|refine ω5 rfl ?_|refine ω6 ?_|refine ω7 ?_|refine ω8 ?_|refine ⟨rfl,?_⟩|refine ⟨trivial,?_⟩|refine ⟨⟨rfl,Nat.le_of_ble_eq_true rfl⟩,?_⟩|refine ⟨⟨by kernel_rfl,by kernel_rfl⟩,?_⟩|refine ⟨by decide,?_⟩|refine lit_true ?_|refine lit_false ?_))
  refine aop_nilslice (e := 60) rfl (.inl rfl) (by kernel_rfl) (.inl rfl) fun c hc => ?_
  cases c
  · (repeat ((conv=>whnf);first|refine ω0 ?_|refine ω1 ?_|refine ω2 ?_|refine ω3 ?_|refine ω4 rfl ?_|refine ω5 rfl ?_|refine ω6 ?_|refine ω7 ?_|refine ω8 ?_|refine ⟨rfl,?_⟩|refine ⟨trivial,?_⟩|refine ⟨⟨rfl,Nat.le_of_ble_eq_true rfl⟩,?_⟩|refine ⟨⟨by kernel_rfl,by kernel_rfl⟩,?_⟩|refine ⟨by decide,?_⟩|refine lit_true ?_|refine lit_false ?_))
    (conv => whnf)
    refine appK_intro (fun hm => ?_) fun hm => ?_
    · (repeat ((conv=>whnf);first|refine ω0 ?_|refine ω1 ?_|refine ω2 ?_|refine ω3 ?_|refine ω4 rfl ?_|refine ω5 rfl ?_|refine ω6 ?_|refine ω7 ?_|refine ω8 ?_|refine ⟨rfl,?_⟩|refine ⟨trivial,?_⟩|refine ⟨⟨rfl,Nat.le_of_ble_eq_true rfl⟩,?_⟩|refine ⟨⟨by kernel_rfl,by kernel_rfl⟩,?_⟩|refine ⟨by decide,?_⟩|refine lit_true ?_|refine lit_false ?_))
      obtain rfl : ts = [] := List.eq_nil_of_length_eq_zero hm
      exact ret_is rfl ⟨_, _, AVle.os_nil, HLe.refl _, none, _, _, fun _ => rfl, rfl, rfl⟩
    · refine ⟨fun k hk => rfl, by show (0 + ts.length) * 32 ≤ _; omega, by omega, ?_⟩
      (repeat ((conv=>whnf);first|refine ω0 ?_|refine ω1 ?_|refine ω2 ?_|refine ω3 ?_|refine ω4 rfl ?_|refine ω5 rfl ?_|refine ω6 ?_|refine ω7 ?_|refine ω8 ?_|refine ⟨rfl,?_⟩|refine ⟨trivial,?_⟩|refine ⟨⟨rfl,Nat.le_of_ble_eq_true rfl⟩,?_⟩|refine ⟨⟨by kernel_rfl,by kernel_rfl⟩,?_⟩|refine ⟨by decide,?_⟩|refine lit_true ?_|refine lit_false ?_))
      have e5 : 0 + ts.length = ts.length := Nat.zero_add _
      refine ret_is rfl ⟨.os 5 ts.length (tstF ts) (nm0 (some nx)), _, ?_, hle_tell (nx := nx + 1) (nn := 1) (bx := []) (pm := [((0, nx), ts.length * 5)]) _ _ rfl (List.Sublist.refl _) (List.Sublist.refl _) trivial ⟨rfl, congrArg (· * 5) e5, trivial⟩, some nx, _, _, (fun h => by cases h), rfl, rfl⟩
      exact AVle.trans (b := .os 5 (0 + ts.length) (tstF ts) (some (0, nx))) (AVle.os_fun fun k hk => rfl) (AVle.of_eq (by rw [e5]; rfl))
  · obtain rfl : ts = [] := List.eq_nil_of_length_eq_zero (hc rfl)
    (repeat ((conv=>whnf);first|refine ω0 ?_|refine ω1 ?_|refine ω2 ?_|refine ω3 ?_|refine ω4 rfl ?_|refine ω5 rfl ?_|refine ω6 ?_|refine ω7 ?_|refine ω8 ?_|refine ⟨rfl,?_⟩|refine ⟨trivial,?_⟩|refine ⟨⟨rfl,Nat.le_of_ble_eq_true rfl⟩,?_⟩|refine ⟨⟨by kernel_rfl,by kernel_rfl⟩,?_⟩|refine ⟨by decide,?_⟩|refine lit_true ?_|refine lit_false ?_))
    exact ret_is rfl ⟨_, _, AVle.os_nil, HLe.refl _, none, _, _, fun _ => rfl, rfl, rfl⟩
theorem tells_of_ecall {P : Program} {f : FuncId} {xs : List AV} {s : AV} (h : ∀ nx, ECall P f xs ⟨[], [], nx, 0⟩ fun r _ => AVle r s) : Tells P f xs s := fun nx =>
  ECall.wk ((h nx).mono fun r h' hr => ⟨r, ⟨[], [], h'.nx, h'.nn⟩, AVle.refl _, hle_drop (List.nil_sublist _) (List.nil_sublist _), hr, rfl, rfl⟩)
theorem clone_tells (ts : List Tst) (hl : ts.length ≤ 1000000) : Tells Try.prog 58 [tsts ts] (tsts ts) :=
  tells_of_ecall fun nx => (clone_spec ts hl nx).mono fun r h' ⟨oi, _, _, _, h, _⟩ => by rw [h]; exact AVle.os_sl
theorem eff_clone {ops : Array Oper} {B : List (Vl.Id × Own)} {o : Oper} {E : Env} {fo : Operand} {args : Array Operand} {tys : Array TypeId} {first caps : List AV} (nn : Nat) (ts : List Tst) (hl : ts.length ≤ 1000000) (hB : HB B E.h.bx) (hg : o.guard = none)
    (ho : o.op = .call { callee := .value fo, args := args, argTypes := tys }) (hf : E.ev fo = .fn (.func 58) first caps) (hl' : LeL (first ++ args.toList.map E.ev ++ caps) [tsts ts]) :
    Eff Try.prog ops B o E fun r h' => ∃ oi nx', (oi = none → ts = []) ∧ r = .os 5 ts.length (tstF ts) (nmN nn oi) ∧ h' = ⟨E.h.bx, pmOf (nmN nn oi) (ts.length * 5) ++ E.h.pm, nx', nn + 1⟩ :=
  eff_call hg ho hf ((ECall.frame (h := E.h) (clone_spec ts hl E.h.nx) E.h.bx E.h.pm (by simp) (by simp) rfl).args hl') fun r h' hq => by
    obtain ⟨h1', ⟨oi, nx', nn', z, rfl, rfl⟩, rfl⟩ := hq
    refine ⟨.os 5 ts.length (tstF ts) (nmN nn oi), ⟨E.h.bx, pmOf (nmN nn oi) (ts.length * 5) ++ E.h.pm, nx', nn + 1⟩, ?_, ⟨by simp, ?_, rfl⟩, ⟨oi, nx', z, rfl, rfl⟩, hB⟩
    · cases oi
      · exact AVle.refl _
      · exact AVle.os_nm rfl
    · cases oi <;> simp [pmOf, nm0, nmN]
theorem le_tsts {ts : List Tst} {t : Tst} {f' : Nat → AV} {i : Option Vl.Id} (h : f' 0 = tstA t) : AVle (.os 5 (ts.length + 1) (appF ts.length (tstF ts) f') i) (tsts (ts ++ [t])) := by
  refine AVle.os_sl.trans ?_
  unfold tsts slOf
  rw [show (ts ++ [t]).length = ts.length + 1 by simp]
  refine AVle.sl_fun (appF_one (fun k hk => ?_) ?_)
  · simp [tstF, List.getD, List.getElem?_append_left hk]
  · rw [h]; simp [List.getD]
def pB (s0 s1 s2 : Nat) (l : List Ins) (out : List Pth) (oi : Option Nat) : List (Vl.Id × Own) :=
  [((2, s2), .c [.fn (.func 56) [] [.bp (0, s0) 0, .bp (1, s1) 0, .bp (2, s2) 0]]), ((1, s1), .c [.os 3 out.length (pthF out) (nm3 oi)]), ((0, s0), .c [inss l])]
def walkQ (s0 s1 s2 : Nat) (l : List Ins) (out ps : List Pth) (r : AV) (h' : Heap) : Prop :=
  ∃ out' oi' nx' nn', h' = ⟨pB s0 s1 s2 l out' oi', pmOf (nm3 oi') (out'.length * 3), nx', nn'⟩ ∧ (oi' = none → out' = []) ∧
    ((out.length + ps.length ≤ 4096 ∧ r = boolA true ∧ out' = out ++ ps) ∨ (4096 < out.length + ps.length ∧ r = boolA false))
def tA (a m ki k : Nat) (is : Bool) : AV := .ag [int a, u32 m, int ki, u32 k, boolA is]
theorem wrap_one {n : Nat} (h : n ≤ 1000000000) : IntKind.i64.wrap ((n : Int) + 1) = ((n + 1 : Nat) : Int) := wrap_succ (by omega)
set_option maxHeartbeats 4000000 in
theorem walk_spec (l : List Ins) (hok : okL l) (hp : Plain l) (s0 s1 s2 : Nat) : ∀ (f n a m ki k : Nat) (is : Bool) (ts : List Tst) (st : Nat) (out : List Pth) (oi : Option Nat) (nx : Nat),
    n < l.length → l.length ≤ n + f → ts.length ≤ n → st ≤ n → out.length ≤ 4096 → (oi = none → out = []) → m < 4294967296 →
    ECall Try.prog 56 [int n, tA a m ki k is, tsts ts, int st, .bp (0, s0) 0, .bp (1, s1) 0, .bp (2, s2) 0] ⟨pB s0 s1 s2 l out oi, pmOf (nm3 oi) (out.length * 3), nx, 4⟩ (walkQ s0 s1 s2 l out (pathsF l f n a m ts st))
  | 0, n, _, _, _, _, _, _, _, _, _, _, hn, hl, _, _, _, _, _ => by omega
  | f + 1, n, a, m, ki, k, is, ts, st, out, oi, nx, hn, hl, hts, hst, hout, h0, hm => by
    have hf := hp.formed
    have hle := hf.le
    have hki : (l.getD n ins0).ok := hok.get hn
    have hkb := hki.2.2.2
    have hkinds := hp.kinds hn
    obtain ⟨q1, q2, q3⟩ := formed_nexts hf hn
    have hK : kind l n = (kof (l.getD n ins0).code).1 := rfl
    have hwk : IntKind.i64.wrap ((l.getD n ins0).k : Int) = ((l.getD n ins0).k : Nat) := wrap_id (by omega) (by omega)
    have fin : ∀ (PS out' : List Pth) (oi' : Option Nat) (nx' nn : Nat) (rb : List (Vl.Id × Own)) (rp : List (Vl.Id × Nat)) (r : AV), (oi' = none → out' = []) →
        ((out.length + PS.length ≤ 4096 ∧ r = boolA true ∧ out' = out ++ PS) ∨ (4096 < out.length + PS.length ∧ r = boolA false)) → wk (walkQ s0 s1 s2 l out PS) r ⟨rb ++ pB s0 s1 s2 l out' oi', rp ++ pmOf (nm3 oi') (out'.length * 3), nx', nn⟩ :=
      fun PS out' oi' nx' nn rb rp r r1 r2 => wk_drop (AVle.refl _) ⟨out', oi', nx', _, rfl, r1, r2⟩
    refine ECall.wk (ecall_of_aw Try.func56 rfl rfl ?_)
    (repeat ((conv=>whnf);first|refine ω0 ?_|refine ω1 ?_|refine ω2 ?_|refine ω3 ?_|refine ω4 rfl ?_|refine ω5 rfl ?_|refine ω6 ?_|refine ω7 ?_|refine ω8 ?_|refine ⟨rfl,?_⟩|refine ⟨trivial,?_⟩|refine ⟨⟨rfl,Nat.le_of_ble_eq_true rfl⟩,?_⟩|refine ⟨⟨by kernel_rfl,by kernel_rfl⟩,?_⟩|refine ⟨by decide,?_⟩|refine lit_true ?_|refine lit_false ?_))
    refine ⟨⟨by first | omega | (dsimp only; omega), by first | omega | (dsimp only; omega)⟩, ?_⟩
    (repeat ((conv=>whnf);first|refine ω0 ?_|refine ω1 ?_|refine ω2 ?_|refine ω3 ?_|refine ω4 rfl ?_|refine ω5 rfl ?_|refine ω6 ?_|refine ω7 ?_|refine ω8 ?_|refine ⟨rfl,?_⟩|refine ⟨trivial,?_⟩|refine ⟨⟨rfl,Nat.le_of_ble_eq_true rfl⟩,?_⟩|refine ⟨⟨by kernel_rfl,by kernel_rfl⟩,?_⟩|refine ⟨by decide,?_⟩|refine lit_true ?_|refine lit_false ?_))
    refine aop_tells rfl rfl (of_kind (l.getD n ins0).code hki.1) ⟨AVle.refl _, trivial⟩ fun nx3 => ?_
    (repeat ((conv=>whnf);first|refine ω0 ?_|refine ω1 ?_|refine ω2 ?_|refine ω3 ?_|refine ω4 rfl ?_|refine ω5 rfl ?_|refine ω6 ?_|refine ω7 ?_|refine ω8 ?_|refine ⟨rfl,?_⟩|refine ⟨trivial,?_⟩|refine ⟨⟨rfl,Nat.le_of_ble_eq_true rfl⟩,?_⟩|refine ⟨⟨by kernel_rfl,by kernel_rfl⟩,?_⟩|refine ⟨by decide,?_⟩|refine lit_true ?_|refine lit_false ?_))
    refine aop_tells rfl rfl (nextP_spec l hok hf n hn) ⟨AVle.refl _, AVle.refl _, trivial⟩ fun nx4 => ?_
    (repeat ((conv=>whnf);first|refine ω0 ?_|refine ω1 ?_|refine ω2 ?_|refine ω3 ?_|refine ω4 rfl ?_|refine ω5 rfl ?_|refine ω6 ?_|refine ω7 ?_|refine ω8 ?_|refine ⟨rfl,?_⟩|refine ⟨trivial,?_⟩|refine ⟨⟨rfl,Nat.le_of_ble_eq_true rfl⟩,?_⟩|refine ⟨⟨by kernel_rfl,by kernel_rfl⟩,?_⟩|refine ⟨by decide,?_⟩|refine lit_true ?_|refine lit_false ?_))
    intro c a1; cases c
    · have a1 := fct_b0.1 a1
      (repeat ((conv=>whnf);first|refine ω0 ?_|refine ω1 ?_|refine ω2 ?_|refine ω3 ?_|refine ω4 rfl ?_|refine ω5 rfl ?_|refine ω6 ?_|refine ω7 ?_|refine ω8 ?_|refine ⟨rfl,?_⟩|refine ⟨trivial,?_⟩|refine ⟨⟨rfl,Nat.le_of_ble_eq_true rfl⟩,?_⟩|refine ⟨⟨by kernel_rfl,by kernel_rfl⟩,?_⟩|refine ⟨by decide,?_⟩|refine lit_true ?_|refine lit_false ?_))
      intro c a2; cases c
      · have a2 := fct_b0.1 a2
        (repeat ((conv=>whnf);first|refine ω0 ?_|refine ω1 ?_|refine ω2 ?_|refine ω3 ?_|refine ω4 rfl ?_|refine ω5 rfl ?_|refine ω6 ?_|refine ω7 ?_|refine ω8 ?_|refine ⟨rfl,?_⟩|refine ⟨trivial,?_⟩|refine ⟨⟨rfl,Nat.le_of_ble_eq_true rfl⟩,?_⟩|refine ⟨⟨by kernel_rfl,by kernel_rfl⟩,?_⟩|refine ⟨by decide,?_⟩|refine lit_true ?_|refine lit_false ?_))
        intro c a3; cases c
        · have a3 := fct_b0.1 a3
          (repeat ((conv=>whnf);first|refine ω0 ?_|refine ω1 ?_|refine ω2 ?_|refine ω3 ?_|refine ω4 rfl ?_|refine ω5 rfl ?_|refine ω6 ?_|refine ω7 ?_|refine ω8 ?_|refine ⟨rfl,?_⟩|refine ⟨trivial,?_⟩|refine ⟨⟨rfl,Nat.le_of_ble_eq_true rfl⟩,?_⟩|refine ⟨⟨by kernel_rfl,by kernel_rfl⟩,?_⟩|refine ⟨by decide,?_⟩|refine lit_true ?_|refine lit_false ?_))
          intro c a4; cases c
          · have a4 := not_of a4
            have hk : kind l n = 13 := by omega
            have hv : nextP l n = (((n + 1 + (l.getD n ins0).k : Nat) : Int), -1) := by unfold nextP; rw [if_neg (by omega), if_pos hk]
            have hlt := q1 hk
            have hps : pathsF l (f + 1) n a m ts st = pathsF l f (n + 1 + (l.getD n ins0).k) a m ts (st + 1) := by rw [pathsF, if_neg (by omega), if_neg (by omega), if_neg (by omega), if_neg (by omega)]
            rw [hps]
            (repeat ((conv=>whnf);first|refine ω0 ?_|refine ω1 ?_|refine ω2 ?_|refine ω3 ?_|refine ω4 rfl ?_|refine ω5 rfl ?_|refine ω6 ?_|refine ω7 ?_|refine ω8 ?_|refine ⟨rfl,?_⟩|refine ⟨trivial,?_⟩|refine ⟨⟨rfl,Nat.le_of_ble_eq_true rfl⟩,?_⟩|refine ⟨⟨by kernel_rfl,by kernel_rfl⟩,?_⟩|refine ⟨by decide,?_⟩|refine lit_true ?_|refine lit_false ?_))
            refine aop_callF (xs := [int (n + 1 + (l.getD n ins0).k : Nat), tA a m ki k is, tsts ts, int (st + 1 : Nat), .bp (0, s0) 0, .bp (1, s1) 0, .bp (2, s2) 0]) [((5, _), .c _), ((4, _), .c _)] [] 6 rfl rfl rfl rfl ⟨le_int (by rw [hv]), AVle.refl _, AVle.refl _, le_int (wrap_one (by omega)), AVle.refl _, AVle.refl _, AVle.refl _, trivial⟩
              (walk_spec l hok hp s0 s1 s2 f (n + 1 + (l.getD n ins0).k) a m ki k is ts (st + 1) out oi nx4 hlt (by omega) (by omega) (by omega) hout h0 hm) (BxLe.refl _) (PmEq.refl _) rfl fun r h' hq => ?_
            obtain ⟨out', oi', nx', nn', rfl, r1, r2⟩ := hq
            rcases r2 with ⟨r2, rfl, r3⟩ | ⟨r2, rfl⟩
            all_goals (repeat ((conv=>whnf);first|refine ω0 ?_|refine ω1 ?_|refine ω2 ?_|refine ω3 ?_|refine ω4 rfl ?_|refine ω5 rfl ?_|refine ω6 ?_|refine ω7 ?_|refine ω8 ?_|refine ⟨rfl,?_⟩|refine ⟨trivial,?_⟩|refine ⟨⟨rfl,Nat.le_of_ble_eq_true rfl⟩,?_⟩|refine ⟨⟨by kernel_rfl,by kernel_rfl⟩,?_⟩|refine ⟨by decide,?_⟩|refine lit_true ?_|refine lit_false ?_))
            · exact ret_is rfl (fin _ _ _ _ _ [_, _] [] _ r1 (.inl ⟨r2, rfl, r3⟩))
            · exact ret_is rfl (fin _ _ _ _ _ [_, _] [] _ r1 (.inr ⟨r2, rfl⟩))
          · have a4 := yes_of a4
            have hk : 25 ≤ kind l n := by omega
            have hv : nextP l n = (((n + 1 + (l.getD n ins0).jt : Nat) : Int), ((n + 1 + (l.getD n ins0).jf : Nat) : Int)) := by unfold nextP; rw [if_neg (by omega), if_neg (by omega), if_pos hk]
            obtain ⟨hj1, hj2⟩ := q2 hk
            have hps : pathsF l (f + 1) n a m ts st = pathsF l f (n + 1 + (l.getD n ins0).jt) a m (ts ++ [⟨a, m, kind l n, (l.getD n ins0).k, true⟩]) (st + 1) ++ pathsF l f (n + 1 + (l.getD n ins0).jf) a m (ts ++ [⟨a, m, kind l n, (l.getD n ins0).k, false⟩]) (st + 1) := by
              rw [pathsF, if_neg (by omega), if_neg (by omega), if_neg (by omega), if_pos hk]
            rw [hps]
            have IH1 := walk_spec l hok hp s0 s1 s2 f (n + 1 + (l.getD n ins0).jt) a m (kind l n) (l.getD n ins0).k true (ts ++ [⟨a, m, kind l n, (l.getD n ins0).k, true⟩]) (st + 1) out oi
            have IH2 := fun out' oi' => walk_spec l hok hp s0 s1 s2 f (n + 1 + (l.getD n ins0).jf) a m (kind l n) (l.getD n ins0).k true (ts ++ [⟨a, m, kind l n, (l.getD n ins0).k, false⟩]) (st + 1) out' oi'
            generalize pathsF l f (n + 1 + (l.getD n ins0).jt) a m (ts ++ [⟨a, m, kind l n, (l.getD n ins0).k, true⟩]) (st + 1) = P1 at *
            generalize pathsF l f (n + 1 + (l.getD n ins0).jf) a m (ts ++ [⟨a, m, kind l n, (l.getD n ins0).k, false⟩]) (st + 1) = P2 at *
            (repeat ((conv=>whnf);first|refine ω0 ?_|refine ω2 ?_|refine ω3 ?_|refine ω4 rfl ?_|refine ω5 rfl ?_|refine ω6 ?_|refine ω7 ?_|refine ω8 ?_|refine ⟨rfl,?_⟩|refine ⟨trivial,?_⟩|refine ⟨⟨rfl,Nat.le_of_ble_eq_true rfl⟩,?_⟩|refine ⟨⟨by kernel_rfl,by kernel_rfl⟩,?_⟩|refine ⟨by decide,?_⟩|refine lit_true ?_|refine lit_false ?_))
            refine aw_mix 5 [((5, nx + 1), .c [u16 (l.getD n ins0).code, u8 (l.getD n ins0).jt, u8 (l.getD n ins0).jf, u32 (l.getD n ins0).k])] (fun i => match i with | 4 => true | _ => false) [0, 1, 2, 3, 4] (by kernel_rfl) (by kernel_rfl) (HB.one rfl) ?_
            (repeat ((conv=>whnf);first|refine ω0 ?_|refine ω1 ?_|refine ω2 ?_|refine ω3 ?_|refine ω4 rfl ?_|refine ω5 rfl ?_|refine ω6 ?_|refine ω7 ?_|refine ω8 ?_|refine ⟨rfl,?_⟩|refine ⟨trivial,?_⟩|refine ⟨⟨rfl,Nat.le_of_ble_eq_true rfl⟩,?_⟩|refine ⟨⟨by kernel_rfl,by kernel_rfl⟩,?_⟩|refine ⟨by decide,?_⟩|refine lit_true ?_|refine lit_false ?_))
            refine ⟨_, eff_store rfl rfl rfl rfl rfl rfl rfl (by kernel_rfl) (by kernel_rfl) (by show 2 + 1 ≤ 5; omega) (HB.one rfl), fun r h' hr => ?_⟩
            obtain rfl := hr
            (repeat ((conv=>whnf);first|refine ω0 ?_|refine ω1 ?_|refine ω2 ?_|refine ω3 ?_|refine ω4 rfl ?_|refine ω5 rfl ?_|refine ω6 ?_|refine ω7 ?_|refine ω8 ?_|refine ⟨rfl,?_⟩|refine ⟨trivial,?_⟩|refine ⟨⟨rfl,Nat.le_of_ble_eq_true rfl⟩,?_⟩|refine ⟨⟨by kernel_rfl,by kernel_rfl⟩,?_⟩|refine ⟨by decide,?_⟩|refine lit_true ?_|refine lit_false ?_))
            refine aw_mix 12 _ (fun i => match i with | 1 => true | 4 => true | 6 => true | 9 => true | _ => false) [0, 2, 3, 5, 7, 8, 1, 4, 6, 9, 10, 11] (by kernel_rfl) (by kernel_rfl) (HB.refl _) ?_
            (repeat ((conv=>whnf);first|refine ω0 ?_|refine ω1 ?_|refine ω2 ?_|refine ω3 ?_|refine ω4 rfl ?_|refine ω5 rfl ?_|refine ω6 ?_|refine ω7 ?_|refine ω8 ?_|refine ⟨rfl,?_⟩|refine ⟨trivial,?_⟩|refine ⟨⟨rfl,Nat.le_of_ble_eq_true rfl⟩,?_⟩|refine ⟨⟨by kernel_rfl,by kernel_rfl⟩,?_⟩|refine ⟨by decide,?_⟩|refine lit_true ?_|refine lit_false ?_))
            refine ⟨_, eff_clone 7 ts (by omega) (HB.refl _) rfl rfl rfl ⟨AVle.refl _, trivial⟩, fun r h' hr => ?_⟩
            obtain ⟨o1, nx6, z1, rfl, rfl⟩ := hr
            (repeat ((conv=>whnf);first|refine ω0 ?_|refine ω1 ?_|refine ω2 ?_|refine ω3 ?_|refine ω4 rfl ?_|refine ω5 rfl ?_|refine ω6 ?_|refine ω7 ?_|refine ω8 ?_|refine ⟨rfl,?_⟩|refine ⟨trivial,?_⟩|refine ⟨⟨rfl,Nat.le_of_ble_eq_true rfl⟩,?_⟩|refine ⟨⟨by kernel_rfl,by kernel_rfl⟩,?_⟩|refine ⟨by decide,?_⟩|refine lit_true ?_|refine lit_false ?_))
            refine ⟨_, eff_append1 (e := 60) (c := 5) (pm := pmOf (nm3 oi) (out.length * 3)) (HB.refl _) rfl rfl rfl (.inr ⟨_, rfl⟩) (by kernel_rfl) (by kernel_rfl) (by kernel_rfl) (.inr rfl) (by kernel_rfl) rfl (oneRow_one rfl) (by show (ts.length + 1) * 32 ≤ _; omega) (by omega), fun r h' hr => ?_⟩
            obtain ⟨rfl, rfl⟩ := hr
            (repeat ((conv=>whnf);first|refine ω0 ?_|refine ω1 ?_|refine ω2 ?_|refine ω3 ?_|refine ω4 rfl ?_|refine ω5 rfl ?_|refine ω6 ?_|refine ω7 ?_|refine ω8 ?_|refine ⟨rfl,?_⟩|refine ⟨trivial,?_⟩|refine ⟨⟨rfl,Nat.le_of_ble_eq_true rfl⟩,?_⟩|refine ⟨⟨by kernel_rfl,by kernel_rfl⟩,?_⟩|refine ⟨by decide,?_⟩|refine lit_true ?_|refine lit_false ?_))
            refine ⟨_, eff_clone 9 ts (by omega) (HB.refl _) rfl rfl rfl ⟨AVle.refl _, trivial⟩, fun r h' hr => ?_⟩
            obtain ⟨o2, nx7, z2, rfl, rfl⟩ := hr
            (repeat ((conv=>whnf);first|refine ω0 ?_|refine ω1 ?_|refine ω2 ?_|refine ω3 ?_|refine ω4 rfl ?_|refine ω5 rfl ?_|refine ω6 ?_|refine ω7 ?_|refine ω8 ?_|refine ⟨rfl,?_⟩|refine ⟨trivial,?_⟩|refine ⟨⟨rfl,Nat.le_of_ble_eq_true rfl⟩,?_⟩|refine ⟨⟨by kernel_rfl,by kernel_rfl⟩,?_⟩|refine ⟨by decide,?_⟩|refine lit_true ?_|refine lit_false ?_))
            refine ⟨_, eff_append1 (e := 60) (c := 5) (pm := ((8, nx6), (ts.length + 1) * 5) :: pmOf (nm3 oi) (out.length * 3)) (HB.refl _) rfl rfl rfl (.inr ⟨_, rfl⟩) (by kernel_rfl) (by kernel_rfl) (by kernel_rfl) (.inr rfl) (by kernel_rfl) rfl (oneRow_one rfl) (by show (ts.length + 1) * 32 ≤ _; omega) (by omega), fun r h' hr => ?_⟩
            obtain ⟨rfl, rfl⟩ := hr
            (repeat ((conv=>whnf);first|refine ω0 ?_|refine ω1 ?_|refine ω2 ?_|refine ω3 ?_|refine ω4 rfl ?_|refine ω5 rfl ?_|refine ω6 ?_|refine ω7 ?_|refine ω8 ?_|refine ⟨rfl,?_⟩|refine ⟨trivial,?_⟩|refine ⟨⟨rfl,Nat.le_of_ble_eq_true rfl⟩,?_⟩|refine ⟨⟨by kernel_rfl,by kernel_rfl⟩,?_⟩|refine ⟨by decide,?_⟩|refine lit_true ?_|refine lit_false ?_))
            refine aop_callF (xs := [int (n + 1 + (l.getD n ins0).jt : Nat), tA a m (kind l n) (l.getD n ins0).k true, tsts (ts ++ [⟨a, m, kind l n, (l.getD n ins0).k, true⟩]), int (st + 1 : Nat), .bp (0, s0) 0, .bp (1, s1) 0, .bp (2, s2) 0]) [((6, _), .c _), ((5, _), .c _), ((4, _), .c _)] [((10, _), _), ((8, _), _)] 11 rfl rfl rfl rfl
              ⟨le_int (by rw [hv]), AVle.refl _, le_tsts rfl, le_int (wrap_one (by omega)), AVle.refl _, AVle.refl _, AVle.refl _, trivial⟩ (IH1 (nx7 + 1) hj1 (by omega) (by simp; omega) (by omega) hout h0 hm) (BxLe.refl _) (PmEq.refl _) rfl fun r h' hq => ?_
            obtain ⟨out', oi', nx', nn', rfl, r1, r2⟩ := hq
            rcases r2 with ⟨r2, rfl, r3⟩ | ⟨r2, rfl⟩
            · have ho' : out'.length = out.length + P1.length := by rw [r3]; simp
              (repeat ((conv=>whnf);first|refine ω0 ?_|refine ω1 ?_|refine ω2 ?_|refine ω3 ?_|refine ω4 rfl ?_|refine ω5 rfl ?_|refine ω6 ?_|refine ω7 ?_|refine ω8 ?_|refine ⟨rfl,?_⟩|refine ⟨trivial,?_⟩|refine ⟨⟨rfl,Nat.le_of_ble_eq_true rfl⟩,?_⟩|refine ⟨⟨by kernel_rfl,by kernel_rfl⟩,?_⟩|refine ⟨by decide,?_⟩|refine lit_true ?_|refine lit_false ?_))
              refine aop_callF (h1 := ⟨pB s0 s1 s2 l out' oi', pmOf (nm3 oi') (out'.length * 3), nx', 4⟩) (xs := [int (n + 1 + (l.getD n ins0).jf : Nat), tA a m (kind l n) (l.getD n ins0).k true, tsts (ts ++ [⟨a, m, kind l n, (l.getD n ins0).k, false⟩]), int (st + 1 : Nat), .bp (0, s0) 0, .bp (1, s1) 0, .bp (2, s2) 0]) [((6, _), .c _), ((5, _), .c _), ((4, _), .c _)] [((10, _), _), ((8, _), _)] 11 rfl rfl rfl rfl
                ⟨le_int (by rw [hv]), AVle.refl _, le_tsts rfl, le_int (wrap_one (by omega)), AVle.refl _, AVle.refl _, AVle.refl _, trivial⟩ (IH2 out' oi' nx' hj2 (by omega) (by simp; omega) (by omega) (by omega) r1 hm) (BxLe.refl _) (PmEq.refl _) rfl fun r h' hq => ?_
              obtain ⟨out2, oi2, nx2, nn2, rfl, t1, t2⟩ := hq
              rcases t2 with ⟨t2, rfl, t3⟩ | ⟨t2, rfl⟩
              all_goals (repeat ((conv=>whnf);first|refine ω0 ?_|refine ω1 ?_|refine ω2 ?_|refine ω3 ?_|refine ω4 rfl ?_|refine ω5 rfl ?_|refine ω6 ?_|refine ω7 ?_|refine ω8 ?_|refine ⟨rfl,?_⟩|refine ⟨trivial,?_⟩|refine ⟨⟨rfl,Nat.le_of_ble_eq_true rfl⟩,?_⟩|refine ⟨⟨by kernel_rfl,by kernel_rfl⟩,?_⟩|refine ⟨by decide,?_⟩|refine lit_true ?_|refine lit_false ?_))
              · exact ret_is rfl (fin _ _ _ _ _ [_, _, _] [_, _] _ t1 (.inl ⟨by simp; omega, rfl, by rw [t3, r3]; simp⟩))
              · exact ret_is rfl (fin _ _ _ _ _ [_, _, _] [_, _] _ t1 (.inr ⟨by simp; omega, rfl⟩))
            · (repeat ((conv=>whnf);first|refine ω0 ?_|refine ω1 ?_|refine ω2 ?_|refine ω3 ?_|refine ω4 rfl ?_|refine ω5 rfl ?_|refine ω6 ?_|refine ω7 ?_|refine ω8 ?_|refine ⟨rfl,?_⟩|refine ⟨trivial,?_⟩|refine ⟨⟨rfl,Nat.le_of_ble_eq_true rfl⟩,?_⟩|refine ⟨⟨by kernel_rfl,by kernel_rfl⟩,?_⟩|refine ⟨by decide,?_⟩|refine lit_true ?_|refine lit_false ?_))
              exact ret_is rfl (fin _ _ _ _ _ [_, _, _] [_, _] _ r1 (.inr ⟨by simp; omega, rfl⟩))
        · have a3 := fct_b1.1 a3
          have hv : nextP l n = (((n + 1 : Nat) : Int), -1) := by unfold nextP; rw [if_neg (by omega), if_neg (by omega), if_neg (by omega)]
          have hlt : n + 1 < l.length := q3 (by omega) (by omega) (by omega) (by omega)
          have hps : pathsF l (f + 1) n a m ts st = pathsF l f (n + 1) a (m &&& (l.getD n ins0).k) ts (st + 1) := by rw [pathsF, if_neg (by omega), if_neg (by omega), if_pos (by omega)]
          have hand : bitsI .and .u32 (m : Int) ((l.getD n ins0).k : Int) = ((m &&& (l.getD n ins0).k : Nat) : Int) := u32_and hm hkb
          have hmb : m &&& (l.getD n ins0).k < 4294967296 := Nat.lt_of_le_of_lt Nat.and_le_left hm
          rw [hps]
          (repeat ((conv=>whnf);first|refine ω0 ?_|refine ω1 ?_|refine ω2 ?_|refine ω3 ?_|refine ω4 rfl ?_|refine ω5 rfl ?_|refine ω6 ?_|refine ω7 ?_|refine ω8 ?_|refine ⟨rfl,?_⟩|refine ⟨trivial,?_⟩|refine ⟨⟨rfl,Nat.le_of_ble_eq_true rfl⟩,?_⟩|refine ⟨⟨by kernel_rfl,by kernel_rfl⟩,?_⟩|refine ⟨by decide,?_⟩|refine lit_true ?_|refine lit_false ?_))
          refine aop_callF (xs := [int (n + 1 : Nat), tA a (m &&& (l.getD n ins0).k) ki k is, tsts ts, int (st + 1 : Nat), .bp (0, s0) 0, .bp (1, s1) 0, .bp (2, s2) 0]) [((5, _), .c _), ((4, _), .c _)] [] 6 rfl rfl rfl rfl ⟨le_int (by rw [hv]), AVle.of_eq (congrArg (fun x : Int => AV.ag [int a, u32 x, int ki, u32 k, boolA is]) hand), AVle.refl _, le_int (wrap_one (by omega)), AVle.refl _, AVle.refl _, AVle.refl _, trivial⟩
            (walk_spec l hok hp s0 s1 s2 f (n + 1) a (m &&& (l.getD n ins0).k) ki k is ts (st + 1) out oi nx4 hlt (by omega) (by omega) (by omega) hout h0 hmb) (BxLe.refl _) (PmEq.refl _) rfl fun r h' hq => ?_
          obtain ⟨out', oi', nx', nn', rfl, r1, r2⟩ := hq
          rcases r2 with ⟨r2, rfl, r3⟩ | ⟨r2, rfl⟩
          all_goals (repeat ((conv=>whnf);first|refine ω0 ?_|refine ω1 ?_|refine ω2 ?_|refine ω3 ?_|refine ω4 rfl ?_|refine ω5 rfl ?_|refine ω6 ?_|refine ω7 ?_|refine ω8 ?_|refine ⟨rfl,?_⟩|refine ⟨trivial,?_⟩|refine ⟨⟨rfl,Nat.le_of_ble_eq_true rfl⟩,?_⟩|refine ⟨⟨by kernel_rfl,by kernel_rfl⟩,?_⟩|refine ⟨by decide,?_⟩|refine lit_true ?_|refine lit_false ?_))
          · exact ret_is rfl (fin _ _ _ _ _ [_, _] [] _ r1 (.inl ⟨r2, rfl, r3⟩))
          · exact ret_is rfl (fin _ _ _ _ _ [_, _] [] _ r1 (.inr ⟨r2, rfl⟩))
      · have a2 := fct_b1.1 a2
        have hv : nextP l n = (((n + 1 : Nat) : Int), -1) := by unfold nextP; rw [if_neg (by omega), if_neg (by omega), if_neg (by omega)]
        have hlt : n + 1 < l.length := q3 (by omega) (by omega) (by omega) (by omega)
        have hps : pathsF l (f + 1) n a m ts st = pathsF l f (n + 1) (l.getD n ins0).k 4294967295 ts (st + 1) := by rw [pathsF, if_neg (by omega), if_pos (by omega)]
        rw [hps]
        (repeat ((conv=>whnf);first|refine ω0 ?_|refine ω1 ?_|refine ω2 ?_|refine ω3 ?_|refine ω4 rfl ?_|refine ω5 rfl ?_|refine ω6 ?_|refine ω7 ?_|refine ω8 ?_|refine ⟨rfl,?_⟩|refine ⟨trivial,?_⟩|refine ⟨⟨rfl,Nat.le_of_ble_eq_true rfl⟩,?_⟩|refine ⟨⟨by kernel_rfl,by kernel_rfl⟩,?_⟩|refine ⟨by decide,?_⟩|refine lit_true ?_|refine lit_false ?_))
        refine aop_callF (xs := [int (n + 1 : Nat), tA (l.getD n ins0).k 4294967295 0 0 false, tsts ts, int (st + 1 : Nat), .bp (0, s0) 0, .bp (1, s1) 0, .bp (2, s2) 0]) [((5, _), .c _), ((4, _), .c _)] [] 6 rfl rfl rfl rfl ⟨le_int (by rw [hv]), AVle.of_eq (congrArg (fun x : Int => AV.ag [int x, u32 4294967295, int 0, u32 0, boolA false]) hwk), AVle.refl _, le_int (wrap_one (by omega)), AVle.refl _, AVle.refl _, AVle.refl _, trivial⟩
          (walk_spec l hok hp s0 s1 s2 f (n + 1) (l.getD n ins0).k 4294967295 0 0 false ts (st + 1) out oi nx4 hlt (by omega) (by omega) (by omega) hout h0 (by decide)) (BxLe.refl _) (PmEq.refl _) rfl fun r h' hq => ?_
        obtain ⟨out', oi', nx', nn', rfl, r1, r2⟩ := hq
        rcases r2 with ⟨r2, rfl, r3⟩ | ⟨r2, rfl⟩
        all_goals (repeat ((conv=>whnf);first|refine ω0 ?_|refine ω1 ?_|refine ω2 ?_|refine ω3 ?_|refine ω4 rfl ?_|refine ω5 rfl ?_|refine ω6 ?_|refine ω7 ?_|refine ω8 ?_|refine ⟨rfl,?_⟩|refine ⟨trivial,?_⟩|refine ⟨⟨rfl,Nat.le_of_ble_eq_true rfl⟩,?_⟩|refine ⟨⟨by kernel_rfl,by kernel_rfl⟩,?_⟩|refine ⟨by decide,?_⟩|refine lit_true ?_|refine lit_false ?_))
        · exact ret_is rfl (fin _ _ _ _ _ [_, _] [] _ r1 (.inl ⟨r2, rfl, r3⟩))
        · exact ret_is rfl (fin _ _ _ _ _ [_, _] [] _ r1 (.inr ⟨r2, rfl⟩))
    · have a1 := fct_b1.1 a1
      have hps : pathsF l (f + 1) n a m ts st = [⟨ts, st + 1, (l.getD n ins0).k⟩] := by rw [pathsF, if_pos (by omega)]
      have hw : IntKind.i64.wrap ((st : Int) + 1) = ((st + 1 : Nat) : Int) := wrap_one (by omega)
      rw [hps]
      (repeat ((conv=>whnf);first|refine ω0 ?_|refine ω2 ?_|refine ω3 ?_|refine ω4 rfl ?_|refine ω5 rfl ?_|refine ω6 ?_|refine ω7 ?_|refine ω8 ?_|refine ⟨rfl,?_⟩|refine ⟨trivial,?_⟩|refine ⟨⟨rfl,Nat.le_of_ble_eq_true rfl⟩,?_⟩|refine ⟨⟨by kernel_rfl,by kernel_rfl⟩,?_⟩|refine ⟨by decide,?_⟩|refine lit_true ?_|refine lit_false ?_))
      refine aw_mix 10 _ (fun i => match i with | 2 => true | 9 => true | _ => false) [0, 1, 3, 4, 5, 6, 2, 7, 8, 9] (by kernel_rfl) (by kernel_rfl) (HB.refl _) ?_
      (repeat ((conv=>whnf);first|refine ω0 ?_|refine ω1 ?_|refine ω2 ?_|refine ω3 ?_|refine ω4 rfl ?_|refine ω5 rfl ?_|refine ω6 ?_|refine ω7 ?_|refine ω8 ?_|refine ⟨rfl,?_⟩|refine ⟨trivial,?_⟩|refine ⟨⟨rfl,Nat.le_of_ble_eq_true rfl⟩,?_⟩|refine ⟨⟨by kernel_rfl,by kernel_rfl⟩,?_⟩|refine ⟨by decide,?_⟩|refine lit_true ?_|refine lit_false ?_))
      refine ⟨_, eff_tells (HB.refl _) rfl rfl rfl (clone_tells ts (by omega)) ⟨AVle.refl _, trivial⟩, fun r h' hr => ?_⟩
      obtain ⟨rfl, nx5, rfl⟩ := hr
      (repeat ((conv=>whnf);first|refine ω0 ?_|refine ω1 ?_|refine ω2 ?_|refine ω3 ?_|refine ω4 rfl ?_|refine ω5 rfl ?_|refine ω6 ?_|refine ω7 ?_|refine ω8 ?_|refine ⟨rfl,?_⟩|refine ⟨trivial,?_⟩|refine ⟨⟨rfl,Nat.le_of_ble_eq_true rfl⟩,?_⟩|refine ⟨⟨by kernel_rfl,by kernel_rfl⟩,?_⟩|refine ⟨by decide,?_⟩|refine lit_true ?_|refine lit_false ?_))
      refine ⟨_, eff_append1 (e := 45) (c := 3) (pm := []) (HB.refl _) rfl rfl rfl (.inr ⟨_, rfl⟩) (by kernel_rfl) (by kernel_rfl) (by kernel_rfl) (.inr rfl) (by kernel_rfl) (List.append_nil _).symm (oneRow_one rfl) (by show (out.length + 1) * 40 ≤ _; omega) (by omega), fun r h' hr => ?_⟩
      obtain ⟨rfl, rfl⟩ := hr
      (repeat ((conv=>whnf);first|refine ω0 ?_|refine ω1 ?_|refine ω2 ?_|refine ω3 ?_|refine ω4 rfl ?_|refine ω5 rfl ?_|refine ω6 ?_|refine ω7 ?_|refine ω8 ?_|refine ⟨rfl,?_⟩|refine ⟨trivial,?_⟩|refine ⟨⟨rfl,Nat.le_of_ble_eq_true rfl⟩,?_⟩|refine ⟨⟨by kernel_rfl,by kernel_rfl⟩,?_⟩|refine ⟨by decide,?_⟩|refine lit_true ?_|refine lit_false ?_))
      intro c hc
      (repeat ((conv=>whnf);first|refine ω0 ?_|refine ω1 ?_|refine ω2 ?_|refine ω3 ?_|refine ω4 rfl ?_|refine ω5 rfl ?_|refine ω6 ?_|refine ω7 ?_|refine ω8 ?_|refine ⟨rfl,?_⟩|refine ⟨trivial,?_⟩|refine ⟨⟨rfl,Nat.le_of_ble_eq_true rfl⟩,?_⟩|refine ⟨⟨by kernel_rfl,by kernel_rfl⟩,?_⟩|refine ⟨by decide,?_⟩|refine lit_true ?_|refine lit_false ?_))
      have hX : pthF (out ++ [⟨ts, st + 1, (l.getD n ins0).k⟩]) out.length = .ag [tsts ts, int (IntKind.i64.wrap ((st : Int) + 1)), u32 (l.getD n ins0).k] := by
        rw [hw]; simp [pthF, List.getD]; rfl
      refine ret_is rfl ⟨boolA c, ⟨pB s0 s1 s2 l (out ++ [⟨ts, st + 1, (l.getD n ins0).k⟩]) (some nx5), [((3, nx5), (out ++ [(⟨ts, st + 1, (l.getD n ins0).k⟩ : Pth)]).length * 3)], nx5 + 1, 6⟩, AVle.refl _,
        hle_tell _ _ rfl (.cons _ (.cons _ (List.Sublist.refl _))) (List.Sublist.refl _) ⟨rfl, OwnLe.refl _, rfl, ⟨?_, trivial⟩, rfl, OwnLe.refl _, trivial⟩ ⟨rfl, by rw [List.length_append]; rfl, trivial⟩, out ++ [⟨ts, st + 1, (l.getD n ins0).k⟩], some nx5, _, _, rfl, (fun h => by cases h), ?_⟩
      · refine AVle.trans (b := .os 3 (out.length + 1) (pthF (out ++ [⟨ts, st + 1, (l.getD n ins0).k⟩])) _) (AVle.os_fun (appF_one (fun j hj => ?_) ?_)) ?_
        · simp [pthF, List.getD, List.getElem?_append_left hj]
        · exact hX.symm
        · rw [List.length_append]; exact AVle.os_nm rfl
      · cases c
        · have := not_of hc
          exact .inr ⟨by simp; omega, rfl⟩
        · have := yes_of hc
          exact .inl ⟨by simp; omega, rfl, rfl⟩
end Go.Proofs.W

namespace Go.Proofs.W
open Go.Vl
set_option maxRecDepth 100000

def fromQ (L : List Pth) (r : AV) (h' : Heap) : Prop := ∃ oi nx' nn', r = .os 3 L.length (pthF L) (nm0 oi) ∧ h' = ⟨[], pmOf (nm0 oi) (L.length * 3), nx', nn'⟩
theorem eff_from {ops : Array Oper} {B : List (Vl.Id × Own)} {o : Oper} {E : Env} {fo : Operand} {args : Array Operand} {tys : Array TypeId} {first caps xs : List AV} (nn : Nat) (L : List Pth) (hc : ∀ nx, ECall Try.prog 28 xs ⟨[], [], nx, 0⟩ (fromQ L)) (hB : HB B E.h.bx) (hg : o.guard = none)
    (ho : o.op = .call { callee := .value fo, args := args, argTypes := tys }) (hf : E.ev fo = .fn (.func 28) first caps) (hl' : LeL (first ++ args.toList.map E.ev ++ caps) xs) :
    Eff Try.prog ops B o E fun r h' => ∃ oi nx', r = .os 3 L.length (pthF L) (nmN nn oi) ∧ h' = ⟨E.h.bx, pmOf (nmN nn oi) (L.length * 3) ++ E.h.pm, nx', nn + 1⟩ :=
  eff_call hg ho hf ((ECall.frame (h := E.h) (hc E.h.nx) E.h.bx E.h.pm (by simp) (by simp) rfl).args hl') fun r h' hq => by
    obtain ⟨h1', ⟨oi, nx', nn', rfl, rfl⟩, rfl⟩ := hq
    refine ⟨.os 3 L.length (pthF L) (nmN nn oi), ⟨E.h.bx, pmOf (nmN nn oi) (L.length * 3) ++ E.h.pm, nx', nn + 1⟩, ?_, ⟨by simp, ?_, rfl⟩, ⟨oi, nx', rfl, rfl⟩, hB⟩
    · cases oi
      · exact AVle.refl _
      · exact AVle.os_nm rfl
    · cases oi <;> simp [pmOf, nm0, nmN]
theorem le_two {ts : List Tst} {t : Tst} {f0 f g : Nat → AV} {i : Option Vl.Id} (hf : ∀ k, k < ts.length → f k = tstF ts k) (hg : g 0 = tstA t) : AVle (.os 5 (0 + ts.length + 1) (appF (0 + ts.length) (appF 0 f0 f) g) i) (tsts (ts ++ [t])) := by
  rw [Nat.zero_add]
  refine AVle.trans (AVle.os_fun (f' := appF ts.length (tstF ts) g) fun k hk => ?_) (le_tsts hg)
  show (bif Nat.blt k ts.length then (bif Nat.blt k 0 then f0 k else f (k - 0)) else g (k - ts.length)) = (bif Nat.blt k ts.length then tstF ts k else g (k - ts.length))
  cases h : Nat.blt k ts.length
  · rfl
  · rw [show Nat.blt k 0 = false by cases k <;> rfl]
    exact hf k (by simpa using h)
theorem le_none {t : Tst} {f0 g : Nat → AV} {i : Option Vl.Id} (hg : g 0 = tstA t) : AVle (.os 5 (0 + 1) (appF 0 f0 g) i) (tsts ([] ++ [t])) := by
  refine AVle.trans (AVle.os_fun (f' := appF 0 (tstF []) g) fun k hk => ?_) (le_tsts (ts := []) hg)
  obtain rfl : k = 0 := by omega
  rfl
theorem app_pths {L M : List Pth} {s c : Nat} : AVle (.os 3 (L.length + M.length) (appF L.length (pthF L) (pthF M)) (some (c, s))) (.os 3 (L ++ M).length (pthF (L ++ M)) (nm0 (some s))) := by
  rw [List.length_append]
  refine AVle.trans (AVle.os_fun (f' := pthF (L ++ M)) fun k hk => ?_) (AVle.os_nm rfl)
  show (bif Nat.blt k L.length then pthF L k else pthF M (k - L.length)) = pthF (L ++ M) k
  unfold pthF
  cases h : Nat.blt k L.length
  · have : L.length ≤ k := by
      rcases Nat.lt_or_ge k L.length with h' | h'
      · have h2 : Nat.blt k L.length = true := by simpa using h'
        rw [h] at h2; cases h2
      · exact h'
    rw [show (L ++ M).getD k pth0 = M.getD (k - L.length) pth0 by simp [List.getD, List.getElem?_append_right this]]; rfl
  · have : k < L.length := by simpa using h
    rw [show (L ++ M).getD k pth0 = L.getD k pth0 by simp [List.getD, List.getElem?_append_left this]]; rfl
theorem perm2 {oi oj : Option Nat} {a b : Nat} : ∀ i, nmN 2 oi = some i → permGet i.1 (pmOf (nmN 3 oj) b ++ (pmOf (nmN 2 oi) a ++ [])) = some (i.2, a) := by
  intro i hi
  cases oi with
  | none => cases hi
  | some s => cases hi; cases oj <;> rfl
theorem cntF_pos {l : List Ins} (hp : Plain l) : ∀ f n, n < l.length → l.length ≤ n + f → 1 ≤ cntF l f n
  | 0, n, hn, hl => by omega
  | f + 1, n, hn, hl => by
    have hk := hp.kinds hn
    obtain ⟨q1, q2, q3⟩ := formed_nexts hp.formed hn
    unfold cntF
    split
    · exact Nat.le_refl _
    · split
      · exact cntF_pos hp f _ (q3 (by omega) (by omega) (by omega) (by omega)) (by omega)
      · split
        · rename_i h
          have := cntF_pos hp f _ (q2 h).1 (by omega)
          omega
        · exact cntF_pos hp f _ (q1 (by omega)) (by omega)
theorem b57 : Try.prog.bytesOf 57 = 32 := by kernel_rfl
theorem b48 : Try.prog.bytesOf 48 = 40 := by kernel_rfl
theorem c48 : Try.prog.cellsOf 48 = 3 := by kernel_rfl
set_option maxHeartbeats 8000000 in
theorem from_branch (l : List Ins) (hok : okL l) (hf : Formed l) (n a m : Nat) (ts : List Tst) (st nx : Nat) (hn : n < l.length) (h25 : 25 ≤ kind l n) (hts : ts.length ≤ 10000) (hst : st ≤ 10000) (L1 L2 : List Pth) (p1 : 1 ≤ L1.length) (p2 : 1 ≤ L2.length) (hs : L1.length + L2.length ≤ 4096)
    (q1 : ∀ nx, ECall Try.prog 28 [inss l, int (n + 1 + (l.getD n ins0).jt : Nat), int a, u32 m, tsts (ts ++ [⟨a, m, kind l n, (l.getD n ins0).k, true⟩]), int (st + 1 : Nat)] ⟨[], [], nx, 0⟩ (fromQ L1))
    (q2 : ∀ nx, ECall Try.prog 28 [inss l, int (n + 1 + (l.getD n ins0).jf : Nat), int a, u32 m, tsts (ts ++ [⟨a, m, kind l n, (l.getD n ins0).k, false⟩]), int (st + 1 : Nat)] ⟨[], [], nx, 0⟩ (fromQ L2)) :
    ECall Try.prog 28 [inss l, int n, int a, u32 m, tsts ts, int st] ⟨[], [], nx, 0⟩ (fromQ (L1 ++ L2)) := by
  have hle := hf.le
  have hki : (l.getD n ins0).ok := hok.get hn
  have hof := refof_spec (l.getD n ins0).code hki.1
  have hnr := nextR_spec l hok hf n hn
  have hw1 : IntKind.i64.wrap ((st : Int) + 1) = ((st + 1 : Nat) : Int) := wrap_succ (by omega)
  unfold nextsI at hnr
  rw [if_neg (by omega), if_neg (by omega), if_pos h25] at hnr
  change Tells Try.prog 59 [u16 (l.getD n ins0).code] (.tup [int (kind l n), boolA (kof (l.getD n ins0).code).2]) at hof
  generalize kind l n = K at *
  generalize (kof (l.getD n ins0).code).2 = z at *
  refine ECall.wk (ecall_of_aw Try.func28 rfl rfl ?_)
  (repeat ((conv=>whnf);first|refine ω0 ?_|refine ω1 ?_|refine ω2 ?_|refine ω3 ?_|refine ω4 rfl ?_|refine ω5 rfl ?_|refine ω6 ?_|refine ω7 ?_|refine ω8 ?_|refine ⟨rfl,?_⟩|refine ⟨trivial,?_⟩|refine ⟨⟨rfl,Nat.le_of_ble_eq_true rfl⟩,?_⟩|refine ⟨⟨by kernel_rfl,by kernel_rfl⟩,?_⟩|refine ⟨by decide,?_⟩|refine lit_true ?_|refine lit_false ?_))
  refine ⟨⟨by first | omega | (dsimp only; omega), by first | omega | (dsimp only; omega)⟩, ?_⟩
  (repeat ((conv=>whnf);first|refine ω0 ?_|refine ω1 ?_|refine ω2 ?_|refine ω3 ?_|refine ω4 rfl ?_|refine ω5 rfl ?_|refine ω6 ?_|refine ω7 ?_|refine ω8 ?_|refine ⟨rfl,?_⟩|refine ⟨trivial,?_⟩|refine ⟨⟨rfl,Nat.le_of_ble_eq_true rfl⟩,?_⟩|refine ⟨⟨by kernel_rfl,by kernel_rfl⟩,?_⟩|refine ⟨by decide,?_⟩|refine lit_true ?_|refine lit_false ?_))
  refine aop_tells rfl rfl hof ⟨AVle.refl _, trivial⟩ fun nx3 => ?_
  (repeat ((conv=>whnf);first|refine ω0 ?_|refine ω1 ?_|refine ω2 ?_|refine ω3 ?_|refine ω4 rfl ?_|refine ω5 rfl ?_|refine ω6 ?_|refine ω7 ?_|refine ω8 ?_|refine ⟨rfl,?_⟩|refine ⟨trivial,?_⟩|refine ⟨⟨rfl,Nat.le_of_ble_eq_true rfl⟩,?_⟩|refine ⟨⟨by kernel_rfl,by kernel_rfl⟩,?_⟩|refine ⟨by decide,?_⟩|refine lit_true ?_|refine lit_false ?_))
  intro cx hx
  obtain rfl : cx = z := hx
  (repeat ((conv=>whnf);first|refine ω0 ?_|refine ω1 ?_|refine ω2 ?_|refine ω3 ?_|refine ω4 rfl ?_|refine ω5 rfl ?_|refine ω6 ?_|refine ω7 ?_|refine ω8 ?_|refine ⟨rfl,?_⟩|refine ⟨trivial,?_⟩|refine ⟨⟨rfl,Nat.le_of_ble_eq_true rfl⟩,?_⟩|refine ⟨⟨by kernel_rfl,by kernel_rfl⟩,?_⟩|refine ⟨by decide,?_⟩|refine lit_true ?_|refine lit_false ?_))
  refine ⟨⟨by first | omega | (dsimp only; omega), by first | omega | (dsimp only; omega)⟩, ?_⟩
  (repeat ((conv=>whnf);first|refine ω0 ?_|refine ω1 ?_|refine ω2 ?_|refine ω3 ?_|refine ω4 rfl ?_|refine ω5 rfl ?_|refine ω6 ?_|refine ω7 ?_|refine ω8 ?_|refine ⟨rfl,?_⟩|refine ⟨trivial,?_⟩|refine ⟨⟨rfl,Nat.le_of_ble_eq_true rfl⟩,?_⟩|refine ⟨⟨by kernel_rfl,by kernel_rfl⟩,?_⟩|refine ⟨by decide,?_⟩|refine lit_true ?_|refine lit_false ?_))
  refine aop_tells rfl rfl hnr ⟨AVle.refl _, AVle.refl _, trivial⟩ fun nx5 => ?_
  (repeat ((conv=>whnf);first|refine ω0 ?_|refine ω1 ?_|refine ω2 ?_|refine ω3 ?_|refine ω4 rfl ?_|refine ω5 rfl ?_|refine ω6 ?_|refine ω7 ?_|refine ω8 ?_|refine ⟨rfl,?_⟩|refine ⟨trivial,?_⟩|refine ⟨⟨rfl,Nat.le_of_ble_eq_true rfl⟩,?_⟩|refine ⟨⟨by kernel_rfl,by kernel_rfl⟩,?_⟩|refine ⟨by decide,?_⟩|refine lit_true ?_|refine lit_false ?_))
  (intro c hc; obtain rfl : c = false := hc.trans (by first | exact decide_eq_false (by omega) | (simp; omega)); (repeat ((conv=>whnf);first|refine ω0 ?_|refine ω1 ?_|refine ω2 ?_|refine ω3 ?_|refine ω4 rfl ?_|refine ω5 rfl ?_|refine ω6 ?_|refine ω7 ?_|refine ω8 ?_|refine ⟨rfl,?_⟩|refine ⟨trivial,?_⟩|refine ⟨⟨rfl,Nat.le_of_ble_eq_true rfl⟩,?_⟩|refine ⟨⟨by kernel_rfl,by kernel_rfl⟩,?_⟩|refine ⟨by decide,?_⟩|refine lit_true ?_|refine lit_false ?_)))
  (intro c hc; obtain rfl : c = false := hc.trans (by first | exact decide_eq_false (by omega) | (simp; omega)); (repeat ((conv=>whnf);first|refine ω0 ?_|refine ω1 ?_|refine ω2 ?_|refine ω3 ?_|refine ω4 rfl ?_|refine ω5 rfl ?_|refine ω6 ?_|refine ω7 ?_|refine ω8 ?_|refine ⟨rfl,?_⟩|refine ⟨trivial,?_⟩|refine ⟨⟨rfl,Nat.le_of_ble_eq_true rfl⟩,?_⟩|refine ⟨⟨by kernel_rfl,by kernel_rfl⟩,?_⟩|refine ⟨by decide,?_⟩|refine lit_true ?_|refine lit_false ?_)))
  (intro c hc; obtain rfl : c = false := hc.trans (by first | exact decide_eq_false (by omega) | (simp; omega)); (repeat ((conv=>whnf);first|refine ω0 ?_|refine ω1 ?_|refine ω2 ?_|refine ω3 ?_|refine ω4 rfl ?_|refine ω5 rfl ?_|refine ω6 ?_|refine ω7 ?_|refine ω8 ?_|refine ⟨rfl,?_⟩|refine ⟨trivial,?_⟩|refine ⟨⟨rfl,Nat.le_of_ble_eq_true rfl⟩,?_⟩|refine ⟨⟨by kernel_rfl,by kernel_rfl⟩,?_⟩|refine ⟨by decide,?_⟩|refine lit_true ?_|refine lit_false ?_)))
  (intro c hc; obtain rfl : c = true := hc.trans (by first | exact decide_eq_true (by omega) | (simp; omega)); (repeat ((conv=>whnf);first|refine ω0 ?_|refine ω1 ?_|refine ω2 ?_|refine ω3 ?_|refine ω4 rfl ?_|refine ω5 rfl ?_|refine ω6 ?_|refine ω7 ?_|refine ω8 ?_|refine ⟨rfl,?_⟩|refine ⟨trivial,?_⟩|refine ⟨⟨rfl,Nat.le_of_ble_eq_true rfl⟩,?_⟩|refine ⟨⟨by kernel_rfl,by kernel_rfl⟩,?_⟩|refine ⟨by decide,?_⟩|refine lit_true ?_|refine lit_false ?_)))
  rcases ts with _ | ⟨t0, tl⟩
  · (repeat ((conv=>whnf);first|refine ω0 ?_|refine ω1 ?_|refine ω2 ?_|refine ω3 ?_|refine ω4 rfl ?_|refine ω5 rfl ?_|refine ω6 ?_|refine ω7 ?_|refine ω8 ?_|refine ⟨rfl,?_⟩|refine ⟨trivial,?_⟩|refine ⟨⟨rfl,Nat.le_of_ble_eq_true rfl⟩,?_⟩|refine ⟨⟨by kernel_rfl,by kernel_rfl⟩,?_⟩|refine ⟨by decide,?_⟩|refine lit_true ?_|refine lit_false ?_))
    refine ⟨oneRow_one rfl, by rw [b57]; omega, by omega, ?_⟩
    (repeat ((conv=>whnf);first|refine ω0 ?_|refine ω1 ?_|refine ω2 ?_|refine ω3 ?_|refine ω4 rfl ?_|refine ω5 rfl ?_|refine ω6 ?_|refine ω7 ?_|refine ω8 ?_|refine ⟨rfl,?_⟩|refine ⟨trivial,?_⟩|refine ⟨⟨rfl,Nat.le_of_ble_eq_true rfl⟩,?_⟩|refine ⟨⟨by kernel_rfl,by kernel_rfl⟩,?_⟩|refine ⟨by decide,?_⟩|refine lit_true ?_|refine lit_false ?_))
    refine ⟨oneRow_one rfl, by rw [b57]; omega, by omega, ?_⟩
    (repeat ((conv=>whnf);first|refine ω0 ?_|refine ω1 ?_|refine ω2 ?_|refine ω3 ?_|refine ω4 rfl ?_|refine ω5 rfl ?_|refine ω6 ?_|refine ω7 ?_|refine ω8 ?_|refine ⟨rfl,?_⟩|refine ⟨trivial,?_⟩|refine ⟨⟨rfl,Nat.le_of_ble_eq_true rfl⟩,?_⟩|refine ⟨⟨by kernel_rfl,by kernel_rfl⟩,?_⟩|refine ⟨by decide,?_⟩|refine lit_true ?_|refine lit_false ?_))
    refine AW.le (E' := mk 127 [(0, inss l), (2, int a), (3, u32 m), (5, int st), (16, ints [n + 1 + (l.getD n ins0).jt, n + 1 + (l.getD n ins0).jf]), (17, tsts ([] ++ [⟨a, m, K, (l.getD n ins0).k, true⟩])), (18, tsts ([] ++ [⟨a, m, K, (l.getD n ins0).k, false⟩]))] ⟨[], [], _, 2⟩) (ele_keep rfl rfl .slnil (List.nil_sublist _) ⟨AVle.refl _, AVle.refl _, AVle.refl _, AVle.refl _, AVle.refl _, by (conv => arg 1; whnf); exact le_none (t := ⟨a, m, K, (l.getD n ins0).k, true⟩) rfl, by (conv => arg 1; whnf); exact le_none (t := ⟨a, m, K, (l.getD n ins0).k, false⟩) rfl, trivial⟩) ?_
    refine aw_mix 21 [] (fun i => match i with | 9 => true | 19 => true | 20 => true | _ => false) [0, 1, 2, 3, 4, 5, 6, 7, 8, 10, 11, 12, 13, 14, 15, 16, 17, 18, 9, 19, 20] (by kernel_rfl) (by kernel_rfl) (fun _ _ _ h => by cases h) ?_
    (repeat ((conv=>whnf);first|refine ω0 ?_|refine ω1 ?_|refine ω2 ?_|refine ω3 ?_|refine ω4 rfl ?_|refine ω5 rfl ?_|refine ω6 ?_|refine ω7 ?_|refine ω8 ?_|refine ⟨rfl,?_⟩|refine ⟨trivial,?_⟩|refine ⟨⟨rfl,Nat.le_of_ble_eq_true rfl⟩,?_⟩|refine ⟨⟨by kernel_rfl,by kernel_rfl⟩,?_⟩|refine ⟨by decide,?_⟩|refine lit_true ?_|refine lit_false ?_))
    refine ⟨⟨by simp, by simp⟩, ?_⟩
    (repeat ((conv=>whnf);first|refine ω0 ?_|refine ω1 ?_|refine ω2 ?_|refine ω3 ?_|refine ω4 rfl ?_|refine ω5 rfl ?_|refine ω6 ?_|refine ω7 ?_|refine ω8 ?_|refine ⟨rfl,?_⟩|refine ⟨trivial,?_⟩|refine ⟨⟨rfl,Nat.le_of_ble_eq_true rfl⟩,?_⟩|refine ⟨⟨by kernel_rfl,by kernel_rfl⟩,?_⟩|refine ⟨by decide,?_⟩|refine lit_true ?_|refine lit_false ?_))
    refine ⟨⟨by simp, by simp⟩, ?_⟩
    (repeat ((conv=>whnf);first|refine ω0 ?_|refine ω1 ?_|refine ω2 ?_|refine ω3 ?_|refine ω4 rfl ?_|refine ω5 rfl ?_|refine ω6 ?_|refine ω7 ?_|refine ω8 ?_|refine ⟨rfl,?_⟩|refine ⟨trivial,?_⟩|refine ⟨⟨rfl,Nat.le_of_ble_eq_true rfl⟩,?_⟩|refine ⟨⟨by kernel_rfl,by kernel_rfl⟩,?_⟩|refine ⟨by decide,?_⟩|refine lit_true ?_|refine lit_false ?_))
    refine ⟨_, eff_from 2 L1 q1 (fun _ _ _ h => by cases h) rfl rfl rfl ⟨AVle.refl _, AVle.refl _, AVle.refl _, AVle.refl _, AVle.refl _, le_int hw1, trivial⟩, fun r h' hr => ?_⟩
    obtain ⟨oi, nx6, rfl, rfl⟩ := hr
    (repeat ((conv=>whnf);first|refine ω0 ?_|refine ω1 ?_|refine ω2 ?_|refine ω3 ?_|refine ω4 rfl ?_|refine ω5 rfl ?_|refine ω6 ?_|refine ω7 ?_|refine ω8 ?_|refine ⟨rfl,?_⟩|refine ⟨trivial,?_⟩|refine ⟨⟨rfl,Nat.le_of_ble_eq_true rfl⟩,?_⟩|refine ⟨⟨by kernel_rfl,by kernel_rfl⟩,?_⟩|refine ⟨by decide,?_⟩|refine lit_true ?_|refine lit_false ?_))
    refine ⟨_, eff_from 3 L2 q2 (fun _ _ _ h => by cases h) rfl rfl rfl ⟨AVle.refl _, AVle.refl _, AVle.refl _, AVle.refl _, AVle.refl _, le_int hw1, trivial⟩, fun r h' hr => ?_⟩
    obtain ⟨oj, nx7, rfl, rfl⟩ := hr
    (repeat ((conv=>whnf);first|refine ω0 ?_|refine ω1 ?_|refine ω2 ?_|refine ω3 ?_|refine ω4 rfl ?_|refine ω5 rfl ?_|refine ω6 ?_|refine ω7 ?_|refine ω8 ?_|refine ⟨rfl,?_⟩|refine ⟨trivial,?_⟩|refine ⟨⟨rfl,Nat.le_of_ble_eq_true rfl⟩,?_⟩|refine ⟨⟨by kernel_rfl,by kernel_rfl⟩,?_⟩|refine ⟨by decide,?_⟩|refine lit_true ?_|refine lit_false ?_))
    refine ⟨_, eff_append (e := 48) (oi := nmN 2 oi) (n := L1.length) (m := L2.length) (f := pthF L1) (f' := pthF L2) (sz := 3) (szx := 3) (fun _ _ _ h => by cases h) rfl rfl rfl (.inr ⟨nmN 3 oj, rfl⟩) (by kernel_rfl) (by kernel_rfl) (.inr (by kernel_rfl)) (.inr (by kernel_rfl)) (fun i hi => ?_) (fun _ _ => rfl) (fun _ => by rw [b48]; omega) (fun _ => by omega), fun r h' hr => ?_⟩
    · rw [c48]; exact perm2 i hi
    rcases hr with ⟨h0, _⟩ | ⟨_, rfl, rfl⟩
    · exact absurd h0 (by omega)
    (repeat ((conv=>whnf);first|refine ω0 ?_|refine ω1 ?_|refine ω2 ?_|refine ω3 ?_|refine ω4 rfl ?_|refine ω5 rfl ?_|refine ω6 ?_|refine ω7 ?_|refine ω8 ?_|refine ⟨rfl,?_⟩|refine ⟨trivial,?_⟩|refine ⟨⟨rfl,Nat.le_of_ble_eq_true rfl⟩,?_⟩|refine ⟨⟨by kernel_rfl,by kernel_rfl⟩,?_⟩|refine ⟨by decide,?_⟩|refine lit_true ?_|refine lit_false ?_))
    refine ret_is rfl ⟨.os 3 (L1 ++ L2).length (pthF (L1 ++ L2)) (nm0 (some nx7)), ⟨[], [((0, nx7), (L1 ++ L2).length * 3)], nx7 + 1, 0⟩, ?_, ?_, some nx7, _, _, rfl, rfl⟩
    · exact app_pths
    · exact hle_tell [] [((4, nx7), (L1.length + L2.length) * Try.prog.cellsOf 48)] rfl .slnil (.cons_cons _ (List.nil_sublist _)) trivial ⟨rfl, by rw [c48, List.length_append], trivial⟩
  · (repeat ((conv=>whnf);first|refine ω0 ?_|refine ω1 ?_|refine ω2 ?_|refine ω3 ?_|refine ω4 rfl ?_|refine ω5 rfl ?_|refine ω6 ?_|refine ω7 ?_|refine ω8 ?_|refine ⟨rfl,?_⟩|refine ⟨trivial,?_⟩|refine ⟨⟨rfl,Nat.le_of_ble_eq_true rfl⟩,?_⟩|refine ⟨⟨by kernel_rfl,by kernel_rfl⟩,?_⟩|refine ⟨by decide,?_⟩|refine lit_true ?_|refine lit_false ?_))
    refine ⟨fun _ _ => rfl, by rw [b57]; omega, by omega, ?_⟩
    (repeat ((conv=>whnf);first|refine ω0 ?_|refine ω1 ?_|refine ω2 ?_|refine ω3 ?_|refine ω4 rfl ?_|refine ω5 rfl ?_|refine ω6 ?_|refine ω7 ?_|refine ω8 ?_|refine ⟨rfl,?_⟩|refine ⟨trivial,?_⟩|refine ⟨⟨rfl,Nat.le_of_ble_eq_true rfl⟩,?_⟩|refine ⟨⟨by kernel_rfl,by kernel_rfl⟩,?_⟩|refine ⟨by decide,?_⟩|refine lit_true ?_|refine lit_false ?_))
    refine ⟨oneRow_one rfl, by rw [b57]; omega, by omega, ?_⟩
    (repeat ((conv=>whnf);first|refine ω0 ?_|refine ω1 ?_|refine ω2 ?_|refine ω3 ?_|refine ω4 rfl ?_|refine ω5 rfl ?_|refine ω6 ?_|refine ω7 ?_|refine ω8 ?_|refine ⟨rfl,?_⟩|refine ⟨trivial,?_⟩|refine ⟨⟨rfl,Nat.le_of_ble_eq_true rfl⟩,?_⟩|refine ⟨⟨by kernel_rfl,by kernel_rfl⟩,?_⟩|refine ⟨by decide,?_⟩|refine lit_true ?_|refine lit_false ?_))
    refine ⟨fun _ _ => rfl, by rw [b57]; omega, by omega, ?_⟩
    (repeat ((conv=>whnf);first|refine ω0 ?_|refine ω1 ?_|refine ω2 ?_|refine ω3 ?_|refine ω4 rfl ?_|refine ω5 rfl ?_|refine ω6 ?_|refine ω7 ?_|refine ω8 ?_|refine ⟨rfl,?_⟩|refine ⟨trivial,?_⟩|refine ⟨⟨rfl,Nat.le_of_ble_eq_true rfl⟩,?_⟩|refine ⟨⟨by kernel_rfl,by kernel_rfl⟩,?_⟩|refine ⟨by decide,?_⟩|refine lit_true ?_|refine lit_false ?_))
    refine ⟨oneRow_one rfl, by rw [b57]; omega, by omega, ?_⟩
    (repeat ((conv=>whnf);first|refine ω0 ?_|refine ω1 ?_|refine ω2 ?_|refine ω3 ?_|refine ω4 rfl ?_|refine ω5 rfl ?_|refine ω6 ?_|refine ω7 ?_|refine ω8 ?_|refine ⟨rfl,?_⟩|refine ⟨trivial,?_⟩|refine ⟨⟨rfl,Nat.le_of_ble_eq_true rfl⟩,?_⟩|refine ⟨⟨by kernel_rfl,by kernel_rfl⟩,?_⟩|refine ⟨by decide,?_⟩|refine lit_true ?_|refine lit_false ?_))
    refine AW.le (E' := mk 127 [(0, inss l), (2, int a), (3, u32 m), (5, int st), (16, ints [n + 1 + (l.getD n ins0).jt, n + 1 + (l.getD n ins0).jf]), (17, tsts ((t0 :: tl) ++ [⟨a, m, K, (l.getD n ins0).k, true⟩])), (18, tsts ((t0 :: tl) ++ [⟨a, m, K, (l.getD n ins0).k, false⟩]))] ⟨[], [], _, 2⟩) (ele_keep rfl rfl .slnil (List.nil_sublist _) ⟨AVle.refl _, AVle.refl _, AVle.refl _, AVle.refl _, AVle.refl _, by (conv => arg 1; whnf); exact le_two (ts := t0 :: tl) (t := ⟨a, m, K, (l.getD n ins0).k, true⟩) (fun _ _ => rfl) rfl, by (conv => arg 1; whnf); exact le_two (ts := t0 :: tl) (t := ⟨a, m, K, (l.getD n ins0).k, false⟩) (fun _ _ => rfl) rfl, trivial⟩) ?_
    refine aw_mix 21 [] (fun i => match i with | 9 => true | 19 => true | 20 => true | _ => false) [0, 1, 2, 3, 4, 5, 6, 7, 8, 10, 11, 12, 13, 14, 15, 16, 17, 18, 9, 19, 20] (by kernel_rfl) (by kernel_rfl) (fun _ _ _ h => by cases h) ?_
    (repeat ((conv=>whnf);first|refine ω0 ?_|refine ω1 ?_|refine ω2 ?_|refine ω3 ?_|refine ω4 rfl ?_|refine ω5 rfl ?_|refine ω6 ?_|refine ω7 ?_|refine ω8 ?_|refine ⟨rfl,?_⟩|refine ⟨trivial,?_⟩|refine ⟨⟨rfl,Nat.le_of_ble_eq_true rfl⟩,?_⟩|refine ⟨⟨by kernel_rfl,by kernel_rfl⟩,?_⟩|refine ⟨by decide,?_⟩|refine lit_true ?_|refine lit_false ?_))
    refine ⟨⟨by simp, by simp⟩, ?_⟩
    (repeat ((conv=>whnf);first|refine ω0 ?_|refine ω1 ?_|refine ω2 ?_|refine ω3 ?_|refine ω4 rfl ?_|refine ω5 rfl ?_|refine ω6 ?_|refine ω7 ?_|refine ω8 ?_|refine ⟨rfl,?_⟩|refine ⟨trivial,?_⟩|refine ⟨⟨rfl,Nat.le_of_ble_eq_true rfl⟩,?_⟩|refine ⟨⟨by kernel_rfl,by kernel_rfl⟩,?_⟩|refine ⟨by decide,?_⟩|refine lit_true ?_|refine lit_false ?_))
    refine ⟨⟨by simp, by simp⟩, ?_⟩
    (repeat ((conv=>whnf);first|refine ω0 ?_|refine ω1 ?_|refine ω2 ?_|refine ω3 ?_|refine ω4 rfl ?_|refine ω5 rfl ?_|refine ω6 ?_|refine ω7 ?_|refine ω8 ?_|refine ⟨rfl,?_⟩|refine ⟨trivial,?_⟩|refine ⟨⟨rfl,Nat.le_of_ble_eq_true rfl⟩,?_⟩|refine ⟨⟨by kernel_rfl,by kernel_rfl⟩,?_⟩|refine ⟨by decide,?_⟩|refine lit_true ?_|refine lit_false ?_))
    refine ⟨_, eff_from 2 L1 q1 (fun _ _ _ h => by cases h) rfl rfl rfl ⟨AVle.refl _, AVle.refl _, AVle.refl _, AVle.refl _, AVle.refl _, le_int hw1, trivial⟩, fun r h' hr => ?_⟩
    obtain ⟨oi, nx6, rfl, rfl⟩ := hr
    (repeat ((conv=>whnf);first|refine ω0 ?_|refine ω1 ?_|refine ω2 ?_|refine ω3 ?_|refine ω4 rfl ?_|refine ω5 rfl ?_|refine ω6 ?_|refine ω7 ?_|refine ω8 ?_|refine ⟨rfl,?_⟩|refine ⟨trivial,?_⟩|refine ⟨⟨rfl,Nat.le_of_ble_eq_true rfl⟩,?_⟩|refine ⟨⟨by kernel_rfl,by kernel_rfl⟩,?_⟩|refine ⟨by decide,?_⟩|refine lit_true ?_|refine lit_false ?_))
    refine ⟨_, eff_from 3 L2 q2 (fun _ _ _ h => by cases h) rfl rfl rfl ⟨AVle.refl _, AVle.refl _, AVle.refl _, AVle.refl _, AVle.refl _, le_int hw1, trivial⟩, fun r h' hr => ?_⟩
    obtain ⟨oj, nx7, rfl, rfl⟩ := hr
    (repeat ((conv=>whnf);first|refine ω0 ?_|refine ω1 ?_|refine ω2 ?_|refine ω3 ?_|refine ω4 rfl ?_|refine ω5 rfl ?_|refine ω6 ?_|refine ω7 ?_|refine ω8 ?_|refine ⟨rfl,?_⟩|refine ⟨trivial,?_⟩|refine ⟨⟨rfl,Nat.le_of_ble_eq_true rfl⟩,?_⟩|refine ⟨⟨by kernel_rfl,by kernel_rfl⟩,?_⟩|refine ⟨by decide,?_⟩|refine lit_true ?_|refine lit_false ?_))
    refine ⟨_, eff_append (e := 48) (oi := nmN 2 oi) (n := L1.length) (m := L2.length) (f := pthF L1) (f' := pthF L2) (sz := 3) (szx := 3) (fun _ _ _ h => by cases h) rfl rfl rfl (.inr ⟨nmN 3 oj, rfl⟩) (by kernel_rfl) (by kernel_rfl) (.inr (by kernel_rfl)) (.inr (by kernel_rfl)) (fun i hi => ?_) (fun _ _ => rfl) (fun _ => by rw [b48]; omega) (fun _ => by omega), fun r h' hr => ?_⟩
    · rw [c48]; exact perm2 i hi
    rcases hr with ⟨h0, _⟩ | ⟨_, rfl, rfl⟩
    · exact absurd h0 (by omega)
    (repeat ((conv=>whnf);first|refine ω0 ?_|refine ω1 ?_|refine ω2 ?_|refine ω3 ?_|refine ω4 rfl ?_|refine ω5 rfl ?_|refine ω6 ?_|refine ω7 ?_|refine ω8 ?_|refine ⟨rfl,?_⟩|refine ⟨trivial,?_⟩|refine ⟨⟨rfl,Nat.le_of_ble_eq_true rfl⟩,?_⟩|refine ⟨⟨by kernel_rfl,by kernel_rfl⟩,?_⟩|refine ⟨by decide,?_⟩|refine lit_true ?_|refine lit_false ?_))
    refine ret_is rfl ⟨.os 3 (L1 ++ L2).length (pthF (L1 ++ L2)) (nm0 (some nx7)), ⟨[], [((0, nx7), (L1 ++ L2).length * 3)], nx7 + 1, 0⟩, ?_, ?_, some nx7, _, _, rfl, rfl⟩
    · exact app_pths
    · exact hle_tell [] [((4, nx7), (L1.length + L2.length) * Try.prog.cellsOf 48)] rfl .slnil (.cons_cons _ (List.nil_sublist _)) trivial ⟨rfl, by rw [c48, List.length_append], trivial⟩
set_option maxHeartbeats 8000000 in
theorem from_spec (l : List Ins) (hok : okL l) (hp : Plain l) : ∀ (f n a m : Nat) (ts : List Tst) (st nx : Nat), n < l.length → l.length ≤ n + f → f ≤ l.length → a < 4294967296 → m < 4294967296 → ts.length ≤ st → st + f ≤ 10000 → cntF l f n ≤ 4096 →
    ECall Try.prog 28 [inss l, int n, int a, u32 m, tsts ts, int st] ⟨[], [], nx, 0⟩ (fromQ (pathsF l f n a m ts st)) := by
  intro f
  induction f with
  | zero => intro n a m ts st nx hn hl; omega
  | succ f ih =>
    intro n a m ts st nx hn hl hfl ha hm hts hst hcnt
    have hf := hp.formed
    have hle := hf.le
    have hki : (l.getD n ins0).ok := hok.get hn
    have hK := hp.kinds hn
    have hK29 := kof_le (l.getD n ins0).code
    have hnx := nexts_lt hf hn
    have hof := refof_spec (l.getD n ins0).code hki.1
    have hnr := nextR_spec l hok hf n hn
    have hk32 : (l.getD n ins0).k < 4294967296 := hki.2.2.2
    have hw1 : IntKind.i64.wrap ((st : Int) + 1) = ((st + 1 : Nat) : Int) := wrap_succ (by omega)
    have wk : IntKind.i64.wrap ((l.getD n ins0).k : Int) = ((l.getD n ins0).k : Nat) := wrap_id (by omega) (by omega)
    have hpos : ∀ n', n' < l.length → l.length ≤ n' + f → 1 ≤ cntF l f n' := fun n' h1 h2 => cntF_pos hp f n' h1 h2
    have hcl : ∀ n' a' m' ts' st', (pathsF l f n' a' m' ts' st').length = cntF l f n' := pathsF_length l f
    by_cases h25 : 25 ≤ kind l n
    · have h1 := hnx (n + 1 + (l.getD n ins0).jt) (by unfold nextsI; rw [if_neg (by omega), if_neg (by omega), if_pos h25]; simp)
      have h2 := hnx (n + 1 + (l.getD n ins0).jf) (by unfold nextsI; rw [if_neg (by omega), if_neg (by omega), if_pos h25]; simp)
      unfold cntF at hcnt
      rw [if_neg (by omega), if_neg (by omega), if_pos h25] at hcnt
      have e := from_branch l hok hf n a m ts st nx hn h25 (by omega) (by omega) _ _ (by rw [hcl]; exact hpos _ h1.2 (by omega)) (by rw [hcl]; exact hpos _ h2.2 (by omega)) (by rw [hcl, hcl]; exact hcnt)
        (fun nx => ih _ a m _ (st + 1) nx h1.2 (by omega) (by omega) ha hm (by simp; omega) (by omega) (by omega)) (fun nx => ih _ a m _ (st + 1) nx h2.2 (by omega) (by omega) ha hm (by simp; omega) (by omega) (by omega))
      have hp2 : pathsF l (f + 1) n a m ts st = pathsF l f (n + 1 + (l.getD n ins0).jt) a m (ts ++ [⟨a, m, kind l n, (l.getD n ins0).k, true⟩]) (st + 1) ++ pathsF l f (n + 1 + (l.getD n ins0).jf) a m (ts ++ [⟨a, m, kind l n, (l.getD n ins0).k, false⟩]) (st + 1) := by
        rw [pathsF, if_neg (by omega), if_neg (by omega), if_neg (by omega), if_pos h25]
      rw [hp2]
      exact e
    clear hcl hpos
    unfold pathsF
    unfold cntF at hcnt
    unfold nextsI at hnr hnx
    change (kof (l.getD n ins0).code).1 = 1 ∨ (kof (l.getD n ins0).code).1 = 13 ∨ (kof (l.getD n ins0).code).1 = 14 ∨ (kof (l.getD n ins0).code).1 = 21 ∨ 25 ≤ (kof (l.getD n ins0).code).1 at hK
    unfold kind at hnr hnx hcnt h25 ⊢
    generalize (kof (l.getD n ins0).code).1 = K at *
    generalize (kof (l.getD n ins0).code).2 = z at *
    refine ECall.wk (ecall_of_aw Try.func28 rfl rfl ?_)
    (repeat ((conv=>whnf);first|refine ω0 ?_|refine ω1 ?_|refine ω2 ?_|refine ω3 ?_|refine ω4 rfl ?_|refine ω5 rfl ?_|refine ω6 ?_|refine ω7 ?_|refine ω8 ?_|refine ⟨rfl,?_⟩|refine ⟨trivial,?_⟩|refine ⟨⟨rfl,Nat.le_of_ble_eq_true rfl⟩,?_⟩|refine ⟨⟨by kernel_rfl,by kernel_rfl⟩,?_⟩|refine ⟨by decide,?_⟩|refine lit_true ?_|refine lit_false ?_))
    refine ⟨⟨by first | omega | (dsimp only; omega), by first | omega | (dsimp only; omega)⟩, ?_⟩
    (repeat ((conv=>whnf);first|refine ω0 ?_|refine ω1 ?_|refine ω2 ?_|refine ω3 ?_|refine ω4 rfl ?_|refine ω5 rfl ?_|refine ω6 ?_|refine ω7 ?_|refine ω8 ?_|refine ⟨rfl,?_⟩|refine ⟨trivial,?_⟩|refine ⟨⟨rfl,Nat.le_of_ble_eq_true rfl⟩,?_⟩|refine ⟨⟨by kernel_rfl,by kernel_rfl⟩,?_⟩|refine ⟨by decide,?_⟩|refine lit_true ?_|refine lit_false ?_))
    refine aop_tells rfl rfl hof ⟨AVle.refl _, trivial⟩ fun nx3 => ?_
    (repeat ((conv=>whnf);first|refine ω0 ?_|refine ω1 ?_|refine ω2 ?_|refine ω3 ?_|refine ω4 rfl ?_|refine ω5 rfl ?_|refine ω6 ?_|refine ω7 ?_|refine ω8 ?_|refine ⟨rfl,?_⟩|refine ⟨trivial,?_⟩|refine ⟨⟨rfl,Nat.le_of_ble_eq_true rfl⟩,?_⟩|refine ⟨⟨by kernel_rfl,by kernel_rfl⟩,?_⟩|refine ⟨by decide,?_⟩|refine lit_true ?_|refine lit_false ?_))
    intro cx hx
    obtain rfl : cx = z := hx
    (repeat ((conv=>whnf);first|refine ω0 ?_|refine ω1 ?_|refine ω2 ?_|refine ω3 ?_|refine ω4 rfl ?_|refine ω5 rfl ?_|refine ω6 ?_|refine ω7 ?_|refine ω8 ?_|refine ⟨rfl,?_⟩|refine ⟨trivial,?_⟩|refine ⟨⟨rfl,Nat.le_of_ble_eq_true rfl⟩,?_⟩|refine ⟨⟨by kernel_rfl,by kernel_rfl⟩,?_⟩|refine ⟨by decide,?_⟩|refine lit_true ?_|refine lit_false ?_))
    refine ⟨⟨by first | omega | (dsimp only; omega), by first | omega | (dsimp only; omega)⟩, ?_⟩
    (repeat ((conv=>whnf);first|refine ω0 ?_|refine ω1 ?_|refine ω2 ?_|refine ω3 ?_|refine ω4 rfl ?_|refine ω5 rfl ?_|refine ω6 ?_|refine ω7 ?_|refine ω8 ?_|refine ⟨rfl,?_⟩|refine ⟨trivial,?_⟩|refine ⟨⟨rfl,Nat.le_of_ble_eq_true rfl⟩,?_⟩|refine ⟨⟨by kernel_rfl,by kernel_rfl⟩,?_⟩|refine ⟨by decide,?_⟩|refine lit_true ?_|refine lit_false ?_))
    rcases (by omega : K = 1 ∨ K = 13 ∨ K = 14 ∨ K = 21) with rfl | rfl | rfl | rfl
    · have hnr : Tells Try.prog 60 [inss l, int n] (ints [n + 1]) := hnr
      have hnx : n < n + 1 ∧ n + 1 < l.length := hnx _ (List.mem_singleton.2 rfl)
      have hcnt : cntF l f (n + 1) ≤ 4096 := hcnt
      refine aop_tells rfl rfl hnr ⟨AVle.refl _, AVle.refl _, trivial⟩ fun nx5 => ?_
      (repeat ((conv=>whnf);first|refine ω0 ?_|refine ω1 ?_|refine ω2 ?_|refine ω3 ?_|refine ω4 rfl ?_|refine ω5 rfl ?_|refine ω6 ?_|refine ω7 ?_|refine ω8 ?_|refine ⟨rfl,?_⟩|refine ⟨trivial,?_⟩|refine ⟨⟨rfl,Nat.le_of_ble_eq_true rfl⟩,?_⟩|refine ⟨⟨by kernel_rfl,by kernel_rfl⟩,?_⟩|refine ⟨by decide,?_⟩|refine lit_true ?_|refine lit_false ?_))
      refine ⟨⟨by simp, by simp⟩, ?_⟩
      (repeat ((conv=>whnf);first|refine ω0 ?_|refine ω1 ?_|refine ω2 ?_|refine ω3 ?_|refine ω4 rfl ?_|refine ω5 rfl ?_|refine ω6 ?_|refine ω7 ?_|refine ω8 ?_|refine ⟨rfl,?_⟩|refine ⟨trivial,?_⟩|refine ⟨⟨rfl,Nat.le_of_ble_eq_true rfl⟩,?_⟩|refine ⟨⟨by kernel_rfl,by kernel_rfl⟩,?_⟩|refine ⟨by decide,?_⟩|refine lit_true ?_|refine lit_false ?_))
      refine aop_callF (xs := [inss l, int (n + 1 : Nat), int (l.getD n ins0).k, u32 (4294967295 : Nat), tsts ts, int (st + 1 : Nat)]) [] [] 0 rfl rfl rfl rfl ⟨AVle.refl _, AVle.refl _, le_int wk, AVle.refl _, AVle.refl _, le_int hw1, trivial⟩ (ih (n + 1) (l.getD n ins0).k (4294967295) ts (st + 1) nx5 hnx.2 (by omega) (by omega) hk32 (by decide) (by omega) (by omega) hcnt) trivial trivial rfl fun r h' hq => ?_
      obtain ⟨oi, nx', nn', rfl, rfl⟩ := hq
      (repeat ((conv=>whnf);first|refine ω0 ?_|refine ω1 ?_|refine ω2 ?_|refine ω3 ?_|refine ω4 rfl ?_|refine ω5 rfl ?_|refine ω6 ?_|refine ω7 ?_|refine ω8 ?_|refine ⟨rfl,?_⟩|refine ⟨trivial,?_⟩|refine ⟨⟨rfl,Nat.le_of_ble_eq_true rfl⟩,?_⟩|refine ⟨⟨by kernel_rfl,by kernel_rfl⟩,?_⟩|refine ⟨by decide,?_⟩|refine lit_true ?_|refine lit_false ?_))
      exact ret_is rfl ⟨_, _, AVle.refl _, HLe.refl _, oi, nx', _, rfl, rfl⟩
    · have hnr : Tells Try.prog 60 [inss l, int n] (ints [n + 1 + (l.getD n ins0).k]) := hnr
      have hnx : n < n + 1 + (l.getD n ins0).k ∧ n + 1 + (l.getD n ins0).k < l.length := hnx _ (List.mem_singleton.2 rfl)
      have hcnt : cntF l f (n + 1 + (l.getD n ins0).k) ≤ 4096 := hcnt
      refine aop_tells rfl rfl hnr ⟨AVle.refl _, AVle.refl _, trivial⟩ fun nx5 => ?_
      (repeat ((conv=>whnf);first|refine ω0 ?_|refine ω1 ?_|refine ω2 ?_|refine ω3 ?_|refine ω4 rfl ?_|refine ω5 rfl ?_|refine ω6 ?_|refine ω7 ?_|refine ω8 ?_|refine ⟨rfl,?_⟩|refine ⟨trivial,?_⟩|refine ⟨⟨rfl,Nat.le_of_ble_eq_true rfl⟩,?_⟩|refine ⟨⟨by kernel_rfl,by kernel_rfl⟩,?_⟩|refine ⟨by decide,?_⟩|refine lit_true ?_|refine lit_false ?_))
      refine ⟨⟨by simp, by simp⟩, ?_⟩
      (repeat ((conv=>whnf);first|refine ω0 ?_|refine ω1 ?_|refine ω2 ?_|refine ω3 ?_|refine ω4 rfl ?_|refine ω5 rfl ?_|refine ω6 ?_|refine ω7 ?_|refine ω8 ?_|refine ⟨rfl,?_⟩|refine ⟨trivial,?_⟩|refine ⟨⟨rfl,Nat.le_of_ble_eq_true rfl⟩,?_⟩|refine ⟨⟨by kernel_rfl,by kernel_rfl⟩,?_⟩|refine ⟨by decide,?_⟩|refine lit_true ?_|refine lit_false ?_))
      refine aop_callF (xs := [inss l, int (n + 1 + (l.getD n ins0).k : Nat), int a, u32 (m : Nat), tsts ts, int (st + 1 : Nat)]) [] [] 0 rfl rfl rfl rfl ⟨AVle.refl _, AVle.refl _, AVle.refl _, AVle.refl _, AVle.refl _, le_int hw1, trivial⟩ (ih (n + 1 + (l.getD n ins0).k) a (m) ts (st + 1) nx5 hnx.2 (by omega) (by omega) ha hm (by omega) (by omega) hcnt) trivial trivial rfl fun r h' hq => ?_
      obtain ⟨oi, nx', nn', rfl, rfl⟩ := hq
      (repeat ((conv=>whnf);first|refine ω0 ?_|refine ω1 ?_|refine ω2 ?_|refine ω3 ?_|refine ω4 rfl ?_|refine ω5 rfl ?_|refine ω6 ?_|refine ω7 ?_|refine ω8 ?_|refine ⟨rfl,?_⟩|refine ⟨trivial,?_⟩|refine ⟨⟨rfl,Nat.le_of_ble_eq_true rfl⟩,?_⟩|refine ⟨⟨by kernel_rfl,by kernel_rfl⟩,?_⟩|refine ⟨by decide,?_⟩|refine lit_true ?_|refine lit_false ?_))
      exact ret_is rfl ⟨_, _, AVle.refl _, HLe.refl _, oi, nx', _, rfl, rfl⟩
    · have hnr : Tells Try.prog 60 [inss l, int n] (ints []) := hnr
      refine aop_tells rfl rfl hnr ⟨AVle.refl _, AVle.refl _, trivial⟩ fun nx5 => ?_
      (repeat ((conv=>whnf);first|refine ω0 ?_|refine ω1 ?_|refine ω2 ?_|refine ω3 ?_|refine ω4 rfl ?_|refine ω5 rfl ?_|refine ω6 ?_|refine ω7 ?_|refine ω8 ?_|refine ⟨rfl,?_⟩|refine ⟨trivial,?_⟩|refine ⟨⟨rfl,Nat.le_of_ble_eq_true rfl⟩,?_⟩|refine ⟨⟨by kernel_rfl,by kernel_rfl⟩,?_⟩|refine ⟨by decide,?_⟩|refine lit_true ?_|refine lit_false ?_))
      refine ret_is rfl ⟨.os 3 1 (pthF [⟨ts, st + 1, (l.getD n ins0).k⟩]) none, _, AVle.os_fun (fun k hk => ?_), HLe.refl _, none, _, _, rfl, rfl⟩
      obtain rfl : k = 0 := by omega
      show AV.ag [tsts ts, int (IntKind.i64.wrap ((st : Int) + 1)), u32 (l.getD n ins0).k] = _
      rw [hw1]
      rfl
    · have hnr : Tells Try.prog 60 [inss l, int n] (ints [n + 1]) := hnr
      have hnx : n < n + 1 ∧ n + 1 < l.length := hnx _ (List.mem_singleton.2 rfl)
      have hcnt : cntF l f (n + 1) ≤ 4096 := hcnt
      refine aop_tells rfl rfl hnr ⟨AVle.refl _, AVle.refl _, trivial⟩ fun nx5 => ?_
      (repeat ((conv=>whnf);first|refine ω0 ?_|refine ω1 ?_|refine ω2 ?_|refine ω3 ?_|refine ω4 rfl ?_|refine ω5 rfl ?_|refine ω6 ?_|refine ω7 ?_|refine ω8 ?_|refine ⟨rfl,?_⟩|refine ⟨trivial,?_⟩|refine ⟨⟨rfl,Nat.le_of_ble_eq_true rfl⟩,?_⟩|refine ⟨⟨by kernel_rfl,by kernel_rfl⟩,?_⟩|refine ⟨by decide,?_⟩|refine lit_true ?_|refine lit_false ?_))
      refine ⟨⟨by simp, by simp⟩, ?_⟩
      (repeat ((conv=>whnf);first|refine ω0 ?_|refine ω1 ?_|refine ω2 ?_|refine ω3 ?_|refine ω4 rfl ?_|refine ω5 rfl ?_|refine ω6 ?_|refine ω7 ?_|refine ω8 ?_|refine ⟨rfl,?_⟩|refine ⟨trivial,?_⟩|refine ⟨⟨rfl,Nat.le_of_ble_eq_true rfl⟩,?_⟩|refine ⟨⟨by kernel_rfl,by kernel_rfl⟩,?_⟩|refine ⟨by decide,?_⟩|refine lit_true ?_|refine lit_false ?_))
      refine aop_callF (xs := [inss l, int (n + 1 : Nat), int a, u32 (m &&& (l.getD n ins0).k : Nat), tsts ts, int (st + 1 : Nat)]) [] [] 0 rfl rfl rfl rfl ⟨AVle.refl _, AVle.refl _, AVle.refl _, le_int (u32_and hm hk32), AVle.refl _, le_int hw1, trivial⟩ (ih (n + 1) a (m &&& (l.getD n ins0).k) ts (st + 1) nx5 hnx.2 (by omega) (by omega) ha (Nat.lt_of_le_of_lt Nat.and_le_left hm) (by omega) (by omega) hcnt) trivial trivial rfl fun r h' hq => ?_
      obtain ⟨oi, nx', nn', rfl, rfl⟩ := hq
      (repeat ((conv=>whnf);first|refine ω0 ?_|refine ω1 ?_|refine ω2 ?_|refine ω3 ?_|refine ω4 rfl ?_|refine ω5 rfl ?_|refine ω6 ?_|refine ω7 ?_|refine ω8 ?_|refine ⟨rfl,?_⟩|refine ⟨trivial,?_⟩|refine ⟨⟨rfl,Nat.le_of_ble_eq_true rfl⟩,?_⟩|refine ⟨⟨by kernel_rfl,by kernel_rfl⟩,?_⟩|refine ⟨by decide,?_⟩|refine lit_true ?_|refine lit_false ?_))
      exact ret_is rfl ⟨_, _, AVle.refl _, HLe.refl _, oi, nx', _, rfl, rfl⟩
end Go.Proofs.W

namespace Go.Proofs.W
open Go.Vl
set_option maxRecDepth 100000

def allP (l : List Ins) : List Pth × Nat := if plainB l = true then (if (pathsI l).length ≤ 4096 then (pathsI l, 0) else ([], 3)) else ([], 18)
theorem all_paths_spec (l : List Ins) (hok : okL l) (hl : l.length ≤ 1000000000) : Tells Try.prog 23 [inss l] (.tup [pths (allP l).1, int (allP l).2]) := by
  refine tells_of_aw Try.func23 rfl rfl fun nx => ?_
  (repeat ((conv=>whnf);first|refine ω0 ?_|refine ω1 ?_|refine ω2 ?_|refine ω3 ?_|refine ω4 rfl ?_|refine ω5 rfl ?_|refine ω6 ?_|refine ω7 ?_|refine ω8 ?_|refine ⟨rfl,?_⟩|refine ⟨trivial,?_⟩|refine ⟨⟨rfl,Nat.le_of_ble_eq_true rfl⟩,?_⟩|refine ⟨⟨by kernel_rfl,by kernel_rfl⟩,?_⟩|refine ⟨by decide,?_⟩|refine lit_true ?_|refine lit_false ?_))
  refine aop_tells rfl rfl (plain_spec l hok hl) ⟨AVle.refl _, trivial⟩ fun nx1 => ?_
  (repeat ((conv=>whnf);first|refine ω0 ?_|refine ω1 ?_|refine ω2 ?_|refine ω3 ?_|refine ω4 rfl ?_|refine ω5 rfl ?_|refine ω6 ?_|refine ω7 ?_|refine ω8 ?_|refine ⟨rfl,?_⟩|refine ⟨trivial,?_⟩|refine ⟨⟨rfl,Nat.le_of_ble_eq_true rfl⟩,?_⟩|refine ⟨⟨by kernel_rfl,by kernel_rfl⟩,?_⟩|refine ⟨by decide,?_⟩|refine lit_true ?_|refine lit_false ?_))
  intro c hc
  (repeat ((conv=>whnf);first|refine ω0 ?_|refine ω1 ?_|refine ω2 ?_|refine ω3 ?_|refine ω4 rfl ?_|refine ω5 rfl ?_|refine ω6 ?_|refine ω7 ?_|refine ω8 ?_|refine ⟨rfl,?_⟩|refine ⟨trivial,?_⟩|refine ⟨⟨rfl,Nat.le_of_ble_eq_true rfl⟩,?_⟩|refine ⟨⟨by kernel_rfl,by kernel_rfl⟩,?_⟩|refine ⟨by decide,?_⟩|refine lit_true ?_|refine lit_false ?_))
  cases c
  · have hv : allP l = ([], 18) := by unfold allP; rw [← hc]; rfl
    rw [hv]
    (repeat ((conv=>whnf);first|refine ω0 ?_|refine ω1 ?_|refine ω2 ?_|refine ω3 ?_|refine ω4 rfl ?_|refine ω5 rfl ?_|refine ω6 ?_|refine ω7 ?_|refine ω8 ?_|refine ⟨rfl,?_⟩|refine ⟨trivial,?_⟩|refine ⟨⟨rfl,Nat.le_of_ble_eq_true rfl⟩,?_⟩|refine ⟨⟨by kernel_rfl,by kernel_rfl⟩,?_⟩|refine ⟨by decide,?_⟩|refine lit_true ?_|refine lit_false ?_))
    exact ret_tells rfl (AVle.tups (cs := [_, _]) ⟨AVle.os_sl0, AVle.refl _, trivial⟩)
  · have hp := plainB_iff.1 hc.symm
    have hle := hp.formed.le
    have hpos := hp.formed.pos
    (repeat ((conv=>whnf);first|refine ω0 ?_|refine ω1 ?_|refine ω2 ?_|refine ω3 ?_|refine ω4 rfl ?_|refine ω5 rfl ?_|refine ω6 ?_|refine ω7 ?_|refine ω8 ?_|refine ⟨rfl,?_⟩|refine ⟨trivial,?_⟩|refine ⟨⟨rfl,Nat.le_of_ble_eq_true rfl⟩,?_⟩|refine ⟨⟨by kernel_rfl,by kernel_rfl⟩,?_⟩|refine ⟨by decide,?_⟩|refine lit_true ?_|refine lit_false ?_))
    refine aop_callF (h1 := ⟨pB nx nx1 (nx1 + 1) l [] none, [], nx1 + 2, 4⟩) (xs := [int (0 : Nat), tA 0 0 0 0 false, tsts [], int (0 : Nat), .bp (0, nx) 0, .bp (1, nx1) 0, .bp (2, nx1 + 1) 0]) [] [] 3 rfl rfl rfl rfl
      ⟨AVle.refl _, AVle.refl _, AVle.os_sl0, AVle.refl _, AVle.refl _, AVle.refl _, AVle.refl _, trivial⟩ (walk_spec l hok hp nx nx1 (nx1 + 1) l.length 0 0 0 0 0 false [] 0 [] none (nx1 + 2) hpos (by omega) (by simp) (by omega) (by simp) (fun _ => rfl) (by decide))
      ⟨rfl, OwnLe.refl _, rfl, ⟨AVle.os_nil, trivial⟩, rfl, OwnLe.refl _, trivial⟩ trivial rfl fun r h' hq => ?_
    obtain ⟨out', oi', nx', nn', rfl, r1, r2⟩ := hq
    rcases r2 with ⟨r2, rfl, r3⟩ | ⟨r2, rfl⟩
    · have hv : allP l = (pathsI l, 0) := by
        unfold allP; rw [← hc, if_pos rfl, if_pos (by unfold pathsI; simpa using r2)]
      rw [hv]
      (repeat ((conv=>whnf);first|refine ω0 ?_|refine ω1 ?_|refine ω2 ?_|refine ω3 ?_|refine ω4 rfl ?_|refine ω5 rfl ?_|refine ω6 ?_|refine ω7 ?_|refine ω8 ?_|refine ⟨rfl,?_⟩|refine ⟨trivial,?_⟩|refine ⟨⟨rfl,Nat.le_of_ble_eq_true rfl⟩,?_⟩|refine ⟨⟨by kernel_rfl,by kernel_rfl⟩,?_⟩|refine ⟨by decide,?_⟩|refine lit_true ?_|refine lit_false ?_))
      refine ret_tells rfl (AVle.tups (cs := [_, _]) ⟨?_, AVle.refl _, trivial⟩)
      rw [List.nil_append] at r3
      rw [r3]
      exact AVle.os_sl
    · have hv : allP l = ([], 3) := by
        unfold allP; rw [← hc, if_pos rfl, if_neg (by simp at r2; unfold pathsI; omega)]
      rw [hv]
      (repeat ((conv=>whnf);first|refine ω0 ?_|refine ω1 ?_|refine ω2 ?_|refine ω3 ?_|refine ω4 rfl ?_|refine ω5 rfl ?_|refine ω6 ?_|refine ω7 ?_|refine ω8 ?_|refine ⟨rfl,?_⟩|refine ⟨trivial,?_⟩|refine ⟨⟨rfl,Nat.le_of_ble_eq_true rfl⟩,?_⟩|refine ⟨⟨by kernel_rfl,by kernel_rfl⟩,?_⟩|refine ⟨by decide,?_⟩|refine lit_true ?_|refine lit_false ?_))
      exact ret_tells rfl (AVle.tups (cs := [_, _]) ⟨AVle.os_sl0, AVle.refl _, trivial⟩)
end Go.Proofs.W

namespace Go.Proofs.W
open Go.Vl
set_option maxRecDepth 100000

theorem paths_awake : allP [⟨32, 0, 0, 0⟩, ⟨21, 0, 1, 1⟩, ⟨6, 0, 0, 2⟩, ⟨6, 0, 0, 3⟩] = ([⟨[⟨0, 4294967295, 25, 1, true⟩], 3, 2⟩, ⟨[⟨0, 4294967295, 25, 1, false⟩], 3, 3⟩], 0) := by
  have h : plainB [⟨32, 0, 0, 0⟩, ⟨21, 0, 1, 1⟩, ⟨6, 0, 0, 2⟩, ⟨6, 0, 0, 3⟩] = true := by decide +kernel
  unfold allP
  rw [if_pos h]
  rfl
theorem paths27_awake : Tells Try.prog 26 [] (boolA true) := by
  refine tells_of_aw Try.func26 rfl rfl fun nx => ?_
  (repeat ((conv=>whnf);first|refine ω0 ?_|refine ω1 ?_|refine ω2 ?_|refine ω3 ?_|refine ω4 rfl ?_|refine ω5 rfl ?_|refine ω6 ?_|refine ω7 ?_|refine ω8 ?_|refine ⟨rfl,?_⟩|refine ⟨trivial,?_⟩|refine ⟨⟨rfl,Nat.le_of_ble_eq_true rfl⟩,?_⟩|refine ⟨⟨by kernel_rfl,by kernel_rfl⟩,?_⟩|refine ⟨by decide,?_⟩|refine lit_true ?_|refine lit_false ?_))
  refine aop_tells rfl rfl (all_paths_spec [⟨32, 0, 0, 0⟩, ⟨21, 0, 1, 1⟩, ⟨6, 0, 0, 2⟩, ⟨6, 0, 0, 3⟩] (by intro i hi; simp at hi; rcases hi with rfl | rfl | rfl | rfl <;> simp [Ins.ok]) (by decide)) ⟨?_, trivial⟩ fun nx => ?_
  · refine AVle.os_sl.trans (AVle.sl_fun fun k hk => ?_)
    match k, hk with
    | 0, _ => rfl
    | 1, _ => rfl
    | 2, _ => rfl
    | 3, _ => rfl
  rw [paths_awake]
  (repeat ((conv=>whnf);first|refine ω0 ?_|refine ω1 ?_|refine ω2 ?_|refine ω3 ?_|refine ω4 rfl ?_|refine ω5 rfl ?_|refine ω6 ?_|refine ω7 ?_|refine ω8 ?_|refine ⟨rfl,?_⟩|refine ⟨trivial,?_⟩|refine ⟨⟨rfl,Nat.le_of_ble_eq_true rfl⟩,?_⟩|refine ⟨⟨by kernel_rfl,by kernel_rfl⟩,?_⟩|refine ⟨by decide,?_⟩|refine lit_true ?_|refine lit_false ?_))
  exact ret_tells rfl (AVle.refl _)
theorem all27_spec (l : List Ins) (hl : l.length ≤ 1000000) : Tells Try.prog 22 [inss l] (inss l) := by
  refine tells_of_aw Try.func22 rfl rfl fun nx => ?_
  (repeat ((conv=>whnf);first|refine ω0 ?_|refine ω1 ?_|refine ω2 ?_|refine ω3 ?_|refine ω4 rfl ?_|refine ω5 rfl ?_|refine ω6 ?_|refine ω7 ?_|refine ω8 ?_|refine ⟨rfl,?_⟩|refine ⟨trivial,?_⟩|refine ⟨⟨rfl,Nat.le_of_ble_eq_true rfl⟩,?_⟩|refine ⟨⟨by kernel_rfl,by kernel_rfl⟩,?_⟩|refine ⟨by decide,?_⟩|refine lit_true ?_|refine lit_false ?_))
  refine aw_loop (fun s : Nat × Option Nat × Nat => mk 36 [(0, inss l), (3, .os 4 s.1 (fun k => insA (l.getD k ins0)) (nmd s.2.1)), (4, int s.1)] ⟨[], pmOf (nmd s.2.1) (s.1 * 4), s.2.2, 0⟩) (fun s => s.1 ≤ l.length ∧ (s.2.1 = none → s.1 = 0)) (fun s => l.length - s.1) ?_ ?_
  · exact ⟨(0, none, nx), ⟨by simp, fun _ => rfl⟩, ele_mk rfl rfl ⟨AVle.refl _, AVle.os_nil, AVle.refl _, trivial⟩⟩
  · rintro ⟨i, oi, nx2⟩ ⟨h3, h4⟩
    dsimp only at h3 h4
    (repeat ((conv=>whnf);first|refine ω0 ?_|refine ω1 ?_|refine ω2 ?_|refine ω3 ?_|refine ω4 rfl ?_|refine ω5 rfl ?_|refine ω6 ?_|refine ω7 ?_|refine ω8 ?_|refine ⟨rfl,?_⟩|refine ⟨trivial,?_⟩|refine ⟨⟨rfl,Nat.le_of_ble_eq_true rfl⟩,?_⟩|refine ⟨⟨by kernel_rfl,by kernel_rfl⟩,?_⟩|refine ⟨by decide,?_⟩|refine lit_true ?_|refine lit_false ?_))
    intro c h5; cases c
    · have h6 := not_of h5
      dsimp only at h6
      obtain rfl : i = l.length := by omega
      (repeat ((conv=>whnf);first|refine ω0 ?_|refine ω1 ?_|refine ω2 ?_|refine ω3 ?_|refine ω4 rfl ?_|refine ω5 rfl ?_|refine ω6 ?_|refine ω7 ?_|refine ω8 ?_|refine ⟨rfl,?_⟩|refine ⟨trivial,?_⟩|refine ⟨⟨rfl,Nat.le_of_ble_eq_true rfl⟩,?_⟩|refine ⟨⟨by kernel_rfl,by kernel_rfl⟩,?_⟩|refine ⟨by decide,?_⟩|refine lit_true ?_|refine lit_false ?_))
      exact ret_tells rfl AVle.os_sl
    · have h6 := yes_of h5
      dsimp only at h6
      rcases oi with _ | id
      · obtain rfl := h4 rfl
        (repeat ((conv=>whnf);first|refine ω0 ?_|refine ω1 ?_|refine ω2 ?_|refine ω3 ?_|refine ω4 rfl ?_|refine ω5 rfl ?_|refine ω6 ?_|refine ω7 ?_|refine ω8 ?_|refine ⟨rfl,?_⟩|refine ⟨trivial,?_⟩|refine ⟨⟨rfl,Nat.le_of_ble_eq_true rfl⟩,?_⟩|refine ⟨⟨by kernel_rfl,by kernel_rfl⟩,?_⟩|refine ⟨by decide,?_⟩|refine lit_true ?_|refine lit_false ?_))
        (refine aw_draw 23 ?_ ?_ ?_ ?_; (· kernel_rfl); (· kernel_rfl); (· kernel_rfl))
        (repeat ((conv=>whnf);first|refine ω0 ?_|refine ω1 ?_|refine ω2 ?_|refine ω3 ?_|refine ω4 rfl ?_|refine ω5 rfl ?_|refine ω6 ?_|refine ω7 ?_|refine ω8 ?_|refine ⟨rfl,?_⟩|refine ⟨trivial,?_⟩|refine ⟨⟨rfl,Nat.le_of_ble_eq_true rfl⟩,?_⟩|refine ⟨⟨by kernel_rfl,by kernel_rfl⟩,?_⟩|refine ⟨by decide,?_⟩|refine lit_true ?_|refine lit_false ?_))
        refine ⟨⟨by dsimp only; omega, by dsimp only; omega⟩, ?_⟩
        (repeat ((conv=>whnf);first|refine ω0 ?_|refine ω1 ?_|refine ω2 ?_|refine ω3 ?_|refine ω4 rfl ?_|refine ω5 rfl ?_|refine ω6 ?_|refine ω7 ?_|refine ω8 ?_|refine ⟨rfl,?_⟩|refine ⟨trivial,?_⟩|refine ⟨⟨rfl,Nat.le_of_ble_eq_true rfl⟩,?_⟩|refine ⟨⟨by kernel_rfl,by kernel_rfl⟩,?_⟩|refine ⟨by decide,?_⟩|refine lit_true ?_|refine lit_false ?_))
        refine ⟨⟨by dsimp only; omega, by dsimp only; omega⟩, ?_⟩
        (repeat ((conv=>whnf);first|refine ω0 ?_|refine ω1 ?_|refine ω2 ?_|refine ω3 ?_|refine ω4 rfl ?_|refine ω5 rfl ?_|refine ω6 ?_|refine ω7 ?_|refine ω8 ?_|refine ⟨rfl,?_⟩|refine ⟨trivial,?_⟩|refine ⟨⟨rfl,Nat.le_of_ble_eq_true rfl⟩,?_⟩|refine ⟨⟨by kernel_rfl,by kernel_rfl⟩,?_⟩|refine ⟨by decide,?_⟩|refine lit_true ?_|refine lit_false ?_))
        refine ⟨⟨by dsimp only; omega, by dsimp only; omega⟩, ?_⟩
        (repeat ((conv=>whnf);first|refine ω0 ?_|refine ω1 ?_|refine ω2 ?_|refine ω3 ?_|refine ω4 rfl ?_|refine ω5 rfl ?_|refine ω6 ?_|refine ω7 ?_|refine ω8 ?_|refine ⟨rfl,?_⟩|refine ⟨trivial,?_⟩|refine ⟨⟨rfl,Nat.le_of_ble_eq_true rfl⟩,?_⟩|refine ⟨⟨by kernel_rfl,by kernel_rfl⟩,?_⟩|refine ⟨by decide,?_⟩|refine lit_true ?_|refine lit_false ?_))
        refine ⟨⟨by dsimp only; omega, by dsimp only; omega⟩, ?_⟩
        (repeat ((conv=>whnf);first|refine ω0 ?_|refine ω1 ?_|refine ω2 ?_|refine ω3 ?_|refine ω4 rfl ?_|refine ω5 rfl ?_|refine ω6 ?_|refine ω7 ?_|refine ω8 ?_|refine ⟨rfl,?_⟩|refine ⟨trivial,?_⟩|refine ⟨⟨rfl,Nat.le_of_ble_eq_true rfl⟩,?_⟩|refine ⟨⟨by kernel_rfl,by kernel_rfl⟩,?_⟩|refine ⟨by decide,?_⟩|refine lit_true ?_|refine lit_false ?_))
        refine ⟨oneRow_one rfl, by show (0 + 1) * 8 ≤ _; omega, by dsimp only; omega, ?_⟩
        (repeat ((conv=>whnf);first|refine ω0 ?_|refine ω1 ?_|refine ω2 ?_|refine ω3 ?_|refine ω4 rfl ?_|refine ω5 rfl ?_|refine ω6 ?_|refine ω7 ?_|refine ω8 ?_|refine ⟨rfl,?_⟩|refine ⟨trivial,?_⟩|refine ⟨⟨rfl,Nat.le_of_ble_eq_true rfl⟩,?_⟩|refine ⟨⟨by kernel_rfl,by kernel_rfl⟩,?_⟩|refine ⟨by decide,?_⟩|refine lit_true ?_|refine lit_false ?_))
        exact back (0 + 1, some nx2, nx2 + 1) ⟨by dsimp only; omega, (fun h => by cases h)⟩ (by dsimp only; omega) (ele_keep rfl rfl .slnil (.cons_cons _ .slnil) ⟨AVle.refl _, AVle.os_fun (appF_one (fun k hk => absurd hk (Nat.not_lt_zero _)) rfl), le_int (wrap_succ (by dsimp only; omega)), trivial⟩)
      · (repeat ((conv=>whnf);first|refine ω0 ?_|refine ω1 ?_|refine ω2 ?_|refine ω3 ?_|refine ω4 rfl ?_|refine ω5 rfl ?_|refine ω6 ?_|refine ω7 ?_|refine ω8 ?_|refine ⟨rfl,?_⟩|refine ⟨trivial,?_⟩|refine ⟨⟨rfl,Nat.le_of_ble_eq_true rfl⟩,?_⟩|refine ⟨⟨by kernel_rfl,by kernel_rfl⟩,?_⟩|refine ⟨by decide,?_⟩|refine lit_true ?_|refine lit_false ?_))
        (refine aw_draw 23 ?_ ?_ ?_ ?_; (· kernel_rfl); (· kernel_rfl); (· kernel_rfl))
        (repeat ((conv=>whnf);first|refine ω0 ?_|refine ω1 ?_|refine ω2 ?_|refine ω3 ?_|refine ω4 rfl ?_|refine ω5 rfl ?_|refine ω6 ?_|refine ω7 ?_|refine ω8 ?_|refine ⟨rfl,?_⟩|refine ⟨trivial,?_⟩|refine ⟨⟨rfl,Nat.le_of_ble_eq_true rfl⟩,?_⟩|refine ⟨⟨by kernel_rfl,by kernel_rfl⟩,?_⟩|refine ⟨by decide,?_⟩|refine lit_true ?_|refine lit_false ?_))
        refine ⟨⟨by dsimp only; omega, by dsimp only; omega⟩, ?_⟩
        (repeat ((conv=>whnf);first|refine ω0 ?_|refine ω1 ?_|refine ω2 ?_|refine ω3 ?_|refine ω4 rfl ?_|refine ω5 rfl ?_|refine ω6 ?_|refine ω7 ?_|refine ω8 ?_|refine ⟨rfl,?_⟩|refine ⟨trivial,?_⟩|refine ⟨⟨rfl,Nat.le_of_ble_eq_true rfl⟩,?_⟩|refine ⟨⟨by kernel_rfl,by kernel_rfl⟩,?_⟩|refine ⟨by decide,?_⟩|refine lit_true ?_|refine lit_false ?_))
        refine ⟨⟨by dsimp only; omega, by dsimp only; omega⟩, ?_⟩
        (repeat ((conv=>whnf);first|refine ω0 ?_|refine ω1 ?_|refine ω2 ?_|refine ω3 ?_|refine ω4 rfl ?_|refine ω5 rfl ?_|refine ω6 ?_|refine ω7 ?_|refine ω8 ?_|refine ⟨rfl,?_⟩|refine ⟨trivial,?_⟩|refine ⟨⟨rfl,Nat.le_of_ble_eq_true rfl⟩,?_⟩|refine ⟨⟨by kernel_rfl,by kernel_rfl⟩,?_⟩|refine ⟨by decide,?_⟩|refine lit_true ?_|refine lit_false ?_))
        refine ⟨⟨by dsimp only; omega, by dsimp only; omega⟩, ?_⟩
        (repeat ((conv=>whnf);first|refine ω0 ?_|refine ω1 ?_|refine ω2 ?_|refine ω3 ?_|refine ω4 rfl ?_|refine ω5 rfl ?_|refine ω6 ?_|refine ω7 ?_|refine ω8 ?_|refine ⟨rfl,?_⟩|refine ⟨trivial,?_⟩|refine ⟨⟨rfl,Nat.le_of_ble_eq_true rfl⟩,?_⟩|refine ⟨⟨by kernel_rfl,by kernel_rfl⟩,?_⟩|refine ⟨by decide,?_⟩|refine lit_true ?_|refine lit_false ?_))
        refine ⟨⟨by dsimp only; omega, by dsimp only; omega⟩, ?_⟩
        (repeat ((conv=>whnf);first|refine ω0 ?_|refine ω1 ?_|refine ω2 ?_|refine ω3 ?_|refine ω4 rfl ?_|refine ω5 rfl ?_|refine ω6 ?_|refine ω7 ?_|refine ω8 ?_|refine ⟨rfl,?_⟩|refine ⟨trivial,?_⟩|refine ⟨⟨rfl,Nat.le_of_ble_eq_true rfl⟩,?_⟩|refine ⟨⟨by kernel_rfl,by kernel_rfl⟩,?_⟩|refine ⟨by decide,?_⟩|refine lit_true ?_|refine lit_false ?_))
        refine ⟨oneRow_one rfl, by show (i + 1) * 8 ≤ _; omega, by dsimp only; omega, ?_⟩
        (repeat ((conv=>whnf);first|refine ω0 ?_|refine ω1 ?_|refine ω2 ?_|refine ω3 ?_|refine ω4 rfl ?_|refine ω5 rfl ?_|refine ω6 ?_|refine ω7 ?_|refine ω8 ?_|refine ⟨rfl,?_⟩|refine ⟨trivial,?_⟩|refine ⟨⟨rfl,Nat.le_of_ble_eq_true rfl⟩,?_⟩|refine ⟨⟨by kernel_rfl,by kernel_rfl⟩,?_⟩|refine ⟨by decide,?_⟩|refine lit_true ?_|refine lit_false ?_))
        exact back (i + 1, some nx2, nx2 + 1) ⟨by dsimp only; omega, (fun h => by cases h)⟩ (by dsimp only; omega) (ele_keep rfl rfl .slnil (.cons_cons _ .slnil) ⟨AVle.refl _, AVle.os_fun (appF_one (fun k hk => rfl) rfl), le_int (wrap_succ (by dsimp only; omega)), trivial⟩)
end Go.Proofs.W

namespace Go.Proofs.W
open Go.Vl
set_option maxRecDepth 100000

theorem pathsF_small {l : List Ins} : ∀ f n a m ts st, ∀ p ∈ pathsF l f n a m ts st, p.tests.length ≤ ts.length + f
  | 0, n, a, m, ts, st, p, hp => by cases hp
  | f + 1, n, a, m, ts, st, p, hp => by
    unfold pathsF at hp
    split at hp
    · obtain rfl := List.mem_singleton.1 hp
      dsimp only; omega
    · split at hp
      · have := pathsF_small f _ _ _ _ _ p hp; omega
      · split at hp
        · have := pathsF_small f _ _ _ _ _ p hp; omega
        · split at hp
          · rcases List.mem_append.1 hp with hp | hp
            · have := pathsF_small f _ _ _ _ _ p hp; simp at this; omega
            · have := pathsF_small f _ _ _ _ _ p hp; simp at this; omega
          · have := pathsF_small f _ _ _ _ _ p hp; omega
theorem pathsI_small {l : List Ins} (hP : Plain l) {p : Pth} (hp : p ∈ pathsI l) : p.tests.length ≤ 4096 := by
  have h1 := pathsF_small _ _ _ _ _ _ p hp
  have h2 := hP.formed.le
  simp at h1
  omega
theorem psame_true (p : Pth) (hl : p.tests.length ≤ 1000000) : Tells Try.prog 29 [pthA p, pthA p] (boolA true) := by
  obtain ⟨L, n, v⟩ := p
  dsimp only at hl
  refine tells_of_aw Try.func29 rfl rfl fun nx => ?_
  (repeat ((conv=>whnf);first|refine ω0 ?_|refine ω1 ?_|refine ω2 ?_|refine ω3 ?_|refine ω4 rfl ?_|refine ω5 rfl ?_|refine ω6 ?_|refine ω7 ?_|refine ω8 ?_|refine ⟨rfl,?_⟩|refine ⟨trivial,?_⟩|refine ⟨⟨rfl,Nat.le_of_ble_eq_true rfl⟩,?_⟩|refine ⟨⟨by kernel_rfl,by kernel_rfl⟩,?_⟩|refine ⟨by decide,?_⟩|refine lit_true ?_|refine lit_false ?_))
  (intro c hc; obtain rfl : c = false := hc.trans (bne_self_eq_false _); (repeat ((conv=>whnf);first|refine ω0 ?_|refine ω1 ?_|refine ω2 ?_|refine ω3 ?_|refine ω4 rfl ?_|refine ω5 rfl ?_|refine ω6 ?_|refine ω7 ?_|refine ω8 ?_|refine ⟨rfl,?_⟩|refine ⟨trivial,?_⟩|refine ⟨⟨rfl,Nat.le_of_ble_eq_true rfl⟩,?_⟩|refine ⟨⟨by kernel_rfl,by kernel_rfl⟩,?_⟩|refine ⟨by decide,?_⟩|refine lit_true ?_|refine lit_false ?_)))
  (intro c hc; obtain rfl : c = false := hc.trans (bne_self_eq_false _); (repeat ((conv=>whnf);first|refine ω0 ?_|refine ω1 ?_|refine ω2 ?_|refine ω3 ?_|refine ω4 rfl ?_|refine ω5 rfl ?_|refine ω6 ?_|refine ω7 ?_|refine ω8 ?_|refine ⟨rfl,?_⟩|refine ⟨trivial,?_⟩|refine ⟨⟨rfl,Nat.le_of_ble_eq_true rfl⟩,?_⟩|refine ⟨⟨by kernel_rfl,by kernel_rfl⟩,?_⟩|refine ⟨by decide,?_⟩|refine lit_true ?_|refine lit_false ?_)))
  (intro c hc; obtain rfl : c = false := hc.trans (bne_self_eq_false _); (repeat ((conv=>whnf);first|refine ω0 ?_|refine ω1 ?_|refine ω2 ?_|refine ω3 ?_|refine ω4 rfl ?_|refine ω5 rfl ?_|refine ω6 ?_|refine ω7 ?_|refine ω8 ?_|refine ⟨rfl,?_⟩|refine ⟨trivial,?_⟩|refine ⟨⟨rfl,Nat.le_of_ble_eq_true rfl⟩,?_⟩|refine ⟨⟨by kernel_rfl,by kernel_rfl⟩,?_⟩|refine ⟨by decide,?_⟩|refine lit_true ?_|refine lit_false ?_)))
  refine aw_loop (fun y : Nat × Nat => mk 57 [(2, .bp (0, nx) 0), (3, .bp (1, nx + 1) 0), (5, int y.1)] ⟨[((1, nx + 1), .c [tsts L, int n, u32 v]), ((0, nx), .c [tsts L, int n, u32 v])], [], y.2, 2⟩) (fun y => y.1 ≤ L.length) (fun y => L.length - y.1) ?_ ?_
  · exact ⟨(0, nx + 2), Nat.zero_le _, ele_keep rfl rfl (List.Sublist.refl _) (List.Sublist.refl _) ⟨AVle.refl _, AVle.refl _, AVle.refl _, trivial⟩⟩
  · rintro ⟨i, nx1⟩ h1
    dsimp only at h1
    (repeat ((conv=>whnf);first|refine ω0 ?_|refine ω1 ?_|refine ω2 ?_|refine ω3 ?_|refine ω4 rfl ?_|refine ω5 rfl ?_|refine ω6 ?_|refine ω7 ?_|refine ω8 ?_|refine ⟨rfl,?_⟩|refine ⟨trivial,?_⟩|refine ⟨⟨rfl,Nat.le_of_ble_eq_true rfl⟩,?_⟩|refine ⟨⟨by kernel_rfl,by kernel_rfl⟩,?_⟩|refine ⟨by decide,?_⟩|refine lit_true ?_|refine lit_false ?_))
    intro c g; cases c
    · have g := not_of g
      dsimp only at g
      (repeat ((conv=>whnf);first|refine ω0 ?_|refine ω1 ?_|refine ω2 ?_|refine ω3 ?_|refine ω4 rfl ?_|refine ω5 rfl ?_|refine ω6 ?_|refine ω7 ?_|refine ω8 ?_|refine ⟨rfl,?_⟩|refine ⟨trivial,?_⟩|refine ⟨⟨rfl,Nat.le_of_ble_eq_true rfl⟩,?_⟩|refine ⟨⟨by kernel_rfl,by kernel_rfl⟩,?_⟩|refine ⟨by decide,?_⟩|refine lit_true ?_|refine lit_false ?_))
      exact ret_tells rfl (AVle.refl _)
    · have g := yes_of g
      dsimp only at g
      have hi : i < L.length := by omega
      (repeat ((conv=>whnf);first|refine ω0 ?_|refine ω1 ?_|refine ω2 ?_|refine ω3 ?_|refine ω4 rfl ?_|refine ω5 rfl ?_|refine ω6 ?_|refine ω7 ?_|refine ω8 ?_|refine ⟨rfl,?_⟩|refine ⟨trivial,?_⟩|refine ⟨⟨rfl,Nat.le_of_ble_eq_true rfl⟩,?_⟩|refine ⟨⟨by kernel_rfl,by kernel_rfl⟩,?_⟩|refine ⟨by decide,?_⟩|refine lit_true ?_|refine lit_false ?_))
      refine ⟨⟨by first | omega | (dsimp only; omega), by first | omega | (dsimp only; omega)⟩, ?_⟩
      (repeat ((conv=>whnf);first|refine ω0 ?_|refine ω1 ?_|refine ω2 ?_|refine ω3 ?_|refine ω4 rfl ?_|refine ω5 rfl ?_|refine ω6 ?_|refine ω7 ?_|refine ω8 ?_|refine ⟨rfl,?_⟩|refine ⟨trivial,?_⟩|refine ⟨⟨rfl,Nat.le_of_ble_eq_true rfl⟩,?_⟩|refine ⟨⟨by kernel_rfl,by kernel_rfl⟩,?_⟩|refine ⟨by decide,?_⟩|refine lit_true ?_|refine lit_false ?_))
      (refine aw_draw 17 ?_ ?_ ?_ ?_; (· kernel_rfl); (· kernel_rfl); (· kernel_rfl))
      (repeat ((conv=>whnf);first|refine ω0 ?_|refine ω1 ?_|refine ω2 ?_|refine ω3 ?_|refine ω4 rfl ?_|refine ω5 rfl ?_|refine ω6 ?_|refine ω7 ?_|refine ω8 ?_|refine ⟨rfl,?_⟩|refine ⟨trivial,?_⟩|refine ⟨⟨rfl,Nat.le_of_ble_eq_true rfl⟩,?_⟩|refine ⟨⟨by kernel_rfl,by kernel_rfl⟩,?_⟩|refine ⟨by decide,?_⟩|refine lit_true ?_|refine lit_false ?_))
      refine ⟨⟨by first | omega | (dsimp only; omega), by first | omega | (dsimp only; omega)⟩, ?_⟩
      (repeat ((conv=>whnf);first|refine ω0 ?_|refine ω1 ?_|refine ω2 ?_|refine ω3 ?_|refine ω4 rfl ?_|refine ω5 rfl ?_|refine ω6 ?_|refine ω7 ?_|refine ω8 ?_|refine ⟨rfl,?_⟩|refine ⟨trivial,?_⟩|refine ⟨⟨rfl,Nat.le_of_ble_eq_true rfl⟩,?_⟩|refine ⟨⟨by kernel_rfl,by kernel_rfl⟩,?_⟩|refine ⟨by decide,?_⟩|refine lit_true ?_|refine lit_false ?_))
      intro cb hcb
      (repeat ((conv=>whnf);first|refine ω0 ?_|refine ω1 ?_|refine ω2 ?_|refine ω3 ?_|refine ω4 rfl ?_|refine ω5 rfl ?_|refine ω6 ?_|refine ω7 ?_|refine ω8 ?_|refine ⟨rfl,?_⟩|refine ⟨trivial,?_⟩|refine ⟨⟨rfl,Nat.le_of_ble_eq_true rfl⟩,?_⟩|refine ⟨⟨by kernel_rfl,by kernel_rfl⟩,?_⟩|refine ⟨by decide,?_⟩|refine lit_true ?_|refine lit_false ?_))
      intro c hc
      obtain rfl : c = false := by rw [hc, hcb]; simp
      (repeat ((conv=>whnf);first|refine ω0 ?_|refine ω1 ?_|refine ω2 ?_|refine ω3 ?_|refine ω4 rfl ?_|refine ω5 rfl ?_|refine ω6 ?_|refine ω7 ?_|refine ω8 ?_|refine ⟨rfl,?_⟩|refine ⟨trivial,?_⟩|refine ⟨⟨rfl,Nat.le_of_ble_eq_true rfl⟩,?_⟩|refine ⟨⟨by kernel_rfl,by kernel_rfl⟩,?_⟩|refine ⟨by decide,?_⟩|refine lit_true ?_|refine lit_false ?_))
      exact back (i + 1, _) (by first | omega | (dsimp only at *; omega) | (simp; done) | (simp; omega)) (by first | omega | (dsimp only at *; omega) | (simp; done) | (simp; omega)) (ele_keep rfl rfl (.cons _ (List.Sublist.refl _)) (List.Sublist.refl _) ⟨AVle.refl _, AVle.refl _, le_int (wrap_succ (by first | omega | (dsimp only at *; omega) | (simp; done) | (simp; omega))), trivial⟩)
theorem pathstell_no (l : List Ins) (hok : okL l) (hl2 : l.length ≤ 40) (hp : plainB l = false) : PCall Try.prog 4 [inss l] (fun r => r = .v (.bool true)) := by
  have h1 := all_paths_spec l hok (by omega)
  rw [show allP l = ([], 18) by unfold allP; rw [if_neg (by rw [hp]; simp)]] at h1
  have h2 := plainR_spec l hok (by omega)
  have h3 := plain_spec l hok (by omega)
  rw [hp] at h2 h3
  refine pcall_of_aw Try.func4 rfl rfl fun nx => ?_
  (repeat ((conv=>whnf);first|refine ω0 ?_|refine ω1 ?_|refine ω2 ?_|refine ω3 ?_|refine ω4 rfl ?_|refine ω5 rfl ?_|refine ω6 ?_|refine ω7 ?_|refine ω8 ?_|refine ⟨rfl,?_⟩|refine ⟨trivial,?_⟩|refine ⟨⟨rfl,Nat.le_of_ble_eq_true rfl⟩,?_⟩|refine ⟨⟨by kernel_rfl,by kernel_rfl⟩,?_⟩|refine ⟨by decide,?_⟩|refine lit_true ?_|refine lit_false ?_))
  (intro c hc; obtain rfl : c = false := hc.trans (by first | exact decide_eq_false (by omega) | (simp; omega)); (repeat ((conv=>whnf);first|refine ω0 ?_|refine ω1 ?_|refine ω2 ?_|refine ω3 ?_|refine ω4 rfl ?_|refine ω5 rfl ?_|refine ω6 ?_|refine ω7 ?_|refine ω8 ?_|refine ⟨rfl,?_⟩|refine ⟨trivial,?_⟩|refine ⟨⟨rfl,Nat.le_of_ble_eq_true rfl⟩,?_⟩|refine ⟨⟨by kernel_rfl,by kernel_rfl⟩,?_⟩|refine ⟨by decide,?_⟩|refine lit_true ?_|refine lit_false ?_)))
  refine aop_tells rfl rfl (all27_spec l (by omega)) ⟨AVle.refl _, trivial⟩ fun nx1 => ?_
  (repeat ((conv=>whnf);first|refine ω0 ?_|refine ω1 ?_|refine ω2 ?_|refine ω3 ?_|refine ω4 rfl ?_|refine ω5 rfl ?_|refine ω6 ?_|refine ω7 ?_|refine ω8 ?_|refine ⟨rfl,?_⟩|refine ⟨trivial,?_⟩|refine ⟨⟨rfl,Nat.le_of_ble_eq_true rfl⟩,?_⟩|refine ⟨⟨by kernel_rfl,by kernel_rfl⟩,?_⟩|refine ⟨by decide,?_⟩|refine lit_true ?_|refine lit_false ?_))
  refine aop_tells rfl rfl h1 ⟨AVle.refl _, trivial⟩ fun nx2 => ?_
  (repeat ((conv=>whnf);first|refine ω0 ?_|refine ω1 ?_|refine ω2 ?_|refine ω3 ?_|refine ω4 rfl ?_|refine ω5 rfl ?_|refine ω6 ?_|refine ω7 ?_|refine ω8 ?_|refine ⟨rfl,?_⟩|refine ⟨trivial,?_⟩|refine ⟨⟨rfl,Nat.le_of_ble_eq_true rfl⟩,?_⟩|refine ⟨⟨by kernel_rfl,by kernel_rfl⟩,?_⟩|refine ⟨by decide,?_⟩|refine lit_true ?_|refine lit_false ?_))
  refine aop_tells rfl rfl h2 ⟨AVle.refl _, trivial⟩ fun nx3 => ?_
  (repeat ((conv=>whnf);first|refine ω0 ?_|refine ω1 ?_|refine ω2 ?_|refine ω3 ?_|refine ω4 rfl ?_|refine ω5 rfl ?_|refine ω6 ?_|refine ω7 ?_|refine ω8 ?_|refine ⟨rfl,?_⟩|refine ⟨trivial,?_⟩|refine ⟨⟨rfl,Nat.le_of_ble_eq_true rfl⟩,?_⟩|refine ⟨⟨by kernel_rfl,by kernel_rfl⟩,?_⟩|refine ⟨by decide,?_⟩|refine lit_true ?_|refine lit_false ?_))
  refine aop_tells rfl rfl h3 ⟨AVle.refl _, trivial⟩ fun nx4 => ?_
  (repeat ((conv=>whnf);first|refine ω0 ?_|refine ω1 ?_|refine ω2 ?_|refine ω3 ?_|refine ω4 rfl ?_|refine ω5 rfl ?_|refine ω6 ?_|refine ω7 ?_|refine ω8 ?_|refine ⟨rfl,?_⟩|refine ⟨trivial,?_⟩|refine ⟨⟨rfl,Nat.le_of_ble_eq_true rfl⟩,?_⟩|refine ⟨⟨by kernel_rfl,by kernel_rfl⟩,?_⟩|refine ⟨by decide,?_⟩|refine lit_true ?_|refine lit_false ?_))
  refine aop_tells rfl rfl paths27_awake trivial fun nx5 => ?_
  (repeat ((conv=>whnf);first|refine ω0 ?_|refine ω1 ?_|refine ω2 ?_|refine ω3 ?_|refine ω4 rfl ?_|refine ω5 rfl ?_|refine ω6 ?_|refine ω7 ?_|refine ω8 ?_|refine ⟨rfl,?_⟩|refine ⟨trivial,?_⟩|refine ⟨⟨rfl,Nat.le_of_ble_eq_true rfl⟩,?_⟩|refine ⟨⟨by kernel_rfl,by kernel_rfl⟩,?_⟩|refine ⟨by decide,?_⟩|refine lit_true ?_|refine lit_false ?_))
  exact ret_bool rfl rfl
theorem pathstell_long (l : List Ins) (hok : okL l) (hl2 : l.length ≤ 40) (hp : plainB l = true) (hc : 4096 < cntF l l.length 0) : PCall Try.prog 4 [inss l] (fun r => r = .v (.bool true)) := by
  have hP := plainB_iff.1 hp
  have hf := hP.formed
  have hlen : (pathsI l).length = cntF l l.length 0 := pathsF_length l _ _ _ _ _ _
  have h1 := all_paths_spec l hok (by omega)
  rw [show allP l = ([], 3) by unfold allP; rw [if_pos hp, if_neg (by omega)]] at h1
  have h2 := plainR_spec l hok (by omega)
  have h3 := plain_spec l hok (by omega)
  rw [hp] at h2 h3
  have h4 := manyR_spec l hok hf
  have h5 : (manyI l).getD 0 0 = min (cntF l l.length 0) 5000 := manyA_cnt hP l.length 0 (Nat.le_refl _) hf.pos (by omega)
  have h6 : (manyI l).length = l.length := manyA_length l _
  have hpos := hf.pos
  generalize manyI l = A at *
  refine pcall_of_aw Try.func4 rfl rfl fun nx => ?_
  (repeat ((conv=>whnf);first|refine ω0 ?_|refine ω1 ?_|refine ω2 ?_|refine ω3 ?_|refine ω4 rfl ?_|refine ω5 rfl ?_|refine ω6 ?_|refine ω7 ?_|refine ω8 ?_|refine ⟨rfl,?_⟩|refine ⟨trivial,?_⟩|refine ⟨⟨rfl,Nat.le_of_ble_eq_true rfl⟩,?_⟩|refine ⟨⟨by kernel_rfl,by kernel_rfl⟩,?_⟩|refine ⟨by decide,?_⟩|refine lit_true ?_|refine lit_false ?_))
  (intro c hc; obtain rfl : c = false := hc.trans (by first | exact decide_eq_false (by omega) | (simp; omega)); (repeat ((conv=>whnf);first|refine ω0 ?_|refine ω1 ?_|refine ω2 ?_|refine ω3 ?_|refine ω4 rfl ?_|refine ω5 rfl ?_|refine ω6 ?_|refine ω7 ?_|refine ω8 ?_|refine ⟨rfl,?_⟩|refine ⟨trivial,?_⟩|refine ⟨⟨rfl,Nat.le_of_ble_eq_true rfl⟩,?_⟩|refine ⟨⟨by kernel_rfl,by kernel_rfl⟩,?_⟩|refine ⟨by decide,?_⟩|refine lit_true ?_|refine lit_false ?_)))
  refine aop_tells rfl rfl (all27_spec l (by omega)) ⟨AVle.refl _, trivial⟩ fun nx1 => ?_
  (repeat ((conv=>whnf);first|refine ω0 ?_|refine ω1 ?_|refine ω2 ?_|refine ω3 ?_|refine ω4 rfl ?_|refine ω5 rfl ?_|refine ω6 ?_|refine ω7 ?_|refine ω8 ?_|refine ⟨rfl,?_⟩|refine ⟨trivial,?_⟩|refine ⟨⟨rfl,Nat.le_of_ble_eq_true rfl⟩,?_⟩|refine ⟨⟨by kernel_rfl,by kernel_rfl⟩,?_⟩|refine ⟨by decide,?_⟩|refine lit_true ?_|refine lit_false ?_))
  refine aop_tells rfl rfl h1 ⟨AVle.refl _, trivial⟩ fun nx2 => ?_
  (repeat ((conv=>whnf);first|refine ω0 ?_|refine ω1 ?_|refine ω2 ?_|refine ω3 ?_|refine ω4 rfl ?_|refine ω5 rfl ?_|refine ω6 ?_|refine ω7 ?_|refine ω8 ?_|refine ⟨rfl,?_⟩|refine ⟨trivial,?_⟩|refine ⟨⟨rfl,Nat.le_of_ble_eq_true rfl⟩,?_⟩|refine ⟨⟨by kernel_rfl,by kernel_rfl⟩,?_⟩|refine ⟨by decide,?_⟩|refine lit_true ?_|refine lit_false ?_))
  refine aop_tells rfl rfl h2 ⟨AVle.refl _, trivial⟩ fun nx3 => ?_
  (repeat ((conv=>whnf);first|refine ω0 ?_|refine ω1 ?_|refine ω2 ?_|refine ω3 ?_|refine ω4 rfl ?_|refine ω5 rfl ?_|refine ω6 ?_|refine ω7 ?_|refine ω8 ?_|refine ⟨rfl,?_⟩|refine ⟨trivial,?_⟩|refine ⟨⟨rfl,Nat.le_of_ble_eq_true rfl⟩,?_⟩|refine ⟨⟨by kernel_rfl,by kernel_rfl⟩,?_⟩|refine ⟨by decide,?_⟩|refine lit_true ?_|refine lit_false ?_))
  refine aop_tells rfl rfl h3 ⟨AVle.refl _, trivial⟩ fun nx4 => ?_
  (repeat ((conv=>whnf);first|refine ω0 ?_|refine ω1 ?_|refine ω2 ?_|refine ω3 ?_|refine ω4 rfl ?_|refine ω5 rfl ?_|refine ω6 ?_|refine ω7 ?_|refine ω8 ?_|refine ⟨rfl,?_⟩|refine ⟨trivial,?_⟩|refine ⟨⟨rfl,Nat.le_of_ble_eq_true rfl⟩,?_⟩|refine ⟨⟨by kernel_rfl,by kernel_rfl⟩,?_⟩|refine ⟨by decide,?_⟩|refine lit_true ?_|refine lit_false ?_))
  refine aop_tells rfl rfl h4 ⟨AVle.refl _, trivial⟩ fun nx5 => ?_
  (repeat ((conv=>whnf);first|refine ω0 ?_|refine ω1 ?_|refine ω2 ?_|refine ω3 ?_|refine ω4 rfl ?_|refine ω5 rfl ?_|refine ω6 ?_|refine ω7 ?_|refine ω8 ?_|refine ⟨rfl,?_⟩|refine ⟨trivial,?_⟩|refine ⟨⟨rfl,Nat.le_of_ble_eq_true rfl⟩,?_⟩|refine ⟨⟨by kernel_rfl,by kernel_rfl⟩,?_⟩|refine ⟨by decide,?_⟩|refine lit_true ?_|refine lit_false ?_))
  refine ⟨⟨by first | omega | (dsimp only; omega), by first | omega | (dsimp only; omega)⟩, ?_⟩
  (repeat ((conv=>whnf);first|refine ω0 ?_|refine ω1 ?_|refine ω2 ?_|refine ω3 ?_|refine ω4 rfl ?_|refine ω5 rfl ?_|refine ω6 ?_|refine ω7 ?_|refine ω8 ?_|refine ⟨rfl,?_⟩|refine ⟨trivial,?_⟩|refine ⟨⟨rfl,Nat.le_of_ble_eq_true rfl⟩,?_⟩|refine ⟨⟨by kernel_rfl,by kernel_rfl⟩,?_⟩|refine ⟨by decide,?_⟩|refine lit_true ?_|refine lit_false ?_))
  intro c hcc
  obtain rfl : c = true := hcc.trans (decide_eq_true (by show ((A.getD 0 0 : Nat) : Int) > 4096; omega))
  (repeat ((conv=>whnf);first|refine ω0 ?_|refine ω1 ?_|refine ω2 ?_|refine ω3 ?_|refine ω4 rfl ?_|refine ω5 rfl ?_|refine ω6 ?_|refine ω7 ?_|refine ω8 ?_|refine ⟨rfl,?_⟩|refine ⟨trivial,?_⟩|refine ⟨⟨rfl,Nat.le_of_ble_eq_true rfl⟩,?_⟩|refine ⟨⟨by kernel_rfl,by kernel_rfl⟩,?_⟩|refine ⟨by decide,?_⟩|refine lit_true ?_|refine lit_false ?_))
  refine aop_tells rfl rfl paths27_awake trivial fun nx5 => ?_
  (repeat ((conv=>whnf);first|refine ω0 ?_|refine ω1 ?_|refine ω2 ?_|refine ω3 ?_|refine ω4 rfl ?_|refine ω5 rfl ?_|refine ω6 ?_|refine ω7 ?_|refine ω8 ?_|refine ⟨rfl,?_⟩|refine ⟨trivial,?_⟩|refine ⟨⟨rfl,Nat.le_of_ble_eq_true rfl⟩,?_⟩|refine ⟨⟨by kernel_rfl,by kernel_rfl⟩,?_⟩|refine ⟨by decide,?_⟩|refine lit_true ?_|refine lit_false ?_))
  exact ret_bool rfl rfl
set_option maxHeartbeats 1000000 in
theorem pathstell_yes (l : List Ins) (hok : okL l) (hl2 : l.length ≤ 40) (hp : plainB l = true) (hc : cntF l l.length 0 ≤ 4096) : PCall Try.prog 4 [inss l] (fun r => r = .v (.bool true)) := by
  have hP := plainB_iff.1 hp
  have hf := hP.formed
  have hlen : (pathsI l).length = cntF l l.length 0 := pathsF_length l _ _ _ _ _ _
  have h1 := all_paths_spec l hok (by omega)
  rw [show allP l = (pathsI l, 0) by unfold allP; rw [if_pos hp, if_pos (by omega)]] at h1
  have h2 := plainR_spec l hok (by omega)
  have h3 := plain_spec l hok (by omega)
  rw [hp] at h2 h3
  have h4 := manyR_spec l hok hf
  have h5 : (manyI l).getD 0 0 = min (cntF l l.length 0) 5000 := manyA_cnt hP l.length 0 (Nat.le_refl _) hf.pos (by omega)
  have h6 : (manyI l).length = l.length := manyA_length l _
  have hpos := hf.pos
  have h7 : Tells Try.prog 28 [inss l, int (0 : Nat), int (0 : Nat), u32 (0 : Nat), tsts [], int (0 : Nat)] (pths (pathsI l)) :=
    tells_of_ecall fun nx => (from_spec l hok hP l.length 0 0 0 [] 0 nx hpos (by omega) (Nat.le_refl _) (by decide) (by decide) (Nat.le_refl _) (by omega) hc).mono fun r h' ⟨oi, _, _, h, _⟩ => by rw [h]; exact AVle.os_sl
  have h8 : ∀ i, i < (pathsI l).length → ((pathsI l).getD i pth0).tests.length ≤ 1000000 := fun i hi => by
    have := pathsI_small hP (p := (pathsI l).getD i pth0) (by simp [List.getD, hi])
    omega
  generalize manyI l = A at *
  generalize pathsI l = W at *
  refine pcall_of_aw Try.func4 rfl rfl fun nx => ?_
  (repeat ((conv=>whnf);first|refine ω0 ?_|refine ω1 ?_|refine ω2 ?_|refine ω3 ?_|refine ω4 rfl ?_|refine ω5 rfl ?_|refine ω6 ?_|refine ω7 ?_|refine ω8 ?_|refine ⟨rfl,?_⟩|refine ⟨trivial,?_⟩|refine ⟨⟨rfl,Nat.le_of_ble_eq_true rfl⟩,?_⟩|refine ⟨⟨by kernel_rfl,by kernel_rfl⟩,?_⟩|refine ⟨by decide,?_⟩|refine lit_true ?_|refine lit_false ?_))
  (intro c hc; obtain rfl : c = false := hc.trans (by first | exact decide_eq_false (by omega) | (simp; omega)); (repeat ((conv=>whnf);first|refine ω0 ?_|refine ω1 ?_|refine ω2 ?_|refine ω3 ?_|refine ω4 rfl ?_|refine ω5 rfl ?_|refine ω6 ?_|refine ω7 ?_|refine ω8 ?_|refine ⟨rfl,?_⟩|refine ⟨trivial,?_⟩|refine ⟨⟨rfl,Nat.le_of_ble_eq_true rfl⟩,?_⟩|refine ⟨⟨by kernel_rfl,by kernel_rfl⟩,?_⟩|refine ⟨by decide,?_⟩|refine lit_true ?_|refine lit_false ?_)))
  refine aop_tells rfl rfl (all27_spec l (by omega)) ⟨AVle.refl _, trivial⟩ fun nx1 => ?_
  (repeat ((conv=>whnf);first|refine ω0 ?_|refine ω1 ?_|refine ω2 ?_|refine ω3 ?_|refine ω4 rfl ?_|refine ω5 rfl ?_|refine ω6 ?_|refine ω7 ?_|refine ω8 ?_|refine ⟨rfl,?_⟩|refine ⟨trivial,?_⟩|refine ⟨⟨rfl,Nat.le_of_ble_eq_true rfl⟩,?_⟩|refine ⟨⟨by kernel_rfl,by kernel_rfl⟩,?_⟩|refine ⟨by decide,?_⟩|refine lit_true ?_|refine lit_false ?_))
  refine aop_tells rfl rfl h1 ⟨AVle.refl _, trivial⟩ fun nx2 => ?_
  (repeat ((conv=>whnf);first|refine ω0 ?_|refine ω1 ?_|refine ω2 ?_|refine ω3 ?_|refine ω4 rfl ?_|refine ω5 rfl ?_|refine ω6 ?_|refine ω7 ?_|refine ω8 ?_|refine ⟨rfl,?_⟩|refine ⟨trivial,?_⟩|refine ⟨⟨rfl,Nat.le_of_ble_eq_true rfl⟩,?_⟩|refine ⟨⟨by kernel_rfl,by kernel_rfl⟩,?_⟩|refine ⟨by decide,?_⟩|refine lit_true ?_|refine lit_false ?_))
  refine aop_tells rfl rfl h2 ⟨AVle.refl _, trivial⟩ fun nx3 => ?_
  (repeat ((conv=>whnf);first|refine ω0 ?_|refine ω1 ?_|refine ω2 ?_|refine ω3 ?_|refine ω4 rfl ?_|refine ω5 rfl ?_|refine ω6 ?_|refine ω7 ?_|refine ω8 ?_|refine ⟨rfl,?_⟩|refine ⟨trivial,?_⟩|refine ⟨⟨rfl,Nat.le_of_ble_eq_true rfl⟩,?_⟩|refine ⟨⟨by kernel_rfl,by kernel_rfl⟩,?_⟩|refine ⟨by decide,?_⟩|refine lit_true ?_|refine lit_false ?_))
  refine aop_tells rfl rfl h3 ⟨AVle.refl _, trivial⟩ fun nx4 => ?_
  (repeat ((conv=>whnf);first|refine ω0 ?_|refine ω1 ?_|refine ω2 ?_|refine ω3 ?_|refine ω4 rfl ?_|refine ω5 rfl ?_|refine ω6 ?_|refine ω7 ?_|refine ω8 ?_|refine ⟨rfl,?_⟩|refine ⟨trivial,?_⟩|refine ⟨⟨rfl,Nat.le_of_ble_eq_true rfl⟩,?_⟩|refine ⟨⟨by kernel_rfl,by kernel_rfl⟩,?_⟩|refine ⟨by decide,?_⟩|refine lit_true ?_|refine lit_false ?_))
  refine aop_tells rfl rfl h4 ⟨AVle.refl _, trivial⟩ fun nx5 => ?_
  (repeat ((conv=>whnf);first|refine ω0 ?_|refine ω1 ?_|refine ω2 ?_|refine ω3 ?_|refine ω4 rfl ?_|refine ω5 rfl ?_|refine ω6 ?_|refine ω7 ?_|refine ω8 ?_|refine ⟨rfl,?_⟩|refine ⟨trivial,?_⟩|refine ⟨⟨rfl,Nat.le_of_ble_eq_true rfl⟩,?_⟩|refine ⟨⟨by kernel_rfl,by kernel_rfl⟩,?_⟩|refine ⟨by decide,?_⟩|refine lit_true ?_|refine lit_false ?_))
  refine ⟨⟨by first | omega | (dsimp only; omega), by first | omega | (dsimp only; omega)⟩, ?_⟩
  (repeat ((conv=>whnf);first|refine ω0 ?_|refine ω1 ?_|refine ω2 ?_|refine ω3 ?_|refine ω4 rfl ?_|refine ω5 rfl ?_|refine ω6 ?_|refine ω7 ?_|refine ω8 ?_|refine ⟨rfl,?_⟩|refine ⟨trivial,?_⟩|refine ⟨⟨rfl,Nat.le_of_ble_eq_true rfl⟩,?_⟩|refine ⟨⟨by kernel_rfl,by kernel_rfl⟩,?_⟩|refine ⟨by decide,?_⟩|refine lit_true ?_|refine lit_false ?_))
  intro c hcc
  obtain rfl : c = false := hcc.trans (decide_eq_false (by show ¬ ((A.getD 0 0 : Nat) : Int) > 4096; omega))
  (repeat ((conv=>whnf);first|refine ω0 ?_|refine ω1 ?_|refine ω2 ?_|refine ω3 ?_|refine ω4 rfl ?_|refine ω5 rfl ?_|refine ω6 ?_|refine ω7 ?_|refine ω8 ?_|refine ⟨rfl,?_⟩|refine ⟨trivial,?_⟩|refine ⟨⟨rfl,Nat.le_of_ble_eq_true rfl⟩,?_⟩|refine ⟨⟨by kernel_rfl,by kernel_rfl⟩,?_⟩|refine ⟨by decide,?_⟩|refine lit_true ?_|refine lit_false ?_))
  refine aop_tells rfl rfl h7 ⟨AVle.refl _, AVle.refl _, AVle.refl _, AVle.refl _, AVle.os_sl0, AVle.refl _, trivial⟩ fun nx6 => ?_
  (repeat ((conv=>whnf);first|refine ω0 ?_|refine ω1 ?_|refine ω2 ?_|refine ω3 ?_|refine ω4 rfl ?_|refine ω5 rfl ?_|refine ω6 ?_|refine ω7 ?_|refine ω8 ?_|refine ⟨rfl,?_⟩|refine ⟨trivial,?_⟩|refine ⟨⟨rfl,Nat.le_of_ble_eq_true rfl⟩,?_⟩|refine ⟨⟨by kernel_rfl,by kernel_rfl⟩,?_⟩|refine ⟨by decide,?_⟩|refine lit_true ?_|refine lit_false ?_))
  (intro c hc; obtain rfl : c = false := hc.trans (bne_self_eq_false _); (repeat ((conv=>whnf);first|refine ω0 ?_|refine ω1 ?_|refine ω2 ?_|refine ω3 ?_|refine ω4 rfl ?_|refine ω5 rfl ?_|refine ω6 ?_|refine ω7 ?_|refine ω8 ?_|refine ⟨rfl,?_⟩|refine ⟨trivial,?_⟩|refine ⟨⟨rfl,Nat.le_of_ble_eq_true rfl⟩,?_⟩|refine ⟨⟨by kernel_rfl,by kernel_rfl⟩,?_⟩|refine ⟨by decide,?_⟩|refine lit_true ?_|refine lit_false ?_)))
  refine aw_loop (fun y : Nat × Nat => mk 82 [(4, pths W), (6, pths W), (7, int y.1)] ⟨[], [], y.2, 0⟩) (fun y => y.1 ≤ W.length) (fun y => W.length - y.1) ?_ ?_
  · exact ⟨(0, nx6), Nat.zero_le _, ele_keep rfl rfl (List.nil_sublist _) (List.nil_sublist _) ⟨AVle.refl _, AVle.refl _, AVle.refl _, trivial⟩⟩
  · rintro ⟨i, nx7⟩ k1
    dsimp only at k1
    (repeat ((conv=>whnf);first|refine ω0 ?_|refine ω1 ?_|refine ω2 ?_|refine ω3 ?_|refine ω4 rfl ?_|refine ω5 rfl ?_|refine ω6 ?_|refine ω7 ?_|refine ω8 ?_|refine ⟨rfl,?_⟩|refine ⟨trivial,?_⟩|refine ⟨⟨rfl,Nat.le_of_ble_eq_true rfl⟩,?_⟩|refine ⟨⟨by kernel_rfl,by kernel_rfl⟩,?_⟩|refine ⟨by decide,?_⟩|refine lit_true ?_|refine lit_false ?_))
    intro c g; cases c
    · have g := not_of g
      dsimp only at g
      (repeat ((conv=>whnf);first|refine ω0 ?_|refine ω1 ?_|refine ω2 ?_|refine ω3 ?_|refine ω4 rfl ?_|refine ω5 rfl ?_|refine ω6 ?_|refine ω7 ?_|refine ω8 ?_|refine ⟨rfl,?_⟩|refine ⟨trivial,?_⟩|refine ⟨⟨rfl,Nat.le_of_ble_eq_true rfl⟩,?_⟩|refine ⟨⟨by kernel_rfl,by kernel_rfl⟩,?_⟩|refine ⟨by decide,?_⟩|refine lit_true ?_|refine lit_false ?_))
      refine aop_tells rfl rfl paths27_awake trivial fun nx5 => ?_
      (repeat ((conv=>whnf);first|refine ω0 ?_|refine ω1 ?_|refine ω2 ?_|refine ω3 ?_|refine ω4 rfl ?_|refine ω5 rfl ?_|refine ω6 ?_|refine ω7 ?_|refine ω8 ?_|refine ⟨rfl,?_⟩|refine ⟨trivial,?_⟩|refine ⟨⟨rfl,Nat.le_of_ble_eq_true rfl⟩,?_⟩|refine ⟨⟨by kernel_rfl,by kernel_rfl⟩,?_⟩|refine ⟨by decide,?_⟩|refine lit_true ?_|refine lit_false ?_))
      exact ret_bool rfl rfl
    · have g := yes_of g
      dsimp only at g
      have hi : i < W.length := by omega
      (repeat ((conv=>whnf);first|refine ω0 ?_|refine ω1 ?_|refine ω2 ?_|refine ω3 ?_|refine ω4 rfl ?_|refine ω5 rfl ?_|refine ω6 ?_|refine ω7 ?_|refine ω8 ?_|refine ⟨rfl,?_⟩|refine ⟨trivial,?_⟩|refine ⟨⟨rfl,Nat.le_of_ble_eq_true rfl⟩,?_⟩|refine ⟨⟨by kernel_rfl,by kernel_rfl⟩,?_⟩|refine ⟨by decide,?_⟩|refine lit_true ?_|refine lit_false ?_))
      (refine aw_draw 10 ?_ ?_ ?_ ?_; (· kernel_rfl); (· kernel_rfl); (· kernel_rfl))
      (repeat ((conv=>whnf);first|refine ω0 ?_|refine ω1 ?_|refine ω2 ?_|refine ω3 ?_|refine ω4 rfl ?_|refine ω5 rfl ?_|refine ω6 ?_|refine ω7 ?_|refine ω8 ?_|refine ⟨rfl,?_⟩|refine ⟨trivial,?_⟩|refine ⟨⟨rfl,Nat.le_of_ble_eq_true rfl⟩,?_⟩|refine ⟨⟨by kernel_rfl,by kernel_rfl⟩,?_⟩|refine ⟨by decide,?_⟩|refine lit_true ?_|refine lit_false ?_))
      refine ⟨⟨by first | omega | (dsimp only; omega), by first | omega | (dsimp only; omega)⟩, ?_⟩
      (repeat ((conv=>whnf);first|refine ω0 ?_|refine ω1 ?_|refine ω2 ?_|refine ω3 ?_|refine ω4 rfl ?_|refine ω5 rfl ?_|refine ω6 ?_|refine ω7 ?_|refine ω8 ?_|refine ⟨rfl,?_⟩|refine ⟨trivial,?_⟩|refine ⟨⟨rfl,Nat.le_of_ble_eq_true rfl⟩,?_⟩|refine ⟨⟨by kernel_rfl,by kernel_rfl⟩,?_⟩|refine ⟨by decide,?_⟩|refine lit_true ?_|refine lit_false ?_))
      refine ⟨⟨by first | omega | (dsimp only; omega), by first | omega | (dsimp only; omega)⟩, ?_⟩
      (repeat ((conv=>whnf);first|refine ω0 ?_|refine ω1 ?_|refine ω2 ?_|refine ω3 ?_|refine ω4 rfl ?_|refine ω5 rfl ?_|refine ω6 ?_|refine ω7 ?_|refine ω8 ?_|refine ⟨rfl,?_⟩|refine ⟨trivial,?_⟩|refine ⟨⟨rfl,Nat.le_of_ble_eq_true rfl⟩,?_⟩|refine ⟨⟨by kernel_rfl,by kernel_rfl⟩,?_⟩|refine ⟨by decide,?_⟩|refine lit_true ?_|refine lit_false ?_))
      refine ex_yields (yields_tells rfl rfl (psame_true (W.getD i pth0) (h8 i hi)) ⟨AVle.refl _, AVle.refl _, trivial⟩ (NoId.v _)) ?_
      (repeat ((conv=>whnf);first|refine ω0 ?_|refine ω1 ?_|refine ω2 ?_|refine ω3 ?_|refine ω4 rfl ?_|refine ω5 rfl ?_|refine ω6 ?_|refine ω7 ?_|refine ω8 ?_|refine ⟨rfl,?_⟩|refine ⟨trivial,?_⟩|refine ⟨⟨rfl,Nat.le_of_ble_eq_true rfl⟩,?_⟩|refine ⟨⟨by kernel_rfl,by kernel_rfl⟩,?_⟩|refine ⟨by decide,?_⟩|refine lit_true ?_|refine lit_false ?_))
      exact back (i + 1, _) (by first | omega | (dsimp only at *; omega) | (simp; done) | (simp; omega)) (by first | omega | (dsimp only at *; omega) | (simp; done) | (simp; omega)) (ele_keep rfl rfl (List.nil_sublist _) (List.nil_sublist _) ⟨AVle.refl _, AVle.refl _, le_int (wrap_succ (by first | omega | (dsimp only at *; omega) | (simp; done) | (simp; omega))), trivial⟩)
theorem pathstell_spec (l : List Ins) (hok : okL l) : PCall Try.prog 4 [inss l] (fun r => r = .v (.bool true)) := by
  by_cases hl2 : l.length ≤ 40
  · cases hp : plainB l
    · exact pathstell_no l hok hl2 hp
    · by_cases hc : cntF l l.length 0 ≤ 4096
      · exact pathstell_yes l hok hl2 hp hc
      · exact pathstell_long l hok hl2 hp (by omega)
  · refine pcall_of_aw Try.func4 rfl rfl fun nx => ?_
    (repeat ((conv=>whnf);first|refine ω0 ?_|refine ω1 ?_|refine ω2 ?_|refine ω3 ?_|refine ω4 rfl ?_|refine ω5 rfl ?_|refine ω6 ?_|refine ω7 ?_|refine ω8 ?_|refine ⟨rfl,?_⟩|refine ⟨trivial,?_⟩|refine ⟨⟨rfl,Nat.le_of_ble_eq_true rfl⟩,?_⟩|refine ⟨⟨by kernel_rfl,by kernel_rfl⟩,?_⟩|refine ⟨by decide,?_⟩|refine lit_true ?_|refine lit_false ?_))
    (intro c hc; obtain rfl : c = true := hc.trans (by first | exact decide_eq_true (by omega) | (simp; omega)); (repeat ((conv=>whnf);first|refine ω0 ?_|refine ω1 ?_|refine ω2 ?_|refine ω3 ?_|refine ω4 rfl ?_|refine ω5 rfl ?_|refine ω6 ?_|refine ω7 ?_|refine ω8 ?_|refine ⟨rfl,?_⟩|refine ⟨trivial,?_⟩|refine ⟨⟨rfl,Nat.le_of_ble_eq_true rfl⟩,?_⟩|refine ⟨⟨by kernel_rfl,by kernel_rfl⟩,?_⟩|refine ⟨by decide,?_⟩|refine lit_true ?_|refine lit_false ?_)))
    exact ret_bool rfl rfl
end Go.Proofs.W
