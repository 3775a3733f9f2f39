import Derived.Test.YtgllcdchhfcoiaaWrFlow
namespace Go.Proofs.W
open Go.Vl
set_option maxRecDepth 100000

def longF (a ts : List Nat) : Nat := ts.foldl (fun x t => max x (a.getD t 0)) 0
def longA (l : List Ins) : Nat → List Nat
  | 0 => List.replicate l.length 0
  | j + 1 => (longA l j).set (l.length - 1 - j) (longF (longA l j) (nextsI l (l.length - 1 - j)) + 1)
def longI (l : List Ins) : Nat := (longA l l.length).getD 0 0
theorem longA_length (l : List Ins) : ∀ j, (longA l j).length = l.length
  | 0 => by simp [longA]
  | j + 1 => by rw [longA, List.length_set, longA_length l j]
theorem longA_zero (l : List Ins) : ∀ j n, n + j < l.length → (longA l j).getD n 0 = 0
  | 0, n, h => by simp [longA, List.getD, List.getElem?_replicate]; split <;> rfl
  | j + 1, n, h => by
    rw [longA, getDL_set, if_neg (by omega)]
    exact longA_zero l j n (by omega)
theorem longF_le {a : List Nat} {b : Nat} (h : ∀ k, a.getD k 0 ≤ b) : ∀ ts, longF a ts ≤ b := by
  intro ts
  unfold longF
  have : ∀ (ts : List Nat) (m : Nat), m ≤ b → ts.foldl (fun x t => max x (a.getD t 0)) m ≤ b := by
    intro ts
    induction ts with
    | nil => intro m hm; exact hm
    | cons t ts ih => intro m hm; rw [List.foldl_cons]; exact ih _ (Nat.max_le.2 ⟨hm, h t⟩)
  exact this ts 0 (by omega)
theorem longA_le (l : List Ins) : ∀ j n, (longA l j).getD n 0 ≤ j
  | 0, n => by simp [longA, List.getD, List.getElem?_replicate]; split <;> simp
  | j + 1, n => by
    rw [longA, getDL_set]
    split
    · have := longF_le (longA_le l j) (nextsI l (l.length - 1 - j)); omega
    · have := longA_le l j n; omega
theorem longF_take {a ts : List Nat} {i : Nat} (hi : i < ts.length) : longF a (ts.take (i + 1)) = max (longF a (ts.take i)) (a.getD (ts.getD i 0) 0) := by
  unfold longF; rw [take_getD 0 hi, List.foldl_append]; rfl
theorem set_same {a : List Nat} {n : Nat} (hn : n < a.length) (h : a.getD n 0 = 0) : a.set n 0 = a := by
  refine List.ext_getElem (by simp) fun k h1 h2 => ?_
  rw [List.getElem_set]
  split
  · rename_i h3; subst h3
    simp only [List.getD, List.getElem?_eq_getElem hn, Option.getD_some] at h
    exact h.symm
  · rfl
theorem longest_spec (l : List Ins) (hok : okL l) (hl : l.length ≤ 1000000000) : Tells Try.prog 30 [inss l] (int (if (checkI l).2 = 0 then longI l else 0 : Nat)) := by
  refine tells_of_aw Try.func30 rfl rfl fun nx => ?_
  (repeat ((conv => whnf); first | refine aw_seq ?_ | refine aw_region ?_ | refine aw_block ?_ | refine aw_skip ?_ | refine aw_true rfl ?_ | refine aw_false rfl ?_ | refine aw_exit ?_ | refine aw_label ?_ | refine aw_ret ?_ | refine And.intro rfl ?_ | refine And.intro trivial ?_ | refine And.intro (And.intro rfl (Nat.le_of_ble_eq_true rfl)) ?_ | refine And.intro (And.intro (by kernel_rfl) (by kernel_rfl)) ?_ | refine And.intro (by decide) ?_ | refine lit_true ?_ | refine lit_false ?_))
  refine aop_tells rfl rfl (check_spec l hok hl) ⟨AVle.refl _, trivial⟩ fun nx => ?_
  (repeat ((conv => whnf); first | refine aw_seq ?_ | refine aw_region ?_ | refine aw_block ?_ | refine aw_skip ?_ | refine aw_true rfl ?_ | refine aw_false rfl ?_ | refine aw_exit ?_ | refine aw_label ?_ | refine aw_ret ?_ | refine And.intro rfl ?_ | refine And.intro trivial ?_ | refine And.intro (And.intro rfl (Nat.le_of_ble_eq_true rfl)) ?_ | refine And.intro (And.intro (by kernel_rfl) (by kernel_rfl)) ?_ | refine And.intro (by decide) ?_ | refine lit_true ?_ | refine lit_false ?_))
  intro c g1; cases c
  rotate_left
  · have g1 := bne_yes g1
    (repeat ((conv => whnf); first | refine aw_seq ?_ | refine aw_region ?_ | refine aw_block ?_ | refine aw_skip ?_ | refine aw_true rfl ?_ | refine aw_false rfl ?_ | refine aw_exit ?_ | refine aw_label ?_ | refine aw_ret ?_ | refine And.intro rfl ?_ | refine And.intro trivial ?_ | refine And.intro (And.intro rfl (Nat.le_of_ble_eq_true rfl)) ?_ | refine And.intro (And.intro (by kernel_rfl) (by kernel_rfl)) ?_ | refine And.intro (by decide) ?_ | refine lit_true ?_ | refine lit_false ?_))
    refine ret_tells rfl ?_
    rw [if_neg (by omega)]
    exact AVle.refl _
  have g1 := bne_no g1
  have hf : Formed l := check_formed (by omega)
  have hle := hf.le
  have hpos := hf.pos
  rw [if_pos (by omega)]
  (repeat ((conv => whnf); first | refine aw_seq ?_ | refine aw_region ?_ | refine aw_block ?_ | refine aw_skip ?_ | refine aw_true rfl ?_ | refine aw_false rfl ?_ | refine aw_exit ?_ | refine aw_label ?_ | refine aw_ret ?_ | refine And.intro rfl ?_ | refine And.intro trivial ?_ | refine And.intro (And.intro rfl (Nat.le_of_ble_eq_true rfl)) ?_ | refine And.intro (And.intro (by kernel_rfl) (by kernel_rfl)) ?_ | refine And.intro (by decide) ?_ | refine lit_true ?_ | refine lit_false ?_))
  (conv => whnf)
  refine ⟨by omega, by omega, by show ((8 : Nat) : Int) * _ ≤ _; omega, by omega, ?_⟩
  (repeat ((conv => whnf); first | refine aw_seq ?_ | refine aw_region ?_ | refine aw_block ?_ | refine aw_skip ?_ | refine aw_true rfl ?_ | refine aw_false rfl ?_ | refine aw_exit ?_ | refine aw_label ?_ | refine aw_ret ?_ | refine And.intro rfl ?_ | refine And.intro trivial ?_ | refine And.intro (And.intro rfl (Nat.le_of_ble_eq_true rfl)) ?_ | refine And.intro (And.intro (by kernel_rfl) (by kernel_rfl)) ?_ | refine And.intro (by decide) ?_ | refine lit_true ?_ | refine lit_false ?_))
  refine aw_loop (fun s : Nat × Nat => mk 56 [(0, inss l), (5, .hs (0, nx) 0 l.length l.length), (6, int ((l.length : Int) - 1 - s.1))] ⟨[((0, nx), .c ((longA l s.1).map intA))], [], s.2, 1⟩) (fun s => s.1 ≤ l.length) (fun s => l.length - s.1) ?_ ?_
  · refine ⟨(0, nx + 1), by dsimp only; omega, ele_tell _ _ rfl rfl (List.Sublist.refl _) .slnil ⟨rfl, OwnLe.of_eq ?_, trivial⟩ trivial ⟨AVle.refl _, AVle.refl _, le_int ((wrap_id (by omega) (by omega)).trans (by dsimp only; omega)), trivial⟩⟩
    dsimp only
    rw [longA, List.map_replicate]
    rfl
  · rintro ⟨j, nx'⟩ h1
    dsimp only at h1
    have hlen := longA_length l j
    (repeat ((conv => whnf); first | refine aw_seq ?_ | refine aw_region ?_ | refine aw_block ?_ | refine aw_skip ?_ | refine aw_true rfl ?_ | refine aw_false rfl ?_ | refine aw_exit ?_ | refine aw_label ?_ | refine aw_ret ?_ | refine And.intro rfl ?_ | refine And.intro trivial ?_ | refine And.intro (And.intro rfl (Nat.le_of_ble_eq_true rfl)) ?_ | refine And.intro (And.intro (by kernel_rfl) (by kernel_rfl)) ?_ | refine And.intro (by decide) ?_ | refine lit_true ?_ | refine lit_false ?_))
    intro c g2; cases c
    · have g2 := not_of g2
      dsimp only at g2
      obtain rfl : j = l.length := by omega
      have he : (0 + (Int.toNat 0) * Try.prog.cellsOf 3) = 0 := by rw [c3]; rfl
      (repeat ((conv => whnf); first | refine aw_seq ?_ | refine aw_region ?_ | refine aw_block ?_ | refine aw_skip ?_ | refine aw_true rfl ?_ | refine aw_false rfl ?_ | refine aw_exit ?_ | refine aw_label ?_ | refine aw_ret ?_ | refine And.intro rfl ?_ | refine And.intro trivial ?_ | refine And.intro (And.intro rfl (Nat.le_of_ble_eq_true rfl)) ?_ | refine And.intro (And.intro (by kernel_rfl) (by kernel_rfl)) ?_ | refine And.intro (by decide) ?_ | refine lit_true ?_ | refine lit_false ?_))
      refine ⟨⟨by omega, by omega⟩, splitO_eq (b := .bp (0, nx) 0) (congrArg (AV.bp (0, nx)) he) ?_⟩
      (conv => whnf)
      refine ⟨⟨rfl, (by simp only [List.length_map, List.length_set, List.length_cons, List.length_nil]; omega)⟩, splitO_eq (b := int ((longA l l.length).getD 0 0 : Nat)) (getD_map (by first | omega | (dsimp only at *; omega) | (simp; done) | (simp; omega))) ?_⟩
      (repeat ((conv => whnf); first | refine aw_seq ?_ | refine aw_region ?_ | refine aw_block ?_ | refine aw_skip ?_ | refine aw_true rfl ?_ | refine aw_false rfl ?_ | refine aw_exit ?_ | refine aw_label ?_ | refine aw_ret ?_ | refine And.intro rfl ?_ | refine And.intro trivial ?_ | refine And.intro (And.intro rfl (Nat.le_of_ble_eq_true rfl)) ?_ | refine And.intro (And.intro (by kernel_rfl) (by kernel_rfl)) ?_ | refine And.intro (by decide) ?_ | refine lit_true ?_ | refine lit_false ?_))
      exact ret_tells rfl (AVle.refl _)
    · have g2 := yes_of g2
      dsimp only at g2
      obtain ⟨n, hn⟩ : ∃ n, n + 1 + j = l.length := ⟨l.length - 1 - j, by omega⟩
      have hnI : ((l.length : Int) - 1 - j) = (n : Int) := by omega
      have hnN : l.length - 1 - j = n := by omega
      have hnx := nexts_lt hf (n := n) (by omega)
      have hset := set_same (a := longA l j) (n := n) (by omega) (longA_zero l j n (by omega))
      have hm := longA_le l j
      have hstep : longA l (j + 1) = (longA l j).set n (longF (longA l j) (nextsI l n) + 1) := by rw [longA, hnN]
      generalize longA l j = A at *
      have hFle := longF_le hm
      (repeat ((conv => whnf); first | refine aw_seq ?_ | refine aw_region ?_ | refine aw_block ?_ | refine aw_skip ?_ | refine aw_true rfl ?_ | refine aw_false rfl ?_ | refine aw_exit ?_ | refine aw_label ?_ | refine aw_ret ?_ | refine And.intro rfl ?_ | refine And.intro trivial ?_ | refine And.intro (And.intro rfl (Nat.le_of_ble_eq_true rfl)) ?_ | refine And.intro (And.intro (by kernel_rfl) (by kernel_rfl)) ?_ | refine And.intro (by decide) ?_ | refine lit_true ?_ | refine lit_false ?_))
      refine aop_tells rfl rfl (next_spec l hok hf n (by omega)) ⟨AVle.refl _, le_int (by dsimp only; omega), trivial⟩ fun nx3 => ?_
      have hl2 : ∀ i, i < (nextsI l n).length → (nextsI l n).getD i 0 ∈ nextsI l n := fun i hi => by simp [List.getD, hi]
      have hshort : (nextsI l n).length ≤ 2 := by unfold nextsI; repeat' split
                                                  all_goals simp
      generalize nextsI l n = ts at *
      (repeat ((conv => whnf); first | refine aw_seq ?_ | refine aw_region ?_ | refine aw_block ?_ | refine aw_skip ?_ | refine aw_true rfl ?_ | refine aw_false rfl ?_ | refine aw_exit ?_ | refine aw_label ?_ | refine aw_ret ?_ | refine And.intro rfl ?_ | refine And.intro trivial ?_ | refine And.intro (And.intro rfl (Nat.le_of_ble_eq_true rfl)) ?_ | refine And.intro (And.intro (by kernel_rfl) (by kernel_rfl)) ?_ | refine And.intro (by decide) ?_ | refine lit_true ?_ | refine lit_false ?_))
      refine aw_loop (fun s : Nat × Nat => mk 56 [(0, inss l), (5, .hs (0, nx) 0 l.length l.length), (6, int n), (28, ints ts), (29, int ts.length), (30, int s.1)] ⟨[((0, nx), .c ((A.set n (longF A (ts.take s.1))).map intA))], [], s.2, 1⟩) (fun s => s.1 ≤ ts.length) (fun s => ts.length - s.1) ?_ ?_
      · refine ⟨(0, nx3), by dsimp only; omega, ele_tell _ _ rfl rfl (List.Sublist.refl _) .slnil ⟨rfl, OwnLe.of_eq ?_, trivial⟩ trivial ⟨AVle.refl _, AVle.refl _, le_int (by dsimp only; omega), AVle.refl _, AVle.refl _, AVle.refl _, trivial⟩⟩
        dsimp only
        rw [show longF A (ts.take 0) = 0 from rfl, hset]
      · rintro ⟨i, nx5⟩ h5
        dsimp only at h5
        have hF := hFle (ts.take i)
        have hit : (0 + (Int.toNat (n : Int)) * Try.prog.cellsOf 3) = n := by rw [c3]; omega
        have hgn : (A.set n (longF A (ts.take i))).getD n 0 = longF A (ts.take i) := by rw [getDL_set, if_pos ⟨rfl, by omega⟩]
        (repeat ((conv => whnf); first | refine aw_seq ?_ | refine aw_region ?_ | refine aw_block ?_ | refine aw_skip ?_ | refine aw_true rfl ?_ | refine aw_false rfl ?_ | refine aw_exit ?_ | refine aw_label ?_ | refine aw_ret ?_ | refine And.intro rfl ?_ | refine And.intro trivial ?_ | refine And.intro (And.intro rfl (Nat.le_of_ble_eq_true rfl)) ?_ | refine And.intro (And.intro (by kernel_rfl) (by kernel_rfl)) ?_ | refine And.intro (by decide) ?_ | refine lit_true ?_ | refine lit_false ?_))
        intro c g5; cases c
        · have g5 := not_of g5
          dsimp only at g5
          obtain rfl : i = ts.length := by omega
          have hall : longF A (ts.take ts.length) = longF A ts := by rw [List.take_length]
          (repeat ((conv => whnf); first | refine aw_seq ?_ | refine aw_region ?_ | refine aw_block ?_ | refine aw_skip ?_ | refine aw_true rfl ?_ | refine aw_false rfl ?_ | refine aw_exit ?_ | refine aw_label ?_ | refine aw_ret ?_ | refine And.intro rfl ?_ | refine And.intro trivial ?_ | refine And.intro (And.intro rfl (Nat.le_of_ble_eq_true rfl)) ?_ | refine And.intro (And.intro (by kernel_rfl) (by kernel_rfl)) ?_ | refine And.intro (by decide) ?_ | refine lit_true ?_ | refine lit_false ?_))
          refine ⟨⟨by first | omega | (dsimp only; omega), by first | omega | (dsimp only; omega)⟩, splitO_eq (b := .bp (0, nx) n) (congrArg (AV.bp (0, nx)) hit) ?_⟩
          (conv => whnf)
          refine ⟨⟨rfl, (by simp only [List.length_map, List.length_set, List.length_cons, List.length_nil]; omega)⟩, splitO_eq (b := int ((A.set n (longF A (ts.take ts.length))).getD n 0 : Nat)) (getD_map (by simp only [List.length_map, List.length_set, List.length_cons, List.length_nil]; omega)) ?_⟩
          (repeat ((conv => whnf); first | refine aw_seq ?_ | refine aw_region ?_ | refine aw_block ?_ | refine aw_skip ?_ | refine aw_true rfl ?_ | refine aw_false rfl ?_ | refine aw_exit ?_ | refine aw_label ?_ | refine aw_ret ?_ | refine And.intro rfl ?_ | refine And.intro trivial ?_ | refine And.intro (And.intro rfl (Nat.le_of_ble_eq_true rfl)) ?_ | refine And.intro (And.intro (by kernel_rfl) (by kernel_rfl)) ?_ | refine And.intro (by decide) ?_ | refine lit_true ?_ | refine lit_false ?_))
          (conv => whnf)
          refine ⟨⟨by first | omega | (dsimp only; omega), by first | omega | (dsimp only; omega)⟩, splitO_eq (b := .bp (0, nx) n) (congrArg (AV.bp (0, nx)) hit) ?_⟩
          (conv => whnf)
          have hsp : splice ((A.set n (longF A (ts.take ts.length))).map intA) n [AV.v (.int .i64 (IntKind.i64.wrap (((A.set n (longF A (ts.take ts.length))).getD n 0 : Nat) + 1)))] = (A.set n (longF A ts + 1)).map intA := by
            have hw : IntKind.i64.wrap ((longF A ts : Nat) + 1 : Int) = ((longF A ts + 1 : Nat) : Int) := wrap_succ (by have := hFle ts; omega)
            rw [hgn, hall, hw]
            refine (splice_one (f := intA) (x := longF A ts + 1) (by simp; omega)).trans ?_
            rw [List.set_set]
          refine ⟨⟨rfl, (by simp only [List.length_map, List.length_set, List.length_cons, List.length_nil]; omega)⟩, ?_⟩
          rw [hsp]
          (repeat ((conv => whnf); first | refine aw_seq ?_ | refine aw_region ?_ | refine aw_block ?_ | refine aw_skip ?_ | refine aw_true rfl ?_ | refine aw_false rfl ?_ | refine aw_exit ?_ | refine aw_label ?_ | refine aw_ret ?_ | refine And.intro rfl ?_ | refine And.intro trivial ?_ | refine And.intro (And.intro rfl (Nat.le_of_ble_eq_true rfl)) ?_ | refine And.intro (And.intro (by kernel_rfl) (by kernel_rfl)) ?_ | refine And.intro (by decide) ?_ | refine lit_true ?_ | refine lit_false ?_))
          exact back (j + 1, nx5) (by dsimp only; omega) (by dsimp only; omega) (ele_tell _ _ rfl rfl (List.Sublist.refl _) .slnil ⟨rfl, OwnLe.of_eq (by dsimp only; rw [hstep]), trivial⟩ trivial ⟨AVle.refl _, AVle.refl _, le_int ((wrap_id (by omega) (by omega)).trans (by dsimp only; omega)), trivial⟩)
        · have g5 := yes_of g5
          dsimp only at g5
          have hi : i < ts.length := by omega
          have htn := hnx _ (hl2 i hi)
          have hgt : (A.set n (longF A (ts.take i))).getD (ts.getD i 0) 0 = A.getD (ts.getD i 0) 0 := by rw [getDL_set, if_neg (by omega)]
          have htt : (0 + (Int.toNat ((ts.getD i 0 : Nat) : Int)) * Try.prog.cellsOf 3) = ts.getD i 0 := by rw [c3]; omega
          (repeat ((conv => whnf); first | refine aw_seq ?_ | refine aw_region ?_ | refine aw_block ?_ | refine aw_skip ?_ | refine aw_true rfl ?_ | refine aw_false rfl ?_ | refine aw_exit ?_ | refine aw_label ?_ | refine aw_ret ?_ | refine And.intro rfl ?_ | refine And.intro trivial ?_ | refine And.intro (And.intro rfl (Nat.le_of_ble_eq_true rfl)) ?_ | refine And.intro (And.intro (by kernel_rfl) (by kernel_rfl)) ?_ | refine And.intro (by decide) ?_ | refine lit_true ?_ | refine lit_false ?_))
          refine ⟨⟨by first | omega | (dsimp only; omega), by first | omega | (dsimp only; omega)⟩, ?_⟩
          (repeat ((conv => whnf); first | refine aw_seq ?_ | refine aw_region ?_ | refine aw_block ?_ | refine aw_skip ?_ | refine aw_true rfl ?_ | refine aw_false rfl ?_ | refine aw_exit ?_ | refine aw_label ?_ | refine aw_ret ?_ | refine And.intro rfl ?_ | refine And.intro trivial ?_ | refine And.intro (And.intro rfl (Nat.le_of_ble_eq_true rfl)) ?_ | refine And.intro (And.intro (by kernel_rfl) (by kernel_rfl)) ?_ | refine And.intro (by decide) ?_ | refine lit_true ?_ | refine lit_false ?_))
          (refine aw_draw 12 ?_ ?_ ?_ ?_; (· kernel_rfl); (· kernel_rfl); (· kernel_rfl))
          (repeat ((conv => whnf); first | refine aw_seq ?_ | refine aw_region ?_ | refine aw_block ?_ | refine aw_skip ?_ | refine aw_true rfl ?_ | refine aw_false rfl ?_ | refine aw_exit ?_ | refine aw_label ?_ | refine aw_ret ?_ | refine And.intro rfl ?_ | refine And.intro trivial ?_ | refine And.intro (And.intro rfl (Nat.le_of_ble_eq_true rfl)) ?_ | refine And.intro (And.intro (by kernel_rfl) (by kernel_rfl)) ?_ | refine And.intro (by decide) ?_ | refine lit_true ?_ | refine lit_false ?_))
          refine ⟨⟨by first | omega | (dsimp only; omega), by first | omega | (dsimp only; omega)⟩, splitO_eq (b := .bp (0, nx) n) (congrArg (AV.bp (0, nx)) hit) ?_⟩
          (conv => whnf)
          refine ⟨⟨rfl, (by simp only [List.length_map, List.length_set, List.length_cons, List.length_nil]; omega)⟩, splitO_eq (b := int (longF A (ts.take i) : Nat)) ((getD_map (d := 0) (by simp only [List.length_map, List.length_set, List.length_cons, List.length_nil]; omega)).trans (congrArg intA hgn)) ?_⟩
          (repeat ((conv => whnf); first | refine aw_seq ?_ | refine aw_region ?_ | refine aw_block ?_ | refine aw_skip ?_ | refine aw_true rfl ?_ | refine aw_false rfl ?_ | refine aw_exit ?_ | refine aw_label ?_ | refine aw_ret ?_ | refine And.intro rfl ?_ | refine And.intro trivial ?_ | refine And.intro (And.intro rfl (Nat.le_of_ble_eq_true rfl)) ?_ | refine And.intro (And.intro (by kernel_rfl) (by kernel_rfl)) ?_ | refine And.intro (by decide) ?_ | refine lit_true ?_ | refine lit_false ?_))
          (conv => whnf)
          refine ⟨⟨(by omega : (0 : Int) ≤ ((ts.getD i 0 : Nat) : Int)), (by omega : ((ts.getD i 0 : Nat) : Int) < (l.length : Int))⟩, splitO_eq (b := .bp (0, nx) (ts.getD i 0)) (congrArg (AV.bp (0, nx)) htt) ?_⟩
          (conv => whnf)
          refine ⟨⟨rfl, (by simp only [List.length_map, List.length_set, List.length_cons, List.length_nil]; omega)⟩, splitO_eq (b := int (A.getD (ts.getD i 0) 0 : Nat)) ((getD_map (d := 0) (by simp only [List.length_map, List.length_set, List.length_cons, List.length_nil]; omega)).trans (congrArg intA hgt)) ?_⟩
          (repeat ((conv => whnf); first | refine aw_seq ?_ | refine aw_region ?_ | refine aw_block ?_ | refine aw_skip ?_ | refine aw_true rfl ?_ | refine aw_false rfl ?_ | refine aw_exit ?_ | refine aw_label ?_ | refine aw_ret ?_ | refine And.intro rfl ?_ | refine And.intro trivial ?_ | refine And.intro (And.intro rfl (Nat.le_of_ble_eq_true rfl)) ?_ | refine And.intro (And.intro (by kernel_rfl) (by kernel_rfl)) ?_ | refine And.intro (by decide) ?_ | refine lit_true ?_ | refine lit_false ?_))
          (conv => whnf)
          refine ⟨⟨by first | omega | (dsimp only; omega), by first | omega | (dsimp only; omega)⟩, splitO_eq (b := .bp (0, nx) n) (congrArg (AV.bp (0, nx)) hit) ?_⟩
          (conv => whnf)
          have hmx : (if ((A.getD (ts.getD i 0) 0 : Nat) : Int) > (longF A (ts.take i) : Nat) then ((A.getD (ts.getD i 0) 0 : Nat) : Int) else (longF A (ts.take i) : Nat)) = ((longF A (ts.take (i + 1)) : Nat) : Int) := by
            rw [longF_take hi]; split <;> omega
          have hsp : splice ((A.set n (longF A (ts.take i))).map intA) n [AV.v (.int .i64 (if ((A.getD (ts.getD i 0) 0 : Nat) : Int) > (longF A (ts.take i) : Nat) then ((A.getD (ts.getD i 0) 0 : Nat) : Int) else (longF A (ts.take i) : Nat)))] = (A.set n (longF A (ts.take (i + 1)))).map intA := by
            rw [hmx]
            refine (splice_one (f := intA) (x := longF A (ts.take (i + 1))) (by simp; omega)).trans ?_
            rw [List.set_set]
          refine ⟨⟨rfl, (by simp only [List.length_map, List.length_set, List.length_cons, List.length_nil]; omega)⟩, ?_⟩
          rw [hsp]
          (repeat ((conv => whnf); first | refine aw_seq ?_ | refine aw_region ?_ | refine aw_block ?_ | refine aw_skip ?_ | refine aw_true rfl ?_ | refine aw_false rfl ?_ | refine aw_exit ?_ | refine aw_label ?_ | refine aw_ret ?_ | refine And.intro rfl ?_ | refine And.intro trivial ?_ | refine And.intro (And.intro rfl (Nat.le_of_ble_eq_true rfl)) ?_ | refine And.intro (And.intro (by kernel_rfl) (by kernel_rfl)) ?_ | refine And.intro (by decide) ?_ | refine lit_true ?_ | refine lit_false ?_))
          exact back (i + 1, nx5) (by dsimp only; omega) (by dsimp only; omega) (ele_tell _ _ rfl rfl (List.Sublist.refl _) .slnil ⟨rfl, OwnLe.refl _, trivial⟩ trivial ⟨AVle.refl _, AVle.refl _, AVle.refl _, AVle.refl _, AVle.refl _, le_int (wrap_succ (by dsimp only; omega)), trivial⟩)
end Go.Proofs.W
