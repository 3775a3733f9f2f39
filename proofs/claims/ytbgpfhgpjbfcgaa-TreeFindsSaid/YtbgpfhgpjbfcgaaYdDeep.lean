import Derived.Test.YtbgpfhgpjbfcgaaYcFind
namespace Go.Proofs.Ytb
open Go.Vl

def deepS (D : List Int) (n : Node) : List Int := D ++ [if n.leaf then 0 else 1 + (if D.getD n.high.toNat 0 > D.getD n.low.toNat 0 then D.getD n.high.toNat 0 else D.getD n.low.toNat 0)]
/-- How deep each node's tree is. -/
def deepL (t : List Node) : List Int := t.foldl deepS []
theorem deepL_len (t : List Node) : (deepL t).length = t.length := by
  have : ∀ (t : List Node) (D : List Int), (t.foldl deepS D).length = D.length + t.length := by
    intro t
    induction t with
    | nil => intro D; rfl
    | cons n t ih => intro D; rw [List.foldl_cons, ih]; simp [deepS]; omega
  simpa [deepL] using this t []
theorem deepL_succ {t : List Node} {i : Nat} (h : i < t.length) : deepL (t.take (i + 1)) = deepS (deepL (t.take i)) (t.getD i node0) := by
  rw [take_getD node0 h, deepL, List.foldl_append]; rfl
/-- Each node leads ahead. -/
def formed (t : List Node) : Prop := ∀ i, i < t.length → (t.getD i node0).leaf = true ∨ ∃ lo hi : Nat, (t.getD i node0).low = lo ∧ (t.getD i node0).high = hi ∧ lo < i ∧ hi < i
theorem deepL_bd {t : List Node} : ∀ i, i ≤ t.length → ∀ j, 0 ≤ (deepL (t.take i)).getD j 0 ∧ (deepL (t.take i)).getD j 0 ≤ i := by
  intro i
  induction i with
  | zero => intro _ j; simp [deepL]
  | succ i ih =>
    intro h j
    rw [deepL_succ (by omega), deepS]
    have h1 := ih (by omega)
    rcases Nat.lt_trichotomy j i with hj | hj | hj
    · have hl : j < (deepL (t.take i)).length := by rw [deepL_len, List.length_take]; omega
      rw [List.getD_eq_getElem?_getD, List.getElem?_append_left hl, ← List.getD_eq_getElem?_getD]
      have := h1 j; omega
    · subst hj
      have hl : (deepL (t.take j)).length = j := by rw [deepL_len, List.length_take]; omega
      rw [List.getD_eq_getElem?_getD, List.getElem?_append_right (by omega), hl]
      simp only [Nat.sub_self, List.getElem?_cons_zero, Option.getD_some]
      have a := h1 (t.getD j node0).high.toNat
      have b := h1 (t.getD j node0).low.toNat
      split
      · omega
      · split <;> omega
    · have hl : (deepL (t.take i)).length = i := by rw [deepL_len, List.length_take]; omega
      rw [List.getD_eq_getElem?_getD, List.getElem?_eq_none (by simp [hl]; omega)]
      simp; omega
theorem c3 : Try.prog.cellsOf 3 = 1 := by kernel_rfl
set_option maxHeartbeats 1000000 in
theorem f17_spec (t : List Node) (hf : formed t) (hb : t.length ≤ 1000000) : Tells Try.prog 17 [nodes t] (int' ((0 :: deepL t).getD t.length 0)) := by
  refine tells_of_aw Try.func17 rfl rfl fun nx => ?_
  have hw0 : IntKind.i64.wrap ((t.length : Int) + 1) = ((t.length + 1 : Nat) : Int) := wrap_succ (by omega)
  (repeat ((conv => whnf); first | refine aw_seq ?_ | refine aw_region ?_ | refine aw_block ?_ | refine aw_skip ?_ | refine aw_true rfl ?_ | refine aw_false rfl ?_ | refine aw_exit ?_ | refine aw_label ?_ | refine aw_ret ?_ | refine And.intro rfl ?_ | refine And.intro trivial ?_ | refine And.intro (And.intro rfl (Nat.le_of_ble_eq_true rfl)) ?_ | refine And.intro (And.intro (by kernel_rfl) (by kernel_rfl)) ?_ | refine And.intro (by decide) ?_ | refine lit_true ?_ | refine lit_false ?_))
  (conv => whnf)
  rw [hw0]
  refine ⟨by omega, by omega, by show (8 : Int) * _ ≤ _; omega, by omega, ?_⟩
  (repeat ((conv => whnf); first | refine aw_seq ?_ | refine aw_region ?_ | refine aw_block ?_ | refine aw_skip ?_ | refine aw_true rfl ?_ | refine aw_false rfl ?_ | refine aw_exit ?_ | refine aw_label ?_ | refine aw_ret ?_ | refine And.intro rfl ?_ | refine And.intro trivial ?_ | refine And.intro (And.intro rfl (Nat.le_of_ble_eq_true rfl)) ?_ | refine And.intro (And.intro (by kernel_rfl) (by kernel_rfl)) ?_ | refine And.intro (by decide) ?_ | refine lit_true ?_ | refine lit_false ?_))
  refine aw_loop (fun s : Nat × Nat => mk 44 [(0, nodes t), (3, .hs (0, nx) 0 (t.length + 1) (t.length + 1)), (10, nodes t), (11, int' t.length), (12, int' s.1)]
      ⟨[((0, nx), .c (((0 :: deepL (t.take s.1)) ++ List.replicate (t.length - s.1) 0).map int'))], [], s.2, 1⟩) (fun s => s.1 ≤ t.length) (fun s => t.length - s.1) ?_ ?_
  · refine ⟨(0, nx + 1), by simp, ele_tell _ _ rfl rfl (.cons_cons _ .slnil) .slnil ⟨rfl, ?_, trivial⟩ trivial ⟨AVle.refl _, AVle.refl _, AVle.refl _, AVle.refl _, AVle.refl _, trivial⟩⟩
    refine LeL.of_eq (?_ : List.replicate (((t.length + 1 : Nat) : Int).toNat) (int' 0) = _)
    simp [deepL, List.replicate_succ, -List.map_replicate]
    simp
  · rintro ⟨i, nx2⟩ h1
    dsimp only at h1
    (repeat ((conv => whnf); first | refine aw_seq ?_ | refine aw_region ?_ | refine aw_block ?_ | refine aw_skip ?_ | refine aw_true rfl ?_ | refine aw_false rfl ?_ | refine aw_exit ?_ | refine aw_label ?_ | refine aw_ret ?_ | refine And.intro rfl ?_ | refine And.intro trivial ?_ | refine And.intro (And.intro rfl (Nat.le_of_ble_eq_true rfl)) ?_ | refine And.intro (And.intro (by kernel_rfl) (by kernel_rfl)) ?_ | refine And.intro (by decide) ?_ | refine lit_true ?_ | refine lit_false ?_))
    intro c h2; cases c
    · have h3 := not_of h2
      obtain rfl : i = t.length := by omega
      (repeat ((conv => whnf); first | refine aw_seq ?_ | refine aw_region ?_ | refine aw_block ?_ | refine aw_skip ?_ | refine aw_true rfl ?_ | refine aw_false rfl ?_ | refine aw_exit ?_ | refine aw_label ?_ | refine aw_ret ?_ | refine And.intro rfl ?_ | refine And.intro trivial ?_ | refine And.intro (And.intro rfl (Nat.le_of_ble_eq_true rfl)) ?_ | refine And.intro (And.intro (by kernel_rfl) (by kernel_rfl)) ?_ | refine And.intro (by decide) ?_ | refine lit_true ?_ | refine lit_false ?_))
      refine ⟨⟨by omega, by omega⟩, ?_⟩
      (repeat ((conv => whnf); first | refine aw_seq ?_ | refine aw_region ?_ | refine aw_block ?_ | refine aw_skip ?_ | refine aw_true rfl ?_ | refine aw_false rfl ?_ | refine aw_exit ?_ | refine aw_label ?_ | refine aw_ret ?_ | refine And.intro rfl ?_ | refine And.intro trivial ?_ | refine And.intro (And.intro rfl (Nat.le_of_ble_eq_true rfl)) ?_ | refine And.intro (And.intro (by kernel_rfl) (by kernel_rfl)) ?_ | refine And.intro (by decide) ?_ | refine lit_true ?_ | refine lit_false ?_))
      refine ⟨⟨rfl, ?_⟩, ?_⟩
      · simp [deepL_len, c3]
      refine splitO_eq (b := int' ((0 :: deepL t).getD t.length 0)) ?_ ?_
      · show (((0 :: deepL (t.take t.length)) ++ List.replicate (t.length - t.length) 0).map int').getD (0 + (t.length : Int).toNat * Try.prog.cellsOf 3) .any = _
        rw [c3, Nat.zero_add, Int.toNat_natCast, Nat.mul_one, getD_map (d := 0) (by simp [deepL_len]), List.take_length, Nat.sub_self]; simp
      (repeat ((conv => whnf); first | refine aw_seq ?_ | refine aw_region ?_ | refine aw_block ?_ | refine aw_skip ?_ | refine aw_true rfl ?_ | refine aw_false rfl ?_ | refine aw_exit ?_ | refine aw_label ?_ | refine aw_ret ?_ | refine And.intro rfl ?_ | refine And.intro trivial ?_ | refine And.intro (And.intro rfl (Nat.le_of_ble_eq_true rfl)) ?_ | refine And.intro (And.intro (by kernel_rfl) (by kernel_rfl)) ?_ | refine And.intro (by decide) ?_ | refine lit_true ?_ | refine lit_false ?_))
      refine ret_tells rfl (AVle.refl _)
    · have h3 := yes_of h2
      dsimp only at h3
      have hi : i < t.length := by omega
      (repeat ((conv => whnf); first | refine aw_seq ?_ | refine aw_region ?_ | refine aw_block ?_ | refine aw_skip ?_ | refine aw_true rfl ?_ | refine aw_false rfl ?_ | refine aw_exit ?_ | refine aw_label ?_ | refine aw_ret ?_ | refine And.intro rfl ?_ | refine And.intro trivial ?_ | refine And.intro (And.intro rfl (Nat.le_of_ble_eq_true rfl)) ?_ | refine And.intro (And.intro (by kernel_rfl) (by kernel_rfl)) ?_ | refine And.intro (by decide) ?_ | refine lit_true ?_ | refine lit_false ?_))
      refine ⟨⟨by omega, by omega⟩, ?_⟩
      have hs := deepL_succ hi
      have hlen : (deepL (t.take i)).length = i := by rw [deepL_len, List.length_take]; omega
      obtain ⟨m, hm⟩ : ∃ m, t.length - i = m + 1 := ⟨t.length - i - 1, by omega⟩
      rcases hn : t.getD i node0 with ⟨leaf, num, place, low, high⟩
      rw [hn] at hs
      have hf' := hf i hi
      rw [hn] at hf'
      cases leaf with
      | true =>
        refine splitO_eq (b := .rp (nodeA ⟨true, num, place, low, high⟩).cells) (by show AV.rp (nodeA (t.getD i node0)).cells = _; rw [hn]) ?_
        (repeat ((conv => whnf); first | refine aw_seq ?_ | refine aw_region ?_ | refine aw_block ?_ | refine aw_skip ?_ | refine aw_true rfl ?_ | refine aw_false rfl ?_ | refine aw_exit ?_ | refine aw_label ?_ | refine aw_ret ?_ | refine And.intro rfl ?_ | refine And.intro trivial ?_ | refine And.intro (And.intro rfl (Nat.le_of_ble_eq_true rfl)) ?_ | refine And.intro (And.intro (by kernel_rfl) (by kernel_rfl)) ?_ | refine And.intro (by decide) ?_ | refine lit_true ?_ | refine lit_false ?_))
        refine back (i + 1, nx2 + 1) (by dsimp only; omega) (by dsimp only; omega) (ele_tell _ _ rfl rfl (.cons_cons _ (.cons _ .slnil)) .slnil ⟨rfl, ?_, trivial⟩ trivial ⟨AVle.refl _, AVle.refl _, AVle.refl _, AVle.refl _, le_int (wrap_succ (by omega)), trivial⟩)
        refine LeL.of_eq (congrArg (List.map int') ?_)
        dsimp only
        rw [hs, hm, show t.length - (i + 1) = m by omega, fill_same]; simp [deepS]
      | false =>
        obtain ⟨lo, hg, h4, h5, h6, h7⟩ : ∃ lo hg : Nat, low = lo ∧ high = hg ∧ lo < i ∧ hg < i := by simpa using hf'
        subst h4 h5
        have gd : ∀ j, j < i → ((0 :: deepL (t.take i)) ++ List.replicate (t.length - i) 0).getD (j + 1) 0 = (deepL (t.take i)).getD j 0 := fun j hj => by
          rw [fill_get (by simp [hlen]; omega)]; simp
        have ld : ∀ j, j < i → (((0 :: deepL (t.take i)) ++ List.replicate (t.length - i) 0).map int').getD (0 + ((j + 1 : Nat) : Int).toNat * Try.prog.cellsOf 3) .any = int' ((deepL (t.take i)).getD j 0) := fun j hj => by
          rw [c3, Nat.zero_add, Int.toNat_natCast, Nat.mul_one, getD_map (d := 0) (by simp [hlen]; omega), gd j hj]
        have bd : ∀ j, j < i → 0 + ((j + 1 : Nat) : Int).toNat * Try.prog.cellsOf 3 < (((0 :: deepL (t.take i)) ++ List.replicate (t.length - i) 0).map int').length := fun j hj => by
          simp [hlen, c3]; omega
        have hlo := deepL_bd i (by omega) lo
        have hhi := deepL_bd i (by omega) hg
        refine splitO_eq (b := .rp (nodeA ⟨false, num, place, lo, hg⟩).cells) (by show AV.rp (nodeA (t.getD i node0)).cells = _; rw [hn]) ?_
        (repeat ((conv => whnf); first | refine aw_seq ?_ | refine aw_region ?_ | refine aw_block ?_ | refine aw_skip ?_ | refine aw_true rfl ?_ | refine aw_false rfl ?_ | refine aw_exit ?_ | refine aw_label ?_ | refine aw_ret ?_ | refine And.intro rfl ?_ | refine And.intro trivial ?_ | refine And.intro (And.intro rfl (Nat.le_of_ble_eq_true rfl)) ?_ | refine And.intro (And.intro (by kernel_rfl) (by kernel_rfl)) ?_ | refine And.intro (by decide) ?_ | refine lit_true ?_ | refine lit_false ?_))
        (refine aw_draw 18 ?_ ?_ ?_ ?_; (· kernel_rfl); (· kernel_rfl); (· kernel_rfl))
        (repeat ((conv => whnf); first | refine aw_seq ?_ | refine aw_region ?_ | refine aw_block ?_ | refine aw_skip ?_ | refine aw_true rfl ?_ | refine aw_false rfl ?_ | refine aw_exit ?_ | refine aw_label ?_ | refine aw_ret ?_ | refine And.intro rfl ?_ | refine And.intro trivial ?_ | refine And.intro (And.intro rfl (Nat.le_of_ble_eq_true rfl)) ?_ | refine And.intro (And.intro (by kernel_rfl) (by kernel_rfl)) ?_ | refine And.intro (by decide) ?_ | refine lit_true ?_ | refine lit_false ?_))
        (conv => whnf)
        rw [wrap_succ (i := lo) (by omega)]
        refine ⟨⟨by omega, by omega⟩, ?_⟩
        (repeat ((conv => whnf); first | refine aw_seq ?_ | refine aw_region ?_ | refine aw_block ?_ | refine aw_skip ?_ | refine aw_true rfl ?_ | refine aw_false rfl ?_ | refine aw_exit ?_ | refine aw_label ?_ | refine aw_ret ?_ | refine And.intro rfl ?_ | refine And.intro trivial ?_ | refine And.intro (And.intro rfl (Nat.le_of_ble_eq_true rfl)) ?_ | refine And.intro (And.intro (by kernel_rfl) (by kernel_rfl)) ?_ | refine And.intro (by decide) ?_ | refine lit_true ?_ | refine lit_false ?_))
        refine ⟨⟨rfl, bd lo h6⟩, ?_⟩
        refine splitO_eq (ld lo h6) ?_
        (repeat ((conv => whnf); first | refine aw_seq ?_ | refine aw_region ?_ | refine aw_block ?_ | refine aw_skip ?_ | refine aw_true rfl ?_ | refine aw_false rfl ?_ | refine aw_exit ?_ | refine aw_label ?_ | refine aw_ret ?_ | refine And.intro rfl ?_ | refine And.intro trivial ?_ | refine And.intro (And.intro rfl (Nat.le_of_ble_eq_true rfl)) ?_ | refine And.intro (And.intro (by kernel_rfl) (by kernel_rfl)) ?_ | refine And.intro (by decide) ?_ | refine lit_true ?_ | refine lit_false ?_))
        (conv => whnf)
        rw [wrap_succ (i := hg) (by omega)]
        refine ⟨⟨by omega, by omega⟩, ?_⟩
        (repeat ((conv => whnf); first | refine aw_seq ?_ | refine aw_region ?_ | refine aw_block ?_ | refine aw_skip ?_ | refine aw_true rfl ?_ | refine aw_false rfl ?_ | refine aw_exit ?_ | refine aw_label ?_ | refine aw_ret ?_ | refine And.intro rfl ?_ | refine And.intro trivial ?_ | refine And.intro (And.intro rfl (Nat.le_of_ble_eq_true rfl)) ?_ | refine And.intro (And.intro (by kernel_rfl) (by kernel_rfl)) ?_ | refine And.intro (by decide) ?_ | refine lit_true ?_ | refine lit_false ?_))
        refine ⟨⟨rfl, bd hg h7⟩, ?_⟩
        refine splitO_eq (ld hg h7) ?_
        (repeat ((conv => whnf); first | refine aw_seq ?_ | refine aw_region ?_ | refine aw_block ?_ | refine aw_skip ?_ | refine aw_true rfl ?_ | refine aw_false rfl ?_ | refine aw_exit ?_ | refine aw_label ?_ | refine aw_ret ?_ | refine And.intro rfl ?_ | refine And.intro trivial ?_ | refine And.intro (And.intro rfl (Nat.le_of_ble_eq_true rfl)) ?_ | refine And.intro (And.intro (by kernel_rfl) (by kernel_rfl)) ?_ | refine And.intro (by decide) ?_ | refine lit_true ?_ | refine lit_false ?_))
        (conv => whnf)
        rw [wrap_succ (i := i) (by omega)]
        refine ⟨⟨by omega, by omega⟩, ?_⟩
        (repeat ((conv => whnf); first | refine aw_seq ?_ | refine aw_region ?_ | refine aw_block ?_ | refine aw_skip ?_ | refine aw_true rfl ?_ | refine aw_false rfl ?_ | refine aw_exit ?_ | refine aw_label ?_ | refine aw_ret ?_ | refine And.intro rfl ?_ | refine And.intro trivial ?_ | refine And.intro (And.intro rfl (Nat.le_of_ble_eq_true rfl)) ?_ | refine And.intro (And.intro (by kernel_rfl) (by kernel_rfl)) ?_ | refine And.intro (by decide) ?_ | refine lit_true ?_ | refine lit_false ?_))
        refine ⟨⟨rfl, by simp [hlen, c3]; omega⟩, ?_⟩
        (repeat ((conv => whnf); first | refine aw_seq ?_ | refine aw_region ?_ | refine aw_block ?_ | refine aw_skip ?_ | refine aw_true rfl ?_ | refine aw_false rfl ?_ | refine aw_exit ?_ | refine aw_label ?_ | refine aw_ret ?_ | refine And.intro rfl ?_ | refine And.intro trivial ?_ | refine And.intro (And.intro rfl (Nat.le_of_ble_eq_true rfl)) ?_ | refine And.intro (And.intro (by kernel_rfl) (by kernel_rfl)) ?_ | refine And.intro (by decide) ?_ | refine lit_true ?_ | refine lit_false ?_))
        refine back (i + 1, nx2 + 1) (by dsimp only; omega) (by dsimp only; omega) (ele_tell _ _ rfl rfl (.cons_cons _ (.cons _ .slnil)) .slnil ⟨rfl, ?_, trivial⟩ trivial ⟨AVle.refl _, AVle.refl _, AVle.refl _, AVle.refl _, le_int (wrap_succ (by omega)), trivial⟩)
        refine LeL.of_eq ?_
        generalize hv : (if (deepL (t.take i)).getD hg 0 > (deepL (t.take i)).getD lo 0 then (deepL (t.take i)).getD hg 0 else (deepL (t.take i)).getD lo 0) = v at hs
        have hvb : 0 ≤ v ∧ v ≤ i := by rw [← hv]; split <;> omega
        show splice (((0 :: deepL (t.take i)) ++ List.replicate (t.length - i) 0).map int') (0 + ((i + 1 : Nat) : Int).toNat * Try.prog.cellsOf 3) [int' (IntKind.i64.wrap (1 + v))] = ((0 :: deepL (t.take (i + 1))) ++ List.replicate (t.length - (i + 1)) 0).map int'
        rw [wrap_id (by omega) (by omega), c3, Nat.zero_add, Int.toNat_natCast, Nat.mul_one, splice_one (by simp [hlen]; omega), hs, hm, show t.length - (i + 1) = m by omega]
        have := fill_set (0 :: deepL (t.take i)) m (1 + v) 0
        rw [List.length_cons, hlen] at this
        rw [this]
        simp [deepS, ← hv]
end Go.Proofs.Ytb
