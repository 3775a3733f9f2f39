import Derived.Test.YtbgpfhgpjbfcgaaYbBuild
namespace Go.Proofs.Ytb
open Go.Vl

def wrongN (l : List Int) : Int := if ¬ rises l then 15 else if 4096 < l.length then 3 else 0
theorem f13_spec (l : List Int) (hl : l.length ≤ 1000000000) : Tells Try.prog 13 [u32s l] (int' (wrongN l)) := by
  refine tells_of_aw Try.func13 rfl rfl fun nx => ?_
  (repeat ((conv => whnf); first | refine aw_seq ?_ | refine aw_region ?_ | refine aw_block ?_ | refine aw_skip ?_ | refine aw_true rfl ?_ | refine aw_false rfl ?_ | refine aw_exit ?_ | refine aw_label ?_ | refine aw_ret ?_ | refine And.intro rfl ?_ | refine And.intro trivial ?_ | refine And.intro (And.intro rfl (Nat.le_of_ble_eq_true rfl)) ?_ | refine And.intro (And.intro (by kernel_rfl) (by kernel_rfl)) ?_ | refine And.intro (by decide) ?_ | refine lit_true ?_ | refine lit_false ?_))
  refine aw_loop (fun i : Nat => mk 23 [(0, u32s l), (2, int' 0), (3, int' i)] ⟨[], [], nx, 0⟩) (fun i => 1 ≤ i ∧ (i ≤ l.length ∨ i = 1) ∧ ∀ j, 1 ≤ j → j < i → l.getD (j - 1) 0 < l.getD j 0) (fun i => l.length - i) ?_ ?_
  · exact ⟨1, ⟨by omega, by omega, by intro j h1 h2; omega⟩, ele_mk rfl rfl ⟨AVle.refl _, AVle.refl _, AVle.refl _, trivial⟩⟩
  · rintro i ⟨h1, h2, h3⟩
    (repeat ((conv => whnf); first | refine aw_seq ?_ | refine aw_region ?_ | refine aw_block ?_ | refine aw_skip ?_ | refine aw_true rfl ?_ | refine aw_false rfl ?_ | refine aw_exit ?_ | refine aw_label ?_ | refine aw_ret ?_ | refine And.intro rfl ?_ | refine And.intro trivial ?_ | refine And.intro (And.intro rfl (Nat.le_of_ble_eq_true rfl)) ?_ | refine And.intro (And.intro (by kernel_rfl) (by kernel_rfl)) ?_ | refine And.intro (by decide) ?_ | refine lit_true ?_ | refine lit_false ?_))
    intro c h4; cases c
    · have h5 : ¬ (i : Int) < l.length := not_of h4
      have hr : rises l := fun j hj1 hj2 => h3 j hj1 (by omega)
      (repeat ((conv => whnf); first | refine aw_seq ?_ | refine aw_region ?_ | refine aw_block ?_ | refine aw_skip ?_ | refine aw_true rfl ?_ | refine aw_false rfl ?_ | refine aw_exit ?_ | refine aw_label ?_ | refine aw_ret ?_ | refine And.intro rfl ?_ | refine And.intro trivial ?_ | refine And.intro (And.intro rfl (Nat.le_of_ble_eq_true rfl)) ?_ | refine And.intro (And.intro (by kernel_rfl) (by kernel_rfl)) ?_ | refine And.intro (by decide) ?_ | refine lit_true ?_ | refine lit_false ?_))
      intro c h6; cases c
      · have h7 : ¬ (l.length : Int) > 4096 := not_of h6
        (repeat ((conv => whnf); first | refine aw_seq ?_ | refine aw_region ?_ | refine aw_block ?_ | refine aw_skip ?_ | refine aw_true rfl ?_ | refine aw_false rfl ?_ | refine aw_exit ?_ | refine aw_label ?_ | refine aw_ret ?_ | refine And.intro rfl ?_ | refine And.intro trivial ?_ | refine And.intro (And.intro rfl (Nat.le_of_ble_eq_true rfl)) ?_ | refine And.intro (And.intro (by kernel_rfl) (by kernel_rfl)) ?_ | refine And.intro (by decide) ?_ | refine lit_true ?_ | refine lit_false ?_))
        refine ret_tells rfl (le_int ?_)
        rw [wrongN, if_neg (by simpa using hr), if_neg (by omega)]
      · have h7 : (l.length : Int) > 4096 := yes_of h6
        (repeat ((conv => whnf); first | refine aw_seq ?_ | refine aw_region ?_ | refine aw_block ?_ | refine aw_skip ?_ | refine aw_true rfl ?_ | refine aw_false rfl ?_ | refine aw_exit ?_ | refine aw_label ?_ | refine aw_ret ?_ | refine And.intro rfl ?_ | refine And.intro trivial ?_ | refine And.intro (And.intro rfl (Nat.le_of_ble_eq_true rfl)) ?_ | refine And.intro (And.intro (by kernel_rfl) (by kernel_rfl)) ?_ | refine And.intro (by decide) ?_ | refine lit_true ?_ | refine lit_false ?_))
        refine ret_tells rfl (le_int ?_)
        rw [wrongN, if_neg (by simpa using hr), if_pos (by omega)]
    · have h5 : (i : Int) < l.length := yes_of h4
      obtain ⟨j, rfl⟩ : ∃ j, i = j + 1 := ⟨i - 1, by omega⟩
      have hw : IntKind.i64.wrap (((j + 1 : Nat) : Int) - 1) = (j : Int) := by rw [wrap_id (by omega) (by omega)]; omega
      (repeat ((conv => whnf); first | refine aw_seq ?_ | refine aw_region ?_ | refine aw_block ?_ | refine aw_skip ?_ | refine aw_true rfl ?_ | refine aw_false rfl ?_ | refine aw_exit ?_ | refine aw_label ?_ | refine aw_ret ?_ | refine And.intro rfl ?_ | refine And.intro trivial ?_ | refine And.intro (And.intro rfl (Nat.le_of_ble_eq_true rfl)) ?_ | refine And.intro (And.intro (by kernel_rfl) (by kernel_rfl)) ?_ | refine And.intro (by decide) ?_ | refine lit_true ?_ | refine lit_false ?_))
      (refine aw_draw 10 ?_ ?_ ?_ ?_; (· kernel_rfl); (· kernel_rfl); (· kernel_rfl))
      (conv => whnf)
      rw [hw]
      refine ⟨⟨by omega, by omega⟩, ?_⟩
      (repeat ((conv => whnf); first | refine aw_seq ?_ | refine aw_region ?_ | refine aw_block ?_ | refine aw_skip ?_ | refine aw_true rfl ?_ | refine aw_false rfl ?_ | refine aw_exit ?_ | refine aw_label ?_ | refine aw_ret ?_ | refine And.intro rfl ?_ | refine And.intro trivial ?_ | refine And.intro (And.intro rfl (Nat.le_of_ble_eq_true rfl)) ?_ | refine And.intro (And.intro (by kernel_rfl) (by kernel_rfl)) ?_ | refine And.intro (by decide) ?_ | refine lit_true ?_ | refine lit_false ?_))
      refine ⟨⟨by omega, by omega⟩, ?_⟩
      (repeat ((conv => whnf); first | refine aw_seq ?_ | refine aw_region ?_ | refine aw_block ?_ | refine aw_skip ?_ | refine aw_true rfl ?_ | refine aw_false rfl ?_ | refine aw_exit ?_ | refine aw_label ?_ | refine aw_ret ?_ | refine And.intro rfl ?_ | refine And.intro trivial ?_ | refine And.intro (And.intro rfl (Nat.le_of_ble_eq_true rfl)) ?_ | refine And.intro (And.intro (by kernel_rfl) (by kernel_rfl)) ?_ | refine And.intro (by decide) ?_ | refine lit_true ?_ | refine lit_false ?_))
      intro c h6; cases c
      · have h7 : ¬ l.getD j 0 ≥ l.getD (j + 1) 0 := not_of h6
        (repeat ((conv => whnf); first | refine aw_seq ?_ | refine aw_region ?_ | refine aw_block ?_ | refine aw_skip ?_ | refine aw_true rfl ?_ | refine aw_false rfl ?_ | refine aw_exit ?_ | refine aw_label ?_ | refine aw_ret ?_ | refine And.intro rfl ?_ | refine And.intro trivial ?_ | refine And.intro (And.intro rfl (Nat.le_of_ble_eq_true rfl)) ?_ | refine And.intro (And.intro (by kernel_rfl) (by kernel_rfl)) ?_ | refine And.intro (by decide) ?_ | refine lit_true ?_ | refine lit_false ?_))
        refine back (j + 2) ⟨by omega, by omega, fun k hk1 hk2 => ?_⟩ (by omega) (ele_mk rfl rfl ⟨AVle.refl _, AVle.refl _, le_int (wrap_succ (by omega)), trivial⟩)
        rcases Nat.lt_or_ge k (j + 1) with h | h
        · exact h3 k hk1 h
        · obtain rfl : k = j + 1 := by omega
          exact Int.not_le.1 h7
      · have h7 : l.getD j 0 ≥ l.getD (j + 1) 0 := yes_of h6
        (repeat ((conv => whnf); first | refine aw_seq ?_ | refine aw_region ?_ | refine aw_block ?_ | refine aw_skip ?_ | refine aw_true rfl ?_ | refine aw_false rfl ?_ | refine aw_exit ?_ | refine aw_label ?_ | refine aw_ret ?_ | refine And.intro rfl ?_ | refine And.intro trivial ?_ | refine And.intro (And.intro rfl (Nat.le_of_ble_eq_true rfl)) ?_ | refine And.intro (And.intro (by kernel_rfl) (by kernel_rfl)) ?_ | refine And.intro (by decide) ?_ | refine lit_true ?_ | refine lit_false ?_))
        refine ret_tells rfl (le_int ?_)
        have hr : ¬ rises l := fun hr => absurd (hr (j + 1) (by omega) (by omega)) (Int.not_lt.2 h7)
        rw [wrongN, if_pos hr]

/-- A number's place among some; -1: it is none. -/
def placeI (l : List Int) (n : Int) : Int := match l.findIdx? (· == n) with
  | some i => i
  | none => -1
theorem f16_spec (l : List Int) (n : Int) (hl : l.length ≤ 1000000000) : Tells Try.prog 16 [u32s l, u32' n] (int' (placeI l n)) := by
  refine tells_of_aw Try.func16 rfl rfl fun nx => ?_
  (repeat ((conv => whnf); first | refine aw_seq ?_ | refine aw_region ?_ | refine aw_block ?_ | refine aw_skip ?_ | refine aw_true rfl ?_ | refine aw_false rfl ?_ | refine aw_exit ?_ | refine aw_label ?_ | refine aw_ret ?_ | refine And.intro rfl ?_ | refine And.intro trivial ?_ | refine And.intro (And.intro rfl (Nat.le_of_ble_eq_true rfl)) ?_ | refine And.intro (And.intro (by kernel_rfl) (by kernel_rfl)) ?_ | refine And.intro (by decide) ?_ | refine lit_true ?_ | refine lit_false ?_))
  refine aw_loop (fun i : Nat => mk 19 [(0, u32s l), (1, u32' n), (5, int' i)] ⟨[], [], nx, 0⟩) (fun i => i ≤ l.length ∧ ∀ j, j < i → (l.getD j 0 == n) = false) (fun i => l.length - i) ?_ ?_
  · exact ⟨0, ⟨by omega, by intro j h; omega⟩, ele_mk rfl rfl ⟨AVle.refl _, AVle.refl _, AVle.refl _, trivial⟩⟩
  · rintro i ⟨h1, h2⟩
    (repeat ((conv => whnf); first | refine aw_seq ?_ | refine aw_region ?_ | refine aw_block ?_ | refine aw_skip ?_ | refine aw_true rfl ?_ | refine aw_false rfl ?_ | refine aw_exit ?_ | refine aw_label ?_ | refine aw_ret ?_ | refine And.intro rfl ?_ | refine And.intro trivial ?_ | refine And.intro (And.intro rfl (Nat.le_of_ble_eq_true rfl)) ?_ | refine And.intro (And.intro (by kernel_rfl) (by kernel_rfl)) ?_ | refine And.intro (by decide) ?_ | refine lit_true ?_ | refine lit_false ?_))
    intro c h3; cases c
    · (repeat ((conv => whnf); first | refine aw_seq ?_ | refine aw_region ?_ | refine aw_block ?_ | refine aw_skip ?_ | refine aw_true rfl ?_ | refine aw_false rfl ?_ | refine aw_exit ?_ | refine aw_label ?_ | refine aw_ret ?_ | refine And.intro rfl ?_ | refine And.intro trivial ?_ | refine And.intro (And.intro rfl (Nat.le_of_ble_eq_true rfl)) ?_ | refine And.intro (And.intro (by kernel_rfl) (by kernel_rfl)) ?_ | refine And.intro (by decide) ?_ | refine lit_true ?_ | refine lit_false ?_))
      have h4 := not_of h3
      refine ret_tells rfl (le_int ?_)
      rw [placeI, idx_none' (d := 0) fun j hj => h2 j (by omega)]
    · have h4 := yes_of h3
      (repeat ((conv => whnf); first | refine aw_seq ?_ | refine aw_region ?_ | refine aw_block ?_ | refine aw_skip ?_ | refine aw_true rfl ?_ | refine aw_false rfl ?_ | refine aw_exit ?_ | refine aw_label ?_ | refine aw_ret ?_ | refine And.intro rfl ?_ | refine And.intro trivial ?_ | refine And.intro (And.intro rfl (Nat.le_of_ble_eq_true rfl)) ?_ | refine And.intro (And.intro (by kernel_rfl) (by kernel_rfl)) ?_ | refine And.intro (by decide) ?_ | refine lit_true ?_ | refine lit_false ?_))
      refine ⟨⟨by omega, by omega⟩, ?_⟩
      (repeat ((conv => whnf); first | refine aw_seq ?_ | refine aw_region ?_ | refine aw_block ?_ | refine aw_skip ?_ | refine aw_true rfl ?_ | refine aw_false rfl ?_ | refine aw_exit ?_ | refine aw_label ?_ | refine aw_ret ?_ | refine And.intro rfl ?_ | refine And.intro trivial ?_ | refine And.intro (And.intro rfl (Nat.le_of_ble_eq_true rfl)) ?_ | refine And.intro (And.intro (by kernel_rfl) (by kernel_rfl)) ?_ | refine And.intro (by decide) ?_ | refine lit_true ?_ | refine lit_false ?_))
      intro c h5; cases c
      · (repeat ((conv => whnf); first | refine aw_seq ?_ | refine aw_region ?_ | refine aw_block ?_ | refine aw_skip ?_ | refine aw_true rfl ?_ | refine aw_false rfl ?_ | refine aw_exit ?_ | refine aw_label ?_ | refine aw_ret ?_ | refine And.intro rfl ?_ | refine And.intro trivial ?_ | refine And.intro (And.intro rfl (Nat.le_of_ble_eq_true rfl)) ?_ | refine And.intro (And.intro (by kernel_rfl) (by kernel_rfl)) ?_ | refine And.intro (by decide) ?_ | refine lit_true ?_ | refine lit_false ?_))
        refine back (i + 1) ⟨by omega, fun j hj => ?_⟩ (by omega) (ele_mk rfl rfl ⟨AVle.refl _, AVle.refl _, le_int (wrap_succ (by omega)), trivial⟩)
        rcases Nat.lt_or_ge j i with h | h
        · exact h2 j h
        · obtain rfl : j = i := by omega
          exact h5.symm
      · (repeat ((conv => whnf); first | refine aw_seq ?_ | refine aw_region ?_ | refine aw_block ?_ | refine aw_skip ?_ | refine aw_true rfl ?_ | refine aw_false rfl ?_ | refine aw_exit ?_ | refine aw_label ?_ | refine aw_ret ?_ | refine And.intro rfl ?_ | refine And.intro trivial ?_ | refine And.intro (And.intro rfl (Nat.le_of_ble_eq_true rfl)) ?_ | refine And.intro (And.intro (by kernel_rfl) (by kernel_rfl)) ?_ | refine And.intro (by decide) ?_ | refine lit_true ?_ | refine lit_false ?_))
        refine ret_tells rfl (le_int ?_)
        rw [placeI, idx_at' (d := 0) (by omega) h2 h5.symm]

/-- In the nodes there stands at a place a tree of some numbers, whose places are counted from a on; d: its depth. -/
inductive TreeAt (t : List Node) : Nat → List Int → Nat → Nat → Prop
  | leaf (k : Nat) (x : Int) (a : Nat) (h : t[k]? = some ⟨true, x, a, 0, 0⟩) : TreeAt t k [x] a 0
  | node (k lo hi : Nat) (x : Int) (l r : List Int) (a d e : Nat) (h1 : lo < k) (h2 : hi < k) (h : t[k]? = some ⟨false, x, 0, lo, hi⟩) (hl : TreeAt t lo l a d) (hr : TreeAt t hi r (a + l.length) e)
      (hx : r.head? = some x) : TreeAt t k (l ++ r) a (1 + max d e)
theorem TreeAt.lt {t : List Node} {k a d : Nat} {l : List Int} (h : TreeAt t k l a d) : k < t.length := by
  cases h with
  | leaf _ _ _ h => exact (List.getElem?_eq_some_iff.1 h).1
  | node _ lo hi x l r _ d e h1 h2 h hl hr hx => exact (List.getElem?_eq_some_iff.1 h).1
theorem nodeF_at {t : List Node} {k : Nat} {n : Node} (h : t[k]? = some n) : t.getD k node0 = n := by simp [List.getD, h]
/-- The place of a number, counted from a on. -/
def placeA (l : List Int) (n : Int) (a : Nat) : Int := match l.findIdx? (· == n) with
  | some i => (a + i : Nat)
  | none => -1
theorem placeA_zero (l : List Int) (n : Int) : placeA l n 0 = placeI l n := by unfold placeA placeI; cases l.findIdx? (· == n) <;> simp
theorem rises_app {l r : List Int} (h : rises (l ++ r)) : rises l ∧ rises r ∧ ∀ x ∈ l, ∀ y ∈ r, x < y := by
  have mono : ∀ j i, i < j → j < (l ++ r).length → (l ++ r).getD i 0 < (l ++ r).getD j 0 := by
    intro j
    induction j with
    | zero => intro i hi; omega
    | succ j ih =>
      intro i hi hj
      have h1 := h (j + 1) (by omega) hj
      rw [Nat.add_sub_cancel] at h1
      rcases Nat.lt_or_ge i j with h2 | h2
      · exact Int.lt_trans (ih i h2 (by omega)) h1
      · obtain rfl : i = j := by omega
        exact h1
  have gl : ∀ i, i < l.length → (l ++ r).getD i 0 = l.getD i 0 := fun i hi => by simp [List.getD, List.getElem?_append_left hi]
  have gr : ∀ i, (l ++ r).getD (l.length + i) 0 = r.getD i 0 := fun i => by simp [List.getD, List.getElem?_append_right]
  refine ⟨fun i h1 h2 => ?_, fun i h1 h2 => ?_, fun x hx y hy => ?_⟩
  · rw [← gl i h2, ← gl (i - 1) (by omega)]; exact mono i (i - 1) (by omega) (by simp; omega)
  · rw [← gr i, ← gr (i - 1)]; exact mono _ _ (by omega) (by simp; omega)
  · obtain ⟨i, hi, rfl⟩ := List.getElem_of_mem hx
    obtain ⟨j, hj, rfl⟩ := List.getElem_of_mem hy
    have := mono (l.length + j) i (by omega) (by simp; omega)
    rw [gl i hi, gr j] at this
    simpa [List.getD, hi, hj] using this
theorem placeA_left {l r : List Int} {n : Int} {a : Nat} (h : ∀ y ∈ r, y ≠ n) : placeA (l ++ r) n a = placeA l n a := by
  unfold placeA
  rw [List.findIdx?_append]
  have : r.findIdx? (· == n) = none := by rw [List.findIdx?_eq_none_iff]; intro x hx; simpa using h x hx
  rw [this]
  cases l.findIdx? (· == n) <;> rfl
theorem placeA_right {l r : List Int} {n : Int} {a : Nat} (h : ∀ y ∈ l, y ≠ n) : placeA (l ++ r) n a = placeA r n (a + l.length) := by
  unfold placeA
  rw [List.findIdx?_append]
  have : l.findIdx? (· == n) = none := by rw [List.findIdx?_eq_none_iff]; intro x hx; simpa using h x hx
  rw [this]
  cases hr : r.findIdx? (· == n) with
  | none => rfl
  | some i => simp; omega
theorem f15_spec (t : List Node) (n : Int) (l : List Int) (d : Nat) (h : TreeAt t (t.length - 1) l 0 d) (hl : rises l) (hb : t.length ≤ 1000000000) : Tells Try.prog 15 [nodes t, u32' n] (int' (placeI l n)) := by
  have h0 := h.lt
  refine tells_of_aw Try.func15 rfl rfl fun nx => ?_
  (repeat ((conv => whnf); first | refine aw_seq ?_ | refine aw_region ?_ | refine aw_block ?_ | refine aw_skip ?_ | refine aw_true rfl ?_ | refine aw_false rfl ?_ | refine aw_exit ?_ | refine aw_label ?_ | refine aw_ret ?_ | refine And.intro rfl ?_ | refine And.intro trivial ?_ | refine And.intro (And.intro rfl (Nat.le_of_ble_eq_true rfl)) ?_ | refine And.intro (And.intro (by kernel_rfl) (by kernel_rfl)) ?_ | refine And.intro (by decide) ?_ | refine lit_true ?_ | refine lit_false ?_))
  refine aw_loop (fun s : Nat × List Int × Nat × Nat × Nat => mk 44 [(0, nodes t), (1, u32' n), (5, int' s.1)] ⟨[], [], s.2.2.2.2, 0⟩) (fun s => TreeAt t s.1 s.2.1 s.2.2.1 s.2.2.2.1 ∧ rises s.2.1 ∧ placeA s.2.1 n s.2.2.1 = placeI l n) (fun s => s.1) ?_ ?_
  · refine ⟨(t.length - 1, l, 0, d, nx), ⟨h, hl, placeA_zero l n⟩, ele_mk rfl rfl ⟨AVle.refl _, AVle.refl _, le_int ?_, trivial⟩⟩
    show IntKind.i64.wrap ((t.length : Int) - 1) = _
    rw [wrap_id (by omega) (by omega)]; dsimp only; omega
  · rintro ⟨k, l', a, d', nx'⟩ ⟨h1, h2, h3⟩
    dsimp only at h1 h2 h3
    have hk := h1.lt
    (repeat ((conv => whnf); first | refine aw_seq ?_ | refine aw_region ?_ | refine aw_block ?_ | refine aw_skip ?_ | refine aw_true rfl ?_ | refine aw_false rfl ?_ | refine aw_exit ?_ | refine aw_label ?_ | refine aw_ret ?_ | refine And.intro rfl ?_ | refine And.intro trivial ?_ | refine And.intro (And.intro rfl (Nat.le_of_ble_eq_true rfl)) ?_ | refine And.intro (And.intro (by kernel_rfl) (by kernel_rfl)) ?_ | refine And.intro (by decide) ?_ | refine lit_true ?_ | refine lit_false ?_))
    refine ⟨⟨by omega, by omega⟩, ?_⟩
    cases h1 with
    | leaf k x a he =>
      refine splitO_eq (b := .rp (nodeA ⟨true, x, a, 0, 0⟩).cells) (by show AV.rp (nodeA (t.getD k node0)).cells = _; rw [nodeF_at he]) ?_
      (repeat ((conv => whnf); first | refine aw_seq ?_ | refine aw_region ?_ | refine aw_block ?_ | refine aw_skip ?_ | refine aw_true rfl ?_ | refine aw_false rfl ?_ | refine aw_exit ?_ | refine aw_label ?_ | refine aw_ret ?_ | refine And.intro rfl ?_ | refine And.intro trivial ?_ | refine And.intro (And.intro rfl (Nat.le_of_ble_eq_true rfl)) ?_ | refine And.intro (And.intro (by kernel_rfl) (by kernel_rfl)) ?_ | refine And.intro (by decide) ?_ | refine lit_true ?_ | refine lit_false ?_))
      intro c h6; cases c
      · (repeat ((conv => whnf); first | refine aw_seq ?_ | refine aw_region ?_ | refine aw_block ?_ | refine aw_skip ?_ | refine aw_true rfl ?_ | refine aw_false rfl ?_ | refine aw_exit ?_ | refine aw_label ?_ | refine aw_ret ?_ | refine And.intro rfl ?_ | refine And.intro trivial ?_ | refine And.intro (And.intro rfl (Nat.le_of_ble_eq_true rfl)) ?_ | refine And.intro (And.intro (by kernel_rfl) (by kernel_rfl)) ?_ | refine And.intro (by decide) ?_ | refine lit_true ?_ | refine lit_false ?_))
        refine ret_tells rfl (le_int ?_)
        rw [← h3]
        have h7 : (x == n) = false := h6.symm
        simp [placeA, List.findIdx?_cons, h7]
      · (repeat ((conv => whnf); first | refine aw_seq ?_ | refine aw_region ?_ | refine aw_block ?_ | refine aw_skip ?_ | refine aw_true rfl ?_ | refine aw_false rfl ?_ | refine aw_exit ?_ | refine aw_label ?_ | refine aw_ret ?_ | refine And.intro rfl ?_ | refine And.intro trivial ?_ | refine And.intro (And.intro rfl (Nat.le_of_ble_eq_true rfl)) ?_ | refine And.intro (And.intro (by kernel_rfl) (by kernel_rfl)) ?_ | refine And.intro (by decide) ?_ | refine lit_true ?_ | refine lit_false ?_))
        refine ret_tells rfl (le_int ?_)
        rw [← h3]
        have h7 : (x == n) = true := h6.symm
        simp [placeA, List.findIdx?_cons, h7]
    | node k lo hi x l r a d e g1 g2 he gl gr hx =>
      obtain ⟨r1, r2, r3⟩ := rises_app h2
      refine splitO_eq (b := .rp (nodeA ⟨false, x, 0, lo, hi⟩).cells) (by show AV.rp (nodeA (t.getD k node0)).cells = _; rw [nodeF_at he]) ?_
      have hxr : ∃ r', r = x :: r' := by
        cases r with
        | nil => simp at hx
        | cons y r' => simp at hx; exact ⟨r', by rw [hx]⟩
      obtain ⟨r', rfl⟩ := hxr
      (repeat ((conv => whnf); first | refine aw_seq ?_ | refine aw_region ?_ | refine aw_block ?_ | refine aw_skip ?_ | refine aw_true rfl ?_ | refine aw_false rfl ?_ | refine aw_exit ?_ | refine aw_label ?_ | refine aw_ret ?_ | refine And.intro rfl ?_ | refine And.intro trivial ?_ | refine And.intro (And.intro rfl (Nat.le_of_ble_eq_true rfl)) ?_ | refine And.intro (And.intro (by kernel_rfl) (by kernel_rfl)) ?_ | refine And.intro (by decide) ?_ | refine lit_true ?_ | refine lit_false ?_))
      intro c h5; cases c
      · have h6 : ¬ n ≥ x := not_of h5
        (repeat ((conv => whnf); first | refine aw_seq ?_ | refine aw_region ?_ | refine aw_block ?_ | refine aw_skip ?_ | refine aw_true rfl ?_ | refine aw_false rfl ?_ | refine aw_exit ?_ | refine aw_label ?_ | refine aw_ret ?_ | refine And.intro rfl ?_ | refine And.intro trivial ?_ | refine And.intro (And.intro rfl (Nat.le_of_ble_eq_true rfl)) ?_ | refine And.intro (And.intro (by kernel_rfl) (by kernel_rfl)) ?_ | refine And.intro (by decide) ?_ | refine lit_true ?_ | refine lit_false ?_))
        refine back (lo, l, a, d, nx' + 1) ⟨gl, r1, ?_⟩ g1 (ele_keep rfl rfl (.cons _ .slnil) .slnil ⟨AVle.refl _, AVle.refl _, AVle.refl _, trivial⟩)
        dsimp only
        rw [← h3, placeA_left]
        intro y hy hyn
        rcases List.mem_cons.1 hy with rfl | hy
        · omega
        · have := (rises_app (l := [x]) (r := r') r2).2.2 x (by simp) y hy
          omega
      · have h6 : n ≥ x := yes_of h5
        (repeat ((conv => whnf); first | refine aw_seq ?_ | refine aw_region ?_ | refine aw_block ?_ | refine aw_skip ?_ | refine aw_true rfl ?_ | refine aw_false rfl ?_ | refine aw_exit ?_ | refine aw_label ?_ | refine aw_ret ?_ | refine And.intro rfl ?_ | refine And.intro trivial ?_ | refine And.intro (And.intro rfl (Nat.le_of_ble_eq_true rfl)) ?_ | refine And.intro (And.intro (by kernel_rfl) (by kernel_rfl)) ?_ | refine And.intro (by decide) ?_ | refine lit_true ?_ | refine lit_false ?_))
        refine back (hi, x :: r', a + l.length, e, nx' + 1) ⟨gr, r2, ?_⟩ g2 (ele_keep rfl rfl (.cons _ .slnil) .slnil ⟨AVle.refl _, AVle.refl _, AVle.refl _, trivial⟩)
        dsimp only
        rw [← h3, placeA_right]
        intro y hy hyn
        have := r3 y hy x (by simp)
        omega
theorem f15_empty (n : Int) : Tells Try.prog 15 [nodes [⟨true, 0, -1, 0, 0⟩], u32' n] (int' (-1)) := by
  refine tells_of_aw Try.func15 rfl rfl fun nx => ?_
  (repeat ((conv => whnf); first | refine aw_seq ?_ | refine aw_region ?_ | refine aw_block ?_ | refine aw_skip ?_ | refine aw_true rfl ?_ | refine aw_false rfl ?_ | refine aw_exit ?_ | refine aw_label ?_ | refine aw_ret ?_ | refine And.intro rfl ?_ | refine And.intro trivial ?_ | refine And.intro (And.intro rfl (Nat.le_of_ble_eq_true rfl)) ?_ | refine And.intro (And.intro (by kernel_rfl) (by kernel_rfl)) ?_ | refine And.intro (by decide) ?_ | refine lit_true ?_ | refine lit_false ?_))
  refine aw_loop (fun s : Unit => mk 44 [(0, nodes [⟨true, 0, -1, 0, 0⟩]), (1, u32' n), (5, int' 0)] ⟨[], [], nx, 0⟩) (fun s => True) (fun s => 0) ?_ ?_
  · exact ⟨(), trivial, ele_mk rfl rfl ⟨AVle.refl _, AVle.refl _, AVle.refl _, trivial⟩⟩
  · rintro ⟨⟩ _
    (repeat ((conv => whnf); first | refine aw_seq ?_ | refine aw_region ?_ | refine aw_block ?_ | refine aw_skip ?_ | refine aw_true rfl ?_ | refine aw_false rfl ?_ | refine aw_exit ?_ | refine aw_label ?_ | refine aw_ret ?_ | refine And.intro rfl ?_ | refine And.intro trivial ?_ | refine And.intro (And.intro rfl (Nat.le_of_ble_eq_true rfl)) ?_ | refine And.intro (And.intro (by kernel_rfl) (by kernel_rfl)) ?_ | refine And.intro (by decide) ?_ | refine lit_true ?_ | refine lit_false ?_))
    refine ret_tells rfl (AVle.refl _)
theorem least_pow (n : Nat) : ∃ k : Nat, n ≤ 2 ^ k ∧ ∀ j, j < k → 2 ^ j < n := by
  have ex : ∀ m, n ≤ 2 ^ m → ∃ k : Nat, n ≤ 2 ^ k ∧ ∀ j, j < k → 2 ^ j < n := by
    intro m
    induction m with
    | zero => intro h; exact ⟨0, h, fun j hj => by omega⟩
    | succ m ih =>
      intro h
      by_cases h2 : n ≤ 2 ^ m
      · exact ih h2
      · refine ⟨m + 1, h, fun j hj => ?_⟩
        have : 2 ^ j ≤ 2 ^ m := Nat.pow_le_pow_right (by omega) (by omega)
        omega
  exact ex n (Nat.le_of_lt Nat.lt_two_pow_self)
theorem f18_spec (n k : Nat) (hn : n ≤ 1000000000) (h1 : n ≤ 2 ^ k) (h2 : ∀ j, j < k → 2 ^ j < n) : Tells Try.prog 18 [int' n] (int' k) := by
  refine tells_of_aw Try.func18 rfl rfl fun nx => ?_
  (repeat ((conv => whnf); first | refine aw_seq ?_ | refine aw_region ?_ | refine aw_block ?_ | refine aw_skip ?_ | refine aw_true rfl ?_ | refine aw_false rfl ?_ | refine aw_exit ?_ | refine aw_label ?_ | refine aw_ret ?_ | refine And.intro rfl ?_ | refine And.intro trivial ?_ | refine And.intro (And.intro rfl (Nat.le_of_ble_eq_true rfl)) ?_ | refine And.intro (And.intro (by kernel_rfl) (by kernel_rfl)) ?_ | refine And.intro (by decide) ?_ | refine lit_true ?_ | refine lit_false ?_))
  refine aw_loop (fun j : Nat => mk 13 [(0, int' n), (3, int' j), (4, int' (2 ^ j : Nat))] ⟨[], [], nx, 0⟩) (fun j => j ≤ k) (fun j => k - j) ?_ ?_
  · exact ⟨0, by omega, ele_mk rfl rfl ⟨AVle.refl _, AVle.refl _, AVle.refl _, trivial⟩⟩
  · intro j hj
    (repeat ((conv => whnf); first | refine aw_seq ?_ | refine aw_region ?_ | refine aw_block ?_ | refine aw_skip ?_ | refine aw_true rfl ?_ | refine aw_false rfl ?_ | refine aw_exit ?_ | refine aw_label ?_ | refine aw_ret ?_ | refine And.intro rfl ?_ | refine And.intro trivial ?_ | refine And.intro (And.intro rfl (Nat.le_of_ble_eq_true rfl)) ?_ | refine And.intro (And.intro (by kernel_rfl) (by kernel_rfl)) ?_ | refine And.intro (by decide) ?_ | refine lit_true ?_ | refine lit_false ?_))
    intro c h3; cases c
    · have h4 : ¬ ((2 ^ j : Nat) : Int) < n := not_of h3
      (repeat ((conv => whnf); first | refine aw_seq ?_ | refine aw_region ?_ | refine aw_block ?_ | refine aw_skip ?_ | refine aw_true rfl ?_ | refine aw_false rfl ?_ | refine aw_exit ?_ | refine aw_label ?_ | refine aw_ret ?_ | refine And.intro rfl ?_ | refine And.intro trivial ?_ | refine And.intro (And.intro rfl (Nat.le_of_ble_eq_true rfl)) ?_ | refine And.intro (And.intro (by kernel_rfl) (by kernel_rfl)) ?_ | refine And.intro (by decide) ?_ | refine lit_true ?_ | refine lit_false ?_))
      refine ret_tells rfl (le_int ?_)
      rcases Nat.lt_or_ge j k with h | h
      · have := h2 j h; omega
      · omega
    · have h4 : ((2 ^ j : Nat) : Int) < n := yes_of h3
      have hjk : j < k := by
        rcases Nat.lt_or_ge j k with h | h
        · exact h
        · obtain rfl : j = k := by omega
          omega
      have hj1 : j < 2 ^ j := Nat.lt_two_pow_self
      (repeat ((conv => whnf); first | refine aw_seq ?_ | refine aw_region ?_ | refine aw_block ?_ | refine aw_skip ?_ | refine aw_true rfl ?_ | refine aw_false rfl ?_ | refine aw_exit ?_ | refine aw_label ?_ | refine aw_ret ?_ | refine And.intro rfl ?_ | refine And.intro trivial ?_ | refine And.intro (And.intro rfl (Nat.le_of_ble_eq_true rfl)) ?_ | refine And.intro (And.intro (by kernel_rfl) (by kernel_rfl)) ?_ | refine And.intro (by decide) ?_ | refine lit_true ?_ | refine lit_false ?_))
      refine back (j + 1) hjk (by omega) (ele_mk rfl rfl ⟨AVle.refl _, le_int (wrap_succ (by omega)), le_int ?_, trivial⟩)
      rw [wrap_id (by omega) (by omega), Nat.pow_succ]; omega
end Go.Proofs.Ytb
