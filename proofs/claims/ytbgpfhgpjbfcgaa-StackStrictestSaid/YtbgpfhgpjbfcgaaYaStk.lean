import Derived.Test.YtbgpfhgpjbfcgaaYaAct
namespace Go.Proofs.Ytb
open Go.Vl

theorem f27_nil (s : ByteArray) (c : Int) : Tells Try.prog 27 [.ag [.v (.string s), .v (.int .u32 c), .v .nilFunc]] (int 0) := by
  refine tells_of_aw Try.func27 rfl rfl fun nx => ?_
  (repeat ((conv => whnf); first | refine aw_seq ?_ | refine aw_region ?_ | refine aw_block ?_ | refine aw_skip ?_ | refine aw_true rfl ?_ | refine aw_false rfl ?_ | refine aw_exit ?_ | refine aw_label ?_ | refine aw_ret ?_ | refine And.intro rfl ?_ | refine And.intro (And.intro rfl (Nat.le_of_ble_eq_true rfl)) ?_ | refine And.intro (And.intro (by kernel_rfl) (by kernel_rfl)) ?_ | refine lit_true ?_ | refine lit_false ?_))
  refine ret_tells rfl (AVle.refl _)
theorem f27_below (s : ByteArray) (c n : Int) (h : 0 ≤ n ∧ n ≤ 100000) : Tells Try.prog 27 [.ag [.v (.string s), .v (.int .u32 c), belowF n]] (int (n - 1)) := by
  refine tells_of_aw Try.func27 rfl rfl fun nx => ?_
  (repeat ((conv => whnf); first | refine aw_seq ?_ | refine aw_region ?_ | refine aw_block ?_ | refine aw_skip ?_ | refine aw_true rfl ?_ | refine aw_false rfl ?_ | refine aw_exit ?_ | refine aw_label ?_ | refine aw_ret ?_ | refine And.intro rfl ?_ | refine And.intro (And.intro rfl (Nat.le_of_ble_eq_true rfl)) ?_ | refine And.intro (And.intro (by kernel_rfl) (by kernel_rfl)) ?_ | refine lit_true ?_ | refine lit_false ?_))
  refine aop_tells rfl rfl (f30_spec n h) ⟨AVle.refl _, trivial⟩ fun nx => ?_
  (repeat ((conv => whnf); first | refine aw_seq ?_ | refine aw_region ?_ | refine aw_block ?_ | refine aw_skip ?_ | refine aw_true rfl ?_ | refine aw_false rfl ?_ | refine aw_exit ?_ | refine aw_label ?_ | refine aw_ret ?_ | refine And.intro rfl ?_ | refine And.intro (And.intro rfl (Nat.le_of_ble_eq_true rfl)) ?_ | refine And.intro (And.intro (by kernel_rfl) (by kernel_rfl)) ?_ | refine lit_true ?_ | refine lit_false ?_))
  refine ret_tells rfl (AVle.refl _)
theorem row_most (k : Nat) (h : k < 8) : ∃ s c m, rowF rowsL k = .ag [.v (.string s), .v (.int .u32 c), m] ∧ (m = .v .nilFunc ∨ ∃ n, m = belowF n) ∧ Tells Try.prog 27 [rowF rowsL k] (int (most9 (k + 1))) := by
  rcases k with _ | _ | _ | _ | _ | _ | _ | _ | k
  · exact ⟨_, _, _, rfl, .inl rfl, f27_nil _ _⟩
  · exact ⟨_, _, _, rfl, .inl rfl, f27_nil _ _⟩
  · exact ⟨_, _, _, rfl, .inl rfl, f27_nil _ _⟩
  · exact ⟨_, _, _, rfl, .inr ⟨_, rfl⟩, f27_below _ _ 4096 (by decide)⟩
  · exact ⟨_, _, _, rfl, .inl rfl, f27_nil _ _⟩
  · exact ⟨_, _, _, rfl, .inr ⟨_, rfl⟩, f27_below _ _ 65536 (by decide)⟩
  · exact ⟨_, _, _, rfl, .inl rfl, f27_nil _ _⟩
  · exact ⟨_, _, _, rfl, .inl rfl, f27_nil _ _⟩
  · omega
theorem right9_out {k n : Int} (h : k < 1 ∨ 8 < k) : right9 k n = false := by simp [right9]; omega
theorem f22_in (k n : Int) (m : AV) (s : ByteArray) (c : Int) (hm : m = .v .nilFunc ∨ ∃ n, m = belowF n) (hk : 1 ≤ k ∧ k ≤ 8)
    (h26 : Tells Try.prog 26 [int k] (.tup [.ag [.v (.string s), .v (.int .u32 c), m], boolA true])) (h27 : Tells Try.prog 27 [.ag [.v (.string s), .v (.int .u32 c), m]] (int (most9 k))) :
    Tells Try.prog 22 [act k n] (boolA (right9 k n)) := by
  refine tells_of_aw Try.func22 rfl rfl fun nx => ?_
  (repeat ((conv => whnf); first | refine aw_seq ?_ | refine aw_region ?_ | refine aw_block ?_ | refine aw_skip ?_ | refine aw_true rfl ?_ | refine aw_false rfl ?_ | refine aw_exit ?_ | refine aw_label ?_ | refine aw_ret ?_ | refine And.intro rfl ?_ | refine And.intro (And.intro rfl (Nat.le_of_ble_eq_true rfl)) ?_ | refine And.intro (And.intro (by kernel_rfl) (by kernel_rfl)) ?_ | refine lit_true ?_ | refine lit_false ?_))
  refine aop_tells rfl rfl h26 ⟨AVle.refl _, trivial⟩ fun nx => ?_
  rcases hm with rfl | ⟨n', rfl⟩
  all_goals
    (repeat ((conv => whnf); first | refine aw_seq ?_ | refine aw_region ?_ | refine aw_block ?_ | refine aw_skip ?_ | refine aw_true rfl ?_ | refine aw_false rfl ?_ | refine aw_exit ?_ | refine aw_label ?_ | refine aw_ret ?_ | refine And.intro rfl ?_ | refine And.intro (And.intro rfl (Nat.le_of_ble_eq_true rfl)) ?_ | refine And.intro (And.intro (by kernel_rfl) (by kernel_rfl)) ?_ | refine lit_true ?_ | refine lit_false ?_))
    (refine aw_draw 13 ?_ ?_ ?_ ?_; (· kernel_rfl); (· kernel_rfl); (· kernel_rfl))
    (repeat ((conv => whnf); first | refine aw_seq ?_ | refine aw_region ?_ | refine aw_block ?_ | refine aw_skip ?_ | refine aw_true rfl ?_ | refine aw_false rfl ?_ | refine aw_exit ?_ | refine aw_label ?_ | refine aw_ret ?_ | refine And.intro rfl ?_ | refine And.intro (And.intro rfl (Nat.le_of_ble_eq_true rfl)) ?_ | refine And.intro (And.intro (by kernel_rfl) (by kernel_rfl)) ?_ | refine lit_true ?_ | refine lit_false ?_))
    intro c h1; cases c
    · (repeat ((conv => whnf); first | refine aw_seq ?_ | refine aw_region ?_ | refine aw_block ?_ | refine aw_skip ?_ | refine aw_true rfl ?_ | refine aw_false rfl ?_ | refine aw_exit ?_ | refine aw_label ?_ | refine aw_ret ?_ | refine And.intro rfl ?_ | refine And.intro (And.intro rfl (Nat.le_of_ble_eq_true rfl)) ?_ | refine And.intro (And.intro (by kernel_rfl) (by kernel_rfl)) ?_ | refine lit_true ?_ | refine lit_false ?_))
      refine ret_tells rfl (le_bool ?_)
      simp at h1; simp [right9]; omega
    (repeat ((conv => whnf); first | refine aw_seq ?_ | refine aw_region ?_ | refine aw_block ?_ | refine aw_skip ?_ | refine aw_true rfl ?_ | refine aw_false rfl ?_ | refine aw_exit ?_ | refine aw_label ?_ | refine aw_ret ?_ | refine And.intro rfl ?_ | refine And.intro (And.intro rfl (Nat.le_of_ble_eq_true rfl)) ?_ | refine And.intro (And.intro (by kernel_rfl) (by kernel_rfl)) ?_ | refine lit_true ?_ | refine lit_false ?_))
    refine ex_yields (yields_tells rfl rfl h27 ⟨AVle.refl _, trivial⟩ (NoId.v _)) ?_
    (repeat ((conv => whnf); first | refine aw_seq ?_ | refine aw_region ?_ | refine aw_block ?_ | refine aw_skip ?_ | refine aw_true rfl ?_ | refine aw_false rfl ?_ | refine aw_exit ?_ | refine aw_label ?_ | refine aw_ret ?_ | refine And.intro rfl ?_ | refine And.intro (And.intro rfl (Nat.le_of_ble_eq_true rfl)) ?_ | refine And.intro (And.intro (by kernel_rfl) (by kernel_rfl)) ?_ | refine lit_true ?_ | refine lit_false ?_))
    intro c h2; cases c
    · (repeat ((conv => whnf); first | refine aw_seq ?_ | refine aw_region ?_ | refine aw_block ?_ | refine aw_skip ?_ | refine aw_true rfl ?_ | refine aw_false rfl ?_ | refine aw_exit ?_ | refine aw_label ?_ | refine aw_ret ?_ | refine And.intro rfl ?_ | refine And.intro (And.intro rfl (Nat.le_of_ble_eq_true rfl)) ?_ | refine And.intro (And.intro (by kernel_rfl) (by kernel_rfl)) ?_ | refine lit_true ?_ | refine lit_false ?_))
      refine ret_tells rfl (le_bool ?_)
      simp at h1 h2; simp [right9]; omega
    · (repeat ((conv => whnf); first | refine aw_seq ?_ | refine aw_region ?_ | refine aw_block ?_ | refine aw_skip ?_ | refine aw_true rfl ?_ | refine aw_false rfl ?_ | refine aw_exit ?_ | refine aw_label ?_ | refine aw_ret ?_ | refine And.intro rfl ?_ | refine And.intro (And.intro rfl (Nat.le_of_ble_eq_true rfl)) ?_ | refine And.intro (And.intro (by kernel_rfl) (by kernel_rfl)) ?_ | refine lit_true ?_ | refine lit_false ?_))
      refine ret_tells rfl (le_bool ?_)
      simp at h1 h2; simp [right9]; omega
theorem f22_spec (k n : Int) : Tells Try.prog 22 [act k n] (boolA (right9 k n)) := by
  by_cases hk : k < 1 ∨ 8 < k
  · refine tells_of_aw Try.func22 rfl rfl fun nx => ?_
    (repeat ((conv => whnf); first | refine aw_seq ?_ | refine aw_region ?_ | refine aw_block ?_ | refine aw_skip ?_ | refine aw_true rfl ?_ | refine aw_false rfl ?_ | refine aw_exit ?_ | refine aw_label ?_ | refine aw_ret ?_ | refine And.intro rfl ?_ | refine And.intro (And.intro rfl (Nat.le_of_ble_eq_true rfl)) ?_ | refine And.intro (And.intro (by kernel_rfl) (by kernel_rfl)) ?_ | refine lit_true ?_ | refine lit_false ?_))
    refine aop_tells rfl rfl (f26_out k hk) ⟨AVle.refl _, trivial⟩ fun nx => ?_
    (repeat ((conv => whnf); first | refine aw_seq ?_ | refine aw_region ?_ | refine aw_block ?_ | refine aw_skip ?_ | refine aw_true rfl ?_ | refine aw_false rfl ?_ | refine aw_exit ?_ | refine aw_label ?_ | refine aw_ret ?_ | refine And.intro rfl ?_ | refine And.intro (And.intro rfl (Nat.le_of_ble_eq_true rfl)) ?_ | refine And.intro (And.intro (by kernel_rfl) (by kernel_rfl)) ?_ | refine lit_true ?_ | refine lit_false ?_))
    (refine aw_draw 13 ?_ ?_ ?_ ?_; (· kernel_rfl); (· kernel_rfl); (· kernel_rfl))
    (repeat ((conv => whnf); first | refine aw_seq ?_ | refine aw_region ?_ | refine aw_block ?_ | refine aw_skip ?_ | refine aw_true rfl ?_ | refine aw_false rfl ?_ | refine aw_exit ?_ | refine aw_label ?_ | refine aw_ret ?_ | refine And.intro rfl ?_ | refine And.intro (And.intro rfl (Nat.le_of_ble_eq_true rfl)) ?_ | refine And.intro (And.intro (by kernel_rfl) (by kernel_rfl)) ?_ | refine lit_true ?_ | refine lit_false ?_))
    refine ret_tells rfl (le_bool (right9_out hk).symm)
  · obtain ⟨j, hj, rfl⟩ : ∃ j : Nat, j < 8 ∧ k = (j : Int) + 1 := ⟨(k - 1).toNat, by omega, by omega⟩
    obtain ⟨s, c, m, hr, ho, hm⟩ := row_most j hj
    have h26 := f26_in j hj
    rw [hr] at h26 hm
    exact f22_in _ n m s c ho (by omega) h26 hm
theorem f21_spec (k n : Int) : Tells Try.prog 21 [act k n] (boolA (!right9 k n)) := by
  refine tells_of_aw Try.func21 rfl rfl fun nx => ?_
  (repeat ((conv => whnf); first | refine aw_seq ?_ | refine aw_region ?_ | refine aw_block ?_ | refine aw_skip ?_ | refine aw_true rfl ?_ | refine aw_false rfl ?_ | refine aw_exit ?_ | refine aw_label ?_ | refine aw_ret ?_ | refine And.intro rfl ?_ | refine And.intro (And.intro rfl (Nat.le_of_ble_eq_true rfl)) ?_ | refine And.intro (And.intro (by kernel_rfl) (by kernel_rfl)) ?_ | refine lit_true ?_ | refine lit_false ?_))
  refine aop_tells rfl rfl (f22_spec k n) ⟨AVle.refl _, trivial⟩ fun nx => ?_
  intro c h1; cases c
  all_goals
    (repeat ((conv => whnf); first | refine aw_seq ?_ | refine aw_region ?_ | refine aw_block ?_ | refine aw_skip ?_ | refine aw_true rfl ?_ | refine aw_false rfl ?_ | refine aw_exit ?_ | refine aw_label ?_ | refine aw_ret ?_ | refine And.intro rfl ?_ | refine And.intro (And.intro rfl (Nat.le_of_ble_eq_true rfl)) ?_ | refine And.intro (And.intro (by kernel_rfl) (by kernel_rfl)) ?_ | refine lit_true ?_ | refine lit_false ?_))
    refine ret_tells rfl (le_bool (by rw [← h1]; rfl))

/-- Actions, as data. -/
abbrev A2 := Int × Int
def actP (a : A2) : AV := act a.1 a.2
def acts (l : List A2) : AV := slOf 2 actP (0, 0) l
theorem idx_at {α : Type} {p : α → Bool} {l : List α} {i : Nat} (d : α) (hi : i < l.length) (hb : ∀ j, j < i → p (l.getD j d) = false) (h : p (l.getD i d) = true) : l.findIdx? p = some i := by
  rw [List.findIdx?_eq_some_iff_getElem]
  refine ⟨hi, by simpa [List.getD, hi] using h, fun j hj => ?_⟩
  have := hb j hj
  have hj' : j < l.length := by omega
  simpa [List.getD, hj'] using this
theorem idx_none {α : Type} {p : α → Bool} {l : List α} (d : α) (hb : ∀ j, j < l.length → p (l.getD j d) = false) : l.findIdx? p = none := by
  rw [List.findIdx?_eq_none_iff]
  intro x hx
  obtain ⟨j, hj, rfl⟩ := List.getElem_of_mem hx
  have := hb j hj
  simpa [List.getD, hj] using this
def optI : Option Nat → Int
  | some i => i
  | none => -1
def wrongA (a : A2) : Bool := !right9 a.1 a.2
theorem f25_spec (l : List A2) (hl : l.length ≤ 1000000000) : Tells Try.prog 25 [acts l, .fn (.func 21) [] []] (int (optI (l.findIdx? wrongA))) := by
  refine tells_of_aw Try.func25 rfl rfl fun nx => ?_
  (repeat ((conv => whnf); first | refine aw_seq ?_ | refine aw_region ?_ | refine aw_block ?_ | refine aw_skip ?_ | refine aw_true rfl ?_ | refine aw_false rfl ?_ | refine aw_exit ?_ | refine aw_label ?_ | refine aw_ret ?_ | refine And.intro rfl ?_ | refine And.intro (And.intro rfl (Nat.le_of_ble_eq_true rfl)) ?_ | refine And.intro (And.intro (by kernel_rfl) (by kernel_rfl)) ?_ | refine lit_true ?_ | refine lit_false ?_))
  refine aw_loop (fun s : Nat × Nat => mk 19 [(0, acts l), (1, .fn (.func 21) [] []), (6, acts l), (7, int l.length), (8, int s.1)] ⟨[], [], s.2, 0⟩) (fun s => s.1 ≤ l.length ∧ ∀ j, j < s.1 → wrongA (l.getD j (0,0)) = false) (fun s => l.length - s.1) ?_ ?_
  · exact ⟨(0, nx), ⟨by simp, by intro j hj; simp at hj⟩, ele_mk rfl rfl ⟨AVle.refl _, AVle.refl _, AVle.refl _, AVle.refl _, AVle.refl _, trivial⟩⟩
  · rintro ⟨i, nx⟩ ⟨h1, h2⟩
    dsimp only at h1 h2
    (repeat ((conv => whnf); first | refine aw_seq ?_ | refine aw_region ?_ | refine aw_block ?_ | refine aw_skip ?_ | refine aw_true rfl ?_ | refine aw_false rfl ?_ | refine aw_exit ?_ | refine aw_label ?_ | refine aw_ret ?_ | refine And.intro rfl ?_ | refine And.intro (And.intro rfl (Nat.le_of_ble_eq_true rfl)) ?_ | refine And.intro (And.intro (by kernel_rfl) (by kernel_rfl)) ?_ | refine lit_true ?_ | refine lit_false ?_))
    intro c h3; cases c
    · (repeat ((conv => whnf); first | refine aw_seq ?_ | refine aw_region ?_ | refine aw_block ?_ | refine aw_skip ?_ | refine aw_true rfl ?_ | refine aw_false rfl ?_ | refine aw_exit ?_ | refine aw_label ?_ | refine aw_ret ?_ | refine And.intro rfl ?_ | refine And.intro (And.intro rfl (Nat.le_of_ble_eq_true rfl)) ?_ | refine And.intro (And.intro (by kernel_rfl) (by kernel_rfl)) ?_ | refine lit_true ?_ | refine lit_false ?_))
      refine ret_tells rfl (le_int ?_)
      simp at h3
      rw [idx_none (0, 0) (fun j hj => h2 j (by omega))]; rfl
    · (repeat ((conv => whnf); first | refine aw_seq ?_ | refine aw_region ?_ | refine aw_block ?_ | refine aw_skip ?_ | refine aw_true rfl ?_ | refine aw_false rfl ?_ | refine aw_exit ?_ | refine aw_label ?_ | refine aw_ret ?_ | refine And.intro rfl ?_ | refine And.intro (And.intro rfl (Nat.le_of_ble_eq_true rfl)) ?_ | refine And.intro (And.intro (by kernel_rfl) (by kernel_rfl)) ?_ | refine lit_true ?_ | refine lit_false ?_))
      simp at h3
      refine ⟨⟨by omega, by omega⟩, ?_⟩
      (repeat ((conv => whnf); first | refine aw_seq ?_ | refine aw_region ?_ | refine aw_block ?_ | refine aw_skip ?_ | refine aw_true rfl ?_ | refine aw_false rfl ?_ | refine aw_exit ?_ | refine aw_label ?_ | refine aw_ret ?_ | refine And.intro rfl ?_ | refine And.intro (And.intro rfl (Nat.le_of_ble_eq_true rfl)) ?_ | refine And.intro (And.intro (by kernel_rfl) (by kernel_rfl)) ?_ | refine lit_true ?_ | refine lit_false ?_))
      refine aop_tells rfl rfl (f21_spec (l.getD i (0,0)).1 (l.getD i (0,0)).2) ⟨AVle.refl _, trivial⟩ fun nx' => ?_
      intro c h4; cases c
      · (repeat ((conv => whnf); first | refine aw_seq ?_ | refine aw_region ?_ | refine aw_block ?_ | refine aw_skip ?_ | refine aw_true rfl ?_ | refine aw_false rfl ?_ | refine aw_exit ?_ | refine aw_label ?_ | refine aw_ret ?_ | refine And.intro rfl ?_ | refine And.intro (And.intro rfl (Nat.le_of_ble_eq_true rfl)) ?_ | refine And.intro (And.intro (by kernel_rfl) (by kernel_rfl)) ?_ | refine lit_true ?_ | refine lit_false ?_))
        refine back (i + 1, nx') ⟨by dsimp only; omega, fun j hj => ?_⟩ (by dsimp only; omega) (ele_mk rfl rfl ⟨AVle.refl _, AVle.refl _, AVle.refl _, AVle.refl _, le_int (wrap_succ (by omega)), trivial⟩)
        dsimp only at hj
        rcases Nat.lt_or_ge j i with h | h
        · exact h2 j h
        · obtain rfl : j = i := by omega
          exact h4.symm
      · (repeat ((conv => whnf); first | refine aw_seq ?_ | refine aw_region ?_ | refine aw_block ?_ | refine aw_skip ?_ | refine aw_true rfl ?_ | refine aw_false rfl ?_ | refine aw_exit ?_ | refine aw_label ?_ | refine aw_ret ?_ | refine And.intro rfl ?_ | refine And.intro (And.intro rfl (Nat.le_of_ble_eq_true rfl)) ?_ | refine And.intro (And.intro (by kernel_rfl) (by kernel_rfl)) ?_ | refine lit_true ?_ | refine lit_false ?_))
        refine ret_tells rfl (le_int ?_)
        rw [idx_at (0,0) h3 h2 h4.symm]; rfl
theorem optI_nonneg (o : Option Nat) : decide (0 ≤ optI o) = o.isSome := by cases o <;> simp [optI]
theorem f20_spec (l : List A2) (hl : l.length ≤ 1000000000) : Tells Try.prog 20 [acts l, .fn (.func 21) [] []] (boolA (l.findIdx? wrongA).isSome) := by
  refine tells_of_aw Try.func20 rfl rfl fun nx => ?_
  (repeat ((conv => whnf); first | refine aw_seq ?_ | refine aw_region ?_ | refine aw_block ?_ | refine aw_skip ?_ | refine aw_true rfl ?_ | refine aw_false rfl ?_ | refine aw_exit ?_ | refine aw_label ?_ | refine aw_ret ?_ | refine And.intro rfl ?_ | refine And.intro (And.intro rfl (Nat.le_of_ble_eq_true rfl)) ?_ | refine And.intro (And.intro (by kernel_rfl) (by kernel_rfl)) ?_ | refine lit_true ?_ | refine lit_false ?_))
  refine aop_tells rfl rfl (f25_spec l hl) ⟨AVle.refl _, AVle.refl _, trivial⟩ fun nx' => ?_
  (repeat ((conv => whnf); first | refine aw_seq ?_ | refine aw_region ?_ | refine aw_block ?_ | refine aw_skip ?_ | refine aw_true rfl ?_ | refine aw_false rfl ?_ | refine aw_exit ?_ | refine aw_label ?_ | refine aw_ret ?_ | refine And.intro rfl ?_ | refine And.intro (And.intro rfl (Nat.le_of_ble_eq_true rfl)) ?_ | refine And.intro (And.intro (by kernel_rfl) (by kernel_rfl)) ?_ | refine lit_true ?_ | refine lit_false ?_))
  intro c h; cases c
  all_goals
    (repeat ((conv => whnf); first | refine aw_seq ?_ | refine aw_region ?_ | refine aw_block ?_ | refine aw_skip ?_ | refine aw_true rfl ?_ | refine aw_false rfl ?_ | refine aw_exit ?_ | refine aw_label ?_ | refine aw_ret ?_ | refine And.intro rfl ?_ | refine And.intro (And.intro rfl (Nat.le_of_ble_eq_true rfl)) ?_ | refine And.intro (And.intro (by kernel_rfl) (by kernel_rfl)) ?_ | refine lit_true ?_ | refine lit_false ?_))
    refine ret_tells rfl (le_bool ?_)
    rw [← optI_nonneg, h]
/-- The strictest of some: the last among those of the least kind. -/
def strict (a : A2) (l : List A2) : A2 := l.foldl (fun m x => if x.1 ≤ m.1 then x else m) a
def strictest (l : List A2) : A2 × Int :=
  match l with
  | [] => ((0, 0), 4)
  | a :: r => if (l.findIdx? wrongA).isSome then ((0, 0), 16) else (strict a r, 0)
theorem f9_spec (l : List A2) (hl : l.length ≤ 1000000000) : Tells Try.prog 9 [acts l] (.tup [actP (strictest l).1, int (strictest l).2]) := by
  refine tells_of_aw Try.func9 rfl rfl fun nx => ?_
  (repeat ((conv => whnf); first | refine aw_seq ?_ | refine aw_region ?_ | refine aw_block ?_ | refine aw_skip ?_ | refine aw_true rfl ?_ | refine aw_false rfl ?_ | refine aw_exit ?_ | refine aw_label ?_ | refine aw_ret ?_ | refine And.intro rfl ?_ | refine And.intro (And.intro rfl (Nat.le_of_ble_eq_true rfl)) ?_ | refine And.intro (And.intro (by kernel_rfl) (by kernel_rfl)) ?_ | refine lit_true ?_ | refine lit_false ?_))
  cases l with
  | nil =>
    (repeat ((conv => whnf); first | refine aw_seq ?_ | refine aw_region ?_ | refine aw_block ?_ | refine aw_skip ?_ | refine aw_true rfl ?_ | refine aw_false rfl ?_ | refine aw_exit ?_ | refine aw_label ?_ | refine aw_ret ?_ | refine And.intro rfl ?_ | refine And.intro (And.intro rfl (Nat.le_of_ble_eq_true rfl)) ?_ | refine And.intro (And.intro (by kernel_rfl) (by kernel_rfl)) ?_ | refine lit_true ?_ | refine lit_false ?_))
    (refine ret_tells_all rfl ?_ ?_; (· exact ⟨rfl, trivial⟩)); exact AVle.refl _
  | cons a r =>
    (repeat ((conv => whnf); first | refine aw_seq ?_ | refine aw_region ?_ | refine aw_block ?_ | refine aw_skip ?_ | refine aw_true rfl ?_ | refine aw_false rfl ?_ | refine aw_exit ?_ | refine aw_label ?_ | refine aw_ret ?_ | refine And.intro rfl ?_ | refine And.intro (And.intro rfl (Nat.le_of_ble_eq_true rfl)) ?_ | refine And.intro (And.intro (by kernel_rfl) (by kernel_rfl)) ?_ | refine lit_true ?_ | refine lit_false ?_))
    refine aop_tells rfl rfl (f20_spec _ hl) ⟨AVle.refl _, AVle.refl _, trivial⟩ fun nx' => ?_
    intro c h1; cases c
    · (repeat ((conv => whnf); first | refine aw_seq ?_ | refine aw_region ?_ | refine aw_block ?_ | refine aw_skip ?_ | refine aw_true rfl ?_ | refine aw_false rfl ?_ | refine aw_exit ?_ | refine aw_label ?_ | refine aw_ret ?_ | refine And.intro rfl ?_ | refine And.intro (And.intro rfl (Nat.le_of_ble_eq_true rfl)) ?_ | refine And.intro (And.intro (by kernel_rfl) (by kernel_rfl)) ?_ | refine lit_true ?_ | refine lit_false ?_))
      refine ⟨⟨by omega, by simp⟩, ?_⟩
      (repeat ((conv => whnf); first | refine aw_seq ?_ | refine aw_region ?_ | refine aw_block ?_ | refine aw_skip ?_ | refine aw_true rfl ?_ | refine aw_false rfl ?_ | refine aw_exit ?_ | refine aw_label ?_ | refine aw_ret ?_ | refine And.intro rfl ?_ | refine And.intro (And.intro rfl (Nat.le_of_ble_eq_true rfl)) ?_ | refine And.intro (And.intro (by kernel_rfl) (by kernel_rfl)) ?_ | refine lit_true ?_ | refine lit_false ?_))
      refine ⟨⟨by omega, by simp; omega⟩, ?_⟩
      (repeat ((conv => whnf); first | refine aw_seq ?_ | refine aw_region ?_ | refine aw_block ?_ | refine aw_skip ?_ | refine aw_true rfl ?_ | refine aw_false rfl ?_ | refine aw_exit ?_ | refine aw_label ?_ | refine aw_ret ?_ | refine And.intro rfl ?_ | refine And.intro (And.intro rfl (Nat.le_of_ble_eq_true rfl)) ?_ | refine And.intro (And.intro (by kernel_rfl) (by kernel_rfl)) ?_ | refine lit_true ?_ | refine lit_false ?_))
      refine aw_loop (fun s : Nat × A2 × Nat => mk 34 [(2, .bp (0, nx) 0), (4, .bp (1, nx') 0), (20, acts r), (21, int r.length), (22, int s.1)] ⟨[((0, nx), [int 0, int 0]), ((1, nx'), [int s.2.1.1, int s.2.1.2])], [], s.2.2, 2⟩)
        (fun s => s.1 ≤ r.length ∧ s.2.1 = strict a (r.take s.1)) (fun s => r.length - s.1) ?_ ?_
      · exact ⟨(0, a, nx' + 1), ⟨by simp, rfl⟩, ele_mk rfl rfl ⟨AVle.refl _, AVle.refl _, AVle.sl_fun (f' := fun k => actP (r.getD k (0, 0))) (fun k _ => by simp [Nat.add_comm 1 k]), le_int (by simp), AVle.refl _, trivial⟩⟩
      · rintro ⟨i, m, nx2⟩ ⟨h2, h3⟩
        dsimp only at h2 h3
        have hr : r.length ≤ 1000000000 := by simp at hl; omega
        (repeat ((conv => whnf); first | refine aw_seq ?_ | refine aw_region ?_ | refine aw_block ?_ | refine aw_skip ?_ | refine aw_true rfl ?_ | refine aw_false rfl ?_ | refine aw_exit ?_ | refine aw_label ?_ | refine aw_ret ?_ | refine And.intro rfl ?_ | refine And.intro (And.intro rfl (Nat.le_of_ble_eq_true rfl)) ?_ | refine And.intro (And.intro (by kernel_rfl) (by kernel_rfl)) ?_ | refine lit_true ?_ | refine lit_false ?_))
        intro c h4; cases c
        · (repeat ((conv => whnf); first | refine aw_seq ?_ | refine aw_region ?_ | refine aw_block ?_ | refine aw_skip ?_ | refine aw_true rfl ?_ | refine aw_false rfl ?_ | refine aw_exit ?_ | refine aw_label ?_ | refine aw_ret ?_ | refine And.intro rfl ?_ | refine And.intro (And.intro rfl (Nat.le_of_ble_eq_true rfl)) ?_ | refine And.intro (And.intro (by kernel_rfl) (by kernel_rfl)) ?_ | refine lit_true ?_ | refine lit_false ?_))
          (refine ret_tells_all rfl ?_ ?_; (· exact ⟨rfl, trivial⟩))
          simp at h4
          rw [strictest, ← h1]
          obtain rfl : i = r.length := by omega
          rw [List.take_length] at h3
          subst h3
          exact AVle.refl _
        · simp at h4
          have hs : strict a (r.take (i + 1)) = if (r.getD i (0, 0)).1 ≤ m.1 then r.getD i (0, 0) else m := by
            rw [h3, take_getD (0, 0) h4]; simp only [strict, List.foldl_append, List.foldl_cons, List.foldl_nil]; rfl
          (repeat ((conv => whnf); first | refine aw_seq ?_ | refine aw_region ?_ | refine aw_block ?_ | refine aw_skip ?_ | refine aw_true rfl ?_ | refine aw_false rfl ?_ | refine aw_exit ?_ | refine aw_label ?_ | refine aw_ret ?_ | refine And.intro rfl ?_ | refine And.intro (And.intro rfl (Nat.le_of_ble_eq_true rfl)) ?_ | refine And.intro (And.intro (by kernel_rfl) (by kernel_rfl)) ?_ | refine lit_true ?_ | refine lit_false ?_))
          refine ⟨⟨by omega, by omega⟩, ?_⟩
          (repeat ((conv => whnf); first | refine aw_seq ?_ | refine aw_region ?_ | refine aw_block ?_ | refine aw_skip ?_ | refine aw_true rfl ?_ | refine aw_false rfl ?_ | refine aw_exit ?_ | refine aw_label ?_ | refine aw_ret ?_ | refine And.intro rfl ?_ | refine And.intro (And.intro rfl (Nat.le_of_ble_eq_true rfl)) ?_ | refine And.intro (And.intro (by kernel_rfl) (by kernel_rfl)) ?_ | refine lit_true ?_ | refine lit_false ?_))
          intro c h5; cases c
          · (repeat ((conv => whnf); first | refine aw_seq ?_ | refine aw_region ?_ | refine aw_block ?_ | refine aw_skip ?_ | refine aw_true rfl ?_ | refine aw_false rfl ?_ | refine aw_exit ?_ | refine aw_label ?_ | refine aw_ret ?_ | refine And.intro rfl ?_ | refine And.intro (And.intro rfl (Nat.le_of_ble_eq_true rfl)) ?_ | refine And.intro (And.intro (by kernel_rfl) (by kernel_rfl)) ?_ | refine lit_true ?_ | refine lit_false ?_))
            refine back (i + 1, m, nx2 + 1) ⟨by dsimp only; omega, ?_⟩ (by dsimp only; omega) (ele_keep rfl rfl (.cons_cons _ (.cons_cons _ (.cons _ .slnil))) .slnil ⟨AVle.refl _, AVle.refl _, AVle.refl _, AVle.refl _, le_int (wrap_succ (by omega)), trivial⟩)
            have h6 : ¬ (r.getD i (0, 0)).1 ≤ m.1 := not_of h5
            dsimp only
            rw [hs, if_neg h6]
          · (repeat ((conv => whnf); first | refine aw_seq ?_ | refine aw_region ?_ | refine aw_block ?_ | refine aw_skip ?_ | refine aw_true rfl ?_ | refine aw_false rfl ?_ | refine aw_exit ?_ | refine aw_label ?_ | refine aw_ret ?_ | refine And.intro rfl ?_ | refine And.intro (And.intro rfl (Nat.le_of_ble_eq_true rfl)) ?_ | refine And.intro (And.intro (by kernel_rfl) (by kernel_rfl)) ?_ | refine lit_true ?_ | refine lit_false ?_))
            refine back (i + 1, r.getD i (0, 0), nx2 + 1) ⟨by dsimp only; omega, ?_⟩ (by dsimp only; omega) (ele_keep rfl rfl (.cons_cons _ (.cons_cons _ (.cons _ .slnil))) .slnil ⟨AVle.refl _, AVle.refl _, AVle.refl _, AVle.refl _, le_int (wrap_succ (by omega)), trivial⟩)
            have h6 : (r.getD i (0, 0)).1 ≤ m.1 := yes_of h5
            dsimp only
            rw [hs, if_pos h6]
    · (repeat ((conv => whnf); first | refine aw_seq ?_ | refine aw_region ?_ | refine aw_block ?_ | refine aw_skip ?_ | refine aw_true rfl ?_ | refine aw_false rfl ?_ | refine aw_exit ?_ | refine aw_label ?_ | refine aw_ret ?_ | refine And.intro rfl ?_ | refine And.intro (And.intro rfl (Nat.le_of_ble_eq_true rfl)) ?_ | refine And.intro (And.intro (by kernel_rfl) (by kernel_rfl)) ?_ | refine lit_true ?_ | refine lit_false ?_))
      (refine ret_tells_all rfl ?_ ?_; (· exact ⟨rfl, trivial⟩))
      rw [strictest, ← h1]
      exact AVle.refl _
end Go.Proofs.Ytb
