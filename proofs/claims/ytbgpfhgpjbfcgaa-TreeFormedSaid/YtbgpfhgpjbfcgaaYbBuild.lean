import Derived.Test.YtbgpfhgpjbfcgaaYbTree
namespace Go.Proofs.Ytb
open Go.Vl

instance (l : List Int) : Decidable (rises l) :=
  decidable_of_iff (∀ i, i < l.length → 1 ≤ i → l.getD (i - 1) 0 < l.getD i 0) ⟨fun h i h1 h2 => h i h2 h1, fun h i h1 h2 => h i h2 h1⟩
def buildN (l : List Int) : List Node × Int :=
  if ¬ rises l then ([], 15) else if 4096 < l.length then ([], 3) else if l.length = 0 then ([⟨true, 0, -1, 0, 0⟩], 0) else (tr l 0 0, 0)
set_option maxHeartbeats 2000000 in
theorem f12_spec (l : List Int) (hl : l.length ≤ 1000000000) : Tells Try.prog 12 [u32s l] (.tup [nodes (buildN l).1, int' (buildN l).2]) := by
  refine tells_of_aw Try.func12 rfl rfl fun nx => ?_
  (repeat ((conv => whnf); first | refine aw_seq ?_ | refine aw_region ?_ | refine aw_block ?_ | refine aw_skip ?_ | refine aw_true rfl ?_ | refine aw_false rfl ?_ | refine aw_exit ?_ | refine aw_label ?_ | refine aw_ret ?_ | refine And.intro rfl ?_ | refine And.intro trivial ?_ | refine And.intro (And.intro rfl (Nat.le_of_ble_eq_true rfl)) ?_ | refine And.intro (And.intro (by kernel_rfl) (by kernel_rfl)) ?_ | refine And.intro (by decide) ?_ | refine lit_true ?_ | refine lit_false ?_))
  refine aw_loop (fun i : Nat => mk 38 [(0, u32s l), (2, .os 0 0 (fun _ => .any) none), (3, int' 0), (4, int' i)] ⟨[], [], nx, 0⟩) (fun i => 1 ≤ i ∧ (i ≤ l.length ∨ i = 1) ∧ ∀ j, 1 ≤ j → j < i → l.getD (j - 1) 0 < l.getD j 0) (fun i => l.length - i) ?_ ?_
  · exact ⟨1, ⟨by omega, by omega, by intro j h1 h2; omega⟩, ele_mk rfl rfl ⟨AVle.refl _, AVle.refl _, AVle.refl _, AVle.refl _, trivial⟩⟩
  · rintro i ⟨h1, h2, h3⟩
    (repeat ((conv => whnf); first | refine aw_seq ?_ | refine aw_region ?_ | refine aw_block ?_ | refine aw_skip ?_ | refine aw_true rfl ?_ | refine aw_false rfl ?_ | refine aw_exit ?_ | refine aw_label ?_ | refine aw_ret ?_ | refine And.intro rfl ?_ | refine And.intro trivial ?_ | refine And.intro (And.intro rfl (Nat.le_of_ble_eq_true rfl)) ?_ | refine And.intro (And.intro (by kernel_rfl) (by kernel_rfl)) ?_ | refine And.intro (by decide) ?_ | refine lit_true ?_ | refine lit_false ?_))
    intro c h4; cases c
    · have h5 : ¬ (i : Int) < l.length := not_of h4
      have hr : rises l := fun j hj1 hj2 => h3 j hj1 (by omega)
      (repeat ((conv => whnf); first | refine aw_seq ?_ | refine aw_region ?_ | refine aw_block ?_ | refine aw_skip ?_ | refine aw_true rfl ?_ | refine aw_false rfl ?_ | refine aw_exit ?_ | refine aw_label ?_ | refine aw_ret ?_ | refine And.intro rfl ?_ | refine And.intro trivial ?_ | refine And.intro (And.intro rfl (Nat.le_of_ble_eq_true rfl)) ?_ | refine And.intro (And.intro (by kernel_rfl) (by kernel_rfl)) ?_ | refine And.intro (by decide) ?_ | refine lit_true ?_ | refine lit_false ?_))
      intro c h6; cases c
      · have h7 : ¬ (l.length : Int) > 4096 := not_of h6
        (repeat ((conv => whnf); first | refine aw_seq ?_ | refine aw_region ?_ | refine aw_block ?_ | refine aw_skip ?_ | refine aw_true rfl ?_ | refine aw_false rfl ?_ | refine aw_exit ?_ | refine aw_label ?_ | refine aw_ret ?_ | refine And.intro rfl ?_ | refine And.intro trivial ?_ | refine And.intro (And.intro rfl (Nat.le_of_ble_eq_true rfl)) ?_ | refine And.intro (And.intro (by kernel_rfl) (by kernel_rfl)) ?_ | refine And.intro (by decide) ?_ | refine lit_true ?_ | refine lit_false ?_))
        intro c h8; cases c
        · have h9 : ¬ (l.length : Int) = 0 := not_of (p := (l.length : Int) = 0) (by simpa using h8)
          (repeat ((conv => whnf); first | refine aw_seq ?_ | refine aw_region ?_ | refine aw_block ?_ | refine aw_skip ?_ | refine aw_true rfl ?_ | refine aw_false rfl ?_ | refine aw_exit ?_ | refine aw_label ?_ | refine aw_ret ?_ | refine And.intro rfl ?_ | refine And.intro trivial ?_ | refine And.intro (And.intro rfl (Nat.le_of_ble_eq_true rfl)) ?_ | refine And.intro (And.intro (by kernel_rfl) (by kernel_rfl)) ?_ | refine And.intro (by decide) ?_ | refine lit_true ?_ | refine lit_false ?_))
          refine aop_call rfl rfl (ECall.tell (ECall.args (bs := [u32s l, int' ((0 : Nat) : Int), .bp (1, nx + 1) 0, .bp (2, nx + 2) 0]) ⟨AVle.refl _, AVle.refl _, AVle.refl _, AVle.refl _, trivial⟩
            (f24_spec l.length nx (nx + 1) (nx + 2) (nx + 3) l 0 [] none rfl (by omega) (by simp; omega) (by omega) (fun _ => rfl))) ⟨rfl, ⟨AVle.os_nil, trivial⟩, rfl, OwnLe.refl _, rfl, OwnLe.refl _, trivial⟩ trivial rfl) fun r h' hq => ?_
          obtain ⟨rfl, k, nx', rfl⟩ := hq
          refine Named.same ?_
          (repeat ((conv => whnf); first | refine aw_seq ?_ | refine aw_region ?_ | refine aw_block ?_ | refine aw_skip ?_ | refine aw_true rfl ?_ | refine aw_false rfl ?_ | refine aw_exit ?_ | refine aw_label ?_ | refine aw_ret ?_ | refine And.intro rfl ?_ | refine And.intro trivial ?_ | refine And.intro (And.intro rfl (Nat.le_of_ble_eq_true rfl)) ?_ | refine And.intro (And.intro (by kernel_rfl) (by kernel_rfl)) ?_ | refine And.intro (by decide) ?_ | refine lit_true ?_ | refine lit_false ?_))
          refine ret_tells rfl ?_
          rw [buildN, if_neg (by simpa using hr), if_neg (by omega), if_neg (by omega)]
          exact AVle.tups ⟨AVle.os_sl, AVle.refl _, trivial⟩
        · have h9 : (l.length : Int) = 0 := yes_of (p := (l.length : Int) = 0) (by simpa using h8)
          (repeat ((conv => whnf); first | refine aw_seq ?_ | refine aw_region ?_ | refine aw_block ?_ | refine aw_skip ?_ | refine aw_true rfl ?_ | refine aw_false rfl ?_ | refine aw_exit ?_ | refine aw_label ?_ | refine aw_ret ?_ | refine And.intro rfl ?_ | refine And.intro trivial ?_ | refine And.intro (And.intro rfl (Nat.le_of_ble_eq_true rfl)) ?_ | refine And.intro (And.intro (by kernel_rfl) (by kernel_rfl)) ?_ | refine And.intro (by decide) ?_ | refine lit_true ?_ | refine lit_false ?_))
          refine ret_tells rfl ?_
          rw [buildN, if_neg (by simpa using hr), if_neg (by omega), if_pos (by omega)]
          exact AVle.tups ⟨AVle.os_sl.trans (AVle.sl_fun (allK_use ⟨trivial, rfl⟩)), AVle.refl _, trivial⟩
      · have h7 : (l.length : Int) > 4096 := yes_of h6
        (repeat ((conv => whnf); first | refine aw_seq ?_ | refine aw_region ?_ | refine aw_block ?_ | refine aw_skip ?_ | refine aw_true rfl ?_ | refine aw_false rfl ?_ | refine aw_exit ?_ | refine aw_label ?_ | refine aw_ret ?_ | refine And.intro rfl ?_ | refine And.intro trivial ?_ | refine And.intro (And.intro rfl (Nat.le_of_ble_eq_true rfl)) ?_ | refine And.intro (And.intro (by kernel_rfl) (by kernel_rfl)) ?_ | refine And.intro (by decide) ?_ | refine lit_true ?_ | refine lit_false ?_))
        refine ret_tells rfl ?_
        rw [buildN, if_neg (by simpa using hr), if_pos (by omega)]
        exact AVle.tups ⟨AVle.os_sl0, AVle.refl _, trivial⟩
    · have h5 : (i : Int) < l.length := yes_of h4
      obtain ⟨j, rfl⟩ : ∃ j, i = j + 1 := ⟨i - 1, by omega⟩
      have hw : IntKind.i64.wrap (((j + 1 : Nat) : Int) - 1) = (j : Int) := by rw [wrap_id (by omega) (by omega)]; omega
      (repeat ((conv => whnf); first | refine aw_seq ?_ | refine aw_region ?_ | refine aw_block ?_ | refine aw_skip ?_ | refine aw_true rfl ?_ | refine aw_false rfl ?_ | refine aw_exit ?_ | refine aw_label ?_ | refine aw_ret ?_ | refine And.intro rfl ?_ | refine And.intro trivial ?_ | refine And.intro (And.intro rfl (Nat.le_of_ble_eq_true rfl)) ?_ | refine And.intro (And.intro (by kernel_rfl) (by kernel_rfl)) ?_ | refine And.intro (by decide) ?_ | refine lit_true ?_ | refine lit_false ?_))
      (refine aw_draw 10 ?_ ?_ ?_ ?_; (· kernel_rfl); (· kernel_rfl); (· kernel_rfl))
      (repeat ((conv => whnf); first | refine aw_seq ?_ | refine aw_region ?_ | refine aw_block ?_ | refine aw_skip ?_ | refine aw_true rfl ?_ | refine aw_false rfl ?_ | refine aw_exit ?_ | refine aw_label ?_ | refine aw_ret ?_ | refine And.intro rfl ?_ | refine And.intro trivial ?_ | refine And.intro (And.intro rfl (Nat.le_of_ble_eq_true rfl)) ?_ | refine And.intro (And.intro (by kernel_rfl) (by kernel_rfl)) ?_ | refine And.intro (by decide) ?_ | refine lit_true ?_ | refine lit_false ?_))
      refine ⟨⟨by omega, by omega⟩, ?_⟩
      (repeat ((conv => whnf); first | refine aw_seq ?_ | refine aw_region ?_ | refine aw_block ?_ | refine aw_skip ?_ | refine aw_true rfl ?_ | refine aw_false rfl ?_ | refine aw_exit ?_ | refine aw_label ?_ | refine aw_ret ?_ | refine And.intro rfl ?_ | refine And.intro trivial ?_ | refine And.intro (And.intro rfl (Nat.le_of_ble_eq_true rfl)) ?_ | refine And.intro (And.intro (by kernel_rfl) (by kernel_rfl)) ?_ | refine And.intro (by decide) ?_ | refine lit_true ?_ | refine lit_false ?_))
      (conv => whnf)
      rw [hw]
      refine ⟨⟨by omega, by omega⟩, ?_⟩
      (repeat ((conv => whnf); first | refine aw_seq ?_ | refine aw_region ?_ | refine aw_block ?_ | refine aw_skip ?_ | refine aw_true rfl ?_ | refine aw_false rfl ?_ | refine aw_exit ?_ | refine aw_label ?_ | refine aw_ret ?_ | refine And.intro rfl ?_ | refine And.intro trivial ?_ | refine And.intro (And.intro rfl (Nat.le_of_ble_eq_true rfl)) ?_ | refine And.intro (And.intro (by kernel_rfl) (by kernel_rfl)) ?_ | refine And.intro (by decide) ?_ | refine lit_true ?_ | refine lit_false ?_))
      intro c h6; cases c
      · have h7 : ¬ l.getD (j + 1) 0 ≤ l.getD j 0 := not_of h6
        (repeat ((conv => whnf); first | refine aw_seq ?_ | refine aw_region ?_ | refine aw_block ?_ | refine aw_skip ?_ | refine aw_true rfl ?_ | refine aw_false rfl ?_ | refine aw_exit ?_ | refine aw_label ?_ | refine aw_ret ?_ | refine And.intro rfl ?_ | refine And.intro trivial ?_ | refine And.intro (And.intro rfl (Nat.le_of_ble_eq_true rfl)) ?_ | refine And.intro (And.intro (by kernel_rfl) (by kernel_rfl)) ?_ | refine And.intro (by decide) ?_ | refine lit_true ?_ | refine lit_false ?_))
        refine back (j + 2) ⟨by omega, by omega, fun k hk1 hk2 => ?_⟩ (by omega) (ele_mk rfl rfl ⟨AVle.refl _, AVle.refl _, AVle.refl _, le_int (wrap_succ (by omega)), trivial⟩)
        rcases Nat.lt_or_ge k (j + 1) with h | h
        · exact h3 k hk1 h
        · obtain rfl : k = j + 1 := by omega
          exact Int.not_le.1 h7
      · have h7 : l.getD (j + 1) 0 ≤ l.getD j 0 := yes_of h6
        (repeat ((conv => whnf); first | refine aw_seq ?_ | refine aw_region ?_ | refine aw_block ?_ | refine aw_skip ?_ | refine aw_true rfl ?_ | refine aw_false rfl ?_ | refine aw_exit ?_ | refine aw_label ?_ | refine aw_ret ?_ | refine And.intro rfl ?_ | refine And.intro trivial ?_ | refine And.intro (And.intro rfl (Nat.le_of_ble_eq_true rfl)) ?_ | refine And.intro (And.intro (by kernel_rfl) (by kernel_rfl)) ?_ | refine And.intro (by decide) ?_ | refine lit_true ?_ | refine lit_false ?_))
        refine ret_tells rfl ?_
        have hr : ¬ rises l := fun hr => absurd (hr (j + 1) (by omega) (by omega)) (Int.not_lt.2 h7)
        rw [buildN, if_pos hr]
        exact AVle.tups ⟨AVle.os_sl0, AVle.refl _, trivial⟩
end Go.Proofs.Ytb
