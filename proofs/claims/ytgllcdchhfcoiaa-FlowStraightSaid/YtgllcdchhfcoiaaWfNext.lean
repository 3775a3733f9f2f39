import Derived.Test.YtgllcdchhfcoiaaWeCheck
namespace Go.Proofs.W
open Go.Vl
set_option maxRecDepth 100000

theorem le_ints1 {f : Nat → AV} {oi : Option Vl.Id} {a : Nat} {x : Int} (h : f 0 = int x) (hx : x = (a : Nat)) : AVle (.os 1 1 f oi) (ints [a]) :=
  AVle.os_sl.trans (AVle.sl_fun fun k hk => by obtain rfl : k = 0 := by omega
                                               rw [h, hx]; rfl)
theorem le_ints2 {f : Nat → AV} {oi : Option Vl.Id} {a b : Nat} {x y : Int} (h : f 0 = int x) (hx : x = (a : Nat)) (h' : f 1 = int y) (hy : y = (b : Nat)) : AVle (.os 1 2 f oi) (ints [a, b]) :=
  AVle.os_sl.trans (AVle.sl_fun fun k hk => by
    rcases k with _ | _ | k
    · rw [h, hx]; rfl
    · rw [h', hy]; rfl
    · omega)
theorem wrap_two {n k : Nat} (h : n + 1 + k ≤ 1000000000) : IntKind.i64.wrap (IntKind.i64.wrap ((n : Int) + 1) + IntKind.i64.wrap (k : Int)) = ((n + 1 + k : Nat) : Int) := by
  rw [show IntKind.i64.wrap (k : Int) = k from wrap_id (by omega) (by omega), show IntKind.i64.wrap ((n : Int) + 1) = (n : Int) + 1 from wrap_id (by omega) (by omega), wrap_id (by omega) (by omega)]; omega
theorem next_spec (l : List Ins) (hok : okL l) (hf : Formed l) (n : Nat) (hn : n < l.length) : Tells Try.prog 52 [inss l, int n] (ints (nextsI l n)) := by
  have hle := hf.le
  have hki : (l.getD n ins0).ok := hok.get hn
  have hnx := nexts_lt hf hn
  refine tells_of_aw Try.func52 rfl rfl fun nx => ?_
  (repeat ((conv => whnf); first | refine aw_seq ?_ | refine aw_region ?_ | refine aw_block ?_ | refine aw_skip ?_ | refine aw_true rfl ?_ | refine aw_false rfl ?_ | refine aw_exit ?_ | refine aw_label ?_ | refine aw_ret ?_ | refine And.intro rfl ?_ | refine And.intro trivial ?_ | refine And.intro (And.intro rfl (Nat.le_of_ble_eq_true rfl)) ?_ | refine And.intro (And.intro (by kernel_rfl) (by kernel_rfl)) ?_ | refine And.intro (by decide) ?_ | refine lit_true ?_ | refine lit_false ?_))
  refine ⟨⟨by omega, by omega⟩, ?_⟩
  (repeat ((conv => whnf); first | refine aw_seq ?_ | refine aw_region ?_ | refine aw_block ?_ | refine aw_skip ?_ | refine aw_true rfl ?_ | refine aw_false rfl ?_ | refine aw_exit ?_ | refine aw_label ?_ | refine aw_ret ?_ | refine And.intro rfl ?_ | refine And.intro trivial ?_ | refine And.intro (And.intro rfl (Nat.le_of_ble_eq_true rfl)) ?_ | refine And.intro (And.intro (by kernel_rfl) (by kernel_rfl)) ?_ | refine And.intro (by decide) ?_ | refine lit_true ?_ | refine lit_false ?_))
  refine aop_tells rfl rfl (of_kind (l.getD n ins0).code hki.1) ⟨AVle.refl _, trivial⟩ fun nx3 => ?_
  (repeat ((conv => whnf); first | refine aw_seq ?_ | refine aw_region ?_ | refine aw_block ?_ | refine aw_skip ?_ | refine aw_true rfl ?_ | refine aw_false rfl ?_ | refine aw_exit ?_ | refine aw_label ?_ | refine aw_ret ?_ | refine And.intro rfl ?_ | refine And.intro trivial ?_ | refine And.intro (And.intro rfl (Nat.le_of_ble_eq_true rfl)) ?_ | refine And.intro (And.intro (by kernel_rfl) (by kernel_rfl)) ?_ | refine And.intro (by decide) ?_ | refine lit_true ?_ | refine lit_false ?_))
  intro c a1; cases c
  · have a1 := not_of a1
    (repeat ((conv => whnf); first | refine aw_seq ?_ | refine aw_region ?_ | refine aw_block ?_ | refine aw_skip ?_ | refine aw_true rfl ?_ | refine aw_false rfl ?_ | refine aw_exit ?_ | refine aw_label ?_ | refine aw_ret ?_ | refine And.intro rfl ?_ | refine And.intro trivial ?_ | refine And.intro (And.intro rfl (Nat.le_of_ble_eq_true rfl)) ?_ | refine And.intro (And.intro (by kernel_rfl) (by kernel_rfl)) ?_ | refine And.intro (by decide) ?_ | refine lit_true ?_ | refine lit_false ?_))
    intro c a2; cases c
    · have a2 := not_of a2
      (repeat ((conv => whnf); first | refine aw_seq ?_ | refine aw_region ?_ | refine aw_block ?_ | refine aw_skip ?_ | refine aw_true rfl ?_ | refine aw_false rfl ?_ | refine aw_exit ?_ | refine aw_label ?_ | refine aw_ret ?_ | refine And.intro rfl ?_ | refine And.intro trivial ?_ | refine And.intro (And.intro rfl (Nat.le_of_ble_eq_true rfl)) ?_ | refine And.intro (And.intro (by kernel_rfl) (by kernel_rfl)) ?_ | refine And.intro (by decide) ?_ | refine lit_true ?_ | refine lit_false ?_))
      intro c a3; cases c
      · have a3 := not_of a3
        (repeat ((conv => whnf); first | refine aw_seq ?_ | refine aw_region ?_ | refine aw_block ?_ | refine aw_skip ?_ | refine aw_true rfl ?_ | refine aw_false rfl ?_ | refine aw_exit ?_ | refine aw_label ?_ | refine aw_ret ?_ | refine And.intro rfl ?_ | refine And.intro trivial ?_ | refine And.intro (And.intro rfl (Nat.le_of_ble_eq_true rfl)) ?_ | refine And.intro (And.intro (by kernel_rfl) (by kernel_rfl)) ?_ | refine And.intro (by decide) ?_ | refine lit_true ?_ | refine lit_false ?_))
        intro c a4; cases c
        · have a4 := not_of a4
          have hnxt : nextsI l n = [n + 1] := by unfold nextsI kind; rw [if_neg (by omega), if_neg (by omega), if_neg (by omega)]
          (repeat ((conv => whnf); first | refine aw_seq ?_ | refine aw_region ?_ | refine aw_block ?_ | refine aw_skip ?_ | refine aw_true rfl ?_ | refine aw_false rfl ?_ | refine aw_exit ?_ | refine aw_label ?_ | refine aw_ret ?_ | refine And.intro rfl ?_ | refine And.intro trivial ?_ | refine And.intro (And.intro rfl (Nat.le_of_ble_eq_true rfl)) ?_ | refine And.intro (And.intro (by kernel_rfl) (by kernel_rfl)) ?_ | refine And.intro (by decide) ?_ | refine lit_true ?_ | refine lit_false ?_))
          refine ret_tells rfl ?_
          rw [hnxt]
          exact le_ints1 rfl (wrap_succ (by omega))
        · have a4 := yes_of a4
          have hnxt : nextsI l n = [n + 1 + (l.getD n ins0).jt, n + 1 + (l.getD n ins0).jf] := by unfold nextsI kind; rw [if_neg (by omega), if_neg (by omega), if_pos (by omega)]
          have h1 := hnx (n + 1 + (l.getD n ins0).jt) (by rw [hnxt]; simp)
          have h2 := hnx (n + 1 + (l.getD n ins0).jf) (by rw [hnxt]; simp)
          (repeat ((conv => whnf); first | refine aw_seq ?_ | refine aw_region ?_ | refine aw_block ?_ | refine aw_skip ?_ | refine aw_true rfl ?_ | refine aw_false rfl ?_ | refine aw_exit ?_ | refine aw_label ?_ | refine aw_ret ?_ | refine And.intro rfl ?_ | refine And.intro trivial ?_ | refine And.intro (And.intro rfl (Nat.le_of_ble_eq_true rfl)) ?_ | refine And.intro (And.intro (by kernel_rfl) (by kernel_rfl)) ?_ | refine And.intro (by decide) ?_ | refine lit_true ?_ | refine lit_false ?_))
          refine ret_tells rfl ?_
          rw [hnxt]
          exact le_ints2 rfl (wrap_two (n := n) (k := (l.getD n ins0).jt) (by omega)) rfl (wrap_two (n := n) (k := (l.getD n ins0).jf) (by omega))
      · have a3 := yes_of a3
        have hnxt : nextsI l n = [n + 1 + (l.getD n ins0).k] := by unfold nextsI kind; rw [if_neg (by omega), if_pos (by omega)]
        have h1 := hnx (n + 1 + (l.getD n ins0).k) (by rw [hnxt]; simp)
        (repeat ((conv => whnf); first | refine aw_seq ?_ | refine aw_region ?_ | refine aw_block ?_ | refine aw_skip ?_ | refine aw_true rfl ?_ | refine aw_false rfl ?_ | refine aw_exit ?_ | refine aw_label ?_ | refine aw_ret ?_ | refine And.intro rfl ?_ | refine And.intro trivial ?_ | refine And.intro (And.intro rfl (Nat.le_of_ble_eq_true rfl)) ?_ | refine And.intro (And.intro (by kernel_rfl) (by kernel_rfl)) ?_ | refine And.intro (by decide) ?_ | refine lit_true ?_ | refine lit_false ?_))
        refine ret_tells rfl ?_
        rw [hnxt]
        exact le_ints1 rfl (wrap_two (n := n) (k := (l.getD n ins0).k) (by omega))
    · have a2 := yes_of a2
      have hnxt : nextsI l n = [] := by unfold nextsI kind; rw [if_pos (by omega)]
      (repeat ((conv => whnf); first | refine aw_seq ?_ | refine aw_region ?_ | refine aw_block ?_ | refine aw_skip ?_ | refine aw_true rfl ?_ | refine aw_false rfl ?_ | refine aw_exit ?_ | refine aw_label ?_ | refine aw_ret ?_ | refine And.intro rfl ?_ | refine And.intro trivial ?_ | refine And.intro (And.intro rfl (Nat.le_of_ble_eq_true rfl)) ?_ | refine And.intro (And.intro (by kernel_rfl) (by kernel_rfl)) ?_ | refine And.intro (by decide) ?_ | refine lit_true ?_ | refine lit_false ?_))
      refine ret_tells rfl ?_
      rw [hnxt]
      exact AVle.os_sl0
  · have a1 := yes_of a1
    have hnxt : nextsI l n = [] := by unfold nextsI kind; rw [if_pos (by omega)]
    (repeat ((conv => whnf); first | refine aw_seq ?_ | refine aw_region ?_ | refine aw_block ?_ | refine aw_skip ?_ | refine aw_true rfl ?_ | refine aw_false rfl ?_ | refine aw_exit ?_ | refine aw_label ?_ | refine aw_ret ?_ | refine And.intro rfl ?_ | refine And.intro trivial ?_ | refine And.intro (And.intro rfl (Nat.le_of_ble_eq_true rfl)) ?_ | refine And.intro (And.intro (by kernel_rfl) (by kernel_rfl)) ?_ | refine And.intro (by decide) ?_ | refine lit_true ?_ | refine lit_false ?_))
    refine ret_tells rfl ?_
    rw [hnxt]
    exact AVle.os_sl0
end Go.Proofs.W
