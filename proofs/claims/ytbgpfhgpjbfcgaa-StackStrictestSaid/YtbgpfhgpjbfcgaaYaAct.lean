import Derived.Test.YtbgpfhgpjbfcgaaVlJ
import Derived.KernelRfl
import Derived.Test.YtbgpfhgpjbfcgaaProg
namespace Go.Proofs.Ytb
open Go.Vl

def int (n : Int) : AV := .v (.int .i64 n)
def boolA (n : Bool) : AV := .v (.bool n)
def belowF (n : Int) : AV := .fn (.func 30) [] [.rp [int n]]
theorem f30_spec (n : Int) (h : 0 ≤ n ∧ n ≤ 100000) : Tells Try.prog 30 [.rp [int n]] (int (n - 1)) := by
  refine tells_of_aw Try.func30 rfl rfl fun nx => ?_
  (repeat ((conv => whnf); first | refine aw_seq ?_ | refine aw_region ?_ | refine aw_block ?_ | refine aw_skip ?_ | refine aw_true rfl ?_ | refine aw_false rfl ?_ | refine aw_exit ?_ | refine aw_label ?_ | refine aw_ret ?_ | refine And.intro rfl ?_ | refine And.intro (And.intro rfl (Nat.le_of_ble_eq_true rfl)) ?_ | refine And.intro (And.intro (by kernel_rfl) (by kernel_rfl)) ?_ | refine lit_true ?_ | refine lit_false ?_))
  refine ret_tells rfl (le_int (wrap_id (by omega) (by omega)))
theorem f29_spec (n : Int) : Tells Try.prog 29 [int n] (belowF n) := by
  refine tells_of_aw Try.func29 rfl rfl fun nx => ?_
  (repeat ((conv => whnf); first | refine aw_seq ?_ | refine aw_region ?_ | refine aw_block ?_ | refine aw_skip ?_ | refine aw_true rfl ?_ | refine aw_false rfl ?_ | refine aw_exit ?_ | refine aw_label ?_ | refine And.intro rfl ?_ | refine And.intro (And.intro rfl (Nat.le_of_ble_eq_true rfl)) ?_ | refine And.intro (And.intro (by kernel_rfl) (by kernel_rfl)) ?_ | refine lit_true ?_ | refine lit_false ?_))
  refine AW.le (ele_freeze (L := [(2, belowF n)]) (bx := []) (pm := []) (nn := 0) [((0, nx), [int n])] rfl rfl (List.Sublist.refl _) (List.Sublist.refl _) ⟨Frz.fn trivial ⟨Frz.bp (.head _) rfl, trivial⟩, trivial⟩) ?_
  (repeat ((conv => whnf); first | refine aw_seq ?_ | refine aw_region ?_ | refine aw_block ?_ | refine aw_skip ?_ | refine aw_true rfl ?_ | refine aw_false rfl ?_ | refine aw_exit ?_ | refine aw_label ?_ | refine aw_ret ?_ | refine And.intro rfl ?_ | refine And.intro (And.intro rfl (Nat.le_of_ble_eq_true rfl)) ?_ | refine And.intro (And.intro (by kernel_rfl) (by kernel_rfl)) ?_ | refine lit_true ?_ | refine lit_false ?_))
  refine ret_tells rfl (AVle.refl _)

def rowsL : List AV := [
  .ag [.v (.string ⟨#[107, 105, 108, 108]⟩), .v (.int .u32 2147483648), .v .nilFunc],
  .ag [.v (.string ⟨#[107, 105, 108, 108, 95, 116, 104, 114, 101, 97, 100]⟩), .v (.int .u32 0), .v .nilFunc],
  .ag [.v (.string ⟨#[116, 114, 97, 112]⟩), .v (.int .u32 196608), .v .nilFunc],
  .ag [.v (.string ⟨#[101, 114, 114, 110, 111]⟩), .v (.int .u32 327680), belowF 4096],
  .ag [.v (.string ⟨#[110, 111, 116, 105, 102, 121]⟩), .v (.int .u32 2143289344), .v .nilFunc],
  .ag [.v (.string ⟨#[116, 114, 97, 99, 101]⟩), .v (.int .u32 2146435072), belowF 65536],
  .ag [.v (.string ⟨#[108, 111, 103]⟩), .v (.int .u32 2147221504), .v .nilFunc],
  .ag [.v (.string ⟨#[97, 108, 108, 111, 119]⟩), .v (.int .u32 2147418112), .v .nilFunc]]
def rowsA : AV := .sl 3 8 (rowF rowsL)
theorem f28_spec : Tells Try.prog 28 [] rowsA := by
  refine tells_of_aw Try.func28 rfl rfl fun nx => ?_
  (repeat ((conv => whnf); first | refine aw_seq ?_ | refine aw_region ?_ | refine aw_block ?_ | refine aw_skip ?_ | refine aw_true rfl ?_ | refine aw_false rfl ?_ | refine aw_exit ?_ | refine aw_label ?_ | refine aw_ret ?_ | refine And.intro rfl ?_ | refine And.intro (And.intro rfl (Nat.le_of_ble_eq_true rfl)) ?_ | refine And.intro (And.intro (by kernel_rfl) (by kernel_rfl)) ?_ | refine lit_true ?_ | refine lit_false ?_))
  refine aop_tells rfl rfl (f29_spec 4096) ⟨AVle.refl _, trivial⟩ fun nx => ?_
  (repeat ((conv => whnf); first | refine aw_seq ?_ | refine aw_region ?_ | refine aw_block ?_ | refine aw_skip ?_ | refine aw_true rfl ?_ | refine aw_false rfl ?_ | refine aw_exit ?_ | refine aw_label ?_ | refine aw_ret ?_ | refine And.intro rfl ?_ | refine And.intro (And.intro rfl (Nat.le_of_ble_eq_true rfl)) ?_ | refine And.intro (And.intro (by kernel_rfl) (by kernel_rfl)) ?_ | refine lit_true ?_ | refine lit_false ?_))
  refine aop_tells rfl rfl (f29_spec 65536) ⟨AVle.refl _, trivial⟩ fun nx => ?_
  (repeat ((conv => whnf); first | refine aw_seq ?_ | refine aw_region ?_ | refine aw_block ?_ | refine aw_skip ?_ | refine aw_true rfl ?_ | refine aw_false rfl ?_ | refine aw_exit ?_ | refine aw_label ?_ | refine aw_ret ?_ | refine And.intro rfl ?_ | refine And.intro (And.intro rfl (Nat.le_of_ble_eq_true rfl)) ?_ | refine And.intro (And.intro (by kernel_rfl) (by kernel_rfl)) ?_ | refine lit_true ?_ | refine lit_false ?_))
  refine ret_tells rfl (le_rowF ⟨⟨⟨⟨⟨⟨⟨⟨trivial, rfl⟩, rfl⟩, rfl⟩, rfl⟩, rfl⟩, rfl⟩, rfl⟩, rfl⟩)
theorem f26_out (k : Int) (h : k < 1 ∨ 8 < k) : Tells Try.prog 26 [int k] (.tup [.ag [.v (.string ⟨#[]⟩), .v (.int .u32 0), .v .nilFunc], boolA false]) := by
  refine tells_of_aw Try.func26 rfl rfl fun nx => ?_
  (repeat ((conv => whnf); first | refine aw_seq ?_ | refine aw_region ?_ | refine aw_block ?_ | refine aw_skip ?_ | refine aw_true rfl ?_ | refine aw_false rfl ?_ | refine aw_exit ?_ | refine aw_label ?_ | refine aw_ret ?_ | refine And.intro rfl ?_ | refine And.intro (And.intro rfl (Nat.le_of_ble_eq_true rfl)) ?_ | refine And.intro (And.intro (by kernel_rfl) (by kernel_rfl)) ?_ | refine lit_true ?_ | refine lit_false ?_))
  refine aop_tells rfl rfl f28_spec trivial fun nx => ?_
  (repeat ((conv => whnf); first | refine aw_seq ?_ | refine aw_region ?_ | refine aw_block ?_ | refine aw_skip ?_ | refine aw_true rfl ?_ | refine aw_false rfl ?_ | refine aw_exit ?_ | refine aw_label ?_ | refine aw_ret ?_ | refine And.intro rfl ?_ | refine And.intro (And.intro rfl (Nat.le_of_ble_eq_true rfl)) ?_ | refine And.intro (And.intro (by kernel_rfl) (by kernel_rfl)) ?_ | refine lit_true ?_ | refine lit_false ?_))
  intro c h1; cases c
  · (repeat ((conv => whnf); first | refine aw_seq ?_ | refine aw_region ?_ | refine aw_block ?_ | refine aw_skip ?_ | refine aw_true rfl ?_ | refine aw_false rfl ?_ | refine aw_exit ?_ | refine aw_label ?_ | refine aw_ret ?_ | refine And.intro rfl ?_ | refine And.intro (And.intro rfl (Nat.le_of_ble_eq_true rfl)) ?_ | refine And.intro (And.intro (by kernel_rfl) (by kernel_rfl)) ?_ | refine lit_true ?_ | refine lit_false ?_))
    intro c h2; cases c
    · simp at h1 h2; omega
    · (repeat ((conv => whnf); first | refine aw_seq ?_ | refine aw_region ?_ | refine aw_block ?_ | refine aw_skip ?_ | refine aw_true rfl ?_ | refine aw_false rfl ?_ | refine aw_exit ?_ | refine aw_label ?_ | refine aw_ret ?_ | refine And.intro rfl ?_ | refine And.intro (And.intro rfl (Nat.le_of_ble_eq_true rfl)) ?_ | refine And.intro (And.intro (by kernel_rfl) (by kernel_rfl)) ?_ | refine lit_true ?_ | refine lit_false ?_))
      (refine ret_tells_all rfl ?_ ?_; (· exact ⟨rfl, trivial⟩)); exact AVle.refl _
  · (repeat ((conv => whnf); first | refine aw_seq ?_ | refine aw_region ?_ | refine aw_block ?_ | refine aw_skip ?_ | refine aw_true rfl ?_ | refine aw_false rfl ?_ | refine aw_exit ?_ | refine aw_label ?_ | refine aw_ret ?_ | refine And.intro rfl ?_ | refine And.intro (And.intro rfl (Nat.le_of_ble_eq_true rfl)) ?_ | refine And.intro (And.intro (by kernel_rfl) (by kernel_rfl)) ?_ | refine lit_true ?_ | refine lit_false ?_))
    (refine ret_tells_all rfl ?_ ?_; (· exact ⟨rfl, trivial⟩)); exact AVle.refl _
theorem f26_in (k : Nat) (h : k < 8) : Tells Try.prog 26 [int (k + 1)] (.tup [rowF rowsL k, boolA true]) := by
  refine tells_of_aw Try.func26 rfl rfl fun nx => ?_
  (repeat ((conv => whnf); first | refine aw_seq ?_ | refine aw_region ?_ | refine aw_block ?_ | refine aw_skip ?_ | refine aw_true rfl ?_ | refine aw_false rfl ?_ | refine aw_exit ?_ | refine aw_label ?_ | refine aw_ret ?_ | refine And.intro rfl ?_ | refine And.intro (And.intro rfl (Nat.le_of_ble_eq_true rfl)) ?_ | refine And.intro (And.intro (by kernel_rfl) (by kernel_rfl)) ?_ | refine lit_true ?_ | refine lit_false ?_))
  refine aop_tells rfl rfl f28_spec trivial fun nx => ?_
  (repeat ((conv => whnf); first | refine aw_seq ?_ | refine aw_region ?_ | refine aw_block ?_ | refine aw_skip ?_ | refine aw_true rfl ?_ | refine aw_false rfl ?_ | refine aw_exit ?_ | refine aw_label ?_ | refine aw_ret ?_ | refine And.intro rfl ?_ | refine And.intro (And.intro rfl (Nat.le_of_ble_eq_true rfl)) ?_ | refine And.intro (And.intro (by kernel_rfl) (by kernel_rfl)) ?_ | refine lit_true ?_ | refine lit_false ?_))
  intro c h1; cases c
  · (repeat ((conv => whnf); first | refine aw_seq ?_ | refine aw_region ?_ | refine aw_block ?_ | refine aw_skip ?_ | refine aw_true rfl ?_ | refine aw_false rfl ?_ | refine aw_exit ?_ | refine aw_label ?_ | refine aw_ret ?_ | refine And.intro rfl ?_ | refine And.intro (And.intro rfl (Nat.le_of_ble_eq_true rfl)) ?_ | refine And.intro (And.intro (by kernel_rfl) (by kernel_rfl)) ?_ | refine lit_true ?_ | refine lit_false ?_))
    rcases k with _ | _ | _ | _ | _ | _ | _ | _ | k
    iterate 8
      · refine ⟨⟨by decide, by decide⟩, ?_⟩
        (repeat ((conv => whnf); first | refine aw_seq ?_ | refine aw_region ?_ | refine aw_block ?_ | refine aw_skip ?_ | refine aw_true rfl ?_ | refine aw_false rfl ?_ | refine aw_exit ?_ | refine aw_label ?_ | refine aw_ret ?_ | refine And.intro rfl ?_ | refine And.intro (And.intro rfl (Nat.le_of_ble_eq_true rfl)) ?_ | refine And.intro (And.intro (by kernel_rfl) (by kernel_rfl)) ?_ | refine lit_true ?_ | refine lit_false ?_))
        (refine ret_tells_all rfl ?_ ?_; (· exact ⟨rfl, trivial⟩)); exact AVle.refl _
    · omega
  · simp at h1; omega
def most9 (k : Int) : Int := if k = 4 then 4095 else if k = 6 then 65535 else 0
theorem most9_spec (k : Int) : Tells Try.prog 19 [int k] (int (most9 k)) := by
  refine tells_of_aw Try.func19 rfl rfl fun nx => ?_
  (repeat ((conv => whnf); first | refine aw_seq ?_ | refine aw_region ?_ | refine aw_block ?_ | refine aw_skip ?_ | refine aw_true rfl ?_ | refine aw_false rfl ?_ | refine aw_exit ?_ | refine aw_label ?_ | refine aw_ret ?_ | refine And.intro rfl ?_ | refine And.intro (And.intro rfl (Nat.le_of_ble_eq_true rfl)) ?_ | refine And.intro (And.intro (by kernel_rfl) (by kernel_rfl)) ?_ | refine lit_true ?_ | refine lit_false ?_))
  intro c hc
  cases c
  · (repeat ((conv => whnf); first | refine aw_seq ?_ | refine aw_region ?_ | refine aw_block ?_ | refine aw_skip ?_ | refine aw_true rfl ?_ | refine aw_false rfl ?_ | refine aw_exit ?_ | refine aw_label ?_ | refine aw_ret ?_ | refine And.intro rfl ?_ | refine And.intro (And.intro rfl (Nat.le_of_ble_eq_true rfl)) ?_ | refine And.intro (And.intro (by kernel_rfl) (by kernel_rfl)) ?_ | refine lit_true ?_ | refine lit_false ?_))
    intro d hd
    cases d
    · (repeat ((conv => whnf); first | refine aw_seq ?_ | refine aw_region ?_ | refine aw_block ?_ | refine aw_skip ?_ | refine aw_true rfl ?_ | refine aw_false rfl ?_ | refine aw_exit ?_ | refine aw_label ?_ | refine aw_ret ?_ | refine And.intro rfl ?_ | refine And.intro (And.intro rfl (Nat.le_of_ble_eq_true rfl)) ?_ | refine And.intro (And.intro (by kernel_rfl) (by kernel_rfl)) ?_ | refine lit_true ?_ | refine lit_false ?_))
      refine ret_tells rfl (le_int ?_)
      simp at hc hd; simp [most9, hc, hd]
    · (repeat ((conv => whnf); first | refine aw_seq ?_ | refine aw_region ?_ | refine aw_block ?_ | refine aw_skip ?_ | refine aw_true rfl ?_ | refine aw_false rfl ?_ | refine aw_exit ?_ | refine aw_label ?_ | refine aw_ret ?_ | refine And.intro rfl ?_ | refine And.intro (And.intro rfl (Nat.le_of_ble_eq_true rfl)) ?_ | refine And.intro (And.intro (by kernel_rfl) (by kernel_rfl)) ?_ | refine lit_true ?_ | refine lit_false ?_))
      refine ret_tells rfl (le_int ?_)
      simp at hc hd; simp [most9, hc, hd]
  · (repeat ((conv => whnf); first | refine aw_seq ?_ | refine aw_region ?_ | refine aw_block ?_ | refine aw_skip ?_ | refine aw_true rfl ?_ | refine aw_false rfl ?_ | refine aw_exit ?_ | refine aw_label ?_ | refine aw_ret ?_ | refine And.intro rfl ?_ | refine And.intro (And.intro rfl (Nat.le_of_ble_eq_true rfl)) ?_ | refine And.intro (And.intro (by kernel_rfl) (by kernel_rfl)) ?_ | refine lit_true ?_ | refine lit_false ?_))
    refine ret_tells rfl (le_int ?_)
    simp at hc; simp [most9, hc]
def act (k n : Int) : AV := .ag [int k, int n]
def right9 (k n : Int) : Bool := decide (1 ≤ k) && decide (k ≤ 8) && decide (0 ≤ n) && decide (n ≤ most9 k)
theorem right9_spec (k n : Int) : Tells Try.prog 8 [act k n] (boolA (right9 k n)) := by
  refine tells_of_aw Try.func8 rfl rfl fun nx => ?_
  (repeat ((conv => whnf); first | refine aw_seq ?_ | refine aw_region ?_ | refine aw_block ?_ | refine aw_skip ?_ | refine aw_true rfl ?_ | refine aw_false rfl ?_ | refine aw_exit ?_ | refine aw_label ?_ | refine aw_ret ?_ | refine And.intro rfl ?_ | refine And.intro (And.intro rfl (Nat.le_of_ble_eq_true rfl)) ?_ | refine And.intro (And.intro (by kernel_rfl) (by kernel_rfl)) ?_ | refine lit_true ?_ | refine lit_false ?_))
  (refine aw_draw 21 ?_ ?_ ?_ ?_; (· kernel_rfl); (· kernel_rfl); (· kernel_rfl))
  (repeat ((conv => whnf); first | refine aw_seq ?_ | refine aw_region ?_ | refine aw_block ?_ | refine aw_skip ?_ | refine aw_true rfl ?_ | refine aw_false rfl ?_ | refine aw_exit ?_ | refine aw_label ?_ | refine aw_ret ?_ | refine And.intro rfl ?_ | refine And.intro (And.intro rfl (Nat.le_of_ble_eq_true rfl)) ?_ | refine And.intro (And.intro (by kernel_rfl) (by kernel_rfl)) ?_ | refine lit_true ?_ | refine lit_false ?_))
  intro c h1; cases c
  · (repeat ((conv => whnf); first | refine aw_seq ?_ | refine aw_region ?_ | refine aw_block ?_ | refine aw_skip ?_ | refine aw_true rfl ?_ | refine aw_false rfl ?_ | refine aw_exit ?_ | refine aw_label ?_ | refine aw_ret ?_ | refine And.intro rfl ?_ | refine And.intro (And.intro rfl (Nat.le_of_ble_eq_true rfl)) ?_ | refine And.intro (And.intro (by kernel_rfl) (by kernel_rfl)) ?_ | refine lit_true ?_ | refine lit_false ?_))
    refine ret_tells rfl (le_bool ?_)
    simp at h1; simp [right9]; omega
  (repeat ((conv => whnf); first | refine aw_seq ?_ | refine aw_region ?_ | refine aw_block ?_ | refine aw_skip ?_ | refine aw_true rfl ?_ | refine aw_false rfl ?_ | refine aw_exit ?_ | refine aw_label ?_ | refine aw_ret ?_ | refine And.intro rfl ?_ | refine And.intro (And.intro rfl (Nat.le_of_ble_eq_true rfl)) ?_ | refine And.intro (And.intro (by kernel_rfl) (by kernel_rfl)) ?_ | refine lit_true ?_ | refine lit_false ?_))
  intro c h2; cases c
  · (repeat ((conv => whnf); first | refine aw_seq ?_ | refine aw_region ?_ | refine aw_block ?_ | refine aw_skip ?_ | refine aw_true rfl ?_ | refine aw_false rfl ?_ | refine aw_exit ?_ | refine aw_label ?_ | refine aw_ret ?_ | refine And.intro rfl ?_ | refine And.intro (And.intro rfl (Nat.le_of_ble_eq_true rfl)) ?_ | refine And.intro (And.intro (by kernel_rfl) (by kernel_rfl)) ?_ | refine lit_true ?_ | refine lit_false ?_))
    refine ret_tells rfl (le_bool ?_)
    simp at h1 h2; simp [right9]; omega
  (repeat ((conv => whnf); first | refine aw_seq ?_ | refine aw_region ?_ | refine aw_block ?_ | refine aw_skip ?_ | refine aw_true rfl ?_ | refine aw_false rfl ?_ | refine aw_exit ?_ | refine aw_label ?_ | refine aw_ret ?_ | refine And.intro rfl ?_ | refine And.intro (And.intro rfl (Nat.le_of_ble_eq_true rfl)) ?_ | refine And.intro (And.intro (by kernel_rfl) (by kernel_rfl)) ?_ | refine lit_true ?_ | refine lit_false ?_))
  intro c h3; cases c
  · (repeat ((conv => whnf); first | refine aw_seq ?_ | refine aw_region ?_ | refine aw_block ?_ | refine aw_skip ?_ | refine aw_true rfl ?_ | refine aw_false rfl ?_ | refine aw_exit ?_ | refine aw_label ?_ | refine aw_ret ?_ | refine And.intro rfl ?_ | refine And.intro (And.intro rfl (Nat.le_of_ble_eq_true rfl)) ?_ | refine And.intro (And.intro (by kernel_rfl) (by kernel_rfl)) ?_ | refine lit_true ?_ | refine lit_false ?_))
    refine ret_tells rfl (le_bool ?_)
    simp at h1 h2 h3; simp [right9]; omega
  (repeat ((conv => whnf); first | refine aw_seq ?_ | refine aw_region ?_ | refine aw_block ?_ | refine aw_skip ?_ | refine aw_true rfl ?_ | refine aw_false rfl ?_ | refine aw_exit ?_ | refine aw_label ?_ | refine aw_ret ?_ | refine And.intro rfl ?_ | refine And.intro (And.intro rfl (Nat.le_of_ble_eq_true rfl)) ?_ | refine And.intro (And.intro (by kernel_rfl) (by kernel_rfl)) ?_ | refine lit_true ?_ | refine lit_false ?_))
  refine ex_yields (yields_tells rfl rfl (most9_spec k) ⟨AVle.refl _, trivial⟩ (NoId.v _)) ?_
  intro c h4; cases c
  · (repeat ((conv => whnf); first | refine aw_seq ?_ | refine aw_region ?_ | refine aw_block ?_ | refine aw_skip ?_ | refine aw_true rfl ?_ | refine aw_false rfl ?_ | refine aw_exit ?_ | refine aw_label ?_ | refine aw_ret ?_ | refine And.intro rfl ?_ | refine And.intro (And.intro rfl (Nat.le_of_ble_eq_true rfl)) ?_ | refine And.intro (And.intro (by kernel_rfl) (by kernel_rfl)) ?_ | refine lit_true ?_ | refine lit_false ?_))
    refine ret_tells rfl (le_bool ?_)
    simp at h1 h2 h3 h4; simp [right9]; omega
  (repeat ((conv => whnf); first | refine aw_seq ?_ | refine aw_region ?_ | refine aw_block ?_ | refine aw_skip ?_ | refine aw_true rfl ?_ | refine aw_false rfl ?_ | refine aw_exit ?_ | refine aw_label ?_ | refine aw_ret ?_ | refine And.intro rfl ?_ | refine And.intro (And.intro rfl (Nat.le_of_ble_eq_true rfl)) ?_ | refine And.intro (And.intro (by kernel_rfl) (by kernel_rfl)) ?_ | refine lit_true ?_ | refine lit_false ?_))
  refine ret_tells rfl (le_bool ?_)
  simp at h1 h2 h3 h4; simp [right9]; omega
end Go.Proofs.Ytb
