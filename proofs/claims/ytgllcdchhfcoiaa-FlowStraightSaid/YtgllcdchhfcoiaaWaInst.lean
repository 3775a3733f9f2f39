import Derived.Test.YtgllcdchhfcoiaaWpIns
import Derived.KernelRfl
import Derived.Test.YtgllcdchhfcoiaaProg
namespace Go.Proofs.W
open Go.Vl
set_option maxRecDepth 100000

def int (n : Int) : AV := .v (.int .i64 n)
def u8 (n : Int) : AV := .v (.int .u8 n)
def u16 (n : Int) : AV := .v (.int .u16 n)
def u32 (n : Int) : AV := .v (.int .u32 n)
def boolA (b : Bool) : AV := .v (.bool b)
def insA (i : Ins) : AV := .ag [u16 i.code, u8 i.jt, u8 i.jf, u32 i.k]
def inss (l : List Ins) : AV := slOf 4 insA ins0 l
def ints (l : List Nat) : AV := slOf 1 (fun n : Nat => int n) 0 l
def bools (l : List Bool) : AV := slOf 1 boolA false l
def u16s (l : List Nat) : AV := slOf 1 (fun n : Nat => u16 n) 0 l

def codeM (l : List (Nat × Nat)) : List (Value × AV) := l.map fun p => (.int .u16 (p.1 : Nat), int (p.2 : Nat))
theorem alook_code (l : List (Nat × Nat)) (c : Nat) : alook (.int .u16 (c : Nat)) (codeM l) = (lk l c).map fun k => int (k : Nat) := by
  induction l with
  | nil => rfl
  | cons p l ih =>
    unfold codeM at ih ⊢
    simp only [List.map_cons, alook]
    unfold lk at ih ⊢
    rw [List.find?_cons]
    have : keyIs (.int .u16 (c : Nat)) (.int .u16 (p.1 : Nat)) = (p.1 == c) := by
      simp only [keyIs, kindEq, Bool.true_and]
      rw [Bool.eq_iff_iff]; simp; omega
    rw [this]
    cases h : p.1 == c
    · simpa using ih
    · simp
theorem keysFit_code (l : List (Nat × Nat)) : keysFit (.int .u16) (codeM l) = true := by
  simp [keysFit, codeM, keyFit, kindEq]
theorem alone_spec : Tells Try.prog 82 [] (.fm (codeM aloneL)) := by
  refine tells_of_aw Try.func82 rfl rfl fun nx => ?_
  (repeat ((conv => whnf); first | refine aw_seq ?_ | refine aw_region ?_ | refine aw_block ?_ | refine aw_skip ?_ | refine aw_true rfl ?_ | refine aw_false rfl ?_ | refine aw_exit ?_ | refine aw_label ?_ | refine And.intro rfl ?_ | refine And.intro trivial ?_ | refine And.intro (And.intro rfl (Nat.le_of_ble_eq_true rfl)) ?_ | refine And.intro (And.intro (by kernel_rfl) (by kernel_rfl)) ?_ | refine And.intro (by decide) ?_ | refine lit_true ?_ | refine lit_false ?_))
  refine AW.le (ele_freeze (L := [(0, .fm (codeM aloneL))]) (bx := []) (pm := []) (nn := 0) [((0, nx), .mp (codeM aloneL))] rfl rfl (List.Sublist.refl _) .slnil ⟨Frz.om (.head _), trivial⟩) ?_
  (repeat ((conv => whnf); first | refine aw_seq ?_ | refine aw_region ?_ | refine aw_block ?_ | refine aw_skip ?_ | refine aw_true rfl ?_ | refine aw_false rfl ?_ | refine aw_exit ?_ | refine aw_label ?_ | refine aw_ret ?_ | refine And.intro rfl ?_ | refine And.intro trivial ?_ | refine And.intro (And.intro rfl (Nat.le_of_ble_eq_true rfl)) ?_ | refine And.intro (And.intro (by kernel_rfl) (by kernel_rfl)) ?_ | refine And.intro (by decide) ?_ | refine lit_true ?_ | refine lit_false ?_))
  refine ret_tells rfl (AVle.refl _)
theorem both_spec : Tells Try.prog 83 [] (.fm (codeM bothL)) := by
  refine tells_of_aw Try.func83 rfl rfl fun nx => ?_
  (repeat ((conv => whnf); first | refine aw_seq ?_ | refine aw_region ?_ | refine aw_block ?_ | refine aw_skip ?_ | refine aw_true rfl ?_ | refine aw_false rfl ?_ | refine aw_exit ?_ | refine aw_label ?_ | refine And.intro rfl ?_ | refine And.intro trivial ?_ | refine And.intro (And.intro rfl (Nat.le_of_ble_eq_true rfl)) ?_ | refine And.intro (And.intro (by kernel_rfl) (by kernel_rfl)) ?_ | refine And.intro (by decide) ?_ | refine lit_true ?_ | refine lit_false ?_))
  refine AW.le (ele_freeze (L := [(0, .fm (codeM bothL))]) (bx := []) (pm := []) (nn := 0) [((0, nx), .mp (codeM bothL))] rfl rfl (List.Sublist.refl _) .slnil ⟨Frz.om (.head _), trivial⟩) ?_
  (repeat ((conv => whnf); first | refine aw_seq ?_ | refine aw_region ?_ | refine aw_block ?_ | refine aw_skip ?_ | refine aw_true rfl ?_ | refine aw_false rfl ?_ | refine aw_exit ?_ | refine aw_label ?_ | refine aw_ret ?_ | refine And.intro rfl ?_ | refine And.intro trivial ?_ | refine And.intro (And.intro rfl (Nat.le_of_ble_eq_true rfl)) ?_ | refine And.intro (And.intro (by kernel_rfl) (by kernel_rfl)) ?_ | refine And.intro (by decide) ?_ | refine lit_true ?_ | refine lit_false ?_))
  refine ret_tells rfl (AVle.refl _)
theorem of_spec (c : Nat) (hc : c < 65536) : Tells Try.prog 55 [u16 c] (.tup [int (kof c).1, boolA (kof c).2, boolA ((kof c).1 != 0)]) := by
  refine tells_of_aw Try.func55 rfl rfl fun nx => ?_
  (repeat ((conv => whnf); first | refine aw_seq ?_ | refine aw_region ?_ | refine aw_block ?_ | refine aw_skip ?_ | refine aw_true rfl ?_ | refine aw_false rfl ?_ | refine aw_exit ?_ | refine aw_label ?_ | refine aw_ret ?_ | refine And.intro rfl ?_ | refine And.intro trivial ?_ | refine And.intro (And.intro rfl (Nat.le_of_ble_eq_true rfl)) ?_ | refine And.intro (And.intro (by kernel_rfl) (by kernel_rfl)) ?_ | refine And.intro (by decide) ?_ | refine lit_true ?_ | refine lit_false ?_))
  refine aop_tells rfl rfl alone_spec trivial fun nx => ?_
  (repeat ((conv => whnf); first | refine aw_seq ?_ | refine aw_region ?_ | refine aw_block ?_ | refine aw_skip ?_ | refine aw_true rfl ?_ | refine aw_false rfl ?_ | refine aw_exit ?_ | refine aw_label ?_ | refine aw_ret ?_ | refine And.intro rfl ?_ | refine And.intro trivial ?_ | refine And.intro (And.intro rfl (Nat.le_of_ble_eq_true rfl)) ?_ | refine And.intro (And.intro (by kernel_rfl) (by kernel_rfl)) ?_ | refine And.intro (by decide) ?_ | refine lit_true ?_ | refine lit_false ?_))
  have e1 := alook_code aloneL c
  cases h1 : lk aloneL c with
  | some k =>
    have hk : kof c = (k, false) := by simp [kof, h1]
    have hk0 : (k != 0) = true := by
      have hd : ∀ p ∈ aloneL, (p.2 != 0) = true := by decide
      exact hd _ (lk_some h1)
    rw [h1] at e1
    refine splitO_eq (b := .tup [int k, boolA true]) (by
      show lookR (alook (.int .u16 (c : Nat)) (codeM aloneL)) _ true = _
      rw [e1]; rfl) ?_
    (repeat ((conv => whnf); first | refine aw_seq ?_ | refine aw_region ?_ | refine aw_block ?_ | refine aw_skip ?_ | refine aw_true rfl ?_ | refine aw_false rfl ?_ | refine aw_exit ?_ | refine aw_label ?_ | refine aw_ret ?_ | refine And.intro rfl ?_ | refine And.intro trivial ?_ | refine And.intro (And.intro rfl (Nat.le_of_ble_eq_true rfl)) ?_ | refine And.intro (And.intro (by kernel_rfl) (by kernel_rfl)) ?_ | refine And.intro (by decide) ?_ | refine lit_true ?_ | refine lit_false ?_))
    refine ret_tells rfl ?_
    rw [hk, hk0]
    exact AVle.refl _
  | none =>
    rw [h1] at e1
    refine splitO_eq (b := .tup [int 0, boolA false]) (by
      show lookR (alook (.int .u16 (c : Nat)) (codeM aloneL)) _ true = _
      rw [e1]; rfl) ?_
    have hb : bitsI .andNot .u16 (c : Int) 8 = ((clr8 c : Nat) : Int) := by
      have := u16_andNot (a := c) (b := 8) hc (by decide)
      rw [clr8, ← andnot8 c hc]; exact this
    have hx : bitsI .and .u16 (c : Int) 8 = ((8 * ((c / 8) % 2) : Nat) : Int) := by
      have := u16_and (a := c) (b := 8) hc (by decide)
      rw [← and8 c]; exact this
    (repeat ((conv => whnf); first | refine aw_seq ?_ | refine aw_region ?_ | refine aw_block ?_ | refine aw_skip ?_ | refine aw_true rfl ?_ | refine aw_false rfl ?_ | refine aw_exit ?_ | refine aw_label ?_ | refine aw_ret ?_ | refine And.intro rfl ?_ | refine And.intro trivial ?_ | refine And.intro (And.intro rfl (Nat.le_of_ble_eq_true rfl)) ?_ | refine And.intro (And.intro (by kernel_rfl) (by kernel_rfl)) ?_ | refine And.intro (by decide) ?_ | refine lit_true ?_ | refine lit_false ?_))
    refine aop_tells rfl rfl both_spec trivial fun nx => ?_
    (repeat ((conv => whnf); first | refine aw_seq ?_ | refine aw_region ?_ | refine aw_block ?_ | refine aw_skip ?_ | refine aw_true rfl ?_ | refine aw_false rfl ?_ | refine aw_exit ?_ | refine aw_label ?_ | refine aw_ret ?_ | refine And.intro rfl ?_ | refine And.intro trivial ?_ | refine And.intro (And.intro rfl (Nat.le_of_ble_eq_true rfl)) ?_ | refine And.intro (And.intro (by kernel_rfl) (by kernel_rfl)) ?_ | refine And.intro (by decide) ?_ | refine lit_true ?_ | refine lit_false ?_))
    have e2 := alook_code bothL (clr8 c)
    cases h2 : lk bothL (clr8 c) with
    | some k =>
      have hk : kof c = (k, (c / 8) % 2 == 1) := by simp [kof, h1, h2]
      have hk0 : (k != 0) = true := by
        have hd : ∀ p ∈ bothL, (p.2 != 0) = true := by decide
        exact hd _ (lk_some h2)
      rw [h2] at e2
      refine splitO_eq (b := .tup [int k, boolA true]) (by
        show lookR (alook (.int .u16 (bitsI .andNot .u16 (c : Int) 8)) (codeM bothL)) _ true = _
        rw [hb, e2]; rfl) ?_
      (repeat ((conv => whnf); first | refine aw_seq ?_ | refine aw_region ?_ | refine aw_block ?_ | refine aw_skip ?_ | refine aw_true rfl ?_ | refine aw_false rfl ?_ | refine aw_exit ?_ | refine aw_label ?_ | refine aw_ret ?_ | refine And.intro rfl ?_ | refine And.intro trivial ?_ | refine And.intro (And.intro rfl (Nat.le_of_ble_eq_true rfl)) ?_ | refine And.intro (And.intro (by kernel_rfl) (by kernel_rfl)) ?_ | refine And.intro (by decide) ?_ | refine lit_true ?_ | refine lit_false ?_))
      intro c h3; cases c
      all_goals
        (repeat ((conv => whnf); first | refine aw_seq ?_ | refine aw_region ?_ | refine aw_block ?_ | refine aw_skip ?_ | refine aw_true rfl ?_ | refine aw_false rfl ?_ | refine aw_exit ?_ | refine aw_label ?_ | refine aw_ret ?_ | refine And.intro rfl ?_ | refine And.intro trivial ?_ | refine And.intro (And.intro rfl (Nat.le_of_ble_eq_true rfl)) ?_ | refine And.intro (And.intro (by kernel_rfl) (by kernel_rfl)) ?_ | refine And.intro (by decide) ?_ | refine lit_true ?_ | refine lit_false ?_))
        refine ret_tells rfl ?_
        rw [hk, hk0]
        refine AVle.of_eq ?_
        rw [show ((c / 8) % 2 == 1) = (bitsI .and .u16 (c : Int) 8 != 0) by
          rw [hx, Bool.eq_iff_iff]; simp; omega, ← h3]
        rfl
    | none =>
      have hk : kof c = (0, false) := by simp [kof, h1, h2]
      rw [h2] at e2
      refine splitO_eq (b := .tup [int 0, boolA false]) (by
        show lookR (alook (.int .u16 (bitsI .andNot .u16 (c : Int) 8)) (codeM bothL)) _ true = _
        rw [hb, e2]; rfl) ?_
      (repeat ((conv => whnf); first | refine aw_seq ?_ | refine aw_region ?_ | refine aw_block ?_ | refine aw_skip ?_ | refine aw_true rfl ?_ | refine aw_false rfl ?_ | refine aw_exit ?_ | refine aw_label ?_ | refine aw_ret ?_ | refine And.intro rfl ?_ | refine And.intro trivial ?_ | refine And.intro (And.intro rfl (Nat.le_of_ble_eq_true rfl)) ?_ | refine And.intro (And.intro (by kernel_rfl) (by kernel_rfl)) ?_ | refine And.intro (by decide) ?_ | refine lit_true ?_ | refine lit_false ?_))
      refine ret_tells rfl ?_
      rw [hk]
      exact AVle.refl _
end Go.Proofs.W
