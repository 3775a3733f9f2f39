import Derived.Test.YtgllcdchhfcoiaaC
import Derived.KernelRfl
import Derived.Test.YtgllcdchhfcoiaaProg
set_option linter.unusedVariables false
set_option linter.unusedSimpArgs false
namespace Go.Proofs.W
open Go.Vl

/-- An instruction. -/
structure Ins where
  code : Nat
  jt : Nat
  jf : Nat
  k : Nat
deriving DecidableEq
def ins0 : Ins := ⟨0, 0, 0, 0⟩
def Ins.ok (i : Ins) : Prop := i.code < 65536 ∧ i.jt < 256 ∧ i.jf < 256 ∧ i.k < 4294967296
def aloneL : List (Nat × Nat) := [(32, 1), (0, 2), (96, 3), (128, 4), (1, 5), (97, 6), (129, 7), (2, 8), (3, 9), (7, 10), (135, 11), (132, 12), (5, 13), (6, 14), (22, 15)]
def bothL : List (Nat × Nat) := [(4, 16), (20, 17), (36, 18), (52, 19), (68, 20), (84, 21), (100, 22), (116, 23), (164, 24), (21, 25), (37, 26), (53, 27), (69, 28)]
def lk (l : List (Nat × Nat)) (c : Nat) : Option Nat := (l.find? (fun p => p.1 == c)).map (·.2)
def clr8 (c : Nat) : Nat := c - 8 * ((c / 8) % 2)
/-- What a code means: its kind (0: none), is its other side X? -/
def kof (c : Nat) : Nat × Bool := match lk aloneL c with
  | some k => (k, false)
  | none => match lk bothL (clr8 c) with
    | some k => (k, (c / 8) % 2 == 1)
    | none => (0, false)
theorem lk_some {l : List (Nat × Nat)} {c k : Nat} (h : lk l c = some k) : (c, k) ∈ l := by
  unfold lk at h
  rw [Option.map_eq_some_iff] at h
  obtain ⟨p, h1, h2⟩ := h
  have := List.find?_some h1
  have hm := List.mem_of_find?_eq_some h1
  simp at this
  obtain ⟨a, b⟩ := p
  dsimp only at this h2
  subst this; subst h2
  exact hm
theorem lk_none {l : List (Nat × Nat)} {c : Nat} (h : lk l c = none) : ∀ p ∈ l, p.1 ≠ c := by
  unfold lk at h
  rw [Option.map_eq_none_iff, List.find?_eq_none] at h
  intro p hp
  have := h p hp
  simpa using this
theorem kof_le (c : Nat) : (kof c).1 ≤ 28 := by
  unfold kof
  split
  · rename_i k h
    have := lk_some h
    have hd : ∀ p ∈ aloneL, p.2 ≤ 28 := by decide
    exact hd _ this
  · split
    · rename_i k h
      have := lk_some h
      have hd : ∀ p ∈ bothL, p.2 ≤ 28 := by decide
      exact hd _ this
    · simp
/-- As the reference asks. -/
def refOf (c : Nat) : Nat × Bool :=
  match [32, 0, 96, 128, 1, 97, 129, 2, 3, 7, 135, 132, 5, 6, 22].findIdx? (fun a => c == a) with
  | some i => (i + 1, false)
  | none => match [4, 20, 36, 52, 68, 84, 100, 116, 164, 21, 37, 53, 69].findIdx? (fun a => c == a || c == a + 8) with
    | some i => (i + 16, c != [4, 20, 36, 52, 68, 84, 100, 116, 164, 21, 37, 53, 69].getD i 0)
    | none => (0, false)
theorem refOf_small : ∀ c, c < 256 → refOf c = kof c := by decide +kernel
theorem kof_big {c : Nat} (h : 256 ≤ c) : kof c = (0, false) := by
  have h1 : lk aloneL c = none := by
    cases hl : lk aloneL c with
    | none => rfl
    | some k =>
      have := lk_some hl
      have hd : ∀ p ∈ aloneL, p.1 < 256 := by decide
      have := hd _ this; dsimp only at this; omega
  have h2 : lk bothL (clr8 c) = none := by
    cases hl : lk bothL (clr8 c) with
    | none => rfl
    | some k =>
      have := lk_some hl
      have hd : ∀ p ∈ bothL, p.1 < 200 := by decide
      have := hd _ this; unfold clr8 at this; dsimp only at this; omega
  simp [kof, h1, h2]
theorem refOf_big {c : Nat} (h : 256 ≤ c) : refOf c = (0, false) := by
  have h1 : [32, 0, 96, 128, 1, 97, 129, 2, 3, 7, 135, 132, 5, 6, 22].findIdx? (fun a => c == a) = none := by
    rw [List.findIdx?_eq_none_iff]
    have hd : ∀ a ∈ [32, 0, 96, 128, 1, 97, 129, 2, 3, 7, 135, 132, 5, 6, 22], a < 256 := by decide
    intro a ha
    have := hd a ha
    simp; omega
  have h2 : [4, 20, 36, 52, 68, 84, 100, 116, 164, 21, 37, 53, 69].findIdx? (fun a => c == a || c == a + 8) = none := by
    rw [List.findIdx?_eq_none_iff]
    have hd : ∀ a ∈ [4, 20, 36, 52, 68, 84, 100, 116, 164, 21, 37, 53, 69], a < 200 := by decide
    intro a ha
    have := hd a ha
    simp; omega
  simp [refOf, h1, h2]
theorem refOf_eq (c : Nat) : refOf c = kof c := by
  rcases Nat.lt_or_ge c 256 with h | h
  · exact refOf_small c h
  · rw [refOf_big h, kof_big h]

/-- What is wrong with an instruction alone; rest: how many stand behind it. -/
def wrongI (i : Ins) (rest : Nat) : Nat :=
  let (kind, x) := kof i.code
  if kind = 0 then 5
  else if kind = 1 ∧ (i.k % 4 ≠ 0 ∨ 64 ≤ i.k) then 6
  else if (kind = 3 ∨ kind = 6 ∨ kind = 8 ∨ kind = 9) ∧ 16 ≤ i.k then 7
  else if x = false ∧ kind = 19 ∧ i.k = 0 then 8
  else if x = false ∧ (kind = 22 ∨ kind = 23) ∧ 31 < i.k then 9
  else if (kind = 13 ∧ rest ≤ i.k) ∨ (25 ≤ kind ∧ (rest ≤ i.jt ∨ rest ≤ i.jf)) then 10
  else 0
/-- The list's first three points: where, and what. -/
def formedI (l : List Ins) : Nat × Nat :=
  if l.length = 0 then (0, 4)
  else if 4096 < l.length then (0, 3)
  else match (List.range l.length).find? (fun n => wrongI (l.getD n ins0) (l.length - 1 - n) != 0) with
    | some n => (n, wrongI (l.getD n ins0) (l.length - 1 - n))
    | none => if (kof (l.getD (l.length - 1) ins0).code).1 = 14 ∨ (kof (l.getD (l.length - 1) ins0).code).1 = 15 then (0, 0) else (l.length - 1, 11)
end Go.Proofs.W

namespace Go.Proofs.W
open Go.Vl
set_option maxRecDepth 100000

def int (n : Int) : AV := .v (.int .i64 n)
def u8 (n : Int) : AV := .v (.int .u8 n)
def u16 (n : Int) : AV := .v (.int .u16 n)
def u32 (n : Int) : AV := .v (.int .u32 n)
def boolA (b : Bool) : AV := .v (.bool b)
def insA (i : Ins) : AV := .ag [u16 i.code, u8 i.jt, u8 i.jf, u32 i.k]
def inss (l : List Ins) : AV := slOf 4 insA ins0 l
def ints (l : List Nat) : AV := slOf 1 (fun n : Nat => int n) 0 l
def bools (l : List Bool) : AV := slOf 1 boolA false l
def u16s (l : List Nat) : AV := slOf 1 (fun n : Nat => u16 n) 0 l

def codeM (l : List (Nat × Nat)) : List (Value × AV) := l.map fun p => (.int .u16 (p.1 : Nat), int (p.2 : Nat))
theorem alook_code (l : List (Nat × Nat)) (c : Nat) : alook (.int .u16 (c : Nat)) (codeM l) = (lk l c).map fun k => int (k : Nat) := by
  induction l with
  | nil => rfl
  | cons p l ih =>
    unfold codeM at ih ⊢
    simp only [List.map_cons, alook]
    unfold lk at ih ⊢
    rw [List.find?_cons]
    have : keyIs (.int .u16 (c : Nat)) (.int .u16 (p.1 : Nat)) = (p.1 == c) := by
      simp only [keyIs, kindEq, Bool.true_and]
      rw [Bool.eq_iff_iff]; simp; omega
    rw [this]
    cases h : p.1 == c
    · simpa using ih
    · simp
theorem keysFit_code (l : List (Nat × Nat)) : keysFit (.int .u16) (codeM l) = true := by
  simp [keysFit, codeM, keyFit, kindEq]
theorem alone_spec : Tells Try.prog 82 [] (.fm (codeM aloneL)) := by
  refine tells_of_aw Try.func82 rfl rfl fun nx => ?_
  (repeat ((conv=>whnf);first|refine ω0 ?_|refine ω1 ?_|refine ω2 ?_|refine ω3 ?_|refine ω4 rfl ?_|refine ω5 rfl ?_|refine ω6 ?_|refine ω7 ?_|refine ⟨rfl,?_⟩|refine ⟨trivial,?_⟩|refine ⟨⟨rfl,Nat.le_of_ble_eq_true rfl⟩,?_⟩|refine ⟨⟨by kernel_rfl,by kernel_rfl⟩,?_⟩|refine ⟨by decide,?_⟩|refine lit_true ?_|refine lit_false ?_))
  refine AW.le (ele_freeze (L := [(0, .fm (codeM aloneL))]) (bx := []) (pm := []) (nn := 0) [((0, nx), .mp (codeM aloneL))] rfl rfl (List.Sublist.refl _) .slnil ⟨Frz.om (.head _), trivial⟩) ?_
  (repeat ((conv=>whnf);first|refine ω0 ?_|refine ω1 ?_|refine ω2 ?_|refine ω3 ?_|refine ω4 rfl ?_|refine ω5 rfl ?_|refine ω6 ?_|refine ω7 ?_|refine ω8 ?_|refine ⟨rfl,?_⟩|refine ⟨trivial,?_⟩|refine ⟨⟨rfl,Nat.le_of_ble_eq_true rfl⟩,?_⟩|refine ⟨⟨by kernel_rfl,by kernel_rfl⟩,?_⟩|refine ⟨by decide,?_⟩|refine lit_true ?_|refine lit_false ?_))
  refine ret_tells rfl (AVle.refl _)
theorem both_spec : Tells Try.prog 83 [] (.fm (codeM bothL)) := by
  refine tells_of_aw Try.func83 rfl rfl fun nx => ?_
  (repeat ((conv=>whnf);first|refine ω0 ?_|refine ω1 ?_|refine ω2 ?_|refine ω3 ?_|refine ω4 rfl ?_|refine ω5 rfl ?_|refine ω6 ?_|refine ω7 ?_|refine ⟨rfl,?_⟩|refine ⟨trivial,?_⟩|refine ⟨⟨rfl,Nat.le_of_ble_eq_true rfl⟩,?_⟩|refine ⟨⟨by kernel_rfl,by kernel_rfl⟩,?_⟩|refine ⟨by decide,?_⟩|refine lit_true ?_|refine lit_false ?_))
  refine AW.le (ele_freeze (L := [(0, .fm (codeM bothL))]) (bx := []) (pm := []) (nn := 0) [((0, nx), .mp (codeM bothL))] rfl rfl (List.Sublist.refl _) .slnil ⟨Frz.om (.head _), trivial⟩) ?_
  (repeat ((conv=>whnf);first|refine ω0 ?_|refine ω1 ?_|refine ω2 ?_|refine ω3 ?_|refine ω4 rfl ?_|refine ω5 rfl ?_|refine ω6 ?_|refine ω7 ?_|refine ω8 ?_|refine ⟨rfl,?_⟩|refine ⟨trivial,?_⟩|refine ⟨⟨rfl,Nat.le_of_ble_eq_true rfl⟩,?_⟩|refine ⟨⟨by kernel_rfl,by kernel_rfl⟩,?_⟩|refine ⟨by decide,?_⟩|refine lit_true ?_|refine lit_false ?_))
  refine ret_tells rfl (AVle.refl _)
theorem of_spec (c : Nat) (hc : c < 65536) : Tells Try.prog 55 [u16 c] (.tup [int (kof c).1, boolA (kof c).2, boolA ((kof c).1 != 0)]) := by
  refine tells_of_aw Try.func55 rfl rfl fun nx => ?_
  (repeat ((conv=>whnf);first|refine ω0 ?_|refine ω1 ?_|refine ω2 ?_|refine ω3 ?_|refine ω4 rfl ?_|refine ω5 rfl ?_|refine ω6 ?_|refine ω7 ?_|refine ω8 ?_|refine ⟨rfl,?_⟩|refine ⟨trivial,?_⟩|refine ⟨⟨rfl,Nat.le_of_ble_eq_true rfl⟩,?_⟩|refine ⟨⟨by kernel_rfl,by kernel_rfl⟩,?_⟩|refine ⟨by decide,?_⟩|refine lit_true ?_|refine lit_false ?_))
  refine aop_tells rfl rfl alone_spec trivial fun nx => ?_
  (repeat ((conv=>whnf);first|refine ω0 ?_|refine ω1 ?_|refine ω2 ?_|refine ω3 ?_|refine ω4 rfl ?_|refine ω5 rfl ?_|refine ω6 ?_|refine ω7 ?_|refine ω8 ?_|refine ⟨rfl,?_⟩|refine ⟨trivial,?_⟩|refine ⟨⟨rfl,Nat.le_of_ble_eq_true rfl⟩,?_⟩|refine ⟨⟨by kernel_rfl,by kernel_rfl⟩,?_⟩|refine ⟨by decide,?_⟩|refine lit_true ?_|refine lit_false ?_))
  have e1 := alook_code aloneL c
  cases h1 : lk aloneL c with
  | some k =>
    have hk : kof c = (k, false) := by simp [kof, h1]
    have hk0 : (k != 0) = true := by
      have hd : ∀ p ∈ aloneL, (p.2 != 0) = true := by decide
      exact hd _ (lk_some h1)
    rw [h1] at e1
    refine splitO_eq (b := .tup [int k, boolA true]) (by
      show lookR (alook (.int .u16 (c : Nat)) (codeM aloneL)) _ true = _
      rw [e1]; rfl) ?_
    (repeat ((conv=>whnf);first|refine ω0 ?_|refine ω1 ?_|refine ω2 ?_|refine ω3 ?_|refine ω4 rfl ?_|refine ω5 rfl ?_|refine ω6 ?_|refine ω7 ?_|refine ω8 ?_|refine ⟨rfl,?_⟩|refine ⟨trivial,?_⟩|refine ⟨⟨rfl,Nat.le_of_ble_eq_true rfl⟩,?_⟩|refine ⟨⟨by kernel_rfl,by kernel_rfl⟩,?_⟩|refine ⟨by decide,?_⟩|refine lit_true ?_|refine lit_false ?_))
    refine ret_tells rfl ?_
    rw [hk, hk0]
    exact AVle.refl _
  | none =>
    rw [h1] at e1
    refine splitO_eq (b := .tup [int 0, boolA false]) (by
      show lookR (alook (.int .u16 (c : Nat)) (codeM aloneL)) _ true = _
      rw [e1]; rfl) ?_
    have hb : bitsI .andNot .u16 (c : Int) 8 = ((clr8 c : Nat) : Int) := by
      have := u16_andNot (a := c) (b := 8) hc (by decide)
      rw [clr8, ← andnot8 c hc]; exact this
    have hx : bitsI .and .u16 (c : Int) 8 = ((8 * ((c / 8) % 2) : Nat) : Int) := by
      have := u16_and (a := c) (b := 8) hc (by decide)
      rw [← and8 c]; exact this
    (repeat ((conv=>whnf);first|refine ω0 ?_|refine ω1 ?_|refine ω2 ?_|refine ω3 ?_|refine ω4 rfl ?_|refine ω5 rfl ?_|refine ω6 ?_|refine ω7 ?_|refine ω8 ?_|refine ⟨rfl,?_⟩|refine ⟨trivial,?_⟩|refine ⟨⟨rfl,Nat.le_of_ble_eq_true rfl⟩,?_⟩|refine ⟨⟨by kernel_rfl,by kernel_rfl⟩,?_⟩|refine ⟨by decide,?_⟩|refine lit_true ?_|refine lit_false ?_))
    refine aop_tells rfl rfl both_spec trivial fun nx => ?_
    (repeat ((conv=>whnf);first|refine ω0 ?_|refine ω1 ?_|refine ω2 ?_|refine ω3 ?_|refine ω4 rfl ?_|refine ω5 rfl ?_|refine ω6 ?_|refine ω7 ?_|refine ω8 ?_|refine ⟨rfl,?_⟩|refine ⟨trivial,?_⟩|refine ⟨⟨rfl,Nat.le_of_ble_eq_true rfl⟩,?_⟩|refine ⟨⟨by kernel_rfl,by kernel_rfl⟩,?_⟩|refine ⟨by decide,?_⟩|refine lit_true ?_|refine lit_false ?_))
    have e2 := alook_code bothL (clr8 c)
    cases h2 : lk bothL (clr8 c) with
    | some k =>
      have hk : kof c = (k, (c / 8) % 2 == 1) := by simp [kof, h1, h2]
      have hk0 : (k != 0) = true := by
        have hd : ∀ p ∈ bothL, (p.2 != 0) = true := by decide
        exact hd _ (lk_some h2)
      rw [h2] at e2
      refine splitO_eq (b := .tup [int k, boolA true]) (by
        show lookR (alook (.int .u16 (bitsI .andNot .u16 (c : Int) 8)) (codeM bothL)) _ true = _
        rw [hb, e2]; rfl) ?_
      (repeat ((conv=>whnf);first|refine ω0 ?_|refine ω1 ?_|refine ω2 ?_|refine ω3 ?_|refine ω4 rfl ?_|refine ω5 rfl ?_|refine ω6 ?_|refine ω7 ?_|refine ω8 ?_|refine ⟨rfl,?_⟩|refine ⟨trivial,?_⟩|refine ⟨⟨rfl,Nat.le_of_ble_eq_true rfl⟩,?_⟩|refine ⟨⟨by kernel_rfl,by kernel_rfl⟩,?_⟩|refine ⟨by decide,?_⟩|refine lit_true ?_|refine lit_false ?_))
      intro c h3; cases c
      all_goals
        (repeat ((conv=>whnf);first|refine ω0 ?_|refine ω1 ?_|refine ω2 ?_|refine ω3 ?_|refine ω4 rfl ?_|refine ω5 rfl ?_|refine ω6 ?_|refine ω7 ?_|refine ω8 ?_|refine ⟨rfl,?_⟩|refine ⟨trivial,?_⟩|refine ⟨⟨rfl,Nat.le_of_ble_eq_true rfl⟩,?_⟩|refine ⟨⟨by kernel_rfl,by kernel_rfl⟩,?_⟩|refine ⟨by decide,?_⟩|refine lit_true ?_|refine lit_false ?_))
        refine ret_tells rfl ?_
        rw [hk, hk0]
        refine AVle.of_eq ?_
        rw [show ((c / 8) % 2 == 1) = (bitsI .and .u16 (c : Int) 8 != 0) by
          rw [hx, Bool.eq_iff_iff]; simp; omega, ← h3]
        rfl
    | none =>
      have hk : kof c = (0, false) := by simp [kof, h1, h2]
      rw [h2] at e2
      refine splitO_eq (b := .tup [int 0, boolA false]) (by
        show lookR (alook (.int .u16 (bitsI .andNot .u16 (c : Int) 8)) (codeM bothL)) _ true = _
        rw [hb, e2]; rfl) ?_
      (repeat ((conv=>whnf);first|refine ω0 ?_|refine ω1 ?_|refine ω2 ?_|refine ω3 ?_|refine ω4 rfl ?_|refine ω5 rfl ?_|refine ω6 ?_|refine ω7 ?_|refine ω8 ?_|refine ⟨rfl,?_⟩|refine ⟨trivial,?_⟩|refine ⟨⟨rfl,Nat.le_of_ble_eq_true rfl⟩,?_⟩|refine ⟨⟨by kernel_rfl,by kernel_rfl⟩,?_⟩|refine ⟨by decide,?_⟩|refine lit_true ?_|refine lit_false ?_))
      refine ret_tells rfl ?_
      rw [hk]
      exact AVle.refl _
end Go.Proofs.W

namespace Go.Proofs.W
open Go.Vl
set_option maxRecDepth 100000

theorem bne_no {a b : Int} (h : false = (a != b)) : a = b := by simpa using h.symm
theorem bne_yes {a b : Int} (h : true = (a != b)) : a ≠ b := by simpa using h.symm
def looked (i : Ins) (k : Nat) (x : Bool) (r : Nat) : AV := .ag [u16 i.code, u8 i.jt, u8 i.jf, u32 i.k, int k, boolA x, int r]
theorem fct_b0 {a b : Int} : (false = (a == b)) ↔ a ≠ b := by rw [eq_comm]; simp
theorem fct_b1 {a b : Int} : (true = (a == b)) ↔ a = b := by rw [eq_comm]; simp
theorem fct_n0 {a b : Int} : (false = (a != b)) ↔ a = b := by rw [eq_comm]; simp
theorem fct_n1 {a b : Int} : (true = (a != b)) ↔ a ≠ b := by rw [eq_comm]; simp
theorem fct_d0 {p : Prop} [Decidable p] : (false = decide p) ↔ ¬ p := by rw [eq_comm]; simp
theorem fct_d1 {p : Prop} [Decidable p] : (true = decide p) ↔ p := by rw [eq_comm]; simp
theorem code_spec (i : Ins) (k : Nat) (x : Bool) (r : Nat) : Tells Try.prog 110 [looked i k x r] (int (if k = 0 then 5 else 0)) := by
  refine tells_of_aw Try.func110 rfl rfl fun nx => ?_
  (repeat' ((repeat ((conv=>whnf);first|refine ω0 ?_|refine ω1 ?_|refine ω2 ?_|refine ω3 ?_|refine ω4 rfl ?_|refine ω5 rfl ?_|refine ω6 ?_|refine ω7 ?_|refine ω8 ?_|refine ⟨rfl,?_⟩|refine ⟨trivial,?_⟩|refine ⟨⟨rfl,Nat.le_of_ble_eq_true rfl⟩,?_⟩|refine ⟨⟨by kernel_rfl,by kernel_rfl⟩,?_⟩|refine ⟨by decide,?_⟩|refine lit_true ?_|refine lit_false ?_)); intro c h; cases c))
  all_goals
    (repeat ((conv=>whnf);first|refine ω0 ?_|refine ω1 ?_|refine ω2 ?_|refine ω3 ?_|refine ω4 rfl ?_|refine ω5 rfl ?_|refine ω6 ?_|refine ω7 ?_|refine ω8 ?_|refine ⟨rfl,?_⟩|refine ⟨trivial,?_⟩|refine ⟨⟨rfl,Nat.le_of_ble_eq_true rfl⟩,?_⟩|refine ⟨⟨by kernel_rfl,by kernel_rfl⟩,?_⟩|refine ⟨by decide,?_⟩|refine lit_true ?_|refine lit_false ?_))
    refine ret_tells rfl (le_int ?_)
    (try simp only [fct_b0, fct_b1, fct_d0, fct_d1, fct_n0, fct_n1] at *)
    split <;> omega
theorem load_spec (i : Ins) (k : Nat) (x : Bool) (r : Nat) : Tells Try.prog 111 [looked i k x r] (int (if k = 1 ∧ (i.k % 4 ≠ 0 ∨ 64 ≤ i.k) then 6 else 0)) := by
  refine tells_of_aw Try.func111 rfl rfl fun nx => ?_
  (repeat' ((repeat ((conv=>whnf);first|refine ω0 ?_|refine ω1 ?_|refine ω2 ?_|refine ω3 ?_|refine ω4 rfl ?_|refine ω5 rfl ?_|refine ω6 ?_|refine ω7 ?_|refine ω8 ?_|refine ⟨rfl,?_⟩|refine ⟨trivial,?_⟩|refine ⟨⟨rfl,Nat.le_of_ble_eq_true rfl⟩,?_⟩|refine ⟨⟨by kernel_rfl,by kernel_rfl⟩,?_⟩|refine ⟨by decide,?_⟩|refine lit_true ?_|refine lit_false ?_)); intro c h; cases c))
  all_goals
    (repeat ((conv=>whnf);first|refine ω0 ?_|refine ω1 ?_|refine ω2 ?_|refine ω3 ?_|refine ω4 rfl ?_|refine ω5 rfl ?_|refine ω6 ?_|refine ω7 ?_|refine ω8 ?_|refine ⟨rfl,?_⟩|refine ⟨trivial,?_⟩|refine ⟨⟨rfl,Nat.le_of_ble_eq_true rfl⟩,?_⟩|refine ⟨⟨by kernel_rfl,by kernel_rfl⟩,?_⟩|refine ⟨by decide,?_⟩|refine lit_true ?_|refine lit_false ?_))
    refine ret_tells rfl (le_int ?_)
    try rw [show (i.k : Int).tmod 4 = ((i.k % 4 : Nat) : Int) from rfl] at *
    (try simp only [fct_b0, fct_b1, fct_d0, fct_d1, fct_n0, fct_n1] at *)
    split <;> omega
theorem cells_spec (k : Nat) : Tells Try.prog 122 [int k] (boolA (decide (k = 3 ∨ k = 6 ∨ k = 8 ∨ k = 9))) := by
  refine tells_of_aw Try.func122 rfl rfl fun nx => ?_
  (repeat' ((repeat ((conv=>whnf);first|refine ω0 ?_|refine ω1 ?_|refine ω2 ?_|refine ω3 ?_|refine ω4 rfl ?_|refine ω5 rfl ?_|refine ω6 ?_|refine ω7 ?_|refine ω8 ?_|refine ⟨rfl,?_⟩|refine ⟨trivial,?_⟩|refine ⟨⟨rfl,Nat.le_of_ble_eq_true rfl⟩,?_⟩|refine ⟨⟨by kernel_rfl,by kernel_rfl⟩,?_⟩|refine ⟨by decide,?_⟩|refine lit_true ?_|refine lit_false ?_)); intro c h; cases c))
  all_goals
    (repeat ((conv=>whnf);first|refine ω0 ?_|refine ω1 ?_|refine ω2 ?_|refine ω3 ?_|refine ω4 rfl ?_|refine ω5 rfl ?_|refine ω6 ?_|refine ω7 ?_|refine ω8 ?_|refine ⟨rfl,?_⟩|refine ⟨trivial,?_⟩|refine ⟨⟨rfl,Nat.le_of_ble_eq_true rfl⟩,?_⟩|refine ⟨⟨by kernel_rfl,by kernel_rfl⟩,?_⟩|refine ⟨by decide,?_⟩|refine lit_true ?_|refine lit_false ?_))
    refine ret_tells rfl (le_bool ?_)
    (try simp only [fct_b0, fct_b1, fct_d0, fct_d1, fct_n0, fct_n1] at *)
    omega
theorem cell_spec (i : Ins) (k : Nat) (x : Bool) (r : Nat) : Tells Try.prog 112 [looked i k x r] (int (if (k = 3 ∨ k = 6 ∨ k = 8 ∨ k = 9) ∧ 16 ≤ i.k then 7 else 0)) := by
  refine tells_of_aw Try.func112 rfl rfl fun nx => ?_
  (repeat ((conv=>whnf);first|refine ω0 ?_|refine ω1 ?_|refine ω2 ?_|refine ω3 ?_|refine ω4 rfl ?_|refine ω5 rfl ?_|refine ω6 ?_|refine ω7 ?_|refine ω8 ?_|refine ⟨rfl,?_⟩|refine ⟨trivial,?_⟩|refine ⟨⟨rfl,Nat.le_of_ble_eq_true rfl⟩,?_⟩|refine ⟨⟨by kernel_rfl,by kernel_rfl⟩,?_⟩|refine ⟨by decide,?_⟩|refine lit_true ?_|refine lit_false ?_))
  refine aop_tells rfl rfl (cells_spec k) ⟨AVle.refl _, trivial⟩ fun nx => ?_
  (repeat' ((repeat ((conv=>whnf);first|refine ω0 ?_|refine ω1 ?_|refine ω2 ?_|refine ω3 ?_|refine ω4 rfl ?_|refine ω5 rfl ?_|refine ω6 ?_|refine ω7 ?_|refine ω8 ?_|refine ⟨rfl,?_⟩|refine ⟨trivial,?_⟩|refine ⟨⟨rfl,Nat.le_of_ble_eq_true rfl⟩,?_⟩|refine ⟨⟨by kernel_rfl,by kernel_rfl⟩,?_⟩|refine ⟨by decide,?_⟩|refine lit_true ?_|refine lit_false ?_)); intro c h; cases c))
  all_goals
    (repeat ((conv=>whnf);first|refine ω0 ?_|refine ω1 ?_|refine ω2 ?_|refine ω3 ?_|refine ω4 rfl ?_|refine ω5 rfl ?_|refine ω6 ?_|refine ω7 ?_|refine ω8 ?_|refine ⟨rfl,?_⟩|refine ⟨trivial,?_⟩|refine ⟨⟨rfl,Nat.le_of_ble_eq_true rfl⟩,?_⟩|refine ⟨⟨by kernel_rfl,by kernel_rfl⟩,?_⟩|refine ⟨by decide,?_⟩|refine lit_true ?_|refine lit_false ?_))
    refine ret_tells rfl (le_int ?_)
    (try simp only [fct_b0, fct_b1, fct_d0, fct_d1, fct_n0, fct_n1] at *)
    split <;> omega
theorem number_spec (i : Ins) (k : Nat) (x : Bool) (r : Nat) : Tells Try.prog 113 [looked i k x r]
    (int (if x = false ∧ k = 19 ∧ i.k = 0 then 8 else if x = false ∧ (k = 22 ∨ k = 23) ∧ 31 < i.k then 9 else 0)) := by
  refine tells_of_aw Try.func113 rfl rfl fun nx => ?_
  cases x
  all_goals
    (repeat' ((repeat ((conv=>whnf);first|refine ω0 ?_|refine ω1 ?_|refine ω2 ?_|refine ω3 ?_|refine ω4 rfl ?_|refine ω5 rfl ?_|refine ω6 ?_|refine ω7 ?_|refine ω8 ?_|refine ⟨rfl,?_⟩|refine ⟨trivial,?_⟩|refine ⟨⟨rfl,Nat.le_of_ble_eq_true rfl⟩,?_⟩|refine ⟨⟨by kernel_rfl,by kernel_rfl⟩,?_⟩|refine ⟨by decide,?_⟩|refine lit_true ?_|refine lit_false ?_)); intro c h; cases c))
    all_goals
      (repeat ((conv=>whnf);first|refine ω0 ?_|refine ω1 ?_|refine ω2 ?_|refine ω3 ?_|refine ω4 rfl ?_|refine ω5 rfl ?_|refine ω6 ?_|refine ω7 ?_|refine ω8 ?_|refine ⟨rfl,?_⟩|refine ⟨trivial,?_⟩|refine ⟨⟨rfl,Nat.le_of_ble_eq_true rfl⟩,?_⟩|refine ⟨⟨by kernel_rfl,by kernel_rfl⟩,?_⟩|refine ⟨by decide,?_⟩|refine lit_true ?_|refine lit_false ?_))
      refine ret_tells rfl (le_int ?_)
      (try simp only [fct_b0, fct_b1, fct_d0, fct_d1, fct_n0, fct_n1] at *)
      simp
      try omega
theorem jump_spec (i : Ins) (hi : i.ok) (k : Nat) (x : Bool) (r : Nat) : Tells Try.prog 114 [looked i k x r]
    (int (if (k = 13 ∧ r ≤ i.k) ∨ (25 ≤ k ∧ (r ≤ i.jt ∨ r ≤ i.jf)) then 10 else 0)) := by
  obtain ⟨h1, h2, h3, h4⟩ := hi
  have w1 : IntKind.i64.wrap (i.k : Int) = i.k := wrap_id (by omega) (by omega)
  have w2 : IntKind.i64.wrap (if (i.jf : Int) > i.jt then (i.jf : Int) else i.jt) = ((max i.jt i.jf : Nat) : Int) := by
    split
    · rw [wrap_id (by omega) (by omega)]; omega
    · rw [wrap_id (by omega) (by omega)]; omega
  refine tells_of_aw Try.func114 rfl rfl fun nx => ?_
  (repeat' ((repeat ((conv=>whnf);first|refine ω0 ?_|refine ω1 ?_|refine ω2 ?_|refine ω3 ?_|refine ω4 rfl ?_|refine ω5 rfl ?_|refine ω6 ?_|refine ω7 ?_|refine ω8 ?_|refine ⟨rfl,?_⟩|refine ⟨trivial,?_⟩|refine ⟨⟨rfl,Nat.le_of_ble_eq_true rfl⟩,?_⟩|refine ⟨⟨by kernel_rfl,by kernel_rfl⟩,?_⟩|refine ⟨by decide,?_⟩|refine lit_true ?_|refine lit_false ?_)); intro c h; cases c))
  all_goals
    (repeat ((conv=>whnf);first|refine ω0 ?_|refine ω1 ?_|refine ω2 ?_|refine ω3 ?_|refine ω4 rfl ?_|refine ω5 rfl ?_|refine ω6 ?_|refine ω7 ?_|refine ω8 ?_|refine ⟨rfl,?_⟩|refine ⟨trivial,?_⟩|refine ⟨⟨rfl,Nat.le_of_ble_eq_true rfl⟩,?_⟩|refine ⟨⟨by kernel_rfl,by kernel_rfl⟩,?_⟩|refine ⟨by decide,?_⟩|refine lit_true ?_|refine lit_false ?_))
    refine ret_tells rfl (le_int ?_)
    (try simp only [fct_b0, fct_b1, fct_d0, fct_d1, fct_n0, fct_n1] at *)
    (try rw [w1] at *)
    (try rw [w2] at *)
    split <;> omega
def fnsA (L : AV) : List AV := [.fn (.func 110) [L] [], .fn (.func 111) [L] [], .fn (.func 112) [L] [], .fn (.func 113) [L] [], .fn (.func 114) [L] []]
theorem wrong_spec (i : Ins) (hi : i.ok) (r : Nat) : Tells Try.prog 80 [looked i (kof i.code).1 (kof i.code).2 r] (int (wrongI i r)) := by
  have hk := kof_le i.code
  generalize hw : wrongI i r = w
  unfold wrongI at hw
  generalize kof i.code = kk at *
  obtain ⟨k, x⟩ := kk
  dsimp only at hw hk ⊢
  generalize he1 : (if k = 0 then 5 else 0 : Int) = e1
  generalize he2 : (if k = 1 ∧ (i.k % 4 ≠ 0 ∨ 64 ≤ i.k) then 6 else 0 : Int) = e2
  generalize he3 : (if (k = 3 ∨ k = 6 ∨ k = 8 ∨ k = 9) ∧ 16 ≤ i.k then 7 else 0 : Int) = e3
  generalize he4 : (if x = false ∧ k = 19 ∧ i.k = 0 then 8 else if x = false ∧ (k = 22 ∨ k = 23) ∧ 31 < i.k then 9 else 0 : Int) = e4
  generalize he5 : (if (k = 13 ∧ r ≤ i.k) ∨ (25 ≤ k ∧ (r ≤ i.jt ∨ r ≤ i.jf)) then 10 else 0 : Int) = e5
  have s1 := code_spec i k x r
  have s2 := load_spec i k x r
  have s3 := cell_spec i k x r
  have s4 := number_spec i k x r
  have s5 := jump_spec i hi k x r
  rw [he1] at s1; rw [he2] at s2; rw [he3] at s3; rw [he4] at s4; rw [he5] at s5
  have hw' : (w : Int) = if e1 ≠ 0 then e1 else if e2 ≠ 0 then e2 else if e3 ≠ 0 then e3 else if e4 ≠ 0 then e4 else e5 := by
    subst hw he1 he2 he3 he4 he5
    clear s1 s2 s3 s4 s5
    repeat' split
    all_goals first | rfl | omega
  clear hw he1 he2 he3 he4 he5
  refine tells_of_aw Try.func80 rfl rfl fun nx => ?_
  (repeat ((conv=>whnf);first|refine ω0 ?_|refine ω1 ?_|refine ω2 ?_|refine ω3 ?_|refine ω4 rfl ?_|refine ω5 rfl ?_|refine ω6 ?_|refine ω7 ?_|refine ω8 ?_|refine ⟨rfl,?_⟩|refine ⟨trivial,?_⟩|refine ⟨⟨rfl,Nat.le_of_ble_eq_true rfl⟩,?_⟩|refine ⟨⟨by kernel_rfl,by kernel_rfl⟩,?_⟩|refine ⟨by decide,?_⟩|refine lit_true ?_|refine lit_false ?_))
  refine aw_loop (fun s : Nat × Nat => mk 28 [(16, .sl 1 5 (rowF (fnsA (looked i k x r)))), (17, int 5), (18, int s.1)] ⟨[], [], s.2, 0⟩)
    (fun s => s.1 ≤ 5 ∧ (0 < s.1 → e1 = 0) ∧ (1 < s.1 → e2 = 0) ∧ (2 < s.1 → e3 = 0) ∧ (3 < s.1 → e4 = 0) ∧ (4 < s.1 → e5 = 0)) (fun s => 5 - s.1) ?_ ?_
  · refine ⟨(0, _), ⟨by omega, by simp, by simp, by simp, by simp, by simp⟩, ele_keep rfl rfl (.cons _ .slnil) .slnil ⟨?_, AVle.refl _, AVle.refl _, trivial⟩⟩
    exact le_rowF ⟨⟨⟨⟨⟨trivial, rfl⟩, rfl⟩, rfl⟩, rfl⟩, rfl⟩
  · rintro ⟨j, nx'⟩ ⟨h1, h2, h3, h4, h5, h6⟩
    dsimp only at h1 h2 h3 h4 h5 h6
    rcases j with _ | _ | _ | _ | _ | _ | j
    · (repeat ((conv=>whnf);first|refine ω0 ?_|refine ω1 ?_|refine ω2 ?_|refine ω3 ?_|refine ω4 rfl ?_|refine ω5 rfl ?_|refine ω6 ?_|refine ω7 ?_|refine ω8 ?_|refine ⟨rfl,?_⟩|refine ⟨trivial,?_⟩|refine ⟨⟨rfl,Nat.le_of_ble_eq_true rfl⟩,?_⟩|refine ⟨⟨by kernel_rfl,by kernel_rfl⟩,?_⟩|refine ⟨by decide,?_⟩|refine lit_true ?_|refine lit_false ?_))
      refine ⟨⟨by dsimp only; omega, by dsimp only; omega⟩, ?_⟩
      (repeat ((conv=>whnf);first|refine ω0 ?_|refine ω1 ?_|refine ω2 ?_|refine ω3 ?_|refine ω4 rfl ?_|refine ω5 rfl ?_|refine ω6 ?_|refine ω7 ?_|refine ω8 ?_|refine ⟨rfl,?_⟩|refine ⟨trivial,?_⟩|refine ⟨⟨rfl,Nat.le_of_ble_eq_true rfl⟩,?_⟩|refine ⟨⟨by kernel_rfl,by kernel_rfl⟩,?_⟩|refine ⟨by decide,?_⟩|refine lit_true ?_|refine lit_false ?_))
      refine aop_tells rfl rfl s1 ⟨AVle.refl _, trivial⟩ fun nx => ?_
      (repeat ((conv=>whnf);first|refine ω0 ?_|refine ω1 ?_|refine ω2 ?_|refine ω3 ?_|refine ω4 rfl ?_|refine ω5 rfl ?_|refine ω6 ?_|refine ω7 ?_|refine ω8 ?_|refine ⟨rfl,?_⟩|refine ⟨trivial,?_⟩|refine ⟨⟨rfl,Nat.le_of_ble_eq_true rfl⟩,?_⟩|refine ⟨⟨by kernel_rfl,by kernel_rfl⟩,?_⟩|refine ⟨by decide,?_⟩|refine lit_true ?_|refine lit_false ?_))
      intro c h; cases c
      · have h0 := bne_no h
        (repeat ((conv=>whnf);first|refine ω0 ?_|refine ω1 ?_|refine ω2 ?_|refine ω3 ?_|refine ω4 rfl ?_|refine ω5 rfl ?_|refine ω6 ?_|refine ω7 ?_|refine ω8 ?_|refine ⟨rfl,?_⟩|refine ⟨trivial,?_⟩|refine ⟨⟨rfl,Nat.le_of_ble_eq_true rfl⟩,?_⟩|refine ⟨⟨by kernel_rfl,by kernel_rfl⟩,?_⟩|refine ⟨by decide,?_⟩|refine lit_true ?_|refine lit_false ?_))
        refine back (1, _) ⟨by dsimp only; omega, fun _ => h0, fun h => absurd h (by dsimp only; omega), fun h => absurd h (by dsimp only; omega), fun h => absurd h (by dsimp only; omega), fun h => absurd h (by dsimp only; omega)⟩ (by dsimp only; omega) (ele_keep rfl rfl .slnil .slnil ⟨AVle.refl _, AVle.refl _, AVle.refl _, trivial⟩)
      · have h0 := bne_yes h
        (repeat ((conv=>whnf);first|refine ω0 ?_|refine ω1 ?_|refine ω2 ?_|refine ω3 ?_|refine ω4 rfl ?_|refine ω5 rfl ?_|refine ω6 ?_|refine ω7 ?_|refine ω8 ?_|refine ⟨rfl,?_⟩|refine ⟨trivial,?_⟩|refine ⟨⟨rfl,Nat.le_of_ble_eq_true rfl⟩,?_⟩|refine ⟨⟨by kernel_rfl,by kernel_rfl⟩,?_⟩|refine ⟨by decide,?_⟩|refine lit_true ?_|refine lit_false ?_))
        refine ret_tells rfl (le_int ?_)
        rw [hw', if_pos h0]
    · (repeat ((conv=>whnf);first|refine ω0 ?_|refine ω1 ?_|refine ω2 ?_|refine ω3 ?_|refine ω4 rfl ?_|refine ω5 rfl ?_|refine ω6 ?_|refine ω7 ?_|refine ω8 ?_|refine ⟨rfl,?_⟩|refine ⟨trivial,?_⟩|refine ⟨⟨rfl,Nat.le_of_ble_eq_true rfl⟩,?_⟩|refine ⟨⟨by kernel_rfl,by kernel_rfl⟩,?_⟩|refine ⟨by decide,?_⟩|refine lit_true ?_|refine lit_false ?_))
      refine ⟨⟨by dsimp only; omega, by dsimp only; omega⟩, ?_⟩
      (repeat ((conv=>whnf);first|refine ω0 ?_|refine ω1 ?_|refine ω2 ?_|refine ω3 ?_|refine ω4 rfl ?_|refine ω5 rfl ?_|refine ω6 ?_|refine ω7 ?_|refine ω8 ?_|refine ⟨rfl,?_⟩|refine ⟨trivial,?_⟩|refine ⟨⟨rfl,Nat.le_of_ble_eq_true rfl⟩,?_⟩|refine ⟨⟨by kernel_rfl,by kernel_rfl⟩,?_⟩|refine ⟨by decide,?_⟩|refine lit_true ?_|refine lit_false ?_))
      refine aop_tells rfl rfl s2 ⟨AVle.refl _, trivial⟩ fun nx => ?_
      (repeat ((conv=>whnf);first|refine ω0 ?_|refine ω1 ?_|refine ω2 ?_|refine ω3 ?_|refine ω4 rfl ?_|refine ω5 rfl ?_|refine ω6 ?_|refine ω7 ?_|refine ω8 ?_|refine ⟨rfl,?_⟩|refine ⟨trivial,?_⟩|refine ⟨⟨rfl,Nat.le_of_ble_eq_true rfl⟩,?_⟩|refine ⟨⟨by kernel_rfl,by kernel_rfl⟩,?_⟩|refine ⟨by decide,?_⟩|refine lit_true ?_|refine lit_false ?_))
      intro c h; cases c
      · have h0 := bne_no h
        (repeat ((conv=>whnf);first|refine ω0 ?_|refine ω1 ?_|refine ω2 ?_|refine ω3 ?_|refine ω4 rfl ?_|refine ω5 rfl ?_|refine ω6 ?_|refine ω7 ?_|refine ω8 ?_|refine ⟨rfl,?_⟩|refine ⟨trivial,?_⟩|refine ⟨⟨rfl,Nat.le_of_ble_eq_true rfl⟩,?_⟩|refine ⟨⟨by kernel_rfl,by kernel_rfl⟩,?_⟩|refine ⟨by decide,?_⟩|refine lit_true ?_|refine lit_false ?_))
        refine back (2, _) ⟨by dsimp only; omega, fun _ => h2 (by omega), fun _ => h0, fun h => absurd h (by dsimp only; omega), fun h => absurd h (by dsimp only; omega), fun h => absurd h (by dsimp only; omega)⟩ (by dsimp only; omega) (ele_keep rfl rfl .slnil .slnil ⟨AVle.refl _, AVle.refl _, AVle.refl _, trivial⟩)
      · have h0 := bne_yes h
        (repeat ((conv=>whnf);first|refine ω0 ?_|refine ω1 ?_|refine ω2 ?_|refine ω3 ?_|refine ω4 rfl ?_|refine ω5 rfl ?_|refine ω6 ?_|refine ω7 ?_|refine ω8 ?_|refine ⟨rfl,?_⟩|refine ⟨trivial,?_⟩|refine ⟨⟨rfl,Nat.le_of_ble_eq_true rfl⟩,?_⟩|refine ⟨⟨by kernel_rfl,by kernel_rfl⟩,?_⟩|refine ⟨by decide,?_⟩|refine lit_true ?_|refine lit_false ?_))
        refine ret_tells rfl (le_int ?_)
        rw [hw', if_neg (by simp [h2 (by omega)]), if_pos h0]
    · (repeat ((conv=>whnf);first|refine ω0 ?_|refine ω1 ?_|refine ω2 ?_|refine ω3 ?_|refine ω4 rfl ?_|refine ω5 rfl ?_|refine ω6 ?_|refine ω7 ?_|refine ω8 ?_|refine ⟨rfl,?_⟩|refine ⟨trivial,?_⟩|refine ⟨⟨rfl,Nat.le_of_ble_eq_true rfl⟩,?_⟩|refine ⟨⟨by kernel_rfl,by kernel_rfl⟩,?_⟩|refine ⟨by decide,?_⟩|refine lit_true ?_|refine lit_false ?_))
      refine ⟨⟨by dsimp only; omega, by dsimp only; omega⟩, ?_⟩
      (repeat ((conv=>whnf);first|refine ω0 ?_|refine ω1 ?_|refine ω2 ?_|refine ω3 ?_|refine ω4 rfl ?_|refine ω5 rfl ?_|refine ω6 ?_|refine ω7 ?_|refine ω8 ?_|refine ⟨rfl,?_⟩|refine ⟨trivial,?_⟩|refine ⟨⟨rfl,Nat.le_of_ble_eq_true rfl⟩,?_⟩|refine ⟨⟨by kernel_rfl,by kernel_rfl⟩,?_⟩|refine ⟨by decide,?_⟩|refine lit_true ?_|refine lit_false ?_))
      refine aop_tells rfl rfl s3 ⟨AVle.refl _, trivial⟩ fun nx => ?_
      (repeat ((conv=>whnf);first|refine ω0 ?_|refine ω1 ?_|refine ω2 ?_|refine ω3 ?_|refine ω4 rfl ?_|refine ω5 rfl ?_|refine ω6 ?_|refine ω7 ?_|refine ω8 ?_|refine ⟨rfl,?_⟩|refine ⟨trivial,?_⟩|refine ⟨⟨rfl,Nat.le_of_ble_eq_true rfl⟩,?_⟩|refine ⟨⟨by kernel_rfl,by kernel_rfl⟩,?_⟩|refine ⟨by decide,?_⟩|refine lit_true ?_|refine lit_false ?_))
      intro c h; cases c
      · have h0 := bne_no h
        (repeat ((conv=>whnf);first|refine ω0 ?_|refine ω1 ?_|refine ω2 ?_|refine ω3 ?_|refine ω4 rfl ?_|refine ω5 rfl ?_|refine ω6 ?_|refine ω7 ?_|refine ω8 ?_|refine ⟨rfl,?_⟩|refine ⟨trivial,?_⟩|refine ⟨⟨rfl,Nat.le_of_ble_eq_true rfl⟩,?_⟩|refine ⟨⟨by kernel_rfl,by kernel_rfl⟩,?_⟩|refine ⟨by decide,?_⟩|refine lit_true ?_|refine lit_false ?_))
        refine back (3, _) ⟨by dsimp only; omega, fun _ => h2 (by omega), fun _ => h3 (by omega), fun _ => h0, fun h => absurd h (by dsimp only; omega), fun h => absurd h (by dsimp only; omega)⟩ (by dsimp only; omega) (ele_keep rfl rfl .slnil .slnil ⟨AVle.refl _, AVle.refl _, AVle.refl _, trivial⟩)
      · have h0 := bne_yes h
        (repeat ((conv=>whnf);first|refine ω0 ?_|refine ω1 ?_|refine ω2 ?_|refine ω3 ?_|refine ω4 rfl ?_|refine ω5 rfl ?_|refine ω6 ?_|refine ω7 ?_|refine ω8 ?_|refine ⟨rfl,?_⟩|refine ⟨trivial,?_⟩|refine ⟨⟨rfl,Nat.le_of_ble_eq_true rfl⟩,?_⟩|refine ⟨⟨by kernel_rfl,by kernel_rfl⟩,?_⟩|refine ⟨by decide,?_⟩|refine lit_true ?_|refine lit_false ?_))
        refine ret_tells rfl (le_int ?_)
        rw [hw', if_neg (by simp [h2 (by omega)]), if_neg (by simp [h3 (by omega)]), if_pos h0]
    · (repeat ((conv=>whnf);first|refine ω0 ?_|refine ω1 ?_|refine ω2 ?_|refine ω3 ?_|refine ω4 rfl ?_|refine ω5 rfl ?_|refine ω6 ?_|refine ω7 ?_|refine ω8 ?_|refine ⟨rfl,?_⟩|refine ⟨trivial,?_⟩|refine ⟨⟨rfl,Nat.le_of_ble_eq_true rfl⟩,?_⟩|refine ⟨⟨by kernel_rfl,by kernel_rfl⟩,?_⟩|refine ⟨by decide,?_⟩|refine lit_true ?_|refine lit_false ?_))
      refine ⟨⟨by dsimp only; omega, by dsimp only; omega⟩, ?_⟩
      (repeat ((conv=>whnf);first|refine ω0 ?_|refine ω1 ?_|refine ω2 ?_|refine ω3 ?_|refine ω4 rfl ?_|refine ω5 rfl ?_|refine ω6 ?_|refine ω7 ?_|refine ω8 ?_|refine ⟨rfl,?_⟩|refine ⟨trivial,?_⟩|refine ⟨⟨rfl,Nat.le_of_ble_eq_true rfl⟩,?_⟩|refine ⟨⟨by kernel_rfl,by kernel_rfl⟩,?_⟩|refine ⟨by decide,?_⟩|refine lit_true ?_|refine lit_false ?_))
      refine aop_tells rfl rfl s4 ⟨AVle.refl _, trivial⟩ fun nx => ?_
      (repeat ((conv=>whnf);first|refine ω0 ?_|refine ω1 ?_|refine ω2 ?_|refine ω3 ?_|refine ω4 rfl ?_|refine ω5 rfl ?_|refine ω6 ?_|refine ω7 ?_|refine ω8 ?_|refine ⟨rfl,?_⟩|refine ⟨trivial,?_⟩|refine ⟨⟨rfl,Nat.le_of_ble_eq_true rfl⟩,?_⟩|refine ⟨⟨by kernel_rfl,by kernel_rfl⟩,?_⟩|refine ⟨by decide,?_⟩|refine lit_true ?_|refine lit_false ?_))
      intro c h; cases c
      · have h0 := bne_no h
        (repeat ((conv=>whnf);first|refine ω0 ?_|refine ω1 ?_|refine ω2 ?_|refine ω3 ?_|refine ω4 rfl ?_|refine ω5 rfl ?_|refine ω6 ?_|refine ω7 ?_|refine ω8 ?_|refine ⟨rfl,?_⟩|refine ⟨trivial,?_⟩|refine ⟨⟨rfl,Nat.le_of_ble_eq_true rfl⟩,?_⟩|refine ⟨⟨by kernel_rfl,by kernel_rfl⟩,?_⟩|refine ⟨by decide,?_⟩|refine lit_true ?_|refine lit_false ?_))
        refine back (4, _) ⟨by dsimp only; omega, fun _ => h2 (by omega), fun _ => h3 (by omega), fun _ => h4 (by omega), fun _ => h0, fun h => absurd h (by dsimp only; omega)⟩ (by dsimp only; omega) (ele_keep rfl rfl .slnil .slnil ⟨AVle.refl _, AVle.refl _, AVle.refl _, trivial⟩)
      · have h0 := bne_yes h
        (repeat ((conv=>whnf);first|refine ω0 ?_|refine ω1 ?_|refine ω2 ?_|refine ω3 ?_|refine ω4 rfl ?_|refine ω5 rfl ?_|refine ω6 ?_|refine ω7 ?_|refine ω8 ?_|refine ⟨rfl,?_⟩|refine ⟨trivial,?_⟩|refine ⟨⟨rfl,Nat.le_of_ble_eq_true rfl⟩,?_⟩|refine ⟨⟨by kernel_rfl,by kernel_rfl⟩,?_⟩|refine ⟨by decide,?_⟩|refine lit_true ?_|refine lit_false ?_))
        refine ret_tells rfl (le_int ?_)
        rw [hw', if_neg (by simp [h2 (by omega)]), if_neg (by simp [h3 (by omega)]), if_neg (by simp [h4 (by omega)]), if_pos h0]
    · (repeat ((conv=>whnf);first|refine ω0 ?_|refine ω1 ?_|refine ω2 ?_|refine ω3 ?_|refine ω4 rfl ?_|refine ω5 rfl ?_|refine ω6 ?_|refine ω7 ?_|refine ω8 ?_|refine ⟨rfl,?_⟩|refine ⟨trivial,?_⟩|refine ⟨⟨rfl,Nat.le_of_ble_eq_true rfl⟩,?_⟩|refine ⟨⟨by kernel_rfl,by kernel_rfl⟩,?_⟩|refine ⟨by decide,?_⟩|refine lit_true ?_|refine lit_false ?_))
      refine ⟨⟨by dsimp only; omega, by dsimp only; omega⟩, ?_⟩
      (repeat ((conv=>whnf);first|refine ω0 ?_|refine ω1 ?_|refine ω2 ?_|refine ω3 ?_|refine ω4 rfl ?_|refine ω5 rfl ?_|refine ω6 ?_|refine ω7 ?_|refine ω8 ?_|refine ⟨rfl,?_⟩|refine ⟨trivial,?_⟩|refine ⟨⟨rfl,Nat.le_of_ble_eq_true rfl⟩,?_⟩|refine ⟨⟨by kernel_rfl,by kernel_rfl⟩,?_⟩|refine ⟨by decide,?_⟩|refine lit_true ?_|refine lit_false ?_))
      refine aop_tells rfl rfl s5 ⟨AVle.refl _, trivial⟩ fun nx => ?_
      (repeat ((conv=>whnf);first|refine ω0 ?_|refine ω1 ?_|refine ω2 ?_|refine ω3 ?_|refine ω4 rfl ?_|refine ω5 rfl ?_|refine ω6 ?_|refine ω7 ?_|refine ω8 ?_|refine ⟨rfl,?_⟩|refine ⟨trivial,?_⟩|refine ⟨⟨rfl,Nat.le_of_ble_eq_true rfl⟩,?_⟩|refine ⟨⟨by kernel_rfl,by kernel_rfl⟩,?_⟩|refine ⟨by decide,?_⟩|refine lit_true ?_|refine lit_false ?_))
      intro c h; cases c
      · have h0 := bne_no h
        (repeat ((conv=>whnf);first|refine ω0 ?_|refine ω1 ?_|refine ω2 ?_|refine ω3 ?_|refine ω4 rfl ?_|refine ω5 rfl ?_|refine ω6 ?_|refine ω7 ?_|refine ω8 ?_|refine ⟨rfl,?_⟩|refine ⟨trivial,?_⟩|refine ⟨⟨rfl,Nat.le_of_ble_eq_true rfl⟩,?_⟩|refine ⟨⟨by kernel_rfl,by kernel_rfl⟩,?_⟩|refine ⟨by decide,?_⟩|refine lit_true ?_|refine lit_false ?_))
        refine back (5, _) ⟨by dsimp only; omega, fun _ => h2 (by omega), fun _ => h3 (by omega), fun _ => h4 (by omega), fun _ => h5 (by omega), fun _ => h0⟩ (by dsimp only; omega) (ele_keep rfl rfl .slnil .slnil ⟨AVle.refl _, AVle.refl _, AVle.refl _, trivial⟩)
      · have h0 := bne_yes h
        (repeat ((conv=>whnf);first|refine ω0 ?_|refine ω1 ?_|refine ω2 ?_|refine ω3 ?_|refine ω4 rfl ?_|refine ω5 rfl ?_|refine ω6 ?_|refine ω7 ?_|refine ω8 ?_|refine ⟨rfl,?_⟩|refine ⟨trivial,?_⟩|refine ⟨⟨rfl,Nat.le_of_ble_eq_true rfl⟩,?_⟩|refine ⟨⟨by kernel_rfl,by kernel_rfl⟩,?_⟩|refine ⟨by decide,?_⟩|refine lit_true ?_|refine lit_false ?_))
        refine ret_tells rfl (le_int ?_)
        rw [hw', if_neg (by simp [h2 (by omega)]), if_neg (by simp [h3 (by omega)]), if_neg (by simp [h4 (by omega)]), if_neg (by simp [h5 (by omega)])]
    · (repeat ((conv=>whnf);first|refine ω0 ?_|refine ω1 ?_|refine ω2 ?_|refine ω3 ?_|refine ω4 rfl ?_|refine ω5 rfl ?_|refine ω6 ?_|refine ω7 ?_|refine ω8 ?_|refine ⟨rfl,?_⟩|refine ⟨trivial,?_⟩|refine ⟨⟨rfl,Nat.le_of_ble_eq_true rfl⟩,?_⟩|refine ⟨⟨by kernel_rfl,by kernel_rfl⟩,?_⟩|refine ⟨by decide,?_⟩|refine lit_true ?_|refine lit_false ?_))
      refine ret_tells rfl (le_int ?_)
      rw [hw', if_neg (by simp [h2 (by omega)]), if_neg (by simp [h3 (by omega)]), if_neg (by simp [h4 (by omega)]), if_neg (by simp [h5 (by omega)]), h6 (by omega)]
    · omega
end Go.Proofs.W

namespace Go.Proofs.W
open Go.Vl
set_option maxRecDepth 100000

def okL (l : List Ins) : Prop := ∀ i ∈ l, i.ok
theorem okL.get {l : List Ins} (h : okL l) {n : Nat} (hn : n < l.length) : (l.getD n ins0).ok := by
  have : l.getD n ins0 ∈ l := by simp [List.getD, hn]
  exact h _ this
theorem find_range_some {n i : Nat} {p : Nat → Bool} (hi : i < n) (h : p i = true) (hb : ∀ j, j < i → p j = false) : (List.range n).find? p = some i := by
  rw [List.find?_range_eq_some]
  exact ⟨h, by simpa using hi, by simpa using hb⟩
theorem find_range_none {n : Nat} {p : Nat → Bool} (hb : ∀ j, j < n → p j = false) : (List.range n).find? p = none := by
  rw [List.find?_range_eq_none]
  simpa using hb
theorem of_kind (c : Nat) (hc : c < 65536) : Tells Try.prog 55 [u16 c] (.tup [int (kof c).1, .any, .any]) := (of_spec c hc).le (AVle.tups (cs := [_, _, _]) ⟨AVle.refl _, AVle.any _, AVle.any _, trivial⟩)
theorem of_both (c : Nat) (hc : c < 65536) : Tells Try.prog 55 [u16 c] (.tup [int (kof c).1, boolA (kof c).2, .any]) := (of_spec c hc).le (AVle.tups (cs := [_, _, _]) ⟨AVle.refl _, AVle.refl _, AVle.any _, trivial⟩)
theorem formed_spec (l : List Ins) (hok : okL l) (hl : l.length ≤ 1000000000) : Tells Try.prog 53 [inss l] (.tup [int (formedI l).1, int (formedI l).2]) := by
  refine tells_of_aw Try.func53 rfl rfl fun nx => ?_
  (repeat ((conv=>whnf);first|refine ω0 ?_|refine ω1 ?_|refine ω2 ?_|refine ω3 ?_|refine ω4 rfl ?_|refine ω5 rfl ?_|refine ω6 ?_|refine ω7 ?_|refine ω8 ?_|refine ⟨rfl,?_⟩|refine ⟨trivial,?_⟩|refine ⟨⟨rfl,Nat.le_of_ble_eq_true rfl⟩,?_⟩|refine ⟨⟨by kernel_rfl,by kernel_rfl⟩,?_⟩|refine ⟨by decide,?_⟩|refine lit_true ?_|refine lit_false ?_))
  intro c g1; cases c
  · have h1 := not_of g1
    (repeat ((conv=>whnf);first|refine ω0 ?_|refine ω1 ?_|refine ω2 ?_|refine ω3 ?_|refine ω4 rfl ?_|refine ω5 rfl ?_|refine ω6 ?_|refine ω7 ?_|refine ω8 ?_|refine ⟨rfl,?_⟩|refine ⟨trivial,?_⟩|refine ⟨⟨rfl,Nat.le_of_ble_eq_true rfl⟩,?_⟩|refine ⟨⟨by kernel_rfl,by kernel_rfl⟩,?_⟩|refine ⟨by decide,?_⟩|refine lit_true ?_|refine lit_false ?_))
    intro c g2; cases c
    · have h2 := not_of g2
      (repeat ((conv=>whnf);first|refine ω0 ?_|refine ω1 ?_|refine ω2 ?_|refine ω3 ?_|refine ω4 rfl ?_|refine ω5 rfl ?_|refine ω6 ?_|refine ω7 ?_|refine ω8 ?_|refine ⟨rfl,?_⟩|refine ⟨trivial,?_⟩|refine ⟨⟨rfl,Nat.le_of_ble_eq_true rfl⟩,?_⟩|refine ⟨⟨by kernel_rfl,by kernel_rfl⟩,?_⟩|refine ⟨by decide,?_⟩|refine lit_true ?_|refine lit_false ?_))
      refine aw_loop (fun s : Nat × Nat => mk 71 [(0, inss l), (22, inss l), (23, int l.length), (24, int s.1)] ⟨[], [], s.2, 0⟩) (fun s => s.1 ≤ l.length ∧ ∀ j, j < s.1 → wrongI (l.getD j ins0) (l.length - 1 - j) = 0) (fun s => l.length - s.1) ?_ ?_
      · exact ⟨(0, nx), ⟨by omega, by intro j hj; omega⟩, ele_mk rfl rfl ⟨AVle.refl _, AVle.refl _, AVle.refl _, AVle.refl _, trivial⟩⟩
      · rintro ⟨i, nx'⟩ ⟨h3, h4⟩
        dsimp only at h3 h4
        (repeat ((conv=>whnf);first|refine ω0 ?_|refine ω1 ?_|refine ω2 ?_|refine ω3 ?_|refine ω4 rfl ?_|refine ω5 rfl ?_|refine ω6 ?_|refine ω7 ?_|refine ω8 ?_|refine ⟨rfl,?_⟩|refine ⟨trivial,?_⟩|refine ⟨⟨rfl,Nat.le_of_ble_eq_true rfl⟩,?_⟩|refine ⟨⟨by kernel_rfl,by kernel_rfl⟩,?_⟩|refine ⟨by decide,?_⟩|refine lit_true ?_|refine lit_false ?_))
        intro c g3; cases c
        · have h5 := not_of g3
          (repeat ((conv=>whnf);first|refine ω0 ?_|refine ω1 ?_|refine ω2 ?_|refine ω3 ?_|refine ω4 rfl ?_|refine ω5 rfl ?_|refine ω6 ?_|refine ω7 ?_|refine ω8 ?_|refine ⟨rfl,?_⟩|refine ⟨trivial,?_⟩|refine ⟨⟨rfl,Nat.le_of_ble_eq_true rfl⟩,?_⟩|refine ⟨⟨by kernel_rfl,by kernel_rfl⟩,?_⟩|refine ⟨by decide,?_⟩|refine lit_true ?_|refine lit_false ?_))
          have hw : IntKind.i64.wrap ((l.length : Int) - 1) = ((l.length - 1 : Nat) : Int) := by rw [wrap_id (by omega) (by omega)]; omega
          (conv => whnf)
          rw [hw]
          refine ⟨⟨by omega, by omega⟩, ?_⟩
          (repeat ((conv=>whnf);first|refine ω0 ?_|refine ω1 ?_|refine ω2 ?_|refine ω3 ?_|refine ω4 rfl ?_|refine ω5 rfl ?_|refine ω6 ?_|refine ω7 ?_|refine ω8 ?_|refine ⟨rfl,?_⟩|refine ⟨trivial,?_⟩|refine ⟨⟨rfl,Nat.le_of_ble_eq_true rfl⟩,?_⟩|refine ⟨⟨by kernel_rfl,by kernel_rfl⟩,?_⟩|refine ⟨by decide,?_⟩|refine lit_true ?_|refine lit_false ?_))
          have hlast : (Int.toNat ((l.length - 1 : Nat) : Int)) = l.length - 1 := by omega
          refine aop_tells rfl rfl (of_kind (l.getD (l.length - 1) ins0).code (hok.get (by omega)).1) ⟨AVle.refl _, trivial⟩ fun nx => ?_
          have hnone : (List.range l.length).find? (fun n => wrongI (l.getD n ins0) (l.length - 1 - n) != 0) = none := find_range_none fun j hj => by simpa using h4 j (by omega)
          (repeat ((conv=>whnf);first|refine ω0 ?_|refine ω1 ?_|refine ω2 ?_|refine ω3 ?_|refine ω4 rfl ?_|refine ω5 rfl ?_|refine ω6 ?_|refine ω7 ?_|refine ω8 ?_|refine ⟨rfl,?_⟩|refine ⟨trivial,?_⟩|refine ⟨⟨rfl,Nat.le_of_ble_eq_true rfl⟩,?_⟩|refine ⟨⟨by kernel_rfl,by kernel_rfl⟩,?_⟩|refine ⟨by decide,?_⟩|refine lit_true ?_|refine lit_false ?_))
          intro c g4; cases c
          · have h6 := bne_no g4
            (repeat ((conv=>whnf);first|refine ω0 ?_|refine ω1 ?_|refine ω2 ?_|refine ω3 ?_|refine ω4 rfl ?_|refine ω5 rfl ?_|refine ω6 ?_|refine ω7 ?_|refine ω8 ?_|refine ⟨rfl,?_⟩|refine ⟨trivial,?_⟩|refine ⟨⟨rfl,Nat.le_of_ble_eq_true rfl⟩,?_⟩|refine ⟨⟨by kernel_rfl,by kernel_rfl⟩,?_⟩|refine ⟨by decide,?_⟩|refine lit_true ?_|refine lit_false ?_))
            refine ret_tells rfl (AVle.of_eq ?_)
            have : formedI l = (0, 0) := by
              unfold formedI
              rw [if_neg (by omega), if_neg (by omega), hnone]
              dsimp only
              rw [if_pos (by omega)]
            rw [this]; rfl
          · have h6 := bne_yes g4
            (repeat ((conv=>whnf);first|refine ω0 ?_|refine ω1 ?_|refine ω2 ?_|refine ω3 ?_|refine ω4 rfl ?_|refine ω5 rfl ?_|refine ω6 ?_|refine ω7 ?_|refine ω8 ?_|refine ⟨rfl,?_⟩|refine ⟨trivial,?_⟩|refine ⟨⟨rfl,Nat.le_of_ble_eq_true rfl⟩,?_⟩|refine ⟨⟨by kernel_rfl,by kernel_rfl⟩,?_⟩|refine ⟨by decide,?_⟩|refine lit_true ?_|refine lit_false ?_))
            intro c g5; cases c
            · have h7 := bne_no g5
              (repeat ((conv=>whnf);first|refine ω0 ?_|refine ω1 ?_|refine ω2 ?_|refine ω3 ?_|refine ω4 rfl ?_|refine ω5 rfl ?_|refine ω6 ?_|refine ω7 ?_|refine ω8 ?_|refine ⟨rfl,?_⟩|refine ⟨trivial,?_⟩|refine ⟨⟨rfl,Nat.le_of_ble_eq_true rfl⟩,?_⟩|refine ⟨⟨by kernel_rfl,by kernel_rfl⟩,?_⟩|refine ⟨by decide,?_⟩|refine lit_true ?_|refine lit_false ?_))
              refine ret_tells rfl (AVle.of_eq ?_)
              have : formedI l = (0, 0) := by
                unfold formedI
                rw [if_neg (by omega), if_neg (by omega), hnone]
                dsimp only
                rw [if_pos (by omega)]
              rw [this]; rfl
            · have h7 := bne_yes g5
              (repeat ((conv=>whnf);first|refine ω0 ?_|refine ω1 ?_|refine ω2 ?_|refine ω3 ?_|refine ω4 rfl ?_|refine ω5 rfl ?_|refine ω6 ?_|refine ω7 ?_|refine ω8 ?_|refine ⟨rfl,?_⟩|refine ⟨trivial,?_⟩|refine ⟨⟨rfl,Nat.le_of_ble_eq_true rfl⟩,?_⟩|refine ⟨⟨by kernel_rfl,by kernel_rfl⟩,?_⟩|refine ⟨by decide,?_⟩|refine lit_true ?_|refine lit_false ?_))
              refine ret_tells rfl (AVle.of_eq ?_)
              have : formedI l = (l.length - 1, 11) := by
                unfold formedI
                rw [if_neg (by omega), if_neg (by omega), hnone]
                dsimp only
                rw [if_neg (by omega)]
              rw [this]; rfl
        · have h5 := yes_of g3
          dsimp only at h5
          have hi : i < l.length := by omega
          (repeat ((conv=>whnf);first|refine ω0 ?_|refine ω1 ?_|refine ω2 ?_|refine ω3 ?_|refine ω4 rfl ?_|refine ω5 rfl ?_|refine ω6 ?_|refine ω7 ?_|refine ω8 ?_|refine ⟨rfl,?_⟩|refine ⟨trivial,?_⟩|refine ⟨⟨rfl,Nat.le_of_ble_eq_true rfl⟩,?_⟩|refine ⟨⟨by kernel_rfl,by kernel_rfl⟩,?_⟩|refine ⟨by decide,?_⟩|refine lit_true ?_|refine lit_false ?_))
          refine ⟨⟨by dsimp only; omega, by dsimp only; omega⟩, ?_⟩
          (repeat ((conv=>whnf);first|refine ω0 ?_|refine ω1 ?_|refine ω2 ?_|refine ω3 ?_|refine ω4 rfl ?_|refine ω5 rfl ?_|refine ω6 ?_|refine ω7 ?_|refine ω8 ?_|refine ⟨rfl,?_⟩|refine ⟨trivial,?_⟩|refine ⟨⟨rfl,Nat.le_of_ble_eq_true rfl⟩,?_⟩|refine ⟨⟨by kernel_rfl,by kernel_rfl⟩,?_⟩|refine ⟨by decide,?_⟩|refine lit_true ?_|refine lit_false ?_))
          refine aop_tells rfl rfl (of_both (l.getD i ins0).code (hok.get hi).1) ⟨AVle.refl _, trivial⟩ fun nx => ?_
          have hsx := wrong_spec (l.getD i ins0) (hok.get hi) (l.length - 1 - i)
          generalize hx : (kof (l.getD i ins0).code).2 = x at hsx ⊢
          cases x
          all_goals
            (repeat ((conv=>whnf);first|refine ω0 ?_|refine ω1 ?_|refine ω2 ?_|refine ω3 ?_|refine ω4 rfl ?_|refine ω5 rfl ?_|refine ω6 ?_|refine ω7 ?_|refine ω8 ?_|refine ⟨rfl,?_⟩|refine ⟨trivial,?_⟩|refine ⟨⟨rfl,Nat.le_of_ble_eq_true rfl⟩,?_⟩|refine ⟨⟨by kernel_rfl,by kernel_rfl⟩,?_⟩|refine ⟨by decide,?_⟩|refine lit_true ?_|refine lit_false ?_))
            have hw : IntKind.i64.wrap (IntKind.i64.wrap ((l.length : Int) - 1) - (i : Int)) = ((l.length - 1 - i : Nat) : Int) := by
              rw [wrap_id (n := (l.length : Int) - 1) (by omega) (by omega), wrap_id (by omega) (by omega)]; omega
            refine aop_tells rfl rfl hsx ⟨AVle.of_eq ?_, trivial⟩ fun nx => ?_
            · unfold looked; rw [← hw]; rfl
            (repeat ((conv=>whnf);first|refine ω0 ?_|refine ω1 ?_|refine ω2 ?_|refine ω3 ?_|refine ω4 rfl ?_|refine ω5 rfl ?_|refine ω6 ?_|refine ω7 ?_|refine ω8 ?_|refine ⟨rfl,?_⟩|refine ⟨trivial,?_⟩|refine ⟨⟨rfl,Nat.le_of_ble_eq_true rfl⟩,?_⟩|refine ⟨⟨by kernel_rfl,by kernel_rfl⟩,?_⟩|refine ⟨by decide,?_⟩|refine lit_true ?_|refine lit_false ?_))
            intro c g4; cases c
            · have h6 := bne_no g4
              (repeat ((conv=>whnf);first|refine ω0 ?_|refine ω1 ?_|refine ω2 ?_|refine ω3 ?_|refine ω4 rfl ?_|refine ω5 rfl ?_|refine ω6 ?_|refine ω7 ?_|refine ω8 ?_|refine ⟨rfl,?_⟩|refine ⟨trivial,?_⟩|refine ⟨⟨rfl,Nat.le_of_ble_eq_true rfl⟩,?_⟩|refine ⟨⟨by kernel_rfl,by kernel_rfl⟩,?_⟩|refine ⟨by decide,?_⟩|refine lit_true ?_|refine lit_false ?_))
              refine back (i + 1, _) ⟨by dsimp only; omega, fun j hj => ?_⟩ (by dsimp only; omega) (ele_keep rfl rfl (.cons _ .slnil) .slnil ⟨AVle.refl _, AVle.refl _, AVle.refl _, le_int (wrap_succ (by dsimp only; omega)), trivial⟩)
              dsimp only at hj
              rcases Nat.lt_or_ge j i with h | h
              · exact h4 j h
              · obtain rfl : j = i := by omega
                omega
            · have h6 := bne_yes g4
              (repeat ((conv=>whnf);first|refine ω0 ?_|refine ω1 ?_|refine ω2 ?_|refine ω3 ?_|refine ω4 rfl ?_|refine ω5 rfl ?_|refine ω6 ?_|refine ω7 ?_|refine ω8 ?_|refine ⟨rfl,?_⟩|refine ⟨trivial,?_⟩|refine ⟨⟨rfl,Nat.le_of_ble_eq_true rfl⟩,?_⟩|refine ⟨⟨by kernel_rfl,by kernel_rfl⟩,?_⟩|refine ⟨by decide,?_⟩|refine lit_true ?_|refine lit_false ?_))
              refine ret_tells rfl (AVle.of_eq ?_)
              have : formedI l = (i, wrongI (l.getD i ins0) (l.length - 1 - i)) := by
                unfold formedI
                rw [if_neg (by omega), if_neg (by omega), find_range_some hi (by simp only [bne_iff_ne]; omega) (fun j hj => by simpa using h4 j hj)]
              rw [this]; rfl
    · have h2 := yes_of g2
      (repeat ((conv=>whnf);first|refine ω0 ?_|refine ω1 ?_|refine ω2 ?_|refine ω3 ?_|refine ω4 rfl ?_|refine ω5 rfl ?_|refine ω6 ?_|refine ω7 ?_|refine ω8 ?_|refine ⟨rfl,?_⟩|refine ⟨trivial,?_⟩|refine ⟨⟨rfl,Nat.le_of_ble_eq_true rfl⟩,?_⟩|refine ⟨⟨by kernel_rfl,by kernel_rfl⟩,?_⟩|refine ⟨by decide,?_⟩|refine lit_true ?_|refine lit_false ?_))
      refine ret_tells rfl (AVle.of_eq ?_)
      have : formedI l = (0, 3) := by
        unfold formedI
        rw [if_neg (by omega), if_pos (by omega)]
      rw [this]; rfl
  · have h1 := yes_of g1
    (repeat ((conv=>whnf);first|refine ω0 ?_|refine ω1 ?_|refine ω2 ?_|refine ω3 ?_|refine ω4 rfl ?_|refine ω5 rfl ?_|refine ω6 ?_|refine ω7 ?_|refine ω8 ?_|refine ⟨rfl,?_⟩|refine ⟨trivial,?_⟩|refine ⟨⟨rfl,Nat.le_of_ble_eq_true rfl⟩,?_⟩|refine ⟨⟨by kernel_rfl,by kernel_rfl⟩,?_⟩|refine ⟨by decide,?_⟩|refine lit_true ?_|refine lit_false ?_))
    refine ret_tells rfl (AVle.of_eq ?_)
    have : formedI l = (0, 4) := by
      unfold formedI
      rw [if_pos (by omega)]
    rw [this]; rfl
end Go.Proofs.W

namespace Go.Proofs.W

def kind (l : List Ins) (n : Nat) : Nat := (kof (l.getD n ins0).code).1
structure Formed (l : List Ins) : Prop where
  pos : 0 < l.length
  le : l.length ≤ 4096
  ok : ∀ n, n < l.length → wrongI (l.getD n ins0) (l.length - 1 - n) = 0
  last : kind l (l.length - 1) = 14 ∨ kind l (l.length - 1) = 15
theorem formed_of {l : List Ins} (h : (formedI l).2 = 0) : Formed l := by
  unfold formedI at h
  split at h
  · cases h
  split at h
  · cases h
  split at h
  · rename_i n hn
    have := List.find?_some hn
    dsimp only at h this
    simp only [bne_iff_ne] at this
    exact absurd h this
  · rename_i hn
    split at h
    · rename_i hk
      refine ⟨by omega, by omega, fun n h1 => ?_, hk⟩
      rw [List.find?_range_eq_none] at hn
      simpa using hn n h1
    · cases h
theorem formed_fail {l : List Ins} (h : (formedI l).2 ≠ 0) : ¬ Formed l := fun hf => h (by
  unfold formedI
  rw [if_neg (by have := hf.pos; omega), if_neg (by have := hf.le; omega), List.find?_range_eq_none.2 (fun i hi => by simpa using hf.ok i hi)]
  dsimp only
  have := hf.last
  unfold kind at this
  rw [if_pos this])
def nextsI (l : List Ins) (n : Nat) : List Nat :=
  if kind l n = 14 ∨ kind l n = 15 then [] else if kind l n = 13 then [n + 1 + (l.getD n ins0).k] else if 25 ≤ kind l n then [n + 1 + (l.getD n ins0).jt, n + 1 + (l.getD n ins0).jf] else [n + 1]
theorem wrong_parts {i : Ins} {r : Nat} (h : wrongI i r = 0) : (kof i.code).1 ≠ 0 ∧ ¬ ((kof i.code).1 = 1 ∧ (i.k % 4 ≠ 0 ∨ 64 ≤ i.k)) ∧ ¬ (((kof i.code).1 = 3 ∨ (kof i.code).1 = 6 ∨ (kof i.code).1 = 8 ∨ (kof i.code).1 = 9) ∧ 16 ≤ i.k) ∧
    ¬ (((kof i.code).1 = 13 ∧ r ≤ i.k) ∨ (25 ≤ (kof i.code).1 ∧ (r ≤ i.jt ∨ r ≤ i.jf))) := by
  unfold wrongI at h
  generalize kof i.code = kk at *
  obtain ⟨k, x⟩ := kk
  dsimp only at h ⊢
  split at h
  · cases h
  split at h
  · cases h
  split at h
  · cases h
  split at h
  · cases h
  split at h
  · cases h
  split at h
  · cases h
  exact ⟨by assumption, by assumption, by assumption, by assumption⟩
theorem nexts_lt {l : List Ins} (hf : Formed l) {n : Nat} (hn : n < l.length) : ∀ t ∈ nextsI l n, n < t ∧ t < l.length := by
  have hw := wrong_parts (hf.ok n hn)
  have hl : n = l.length - 1 → kind l n = 14 ∨ kind l n = 15 := fun h => h ▸ hf.last
  have hk : (kof (l.getD n ins0).code).1 = kind l n := rfl
  rw [hk] at hw
  intro t ht
  unfold nextsI at ht
  split at ht
  · simp at ht
  split at ht
  · simp only [List.mem_singleton] at ht; omega
  split at ht
  · simp only [List.mem_cons, List.not_mem_nil, or_false] at ht; omega
  · simp only [List.mem_singleton] at ht; omega
def isStore (k : Nat) : Prop := k = 8 ∨ k = 9
instance (k : Nat) : Decidable (isStore k) := inferInstanceAs (Decidable (_ ∨ _))
def nowI (i : Ins) (a : Nat) : Nat := if isStore (kof i.code).1 then a ||| 2 ^ i.k else a
def goI (now : Nat) (l : List Nat) (to : Nat) : List Nat := l.set to (l.getD to 0 &&& now)
def stepS (l : List Ins) (a : List Nat) (n : Nat) : List Nat := (nextsI l n).foldl (goI (nowI (l.getD n ins0) (a.getD n 0))) a
def initS (n : Nat) : List Nat := (List.replicate n 65535 ++ List.replicate (4096 - n) 0).set 0 0
def atI (l : List Ins) (n : Nat) : List Nat := (List.range n).foldl (stepS l) (initS l.length)
def storedI (l : List Ins) : List Nat := (atI l l.length).take l.length
theorem atI_zero (l : List Ins) : atI l 0 = initS l.length := rfl
theorem atI_succ (l : List Ins) (n : Nat) : atI l (n + 1) = stepS l (atI l n) n := by simp [atI, List.range_succ]
theorem goI_length (now to : Nat) (l : List Nat) : (goI now l to).length = l.length := by simp [goI]
theorem foldgo_length (now : Nat) : ∀ (ts : List Nat) (l : List Nat), (ts.foldl (goI now) l).length = l.length
  | [], _ => rfl
  | t :: ts, l => by rw [List.foldl_cons, foldgo_length now ts, goI_length]
theorem initS_length {n : Nat} (h : n ≤ 4096) : (initS n).length = 4096 := by simp [initS]; omega
theorem atI_length {l : List Ins} (hf : l.length ≤ 4096) (n : Nat) : (atI l n).length = 4096 := by
  induction n with
  | zero => exact initS_length hf
  | succ n ih => rw [atI_succ, stepS, foldgo_length, ih]
theorem goI_get (now to : Nat) (l : List Nat) (k : Nat) : (goI now l to).getD k 0 = if to = k ∧ to < l.length then l.getD to 0 &&& now else l.getD k 0 := by
  simp only [goI, List.getD, List.getElem?_set]
  by_cases h1 : to = k
  · subst h1
    by_cases h2 : to < l.length
    · simp [h2]
    · simp [h2, List.getElem?_eq_none (Nat.le_of_not_lt h2)]
  · simp [h1]
def small (l : List Nat) : Prop := ∀ k, l.getD k 0 < 65536
theorem goI_small {now to : Nat} {l : List Nat} (h : small l) : small (goI now l to) := by
  intro k
  rw [goI_get]
  split
  · exact Nat.lt_of_le_of_lt Nat.and_le_left (h to)
  · exact h k
theorem foldgo_small {now : Nat} : ∀ {ts : List Nat} {l : List Nat}, small l → small (ts.foldl (goI now) l)
  | [], _, h => h
  | t :: ts, l, h => by rw [List.foldl_cons]; exact foldgo_small (goI_small h)
theorem initS_get {n k : Nat} (h : n ≤ 4096) : (initS n).getD k 0 = if 0 < k ∧ k < n then 65535 else 0 := by
  simp only [initS, List.getD, List.getElem?_set]
  by_cases h1 : 0 = k
  · subst h1; simp; split <;> simp
  · rw [if_neg h1]
    by_cases h2 : k < n
    · rw [List.getElem?_append_left (by simpa using h2)]
      simp [h2]; omega
    · rw [List.getElem?_append_right (by simpa using h2)]
      rw [if_neg (by omega)]
      simp [List.getElem?_replicate]
      split <;> simp
theorem initS_small {n : Nat} (h : n ≤ 4096) : small (initS n) := by
  intro k; rw [initS_get h]; split <;> omega
theorem atI_small {l : List Ins} (hf : l.length ≤ 4096) (n : Nat) : small (atI l n) := by
  induction n with
  | zero => exact initS_small hf
  | succ n ih => rw [atI_succ]; exact foldgo_small ih
theorem now_small {i : Ins} {a r : Nat} (ha : a < 65536) (hw : wrongI i r = 0) : nowI i a < 65536 := by
  unfold nowI
  split
  · rename_i h
    have h2 := (wrong_parts hw).2.2.1
    unfold isStore at h
    have h3 : i.k < 16 := by omega
    exact Nat.or_lt_two_pow (n := 16) ha (Nat.pow_lt_pow_right (by decide) h3)
  · exact ha
/-- Cells stored: the given text's check. -/
def checkI (l : List Ins) : Nat × Nat :=
  if (formedI l).2 ≠ 0 then formedI l
  else match (List.range l.length).find? (fun n => decide ((kind l n = 3 ∨ kind l n = 6) ∧ (storedI l).getD n 0 / 2 ^ (l.getD n ins0).k % 2 = 0)) with
    | some n => (n, 12)
    | none => (0, 0)
end Go.Proofs.W

namespace Go.Proofs.W
open Go.Vl
set_option maxRecDepth 100000

def uA (n : Nat) : AV := u16 n
theorem u49 : Try.prog.underlying 49 = some (.int .u16) := by kernel_rfl
theorem b49 : Try.prog.bytesOf 49 = 2 := by kernel_rfl
theorem c49 : Try.prog.cellsOf 49 = 1 := by kernel_rfl
theorem goes_spec (s0 s1 s2 nx nn : Nat) (i : Ins) (now to : Nat) (a : List Nat) (ht : to < a.length) (hl : a.length = 4096) (ha : small a) (hn : now < 65536) :
    ECall Try.prog 81 [int to, .bp (0, s0) 0, .bp (2, s2) 0] ⟨[((2, s2), .c [u16 now]), ((1, s1), .c (insA i).cells), ((0, s0), .c (a.map uA))], [], nx, nn⟩ fun _ h' =>
      ∃ k, h' = ⟨[((2, s2), .c [u16 now]), ((1, s1), .c (insA i).cells), ((0, s0), .c ((goI now a to).map uA))], [], nx, k⟩ := by
  refine ecall_of_aw Try.func81 rfl rfl ?_
  (repeat ((conv=>whnf);first|refine ω0 ?_|refine ω1 ?_|refine ω2 ?_|refine ω3 ?_|refine ω4 rfl ?_|refine ω5 rfl ?_|refine ω6 ?_|refine ω7 ?_|refine ω8 ?_|refine ⟨rfl,?_⟩|refine ⟨trivial,?_⟩|refine ⟨⟨rfl,Nat.le_of_ble_eq_true rfl⟩,?_⟩|refine ⟨⟨by kernel_rfl,by kernel_rfl⟩,?_⟩|refine ⟨by decide,?_⟩|refine lit_true ?_|refine lit_false ?_))
  (refine aw_draw 6 ?_ ?_ ?_ ?_; (· kernel_rfl); (· kernel_rfl); (· kernel_rfl))
  (conv => whnf)
  refine ⟨⟨by omega, by omega⟩, ?_⟩
  have he : (0 + (Int.toNat (to : Int)) * Try.prog.cellsOf 49) = to := by rw [c49]; omega
  refine splitO_eq (b := .bp (0, s0) to) (congrArg (AV.bp (0, s0)) he) ?_
  (repeat ((conv=>whnf);first|refine ω0 ?_|refine ω1 ?_|refine ω2 ?_|refine ω3 ?_|refine ω4 rfl ?_|refine ω5 rfl ?_|refine ω6 ?_|refine ω7 ?_|refine ω8 ?_|refine ⟨rfl,?_⟩|refine ⟨trivial,?_⟩|refine ⟨⟨rfl,Nat.le_of_ble_eq_true rfl⟩,?_⟩|refine ⟨⟨by kernel_rfl,by kernel_rfl⟩,?_⟩|refine ⟨by decide,?_⟩|refine lit_true ?_|refine lit_false ?_))
  (conv => whnf)
  refine ⟨⟨rfl, by simpa using ht⟩, splitO_eq (b := u16 (a.getD to 0)) (getD_map ht) ?_⟩
  (repeat ((conv=>whnf);first|refine ω0 ?_|refine ω1 ?_|refine ω2 ?_|refine ω3 ?_|refine ω4 rfl ?_|refine ω5 rfl ?_|refine ω6 ?_|refine ω7 ?_|refine ω8 ?_|refine ⟨rfl,?_⟩|refine ⟨trivial,?_⟩|refine ⟨⟨rfl,Nat.le_of_ble_eq_true rfl⟩,?_⟩|refine ⟨⟨by kernel_rfl,by kernel_rfl⟩,?_⟩|refine ⟨by decide,?_⟩|refine lit_true ?_|refine lit_false ?_))
  (conv => whnf)
  refine ⟨⟨by omega, by omega⟩, splitO_eq (b := .bp (0, s0) to) (congrArg (AV.bp (0, s0)) he) ?_⟩
  (repeat ((conv=>whnf);first|refine ω0 ?_|refine ω1 ?_|refine ω2 ?_|refine ω3 ?_|refine ω4 rfl ?_|refine ω5 rfl ?_|refine ω6 ?_|refine ω7 ?_|refine ω8 ?_|refine ⟨rfl,?_⟩|refine ⟨trivial,?_⟩|refine ⟨⟨rfl,Nat.le_of_ble_eq_true rfl⟩,?_⟩|refine ⟨⟨by kernel_rfl,by kernel_rfl⟩,?_⟩|refine ⟨by decide,?_⟩|refine lit_true ?_|refine lit_false ?_))
  have hb : bitsI .and .u16 (a.getD to 0 : Nat) now = ((a.getD to 0 &&& now : Nat) : Int) := u16_and (ha to) hn
  have hsp : splice (a.map uA) to [AV.v (.int .u16 (bitsI .and .u16 (a.getD to 0 : Nat) now))] = (goI now a to).map uA := by rw [hb]; exact splice_one ht
  (conv => whnf)
  refine ⟨⟨rfl, by simp; omega⟩, ?_⟩
  rw [hsp]
  (repeat ((conv=>whnf);first|refine ω0 ?_|refine ω1 ?_|refine ω2 ?_|refine ω3 ?_|refine ω4 rfl ?_|refine ω5 rfl ?_|refine ω6 ?_|refine ω7 ?_|refine ω8 ?_|refine ⟨rfl,?_⟩|refine ⟨trivial,?_⟩|refine ⟨⟨rfl,Nat.le_of_ble_eq_true rfl⟩,?_⟩|refine ⟨⟨by kernel_rfl,by kernel_rfl⟩,?_⟩|refine ⟨by decide,?_⟩|refine lit_true ?_|refine lit_false ?_))
  exact ret_is rfl ⟨_, rfl⟩
theorem OwnLe.of_eq {a b : Own} (h : a = b) : OwnLe a b := h ▸ OwnLe.refl a
theorem sl_cat0 {n m : Nat} {f g g' : Nat → AV} {oi : Option Vl.Id} (h : m = n) (hg : ∀ k, k < n → g k = g' k) : AVle (.os 1 (0 + n) (appF 0 f g) oi) (.sl 1 m g') := by
  subst h
  rw [Nat.zero_add]
  exact AVle.os_sl.trans (AVle.sl_fun fun k hk => by rw [← hg k hk]; rfl)
theorem z151 : zcells Try.prog 151 = some (List.replicate 4096 (u16 0)) := by kernel_rfl
def foundS (l : List Ins) : AV := u16s (if (formedI l).2 = 0 then storedI l else [])
theorem stored_spec (l : List Ins) (hok : okL l) (hl : l.length ≤ 1000000000) : Tells Try.prog 54 [inss l] (foundS l) := by
  refine tells_of_aw Try.func54 rfl rfl fun nx => ?_
  (repeat ((conv=>whnf);first|refine ω0 ?_|refine ω1 ?_|refine ω2 ?_|refine ω3 ?_|refine ω4 rfl ?_|refine ω5 rfl ?_|refine ω6 ?_|refine ω7 ?_|refine ω8 ?_|refine ⟨rfl,?_⟩|refine ⟨trivial,?_⟩|refine ⟨⟨rfl,Nat.le_of_ble_eq_true rfl⟩,?_⟩|refine ⟨⟨by kernel_rfl,by kernel_rfl⟩,?_⟩|refine ⟨by decide,?_⟩|refine lit_true ?_|refine lit_false ?_))
  refine aop_tells rfl rfl (formed_spec l hok hl) ⟨AVle.refl _, trivial⟩ fun nx => ?_
  (repeat ((conv=>whnf);first|refine ω0 ?_|refine ω1 ?_|refine ω2 ?_|refine ω3 ?_|refine ω4 rfl ?_|refine ω5 rfl ?_|refine ω6 ?_|refine ω7 ?_|refine ω8 ?_|refine ⟨rfl,?_⟩|refine ⟨trivial,?_⟩|refine ⟨⟨rfl,Nat.le_of_ble_eq_true rfl⟩,?_⟩|refine ⟨⟨by kernel_rfl,by kernel_rfl⟩,?_⟩|refine ⟨by decide,?_⟩|refine lit_true ?_|refine lit_false ?_))
  intro c g1; cases c
  · have g1 := bne_no g1
    have hf : Formed l := formed_of (by omega)
    have hpos := hf.pos
    have hle := hf.le
    (repeat ((conv=>whnf);first|refine ω0 ?_|refine ω2 ?_|refine ω3 ?_|refine ω4 rfl ?_|refine ω5 rfl ?_|refine ω6 ?_|refine ω7 ?_|refine ω8 ?_|refine ⟨rfl,?_⟩|refine ⟨trivial,?_⟩|refine ⟨⟨rfl,Nat.le_of_ble_eq_true rfl⟩,?_⟩|refine ⟨⟨by kernel_rfl,by kernel_rfl⟩,?_⟩|refine ⟨by decide,?_⟩|refine lit_true ?_|refine lit_false ?_))
    refine aw_region ?_
    refine aK_alloc rfl rfl z151 ?_
    (repeat ((conv=>whnf);first|refine ω0 ?_|refine ω1 ?_|refine ω2 ?_|refine ω3 ?_|refine ω4 rfl ?_|refine ω5 rfl ?_|refine ω6 ?_|refine ω7 ?_|refine ω8 ?_|refine ⟨rfl,?_⟩|refine ⟨trivial,?_⟩|refine ⟨⟨rfl,Nat.le_of_ble_eq_true rfl⟩,?_⟩|refine ⟨⟨by kernel_rfl,by kernel_rfl⟩,?_⟩|refine ⟨by decide,?_⟩|refine lit_true ?_|refine lit_false ?_))
    refine aw_loop (fun i : Nat => mk 105 [(0, inss l), (5, .bp (0, nx) 0), (22, int l.length), (23, int i)] ⟨[((0, nx), .c ((List.replicate i 65535 ++ List.replicate (4096 - i) 0).map uA))], [], nx + 1, 1⟩) (fun i => i ≤ l.length) (fun i => l.length - i) ?_ ?_
    · exact ⟨0, by omega, ele_tell _ _ rfl rfl (List.Sublist.refl _) .slnil ⟨rfl, OwnLe.of_eq (by simp [uA]), trivial⟩ trivial ⟨AVle.refl _, AVle.refl _, AVle.refl _, AVle.refl _, trivial⟩⟩
    · rintro i h1
      (repeat ((conv=>whnf);first|refine ω0 ?_|refine ω1 ?_|refine ω2 ?_|refine ω3 ?_|refine ω4 rfl ?_|refine ω5 rfl ?_|refine ω6 ?_|refine ω7 ?_|refine ω8 ?_|refine ⟨rfl,?_⟩|refine ⟨trivial,?_⟩|refine ⟨⟨rfl,Nat.le_of_ble_eq_true rfl⟩,?_⟩|refine ⟨⟨by kernel_rfl,by kernel_rfl⟩,?_⟩|refine ⟨by decide,?_⟩|refine lit_true ?_|refine lit_false ?_))
      intro c g2; cases c
      · have h2 := not_of g2
        obtain rfl : i = l.length := by omega
        have he : (0 + (Int.toNat 0) * Try.prog.cellsOf 49) = 0 := by rw [c49]; rfl
        (repeat ((conv=>whnf);first|refine ω0 ?_|refine ω1 ?_|refine ω2 ?_|refine ω3 ?_|refine ω4 rfl ?_|refine ω5 rfl ?_|refine ω6 ?_|refine ω7 ?_|refine ω8 ?_|refine ⟨rfl,?_⟩|refine ⟨trivial,?_⟩|refine ⟨⟨rfl,Nat.le_of_ble_eq_true rfl⟩,?_⟩|refine ⟨⟨by kernel_rfl,by kernel_rfl⟩,?_⟩|refine ⟨by decide,?_⟩|refine lit_true ?_|refine lit_false ?_))
        refine splitO_eq (b := .bp (0, nx) 0) (congrArg (AV.bp (0, nx)) he) ?_
        have hsp : splice ((List.replicate l.length 65535 ++ List.replicate (4096 - l.length) 0).map uA) 0 [AV.v (.int .u16 0)] = (atI l 0).map uA := splice_one (f := uA) (x := 0) (by simp; omega)
        (conv => whnf)
        refine ⟨⟨rfl, by simp; omega⟩, ?_⟩
        rw [hsp]
        (repeat ((conv=>whnf);first|refine ω0 ?_|refine ω1 ?_|refine ω2 ?_|refine ω3 ?_|refine ω4 rfl ?_|refine ω5 rfl ?_|refine ω6 ?_|refine ω7 ?_|refine ω8 ?_|refine ⟨rfl,?_⟩|refine ⟨trivial,?_⟩|refine ⟨⟨rfl,Nat.le_of_ble_eq_true rfl⟩,?_⟩|refine ⟨⟨by kernel_rfl,by kernel_rfl⟩,?_⟩|refine ⟨by decide,?_⟩|refine lit_true ?_|refine lit_false ?_))
        refine aw_loop (fun s : Nat × Nat => mk 105 [(0, inss l), (5, .bp (0, nx) 0), (30, inss l), (31, int l.length), (32, int s.1)] ⟨[((0, nx), .c ((atI l s.1).map uA))], [], s.2, 1⟩) (fun s => s.1 ≤ l.length) (fun s => l.length - s.1) ?_ ?_
        · exact ⟨(0, _), by dsimp only; omega, ele_tell _ _ rfl rfl (List.Sublist.refl _) .slnil ⟨rfl, OwnLe.refl _, trivial⟩ trivial ⟨AVle.refl _, AVle.refl _, AVle.refl _, AVle.refl _, AVle.refl _, trivial⟩⟩
        · rintro ⟨i, nx'⟩ h3
          dsimp only at h3
          have hlen := atI_length hle i
          have hsm := atI_small hle i
          (repeat ((conv=>whnf);first|refine ω0 ?_|refine ω1 ?_|refine ω2 ?_|refine ω3 ?_|refine ω4 rfl ?_|refine ω5 rfl ?_|refine ω6 ?_|refine ω7 ?_|refine ω8 ?_|refine ⟨rfl,?_⟩|refine ⟨trivial,?_⟩|refine ⟨⟨rfl,Nat.le_of_ble_eq_true rfl⟩,?_⟩|refine ⟨⟨by kernel_rfl,by kernel_rfl⟩,?_⟩|refine ⟨by decide,?_⟩|refine lit_true ?_|refine lit_false ?_))
          intro c g3; cases c
          · have h4 := not_of g3
            dsimp only at h4
            obtain rfl : i = l.length := by omega
            (repeat ((conv=>whnf);first|refine ω0 ?_|refine ω2 ?_|refine ω3 ?_|refine ω4 rfl ?_|refine ω5 rfl ?_|refine ω6 ?_|refine ω7 ?_|refine ω8 ?_|refine ⟨rfl,?_⟩|refine ⟨trivial,?_⟩|refine ⟨⟨rfl,Nat.le_of_ble_eq_true rfl⟩,?_⟩|refine ⟨⟨by kernel_rfl,by kernel_rfl⟩,?_⟩|refine ⟨by decide,?_⟩|refine lit_true ?_|refine lit_false ?_))
            refine AW.le (ele_freeze (L := [(0, inss l), (5, .rp ((atI l l.length).map uA))]) (bx := []) (pm := []) (nn := 1) [((0, nx), .c ((atI l l.length).map uA))] rfl rfl (List.Sublist.refl _) .slnil ⟨.refl _, .bp (.head _) rfl, trivial⟩) ?_
            (repeat ((conv=>whnf);first|refine ω0 ?_|refine ω1 ?_|refine ω2 ?_|refine ω3 ?_|refine ω4 rfl ?_|refine ω5 rfl ?_|refine ω6 ?_|refine ω7 ?_|refine ω8 ?_|refine ⟨rfl,?_⟩|refine ⟨trivial,?_⟩|refine ⟨⟨rfl,Nat.le_of_ble_eq_true rfl⟩,?_⟩|refine ⟨⟨by kernel_rfl,by kernel_rfl⟩,?_⟩|refine ⟨by decide,?_⟩|refine lit_true ?_|refine lit_false ?_))
            (conv => whnf)
            refine ⟨⟨⟨by rw [c49, List.length_map]; omega, oneOk_map u49 rfl c49 fun _ => rfl⟩, by omega, by omega⟩, splitO_eq (b := .sl 1 l.length fun k => ((atI l l.length).map uA).getD k .any) (by rw [c49, aelem_one u49 rfl]; rfl) ?_⟩
            obtain ⟨m, hm⟩ : ∃ m, l.length = m + 1 := ⟨l.length - 1, by omega⟩
            have hst : storedI l = (atI l l.length).take l.length := rfl
            (repeat ((conv=>whnf);first|refine ω0 ?_|refine ω1 ?_|refine ω2 ?_|refine ω3 ?_|refine ω4 rfl ?_|refine ω5 rfl ?_|refine ω6 ?_|refine ω7 ?_|refine ω8 ?_|refine ⟨rfl,?_⟩|refine ⟨trivial,?_⟩|refine ⟨⟨rfl,Nat.le_of_ble_eq_true rfl⟩,?_⟩|refine ⟨⟨by kernel_rfl,by kernel_rfl⟩,?_⟩|refine ⟨by decide,?_⟩|refine lit_true ?_|refine lit_false ?_))
            (conv => whnf)
            rw [hm]
            (repeat ((conv=>whnf);first|refine ω0 ?_|refine ω1 ?_|refine ω2 ?_|refine ω3 ?_|refine ω4 rfl ?_|refine ω5 rfl ?_|refine ω6 ?_|refine ω7 ?_|refine ω8 ?_|refine ⟨rfl,?_⟩|refine ⟨trivial,?_⟩|refine ⟨⟨rfl,Nat.le_of_ble_eq_true rfl⟩,?_⟩|refine ⟨⟨by kernel_rfl,by kernel_rfl⟩,?_⟩|refine ⟨by decide,?_⟩|refine lit_true ?_|refine lit_false ?_))
            (conv => whnf)
            have hone : oneRow (m + 1) fun k => ((atI l (m + 1)).map uA).getD k .any := fun k hk => by
              dsimp only; rw [getD_map (d := 0) (by rw [hm] at hlen; omega)]; rfl
            refine ⟨hone, by rw [b49]; omega, by omega, ?_⟩
            (repeat ((conv=>whnf);first|refine ω0 ?_|refine ω1 ?_|refine ω2 ?_|refine ω3 ?_|refine ω4 rfl ?_|refine ω5 rfl ?_|refine ω6 ?_|refine ω7 ?_|refine ω8 ?_|refine ⟨rfl,?_⟩|refine ⟨trivial,?_⟩|refine ⟨⟨rfl,Nat.le_of_ble_eq_true rfl⟩,?_⟩|refine ⟨⟨by kernel_rfl,by kernel_rfl⟩,?_⟩|refine ⟨by decide,?_⟩|refine lit_true ?_|refine lit_false ?_))
            refine ret_tells rfl ?_
            unfold foundS
            rw [if_pos (by omega)]
            have hsl : (storedI l).length = m + 1 := by rw [hst, List.length_take, hlen]; omega
            refine sl_cat0 hsl fun k hk => ?_
            dsimp only
            have hkm : (atI l l.length).getD k 0 = (storedI l).getD k 0 := by
              rw [hst]; simp only [List.getD, List.getElem?_take]; rw [if_pos (by omega)]
            rw [← hkm, hm, getD_map (d := 0) (by rw [hm] at hlen; omega)]; rfl
          · have h4 := yes_of g3
            dsimp only at h4
            have hi : i < l.length := by omega
            have hit : (0 + (Int.toNat (i : Int)) * Try.prog.cellsOf 49) = i := by rw [c49]; omega
            have hki : (l.getD i ins0).ok := hok.get hi
            have hwr := hf.ok i hi
            have hpt := wrong_parts hwr
            have hnx := nexts_lt hf hi
            have hnow := now_small (hsm i) hwr
            have hstep := atI_succ l i
            (repeat ((conv=>whnf);first|refine ω0 ?_|refine ω1 ?_|refine ω2 ?_|refine ω3 ?_|refine ω4 rfl ?_|refine ω5 rfl ?_|refine ω6 ?_|refine ω7 ?_|refine ω8 ?_|refine ⟨rfl,?_⟩|refine ⟨trivial,?_⟩|refine ⟨⟨rfl,Nat.le_of_ble_eq_true rfl⟩,?_⟩|refine ⟨⟨by kernel_rfl,by kernel_rfl⟩,?_⟩|refine ⟨by decide,?_⟩|refine lit_true ?_|refine lit_false ?_))
            refine ⟨⟨by dsimp only; omega, by dsimp only; omega⟩, ?_⟩
            (repeat ((conv=>whnf);first|refine ω0 ?_|refine ω1 ?_|refine ω2 ?_|refine ω3 ?_|refine ω4 rfl ?_|refine ω5 rfl ?_|refine ω6 ?_|refine ω7 ?_|refine ω8 ?_|refine ⟨rfl,?_⟩|refine ⟨trivial,?_⟩|refine ⟨⟨rfl,Nat.le_of_ble_eq_true rfl⟩,?_⟩|refine ⟨⟨by kernel_rfl,by kernel_rfl⟩,?_⟩|refine ⟨by decide,?_⟩|refine lit_true ?_|refine lit_false ?_))
            refine aop_tells rfl rfl (of_kind (l.getD i ins0).code hki.1) ⟨AVle.refl _, trivial⟩ fun nx3 => ?_
            (repeat ((conv=>whnf);first|refine ω0 ?_|refine ω1 ?_|refine ω2 ?_|refine ω3 ?_|refine ω4 rfl ?_|refine ω5 rfl ?_|refine ω6 ?_|refine ω7 ?_|refine ω8 ?_|refine ⟨rfl,?_⟩|refine ⟨trivial,?_⟩|refine ⟨⟨rfl,Nat.le_of_ble_eq_true rfl⟩,?_⟩|refine ⟨⟨by kernel_rfl,by kernel_rfl⟩,?_⟩|refine ⟨by decide,?_⟩|refine lit_true ?_|refine lit_false ?_))
            refine ⟨⟨by dsimp only; omega, by dsimp only; omega⟩, splitO_eq (b := .bp (0, _) i) (congrArg (AV.bp (0, _)) hit) ?_⟩
            (conv => whnf)
            refine ⟨⟨rfl, by simp; omega⟩, splitO_eq (b := u16 ((atI l i).getD i 0 : Nat)) (getD_map (by dsimp only; omega)) ?_⟩
            (repeat ((conv=>whnf);first|refine ω0 ?_|refine ω1 ?_|refine ω2 ?_|refine ω3 ?_|refine ω4 rfl ?_|refine ω5 rfl ?_|refine ω6 ?_|refine ω7 ?_|refine ω8 ?_|refine ⟨rfl,?_⟩|refine ⟨trivial,?_⟩|refine ⟨⟨rfl,Nat.le_of_ble_eq_true rfl⟩,?_⟩|refine ⟨⟨by kernel_rfl,by kernel_rfl⟩,?_⟩|refine ⟨by decide,?_⟩|refine lit_true ?_|refine lit_false ?_))
            intro c a1; cases c
            · have a1 := not_of a1
              (repeat ((conv=>whnf);first|refine ω0 ?_|refine ω1 ?_|refine ω2 ?_|refine ω3 ?_|refine ω4 rfl ?_|refine ω5 rfl ?_|refine ω6 ?_|refine ω7 ?_|refine ω8 ?_|refine ⟨rfl,?_⟩|refine ⟨trivial,?_⟩|refine ⟨⟨rfl,Nat.le_of_ble_eq_true rfl⟩,?_⟩|refine ⟨⟨by kernel_rfl,by kernel_rfl⟩,?_⟩|refine ⟨by decide,?_⟩|refine lit_true ?_|refine lit_false ?_))
              intro c a2; cases c
              · have a2 := not_of a2
                have hnowd : nowI (l.getD i ins0) ((atI l i).getD i 0) = (atI l i).getD i 0 := if_neg (by unfold isStore; omega)
                generalize hnn : (atI l i).getD i 0 = now at hnowd ⊢
                rw [hnn, hnowd] at hnow
                (repeat ((conv=>whnf);first|refine ω0 ?_|refine ω1 ?_|refine ω2 ?_|refine ω3 ?_|refine ω4 rfl ?_|refine ω5 rfl ?_|refine ω6 ?_|refine ω7 ?_|refine ω8 ?_|refine ⟨rfl,?_⟩|refine ⟨trivial,?_⟩|refine ⟨⟨rfl,Nat.le_of_ble_eq_true rfl⟩,?_⟩|refine ⟨⟨by kernel_rfl,by kernel_rfl⟩,?_⟩|refine ⟨by decide,?_⟩|refine lit_true ?_|refine lit_false ?_))
                intro c b1; cases c
                · have b1 := not_of b1
                  (repeat ((conv=>whnf);first|refine ω0 ?_|refine ω1 ?_|refine ω2 ?_|refine ω3 ?_|refine ω4 rfl ?_|refine ω5 rfl ?_|refine ω6 ?_|refine ω7 ?_|refine ω8 ?_|refine ⟨rfl,?_⟩|refine ⟨trivial,?_⟩|refine ⟨⟨rfl,Nat.le_of_ble_eq_true rfl⟩,?_⟩|refine ⟨⟨by kernel_rfl,by kernel_rfl⟩,?_⟩|refine ⟨by decide,?_⟩|refine lit_true ?_|refine lit_false ?_))
                  intro c b2; cases c
                  · have b2 := not_of b2
                    (repeat ((conv=>whnf);first|refine ω0 ?_|refine ω1 ?_|refine ω2 ?_|refine ω3 ?_|refine ω4 rfl ?_|refine ω5 rfl ?_|refine ω6 ?_|refine ω7 ?_|refine ω8 ?_|refine ⟨rfl,?_⟩|refine ⟨trivial,?_⟩|refine ⟨⟨rfl,Nat.le_of_ble_eq_true rfl⟩,?_⟩|refine ⟨⟨by kernel_rfl,by kernel_rfl⟩,?_⟩|refine ⟨by decide,?_⟩|refine lit_true ?_|refine lit_false ?_))
                    intro c b3; cases c
                    · have b3 := not_of b3
                      (repeat ((conv=>whnf);first|refine ω0 ?_|refine ω1 ?_|refine ω2 ?_|refine ω3 ?_|refine ω4 rfl ?_|refine ω5 rfl ?_|refine ω6 ?_|refine ω7 ?_|refine ω8 ?_|refine ⟨rfl,?_⟩|refine ⟨trivial,?_⟩|refine ⟨⟨rfl,Nat.le_of_ble_eq_true rfl⟩,?_⟩|refine ⟨⟨by kernel_rfl,by kernel_rfl⟩,?_⟩|refine ⟨by decide,?_⟩|refine lit_true ?_|refine lit_false ?_))
                      intro c b4; cases c
                      · have b4 := not_of b4
                        have hnxt : nextsI l i = [i + 1] := by unfold nextsI kind; rw [if_neg (by omega), if_neg (by omega), if_neg (by omega)]
                        (repeat ((conv=>whnf);first|refine ω0 ?_|refine ω1 ?_|refine ω2 ?_|refine ω3 ?_|refine ω4 rfl ?_|refine ω5 rfl ?_|refine ω6 ?_|refine ω7 ?_|refine ω8 ?_|refine ⟨rfl,?_⟩|refine ⟨trivial,?_⟩|refine ⟨⟨rfl,Nat.le_of_ble_eq_true rfl⟩,?_⟩|refine ⟨⟨by kernel_rfl,by kernel_rfl⟩,?_⟩|refine ⟨by decide,?_⟩|refine lit_true ?_|refine lit_false ?_))
                        refine aop_call rfl rfl (ECall.args (bs := [int (i + 1 : Nat), .bp (0, _) 0, .bp (2, _) 0]) ⟨le_int (wrap_succ (by dsimp only; omega)), AVle.refl _, AVle.refl _, trivial⟩
                          (goes_spec nx nx' nx3 _ _ (l.getD i ins0) now (i + 1) (atI l i) (by have := (hnx (i + 1) (by rw [hnxt]; simp)).2; omega) (by first | omega | (simp only [goI_length]; omega)) (hsm) hnow)) fun r h' hq => ?_
                        obtain ⟨kk, rfl⟩ := hq
                        refine Named.same ?_
                        (repeat ((conv=>whnf);first|refine ω0 ?_|refine ω1 ?_|refine ω2 ?_|refine ω3 ?_|refine ω4 rfl ?_|refine ω5 rfl ?_|refine ω6 ?_|refine ω7 ?_|refine ω8 ?_|refine ⟨rfl,?_⟩|refine ⟨trivial,?_⟩|refine ⟨⟨rfl,Nat.le_of_ble_eq_true rfl⟩,?_⟩|refine ⟨⟨by kernel_rfl,by kernel_rfl⟩,?_⟩|refine ⟨by decide,?_⟩|refine lit_true ?_|refine lit_false ?_))
                        refine back (i + 1, _) (by dsimp only; omega) (by dsimp only; omega) (ele_tell [((0, _), .c ((goI now (atI l i) (i + 1)).map uA))] [] rfl rfl (.cons _ (.cons _ (.cons_cons _ .slnil))) .slnil ⟨rfl, OwnLe.of_eq ?_, trivial⟩ trivial ⟨AVle.refl _, AVle.refl _, AVle.refl _, AVle.refl _, le_int (wrap_succ (by dsimp only; omega)), trivial⟩)
                        dsimp only
                        rw [hstep]; unfold stepS; rw [hnxt]; (try rw [hnn]); rw [hnowd]; rfl
                      · have b4 := yes_of b4
                        have hnxt : nextsI l i = [i + 1 + (l.getD i ins0).jt, i + 1 + (l.getD i ins0).jf] := by unfold nextsI kind; rw [if_neg (by omega), if_neg (by omega), if_pos (by omega)]
                        (repeat ((conv=>whnf);first|refine ω0 ?_|refine ω1 ?_|refine ω2 ?_|refine ω3 ?_|refine ω4 rfl ?_|refine ω5 rfl ?_|refine ω6 ?_|refine ω7 ?_|refine ω8 ?_|refine ⟨rfl,?_⟩|refine ⟨trivial,?_⟩|refine ⟨⟨rfl,Nat.le_of_ble_eq_true rfl⟩,?_⟩|refine ⟨⟨by kernel_rfl,by kernel_rfl⟩,?_⟩|refine ⟨by decide,?_⟩|refine lit_true ?_|refine lit_false ?_))
                        refine aop_call rfl rfl (ECall.args (bs := [int (i + 1 + (l.getD i ins0).jt : Nat), .bp (0, _) 0, .bp (2, _) 0]) ⟨le_int (by show IntKind.i64.wrap (IntKind.i64.wrap ((i : Int) + 1) + IntKind.i64.wrap (((l.getD i ins0).jt : Nat) : Int)) = _; rw [show IntKind.i64.wrap (((l.getD i ins0).jt : Nat) : Int) = ((l.getD i ins0).jt : Nat) from wrap_id (by omega) (by omega), show IntKind.i64.wrap ((i : Int) + 1) = (i : Int) + 1 from wrap_id (by omega) (by omega), wrap_id (by omega) (by omega)]; omega), AVle.refl _, AVle.refl _, trivial⟩
                          (goes_spec nx nx' nx3 _ _ (l.getD i ins0) now (i + 1 + (l.getD i ins0).jt) (atI l i) (by have := (hnx (i + 1 + (l.getD i ins0).jt) (by rw [hnxt]; simp)).2; omega) (by first | omega | (simp only [goI_length]; omega)) (hsm) hnow)) fun r h' hq => ?_
                        obtain ⟨kk, rfl⟩ := hq
                        refine Named.same ?_
                        (repeat ((conv=>whnf);first|refine ω0 ?_|refine ω1 ?_|refine ω2 ?_|refine ω3 ?_|refine ω4 rfl ?_|refine ω5 rfl ?_|refine ω6 ?_|refine ω7 ?_|refine ω8 ?_|refine ⟨rfl,?_⟩|refine ⟨trivial,?_⟩|refine ⟨⟨rfl,Nat.le_of_ble_eq_true rfl⟩,?_⟩|refine ⟨⟨by kernel_rfl,by kernel_rfl⟩,?_⟩|refine ⟨by decide,?_⟩|refine lit_true ?_|refine lit_false ?_))
                        refine aop_call rfl rfl (ECall.args (bs := [int (i + 1 + (l.getD i ins0).jf : Nat), .bp (0, _) 0, .bp (2, _) 0]) ⟨le_int (by show IntKind.i64.wrap (IntKind.i64.wrap ((i : Int) + 1) + IntKind.i64.wrap (((l.getD i ins0).jf : Nat) : Int)) = _; rw [show IntKind.i64.wrap (((l.getD i ins0).jf : Nat) : Int) = ((l.getD i ins0).jf : Nat) from wrap_id (by omega) (by omega), show IntKind.i64.wrap ((i : Int) + 1) = (i : Int) + 1 from wrap_id (by omega) (by omega), wrap_id (by omega) (by omega)]; omega), AVle.refl _, AVle.refl _, trivial⟩
                          (goes_spec nx nx' nx3 _ _ (l.getD i ins0) now (i + 1 + (l.getD i ins0).jf) (goI now (atI l i) (i + 1 + (l.getD i ins0).jt)) (by have := (hnx (i + 1 + (l.getD i ins0).jf) (by rw [hnxt]; simp)).2; simp only [goI_length]; omega) (by first | omega | (simp only [goI_length]; omega)) (goI_small hsm) hnow)) fun r h' hq => ?_
                        obtain ⟨kk, rfl⟩ := hq
                        refine Named.same ?_
                        (repeat ((conv=>whnf);first|refine ω0 ?_|refine ω1 ?_|refine ω2 ?_|refine ω3 ?_|refine ω4 rfl ?_|refine ω5 rfl ?_|refine ω6 ?_|refine ω7 ?_|refine ω8 ?_|refine ⟨rfl,?_⟩|refine ⟨trivial,?_⟩|refine ⟨⟨rfl,Nat.le_of_ble_eq_true rfl⟩,?_⟩|refine ⟨⟨by kernel_rfl,by kernel_rfl⟩,?_⟩|refine ⟨by decide,?_⟩|refine lit_true ?_|refine lit_false ?_))
                        refine back (i + 1, _) (by dsimp only; omega) (by dsimp only; omega) (ele_tell [((0, _), .c ((goI now (goI now (atI l i) (i + 1 + (l.getD i ins0).jt)) (i + 1 + (l.getD i ins0).jf)).map uA))] [] rfl rfl (.cons _ (.cons _ (.cons_cons _ .slnil))) .slnil ⟨rfl, OwnLe.of_eq ?_, trivial⟩ trivial ⟨AVle.refl _, AVle.refl _, AVle.refl _, AVle.refl _, le_int (wrap_succ (by dsimp only; omega)), trivial⟩)
                        dsimp only
                        rw [hstep]; unfold stepS; rw [hnxt]; (try rw [hnn]); rw [hnowd]; rfl
                    · have b3 := yes_of b3
                      have hnxt : nextsI l i = [i + 1 + (l.getD i ins0).k] := by unfold nextsI kind; rw [if_neg (by omega), if_pos (by omega)]
                      (repeat ((conv=>whnf);first|refine ω0 ?_|refine ω1 ?_|refine ω2 ?_|refine ω3 ?_|refine ω4 rfl ?_|refine ω5 rfl ?_|refine ω6 ?_|refine ω7 ?_|refine ω8 ?_|refine ⟨rfl,?_⟩|refine ⟨trivial,?_⟩|refine ⟨⟨rfl,Nat.le_of_ble_eq_true rfl⟩,?_⟩|refine ⟨⟨by kernel_rfl,by kernel_rfl⟩,?_⟩|refine ⟨by decide,?_⟩|refine lit_true ?_|refine lit_false ?_))
                      refine aop_call rfl rfl (ECall.args (bs := [int (i + 1 + (l.getD i ins0).k : Nat), .bp (0, _) 0, .bp (2, _) 0]) ⟨le_int (by show IntKind.i64.wrap (IntKind.i64.wrap ((i : Int) + 1) + IntKind.i64.wrap (((l.getD i ins0).k : Nat) : Int)) = _; rw [show IntKind.i64.wrap (((l.getD i ins0).k : Nat) : Int) = ((l.getD i ins0).k : Nat) from wrap_id (by omega) (by omega), show IntKind.i64.wrap ((i : Int) + 1) = (i : Int) + 1 from wrap_id (by omega) (by omega), wrap_id (by omega) (by omega)]; omega), AVle.refl _, AVle.refl _, trivial⟩
                        (goes_spec nx nx' nx3 _ _ (l.getD i ins0) now (i + 1 + (l.getD i ins0).k) (atI l i) (by have := (hnx (i + 1 + (l.getD i ins0).k) (by rw [hnxt]; simp)).2; omega) (by first | omega | (simp only [goI_length]; omega)) (hsm) hnow)) fun r h' hq => ?_
                      obtain ⟨kk, rfl⟩ := hq
                      refine Named.same ?_
                      (repeat ((conv=>whnf);first|refine ω0 ?_|refine ω1 ?_|refine ω2 ?_|refine ω3 ?_|refine ω4 rfl ?_|refine ω5 rfl ?_|refine ω6 ?_|refine ω7 ?_|refine ω8 ?_|refine ⟨rfl,?_⟩|refine ⟨trivial,?_⟩|refine ⟨⟨rfl,Nat.le_of_ble_eq_true rfl⟩,?_⟩|refine ⟨⟨by kernel_rfl,by kernel_rfl⟩,?_⟩|refine ⟨by decide,?_⟩|refine lit_true ?_|refine lit_false ?_))
                      refine back (i + 1, _) (by dsimp only; omega) (by dsimp only; omega) (ele_tell [((0, _), .c ((goI now (atI l i) (i + 1 + (l.getD i ins0).k)).map uA))] [] rfl rfl (.cons _ (.cons _ (.cons_cons _ .slnil))) .slnil ⟨rfl, OwnLe.of_eq ?_, trivial⟩ trivial ⟨AVle.refl _, AVle.refl _, AVle.refl _, AVle.refl _, le_int (wrap_succ (by dsimp only; omega)), trivial⟩)
                      dsimp only
                      rw [hstep]; unfold stepS; rw [hnxt]; (try rw [hnn]); rw [hnowd]; rfl
                  · have b2 := yes_of b2
                    have hnxt : nextsI l i = [] := by unfold nextsI kind; rw [if_pos (by omega)]
                    (repeat ((conv=>whnf);first|refine ω0 ?_|refine ω1 ?_|refine ω2 ?_|refine ω3 ?_|refine ω4 rfl ?_|refine ω5 rfl ?_|refine ω6 ?_|refine ω7 ?_|refine ω8 ?_|refine ⟨rfl,?_⟩|refine ⟨trivial,?_⟩|refine ⟨⟨rfl,Nat.le_of_ble_eq_true rfl⟩,?_⟩|refine ⟨⟨by kernel_rfl,by kernel_rfl⟩,?_⟩|refine ⟨by decide,?_⟩|refine lit_true ?_|refine lit_false ?_))
                    refine back (i + 1, _) (by dsimp only; omega) (by dsimp only; omega) (ele_tell [((0, _), .c ((atI l i).map uA))] [] rfl rfl (.cons _ (.cons _ (.cons_cons _ .slnil))) .slnil ⟨rfl, OwnLe.of_eq ?_, trivial⟩ trivial ⟨AVle.refl _, AVle.refl _, AVle.refl _, AVle.refl _, le_int (wrap_succ (by dsimp only; omega)), trivial⟩)
                    dsimp only
                    rw [hstep]; unfold stepS; rw [hnxt]; (try rw [hnn]); rw [hnowd]; rfl
                · have b1 := yes_of b1
                  have hnxt : nextsI l i = [] := by unfold nextsI kind; rw [if_pos (by omega)]
                  (repeat ((conv=>whnf);first|refine ω0 ?_|refine ω1 ?_|refine ω2 ?_|refine ω3 ?_|refine ω4 rfl ?_|refine ω5 rfl ?_|refine ω6 ?_|refine ω7 ?_|refine ω8 ?_|refine ⟨rfl,?_⟩|refine ⟨trivial,?_⟩|refine ⟨⟨rfl,Nat.le_of_ble_eq_true rfl⟩,?_⟩|refine ⟨⟨by kernel_rfl,by kernel_rfl⟩,?_⟩|refine ⟨by decide,?_⟩|refine lit_true ?_|refine lit_false ?_))
                  refine back (i + 1, _) (by dsimp only; omega) (by dsimp only; omega) (ele_tell [((0, _), .c ((atI l i).map uA))] [] rfl rfl (.cons _ (.cons _ (.cons_cons _ .slnil))) .slnil ⟨rfl, OwnLe.of_eq ?_, trivial⟩ trivial ⟨AVle.refl _, AVle.refl _, AVle.refl _, AVle.refl _, le_int (wrap_succ (by dsimp only; omega)), trivial⟩)
                  dsimp only
                  rw [hstep]; unfold stepS; rw [hnxt]; (try rw [hnn]); rw [hnowd]; rfl
              · have a2 := yes_of a2
                have hnowd : nowI (l.getD i ins0) ((atI l i).getD i 0) = (atI l i).getD i 0 ||| 2 ^ (l.getD i ins0).k := if_pos (by unfold isStore; omega)
                have hk16 : (l.getD i ins0).k < 16 := by omega
                have hp16 : 2 ^ (l.getD i ins0).k < 65536 := Nat.pow_lt_pow_right (n := 16) (by decide) hk16
                have hsh : IntKind.u16.wrap (1 * 2 ^ (min (Int.toNat ((l.getD i ins0).k : Nat)) IntKind.u16.bits)) = ((2 ^ (l.getD i ins0).k : Nat) : Int) := by
                  have : min (Int.toNat ((l.getD i ins0).k : Nat)) IntKind.u16.bits = (l.getD i ins0).k := by show min _ 16 = _; omega
                  have h2 : ((1 : Int) * 2 ^ (l.getD i ins0).k) = ((2 ^ (l.getD i ins0).k : Nat) : Int) := by simp
                  rw [this, h2]
                  refine IntWalk.u16_in _ ?_
                  generalize 2 ^ (l.getD i ins0).k = q at hp16
                  omega
                have hor : bitsI .or .u16 ((atI l i).getD i 0 : Nat) ((2 ^ (l.getD i ins0).k : Nat) : Int) = (((atI l i).getD i 0 ||| 2 ^ (l.getD i ins0).k : Nat) : Int) := u16_or (hsm i) hp16
                have hnxt : nextsI l i = [i + 1] := by unfold nextsI kind; rw [if_neg (by omega), if_neg (by omega), if_neg (by omega)]
                generalize hnn : (atI l i).getD i 0 ||| 2 ^ (l.getD i ins0).k = now at hnowd hor
                rw [hnowd] at hnow
                (repeat ((conv=>whnf);first|refine ω0 ?_|refine ω1 ?_|refine ω2 ?_|refine ω3 ?_|refine ω4 rfl ?_|refine ω5 rfl ?_|refine ω6 ?_|refine ω7 ?_|refine ω8 ?_|refine ⟨rfl,?_⟩|refine ⟨trivial,?_⟩|refine ⟨⟨rfl,Nat.le_of_ble_eq_true rfl⟩,?_⟩|refine ⟨⟨by kernel_rfl,by kernel_rfl⟩,?_⟩|refine ⟨by decide,?_⟩|refine lit_true ?_|refine lit_false ?_))
                (conv => whnf)
                refine ⟨Int.natCast_nonneg _, splitO_eq (b := u16 ((2 ^ (l.getD i ins0).k : Nat) : Int)) (congrArg (fun x : Int => u16 x) hsh) ?_⟩
                (repeat ((conv=>whnf);first|refine ω0 ?_|refine ω1 ?_|refine ω2 ?_|refine ω3 ?_|refine ω4 rfl ?_|refine ω5 rfl ?_|refine ω6 ?_|refine ω7 ?_|refine ω8 ?_|refine ⟨rfl,?_⟩|refine ⟨trivial,?_⟩|refine ⟨⟨rfl,Nat.le_of_ble_eq_true rfl⟩,?_⟩|refine ⟨⟨by kernel_rfl,by kernel_rfl⟩,?_⟩|refine ⟨by decide,?_⟩|refine lit_true ?_|refine lit_false ?_))
                intro c b1; cases c
                case true => exact absurd (yes_of b1) (by omega)
                (repeat ((conv=>whnf);first|refine ω0 ?_|refine ω1 ?_|refine ω2 ?_|refine ω3 ?_|refine ω4 rfl ?_|refine ω5 rfl ?_|refine ω6 ?_|refine ω7 ?_|refine ω8 ?_|refine ⟨rfl,?_⟩|refine ⟨trivial,?_⟩|refine ⟨⟨rfl,Nat.le_of_ble_eq_true rfl⟩,?_⟩|refine ⟨⟨by kernel_rfl,by kernel_rfl⟩,?_⟩|refine ⟨by decide,?_⟩|refine lit_true ?_|refine lit_false ?_))
                intro c b2; cases c
                case true => exact absurd (yes_of b2) (by omega)
                (repeat ((conv=>whnf);first|refine ω0 ?_|refine ω1 ?_|refine ω2 ?_|refine ω3 ?_|refine ω4 rfl ?_|refine ω5 rfl ?_|refine ω6 ?_|refine ω7 ?_|refine ω8 ?_|refine ⟨rfl,?_⟩|refine ⟨trivial,?_⟩|refine ⟨⟨rfl,Nat.le_of_ble_eq_true rfl⟩,?_⟩|refine ⟨⟨by kernel_rfl,by kernel_rfl⟩,?_⟩|refine ⟨by decide,?_⟩|refine lit_true ?_|refine lit_false ?_))
                intro c b3; cases c
                case true => exact absurd (yes_of b3) (by omega)
                (repeat ((conv=>whnf);first|refine ω0 ?_|refine ω1 ?_|refine ω2 ?_|refine ω3 ?_|refine ω4 rfl ?_|refine ω5 rfl ?_|refine ω6 ?_|refine ω7 ?_|refine ω8 ?_|refine ⟨rfl,?_⟩|refine ⟨trivial,?_⟩|refine ⟨⟨rfl,Nat.le_of_ble_eq_true rfl⟩,?_⟩|refine ⟨⟨by kernel_rfl,by kernel_rfl⟩,?_⟩|refine ⟨by decide,?_⟩|refine lit_true ?_|refine lit_false ?_))
                intro c b4; cases c
                case true => exact absurd (yes_of b4) (by omega)
                (repeat ((conv=>whnf);first|refine ω0 ?_|refine ω1 ?_|refine ω2 ?_|refine ω3 ?_|refine ω4 rfl ?_|refine ω5 rfl ?_|refine ω6 ?_|refine ω7 ?_|refine ω8 ?_|refine ⟨rfl,?_⟩|refine ⟨trivial,?_⟩|refine ⟨⟨rfl,Nat.le_of_ble_eq_true rfl⟩,?_⟩|refine ⟨⟨by kernel_rfl,by kernel_rfl⟩,?_⟩|refine ⟨by decide,?_⟩|refine lit_true ?_|refine lit_false ?_))
                refine aop_call rfl rfl (ECall.args (bs := [int (i + 1 : Nat), .bp (0, _) 0, .bp (2, _) 0]) ⟨le_int (wrap_succ (by dsimp only; omega)), AVle.refl _, AVle.refl _, trivial⟩
                  (ECall.tell (goes_spec nx nx' nx3 (nx3 + 1) 3 (l.getD i ins0) now (i + 1) (atI l i) (by have := (hnx (i + 1) (by rw [hnxt]; simp)).2; omega) (by first | omega | (simp only [goI_length]; omega)) (hsm) hnow) ⟨rfl, OwnLe.of_eq (by rw [hor]; rfl), rfl, OwnLe.refl _, rfl, OwnLe.refl _, trivial⟩ trivial rfl)) fun r h' hq => ?_
                obtain ⟨kk, rfl⟩ := hq
                refine Named.same ?_
                (repeat ((conv=>whnf);first|refine ω0 ?_|refine ω1 ?_|refine ω2 ?_|refine ω3 ?_|refine ω4 rfl ?_|refine ω5 rfl ?_|refine ω6 ?_|refine ω7 ?_|refine ω8 ?_|refine ⟨rfl,?_⟩|refine ⟨trivial,?_⟩|refine ⟨⟨rfl,Nat.le_of_ble_eq_true rfl⟩,?_⟩|refine ⟨⟨by kernel_rfl,by kernel_rfl⟩,?_⟩|refine ⟨by decide,?_⟩|refine lit_true ?_|refine lit_false ?_))
                refine back (i + 1, _) (by dsimp only; omega) (by dsimp only; omega) (ele_tell [((0, _), .c ((goI now (atI l i) (i + 1)).map uA))] [] rfl rfl (.cons _ (.cons _ (.cons_cons _ .slnil))) .slnil ⟨rfl, OwnLe.of_eq ?_, trivial⟩ trivial ⟨AVle.refl _, AVle.refl _, AVle.refl _, AVle.refl _, le_int (wrap_succ (by dsimp only; omega)), trivial⟩)
                dsimp only
                rw [hstep]; unfold stepS; rw [hnxt]; (try rw [hnn]); rw [hnowd]; rfl
            · have a1 := yes_of a1
              have hnowd : nowI (l.getD i ins0) ((atI l i).getD i 0) = (atI l i).getD i 0 ||| 2 ^ (l.getD i ins0).k := if_pos (by unfold isStore; omega)
              have hk16 : (l.getD i ins0).k < 16 := by omega
              have hp16 : 2 ^ (l.getD i ins0).k < 65536 := Nat.pow_lt_pow_right (n := 16) (by decide) hk16
              have hsh : IntKind.u16.wrap (1 * 2 ^ (min (Int.toNat ((l.getD i ins0).k : Nat)) IntKind.u16.bits)) = ((2 ^ (l.getD i ins0).k : Nat) : Int) := by
                have : min (Int.toNat ((l.getD i ins0).k : Nat)) IntKind.u16.bits = (l.getD i ins0).k := by show min _ 16 = _; omega
                have h2 : ((1 : Int) * 2 ^ (l.getD i ins0).k) = ((2 ^ (l.getD i ins0).k : Nat) : Int) := by simp
                rw [this, h2]
                refine IntWalk.u16_in _ ?_
                generalize 2 ^ (l.getD i ins0).k = q at hp16
                omega
              have hor : bitsI .or .u16 ((atI l i).getD i 0 : Nat) ((2 ^ (l.getD i ins0).k : Nat) : Int) = (((atI l i).getD i 0 ||| 2 ^ (l.getD i ins0).k : Nat) : Int) := u16_or (hsm i) hp16
              have hnxt : nextsI l i = [i + 1] := by unfold nextsI kind; rw [if_neg (by omega), if_neg (by omega), if_neg (by omega)]
              generalize hnn : (atI l i).getD i 0 ||| 2 ^ (l.getD i ins0).k = now at hnowd hor
              rw [hnowd] at hnow
              (repeat ((conv=>whnf);first|refine ω0 ?_|refine ω1 ?_|refine ω2 ?_|refine ω3 ?_|refine ω4 rfl ?_|refine ω5 rfl ?_|refine ω6 ?_|refine ω7 ?_|refine ω8 ?_|refine ⟨rfl,?_⟩|refine ⟨trivial,?_⟩|refine ⟨⟨rfl,Nat.le_of_ble_eq_true rfl⟩,?_⟩|refine ⟨⟨by kernel_rfl,by kernel_rfl⟩,?_⟩|refine ⟨by decide,?_⟩|refine lit_true ?_|refine lit_false ?_))
              (conv => whnf)
              refine ⟨Int.natCast_nonneg _, splitO_eq (b := u16 ((2 ^ (l.getD i ins0).k : Nat) : Int)) (congrArg (fun x : Int => u16 x) hsh) ?_⟩
              (repeat ((conv=>whnf);first|refine ω0 ?_|refine ω1 ?_|refine ω2 ?_|refine ω3 ?_|refine ω4 rfl ?_|refine ω5 rfl ?_|refine ω6 ?_|refine ω7 ?_|refine ω8 ?_|refine ⟨rfl,?_⟩|refine ⟨trivial,?_⟩|refine ⟨⟨rfl,Nat.le_of_ble_eq_true rfl⟩,?_⟩|refine ⟨⟨by kernel_rfl,by kernel_rfl⟩,?_⟩|refine ⟨by decide,?_⟩|refine lit_true ?_|refine lit_false ?_))
              intro c b1; cases c
              case true => exact absurd (yes_of b1) (by omega)
              (repeat ((conv=>whnf);first|refine ω0 ?_|refine ω1 ?_|refine ω2 ?_|refine ω3 ?_|refine ω4 rfl ?_|refine ω5 rfl ?_|refine ω6 ?_|refine ω7 ?_|refine ω8 ?_|refine ⟨rfl,?_⟩|refine ⟨trivial,?_⟩|refine ⟨⟨rfl,Nat.le_of_ble_eq_true rfl⟩,?_⟩|refine ⟨⟨by kernel_rfl,by kernel_rfl⟩,?_⟩|refine ⟨by decide,?_⟩|refine lit_true ?_|refine lit_false ?_))
              intro c b2; cases c
              case true => exact absurd (yes_of b2) (by omega)
              (repeat ((conv=>whnf);first|refine ω0 ?_|refine ω1 ?_|refine ω2 ?_|refine ω3 ?_|refine ω4 rfl ?_|refine ω5 rfl ?_|refine ω6 ?_|refine ω7 ?_|refine ω8 ?_|refine ⟨rfl,?_⟩|refine ⟨trivial,?_⟩|refine ⟨⟨rfl,Nat.le_of_ble_eq_true rfl⟩,?_⟩|refine ⟨⟨by kernel_rfl,by kernel_rfl⟩,?_⟩|refine ⟨by decide,?_⟩|refine lit_true ?_|refine lit_false ?_))
              intro c b3; cases c
              case true => exact absurd (yes_of b3) (by omega)
              (repeat ((conv=>whnf);first|refine ω0 ?_|refine ω1 ?_|refine ω2 ?_|refine ω3 ?_|refine ω4 rfl ?_|refine ω5 rfl ?_|refine ω6 ?_|refine ω7 ?_|refine ω8 ?_|refine ⟨rfl,?_⟩|refine ⟨trivial,?_⟩|refine ⟨⟨rfl,Nat.le_of_ble_eq_true rfl⟩,?_⟩|refine ⟨⟨by kernel_rfl,by kernel_rfl⟩,?_⟩|refine ⟨by decide,?_⟩|refine lit_true ?_|refine lit_false ?_))
              intro c b4; cases c
              case true => exact absurd (yes_of b4) (by omega)
              (repeat ((conv=>whnf);first|refine ω0 ?_|refine ω1 ?_|refine ω2 ?_|refine ω3 ?_|refine ω4 rfl ?_|refine ω5 rfl ?_|refine ω6 ?_|refine ω7 ?_|refine ω8 ?_|refine ⟨rfl,?_⟩|refine ⟨trivial,?_⟩|refine ⟨⟨rfl,Nat.le_of_ble_eq_true rfl⟩,?_⟩|refine ⟨⟨by kernel_rfl,by kernel_rfl⟩,?_⟩|refine ⟨by decide,?_⟩|refine lit_true ?_|refine lit_false ?_))
              refine aop_call rfl rfl (ECall.args (bs := [int (i + 1 : Nat), .bp (0, _) 0, .bp (2, _) 0]) ⟨le_int (wrap_succ (by dsimp only; omega)), AVle.refl _, AVle.refl _, trivial⟩
                (ECall.tell (goes_spec nx nx' nx3 (nx3 + 1) 3 (l.getD i ins0) now (i + 1) (atI l i) (by have := (hnx (i + 1) (by rw [hnxt]; simp)).2; omega) (by first | omega | (simp only [goI_length]; omega)) (hsm) hnow) ⟨rfl, OwnLe.of_eq (by rw [hor]; rfl), rfl, OwnLe.refl _, rfl, OwnLe.refl _, trivial⟩ trivial rfl)) fun r h' hq => ?_
              obtain ⟨kk, rfl⟩ := hq
              refine Named.same ?_
              (repeat ((conv=>whnf);first|refine ω0 ?_|refine ω1 ?_|refine ω2 ?_|refine ω3 ?_|refine ω4 rfl ?_|refine ω5 rfl ?_|refine ω6 ?_|refine ω7 ?_|refine ω8 ?_|refine ⟨rfl,?_⟩|refine ⟨trivial,?_⟩|refine ⟨⟨rfl,Nat.le_of_ble_eq_true rfl⟩,?_⟩|refine ⟨⟨by kernel_rfl,by kernel_rfl⟩,?_⟩|refine ⟨by decide,?_⟩|refine lit_true ?_|refine lit_false ?_))
              refine back (i + 1, _) (by dsimp only; omega) (by dsimp only; omega) (ele_tell [((0, _), .c ((goI now (atI l i) (i + 1)).map uA))] [] rfl rfl (.cons _ (.cons _ (.cons_cons _ .slnil))) .slnil ⟨rfl, OwnLe.of_eq ?_, trivial⟩ trivial ⟨AVle.refl _, AVle.refl _, AVle.refl _, AVle.refl _, le_int (wrap_succ (by dsimp only; omega)), trivial⟩)
              dsimp only
              rw [hstep]; unfold stepS; rw [hnxt]; (try rw [hnn]); rw [hnowd]; rfl
      · have h2 := yes_of g2
        have hit : (0 + (Int.toNat (i : Int)) * Try.prog.cellsOf 49) = i := by rw [c49]; omega
        (repeat ((conv=>whnf);first|refine ω0 ?_|refine ω1 ?_|refine ω2 ?_|refine ω3 ?_|refine ω4 rfl ?_|refine ω5 rfl ?_|refine ω6 ?_|refine ω7 ?_|refine ω8 ?_|refine ⟨rfl,?_⟩|refine ⟨trivial,?_⟩|refine ⟨⟨rfl,Nat.le_of_ble_eq_true rfl⟩,?_⟩|refine ⟨⟨by kernel_rfl,by kernel_rfl⟩,?_⟩|refine ⟨by decide,?_⟩|refine lit_true ?_|refine lit_false ?_))
        refine ⟨⟨by omega, by omega⟩, splitO_eq (b := .bp (0, nx) i) (congrArg (AV.bp (0, nx)) hit) ?_⟩
        obtain ⟨m, hm⟩ : ∃ m, 4096 - i = m + 1 := ⟨4096 - i - 1, by omega⟩
        have hsp : splice ((List.replicate i 65535 ++ List.replicate (4096 - i) 0).map uA) i [AV.v (.int .u16 65535)] = (List.replicate (i + 1) 65535 ++ List.replicate (4096 - (i + 1)) 0).map uA := by
          refine (splice_one (f := uA) (x := 65535) (by simp; omega)).trans ?_
          have := fill_set (List.replicate i 65535) m 65535 0
          rw [List.length_replicate] at this
          rw [hm, this, show 4096 - (i + 1) = m by omega, List.replicate_succ']
        (conv => whnf)
        refine ⟨⟨rfl, by simp; omega⟩, ?_⟩
        rw [hsp]
        (repeat ((conv=>whnf);first|refine ω0 ?_|refine ω1 ?_|refine ω2 ?_|refine ω3 ?_|refine ω4 rfl ?_|refine ω5 rfl ?_|refine ω6 ?_|refine ω7 ?_|refine ω8 ?_|refine ⟨rfl,?_⟩|refine ⟨trivial,?_⟩|refine ⟨⟨rfl,Nat.le_of_ble_eq_true rfl⟩,?_⟩|refine ⟨⟨by kernel_rfl,by kernel_rfl⟩,?_⟩|refine ⟨by decide,?_⟩|refine lit_true ?_|refine lit_false ?_))
        exact back (i + 1) (by omega) (by omega) (ele_tell _ _ rfl rfl (List.Sublist.refl _) .slnil ⟨rfl, OwnLe.refl _, trivial⟩ trivial ⟨AVle.refl _, AVle.refl _, AVle.refl _, le_int (wrap_succ (by omega)), trivial⟩)
  · have g1 := bne_yes g1
    (repeat ((conv=>whnf);first|refine ω0 ?_|refine ω1 ?_|refine ω2 ?_|refine ω3 ?_|refine ω4 rfl ?_|refine ω5 rfl ?_|refine ω6 ?_|refine ω7 ?_|refine ω8 ?_|refine ⟨rfl,?_⟩|refine ⟨trivial,?_⟩|refine ⟨⟨rfl,Nat.le_of_ble_eq_true rfl⟩,?_⟩|refine ⟨⟨by kernel_rfl,by kernel_rfl⟩,?_⟩|refine ⟨by decide,?_⟩|refine lit_true ?_|refine lit_false ?_))
    refine ret_tells rfl ?_
    unfold foundS
    rw [if_neg (by omega)]
    exact AVle.os_sl0
end Go.Proofs.W

namespace Go.Proofs.W
open Go.Vl
set_option maxRecDepth 100000

theorem storedI_length {l : List Ins} (hf : Formed l) : (storedI l).length = l.length := by
  unfold storedI; rw [List.length_take, atI_length hf.le]; have := hf.le; omega
theorem storedI_small {l : List Ins} (hf : Formed l) : small (storedI l) := by
  intro k
  unfold storedI
  simp only [List.getD, List.getElem?_take]
  split
  · exact atI_small hf.le l.length k
  · simp
theorem bit_of {x k : Nat} (hx : x < 65536) (hk : k < 16) : bitsI .and .u16 ((x : Int).fdiv (2 ^ (min (Int.toNat (k : Int)) IntKind.u16.bits))) 1 = ((x / 2 ^ k % 2 : Nat) : Int) := by
  have h1 : min (Int.toNat (k : Int)) IntKind.u16.bits = k := by show min _ 16 = _; omega
  have h2 : (x : Int).fdiv (2 ^ k) = ((x / 2 ^ k : Nat) : Int) := by
    rw [Int.fdiv_eq_ediv_of_nonneg _ (by exact_mod_cast Nat.zero_le _)]; simp
  rw [h1, h2]
  have h3 := u16_and (a := x / 2 ^ k) (b := 1) (Nat.lt_of_le_of_lt (Nat.div_le_self _ _) hx) (by decide)
  rw [Nat.and_one_is_mod] at h3
  exact h3
theorem check_spec (l : List Ins) (hok : okL l) (hl : l.length ≤ 1000000000) : Tells Try.prog 21 [inss l] (.tup [int (checkI l).1, int (checkI l).2]) := by
  refine tells_of_aw Try.func21 rfl rfl fun nx => ?_
  (repeat ((conv=>whnf);first|refine ω0 ?_|refine ω1 ?_|refine ω2 ?_|refine ω3 ?_|refine ω4 rfl ?_|refine ω5 rfl ?_|refine ω6 ?_|refine ω7 ?_|refine ω8 ?_|refine ⟨rfl,?_⟩|refine ⟨trivial,?_⟩|refine ⟨⟨rfl,Nat.le_of_ble_eq_true rfl⟩,?_⟩|refine ⟨⟨by kernel_rfl,by kernel_rfl⟩,?_⟩|refine ⟨by decide,?_⟩|refine lit_true ?_|refine lit_false ?_))
  refine aop_tells rfl rfl (formed_spec l hok hl) ⟨AVle.refl _, trivial⟩ fun nx => ?_
  (repeat ((conv=>whnf);first|refine ω0 ?_|refine ω1 ?_|refine ω2 ?_|refine ω3 ?_|refine ω4 rfl ?_|refine ω5 rfl ?_|refine ω6 ?_|refine ω7 ?_|refine ω8 ?_|refine ⟨rfl,?_⟩|refine ⟨trivial,?_⟩|refine ⟨⟨rfl,Nat.le_of_ble_eq_true rfl⟩,?_⟩|refine ⟨⟨by kernel_rfl,by kernel_rfl⟩,?_⟩|refine ⟨by decide,?_⟩|refine lit_true ?_|refine lit_false ?_))
  intro c g1; cases c
  · have g1 := bne_no g1
    have hfz : (formedI l).2 = 0 := by omega
    have hf : Formed l := formed_of hfz
    have hle := hf.le
    have hpos := hf.pos
    have hsl := storedI_length hf
    have hss := storedI_small hf
    (repeat ((conv=>whnf);first|refine ω0 ?_|refine ω1 ?_|refine ω2 ?_|refine ω3 ?_|refine ω4 rfl ?_|refine ω5 rfl ?_|refine ω6 ?_|refine ω7 ?_|refine ω8 ?_|refine ⟨rfl,?_⟩|refine ⟨trivial,?_⟩|refine ⟨⟨rfl,Nat.le_of_ble_eq_true rfl⟩,?_⟩|refine ⟨⟨by kernel_rfl,by kernel_rfl⟩,?_⟩|refine ⟨by decide,?_⟩|refine lit_true ?_|refine lit_false ?_))
    have hst := stored_spec l hok hl
    unfold foundS at hst
    rw [if_pos hfz] at hst
    refine aop_tells rfl rfl hst ⟨AVle.refl _, trivial⟩ fun nx => ?_
    (repeat ((conv=>whnf);first|refine ω0 ?_|refine ω1 ?_|refine ω2 ?_|refine ω3 ?_|refine ω4 rfl ?_|refine ω5 rfl ?_|refine ω6 ?_|refine ω7 ?_|refine ω8 ?_|refine ⟨rfl,?_⟩|refine ⟨trivial,?_⟩|refine ⟨⟨rfl,Nat.le_of_ble_eq_true rfl⟩,?_⟩|refine ⟨⟨by kernel_rfl,by kernel_rfl⟩,?_⟩|refine ⟨by decide,?_⟩|refine lit_true ?_|refine lit_false ?_))
    refine aw_loop (fun s : Nat × Nat => mk 57 [(0, inss l), (21, u16s (storedI l)), (22, int (storedI l).length), (23, int s.1)] ⟨[], [], s.2, 0⟩) (fun s => s.1 ≤ l.length ∧ ∀ j, j < s.1 → ¬ ((kind l j = 3 ∨ kind l j = 6) ∧ (storedI l).getD j 0 / 2 ^ (l.getD j ins0).k % 2 = 0)) (fun s => l.length - s.1) ?_ ?_
    · exact ⟨(0, _), ⟨by omega, by intro j hj; omega⟩, ele_mk rfl rfl ⟨AVle.refl _, AVle.refl _, AVle.refl _, AVle.refl _, trivial⟩⟩
    · rintro ⟨i, nx'⟩ ⟨h3, h4⟩
      dsimp only at h3 h4
      (repeat ((conv=>whnf);first|refine ω0 ?_|refine ω1 ?_|refine ω2 ?_|refine ω3 ?_|refine ω4 rfl ?_|refine ω5 rfl ?_|refine ω6 ?_|refine ω7 ?_|refine ω8 ?_|refine ⟨rfl,?_⟩|refine ⟨trivial,?_⟩|refine ⟨⟨rfl,Nat.le_of_ble_eq_true rfl⟩,?_⟩|refine ⟨⟨by kernel_rfl,by kernel_rfl⟩,?_⟩|refine ⟨by decide,?_⟩|refine lit_true ?_|refine lit_false ?_))
      intro c g2; cases c
      · have h5 := not_of g2
        dsimp only at h5
        obtain rfl : i = l.length := by omega
        (repeat ((conv=>whnf);first|refine ω0 ?_|refine ω1 ?_|refine ω2 ?_|refine ω3 ?_|refine ω4 rfl ?_|refine ω5 rfl ?_|refine ω6 ?_|refine ω7 ?_|refine ω8 ?_|refine ⟨rfl,?_⟩|refine ⟨trivial,?_⟩|refine ⟨⟨rfl,Nat.le_of_ble_eq_true rfl⟩,?_⟩|refine ⟨⟨by kernel_rfl,by kernel_rfl⟩,?_⟩|refine ⟨by decide,?_⟩|refine lit_true ?_|refine lit_false ?_))
        refine ret_tells rfl (AVle.of_eq ?_)
        have : checkI l = (0, 0) := by
          unfold checkI
          rw [if_neg (by omega), find_range_none fun j hj => by rw [decide_eq_false_iff_not]; exact h4 j hj]
        rw [this]; rfl
      · have h5 := yes_of g2
        dsimp only at h5
        have hi : i < l.length := by omega
        have hki : (l.getD i ins0).ok := hok.get hi
        have hpt := wrong_parts (hf.ok i hi)
        (repeat ((conv=>whnf);first|refine ω0 ?_|refine ω1 ?_|refine ω2 ?_|refine ω3 ?_|refine ω4 rfl ?_|refine ω5 rfl ?_|refine ω6 ?_|refine ω7 ?_|refine ω8 ?_|refine ⟨rfl,?_⟩|refine ⟨trivial,?_⟩|refine ⟨⟨rfl,Nat.le_of_ble_eq_true rfl⟩,?_⟩|refine ⟨⟨by kernel_rfl,by kernel_rfl⟩,?_⟩|refine ⟨by decide,?_⟩|refine lit_true ?_|refine lit_false ?_))
        refine ⟨⟨by dsimp only; omega, by dsimp only; omega⟩, ?_⟩
        (repeat ((conv=>whnf);first|refine ω0 ?_|refine ω1 ?_|refine ω2 ?_|refine ω3 ?_|refine ω4 rfl ?_|refine ω5 rfl ?_|refine ω6 ?_|refine ω7 ?_|refine ω8 ?_|refine ⟨rfl,?_⟩|refine ⟨trivial,?_⟩|refine ⟨⟨rfl,Nat.le_of_ble_eq_true rfl⟩,?_⟩|refine ⟨⟨by kernel_rfl,by kernel_rfl⟩,?_⟩|refine ⟨by decide,?_⟩|refine lit_true ?_|refine lit_false ?_))
        refine ⟨⟨by dsimp only; omega, by dsimp only; omega⟩, ?_⟩
        (repeat ((conv=>whnf);first|refine ω0 ?_|refine ω1 ?_|refine ω2 ?_|refine ω3 ?_|refine ω4 rfl ?_|refine ω5 rfl ?_|refine ω6 ?_|refine ω7 ?_|refine ω8 ?_|refine ⟨rfl,?_⟩|refine ⟨trivial,?_⟩|refine ⟨⟨rfl,Nat.le_of_ble_eq_true rfl⟩,?_⟩|refine ⟨⟨by kernel_rfl,by kernel_rfl⟩,?_⟩|refine ⟨by decide,?_⟩|refine lit_true ?_|refine lit_false ?_))
        refine aop_tells rfl rfl (of_kind (l.getD i ins0).code hki.1) ⟨AVle.refl _, trivial⟩ fun nx3 => ?_
        (repeat ((conv=>whnf);first|refine ω0 ?_|refine ω1 ?_|refine ω2 ?_|refine ω3 ?_|refine ω4 rfl ?_|refine ω5 rfl ?_|refine ω6 ?_|refine ω7 ?_|refine ω8 ?_|refine ⟨rfl,?_⟩|refine ⟨trivial,?_⟩|refine ⟨⟨rfl,Nat.le_of_ble_eq_true rfl⟩,?_⟩|refine ⟨⟨by kernel_rfl,by kernel_rfl⟩,?_⟩|refine ⟨by decide,?_⟩|refine lit_true ?_|refine lit_false ?_))
        intro c a1; cases c
        · have a1 := not_of a1
          (repeat ((conv=>whnf);first|refine ω0 ?_|refine ω1 ?_|refine ω2 ?_|refine ω3 ?_|refine ω4 rfl ?_|refine ω5 rfl ?_|refine ω6 ?_|refine ω7 ?_|refine ω8 ?_|refine ⟨rfl,?_⟩|refine ⟨trivial,?_⟩|refine ⟨⟨rfl,Nat.le_of_ble_eq_true rfl⟩,?_⟩|refine ⟨⟨by kernel_rfl,by kernel_rfl⟩,?_⟩|refine ⟨by decide,?_⟩|refine lit_true ?_|refine lit_false ?_))
          intro c a2; cases c
          · have a2 := not_of a2
            (repeat ((conv=>whnf);first|refine ω0 ?_|refine ω1 ?_|refine ω2 ?_|refine ω3 ?_|refine ω4 rfl ?_|refine ω5 rfl ?_|refine ω6 ?_|refine ω7 ?_|refine ω8 ?_|refine ⟨rfl,?_⟩|refine ⟨trivial,?_⟩|refine ⟨⟨rfl,Nat.le_of_ble_eq_true rfl⟩,?_⟩|refine ⟨⟨by kernel_rfl,by kernel_rfl⟩,?_⟩|refine ⟨by decide,?_⟩|refine lit_true ?_|refine lit_false ?_))
            refine back (i + 1, _) ⟨by dsimp only; omega, fun j hj => ?_⟩ (by dsimp only; omega) (ele_mk rfl rfl ⟨AVle.refl _, AVle.refl _, AVle.refl _, le_int (wrap_succ (by dsimp only; omega)), trivial⟩)
            dsimp only at hj
            rcases Nat.lt_or_ge j i with h | h
            · exact h4 j h
            · obtain rfl : j = i := by omega
              unfold kind; omega
          · have a2 := yes_of a2
            have hb := bit_of (hss i) (k := (l.getD i ins0).k) (by omega)
            have hkd : kind l i = 3 ∨ kind l i = 6 := by unfold kind; omega
            (repeat ((conv=>whnf);first|refine ω0 ?_|refine ω1 ?_|refine ω2 ?_|refine ω3 ?_|refine ω4 rfl ?_|refine ω5 rfl ?_|refine ω6 ?_|refine ω7 ?_|refine ω8 ?_|refine ⟨rfl,?_⟩|refine ⟨trivial,?_⟩|refine ⟨⟨rfl,Nat.le_of_ble_eq_true rfl⟩,?_⟩|refine ⟨⟨by kernel_rfl,by kernel_rfl⟩,?_⟩|refine ⟨by decide,?_⟩|refine lit_true ?_|refine lit_false ?_))
            (conv => whnf)
            refine ⟨⟨by dsimp only; omega, by dsimp only; omega⟩, ?_⟩
            (repeat ((conv=>whnf);first|refine ω0 ?_|refine ω1 ?_|refine ω2 ?_|refine ω3 ?_|refine ω4 rfl ?_|refine ω5 rfl ?_|refine ω6 ?_|refine ω7 ?_|refine ω8 ?_|refine ⟨rfl,?_⟩|refine ⟨trivial,?_⟩|refine ⟨⟨rfl,Nat.le_of_ble_eq_true rfl⟩,?_⟩|refine ⟨⟨by kernel_rfl,by kernel_rfl⟩,?_⟩|refine ⟨by decide,?_⟩|refine lit_true ?_|refine lit_false ?_))
            (conv => whnf)
            refine ⟨Int.natCast_nonneg _, ?_⟩
            (repeat ((conv=>whnf);first|refine ω0 ?_|refine ω1 ?_|refine ω2 ?_|refine ω3 ?_|refine ω4 rfl ?_|refine ω5 rfl ?_|refine ω6 ?_|refine ω7 ?_|refine ω8 ?_|refine ⟨rfl,?_⟩|refine ⟨trivial,?_⟩|refine ⟨⟨rfl,Nat.le_of_ble_eq_true rfl⟩,?_⟩|refine ⟨⟨by kernel_rfl,by kernel_rfl⟩,?_⟩|refine ⟨by decide,?_⟩|refine lit_true ?_|refine lit_false ?_))
            intro c a3; cases c
            · have a3 := not_of a3
              have a4 : ¬ (((storedI l).getD i 0 / 2 ^ (l.getD i ins0).k % 2 : Nat) : Int) = 0 := hb ▸ a3
              (repeat ((conv=>whnf);first|refine ω0 ?_|refine ω1 ?_|refine ω2 ?_|refine ω3 ?_|refine ω4 rfl ?_|refine ω5 rfl ?_|refine ω6 ?_|refine ω7 ?_|refine ω8 ?_|refine ⟨rfl,?_⟩|refine ⟨trivial,?_⟩|refine ⟨⟨rfl,Nat.le_of_ble_eq_true rfl⟩,?_⟩|refine ⟨⟨by kernel_rfl,by kernel_rfl⟩,?_⟩|refine ⟨by decide,?_⟩|refine lit_true ?_|refine lit_false ?_))
              refine back (i + 1, _) ⟨by dsimp only; omega, fun j hj => ?_⟩ (by dsimp only; omega) (ele_mk rfl rfl ⟨AVle.refl _, AVle.refl _, AVle.refl _, le_int (wrap_succ (by dsimp only; omega)), trivial⟩)
              dsimp only at hj
              rcases Nat.lt_or_ge j i with h | h
              · exact h4 j h
              · obtain rfl : j = i := by omega
                unfold kind; omega
            · have a3 := yes_of a3
              have a4 : (((storedI l).getD i 0 / 2 ^ (l.getD i ins0).k % 2 : Nat) : Int) = 0 := hb ▸ a3
              (repeat ((conv=>whnf);first|refine ω0 ?_|refine ω1 ?_|refine ω2 ?_|refine ω3 ?_|refine ω4 rfl ?_|refine ω5 rfl ?_|refine ω6 ?_|refine ω7 ?_|refine ω8 ?_|refine ⟨rfl,?_⟩|refine ⟨trivial,?_⟩|refine ⟨⟨rfl,Nat.le_of_ble_eq_true rfl⟩,?_⟩|refine ⟨⟨by kernel_rfl,by kernel_rfl⟩,?_⟩|refine ⟨by decide,?_⟩|refine lit_true ?_|refine lit_false ?_))
              refine ret_tells rfl (AVle.of_eq ?_)
              have : checkI l = (i, 12) := by
                unfold checkI
                rw [if_neg (by omega), find_range_some hi (by rw [decide_eq_true_eq]; exact ⟨hkd, by omega⟩) (fun j hj => by rw [decide_eq_false_iff_not]; exact h4 j hj)]
              rw [this]; rfl
        · have a1 := yes_of a1
          have hb := bit_of (hss i) (k := (l.getD i ins0).k) (by omega)
          have hkd : kind l i = 3 ∨ kind l i = 6 := by unfold kind; omega
          (repeat ((conv=>whnf);first|refine ω0 ?_|refine ω1 ?_|refine ω2 ?_|refine ω3 ?_|refine ω4 rfl ?_|refine ω5 rfl ?_|refine ω6 ?_|refine ω7 ?_|refine ω8 ?_|refine ⟨rfl,?_⟩|refine ⟨trivial,?_⟩|refine ⟨⟨rfl,Nat.le_of_ble_eq_true rfl⟩,?_⟩|refine ⟨⟨by kernel_rfl,by kernel_rfl⟩,?_⟩|refine ⟨by decide,?_⟩|refine lit_true ?_|refine lit_false ?_))
          (conv => whnf)
          refine ⟨⟨by dsimp only; omega, by dsimp only; omega⟩, ?_⟩
          (repeat ((conv=>whnf);first|refine ω0 ?_|refine ω1 ?_|refine ω2 ?_|refine ω3 ?_|refine ω4 rfl ?_|refine ω5 rfl ?_|refine ω6 ?_|refine ω7 ?_|refine ω8 ?_|refine ⟨rfl,?_⟩|refine ⟨trivial,?_⟩|refine ⟨⟨rfl,Nat.le_of_ble_eq_true rfl⟩,?_⟩|refine ⟨⟨by kernel_rfl,by kernel_rfl⟩,?_⟩|refine ⟨by decide,?_⟩|refine lit_true ?_|refine lit_false ?_))
          (conv => whnf)
          refine ⟨Int.natCast_nonneg _, ?_⟩
          (repeat ((conv=>whnf);first|refine ω0 ?_|refine ω1 ?_|refine ω2 ?_|refine ω3 ?_|refine ω4 rfl ?_|refine ω5 rfl ?_|refine ω6 ?_|refine ω7 ?_|refine ω8 ?_|refine ⟨rfl,?_⟩|refine ⟨trivial,?_⟩|refine ⟨⟨rfl,Nat.le_of_ble_eq_true rfl⟩,?_⟩|refine ⟨⟨by kernel_rfl,by kernel_rfl⟩,?_⟩|refine ⟨by decide,?_⟩|refine lit_true ?_|refine lit_false ?_))
          intro c a3; cases c
          · have a3 := not_of a3
            have a4 : ¬ (((storedI l).getD i 0 / 2 ^ (l.getD i ins0).k % 2 : Nat) : Int) = 0 := hb ▸ a3
            (repeat ((conv=>whnf);first|refine ω0 ?_|refine ω1 ?_|refine ω2 ?_|refine ω3 ?_|refine ω4 rfl ?_|refine ω5 rfl ?_|refine ω6 ?_|refine ω7 ?_|refine ω8 ?_|refine ⟨rfl,?_⟩|refine ⟨trivial,?_⟩|refine ⟨⟨rfl,Nat.le_of_ble_eq_true rfl⟩,?_⟩|refine ⟨⟨by kernel_rfl,by kernel_rfl⟩,?_⟩|refine ⟨by decide,?_⟩|refine lit_true ?_|refine lit_false ?_))
            refine back (i + 1, _) ⟨by dsimp only; omega, fun j hj => ?_⟩ (by dsimp only; omega) (ele_mk rfl rfl ⟨AVle.refl _, AVle.refl _, AVle.refl _, le_int (wrap_succ (by dsimp only; omega)), trivial⟩)
            dsimp only at hj
            rcases Nat.lt_or_ge j i with h | h
            · exact h4 j h
            · obtain rfl : j = i := by omega
              unfold kind; omega
          · have a3 := yes_of a3
            have a4 : (((storedI l).getD i 0 / 2 ^ (l.getD i ins0).k % 2 : Nat) : Int) = 0 := hb ▸ a3
            (repeat ((conv=>whnf);first|refine ω0 ?_|refine ω1 ?_|refine ω2 ?_|refine ω3 ?_|refine ω4 rfl ?_|refine ω5 rfl ?_|refine ω6 ?_|refine ω7 ?_|refine ω8 ?_|refine ⟨rfl,?_⟩|refine ⟨trivial,?_⟩|refine ⟨⟨rfl,Nat.le_of_ble_eq_true rfl⟩,?_⟩|refine ⟨⟨by kernel_rfl,by kernel_rfl⟩,?_⟩|refine ⟨by decide,?_⟩|refine lit_true ?_|refine lit_false ?_))
            refine ret_tells rfl (AVle.of_eq ?_)
            have : checkI l = (i, 12) := by
              unfold checkI
              rw [if_neg (by omega), find_range_some hi (by rw [decide_eq_true_eq]; exact ⟨hkd, by omega⟩) (fun j hj => by rw [decide_eq_false_iff_not]; exact h4 j hj)]
            rw [this]; rfl
  · have g1 := bne_yes g1
    (repeat ((conv=>whnf);first|refine ω0 ?_|refine ω1 ?_|refine ω2 ?_|refine ω3 ?_|refine ω4 rfl ?_|refine ω5 rfl ?_|refine ω6 ?_|refine ω7 ?_|refine ω8 ?_|refine ⟨rfl,?_⟩|refine ⟨trivial,?_⟩|refine ⟨⟨rfl,Nat.le_of_ble_eq_true rfl⟩,?_⟩|refine ⟨⟨by kernel_rfl,by kernel_rfl⟩,?_⟩|refine ⟨by decide,?_⟩|refine lit_true ?_|refine lit_false ?_))
    refine ret_tells rfl (AVle.of_eq ?_)
    have : checkI l = formedI l := by
      unfold checkI
      rw [if_pos (by omega)]
    rw [this]; rfl
end Go.Proofs.W

namespace Go.Proofs.W
open Go.Vl
set_option maxRecDepth 100000

theorem le_ints1 {f : Nat → AV} {oi : Option Vl.Id} {a : Nat} {x : Int} (h : f 0 = int x) (hx : x = (a : Nat)) : AVle (.os 1 1 f oi) (ints [a]) :=
  AVle.os_sl.trans (AVle.sl_fun fun k hk => by obtain rfl : k = 0 := by omega
                                               rw [h, hx]; rfl)
theorem le_ints2 {f : Nat → AV} {oi : Option Vl.Id} {a b : Nat} {x y : Int} (h : f 0 = int x) (hx : x = (a : Nat)) (h' : f 1 = int y) (hy : y = (b : Nat)) : AVle (.os 1 2 f oi) (ints [a, b]) :=
  AVle.os_sl.trans (AVle.sl_fun fun k hk => by
    rcases k with _ | _ | k
    · rw [h, hx]; rfl
    · rw [h', hy]; rfl
    · omega)
theorem wrap_two {n k : Nat} (h : n + 1 + k ≤ 1000000000) : IntKind.i64.wrap (IntKind.i64.wrap ((n : Int) + 1) + IntKind.i64.wrap (k : Int)) = ((n + 1 + k : Nat) : Int) := by
  rw [show IntKind.i64.wrap (k : Int) = k from wrap_id (by omega) (by omega), show IntKind.i64.wrap ((n : Int) + 1) = (n : Int) + 1 from wrap_id (by omega) (by omega), wrap_id (by omega) (by omega)]; omega
theorem next_spec (l : List Ins) (hok : okL l) (hf : Formed l) (n : Nat) (hn : n < l.length) : Tells Try.prog 52 [inss l, int n] (ints (nextsI l n)) := by
  have hle := hf.le
  have hki : (l.getD n ins0).ok := hok.get hn
  have hnx := nexts_lt hf hn
  refine tells_of_aw Try.func52 rfl rfl fun nx => ?_
  (repeat ((conv=>whnf);first|refine ω0 ?_|refine ω1 ?_|refine ω2 ?_|refine ω3 ?_|refine ω4 rfl ?_|refine ω5 rfl ?_|refine ω6 ?_|refine ω7 ?_|refine ω8 ?_|refine ⟨rfl,?_⟩|refine ⟨trivial,?_⟩|refine ⟨⟨rfl,Nat.le_of_ble_eq_true rfl⟩,?_⟩|refine ⟨⟨by kernel_rfl,by kernel_rfl⟩,?_⟩|refine ⟨by decide,?_⟩|refine lit_true ?_|refine lit_false ?_))
  refine ⟨⟨by omega, by omega⟩, ?_⟩
  (repeat ((conv=>whnf);first|refine ω0 ?_|refine ω1 ?_|refine ω2 ?_|refine ω3 ?_|refine ω4 rfl ?_|refine ω5 rfl ?_|refine ω6 ?_|refine ω7 ?_|refine ω8 ?_|refine ⟨rfl,?_⟩|refine ⟨trivial,?_⟩|refine ⟨⟨rfl,Nat.le_of_ble_eq_true rfl⟩,?_⟩|refine ⟨⟨by kernel_rfl,by kernel_rfl⟩,?_⟩|refine ⟨by decide,?_⟩|refine lit_true ?_|refine lit_false ?_))
  refine aop_tells rfl rfl (of_kind (l.getD n ins0).code hki.1) ⟨AVle.refl _, trivial⟩ fun nx3 => ?_
  (repeat ((conv=>whnf);first|refine ω0 ?_|refine ω1 ?_|refine ω2 ?_|refine ω3 ?_|refine ω4 rfl ?_|refine ω5 rfl ?_|refine ω6 ?_|refine ω7 ?_|refine ω8 ?_|refine ⟨rfl,?_⟩|refine ⟨trivial,?_⟩|refine ⟨⟨rfl,Nat.le_of_ble_eq_true rfl⟩,?_⟩|refine ⟨⟨by kernel_rfl,by kernel_rfl⟩,?_⟩|refine ⟨by decide,?_⟩|refine lit_true ?_|refine lit_false ?_))
  intro c a1; cases c
  · have a1 := not_of a1
    (repeat ((conv=>whnf);first|refine ω0 ?_|refine ω1 ?_|refine ω2 ?_|refine ω3 ?_|refine ω4 rfl ?_|refine ω5 rfl ?_|refine ω6 ?_|refine ω7 ?_|refine ω8 ?_|refine ⟨rfl,?_⟩|refine ⟨trivial,?_⟩|refine ⟨⟨rfl,Nat.le_of_ble_eq_true rfl⟩,?_⟩|refine ⟨⟨by kernel_rfl,by kernel_rfl⟩,?_⟩|refine ⟨by decide,?_⟩|refine lit_true ?_|refine lit_false ?_))
    intro c a2; cases c
    · have a2 := not_of a2
      (repeat ((conv=>whnf);first|refine ω0 ?_|refine ω1 ?_|refine ω2 ?_|refine ω3 ?_|refine ω4 rfl ?_|refine ω5 rfl ?_|refine ω6 ?_|refine ω7 ?_|refine ω8 ?_|refine ⟨rfl,?_⟩|refine ⟨trivial,?_⟩|refine ⟨⟨rfl,Nat.le_of_ble_eq_true rfl⟩,?_⟩|refine ⟨⟨by kernel_rfl,by kernel_rfl⟩,?_⟩|refine ⟨by decide,?_⟩|refine lit_true ?_|refine lit_false ?_))
      intro c a3; cases c
      · have a3 := not_of a3
        (repeat ((conv=>whnf);first|refine ω0 ?_|refine ω1 ?_|refine ω2 ?_|refine ω3 ?_|refine ω4 rfl ?_|refine ω5 rfl ?_|refine ω6 ?_|refine ω7 ?_|refine ω8 ?_|refine ⟨rfl,?_⟩|refine ⟨trivial,?_⟩|refine ⟨⟨rfl,Nat.le_of_ble_eq_true rfl⟩,?_⟩|refine ⟨⟨by kernel_rfl,by kernel_rfl⟩,?_⟩|refine ⟨by decide,?_⟩|refine lit_true ?_|refine lit_false ?_))
        intro c a4; cases c
        · have a4 := not_of a4
          have hnxt : nextsI l n = [n + 1] := by unfold nextsI kind; rw [if_neg (by omega), if_neg (by omega), if_neg (by omega)]
          (repeat ((conv=>whnf);first|refine ω0 ?_|refine ω1 ?_|refine ω2 ?_|refine ω3 ?_|refine ω4 rfl ?_|refine ω5 rfl ?_|refine ω6 ?_|refine ω7 ?_|refine ω8 ?_|refine ⟨rfl,?_⟩|refine ⟨trivial,?_⟩|refine ⟨⟨rfl,Nat.le_of_ble_eq_true rfl⟩,?_⟩|refine ⟨⟨by kernel_rfl,by kernel_rfl⟩,?_⟩|refine ⟨by decide,?_⟩|refine lit_true ?_|refine lit_false ?_))
          refine ret_tells rfl ?_
          rw [hnxt]
          exact le_ints1 rfl (wrap_succ (by omega))
        · have a4 := yes_of a4
          have hnxt : nextsI l n = [n + 1 + (l.getD n ins0).jt, n + 1 + (l.getD n ins0).jf] := by unfold nextsI kind; rw [if_neg (by omega), if_neg (by omega), if_pos (by omega)]
          have h1 := hnx (n + 1 + (l.getD n ins0).jt) (by rw [hnxt]; simp)
          have h2 := hnx (n + 1 + (l.getD n ins0).jf) (by rw [hnxt]; simp)
          (repeat ((conv=>whnf);first|refine ω0 ?_|refine ω1 ?_|refine ω2 ?_|refine ω3 ?_|refine ω4 rfl ?_|refine ω5 rfl ?_|refine ω6 ?_|refine ω7 ?_|refine ω8 ?_|refine ⟨rfl,?_⟩|refine ⟨trivial,?_⟩|refine ⟨⟨rfl,Nat.le_of_ble_eq_true rfl⟩,?_⟩|refine ⟨⟨by kernel_rfl,by kernel_rfl⟩,?_⟩|refine ⟨by decide,?_⟩|refine lit_true ?_|refine lit_false ?_))
          refine ret_tells rfl ?_
          rw [hnxt]
          exact le_ints2 rfl (wrap_two (n := n) (k := (l.getD n ins0).jt) (by omega)) rfl (wrap_two (n := n) (k := (l.getD n ins0).jf) (by omega))
      · have a3 := yes_of a3
        have hnxt : nextsI l n = [n + 1 + (l.getD n ins0).k] := by unfold nextsI kind; rw [if_neg (by omega), if_pos (by omega)]
        have h1 := hnx (n + 1 + (l.getD n ins0).k) (by rw [hnxt]; simp)
        (repeat ((conv=>whnf);first|refine ω0 ?_|refine ω1 ?_|refine ω2 ?_|refine ω3 ?_|refine ω4 rfl ?_|refine ω5 rfl ?_|refine ω6 ?_|refine ω7 ?_|refine ω8 ?_|refine ⟨rfl,?_⟩|refine ⟨trivial,?_⟩|refine ⟨⟨rfl,Nat.le_of_ble_eq_true rfl⟩,?_⟩|refine ⟨⟨by kernel_rfl,by kernel_rfl⟩,?_⟩|refine ⟨by decide,?_⟩|refine lit_true ?_|refine lit_false ?_))
        refine ret_tells rfl ?_
        rw [hnxt]
        exact le_ints1 rfl (wrap_two (n := n) (k := (l.getD n ins0).k) (by omega))
    · have a2 := yes_of a2
      have hnxt : nextsI l n = [] := by unfold nextsI kind; rw [if_pos (by omega)]
      (repeat ((conv=>whnf);first|refine ω0 ?_|refine ω1 ?_|refine ω2 ?_|refine ω3 ?_|refine ω4 rfl ?_|refine ω5 rfl ?_|refine ω6 ?_|refine ω7 ?_|refine ω8 ?_|refine ⟨rfl,?_⟩|refine ⟨trivial,?_⟩|refine ⟨⟨rfl,Nat.le_of_ble_eq_true rfl⟩,?_⟩|refine ⟨⟨by kernel_rfl,by kernel_rfl⟩,?_⟩|refine ⟨by decide,?_⟩|refine lit_true ?_|refine lit_false ?_))
      refine ret_tells rfl ?_
      rw [hnxt]
      exact AVle.os_sl0
  · have a1 := yes_of a1
    have hnxt : nextsI l n = [] := by unfold nextsI kind; rw [if_pos (by omega)]
    (repeat ((conv=>whnf);first|refine ω0 ?_|refine ω1 ?_|refine ω2 ?_|refine ω3 ?_|refine ω4 rfl ?_|refine ω5 rfl ?_|refine ω6 ?_|refine ω7 ?_|refine ω8 ?_|refine ⟨rfl,?_⟩|refine ⟨trivial,?_⟩|refine ⟨⟨rfl,Nat.le_of_ble_eq_true rfl⟩,?_⟩|refine ⟨⟨by kernel_rfl,by kernel_rfl⟩,?_⟩|refine ⟨by decide,?_⟩|refine lit_true ?_|refine lit_false ?_))
    refine ret_tells rfl ?_
    rw [hnxt]
    exact AVle.os_sl0
end Go.Proofs.W

namespace Go.Proofs.W

/-- Reached, where nothing goes on behind what stops. -/
inductive Rch (l : List Ins) (stop : Nat → Bool) : Nat → Prop
  | zero : Rch l stop 0
  | step (n t : Nat) (h : Rch l stop n) (hs : stop n = false) (ht : t ∈ nextsI l n) : Rch l stop t
theorem Rch.lt {l : List Ins} {stop : Nat → Bool} (hf : Formed l) {n : Nat} (h : Rch l stop n) : n < l.length := by
  induction h with
  | zero => exact hf.pos
  | step n t _ _ ht ih => exact (nexts_lt hf ih t ht).2
def setT (o : List Bool) (t : Nat) : List Bool := o.set t true
def scanStep (l : List Ins) (stop : Nat → Bool) (o : List Bool) (n : Nat) : List Bool := if o.getD n false && !stop n then (nextsI l n).foldl setT o else o
def scan0 (n : Nat) : List Bool := setT (List.replicate n false) 0
def scanN (l : List Ins) (stop : Nat → Bool) (k : Nat) : List Bool := (List.range k).foldl (scanStep l stop) (scan0 l.length)
def reachC (l : List Ins) (stop : Nat → Bool) : List Bool := scanN l stop l.length
def reachI (l : List Ins) : List Bool := reachC l fun _ => false
theorem setT_get (o : List Bool) (t k : Nat) : (setT o t).getD k false = (o.getD k false || (decide (t = k) && decide (t < o.length))) := by
  simp only [setT, List.getD, List.getElem?_set]
  by_cases h1 : t = k
  · subst h1
    by_cases h2 : t < o.length
    · simp [h2]
    · simp [h2, List.getElem?_eq_none (Nat.le_of_not_lt h2)]
  · simp [h1]
theorem setT_length (o : List Bool) (t : Nat) : (setT o t).length = o.length := by simp [setT]
theorem foldT_length : ∀ (ts : List Nat) (o : List Bool), (ts.foldl setT o).length = o.length
  | [], _ => rfl
  | t :: ts, o => by rw [List.foldl_cons, foldT_length ts, setT_length]
theorem foldT_get : ∀ (ts : List Nat) (o : List Bool) (k : Nat), (∀ t ∈ ts, t < o.length) → ((ts.foldl setT o).getD k false = true ↔ o.getD k false = true ∨ k ∈ ts)
  | [], o, k, _ => by simp
  | t :: ts, o, k, h => by
    rw [List.foldl_cons, foldT_get ts (setT o t) k (fun x hx => by rw [setT_length]; exact h x (by simp [hx])), setT_get]
    have ht := h t (by simp)
    rw [show (decide (t = k)) = decide (k = t) from decide_eq_decide.2 eq_comm]
    simp [ht, or_assoc]
theorem scanN_succ (l : List Ins) (stop : Nat → Bool) (k : Nat) : scanN l stop (k + 1) = scanStep l stop (scanN l stop k) k := by simp [scanN, List.range_succ]
theorem scanStep_length (l : List Ins) (stop : Nat → Bool) (o : List Bool) (n : Nat) : (scanStep l stop o n).length = o.length := by
  unfold scanStep; split
  · exact foldT_length _ _
  · rfl
theorem scanN_length (l : List Ins) (stop : Nat → Bool) (k : Nat) : (scanN l stop k).length = l.length := by
  induction k with
  | zero => simp [scanN, scan0, setT_length]
  | succ k ih => rw [scanN_succ, scanStep_length, ih]
theorem scan0_get {n : Nat} (hn : 0 < n) (k : Nat) : (scan0 n).getD k false = true ↔ k = 0 := by
  rw [scan0, setT_get]
  have : (List.replicate n false).getD k false = false := by
    simp only [List.getD, List.getElem?_replicate]; split <;> rfl
  rw [this]
  simp [hn, eq_comm]
theorem scan_iff {l : List Ins} (hf : Formed l) (stop : Nat → Bool) : ∀ k, k ≤ l.length → ∀ n, (scanN l stop k).getD n false = true ↔ n = 0 ∨ ∃ m, m < k ∧ Rch l stop m ∧ stop m = false ∧ n ∈ nextsI l m := by
  intro k
  induction k with
  | zero => intro _ n; rw [show scanN l stop 0 = scan0 l.length from rfl, scan0_get hf.pos]; simp
  | succ k ih =>
    intro hk n
    have hR : (scanN l stop k).getD k false = true ↔ Rch l stop k := by
      rw [ih (by omega)]
      constructor
      · rintro (h | ⟨m, _, h1, h2, h3⟩)
        · subst h; exact .zero
        · exact .step m k h1 h2 h3
      · intro h
        cases h with
        | zero => exact .inl rfl
        | step m _ h1 h2 h3 => exact .inr ⟨m, (nexts_lt hf (h1.lt hf) k h3).1, h1, h2, h3⟩
    rw [scanN_succ, scanStep]
    split
    · rename_i h
      simp only [Bool.and_eq_true, Bool.not_eq_true'] at h
      rw [foldT_get _ _ _ (fun t ht => by rw [scanN_length]; exact (nexts_lt hf (by omega) t ht).2), ih (by omega)]
      constructor
      · rintro ((h1 | ⟨m, h1, h2⟩) | h1)
        · exact .inl h1
        · exact .inr ⟨m, by omega, h2⟩
        · exact .inr ⟨k, by omega, hR.1 h.1, h.2, h1⟩
      · rintro (h1 | ⟨m, h1, h2, h3, h4⟩)
        · exact .inl (.inl h1)
        · rcases Nat.lt_or_ge m k with h5 | h5
          · exact .inl (.inr ⟨m, h5, h2, h3, h4⟩)
          · obtain rfl : m = k := by omega
            exact .inr h4
    · rename_i h
      simp only [Bool.and_eq_true, Bool.not_eq_true'] at h
      rw [ih (by omega)]
      constructor
      · rintro (h1 | ⟨m, h1, h2⟩)
        · exact .inl h1
        · exact .inr ⟨m, by omega, h2⟩
      · rintro (h1 | ⟨m, h1, h2, h3, h4⟩)
        · exact .inl h1
        · rcases Nat.lt_or_ge m k with h5 | h5
          · exact .inr ⟨m, h5, h2, h3, h4⟩
          · obtain rfl : m = k := by omega
            exact absurd ⟨hR.2 h2, h3⟩ h
theorem reachC_iff {l : List Ins} (hf : Formed l) (stop : Nat → Bool) (n : Nat) : (reachC l stop).getD n false = true ↔ Rch l stop n := by
  rw [reachC, scan_iff hf stop l.length (Nat.le_refl _)]
  constructor
  · rintro (h | ⟨m, _, h1, h2, h3⟩)
    · subst h; exact .zero
    · exact .step m n h1 h2 h3
  · intro h
    cases h with
    | zero => exact .inl rfl
    | step m _ h1 h2 h3 => exact .inr ⟨m, h1.lt hf, h1, h2, h3⟩
theorem reachC_length (l : List Ins) (stop : Nat → Bool) : (reachC l stop).length = l.length := scanN_length l stop l.length
theorem reachI_length (l : List Ins) : (reachI l).length = l.length := reachC_length l _
abbrev Reached (l : List Ins) (n : Nat) : Prop := Rch l (fun _ => false) n
theorem reachI_iff {l : List Ins} (hf : Formed l) (n : Nat) : (reachI l).getD n false = true ↔ Reached l n := reachC_iff hf _ n
end Go.Proofs.W

namespace Go.Proofs.W

def stopC (l : List Ins) (c : Nat) (n : Nat) : Bool := decide (isStore (kind l n)) && decide ((l.getD n ins0).k = c)
theorem fold_bit (now c : Nat) : ∀ (ts : List Nat) (a : List Nat) (n : Nat), (∀ t ∈ ts, t < a.length) → ((ts.foldl (goI now) a).getD n 0).testBit c = ((a.getD n 0).testBit c && (!decide (n ∈ ts) || now.testBit c))
  | [], a, n, _ => by simp
  | t :: ts, a, n, h => by
    rw [List.foldl_cons, fold_bit now c ts (goI now a t) n (fun x hx => by rw [goI_length]; exact h x (by simp [hx])), goI_get]
    have ht := h t (by simp)
    by_cases h1 : t = n
    · subst h1
      rw [if_pos ⟨rfl, ht⟩, Nat.testBit_and]
      by_cases h2 : t ∈ ts <;> cases (a.getD t 0).testBit c <;> cases now.testBit c <;> simp [h2]
    · rw [if_neg (fun h => h1 h.1)]
      have h3 : decide (n ∈ t :: ts) = decide (n ∈ ts) := decide_eq_decide.2 (by rw [List.mem_cons]; exact ⟨fun h => h.resolve_left fun h2 => h1 h2.symm, .inr⟩)
      rw [h3]
theorem foldT_bit : ∀ (ts : List Nat) (o : List Bool) (k : Nat), (∀ t ∈ ts, t < o.length) → (ts.foldl setT o).getD k false = (o.getD k false || decide (k ∈ ts)) := fun ts o k h => by
  rw [Bool.eq_iff_iff, foldT_get ts o k h]; simp
theorem init_bit {n k c : Nat} (hn : n ≤ 4096) (hk : k < n) (hc : c < 16) : ((initS n).getD k 0).testBit c = !(scan0 n).getD k false := by
  rw [initS_get hn]
  by_cases h : k = 0
  · subst h
    rw [(scan0_get hk 0).2 rfl]; simp
  · have h1 : (scan0 n).getD k false = false := by
      cases h2 : (scan0 n).getD k false
      · rfl
      · exact absurd ((scan0_get (by omega) k).1 h2) h
    rw [h1, if_pos ⟨by omega, hk⟩]
    show (2 ^ 16 - 1).testBit c = _
    rw [Nat.testBit_two_pow_sub_one]; simp [hc]
theorem now_bit {l : List Ins} (n c a : Nat) : (nowI (l.getD n ins0) a).testBit c = (a.testBit c || stopC l c n) := by
  unfold nowI stopC
  have hk : (kof (l.getD n ins0).code).1 = kind l n := rfl
  rw [hk]
  by_cases h : isStore (kind l n)
  · rw [if_pos h, Nat.testBit_or, Nat.testBit_two_pow]; simp [h]
  · rw [if_neg h]; simp [h]
/-- What is stored on every way, bit by bit: the cells without which nothing leads there. -/
theorem at_scan {l : List Ins} (hf : Formed l) {c : Nat} (hc : c < 16) : ∀ k, k ≤ l.length → ∀ n, n < l.length → ((atI l k).getD n 0).testBit c = !(scanN l (stopC l c) k).getD n false := by
  intro k
  induction k with
  | zero => intro _ n hn; exact init_bit hf.le hn hc
  | succ k ih =>
    intro hk n hn
    have hnx := nexts_lt hf (n := k) (by omega)
    rw [atI_succ, scanN_succ, stepS, scanStep, fold_bit _ _ _ _ _ (fun t ht => by rw [atI_length hf.le]; have := hnx t ht; have := hf.le; omega), now_bit, ih (by omega) n hn, ih (by omega) k (by omega)]
    split
    · rename_i h
      rw [foldT_bit _ _ _ (fun t ht => by rw [scanN_length]; exact (hnx t ht).2)]
      simp only [Bool.and_eq_true, Bool.not_eq_true'] at h
      rw [h.1, h.2]
      cases (scanN l (stopC l c) k).getD n false <;> cases decide (n ∈ nextsI l k) <;> rfl
    · rename_i h
      cases h1 : (scanN l (stopC l c) k).getD k false <;> cases h2 : stopC l c k
      · simp
      · simp
      · rw [h1, h2] at h; exact absurd rfl h
      · simp
theorem stored_bit {l : List Ins} (hf : Formed l) {c n : Nat} (hc : c < 16) (hn : n < l.length) : ((storedI l).getD n 0).testBit c = true ↔ ¬ Rch l (stopC l c) n := by
  have h1 : (storedI l).getD n 0 = (atI l l.length).getD n 0 := by
    unfold storedI; simp only [List.getD, List.getElem?_take]; rw [if_pos hn]
  rw [h1, at_scan hf hc l.length (Nat.le_refl _) n hn, Bool.not_eq_true', ← reachC_iff hf]
  show reachC l _ |>.getD n false |> fun x => x = false ↔ _
  simp [reachC]
def Right (l : List Ins) : Prop := Formed l ∧ ∀ n, n < l.length → kind l n = 3 ∨ kind l n = 6 → ¬ Rch l (stopC l (l.getD n ins0).k) n
theorem check_iff {l : List Ins} : (checkI l).2 = 0 ↔ Right l := by
  have key : ∀ (hf : Formed l) n, n < l.length → kind l n = 3 ∨ kind l n = 6 → ((storedI l).getD n 0 / 2 ^ (l.getD n ins0).k % 2 = 0 ↔ Rch l (stopC l (l.getD n ins0).k) n) := by
    intro hf n hn hk
    have hk16 : (l.getD n ins0).k < 16 := by
      have := (wrong_parts (hf.ok n hn)).2.2.1
      have hkd : (kof (l.getD n ins0).code).1 = kind l n := rfl
      omega
    have h1 := stored_bit hf hk16 hn
    rw [Nat.testBit_eq_decide_div_mod_eq, decide_eq_true_eq] at h1
    constructor
    · intro h
      refine Classical.byContradiction fun h2 => ?_
      have := h1.2 h2
      omega
    · intro h
      have h3 : ¬ ((storedI l).getD n 0 / 2 ^ (l.getD n ins0).k % 2 = 1) := fun h2 => h1.1 h2 h
      omega
  constructor
  · intro h
    unfold checkI at h
    split at h
    · exact absurd h (by assumption)
    · rename_i h0
      have hf : Formed l := formed_of (by omega)
      split at h
      · cases h
      · rename_i hn
        rw [List.find?_range_eq_none] at hn
        refine ⟨hf, fun n hnl hk hr => ?_⟩
        have := hn n hnl
        simp only [Bool.not_eq_true', decide_eq_false_iff_not] at this
        exact this ⟨hk, (key hf n hnl hk).2 hr⟩
  · rintro ⟨hf, h⟩
    unfold checkI
    rw [if_neg (fun h0 => formed_fail h0 hf)]
    rw [List.find?_range_eq_none.2 (fun i hi => by
      simp only [Bool.not_eq_true', decide_eq_false_iff_not]
      rintro ⟨h1, h2⟩
      exact h i hi h1 ((key hf i hi h1).1 h2))]
end Go.Proofs.W

namespace Go.Proofs.W
open Go.Vl
set_option maxRecDepth 100000

def aloneC : List Nat := [32, 0, 96, 128, 1, 97, 129, 2, 3, 7, 135, 132, 5, 6, 22]
def bothC : List Nat := [4, 20, 36, 52, 68, 84, 100, 116, 164, 21, 37, 53, 69]
theorem build15 : abuildCells Try.prog 37 15 [(0, int 32), (1, int 0), (2, int 96), (3, int 128), (4, int 1), (5, int 97), (6, int 129), (7, int 2), (8, int 3), (9, int 7), (10, int 135), (11, int 132), (12, int 5), (13, int 6), (14, int 22)] = some (3, [int 32, int 0, int 96, int 128, int 1, int 97, int 129, int 2, int 3, int 7, int 135, int 132, int 5, int 6, int 22]) := by kernel_rfl
theorem build13 : abuildCells Try.prog 37 13 [(0, int 4), (1, int 20), (2, int 36), (3, int 52), (4, int 68), (5, int 84), (6, int 100), (7, int 116), (8, int 164), (9, int 21), (10, int 37), (11, int 53), (12, int 69)] = some (3, [int 4, int 20, int 36, int 52, int 68, int 84, int 100, int 116, int 164, int 21, int 37, int 53, int 69]) := by kernel_rfl
theorem findIdx_some {l : List Nat} {p : Nat → Bool} {i : Nat} (hi : i < l.length) (h : p (l.getD i 0) = true) (hb : ∀ j, j < i → p (l.getD j 0) = false) : l.findIdx? p = some i := by
  rw [List.findIdx?_eq_some_iff_getElem]
  refine ⟨hi, ?_, fun j hj => ?_⟩
  · simpa [List.getD, hi] using h
  · have := hb j hj
    simpa [List.getD, show j < l.length by omega] using this
theorem findIdx_none {l : List Nat} {p : Nat → Bool} (hb : ∀ j, j < l.length → p (l.getD j 0) = false) : l.findIdx? p = none := by
  rw [List.findIdx?_eq_none_iff]
  intro x hx
  obtain ⟨j, hj, rfl⟩ := List.getElem_of_mem hx
  have := hb j hj
  simpa [List.getD, hj] using this
theorem refOf_alone {c i : Nat} (hi : i < 15) (h : c = aloneC.getD i 0) (hb : ∀ j, j < i → (c == aloneC.getD j 0) = false) : refOf c = (i + 1, false) := by
  have e : aloneC.findIdx? (fun a => c == a) = some i := findIdx_some hi (by rw [h]; simp) hb
  show (match aloneC.findIdx? (fun a => c == a) with | some i => (i + 1, false) | none => _) = _
  rw [e]
theorem refOf_not {c : Nat} (hb : ∀ j, j < 15 → (c == aloneC.getD j 0) = false) : refOf c = match bothC.findIdx? (fun a => c == a || c == a + 8) with | some i => (i + 16, c != bothC.getD i 0) | none => (0, false) := by
  have e : aloneC.findIdx? (fun a => c == a) = none := findIdx_none hb
  show (match aloneC.findIdx? (fun a => c == a) with | some i => (i + 1, false) | none => (match bothC.findIdx? (fun a => c == a || c == a + 8) with | some i => (i + 16, c != bothC.getD i 0) | none => (0, false))) = _
  rw [e]
theorem both_lt : ∀ i, i < 13 → bothC.getD i 0 < 200 := by decide
theorem refof_spec (c : Nat) (hc : c < 65536) : Tells Try.prog 59 [u16 c] (.tup [int (kof c).1, boolA (kof c).2]) := by
  rw [← refOf_eq]
  have hw : IntKind.i64.wrap (c : Int) = (c : Int) := wrap_id (by omega) (by omega)
  refine tells_of_aw Try.func59 rfl rfl fun nx => ?_
  ((repeat ((conv=>whnf);first|refine ω0 ?_|refine ω2 ?_|refine ω3 ?_|refine ω4 rfl ?_|refine ω5 rfl ?_|refine ω6 ?_|refine ω7 ?_|refine ω8 ?_|refine ⟨rfl,?_⟩|refine ⟨trivial,?_⟩|refine ⟨⟨rfl,Nat.le_of_ble_eq_true rfl⟩,?_⟩|refine ⟨⟨by kernel_rfl,by kernel_rfl⟩,?_⟩|refine ⟨by decide,?_⟩|refine lit_true ?_|refine lit_false ?_)); refine aw_region ?_; (repeat ((conv=>whnf);first|refine ω0 ?_|refine ω2 ?_|refine ω3 ?_|refine ω4 rfl ?_|refine ω5 rfl ?_|refine ω6 ?_|refine ω7 ?_|refine ω8 ?_|refine ⟨rfl,?_⟩|refine ⟨trivial,?_⟩|refine ⟨⟨rfl,Nat.le_of_ble_eq_true rfl⟩,?_⟩|refine ⟨⟨by kernel_rfl,by kernel_rfl⟩,?_⟩|refine ⟨by decide,?_⟩|refine lit_true ?_|refine lit_false ?_)))
  refine aw_regionY (fun n => match n with | 0 => true | _ => false) 1 ?_
  refine aop_build rfl build15 ?_
  (repeat ((conv=>whnf);first|refine ω0 ?_|refine ω1 ?_|refine ω2 ?_|refine ω3 ?_|refine ω4 rfl ?_|refine ω5 rfl ?_|refine ω6 ?_|refine ω7 ?_|refine ω8 ?_|refine ⟨rfl,?_⟩|refine ⟨trivial,?_⟩|refine ⟨⟨rfl,Nat.le_of_ble_eq_true rfl⟩,?_⟩|refine ⟨⟨by kernel_rfl,by kernel_rfl⟩,?_⟩|refine ⟨by decide,?_⟩|refine lit_true ?_|refine lit_false ?_))
  refine aw_loop (fun y : Nat × Nat => mk 50 [(0, u16 c), (4, .os 1 15 (fun k => int (aloneC.getD k 0 : Nat)) none), (5, int y.1)] ⟨[], [], y.2, 0⟩) (fun y => y.1 ≤ 15 ∧ ∀ j, j < y.1 → (c == aloneC.getD j 0) = false) (fun y => 15 - y.1) ?_ ?_
  · exact ⟨(0, nx), ⟨Nat.zero_le _, fun j h => absurd h (Nat.not_lt_zero _)⟩, ele_keep rfl rfl (List.nil_sublist _) (List.nil_sublist _) ⟨AVle.refl _, AVle.os_fun (allK_use ⟨⟨⟨⟨⟨⟨⟨⟨⟨⟨⟨⟨⟨⟨⟨trivial, rfl⟩, rfl⟩, rfl⟩, rfl⟩, rfl⟩, rfl⟩, rfl⟩, rfl⟩, rfl⟩, rfl⟩, rfl⟩, rfl⟩, rfl⟩, rfl⟩, rfl⟩), AVle.refl _, trivial⟩⟩
  · rintro ⟨i, nx1⟩ ⟨h1, h2⟩
    dsimp only at h1 h2
    (repeat ((conv=>whnf);first|refine ω0 ?_|refine ω1 ?_|refine ω2 ?_|refine ω3 ?_|refine ω4 rfl ?_|refine ω5 rfl ?_|refine ω6 ?_|refine ω7 ?_|refine ω8 ?_|refine ⟨rfl,?_⟩|refine ⟨trivial,?_⟩|refine ⟨⟨rfl,Nat.le_of_ble_eq_true rfl⟩,?_⟩|refine ⟨⟨by kernel_rfl,by kernel_rfl⟩,?_⟩|refine ⟨by decide,?_⟩|refine lit_true ?_|refine lit_false ?_))
    intro c g; cases c
    · have g := not_of g
      dsimp only at g
      obtain rfl : i = 15 := by omega
      have hr := refOf_not h2
      ((repeat ((conv=>whnf);first|refine ω0 ?_|refine ω2 ?_|refine ω3 ?_|refine ω4 rfl ?_|refine ω5 rfl ?_|refine ω6 ?_|refine ω7 ?_|refine ω8 ?_|refine ⟨rfl,?_⟩|refine ⟨trivial,?_⟩|refine ⟨⟨rfl,Nat.le_of_ble_eq_true rfl⟩,?_⟩|refine ⟨⟨by kernel_rfl,by kernel_rfl⟩,?_⟩|refine ⟨by decide,?_⟩|refine lit_true ?_|refine lit_false ?_)))
      refine aw_regionY (fun n => match n with | 0 => true | _ => false) 1 ?_
      refine aop_build rfl build13 ?_
      (repeat ((conv=>whnf);first|refine ω0 ?_|refine ω1 ?_|refine ω2 ?_|refine ω3 ?_|refine ω4 rfl ?_|refine ω5 rfl ?_|refine ω6 ?_|refine ω7 ?_|refine ω8 ?_|refine ⟨rfl,?_⟩|refine ⟨trivial,?_⟩|refine ⟨⟨rfl,Nat.le_of_ble_eq_true rfl⟩,?_⟩|refine ⟨⟨by kernel_rfl,by kernel_rfl⟩,?_⟩|refine ⟨by decide,?_⟩|refine lit_true ?_|refine lit_false ?_))
      refine aw_loop (fun y : Nat × Nat => mk 50 [(0, u16 c), (6, .os 1 13 (fun k => int (bothC.getD k 0 : Nat)) none), (7, int y.1)] ⟨[], [], y.2, 0⟩) (fun y => y.1 ≤ 13 ∧ ∀ j, j < y.1 → (c == bothC.getD j 0 || c == bothC.getD j 0 + 8) = false) (fun y => 13 - y.1) ?_ ?_
      · exact ⟨(0, nx1), ⟨Nat.zero_le _, fun j h => absurd h (Nat.not_lt_zero _)⟩, ele_keep rfl rfl (List.nil_sublist _) (List.nil_sublist _) ⟨AVle.refl _, AVle.os_fun (allK_use ⟨⟨⟨⟨⟨⟨⟨⟨⟨⟨⟨⟨⟨trivial, rfl⟩, rfl⟩, rfl⟩, rfl⟩, rfl⟩, rfl⟩, rfl⟩, rfl⟩, rfl⟩, rfl⟩, rfl⟩, rfl⟩, rfl⟩), AVle.refl _, trivial⟩⟩
      · rintro ⟨i, nx2⟩ ⟨k1, k2⟩
        dsimp only at k1 k2
        (repeat ((conv=>whnf);first|refine ω0 ?_|refine ω1 ?_|refine ω2 ?_|refine ω3 ?_|refine ω4 rfl ?_|refine ω5 rfl ?_|refine ω6 ?_|refine ω7 ?_|refine ω8 ?_|refine ⟨rfl,?_⟩|refine ⟨trivial,?_⟩|refine ⟨⟨rfl,Nat.le_of_ble_eq_true rfl⟩,?_⟩|refine ⟨⟨by kernel_rfl,by kernel_rfl⟩,?_⟩|refine ⟨by decide,?_⟩|refine lit_true ?_|refine lit_false ?_))
        intro c g3; cases c
        · have g3 := not_of g3
          dsimp only at g3
          obtain rfl : i = 13 := by omega
          have hn : bothC.findIdx? (fun a => c == a || c == a + 8) = none := findIdx_none k2
          rw [hn] at hr
          rw [hr]
          (repeat ((conv=>whnf);first|refine ω0 ?_|refine ω1 ?_|refine ω2 ?_|refine ω3 ?_|refine ω4 rfl ?_|refine ω5 rfl ?_|refine ω6 ?_|refine ω7 ?_|refine ω8 ?_|refine ⟨rfl,?_⟩|refine ⟨trivial,?_⟩|refine ⟨⟨rfl,Nat.le_of_ble_eq_true rfl⟩,?_⟩|refine ⟨⟨by kernel_rfl,by kernel_rfl⟩,?_⟩|refine ⟨by decide,?_⟩|refine lit_true ?_|refine lit_false ?_))
          exact ret_tells rfl (AVle.tups (cs := [_, _]) ⟨AVle.refl _, AVle.refl _, trivial⟩)
        · have g3 := yes_of g3
          dsimp only at g3
          have hi : i < 13 := by omega
          have hlt := both_lt i hi
          have hsucc : ∀ v, bothC.getD i 0 = v → c ≠ v → c ≠ v + 8 → ∀ j, j < i + 1 → (c == bothC.getD j 0 || c == bothC.getD j 0 + 8) = false := fun v hv e1 e2 j hj => by
            rcases Nat.lt_or_ge j i with h | h
            · exact k2 j h
            · obtain rfl : j = i := by omega
              rw [hv]; simp [e1, e2]
          have hfound : ∀ v, bothC.getD i 0 = v → (c = v ∨ c = v + 8) → refOf c = (i + 16, c != v) := fun v hv e => by
            have hn : bothC.findIdx? (fun a => c == a || c == a + 8) = some i := findIdx_some hi (by rw [hv]; rcases e with e | e <;> simp [e]) k2
            rw [hn] at hr
            rw [hr]; dsimp only; rw [hv]
          generalize hv : bothC.getD i 0 = v at hlt
          have hsucc := hsucc v hv
          have hfound := hfound v hv
          have hw8 : IntKind.i64.wrap ((v : Int) + 8) = ((v + 8 : Nat) : Int) := wrap_id (by omega) (by omega)
          (repeat ((conv=>whnf);first|refine ω0 ?_|refine ω1 ?_|refine ω2 ?_|refine ω3 ?_|refine ω4 rfl ?_|refine ω5 rfl ?_|refine ω6 ?_|refine ω7 ?_|refine ω8 ?_|refine ⟨rfl,?_⟩|refine ⟨trivial,?_⟩|refine ⟨⟨rfl,Nat.le_of_ble_eq_true rfl⟩,?_⟩|refine ⟨⟨by kernel_rfl,by kernel_rfl⟩,?_⟩|refine ⟨by decide,?_⟩|refine lit_true ?_|refine lit_false ?_))
          refine ⟨⟨by first | omega | (dsimp only; omega), by first | omega | (dsimp only; omega)⟩, ?_⟩
          (repeat ((conv=>whnf);first|refine ω0 ?_|refine ω1 ?_|refine ω2 ?_|refine ω3 ?_|refine ω4 rfl ?_|refine ω5 rfl ?_|refine ω6 ?_|refine ω7 ?_|refine ω8 ?_|refine ⟨rfl,?_⟩|refine ⟨trivial,?_⟩|refine ⟨⟨rfl,Nat.le_of_ble_eq_true rfl⟩,?_⟩|refine ⟨⟨by kernel_rfl,by kernel_rfl⟩,?_⟩|refine ⟨by decide,?_⟩|refine lit_true ?_|refine lit_false ?_))
          intro c q1; cases c
          · have q1 : c ≠ v := by
              have q1 := fct_b0.1 q1
              intro h
              apply q1
              rw [hw]
              show ((c : Nat) : Int) = ((bothC.getD i 0 : Nat) : Int)
              rw [hv, h]
            (repeat ((conv=>whnf);first|refine ω0 ?_|refine ω1 ?_|refine ω2 ?_|refine ω3 ?_|refine ω4 rfl ?_|refine ω5 rfl ?_|refine ω6 ?_|refine ω7 ?_|refine ω8 ?_|refine ⟨rfl,?_⟩|refine ⟨trivial,?_⟩|refine ⟨⟨rfl,Nat.le_of_ble_eq_true rfl⟩,?_⟩|refine ⟨⟨by kernel_rfl,by kernel_rfl⟩,?_⟩|refine ⟨by decide,?_⟩|refine lit_true ?_|refine lit_false ?_))
            refine ⟨⟨by first | omega | (dsimp only; omega), by first | omega | (dsimp only; omega)⟩, ?_⟩
            (repeat ((conv=>whnf);first|refine ω0 ?_|refine ω1 ?_|refine ω2 ?_|refine ω3 ?_|refine ω4 rfl ?_|refine ω5 rfl ?_|refine ω6 ?_|refine ω7 ?_|refine ω8 ?_|refine ⟨rfl,?_⟩|refine ⟨trivial,?_⟩|refine ⟨⟨rfl,Nat.le_of_ble_eq_true rfl⟩,?_⟩|refine ⟨⟨by kernel_rfl,by kernel_rfl⟩,?_⟩|refine ⟨by decide,?_⟩|refine lit_true ?_|refine lit_false ?_))
            intro c q2; cases c
            · have q2 : c ≠ v + 8 := by
                have q2 := fct_b0.1 q2
                intro h
                apply q2
                rw [hw]
                show ((c : Nat) : Int) = IntKind.i64.wrap (((bothC.getD i 0 : Nat) : Int) + 8)
                rw [hv, hw8, h]
              (repeat ((conv=>whnf);first|refine ω0 ?_|refine ω1 ?_|refine ω2 ?_|refine ω3 ?_|refine ω4 rfl ?_|refine ω5 rfl ?_|refine ω6 ?_|refine ω7 ?_|refine ω8 ?_|refine ⟨rfl,?_⟩|refine ⟨trivial,?_⟩|refine ⟨⟨rfl,Nat.le_of_ble_eq_true rfl⟩,?_⟩|refine ⟨⟨by kernel_rfl,by kernel_rfl⟩,?_⟩|refine ⟨by decide,?_⟩|refine lit_true ?_|refine lit_false ?_))
              exact back (i + 1, _) ⟨(by first | omega | (dsimp only at *; omega) | (simp; done) | (simp; omega)), hsucc q1 q2⟩ (by first | omega | (dsimp only at *; omega) | (simp; done) | (simp; omega)) (ele_keep rfl rfl (List.nil_sublist _) (List.nil_sublist _) ⟨AVle.refl _, AVle.refl _, le_int (wrap_succ (by first | omega | (dsimp only at *; omega) | (simp; done) | (simp; omega))), trivial⟩)
            · have q2 : c = v + 8 := by
                have q2 := fct_b1.1 q2
                rw [hw] at q2
                have q3 : ((c : Nat) : Int) = IntKind.i64.wrap (((bothC.getD i 0 : Nat) : Int) + 8) := q2
                rw [hv, hw8] at q3
                omega
              rw [hfound (.inr q2)]
              (repeat ((conv=>whnf);first|refine ω0 ?_|refine ω1 ?_|refine ω2 ?_|refine ω3 ?_|refine ω4 rfl ?_|refine ω5 rfl ?_|refine ω6 ?_|refine ω7 ?_|refine ω8 ?_|refine ⟨rfl,?_⟩|refine ⟨trivial,?_⟩|refine ⟨⟨rfl,Nat.le_of_ble_eq_true rfl⟩,?_⟩|refine ⟨⟨by kernel_rfl,by kernel_rfl⟩,?_⟩|refine ⟨by decide,?_⟩|refine lit_true ?_|refine lit_false ?_))
              refine ret_tells rfl (AVle.tups (cs := [_, _]) ⟨le_int (wrap_id (by first | omega | (dsimp only at *; omega) | (simp; done) | (simp; omega)) (by first | omega | (dsimp only at *; omega) | (simp; done) | (simp; omega))), le_bool ?_, trivial⟩)
              rw [q2]; simp
          · have q1 : c = v := by
              have q1 := fct_b1.1 q1
              rw [hw] at q1
              have q3 : ((c : Nat) : Int) = ((bothC.getD i 0 : Nat) : Int) := q1
              rw [hv] at q3
              omega
            rw [hfound (.inl q1)]
            (repeat ((conv=>whnf);first|refine ω0 ?_|refine ω1 ?_|refine ω2 ?_|refine ω3 ?_|refine ω4 rfl ?_|refine ω5 rfl ?_|refine ω6 ?_|refine ω7 ?_|refine ω8 ?_|refine ⟨rfl,?_⟩|refine ⟨trivial,?_⟩|refine ⟨⟨rfl,Nat.le_of_ble_eq_true rfl⟩,?_⟩|refine ⟨⟨by kernel_rfl,by kernel_rfl⟩,?_⟩|refine ⟨by decide,?_⟩|refine lit_true ?_|refine lit_false ?_))
            refine ret_tells rfl (AVle.tups (cs := [_, _]) ⟨le_int (wrap_id (by first | omega | (dsimp only at *; omega) | (simp; done) | (simp; omega)) (by first | omega | (dsimp only at *; omega) | (simp; done) | (simp; omega))), le_bool ?_, trivial⟩)
            rw [q1]; simp
    · have g := yes_of g
      dsimp only at g
      have hi : i < 15 := by omega
      (repeat ((conv=>whnf);first|refine ω0 ?_|refine ω1 ?_|refine ω2 ?_|refine ω3 ?_|refine ω4 rfl ?_|refine ω5 rfl ?_|refine ω6 ?_|refine ω7 ?_|refine ω8 ?_|refine ⟨rfl,?_⟩|refine ⟨trivial,?_⟩|refine ⟨⟨rfl,Nat.le_of_ble_eq_true rfl⟩,?_⟩|refine ⟨⟨by kernel_rfl,by kernel_rfl⟩,?_⟩|refine ⟨by decide,?_⟩|refine lit_true ?_|refine lit_false ?_))
      refine ⟨⟨by first | omega | (dsimp only; omega), by first | omega | (dsimp only; omega)⟩, ?_⟩
      (repeat ((conv=>whnf);first|refine ω0 ?_|refine ω1 ?_|refine ω2 ?_|refine ω3 ?_|refine ω4 rfl ?_|refine ω5 rfl ?_|refine ω6 ?_|refine ω7 ?_|refine ω8 ?_|refine ⟨rfl,?_⟩|refine ⟨trivial,?_⟩|refine ⟨⟨rfl,Nat.le_of_ble_eq_true rfl⟩,?_⟩|refine ⟨⟨by kernel_rfl,by kernel_rfl⟩,?_⟩|refine ⟨by decide,?_⟩|refine lit_true ?_|refine lit_false ?_))
      intro c q1; cases c
      · have q1 : (c == aloneC.getD i 0) = false := by
          have q1 := fct_b0.1 q1
          rw [hw] at q1
          have q3 : ((c : Nat) : Int) ≠ ((aloneC.getD i 0 : Nat) : Int) := q1
          simp only [beq_eq_false_iff_ne]
          omega
        (repeat ((conv=>whnf);first|refine ω0 ?_|refine ω1 ?_|refine ω2 ?_|refine ω3 ?_|refine ω4 rfl ?_|refine ω5 rfl ?_|refine ω6 ?_|refine ω7 ?_|refine ω8 ?_|refine ⟨rfl,?_⟩|refine ⟨trivial,?_⟩|refine ⟨⟨rfl,Nat.le_of_ble_eq_true rfl⟩,?_⟩|refine ⟨⟨by kernel_rfl,by kernel_rfl⟩,?_⟩|refine ⟨by decide,?_⟩|refine lit_true ?_|refine lit_false ?_))
        refine back (i + 1, _) ⟨(by first | omega | (dsimp only at *; omega) | (simp; done) | (simp; omega)), fun j hj => ?_⟩ (by first | omega | (dsimp only at *; omega) | (simp; done) | (simp; omega)) (ele_keep rfl rfl (List.nil_sublist _) (List.nil_sublist _) ⟨AVle.refl _, AVle.refl _, le_int (wrap_succ (by first | omega | (dsimp only at *; omega) | (simp; done) | (simp; omega))), trivial⟩)
        rcases Nat.lt_or_ge j i with h | h
        · exact h2 j h
        · obtain rfl : j = i := by omega
          exact q1
      · have q1 : c = aloneC.getD i 0 := by
          have q1 := fct_b1.1 q1
          rw [hw] at q1
          have q3 : ((c : Nat) : Int) = ((aloneC.getD i 0 : Nat) : Int) := q1
          omega
        rw [refOf_alone hi q1 h2]
        (repeat ((conv=>whnf);first|refine ω0 ?_|refine ω1 ?_|refine ω2 ?_|refine ω3 ?_|refine ω4 rfl ?_|refine ω5 rfl ?_|refine ω6 ?_|refine ω7 ?_|refine ω8 ?_|refine ⟨rfl,?_⟩|refine ⟨trivial,?_⟩|refine ⟨⟨rfl,Nat.le_of_ble_eq_true rfl⟩,?_⟩|refine ⟨⟨by kernel_rfl,by kernel_rfl⟩,?_⟩|refine ⟨by decide,?_⟩|refine lit_true ?_|refine lit_false ?_))
        exact ret_tells rfl (AVle.tups (cs := [_, _]) ⟨le_int (wrap_succ (by first | omega | (dsimp only at *; omega) | (simp; done) | (simp; omega))), AVle.refl _, trivial⟩)
theorem nextR_spec (l : List Ins) (hok : okL l) (hf : Formed l) (n : Nat) (hn : n < l.length) : Tells Try.prog 60 [inss l, int n] (ints (nextsI l n)) := by
  have hle := hf.le
  have hki : (l.getD n ins0).ok := hok.get hn
  have hnx := nexts_lt hf hn
  have hof := refof_spec (l.getD n ins0).code hki.1
  unfold nextsI at hnx ⊢
  unfold kind at hnx ⊢
  generalize hK : (kof (l.getD n ins0).code).1 = K at hof hnx
  generalize (kof (l.getD n ins0).code).2 = x at hof
  refine tells_of_aw Try.func60 rfl rfl fun nx => ?_
  (repeat ((conv=>whnf);first|refine ω0 ?_|refine ω1 ?_|refine ω2 ?_|refine ω3 ?_|refine ω4 rfl ?_|refine ω5 rfl ?_|refine ω6 ?_|refine ω7 ?_|refine ω8 ?_|refine ⟨rfl,?_⟩|refine ⟨trivial,?_⟩|refine ⟨⟨rfl,Nat.le_of_ble_eq_true rfl⟩,?_⟩|refine ⟨⟨by kernel_rfl,by kernel_rfl⟩,?_⟩|refine ⟨by decide,?_⟩|refine lit_true ?_|refine lit_false ?_))
  refine ⟨⟨by first | omega | (dsimp only; omega), by first | omega | (dsimp only; omega)⟩, ?_⟩
  (repeat ((conv=>whnf);first|refine ω0 ?_|refine ω1 ?_|refine ω2 ?_|refine ω3 ?_|refine ω4 rfl ?_|refine ω5 rfl ?_|refine ω6 ?_|refine ω7 ?_|refine ω8 ?_|refine ⟨rfl,?_⟩|refine ⟨trivial,?_⟩|refine ⟨⟨rfl,Nat.le_of_ble_eq_true rfl⟩,?_⟩|refine ⟨⟨by kernel_rfl,by kernel_rfl⟩,?_⟩|refine ⟨by decide,?_⟩|refine lit_true ?_|refine lit_false ?_))
  refine aop_tells rfl rfl hof ⟨AVle.refl _, trivial⟩ fun nx3 => ?_
  (repeat ((conv=>whnf);first|refine ω0 ?_|refine ω1 ?_|refine ω2 ?_|refine ω3 ?_|refine ω4 rfl ?_|refine ω5 rfl ?_|refine ω6 ?_|refine ω7 ?_|refine ω8 ?_|refine ⟨rfl,?_⟩|refine ⟨trivial,?_⟩|refine ⟨⟨rfl,Nat.le_of_ble_eq_true rfl⟩,?_⟩|refine ⟨⟨by kernel_rfl,by kernel_rfl⟩,?_⟩|refine ⟨by decide,?_⟩|refine lit_true ?_|refine lit_false ?_))
  intro cx hx
  (repeat ((conv=>whnf);first|refine ω0 ?_|refine ω1 ?_|refine ω2 ?_|refine ω3 ?_|refine ω4 rfl ?_|refine ω5 rfl ?_|refine ω6 ?_|refine ω7 ?_|refine ω8 ?_|refine ⟨rfl,?_⟩|refine ⟨trivial,?_⟩|refine ⟨⟨rfl,Nat.le_of_ble_eq_true rfl⟩,?_⟩|refine ⟨⟨by kernel_rfl,by kernel_rfl⟩,?_⟩|refine ⟨by decide,?_⟩|refine lit_true ?_|refine lit_false ?_))
  intro c a1; cases c
  · have a1 := fct_b0.1 a1
    (repeat ((conv=>whnf);first|refine ω0 ?_|refine ω1 ?_|refine ω2 ?_|refine ω3 ?_|refine ω4 rfl ?_|refine ω5 rfl ?_|refine ω6 ?_|refine ω7 ?_|refine ω8 ?_|refine ⟨rfl,?_⟩|refine ⟨trivial,?_⟩|refine ⟨⟨rfl,Nat.le_of_ble_eq_true rfl⟩,?_⟩|refine ⟨⟨by kernel_rfl,by kernel_rfl⟩,?_⟩|refine ⟨by decide,?_⟩|refine lit_true ?_|refine lit_false ?_))
    intro c a2; cases c
    · have a2 := fct_b0.1 a2
      rw [if_neg (by omega)] at hnx ⊢
      (repeat ((conv=>whnf);first|refine ω0 ?_|refine ω1 ?_|refine ω2 ?_|refine ω3 ?_|refine ω4 rfl ?_|refine ω5 rfl ?_|refine ω6 ?_|refine ω7 ?_|refine ω8 ?_|refine ⟨rfl,?_⟩|refine ⟨trivial,?_⟩|refine ⟨⟨rfl,Nat.le_of_ble_eq_true rfl⟩,?_⟩|refine ⟨⟨by kernel_rfl,by kernel_rfl⟩,?_⟩|refine ⟨by decide,?_⟩|refine lit_true ?_|refine lit_false ?_))
      intro c a3; cases c
      · have a3 := fct_b0.1 a3
        rw [if_neg (by omega)] at hnx ⊢
        (repeat ((conv=>whnf);first|refine ω0 ?_|refine ω1 ?_|refine ω2 ?_|refine ω3 ?_|refine ω4 rfl ?_|refine ω5 rfl ?_|refine ω6 ?_|refine ω7 ?_|refine ω8 ?_|refine ⟨rfl,?_⟩|refine ⟨trivial,?_⟩|refine ⟨⟨rfl,Nat.le_of_ble_eq_true rfl⟩,?_⟩|refine ⟨⟨by kernel_rfl,by kernel_rfl⟩,?_⟩|refine ⟨by decide,?_⟩|refine lit_true ?_|refine lit_false ?_))
        intro c a4; cases c
        · have a4 := not_of a4
          rw [if_neg (by omega)]
          (repeat ((conv=>whnf);first|refine ω0 ?_|refine ω1 ?_|refine ω2 ?_|refine ω3 ?_|refine ω4 rfl ?_|refine ω5 rfl ?_|refine ω6 ?_|refine ω7 ?_|refine ω8 ?_|refine ⟨rfl,?_⟩|refine ⟨trivial,?_⟩|refine ⟨⟨rfl,Nat.le_of_ble_eq_true rfl⟩,?_⟩|refine ⟨⟨by kernel_rfl,by kernel_rfl⟩,?_⟩|refine ⟨by decide,?_⟩|refine lit_true ?_|refine lit_false ?_))
          refine ret_tells rfl ?_
          exact le_ints1 rfl (wrap_succ (by omega))
        · have a4 := yes_of a4
          rw [if_pos (by omega)] at hnx ⊢
          have h1 := hnx (n + 1 + (l.getD n ins0).jt) (by simp)
          have h2 := hnx (n + 1 + (l.getD n ins0).jf) (by simp)
          (repeat ((conv=>whnf);first|refine ω0 ?_|refine ω1 ?_|refine ω2 ?_|refine ω3 ?_|refine ω4 rfl ?_|refine ω5 rfl ?_|refine ω6 ?_|refine ω7 ?_|refine ω8 ?_|refine ⟨rfl,?_⟩|refine ⟨trivial,?_⟩|refine ⟨⟨rfl,Nat.le_of_ble_eq_true rfl⟩,?_⟩|refine ⟨⟨by kernel_rfl,by kernel_rfl⟩,?_⟩|refine ⟨by decide,?_⟩|refine lit_true ?_|refine lit_false ?_))
          (refine aw_draw 20 ?_ ?_ ?_ ?_; (· kernel_rfl); (· kernel_rfl); (· kernel_rfl))
          (repeat ((conv=>whnf);first|refine ω0 ?_|refine ω1 ?_|refine ω2 ?_|refine ω3 ?_|refine ω4 rfl ?_|refine ω5 rfl ?_|refine ω6 ?_|refine ω7 ?_|refine ω8 ?_|refine ⟨rfl,?_⟩|refine ⟨trivial,?_⟩|refine ⟨⟨rfl,Nat.le_of_ble_eq_true rfl⟩,?_⟩|refine ⟨⟨by kernel_rfl,by kernel_rfl⟩,?_⟩|refine ⟨by decide,?_⟩|refine lit_true ?_|refine lit_false ?_))
          refine ⟨⟨by first | omega | (dsimp only; omega), by first | omega | (dsimp only; omega)⟩, ?_⟩
          (repeat ((conv=>whnf);first|refine ω0 ?_|refine ω1 ?_|refine ω2 ?_|refine ω3 ?_|refine ω4 rfl ?_|refine ω5 rfl ?_|refine ω6 ?_|refine ω7 ?_|refine ω8 ?_|refine ⟨rfl,?_⟩|refine ⟨trivial,?_⟩|refine ⟨⟨rfl,Nat.le_of_ble_eq_true rfl⟩,?_⟩|refine ⟨⟨by kernel_rfl,by kernel_rfl⟩,?_⟩|refine ⟨by decide,?_⟩|refine lit_true ?_|refine lit_false ?_))
          refine ⟨⟨by first | omega | (dsimp only; omega), by first | omega | (dsimp only; omega)⟩, ?_⟩
          (repeat ((conv=>whnf);first|refine ω0 ?_|refine ω1 ?_|refine ω2 ?_|refine ω3 ?_|refine ω4 rfl ?_|refine ω5 rfl ?_|refine ω6 ?_|refine ω7 ?_|refine ω8 ?_|refine ⟨rfl,?_⟩|refine ⟨trivial,?_⟩|refine ⟨⟨rfl,Nat.le_of_ble_eq_true rfl⟩,?_⟩|refine ⟨⟨by kernel_rfl,by kernel_rfl⟩,?_⟩|refine ⟨by decide,?_⟩|refine lit_true ?_|refine lit_false ?_))
          refine ret_tells rfl ?_
          exact le_ints2 rfl (wrap_two (n := n) (k := (l.getD n ins0).jt) (by omega)) rfl (wrap_two (n := n) (k := (l.getD n ins0).jf) (by omega))
      · have a3 := fct_b1.1 a3
        rw [if_pos (by omega)] at hnx ⊢
        have h1 := hnx (n + 1 + (l.getD n ins0).k) (by simp)
        (repeat ((conv=>whnf);first|refine ω0 ?_|refine ω1 ?_|refine ω2 ?_|refine ω3 ?_|refine ω4 rfl ?_|refine ω5 rfl ?_|refine ω6 ?_|refine ω7 ?_|refine ω8 ?_|refine ⟨rfl,?_⟩|refine ⟨trivial,?_⟩|refine ⟨⟨rfl,Nat.le_of_ble_eq_true rfl⟩,?_⟩|refine ⟨⟨by kernel_rfl,by kernel_rfl⟩,?_⟩|refine ⟨by decide,?_⟩|refine lit_true ?_|refine lit_false ?_))
        refine ⟨⟨by first | omega | (dsimp only; omega), by first | omega | (dsimp only; omega)⟩, ?_⟩
        (repeat ((conv=>whnf);first|refine ω0 ?_|refine ω1 ?_|refine ω2 ?_|refine ω3 ?_|refine ω4 rfl ?_|refine ω5 rfl ?_|refine ω6 ?_|refine ω7 ?_|refine ω8 ?_|refine ⟨rfl,?_⟩|refine ⟨trivial,?_⟩|refine ⟨⟨rfl,Nat.le_of_ble_eq_true rfl⟩,?_⟩|refine ⟨⟨by kernel_rfl,by kernel_rfl⟩,?_⟩|refine ⟨by decide,?_⟩|refine lit_true ?_|refine lit_false ?_))
        refine ret_tells rfl ?_
        exact le_ints1 rfl (wrap_two (n := n) (k := (l.getD n ins0).k) (by omega))
    · have a2 := fct_b1.1 a2
      rw [if_pos (by omega)]
      (repeat ((conv=>whnf);first|refine ω0 ?_|refine ω1 ?_|refine ω2 ?_|refine ω3 ?_|refine ω4 rfl ?_|refine ω5 rfl ?_|refine ω6 ?_|refine ω7 ?_|refine ω8 ?_|refine ⟨rfl,?_⟩|refine ⟨trivial,?_⟩|refine ⟨⟨rfl,Nat.le_of_ble_eq_true rfl⟩,?_⟩|refine ⟨⟨by kernel_rfl,by kernel_rfl⟩,?_⟩|refine ⟨by decide,?_⟩|refine lit_true ?_|refine lit_false ?_))
      refine ret_tells rfl ?_
      exact AVle.os_sl0
  · have a1 := fct_b1.1 a1
    rw [if_pos (by omega)]
    (repeat ((conv=>whnf);first|refine ω0 ?_|refine ω1 ?_|refine ω2 ?_|refine ω3 ?_|refine ω4 rfl ?_|refine ω5 rfl ?_|refine ω6 ?_|refine ω7 ?_|refine ω8 ?_|refine ⟨rfl,?_⟩|refine ⟨trivial,?_⟩|refine ⟨⟨rfl,Nat.le_of_ble_eq_true rfl⟩,?_⟩|refine ⟨⟨by kernel_rfl,by kernel_rfl⟩,?_⟩|refine ⟨by decide,?_⟩|refine lit_true ?_|refine lit_false ?_))
    refine ret_tells rfl ?_
    exact AVle.os_sl0
end Go.Proofs.W

namespace Go.Proofs.W
open Go.Vl
set_option maxRecDepth 100000

set_option maxHeartbeats 4000000 in
theorem aloneR_spec (i : Ins) (hi : i.ok) (r : Nat) : Tells Try.prog 87 [insA i, int r] (int (wrongI i r)) := by
  have hof := refof_spec i.code hi.1
  have hle := kof_le i.code
  have w1 : IntKind.i64.wrap (i.k : Int) = i.k := wrap_id (by have := hi.2.2.2; omega) (by have := hi.2.2.2; omega)
  have w2 : IntKind.i64.wrap (i.jt : Int) = i.jt := wrap_id (by have := hi.2.1; omega) (by have := hi.2.1; omega)
  have w3 : IntKind.i64.wrap (i.jf : Int) = i.jf := wrap_id (by have := hi.2.2.1; omega) (by have := hi.2.2.1; omega)
  unfold wrongI
  generalize kof i.code = kk at hof hle
  obtain ⟨k, x⟩ := kk
  dsimp only at hle hof ⊢
  revert hof
  refine allK_use (n := 29) (p := fun k => Tells Try.prog 59 [u16 i.code] (.tup [int k, boolA x]) → Tells Try.prog 87 [insA i, int r] (int ((if k = 0 then 5 else if k = 1 ∧ (i.k % 4 ≠ 0 ∨ 64 ≤ i.k) then 6 else if (k = 3 ∨ k = 6 ∨ k = 8 ∨ k = 9) ∧ 16 ≤ i.k then 7 else if x = false ∧ k = 19 ∧ i.k = 0 then 8 else if x = false ∧ (k = 22 ∨ k = 23) ∧ 31 < i.k then 9 else if (k = 13 ∧ r ≤ i.k) ∨ (25 ≤ k ∧ (r ≤ i.jt ∨ r ≤ i.jf)) then 10 else 0 : Nat)))) ?_ k (by omega)
  repeat (first | exact trivial | refine And.intro ?_ ?_)
  all_goals
    intro hof
    cases x
  all_goals
    refine tells_of_aw Try.func87 rfl rfl fun nx => ?_
    (repeat ((conv=>whnf);first|refine ω0 ?_|refine ω1 ?_|refine ω2 ?_|refine ω3 ?_|refine ω4 rfl ?_|refine ω5 rfl ?_|refine ω6 ?_|refine ω7 ?_|refine ω8 ?_|refine ⟨rfl,?_⟩|refine ⟨trivial,?_⟩|refine ⟨⟨rfl,Nat.le_of_ble_eq_true rfl⟩,?_⟩|refine ⟨⟨by kernel_rfl,by kernel_rfl⟩,?_⟩|refine ⟨by decide,?_⟩|refine lit_true ?_|refine lit_false ?_))
    refine aop_tells rfl rfl hof ⟨AVle.refl _, trivial⟩ fun nx3 => ?_
    (repeat' ((repeat ((conv=>whnf);first|refine ω0 ?_|refine ω1 ?_|refine ω2 ?_|refine ω3 ?_|refine ω4 rfl ?_|refine ω5 rfl ?_|refine ω6 ?_|refine ω7 ?_|refine ω8 ?_|refine ⟨rfl,?_⟩|refine ⟨trivial,?_⟩|refine ⟨⟨rfl,Nat.le_of_ble_eq_true rfl⟩,?_⟩|refine ⟨⟨by kernel_rfl,by kernel_rfl⟩,?_⟩|refine ⟨by decide,?_⟩|refine lit_true ?_|refine lit_false ?_)); intro c h; cases c))
    all_goals
      (repeat ((conv=>whnf);first|refine ω0 ?_|refine ω1 ?_|refine ω2 ?_|refine ω3 ?_|refine ω4 rfl ?_|refine ω5 rfl ?_|refine ω6 ?_|refine ω7 ?_|refine ω8 ?_|refine ⟨rfl,?_⟩|refine ⟨trivial,?_⟩|refine ⟨⟨rfl,Nat.le_of_ble_eq_true rfl⟩,?_⟩|refine ⟨⟨by kernel_rfl,by kernel_rfl⟩,?_⟩|refine ⟨by decide,?_⟩|refine lit_true ?_|refine lit_false ?_))
      refine ret_tells rfl (le_int ?_)
      (try rw [w1] at *)
      (try rw [w2] at *)
      (try rw [w3] at *)
      (try rw [show (i.k : Int).tmod 4 = ((i.k % 4 : Nat) : Int) from rfl] at *)
      (try simp only [fct_b0, fct_b1, fct_d0, fct_d1, fct_n0, fct_n1] at *)
      simp
      try ((repeat' split) <;> omega)
end Go.Proofs.W

namespace Go.Proofs.W
open Go.Vl

/-- A test, a path. -/
structure Tst where
  at' : Nat
  mask : Nat
  kind : Nat
  k : Nat
  is : Bool
def tst0 : Tst := ⟨0, 0, 0, 0, false⟩
structure Pth where
  tests : List Tst
  steps : Nat
  value : Nat
def pth0 : Pth := ⟨[], 0, 0⟩
def nextP (l : List Ins) (n : Nat) : Int × Int :=
  if kind l n = 14 then (-1, -1) else if kind l n = 13 then ((n + 1 + (l.getD n ins0).k : Nat), -1) else if 25 ≤ kind l n then ((n + 1 + (l.getD n ins0).jt : Nat), (n + 1 + (l.getD n ins0).jf : Nat)) else ((n + 1 : Nat), -1)
def asks (l : List Ins) (n : Nat) : Prop := kind l n = 21 ∨ 25 ≤ kind l n
instance (l : List Ins) (n : Nat) : Decidable (asks l n) := by unfold asks; infer_instance
/-- To which a way leads on which nothing was loaded (of the first n looked at). -/
def bareN (l : List Ins) : Nat → List Bool
  | 0 => setT (List.replicate l.length false) 0
  | n + 1 => if (bareN l n).getD n false = true ∧ kind l n = 13 then setT (bareN l n) (n + 1 + (l.getD n ins0).k) else bareN l n
def okP (l : List Ins) (n : Nat) : Prop := (asks l n ∨ kind l n = 1 ∨ kind l n = 13 ∨ kind l n = 14) ∧ (kof (l.getD n ins0).code).2 = false ∧ ¬ (asks l n ∧ (bareN l n).getD n false = true)
instance (l : List Ins) (n : Nat) : Decidable (okP l n) := by unfold okP; infer_instance
def Plain (l : List Ins) : Prop := (checkI l).2 = 0 ∧ ∀ n, n < l.length → okP l n
def plainB (l : List Ins) : Bool := decide ((checkI l).2 = 0) && (List.range l.length).all fun n => decide (okP l n)
theorem plainB_iff {l : List Ins} : plainB l = true ↔ Plain l := by
  unfold plainB Plain
  simp [List.all_eq_true]
theorem bareN_length (l : List Ins) : ∀ n, (bareN l n).length = l.length
  | 0 => by simp [bareN, setT_length]
  | n + 1 => by
    unfold bareN
    split
    · rw [setT_length, bareN_length l n]
    · exact bareN_length l n
theorem plainB_no {l : List Ins} {n : Nat} (hn : n < l.length) (h : ¬ okP l n) : plainB l = false := by
  cases hb : plainB l with
  | false => rfl
  | true => exact absurd ((plainB_iff.1 hb).2 n hn) h
theorem plainB_chk {l : List Ins} (h : (checkI l).2 ≠ 0) : plainB l = false := by
  cases hb : plainB l with
  | false => rfl
  | true => exact absurd (plainB_iff.1 hb).1 h
theorem plainB_yes {l : List Ins} (h : (checkI l).2 = 0) (hk : ∀ n, n < l.length → okP l n) : plainB l = true := plainB_iff.2 ⟨h, hk⟩

/-- All paths from an instruction on. -/
def pathsF (l : List Ins) : Nat → Nat → Nat → Nat → List Tst → Nat → List Pth
  | 0, _, _, _, _, _ => []
  | f + 1, n, at', mask, tests, steps =>
    if kind l n = 14 then [⟨tests, steps + 1, (l.getD n ins0).k⟩]
    else if kind l n = 1 then pathsF l f (n + 1) (l.getD n ins0).k 4294967295 tests (steps + 1)
    else if kind l n = 21 then pathsF l f (n + 1) at' (mask &&& (l.getD n ins0).k) tests (steps + 1)
    else if 25 ≤ kind l n then
      pathsF l f (n + 1 + (l.getD n ins0).jt) at' mask (tests ++ [⟨at', mask, kind l n, (l.getD n ins0).k, true⟩]) (steps + 1) ++
      pathsF l f (n + 1 + (l.getD n ins0).jf) at' mask (tests ++ [⟨at', mask, kind l n, (l.getD n ins0).k, false⟩]) (steps + 1)
    else pathsF l f (n + 1 + (l.getD n ins0).k) at' mask tests (steps + 1)
def pathsI (l : List Ins) : List Pth := pathsF l l.length 0 0 0 [] 0

theorem Plain.formed {l : List Ins} (h : Plain l) : Formed l := (check_iff.1 h.1).1
theorem Plain.kinds {l : List Ins} (h : Plain l) {n : Nat} (hn : n < l.length) : kind l n = 1 ∨ kind l n = 13 ∨ kind l n = 14 ∨ kind l n = 21 ∨ 25 ≤ kind l n := by
  rcases (h.2 n hn).1 with (h | h) | h | h | h <;> omega
/-- How many paths there are from an instruction on. -/
def cntF (l : List Ins) : Nat → Nat → Nat
  | 0, _ => 0
  | f + 1, n => if kind l n = 14 then 1 else if kind l n = 1 ∨ kind l n = 21 then cntF l f (n + 1) else if 25 ≤ kind l n then cntF l f (n + 1 + (l.getD n ins0).jt) + cntF l f (n + 1 + (l.getD n ins0).jf) else cntF l f (n + 1 + (l.getD n ins0).k)
theorem pathsF_length (l : List Ins) : ∀ f n a m ts s, (pathsF l f n a m ts s).length = cntF l f n
  | 0, _, _, _, _, _ => rfl
  | f + 1, n, a, m, ts, s => by
    unfold pathsF cntF
    by_cases h1 : kind l n = 14
    · rw [if_pos h1, if_pos h1]; rfl
    rw [if_neg h1, if_neg h1]
    by_cases h2 : kind l n = 1
    · rw [if_pos h2, if_pos (.inl h2), pathsF_length]
    rw [if_neg h2]
    by_cases h3 : kind l n = 21
    · rw [if_pos h3, if_pos (.inr h3), pathsF_length]
    rw [if_neg h3, if_neg (show ¬ (kind l n = 1 ∨ kind l n = 21) by omega)]
    by_cases h4 : 25 ≤ kind l n
    · rw [if_pos h4, if_pos h4, List.length_append, pathsF_length, pathsF_length]
    rw [if_neg h4, if_neg h4, pathsF_length]
theorem formed_nexts {l : List Ins} (hf : Formed l) {n : Nat} (hn : n < l.length) :
    (kind l n = 13 → n + 1 + (l.getD n ins0).k < l.length) ∧ (25 ≤ kind l n → n + 1 + (l.getD n ins0).jt < l.length ∧ n + 1 + (l.getD n ins0).jf < l.length) ∧ (kind l n ≠ 14 → kind l n ≠ 15 → kind l n ≠ 13 → ¬ 25 ≤ kind l n → n + 1 < l.length) := by
  have h := nexts_lt hf hn
  unfold nextsI at h
  refine ⟨fun hk => ?_, fun hk => ?_, fun h1 h2 h3 h4 => ?_⟩
  · rw [if_neg (by omega), if_pos hk] at h
    exact (h _ (by simp)).2
  · rw [if_neg (by omega), if_neg (by omega), if_pos hk] at h
    exact ⟨(h _ (by simp)).2, (h (n + 1 + (l.getD n ins0).jf) (by simp)).2⟩
  · rw [if_neg (by omega), if_neg h3, if_neg h4] at h
    exact (h _ (by simp)).2
/-- More time changes nothing. -/
theorem cntF_more {l : List Ins} (hp : Plain l) : ∀ f g n, n < l.length → l.length ≤ n + f → f ≤ g → cntF l g n = cntF l f n
  | 0, g, n, hn, hl, _ => by omega
  | f + 1, 0, n, hn, hl, hg => by omega
  | f + 1, g + 1, n, hn, hl, hg => by
    have hk := hp.kinds hn
    obtain ⟨q1, q2, q3⟩ := formed_nexts hp.formed hn
    unfold cntF
    split
    · rfl
    · split
      · exact cntF_more hp f g _ (q3 (by omega) (by omega) (by omega) (by omega)) (by omega) (by omega)
      · split
        · rename_i h
          obtain ⟨r1, r2⟩ := q2 h
          rw [cntF_more hp f g _ r1 (by omega) (by omega), cntF_more hp f g _ r2 (by omega) (by omega)]
        · exact cntF_more hp f g _ (q1 (by omega)) (by omega) (by omega)
end Go.Proofs.W

namespace Go.Proofs.W
open Go.Vl
set_option maxRecDepth 100000

def u64 (n : Int) : AV := .v (.int .u64 n)
def bytesA (l : List Nat) : AV := slOf 1 (fun n : Nat => u8 n) 0 l
def okB (b : List Nat) : Prop := ∀ x ∈ b, x < 256
def intsZ (l : List Int) : AV := slOf 1 int 0 l
/-- The first place where p holds; -1: none. -/
def idxOf (n : Nat) (p : Nat → Bool) : Int := match (List.range n).find? p with | some i => (i : Nat) | none => -1
theorem idxOf_some {n i : Nat} {p : Nat → Bool} (hi : i < n) (h : p i = true) (hb : ∀ j, j < i → p j = false) : idxOf n p = (i : Nat) := by
  unfold idxOf; rw [find_range_some hi h hb]
theorem idxOf_none {n : Nat} {p : Nat → Bool} (hb : ∀ j, j < n → p j = false) : idxOf n p = -1 := by
  unfold idxOf; rw [find_range_none hb]
theorem idxOf_cases (n : Nat) (p : Nat → Bool) : (∃ i, i < n ∧ p i = true ∧ (∀ j, j < i → p j = false) ∧ idxOf n p = (i : Nat)) ∨ ((∀ j, j < n → p j = false) ∧ idxOf n p = -1) := by
  cases h : (List.range n).find? p with
  | some i =>
    have h1 := List.find?_some h
    have hi : i < n := List.mem_range.1 (List.mem_of_find?_eq_some h)
    refine .inl ⟨i, hi, h1, fun j hj => ?_, by unfold idxOf; rw [h]⟩
    have := List.find?_range_eq_some.1 h
    have h4 := this.2.2 j hj
    simpa using h4
  | none =>
    refine .inr ⟨fun j hj => ?_, by unfold idxOf; rw [h]⟩
    have := List.find?_eq_none.1 h j (List.mem_range.2 hj)
    simpa using this

theorem index_spec (l : List Int) (x : Int) (hl : l.length ≤ 1000000000) : Tells Try.prog 123 [intsZ l, int x] (int (idxOf l.length fun i => decide (x = l.getD i 0))) := by
  refine tells_of_aw Try.func123 rfl rfl fun nx => ?_
  (repeat ((conv=>whnf);first|refine ω0 ?_|refine ω1 ?_|refine ω2 ?_|refine ω3 ?_|refine ω4 rfl ?_|refine ω5 rfl ?_|refine ω6 ?_|refine ω7 ?_|refine ω8 ?_|refine ⟨rfl,?_⟩|refine ⟨trivial,?_⟩|refine ⟨⟨rfl,Nat.le_of_ble_eq_true rfl⟩,?_⟩|refine ⟨⟨by kernel_rfl,by kernel_rfl⟩,?_⟩|refine ⟨by decide,?_⟩|refine lit_true ?_|refine lit_false ?_))
  refine aw_loop (fun i : Nat => mk 19 [(0, intsZ l), (1, int x), (7, int l.length), (8, int i)] ⟨[], [], nx, 0⟩) (fun i => i ≤ l.length ∧ ∀ j, j < i → x ≠ l.getD j 0) (fun i => l.length - i) ?_ ?_
  · exact ⟨0, ⟨by omega, by intro j hj; omega⟩, ele_mk rfl rfl ⟨AVle.refl _, AVle.refl _, AVle.refl _, AVle.refl _, trivial⟩⟩
  · rintro i ⟨h1, h2⟩
    (repeat ((conv=>whnf);first|refine ω0 ?_|refine ω1 ?_|refine ω2 ?_|refine ω3 ?_|refine ω4 rfl ?_|refine ω5 rfl ?_|refine ω6 ?_|refine ω7 ?_|refine ω8 ?_|refine ⟨rfl,?_⟩|refine ⟨trivial,?_⟩|refine ⟨⟨rfl,Nat.le_of_ble_eq_true rfl⟩,?_⟩|refine ⟨⟨by kernel_rfl,by kernel_rfl⟩,?_⟩|refine ⟨by decide,?_⟩|refine lit_true ?_|refine lit_false ?_))
    intro c g; cases c
    · have g := not_of g
      (repeat ((conv=>whnf);first|refine ω0 ?_|refine ω1 ?_|refine ω2 ?_|refine ω3 ?_|refine ω4 rfl ?_|refine ω5 rfl ?_|refine ω6 ?_|refine ω7 ?_|refine ω8 ?_|refine ⟨rfl,?_⟩|refine ⟨trivial,?_⟩|refine ⟨⟨rfl,Nat.le_of_ble_eq_true rfl⟩,?_⟩|refine ⟨⟨by kernel_rfl,by kernel_rfl⟩,?_⟩|refine ⟨by decide,?_⟩|refine lit_true ?_|refine lit_false ?_))
      refine ret_tells rfl (le_int ?_)
      rw [idxOf_none fun j hj => decide_eq_false (h2 j (by omega))]
    · have g := yes_of g
      (repeat ((conv=>whnf);first|refine ω0 ?_|refine ω1 ?_|refine ω2 ?_|refine ω3 ?_|refine ω4 rfl ?_|refine ω5 rfl ?_|refine ω6 ?_|refine ω7 ?_|refine ω8 ?_|refine ⟨rfl,?_⟩|refine ⟨trivial,?_⟩|refine ⟨⟨rfl,Nat.le_of_ble_eq_true rfl⟩,?_⟩|refine ⟨⟨by kernel_rfl,by kernel_rfl⟩,?_⟩|refine ⟨by decide,?_⟩|refine lit_true ?_|refine lit_false ?_))
      refine ⟨⟨by first | omega | (dsimp only; omega), by first | omega | (dsimp only; omega)⟩, ?_⟩
      (repeat ((conv=>whnf);first|refine ω0 ?_|refine ω1 ?_|refine ω2 ?_|refine ω3 ?_|refine ω4 rfl ?_|refine ω5 rfl ?_|refine ω6 ?_|refine ω7 ?_|refine ω8 ?_|refine ⟨rfl,?_⟩|refine ⟨trivial,?_⟩|refine ⟨⟨rfl,Nat.le_of_ble_eq_true rfl⟩,?_⟩|refine ⟨⟨by kernel_rfl,by kernel_rfl⟩,?_⟩|refine ⟨by decide,?_⟩|refine lit_true ?_|refine lit_false ?_))
      intro c g2; cases c
      · have g2 := fct_b0.1 g2
        (repeat ((conv=>whnf);first|refine ω0 ?_|refine ω1 ?_|refine ω2 ?_|refine ω3 ?_|refine ω4 rfl ?_|refine ω5 rfl ?_|refine ω6 ?_|refine ω7 ?_|refine ω8 ?_|refine ⟨rfl,?_⟩|refine ⟨trivial,?_⟩|refine ⟨⟨rfl,Nat.le_of_ble_eq_true rfl⟩,?_⟩|refine ⟨⟨by kernel_rfl,by kernel_rfl⟩,?_⟩|refine ⟨by decide,?_⟩|refine lit_true ?_|refine lit_false ?_))
        refine back (i + 1) ⟨by omega, fun j hj => ?_⟩ (by omega) (ele_mk rfl rfl ⟨AVle.refl _, AVle.refl _, AVle.refl _, le_int (wrap_succ (by omega)), trivial⟩)
        rcases Nat.lt_or_ge j i with h | h
        · exact h2 j h
        · obtain rfl : j = i := by omega
          exact g2
      · have g2 := fct_b1.1 g2
        (repeat ((conv=>whnf);first|refine ω0 ?_|refine ω1 ?_|refine ω2 ?_|refine ω3 ?_|refine ω4 rfl ?_|refine ω5 rfl ?_|refine ω6 ?_|refine ω7 ?_|refine ω8 ?_|refine ⟨rfl,?_⟩|refine ⟨trivial,?_⟩|refine ⟨⟨rfl,Nat.le_of_ble_eq_true rfl⟩,?_⟩|refine ⟨⟨by kernel_rfl,by kernel_rfl⟩,?_⟩|refine ⟨by decide,?_⟩|refine lit_true ?_|refine lit_false ?_))
        refine ret_tells rfl (le_int ?_)
        rw [idxOf_some (i := i) (by omega) (decide_eq_true g2) fun j hj => decide_eq_false (h2 j hj)]
theorem contains_spec (l : List Int) (x : Int) (hl : l.length ≤ 1000000000) : Tells Try.prog 115 [intsZ l, int x] (boolA (l.contains x)) := by
  refine tells_of_aw Try.func115 rfl rfl fun nx => ?_
  (repeat ((conv=>whnf);first|refine ω0 ?_|refine ω1 ?_|refine ω2 ?_|refine ω3 ?_|refine ω4 rfl ?_|refine ω5 rfl ?_|refine ω6 ?_|refine ω7 ?_|refine ω8 ?_|refine ⟨rfl,?_⟩|refine ⟨trivial,?_⟩|refine ⟨⟨rfl,Nat.le_of_ble_eq_true rfl⟩,?_⟩|refine ⟨⟨by kernel_rfl,by kernel_rfl⟩,?_⟩|refine ⟨by decide,?_⟩|refine lit_true ?_|refine lit_false ?_))
  refine aop_tells rfl rfl (index_spec l x hl) ⟨AVle.refl _, AVle.refl _, trivial⟩ fun nx => ?_
  (repeat ((conv=>whnf);first|refine ω0 ?_|refine ω1 ?_|refine ω2 ?_|refine ω3 ?_|refine ω4 rfl ?_|refine ω5 rfl ?_|refine ω6 ?_|refine ω7 ?_|refine ω8 ?_|refine ⟨rfl,?_⟩|refine ⟨trivial,?_⟩|refine ⟨⟨rfl,Nat.le_of_ble_eq_true rfl⟩,?_⟩|refine ⟨⟨by kernel_rfl,by kernel_rfl⟩,?_⟩|refine ⟨by decide,?_⟩|refine lit_true ?_|refine lit_false ?_))
  intro c hc
  (repeat ((conv=>whnf);first|refine ω0 ?_|refine ω1 ?_|refine ω2 ?_|refine ω3 ?_|refine ω4 rfl ?_|refine ω5 rfl ?_|refine ω6 ?_|refine ω7 ?_|refine ω8 ?_|refine ⟨rfl,?_⟩|refine ⟨trivial,?_⟩|refine ⟨⟨rfl,Nat.le_of_ble_eq_true rfl⟩,?_⟩|refine ⟨⟨by kernel_rfl,by kernel_rfl⟩,?_⟩|refine ⟨by decide,?_⟩|refine lit_true ?_|refine lit_false ?_))
  refine ret_tells rfl (le_bool (hc.trans ?_))
  rcases idxOf_cases l.length (fun i => decide (x = l.getD i 0)) with ⟨i, h1, h2, h3, h4⟩ | ⟨h1, h2⟩
  · rw [h4]
    have h2 := of_decide_eq_true h2
    have : x ∈ l := by rw [h2]; simp [List.getD, h1]
    simp [this]
  · rw [h2]
    have : ¬ x ∈ l := fun hm => by
      obtain ⟨i, hi, he⟩ := List.getElem_of_mem hm
      have := of_decide_eq_false (h1 i hi)
      exact this (by simp [List.getD, hi, he])
    simp [this]

def okW (w : Nat) : Prop := w = 1 ∨ w = 2 ∨ w = 4 ∨ w = 8
def okI (n : Int) : Prop := -9223372036854775808 ≤ n ∧ n ≤ 9223372036854775807
def thereI (n : Nat) (at' : Int) (w : Nat) : Nat := if 0 ≤ at' ∧ at' + w ≤ n then 0 else 2
theorem there_spec (b : List Nat) (at' : Int) (w : Nat) (hw : okW w) (hl : b.length ≤ 1000000000) (ha : okI at') : Tells Try.prog 84 [bytesA b, int at', int w] (int (thereI b.length at' w)) := by
  refine tells_of_aw Try.func84 rfl rfl fun nx => ?_
  (repeat ((conv=>whnf);first|refine ω0 ?_|refine ω1 ?_|refine ω2 ?_|refine ω3 ?_|refine ω4 rfl ?_|refine ω5 rfl ?_|refine ω6 ?_|refine ω7 ?_|refine ω8 ?_|refine ⟨rfl,?_⟩|refine ⟨trivial,?_⟩|refine ⟨⟨rfl,Nat.le_of_ble_eq_true rfl⟩,?_⟩|refine ⟨⟨by kernel_rfl,by kernel_rfl⟩,?_⟩|refine ⟨by decide,?_⟩|refine lit_true ?_|refine lit_false ?_))
  refine aop_tells rfl rfl (contains_spec [1, 2, 4, 8] w (by decide)) ⟨?_, AVle.refl _, trivial⟩ fun nx => ?_
  · refine AVle.os_sl.trans (AVle.sl_fun fun k hk => ?_)
    match k, hk with
    | 0, _ => rfl
    | 1, _ => rfl
    | 2, _ => rfl
    | 3, _ => rfl
  intro c hc
  obtain rfl : c = true := by rw [hc]; rcases hw with rfl | rfl | rfl | rfl <;> rfl
  (repeat ((conv=>whnf);first|refine ω0 ?_|refine ω1 ?_|refine ω2 ?_|refine ω3 ?_|refine ω4 rfl ?_|refine ω5 rfl ?_|refine ω6 ?_|refine ω7 ?_|refine ω8 ?_|refine ⟨rfl,?_⟩|refine ⟨trivial,?_⟩|refine ⟨⟨rfl,Nat.le_of_ble_eq_true rfl⟩,?_⟩|refine ⟨⟨by kernel_rfl,by kernel_rfl⟩,?_⟩|refine ⟨by decide,?_⟩|refine lit_true ?_|refine lit_false ?_))
  intro c g; cases c
  · have g := not_of g
    (repeat ((conv=>whnf);first|refine ω0 ?_|refine ω1 ?_|refine ω2 ?_|refine ω3 ?_|refine ω4 rfl ?_|refine ω5 rfl ?_|refine ω6 ?_|refine ω7 ?_|refine ω8 ?_|refine ⟨rfl,?_⟩|refine ⟨trivial,?_⟩|refine ⟨⟨rfl,Nat.le_of_ble_eq_true rfl⟩,?_⟩|refine ⟨⟨by kernel_rfl,by kernel_rfl⟩,?_⟩|refine ⟨by decide,?_⟩|refine lit_true ?_|refine lit_false ?_))
    intro c g2; cases c
    · have g2 := not_of g2
      rw [wrap_id (by rcases hw with rfl | rfl | rfl | rfl <;> omega) (by omega)] at g2
      (repeat ((conv=>whnf);first|refine ω0 ?_|refine ω1 ?_|refine ω2 ?_|refine ω3 ?_|refine ω4 rfl ?_|refine ω5 rfl ?_|refine ω6 ?_|refine ω7 ?_|refine ω8 ?_|refine ⟨rfl,?_⟩|refine ⟨trivial,?_⟩|refine ⟨⟨rfl,Nat.le_of_ble_eq_true rfl⟩,?_⟩|refine ⟨⟨by kernel_rfl,by kernel_rfl⟩,?_⟩|refine ⟨by decide,?_⟩|refine lit_true ?_|refine lit_false ?_))
      refine ret_tells rfl (le_int ?_)
      unfold thereI; rw [if_pos (by omega)]; rfl
    · have g2 := yes_of g2
      rw [wrap_id (by rcases hw with rfl | rfl | rfl | rfl <;> omega) (by omega)] at g2
      (repeat ((conv=>whnf);first|refine ω0 ?_|refine ω1 ?_|refine ω2 ?_|refine ω3 ?_|refine ω4 rfl ?_|refine ω5 rfl ?_|refine ω6 ?_|refine ω7 ?_|refine ω8 ?_|refine ⟨rfl,?_⟩|refine ⟨trivial,?_⟩|refine ⟨⟨rfl,Nat.le_of_ble_eq_true rfl⟩,?_⟩|refine ⟨⟨by kernel_rfl,by kernel_rfl⟩,?_⟩|refine ⟨by decide,?_⟩|refine lit_true ?_|refine lit_false ?_))
      refine ret_tells rfl (le_int ?_)
      unfold thereI; rw [if_neg (by omega)]; rfl
  · have g := yes_of g
    (repeat ((conv=>whnf);first|refine ω0 ?_|refine ω1 ?_|refine ω2 ?_|refine ω3 ?_|refine ω4 rfl ?_|refine ω5 rfl ?_|refine ω6 ?_|refine ω7 ?_|refine ω8 ?_|refine ⟨rfl,?_⟩|refine ⟨trivial,?_⟩|refine ⟨⟨rfl,Nat.le_of_ble_eq_true rfl⟩,?_⟩|refine ⟨⟨by kernel_rfl,by kernel_rfl⟩,?_⟩|refine ⟨by decide,?_⟩|refine lit_true ?_|refine lit_false ?_))
    refine ret_tells rfl (le_int ?_)
    unfold thereI; rw [if_neg (by omega)]; rfl

def placesI (at' w : Nat) (big : Bool) : List Nat := (List.range w).map fun i => if big then at' + i else at' + w - 1 - i
theorem placesI_length (at' w : Nat) (big : Bool) : (placesI at' w big).length = w := by simp [placesI]
theorem placesI_get {at' w i : Nat} {big : Bool} (h : i < w) : (placesI at' w big).getD i 0 = if big then at' + i else at' + w - 1 - i := by
  simp [placesI, List.getD, List.getElem?_map, List.getElem?_range h]
theorem places_spec (at' : Int) (w : Int) (big : Bool) : Tells Try.prog 85 [int at', int w, boolA big] (.fn (.func 116) [] [.rp [int w], .rp [int at'], .rp [boolA big]]) := by
  refine tells_of_aw Try.func85 rfl rfl fun nx => ?_
  (repeat ((conv=>whnf);first|refine ω0 ?_|refine ω1 ?_|refine ω2 ?_|refine ω3 ?_|refine ω4 rfl ?_|refine ω5 rfl ?_|refine ω6 ?_|refine ω7 ?_|refine ⟨rfl,?_⟩|refine ⟨trivial,?_⟩|refine ⟨⟨rfl,Nat.le_of_ble_eq_true rfl⟩,?_⟩|refine ⟨⟨by kernel_rfl,by kernel_rfl⟩,?_⟩|refine ⟨by decide,?_⟩|refine lit_true ?_|refine lit_false ?_))
  refine AW.le (ele_freeze (L := [(6, .fn (.func 116) [] [.rp [int w], .rp [int at'], .rp [boolA big]])]) (bx := []) (pm := []) (nn := 3) [((2, nx + 2), .c [boolA big]), ((1, nx + 1), .c [int w]), ((0, nx), .c [int at'])] rfl rfl (List.Sublist.refl _) .slnil ⟨Frz.fn trivial ⟨Frz.bp (.tail _ (.head _)) rfl, Frz.bp (.tail _ (.tail _ (.head _))) rfl, Frz.bp (.head _) rfl, trivial⟩, trivial⟩) ?_
  (repeat ((conv=>whnf);first|refine ω0 ?_|refine ω1 ?_|refine ω2 ?_|refine ω3 ?_|refine ω4 rfl ?_|refine ω5 rfl ?_|refine ω6 ?_|refine ω7 ?_|refine ω8 ?_|refine ⟨rfl,?_⟩|refine ⟨trivial,?_⟩|refine ⟨⟨rfl,Nat.le_of_ble_eq_true rfl⟩,?_⟩|refine ⟨⟨by kernel_rfl,by kernel_rfl⟩,?_⟩|refine ⟨by decide,?_⟩|refine lit_true ?_|refine lit_false ?_))
  exact ret_tells rfl (AVle.refl _)
theorem places_iter (at' w : Nat) (big : Bool) (hw : w ≤ 8) (ha : at' ≤ 1000000000) : IterSpec Try.prog 116 [] [.rp [int w], .rp [int at'], .rp [boolA big]] (fun k : Nat => [int k]) (placesI at' w big) := by
  intro i σ Cb Cp I J hc s0 nx nn h0
  refine ecall_of_aw Try.func116 rfl rfl ?_
  (repeat ((conv=>whnf);first|refine ω0 ?_|refine ω1 ?_|refine ω2 ?_|refine ω3 ?_|refine ω4 rfl ?_|refine ω5 rfl ?_|refine ω6 ?_|refine ω7 ?_|refine ω8 ?_|refine ⟨rfl,?_⟩|refine ⟨trivial,?_⟩|refine ⟨⟨rfl,Nat.le_of_ble_eq_true rfl⟩,?_⟩|refine ⟨⟨by kernel_rfl,by kernel_rfl⟩,?_⟩|refine ⟨by decide,?_⟩|refine lit_true ?_|refine lit_false ?_))
  refine aw_loop (fun x : Nat × σ × Nat => mk 26 [(0, .yl i), (1, .rp [int w]), (2, .rp [int at']), (3, .rp [boolA big]), (7, int w), (8, int x.1)] ⟨Cb x.2.1, Cp x.2.1, x.2.2, nn⟩) (fun x => x.1 ≤ w ∧ I ((placesI at' w big).take x.1) x.2.1) (fun x => w - x.1) ?_ ?_
  · exact ⟨(0, s0, nx), ⟨by dsimp only; omega, by simpa using h0⟩, ele_mk rfl rfl ⟨AVle.refl _, AVle.refl _, AVle.refl _, AVle.refl _, AVle.refl _, AVle.refl _, trivial⟩⟩
  · rintro ⟨j, s, nx'⟩ ⟨h1, h2⟩
    dsimp only at h1 h2
    (repeat ((conv=>whnf);first|refine ω0 ?_|refine ω1 ?_|refine ω2 ?_|refine ω3 ?_|refine ω4 rfl ?_|refine ω5 rfl ?_|refine ω6 ?_|refine ω7 ?_|refine ω8 ?_|refine ⟨rfl,?_⟩|refine ⟨trivial,?_⟩|refine ⟨⟨rfl,Nat.le_of_ble_eq_true rfl⟩,?_⟩|refine ⟨⟨by kernel_rfl,by kernel_rfl⟩,?_⟩|refine ⟨by decide,?_⟩|refine lit_true ?_|refine lit_false ?_))
    intro c g; cases c
    · have g := not_of g
      dsimp only at g
      (repeat ((conv=>whnf);first|refine ω0 ?_|refine ω1 ?_|refine ω2 ?_|refine ω3 ?_|refine ω4 rfl ?_|refine ω5 rfl ?_|refine ω6 ?_|refine ω7 ?_|refine ω8 ?_|refine ⟨rfl,?_⟩|refine ⟨trivial,?_⟩|refine ⟨⟨rfl,Nat.le_of_ble_eq_true rfl⟩,?_⟩|refine ⟨⟨by kernel_rfl,by kernel_rfl⟩,?_⟩|refine ⟨by decide,?_⟩|refine lit_true ?_|refine lit_false ?_))
      refine ret_is rfl ⟨s, .inl ?_, rfl, rfl⟩
      rw [List.take_of_length_le (by rw [placesI_length]; omega)] at h2
      exact h2
    · have g := yes_of g
      dsimp only at g
      have hj : j < w := by omega
      have hsp : placesI at' w big = (placesI at' w big).take j ++ (placesI at' w big).getD j 0 :: (placesI at' w big).drop (j + 1) := by
        have hlt : j < (placesI at' w big).length := by rw [placesI_length]; exact hj
        simp [List.getD, hlt]
      have hst : (placesI at' w big).take (j + 1) = (placesI at' w big).take j ++ [(placesI at' w big).getD j 0] := take_getD 0 (by rw [placesI_length]; exact hj)
      have hgt := placesI_get (at' := at') (w := w) (i := j) (big := big) hj
      generalize placesI at' w big = xs at *
      (repeat ((conv=>whnf);first|refine ω0 ?_|refine ω1 ?_|refine ω2 ?_|refine ω3 ?_|refine ω4 rfl ?_|refine ω5 rfl ?_|refine ω6 ?_|refine ω7 ?_|refine ω8 ?_|refine ⟨rfl,?_⟩|refine ⟨trivial,?_⟩|refine ⟨⟨rfl,Nat.le_of_ble_eq_true rfl⟩,?_⟩|refine ⟨⟨by kernel_rfl,by kernel_rfl⟩,?_⟩|refine ⟨by decide,?_⟩|refine lit_true ?_|refine lit_false ?_))
      cases big
      all_goals (repeat ((conv=>whnf);first|refine ω0 ?_|refine ω1 ?_|refine ω2 ?_|refine ω3 ?_|refine ω4 rfl ?_|refine ω5 rfl ?_|refine ω6 ?_|refine ω7 ?_|refine ω8 ?_|refine ⟨rfl,?_⟩|refine ⟨trivial,?_⟩|refine ⟨⟨rfl,Nat.le_of_ble_eq_true rfl⟩,?_⟩|refine ⟨⟨by kernel_rfl,by kernel_rfl⟩,?_⟩|refine ⟨by decide,?_⟩|refine lit_true ?_|refine lit_false ?_))
      · simp only [Bool.false_eq_true, if_false] at hgt
        refine aop_hand (pre := xs.take j) (post := xs.drop (j + 1)) (x := xs.getD j 0) (s := s) [] [] rfl rfl rfl hc hsp h2 ⟨le_int ?_, trivial⟩ (fun s' nx5 hI => ?_) (fun s' nx5 hJ => ?_)
        · rw [hgt]
          dsimp only
          rw [wrap_id (n := (at' : Int) + w) (by omega) (by omega), wrap_id (n := (at' : Int) + w - 1) (by omega) (by omega), wrap_id (by omega) (by omega)]
          omega
        · (repeat ((conv=>whnf);first|refine ω0 ?_|refine ω1 ?_|refine ω2 ?_|refine ω3 ?_|refine ω4 rfl ?_|refine ω5 rfl ?_|refine ω6 ?_|refine ω7 ?_|refine ω8 ?_|refine ⟨rfl,?_⟩|refine ⟨trivial,?_⟩|refine ⟨⟨rfl,Nat.le_of_ble_eq_true rfl⟩,?_⟩|refine ⟨⟨by kernel_rfl,by kernel_rfl⟩,?_⟩|refine ⟨by decide,?_⟩|refine lit_true ?_|refine lit_false ?_))
          exact back (j + 1, s', nx5) ⟨by dsimp only; omega, by dsimp only; rw [hst]; exact hI⟩ (by dsimp only; omega) (ele_mk rfl rfl ⟨AVle.refl _, AVle.refl _, AVle.refl _, AVle.refl _, AVle.refl _, le_int (wrap_succ (by dsimp only; omega)), trivial⟩)
        · (repeat ((conv=>whnf);first|refine ω0 ?_|refine ω1 ?_|refine ω2 ?_|refine ω3 ?_|refine ω4 rfl ?_|refine ω5 rfl ?_|refine ω6 ?_|refine ω7 ?_|refine ω8 ?_|refine ⟨rfl,?_⟩|refine ⟨trivial,?_⟩|refine ⟨⟨rfl,Nat.le_of_ble_eq_true rfl⟩,?_⟩|refine ⟨⟨by kernel_rfl,by kernel_rfl⟩,?_⟩|refine ⟨by decide,?_⟩|refine lit_true ?_|refine lit_false ?_))
          exact ret_is rfl ⟨s', .inr ⟨_, _, _, hsp, hJ⟩, rfl, rfl⟩
      · simp only [if_true] at hgt
        refine aop_hand (pre := xs.take j) (post := xs.drop (j + 1)) (x := xs.getD j 0) (s := s) [] [] rfl rfl rfl hc hsp h2 ⟨le_int ?_, trivial⟩ (fun s' nx5 hI => ?_) (fun s' nx5 hJ => ?_)
        · rw [hgt]
          dsimp only
          rw [wrap_id (by omega) (by omega)]
          omega
        · (repeat ((conv=>whnf);first|refine ω0 ?_|refine ω1 ?_|refine ω2 ?_|refine ω3 ?_|refine ω4 rfl ?_|refine ω5 rfl ?_|refine ω6 ?_|refine ω7 ?_|refine ω8 ?_|refine ⟨rfl,?_⟩|refine ⟨trivial,?_⟩|refine ⟨⟨rfl,Nat.le_of_ble_eq_true rfl⟩,?_⟩|refine ⟨⟨by kernel_rfl,by kernel_rfl⟩,?_⟩|refine ⟨by decide,?_⟩|refine lit_true ?_|refine lit_false ?_))
          exact back (j + 1, s', nx5) ⟨by dsimp only; omega, by dsimp only; rw [hst]; exact hI⟩ (by dsimp only; omega) (ele_mk rfl rfl ⟨AVle.refl _, AVle.refl _, AVle.refl _, AVle.refl _, AVle.refl _, le_int (wrap_succ (by dsimp only; omega)), trivial⟩)
        · (repeat ((conv=>whnf);first|refine ω0 ?_|refine ω1 ?_|refine ω2 ?_|refine ω3 ?_|refine ω4 rfl ?_|refine ω5 rfl ?_|refine ω6 ?_|refine ω7 ?_|refine ω8 ?_|refine ⟨rfl,?_⟩|refine ⟨trivial,?_⟩|refine ⟨⟨rfl,Nat.le_of_ble_eq_true rfl⟩,?_⟩|refine ⟨⟨by kernel_rfl,by kernel_rfl⟩,?_⟩|refine ⟨by decide,?_⟩|refine lit_true ?_|refine lit_false ?_))
          exact ret_is rfl ⟨s', .inr ⟨_, _, _, hsp, hJ⟩, rfl, rfl⟩

/-- Bytes put together, in this order. -/
def accB (b : List Nat) (ks : List Nat) : Nat := ks.foldl (fun n k => n * 256 + b.getD k 0) 0
theorem accB_snoc (b ks : List Nat) (k : Nat) : accB b (ks ++ [k]) = accB b ks * 256 + b.getD k 0 := by simp [accB]
theorem okB.get {b : List Nat} (h : okB b) (k : Nat) : b.getD k 0 < 256 := by
  rcases Nat.lt_or_ge k b.length with hk | hk
  · have e : b.getD k 0 = b[k] := by simp [List.getD, hk]
    rw [e]; exact h _ (List.getElem_mem hk)
  · simp [List.getD, List.getElem?_eq_none hk]
theorem accB_go {b : List Nat} (h : okB b) : ∀ (ks : List Nat) (n : Nat), ks.foldl (fun n k => n * 256 + b.getD k 0) n + 1 ≤ (n + 1) * 256 ^ ks.length
  | [], n => by simp
  | k :: ks, n => by
    have h1 := accB_go h ks (n * 256 + b.getD k 0)
    have h2 := h.get k
    rw [List.foldl_cons, List.length_cons, Nat.pow_succ]
    refine Nat.le_trans h1 ?_
    rw [Nat.mul_comm (256 ^ ks.length) 256, ← Nat.mul_assoc]
    exact Nat.mul_le_mul_right _ (by omega)
theorem accB_lt {b : List Nat} (h : okB b) (ks : List Nat) : accB b ks < 256 ^ ks.length := by
  have := accB_go h ks 0
  simp only [Nat.zero_add, Nat.one_mul] at this
  exact this
theorem shl_or {n x : Nat} (hn : n < 72057594037927936) (hx : x < 256) : bitsI .or .u64 (IntKind.u64.wrap ((n : Int) * 2 ^ 8)) (IntKind.u64.wrap (x : Int)) = ((n * 256 + x : Nat) : Int) := by
  have h1 : IntKind.u64.wrap ((n : Int) * 2 ^ 8) = ((n * 256 : Nat) : Int) := by
    have : ((n : Int) * 2 ^ 8) = ((n * 256 : Nat) : Int) := by push_cast; rfl
    rw [this]
    show ((n * 256 : Nat) : Int) % 18446744073709551616 = _
    omega
  have h2 : IntKind.u64.wrap (x : Int) = (x : Int) := by show (x : Int) % 18446744073709551616 = _; omega
  rw [h1, h2]
  have h3 : n * 256 ||| x = n * 256 + x := by
    have := Nat.two_pow_add_eq_or_of_lt (i := 8) (b := x) (by omega) n
    rw [Nat.mul_comm] at this
    exact this.symm
  have := bits_or (k := .u64) (a := n * 256) (b := x) (by show _ < 2 ^ 64; omega) (by show _ < 2 ^ 64; omega) (by rw [h3]; show ((n * 256 + x : Nat) : Int) % 18446744073709551616 = _; omega)
  rw [h3] at this
  exact this
theorem get_spec (b : List Nat) (hb : okB b) (hl : b.length ≤ 1000000000) (at' : Int) (ha : okI at') (w : Nat) (hw : okW w) (big : Bool) :
    Tells Try.prog 61 [bytesA b, int at', int w, boolA big] (.tup [u64 (if thereI b.length at' w = 0 then accB b (placesI at'.toNat w big) else 0 : Nat), int (thereI b.length at' w)]) := by
  have hw8 : w ≤ 8 := by rcases hw with rfl | rfl | rfl | rfl <;> omega
  refine tells_of_aw Try.func61 rfl rfl fun nx => ?_
  (repeat ((conv=>whnf);first|refine ω0 ?_|refine ω1 ?_|refine ω2 ?_|refine ω3 ?_|refine ω4 rfl ?_|refine ω5 rfl ?_|refine ω6 ?_|refine ω7 ?_|refine ω8 ?_|refine ⟨rfl,?_⟩|refine ⟨trivial,?_⟩|refine ⟨⟨rfl,Nat.le_of_ble_eq_true rfl⟩,?_⟩|refine ⟨⟨by kernel_rfl,by kernel_rfl⟩,?_⟩|refine ⟨by decide,?_⟩|refine lit_true ?_|refine lit_false ?_))
  refine aop_tells rfl rfl (there_spec b at' w hw hl ha) ⟨AVle.refl _, AVle.refl _, AVle.refl _, trivial⟩ fun nx1 => ?_
  (repeat ((conv=>whnf);first|refine ω0 ?_|refine ω1 ?_|refine ω2 ?_|refine ω3 ?_|refine ω4 rfl ?_|refine ω5 rfl ?_|refine ω6 ?_|refine ω7 ?_|refine ω8 ?_|refine ⟨rfl,?_⟩|refine ⟨trivial,?_⟩|refine ⟨⟨rfl,Nat.le_of_ble_eq_true rfl⟩,?_⟩|refine ⟨⟨by kernel_rfl,by kernel_rfl⟩,?_⟩|refine ⟨by decide,?_⟩|refine lit_true ?_|refine lit_false ?_))
  intro c g1; cases c
  · have g1 := bne_no g1
    have hz : thereI b.length at' w = 0 := by omega
    obtain ⟨n, rfl⟩ : ∃ n : Nat, at' = n := ⟨at'.toNat, by unfold thereI at hz; split at hz <;> omega⟩
    have hn : n + w ≤ b.length := by unfold thereI at hz; split at hz <;> omega
    (repeat ((conv=>whnf);first|refine ω0 ?_|refine ω1 ?_|refine ω2 ?_|refine ω3 ?_|refine ω4 rfl ?_|refine ω5 rfl ?_|refine ω6 ?_|refine ω7 ?_|refine ω8 ?_|refine ⟨rfl,?_⟩|refine ⟨trivial,?_⟩|refine ⟨⟨rfl,Nat.le_of_ble_eq_true rfl⟩,?_⟩|refine ⟨⟨by kernel_rfl,by kernel_rfl⟩,?_⟩|refine ⟨by decide,?_⟩|refine lit_true ?_|refine lit_false ?_))
    refine aop_tells rfl rfl (places_spec n w big) ⟨AVle.refl _, AVle.refl _, AVle.refl _, trivial⟩ fun nx2 => ?_
    (repeat ((conv=>whnf);first|refine ω0 ?_|refine ω1 ?_|refine ω2 ?_|refine ω3 ?_|refine ω4 rfl ?_|refine ω5 rfl ?_|refine ω6 ?_|refine ω7 ?_|refine ω8 ?_|refine ⟨rfl,?_⟩|refine ⟨trivial,?_⟩|refine ⟨⟨rfl,Nat.le_of_ble_eq_true rfl⟩,?_⟩|refine ⟨⟨by kernel_rfl,by kernel_rfl⟩,?_⟩|refine ⟨by decide,?_⟩|refine lit_true ?_|refine lit_false ?_))
    refine AW.le (ele_mk (L := [(4, .bp (0, nx) 0), (11, .bp (1, nx1) 0), (23, .fn (.func 116) [] [.rp [int w], .rp [int n], .rp [boolA big]])]) rfl rfl ⟨AVle.refl _, AVle.refl _, AVle.refl _, trivial⟩) ?_
    refine aw_for (σ := Nat) (α := Nat) (e := fun k : Nat => [int k]) (xs := placesI n w big) (first' := []) (caps' := [.rp [int w], .rp [int n], .rp [boolA big]]) (fun x : Nat => [((1, nx1), .c [u64 x]), ((0, nx), .c [bytesA b])]) (fun _ => [])
      (fun pre x => x = accB b pre) (fun _ _ _ => False) 0 rfl rfl (places_iter n w big hw8 (by omega)) trivial (LeL.refl _) rfl rfl rfl (fun _ => rfl) ?_ ?_
    · intro pre x post s nx3 nn3 hx hs
      subst hs
      have hlen : pre.length < w := by rw [← placesI_length n w big, hx]; simp
      have hxb : x < b.length := by
        have : x ∈ placesI n w big := by rw [hx]; simp
        obtain ⟨i, hi, rfl⟩ := List.mem_map.1 this
        have := List.mem_range.1 hi
        split <;> omega
      have hacc : accB b pre < 72057594037927936 := Nat.lt_of_lt_of_le (accB_lt hb pre) (Nat.le_trans (Nat.pow_le_pow_right (by decide) (by omega : pre.length ≤ 7)) (by decide))
      (repeat ((conv=>whnf);first|refine ω0 ?_|refine ω1 ?_|refine ω2 ?_|refine ω3 ?_|refine ω4 rfl ?_|refine ω5 rfl ?_|refine ω6 ?_|refine ω7 ?_|refine ω8 ?_|refine ⟨rfl,?_⟩|refine ⟨trivial,?_⟩|refine ⟨⟨rfl,Nat.le_of_ble_eq_true rfl⟩,?_⟩|refine ⟨⟨by kernel_rfl,by kernel_rfl⟩,?_⟩|refine ⟨by decide,?_⟩|refine lit_true ?_|refine lit_false ?_))
      (refine aw_draw 8 ?_ ?_ ?_ ?_; (· kernel_rfl); (· kernel_rfl); (· kernel_rfl))
      (repeat ((conv=>whnf);first|refine ω0 ?_|refine ω1 ?_|refine ω2 ?_|refine ω3 ?_|refine ω4 rfl ?_|refine ω5 rfl ?_|refine ω6 ?_|refine ω7 ?_|refine ω8 ?_|refine ⟨rfl,?_⟩|refine ⟨trivial,?_⟩|refine ⟨⟨rfl,Nat.le_of_ble_eq_true rfl⟩,?_⟩|refine ⟨⟨by kernel_rfl,by kernel_rfl⟩,?_⟩|refine ⟨by decide,?_⟩|refine lit_true ?_|refine lit_false ?_))
      refine ⟨⟨by first | omega | (dsimp only; omega), by first | omega | (dsimp only; omega)⟩, ?_⟩
      (repeat ((conv=>whnf);first|refine ω0 ?_|refine ω1 ?_|refine ω2 ?_|refine ω3 ?_|refine ω4 rfl ?_|refine ω5 rfl ?_|refine ω6 ?_|refine ω7 ?_|refine ω8 ?_|refine ⟨rfl,?_⟩|refine ⟨trivial,?_⟩|refine ⟨⟨rfl,Nat.le_of_ble_eq_true rfl⟩,?_⟩|refine ⟨⟨by kernel_rfl,by kernel_rfl⟩,?_⟩|refine ⟨by decide,?_⟩|refine lit_true ?_|refine lit_false ?_))
      have hv : bitsI .or .u64 (IntKind.u64.wrap ((accB b pre : Nat) * 2 ^ 8)) (IntKind.u64.wrap (b.getD x 0 : Nat)) = ((accB b (pre ++ [x]) : Nat) : Int) := by rw [accB_snoc]; exact shl_or hacc (hb.get x)
      exact ⟨accB b (pre ++ [x]), .inl ⟨rfl, rfl⟩, congrArg (fun v : Int => _ :: _ :: ((1, nx1), Own.c [u64 v]) :: _) hv, rfl⟩
    · intro s' nx3 nn3 hs
      subst hs
      (repeat ((conv=>whnf);first|refine ω0 ?_|refine ω1 ?_|refine ω2 ?_|refine ω3 ?_|refine ω4 rfl ?_|refine ω5 rfl ?_|refine ω6 ?_|refine ω7 ?_|refine ω8 ?_|refine ⟨rfl,?_⟩|refine ⟨trivial,?_⟩|refine ⟨⟨rfl,Nat.le_of_ble_eq_true rfl⟩,?_⟩|refine ⟨⟨by kernel_rfl,by kernel_rfl⟩,?_⟩|refine ⟨by decide,?_⟩|refine lit_true ?_|refine lit_false ?_))
      have hv : (if thereI b.length (n : Int) w = 0 then accB b (placesI (Int.toNat (n : Int)) w big) else 0) = accB b (placesI n w big) := if_pos hz
      refine ret_tells (r := AV.tup [u64 (accB b (placesI n w big) : Nat), int (0 : Nat)]) rfl (AVle.of_eq ?_)
      rw [hv, hz]
  · have g1 := bne_yes g1
    (repeat ((conv=>whnf);first|refine ω0 ?_|refine ω1 ?_|refine ω2 ?_|refine ω3 ?_|refine ω4 rfl ?_|refine ω5 rfl ?_|refine ω6 ?_|refine ω7 ?_|refine ω8 ?_|refine ⟨rfl,?_⟩|refine ⟨trivial,?_⟩|refine ⟨⟨rfl,Nat.le_of_ble_eq_true rfl⟩,?_⟩|refine ⟨⟨by kernel_rfl,by kernel_rfl⟩,?_⟩|refine ⟨by decide,?_⟩|refine lit_true ?_|refine lit_false ?_))
    refine ret_tells rfl (AVle.of_eq ?_)
    rw [if_neg (by omega)]
    rfl
end Go.Proofs.W

namespace Go.Proofs.W

/-- A set, and what of it is still to be gone on from. -/
def lookB (s : List Bool × List Nat) (t : Nat) : List Bool × List Nat := if s.1.getD t false then s else (setT s.1 t, s.2 ++ [t])
theorem count_set : ∀ (o : List Bool) (t : Nat), t < o.length → o.getD t false = false → (setT o t).count true = o.count true + 1
  | [], t, h, _ => by simp at h
  | b :: o, 0, _, h => by
    have : b = false := by simpa using h
    subst this
    simp [setT]
  | b :: o, t + 1, h, h' => by
    have ih := count_set o t (by simpa using h) (by simpa using h')
    simp only [setT, List.set_cons_succ, List.count_cons] at ih ⊢
    omega
theorem count_lt : ∀ (o : List Bool) (t : Nat), t < o.length → o.getD t false = false → o.count true < o.length
  | [], t, h, _ => by simp at h
  | b :: o, 0, _, h => by
    have : b = false := by simpa using h
    subst this
    have := List.count_le_length (a := true) (l := o)
    simp only [List.count_cons, List.length_cons]
    simp; omega
  | b :: o, t + 1, h, h' => by
    have ih := count_lt o t (by simpa using h) (by simpa using h')
    simp only [List.count_cons, List.length_cons]
    split <;> omega
structure Weak (n : Nat) (s : List Bool × List Nat) : Prop where
  len : s.1.length = n
  few : s.2.length ≤ s.1.count true
theorem Weak.look {n t : Nat} {s : List Bool × List Nat} (h : Weak n s) (ht : t < n) : Weak n (lookB s t) := by
  unfold lookB
  split
  · exact h
  · rename_i h1
    have h1 : s.1.getD t false = false := by simpa using h1
    have h2 := count_set s.1 t (by rw [h.len]; exact ht) h1
    have h3 := h.few
    exact ⟨by rw [setT_length, h.len], by dsimp only; rw [h2, List.length_append, List.length_singleton]; omega⟩
theorem Weak.room {n t : Nat} {s : List Bool × List Nat} (h : Weak n s) (ht : t < n) (h1 : s.1.getD t false = false) : s.2.length < n := by
  have := count_lt s.1 t (by rw [h.len]; exact ht) h1
  have h2 := h.len
  have h3 := h.few
  omega
theorem Weak.fold {n : Nat} : ∀ {ts : List Nat} {s : List Bool × List Nat}, Weak n s → (∀ t ∈ ts, t < n) → Weak n (ts.foldl lookB s)
  | [], _, h, _ => h
  | t :: ts, s, h, ht => by rw [List.foldl_cons]; exact Weak.fold (h.look (ht t (by simp))) fun x hx => ht x (by simp [hx])
def mBfs (n : Nat) (s : List Bool × List Nat) : Nat := 2 * (n - s.1.count true) + s.2.length
theorem mBfs_look {n t : Nat} {s : List Bool × List Nat} (h : Weak n s) (ht : t < n) : mBfs n (lookB s t) ≤ mBfs n s := by
  unfold lookB
  split
  · exact Nat.le_refl _
  · rename_i h1
    have h1 : s.1.getD t false = false := by simpa using h1
    have h2 := count_set s.1 t (by rw [h.len]; exact ht) h1
    have h3 := count_lt s.1 t (by rw [h.len]; exact ht) h1
    have h4 := h.len
    unfold mBfs
    dsimp only
    rw [h2, List.length_append, List.length_singleton]
    omega
theorem mBfs_fold {n : Nat} : ∀ {ts : List Nat} {s : List Bool × List Nat}, Weak n s → (∀ t ∈ ts, t < n) → mBfs n (ts.foldl lookB s) ≤ mBfs n s
  | [], _, _, _ => Nat.le_refl _
  | t :: ts, s, h, ht => by
    rw [List.foldl_cons]
    exact Nat.le_trans (mBfs_fold (h.look (ht t (by simp))) fun x hx => ht x (by simp [hx])) (mBfs_look h (ht t (by simp)))
theorem look_get {n t : Nat} {s : List Bool × List Nat} (h : Weak n s) (ht : t < n) (k : Nat) : (lookB s t).1.getD k false = true ↔ s.1.getD k false = true ∨ k = t := by
  unfold lookB
  split
  · rename_i h1
    constructor
    · exact .inl
    · rintro (h2 | h2)
      · exact h2
      · subst h2; exact h1
  · dsimp only
    rw [setT_get, h.len, show (decide (t = k)) = decide (k = t) from decide_eq_decide.2 eq_comm]
    simp [ht]
theorem look_mem {t : Nat} {s : List Bool × List Nat} (k : Nat) : k ∈ (lookB s t).2 ↔ k ∈ s.2 ∨ (k = t ∧ s.1.getD k false = false) := by
  unfold lookB
  split
  · rename_i h1
    constructor
    · exact .inl
    · rintro (h2 | ⟨h2, h3⟩)
      · exact h2
      · subst h2; rw [h1] at h3; cases h3
  · rename_i h1
    have h1 : s.1.getD t false = false := by simpa using h1
    simp only [List.mem_append, List.mem_singleton]
    constructor
    · rintro (h2 | h2)
      · exact .inl h2
      · subst h2; exact .inr ⟨rfl, h1⟩
    · rintro (h2 | ⟨h2, _⟩)
      · exact .inl h2
      · exact .inr h2
theorem fold_get {n : Nat} : ∀ {ts : List Nat} {s : List Bool × List Nat}, Weak n s → (∀ t ∈ ts, t < n) → ∀ k, ((ts.foldl lookB s).1.getD k false = true ↔ s.1.getD k false = true ∨ k ∈ ts)
  | [], _, _, _, k => by simp
  | t :: ts, s, h, ht, k => by
    rw [List.foldl_cons, fold_get (h.look (ht t (by simp))) (fun x hx => ht x (by simp [hx])), look_get h (ht t (by simp))]
    simp [or_assoc]
theorem fold_mem {n : Nat} : ∀ {ts : List Nat} {s : List Bool × List Nat}, Weak n s → (∀ t ∈ ts, t < n) → ∀ k, (k ∈ (ts.foldl lookB s).2 ↔ k ∈ s.2 ∨ (k ∈ ts ∧ s.1.getD k false = false))
  | [], _, _, _, k => by simp
  | t :: ts, s, h, ht, k => by
    rw [List.foldl_cons, fold_mem (h.look (ht t (by simp))) (fun x hx => ht x (by simp [hx])), look_mem]
    have hg := look_get h (ht t (by simp)) k
    by_cases h1 : s.1.getD k false = true
    · have h2 := hg.2 (.inl h1)
      simp only [h1, h2]; simp
    · have h1' : s.1.getD k false = false := by simpa using h1
      by_cases h3 : k = t
      · have h2 := hg.2 (.inr h3)
        simp only [h1', h2]; simp [h3]
      · have h2 : (lookB s t).1.getD k false = false := by
          cases h4 : (lookB s t).1.getD k false
          · rfl
          · rcases hg.1 h4 with h5 | h5
            · exact absurd h5 h1
            · exact absurd h5 h3
        simp only [h1', h2]; simp [h3]
structure Inv (l : List Ins) (s : List Bool × List Nat) : Prop where
  weak : Weak l.length s
  zero : s.1.getD 0 false = true
  sound : ∀ x, s.1.getD x false = true → Reached l x
  mem : ∀ x ∈ s.2, s.1.getD x false = true
  full : ∀ x, s.1.getD x false = true → x ∈ s.2 ∨ ∀ t ∈ nextsI l x, s.1.getD t false = true
theorem Inv.start {l : List Ins} (hf : Formed l) : Inv l (lookB (List.replicate l.length false, []) 0) := by
  have hz : ∀ k, (List.replicate l.length false).getD k false = false := fun k => by
    simp only [List.getD, List.getElem?_replicate]; split <;> rfl
  have hw : Weak l.length (List.replicate l.length false, []) := ⟨by simp, by simp⟩
  have hg := look_get hw hf.pos
  have hm := fun k => look_mem (s := (List.replicate l.length false, [])) (t := 0) k
  refine ⟨hw.look hf.pos, (hg 0).2 (.inr rfl), fun x hx => ?_, fun x hx => ?_, fun x hx => ?_⟩
  · rcases (hg x).1 hx with h | h
    · rw [hz] at h; cases h
    · subst h; exact .zero
  · rcases (hm x).1 hx with h | ⟨h, _⟩
    · simp at h
    · subst h; exact (hg 0).2 (.inr rfl)
  · rcases (hg x).1 hx with h | h
    · rw [hz] at h; cases h
    · subst h; exact .inl ((hm 0).2 (.inr ⟨rfl, hz 0⟩))
theorem Inv.next {l : List Ins} (hf : Formed l) {o : List Bool} {m : Nat} {b : List Nat} (h : Inv l (o, m :: b)) : Inv l ((nextsI l m).foldl lookB (o, b)) ∧ mBfs l.length ((nextsI l m).foldl lookB (o, b)) < mBfs l.length (o, m :: b) := by
  obtain ⟨hw, hz, hs, hm, hfu⟩ := h
  dsimp only at hz hs hm hfu
  have hmo : o.getD m false = true := hm m (by simp)
  have hml : m < l.length := (hs m hmo).lt hf
  have hw' : Weak l.length (o, b) := ⟨hw.len, by have := hw.few; simp only [List.length_cons] at this; dsimp only; omega⟩
  have hts : ∀ t ∈ nextsI l m, t < l.length := fun t ht => (nexts_lt hf hml t ht).2
  have hg := fold_get hw' hts
  have hmm := fold_mem hw' hts
  refine ⟨⟨hw'.fold hts, (hg 0).2 (.inl hz), fun x hx => ?_, fun x hx => ?_, fun x hx => ?_⟩, ?_⟩
  · rcases (hg x).1 hx with h | h
    · exact hs x h
    · exact .step m x (hs m hmo) rfl h
  · rcases (hmm x).1 hx with h | ⟨h, _⟩
    · exact (hg x).2 (.inl (hm x (by simp; exact .inr h)))
    · exact (hg x).2 (.inr h)
  · by_cases h1 : o.getD x false = true
    · rcases hfu x h1 with h2 | h2
      · rcases List.mem_cons.1 h2 with h3 | h3
        · subst h3
          exact .inr fun t ht => (hg t).2 (.inr ht)
        · exact .inl ((hmm x).2 (.inl h3))
      · exact .inr fun t ht => (hg t).2 (.inl (h2 t ht))
    · rcases (hg x).1 hx with h2 | h2
      · exact absurd h2 h1
      · exact .inl ((hmm x).2 (.inr ⟨h2, by simpa using h1⟩))
  · have := mBfs_fold hw' hts
    unfold mBfs at this ⊢
    simp only [List.length_cons] at this ⊢
    omega
theorem getD_ext {o o' : List Bool} (hl : o.length = o'.length) (h : ∀ k, o.getD k false = o'.getD k false) : o = o' := by
  refine List.ext_getElem hl fun k h1 h2 => ?_
  have := h k
  simpa [List.getD, h1, h2] using this
theorem Inv.done {l : List Ins} (hf : Formed l) {o : List Bool} (h : Inv l (o, [])) : o = reachI l := by
  have hiff : ∀ x, o.getD x false = true ↔ Reached l x := by
    intro x
    constructor
    · exact h.sound x
    · intro hx
      induction hx with
      | zero => exact h.zero
      | step n t _ _ ht ih =>
        rcases h.full n ih with h1 | h1
        · simp at h1
        · exact h1 t ht
  refine getD_ext (by rw [reachI_length]; exact h.weak.len) fun k => ?_
  have := (hiff k).trans (reachI_iff hf k).symm
  exact Bool.eq_iff_iff.2 this
end Go.Proofs.W

namespace Go.Proofs.W
open Go.Vl
set_option maxRecDepth 100000

def intA (n : Nat) : AV := int n
def reachH (s0 s1 s2 s3 nx nn n : Nat) (s : List Bool × List Nat) : Heap :=
  ⟨[((3, s3), .c [.oc (2, s2)]), ((2, s2), .ch n (s.2.map intA)), ((1, s1), .c [.hs (0, s0) 0 n n]), ((0, s0), .c (s.1.map boolA))], [], nx, nn⟩
theorem u4 : Try.prog.underlying 4 = some .bool := by kernel_rfl
theorem b4 : Try.prog.bytesOf 4 = 1 := by kernel_rfl
theorem c4 : Try.prog.cellsOf 4 = 1 := by kernel_rfl
theorem look_spec (s0 s1 s2 s3 nx nn n : Nat) (s : List Bool × List Nat) (t : Nat) (hn : s.1.length = n) (hb : s.1.getD t false = false → s.2.length < n) (ht : t < n) (hle : n ≤ 1000000000) :
    ECall Try.prog 51 [int t, .bp (1, s1) 0, .bp (3, s3) 0] (reachH s0 s1 s2 s3 nx nn n s) fun _ h' => ∃ k, h' = reachH s0 s1 s2 s3 nx k n (lookB s t) := by
  obtain ⟨o, b⟩ := s
  dsimp only at hn hb
  have hit : (0 + (Int.toNat (t : Int)) * Try.prog.cellsOf 4) = t := by rw [c4]; omega
  refine ecall_of_aw Try.func51 rfl rfl ?_
  (repeat ((conv=>whnf);first|refine ω0 ?_|refine ω1 ?_|refine ω2 ?_|refine ω3 ?_|refine ω4 rfl ?_|refine ω5 rfl ?_|refine ω6 ?_|refine ω7 ?_|refine ω8 ?_|refine ⟨rfl,?_⟩|refine ⟨trivial,?_⟩|refine ⟨⟨rfl,Nat.le_of_ble_eq_true rfl⟩,?_⟩|refine ⟨⟨by kernel_rfl,by kernel_rfl⟩,?_⟩|refine ⟨by decide,?_⟩|refine lit_true ?_|refine lit_false ?_))
  refine ⟨⟨by omega, by omega⟩, splitO_eq (b := .bp (0, s0) t) (congrArg (AV.bp (0, s0)) hit) ?_⟩
  (conv => whnf)
  refine ⟨⟨rfl, by simp; omega⟩, splitO_eq (b := boolA (o.getD t false)) (getD_map (by dsimp only; omega)) ?_⟩
  (repeat ((conv=>whnf);first|refine ω0 ?_|refine ω1 ?_|refine ω2 ?_|refine ω3 ?_|refine ω4 rfl ?_|refine ω5 rfl ?_|refine ω6 ?_|refine ω7 ?_|refine ω8 ?_|refine ⟨rfl,?_⟩|refine ⟨trivial,?_⟩|refine ⟨⟨rfl,Nat.le_of_ble_eq_true rfl⟩,?_⟩|refine ⟨⟨by kernel_rfl,by kernel_rfl⟩,?_⟩|refine ⟨by decide,?_⟩|refine lit_true ?_|refine lit_false ?_))
  intro c h1; cases c
  · (repeat ((conv=>whnf);first|refine ω0 ?_|refine ω2 ?_|refine ω3 ?_|refine ω4 rfl ?_|refine ω5 rfl ?_|refine ω6 ?_|refine ω7 ?_|refine ω8 ?_|refine ⟨rfl,?_⟩|refine ⟨trivial,?_⟩|refine ⟨⟨rfl,Nat.le_of_ble_eq_true rfl⟩,?_⟩|refine ⟨⟨by kernel_rfl,by kernel_rfl⟩,?_⟩|refine ⟨by decide,?_⟩|refine lit_true ?_|refine lit_false ?_))
    refine aw_region ?_
    (repeat ((conv=>whnf);first|refine ω0 ?_|refine ω2 ?_|refine ω3 ?_|refine ω4 rfl ?_|refine ω5 rfl ?_|refine ω6 ?_|refine ω7 ?_|refine ω8 ?_|refine ⟨rfl,?_⟩|refine ⟨trivial,?_⟩|refine ⟨⟨rfl,Nat.le_of_ble_eq_true rfl⟩,?_⟩|refine ⟨⟨by kernel_rfl,by kernel_rfl⟩,?_⟩|refine ⟨by decide,?_⟩|refine lit_true ?_|refine lit_false ?_))
    refine ⟨⟨by omega, by omega⟩, splitO_eq (b := .bp (0, s0) t) (congrArg (AV.bp (0, s0)) hit) ?_⟩
    have hsp : splice (o.map boolA) t [AV.v (.bool true)] = (setT o t).map boolA := splice_one (f := boolA) (x := true) (by omega)
    (conv => whnf)
    refine ⟨⟨rfl, by simp; omega⟩, ?_⟩
    rw [hsp]
    (repeat ((conv=>whnf);first|refine ω0 ?_|refine ω2 ?_|refine ω3 ?_|refine ω4 rfl ?_|refine ω5 rfl ?_|refine ω6 ?_|refine ω7 ?_|refine ω8 ?_|refine ⟨rfl,?_⟩|refine ⟨trivial,?_⟩|refine ⟨⟨rfl,Nat.le_of_ble_eq_true rfl⟩,?_⟩|refine ⟨⟨by kernel_rfl,by kernel_rfl⟩,?_⟩|refine ⟨by decide,?_⟩|refine lit_true ?_|refine lit_false ?_))
    have hb := hb h1.symm
    refine aw_regionC ?_
    (repeat ((conv=>whnf);first|refine ω0 ?_|refine ω2 ?_|refine ω3 ?_|refine ω4 rfl ?_|refine ω5 rfl ?_|refine ω6 ?_|refine ω7 ?_|refine ω8 ?_|refine ⟨rfl,?_⟩|refine ⟨trivial,?_⟩|refine ⟨⟨rfl,Nat.le_of_ble_eq_true rfl⟩,?_⟩|refine ⟨⟨by kernel_rfl,by kernel_rfl⟩,?_⟩|refine ⟨by decide,?_⟩|refine lit_true ?_|refine lit_false ?_))
    (conv => whnf)
    refine ⟨⟨rfl, by simp; omega⟩, ?_⟩
    (repeat ((conv=>whnf);first|refine ω0 ?_|refine ω1 ?_|refine ω2 ?_|refine ω3 ?_|refine ω4 rfl ?_|refine ω5 rfl ?_|refine ω6 ?_|refine ω7 ?_|refine ω8 ?_|refine ⟨rfl,?_⟩|refine ⟨trivial,?_⟩|refine ⟨⟨rfl,Nat.le_of_ble_eq_true rfl⟩,?_⟩|refine ⟨⟨by kernel_rfl,by kernel_rfl⟩,?_⟩|refine ⟨by decide,?_⟩|refine lit_true ?_|refine lit_false ?_))
    refine ret_is rfl ⟨nn, ?_⟩
    unfold lookB
    rw [if_neg (by rw [← h1]; simp)]
    unfold reachH
    dsimp only
    rw [List.map_append]
    rfl
  · (repeat ((conv=>whnf);first|refine ω0 ?_|refine ω1 ?_|refine ω2 ?_|refine ω3 ?_|refine ω4 rfl ?_|refine ω5 rfl ?_|refine ω6 ?_|refine ω7 ?_|refine ω8 ?_|refine ⟨rfl,?_⟩|refine ⟨trivial,?_⟩|refine ⟨⟨rfl,Nat.le_of_ble_eq_true rfl⟩,?_⟩|refine ⟨⟨by kernel_rfl,by kernel_rfl⟩,?_⟩|refine ⟨by decide,?_⟩|refine lit_true ?_|refine lit_false ?_))
    refine ret_is rfl ⟨nn, ?_⟩
    unfold lookB
    rw [if_pos h1.symm]
    rfl
set_option maxHeartbeats 4000000 in
theorem reach_spec (l : List Ins) (hok : okL l) (hl : l.length ≤ 1000000000) : Tells Try.prog 20 [inss l] (bools (if (checkI l).2 = 0 then reachI l else [])) := by
  refine tells_of_aw Try.func20 rfl rfl fun nx => ?_
  (repeat ((conv=>whnf);first|refine ω0 ?_|refine ω1 ?_|refine ω2 ?_|refine ω3 ?_|refine ω4 rfl ?_|refine ω5 rfl ?_|refine ω6 ?_|refine ω7 ?_|refine ω8 ?_|refine ⟨rfl,?_⟩|refine ⟨trivial,?_⟩|refine ⟨⟨rfl,Nat.le_of_ble_eq_true rfl⟩,?_⟩|refine ⟨⟨by kernel_rfl,by kernel_rfl⟩,?_⟩|refine ⟨by decide,?_⟩|refine lit_true ?_|refine lit_false ?_))
  refine aop_tells rfl rfl (check_spec l hok hl) ⟨AVle.refl _, trivial⟩ fun nx => ?_
  (repeat ((conv=>whnf);first|refine ω0 ?_|refine ω1 ?_|refine ω2 ?_|refine ω3 ?_|refine ω4 rfl ?_|refine ω5 rfl ?_|refine ω6 ?_|refine ω7 ?_|refine ω8 ?_|refine ⟨rfl,?_⟩|refine ⟨trivial,?_⟩|refine ⟨⟨rfl,Nat.le_of_ble_eq_true rfl⟩,?_⟩|refine ⟨⟨by kernel_rfl,by kernel_rfl⟩,?_⟩|refine ⟨by decide,?_⟩|refine lit_true ?_|refine lit_false ?_))
  intro c g1; cases c
  · have g1 := bne_no g1
    have hf : Formed l := by
      refine formed_of ?_
      have h2 : (checkI l).2 = 0 := by omega
      unfold checkI at h2
      split at h2
      · exact absurd h2 (by assumption)
      · rename_i h3; omega
    have hle := hf.le
    have hpos := hf.pos
    rw [if_pos (by omega)]
    (repeat ((conv=>whnf);first|refine ω0 ?_|refine ω1 ?_|refine ω2 ?_|refine ω3 ?_|refine ω4 rfl ?_|refine ω5 rfl ?_|refine ω6 ?_|refine ω7 ?_|refine ω8 ?_|refine ⟨rfl,?_⟩|refine ⟨trivial,?_⟩|refine ⟨⟨rfl,Nat.le_of_ble_eq_true rfl⟩,?_⟩|refine ⟨⟨by kernel_rfl,by kernel_rfl⟩,?_⟩|refine ⟨by decide,?_⟩|refine lit_true ?_|refine lit_false ?_))
    (conv => whnf)
    refine ⟨by omega, by omega, by rw [b4]; omega, by omega, ?_⟩
    (repeat ((conv=>whnf);first|refine ω0 ?_|refine ω1 ?_|refine ω2 ?_|refine ω3 ?_|refine ω4 rfl ?_|refine ω5 rfl ?_|refine ω6 ?_|refine ω7 ?_|refine ω8 ?_|refine ⟨rfl,?_⟩|refine ⟨trivial,?_⟩|refine ⟨⟨rfl,Nat.le_of_ble_eq_true rfl⟩,?_⟩|refine ⟨⟨by kernel_rfl,by kernel_rfl⟩,?_⟩|refine ⟨by decide,?_⟩|refine lit_true ?_|refine lit_false ?_))
    (conv => whnf)
    refine ⟨by omega, by omega, by show ((8 : Nat) : Int) * _ ≤ _; omega, ?_⟩
    (repeat ((conv=>whnf);first|refine ω0 ?_|refine ω1 ?_|refine ω2 ?_|refine ω3 ?_|refine ω4 rfl ?_|refine ω5 rfl ?_|refine ω6 ?_|refine ω7 ?_|refine ω8 ?_|refine ⟨rfl,?_⟩|refine ⟨trivial,?_⟩|refine ⟨⟨rfl,Nat.le_of_ble_eq_true rfl⟩,?_⟩|refine ⟨⟨by kernel_rfl,by kernel_rfl⟩,?_⟩|refine ⟨by decide,?_⟩|refine lit_true ?_|refine lit_false ?_))
    have hI := Inv.start hf
    have hlook := look_spec nx (nx + 1) (nx + 2) (nx + 3) (nx + 4) 4 l.length (List.replicate l.length false, []) 0 (by simp) (fun _ => hpos) hpos (by omega)
    generalize lookB (List.replicate l.length false, []) 0 = s at hI hlook
    refine aop_call rfl rfl (ECall.tell (ECall.args (bs := [int ((0 : Nat) : Int), .bp (1, nx + 1) 0, .bp (3, nx + 3) 0]) ⟨AVle.refl _, AVle.refl _, AVle.refl _, trivial⟩ hlook)
      ⟨rfl, OwnLe.refl _, rfl, OwnLe.refl _, rfl, OwnLe.refl _, rfl, OwnLe.of_eq ?_, trivial⟩ trivial rfl) fun r h' hq => ?_
    · rw [List.map_replicate]; rfl
    obtain ⟨k, rfl⟩ := hq
    refine Named.same ?_
    (repeat ((conv=>whnf);first|refine ω0 ?_|refine ω1 ?_|refine ω2 ?_|refine ω3 ?_|refine ω4 rfl ?_|refine ω5 rfl ?_|refine ω6 ?_|refine ω7 ?_|refine ω8 ?_|refine ⟨rfl,?_⟩|refine ⟨trivial,?_⟩|refine ⟨⟨rfl,Nat.le_of_ble_eq_true rfl⟩,?_⟩|refine ⟨⟨by kernel_rfl,by kernel_rfl⟩,?_⟩|refine ⟨by decide,?_⟩|refine lit_true ?_|refine lit_false ?_))
    refine aw_loop (fun x : (List Bool × List Nat) × Nat × Nat => mk 45 [(0, inss l), (5, .bp (1, nx + 1) 0), (6, .bp (3, nx + 3) 0), (7, .fn (.func 51) [] [.bp (1, nx + 1) 0, .bp (3, nx + 3) 0])] (reachH nx (nx + 1) (nx + 2) (nx + 3) x.2.1 x.2.2 l.length x.1)) (fun x => Inv l x.1) (fun x => mBfs l.length x.1) ?_ ?_
    · exact ⟨(s, _, _), hI, ele_mk rfl rfl ⟨AVle.refl _, AVle.refl _, AVle.refl _, AVle.refl _, trivial⟩⟩
    · rintro ⟨⟨o, b⟩, nx', nn'⟩ hI'
      dsimp only at hI'
      (repeat ((conv=>whnf);first|refine ω0 ?_|refine ω2 ?_|refine ω3 ?_|refine ω4 rfl ?_|refine ω5 rfl ?_|refine ω6 ?_|refine ω7 ?_|refine ω8 ?_|refine ⟨rfl,?_⟩|refine ⟨trivial,?_⟩|refine ⟨⟨rfl,Nat.le_of_ble_eq_true rfl⟩,?_⟩|refine ⟨⟨by kernel_rfl,by kernel_rfl⟩,?_⟩|refine ⟨by decide,?_⟩|refine lit_true ?_|refine lit_false ?_))
      refine aw_region ?_
      (repeat ((conv=>whnf);first|refine ω0 ?_|refine ω2 ?_|refine ω3 ?_|refine ω4 rfl ?_|refine ω5 rfl ?_|refine ω6 ?_|refine ω7 ?_|refine ω8 ?_|refine ⟨rfl,?_⟩|refine ⟨trivial,?_⟩|refine ⟨⟨rfl,Nat.le_of_ble_eq_true rfl⟩,?_⟩|refine ⟨⟨by kernel_rfl,by kernel_rfl⟩,?_⟩|refine ⟨by decide,?_⟩|refine lit_true ?_|refine lit_false ?_))
      refine aw_regionC ?_
      cases b with
      | nil =>
        have ho := Inv.done hf hI'
        subst ho
        (repeat ((conv=>whnf);first|refine ω0 ?_|refine ω2 ?_|refine ω3 ?_|refine ω4 rfl ?_|refine ω5 rfl ?_|refine ω6 ?_|refine ω7 ?_|refine ω8 ?_|refine ⟨rfl,?_⟩|refine ⟨trivial,?_⟩|refine ⟨⟨rfl,Nat.le_of_ble_eq_true rfl⟩,?_⟩|refine ⟨⟨by kernel_rfl,by kernel_rfl⟩,?_⟩|refine ⟨by decide,?_⟩|refine lit_true ?_|refine lit_false ?_))
        refine ⟨fun _ => ?_, fun x rest h => by cases h⟩
        (repeat ((conv=>whnf);first|refine ω0 ?_|refine ω1 ?_|refine ω2 ?_|refine ω3 ?_|refine ω4 rfl ?_|refine ω5 rfl ?_|refine ω6 ?_|refine ω7 ?_|refine ⟨rfl,?_⟩|refine ⟨trivial,?_⟩|refine ⟨⟨rfl,Nat.le_of_ble_eq_true rfl⟩,?_⟩|refine ⟨⟨by kernel_rfl,by kernel_rfl⟩,?_⟩|refine ⟨by decide,?_⟩|refine lit_true ?_|refine lit_false ?_))
        refine AW.le (ele_freeze (L := [(2, bools (reachI l))]) (bx := []) (pm := []) (nn := 0) [((0, nx), .c ((reachI l).map boolA))] rfl rfl (.cons _ (.cons _ (.cons _ (.cons_cons _ .slnil)))) .slnil ⟨?_, trivial⟩) ?_
        · show Frz _ (.hs (0, nx) 0 l.length l.length) (.sl 1 (reachI l).length fun k => boolA ((reachI l).getD k false))
          have hrl := reachI_length l
          rw [hrl]
          refine Frz.hs1 (cs := (reachI l).map boolA) (.head _) (Nat.le_refl _) (by rw [List.length_map, hrl]; exact Nat.le_refl _) (fun _ _ => rfl) fun k hk => ?_
          rw [List.getElem?_map, List.getElem?_eq_getElem (by omega)]
          simp [List.getD, hrl, hk]
        (repeat ((conv=>whnf);first|refine ω0 ?_|refine ω1 ?_|refine ω2 ?_|refine ω3 ?_|refine ω4 rfl ?_|refine ω5 rfl ?_|refine ω6 ?_|refine ω7 ?_|refine ω8 ?_|refine ⟨rfl,?_⟩|refine ⟨trivial,?_⟩|refine ⟨⟨rfl,Nat.le_of_ble_eq_true rfl⟩,?_⟩|refine ⟨⟨by kernel_rfl,by kernel_rfl⟩,?_⟩|refine ⟨by decide,?_⟩|refine lit_true ?_|refine lit_false ?_))
        refine ret_tells rfl (AVle.refl _)
      | cons m b =>
        (repeat ((conv=>whnf);first|refine ω0 ?_|refine ω2 ?_|refine ω3 ?_|refine ω4 rfl ?_|refine ω5 rfl ?_|refine ω6 ?_|refine ω7 ?_|refine ω8 ?_|refine ⟨rfl,?_⟩|refine ⟨trivial,?_⟩|refine ⟨⟨rfl,Nat.le_of_ble_eq_true rfl⟩,?_⟩|refine ⟨⟨by kernel_rfl,by kernel_rfl⟩,?_⟩|refine ⟨by decide,?_⟩|refine lit_true ?_|refine lit_false ?_))
        refine ⟨fun h => (by cases h), fun x rest h => ?_⟩
        obtain ⟨rfl, rfl⟩ := List.cons.inj h
        have hm : m < l.length := (hI'.sound m (hI'.mem m (by simp))).lt hf
        have hts : ∀ t ∈ nextsI l m, t < l.length := fun t ht => (nexts_lt hf hm t ht).2
        have hw' : Weak l.length (o, b) := ⟨hI'.weak.len, by have := hI'.weak.few; simp only [List.length_cons] at this; dsimp only; omega⟩
        have hnext := Inv.next hf hI'
        have hshort : (nextsI l m).length ≤ 2 := by unfold nextsI; repeat' split
                                                    all_goals simp
        (repeat ((conv=>whnf);first|refine ω0 ?_|refine ω1 ?_|refine ω2 ?_|refine ω3 ?_|refine ω4 rfl ?_|refine ω5 rfl ?_|refine ω6 ?_|refine ω7 ?_|refine ω8 ?_|refine ⟨rfl,?_⟩|refine ⟨trivial,?_⟩|refine ⟨⟨rfl,Nat.le_of_ble_eq_true rfl⟩,?_⟩|refine ⟨⟨by kernel_rfl,by kernel_rfl⟩,?_⟩|refine ⟨by decide,?_⟩|refine lit_true ?_|refine lit_false ?_))
        refine aop_tells rfl rfl (next_spec l hok hf m hm) ⟨AVle.refl _, AVle.refl _, trivial⟩ fun nx3 => ?_
        have hl2 : ∀ j, j < (nextsI l m).length → (nextsI l m).getD j 0 ∈ nextsI l m := fun j hj => by simp [List.getD, hj]
        generalize nextsI l m = ts at hts hnext hshort hl2 ⊢
        (repeat ((conv=>whnf);first|refine ω0 ?_|refine ω1 ?_|refine ω2 ?_|refine ω3 ?_|refine ω4 rfl ?_|refine ω5 rfl ?_|refine ω6 ?_|refine ω7 ?_|refine ω8 ?_|refine ⟨rfl,?_⟩|refine ⟨trivial,?_⟩|refine ⟨⟨rfl,Nat.le_of_ble_eq_true rfl⟩,?_⟩|refine ⟨⟨by kernel_rfl,by kernel_rfl⟩,?_⟩|refine ⟨by decide,?_⟩|refine lit_true ?_|refine lit_false ?_))
        refine aw_loop (fun x : Nat × Nat × Nat => mk 45 [(0, inss l), (5, .bp (1, nx + 1) 0), (6, .bp (3, nx + 3) 0), (7, .fn (.func 51) [] [.bp (1, nx + 1) 0, .bp (3, nx + 3) 0]), (35, ints ts), (36, int ts.length), (37, int x.1)]
          (reachH nx (nx + 1) (nx + 2) (nx + 3) x.2.1 x.2.2 l.length ((ts.take x.1).foldl lookB (o, b)))) (fun x => x.1 ≤ ts.length) (fun x => ts.length - x.1) ?_ ?_
        · exact ⟨(0, _, _), by dsimp only; omega, ele_mk rfl rfl ⟨AVle.refl _, AVle.refl _, AVle.refl _, AVle.refl _, AVle.refl _, AVle.refl _, AVle.refl _, trivial⟩⟩
        · rintro ⟨j, nx5, nn5⟩ hj
          dsimp only at hj
          (repeat ((conv=>whnf);first|refine ω0 ?_|refine ω1 ?_|refine ω2 ?_|refine ω3 ?_|refine ω4 rfl ?_|refine ω5 rfl ?_|refine ω6 ?_|refine ω7 ?_|refine ω8 ?_|refine ⟨rfl,?_⟩|refine ⟨trivial,?_⟩|refine ⟨⟨rfl,Nat.le_of_ble_eq_true rfl⟩,?_⟩|refine ⟨⟨by kernel_rfl,by kernel_rfl⟩,?_⟩|refine ⟨by decide,?_⟩|refine lit_true ?_|refine lit_false ?_))
          intro c g5; cases c
          · have g5 := not_of g5
            dsimp only at g5
            obtain rfl : j = ts.length := by omega
            (repeat ((conv=>whnf);first|refine ω0 ?_|refine ω1 ?_|refine ω2 ?_|refine ω3 ?_|refine ω4 rfl ?_|refine ω5 rfl ?_|refine ω6 ?_|refine ω7 ?_|refine ω8 ?_|refine ⟨rfl,?_⟩|refine ⟨trivial,?_⟩|refine ⟨⟨rfl,Nat.le_of_ble_eq_true rfl⟩,?_⟩|refine ⟨⟨by kernel_rfl,by kernel_rfl⟩,?_⟩|refine ⟨by decide,?_⟩|refine lit_true ?_|refine lit_false ?_))
            exact back ((ts.take ts.length).foldl lookB (o, b), nx5, nn5) (by rw [List.take_length]; exact hnext.1) (by rw [List.take_length]; exact hnext.2) (ele_mk rfl rfl ⟨AVle.refl _, AVle.refl _, AVle.refl _, AVle.refl _, trivial⟩)
          · have g5 := yes_of g5
            dsimp only at g5
            have hj' : j < ts.length := by omega
            have htj := hts _ (hl2 j hj')
            (repeat ((conv=>whnf);first|refine ω0 ?_|refine ω1 ?_|refine ω2 ?_|refine ω3 ?_|refine ω4 rfl ?_|refine ω5 rfl ?_|refine ω6 ?_|refine ω7 ?_|refine ω8 ?_|refine ⟨rfl,?_⟩|refine ⟨trivial,?_⟩|refine ⟨⟨rfl,Nat.le_of_ble_eq_true rfl⟩,?_⟩|refine ⟨⟨by kernel_rfl,by kernel_rfl⟩,?_⟩|refine ⟨by decide,?_⟩|refine lit_true ?_|refine lit_false ?_))
            refine ⟨⟨by dsimp only; omega, by dsimp only; omega⟩, ?_⟩
            (repeat ((conv=>whnf);first|refine ω0 ?_|refine ω1 ?_|refine ω2 ?_|refine ω3 ?_|refine ω4 rfl ?_|refine ω5 rfl ?_|refine ω6 ?_|refine ω7 ?_|refine ω8 ?_|refine ⟨rfl,?_⟩|refine ⟨trivial,?_⟩|refine ⟨⟨rfl,Nat.le_of_ble_eq_true rfl⟩,?_⟩|refine ⟨⟨by kernel_rfl,by kernel_rfl⟩,?_⟩|refine ⟨by decide,?_⟩|refine lit_true ?_|refine lit_false ?_))
            have hwj : Weak l.length ((ts.take j).foldl lookB (o, b)) := hw'.fold fun t ht => hts t (List.mem_of_mem_take ht)
            refine aop_call rfl rfl (ECall.args (bs := [int (ts.getD j 0 : Nat), .bp (1, nx + 1) 0, .bp (3, nx + 3) 0]) ⟨AVle.refl _, AVle.refl _, AVle.refl _, trivial⟩
              (look_spec nx (nx + 1) (nx + 2) (nx + 3) nx5 nn5 l.length ((ts.take j).foldl lookB (o, b)) (ts.getD j 0) hwj.len (fun h => hwj.room htj h) htj (by omega))) fun r h' hq => ?_
            obtain ⟨k5, rfl⟩ := hq
            refine Named.same ?_
            (repeat ((conv=>whnf);first|refine ω0 ?_|refine ω1 ?_|refine ω2 ?_|refine ω3 ?_|refine ω4 rfl ?_|refine ω5 rfl ?_|refine ω6 ?_|refine ω7 ?_|refine ω8 ?_|refine ⟨rfl,?_⟩|refine ⟨trivial,?_⟩|refine ⟨⟨rfl,Nat.le_of_ble_eq_true rfl⟩,?_⟩|refine ⟨⟨by kernel_rfl,by kernel_rfl⟩,?_⟩|refine ⟨by decide,?_⟩|refine lit_true ?_|refine lit_false ?_))
            have hst : (ts.take (j + 1)).foldl lookB (o, b) = lookB ((ts.take j).foldl lookB (o, b)) (ts.getD j 0) := by rw [take_getD 0 hj', List.foldl_append]; rfl
            refine back (j + 1, nx5, k5) (by dsimp only; omega) (by dsimp only; omega) (ele_tell _ _ rfl rfl (List.Sublist.refl _) .slnil ?_ trivial ⟨AVle.refl _, AVle.refl _, AVle.refl _, AVle.refl _, AVle.refl _, AVle.refl _, le_int (wrap_succ (by dsimp only; omega)), trivial⟩)
            dsimp only
            rw [hst]
            exact BxLe.refl _
  · have g1 := bne_yes g1
    (repeat ((conv=>whnf);first|refine ω0 ?_|refine ω1 ?_|refine ω2 ?_|refine ω3 ?_|refine ω4 rfl ?_|refine ω5 rfl ?_|refine ω6 ?_|refine ω7 ?_|refine ω8 ?_|refine ⟨rfl,?_⟩|refine ⟨trivial,?_⟩|refine ⟨⟨rfl,Nat.le_of_ble_eq_true rfl⟩,?_⟩|refine ⟨⟨by kernel_rfl,by kernel_rfl⟩,?_⟩|refine ⟨by decide,?_⟩|refine lit_true ?_|refine lit_false ?_))
    refine ret_tells rfl ?_
    rw [if_neg (by omega)]
    exact AVle.os_sl0
end Go.Proofs.W

namespace Go.Proofs.W
open Go.Vl
set_option maxRecDepth 100000

def insF (l : List Ins) (k : Nat) : AV := insA (l.getD k ins0)
def nm3 : Option Nat → Option Vl.Id
  | none => none
  | some k => some (3, k)
def prB (s0 s1 s2 : Nat) (at' : List Nat) (out : List Ins) (oi : Option Nat) : List (Vl.Id × Own) :=
  [((2, s2), .c [.os 4 out.length (insF out) (nm3 oi)]), ((1, s1), .c [.hs (0, s0) 0 at'.length at'.length]), ((0, s0), .c (at'.map intA))]
theorem c3 : Try.prog.cellsOf 3 = 1 := by kernel_rfl
def toI (at' : List Nat) (n k : Nat) : Int := IntKind.i64.wrap ((at'.getD (n + 1 + k) 0 : Nat) - (at'.getD (n + 1) 0 : Nat))
theorem to_spec (at' : List Nat) (n k : Nat) (hk : n + 1 + k < at'.length) (hl : at'.length ≤ 1000000) :
    Tells Try.prog 50 [int k, .rp [ints at'], .rp [int n]] (int (toI at' n k)) := by
  have w1 : IntKind.i64.wrap ((n : Int) + 1) = ((n + 1 : Nat) : Int) := wrap_succ (by omega)
  have w2 : IntKind.i64.wrap (((n + 1 : Nat) : Int) + (k : Int)) = ((n + 1 + k : Nat) : Int) := by rw [wrap_id (by omega) (by omega)]; omega
  refine tells_of_aw Try.func50 rfl rfl fun nx => ?_
  (repeat ((conv=>whnf);first|refine ω0 ?_|refine ω1 ?_|refine ω2 ?_|refine ω3 ?_|refine ω4 rfl ?_|refine ω5 rfl ?_|refine ω6 ?_|refine ω7 ?_|refine ω8 ?_|refine ⟨rfl,?_⟩|refine ⟨trivial,?_⟩|refine ⟨⟨rfl,Nat.le_of_ble_eq_true rfl⟩,?_⟩|refine ⟨⟨by kernel_rfl,by kernel_rfl⟩,?_⟩|refine ⟨by decide,?_⟩|refine lit_true ?_|refine lit_false ?_))
  (refine aw_draw 13 ?_ ?_ ?_ ?_; (· kernel_rfl); (· kernel_rfl); (· kernel_rfl))
  (repeat ((conv=>whnf);first|refine ω0 ?_|refine ω1 ?_|refine ω2 ?_|refine ω3 ?_|refine ω4 rfl ?_|refine ω5 rfl ?_|refine ω6 ?_|refine ω7 ?_|refine ω8 ?_|refine ⟨rfl,?_⟩|refine ⟨trivial,?_⟩|refine ⟨⟨rfl,Nat.le_of_ble_eq_true rfl⟩,?_⟩|refine ⟨⟨by kernel_rfl,by kernel_rfl⟩,?_⟩|refine ⟨by decide,?_⟩|refine lit_true ?_|refine lit_false ?_))
  (conv => whnf)
  rw [w1, w2]
  refine ⟨⟨by omega, by omega⟩, ?_⟩
  (repeat ((conv=>whnf);first|refine ω0 ?_|refine ω1 ?_|refine ω2 ?_|refine ω3 ?_|refine ω4 rfl ?_|refine ω5 rfl ?_|refine ω6 ?_|refine ω7 ?_|refine ω8 ?_|refine ⟨rfl,?_⟩|refine ⟨trivial,?_⟩|refine ⟨⟨rfl,Nat.le_of_ble_eq_true rfl⟩,?_⟩|refine ⟨⟨by kernel_rfl,by kernel_rfl⟩,?_⟩|refine ⟨by decide,?_⟩|refine lit_true ?_|refine lit_false ?_))
  (conv => whnf)
  rw [w1]
  refine ⟨⟨by omega, by omega⟩, ?_⟩
  (repeat ((conv=>whnf);first|refine ω0 ?_|refine ω1 ?_|refine ω2 ?_|refine ω3 ?_|refine ω4 rfl ?_|refine ω5 rfl ?_|refine ω6 ?_|refine ω7 ?_|refine ω8 ?_|refine ⟨rfl,?_⟩|refine ⟨trivial,?_⟩|refine ⟨⟨rfl,Nat.le_of_ble_eq_true rfl⟩,?_⟩|refine ⟨⟨by kernel_rfl,by kernel_rfl⟩,?_⟩|refine ⟨by decide,?_⟩|refine lit_true ?_|refine lit_false ?_))
  exact ret_tells rfl (AVle.refl _)
def prAt (at' : List Nat) (n : Nat) (i : Ins) (k : Nat) : Ins :=
  if k = 13 then { i with k := (toI at' n i.k).toNat } else if 25 ≤ k then { i with jt := (toI at' n i.jt).toNat, jf := (toI at' n i.jf).toNat } else i
theorem u32_wrap {x : Int} {b : Nat} (h : 0 ≤ x ∧ x ≤ b) (hb : b < 4294967296) : IntKind.u32.wrap x = (x.toNat : Int) := by
  rw [IntWalk.u32_in _ (by omega)]; omega
theorem u8_wrap {x : Int} {b : Nat} (h : 0 ≤ x ∧ x ≤ b) (hb : b < 256) : IntKind.u8.wrap x = (x.toNat : Int) := by
  rw [IntWalk.u8_in _ (by omega)]; omega
theorem frz_at {bs : List (Nat × Own)} {s0 : Nat} {l : List Nat} (hm : (s0, .c (l.map intA)) ∈ bs) : Frz bs (.hs (0, s0) 0 l.length l.length) (ints l) :=
  Frz.hs1 (cs := l.map intA) hm (Nat.le_refl _) (by rw [List.length_map]; exact Nat.le_refl _) (fun _ _ => rfl) fun k hk => by
    rw [List.getElem?_map, List.getElem?_eq_getElem hk]
    simp [List.getD, hk]; rfl
theorem leave_spec (s0 s1 s2 nx : Nat) (at' : List Nat) (out : List Ins) (oi : Option Nat) (i : Ins) (n k : Nat) (hi : i.ok) (hl : at'.length ≤ 1000000) (ho : out.length ≤ 100000) (h0 : oi = none → out = [])
    (h1 : k = 13 → n + 1 + i.k < at'.length) (h2 : 25 ≤ k → n + 1 + i.jt < at'.length ∧ n + 1 + i.jf < at'.length)
    (hm : ∀ x, n + 1 + x < at'.length → 0 ≤ toI at' n x ∧ toI at' n x ≤ x) :
    ECall Try.prog 49 [int n, insA i, int k, .bp (1, s1) 0, .bp (2, s2) 0] ⟨prB s0 s1 s2 at' out oi, pmOf (nm3 oi) (out.length * 4), nx, 4⟩
      fun _ h' => ∃ id nx' nn', h' = ⟨prB s0 s1 s2 at' (out ++ [prAt at' n i k]) (some id), pmOf (nm3 (some id)) ((out ++ [prAt at' n i k]).length * 4), nx', nn'⟩ := by
  obtain ⟨i1, i2, i3, i4⟩ := hi
  refine ECall.wk (ecall_of_aw Try.func49 rfl rfl ?_)
  (repeat ((conv=>whnf);first|refine ω0 ?_|refine ω1 ?_|refine ω2 ?_|refine ω3 ?_|refine ω4 rfl ?_|refine ω5 rfl ?_|refine ω6 ?_|refine ω7 ?_|refine ω8 ?_|refine ⟨rfl,?_⟩|refine ⟨trivial,?_⟩|refine ⟨⟨rfl,Nat.le_of_ble_eq_true rfl⟩,?_⟩|refine ⟨⟨by kernel_rfl,by kernel_rfl⟩,?_⟩|refine ⟨by decide,?_⟩|refine lit_true ?_|refine lit_false ?_))
  intro c g1; cases c
  · have g1 := not_of g1
    (repeat ((conv=>whnf);first|refine ω0 ?_|refine ω1 ?_|refine ω2 ?_|refine ω3 ?_|refine ω4 rfl ?_|refine ω5 rfl ?_|refine ω6 ?_|refine ω7 ?_|refine ω8 ?_|refine ⟨rfl,?_⟩|refine ⟨trivial,?_⟩|refine ⟨⟨rfl,Nat.le_of_ble_eq_true rfl⟩,?_⟩|refine ⟨⟨by kernel_rfl,by kernel_rfl⟩,?_⟩|refine ⟨by decide,?_⟩|refine lit_true ?_|refine lit_false ?_))
    intro c g2; cases c
    · have g2 := not_of g2
      have hX : insA (prAt at' n i k) = .ag [u16 i.code, u8 i.jt, u8 i.jf, u32 i.k] := by unfold prAt; rw [if_neg (by omega), if_neg (by omega)]; rfl
      (repeat ((conv=>whnf);first|refine ω0 ?_|refine ω2 ?_|refine ω3 ?_|refine ω4 rfl ?_|refine ω5 rfl ?_|refine ω6 ?_|refine ω7 ?_|refine ω8 ?_|refine ⟨rfl,?_⟩|refine ⟨trivial,?_⟩|refine ⟨⟨rfl,Nat.le_of_ble_eq_true rfl⟩,?_⟩|refine ⟨⟨by kernel_rfl,by kernel_rfl⟩,?_⟩|refine ⟨by decide,?_⟩|refine lit_true ?_|refine lit_false ?_))
      refine aw_region ?_
      rcases oi with _ | id
      · obtain rfl := h0 rfl
        (repeat ((conv=>whnf);first|refine ω0 ?_|refine ω1 ?_|refine ω2 ?_|refine ω3 ?_|refine ω4 rfl ?_|refine ω5 rfl ?_|refine ω6 ?_|refine ω7 ?_|refine ω8 ?_|refine ⟨rfl,?_⟩|refine ⟨trivial,?_⟩|refine ⟨⟨rfl,Nat.le_of_ble_eq_true rfl⟩,?_⟩|refine ⟨⟨by kernel_rfl,by kernel_rfl⟩,?_⟩|refine ⟨by decide,?_⟩|refine lit_true ?_|refine lit_false ?_))
        refine ⟨oneRow_one rfl, by show (0 + 1) * 8 ≤ _; omega, by decide, ?_⟩
        (repeat ((conv=>whnf);first|refine ω0 ?_|refine ω1 ?_|refine ω2 ?_|refine ω3 ?_|refine ω4 rfl ?_|refine ω5 rfl ?_|refine ω6 ?_|refine ω7 ?_|refine ω8 ?_|refine ⟨rfl,?_⟩|refine ⟨trivial,?_⟩|refine ⟨⟨rfl,Nat.le_of_ble_eq_true rfl⟩,?_⟩|refine ⟨⟨by kernel_rfl,by kernel_rfl⟩,?_⟩|refine ⟨by decide,?_⟩|refine lit_true ?_|refine lit_false ?_))
        refine ret_is rfl ⟨_, _, AVle.refl _, hle_tell (nn := 4) (bx := prB s0 s1 s2 at' [prAt at' n i k] (some (nx + 2))) (pm := [((3, nx + 2), 4)]) _ _ rfl (.cons _ (.cons _ (.cons_cons _ (.cons_cons _ (.cons_cons _ .slnil))))) (.cons_cons _ .slnil) ?_ ?_, nx + 2, _, 4, rfl⟩
        · exact ⟨rfl, ⟨AVle.trans (b := .os 4 1 (insF [prAt at' n i k]) _) (AVle.os_fun (appF_one (fun k hk => absurd hk (Nat.not_lt_zero _)) hX.symm)) (AVle.os_nm rfl), trivial⟩, rfl, OwnLe.refl _, rfl, OwnLe.refl _, trivial⟩
        · exact ⟨rfl, rfl, trivial⟩
      · (repeat ((conv=>whnf);first|refine ω0 ?_|refine ω1 ?_|refine ω2 ?_|refine ω3 ?_|refine ω4 rfl ?_|refine ω5 rfl ?_|refine ω6 ?_|refine ω7 ?_|refine ω8 ?_|refine ⟨rfl,?_⟩|refine ⟨trivial,?_⟩|refine ⟨⟨rfl,Nat.le_of_ble_eq_true rfl⟩,?_⟩|refine ⟨⟨by kernel_rfl,by kernel_rfl⟩,?_⟩|refine ⟨by decide,?_⟩|refine lit_true ?_|refine lit_false ?_))
        refine ⟨oneRow_one rfl, by show (out.length + 1) * 8 ≤ _; omega, by omega, ?_⟩
        (repeat ((conv=>whnf);first|refine ω0 ?_|refine ω1 ?_|refine ω2 ?_|refine ω3 ?_|refine ω4 rfl ?_|refine ω5 rfl ?_|refine ω6 ?_|refine ω7 ?_|refine ω8 ?_|refine ⟨rfl,?_⟩|refine ⟨trivial,?_⟩|refine ⟨⟨rfl,Nat.le_of_ble_eq_true rfl⟩,?_⟩|refine ⟨⟨by kernel_rfl,by kernel_rfl⟩,?_⟩|refine ⟨by decide,?_⟩|refine lit_true ?_|refine lit_false ?_))
        refine ret_is rfl ⟨_, _, AVle.refl _, hle_tell (nn := 4) (bx := prB s0 s1 s2 at' (out ++ [prAt at' n i k]) (some (nx + 2))) (pm := [((3, nx + 2), (out ++ [prAt at' n i k]).length * 4)]) _ _ rfl (.cons _ (.cons _ (.cons_cons _ (.cons_cons _ (.cons_cons _ .slnil))))) (.cons_cons _ .slnil) ?_ ?_, nx + 2, _, 4, rfl⟩
        · refine ⟨rfl, ⟨AVle.trans (b := .os 4 (out.length + 1) (insF (out ++ [prAt at' n i k])) _) (AVle.os_fun (appF_one (fun k hk => ?_) ?_)) ?_, trivial⟩, rfl, OwnLe.refl _, rfl, OwnLe.refl _, trivial⟩
          · simp [insF, List.getD, List.getElem?_append_left hk, hk]
          · simp [insF, List.getD]; exact hX.symm
          · simp only [List.length_append, List.length_cons, List.length_nil]; exact AVle.os_nm rfl
        · exact ⟨rfl, by simp; rfl, trivial⟩
    · have g2 := yes_of g2
      have hwk : IntKind.i64.wrap (i.jt : Int) = i.jt := wrap_id (by omega) (by omega)
      have hwf : IntKind.i64.wrap (i.jf : Int) = i.jf := wrap_id (by omega) (by omega)
      obtain ⟨j1, j2⟩ := h2 (by omega)
      have hX : insA (prAt at' n i k) = .ag [u16 i.code, u8 (IntKind.u8.wrap (toI at' n i.jt)), u8 (IntKind.u8.wrap (toI at' n i.jf)), u32 i.k] := by
        unfold prAt; rw [if_neg (by omega), if_pos (by omega), u8_wrap (hm i.jt j1) i2, u8_wrap (hm i.jf j2) i3]; rfl
      (repeat ((conv=>whnf);first|refine ω0 ?_|refine ω1 ?_|refine ω2 ?_|refine ω3 ?_|refine ω4 rfl ?_|refine ω5 rfl ?_|refine ω6 ?_|refine ω7 ?_|refine ω8 ?_|refine ⟨rfl,?_⟩|refine ⟨trivial,?_⟩|refine ⟨⟨rfl,Nat.le_of_ble_eq_true rfl⟩,?_⟩|refine ⟨⟨by kernel_rfl,by kernel_rfl⟩,?_⟩|refine ⟨by decide,?_⟩|refine lit_true ?_|refine lit_false ?_))
      refine aw_drawZ (ds := .int .i64) (kd := .u8) 13 11 (by kernel_rfl) (by kernel_rfl) (by kernel_rfl) rfl rfl rfl (by kernel_rfl) (by kernel_rfl) (by decide) ?_
      (repeat ((conv=>whnf);first|refine ω0 ?_|refine ω1 ?_|refine ω2 ?_|refine ω3 ?_|refine ω4 rfl ?_|refine ω5 rfl ?_|refine ω6 ?_|refine ω7 ?_|refine ω8 ?_|refine ⟨rfl,?_⟩|refine ⟨trivial,?_⟩|refine ⟨⟨rfl,Nat.le_of_ble_eq_true rfl⟩,?_⟩|refine ⟨⟨by kernel_rfl,by kernel_rfl⟩,?_⟩|refine ⟨by decide,?_⟩|refine lit_true ?_|refine lit_false ?_))
      refine ex_yields (yields_look rfl rfl (to_spec at' n i.jt j1 hl) ⟨Frz.of_le (le_int hwk), Frz.bpL (.tail _ (.tail _ (.tail _ (.head _)))) ⟨frz_at (.tail _ (.tail _ (.tail _ (.tail _ (.head _))))), trivial⟩, Frz.bpL (.tail _ (.head _)) ⟨Frz.refl _, trivial⟩, trivial⟩ (Flat.v _)) ?_
      (repeat ((conv=>whnf);first|refine ω0 ?_|refine ω1 ?_|refine ω2 ?_|refine ω3 ?_|refine ω4 rfl ?_|refine ω5 rfl ?_|refine ω6 ?_|refine ω7 ?_|refine ω8 ?_|refine ⟨rfl,?_⟩|refine ⟨trivial,?_⟩|refine ⟨⟨rfl,Nat.le_of_ble_eq_true rfl⟩,?_⟩|refine ⟨⟨by kernel_rfl,by kernel_rfl⟩,?_⟩|refine ⟨by decide,?_⟩|refine lit_true ?_|refine lit_false ?_))
      refine ex_yields (yields_look rfl rfl (to_spec at' n i.jf j2 hl) ⟨Frz.of_le (le_int hwf), Frz.bpL (.tail _ (.tail _ (.tail _ (.head _)))) ⟨frz_at (.tail _ (.tail _ (.tail _ (.tail _ (.head _))))), trivial⟩, Frz.bpL (.tail _ (.head _)) ⟨Frz.refl _, trivial⟩, trivial⟩ (Flat.v _)) ?_
      (repeat ((conv=>whnf);first|refine ω0 ?_|refine ω1 ?_|refine ω2 ?_|refine ω3 ?_|refine ω4 rfl ?_|refine ω5 rfl ?_|refine ω6 ?_|refine ω7 ?_|refine ω8 ?_|refine ⟨rfl,?_⟩|refine ⟨trivial,?_⟩|refine ⟨⟨rfl,Nat.le_of_ble_eq_true rfl⟩,?_⟩|refine ⟨⟨by kernel_rfl,by kernel_rfl⟩,?_⟩|refine ⟨by decide,?_⟩|refine lit_true ?_|refine lit_false ?_))
      refine ⟨⟨_, _, rfl⟩, ?_⟩
      (repeat ((conv=>whnf);first|refine ω0 ?_|refine ω2 ?_|refine ω3 ?_|refine ω4 rfl ?_|refine ω5 rfl ?_|refine ω6 ?_|refine ω7 ?_|refine ω8 ?_|refine ⟨rfl,?_⟩|refine ⟨trivial,?_⟩|refine ⟨⟨rfl,Nat.le_of_ble_eq_true rfl⟩,?_⟩|refine ⟨⟨by kernel_rfl,by kernel_rfl⟩,?_⟩|refine ⟨by decide,?_⟩|refine lit_true ?_|refine lit_false ?_))
      refine aw_region ?_
      rcases oi with _ | id
      · obtain rfl := h0 rfl
        (repeat ((conv=>whnf);first|refine ω0 ?_|refine ω1 ?_|refine ω2 ?_|refine ω3 ?_|refine ω4 rfl ?_|refine ω5 rfl ?_|refine ω6 ?_|refine ω7 ?_|refine ω8 ?_|refine ⟨rfl,?_⟩|refine ⟨trivial,?_⟩|refine ⟨⟨rfl,Nat.le_of_ble_eq_true rfl⟩,?_⟩|refine ⟨⟨by kernel_rfl,by kernel_rfl⟩,?_⟩|refine ⟨by decide,?_⟩|refine lit_true ?_|refine lit_false ?_))
        refine ⟨oneRow_one rfl, by show (0 + 1) * 8 ≤ _; omega, by decide, ?_⟩
        (repeat ((conv=>whnf);first|refine ω0 ?_|refine ω1 ?_|refine ω2 ?_|refine ω3 ?_|refine ω4 rfl ?_|refine ω5 rfl ?_|refine ω6 ?_|refine ω7 ?_|refine ω8 ?_|refine ⟨rfl,?_⟩|refine ⟨trivial,?_⟩|refine ⟨⟨rfl,Nat.le_of_ble_eq_true rfl⟩,?_⟩|refine ⟨⟨by kernel_rfl,by kernel_rfl⟩,?_⟩|refine ⟨by decide,?_⟩|refine lit_true ?_|refine lit_false ?_))
        refine ret_is rfl ⟨_, _, AVle.refl _, hle_tell (nn := 4) (bx := prB s0 s1 s2 at' [prAt at' n i k] (some (nx + 2))) (pm := [((3, nx + 2), 4)]) _ _ rfl (.cons _ (.cons _ (.cons_cons _ (.cons_cons _ (.cons_cons _ .slnil))))) (.cons_cons _ .slnil) ?_ ?_, nx + 2, _, 4, rfl⟩
        · exact ⟨rfl, ⟨AVle.trans (b := .os 4 1 (insF [prAt at' n i k]) _) (AVle.os_fun (appF_one (fun k hk => absurd hk (Nat.not_lt_zero _)) hX.symm)) (AVle.os_nm rfl), trivial⟩, rfl, OwnLe.refl _, rfl, OwnLe.refl _, trivial⟩
        · exact ⟨rfl, rfl, trivial⟩
      · (repeat ((conv=>whnf);first|refine ω0 ?_|refine ω1 ?_|refine ω2 ?_|refine ω3 ?_|refine ω4 rfl ?_|refine ω5 rfl ?_|refine ω6 ?_|refine ω7 ?_|refine ω8 ?_|refine ⟨rfl,?_⟩|refine ⟨trivial,?_⟩|refine ⟨⟨rfl,Nat.le_of_ble_eq_true rfl⟩,?_⟩|refine ⟨⟨by kernel_rfl,by kernel_rfl⟩,?_⟩|refine ⟨by decide,?_⟩|refine lit_true ?_|refine lit_false ?_))
        refine ⟨oneRow_one rfl, by show (out.length + 1) * 8 ≤ _; omega, by omega, ?_⟩
        (repeat ((conv=>whnf);first|refine ω0 ?_|refine ω1 ?_|refine ω2 ?_|refine ω3 ?_|refine ω4 rfl ?_|refine ω5 rfl ?_|refine ω6 ?_|refine ω7 ?_|refine ω8 ?_|refine ⟨rfl,?_⟩|refine ⟨trivial,?_⟩|refine ⟨⟨rfl,Nat.le_of_ble_eq_true rfl⟩,?_⟩|refine ⟨⟨by kernel_rfl,by kernel_rfl⟩,?_⟩|refine ⟨by decide,?_⟩|refine lit_true ?_|refine lit_false ?_))
        refine ret_is rfl ⟨_, _, AVle.refl _, hle_tell (nn := 4) (bx := prB s0 s1 s2 at' (out ++ [prAt at' n i k]) (some (nx + 2))) (pm := [((3, nx + 2), (out ++ [prAt at' n i k]).length * 4)]) _ _ rfl (.cons _ (.cons _ (.cons_cons _ (.cons_cons _ (.cons_cons _ .slnil))))) (.cons_cons _ .slnil) ?_ ?_, nx + 2, _, 4, rfl⟩
        · refine ⟨rfl, ⟨AVle.trans (b := .os 4 (out.length + 1) (insF (out ++ [prAt at' n i k])) _) (AVle.os_fun (appF_one (fun k hk => ?_) ?_)) ?_, trivial⟩, rfl, OwnLe.refl _, rfl, OwnLe.refl _, trivial⟩
          · simp [insF, List.getD, List.getElem?_append_left hk, hk]
          · simp [insF, List.getD]; exact hX.symm
          · simp only [List.length_append, List.length_cons, List.length_nil]; exact AVle.os_nm rfl
        · exact ⟨rfl, by simp; rfl, trivial⟩
  · have g1 := yes_of g1
    have hwk : IntKind.i64.wrap (i.k : Int) = i.k := wrap_id (by omega) (by omega)
    have hX : insA (prAt at' n i k) = .ag [u16 i.code, u8 i.jt, u8 i.jf, u32 (IntKind.u32.wrap (toI at' n i.k))] := by
      unfold prAt; rw [if_pos (by omega), u32_wrap (hm i.k (h1 (by omega))) i4]; rfl
    (repeat ((conv=>whnf);first|refine ω0 ?_|refine ω1 ?_|refine ω2 ?_|refine ω3 ?_|refine ω4 rfl ?_|refine ω5 rfl ?_|refine ω6 ?_|refine ω7 ?_|refine ω8 ?_|refine ⟨rfl,?_⟩|refine ⟨trivial,?_⟩|refine ⟨⟨rfl,Nat.le_of_ble_eq_true rfl⟩,?_⟩|refine ⟨⟨by kernel_rfl,by kernel_rfl⟩,?_⟩|refine ⟨by decide,?_⟩|refine lit_true ?_|refine lit_false ?_))
    refine AOp.of_yields (yields_look rfl rfl (to_spec at' n i.k (h1 (by omega)) hl) ⟨Frz.of_le (le_int hwk), Frz.bpL (.tail _ (.tail _ (.tail _ (.head _)))) ⟨frz_at (.tail _ (.tail _ (.tail _ (.tail _ (.head _))))), trivial⟩, Frz.bpL (.tail _ (.head _)) ⟨Frz.refl _, trivial⟩, trivial⟩ (Flat.v _)) ?_
    (repeat ((conv=>whnf);first|refine ω0 ?_|refine ω2 ?_|refine ω3 ?_|refine ω4 rfl ?_|refine ω5 rfl ?_|refine ω6 ?_|refine ω7 ?_|refine ω8 ?_|refine ⟨rfl,?_⟩|refine ⟨trivial,?_⟩|refine ⟨⟨rfl,Nat.le_of_ble_eq_true rfl⟩,?_⟩|refine ⟨⟨by kernel_rfl,by kernel_rfl⟩,?_⟩|refine ⟨by decide,?_⟩|refine lit_true ?_|refine lit_false ?_))
    refine aw_region ?_
    rcases oi with _ | id
    · obtain rfl := h0 rfl
      (repeat ((conv=>whnf);first|refine ω0 ?_|refine ω1 ?_|refine ω2 ?_|refine ω3 ?_|refine ω4 rfl ?_|refine ω5 rfl ?_|refine ω6 ?_|refine ω7 ?_|refine ω8 ?_|refine ⟨rfl,?_⟩|refine ⟨trivial,?_⟩|refine ⟨⟨rfl,Nat.le_of_ble_eq_true rfl⟩,?_⟩|refine ⟨⟨by kernel_rfl,by kernel_rfl⟩,?_⟩|refine ⟨by decide,?_⟩|refine lit_true ?_|refine lit_false ?_))
      refine ⟨oneRow_one rfl, by show (0 + 1) * 8 ≤ _; omega, by decide, ?_⟩
      (repeat ((conv=>whnf);first|refine ω0 ?_|refine ω1 ?_|refine ω2 ?_|refine ω3 ?_|refine ω4 rfl ?_|refine ω5 rfl ?_|refine ω6 ?_|refine ω7 ?_|refine ω8 ?_|refine ⟨rfl,?_⟩|refine ⟨trivial,?_⟩|refine ⟨⟨rfl,Nat.le_of_ble_eq_true rfl⟩,?_⟩|refine ⟨⟨by kernel_rfl,by kernel_rfl⟩,?_⟩|refine ⟨by decide,?_⟩|refine lit_true ?_|refine lit_false ?_))
      refine ret_is rfl ⟨_, _, AVle.refl _, hle_tell (nn := 4) (bx := prB s0 s1 s2 at' [prAt at' n i k] (some (nx + 2))) (pm := [((3, nx + 2), 4)]) _ _ rfl (.cons _ (.cons _ (.cons_cons _ (.cons_cons _ (.cons_cons _ .slnil))))) (.cons_cons _ .slnil) ?_ ?_, nx + 2, _, 4, rfl⟩
      · exact ⟨rfl, ⟨AVle.trans (b := .os 4 1 (insF [prAt at' n i k]) _) (AVle.os_fun (appF_one (fun k hk => absurd hk (Nat.not_lt_zero _)) hX.symm)) (AVle.os_nm rfl), trivial⟩, rfl, OwnLe.refl _, rfl, OwnLe.refl _, trivial⟩
      · exact ⟨rfl, rfl, trivial⟩
    · (repeat ((conv=>whnf);first|refine ω0 ?_|refine ω1 ?_|refine ω2 ?_|refine ω3 ?_|refine ω4 rfl ?_|refine ω5 rfl ?_|refine ω6 ?_|refine ω7 ?_|refine ω8 ?_|refine ⟨rfl,?_⟩|refine ⟨trivial,?_⟩|refine ⟨⟨rfl,Nat.le_of_ble_eq_true rfl⟩,?_⟩|refine ⟨⟨by kernel_rfl,by kernel_rfl⟩,?_⟩|refine ⟨by decide,?_⟩|refine lit_true ?_|refine lit_false ?_))
      refine ⟨oneRow_one rfl, by show (out.length + 1) * 8 ≤ _; omega, by omega, ?_⟩
      (repeat ((conv=>whnf);first|refine ω0 ?_|refine ω1 ?_|refine ω2 ?_|refine ω3 ?_|refine ω4 rfl ?_|refine ω5 rfl ?_|refine ω6 ?_|refine ω7 ?_|refine ω8 ?_|refine ⟨rfl,?_⟩|refine ⟨trivial,?_⟩|refine ⟨⟨rfl,Nat.le_of_ble_eq_true rfl⟩,?_⟩|refine ⟨⟨by kernel_rfl,by kernel_rfl⟩,?_⟩|refine ⟨by decide,?_⟩|refine lit_true ?_|refine lit_false ?_))
      refine ret_is rfl ⟨_, _, AVle.refl _, hle_tell (nn := 4) (bx := prB s0 s1 s2 at' (out ++ [prAt at' n i k]) (some (nx + 2))) (pm := [((3, nx + 2), (out ++ [prAt at' n i k]).length * 4)]) _ _ rfl (.cons _ (.cons _ (.cons_cons _ (.cons_cons _ (.cons_cons _ .slnil))))) (.cons_cons _ .slnil) ?_ ?_, nx + 2, _, 4, rfl⟩
      · refine ⟨rfl, ⟨AVle.trans (b := .os 4 (out.length + 1) (insF (out ++ [prAt at' n i k])) _) (AVle.os_fun (appF_one (fun k hk => ?_) ?_)) ?_, trivial⟩, rfl, OwnLe.refl _, rfl, OwnLe.refl _, trivial⟩
        · simp [insF, List.getD, List.getElem?_append_left hk, hk]
        · simp [insF, List.getD]; exact hX.symm
        · simp only [List.length_append, List.length_cons, List.length_nil]; exact AVle.os_nm rfl
      · exact ⟨rfl, by simp; rfl, trivial⟩
end Go.Proofs.W

namespace Go.Proofs.W
open Go.Vl
set_option maxRecDepth 100000

def reachedOf (l : List Ins) : List Bool := if (checkI l).2 = 0 then reachI l else []
theorem reachedOf_len (l : List Ins) : (reachedOf l).length ≤ l.length := by
  unfold reachedOf; split
  · rw [reachI_length]; exact Nat.le_refl _
  · simp
theorem reached_spec {α : Type} (l : List Ins) (hok : okL l) (hl : l.length ≤ 1000000000) (B : α → List (Vl.Id × Own)) (M : α → List (Vl.Id × Nat)) (N cb : Nat) (caps : List AV) (I : Nat → α → Prop)
    (hcb : ∀ n x nx, n < (reachedOf l).length → (reachedOf l).getD n false = true → I n x → ECall Try.prog cb ([int n, insA (l.getD n ins0), int (kind l n)] ++ caps) ⟨B x, M x, nx, N⟩ fun _ h' => ∃ x' nx' nn', h' = ⟨B x', M x', nx', nn'⟩ ∧ I (n + 1) x')
    (hskip : ∀ n x, n < (reachedOf l).length → (reachedOf l).getD n false = false → I n x → I (n + 1) x) (x0 : α) (nx : Nat) (h0 : I 0 x0) :
    ECall Try.prog 48 [inss l, .fn (.func cb) [] caps] ⟨B x0, M x0, nx, N⟩ fun _ h' => ∃ x nx' nn', h' = ⟨B x, M x, nx', nn'⟩ ∧ I (reachedOf l).length x := by
  have hlr := reachedOf_len l
  refine ecall_of_aw Try.func48 rfl rfl ?_
  (repeat ((conv=>whnf);first|refine ω0 ?_|refine ω1 ?_|refine ω2 ?_|refine ω3 ?_|refine ω4 rfl ?_|refine ω5 rfl ?_|refine ω6 ?_|refine ω7 ?_|refine ω8 ?_|refine ⟨rfl,?_⟩|refine ⟨trivial,?_⟩|refine ⟨⟨rfl,Nat.le_of_ble_eq_true rfl⟩,?_⟩|refine ⟨⟨by kernel_rfl,by kernel_rfl⟩,?_⟩|refine ⟨by decide,?_⟩|refine lit_true ?_|refine lit_false ?_))
  have hr : Tells Try.prog 20 [inss l] (bools (reachedOf l)) := reach_spec l hok hl
  refine aop_tells rfl rfl hr ⟨AVle.refl _, trivial⟩ fun nx => ?_
  generalize reachedOf l = o at hcb hskip hlr ⊢
  (repeat ((conv=>whnf);first|refine ω0 ?_|refine ω1 ?_|refine ω2 ?_|refine ω3 ?_|refine ω4 rfl ?_|refine ω5 rfl ?_|refine ω6 ?_|refine ω7 ?_|refine ω8 ?_|refine ⟨rfl,?_⟩|refine ⟨trivial,?_⟩|refine ⟨⟨rfl,Nat.le_of_ble_eq_true rfl⟩,?_⟩|refine ⟨⟨by kernel_rfl,by kernel_rfl⟩,?_⟩|refine ⟨by decide,?_⟩|refine lit_true ?_|refine lit_false ?_))
  refine aw_loop (fun s : Nat × α × Nat => mk 37 [(0, inss l), (1, .fn (.func cb) [] caps), (10, bools o), (11, int o.length), (12, int s.1)] ⟨B s.2.1, M s.2.1, s.2.2, N⟩) (fun s => s.1 ≤ o.length ∧ I s.1 s.2.1) (fun s => o.length - s.1) ?_ ?_
  · exact ⟨(0, x0, nx), ⟨by dsimp only; omega, h0⟩, ele_mk rfl rfl ⟨AVle.refl _, AVle.refl _, AVle.refl _, AVle.refl _, AVle.refl _, trivial⟩⟩
  · rintro ⟨i, x, nx'⟩ ⟨h1, h2⟩
    dsimp only at h1 h2
    (repeat ((conv=>whnf);first|refine ω0 ?_|refine ω1 ?_|refine ω2 ?_|refine ω3 ?_|refine ω4 rfl ?_|refine ω5 rfl ?_|refine ω6 ?_|refine ω7 ?_|refine ω8 ?_|refine ⟨rfl,?_⟩|refine ⟨trivial,?_⟩|refine ⟨⟨rfl,Nat.le_of_ble_eq_true rfl⟩,?_⟩|refine ⟨⟨by kernel_rfl,by kernel_rfl⟩,?_⟩|refine ⟨by decide,?_⟩|refine lit_true ?_|refine lit_false ?_))
    intro c g1; cases c
    · have g1 := not_of g1
      dsimp only at g1
      obtain rfl : i = o.length := by omega
      (repeat ((conv=>whnf);first|refine ω0 ?_|refine ω1 ?_|refine ω2 ?_|refine ω3 ?_|refine ω4 rfl ?_|refine ω5 rfl ?_|refine ω6 ?_|refine ω7 ?_|refine ω8 ?_|refine ⟨rfl,?_⟩|refine ⟨trivial,?_⟩|refine ⟨⟨rfl,Nat.le_of_ble_eq_true rfl⟩,?_⟩|refine ⟨⟨by kernel_rfl,by kernel_rfl⟩,?_⟩|refine ⟨by decide,?_⟩|refine lit_true ?_|refine lit_false ?_))
      exact ret_is rfl ⟨x, nx', N, rfl, h2⟩
    · have g1 := yes_of g1
      dsimp only at g1
      have hi : i < o.length := by omega
      have hki : (l.getD i ins0).ok := hok.get (by omega)
      (repeat ((conv=>whnf);first|refine ω0 ?_|refine ω1 ?_|refine ω2 ?_|refine ω3 ?_|refine ω4 rfl ?_|refine ω5 rfl ?_|refine ω6 ?_|refine ω7 ?_|refine ω8 ?_|refine ⟨rfl,?_⟩|refine ⟨trivial,?_⟩|refine ⟨⟨rfl,Nat.le_of_ble_eq_true rfl⟩,?_⟩|refine ⟨⟨by kernel_rfl,by kernel_rfl⟩,?_⟩|refine ⟨by decide,?_⟩|refine lit_true ?_|refine lit_false ?_))
      refine ⟨⟨by dsimp only; omega, by dsimp only; omega⟩, ?_⟩
      (repeat ((conv=>whnf);first|refine ω0 ?_|refine ω1 ?_|refine ω2 ?_|refine ω3 ?_|refine ω4 rfl ?_|refine ω5 rfl ?_|refine ω6 ?_|refine ω7 ?_|refine ω8 ?_|refine ⟨rfl,?_⟩|refine ⟨trivial,?_⟩|refine ⟨⟨rfl,Nat.le_of_ble_eq_true rfl⟩,?_⟩|refine ⟨⟨by kernel_rfl,by kernel_rfl⟩,?_⟩|refine ⟨by decide,?_⟩|refine lit_true ?_|refine lit_false ?_))
      intro c g2; cases c
      · (repeat ((conv=>whnf);first|refine ω0 ?_|refine ω1 ?_|refine ω2 ?_|refine ω3 ?_|refine ω4 rfl ?_|refine ω5 rfl ?_|refine ω6 ?_|refine ω7 ?_|refine ω8 ?_|refine ⟨rfl,?_⟩|refine ⟨trivial,?_⟩|refine ⟨⟨rfl,Nat.le_of_ble_eq_true rfl⟩,?_⟩|refine ⟨⟨by kernel_rfl,by kernel_rfl⟩,?_⟩|refine ⟨by decide,?_⟩|refine lit_true ?_|refine lit_false ?_))
        exact back (i + 1, x, nx') ⟨by dsimp only; omega, hskip i x hi g2.symm h2⟩ (by dsimp only; omega) (ele_mk rfl rfl ⟨AVle.refl _, AVle.refl _, AVle.refl _, AVle.refl _, le_int (wrap_succ (by dsimp only; omega)), trivial⟩)
      · (repeat ((conv=>whnf);first|refine ω0 ?_|refine ω1 ?_|refine ω2 ?_|refine ω3 ?_|refine ω4 rfl ?_|refine ω5 rfl ?_|refine ω6 ?_|refine ω7 ?_|refine ω8 ?_|refine ⟨rfl,?_⟩|refine ⟨trivial,?_⟩|refine ⟨⟨rfl,Nat.le_of_ble_eq_true rfl⟩,?_⟩|refine ⟨⟨by kernel_rfl,by kernel_rfl⟩,?_⟩|refine ⟨by decide,?_⟩|refine lit_true ?_|refine lit_false ?_))
        refine ⟨⟨by dsimp only; omega, by dsimp only; omega⟩, ?_⟩
        (repeat ((conv=>whnf);first|refine ω0 ?_|refine ω1 ?_|refine ω2 ?_|refine ω3 ?_|refine ω4 rfl ?_|refine ω5 rfl ?_|refine ω6 ?_|refine ω7 ?_|refine ω8 ?_|refine ⟨rfl,?_⟩|refine ⟨trivial,?_⟩|refine ⟨⟨rfl,Nat.le_of_ble_eq_true rfl⟩,?_⟩|refine ⟨⟨by kernel_rfl,by kernel_rfl⟩,?_⟩|refine ⟨by decide,?_⟩|refine lit_true ?_|refine lit_false ?_))
        refine aop_tells rfl rfl (of_kind (l.getD i ins0).code hki.1) ⟨AVle.refl _, trivial⟩ fun nx3 => ?_
        (repeat ((conv=>whnf);first|refine ω0 ?_|refine ω1 ?_|refine ω2 ?_|refine ω3 ?_|refine ω4 rfl ?_|refine ω5 rfl ?_|refine ω6 ?_|refine ω7 ?_|refine ω8 ?_|refine ⟨rfl,?_⟩|refine ⟨trivial,?_⟩|refine ⟨⟨rfl,Nat.le_of_ble_eq_true rfl⟩,?_⟩|refine ⟨⟨by kernel_rfl,by kernel_rfl⟩,?_⟩|refine ⟨by decide,?_⟩|refine lit_true ?_|refine lit_false ?_))
        (conv => whnf)
        refine forceL_intro ?_
        (repeat ((conv=>whnf);first|refine ω0 ?_|refine ω1 ?_|refine ω2 ?_|refine ω3 ?_|refine ω4 rfl ?_|refine ω5 rfl ?_|refine ω6 ?_|refine ω7 ?_|refine ω8 ?_|refine ⟨rfl,?_⟩|refine ⟨trivial,?_⟩|refine ⟨⟨rfl,Nat.le_of_ble_eq_true rfl⟩,?_⟩|refine ⟨⟨by kernel_rfl,by kernel_rfl⟩,?_⟩|refine ⟨by decide,?_⟩|refine lit_true ?_|refine lit_false ?_))
        refine ⟨⟨by dsimp only; omega, by dsimp only; omega⟩, ?_⟩
        (repeat ((conv=>whnf);first|refine ω0 ?_|refine ω1 ?_|refine ω2 ?_|refine ω3 ?_|refine ω4 rfl ?_|refine ω5 rfl ?_|refine ω6 ?_|refine ω7 ?_|refine ω8 ?_|refine ⟨rfl,?_⟩|refine ⟨trivial,?_⟩|refine ⟨⟨rfl,Nat.le_of_ble_eq_true rfl⟩,?_⟩|refine ⟨⟨by kernel_rfl,by kernel_rfl⟩,?_⟩|refine ⟨by decide,?_⟩|refine lit_true ?_|refine lit_false ?_))
        refine aop_call rfl rfl (hcb i x nx3 hi g2.symm h2) fun r h' hq => ?_
        obtain ⟨x', nx5, nn5, rfl, h5⟩ := hq
        refine Named.same ?_
        (repeat ((conv=>whnf);first|refine ω0 ?_|refine ω1 ?_|refine ω2 ?_|refine ω3 ?_|refine ω4 rfl ?_|refine ω5 rfl ?_|refine ω6 ?_|refine ω7 ?_|refine ω8 ?_|refine ⟨rfl,?_⟩|refine ⟨trivial,?_⟩|refine ⟨⟨rfl,Nat.le_of_ble_eq_true rfl⟩,?_⟩|refine ⟨⟨by kernel_rfl,by kernel_rfl⟩,?_⟩|refine ⟨by decide,?_⟩|refine lit_true ?_|refine lit_false ?_))
        exact back (i + 1, x', nx5) ⟨by dsimp only; omega, h5⟩ (by dsimp only; omega) (ele_keep rfl rfl (List.Sublist.refl _) (List.Sublist.refl _) ⟨AVle.refl _, AVle.refl _, AVle.refl _, AVle.refl _, le_int (wrap_succ (by dsimp only; omega)), trivial⟩)
end Go.Proofs.W
