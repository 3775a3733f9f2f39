/- More words: large variables, bits. -/
import Derived.Test.YtgllcdchhfcoiaaVlS
namespace Go.Vl
open Go.RowKit
variable {P : Program}

theorem forceA_intro {a : AV} {K : AV → Prop} (h : K a) : forceA a K := by cases a <;> exact h
theorem forceL_intro : ∀ {l : List AV} {K : List AV → Prop}, K l → forceL l K
  | [], _, h => h
  | a :: l, K, h => forceA_intro (a := a) (K := fun a => forceL l fun l => K (a :: l)) (forceL_intro (l := l) (K := fun l => K (a :: l)) h)
/-- A large variable is laid. -/
theorem aK_alloc {ops : Array Oper} {o : Oper} {l : List Oper} {E : Env} {K : Env → Prop} {Kp : AV → Env → Prop} {e : TypeId} {cs : List AV} (ho : o.op = .alloc e) (hg : o.guard = none) (hz : zcells P e = some cs)
    (hk : aK P ops l (({ E with h := E.h.add cs } : Env).set o.dst (.bp (E.h.nn, E.h.nx) 0)) K Kp) : aK P ops (o :: l) E K Kp := by
  unfold aK
  simp only [hg]
  unfold apureK
  simp only [ho, apure]
  unfold aheap
  simp only [ho, hz]
  exact forceL_intro hk
/-- What no table reckons is told. -/
theorem aK_pure {ops : Array Oper} {o : Oper} {l : List Oper} {E : Env} {K : Env → Prop} {Kp : AV → Env → Prop} {C : Option Prop} {r : AV} (hg : o.guard = none) (hb : ∀ t n ps, o.op ≠ .buildSlice t n ps)
    (hp : apure P o.op E = some (C, r)) (hc : condP C) (hk : splitO o.op r fun r => aK P ops l (E.set o.dst r) K Kp) : aK P ops (o :: l) E K Kp := by
  unfold aK
  simp only [hg]
  unfold apureK
  split
  · rename_i t n ps ho; exact absurd ho (hb t n ps)
  · rw [hp]
    dsimp only
    unfold condK
    cases C with
    | none => exact hk
    | some c => exact ⟨hc, hk⟩
theorem all_cells {α : Type} {f : α → AV} {l : List α} (h : ∀ x, isCell (f x) = true) : (l.map f).all isCell = true := by simp [h]
theorem oneOk_map {α : Type} {f : α → AV} {l : List α} {e : TypeId} {d : TypeDesc} (hd : P.underlying e = some d) (ha : agD d = false) (h1 : P.cellsOf e = 1) (hc : ∀ x, isCell (f x) = true) : oneOk P e (l.map f) = true := by simp [oneOk, hd, ha, h1, hc]
theorem aelem_one {cs : List AV} {e : TypeId} {d : TypeDesc} (hd : P.underlying e = some d) (ha : agD d = false) : aelem P e cs = fun k => cs.getD k .any := by funext k; simp [aelem, hd, ha]
theorem and_low (c : Nat) : c &&& 8 = (c % 16) &&& 8 := by
  have : c % 16 = c &&& 15 := (Nat.and_two_pow_sub_one_eq_mod c 4).symm
  rw [this, Nat.and_assoc]; rfl
theorem and8 (c : Nat) : c &&& 8 = 8 * ((c / 8) % 2) := by
  rw [and_low]
  have h : ∀ r, r < 16 → r &&& 8 = 8 * ((r / 8) % 2) := by decide
  rw [h _ (Nat.mod_lt _ (by decide))]
  omega
theorem andnot8 (c : Nat) (hc : c < 65536) : c &&& 65527 = c - 8 * ((c / 8) % 2) := by
  have h1 : (c &&& 65527) / 16 = c / 16 &&& 4095 := Nat.and_div_two_pow (n := 4)
  have h2 : (c &&& 65527) % 16 = c % 16 &&& 7 := Nat.and_mod_two_pow (n := 4)
  have h3 : c / 16 &&& 4095 = c / 16 := by
    rw [show (4095 : Nat) = 2 ^ 12 - 1 from rfl, Nat.and_two_pow_sub_one_eq_mod]; omega
  have h : ∀ r, r < 16 → r &&& 7 = r - 8 * ((r / 8) % 2) := by decide
  have h4 := h (c % 16) (Nat.mod_lt _ (by decide))
  omega
theorem ofInt_nat {w a : Nat} (h : a < 2 ^ w) : (BitVec.ofInt w (a : Int)).toNat = a := by
  rw [BitVec.ofInt_natCast, BitVec.toNat_ofNat, Nat.mod_eq_of_lt h]
/-- Bits of numbers that are none below 0. -/
theorem bits_and {k : IntKind} {a b : Nat} (ha : a < 2 ^ k.bits) (hb : b < 2 ^ k.bits) (hw : k.wrap ((a &&& b : Nat) : Int) = ((a &&& b : Nat) : Int)) : bitsI .and k a b = ((a &&& b : Nat) : Int) := by
  unfold bitsI
  simp only [BitVec.toNat_and]
  rw [ofInt_nat ha, ofInt_nat hb]
  exact hw
theorem bits_or {k : IntKind} {a b : Nat} (ha : a < 2 ^ k.bits) (hb : b < 2 ^ k.bits) (hw : k.wrap ((a ||| b : Nat) : Int) = ((a ||| b : Nat) : Int)) : bitsI .or k a b = ((a ||| b : Nat) : Int) := by
  unfold bitsI
  simp only [BitVec.toNat_or]
  rw [ofInt_nat ha, ofInt_nat hb]
  exact hw
theorem bits_andNot {k : IntKind} {a b : Nat} (ha : a < 2 ^ k.bits) (hb : b < 2 ^ k.bits) (hw : k.wrap ((a &&& (2 ^ k.bits - 1 - b) : Nat) : Int) = ((a &&& (2 ^ k.bits - 1 - b) : Nat) : Int)) : bitsI .andNot k a b = ((a &&& (2 ^ k.bits - 1 - b) : Nat) : Int) := by
  unfold bitsI
  simp only [BitVec.toNat_and, BitVec.toNat_not]
  rw [ofInt_nat ha, ofInt_nat hb]
  exact hw
theorem u16_and {a b : Nat} (ha : a < 65536) (hb : b < 65536) : bitsI .and .u16 a b = ((a &&& b : Nat) : Int) :=
  bits_and ha hb (IntWalk.u16_in _ (by have : a &&& b ≤ a := Nat.and_le_left; omega))
theorem u32_and {a b : Nat} (ha : a < 4294967296) (hb : b < 4294967296) : bitsI .and .u32 a b = ((a &&& b : Nat) : Int) :=
  bits_and ha hb (IntWalk.u32_in _ (by have : a &&& b ≤ a := Nat.and_le_left; omega))
theorem u16_or {a b : Nat} (ha : a < 65536) (hb : b < 65536) : bitsI .or .u16 a b = ((a ||| b : Nat) : Int) :=
  bits_or ha hb (IntWalk.u16_in _ (by have : a ||| b < 2 ^ 16 := Nat.or_lt_two_pow ha hb; omega))
theorem u32_or {a b : Nat} (ha : a < 4294967296) (hb : b < 4294967296) : bitsI .or .u32 a b = ((a ||| b : Nat) : Int) :=
  bits_or ha hb (IntWalk.u32_in _ (by have : a ||| b < 2 ^ 32 := Nat.or_lt_two_pow ha hb; omega))
theorem u16_andNot {a b : Nat} (ha : a < 65536) (hb : b < 65536) : bitsI .andNot .u16 a b = ((a &&& (65535 - b) : Nat) : Int) :=
  bits_andNot ha hb (IntWalk.u16_in _ (by show _ ∧ ((a &&& (65535 - b) : Nat) : Int) ≤ _; have : a &&& (65535 - b) ≤ a := Nat.and_le_left; omega))
end Go.Vl
