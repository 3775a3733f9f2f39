import Derived.Test.YtcjnjlgjnobplaaGreatDoorD
import Derived.Test.YtcjnjlgjnobplaaGreatDoorC
import Derived.Sort.AssemblyPlain
import Derived.KernelRfl
import Derived.Test.YtcjnjlgjnobplaaGreatDoorProg
import Derived.Shelf.SortM.Plain
import Derived.Shelf.SortM.SortNone
import Derived.Shelf.SlGeneric
import Derived.Ground.SlgmProg
import Derived.Sort.Walk0
import Derived.Shelf.Strings.OnBuilder
import Derived.Shelf.SlicesG.CompactS
import Derived.Ground.SlgnProg
set_option linter.unusedVariables false
set_option linter.unusedSimpArgs false
namespace Go.Proofs.W
open Go.Vl
section
variable {α : Type} [Inhabited α] {lt : α → α → Bool}
theorem insG_go {a j : Nat} {e : Array α} (h : a < j) (hl : lt e[j]! e[j - 1]! = true) : Go.Sort.insInner lt a j e = Go.Sort.insInner lt a (j - 1) (Go.Sort.swp e j (j - 1)) := by
  cases j with
  | zero => omega
  | succ j =>
    rw [Go.Sort.insInner]
    simp only [Nat.add_sub_cancel] at hl ⊢
    rw [if_pos (by simp [hl]; omega)]
theorem insG_end {a j : Nat} {e : Array α} (hl : lt e[j]! e[j - 1]! = false) : Go.Sort.insInner lt a j e = e := by
  cases j with
  | zero => rfl
  | succ j =>
    rw [Go.Sort.insInner]
    simp only [Nat.add_sub_cancel] at hl ⊢
    rw [if_neg (by simp [hl])]
theorem insG_stop {a j : Nat} {e : Array α} (h : ¬ a < j) : Go.Sort.insInner lt a j e = e := by
  cases j with
  | zero => rfl
  | succ j => rw [Go.Sort.insInner]; simp; omega
theorem siftG_stop {hi F root : Nat} {d : Array α} (h : 2 * root + 1 ≥ hi) : Go.Sort.siftDown lt hi F root d = d := by rw [Go.Sort.siftDown, dif_pos h]
/-- Which child is the greater one. -/
def siftC (lt : α → α → Bool) (hi F root : Nat) (d : Array α) : Nat := if 2 * root + 2 < hi ∧ lt d[F + (2 * root + 1)]! d[F + (2 * root + 2)]! = true then 2 * root + 2 else 2 * root + 1
theorem siftG_end {hi F root : Nat} {d : Array α} (h : ¬ 2 * root + 1 ≥ hi) (hl : lt d[F + root]! d[F + siftC lt hi F root d]! = false) : Go.Sort.siftDown lt hi F root d = d := by
  rw [Go.Sort.siftDown, dif_neg h]
  unfold siftC at hl
  by_cases hc : 2 * root + 2 < hi ∧ lt d[F + (2 * root + 1)]! d[F + (2 * root + 2)]! = true
  · rw [if_pos hc] at hl
    rw [if_pos (by simp only [Bool.and_eq_true, decide_eq_true_eq]; exact hc), if_pos (by rw [hl]; rfl)]
  · rw [if_neg hc] at hl
    rw [if_neg (by simp only [Bool.and_eq_true, decide_eq_true_eq]; exact hc), if_pos (by rw [hl]; rfl)]
theorem siftG_go {hi F root : Nat} {d : Array α} (h : ¬ 2 * root + 1 ≥ hi) (hl : lt d[F + root]! d[F + siftC lt hi F root d]! = true) : Go.Sort.siftDown lt hi F root d = Go.Sort.siftDown lt hi F (siftC lt hi F root d) (Go.Sort.swp d (F + root) (F + siftC lt hi F root d)) := by
  rw [Go.Sort.siftDown, dif_neg h]
  unfold siftC at hl ⊢
  by_cases hc : 2 * root + 2 < hi ∧ lt d[F + (2 * root + 1)]! d[F + (2 * root + 2)]! = true
  · rw [if_pos hc] at hl ⊢
    rw [if_pos (by simp only [Bool.and_eq_true, decide_eq_true_eq]; exact hc), if_neg (by rw [hl]; simp), dif_pos hc.1]
  · rw [if_neg hc] at hl ⊢
    rw [if_neg (by simp only [Bool.and_eq_true, decide_eq_true_eq]; exact hc), if_neg (by rw [hl]; simp)]
theorem swpG_size {d : Array α} {i j : Nat} : (Go.Sort.swp d i j).size = d.size := by simp [Go.Sort.swp]
theorem siftG_size {hi F : Nat} : ∀ (k root : Nat) (d : Array α), hi - root ≤ k → (Go.Sort.siftDown lt hi F root d).size = d.size := by
  intro k
  induction k with
  | zero => intro root d h; rw [siftG_stop (by omega)]
  | succ k ih =>
    intro root d h
    by_cases h1 : 2 * root + 1 ≥ hi
    · rw [siftG_stop h1]
    · cases hl : lt d[F + root]! d[F + siftC lt hi F root d]! with
      | false => rw [siftG_end h1 hl]
      | true =>
        rw [siftG_go h1 hl, ih _ _ ?_, swpG_size]
        unfold siftC; split <;> omega
theorem scanG_up_end {p : α → Bool} {d : Array α} {i j : Nat} (h : ¬ (i ≤ j ∧ p d[i]! = true)) : Go.Sort.scanUp p d j i = i := by
  rw [Go.Sort.scanUp, if_neg (by simp only [Bool.and_eq_true, decide_eq_true_eq]; exact h)]
theorem scanG_up_go {p : α → Bool} {d : Array α} {i j : Nat} (h : i ≤ j) (hp : p d[i]! = true) : Go.Sort.scanUp p d j i = Go.Sort.scanUp p d j (i + 1) := by
  rw [Go.Sort.scanUp, if_pos (by simp only [Bool.and_eq_true, decide_eq_true_eq]; exact ⟨h, hp⟩)]
theorem scanG_dn_end {p : α → Bool} {d : Array α} {i j : Nat} (h : ¬ (i ≤ j ∧ p d[j]! = true)) : Go.Sort.scanDown p d i j = j := by
  cases j with
  | zero => rfl
  | succ j => rw [Go.Sort.scanDown, if_neg (by simp only [Bool.and_eq_true, decide_eq_true_eq]; exact h)]
theorem scanG_dn_go {p : α → Bool} {d : Array α} {i j : Nat} (h1 : 1 ≤ i) (h : i ≤ j) (hp : p d[j]! = true) : Go.Sort.scanDown p d i j = Go.Sort.scanDown p d i (j - 1) := by
  cases j with
  | zero => omega
  | succ j => rw [Go.Sort.scanDown, if_pos (by simp only [Bool.and_eq_true, decide_eq_true_eq]; exact ⟨h, hp⟩)]; rfl
theorem scanG_so_end {d : Array α} {i b : Nat} (h : ¬ (i < b ∧ lt d[i]! d[i - 1]! = false)) : Go.Sort.scanSorted lt d b i = i := by
  rw [Go.Sort.scanSorted, if_neg (by simp only [Bool.and_eq_true, decide_eq_true_eq, Bool.not_eq_true']; exact h)]
theorem scanG_so_go {d : Array α} {i b : Nat} (h : i < b) (hp : lt d[i]! d[i - 1]! = false) : Go.Sort.scanSorted lt d b i = Go.Sort.scanSorted lt d b (i + 1) := by
  rw [Go.Sort.scanSorted, if_pos (by simp only [Bool.and_eq_true, decide_eq_true_eq, Bool.not_eq_true']; exact ⟨h, hp⟩)]
theorem shDn_end {d : Array α} {j : Nat} (h : lt d[j]! d[j - 1]! = false) : Go.Sort.shiftDown lt j d = d := by
  cases j with
  | zero => rfl
  | succ j => rw [Go.Sort.shiftDown]; simp only [Nat.add_sub_cancel] at h; rw [if_pos (by rw [h]; rfl)]
theorem shDn_go {d : Array α} {j : Nat} (h1 : 1 ≤ j) (h : lt d[j]! d[j - 1]! = true) : Go.Sort.shiftDown lt j d = Go.Sort.shiftDown lt (j - 1) (Go.Sort.swp d j (j - 1)) := by
  cases j with
  | zero => omega
  | succ j => rw [Go.Sort.shiftDown]; simp only [Nat.add_sub_cancel] at h ⊢; rw [if_neg (by rw [h]; simp)]
theorem shUp_end {d : Array α} {b j : Nat} (h : ¬ (j < b ∧ lt d[j]! d[j - 1]! = true)) : Go.Sort.shiftUp lt b j d = d := by
  rw [Go.Sort.shiftUp]
  by_cases hj : j < b
  · rw [if_pos hj, if_pos (by cases hl : lt d[j]! d[j - 1]! with | false => rfl | true => exact absurd ⟨hj, hl⟩ h)]
  · rw [if_neg hj]
theorem shUp_go {d : Array α} {b j : Nat} (h1 : j < b) (h : lt d[j]! d[j - 1]! = true) : Go.Sort.shiftUp lt b j d = Go.Sort.shiftUp lt b (j + 1) (Go.Sort.swp d j (j - 1)) := by
  rw [Go.Sort.shiftUp, if_pos h1, if_neg (by rw [h]; simp)]
theorem partG_now {d : Array α} {a b p i j : Nat} (hi : i = Go.Sort.scanUp (fun x => lt x (Go.Sort.swp d a p)[a]!) (Go.Sort.swp d a p) (b - 1) (a + 1)) (hj : j = Go.Sort.scanDown (fun x => !lt x (Go.Sort.swp d a p)[a]!) (Go.Sort.swp d a p) i (b - 1)) (h : i > j) :
    Go.Sort.partition lt d a b p = (j, true, Go.Sort.swp (Go.Sort.swp d a p) j a) := by
  subst hj; subst hi
  show (if _ then _ else _) = _
  rw [if_pos h]
theorem partG_go {d : Array α} {a b p i j : Nat} (hi : i = Go.Sort.scanUp (fun x => lt x (Go.Sort.swp d a p)[a]!) (Go.Sort.swp d a p) (b - 1) (a + 1)) (hj : j = Go.Sort.scanDown (fun x => !lt x (Go.Sort.swp d a p)[a]!) (Go.Sort.swp d a p) i (b - 1)) (h : ¬ i > j) :
    Go.Sort.partition lt d a b p = ((Go.Sort.partLoop lt a (i + 1) (j - 1) (Go.Sort.swp (Go.Sort.swp d a p) i j)).1, false, Go.Sort.swp (Go.Sort.partLoop lt a (i + 1) (j - 1) (Go.Sort.swp (Go.Sort.swp d a p) i j)).2 (Go.Sort.partLoop lt a (i + 1) (j - 1) (Go.Sort.swp (Go.Sort.swp d a p) i j)).1 a) := by
  subst hj; subst hi
  show (if _ then _ else _) = _
  rw [if_neg h]
theorem lit_eq {K : Bool → Prop} {b b' : Bool} (h : b = b') (hk : ∀ c, c = b' → K c) : ∀ c, c = b → K c := by subst h; exact hk
theorem not_of' {b : Bool} (h : false = !b) : b = true := by cases b <;> simp_all
theorem yes_of' {b : Bool} (h : true = !b) : b = false := by cases b <;> simp_all
theorem wrapN {x : Int} {k : Nat} (h : x = (k : Int)) (hk : k ≤ 9000000000000000000) : IntKind.i64.wrap x = (k : Int) := by rw [wrap_id (by omega) (by omega)]; exact h
/-- A list, sorted. -/
def sortBy (lt : α → α → Bool) (l : List α) : List α := l.mergeSort (fun x y => !lt y x)
omit [Inhabited α] in
theorem sortBy_pair (hS : Go.Sort.SWO lt) (l : List α) : (sortBy lt l).Pairwise (fun x y => lt y x = false) := by
  have tr : ∀ a b c : α, (!lt b a) = true → (!lt c b) = true → (!lt c a) = true := fun a b c h1 h2 => by
    simp only [Bool.not_eq_true'] at *; exact hS.ntrans _ _ _ h2 h1
  have to : ∀ a b : α, ((!lt b a) || (!lt a b)) = true := fun a b => by
    cases h1 : lt b a <;> cases h2 : lt a b <;> try rfl
    have := hS.trans _ _ _ h1 h2
    rw [hS.irrefl] at this; cases this
  exact (List.pairwise_mergeSort tr to l).imp fun h => by simpa using h
omit [Inhabited α] in
theorem sortBy_mem {l : List α} {x : α} : x ∈ sortBy lt l ↔ x ∈ l := (List.mergeSort_perm l _).mem_iff
omit [Inhabited α] in
theorem sortBy_length {l : List α} : (sortBy lt l).length = l.length := List.length_mergeSort _
omit [Inhabited α] in
theorem sortBy_of_perm (hS : Go.Sort.SWO lt) (hT : ∀ x y, lt x y = false → lt y x = false → x = y) {l l' : List α} (h : l.Perm l') : sortBy lt l = sortBy lt l' :=
  List.Perm.eq_of_pairwise (le := fun x y => lt y x = false) (fun a b _ _ h1 h2 => hT a b h2 h1) (sortBy_pair hS l) (sortBy_pair hS l') (((List.mergeSort_perm l _).trans h).trans (List.mergeSort_perm l' _).symm)
omit [Inhabited α] in
/-- Sorted lists of the same elements, none twice. -/
theorem sorted_same (hT : ∀ x y, lt x y = false → lt y x = false → x = y) {l l' : List α} (h1 : l.Pairwise (fun x y => lt y x = false)) (h2 : l'.Pairwise (fun x y => lt y x = false)) (n1 : l.Nodup) (n2 : l'.Nodup) (h : ∀ x, x ∈ l ↔ x ∈ l') : l = l' :=
  List.Perm.eq_of_pairwise (le := fun x y => lt y x = false) (fun a b _ _ h1 h2 => hT a b h2 h1) h1 h2 ((List.perm_ext_iff_of_nodup n1 n2).2 h)
end
theorem ltInt_tot : ∀ x y : Int, Go.Sort.ltInt x y = false → Go.Sort.ltInt y x = false → x = y := fun x y h1 h2 => by
  simp [Go.Sort.ltInt] at h1 h2; omega
end Go.Proofs.W

namespace Go.Proofs.W
open Go.Vl
set_option maxRecDepth 100000

def subB (mux sub : Int) (r : TRow) : Bool := decide (r.mux = mux) && (decide (r.sub = sub) && decide (mux ≠ 0))
def subRes (l : List TRow) : Option Nat → AV
  | some i => .tup [strA (l.getD i trow0).name, boolA true]
  | none => .tup [strA ⟨#[]⟩, boolA false]
theorem idx_lt {l : List TRow} {p : TRow → Bool} {i : Nat} (h : l.findIdx? p = some i) : i < l.length := (List.findIdx?_eq_some_iff_getElem.1 h).1
def nameB5 (a : Nat) (n : Int) (r : TRow) : Bool := decide (r.num a = n)
def nameRes (l : List TRow) : Option Nat → AV
  | some i => .tup [strA (l.getD i trow0).name, int 0]
  | none => .tup [strA ⟨#[]⟩, int 14]
end Go.Proofs.W

namespace Go.Proofs.W
open Go.Vl
set_option maxRecDepth 100000

def ownI (a num : Nat) : Nat := if a = 1 ∧ num / 1073741824 % 2 = 1 then num - 1073741824 else num
theorem and_split {c lo d m i : Nat} (h : lo < 2 ^ i) (hm : m < 2 ^ i) : (2 ^ i * c + lo) &&& (2 ^ i * d + m) = 2 ^ i * (c &&& d) + (lo &&& m) := by
  apply Nat.eq_of_testBit_eq
  intro j
  have hlm : lo &&& m < 2 ^ i := Nat.lt_of_le_of_lt Nat.and_le_left h
  rw [Nat.testBit_and, Nat.testBit_two_pow_mul_add _ h, Nat.testBit_two_pow_mul_add _ hm, Nat.testBit_two_pow_mul_add _ hlm]
  split <;> rw [Nat.testBit_and]
theorem own_and {num : Nat} (h : num < 4294967296) : num &&& 3221225471 = ownI 1 num := by
  have hlo : num % 1073741824 < 2 ^ 30 := Nat.mod_lt _ (by decide)
  have e1 : num = 2 ^ 30 * (num / 1073741824) + num % 1073741824 := by have := Nat.div_add_mod num 1073741824; show num = 1073741824 * _ + _; omega
  have hc : num / 1073741824 < 4 := by omega
  have hs := and_split (c := num / 1073741824) (lo := num % 1073741824) (d := 2) (m := 1073741823) (i := 30) hlo (by decide)
  rw [← e1] at hs
  have e2 : (2 ^ 30 * 2 + 1073741823 : Nat) = 3221225471 := by decide
  rw [e2] at hs
  have e3 : num % 1073741824 &&& 1073741823 = num % 1073741824 := by
    have := Nat.and_two_pow_sub_one_eq_mod (num % 1073741824) 30
    rw [show (2 ^ 30 - 1 : Nat) = 1073741823 by decide] at this
    rw [this]; exact Nat.mod_eq_of_lt hlo
  rw [hs, e3]
  unfold ownI
  generalize hq : num / 1073741824 = c at hc
  generalize num % 1073741824 = lo at e1
  rw [hq] at e1
  have e4 : (2 ^ 30 : Nat) = 1073741824 := by decide
  rw [e4] at e1 ⊢
  rcases (by omega : c = 0 ∨ c = 1 ∨ c = 2 ∨ c = 3) with rfl | rfl | rfl | rfl
  · rw [if_neg (by decide), show (0 &&& 2 : Nat) = 0 by decide]; omega
  · rw [if_pos (by decide), show (1 &&& 2 : Nat) = 0 by decide]; omega
  · rw [if_neg (by decide), show (2 &&& 2 : Nat) = 2 by decide]; omega
  · rw [if_pos (by decide), show (3 &&& 2 : Nat) = 2 by decide]; omega
theorem own32 {num : Nat} (h : num < 4294967296) : bitsI .andNot .u32 (num : Int) 1073741824 = ((ownI 1 num : Nat) : Int) := by
  rw [← own_and h]
  exact bits_andNot (k := .u32) (b := 1073741824) h (by decide) (by
    have : num &&& (2 ^ IntKind.u32.bits - 1 - 1073741824) ≤ num := Nat.and_le_left
    have : num &&& (2 ^ IntKind.u32.bits - 1 - 1073741824) < 4294967296 := by omega
    simp [IntKind.wrap, IntKind.signed, IntKind.bits] at this ⊢
    omega)
def kindI (num : Nat) : Nat := if num = 102 then 1 else if num = 117 then 2 else 0
def nameO (l : List TRow) : Option Nat → ByteArray
  | some i => (l.getD i trow0).name
  | none => ⟨#[]⟩
theorem low32i {n : Nat} : IntKind.i64.wrap (IntKind.u32.wrap (n : Int)) = ((n % 4294967296 : Nat) : Int) := by
  simp [IntKind.wrap, IntKind.signed, IntKind.bits]; omega
end Go.Proofs.W

namespace Go.Proofs.W
open Go.Vl
set_option maxRecDepth 100000

structure CallR where
  some : Bool
  abi : Int
  name : ByteArray
  muxed : Bool
def callC (c : CallR) : List AV := [boolA c.some, int c.abi, strA c.name, boolA c.muxed]
def callA (c : CallR) : AV := .ag (callC c)
def call0 : CallR := ⟨false, 0, ⟨#[]⟩, false⟩
def selO (arch num : Nat) : Option Nat := (infN.find? (selB arch (withB num))).map (·.1)
theorem selA_eq (arch num : Nat) : selA arch num = match selO arch num with
    | some a => .tup [int a, boolA true]
    | none => .tup [int 0, boolA false] := by
  unfold selA selO
  cases infN.find? (selB arch (withB num)) <;> rfl
theorem selO_lt {arch num a : Nat} (h : selO arch num = some a) : a < 5 := by
  unfold selO at h
  obtain ⟨x, hx, rfl⟩ := Option.map_eq_some_iff.1 h
  have := List.mem_of_find?_eq_some hx
  simp only [infN, List.mem_cons, List.not_mem_nil, or_false] at this
  rcases this with rfl | rfl | rfl | rfl | rfl <;> decide
def kindO (a num : Nat) : Nat := if a = 2 then kindI num else 0
/-- Which call a record is. -/
def ofI (l : List TRow) (r : Rec) : CallR := match selO r.arch r.num with
  | none => call0
  | some a => if 0 < kindO a r.num then ⟨true, a, nameO l (l.findIdx? (subB (kindO a r.num) ((r.a0 % 4294967296 : Nat) : Int))), true⟩
    else ⟨true, a, nameO l (l.findIdx? (nameB5 a ((ownI a r.num : Nat) : Int))), false⟩
theorem int2 {a : Nat} : ((a : Int) == 2) = decide (a = 2) := by
  rw [Bool.eq_iff_iff]; simp; omega
end Go.Proofs.W

namespace Go.Proofs.W
open Go.Vl
set_option maxRecDepth 100000

theorem c_bool' : Tryz.prog.cellsOf 4 = 1 := by kernel_rfl
theorem splitV_to {a b : AV} {K : AV → Prop} (h : a = b) (hk : splitV b K) : splitV a K := h ▸ hk
/-- What was seen of a name. -/
def seenC (m : Nat) (a : Nat → Nat) (b : Nat → Bool) : List AV := [int m, u64 (a 0 : Nat), u64 (a 1 : Nat), u64 (a 2 : Nat), u64 (a 3 : Nat), u64 (a 4 : Nat), u64 (a 5 : Nat), boolA (b 0), boolA (b 1), boolA (b 2), boolA (b 3), boolA (b 4), boolA (b 5)]
def noteA (m : Nat) (a x : Nat → Nat) (k : Nat) : Nat := if m = 0 then x k else a k
def noteB (m : Nat) (a : Nat → Nat) (b : Nat → Bool) (x : Nat → Nat) (k : Nat) : Bool := if m = 0 then true else b k && decide (a k = x k)
def upK {α : Type} (k : Nat) (f g : Nat → α) (j : Nat) : α := bif Nat.blt j k then f j else g j
end Go.Proofs.W

namespace Go.Proofs.W
open Go.Vl
set_option maxRecDepth 100000

/- Maps by names, of anything: how they are looked up, how they grow; frozen with what they point to. -/
def kS (s t : ByteArray) : Bool := s.toList == t.toList
theorem kS_eq {s t : ByteArray} : kS s t = true ↔ s = t := by
  unfold kS
  rw [beq_iff_eq, Lib.toList_data, Lib.toList_data]
  constructor
  · intro h
    obtain ⟨⟨a⟩⟩ := s
    obtain ⟨⟨b⟩⟩ := t
    simpa using h
  · rintro rfl; rfl
theorem kS_refl (s : ByteArray) : kS s s = true := kS_eq.2 rfl
section
variable {α : Type} {nm : α → ByteArray} {val : α → AV}
theorem look_none {s : ByteArray} : ∀ {G : List α}, (∀ x ∈ G, kS s (nm x) = false) → alook (.string s) (G.map fun x => (Value.string (nm x), val x)) = none
  | [], _ => rfl
  | x :: G, h => by
    have h0 : (s.toList == (nm x).toList) = false := h x (.head _)
    show (bif s.toList == (nm x).toList then _ else alook (.string s) (G.map _)) = none
    rw [h0]
    exact look_none fun y hy => h y (.tail _ hy)
theorem look_at {s : ByteArray} {x : α} (hx : nm x = s) {G2 : List α} : ∀ {G1 : List α}, (∀ y ∈ G1, kS s (nm y) = false) → alook (.string s) ((G1 ++ x :: G2).map fun x => (Value.string (nm x), val x)) = some (val x)
  | [], _ => by
    subst hx
    show (bif (nm x).toList == (nm x).toList then _ else _) = _
    rw [beq_self_eq_true]; rfl
  | y :: G, h => by
    have h0 : (s.toList == (nm y).toList) = false := h y (.head _)
    show (bif s.toList == (nm y).toList then _ else alook (.string s) ((G ++ x :: G2).map _)) = _
    rw [h0]
    exact look_at hx fun y hy => h y (.tail _ hy)
theorem put_none {s : ByteArray} {v : AV} : ∀ {G : List α}, (∀ x ∈ G, kS s (nm x) = false) → aput (.string s) v (G.map fun x => (Value.string (nm x), val x)) = (G.map fun x => (Value.string (nm x), val x)) ++ [(.string s, v)]
  | [], _ => rfl
  | x :: G, h => by
    have h0 : (s.toList == (nm x).toList) = false := h x (.head _)
    show (bif s.toList == (nm x).toList then _ else (Value.string (nm x), val x) :: aput (.string s) v (G.map _)) = _
    rw [h0, put_none fun y hy => h y (.tail _ hy)]; rfl
theorem nm_cases (nm : α → ByteArray) (s : ByteArray) : ∀ (G : List α), (∀ x ∈ G, kS s (nm x) = false) ∨ ∃ G1 x G2, G = G1 ++ x :: G2 ∧ nm x = s ∧ ∀ y ∈ G1, kS s (nm y) = false
  | [] => .inl (by simp)
  | x :: G => by
    cases hk : kS s (nm x) with
    | true => exact .inr ⟨[], x, G, rfl, (kS_eq.1 hk).symm, by simp⟩
    | false =>
      rcases nm_cases nm s G with h | ⟨G1, y, G2, rfl, hy, h⟩
      · exact .inl fun z hz => by rcases List.mem_cons.1 hz with rfl | hz; exact hk; exact h z hz
      · exact .inr ⟨x :: G1, y, G2, rfl, hy, fun z hz => by rcases List.mem_cons.1 hz with rfl | hz; exact hk; exact h z hz⟩
theorem nm_fit (G : List α) : keysFit .string (G.map fun x => (Value.string (nm x), val x)) = true := by simp [keysFit, keyFit]
end
theorem MpLe.app2 : ∀ {a b c d : List (Value × AV)}, MpLe a b → MpLe c d → MpLe (a ++ c) (b ++ d)
  | [], [], _, _, _, h => h
  | _ :: _, _ :: _, _, _, h, k => ⟨h.1, h.2.1, MpLe.app2 h.2.2 k⟩
  | [], _ :: _, _, _, h, _ => h.elim
  | _ :: _, [], _, _, h, _ => h.elim
/-- A map, frozen with what it points to. -/
theorem Frz.om2 {bs : List (Nat × Own)} {i : Vl.Id} {es es' : List (Value × AV)} (hm : (i.2, .mp es) ∈ bs) (hl : es'.length = es.length) (hf : ∀ (k : Nat) (p p' : Value × AV), es[k]? = some p → es'[k]? = some p' → p'.1 = p.1 ∧ Frz bs p.2 p'.2) : Frz bs (.om i) (.fm es') := fun w X g u h hr => by
  obtain ⟨b, h1, h4, ents, h2, h3, h5⟩ := h _ hm
  cases hr with
  | om _ b' hg =>
    dsimp only at h1
    rw [h1] at hg; cases hg
    have hget : ∀ (k : Nat) (p' : Value × AV), es'[k]? = some p' → ∃ p, es[k]? = some p := fun k p' hp => by
      have : k < es'.length := (List.getElem?_eq_some_iff.1 hp).1
      exact ⟨es[k]'(by omega), List.getElem?_eq_getElem (by omega)⟩
    refine .fm es' b ents h2 h4 (h3.trans hl.symm) (fun k p' e hp he => ?_) (fun k p' e hp he => ?_)
    · obtain ⟨p, hp0⟩ := hget k p' hp
      obtain ⟨q1, q2, _⟩ := h5 k p e hp0 he
      exact ⟨q1.trans (hf k p p' hp0 hp).1.symm, q2⟩
    · obtain ⟨p, hp0⟩ := hget k p' hp
      obtain ⟨_, _, q3⟩ := h5 k p e hp0 he
      exact (hf k p p' hp0 hp).2 w X g _ h q3
end Go.Proofs.W

namespace Go.Proofs.W
open Go.Vl
set_option maxRecDepth 100000

/-- What is gathered of a name, and where it stands. -/
structure Ent where
  name : ByteArray
  m : Nat
  a : Nat → Nat
  b : Nat → Bool
  st : Nat
def entB (e : Ent) : Vl.Id × Own := ((50, e.st), .c (seenC e.m e.a e.b))
def entP (e : Ent) : AV := .bp (50, e.st) 0
def entF (e : Ent) : AV := .rp (seenC e.m e.a e.b)
def entM (G : List Ent) : List (Value × AV) := G.map fun e => (Value.string e.name, entP e)
def entR (G : List Ent) : List (Value × AV) := G.map fun e => (Value.string e.name, entF e)
def noteE (e : Ent) (x : Nat → Nat) : Ent := if e.m = 0 then ⟨e.name, 1, x, fun _ => true, e.st⟩ else ⟨e.name, e.m + 1, e.a, fun j => e.b j && decide (e.a j = x j), e.st⟩
theorem noteE_name (e : Ent) (x : Nat → Nat) : (noteE e x).name = e.name := by unfold noteE; split <;> rfl
theorem noteE_st (e : Ent) (x : Nat → Nat) : (noteE e x).st = e.st := by unfold noteE; split <;> rfl
theorem noteE_m (e : Ent) (x : Nat → Nat) : (noteE e x).m = e.m + 1 := by
  unfold noteE; split
  · rename_i h; rw [h]
  · rfl
/-- What is gathered, without places. -/
structure Gat where
  name : ByteArray
  m : Nat
  a : Nat → Nat
  b : Nat → Bool
def gatE (e : Ent) : Gat := ⟨e.name, e.m, e.a, e.b⟩
def noteG (g : Gat) (x : Nat → Nat) : Gat := if g.m = 0 then ⟨g.name, 1, x, fun _ => true⟩ else ⟨g.name, g.m + 1, g.a, fun j => g.b j && decide (g.a j = x j)⟩
theorem gat_note (e : Ent) (x : Nat → Nat) : gatE (noteE e x) = noteG (gatE e) x := by
  unfold noteE noteG gatE; dsimp only; split <;> rfl
def addG (s : ByteArray) (x : Nat → Nat) : List Gat → List Gat
  | [] => [noteG ⟨s, 0, fun _ => 0, fun _ => false⟩ x]
  | g :: G => if kS s g.name then noteG g x :: G else g :: addG s x G
def gatStep (l : List TRow) (G : List Gat × Bool) (r : Rec) : List Gat × Bool :=
  if (ofI l r).name.size = 0 then G else (addG (ofI l r).name (argI (ofI l r).abi.toNat r) G.1, G.2 || decide ((ofI l r).abi = 1))
def gather (l : List TRow) (rs : List Rec) : List Gat × Bool := rs.foldl (gatStep l) ([], false)
theorem gather_next {l : List TRow} {rs : List Rec} {i : Nat} (h : i < rs.length) : gather l (rs.take (i + 1)) = gatStep l (gather l (rs.take i)) (rs.getD i rec0) := by
  unfold gather; rw [take_getD rec0 h, List.foldl_append]; rfl
theorem addG_none {s : ByteArray} {x : Nat → Nat} : ∀ {G : List Ent} {st : Nat}, (∀ e ∈ G, kS s e.name = false) → addG s x (G.map gatE) = (G ++ [noteE ⟨s, 0, fun _ => 0, fun _ => false, st⟩ x]).map gatE
  | [], st, _ => by
    show [noteG _ x] = [gatE (noteE _ x)]
    rw [gat_note]; rfl
  | e :: G, st, h => by
    show (if kS s e.name = true then _ else gatE e :: addG s x (G.map gatE)) = _
    rw [if_neg (by rw [h e (.head _)]; decide), addG_none (st := st) fun z hz => h z (.tail _ hz)]; rfl
theorem addG_at {s : ByteArray} {x : Nat → Nat} {e : Ent} (he : e.name = s) {G2 : List Ent} : ∀ {G1 : List Ent}, (∀ z ∈ G1, kS s z.name = false) → addG s x ((G1 ++ e :: G2).map gatE) = (G1 ++ noteE e x :: G2).map gatE
  | [], _ => by
    show (if kS s e.name = true then noteG (gatE e) x :: _ else _) = gatE (noteE e x) :: _
    rw [if_pos (kS_eq.2 he.symm), gat_note]
  | z :: G, h => by
    show (if kS s z.name = true then _ else gatE z :: addG s x ((G ++ e :: G2).map gatE)) = _
    rw [if_neg (by rw [h z (.head _)]; decide), addG_at he fun y hy => h y (.tail _ hy)]; rfl
end Go.Proofs.W

namespace Go.Proofs.W
open Go.Vl
set_option maxRecDepth 100000

def gatR (G : List Gat) : List (Value × AV) := G.map fun g => (Value.string g.name, .rp (seenC g.m g.a g.b))
theorem entR_gat (G : List Ent) : entR G = gatR (G.map gatE) := by
  unfold entR gatR; rw [List.map_map]; rfl
theorem size0 {s : ByteArray} : (s.toList == (⟨#[]⟩ : ByteArray).toList) = decide (s.size = 0) := by
  rw [Lib.toList_data, Lib.toList_data, Bool.eq_iff_iff, beq_iff_eq, decide_eq_true_iff]
  obtain ⟨⟨a⟩⟩ := s
  show a = [] ↔ a.length = 0
  exact List.length_eq_zero_iff.symm
theorem frz_gath (G : List Ent) (nx : Nat) : Frz ((((0, nx), Own.mp (entM G)) :: G.map entB).map fun p => (p.1.2, p.2)) (.om (0, nx)) (.fm (entR G)) := by
  refine Frz.om2 (.head _) (by simp [entR, entM]) fun k p p' h h' => ?_
  unfold entM at h
  unfold entR at h'
  rw [List.getElem?_map] at h h'
  obtain ⟨e, he, rfl⟩ := Option.map_eq_some_iff.1 h
  rw [he] at h'
  obtain rfl := Option.some.inj h'
  refine ⟨rfl, Frz.bp (cs := seenC e.m e.a e.b) ?_ rfl⟩
  rw [List.map_cons, List.map_map]
  exact .tail _ (List.mem_map.2 ⟨e, List.mem_of_getElem? he, rfl⟩)
theorem ofI_abi {l : List TRow} {r : Rec} (h : ¬ (ofI l r).name.size = 0) : (ofI l r).abi.toNat < 5 ∧ (ofI l r).abi = ((ofI l r).abi.toNat : Int) := by
  unfold ofI at h ⊢
  cases hs : selO r.arch r.num with
  | none => rw [hs] at h; exact absurd rfl h
  | some a =>
    have ha := selO_lt hs
    dsimp only
    split
    · exact ⟨by simpa using ha, by simp⟩
    · exact ⟨by simpa using ha, by simp⟩
theorem bx_snoc {i j : Vl.Id} {o o' : Own} (h : i.2 = j.2) (ho : OwnLe o o') : ∀ L : List (Vl.Id × Own), BxLe (L ++ [(i, o)]) (L ++ [(j, o')])
  | [] => ⟨h, ho, trivial⟩
  | p :: L => ⟨rfl, OwnLe.refl _, bx_snoc h ho L⟩
theorem bxE_none {G : List Ent} {s : ByteArray} {st : Nat} : BxLe (G.map entB ++ [((3, st), .c (seenC 0 (fun _ => 0) (fun _ => false)))]) ((G ++ [(⟨s, 0, fun _ => 0, fun _ => false, st⟩ : Ent)]).map entB) := by
  rw [List.map_append]
  exact bx_snoc (i := (3, st)) (j := (50, st)) rfl (OwnLe.refl _) _
theorem mpE_none {G : List Ent} {s : ByteArray} {st : Nat} (h : ∀ e ∈ G, kS s e.name = false) : OwnLe (.mp (aput (.string s) (.bp (3, st) 0) (entM G))) (.mp (entM (G ++ [(⟨s, 0, fun _ => 0, fun _ => false, st⟩ : Ent)]))) := by
  unfold entM
  rw [put_none (nm := Ent.name) (val := entP) h, List.map_append]
  exact MpLe.app2 (MpLe.refl _) ⟨rfl, AVle.bp_nm rfl, trivial⟩
theorem noid_arr {x : Nat → Nat} : NoId (arrA x) := by unfold arrA; exact NoId.ag (by intro y hy; simp at hy; rcases hy with rfl | rfl | rfl | rfl | rfl | rfl <;> exact NoId.v _)
end Go.Proofs.W

namespace Go.Proofs.W
open Go.Vl
set_option maxRecDepth 100000

theorem perm_part {seen : List Nat} {n : Nat} (hnd : seen.Nodup) (hlt : ∀ j ∈ seen, j < n) : ∃ post, (seen ++ post).Perm (List.range n) := by
  refine ⟨(List.range n).filter fun j => decide (j ∉ seen), ?_⟩
  refine (List.perm_ext_iff_of_nodup ?_ List.nodup_range).2 fun j => ?_
  · rw [List.nodup_append]
    refine ⟨hnd, List.nodup_range.filter _, fun a ha b hb hab => ?_⟩
    subst hab
    simp at hb
    exact hb.2 ha
  · simp only [List.mem_append, List.mem_filter, List.mem_range, decide_eq_true_eq]
    constructor
    · rintro (h | h)
      · exact hlt j h
      · exact h.1
    · intro h
      by_cases h1 : j ∈ seen
      · exact .inl h1
      · exact .inr ⟨h, h1⟩
theorem perm_len {seen : List Nat} {n : Nat} (hnd : seen.Nodup) (hlt : ∀ j ∈ seen, j < n) : seen.length ≤ n := by
  obtain ⟨post, h⟩ := perm_part hnd hlt
  have := h.length_eq
  simp at this
  omega
def keyAt (es : List (Value × AV)) (j : Nat) : Value := (es.getD j (.int .i64 0, .any)).1
theorem keyAt_some {es : List (Value × AV)} {k : Nat} {p : Value × AV} (h : es[k]? = some p) : keyAt es k = p.1 := by simp [keyAt, List.getD, h]
theorem keyAt_all (es : List (Value × AV)) : (List.range es.length).map (keyAt es) = es.map (·.1) := by
  refine List.ext_getElem (by simp) fun j h1 h2 => ?_
  have : j < es.length := by simpa using h1
  simp [keyAt, List.getD, this]
end Go.Proofs.W

namespace Go.Proofs
open Go.Shelf
shelf_lay_g SlLaysM.n6 Slgm 6 at Tryz 41 as Tryz.laysM6
end Go.Proofs
namespace Go.Proofs.W
open Go.Vl Go.Shelf
set_option maxRecDepth 100000

def rowV (l : List Value) (k : Nat) : AV := .v (l.getD k (.bool false))
theorem le_rowV {l : List Value} {x : Value} {f' : Nat → AV} {i : Option Vl.Id} (h : f' 0 = .v x) : AVle (.os 1 (l.length + 1) (appF l.length (rowV l) f') i) (.os 1 (l ++ [x]).length (rowV (l ++ [x])) i) := by
  rw [List.length_append]
  refine AVle.os_fun (appF_one (fun k hk => ?_) ?_)
  · simp [rowV, List.getD, List.getElem?_append_left hk, hk]
  · rw [h]; simp [rowV, List.getD]
theorem b_str : Tryz.prog.bytesOf 9 = 16 := by kernel_rfl
def eA_str (z : List UInt8) : AV := .v (encStr z)
def rowH_str (s : Nat) (d : Array (List UInt8)) (tl : List AV) : List (Vl.Id × Own) := [((0, s), .c (rowG eA_str d tl))]
theorem sort_str_eqK (l : List (List UInt8)) : l.mergeSort (fun x y => decide (x ≤ y)) = sortBy Go.Sort.ltStr l := by
  unfold sortBy
  congr 1
  funext x y
  simp only [Go.Sort.ltStr]
  by_cases h : x ≤ y
  · rw [decide_eq_true h, decide_eq_false (List.not_lt.2 h)]; rfl
  · rw [decide_eq_false h, decide_eq_true (List.not_le.1 h)]; rfl
theorem ltStr_tot : ∀ x y : List UInt8, Go.Sort.ltStr x y = false → Go.Sort.ltStr y x = false → x = y := fun x y h1 h2 => by
  simp only [Go.Sort.ltStr, decide_eq_false_iff_not, List.not_lt] at h1 h2
  exact List.le_antisymm h2 h1
theorem sortS_str (d0 : Array (List UInt8)) (tl : List AV) (n : Nat) (hn : d0.size = n) (hsz : n ≤ 1000000) (s cap nx : Nat) :
    ECall Tryz.prog 41 [.hs (0, s) 0 n cap] ⟨rowH_str s d0 tl, [], nx, 1⟩ (fun r h' => ∃ nx' nn', h' = ⟨rowH_str s (sortBy Go.Sort.ltStr d0.toList).toArray tl, [], nx', nn'⟩) := by
  subst hn
  have h := ecall_sort1 (P := Tryz.prog) (enc := encStr) (d := d0) (d' := (sortBy Go.Sort.ltStr d0.toList).toArray) (tl := tl) (nm := 0) (s := s) (cap := cap) (nx := nx) (nn := 1) (f := 41) ⟨_, Tryz.func41, rfl, rfl⟩ (by simp [sortBy_length]) (fun w blk hH hb => by
    have k := AnyM.slices_Sort_string Tryz.laysM6 blk 0 cap d0.toList w hH hb (by simp; omega)
    rw [sort_str_eqK] at k
    exact k)
  exact h.mono fun r h' ⟨_, h2⟩ => ⟨nx, 1, h2⟩
theorem sort0_str (F : Nat → AV) : Tells Tryz.prog 41 [.os 1 0 F none] (.tup []) :=
  ecall_sort0 (nx := 0) ⟨_, Tryz.func41, rfl, rfl⟩ fun p cap w => AnyM.slices_Sort_string_none Tryz.laysM6 p cap w
def dec_str : Value → List UInt8
  | .string z => z.data.toList
  | _ => []
end Go.Proofs.W

namespace Go.Proofs.W
open Go.Vl
set_option maxRecDepth 100000

abbrev Seen := List (Int × Int)
def numsR (r : TRow) (S : Seen) : Nat → Option Seen
  | 0 => some S
  | k + 1 => match numsR r S k with
    | none => none
    | some S => if r.num k = -1 then some S else if ((k : Int), r.num k) ∈ S then none else some (S ++ [((k : Int), r.num k)])
def muxR (r : TRow) (S : Seen) : Option Seen := if r.mux = 0 then some S else if (5 + r.mux, r.sub) ∈ S then none else some (S ++ [(5 + r.mux, r.sub)])
def leB (s t : ByteArray) : Bool := Op.bytesLess s.toList t.toList || s.toList == t.toList
def rowE (l : List TRow) (i : Nat) (S : Seen) : Except Int Seen :=
  if nameB (l.getD i trow0).name.data.toList = false then .error 13
  else if 0 < i ∧ leB (l.getD i trow0).name (l.getD (i - 1) trow0).name = true then .error 15
  else if rangedR (l.getD i trow0) = false then .error 16
  else if (l.getD i trow0).a2 = 102 ∨ (l.getD i trow0).a2 = 117 then .error 17
  else match numsR (l.getD i trow0) S 5 with
    | none => .error 15
    | some S => match muxR (l.getD i trow0) S with
      | none => .error 15
      | some S => .ok S
def rowsS (l : List TRow) : Nat → Except (Nat × Int) Seen
  | 0 => .ok []
  | k + 1 => match rowsS l k with
    | .error e => .error e
    | .ok S => match rowE l k S with
      | .error e => .error (k, e)
      | .ok S => .ok S
def tabR (l : List TRow) : Int × Int := if 400 < l.length then (0, 3) else match rowsS l l.length with
  | .error e => ((e.1 : Int), e.2)
  | .ok _ => (0, 0)
theorem rowsS_err {l : List TRow} {k : Nat} {e : Nat × Int} (h : rowsS l k = .error e) : ∀ {m : Nat}, k ≤ m → rowsS l m = .error e := by
  intro m hm
  induction m with
  | zero => obtain rfl : k = 0 := by omega
            exact h
  | succ m ih =>
    rcases Nat.lt_or_ge m k with q | q
    · rw [show m + 1 = k by omega]; exact h
    · unfold rowsS; rw [ih q]
theorem tab_err {l : List TRow} {i : Nat} {S : Seen} {e : Int} (hl : ¬ 400 < l.length) (hi : i < l.length) (h : rowsS l i = .ok S) (he : rowE l i S = .error e) : tabR l = ((i : Int), e) := by
  have h1 : rowsS l (i + 1) = .error (i, e) := by unfold rowsS; rw [h]; dsimp only; rw [he]
  unfold tabR
  rw [if_neg hl, rowsS_err h1 hi]
theorem tab_ok {l : List TRow} {S : Seen} (hl : ¬ 400 < l.length) (h : rowsS l l.length = .ok S) : tabR l = (0, 0) := by
  unfold tabR
  rw [if_neg hl, h]
theorem rows_next {l : List TRow} {i : Nat} {S S' : Seen} (h : rowsS l i = .ok S) (he : rowE l i S = .ok S') : rowsS l (i + 1) = .ok S' := by
  unfold rowsS; rw [h]; dsimp only; rw [he]
theorem nums_skip {r : TRow} {S S' : Seen} {k : Nat} (h : numsR r S k = some S') (hn : r.num k = -1) : numsR r S (k + 1) = some S' := by
  unfold numsR; rw [h]; dsimp only; rw [if_pos hn]
theorem nums_in {r : TRow} {S S' : Seen} {k : Nat} (h : numsR r S k = some S') (hn : ¬ r.num k = -1) (hm : ((k : Int), r.num k) ∈ S') : numsR r S (k + 1) = none := by
  unfold numsR; rw [h]; dsimp only; rw [if_neg hn, if_pos hm]
theorem nums_new {r : TRow} {S S' : Seen} {k : Nat} (h : numsR r S k = some S') (hn : ¬ r.num k = -1) (hm : ¬ ((k : Int), r.num k) ∈ S') : numsR r S (k + 1) = some (addA ((k : Int), r.num k) S') := by
  unfold numsR addA; rw [h]; dsimp only; rw [if_neg hn, if_neg hm, if_neg hm]
theorem nums_none {r : TRow} {S : Seen} {k : Nat} (h : numsR r S k = none) : ∀ {m : Nat}, k ≤ m → numsR r S m = none := by
  intro m hm
  induction m with
  | zero => obtain rfl : k = 0 := by omega
            exact h
  | succ m ih =>
    rcases Nat.lt_or_ge m k with q | q
    · rw [show m + 1 = k by omega]; exact h
    · unfold numsR; rw [ih q]
def ordB (l : List TRow) (i : Nat) : Bool := decide (0 < i) && leB (l.getD i trow0).name (l.getD (i - 1) trow0).name
theorem ord_iff {l : List TRow} {i : Nat} : ordB l i = true ↔ 0 < i ∧ leB (l.getD i trow0).name (l.getD (i - 1) trow0).name = true := by unfold ordB; simp
theorem rowE_13 {l : List TRow} {i : Nat} {S : Seen} (h : nameB (l.getD i trow0).name.data.toList = false) : rowE l i S = .error 13 := if_pos h
theorem rowE_15 {l : List TRow} {i : Nat} {S : Seen} (h : nameB (l.getD i trow0).name.data.toList = true) (h2 : ordB l i = true) : rowE l i S = .error 15 := by
  unfold rowE; rw [if_neg (by rw [h]; decide), if_pos (ord_iff.1 h2)]
theorem rowE_16 {l : List TRow} {i : Nat} {S : Seen} (h : nameB (l.getD i trow0).name.data.toList = true) (h2 : ordB l i = false) (h3 : rangedR (l.getD i trow0) = false) : rowE l i S = .error 16 := by
  unfold rowE; rw [if_neg (by rw [h]; decide), if_neg (by rw [← ord_iff, h2]; decide), if_pos h3]
theorem rowE_17 {l : List TRow} {i : Nat} {S : Seen} (h : nameB (l.getD i trow0).name.data.toList = true) (h2 : ordB l i = false) (h3 : rangedR (l.getD i trow0) = true) (h4 : (l.getD i trow0).a2 = 102 ∨ (l.getD i trow0).a2 = 117) : rowE l i S = .error 17 := by
  unfold rowE; rw [if_neg (by rw [h]; decide), if_neg (by rw [← ord_iff, h2]; decide), if_neg (by rw [h3]; decide), if_pos h4]
theorem rowE_rest {l : List TRow} {i : Nat} {S : Seen} (h : nameB (l.getD i trow0).name.data.toList = true) (h2 : ordB l i = false) (h3 : rangedR (l.getD i trow0) = true) (h4 : ¬ ((l.getD i trow0).a2 = 102 ∨ (l.getD i trow0).a2 = 117)) : rowE l i S = match numsR (l.getD i trow0) S 5 with
    | none => .error 15
    | some S => match muxR (l.getD i trow0) S with
      | none => .error 15
      | some S => .ok S := by
  unfold rowE; rw [if_neg (by rw [h]; decide), if_neg (by rw [← ord_iff, h2]; decide), if_neg (by rw [h3]; decide), if_neg h4]
theorem ranged_mux {r : TRow} (h : rangedR r = true) (h0 : ¬ r.mux = 0) : r.mux = 1 ∨ r.mux = 2 := by
  unfold rangedR at h
  rw [if_neg h0] at h
  simp only [Bool.and_eq_true, Bool.or_eq_true, decide_eq_true_eq] at h
  exact h.2.1.1
set_option maxHeartbeats 4000000 in
theorem tabright_spec (l : List TRow) (hl : l.length ≤ 1000000) (hn : ∀ r ∈ l, r.name.size ≤ maxLen) : Tells Tryz.prog 15 [trows l] (.tup [int (tabR l).1, int (tabR l).2]) := by
  refine tells_of_aw Tryz.func15 rfl rfl fun nx => ?_
  refine stp ?_
  intro c g4; cases c
  rotate_left
  · have g4 : 400 < l.length := by have := yes_of g4; omega
    have e : tabR l = (0, 3) := by unfold tabR; rw [if_pos g4]
    rw [e]
    refine stp ?_
    exact ret_tells rfl (AVle.refl _)
  have g4 : ¬ 400 < l.length := by have := not_of g4; omega
  refine stp ?_
  refine aw_loop (fun y : Nat × Seen × Nat => mk 88 [(0, trows l), (2, int 0), (3, int 0), (4, .om (0, nx)), (14, trows l), (15, int l.length), (16, int y.1)] ⟨[((0, nx), .mp (y.2.1.map entA))], [], y.2.2, 1⟩) (fun y => y.1 ≤ l.length ∧ rowsS l y.1 = .ok y.2.1) (fun y => l.length - y.1) ?_ ?_
  · exact ⟨(0, [], nx + 1), ⟨Nat.zero_le _, rfl⟩, ele_tell _ _ rfl rfl (List.Sublist.refl _) (List.Sublist.refl _) (BxLe.refl _) trivial ⟨AVle.refl _, AVle.refl _, AVle.refl _, AVle.refl _, AVle.refl _, AVle.refl _, AVle.refl _, trivial⟩⟩
  · rintro ⟨i, S, nx1⟩ ⟨h1, h2⟩
    dsimp only at h1 h2
    refine stp ?_
    intro c g; cases c
    · have g := not_of g
      try dsimp only at g
      have hi : i = l.length := by omega
      subst hi
      rw [tab_ok g4 h2]
      refine stp ?_
      exact ret_tells rfl (AVle.refl _)
    · have g := yes_of g
      try dsimp only at g
      have hi : i < l.length := by omega
      have hmem : l.getD i trow0 ∈ l := by simp [List.getD, hi]
      have hnm := named_spec (l.getD i trow0).name (Nat.le_trans (hn _ hmem) (by decide))
      have hrg := ranged_spec (l.getD i trow0)
      have herr := fun e => tab_err (e := e) g4 hi h2
      have hnext := fun S' => rows_next (S' := S') h2
      refine stp ?_
      refine ⟨⟨by first | omega | (dsimp only; omega), by first | omega | (dsimp only; omega)⟩, ?_⟩
      refine stp ?_
      cases hb : nameB (l.getD i trow0).name.data.toList with
      | false =>
        rw [hb] at hnm
        refine aop_tells rfl rfl hnm ⟨AVle.refl _, trivial⟩ fun nx2 => ?_
        refine stp ?_
        rw [herr 13 (rowE_13 hb)]
        exact ret_tells rfl (AVle.refl _)
      | true =>
        rw [hb] at hnm
        refine aop_tells rfl rfl hnm ⟨AVle.refl _, trivial⟩ fun nx2 => ?_
        refine stp ?_
        refine aw_mid (fun y : Nat => mk 88 [(0, trows l), (2, int 0), (3, int 0), (4, .om (0, nx)), (5, int i), (6, .bp (1, nx1) 0), (7, int (l.getD i trow0).a2), (14, trows l), (15, int l.length), (16, int i), (30, boolA (ordB l i))] ⟨[((1, nx1), .c (trowC (l.getD i trow0))), ((0, nx), .mp (S.map entA))], [], y, 2⟩) (fun _ => True) ?_ ?_
        · by_cases h0 : 0 < i
          · have hd : decide ((i : Int) > 0) = true := decide_eq_true (by omega)
            have hi1 : IntKind.i64.wrap ((i : Int) - 1) = ((i - 1 : Nat) : Int) := by rw [wrap_id (by omega) (by omega)]; omega
            (refine aw_draw 13 ?_ ?_ ?_ ?_; (· kernel_rfl); (· kernel_rfl); (· kernel_rfl))
            refine stp ?_
            (conv => whnf)
            refine lit_eq hd ?_
            refine stp ?_
            refine ⟨⟨ixge (i := i - 1) hi1, ixlt (i := i - 1) hi1 (by omega)⟩, splitO_eq (b := .rp (trowC (l.getD (i - 1) trow0))) (congrArg (fun z : Int => AV.rp (trowC (l.getD z.toNat trow0))) hi1) ?_⟩
            refine stp ?_
            intro c hc
            have hc2 : c = ordB l i := hc.trans (by unfold ordB; rw [decide_eq_true h0, Bool.true_and]; rfl)
            clear hc
            rw [← hc2]
            clear hc2
            cases c
            all_goals
              refine stp ?_
              exact ⟨nx2, trivial, ele_tell _ _ rfl rfl (List.Sublist.refl _) (List.Sublist.refl _) (BxLe.refl _) trivial ⟨AVle.refl _, AVle.refl _, AVle.refl _, AVle.refl _, AVle.refl _, AVle.refl _, AVle.refl _, AVle.refl _, AVle.refl _, AVle.refl _, AVle.refl _, trivial⟩⟩
          · have hd : decide ((i : Int) > 0) = false := decide_eq_false (by omega)
            have hq : ordB l i = false := by unfold ordB; rw [decide_eq_false h0]; rfl
            rw [hq]
            (refine aw_draw 13 ?_ ?_ ?_ ?_; (· kernel_rfl); (· kernel_rfl); (· kernel_rfl))
            refine stp ?_
            (conv => whnf)
            refine lit_eq hd ?_
            refine stp ?_
            exact ⟨nx2, trivial, ele_tell _ _ rfl rfl (List.Sublist.refl _) (List.Sublist.refl _) (BxLe.refl _) trivial ⟨AVle.refl _, AVle.refl _, AVle.refl _, AVle.refl _, AVle.refl _, AVle.refl _, AVle.refl _, AVle.refl _, AVle.refl _, AVle.refl _, AVle.refl _, trivial⟩⟩
        · rintro nx3 -
          cases hq : ordB l i with
          | true =>
            refine stp ?_
            rw [herr 15 (rowE_15 hb hq)]
            exact ret_tells rfl (AVle.refl _)
          | false =>
            refine stp ?_
            refine splitO_eq (b := trowA (l.getD i trow0)) rfl ?_
            refine stp ?_
            cases hr : rangedR (l.getD i trow0) with
            | false =>
              rw [hr] at hrg
              refine aop_tells rfl rfl hrg ⟨AVle.refl _, trivial⟩ fun nx4 => ?_
              refine stp ?_
              rw [herr 16 (rowE_16 hb hq hr)]
              exact ret_tells rfl (AVle.refl _)
            | true =>
              rw [hr] at hrg
              refine aop_tells rfl rfl hrg ⟨AVle.refl _, trivial⟩ fun nx4 => ?_
              refine stp ?_
              intro c t1; cases c
              rotate_left
              · have t1 : (l.getD i trow0).a2 = 102 := by simpa using t1.symm
                refine stp ?_
                rw [herr 17 (rowE_17 hb hq hr (.inl t1))]
                exact ret_tells rfl (AVle.refl _)
              have t1 : ¬ (l.getD i trow0).a2 = 102 := by simpa using t1.symm
              refine stp ?_
              intro c t2; cases c
              rotate_left
              · have t2 : (l.getD i trow0).a2 = 117 := by simpa using t2.symm
                refine stp ?_
                rw [herr 17 (rowE_17 hb hq hr (.inr t2))]
                exact ret_tells rfl (AVle.refl _)
              have t2 : ¬ (l.getD i trow0).a2 = 117 := by simpa using t2.symm
              have hrest := rowE_rest (S := S) hb hq hr (fun h => h.elim t1 t2)
              refine stp ?_
              refine aw_midB (fun y : Seen × Nat => mk 88 [(0, trows l), (2, int 0), (3, int 0), (4, .om (0, nx)), (5, int i), (6, .bp (1, nx1) 0), (14, trows l), (15, int l.length), (16, int i)] ⟨[((1, nx1), .c (trowC (l.getD i trow0))), ((0, nx), .mp (y.1.map entA))], [], y.2, 2⟩) (fun y => numsR (l.getD i trow0) S 5 = some y.1) ?_ ?_
              · refine aw_loop (fun y : Nat × Seen × Nat => mk 88 [(0, trows l), (2, int 0), (3, int 0), (4, .om (0, nx)), (5, int i), (6, .bp (1, nx1) 0), (14, trows l), (15, int l.length), (16, int i), (59, arr5 (l.getD i trow0)), (60, int y.1)] ⟨[((1, nx1), .c (trowC (l.getD i trow0))), ((0, nx), .mp (y.2.1.map entA))], [], y.2.2, 2⟩) (fun y => y.1 ≤ 5 ∧ numsR (l.getD i trow0) S y.1 = some y.2.1) (fun y => 5 - y.1) ?_ ?_
                · exact ⟨(0, S, nx4), ⟨Nat.zero_le _, rfl⟩, ele_tell _ _ rfl rfl (List.Sublist.refl _) (List.Sublist.refl _) (BxLe.refl _) trivial ⟨AVle.refl _, AVle.refl _, AVle.refl _, AVle.refl _, AVle.refl _, AVle.refl _, AVle.refl _, AVle.refl _, AVle.refl _, AVle.refl _, AVle.refl _, trivial⟩⟩
                · rintro ⟨k, S', nx5⟩ ⟨hk, hS⟩
                  dsimp only at hk hS
                  rcases k with _ | _ | _ | _ | _ | _ | k
                  · refine stp ?_
                    intro c t; cases c
                    · have t : (l.getD i trow0).num 0 = -1 := by show (l.getD i trow0).a0 = -1; simpa using t.symm
                      refine stp ?_
                      exact back (0 + 1, S', nx5) ⟨by dsimp only; omega, nums_skip hS t⟩ (by dsimp only; omega) (ele_tell _ _ rfl rfl (List.Sublist.refl _) (List.Sublist.refl _) (BxLe.refl _) trivial ⟨AVle.refl _, AVle.refl _, AVle.refl _, AVle.refl _, AVle.refl _, AVle.refl _, AVle.refl _, AVle.refl _, AVle.refl _, AVle.refl _, AVle.refl _, trivial⟩)
                    · have t : ¬ (l.getD i trow0).num 0 = -1 := by show ¬ (l.getD i trow0).a0 = -1; simpa using t.symm
                      refine stp ?_
                      refine aop_callF (xs := [.om (0, nx), int ((0 : Nat) : Int), int ((l.getD i trow0).num 0)]) [((1, nx1), .c (trowC (l.getD i trow0)))] [] 2 rfl rfl rfl rfl ⟨AVle.refl _, AVle.refl _, AVle.refl _, trivial⟩ (met_spec nx nx5 0 S' ((0 : Nat) : Int) ((l.getD i trow0).num 0)) (BxLe.refl _) (PmEq.refl _) rfl fun r h' hq2 => ?_
                      obtain ⟨nx6, nn6, rfl, rfl⟩ := hq2
                      by_cases hm : (((0 : Nat) : Int), (l.getD i trow0).num 0) ∈ S'
                      · have hnone := nums_none (nums_in hS t hm) (show 0 + 1 ≤ 5 by decide)
                        rw [hnone] at hrest
                        rw [decide_eq_true hm]
                        refine stp ?_
                        rw [herr 15 hrest]
                        exact ret_tells rfl (AVle.refl _)
                      · have hnew := nums_new hS t hm
                        rw [decide_eq_false hm]
                        refine stp ?_
                        exact back (0 + 1, addA (((0 : Nat) : Int), (l.getD i trow0).num 0) S', nx6) ⟨by dsimp only; omega, hnew⟩ (by dsimp only; omega) (ele_tell _ _ rfl rfl (List.Sublist.refl _) (List.Sublist.refl _) (BxLe.refl _) trivial ⟨AVle.refl _, AVle.refl _, AVle.refl _, AVle.refl _, AVle.refl _, AVle.refl _, AVle.refl _, AVle.refl _, AVle.refl _, AVle.refl _, AVle.refl _, trivial⟩)
                  · refine stp ?_
                    intro c t; cases c
                    · have t : (l.getD i trow0).num 1 = -1 := by show (l.getD i trow0).a1 = -1; simpa using t.symm
                      refine stp ?_
                      exact back (1 + 1, S', nx5) ⟨by dsimp only; omega, nums_skip hS t⟩ (by dsimp only; omega) (ele_tell _ _ rfl rfl (List.Sublist.refl _) (List.Sublist.refl _) (BxLe.refl _) trivial ⟨AVle.refl _, AVle.refl _, AVle.refl _, AVle.refl _, AVle.refl _, AVle.refl _, AVle.refl _, AVle.refl _, AVle.refl _, AVle.refl _, AVle.refl _, trivial⟩)
                    · have t : ¬ (l.getD i trow0).num 1 = -1 := by show ¬ (l.getD i trow0).a1 = -1; simpa using t.symm
                      refine stp ?_
                      refine aop_callF (xs := [.om (0, nx), int ((1 : Nat) : Int), int ((l.getD i trow0).num 1)]) [((1, nx1), .c (trowC (l.getD i trow0)))] [] 2 rfl rfl rfl rfl ⟨AVle.refl _, AVle.refl _, AVle.refl _, trivial⟩ (met_spec nx nx5 0 S' ((1 : Nat) : Int) ((l.getD i trow0).num 1)) (BxLe.refl _) (PmEq.refl _) rfl fun r h' hq2 => ?_
                      obtain ⟨nx6, nn6, rfl, rfl⟩ := hq2
                      by_cases hm : (((1 : Nat) : Int), (l.getD i trow0).num 1) ∈ S'
                      · have hnone := nums_none (nums_in hS t hm) (show 1 + 1 ≤ 5 by decide)
                        rw [hnone] at hrest
                        rw [decide_eq_true hm]
                        refine stp ?_
                        rw [herr 15 hrest]
                        exact ret_tells rfl (AVle.refl _)
                      · have hnew := nums_new hS t hm
                        rw [decide_eq_false hm]
                        refine stp ?_
                        exact back (1 + 1, addA (((1 : Nat) : Int), (l.getD i trow0).num 1) S', nx6) ⟨by dsimp only; omega, hnew⟩ (by dsimp only; omega) (ele_tell _ _ rfl rfl (List.Sublist.refl _) (List.Sublist.refl _) (BxLe.refl _) trivial ⟨AVle.refl _, AVle.refl _, AVle.refl _, AVle.refl _, AVle.refl _, AVle.refl _, AVle.refl _, AVle.refl _, AVle.refl _, AVle.refl _, AVle.refl _, trivial⟩)
                  · refine stp ?_
                    intro c t; cases c
                    · have t : (l.getD i trow0).num 2 = -1 := by show (l.getD i trow0).a2 = -1; simpa using t.symm
                      refine stp ?_
                      exact back (2 + 1, S', nx5) ⟨by dsimp only; omega, nums_skip hS t⟩ (by dsimp only; omega) (ele_tell _ _ rfl rfl (List.Sublist.refl _) (List.Sublist.refl _) (BxLe.refl _) trivial ⟨AVle.refl _, AVle.refl _, AVle.refl _, AVle.refl _, AVle.refl _, AVle.refl _, AVle.refl _, AVle.refl _, AVle.refl _, AVle.refl _, AVle.refl _, trivial⟩)
                    · have t : ¬ (l.getD i trow0).num 2 = -1 := by show ¬ (l.getD i trow0).a2 = -1; simpa using t.symm
                      refine stp ?_
                      refine aop_callF (xs := [.om (0, nx), int ((2 : Nat) : Int), int ((l.getD i trow0).num 2)]) [((1, nx1), .c (trowC (l.getD i trow0)))] [] 2 rfl rfl rfl rfl ⟨AVle.refl _, AVle.refl _, AVle.refl _, trivial⟩ (met_spec nx nx5 0 S' ((2 : Nat) : Int) ((l.getD i trow0).num 2)) (BxLe.refl _) (PmEq.refl _) rfl fun r h' hq2 => ?_
                      obtain ⟨nx6, nn6, rfl, rfl⟩ := hq2
                      by_cases hm : (((2 : Nat) : Int), (l.getD i trow0).num 2) ∈ S'
                      · have hnone := nums_none (nums_in hS t hm) (show 2 + 1 ≤ 5 by decide)
                        rw [hnone] at hrest
                        rw [decide_eq_true hm]
                        refine stp ?_
                        rw [herr 15 hrest]
                        exact ret_tells rfl (AVle.refl _)
                      · have hnew := nums_new hS t hm
                        rw [decide_eq_false hm]
                        refine stp ?_
                        exact back (2 + 1, addA (((2 : Nat) : Int), (l.getD i trow0).num 2) S', nx6) ⟨by dsimp only; omega, hnew⟩ (by dsimp only; omega) (ele_tell _ _ rfl rfl (List.Sublist.refl _) (List.Sublist.refl _) (BxLe.refl _) trivial ⟨AVle.refl _, AVle.refl _, AVle.refl _, AVle.refl _, AVle.refl _, AVle.refl _, AVle.refl _, AVle.refl _, AVle.refl _, AVle.refl _, AVle.refl _, trivial⟩)
                  · refine stp ?_
                    intro c t; cases c
                    · have t : (l.getD i trow0).num 3 = -1 := by show (l.getD i trow0).a3 = -1; simpa using t.symm
                      refine stp ?_
                      exact back (3 + 1, S', nx5) ⟨by dsimp only; omega, nums_skip hS t⟩ (by dsimp only; omega) (ele_tell _ _ rfl rfl (List.Sublist.refl _) (List.Sublist.refl _) (BxLe.refl _) trivial ⟨AVle.refl _, AVle.refl _, AVle.refl _, AVle.refl _, AVle.refl _, AVle.refl _, AVle.refl _, AVle.refl _, AVle.refl _, AVle.refl _, AVle.refl _, trivial⟩)
                    · have t : ¬ (l.getD i trow0).num 3 = -1 := by show ¬ (l.getD i trow0).a3 = -1; simpa using t.symm
                      refine stp ?_
                      refine aop_callF (xs := [.om (0, nx), int ((3 : Nat) : Int), int ((l.getD i trow0).num 3)]) [((1, nx1), .c (trowC (l.getD i trow0)))] [] 2 rfl rfl rfl rfl ⟨AVle.refl _, AVle.refl _, AVle.refl _, trivial⟩ (met_spec nx nx5 0 S' ((3 : Nat) : Int) ((l.getD i trow0).num 3)) (BxLe.refl _) (PmEq.refl _) rfl fun r h' hq2 => ?_
                      obtain ⟨nx6, nn6, rfl, rfl⟩ := hq2
                      by_cases hm : (((3 : Nat) : Int), (l.getD i trow0).num 3) ∈ S'
                      · have hnone := nums_none (nums_in hS t hm) (show 3 + 1 ≤ 5 by decide)
                        rw [hnone] at hrest
                        rw [decide_eq_true hm]
                        refine stp ?_
                        rw [herr 15 hrest]
                        exact ret_tells rfl (AVle.refl _)
                      · have hnew := nums_new hS t hm
                        rw [decide_eq_false hm]
                        refine stp ?_
                        exact back (3 + 1, addA (((3 : Nat) : Int), (l.getD i trow0).num 3) S', nx6) ⟨by dsimp only; omega, hnew⟩ (by dsimp only; omega) (ele_tell _ _ rfl rfl (List.Sublist.refl _) (List.Sublist.refl _) (BxLe.refl _) trivial ⟨AVle.refl _, AVle.refl _, AVle.refl _, AVle.refl _, AVle.refl _, AVle.refl _, AVle.refl _, AVle.refl _, AVle.refl _, AVle.refl _, AVle.refl _, trivial⟩)
                  · refine stp ?_
                    intro c t; cases c
                    · have t : (l.getD i trow0).num 4 = -1 := by show (l.getD i trow0).a4 = -1; simpa using t.symm
                      refine stp ?_
                      exact back (4 + 1, S', nx5) ⟨by dsimp only; omega, nums_skip hS t⟩ (by dsimp only; omega) (ele_tell _ _ rfl rfl (List.Sublist.refl _) (List.Sublist.refl _) (BxLe.refl _) trivial ⟨AVle.refl _, AVle.refl _, AVle.refl _, AVle.refl _, AVle.refl _, AVle.refl _, AVle.refl _, AVle.refl _, AVle.refl _, AVle.refl _, AVle.refl _, trivial⟩)
                    · have t : ¬ (l.getD i trow0).num 4 = -1 := by show ¬ (l.getD i trow0).a4 = -1; simpa using t.symm
                      refine stp ?_
                      refine aop_callF (xs := [.om (0, nx), int ((4 : Nat) : Int), int ((l.getD i trow0).num 4)]) [((1, nx1), .c (trowC (l.getD i trow0)))] [] 2 rfl rfl rfl rfl ⟨AVle.refl _, AVle.refl _, AVle.refl _, trivial⟩ (met_spec nx nx5 0 S' ((4 : Nat) : Int) ((l.getD i trow0).num 4)) (BxLe.refl _) (PmEq.refl _) rfl fun r h' hq2 => ?_
                      obtain ⟨nx6, nn6, rfl, rfl⟩ := hq2
                      by_cases hm : (((4 : Nat) : Int), (l.getD i trow0).num 4) ∈ S'
                      · have hnone := nums_none (nums_in hS t hm) (show 4 + 1 ≤ 5 by decide)
                        rw [hnone] at hrest
                        rw [decide_eq_true hm]
                        refine stp ?_
                        rw [herr 15 hrest]
                        exact ret_tells rfl (AVle.refl _)
                      · have hnew := nums_new hS t hm
                        rw [decide_eq_false hm]
                        refine stp ?_
                        exact back (4 + 1, addA (((4 : Nat) : Int), (l.getD i trow0).num 4) S', nx6) ⟨by dsimp only; omega, hnew⟩ (by dsimp only; omega) (ele_tell _ _ rfl rfl (List.Sublist.refl _) (List.Sublist.refl _) (BxLe.refl _) trivial ⟨AVle.refl _, AVle.refl _, AVle.refl _, AVle.refl _, AVle.refl _, AVle.refl _, AVle.refl _, AVle.refl _, AVle.refl _, AVle.refl _, AVle.refl _, trivial⟩)
                  · refine stp ?_
                    exact ⟨(S', nx5), hS, ele_tell _ _ rfl rfl (List.Sublist.refl _) (List.Sublist.refl _) (BxLe.refl _) trivial ⟨AVle.refl _, AVle.refl _, AVle.refl _, AVle.refl _, AVle.refl _, AVle.refl _, AVle.refl _, AVle.refl _, AVle.refl _, trivial⟩⟩
                  · omega
              · rintro ⟨S5, nx5⟩ hS
                dsimp only at hS
                refine stp ?_
                intro c t; cases c
                · have t : (l.getD i trow0).mux = 0 := by simpa using t.symm
                  have hmx : muxR (l.getD i trow0) S5 = some S5 := if_pos t
                  rw [hS] at hrest
                  dsimp only at hrest
                  rw [hmx] at hrest
                  have h3 := hnext S5 hrest
                  refine stp ?_
                  exact back (i + 1, S5, nx5) ⟨hi, h3⟩ (by dsimp only; omega) (ele_tell _ _ rfl rfl (.cons _ (List.Sublist.refl _)) (List.Sublist.refl _) (BxLe.refl _) trivial ⟨AVle.refl _, AVle.refl _, AVle.refl _, AVle.refl _, AVle.refl _, AVle.refl _, le_int (wrap_succ (by first | omega | (dsimp only; omega))), trivial⟩)
                · have t : ¬ (l.getD i trow0).mux = 0 := by simpa using t.symm
                  have h12 := ranged_mux hr t
                  have hw : IntKind.i64.wrap (5 + (l.getD i trow0).mux) = 5 + (l.getD i trow0).mux := wrap_id (by omega) (by omega)
                  refine stp ?_
                  refine aop_callF (xs := [.om (0, nx), int (5 + (l.getD i trow0).mux), int (l.getD i trow0).sub]) [((1, nx1), .c (trowC (l.getD i trow0)))] [] 2 rfl rfl rfl rfl ⟨AVle.refl _, le_int hw, AVle.refl _, trivial⟩ (met_spec nx nx5 0 S5 (5 + (l.getD i trow0).mux) (l.getD i trow0).sub) (BxLe.refl _) (PmEq.refl _) rfl fun r h' hq2 => ?_
                  obtain ⟨nx6, nn6, rfl, rfl⟩ := hq2
                  rw [hS] at hrest
                  dsimp only at hrest
                  by_cases hm : (5 + (l.getD i trow0).mux, (l.getD i trow0).sub) ∈ S5
                  · have hmx : muxR (l.getD i trow0) S5 = none := by unfold muxR; rw [if_neg t, if_pos hm]
                    rw [hmx] at hrest
                    rw [decide_eq_true hm]
                    refine stp ?_
                    rw [herr 15 hrest]
                    exact ret_tells rfl (AVle.refl _)
                  · have hmx : muxR (l.getD i trow0) S5 = some (addA (5 + (l.getD i trow0).mux, (l.getD i trow0).sub) S5) := by unfold muxR addA; rw [if_neg t, if_neg hm, if_neg hm]
                    rw [hmx] at hrest
                    have h3 := hnext _ hrest
                    rw [decide_eq_false hm]
                    refine stp ?_
                    exact back (i + 1, addA (5 + (l.getD i trow0).mux, (l.getD i trow0).sub) S5, nx6) ⟨hi, h3⟩ (by dsimp only; omega) (ele_tell _ _ rfl rfl (.cons _ (List.Sublist.refl _)) (List.Sublist.refl _) (BxLe.refl _) trivial ⟨AVle.refl _, AVle.refl _, AVle.refl _, AVle.refl _, AVle.refl _, AVle.refl _, le_int (wrap_succ (by first | omega | (dsimp only; omega))), trivial⟩)
end Go.Proofs.W

namespace Go.Proofs
open Go.Shelf
shelf_lay Lays.n106 Nm 106 at Tryz as Tryz.lays106
end Go.Proofs
namespace Go.Proofs.W
open Go.Vl Go.Shelf
set_option maxRecDepth 100000

def cmpS (s t : ByteArray) : Int := Lib.compareBytes s.data.toList t.data.toList
theorem compare_spec (s t : ByteArray) : Tells Tryz.prog 38 [.v (.string s), .v (.string t)] (.v (.int .i64 (cmpS s t))) :=
  tells_of_calls (vs := [.string s, .string t]) ⟨_, Tryz.func38, rfl, rfl⟩ fun w => (Any.strings_Compare Tryz.lays106 s t w).mono fun e w' ⟨h1, h2⟩ => ⟨h1, by subst h2; exact ⟨rfl, rfl, rfl, Nat.le_refl _, fun _ _ => rfl⟩⟩
theorem find1_spec (r : TRow) (s : ByteArray) : Tells Tryz.prog 37 [trowA r, strA s] (int (cmpS r.name s)) := by
  refine tells_of_aw Tryz.func37 rfl rfl fun nx => ?_
  refine stp ?_
  refine aop_tells rfl rfl (compare_spec r.name s) ⟨AVle.refl _, AVle.refl _, trivial⟩ fun nx2 => ?_
  refine stp ?_
  exact ret_tells rfl (AVle.refl _)
def lowB (l : List TRow) (s : ByteArray) : Nat := (l.takeWhile fun r => decide (cmpS r.name s < 0)).length
theorem lowB_le (l : List TRow) (s : ByteArray) : lowB l s ≤ l.length := by
  unfold lowB
  have := congrArg List.length (List.takeWhile_append_dropWhile (p := fun r : TRow => decide (cmpS r.name s < 0)) (l := l))
  rw [List.length_append] at this
  omega
theorem lowB_lt {s : ByteArray} : ∀ {l : List TRow} {j : Nat}, j < lowB l s → cmpS (l.getD j trow0).name s < 0
  | [], j, h => by simp [lowB] at h
  | r :: l, j, h => by
    unfold lowB at h
    rw [List.takeWhile_cons] at h
    by_cases hc : cmpS r.name s < 0
    · rw [if_pos (by simpa using hc)] at h
      cases j with
      | zero => exact hc
      | succ j => exact lowB_lt (l := l) (j := j) (by unfold lowB; simp at h; omega)
    · rw [if_neg (by simpa using hc)] at h; simp at h
theorem lowB_at {s : ByteArray} : ∀ {l : List TRow}, lowB l s < l.length → ¬ cmpS (l.getD (lowB l s) trow0).name s < 0
  | [], h => by simp at h
  | r :: l, h => by
    by_cases hc : cmpS r.name s < 0
    · have e : lowB (r :: l) s = lowB l s + 1 := by unfold lowB; rw [List.takeWhile_cons, if_pos (by simpa using hc)]; rfl
      rw [e] at h ⊢
      exact lowB_at (l := l) (by simpa using h)
    · have e : lowB (r :: l) s = 0 := by unfold lowB; rw [List.takeWhile_cons, if_neg (by simpa using hc)]; rfl
      rw [e]; exact hc
def MonoT (l : List TRow) (s : ByteArray) : Prop := ∀ i j, i < j → j < l.length → cmpS (l.getD j trow0).name s < 0 → cmpS (l.getD i trow0).name s < 0
theorem lowB_ge {l : List TRow} {s : ByteArray} (hs : MonoT l s) {j : Nat} (h1 : lowB l s ≤ j) (h2 : j < l.length) : ¬ cmpS (l.getD j trow0).name s < 0 := fun h => by
  rcases Nat.lt_or_ge (lowB l s) j with q | q
  · exact lowB_at (by omega) (hs _ j q h2 h)
  · have e : lowB l s = j := by omega
    exact lowB_at (l := l) (s := s) (by omega) (by rw [e]; exact h)
def foundB (l : List TRow) (s : ByteArray) : Bool := decide (lowB l s < l.length) && decide (cmpS (l.getD (lowB l s) trow0).name s = 0)
theorem half_eq {a b : Nat} (h : a + b ≤ 4000000) : IntKind.i64.wrap ((IntKind.u64.wrap (IntKind.i64.wrap ((a : Int) + (b : Int)))).fdiv (2 ^ min (Int.toNat 1) IntKind.u64.bits)) = (((a + b) / 2 : Nat) : Int) := by
  rw [wrap_id (n := (a : Int) + (b : Int)) (by omega) (by omega)]
  have hu : IntKind.u64.wrap ((a : Int) + (b : Int)) = (a : Int) + (b : Int) := by
    show ((a : Int) + (b : Int)) % 18446744073709551616 = _
    omega
  rw [hu]
  have h2 : (2 : Int) ^ min (Int.toNat 1) IntKind.u64.bits = 2 := by decide
  rw [h2, Int.fdiv_eq_ediv_of_nonneg _ (by decide)]
  rw [wrap_id (by omega) (by omega)]
  omega
set_option maxHeartbeats 2000000 in
theorem bsearch_spec (l : List TRow) (s : ByteArray) (hl : l.length ≤ 1000000) (hs : MonoT l s) :
    Tells Tryz.prog 36 [trows l, strA s, fn0 37] (.tup [int (lowB l s), boolA (foundB l s)]) := by
  have hk := lowB_le l s
  have hlt := fun j => lowB_lt (l := l) (s := s) (j := j)
  have hge := fun j => lowB_ge (j := j) hs
  unfold foundB
  generalize lowB l s = k at hk hlt hge ⊢
  refine tells_of_aw Tryz.func36 rfl rfl fun nx => ?_
  refine stp ?_
  refine aw_loop (fun y : Nat × Nat × Nat => mk 49 [(0, trows l), (1, strA s), (2, fn0 37), (8, int l.length), (9, int y.1), (10, int y.2.1)] ⟨[], [], y.2.2, 0⟩) (fun y => y.1 ≤ k ∧ k ≤ y.2.1 ∧ y.2.1 ≤ l.length) (fun y => y.2.1 - y.1) ?_ ?_
  · exact ⟨(0, l.length, nx), ⟨Nat.zero_le _, hk, Nat.le_refl _⟩, ele_mk rfl rfl ⟨AVle.refl _, AVle.refl _, AVle.refl _, AVle.refl _, AVle.refl _, AVle.refl _, trivial⟩⟩
  · rintro ⟨lo, hi, nx1⟩ ⟨h1, h2, h3⟩
    dsimp only at h1 h2 h3
    refine stp ?_
    intro c g; cases c
    · have g := not_of g
      try dsimp only at g
      have e : lo = k := by omega
      subst e
      by_cases hkl : lo < l.length
      · have hf1 := find1_spec (l.getD lo trow0) s
        have hd : decide ((lo : Int) < (l.length : Int)) = true := decide_eq_true (by omega)
        refine stp ?_
        (conv => whnf)
        refine lit_eq hd ?_
        refine stp ?_
        refine ⟨⟨by first | omega | (dsimp only; omega), by first | omega | (dsimp only; omega)⟩, ?_⟩
        refine stp ?_
        refine aop_tells rfl rfl hf1 ⟨AVle.refl _, AVle.refl _, trivial⟩ fun nx2 => ?_
        intro c t; cases c
        all_goals
          refine stp ?_
          exact ret_tells rfl (AVle.tups (cs := [_, _]) ⟨AVle.refl _, le_bool (t.trans (by rw [decide_eq_true hkl, Bool.true_and, Bool.eq_iff_iff]; simp)), trivial⟩)
      · have hd : decide ((lo : Int) < (l.length : Int)) = false := decide_eq_false (by omega)
        rw [decide_eq_false hkl, Bool.false_and]
        refine stp ?_
        (conv => whnf)
        refine lit_eq hd ?_
        refine stp ?_
        exact ret_tells rfl (AVle.refl _)
    · have g := yes_of g
      try dsimp only at g
      have hm := half_eq (a := lo) (b := hi) (by omega)
      have hml : (lo + hi) / 2 < l.length := by omega
      have hf1 := find1_spec (l.getD ((lo + hi) / 2) trow0) s
      refine stp ?_
      refine ⟨⟨ixge (i := (lo + hi) / 2) hm, ixlt (i := (lo + hi) / 2) hm hml⟩, splitO_eq (b := .rp (trowC (l.getD ((lo + hi) / 2) trow0))) (congrArg (fun z : Int => AV.rp (trowC (l.getD z.toNat trow0))) hm) ?_⟩
      refine stp ?_
      refine aop_tells rfl rfl hf1 ⟨AVle.refl _, AVle.refl _, trivial⟩ fun nx2 => ?_
      refine stp ?_
      intro c gg; cases c
      · have gg : ¬ cmpS (l.getD ((lo + hi) / 2) trow0).name s < 0 := not_of gg
        have hkm : k ≤ (lo + hi) / 2 := by
          rcases Nat.lt_or_ge ((lo + hi) / 2) k with q | q
          · exact absurd (hlt _ q) gg
          · exact q
        refine stp ?_
        exact back (lo, (lo + hi) / 2, nx2) ⟨h1, hkm, by dsimp only; omega⟩ (by dsimp only; omega) (ele_mk rfl rfl ⟨AVle.refl _, AVle.refl _, AVle.refl _, AVle.refl _, AVle.refl _, le_int hm, trivial⟩)
      · have gg : cmpS (l.getD ((lo + hi) / 2) trow0).name s < 0 := yes_of gg
        have hkm : (lo + hi) / 2 + 1 ≤ k := by
          rcases Nat.lt_or_ge ((lo + hi) / 2) k with q | q
          · exact q
          · exact absurd gg (hge _ q hml)
        refine stp ?_
        exact back ((lo + hi) / 2 + 1, hi, nx2) ⟨hkm, h2, h3⟩ (by dsimp only; omega) (ele_mk rfl rfl ⟨AVle.refl _, AVle.refl _, AVle.refl _, AVle.refl _, le_int (by rw [hm]; exact wrap_succ (by omega)), AVle.refl _, trivial⟩)
def findA (l : List TRow) (s : ByteArray) : AV := if foundB l s then .tup [trowA (l.getD (lowB l s) trow0), int (lowB l s), boolA true] else .tup [trowA trow0, int 0, boolA false]
theorem tabfind_spec (l : List TRow) (s : ByteArray) (hl : l.length ≤ 1000000) (hs : MonoT l s) : Tells Tryz.prog 17 [trows l, strA s] (findA l s) := by
  have hb := bsearch_spec l s hl hs
  have hk : foundB l s = true → lowB l s < l.length := fun h => by unfold foundB at h; simp only [Bool.and_eq_true, decide_eq_true_eq] at h; exact h.1
  unfold findA
  generalize lowB l s = k at hb hk ⊢
  refine tells_of_aw Tryz.func17 rfl rfl fun nx => ?_
  cases hf : foundB l s with
  | true =>
    rw [hf] at hb hk
    have hk := hk rfl
    rw [if_pos rfl]
    refine stp ?_
    refine aop_tells rfl rfl hb ⟨AVle.refl _, AVle.refl _, AVle.refl _, trivial⟩ fun nx2 => ?_
    refine stp ?_
    refine ⟨⟨by first | omega | (dsimp only; omega), by first | omega | (dsimp only; omega)⟩, ?_⟩
    refine stp ?_
    exact ret_tells_all rfl ⟨rfl, trivial⟩ (AVle.refl _)
  | false =>
    rw [hf] at hb
    rw [if_neg (by decide)]
    refine stp ?_
    refine aop_tells rfl rfl hb ⟨AVle.refl _, AVle.refl _, AVle.refl _, trivial⟩ fun nx2 => ?_
    refine stp ?_
    exact ret_tells_all rfl ⟨rfl, trivial⟩ (AVle.refl _)
theorem cmpL_lt : ∀ {a b : List UInt8}, Lib.compareBytes a b < 0 ↔ a < b
  | [], [] => by simp [Lib.compareBytes]
  | [], b :: l => by simp [Lib.compareBytes]
  | a :: l, [] => by simp [Lib.compareBytes]
  | a :: l, b :: m => by
    have ih := cmpL_lt (a := l) (b := m)
    unfold Lib.compareBytes
    rw [List.cons_lt_cons_iff]
    split
    · rename_i h; simp [h]
    · rename_i h
      split
      · rename_i h2
        constructor
        · intro h3; exact absurd h3 (by decide)
        · rintro (h3 | ⟨h3, _⟩)
          · exact absurd h3 h
          · subst h3; exact absurd h2 h
      · rename_i h2
        rw [ih]
        constructor
        · intro h3; exact .inr ⟨UInt8.le_antisymm (UInt8.not_lt.1 h2) (UInt8.not_lt.1 h), h3⟩
        · rintro (h3 | ⟨_, h3⟩)
          · exact absurd h3 h
          · exact h3
theorem cmpL_eq0 : ∀ {a b : List UInt8}, Lib.compareBytes a b = 0 ↔ a = b
  | [], [] => by simp [Lib.compareBytes]
  | [], b :: l => by simp [Lib.compareBytes]
  | a :: l, [] => by simp [Lib.compareBytes]
  | a :: l, b :: m => by
    have ih := cmpL_eq0 (a := l) (b := m)
    unfold Lib.compareBytes
    split
    · rename_i h
      constructor
      · intro h3; exact absurd h3 (by decide)
      · intro h3; cases h3; exact absurd h (UInt8.lt_irrefl _)
    · rename_i h
      split
      · rename_i h2
        constructor
        · intro h3; exact absurd h3 (by decide)
        · intro h3; cases h3; exact absurd h2 (UInt8.lt_irrefl _)
      · rename_i h2
        rw [ih, List.cons.injEq]
        exact ⟨fun h3 => ⟨UInt8.le_antisymm (UInt8.not_lt.1 h2) (UInt8.not_lt.1 h), h3⟩, fun h3 => h3.2⟩
theorem data_inj' {s t : ByteArray} (h : s.data.toList = t.data.toList) : s = t := by
  obtain ⟨⟨l⟩⟩ := s; obtain ⟨⟨l'⟩⟩ := t
  exact congrArg (fun l => (⟨⟨l⟩⟩ : ByteArray)) h
theorem ltStr_tot' : ∀ x y : List UInt8, Go.Sort.ltStr x y = false → Go.Sort.ltStr y x = false → x = y := fun x y h1 h2 => by
  simp only [Go.Sort.ltStr, decide_eq_false_iff_not, List.not_lt] at h1 h2
  exact List.le_antisymm h2 h1
theorem cmpS_lt {s t : ByteArray} : cmpS s t < 0 ↔ Go.Sort.ltStr s.data.toList t.data.toList = true := by
  unfold cmpS Go.Sort.ltStr; rw [cmpL_lt, decide_eq_true_iff]
theorem cmpS_eq {s t : ByteArray} : cmpS s t = 0 ↔ s = t := by
  unfold cmpS; rw [cmpL_eq0]
  exact ⟨data_inj', fun h => by rw [h]⟩
theorem leB_no {s t : ByteArray} (h : leB s t = false) : Go.Sort.ltStr t.data.toList s.data.toList = true := by
  unfold leB at h
  rw [Bool.or_eq_false_iff, Go.Proofs.bytesLess_eq, Lib.toList_data, Lib.toList_data] at h
  cases hl : Go.Sort.ltStr t.data.toList s.data.toList with
  | true => rfl
  | false =>
    have e := ltStr_tot' _ _ hl h.1
    rw [e] at h; simp at h
def sortedT (l : List TRow) : Prop := ∀ i j, i < j → j < l.length → Go.Sort.ltStr (l.getD i trow0).name.data.toList (l.getD j trow0).name.data.toList = true
theorem sorted_mono {l : List TRow} (h : sortedT l) (s : ByteArray) : MonoT l s := fun i j hij hj hc => by
  rw [cmpS_lt] at hc ⊢
  exact Go.Sort.swo_ltStr.trans _ _ _ (h i j hij hj) hc
end Go.Proofs.W

namespace Go.Proofs.W
open Go.Vl
set_option maxRecDepth 100000

theorem PmEq_refl3 : ∀ l : List (Vl.Id × Nat), PmEq l l
  | [] => trivial
  | p :: l => ⟨rfl, rfl, PmEq_refl3 l⟩
/-- The conditions of what was seen: those arguments that were alike. -/
def condK (a : Nat → Nat) (k : Nat) : Cnd := ⟨k, 1, 0, a k⟩
def condsL (a : Nat → Nat) (b : Nat → Bool) (n : Nat) : List Cnd := ((List.range n).filter b).map (condK a)
theorem condsL_succ {a : Nat → Nat} {b : Nat → Bool} {n : Nat} : condsL a b (n + 1) = if b n then condsL a b n ++ [condK a n] else condsL a b n := by
  unfold condsL
  rw [List.range_succ, List.filter_append]
  cases h : b n <;> simp [h]
theorem condsL_le {a : Nat → Nat} {b : Nat → Bool} {n : Nat} : (condsL a b n).length ≤ n := by
  unfold condsL
  rw [List.length_map]
  exact Nat.le_trans (List.length_filter_le _ _) (by simp)
theorem csnoc_get {l : List Cnd} {x : Cnd} {k : Nat} (h : k < l.length) : (l ++ [x]).getD k cnd0 = l.getD k cnd0 := by
  simp [List.getD, List.getElem?_append_left h]
theorem csnoc_last {l : List Cnd} {x : Cnd} : (l ++ [x]).getD l.length cnd0 = x := by simp [List.getD]
end Go.Proofs.W

namespace Go.Proofs.W
open Go.Vl
set_option maxRecDepth 100000

def rowOf (l : List TRow) (s : ByteArray) : TRow := if foundB l s then l.getD (lowB l s) trow0 else trow0
end Go.Proofs.W

namespace Go.Proofs.W
open Go.Vl
set_option maxRecDepth 100000

theorem addG_len (s : ByteArray) (x : Nat → Nat) : ∀ G : List Gat, (addG s x G).length ≤ G.length + 1
  | [] => Nat.le_refl _
  | g :: G => by
    unfold addG
    split
    · simp
    · have := addG_len s x G; simp only [List.length_cons]; omega
theorem noteG_m (g : Gat) (x : Nat → Nat) : (noteG g x).m = g.m + 1 := by
  unfold noteG; split
  · rename_i h; rw [h]
  · rfl
theorem noteG_name (g : Gat) (x : Nat → Nat) : (noteG g x).name = g.name := by unfold noteG; split <;> rfl
theorem addG_m {s : ByteArray} {x : Nat → Nat} {n : Nat} : ∀ {G : List Gat}, (∀ g ∈ G, g.m ≤ n) → ∀ g ∈ addG s x G, g.m ≤ n + 1
  | [], _, g, hg => by
    obtain rfl := List.mem_singleton.1 hg
    rw [noteG_m]; exact Nat.succ_le_succ (Nat.zero_le _)
  | y :: G, h, g, hg => by
    unfold addG at hg
    split at hg
    · rcases List.mem_cons.1 hg with rfl | hg
      · rw [noteG_m]; exact Nat.succ_le_succ (h y (.head _))
      · exact Nat.le_succ_of_le (h g (.tail _ hg))
    · rcases List.mem_cons.1 hg with rfl | hg
      · exact Nat.le_succ_of_le (h g (.head _))
      · exact addG_m (fun z hz => h z (.tail _ hz)) g hg
theorem gather_small (l : List TRow) : ∀ (rs : List Rec) (S : List Gat × Bool) (n : Nat), S.1.length ≤ n → (∀ g ∈ S.1, g.m ≤ n) → (rs.foldl (gatStep l) S).1.length ≤ n + rs.length ∧ ∀ g ∈ (rs.foldl (gatStep l) S).1, g.m ≤ n + rs.length
  | [], _, _, h1, h2 => ⟨h1, h2⟩
  | r :: rs, S, n, h1, h2 => by
    have ih := gather_small l rs (gatStep l S r) (n + 1) (by
      unfold gatStep; split
      · exact Nat.le_succ_of_le h1
      · exact Nat.le_trans (addG_len _ _ _) (Nat.succ_le_succ h1)) (fun g hg => by
      unfold gatStep at hg; split at hg
      · exact Nat.le_succ_of_le (h2 g hg)
      · exact addG_m h2 g hg)
    simp only [List.foldl_cons, List.length_cons]
    exact ⟨by omega, fun g hg => by have := ih.2 g hg; omega⟩
theorem gather_le (l : List TRow) (rs : List Rec) : (gather l rs).1.length ≤ rs.length ∧ ∀ g ∈ (gather l rs).1, g.m ≤ rs.length := by
  have := gather_small l rs ([], false) 0 (Nat.le_refl _) (by simp)
  simpa [gather] using this

structure Ct where
  name : ByteArray
  many : Nat
deriving DecidableEq
def ct0 : Ct := ⟨⟨#[]⟩, 0⟩
def ctA (c : Ct) : AV := .ag [strA c.name, int c.many]
def ctF (l : List Ct) (k : Nat) : AV := ctA (l.getD k ct0)
def cts (l : List Ct) : AV := slOf 2 ctA ct0 l
def gat0 : Gat := ⟨⟨#[]⟩, 0, fun _ => 0, fun _ => false⟩
def keysG (G : List Gat) : List (List UInt8) := sortBy Go.Sort.ltStr (G.map fun g => g.name.data.toList)
def gatOf (G : List Gat) (s : ByteArray) : Gat := (G.find? fun g => kS s g.name).getD gat0
def countsK (G : List Gat) (N : List (List UInt8)) : List Ct := N.map fun z => ⟨⟨z.toArray⟩, (gatOf G ⟨z.toArray⟩).m⟩
def countsL (G : List Gat) : List Ct := countsK G (keysG G)
theorem countsK_next {G : List Gat} {N : List (List UInt8)} {j : Nat} (h : j < N.length) : countsK G (N.take (j + 1)) = countsK G (N.take j) ++ [⟨⟨(N.getD j []).toArray⟩, (gatOf G ⟨(N.getD j []).toArray⟩).m⟩] := by
  unfold countsK
  rw [take_getD [] h, List.map_append]; rfl
theorem countsK_len {G : List Gat} {N : List (List UInt8)} {j : Nat} (h : j ≤ N.length) : (countsK G (N.take j)).length = j := by
  unfold countsK; rw [List.length_map, List.length_take, Nat.min_eq_left h]
theorem gatOf_at {s : ByteArray} {g : Gat} (hg : g.name = s) {G2 : List Gat} : ∀ {G1 : List Gat}, (∀ z ∈ G1, kS s z.name = false) → gatOf (G1 ++ g :: G2) s = g
  | [], _ => by
    unfold gatOf
    rw [List.nil_append, List.find?_cons, kS_eq.2 hg.symm]; rfl
  | y :: G1, h => by
    have ih := gatOf_at hg (G2 := G2) (G1 := G1) fun z hz => h z (.tail _ hz)
    unfold gatOf at ih ⊢
    rw [List.cons_append, List.find?_cons, h y (.head _)]
    exact ih
theorem sn_get {α : Type} {l : List α} {x d : α} {k : Nat} (h : k < l.length) : (l ++ [x]).getD k d = l.getD k d := by
  simp [List.getD, List.getElem?_append_left h]
theorem sn_last {α : Type} {l : List α} {x d : α} : (l ++ [x]).getD l.length d = x := by simp [List.getD]
end Go.Proofs.W

namespace Go.Proofs.W
open Go.Vl
set_option maxRecDepth 100000

def ruleL (l : List TRow) (near : Bool) (G : List Gat) (s : ByteArray) : Rul := ⟨s, (8, 0), if near && !decide ((rowOf l s).mux > 0) then condsL (gatOf G s).a (gatOf G s).b 6 else []⟩
def rulesK (l : List TRow) (near : Bool) (G : List Gat) (N : List (List UInt8)) : List Rul := N.map fun z => ruleL l near G ⟨z.toArray⟩
def learnP (l : List TRow) (a : A2) (near : Bool) (S : List Gat × Bool) : Pol := ⟨a, S.2, rulesK l near S.1 (keysG S.1)⟩
def lpol0 : Pol := ⟨(0, 0), false, []⟩
def polC2 (p : Pol) : List AV := [int p.dflt.1, int p.dflt.2, boolA p.x32, ruls p.rules]
def rulF2 (l : List Rul) (k : Nat) : AV := rulA (l.getD k rul0)
theorem rulesK_next {l : List TRow} {near : Bool} {G : List Gat} {N : List (List UInt8)} {j : Nat} (h : j < N.length) : rulesK l near G (N.take (j + 1)) = rulesK l near G (N.take j) ++ [ruleL l near G ⟨(N.getD j []).toArray⟩] := by
  unfold rulesK
  rw [take_getD [] h, List.map_append]; rfl
theorem rulesK_len {l : List TRow} {near : Bool} {G : List Gat} {N : List (List UInt8)} {j : Nat} (h : j ≤ N.length) : (rulesK l near G (N.take j)).length = j := by
  unfold rulesK; rw [List.length_map, List.length_take, Nat.min_eq_left h]
end Go.Proofs.W

namespace Go.Proofs.W
open Go.Vl
set_option maxRecDepth 100000

theorem bytes_rows : Tryz.prog.bytesOf 62 = 72 := by kernel_rfl
def fewB (l : List TRow) : Bool := decide (l.length ≤ 40) && !l.any fun r => decide (60 < r.name.size)
end Go.Proofs.W

namespace Go.Proofs.W
open Go.Vl
set_option maxRecDepth 100000

theorem noid_rul (r : Rul) : NoId (.ag [strA r.name, int r.act.1, int r.act.2, cnds r.conds]) := NoId.ag (by
  intro y hy
  simp only [List.mem_cons, List.not_mem_nil, or_false] at hy
  rcases hy with rfl | rfl | rfl | rfl
  · exact NoId.v _
  · exact NoId.v _
  · exact NoId.v _
  · refine NoId.sl fun i hi c hc => ?_
    simp only [cndA, AV.cells, List.mem_cons, List.not_mem_nil, or_false] at hc
    rcases hc with rfl | rfl | rfl | rfl <;> exact NoId.v _)
theorem bytes_cnd_l26 : Tryz.prog.bytesOf 51 = 32 := by kernel_rfl
theorem bytes_rul_l26 : Tryz.prog.bytesOf 47 = 56 := by kernel_rfl
end Go.Proofs.W

namespace Go.Proofs.W
open Go.Vl
set_option maxRecDepth 100000

theorem pnamed_spec (s : ByteArray) (hs : s.size ≤ 9223372036854775807) : Tells Tryz.prog 54 [strA s] (boolA (nameB s.data.toList)) := by
  have key : ∀ b, nameB s.data.toList = b → Tells Tryz.prog 54 [strA s] (boolA b) := fun b hb => by
    have hr := tabRight_row1 s hs b hb
    refine tells_of_aw Tryz.func54 rfl rfl fun nx => ?_
    refine stp ?_
    refine aop_tells rfl rfl hr ⟨?_, trivial⟩ fun nx1 => ?_
    · refine AVle.os_sl.trans (AVle.sl_fun fun k hk => ?_)
      match k, hk with
      | 0, _ => rfl
    cases b
    · refine stp ?_
      exact ret_tells rfl (AVle.refl _)
    · refine stp ?_
      exact ret_tells rfl (AVle.refl _)
  exact key _ rfl
theorem rright1_spec (c : Cnd) : Tells Tryz.prog 55 [cndA c] (boolA (!rightC c)) := by
  have key : ∀ b, rightC c = b → Tells Tryz.prog 55 [cndA c] (boolA (!b)) := fun b hb => by
    have hr := right_spec c
    rw [hb] at hr
    refine tells_of_aw Tryz.func55 rfl rfl fun nx => ?_
    refine stp ?_
    refine aop_tells rfl rfl hr ⟨AVle.refl _, trivial⟩ fun nx1 => ?_
    cases b
    · refine stp ?_
      exact ret_tells rfl (AVle.refl _)
    · refine stp ?_
      exact ret_tells rfl (AVle.refl _)
  exact key _ rfl
/-- Sizes that any machine has. -/
def Rul.ok (r : Rul) : Prop := r.name.size ≤ maxLen ∧ r.conds.length ≤ maxLen ∧ ∀ c ∈ r.conds, c.ok
def rightR (r : Rul) : Bool := nameB r.name.data.toList && (right9 r.act.1 r.act.2 && (decide (r.conds.length ≤ 6) && !(r.conds.any fun c => !rightC c)))
theorem rright_spec (r : Rul) (h1 : r.name.size ≤ 9223372036854775807) : Tells Tryz.prog 32 [rulA r] (boolA (rightR r)) := by
  have hn := pnamed_spec r.name h1
  have ha := f22_spec r.act.1 r.act.2
  have hc : r.conds.length ≤ 1000000000 → Tells Tryz.prog 19 [cnds r.conds, fn0 55] (boolA (r.conds.any fun c => !rightC c)) := fun hl => cntf_cnd r.conds (fun c => !rightC c) _ hl (fun i _ => rright1_spec _)
  unfold rightR
  generalize nameB r.name.data.toList = b1 at hn ⊢
  generalize right9 r.act.1 r.act.2 = b2 at ha ⊢
  generalize (r.conds.any fun c => !rightC c) = b3 at hc ⊢
  obtain ⟨name, ⟨k, n⟩, conds⟩ := r
  dsimp only at hn ha hc ⊢
  refine tells_of_aw Tryz.func32 rfl rfl fun nx => ?_
  refine stp ?_
  refine aop_tells rfl rfl hn ⟨AVle.refl _, trivial⟩ fun nx1 => ?_
  cases b1
  · refine stp ?_
    exact ret_tells rfl (AVle.refl _)
  refine stp ?_
  refine aop_tells rfl rfl ha ⟨AVle.refl _, trivial⟩ fun nx2 => ?_
  cases b2
  · refine stp ?_
    exact ret_tells rfl (AVle.refl _)
  refine stp ?_
  intro c t3; cases c
  · refine stp ?_
    have e3 : ¬ conds.length ≤ 6 := fun h => (not_of t3 : ¬ ((conds.length : Nat) : Int) ≤ 6) (by omega)
    exact ret_tells rfl (le_bool (by show false = (true && (true && (decide (conds.length ≤ 6) && !b3))); rw [decide_eq_false e3]; rfl))
  have h3 : conds.length ≤ 6 := by have t : ((conds.length : Nat) : Int) ≤ 6 := yes_of t3; omega
  have hc := hc (show conds.length ≤ 1000000000 by omega)
  refine stp ?_
  refine aop_tells rfl rfl hc ⟨AVle.refl _, AVle.refl _, trivial⟩ fun nx3 => ?_
  cases b3
  · refine stp ?_
    exact ret_tells rfl (le_bool (by first | (show true = (true && (true && (decide (conds.length ≤ 6) && !false))); rw [decide_eq_true h3]; rfl) | (show true = (true && (decide (rules.length ≤ 500) && !false)); rw [decide_eq_true h3]; rfl)))
  · refine stp ?_
    exact ret_tells rfl (le_bool (by first | (show false = (true && (true && (decide (conds.length ≤ 6) && !true))); rw [decide_eq_true h3]; rfl) | (show false = (true && (decide (rules.length ≤ 500) && !true)); rw [decide_eq_true h3]; rfl)))
theorem pright1_spec (r : Rul) (h1 : r.name.size ≤ 9223372036854775807) : Tells Tryz.prog 31 [rulA r] (boolA (!rightR r)) := by
  have key : ∀ b, rightR r = b → Tells Tryz.prog 31 [rulA r] (boolA (!b)) := fun b hb => by
    have hr := rright_spec r h1
    rw [hb] at hr
    refine tells_of_aw Tryz.func31 rfl rfl fun nx => ?_
    refine stp ?_
    refine aop_tells rfl rfl hr ⟨AVle.refl _, trivial⟩ fun nx1 => ?_
    cases b
    · refine stp ?_
      exact ret_tells rfl (AVle.refl _)
    · refine stp ?_
      exact ret_tells rfl (AVle.refl _)
  exact key _ rfl
def rightP (p : Pol) : Bool := right9 p.dflt.1 p.dflt.2 && (decide (p.rules.length ≤ 500) && !(p.rules.any fun r => !rightR r))
def Pol.ok (p : Pol) : Prop := p.rules.length ≤ maxLen ∧ ∀ r ∈ p.rules, r.ok
theorem pright_spec (p : Pol) (hp : p.ok) : Tells Tryz.prog 14 [polA p] (boolA (rightP p)) := by
  have ha := f22_spec p.dflt.1 p.dflt.2
  have hc : p.rules.length ≤ 1000000000 → Tells Tryz.prog 30 [ruls p.rules, fn0 31] (boolA (p.rules.any fun r => !rightR r)) := fun hl => cntf_rul p.rules (fun r => !rightR r) _ hl (fun i hi => pright1_spec _ (by
    have : p.rules.getD i rul0 ∈ p.rules := by simp [List.getD, hi]
    have := (hp.2 _ this).1
    exact Nat.le_trans this (by decide)))
  unfold rightP
  generalize right9 p.dflt.1 p.dflt.2 = b2 at ha ⊢
  generalize (p.rules.any fun r => !rightR r) = b3 at hc ⊢
  clear hp
  obtain ⟨⟨k, n⟩, x, rules⟩ := p
  dsimp only at ha hc ⊢
  refine tells_of_aw Tryz.func14 rfl rfl fun nx => ?_
  refine stp ?_
  refine aop_tells rfl rfl ha ⟨AVle.refl _, trivial⟩ fun nx2 => ?_
  cases b2
  · refine stp ?_
    exact ret_tells rfl (AVle.refl _)
  refine stp ?_
  intro c t3; cases c
  · refine stp ?_
    have e3 : ¬ rules.length ≤ 500 := fun h => (not_of t3 : ¬ ((rules.length : Nat) : Int) ≤ 500) (by omega)
    exact ret_tells rfl (le_bool (by show false = (true && (decide (rules.length ≤ 500) && !b3)); rw [decide_eq_false e3]; rfl))
  have h3 : rules.length ≤ 500 := by have t : ((rules.length : Nat) : Int) ≤ 500 := yes_of t3; omega
  have hc := hc (show rules.length ≤ 1000000000 by omega)
  refine stp ?_
  refine aop_tells rfl rfl hc ⟨AVle.refl _, AVle.refl _, trivial⟩ fun nx3 => ?_
  cases b3
  · refine stp ?_
    exact ret_tells rfl (le_bool (by first | (show true = (true && (true && (decide (conds.length ≤ 6) && !false))); rw [decide_eq_true h3]; rfl) | (show true = (true && (decide (rules.length ≤ 500) && !false)); rw [decide_eq_true h3]; rfl)))
  · refine stp ?_
    exact ret_tells rfl (le_bool (by first | (show false = (true && (true && (decide (conds.length ≤ 6) && !true))); rw [decide_eq_true h3]; rfl) | (show false = (true && (decide (rules.length ≤ 500) && !true)); rw [decide_eq_true h3]; rfl)))
def lightR (r : Rul) : Bool := decide (r.name.size ≤ 60) && decide (r.conds.length ≤ 12)
def lightP (p : Pol) : Bool := decide (p.rules.length ≤ 40) && p.rules.all lightR
end Go.Proofs.W

namespace Go.Proofs.W
open Go.Vl
set_option maxRecDepth 100000

theorem cnd_eqb {c d : Cnd} : (c.arg == d.arg && (c.op == d.op && ((c.mask : Int) == (d.mask : Int) && ((c.value : Int) == (d.value : Int) && true)))) = decide (c = d) := by
  rw [Bool.eq_iff_iff]
  simp only [Bool.and_eq_true, beq_iff_eq, decide_eq_true_eq, and_true]
  obtain ⟨a1, a2, a3, a4⟩ := c
  obtain ⟨b1, b2, b3, b4⟩ := d
  simp
  omega
theorem eq_of_get {α : Type} {a b : List α} {d : α} (hl : a.length = b.length) (h : ∀ j, j < a.length → a.getD j d = b.getD j d) : a = b := by
  refine List.ext_getElem hl fun j h1 h2 => ?_
  have := h j h1
  simpa [List.getD, h1, h2] using this
def sameR (a b : Rul) : Bool := (a.name.data.toList == b.name.data.toList) && (decide (a.act = b.act) && decide (a.conds = b.conds))
theorem act_eqb {a b : A2} : (a.1 == b.1 && (a.2 == b.2 && true)) = decide (a = b) := by
  rw [Bool.eq_iff_iff]
  simp only [Bool.and_eq_true, beq_iff_eq, decide_eq_true_eq, and_true]
  exact (Prod.ext_iff).symm
def sameL (a b : List Rul) : Bool := decide (a.length = b.length) && (List.range a.length).all fun j => sameR (a.getD j rul0) (b.getD j rul0)
def sameP (a b : Pol) : Bool := decide (a.dflt = b.dflt) && (decide (a.x32 = b.x32) && sameL a.rules b.rules)
end Go.Proofs.W

namespace Go.Proofs.W
open Go.Vl
set_option maxRecDepth 100000

def okN (n : Nat) : Bool := (decide (97 ≤ n) && decide (n ≤ 122)) || (decide (48 ≤ n) && decide (n ≤ 57)) || decide (n = 95)
theorem signs_all : ∀ n, n < 256 → signsB.data.toList.contains (UInt8.ofNat n) = okN n := by decide +kernel
theorem letters_all : ∀ n, n < 256 → lettersB.data.toList.contains (UInt8.ofNat n) = (decide (97 ≤ n) && decide (n ≤ 122)) := by decide +kernel
theorem signs_ok (b : UInt8) : signsB.data.toList.contains b = okN b.toNat := by
  have := signs_all b.toNat b.toNat_lt
  rwa [UInt8.ofNat_toNat] at this
theorem letters_ok (b : UInt8) : lettersB.data.toList.contains b = (decide (97 ≤ b.toNat) && decide (b.toNat ≤ 122)) := by
  have := letters_all b.toNat b.toNat_lt
  rwa [UInt8.ofNat_toNat] at this
/-- As the reference asks. -/
theorem nameB_ref (l : List UInt8) : nameB l = true ↔ l.length ≠ 0 ∧ l.length ≤ 30 ∧ 97 ≤ (l.headD 0).toNat ∧ (l.headD 0).toNat ≤ 122 ∧ l ≠ defaultL ∧ l ≠ x32L ∧ ∀ j, j < l.length → okN (l.getD j 0).toNat = true := by
  unfold nameB
  simp only [Bool.and_eq_true, Bool.not_eq_true', beq_eq_false_iff_ne, decide_eq_true_eq, letters_ok, List.all_eq_true, signs_ok]
  constructor
  · rintro ⟨h1, h2, h3, h4, h5, h6, h7⟩
    refine ⟨fun h => h1 (List.length_eq_zero_iff.1 h), h4, h6, h7, h2, h3, fun j hj => ?_⟩
    exact h5 _ (by simp [List.getD, hj])
  · rintro ⟨h1, h2, h3, h4, h5, h6, h7⟩
    refine ⟨fun h => h1 (by rw [h]; rfl), h5, h6, h2, fun x hx => ?_, h3, h4⟩
    obtain ⟨j, hj, rfl⟩ := List.getElem_of_mem hx
    have := h7 j hj
    simpa [List.getD, hj] using this
theorem nameB_false {l : List UInt8} (h : ¬ (l.length ≠ 0 ∧ l.length ≤ 30 ∧ 97 ≤ (l.headD 0).toNat ∧ (l.headD 0).toNat ≤ 122 ∧ l ≠ defaultL ∧ l ≠ x32L ∧ ∀ j, j < l.length → okN (l.getD j 0).toNat = true)) : nameB l = false := by
  rw [← nameB_ref] at h
  simpa using h
theorem okN_in {n : Nat} (h : (97 ≤ n ∧ n ≤ 122) ∨ (48 ≤ n ∧ n ≤ 57) ∨ n = 95) : okN n = true := by
  unfold okN
  simp only [Bool.or_eq_true, Bool.and_eq_true, decide_eq_true_eq]
  omega
theorem okN_out {n : Nat} (h : ¬ ((97 ≤ n ∧ n ≤ 122) ∨ (48 ≤ n ∧ n ≤ 57) ∨ n = 95)) : okN n = false := by
  unfold okN
  simp only [Bool.or_eq_false_iff, Bool.and_eq_false_iff, decide_eq_false_iff_not]
  omega
theorem ba_get (s : ByteArray) (i : Nat) : s.data.getD i 0 = s.data.toList.getD i 0 := by
  simp [Array.getD_eq_getD_getElem?, List.getD]
theorem head_getD (l : List UInt8) : l.headD 0 = l.getD 0 0 := by cases l <;> rfl
set_option maxHeartbeats 1000000 in
theorem name11_spec (s : ByteArray) : Tells Tryz.prog 70 [strA s] (boolA (nameB s.data.toList)) := by
  have hsz : s.size = s.data.toList.length := rfl
  refine tells_of_aw Tryz.func70 rfl rfl fun nx => ?_
  refine stp ?_
  intro c t1; cases c
  rotate_left
  · have t1 : ((s.size : Nat) : Int) = 0 := fct_b1.1 t1
    refine stp ?_
    exact ret_tells rfl (le_bool (nameB_false (fun h => h.1 (by omega))).symm)
  have t1 : ((s.size : Nat) : Int) ≠ 0 := fct_b0.1 t1
  refine stp ?_
  intro c t2; cases c
  rotate_left
  · have t2 : ((s.size : Nat) : Int) > 30 := yes_of t2
    refine stp ?_
    exact ret_tells rfl (le_bool (nameB_false (fun h => absurd h.2.1 (by omega))).symm)
  have t2 : ¬ ((s.size : Nat) : Int) > 30 := not_of t2
  refine stp ?_
  refine ⟨⟨by decide, by show (0 : Int) < (s.size : Int); omega⟩, ?_⟩
  refine stp ?_
  intro c t3; cases c
  rotate_left
  · have t3 : (((s.data.getD 0 0).toNat : Nat) : Int) < 97 := yes_of t3
    rw [ba_get, ← head_getD] at t3
    refine stp ?_
    exact ret_tells rfl (le_bool (nameB_false (fun h => absurd h.2.2.1 (by omega))).symm)
  have t3 : ¬ (((s.data.getD 0 0).toNat : Nat) : Int) < 97 := not_of t3
  rw [ba_get, ← head_getD] at t3
  refine stp ?_
  refine ⟨⟨by decide, by show (0 : Int) < (s.size : Int); omega⟩, ?_⟩
  refine stp ?_
  intro c t4; cases c
  rotate_left
  · have t4 : (((s.data.getD 0 0).toNat : Nat) : Int) > 122 := yes_of t4
    rw [ba_get, ← head_getD] at t4
    refine stp ?_
    exact ret_tells rfl (le_bool (nameB_false (fun h => absurd h.2.2.2.1 (by omega))).symm)
  have t4 : ¬ (((s.data.getD 0 0).toNat : Nat) : Int) > 122 := not_of t4
  rw [ba_get, ← head_getD] at t4
  refine stp ?_
  intro c t5
  rw [Lib.toList_data, Lib.toList_data] at t5
  cases c
  rotate_left
  · have t5 : s.data.toList = defaultL := beq_iff_eq.1 t5.symm
    refine stp ?_
    exact ret_tells rfl (le_bool (nameB_false (fun h => h.2.2.2.2.1 t5)).symm)
  have t5 : ¬ s.data.toList = defaultL := beq_eq_false_iff_ne.1 t5.symm
  refine stp ?_
  intro c t6
  rw [Lib.toList_data, Lib.toList_data] at t6
  cases c
  rotate_left
  · have t6 : s.data.toList = x32L := beq_iff_eq.1 t6.symm
    refine stp ?_
    exact ret_tells rfl (le_bool (nameB_false (fun h => h.2.2.2.2.2.1 t6)).symm)
  have t6 : ¬ s.data.toList = x32L := beq_eq_false_iff_ne.1 t6.symm
  refine stp ?_
  refine aw_loop (fun y : Nat × Nat => mk 59 [(0, strA s), (3, int y.1)] ⟨[], [], y.2, 0⟩) (fun y => y.1 ≤ s.size ∧ ∀ j, j < y.1 → okN (s.data.toList.getD j 0).toNat = true) (fun y => s.size - y.1) ?_ ?_
  · exact ⟨(0, nx), ⟨Nat.zero_le _, fun j h => absurd h (Nat.not_lt_zero _)⟩, ele_mk rfl rfl ⟨AVle.refl _, AVle.refl _, trivial⟩⟩
  · rintro ⟨i, nx2⟩ ⟨h3, h4⟩
    dsimp only at h3 h4
    refine stp ?_
    intro c g; cases c
    · have g : ¬ ((i : Nat) : Int) < ((s.size : Nat) : Int) := not_of g
      obtain rfl : i = s.size := by omega
      have : nameB s.data.toList = true := (nameB_ref _).2 ⟨by omega, by omega, by omega, by omega, t5, t6, h4⟩
      rw [this]
      refine stp ?_
      exact ret_tells rfl (AVle.refl _)
    · have g : ((i : Nat) : Int) < ((s.size : Nat) : Int) := yes_of g
      have hbad : okN (s.data.toList.getD i 0).toNat = false → false = nameB s.data.toList := fun h => (nameB_false (fun hh => by have := hh.2.2.2.2.2.2 i (by omega); rw [h] at this; cases this)).symm
      refine stp ?_
      refine ⟨⟨by dsimp only; omega, by dsimp only; omega⟩, ?_⟩
      have hgood : okN (s.data.toList.getD i 0).toNat = true → ∀ j, j < i + 1 → okN (s.data.toList.getD j 0).toNat = true := fun h j hj => by
        rcases Nat.lt_or_ge j i with h1 | h1
        · exact h4 j h1
        · obtain rfl : j = i := by omega
          exact h
      have hval : (((s.data.getD i 0).toNat : Nat) : Int) = (((s.data.toList.getD i 0).toNat : Nat) : Int) := by rw [ba_get]
      generalize (s.data.toList.getD i 0).toNat = n at hbad hgood hval
      refine stp ?_
      intro c u1
      have u1 : c = decide ((n : Int) ≥ 97) := u1.trans (by rw [← hval]; rfl)
      cases c
      · have u1 : ¬ (n : Int) ≥ 97 := not_of u1
        refine stp ?_
        intro c u3
        have u3 : c = decide ((n : Int) ≥ 48) := u3.trans (by rw [← hval]; rfl)
        cases c
        · have u3 : ¬ (n : Int) ≥ 48 := not_of u3
          refine stp ?_
          intro c u5
          have u5 : c = ((n : Int) == 95) := u5.trans (by rw [← hval]; rfl)
          cases c
          · have u5 : (n : Int) ≠ 95 := fct_b0.1 u5
            refine stp ?_
            exact ret_tells rfl (le_bool (hbad (okN_out (by omega))))
          · have u5 : (n : Int) = 95 := fct_b1.1 u5
            refine stp ?_
            refine back (i + 1, nx2) ⟨by dsimp only; omega, hgood (okN_in (by omega))⟩ (by dsimp only; omega) (ele_mk rfl rfl ⟨AVle.refl _, le_int (wrap_succ (by dsimp only; omega)), trivial⟩)
        · have u3 : (n : Int) ≥ 48 := yes_of u3
          refine stp ?_
          intro c u4
          have u4 : c = decide ((n : Int) ≤ 57) := u4.trans (by rw [← hval]; rfl)
          cases c
          · have u4 : ¬ (n : Int) ≤ 57 := not_of u4
            refine stp ?_
            intro c u5
            have u5 : c = ((n : Int) == 95) := u5.trans (by rw [← hval]; rfl)
            cases c
            · have u5 : (n : Int) ≠ 95 := fct_b0.1 u5
              refine stp ?_
              exact ret_tells rfl (le_bool (hbad (okN_out (by omega))))
            · have u5 : (n : Int) = 95 := fct_b1.1 u5
              refine stp ?_
              refine back (i + 1, nx2) ⟨by dsimp only; omega, hgood (okN_in (by omega))⟩ (by dsimp only; omega) (ele_mk rfl rfl ⟨AVle.refl _, le_int (wrap_succ (by dsimp only; omega)), trivial⟩)
          · have u4 : (n : Int) ≤ 57 := yes_of u4
            refine stp ?_
            refine back (i + 1, nx2) ⟨by dsimp only; omega, hgood (okN_in (by omega))⟩ (by dsimp only; omega) (ele_mk rfl rfl ⟨AVle.refl _, le_int (wrap_succ (by dsimp only; omega)), trivial⟩)
      · have u1 : (n : Int) ≥ 97 := yes_of u1
        refine stp ?_
        intro c u2
        have u2 : c = decide ((n : Int) ≤ 122) := u2.trans (by rw [← hval]; rfl)
        cases c
        · have u2 : ¬ (n : Int) ≤ 122 := not_of u2
          refine stp ?_
          intro c u3
          have u3 : c = decide ((n : Int) ≥ 48) := u3.trans (by rw [← hval]; rfl)
          cases c
          · have u3 : ¬ (n : Int) ≥ 48 := not_of u3
            refine stp ?_
            intro c u5
            have u5 : c = ((n : Int) == 95) := u5.trans (by rw [← hval]; rfl)
            cases c
            · have u5 : (n : Int) ≠ 95 := fct_b0.1 u5
              refine stp ?_
              exact ret_tells rfl (le_bool (hbad (okN_out (by omega))))
            · have u5 : (n : Int) = 95 := fct_b1.1 u5
              refine stp ?_
              refine back (i + 1, nx2) ⟨by dsimp only; omega, hgood (okN_in (by omega))⟩ (by dsimp only; omega) (ele_mk rfl rfl ⟨AVle.refl _, le_int (wrap_succ (by dsimp only; omega)), trivial⟩)
          · have u3 : (n : Int) ≥ 48 := yes_of u3
            refine stp ?_
            intro c u4
            have u4 : c = decide ((n : Int) ≤ 57) := u4.trans (by rw [← hval]; rfl)
            cases c
            · have u4 : ¬ (n : Int) ≤ 57 := not_of u4
              refine stp ?_
              intro c u5
              have u5 : c = ((n : Int) == 95) := u5.trans (by rw [← hval]; rfl)
              cases c
              · have u5 : (n : Int) ≠ 95 := fct_b0.1 u5
                refine stp ?_
                exact ret_tells rfl (le_bool (hbad (okN_out (by omega))))
              · have u5 : (n : Int) = 95 := fct_b1.1 u5
                refine stp ?_
                refine back (i + 1, nx2) ⟨by dsimp only; omega, hgood (okN_in (by omega))⟩ (by dsimp only; omega) (ele_mk rfl rfl ⟨AVle.refl _, le_int (wrap_succ (by dsimp only; omega)), trivial⟩)
            · have u4 : (n : Int) ≤ 57 := yes_of u4
              refine stp ?_
              refine back (i + 1, nx2) ⟨by dsimp only; omega, hgood (okN_in (by omega))⟩ (by dsimp only; omega) (ele_mk rfl rfl ⟨AVle.refl _, le_int (wrap_succ (by dsimp only; omega)), trivial⟩)
        · have u2 : (n : Int) ≤ 122 := yes_of u2
          refine stp ?_
          refine back (i + 1, nx2) ⟨by dsimp only; omega, hgood (okN_in (by omega))⟩ (by dsimp only; omega) (ele_mk rfl rfl ⟨AVle.refl _, le_int (wrap_succ (by dsimp only; omega)), trivial⟩)
end Go.Proofs.W

namespace Go.Proofs.W
open Go.Vl
set_option maxRecDepth 100000

theorem right9_spec (k n : Int) : Tells Tryz.prog 13 [act k n] (boolA (right9 k n)) := by
  refine tells_of_aw Tryz.func13 rfl rfl fun nx => ?_
  refine stp ?_
  (refine aw_draw 21 ?_ ?_ ?_ ?_; (· kernel_rfl); (· kernel_rfl); (· kernel_rfl))
  refine stp ?_
  intro c h1; cases c
  · refine stp ?_
    refine ret_tells rfl (le_bool ?_)
    simp at h1; simp [right9]; omega
  refine stp ?_
  intro c h2; cases c
  · refine stp ?_
    refine ret_tells rfl (le_bool ?_)
    simp at h1 h2; simp [right9]; omega
  refine stp ?_
  intro c h3; cases c
  · refine stp ?_
    refine ret_tells rfl (le_bool ?_)
    simp at h1 h2 h3; simp [right9]; omega
  refine stp ?_
  refine ex_yields (yields_tells rfl rfl (most9_spec k) ⟨AVle.refl _, trivial⟩ (NoId.v _)) ?_
  intro c h4; cases c
  · refine stp ?_
    refine ret_tells rfl (le_bool ?_)
    simp at h1 h2 h3 h4; simp [right9]; omega
  refine stp ?_
  refine ret_tells rfl (le_bool ?_)
  simp at h1 h2 h3 h4; simp [right9]; omega
theorem name14_spec (s : ByteArray) : Tells Tryz.prog 44 [strA s] (boolA (nameB s.data.toList)) := by
  have h := name11_spec s
  generalize nameB s.data.toList = b at h ⊢
  refine tells_of_aw Tryz.func44 rfl rfl fun nx => ?_
  refine stp ?_
  refine aop_tells rfl rfl h ⟨AVle.refl _, trivial⟩ fun nx1 => ?_
  intro c hc
  refine stp ?_
  exact ret_tells rfl (le_bool hc)
theorem any_first {l : List Rul} {i : Nat} (hi : i < l.length) (h : rightR (l.getD i rul0) = false) : (l.any fun r => !rightR r) = true := by
  rw [List.any_eq_true]
  exact ⟨l.getD i rul0, by simp [List.getD, hi], by rw [h]; rfl⟩
theorem any_none {l : List Rul} (h : ∀ j, j < l.length → rightR (l.getD j rul0) = true) : (l.any fun r => !rightR r) = false := by
  rw [List.any_eq_false]
  intro r hr
  obtain ⟨j, hj, rfl⟩ := List.getElem_of_mem hr
  have := h j hj
  rw [List.getD_eq_getElem?_getD, List.getElem?_eq_getElem hj] at this
  simp at this
  simp [this]
theorem anyC_first {l : List Cnd} {i : Nat} (hi : i < l.length) (h : rightC (l.getD i cnd0) = false) : (l.any fun c => !rightC c) = true := by
  rw [List.any_eq_true]
  exact ⟨l.getD i cnd0, by simp [List.getD, hi], by rw [h]; rfl⟩
theorem anyC_none {l : List Cnd} (h : ∀ j, j < l.length → rightC (l.getD j cnd0) = true) : (l.any fun c => !rightC c) = false := by
  rw [List.any_eq_false]
  intro r hr
  obtain ⟨j, hj, rfl⟩ := List.getElem_of_mem hr
  have := h j hj
  rw [List.getD_eq_getElem?_getD, List.getElem?_eq_getElem hj] at this
  simp at this
  simp [this]
set_option maxHeartbeats 2000000 in
theorem right14_spec (p : Pol) : Tells Tryz.prog 23 [polA p] (boolA (rightP p)) := by
  have hd := right9_spec p.dflt.1 p.dflt.2
  have hP : rightP p = (right9 p.dflt.1 p.dflt.2 && (decide (p.rules.length ≤ 500) && !(p.rules.any fun r => !rightR r))) := rfl
  generalize rightP p = R at hP ⊢
  generalize right9 p.dflt.1 p.dflt.2 = b0 at hd hP
  obtain ⟨⟨k, n⟩, x, rs⟩ := p
  dsimp only at hP hd
  refine tells_of_aw Tryz.func23 rfl rfl fun nx => ?_
  refine stp ?_
  refine aop_tells rfl rfl hd ⟨AVle.refl _, trivial⟩ fun nx1 => ?_
  cases b0
  · refine stp ?_
    exact ret_tells rfl (le_bool (by rw [hP]; rfl))
  refine stp ?_
  intro c g1; cases c
  rotate_left
  · have g1 : ((rs.length : Nat) : Int) > 500 := yes_of g1
    refine stp ?_
    exact ret_tells rfl (le_bool (by rw [hP, decide_eq_false (by omega)]; rfl))
  have g1 : ¬ ((rs.length : Nat) : Int) > 500 := not_of g1
  have h500 : rs.length ≤ 500 := by omega
  rw [decide_eq_true h500, Bool.true_and, Bool.true_and] at hP
  refine stp ?_
  refine aw_loop (fun s : Nat × Nat => mk 58 [(1, .bp (0, nx) 0), (3, int s.1)] ⟨[((0, nx), .c [int k, int n, boolA x, ruls rs])], [], s.2, 1⟩) (fun s => s.1 ≤ rs.length ∧ ∀ j, j < s.1 → rightR (rs.getD j rul0) = true) (fun s => rs.length - s.1) ?_ ?_
  · exact ⟨(0, nx1), ⟨Nat.zero_le _, fun j h => absurd h (Nat.not_lt_zero _)⟩, ele_tell (pm := []) _ [] rfl rfl (List.Sublist.refl _) (List.Sublist.refl _) ⟨rfl, OwnLe.refl _, trivial⟩ trivial ⟨AVle.refl _, AVle.refl _, trivial⟩⟩
  · rintro ⟨i, nx2⟩ ⟨h3, h4⟩
    dsimp only at h3 h4
    refine stp ?_
    intro c h5; cases c
    · have h6 : ¬ ((i : Nat) : Int) < ((rs.length : Nat) : Int) := not_of h5
      obtain rfl : i = rs.length := by omega
      refine stp ?_
      exact ret_tells rfl (le_bool (by rw [hP, any_none h4]; rfl))
    · have h6 : ((i : Nat) : Int) < ((rs.length : Nat) : Int) := yes_of h5
      have hi : i < rs.length := by omega
      have hbad : rightR (rs.getD i rul0) = false → false = R := fun h => by rw [hP, any_first hi h]; rfl
      have hR : rightR (rs.getD i rul0) = (nameB (rs.getD i rul0).name.data.toList && (right9 (rs.getD i rul0).act.1 (rs.getD i rul0).act.2 && (decide ((rs.getD i rul0).conds.length ≤ 6) && !((rs.getD i rul0).conds.any fun c => !rightC c)))) := rfl
      have hn := name14_spec (rs.getD i rul0).name
      have ha := right9_spec (rs.getD i rul0).act.1 (rs.getD i rul0).act.2
      generalize nameB (rs.getD i rul0).name.data.toList = b1 at hn hR
      generalize right9 (rs.getD i rul0).act.1 (rs.getD i rul0).act.2 = b2 at ha hR
      refine stp ?_
      refine ⟨⟨by dsimp only; omega, by dsimp only; omega⟩, ?_⟩
      refine stp ?_
      refine aop_tells rfl rfl hn ⟨AVle.refl _, trivial⟩ fun nx3 => ?_
      cases b1
      · refine stp ?_
        exact ret_tells rfl (le_bool (hbad (by rw [hR]; rfl)))
      refine stp ?_
      refine aop_tells rfl rfl ha ⟨AVle.refl _, trivial⟩ fun nx4 => ?_
      cases b2
      · refine stp ?_
        exact ret_tells rfl (le_bool (hbad (by rw [hR]; rfl)))
      refine stp ?_
      intro c g2; cases c
      rotate_left
      · have g2 : (((rs.getD i rul0).conds.length : Nat) : Int) > 6 := yes_of g2
        refine stp ?_
        exact ret_tells rfl (le_bool (hbad (by rw [hR, decide_eq_false (by omega)]; rfl)))
      have g2 : ¬ (((rs.getD i rul0).conds.length : Nat) : Int) > 6 := not_of g2
      rw [decide_eq_true (show (rs.getD i rul0).conds.length ≤ 6 by omega), Bool.true_and, Bool.true_and, Bool.true_and] at hR
      refine stp ?_
      refine aw_loop (fun s : Nat × Nat => mk 58 [(1, .bp (0, nx) 0), (3, int i), (4, .bp (1, nx2) 0), (5, int s.1)] ⟨[((1, nx2), .c [strA (rs.getD i rul0).name, int (rs.getD i rul0).act.1, int (rs.getD i rul0).act.2, cnds (rs.getD i rul0).conds]), ((0, nx), .c [int k, int n, boolA x, ruls rs])], [], s.2, 2⟩) (fun s => s.1 ≤ (rs.getD i rul0).conds.length ∧ ∀ j, j < s.1 → rightC ((rs.getD i rul0).conds.getD j cnd0) = true) (fun s => (rs.getD i rul0).conds.length - s.1) ?_ ?_
      · exact ⟨(0, nx4), ⟨Nat.zero_le _, fun j h => absurd h (Nat.not_lt_zero _)⟩, ele_tell (pm := []) _ [] rfl rfl (List.Sublist.refl _) (List.Sublist.refl _) ⟨rfl, OwnLe.refl _, rfl, OwnLe.refl _, trivial⟩ trivial ⟨AVle.refl _, AVle.refl _, AVle.refl _, AVle.refl _, trivial⟩⟩
      · rintro ⟨j, nx5⟩ ⟨h7, h8⟩
        dsimp only at h7 h8
        refine stp ?_
        intro c h9; cases c
        · have h9 : ¬ ((j : Nat) : Int) < (((rs.getD i rul0).conds.length : Nat) : Int) := not_of h9
          have hj : j = (rs.getD i rul0).conds.length := by omega
          have hgood : rightR (rs.getD i rul0) = true := by rw [hR, anyC_none (fun q hq => h8 q (by omega))]; rfl
          refine stp ?_
          refine back (i + 1, nx5) ⟨by first | omega | (dsimp only; omega), fun q hq => ?_⟩ (by dsimp only; omega) (ele_tell (pm := []) _ [] rfl rfl (.cons _ (List.Sublist.refl _)) (List.Sublist.refl _) ⟨rfl, OwnLe.refl _, trivial⟩ trivial ⟨AVle.refl _, le_int (wrap_succ (by first | omega | (dsimp only; omega))), trivial⟩)
          dsimp only at hq
          rcases Nat.lt_or_ge q i with h | h
          · exact h4 q h
          · obtain rfl : q = i := by omega
            exact hgood
        · have h9 : ((j : Nat) : Int) < (((rs.getD i rul0).conds.length : Nat) : Int) := yes_of h9
          have hj : j < (rs.getD i rul0).conds.length := by omega
          have hbc : rightC ((rs.getD i rul0).conds.getD j cnd0) = false → false = R := fun h => hbad (by rw [hR, anyC_first hj h]; rfl)
          have hgc : rightC ((rs.getD i rul0).conds.getD j cnd0) = true → ∀ q, q < j + 1 → rightC ((rs.getD i rul0).conds.getD q cnd0) = true := fun h q hq => by
            rcases Nat.lt_or_ge q j with h1 | h1
            · exact h8 q h1
            · obtain rfl : q = j := by omega
              exact h
          have hc := right10_spec ((rs.getD i rul0).conds.getD j cnd0)
          generalize rightC ((rs.getD i rul0).conds.getD j cnd0) = b3 at hc hbc hgc
          refine stp ?_
          refine ⟨⟨by dsimp only; omega, by dsimp only; omega⟩, ?_⟩
          refine stp ?_
          refine aop_tells rfl rfl hc ⟨AVle.refl _, trivial⟩ fun nx6 => ?_
          cases b3
          · refine stp ?_
            exact ret_tells rfl (le_bool (hbc rfl))
          · refine stp ?_
            exact back (j + 1, nx6) ⟨by dsimp only; omega, hgc rfl⟩ (by dsimp only; omega) (ele_tell (pm := []) _ [] rfl rfl (List.Sublist.refl _) (List.Sublist.refl _) ⟨rfl, OwnLe.refl _, rfl, OwnLe.refl _, trivial⟩ trivial ⟨AVle.refl _, AVle.refl _, AVle.refl _, le_int (wrap_succ (by dsimp only; omega)), trivial⟩)
end Go.Proofs.W

namespace Go.Proofs.W
open Go.Vl
set_option maxRecDepth 100000

end Go.Proofs.W

namespace Go.Proofs.W
open Go.Vl
set_option maxRecDepth 100000

theorem bit30 (n : Nat) : decide (n &&& 1073741824 ≠ 0) = decide (n / 1073741824 % 2 = 1) := by
  have hlo : n % 1073741824 < 2 ^ 30 := Nat.mod_lt _ (by decide)
  have e1 : n = 2 ^ 30 * (n / 1073741824) + n % 1073741824 := by have := Nat.div_add_mod n 1073741824; show n = 1073741824 * _ + _; omega
  have hs := and_split (c := n / 1073741824) (lo := n % 1073741824) (d := 1) (m := 0) (i := 30) hlo (by decide)
  rw [← e1, Nat.and_one_is_mod, Nat.and_zero, show (2 ^ 30 * 1 + 0 : Nat) = 1073741824 by decide] at hs
  rw [hs]
  have : n / 1073741824 % 2 = 0 ∨ n / 1073741824 % 2 = 1 := by omega
  rcases this with q | q <;> rw [q] <;> decide
theorem withB_eq (n : Nat) : withB n = (decide (n ≠ 4294967295) && decide (n / 1073741824 % 2 = 1)) := by
  unfold withB; rw [bit30, Bool.and_comm]
theorem quo30 {n : Nat} (h : n < 4294967296) : (IntKind.u32.wrap ((n : Int).tdiv 1073741824)).tmod 2 = ((n / 1073741824 % 2 : Nat) : Int) := by
  have e : (n : Int).tdiv 1073741824 = ((n / 1073741824 : Nat) : Int) := (Int.ofNat_tdiv n 1073741824).symm
  rw [e]
  have e2 : IntKind.u32.wrap ((n / 1073741824 : Nat) : Int) = ((n / 1073741824 : Nat) : Int) := by
    have : n / 1073741824 < 4 := by omega
    simp [IntKind.wrap, IntKind.signed, IntKind.bits]; omega
  rw [e2]
  exact (Int.ofNat_tmod (n / 1073741824) 2).symm
def selI (arch num : Nat) : Int := match selO arch num with
  | some a => a
  | none => -1
theorem sel_2 (num : Nat) : selI 1073741827 num = 2 := by unfold selI selO; cases withB num <;> rfl
theorem sel_3 (num : Nat) : selI 3221225655 num = 3 := by unfold selI selO; cases withB num <;> rfl
theorem sel_4 (num : Nat) : selI 3221225715 num = 4 := by unfold selI selO; cases withB num <;> rfl
theorem sel_01 (num : Nat) : selI 3221225534 num = if withB num then 1 else 0 := by unfold selI selO; cases withB num <;> rfl
theorem sel_x {arch num : Nat} (h2 : arch ≠ 1073741827) (h3 : arch ≠ 3221225655) (h4 : arch ≠ 3221225715) (h0 : arch ≠ 3221225534) : selI arch num = -1 := by
  unfold selI selO
  have : infN.find? (selB arch (withB num)) = none := by
    refine List.find?_eq_none.2 fun x hx => ?_
    unfold infN at hx
    simp only [List.mem_cons, List.not_mem_nil, or_false] at hx
    rw [Bool.not_eq_true]
    unfold selB
    rw [Bool.and_eq_false_iff]
    left
    rw [decide_eq_false_iff_not]
    rcases hx with rfl | rfl | rfl | rfl | rfl <;> (intro e; exact absurd e.symm (by assumption))
  rw [this]; rfl
end Go.Proofs.W

namespace Go.Proofs.W
open Go.Vl
set_option maxRecDepth 100000

theorem c_intT : Tryz.prog.cellsOf 3 = 1 := by kernel_rfl
def numR (r : TRow) (a i : Nat) : Int := if 0 ≤ r.num a then r.num a else -1 - (i : Int)
end Go.Proofs.W

namespace Go.Proofs.W
open Go.Vl
set_option maxRecDepth 100000

theorem numR_eq {r : TRow} {a i : Nat} {n : Int} (hn : 0 ≤ n) : (numR r a i == n) = nameB5 a n r := by
  unfold numR nameB5
  rw [Bool.eq_iff_iff]
  simp only [beq_iff_eq, decide_eq_true_eq]
  split
  · exact Iff.rfl
  · constructor
    · intro h; omega
    · intro h; omega
theorem subR_eq {r : TRow} {m s : Int} (hm : m = 1 ∨ m = 2) : subB m s r = (decide (r.mux = m) && decide (r.sub = s)) := by
  unfold subB
  rw [decide_eq_true (by omega : m ≠ 0), Bool.and_true]
end Go.Proofs.W

namespace Go.Proofs.W
open Go.Vl
set_option maxRecDepth 100000

/-- The row that a record calls. -/
def atO (l : List TRow) (r : Rec) : Option Nat := match selO r.arch r.num with
  | none => none
  | some a => if 0 < kindO a r.num then l.findIdx? (subB (kindO a r.num) ((r.a0 % 4294967296 : Nat) : Int)) else l.findIdx? (nameB5 a ((ownI a r.num : Nat) : Int))
def muxB (r : Rec) : Bool := match selO r.arch r.num with
  | none => false
  | some a => decide (0 < kindO a r.num)
def of12A (l : List TRow) (r : Rec) : AV := .ag [int (selI r.arch r.num), int (optI (atO l r)), boolA (muxB r)]
theorem low_i {x : Nat} (h : x < 18446744073709551616) : IntKind.i64.wrap ((x : Int).tmod 4294967296) = ((x % 4294967296 : Nat) : Int) := by
  have e : (x : Int).tmod 4294967296 = ((x % 4294967296 : Nat) : Int) := (Int.ofNat_tmod x 4294967296).symm
  rw [e]
  exact wrap_id (by omega) (by omega)
end Go.Proofs.W

namespace Go.Proofs.W
open Go.Vl
set_option maxRecDepth 100000

def argR (r : Rec) (k : Nat) : Nat := if selI r.arch r.num = 2 then r.arg k % 4294967296 else r.arg k
def ofR (l : List TRow) (at_ : Nat) (rs : List Rec) : List Rec := rs.filter fun r => decide (atO l r = some at_)
theorem ofR_next {l : List TRow} {a : Nat} {rs : List Rec} {i : Nat} (h : i < rs.length) : ofR l a (rs.take (i + 1)) = if atO l (rs.getD i rec0) = some a then ofR l a (rs.take i) ++ [rs.getD i rec0] else ofR l a (rs.take i) := by
  unfold ofR
  rw [take_getD rec0 h, List.filter_append]
  by_cases q : atO l (rs.getD i rec0) = some a
  · rw [if_pos q, List.filter_cons, if_pos (decide_eq_true q)]; rfl
  · rw [if_neg q, List.filter_cons, if_neg (by rw [decide_eq_false q]; decide)]; simp
theorem ofR_le {l : List TRow} {a : Nat} {rs : List Rec} : (ofR l a rs).length ≤ rs.length := List.length_filter_le _ _
theorem arg_lt {r : Rec} (h : r.ok) (k : Nat) : r.arg k < 18446744073709551616 := by
  obtain ⟨_, _, _, h0, h1, h2, h3, h4, h5⟩ := h
  unfold Rec.arg; split <;> assumption
theorem optI_eq {o : Option Nat} {a : Nat} : (optI o == (a : Int)) = decide (o = some a) := by
  cases o with
  | none => simp [optI]
  | some i => rw [Bool.eq_iff_iff]; simp [optI]; omega
theorem noid_u64 (n : Int) : NoId (u64 n) := NoId.v _
end Go.Proofs.W

namespace Go.Proofs.W
open Go.Vl
set_option maxRecDepth 100000

def muxBad (r : TRow) : Bool := decide (r.mux < 0) || (decide (2 < r.mux) || ((decide (r.mux = 0) && decide (r.sub ≠ 0)) || (decide (0 < r.mux) && (decide (r.sub < 1) || decide (255 < r.sub)))))
theorem ranged_eq (r : TRow) : rangedR r = (!badR r && !muxBad r) := by
  unfold rangedR
  congr 1
  unfold muxBad
  by_cases h : r.mux = 0
  · rw [if_pos h, h]; simp
  · rw [if_neg h, Bool.eq_iff_iff]; simp; omega
def clashN (r s : TRow) : Bool := [0, 1, 2, 3, 4].any fun a => decide (0 ≤ r.num a) && decide (s.num a = r.num a)
def clashM (r s : TRow) : Bool := decide (0 < r.mux) && (decide (s.mux = r.mux) && decide (s.sub = r.sub))
def clashB (l : List TRow) (i : Nat) : Bool := (l.take i).any fun s => clashN (l.getD i trow0) s || clashM (l.getD i trow0) s
def a2Bad (r : TRow) : Bool := decide (r.a2 = 102) || decide (r.a2 = 117)
def rowI (l : List TRow) (i : Nat) : Int := if nameB (l.getD i trow0).name.data.toList = false then 13 else if ordB l i then 15 else if badR (l.getD i trow0) then 16 else if muxBad (l.getD i trow0) then 16 else if a2Bad (l.getD i trow0) then 17 else if clashB l i then 15 else 0
theorem geq_leB (s t : ByteArray) : (!Op.bytesLess t.toList s.toList) = leB s t := by
  cases h : leB s t with
  | false =>
    have := leB_no h
    rw [Go.Proofs.bytesLess_eq, Lib.toList_data, Lib.toList_data]
    unfold Go.Sort.ltStr at this
    rw [this]; rfl
  | true =>
    unfold leB at h
    rw [Go.Proofs.bytesLess_eq, Lib.toList_data, Lib.toList_data] at h ⊢
    rw [Bool.or_eq_true, decide_eq_true_iff] at h
    rw [Bool.not_eq_true', decide_eq_false_iff_not]
    rcases h with h | h
    · exact fun k => absurd (List.lt_trans h k) (List.lt_irrefl _)
    · rw [beq_iff_eq] at h; rw [h]; exact List.lt_irrefl _
theorem rowI_13 {l : List TRow} {i : Nat} (h : nameB (l.getD i trow0).name.data.toList = false) : rowI l i = 13 := if_pos h
theorem rowI_ord {l : List TRow} {i : Nat} (h : nameB (l.getD i trow0).name.data.toList = true) : rowI l i = if ordB l i then 15 else if badR (l.getD i trow0) then 16 else if muxBad (l.getD i trow0) then 16 else if a2Bad (l.getD i trow0) then 17 else if clashB l i then 15 else 0 := if_neg (by rw [h]; decide)
theorem mux_tests (r : TRow) : muxBad r = (decide (r.mux < 0) || (decide (r.mux > 2) || (((r.mux == 0) && (r.sub != 0)) || (decide (r.mux > 0) && (decide (r.sub < 1) || decide (r.sub > 255)))))) := by
  unfold muxBad
  rw [show (r.mux == 0) = decide (r.mux = 0) by rw [Bool.eq_iff_iff]; simp, show (r.sub != 0) = decide (r.sub ≠ 0) by rw [Bool.eq_iff_iff]; simp]
theorem a2_tests (r : TRow) : a2Bad r = ((r.a2 == 102) || (r.a2 == 117)) := by
  unfold a2Bad
  rw [show (r.a2 == 102) = decide (r.a2 = 102) by rw [Bool.eq_iff_iff]; simp, show (r.a2 == 117) = decide (r.a2 = 117) by rw [Bool.eq_iff_iff]; simp]
theorem clash_true {l : List TRow} {i k : Nat} {r : TRow} (hr : l.getD i trow0 = r) (hk : k < i) (hi : i < l.length) (h : (clashN r (l.getD k trow0) || clashM r (l.getD k trow0)) = true) : clashB l i = true := by
  unfold clashB
  rw [hr, List.any_eq_true]
  refine ⟨l.getD k trow0, ?_, h⟩
  rw [List.mem_iff_getElem]
  exact ⟨k, by rw [List.length_take]; omega, by rw [List.getElem_take]; simp [List.getD, show k < l.length by omega]⟩
theorem clash_false {l : List TRow} {i : Nat} {r : TRow} (hr : l.getD i trow0 = r) (hi : i ≤ l.length) (h : ∀ k, k < i → (clashN r (l.getD k trow0) || clashM r (l.getD k trow0)) = false) : clashB l i = false := by
  unfold clashB
  rw [hr, List.any_eq_false]
  intro s hs
  obtain ⟨k, hk, rfl⟩ := List.mem_iff_getElem.1 hs
  rw [List.length_take] at hk
  have := h k (by omega)
  rw [List.getElem_take]
  simp [List.getD, show k < l.length by omega] at this ⊢
  exact this
def cN (r s : TRow) (a : Nat) : Bool := decide (r.num a ≥ 0) && decide (s.num a = r.num a)
theorem clashN_true {r s : TRow} {a : Nat} (ha : a < 5) (h : cN r s a = true) : clashN r s = true := by
  unfold clashN
  rw [List.any_eq_true]
  exact ⟨a, by simp; omega, h⟩
theorem clashN_false {r s : TRow} (h : ∀ a, a < 5 → cN r s a = false) : clashN r s = false := by
  unfold clashN
  rw [List.any_eq_false]
  intro a ha
  rw [show (decide (0 ≤ r.num a) && decide (s.num a = r.num a)) = cN r s a from rfl, h a (by simp at ha; omega)]
  decide
theorem clashM_tests (r s : TRow) : clashM r s = (decide (r.mux > 0) && ((s.mux == r.mux) && (s.sub == r.sub))) := by
  unfold clashM
  rw [show (s.mux == r.mux) = decide (s.mux = r.mux) by rw [Bool.eq_iff_iff]; simp, show (s.sub == r.sub) = decide (s.sub = r.sub) by rw [Bool.eq_iff_iff]; simp]
theorem bad_some {r : TRow} {k : Nat} (hk : k < 5) (h : true = badN (r.num k)) : badR r = true := by
  rcases (by omega : k = 0 ∨ k = 1 ∨ k = 2 ∨ k = 3 ∨ k = 4) with rfl | rfl | rfl | rfl | rfl
  all_goals
    have h' : badN (r.num _) = true := h.symm
    simp only [TRow.num] at h'
    simp [badR, h']
theorem bad_none {r : TRow} (h : ∀ j, j < 5 → badN (r.num j) = false) : badR r = false := by
  have h0 := h 0 (by decide)
  have h1 := h 1 (by decide)
  have h2 := h 2 (by decide)
  have h3 := h 3 (by decide)
  have h4 := h 4 (by decide)
  simp only [TRow.num] at h0 h1 h2 h3 h4
  simp [badR, h0, h1, h2, h3, h4]
set_option maxHeartbeats 8000000 in
theorem ref11row_spec (l : List TRow) (i : Nat) (hi : i < l.length) (hl : l.length ≤ 1000000) : Tells Tryz.prog 46 [trows l, int i] (int (rowI l i)) := by
  have hnm := name11_spec (l.getD i trow0).name
  cases hb : nameB (l.getD i trow0).name.data.toList with
  | false =>
    rw [hb] at hnm
    rw [rowI_13 hb]
    refine tells_of_aw Tryz.func46 rfl rfl fun nx => ?_
    refine stp ?_
    refine ⟨⟨by first | omega | (dsimp only; omega), by first | omega | (dsimp only; omega)⟩, ?_⟩
    refine stp ?_
    refine aop_tells rfl rfl hnm ⟨AVle.refl _, trivial⟩ fun nx2 => ?_
    refine stp ?_
    exact ret_tells rfl (AVle.refl _)
  | true =>
    rw [hb] at hnm
    rw [rowI_ord hb]
    refine tells_of_aw Tryz.func46 rfl rfl fun nx => ?_
    refine stp ?_
    refine ⟨⟨by first | omega | (dsimp only; omega), by first | omega | (dsimp only; omega)⟩, ?_⟩
    refine stp ?_
    refine aop_tells rfl rfl hnm ⟨AVle.refl _, trivial⟩ fun nx2 => ?_
    refine stp ?_
    refine aw_mid (fun y : Nat => mk 140 [(0, trows l), (1, int i), (5, .bp (0, nx) 0), (29, boolA (ordB l i))] ⟨[((0, nx), .c (trowC (l.getD i trow0)))], [], y, 1⟩) (fun _ => True) ?_ ?_
    · by_cases h0 : 0 < i
      · have hd : decide ((i : Int) > 0) = true := decide_eq_true (by omega)
        have hi1 : IntKind.i64.wrap ((i : Int) - 1) = ((i - 1 : Nat) : Int) := by rw [wrap_id (by omega) (by omega)]; omega
        (refine aw_draw 13 ?_ ?_ ?_ ?_; (· kernel_rfl); (· kernel_rfl); (· kernel_rfl))
        refine stp ?_
        (conv => whnf)
        refine lit_eq hd ?_
        refine stp ?_
        refine ⟨⟨ixge (i := i - 1) hi1, ixlt (i := i - 1) hi1 (by omega)⟩, splitO_eq (b := .rp (trowC (l.getD (i - 1) trow0))) (congrArg (fun z : Int => AV.rp (trowC (l.getD z.toNat trow0))) hi1) ?_⟩
        refine stp ?_
        intro c hc
        have hc2 : c = ordB l i := hc.trans (by unfold ordB; rw [decide_eq_true h0, Bool.true_and]; exact geq_leB _ _)
        clear hc
        rw [← hc2]
        refine stp ?_
        exact ⟨nx2, trivial, ele_tell (pm := []) _ [] rfl rfl (List.Sublist.refl _) (List.Sublist.refl _) (BxLe.refl _) trivial ⟨AVle.refl _, AVle.refl _, AVle.refl _, AVle.refl _, trivial⟩⟩
      · have hd : decide ((i : Int) > 0) = false := decide_eq_false (by omega)
        have ho : ordB l i = false := by unfold ordB; rw [decide_eq_false h0]; rfl
        rw [ho]
        (refine aw_draw 13 ?_ ?_ ?_ ?_; (· kernel_rfl); (· kernel_rfl); (· kernel_rfl))
        refine stp ?_
        (conv => whnf)
        refine lit_eq hd ?_
        refine stp ?_
        exact ⟨nx2, trivial, ele_tell (pm := []) _ [] rfl rfl (List.Sublist.refl _) (List.Sublist.refl _) (BxLe.refl _) trivial ⟨AVle.refl _, AVle.refl _, AVle.refl _, AVle.refl _, trivial⟩⟩
    · rintro nx3 -
      cases ho : ordB l i with
      | true =>
        rw [if_pos rfl]
        refine stp ?_
        exact ret_tells rfl (AVle.refl _)
      | false =>
        rw [if_neg (by decide)]
        generalize hrr : l.getD i trow0 = r
        refine stp ?_
        refine aw_loop (fun y : Nat × Nat => mk 140 [(0, trows l), (1, int i), (5, .bp (0, nx) 0), (6, int y.1)] ⟨[((0, nx), .c (trowC r))], [], y.2, 1⟩) (fun y => y.1 ≤ 5 ∧ ∀ j, j < y.1 → badN (r.num j) = false) (fun y => 5 - y.1) ?_ ?_
        · exact ⟨(0, nx3), ⟨Nat.zero_le _, fun j h => absurd h (Nat.not_lt_zero _)⟩, ele_tell (pm := []) _ [] rfl rfl (List.Sublist.refl _) (List.Sublist.refl _) (BxLe.refl _) trivial ⟨AVle.refl _, AVle.refl _, AVle.refl _, AVle.refl _, trivial⟩⟩
        · rintro ⟨a, nx4⟩ ⟨h3, h4⟩
          dsimp only at h3 h4
          obtain rfl | rfl | rfl | rfl | rfl | rfl : a = 0 ∨ a = 1 ∨ a = 2 ∨ a = 3 ∨ a = 4 ∨ a = 5 := by omega
          · have hbk : badN (r.num 0) = (decide (r.a0 < -1) || decide (r.a0 > 1073741823)) := rfl
            refine stp ?_
            refine ⟨⟨Int.natCast_nonneg _, show ((0 : Nat) : Int) < 5 by decide⟩, splitO_eq (b := .bp (0, nx) (1 + 0)) (congrArg (AV.bp (0, nx)) (by rw [c_intT]; rfl)) ?_⟩
            refine stp ?_
            intro c hc
            have hc2 : c = decide (r.a0 < -1) := hc
            clear hc
            rw [← hc2] at hbk
            clear hc2
            cases c
            · refine stp ?_
              refine ⟨⟨Int.natCast_nonneg _, show ((0 : Nat) : Int) < 5 by decide⟩, splitO_eq (b := .bp (0, nx) (1 + 0)) (congrArg (AV.bp (0, nx)) (by rw [c_intT]; rfl)) ?_⟩
              refine stp ?_
              intro c hc
              have hc2 : c = decide (r.a0 > 1073741823) := hc
              clear hc
              rw [← hc2, Bool.false_or] at hbk
              clear hc2
              cases c
              · refine stp ?_
                exact back (0 + 1, nx4) ⟨by dsimp only; omega, fun j hj => by dsimp only at hj; rcases Nat.lt_or_ge j 0 with q | q; exact h4 j q; rw [show j = 0 by omega]; exact hbk⟩ (by dsimp only; omega) (ele_tell (pm := []) _ [] rfl rfl (List.Sublist.refl _) (List.Sublist.refl _) (BxLe.refl _) trivial ⟨AVle.refl _, AVle.refl _, AVle.refl _, AVle.refl _, trivial⟩)
              · rw [bad_some (k := 0) (by decide) hbk.symm]
                refine stp ?_
                exact ret_tells rfl (AVle.refl _)
            · rw [Bool.true_or] at hbk
              rw [bad_some (k := 0) (by decide) hbk.symm]
              refine stp ?_
              exact ret_tells rfl (AVle.refl _)
          · have hbk : badN (r.num 1) = (decide (r.a1 < -1) || decide (r.a1 > 1073741823)) := rfl
            refine stp ?_
            refine ⟨⟨Int.natCast_nonneg _, show ((1 : Nat) : Int) < 5 by decide⟩, splitO_eq (b := .bp (0, nx) (1 + 1)) (congrArg (AV.bp (0, nx)) (by rw [c_intT]; rfl)) ?_⟩
            refine stp ?_
            intro c hc
            have hc2 : c = decide (r.a1 < -1) := hc
            clear hc
            rw [← hc2] at hbk
            clear hc2
            cases c
            · refine stp ?_
              refine ⟨⟨Int.natCast_nonneg _, show ((1 : Nat) : Int) < 5 by decide⟩, splitO_eq (b := .bp (0, nx) (1 + 1)) (congrArg (AV.bp (0, nx)) (by rw [c_intT]; rfl)) ?_⟩
              refine stp ?_
              intro c hc
              have hc2 : c = decide (r.a1 > 1073741823) := hc
              clear hc
              rw [← hc2, Bool.false_or] at hbk
              clear hc2
              cases c
              · refine stp ?_
                exact back (1 + 1, nx4) ⟨by dsimp only; omega, fun j hj => by dsimp only at hj; rcases Nat.lt_or_ge j 1 with q | q; exact h4 j q; rw [show j = 1 by omega]; exact hbk⟩ (by dsimp only; omega) (ele_tell (pm := []) _ [] rfl rfl (List.Sublist.refl _) (List.Sublist.refl _) (BxLe.refl _) trivial ⟨AVle.refl _, AVle.refl _, AVle.refl _, AVle.refl _, trivial⟩)
              · rw [bad_some (k := 1) (by decide) hbk.symm]
                refine stp ?_
                exact ret_tells rfl (AVle.refl _)
            · rw [Bool.true_or] at hbk
              rw [bad_some (k := 1) (by decide) hbk.symm]
              refine stp ?_
              exact ret_tells rfl (AVle.refl _)
          · have hbk : badN (r.num 2) = (decide (r.a2 < -1) || decide (r.a2 > 1073741823)) := rfl
            refine stp ?_
            refine ⟨⟨Int.natCast_nonneg _, show ((2 : Nat) : Int) < 5 by decide⟩, splitO_eq (b := .bp (0, nx) (1 + 2)) (congrArg (AV.bp (0, nx)) (by rw [c_intT]; rfl)) ?_⟩
            refine stp ?_
            intro c hc
            have hc2 : c = decide (r.a2 < -1) := hc
            clear hc
            rw [← hc2] at hbk
            clear hc2
            cases c
            · refine stp ?_
              refine ⟨⟨Int.natCast_nonneg _, show ((2 : Nat) : Int) < 5 by decide⟩, splitO_eq (b := .bp (0, nx) (1 + 2)) (congrArg (AV.bp (0, nx)) (by rw [c_intT]; rfl)) ?_⟩
              refine stp ?_
              intro c hc
              have hc2 : c = decide (r.a2 > 1073741823) := hc
              clear hc
              rw [← hc2, Bool.false_or] at hbk
              clear hc2
              cases c
              · refine stp ?_
                exact back (2 + 1, nx4) ⟨by dsimp only; omega, fun j hj => by dsimp only at hj; rcases Nat.lt_or_ge j 2 with q | q; exact h4 j q; rw [show j = 2 by omega]; exact hbk⟩ (by dsimp only; omega) (ele_tell (pm := []) _ [] rfl rfl (List.Sublist.refl _) (List.Sublist.refl _) (BxLe.refl _) trivial ⟨AVle.refl _, AVle.refl _, AVle.refl _, AVle.refl _, trivial⟩)
              · rw [bad_some (k := 2) (by decide) hbk.symm]
                refine stp ?_
                exact ret_tells rfl (AVle.refl _)
            · rw [Bool.true_or] at hbk
              rw [bad_some (k := 2) (by decide) hbk.symm]
              refine stp ?_
              exact ret_tells rfl (AVle.refl _)
          · have hbk : badN (r.num 3) = (decide (r.a3 < -1) || decide (r.a3 > 1073741823)) := rfl
            refine stp ?_
            refine ⟨⟨Int.natCast_nonneg _, show ((3 : Nat) : Int) < 5 by decide⟩, splitO_eq (b := .bp (0, nx) (1 + 3)) (congrArg (AV.bp (0, nx)) (by rw [c_intT]; rfl)) ?_⟩
            refine stp ?_
            intro c hc
            have hc2 : c = decide (r.a3 < -1) := hc
            clear hc
            rw [← hc2] at hbk
            clear hc2
            cases c
            · refine stp ?_
              refine ⟨⟨Int.natCast_nonneg _, show ((3 : Nat) : Int) < 5 by decide⟩, splitO_eq (b := .bp (0, nx) (1 + 3)) (congrArg (AV.bp (0, nx)) (by rw [c_intT]; rfl)) ?_⟩
              refine stp ?_
              intro c hc
              have hc2 : c = decide (r.a3 > 1073741823) := hc
              clear hc
              rw [← hc2, Bool.false_or] at hbk
              clear hc2
              cases c
              · refine stp ?_
                exact back (3 + 1, nx4) ⟨by dsimp only; omega, fun j hj => by dsimp only at hj; rcases Nat.lt_or_ge j 3 with q | q; exact h4 j q; rw [show j = 3 by omega]; exact hbk⟩ (by dsimp only; omega) (ele_tell (pm := []) _ [] rfl rfl (List.Sublist.refl _) (List.Sublist.refl _) (BxLe.refl _) trivial ⟨AVle.refl _, AVle.refl _, AVle.refl _, AVle.refl _, trivial⟩)
              · rw [bad_some (k := 3) (by decide) hbk.symm]
                refine stp ?_
                exact ret_tells rfl (AVle.refl _)
            · rw [Bool.true_or] at hbk
              rw [bad_some (k := 3) (by decide) hbk.symm]
              refine stp ?_
              exact ret_tells rfl (AVle.refl _)
          · have hbk : badN (r.num 4) = (decide (r.a4 < -1) || decide (r.a4 > 1073741823)) := rfl
            refine stp ?_
            refine ⟨⟨Int.natCast_nonneg _, show ((4 : Nat) : Int) < 5 by decide⟩, splitO_eq (b := .bp (0, nx) (1 + 4)) (congrArg (AV.bp (0, nx)) (by rw [c_intT]; rfl)) ?_⟩
            refine stp ?_
            intro c hc
            have hc2 : c = decide (r.a4 < -1) := hc
            clear hc
            rw [← hc2] at hbk
            clear hc2
            cases c
            · refine stp ?_
              refine ⟨⟨Int.natCast_nonneg _, show ((4 : Nat) : Int) < 5 by decide⟩, splitO_eq (b := .bp (0, nx) (1 + 4)) (congrArg (AV.bp (0, nx)) (by rw [c_intT]; rfl)) ?_⟩
              refine stp ?_
              intro c hc
              have hc2 : c = decide (r.a4 > 1073741823) := hc
              clear hc
              rw [← hc2, Bool.false_or] at hbk
              clear hc2
              cases c
              · refine stp ?_
                exact back (4 + 1, nx4) ⟨by dsimp only; omega, fun j hj => by dsimp only at hj; rcases Nat.lt_or_ge j 4 with q | q; exact h4 j q; rw [show j = 4 by omega]; exact hbk⟩ (by dsimp only; omega) (ele_tell (pm := []) _ [] rfl rfl (List.Sublist.refl _) (List.Sublist.refl _) (BxLe.refl _) trivial ⟨AVle.refl _, AVle.refl _, AVle.refl _, AVle.refl _, trivial⟩)
              · rw [bad_some (k := 4) (by decide) hbk.symm]
                refine stp ?_
                exact ret_tells rfl (AVle.refl _)
            · rw [Bool.true_or] at hbk
              rw [bad_some (k := 4) (by decide) hbk.symm]
              refine stp ?_
              exact ret_tells rfl (AVle.refl _)
          · rw [bad_none h4, if_neg (by decide)]
            have hmb := mux_tests r
            (refine stpR ?_; refine aw_region ?_; refine stpR ?_)
            refine aw_mid2 (fun y : Nat => mk 140 [(0, trows l), (1, int i), (5, .bp (0, nx) 0)] ⟨[((0, nx), .c (trowC r))], [], y, 1⟩) (fun _ => muxBad r = false) ?_ ?_
            · refine aw_region ?_
              refine stp ?_
              intro c t1; cases c
              · refine stp ?_
                intro c t2; cases c
                · refine stp ?_
                  intro c t3; cases c
                  · refine stp ?_
                    intro c t5; cases c
                    · have e : muxBad r = false := by rw [hmb, ← t1, ← t2, ← t3, ← t5]; rfl
                      refine stp ?_
                      exact ⟨nx4, e, ele_tell (pm := []) _ [] rfl rfl (List.Sublist.refl _) (List.Sublist.refl _) (BxLe.refl _) trivial ⟨AVle.refl _, AVle.refl _, AVle.refl _, trivial⟩⟩
                    · refine stp ?_
                      intro c t6; cases c
                      · refine stp ?_
                        intro c t7; cases c
                        · have e : muxBad r = false := by rw [hmb, ← t1, ← t2, ← t3, ← t5, ← t6, ← t7]; rfl
                          refine stp ?_
                          exact ⟨nx4, e, ele_tell (pm := []) _ [] rfl rfl (List.Sublist.refl _) (List.Sublist.refl _) (BxLe.refl _) trivial ⟨AVle.refl _, AVle.refl _, AVle.refl _, trivial⟩⟩
                        · have e : muxBad r = true := by rw [hmb, ← t1, ← t2, ← t3, ← t5, ← t6, ← t7]; rfl
                          rw [if_pos e]
                          refine stp ?_
                          exact ret_tells rfl (AVle.refl _)
                      · have e : muxBad r = true := by rw [hmb, ← t1, ← t2, ← t3, ← t5, ← t6]; rfl
                        rw [if_pos e]
                        refine stp ?_
                        exact ret_tells rfl (AVle.refl _)
                  · refine stp ?_
                    intro c t4; cases c
                    · refine stp ?_
                      intro c t5; cases c
                      · have e : muxBad r = false := by rw [hmb, ← t1, ← t2, ← t3, ← t4, ← t5]; rfl
                        refine stp ?_
                        exact ⟨nx4, e, ele_tell (pm := []) _ [] rfl rfl (List.Sublist.refl _) (List.Sublist.refl _) (BxLe.refl _) trivial ⟨AVle.refl _, AVle.refl _, AVle.refl _, trivial⟩⟩
                      · refine stp ?_
                        intro c t6; cases c
                        · refine stp ?_
                          intro c t7; cases c
                          · have e : muxBad r = false := by rw [hmb, ← t1, ← t2, ← t3, ← t4, ← t5, ← t6, ← t7]; rfl
                            refine stp ?_
                            exact ⟨nx4, e, ele_tell (pm := []) _ [] rfl rfl (List.Sublist.refl _) (List.Sublist.refl _) (BxLe.refl _) trivial ⟨AVle.refl _, AVle.refl _, AVle.refl _, trivial⟩⟩
                          · have e : muxBad r = true := by rw [hmb, ← t1, ← t2, ← t3, ← t4, ← t5, ← t6, ← t7]; rfl
                            rw [if_pos e]
                            refine stp ?_
                            exact ret_tells rfl (AVle.refl _)
                        · have e : muxBad r = true := by rw [hmb, ← t1, ← t2, ← t3, ← t4, ← t5, ← t6]; rfl
                          rw [if_pos e]
                          refine stp ?_
                          exact ret_tells rfl (AVle.refl _)
                    · have e : muxBad r = true := by rw [hmb, ← t1, ← t2, ← t3, ← t4]; rfl
                      rw [if_pos e]
                      refine stp ?_
                      exact ret_tells rfl (AVle.refl _)
                · have e : muxBad r = true := by rw [hmb, ← t1, ← t2]; rfl
                  rw [if_pos e]
                  refine stp ?_
                  exact ret_tells rfl (AVle.refl _)
              · have e : muxBad r = true := by rw [hmb, ← t1]; rfl
                rw [if_pos e]
                refine stp ?_
                exact ret_tells rfl (AVle.refl _)
            · rintro nx5 hmz
              rw [hmz, if_neg (by decide)]
              have ha2 := a2_tests r
              refine stp ?_
              refine splitO_eq (b := int r.a2) rfl ?_
              refine stp ?_
              intro c t1; cases c
              rotate_left
              · have e : a2Bad r = true := by rw [ha2, ← t1]; rfl
                rw [if_pos e]
                refine stp ?_
                exact ret_tells rfl (AVle.refl _)
              refine stp ?_
              refine splitO_eq (b := int r.a2) rfl ?_
              refine stp ?_
              intro c t2; cases c
              rotate_left
              · have e : a2Bad r = true := by rw [ha2, ← t1, ← t2]; rfl
                rw [if_pos e]
                refine stp ?_
                exact ret_tells rfl (AVle.refl _)
              have e : a2Bad r = false := by rw [ha2, ← t1, ← t2]; rfl
              rw [if_neg (by rw [e]; decide)]
              refine stp ?_
              refine aw_loop (fun y : Nat × Nat => mk 140 [(0, trows l), (1, int i), (5, .bp (0, nx) 0), (7, int y.1)] ⟨[((0, nx), .c (trowC r))], [], y.2, 1⟩) (fun y => y.1 ≤ i ∧ ∀ j, j < y.1 → (clashN r (l.getD j trow0) || clashM r (l.getD j trow0)) = false) (fun y => i - y.1) ?_ ?_
              · exact ⟨(0, nx5), ⟨Nat.zero_le _, fun j h => absurd h (Nat.not_lt_zero _)⟩, ele_tell (pm := []) _ [] rfl rfl (List.Sublist.refl _) (List.Sublist.refl _) (BxLe.refl _) trivial ⟨AVle.refl _, AVle.refl _, AVle.refl _, AVle.refl _, trivial⟩⟩
              · rintro ⟨k, nx6⟩ ⟨m3, m4⟩
                dsimp only at m3 m4
                refine stp ?_
                intro c g; cases c
                · have g := not_of g
                  try dsimp only at g
                  have hk : k = i := by omega
                  subst hk
                  rw [clash_false hrr (Nat.le_of_lt hi) m4, if_neg (by decide)]
                  refine stp ?_
                  exact ret_tells rfl (AVle.refl _)
                have g := yes_of g
                try dsimp only at g
                have hk : k < i := by omega
                refine stp ?_
                refine aw_loop (fun y : Nat × Nat => mk 140 [(0, trows l), (1, int i), (5, .bp (0, nx) 0), (7, int k), (8, int y.1)] ⟨[((0, nx), .c (trowC r))], [], y.2, 1⟩) (fun y => y.1 ≤ 5 ∧ ∀ j, j < y.1 → cN r (l.getD k trow0) j = false) (fun y => 5 - y.1) ?_ ?_
                · exact ⟨(0, nx6), ⟨Nat.zero_le _, fun j h => absurd h (Nat.not_lt_zero _)⟩, ele_tell (pm := []) _ [] rfl rfl (List.Sublist.refl _) (List.Sublist.refl _) (BxLe.refl _) trivial ⟨AVle.refl _, AVle.refl _, AVle.refl _, AVle.refl _, AVle.refl _, trivial⟩⟩
                · rintro ⟨a, nx8⟩ ⟨n3, n4⟩
                  dsimp only at n3 n4
                  obtain rfl | rfl | rfl | rfl | rfl | rfl : a = 0 ∨ a = 1 ∨ a = 2 ∨ a = 3 ∨ a = 4 ∨ a = 5 := by omega
                  · have hcn : cN r (l.getD k trow0) 0 = (decide (r.a0 ≥ 0) && decide ((l.getD k trow0).a0 = r.a0)) := rfl
                    cases hd : decide (r.a0 ≥ 0) with
                    | false =>
                      have e : cN r (l.getD k trow0) 0 = false := by rw [hcn, hd]; rfl
                      (refine stpR ?_; refine aw_region ?_; refine stpR ?_)
                      (refine aw_draw 19 ?_ ?_ ?_ ?_; (· kernel_rfl); (· kernel_rfl); (· kernel_rfl))
                      refine stp ?_
                      refine ⟨⟨Int.natCast_nonneg _, show ((0 : Nat) : Int) < 5 by decide⟩, splitO_eq (b := .bp (0, nx) (1 + 0)) (congrArg (AV.bp (0, nx)) (by rw [c_intT]; rfl)) ?_⟩
                      refine stp ?_
                      (conv => whnf)
                      refine lit_eq hd ?_
                      refine stp ?_
                      exact back (0 + 1, nx8) ⟨by dsimp only; omega, fun j hj => by dsimp only at hj; rcases Nat.lt_or_ge j 0 with q | q; exact n4 j q; rw [show j = 0 by omega]; exact e⟩ (by dsimp only; omega) (ele_tell (pm := []) _ [] rfl rfl (List.Sublist.refl _) (List.Sublist.refl _) (BxLe.refl _) trivial ⟨AVle.refl _, AVle.refl _, AVle.refl _, AVle.refl _, AVle.refl _, trivial⟩)
                    | true =>
                      (refine stpR ?_; refine aw_region ?_; refine stpR ?_)
                      (refine aw_draw 19 ?_ ?_ ?_ ?_; (· kernel_rfl); (· kernel_rfl); (· kernel_rfl))
                      refine stp ?_
                      refine ⟨⟨Int.natCast_nonneg _, show ((0 : Nat) : Int) < 5 by decide⟩, splitO_eq (b := .bp (0, nx) (1 + 0)) (congrArg (AV.bp (0, nx)) (by rw [c_intT]; rfl)) ?_⟩
                      refine stp ?_
                      (conv => whnf)
                      refine lit_eq hd ?_
                      refine stp ?_
                      refine ⟨⟨by first | omega | (dsimp only; omega), by first | omega | (dsimp only; omega)⟩, ?_⟩
                      refine stp ?_
                      refine ⟨⟨Int.natCast_nonneg _, show ((0 : Nat) : Int) < 5 by decide, by rw [c_intT]; exact Nat.le_of_ble_eq_true rfl⟩, splitO_eq (b := .rp (List.drop (1 + 0) (trowC (l.getD k trow0)))) (congrArg AV.rp (by rw [c_intT]; rfl)) ?_⟩
                      refine stp ?_
                      refine ⟨⟨Int.natCast_nonneg _, show ((0 : Nat) : Int) < 5 by decide⟩, splitO_eq (b := .bp (0, nx) (1 + 0)) (congrArg (AV.bp (0, nx)) (by rw [c_intT]; rfl)) ?_⟩
                      refine stp ?_
                      intro c hc
                      have hc2 : c = decide ((l.getD k trow0).a0 = r.a0) := hc.trans (by rw [Bool.eq_iff_iff]; simp)
                      clear hc
                      rw [hd, ← hc2, Bool.true_and] at hcn
                      clear hc2
                      cases c
                      · have e := hcn
                        refine stp ?_
                        exact back (0 + 1, nx8) ⟨by dsimp only; omega, fun j hj => by dsimp only at hj; rcases Nat.lt_or_ge j 0 with q | q; exact n4 j q; rw [show j = 0 by omega]; exact e⟩ (by dsimp only; omega) (ele_tell (pm := []) _ [] rfl rfl (List.Sublist.refl _) (List.Sublist.refl _) (BxLe.refl _) trivial ⟨AVle.refl _, AVle.refl _, AVle.refl _, AVle.refl _, AVle.refl _, trivial⟩)
                      · rw [clash_true hrr hk hi (by rw [clashN_true (a := 0) (by decide) hcn]; rfl), if_pos rfl]
                        refine stp ?_
                        exact ret_tells rfl (AVle.refl _)
                  · have hcn : cN r (l.getD k trow0) 1 = (decide (r.a1 ≥ 0) && decide ((l.getD k trow0).a1 = r.a1)) := rfl
                    cases hd : decide (r.a1 ≥ 0) with
                    | false =>
                      have e : cN r (l.getD k trow0) 1 = false := by rw [hcn, hd]; rfl
                      (refine stpR ?_; refine aw_region ?_; refine stpR ?_)
                      (refine aw_draw 19 ?_ ?_ ?_ ?_; (· kernel_rfl); (· kernel_rfl); (· kernel_rfl))
                      refine stp ?_
                      refine ⟨⟨Int.natCast_nonneg _, show ((1 : Nat) : Int) < 5 by decide⟩, splitO_eq (b := .bp (0, nx) (1 + 1)) (congrArg (AV.bp (0, nx)) (by rw [c_intT]; rfl)) ?_⟩
                      refine stp ?_
                      (conv => whnf)
                      refine lit_eq hd ?_
                      refine stp ?_
                      exact back (1 + 1, nx8) ⟨by dsimp only; omega, fun j hj => by dsimp only at hj; rcases Nat.lt_or_ge j 1 with q | q; exact n4 j q; rw [show j = 1 by omega]; exact e⟩ (by dsimp only; omega) (ele_tell (pm := []) _ [] rfl rfl (List.Sublist.refl _) (List.Sublist.refl _) (BxLe.refl _) trivial ⟨AVle.refl _, AVle.refl _, AVle.refl _, AVle.refl _, AVle.refl _, trivial⟩)
                    | true =>
                      (refine stpR ?_; refine aw_region ?_; refine stpR ?_)
                      (refine aw_draw 19 ?_ ?_ ?_ ?_; (· kernel_rfl); (· kernel_rfl); (· kernel_rfl))
                      refine stp ?_
                      refine ⟨⟨Int.natCast_nonneg _, show ((1 : Nat) : Int) < 5 by decide⟩, splitO_eq (b := .bp (0, nx) (1 + 1)) (congrArg (AV.bp (0, nx)) (by rw [c_intT]; rfl)) ?_⟩
                      refine stp ?_
                      (conv => whnf)
                      refine lit_eq hd ?_
                      refine stp ?_
                      refine ⟨⟨by first | omega | (dsimp only; omega), by first | omega | (dsimp only; omega)⟩, ?_⟩
                      refine stp ?_
                      refine ⟨⟨Int.natCast_nonneg _, show ((1 : Nat) : Int) < 5 by decide, by rw [c_intT]; exact Nat.le_of_ble_eq_true rfl⟩, splitO_eq (b := .rp (List.drop (1 + 1) (trowC (l.getD k trow0)))) (congrArg AV.rp (by rw [c_intT]; rfl)) ?_⟩
                      refine stp ?_
                      refine ⟨⟨Int.natCast_nonneg _, show ((1 : Nat) : Int) < 5 by decide⟩, splitO_eq (b := .bp (0, nx) (1 + 1)) (congrArg (AV.bp (0, nx)) (by rw [c_intT]; rfl)) ?_⟩
                      refine stp ?_
                      intro c hc
                      have hc2 : c = decide ((l.getD k trow0).a1 = r.a1) := hc.trans (by rw [Bool.eq_iff_iff]; simp)
                      clear hc
                      rw [hd, ← hc2, Bool.true_and] at hcn
                      clear hc2
                      cases c
                      · have e := hcn
                        refine stp ?_
                        exact back (1 + 1, nx8) ⟨by dsimp only; omega, fun j hj => by dsimp only at hj; rcases Nat.lt_or_ge j 1 with q | q; exact n4 j q; rw [show j = 1 by omega]; exact e⟩ (by dsimp only; omega) (ele_tell (pm := []) _ [] rfl rfl (List.Sublist.refl _) (List.Sublist.refl _) (BxLe.refl _) trivial ⟨AVle.refl _, AVle.refl _, AVle.refl _, AVle.refl _, AVle.refl _, trivial⟩)
                      · rw [clash_true hrr hk hi (by rw [clashN_true (a := 1) (by decide) hcn]; rfl), if_pos rfl]
                        refine stp ?_
                        exact ret_tells rfl (AVle.refl _)
                  · have hcn : cN r (l.getD k trow0) 2 = (decide (r.a2 ≥ 0) && decide ((l.getD k trow0).a2 = r.a2)) := rfl
                    cases hd : decide (r.a2 ≥ 0) with
                    | false =>
                      have e : cN r (l.getD k trow0) 2 = false := by rw [hcn, hd]; rfl
                      (refine stpR ?_; refine aw_region ?_; refine stpR ?_)
                      (refine aw_draw 19 ?_ ?_ ?_ ?_; (· kernel_rfl); (· kernel_rfl); (· kernel_rfl))
                      refine stp ?_
                      refine ⟨⟨Int.natCast_nonneg _, show ((2 : Nat) : Int) < 5 by decide⟩, splitO_eq (b := .bp (0, nx) (1 + 2)) (congrArg (AV.bp (0, nx)) (by rw [c_intT]; rfl)) ?_⟩
                      refine stp ?_
                      (conv => whnf)
                      refine lit_eq hd ?_
                      refine stp ?_
                      exact back (2 + 1, nx8) ⟨by dsimp only; omega, fun j hj => by dsimp only at hj; rcases Nat.lt_or_ge j 2 with q | q; exact n4 j q; rw [show j = 2 by omega]; exact e⟩ (by dsimp only; omega) (ele_tell (pm := []) _ [] rfl rfl (List.Sublist.refl _) (List.Sublist.refl _) (BxLe.refl _) trivial ⟨AVle.refl _, AVle.refl _, AVle.refl _, AVle.refl _, AVle.refl _, trivial⟩)
                    | true =>
                      (refine stpR ?_; refine aw_region ?_; refine stpR ?_)
                      (refine aw_draw 19 ?_ ?_ ?_ ?_; (· kernel_rfl); (· kernel_rfl); (· kernel_rfl))
                      refine stp ?_
                      refine ⟨⟨Int.natCast_nonneg _, show ((2 : Nat) : Int) < 5 by decide⟩, splitO_eq (b := .bp (0, nx) (1 + 2)) (congrArg (AV.bp (0, nx)) (by rw [c_intT]; rfl)) ?_⟩
                      refine stp ?_
                      (conv => whnf)
                      refine lit_eq hd ?_
                      refine stp ?_
                      refine ⟨⟨by first | omega | (dsimp only; omega), by first | omega | (dsimp only; omega)⟩, ?_⟩
                      refine stp ?_
                      refine ⟨⟨Int.natCast_nonneg _, show ((2 : Nat) : Int) < 5 by decide, by rw [c_intT]; exact Nat.le_of_ble_eq_true rfl⟩, splitO_eq (b := .rp (List.drop (1 + 2) (trowC (l.getD k trow0)))) (congrArg AV.rp (by rw [c_intT]; rfl)) ?_⟩
                      refine stp ?_
                      refine ⟨⟨Int.natCast_nonneg _, show ((2 : Nat) : Int) < 5 by decide⟩, splitO_eq (b := .bp (0, nx) (1 + 2)) (congrArg (AV.bp (0, nx)) (by rw [c_intT]; rfl)) ?_⟩
                      refine stp ?_
                      intro c hc
                      have hc2 : c = decide ((l.getD k trow0).a2 = r.a2) := hc.trans (by rw [Bool.eq_iff_iff]; simp)
                      clear hc
                      rw [hd, ← hc2, Bool.true_and] at hcn
                      clear hc2
                      cases c
                      · have e := hcn
                        refine stp ?_
                        exact back (2 + 1, nx8) ⟨by dsimp only; omega, fun j hj => by dsimp only at hj; rcases Nat.lt_or_ge j 2 with q | q; exact n4 j q; rw [show j = 2 by omega]; exact e⟩ (by dsimp only; omega) (ele_tell (pm := []) _ [] rfl rfl (List.Sublist.refl _) (List.Sublist.refl _) (BxLe.refl _) trivial ⟨AVle.refl _, AVle.refl _, AVle.refl _, AVle.refl _, AVle.refl _, trivial⟩)
                      · rw [clash_true hrr hk hi (by rw [clashN_true (a := 2) (by decide) hcn]; rfl), if_pos rfl]
                        refine stp ?_
                        exact ret_tells rfl (AVle.refl _)
                  · have hcn : cN r (l.getD k trow0) 3 = (decide (r.a3 ≥ 0) && decide ((l.getD k trow0).a3 = r.a3)) := rfl
                    cases hd : decide (r.a3 ≥ 0) with
                    | false =>
                      have e : cN r (l.getD k trow0) 3 = false := by rw [hcn, hd]; rfl
                      (refine stpR ?_; refine aw_region ?_; refine stpR ?_)
                      (refine aw_draw 19 ?_ ?_ ?_ ?_; (· kernel_rfl); (· kernel_rfl); (· kernel_rfl))
                      refine stp ?_
                      refine ⟨⟨Int.natCast_nonneg _, show ((3 : Nat) : Int) < 5 by decide⟩, splitO_eq (b := .bp (0, nx) (1 + 3)) (congrArg (AV.bp (0, nx)) (by rw [c_intT]; rfl)) ?_⟩
                      refine stp ?_
                      (conv => whnf)
                      refine lit_eq hd ?_
                      refine stp ?_
                      exact back (3 + 1, nx8) ⟨by dsimp only; omega, fun j hj => by dsimp only at hj; rcases Nat.lt_or_ge j 3 with q | q; exact n4 j q; rw [show j = 3 by omega]; exact e⟩ (by dsimp only; omega) (ele_tell (pm := []) _ [] rfl rfl (List.Sublist.refl _) (List.Sublist.refl _) (BxLe.refl _) trivial ⟨AVle.refl _, AVle.refl _, AVle.refl _, AVle.refl _, AVle.refl _, trivial⟩)
                    | true =>
                      (refine stpR ?_; refine aw_region ?_; refine stpR ?_)
                      (refine aw_draw 19 ?_ ?_ ?_ ?_; (· kernel_rfl); (· kernel_rfl); (· kernel_rfl))
                      refine stp ?_
                      refine ⟨⟨Int.natCast_nonneg _, show ((3 : Nat) : Int) < 5 by decide⟩, splitO_eq (b := .bp (0, nx) (1 + 3)) (congrArg (AV.bp (0, nx)) (by rw [c_intT]; rfl)) ?_⟩
                      refine stp ?_
                      (conv => whnf)
                      refine lit_eq hd ?_
                      refine stp ?_
                      refine ⟨⟨by first | omega | (dsimp only; omega), by first | omega | (dsimp only; omega)⟩, ?_⟩
                      refine stp ?_
                      refine ⟨⟨Int.natCast_nonneg _, show ((3 : Nat) : Int) < 5 by decide, by rw [c_intT]; exact Nat.le_of_ble_eq_true rfl⟩, splitO_eq (b := .rp (List.drop (1 + 3) (trowC (l.getD k trow0)))) (congrArg AV.rp (by rw [c_intT]; rfl)) ?_⟩
                      refine stp ?_
                      refine ⟨⟨Int.natCast_nonneg _, show ((3 : Nat) : Int) < 5 by decide⟩, splitO_eq (b := .bp (0, nx) (1 + 3)) (congrArg (AV.bp (0, nx)) (by rw [c_intT]; rfl)) ?_⟩
                      refine stp ?_
                      intro c hc
                      have hc2 : c = decide ((l.getD k trow0).a3 = r.a3) := hc.trans (by rw [Bool.eq_iff_iff]; simp)
                      clear hc
                      rw [hd, ← hc2, Bool.true_and] at hcn
                      clear hc2
                      cases c
                      · have e := hcn
                        refine stp ?_
                        exact back (3 + 1, nx8) ⟨by dsimp only; omega, fun j hj => by dsimp only at hj; rcases Nat.lt_or_ge j 3 with q | q; exact n4 j q; rw [show j = 3 by omega]; exact e⟩ (by dsimp only; omega) (ele_tell (pm := []) _ [] rfl rfl (List.Sublist.refl _) (List.Sublist.refl _) (BxLe.refl _) trivial ⟨AVle.refl _, AVle.refl _, AVle.refl _, AVle.refl _, AVle.refl _, trivial⟩)
                      · rw [clash_true hrr hk hi (by rw [clashN_true (a := 3) (by decide) hcn]; rfl), if_pos rfl]
                        refine stp ?_
                        exact ret_tells rfl (AVle.refl _)
                  · have hcn : cN r (l.getD k trow0) 4 = (decide (r.a4 ≥ 0) && decide ((l.getD k trow0).a4 = r.a4)) := rfl
                    cases hd : decide (r.a4 ≥ 0) with
                    | false =>
                      have e : cN r (l.getD k trow0) 4 = false := by rw [hcn, hd]; rfl
                      (refine stpR ?_; refine aw_region ?_; refine stpR ?_)
                      (refine aw_draw 19 ?_ ?_ ?_ ?_; (· kernel_rfl); (· kernel_rfl); (· kernel_rfl))
                      refine stp ?_
                      refine ⟨⟨Int.natCast_nonneg _, show ((4 : Nat) : Int) < 5 by decide⟩, splitO_eq (b := .bp (0, nx) (1 + 4)) (congrArg (AV.bp (0, nx)) (by rw [c_intT]; rfl)) ?_⟩
                      refine stp ?_
                      (conv => whnf)
                      refine lit_eq hd ?_
                      refine stp ?_
                      exact back (4 + 1, nx8) ⟨by dsimp only; omega, fun j hj => by dsimp only at hj; rcases Nat.lt_or_ge j 4 with q | q; exact n4 j q; rw [show j = 4 by omega]; exact e⟩ (by dsimp only; omega) (ele_tell (pm := []) _ [] rfl rfl (List.Sublist.refl _) (List.Sublist.refl _) (BxLe.refl _) trivial ⟨AVle.refl _, AVle.refl _, AVle.refl _, AVle.refl _, AVle.refl _, trivial⟩)
                    | true =>
                      (refine stpR ?_; refine aw_region ?_; refine stpR ?_)
                      (refine aw_draw 19 ?_ ?_ ?_ ?_; (· kernel_rfl); (· kernel_rfl); (· kernel_rfl))
                      refine stp ?_
                      refine ⟨⟨Int.natCast_nonneg _, show ((4 : Nat) : Int) < 5 by decide⟩, splitO_eq (b := .bp (0, nx) (1 + 4)) (congrArg (AV.bp (0, nx)) (by rw [c_intT]; rfl)) ?_⟩
                      refine stp ?_
                      (conv => whnf)
                      refine lit_eq hd ?_
                      refine stp ?_
                      refine ⟨⟨by first | omega | (dsimp only; omega), by first | omega | (dsimp only; omega)⟩, ?_⟩
                      refine stp ?_
                      refine ⟨⟨Int.natCast_nonneg _, show ((4 : Nat) : Int) < 5 by decide, by rw [c_intT]; exact Nat.le_of_ble_eq_true rfl⟩, splitO_eq (b := .rp (List.drop (1 + 4) (trowC (l.getD k trow0)))) (congrArg AV.rp (by rw [c_intT]; rfl)) ?_⟩
                      refine stp ?_
                      refine ⟨⟨Int.natCast_nonneg _, show ((4 : Nat) : Int) < 5 by decide⟩, splitO_eq (b := .bp (0, nx) (1 + 4)) (congrArg (AV.bp (0, nx)) (by rw [c_intT]; rfl)) ?_⟩
                      refine stp ?_
                      intro c hc
                      have hc2 : c = decide ((l.getD k trow0).a4 = r.a4) := hc.trans (by rw [Bool.eq_iff_iff]; simp)
                      clear hc
                      rw [hd, ← hc2, Bool.true_and] at hcn
                      clear hc2
                      cases c
                      · have e := hcn
                        refine stp ?_
                        exact back (4 + 1, nx8) ⟨by dsimp only; omega, fun j hj => by dsimp only at hj; rcases Nat.lt_or_ge j 4 with q | q; exact n4 j q; rw [show j = 4 by omega]; exact e⟩ (by dsimp only; omega) (ele_tell (pm := []) _ [] rfl rfl (List.Sublist.refl _) (List.Sublist.refl _) (BxLe.refl _) trivial ⟨AVle.refl _, AVle.refl _, AVle.refl _, AVle.refl _, AVle.refl _, trivial⟩)
                      · rw [clash_true hrr hk hi (by rw [clashN_true (a := 4) (by decide) hcn]; rfl), if_pos rfl]
                        refine stp ?_
                        exact ret_tells rfl (AVle.refl _)
                  · have hN := clashN_false n4
                    have hM := clashM_tests r (l.getD k trow0)
                    cases hd1 : decide (r.mux > 0) with
                    | false =>
                      have e : clashM r (l.getD k trow0) = false := by rw [hM, hd1]; rfl
                      (refine stpR ?_; refine aw_region ?_; refine stpR ?_)
                      (refine aw_draw 23 ?_ ?_ ?_ ?_; (· kernel_rfl); (· kernel_rfl); (· kernel_rfl))
                      refine stp ?_
                      (conv => whnf)
                      refine lit_eq hd1 ?_
                      refine stp ?_
                      exact back (k + 1, nx8) ⟨by dsimp only; omega, fun j hj => by dsimp only at hj; rcases Nat.lt_or_ge j k with q | q; exact m4 j q; rw [show j = k by omega, hN, Bool.false_or]; exact e⟩ (by dsimp only; omega) (ele_tell (pm := []) _ [] rfl rfl (List.Sublist.refl _) (List.Sublist.refl _) (BxLe.refl _) trivial ⟨AVle.refl _, AVle.refl _, AVle.refl _, le_int (wrap_succ (by first | omega | (dsimp only; omega))), trivial⟩)
                    | true =>
                      cases hd2 : ((l.getD k trow0).mux == r.mux) with
                      | false =>
                        have e : clashM r (l.getD k trow0) = false := by rw [hM, hd1, hd2]; rfl
                        (refine stpR ?_; refine aw_region ?_; refine stpR ?_)
                        (refine aw_draw 23 ?_ ?_ ?_ ?_; (· kernel_rfl); (· kernel_rfl); (· kernel_rfl))
                        refine stp ?_
                        (conv => whnf)
                        refine lit_eq hd1 ?_
                        refine stp ?_
                        refine ⟨⟨by first | omega | (dsimp only; omega), by first | omega | (dsimp only; omega)⟩, ?_⟩
                        refine stp ?_
                        (conv => whnf)
                        refine lit_eq hd2 ?_
                        refine stp ?_
                        exact back (k + 1, nx8) ⟨by dsimp only; omega, fun j hj => by dsimp only at hj; rcases Nat.lt_or_ge j k with q | q; exact m4 j q; rw [show j = k by omega, hN, Bool.false_or]; exact e⟩ (by dsimp only; omega) (ele_tell (pm := []) _ [] rfl rfl (List.Sublist.refl _) (List.Sublist.refl _) (BxLe.refl _) trivial ⟨AVle.refl _, AVle.refl _, AVle.refl _, le_int (wrap_succ (by first | omega | (dsimp only; omega))), trivial⟩)
                      | true =>
                        (refine stpR ?_; refine aw_region ?_; refine stpR ?_)
                        (refine aw_draw 23 ?_ ?_ ?_ ?_; (· kernel_rfl); (· kernel_rfl); (· kernel_rfl))
                        refine stp ?_
                        (conv => whnf)
                        refine lit_eq hd1 ?_
                        refine stp ?_
                        refine ⟨⟨by first | omega | (dsimp only; omega), by first | omega | (dsimp only; omega)⟩, ?_⟩
                        refine stp ?_
                        (conv => whnf)
                        refine lit_eq hd2 ?_
                        refine stp ?_
                        refine ⟨⟨by first | omega | (dsimp only; omega), by first | omega | (dsimp only; omega)⟩, ?_⟩
                        refine stp ?_
                        intro c hc
                        have hc2 : c = ((l.getD k trow0).sub == r.sub) := hc
                        clear hc
                        rw [hd1, hd2, ← hc2, Bool.true_and, Bool.true_and] at hM
                        clear hc2
                        cases c
                        · have e := hM
                          refine stp ?_
                          exact back (k + 1, nx8) ⟨by dsimp only; omega, fun j hj => by dsimp only at hj; rcases Nat.lt_or_ge j k with q | q; exact m4 j q; rw [show j = k by omega, hN, Bool.false_or]; exact e⟩ (by dsimp only; omega) (ele_tell (pm := []) _ [] rfl rfl (List.Sublist.refl _) (List.Sublist.refl _) (BxLe.refl _) trivial ⟨AVle.refl _, AVle.refl _, AVle.refl _, le_int (wrap_succ (by first | omega | (dsimp only; omega))), trivial⟩)
                        · rw [clash_true hrr hk hi (by rw [hM, Bool.or_true]), if_pos rfl]
                          refine stp ?_
                          exact ret_tells rfl (AVle.refl _)
end Go.Proofs.W

namespace Go.Proofs.W
open Go.Vl
set_option maxRecDepth 100000

def right11 (l : List TRow) : Int × Int := if 400 < l.length then (0, 3) else match (List.range l.length).find? (fun i => decide (rowI l i ≠ 0)) with
  | some i => ((i : Int), rowI l i)
  | none => (0, 0)
theorem find_range {n : Nat} {p : Nat → Bool} {i : Nat} (hi : i < n) (h : ∀ j, j < i → p j = false) (hp : p i = true) : (List.range n).find? p = some i := by
  rw [List.find?_range_eq_some]
  exact ⟨hp, List.mem_range.2 hi, fun j hj => by rw [h j hj]; rfl⟩
theorem find_range0 {n : Nat} {p : Nat → Bool} (h : ∀ j, j < n → p j = false) : (List.range n).find? p = none := by
  rw [List.find?_eq_none]
  intro x hx
  rw [h x (List.mem_range.1 hx)]; decide
theorem ref11right_spec (l : List TRow) (hl : l.length ≤ 1000000) : Tells Tryz.prog 24 [trows l] (.tup [int (right11 l).1, int (right11 l).2]) := by
  unfold right11
  refine tells_of_aw Tryz.func24 rfl rfl fun nx => ?_
  by_cases h4 : 400 < l.length
  · rw [if_pos h4]
    refine stp ?_
    intro c hc
    obtain rfl : c = true := hc.trans (decide_eq_true (by omega))
    refine stp ?_
    exact ret_tells rfl (AVle.refl _)
  · rw [if_neg h4]
    refine stp ?_
    intro c hc
    obtain rfl : c = false := hc.trans (decide_eq_false (by omega))
    refine stp ?_
    refine aw_loop (fun y : Nat × Nat => mk 22 [(0, trows l), (4, int y.1)] ⟨[], [], y.2, 0⟩) (fun y => y.1 ≤ l.length ∧ ∀ j, j < y.1 → rowI l j = 0) (fun y => l.length - y.1) ?_ ?_
    · exact ⟨(0, nx), ⟨Nat.zero_le _, fun j hj => absurd hj (Nat.not_lt_zero _)⟩, ele_mk rfl rfl ⟨AVle.refl _, AVle.refl _, trivial⟩⟩
    · rintro ⟨i, nx2⟩ ⟨h1, h2⟩
      dsimp only at h1 h2
      refine stp ?_
      intro c g; cases c
      · have g := not_of g
        try dsimp only at g
        have hi : i = l.length := by omega
        subst hi
        rw [find_range0 (fun j hj => decide_eq_false (fun q => q (h2 j hj)))]
        refine stp ?_
        exact ret_tells rfl (AVle.refl _)
      · have g := yes_of g
        try dsimp only at g
        have hi : i < l.length := by omega
        have hrow := ref11row_spec l i hi hl
        refine stp ?_
        refine aop_tells rfl rfl hrow ⟨AVle.refl _, AVle.refl _, trivial⟩ fun nx3 => ?_
        refine stp ?_
        intro c hc
        have hc2 : c = decide (rowI l i ≠ 0) := hc.trans (by rw [Bool.eq_iff_iff]; simp)
        clear hc
        cases c
        · have e : rowI l i = 0 := by have := of_decide_eq_false hc2.symm; omega
          clear hc2
          refine stp ?_
          exact back (i + 1, nx3) ⟨hi, fun j hj => by dsimp only at hj; rcases Nat.lt_or_ge j i with q | q; exact h2 j q; rw [show j = i by omega]; exact e⟩ (by dsimp only; omega) (ele_mk rfl rfl ⟨AVle.refl _, le_int (wrap_succ (by first | omega | (dsimp only; omega))), trivial⟩)
        · have e : (List.range l.length).find? (fun i => decide (rowI l i ≠ 0)) = some i := find_range hi (fun j hj => decide_eq_false (fun q => q (h2 j hj))) hc2.symm
          clear hc2
          rw [e]
          refine stp ?_
          exact ret_tells rfl (AVle.refl _)
end Go.Proofs.W

namespace Go.Proofs.W
open Go.Vl
set_option maxRecDepth 100000

/-- What was seen of the rows so far. -/
def SeenOf (l : List TRow) (k : Nat) (S : Seen) : Prop := (∀ (a : Nat) (n : Int), a < 5 → (((a : Int), n) ∈ S ↔ n ≠ -1 ∧ ∃ j, j < k ∧ (l.getD j trow0).num a = n)) ∧ (∀ m s : Int, m = 1 ∨ m = 2 → ((5 + m, s) ∈ S ↔ ∃ j, j < k ∧ (l.getD j trow0).mux = m ∧ (l.getD j trow0).sub = s))
theorem numsR_none {r : TRow} {S : Seen} : ∀ {k : Nat}, numsR r S k = none → ∃ a, a < k ∧ r.num a ≠ -1 ∧ ((a : Int), r.num a) ∈ S
  | 0, h => by unfold numsR at h; cases h
  | k + 1, h => by
    unfold numsR at h
    cases hk : numsR r S k with
    | none => obtain ⟨a, h1, h2⟩ := numsR_none hk; exact ⟨a, by omega, h2⟩
    | some S' =>
      rw [hk] at h
      dsimp only at h
      split at h
      · cases h
      · rename_i hn
        split at h
        · rename_i hm
          refine ⟨k, Nat.lt_succ_self _, hn, ?_⟩
          have : ∀ {m : Nat} {S' : Seen}, numsR r S m = some S' → ∀ x ∈ S', x ∈ S ∨ ∃ a, a < m ∧ x = ((a : Int), r.num a) := by
            intro m
            induction m with
            | zero => intro S' h x hx; unfold numsR at h; cases h; exact .inl hx
            | succ m ih =>
              intro S' h x hx
              unfold numsR at h
              cases hm : numsR r S m with
              | none => rw [hm] at h; cases h
              | some S1 =>
                rw [hm] at h
                dsimp only at h
                split at h
                · cases h
                  rcases ih hm x hx with q | ⟨a, q1, q2⟩
                  · exact .inl q
                  · exact .inr ⟨a, by omega, q2⟩
                · split at h
                  · cases h
                  · cases h
                    rcases List.mem_append.1 hx with hx | hx
                    · rcases ih hm x hx with q | ⟨a, q1, q2⟩
                      · exact .inl q
                      · exact .inr ⟨a, by omega, q2⟩
                    · exact .inr ⟨m, Nat.lt_succ_self _, List.mem_singleton.1 hx⟩
          rcases this hk _ hm with q | ⟨a, q1, q2⟩
          · exact q
          · have := congrArg Prod.fst q2
            dsimp only at this
            omega
        · cases h
theorem numsR_some {r : TRow} {S : Seen} : ∀ {k : Nat} {S' : Seen}, numsR r S k = some S' → (∀ x, x ∈ S' ↔ x ∈ S ∨ ∃ a, a < k ∧ r.num a ≠ -1 ∧ x = ((a : Int), r.num a)) ∧ ∀ a, a < k → r.num a ≠ -1 → ¬ ((a : Int), r.num a) ∈ S
  | 0, S', h => by
    unfold numsR at h; cases h
    exact ⟨fun x => ⟨.inl, fun q => by rcases q with q | ⟨a, q, _⟩; exact q; omega⟩, fun a ha => by omega⟩
  | k + 1, S', h => by
    unfold numsR at h
    cases hk : numsR r S k with
    | none => rw [hk] at h; cases h
    | some S1 =>
      rw [hk] at h
      dsimp only at h
      obtain ⟨i1, i2⟩ := numsR_some hk
      split at h
      · rename_i hn
        cases h
        refine ⟨fun x => (i1 x).trans ⟨fun q => ?_, fun q => ?_⟩, fun a ha hna => ?_⟩
        · rcases q with q | ⟨a, q1, q2⟩
          · exact .inl q
          · exact .inr ⟨a, by omega, q2⟩
        · rcases q with q | ⟨a, q1, q2⟩
          · exact .inl q
          · rcases Nat.lt_or_ge a k with w | w
            · exact .inr ⟨a, w, q2⟩
            · rw [show a = k by omega] at q2; exact absurd hn q2.1
        · rcases Nat.lt_or_ge a k with w | w
          · exact i2 a w hna
          · rw [show a = k by omega] at hna; exact absurd hn hna
      · rename_i hn
        split at h
        · cases h
        · rename_i hm
          cases h
          refine ⟨fun x => ?_, fun a ha hna => ?_⟩
          · rw [List.mem_append, i1, List.mem_singleton]
            constructor
            · rintro ((q | ⟨a, q1, q2⟩) | q)
              · exact .inl q
              · exact .inr ⟨a, by omega, q2⟩
              · exact .inr ⟨k, Nat.lt_succ_self _, hn, q⟩
            · rintro (q | ⟨a, q1, q2, q3⟩)
              · exact .inl (.inl q)
              · rcases Nat.lt_or_ge a k with w | w
                · exact .inl (.inr ⟨a, w, q2, q3⟩)
                · rw [show a = k by omega] at q3; exact .inr q3
          · rcases Nat.lt_or_ge a k with w | w
            · exact i2 a w hna
            · rw [show a = k by omega]
              exact fun q => hm ((i1 _).2 (.inl q))
theorem clash_iff {l : List TRow} {i : Nat} (hi : i < l.length) : clashB l i = true ↔ ∃ j, j < i ∧ ((∃ a, a < 5 ∧ 0 ≤ (l.getD i trow0).num a ∧ (l.getD j trow0).num a = (l.getD i trow0).num a) ∨ (0 < (l.getD i trow0).mux ∧ (l.getD j trow0).mux = (l.getD i trow0).mux ∧ (l.getD j trow0).sub = (l.getD i trow0).sub)) := by
  constructor
  · intro h
    unfold clashB at h
    rw [List.any_eq_true] at h
    obtain ⟨s, hs, h⟩ := h
    obtain ⟨j, hj, rfl⟩ := List.mem_iff_getElem.1 hs
    rw [List.length_take] at hj
    rw [List.getElem_take] at h
    have hg : l.getD j trow0 = l[j] := by simp [List.getD, show j < l.length by omega]
    refine ⟨j, by omega, ?_⟩
    rw [hg]
    rw [Bool.or_eq_true] at h
    rcases h with h | h
    · left
      unfold clashN at h
      rw [List.any_eq_true] at h
      obtain ⟨a, ha, h⟩ := h
      rw [Bool.and_eq_true, decide_eq_true_iff, decide_eq_true_iff] at h
      exact ⟨a, by simp at ha; omega, h⟩
    · right
      unfold clashM at h
      rw [Bool.and_eq_true, Bool.and_eq_true, decide_eq_true_iff, decide_eq_true_iff, decide_eq_true_iff] at h
      exact h
  · rintro ⟨j, hj, h⟩
    refine clash_true rfl hj hi ?_
    rw [Bool.or_eq_true]
    rcases h with ⟨a, ha, h1, h2⟩ | ⟨h1, h2, h3⟩
    · exact .inl (clashN_true ha (by unfold cN; rw [decide_eq_true h1, decide_eq_true h2]; rfl))
    · exact .inr (by unfold clashM; rw [decide_eq_true h1, decide_eq_true h2, decide_eq_true h3]; rfl)
theorem bad_num {r : TRow} (h : badR r = false) {a : Nat} (ha : a < 5) : -1 ≤ r.num a := by
  have : badN (r.num a) = false := by
    cases hq : badN (r.num a) with
    | false => rfl
    | true => rw [bad_some ha hq.symm] at h; cases h
  unfold badN at this
  rw [Bool.or_eq_false_iff, decide_eq_false_iff_not] at this
  omega
theorem row_iff {l : List TRow} {i : Nat} {S : Seen} (hi : i < l.length) (hS : SeenOf l i S) : (rowI l i = 0 → ∃ S', rowE l i S = .ok S' ∧ SeenOf l (i + 1) S') ∧ (rowI l i ≠ 0 → ∃ e, rowE l i S = .error e ∧ e ≠ 0) := by
  obtain ⟨s1, s2⟩ := hS
  cases hn : nameB (l.getD i trow0).name.data.toList with
  | false => rw [rowI_13 hn]; exact ⟨(fun h => by cases h), fun _ => ⟨13, rowE_13 hn, by decide⟩⟩
  | true =>
    rw [rowI_ord hn]
    cases ho : ordB l i with
    | true => rw [if_pos rfl]; exact ⟨(fun h => by cases h), fun _ => ⟨15, rowE_15 hn ho, by decide⟩⟩
    | false =>
      rw [if_neg (by decide)]
      cases hb : badR (l.getD i trow0) with
      | true =>
        rw [if_pos rfl]
        exact ⟨(fun h => by cases h), fun _ => ⟨16, rowE_16 hn ho (by rw [ranged_eq, hb]; rfl), by decide⟩⟩
      | false =>
        rw [if_neg (by decide)]
        cases hm : muxBad (l.getD i trow0) with
        | true =>
          rw [if_pos rfl]
          exact ⟨(fun h => by cases h), fun _ => ⟨16, rowE_16 hn ho (by rw [ranged_eq, hb, hm]; rfl), by decide⟩⟩
        | false =>
          rw [if_neg (by decide)]
          have hrg : rangedR (l.getD i trow0) = true := by rw [ranged_eq, hb, hm]; rfl
          cases ha : a2Bad (l.getD i trow0) with
          | true =>
            rw [if_pos rfl]
            have ha' : (l.getD i trow0).a2 = 102 ∨ (l.getD i trow0).a2 = 117 := by unfold a2Bad at ha; simpa using ha
            exact ⟨(fun h => by cases h), fun _ => ⟨17, rowE_17 hn ho hrg ha', by decide⟩⟩
          | false =>
            rw [if_neg (by decide)]
            have ha' : ¬ ((l.getD i trow0).a2 = 102 ∨ (l.getD i trow0).a2 = 117) := fun q => by
              unfold a2Bad at ha
              rcases q with q | q
              · rw [decide_eq_true q] at ha; cases ha
              · rw [decide_eq_true q, Bool.or_true] at ha; cases ha
            rw [rowE_rest hn ho hrg ha']
            cases hns : numsR (l.getD i trow0) S 5 with
            | none =>
              obtain ⟨a, h1, h2, h3⟩ := numsR_none hns
              obtain ⟨_, j, hj, h4⟩ := (s1 a _ h1).1 h3
              have hc : clashB l i = true := (clash_iff hi).2 ⟨j, hj, .inl ⟨a, h1, by have := bad_num hb h1; omega, h4⟩⟩
              rw [hc, if_pos rfl]
              exact ⟨(fun h => by cases h), fun _ => ⟨15, rfl, by decide⟩⟩
            | some S1 =>
              obtain ⟨i1, i2⟩ := numsR_some hns
              dsimp only
              have hnoN : ∀ j, j < i → ∀ a, a < 5 → 0 ≤ (l.getD i trow0).num a → (l.getD j trow0).num a ≠ (l.getD i trow0).num a := fun j hj a h1 h2 h3 => i2 a h1 (by omega) ((s1 a _ h1).2 ⟨by omega, j, hj, h3⟩)
              have hS1 : ∀ (a : Nat) (n : Int), a < 5 → (((a : Int), n) ∈ S1 ↔ n ≠ -1 ∧ ∃ j, j < i + 1 ∧ (l.getD j trow0).num a = n) := fun a n h5 => by
                rw [i1, s1 a n h5]
                constructor
                · rintro (⟨q1, j, q2, q3⟩ | ⟨b, q1, q2, q3⟩)
                  · exact ⟨q1, j, by omega, q3⟩
                  · have e1 : a = b := by have := congrArg Prod.fst q3; dsimp only at this; omega
                    have e2 : n = (l.getD i trow0).num b := congrArg Prod.snd q3
                    subst e1
                    exact ⟨by rw [e2]; exact q2, i, Nat.lt_succ_self _, e2.symm⟩
                · rintro ⟨q1, j, q2, q3⟩
                  rcases Nat.lt_or_ge j i with w | w
                  · exact .inl ⟨q1, j, w, q3⟩
                  · have e : j = i := by omega
                    subst e
                    exact .inr ⟨a, h5, by rw [q3]; exact q1, by rw [q3]⟩
              unfold muxR
              by_cases hm0 : (l.getD i trow0).mux = 0
              · rw [if_pos hm0]
                have hc : clashB l i = false := by
                  rw [Bool.eq_false_iff, Ne, clash_iff hi]
                  rintro ⟨j, hj, ⟨a, h1, h2, h3⟩ | ⟨h1, _⟩⟩
                  · exact hnoN j hj a h1 h2 h3
                  · omega
                rw [hc, if_neg (by decide)]
                refine ⟨fun _ => ⟨S1, rfl, hS1, fun m s hms => ?_⟩, fun h => absurd rfl h⟩
                rw [i1, s2 m s hms]
                constructor
                · rintro (⟨j, q2, q3⟩ | ⟨b, q1, q2, q3⟩)
                  · exact ⟨j, by omega, q3⟩
                  · have := congrArg Prod.fst q3; dsimp only at this; omega
                · rintro ⟨j, q2, q3, q4⟩
                  rcases Nat.lt_or_ge j i with w | w
                  · exact .inl ⟨j, w, q3, q4⟩
                  · have e : j = i := by omega
                    subst e; omega
              · rw [if_neg hm0]
                have hm12 := ranged_mux hrg hm0
                by_cases hin : (5 + (l.getD i trow0).mux, (l.getD i trow0).sub) ∈ S1
                · rw [if_pos hin]
                  have hinS : (5 + (l.getD i trow0).mux, (l.getD i trow0).sub) ∈ S := by
                    rcases (i1 _).1 hin with q | ⟨b, q1, q2, q3⟩
                    · exact q
                    · have := congrArg Prod.fst q3; dsimp only at this; omega
                  obtain ⟨j, hj, q1, q2⟩ := (s2 _ _ hm12).1 hinS
                  have hc : clashB l i = true := (clash_iff hi).2 ⟨j, hj, .inr ⟨by omega, q1, q2⟩⟩
                  rw [hc, if_pos rfl]
                  exact ⟨(fun h => by cases h), fun _ => ⟨15, rfl, by decide⟩⟩
                · rw [if_neg hin]
                  have hc : clashB l i = false := by
                    rw [Bool.eq_false_iff, Ne, clash_iff hi]
                    rintro ⟨j, hj, ⟨a, h1, h2, h3⟩ | ⟨h1, h2, h3⟩⟩
                    · exact hnoN j hj a h1 h2 h3
                    · exact hin ((i1 _).2 (.inl ((s2 _ _ hm12).2 ⟨j, hj, h2, h3⟩)))
                  rw [hc, if_neg (by decide)]
                  refine ⟨fun _ => ⟨_, rfl, fun a n h5 => ?_, fun m s hms => ?_⟩, fun h => absurd rfl h⟩
                  · rw [List.mem_append, hS1 a n h5, List.mem_singleton]
                    constructor
                    · rintro (q | q)
                      · exact q
                      · have := congrArg Prod.fst q; dsimp only at this; omega
                    · exact .inl
                  · rw [List.mem_append, i1, s2 m s hms, List.mem_singleton]
                    constructor
                    · rintro ((⟨j, q2, q3⟩ | ⟨b, q1, q2, q3⟩) | q)
                      · exact ⟨j, by omega, q3⟩
                      · have := congrArg Prod.fst q3; dsimp only at this; omega
                      · have e1 := congrArg Prod.fst q
                        have e2 := congrArg Prod.snd q
                        dsimp only at e1 e2
                        exact ⟨i, Nat.lt_succ_self _, by omega, e2.symm⟩
                    · rintro ⟨j, q2, q3, q4⟩
                      rcases Nat.lt_or_ge j i with w | w
                      · exact .inl (.inl ⟨j, w, q3, q4⟩)
                      · have e : j = i := by omega
                        subst e
                        exact .inr (by rw [q3, q4])
theorem rowsS_ok {l : List TRow} : ∀ {k : Nat}, k ≤ l.length → (∀ j, j < k → rowI l j = 0) → ∃ S, rowsS l k = .ok S ∧ SeenOf l k S
  | 0, _, _ => ⟨[], rfl, fun a n _ => by simp, fun m s _ => by simp⟩
  | k + 1, hk, h => by
    obtain ⟨S, h1, h2⟩ := rowsS_ok (k := k) (by omega) fun j hj => h j (by omega)
    obtain ⟨S', h3, h4⟩ := (row_iff (by omega) h2).1 (h k (by omega))
    exact ⟨S', rows_next h1 h3, h4⟩
theorem first_bad {l : List TRow} : (∀ j, j < l.length → rowI l j = 0) ∨ ∃ i, i < l.length ∧ rowI l i ≠ 0 ∧ ∀ j, j < i → rowI l j = 0 := by
  have : ∀ n, n ≤ l.length → (∀ j, j < n → rowI l j = 0) ∨ ∃ i, i < l.length ∧ rowI l i ≠ 0 ∧ ∀ j, j < i → rowI l j = 0 := by
    intro n
    induction n with
    | zero => exact fun _ => .inl fun j hj => absurd hj (Nat.not_lt_zero j)
    | succ n ih =>
      intro hn
      rcases ih (by omega) with h | h
      · by_cases q : rowI l n = 0
        · exact .inl fun j hj => by rcases Nat.lt_or_ge j n with w | w; exact h j w; rw [show j = n by omega]; exact q
        · exact .inr ⟨n, by omega, q, h⟩
      · exact .inr h
  exact this _ (Nat.le_refl _)
theorem tab_right (l : List TRow) : (tabR l).2 = 0 ↔ (right11 l).2 = 0 := by
  by_cases h4 : 400 < l.length
  · unfold tabR right11
    rw [if_pos h4, if_pos h4]
  · rcases first_bad (l := l) with h | ⟨i, hi, h1, h2⟩
    · obtain ⟨S, hS, -⟩ := rowsS_ok (Nat.le_refl _) h
      rw [tab_ok h4 hS]
      unfold right11
      rw [if_neg h4, find_range0 (fun j hj => decide_eq_false (fun q => q (h j hj)))]
    · obtain ⟨S, hS, hs⟩ := rowsS_ok (k := i) (by omega) h2
      obtain ⟨e, he, hne⟩ := (row_iff hi hs).2 h1
      rw [tab_err h4 hi hS he]
      unfold right11
      rw [if_neg h4, find_range (p := fun i => decide (rowI l i ≠ 0)) hi (fun j hj => decide_eq_false (fun q => q (h2 j hj))) (decide_eq_true h1)]
      exact ⟨fun q => absurd q hne, fun q => absurd q h1⟩
theorem right_rows {l : List TRow} (h : (tabR l).2 = 0) : l.length ≤ 400 ∧ ∀ j, j < l.length → rowI l j = 0 := by
  rw [tab_right] at h
  unfold right11 at h
  by_cases h4 : 400 < l.length
  · rw [if_pos h4] at h; cases h
  · rcases first_bad (l := l) with q | ⟨i, hi, h1, h2⟩
    · exact ⟨by omega, q⟩
    · rw [if_neg h4, find_range (p := fun i => decide (rowI l i ≠ 0)) hi (fun j hj => decide_eq_false (fun q => q (h2 j hj))) (decide_eq_true h1)] at h
      exact absurd h h1
theorem row_good {l : List TRow} {i : Nat} (h : rowI l i = 0) : nameB (l.getD i trow0).name.data.toList = true ∧ ordB l i = false ∧ badR (l.getD i trow0) = false ∧ muxBad (l.getD i trow0) = false ∧ a2Bad (l.getD i trow0) = false ∧ clashB l i = false := by
  cases hn : nameB (l.getD i trow0).name.data.toList with
  | false => rw [rowI_13 hn] at h; cases h
  | true =>
    rw [rowI_ord hn] at h
    split at h
    · cases h
    split at h
    · cases h
    split at h
    · cases h
    split at h
    · cases h
    split at h
    · cases h
    simp_all
theorem tab_sorted {l : List TRow} (h : (tabR l).2 = 0) : sortedT l := by
  obtain ⟨_, hr⟩ := right_rows h
  have step : ∀ i, i + 1 < l.length → Go.Sort.ltStr (l.getD i trow0).name.data.toList (l.getD (i + 1) trow0).name.data.toList = true := fun i hi => by
    have := (row_good (hr (i + 1) hi)).2.1
    unfold ordB at this
    rw [decide_eq_true (Nat.succ_pos i), Bool.true_and] at this
    exact leB_no this
  intro i j hij hj
  have : ∀ n, i + 1 + n < l.length → Go.Sort.ltStr (l.getD i trow0).name.data.toList (l.getD (i + 1 + n) trow0).name.data.toList = true := by
    intro n
    induction n with
    | zero => exact step i
    | succ n ih => exact fun hn => Go.Sort.swo_ltStr.trans _ _ _ (ih (by omega)) (step (i + 1 + n) (by omega))
  have := this (j - i - 1) (by omega)
  rwa [show i + 1 + (j - i - 1) = j by omega] at this
theorem tab_name {l : List TRow} (h : (tabR l).2 = 0) {i : Nat} (hi : i < l.length) : (l.getD i trow0).name.size ≠ 0 := by
  have := (row_good ((right_rows h).2 i hi)).1
  have := ((nameB_ref _).1 this).1
  exact this
end Go.Proofs.W

namespace Go.Proofs.W
open Go.Vl
set_option maxRecDepth 100000

def nameR (l : List TRow) (r : Rec) : ByteArray := (ofI l r).name
def ownN (l : List TRow) (s : ByteArray) (rs : List Rec) : List Rec := rs.filter fun r => kS s (nameR l r)
def xarg (l : List TRow) (r : Rec) (k : Nat) : Nat := argI (ofI l r).abi.toNat r k
theorem addG_no {s : ByteArray} {x : Nat → Nat} : ∀ {G : List Gat}, (∀ g ∈ G, kS s g.name = false) → addG s x G = G ++ [noteG ⟨s, 0, fun _ => 0, fun _ => false⟩ x]
  | [], _ => rfl
  | g :: G, h => by
    show (if kS s g.name = true then _ else g :: addG s x G) = _
    rw [if_neg (by rw [h g (.head _)]; decide), addG_no fun z hz => h z (.tail _ hz)]; rfl
theorem addG_in {s : ByteArray} {x : Nat → Nat} {g : Gat} (hg : g.name = s) {G2 : List Gat} : ∀ {G1 : List Gat}, (∀ z ∈ G1, kS s z.name = false) → addG s x (G1 ++ g :: G2) = G1 ++ noteG g x :: G2
  | [], _ => by
    show (if kS s g.name = true then noteG g x :: _ else _) = noteG g x :: _
    rw [if_pos (kS_eq.2 hg.symm)]
  | z :: G, h => by
    show (if kS s z.name = true then _ else z :: addG s x (G ++ g :: G2)) = _
    rw [if_neg (by rw [h z (.head _)]; decide), addG_in hg fun y hy => h y (.tail _ hy)]; rfl
def OwnOk (l : List TRow) (rs : List Rec) (g : Gat) : Prop := ∃ r0 rest, ownN l g.name rs = r0 :: rest ∧ g.m = rest.length + 1 ∧ (∀ k, g.a k = xarg l r0 k) ∧ ∀ k, g.b k = rest.all fun r => decide (xarg l r0 k = xarg l r k)
structure GInv (l : List TRow) (rs : List Rec) (S : List Gat × Bool) : Prop where
  nd : (S.1.map Gat.name).Nodup
  nz : ∀ g ∈ S.1, g.name.size ≠ 0
  own : ∀ g ∈ S.1, OwnOk l rs g
  all : ∀ r ∈ rs, (nameR l r).size ≠ 0 → ∃ g ∈ S.1, g.name = nameR l r
  x : S.2 = rs.any fun r => decide ((nameR l r).size ≠ 0) && decide ((ofI l r).abi = 1)
theorem ownN_snoc {l : List TRow} {s : ByteArray} {rs : List Rec} {r : Rec} : ownN l s (rs ++ [r]) = if kS s (nameR l r) then ownN l s rs ++ [r] else ownN l s rs := by
  unfold ownN
  rw [List.filter_append, List.filter_cons]
  split <;> simp
theorem own_keep {l : List TRow} {rs : List Rec} {r : Rec} {g : Gat} (h : OwnOk l rs g) (hk : kS g.name (nameR l r) = false) : OwnOk l (rs ++ [r]) g := by
  obtain ⟨r0, rest, h1, h2⟩ := h
  exact ⟨r0, rest, by rw [ownN_snoc, if_neg (by rw [hk]; decide)]; exact h1, h2⟩
theorem own_note {l : List TRow} {rs : List Rec} {r : Rec} {g : Gat} (h : OwnOk l rs g) (hk : g.name = nameR l r) : OwnOk l (rs ++ [r]) (noteG g (xarg l r)) := by
  obtain ⟨r0, rest, h1, h2, h3, h4⟩ := h
  have hm : ¬ g.m = 0 := by omega
  unfold noteG
  rw [if_neg hm]
  refine ⟨r0, rest ++ [r], ?_, by dsimp only; rw [h2]; simp, h3, fun k => ?_⟩
  · dsimp only
    rw [ownN_snoc, if_pos (kS_eq.2 hk), h1]; rfl
  · dsimp only
    rw [h4, h3, List.all_append]; simp
theorem kS_ne {s t : ByteArray} (h : s ≠ t) : kS s t = false := by
  cases hk : kS s t with
  | false => rfl
  | true => exact absurd (kS_eq.1 hk) h
theorem kS_no {s t : ByteArray} (h : kS s t = false) : s ≠ t := fun e => by rw [kS_eq.2 e] at h; cases h
theorem ginv_nil (l : List TRow) : GInv l [] ([], false) := ⟨List.nodup_nil, by simp, by simp, by simp, rfl⟩
theorem ginv_snoc {l : List TRow} {rs : List Rec} {S : List Gat × Bool} {r : Rec} (h : GInv l rs S) : GInv l (rs ++ [r]) (gatStep l S r) := by
  obtain ⟨G, x⟩ := S
  obtain ⟨nd, nz, own, all, hx⟩ := h
  dsimp only at nd nz own all hx
  have hxs : (rs ++ [r]).any (fun r => decide ((nameR l r).size ≠ 0) && decide ((ofI l r).abi = 1)) = (x || (decide ((nameR l r).size ≠ 0) && decide ((ofI l r).abi = 1))) := by rw [List.any_append, ← hx]; simp
  unfold gatStep
  by_cases hz : (ofI l r).name.size = 0
  · rw [if_pos hz]
    refine ⟨nd, nz, fun g hg => own_keep (own g hg) (kS_ne fun e => nz g hg (by rw [e]; exact hz)), fun r' hr' hs => ?_, ?_⟩
    · rcases List.mem_append.1 hr' with q | q
      · exact all r' q hs
      · rw [List.mem_singleton.1 q] at hs; exact absurd hz hs
    · rw [hxs, decide_eq_false (fun q => q hz)]; simp
  · rw [if_neg hz]
    have hx2 : (x || decide ((ofI l r).abi = 1)) = (rs ++ [r]).any (fun r => decide ((nameR l r).size ≠ 0) && decide ((ofI l r).abi = 1)) := by
      rw [hxs, show decide ((nameR l r).size ≠ 0) = true from decide_eq_true hz, Bool.true_and]
    have hxr : argI (ofI l r).abi.toNat r = xarg l r := rfl
    rcases nm_cases Gat.name (ofI l r).name G with hno | ⟨G1, g, G2, rfl, hgn, hno⟩
    · have hnew : OwnOk l (rs ++ [r]) (noteG ⟨(ofI l r).name, 0, fun _ => 0, fun _ => false⟩ (xarg l r)) := by
        have hown : ownN l (ofI l r).name rs = [] := by
          unfold ownN
          rw [List.filter_eq_nil_iff]
          intro r' hr' hk
          have e := kS_eq.1 hk
          obtain ⟨g, hg, hge⟩ := all r' hr' (by rw [← e]; exact hz)
          exact kS_no (hno g hg) (by rw [hge, e])
        refine ⟨r, [], ?_, rfl, fun k => rfl, fun k => rfl⟩
        show ownN l (ofI l r).name (rs ++ [r]) = _
        rw [ownN_snoc, if_pos (show kS (ofI l r).name (nameR l r) = true from kS_refl _), hown]; rfl
      refine ⟨?_, fun g hg => ?_, fun g hg => ?_, fun r' hr' hs => ?_, hx2⟩
      · dsimp only
        rw [addG_no hno, List.map_append, List.nodup_append]
        refine ⟨nd, by simp, fun a ha b hb => ?_⟩
        obtain ⟨g, hg, rfl⟩ := List.mem_map.1 ha
        simp only [List.map_cons, List.map_nil, List.mem_singleton] at hb
        rw [hb, noteG_name]
        exact fun e => kS_no (hno g hg) e.symm
      · dsimp only at hg
        rw [addG_no hno] at hg
        rcases List.mem_append.1 hg with q | q
        · exact nz g q
        · rw [List.mem_singleton.1 q, noteG_name]; exact hz
      · dsimp only at hg
        rw [addG_no hno] at hg
        rcases List.mem_append.1 hg with q | q
        · exact own_keep (own g q) (kS_ne fun e => kS_no (hno g q) e.symm)
        · rw [List.mem_singleton.1 q]; exact hnew
      · dsimp only
        rw [addG_no hno]
        rcases List.mem_append.1 hr' with q | q
        · obtain ⟨g, hg, e⟩ := all r' q hs; exact ⟨g, List.mem_append_left _ hg, e⟩
        · rw [List.mem_singleton.1 q]
          exact ⟨_, List.mem_append_right _ (.head _), noteG_name _ _⟩
    · rw [List.map_append, List.map_cons] at nd
      have hdis : ∀ z, z ∈ G1 ∨ z ∈ G2 → z.name ≠ g.name := fun z hz => by
        rw [List.nodup_append] at nd
        obtain ⟨n1, n2, n3⟩ := nd
        rcases hz with q | q
        · exact n3 _ (List.mem_map_of_mem q) _ (.head _)
        · rw [List.nodup_cons] at n2
          exact fun e => n2.1 (by rw [← e]; exact List.mem_map_of_mem q)
      refine ⟨?_, fun z hz => ?_, fun z hz' => ?_, fun r' hr' hs => ?_, hx2⟩
      · dsimp only
        rw [addG_in hgn hno, List.map_append, List.map_cons, noteG_name]; exact nd
      · dsimp only at hz
        rw [addG_in hgn hno] at hz
        rcases List.mem_append.1 hz with q | q
        · exact nz z (List.mem_append_left _ q)
        · rcases List.mem_cons.1 q with rfl | q
          · rw [noteG_name]; exact nz g (by simp)
          · exact nz z (by simp [q])
      · dsimp only at hz'
        rw [addG_in hgn hno] at hz'
        rcases List.mem_append.1 hz' with q | q
        · exact own_keep (own z (List.mem_append_left _ q)) (kS_ne fun e => hdis z (.inl q) (by rw [e, hgn]; rfl))
        · rcases List.mem_cons.1 q with rfl | q
          · exact own_note (own g (by simp)) hgn
          · exact own_keep (own z (by simp [q])) (kS_ne fun e => hdis z (.inr q) (by rw [e, hgn]; rfl))
      · dsimp only
        rw [addG_in hgn hno]
        rcases List.mem_append.1 hr' with q | q
        · obtain ⟨z, hz, e⟩ := all r' q hs
          rcases List.mem_append.1 hz with q | q
          · exact ⟨z, List.mem_append_left _ q, e⟩
          · rcases List.mem_cons.1 q with rfl | q
            · exact ⟨noteG z (argI (ofI l r).abi.toNat r), by simp, by rw [noteG_name]; exact e⟩
            · exact ⟨z, by simp [q], e⟩
        · rw [List.mem_singleton.1 q]
          exact ⟨noteG g (argI (ofI l r).abi.toNat r), by simp, by rw [noteG_name]; exact hgn⟩
theorem ginv_fold {l : List TRow} : ∀ (rs2 rs1 : List Rec) (S : List Gat × Bool), GInv l rs1 S → GInv l (rs1 ++ rs2) (rs2.foldl (gatStep l) S)
  | [], rs1, S, h => by rw [List.append_nil]; exact h
  | r :: rs2, rs1, S, h => by
    have := ginv_fold rs2 (rs1 ++ [r]) _ (ginv_snoc (r := r) h)
    rw [List.append_assoc] at this
    exact this
theorem gather_inv (l : List TRow) (rs : List Rec) : GInv l rs (gather l rs) := ginv_fold rs [] _ (ginv_nil l)
/-- The names that are called. -/
theorem keys_mem {l : List TRow} {rs : List Rec} {z : List UInt8} : z ∈ keysG (gather l rs).1 ↔ ∃ r ∈ rs, (nameR l r).size ≠ 0 ∧ (nameR l r).data.toList = z := by
  have hi := gather_inv l rs
  unfold keysG
  rw [sortBy_mem, List.mem_map]
  constructor
  · rintro ⟨g, hg, rfl⟩
    obtain ⟨r0, rest, h1, _⟩ := hi.own g hg
    have hm : r0 ∈ ownN l g.name rs := by rw [h1]; exact .head _
    unfold ownN at hm
    rw [List.mem_filter] at hm
    have e := kS_eq.1 hm.2
    exact ⟨r0, hm.1, by rw [← e]; exact hi.nz g hg, by rw [← e]⟩
  · rintro ⟨r, hr, h1, rfl⟩
    obtain ⟨g, hg, e⟩ := hi.all r hr h1
    exact ⟨g, hg, by rw [e]⟩
def RSb (a b : List UInt8) : Prop := Go.Sort.ltStr a b = true
theorem RSb_irr (x : List UInt8) : ¬ RSb x x := by unfold RSb; rw [Go.Sort.swo_ltStr.irrefl]; decide
theorem RSb_tr (x y z : List UInt8) (h : RSb x y) (k : RSb y z) : RSb x z := Go.Sort.swo_ltStr.trans x y z h k
theorem keys_strict' (l : List TRow) (rs : List Rec) : (keysG (gather l rs).1).Pairwise RSb := by
  have hi := gather_inv l rs
  have hn := hi.nd
  generalize (gather l rs).1 = G at hn
  have h1 := sortBy_pair Go.Sort.swo_ltStr (G.map fun g => g.name.data.toList)
  have h2 : (keysG G).Nodup := by
    refine (List.mergeSort_perm _ _).nodup_iff.2 ?_
    have : (G.map fun g => g.name.data.toList) = (G.map Gat.name).map (fun s : ByteArray => s.data.toList) := by rw [List.map_map]; rfl
    rw [this]
    rw [List.nodup_iff_pairwise_ne] at hn ⊢
    rw [List.pairwise_map]
    exact hn.imp fun h e => h (data_inj' e)
  rw [List.nodup_iff_pairwise_ne] at h2
  have h3 := h1.and h2
  refine h3.imp fun {a b} h => ?_
  unfold RSb
  cases hl : Go.Sort.ltStr a b with
  | true => rfl
  | false => exact absurd (ltStr_tot' _ _ hl h.1) h.2
theorem strict_ext : ∀ {a b : List (List UInt8)}, a.Pairwise RSb → b.Pairwise RSb → (∀ z, z ∈ a ↔ z ∈ b) → a = b
  | [], [], _, _, _ => rfl
  | [], y :: b, _, _, h => by have := (h y).2 (.head _); cases this
  | x :: a, [], _, _, h => by have := (h x).1 (.head _); cases this
  | x :: a, y :: b, ha, hb, h => by
    rw [List.pairwise_cons] at ha hb
    have hxy : x = y := by
      rcases List.mem_cons.1 ((h x).1 (.head _)) with e | hx
      · exact e
      · rcases List.mem_cons.1 ((h y).2 (.head _)) with e | hy
        · exact e.symm
        · exact absurd (RSb_tr _ _ _ (ha.1 y hy) (hb.1 x hx)) (RSb_irr x)
    subst hxy
    rw [strict_ext ha.2 hb.2 fun z => ⟨fun hz => ?_, fun hz => ?_⟩]
    · rcases List.mem_cons.1 ((h z).1 (.tail _ hz)) with e | q
      · subst e; exact absurd (ha.1 _ hz) (RSb_irr _)
      · exact q
    · rcases List.mem_cons.1 ((h z).2 (.tail _ hz)) with e | q
      · subst e; exact absurd (hb.1 _ hz) (RSb_irr _)
      · exact q
/-- What is gathered of a name. -/
theorem gat_own {l : List TRow} {rs : List Rec} {z : List UInt8} (h : z ∈ keysG (gather l rs).1) : (gatOf (gather l rs).1 ⟨z.toArray⟩).name = ⟨z.toArray⟩ ∧ OwnOk l rs (gatOf (gather l rs).1 ⟨z.toArray⟩) := by
  have hi := gather_inv l rs
  unfold keysG at h
  rw [sortBy_mem, List.mem_map] at h
  obtain ⟨g0, hg0, he⟩ := h
  rcases nm_cases Gat.name ⟨z.toArray⟩ (gather l rs).1 with hno | ⟨G1, g, G2, hG, hgn, hno⟩
  · exact absurd (by rw [← he] : (⟨z.toArray⟩ : ByteArray) = g0.name) (kS_no (hno g0 hg0))
  · have hm : g ∈ (gather l rs).1 := by rw [hG]; simp
    have e : gatOf (gather l rs).1 ⟨z.toArray⟩ = g := by rw [hG]; exact gatOf_at hgn hno
    rw [e]
    exact ⟨hgn, hi.own g hm⟩
end Go.Proofs.W

/- Texts of conditions tell them apart; so do rows of texts, put together. -/
namespace Go.Proofs.W
open Go.Vl
set_option maxRecDepth 100000

abbrev Bts := List UInt8
theorem split_at {x : UInt8} : ∀ {a b r s : Bts}, x ∉ a → x ∉ b → a ++ x :: r = b ++ x :: s → a = b ∧ r = s
  | [], [], r, s, _, _, h => ⟨rfl, (List.cons.inj h).2⟩
  | [], y :: b, r, s, _, hb, h => absurd (List.mem_cons.2 (.inl (List.cons.inj h).1)) hb
  | y :: a, [], r, s, ha, _, h => absurd (List.mem_cons.2 (.inl (List.cons.inj h).1.symm)) ha
  | y :: a, z :: b, r, s, ha, hb, h => by
    obtain ⟨h1, h2⟩ := List.cons.inj h
    obtain ⟨h3, h4⟩ := split_at (fun q => ha (List.mem_cons_of_mem _ q)) (fun q => hb (List.mem_cons_of_mem _ q)) h2
    exact ⟨by rw [h1, h3], h4⟩
/-- What digits say. -/
def valD (l : Bts) : Nat := l.foldl (fun v b => 10 * v + (b.toNat - 48)) 0
theorem dig_nat {n : Nat} (h : n < 10) : (UInt8.ofNat (48 + n)).toNat = 48 + n := by
  rw [UInt8.toNat_ofNat']
  exact Nat.mod_eq_of_lt (by omega)
theorem val_dec : ∀ n : Nat, valD (Lib.decDigits n) = n := by
  intro n
  induction n using Nat.strongRecOn with
  | ind n ih =>
    rw [Lib.decDigits]
    split
    · rename_i h
      show 10 * 0 + ((UInt8.ofNat (48 + n)).toNat - 48) = n
      rw [dig_nat h]
      omega
    · have := ih (n / 10) (by omega)
      unfold valD at this ⊢
      rw [List.foldl_append, this]
      show 10 * (n / 10) + ((UInt8.ofNat (48 + n % 10)).toNat - 48) = n
      rw [dig_nat (Nat.mod_lt _ (by decide))]
      omega
theorem dec_inj {m n : Nat} (h : Lib.decDigits m = Lib.decDigits n) : m = n := by rw [← val_dec m, h, val_dec]
theorem dec_mem : ∀ {n : Nat} {b : UInt8}, b ∈ Lib.decDigits n → 48 ≤ b.toNat ∧ b.toNat ≤ 57 := by
  intro n
  induction n using Nat.strongRecOn with
  | ind n ih =>
    intro b hb
    rw [Lib.decDigits] at hb
    split at hb
    · rename_i h
      rw [List.mem_singleton.1 hb, dig_nat h]
      omega
    · rcases List.mem_append.1 hb with h | h
      · exact ih (n / 10) (by omega) h
      · rw [List.mem_singleton.1 h, dig_nat (Nat.mod_lt _ (by decide))]
        have := Nat.mod_lt n (by decide : 0 < 10)
        omega
theorem dec_no {n : Nat} {b : UInt8} (h : b.toNat < 48 ∨ 57 < b.toNat) : b ∉ Lib.decDigits n := fun q => by
  have := dec_mem q
  omega
theorem dec_ne (n : Nat) : Lib.decDigits n ≠ [] := by
  rw [Lib.decDigits]
  split
  · exact List.cons_ne_nil _ _
  · exact fun h => List.cons_ne_nil _ _ (List.append_eq_nil_iff.1 h).2
/-- The operators' texts, from 1 on. -/
def opsT : List Bts := [[61, 61], [33, 61], [60], [60, 61], [62], [62, 61], [38]]
def opT (k : Nat) : Bts := opsT.getD k []
def condL (c : Cnd) : Bts := [97] ++ (Lib.decDigits c.arg.toNat ++ 32 :: (opT (c.op.toNat - 1) ++ 32 :: (if c.op = 7 then Lib.decDigits c.mask ++ 32 :: (61 :: 61 :: 32 :: Lib.decDigits c.value) else Lib.decDigits c.value)))
theorem opT_no : ∀ k : Nat, k < 7 → (32 : UInt8) ∉ opT k ∧ (59 : UInt8) ∉ opT k := by decide
theorem opT_inj : ∀ j : Nat, j < 7 → ∀ k : Nat, k < 7 → opT j = opT k → j = k := by decide
theorem condL_inj {c d : Cnd} (hc : rightC c = true) (hd : rightC d = true) (h : condL c = condL d) : c = d := by
  obtain ⟨a1, a2, a3, a4, a5⟩ := rightC_iff.1 hc
  obtain ⟨b1, b2, b3, b4, b5⟩ := rightC_iff.1 hd
  unfold condL at h
  obtain ⟨_, h⟩ := List.cons.inj h
  obtain ⟨h1, h⟩ := split_at (dec_no (by decide)) (dec_no (by decide)) h
  obtain ⟨h2, h⟩ := split_at (opT_no _ (by omega)).1 (opT_no _ (by omega)).1 h
  have e1 : c.arg = d.arg := by have := dec_inj h1; omega
  have e2 : c.op = d.op := by have := opT_inj _ (by omega) _ (by omega) h2; omega
  obtain ⟨carg, cop, cm, cv⟩ := c
  obtain ⟨darg, dop, dm, dv⟩ := d
  dsimp only at *
  subst e1; subst e2
  by_cases h7 : cop = 7
  · rw [if_pos h7, if_pos h7] at h
    obtain ⟨h3, h⟩ := split_at (dec_no (by decide)) (dec_no (by decide)) h
    have h4 := (List.cons.inj (List.cons.inj (List.cons.inj h).2).2).2
    rw [dec_inj h3, dec_inj h4]
  · rw [if_neg h7, if_neg h7] at h
    rw [dec_inj h]
    have q1 : cm = 0 := a5.resolve_left h7
    have q2 : dm = 0 := b5.resolve_left h7
    rw [q1, q2]
theorem condL_no {c : Cnd} (hc : rightC c = true) : (59 : UInt8) ∉ condL c := by
  obtain ⟨a1, a2, a3, a4, a5⟩ := rightC_iff.1 hc
  have hd : ∀ n : Nat, (59 : UInt8) ∉ Lib.decDigits n := fun n => dec_no (by decide)
  have ho := (opT_no (c.op.toNat - 1) (by omega)).2
  unfold condL
  split
  · simp [hd, ho]
  · simp [hd, ho]
theorem condL_ne (c : Cnd) : condL c ≠ [] := List.cons_ne_nil _ _
/-- Texts, with a sign in between. -/
def joinL (x : UInt8) : List Bts → Bts
  | [] => []
  | [a] => a
  | a :: b :: l => a ++ x :: joinL x (b :: l)
theorem joinL_cons {x : UInt8} {a : Bts} {l : List Bts} (h : l ≠ []) : joinL x (a :: l) = a ++ x :: joinL x l := by
  cases l with
  | nil => exact absurd rfl h
  | cons b l => rfl
theorem joinL_inj {x : UInt8} : ∀ {l m : List Bts}, (∀ a ∈ l, x ∉ a ∧ a ≠ []) → (∀ a ∈ m, x ∉ a ∧ a ≠ []) → joinL x l = joinL x m → l = m
  | [], [], _, _, _ => rfl
  | [], b :: m, _, hm, h => by
    exfalso
    have hb := (hm b (.head _)).2
    cases m with
    | nil => exact hb h.symm
    | cons c m => rw [joinL_cons (List.cons_ne_nil _ _)] at h; exact hb (List.append_eq_nil_iff.1 h.symm).1
  | a :: l, [], hl, _, h => by
    exfalso
    have ha := (hl a (.head _)).2
    cases l with
    | nil => exact ha h
    | cons c l => rw [joinL_cons (List.cons_ne_nil _ _)] at h; exact ha (List.append_eq_nil_iff.1 h).1
  | a :: l, b :: m, hl, hm, h => by
    have ha := (hl a (.head _)).1
    have hb := (hm b (.head _)).1
    cases l with
    | nil =>
      cases m with
      | nil => rw [show a = b from h]
      | cons c m =>
        exfalso
        rw [joinL_cons (l := c :: m) (List.cons_ne_nil _ _)] at h
        exact ha (by rw [show a = b ++ x :: joinL x (c :: m) from h]; simp)
    | cons c l =>
      cases m with
      | nil =>
        exfalso
        rw [joinL_cons (l := c :: l) (List.cons_ne_nil _ _)] at h
        exact hb (by rw [← show a ++ x :: joinL x (c :: l) = b from h]; simp)
      | cons d m =>
        rw [joinL_cons (List.cons_ne_nil _ _), joinL_cons (List.cons_ne_nil _ _)] at h
        obtain ⟨h1, h2⟩ := split_at ha hb h
        rw [h1, joinL_inj (fun q hq => hl q (.tail _ hq)) (fun q hq => hm q (.tail _ hq)) h2]
end Go.Proofs.W

namespace Go.Proofs.W
open Go.Vl
set_option maxRecDepth 100000

/-- A kind's code, how great its number may be. -/
def kb (k : Nat) : Nat := [2147483648, 0, 196608, 327680, 2143289344, 2146435072, 2147221504, 2147418112].getD k 0
def km (k : Nat) : Nat := if k = 3 then 4095 else if k = 5 then 65535 else 0
def fits (v k : Nat) : Bool := decide (kb k ≤ v) && decide (v ≤ kb k + km k)
def fromI (v : Nat) : Option Nat := (List.range 8).find? (fits v)
def fromA (v : Nat) : A2 := match fromI v with
  | some k => ((k + 1 : Nat), (v - kb k : Nat))
  | none => (1, 0)
theorem row_kb (k : Nat) (h : k < 8) : ∃ s m, rowF rowsL k = .ag [.v (.string s), .v (.int .u32 (kb k)), m] ∧ Tells Tryz.prog 52 [rowF rowsL k] (int (km k)) := by
  have key := row_most k h
  rcases k with _ | _ | _ | _ | _ | _ | _ | _ | k
  · exact ⟨_, _, rfl, f27_nil _ _⟩
  · exact ⟨_, _, rfl, f27_nil _ _⟩
  · exact ⟨_, _, rfl, f27_nil _ _⟩
  · exact ⟨_, _, rfl, f27_below _ _ 4096 (by decide)⟩
  · exact ⟨_, _, rfl, f27_nil _ _⟩
  · exact ⟨_, _, rfl, f27_below _ _ 65536 (by decide)⟩
  · exact ⟨_, _, rfl, f27_nil _ _⟩
  · exact ⟨_, _, rfl, f27_nil _ _⟩
  · omega
theorem kb_le {k : Nat} (h : k < 8) : kb k + km k < 4294967296 := by
  rcases k with _ | _ | _ | _ | _ | _ | _ | _ | k
  all_goals first | decide | omega
theorem km_le {k : Nat} (h : k < 8) : km k < 65536 := by
  rcases k with _ | _ | _ | _ | _ | _ | _ | _ | k
  all_goals first | decide | omega
end Go.Proofs.W

namespace Go.Proofs.W
open Go.Vl
set_option maxRecDepth 100000

def fromR (v : Nat) : A2 × Int := match fromI v with
  | some k => (((k + 1 : Nat), (v - kb k : Nat)), 0)
  | none => ((0, 0), 5)
theorem fromI_some {v k : Nat} (h : fromI v = some k) : k < 8 ∧ kb k ≤ v ∧ v ≤ kb k + km k := by
  unfold fromI at h
  rw [List.find?_range_eq_some] at h
  obtain ⟨h1, h2, _⟩ := h
  simp [fits] at h1 h2
  exact ⟨h2, h1.1, h1.2⟩
end Go.Proofs.W

namespace Go.Proofs.W
open Go.Vl
set_option maxRecDepth 100000

theorem le_u32' {a b : Int} (h : a = b) : AVle (.v (.int .u32 a)) (u32 b) := h ▸ AVle.refl _
theorem build9 : abuildCells Tryz.prog 107 9 [(0, int 0), (1, int 2147483648), (2, int 0), (3, int 196608), (4, int 327680), (5, int 2143289344), (6, int 2146435072), (7, int 2147221504), (8, int 2147418112)] = some (3, [int 0, int 2147483648, int 0, int 196608, int 327680, int 2143289344, int 2146435072, int 2147221504, int 2147418112]) := by kernel_rfl
theorem most09_spec (k : Nat) (hk : k < 8) : Tells Tryz.prog 28 [int (k + 1 : Nat)] (int (km k)) := by
  rw [show ((km k : Nat) : Int) = most9 ((k + 1 : Nat) : Int) by
    rcases k with _ | _ | _ | _ | _ | _ | _ | _ | k
    all_goals first | decide | omega]
  exact most9_spec _
end Go.Proofs.W

namespace Go.Proofs.W
open Go.Vl
set_option maxRecDepth 100000

def fromQ (v : Nat) : A2 := match fromI v with
  | some k => (((k + 1 : Nat) : Int), ((v - kb k : Nat) : Int))
  | none => (0, 0)
end Go.Proofs.W

/- Texts of actions: numbers in decimal, words, by the program and by the document. -/
namespace Go.Proofs.W
open Go.Vl
set_option maxRecDepth 100000

theorem le_str {a b : ByteArray} (h : a = b) : AVle (strA a) (strA b) := h ▸ AVle.refl _
theorem decB_lt {n : Nat} (h : n < 10) : decB n = ⟨#[UInt8.ofNat (48 + n)]⟩ := by
  unfold decB
  rw [Lib.decDigits, dif_pos h]
theorem decB_ge {n : Nat} (h : ¬ n < 10) : decB n = decB (n / 10) ++ ⟨#[UInt8.ofNat (48 + n % 10)]⟩ := by
  unfold decB
  rw [Lib.decDigits, dif_neg h]
  apply ByteArray.ext
  simp
theorem dec_len : ∀ (k n : Nat), n < 10 ^ (k + 1) → (Lib.decDigits n).length ≤ k + 1
  | 0, n, h => by rw [Lib.decDigits, dif_pos (by omega)]; exact Nat.le_refl _
  | k + 1, n, h => by
    rw [Lib.decDigits]
    split
    · exact Nat.succ_le_succ (Nat.zero_le _)
    · rw [List.length_append, List.length_singleton]
      have := dec_len k (n / 10) (by rw [Nat.pow_succ] at h; omega)
      omega
theorem decB_size {n : Nat} (h : n ≤ 18446744073709551615) : (decB n).size ≤ 20 := dec_len 19 n (by omega)
theorem quo10 {n : Nat} (h : n ≤ 9223372036854775807) : IntKind.i64.wrap ((n : Int).tdiv 10) = ((n / 10 : Nat) : Int) := by
  rw [show (n : Int).tdiv 10 = ((n / 10 : Nat) : Int) from rfl]
  simp [IntKind.wrap, IntKind.signed, IntKind.bits]; omega
theorem rem10 {n : Nat} : (n : Int).tmod 10 = ((n % 10 : Nat) : Int) := rfl
theorem splitV_as {a b : AV} {K : AV → Prop} (h : a = b) (hk : splitV b K) : splitV a K := h ▸ hk
def digs : ByteArray := { data := #[48, 49, 50, 51, 52, 53, 54, 55, 56, 57] }
theorem succ_rem {n : Nat} : IntKind.i64.wrap ((n : Int).tmod 10 + 1) = ((n % 10 + 1 : Nat) : Int) := by
  rw [rem10]
  simp [IntKind.wrap, IntKind.signed, IntKind.bits]; omega
theorem dig_cond (n : Nat) : 0 ≤ (n : Int).tmod 10 ∧ (n : Int).tmod 10 ≤ IntKind.i64.wrap ((n : Int).tmod 10 + 1) ∧ IntKind.i64.wrap ((n : Int).tmod 10 + 1) ≤ (digs.size : Int) := by
  rw [succ_rem, rem10, show digs.size = 10 from rfl]
  omega
theorem dig_at : ∀ r : Nat, r < 10 → digs.extract r (r + 1) = ⟨#[UInt8.ofNat (48 + r)]⟩ := by decide +kernel
theorem dig_str (n : Nat) : AV.v (.string (digs.extract ((n : Int).tmod 10).toNat (IntKind.i64.wrap ((n : Int).tmod 10 + 1)).toNat)) = strA ⟨#[UInt8.ofNat (48 + n % 10)]⟩ := by
  rw [succ_rem, rem10, Int.toNat_natCast, Int.toNat_natCast, dig_at _ (Nat.mod_lt _ (by decide))]
  rfl
def kwL : List ByteArray := [⟨#[107, 105, 108, 108]⟩, ⟨#[107, 105, 108, 108, 95, 116, 104, 114, 101, 97, 100]⟩, ⟨#[116, 114, 97, 112]⟩, ⟨#[101, 114, 114, 110, 111]⟩, ⟨#[110, 111, 116, 105, 102, 121]⟩, ⟨#[116, 114, 97, 99, 101]⟩, ⟨#[108, 111, 103]⟩, ⟨#[97, 108, 108, 111, 119]⟩]
def spB : ByteArray := ⟨#[32]⟩
def actT (a : A2) : ByteArray := if a.1 = 4 ∨ a.1 = 6 then kwL.getD (a.1.toNat - 1) spB ++ spB ++ decB a.2.toNat else kwL.getD (a.1.toNat - 1) spB
theorem build9s : abuildCells Tryz.prog 88 9 [(0, strA ⟨#[]⟩), (1, strA ⟨#[107, 105, 108, 108]⟩), (2, strA ⟨#[107, 105, 108, 108, 95, 116, 104, 114, 101, 97, 100]⟩), (3, strA ⟨#[116, 114, 97, 112]⟩), (4, strA ⟨#[101, 114, 114, 110, 111]⟩), (5, strA ⟨#[110, 111, 116, 105, 102, 121]⟩), (6, strA ⟨#[116, 114, 97, 99, 101]⟩), (7, strA ⟨#[108, 111, 103]⟩), (8, strA ⟨#[97, 108, 108, 111, 119]⟩)] = some (9, [strA ⟨#[]⟩, strA ⟨#[107, 105, 108, 108]⟩, strA ⟨#[107, 105, 108, 108, 95, 116, 104, 114, 101, 97, 100]⟩, strA ⟨#[116, 114, 97, 112]⟩, strA ⟨#[101, 114, 114, 110, 111]⟩, strA ⟨#[110, 111, 116, 105, 102, 121]⟩, strA ⟨#[116, 114, 97, 99, 101]⟩, strA ⟨#[108, 111, 103]⟩, strA ⟨#[97, 108, 108, 111, 119]⟩]) := by kernel_rfl
theorem cat_le {a b : ByteArray} (h : b.size ≤ 20) (k : a.size ≤ 1000000) : ((a.size + b.size : Nat) : Int) ≤ 9223372036854775807 := by omega
end Go.Proofs.W

/- Texts of conditions, by the program. -/
namespace Go.Proofs
open Go.Shelf
shelf_lay Lays.n156 Nm 156 at Tryz as Tryz.lays156
end Go.Proofs
namespace Go.Proofs.W
open Go.Vl Go.Shelf Go.RowKit
set_option maxRecDepth 100000

theorem xJoin : Builder.Extra Tryz.prog Tryz.lays156_ren where
  sizeBuilder := by kernel_rfl
  liesBuilder := by kernel_rfl
  t5 := Tryz.underlying5
  a5 := Tryz.isAgg5
  z5 := Tryz.sizeOf5
  v5 := Tryz.zeroValue5
  infoByte := by kernel_rfl
  cellsByte := by kernel_rfl
  sizeByte := by kernel_rfl
  neB5 := by decide
def strsJ (l : List ByteArray) : AV := slOf 1 strA ⟨#[]⟩ l
def joinB (l : List ByteArray) (sep : ByteArray) : ByteArray := ⟨(Lib.join (l.map (·.data.toList)) sep.data.toList).toArray⟩
theorem join_spec (l : List ByteArray) (sep : ByteArray) (hl : l.length ≤ 1000000) (hs : (joinB l sep).size ≤ 140737488355328) : Tells Tryz.prog 42 [strsJ l, strA sep] (strA (joinB l sep)) := by
  have h := tells_row1 (P := Tryz.prog) (f := 42) (u := .string (joinB l sep)) (xs := l.map .string) (vs := [.string sep]) ⟨_, Tryz.func42, rfl, rfl⟩ (fun h0 a cap w _ => ?_) (fun b off cap w hk hc hb hcap h0 => ?_)
  refine Tells.args (bs := [.sl 1 (l.map Value.string).length (fun k => .v ((l.map Value.string).getD k undef)), strA sep]) ⟨?_, AVle.refl _, trivial⟩ h
  · rw [List.length_map]
    refine AVle.sl_fun fun k hk => ?_
    simp [strA, List.getD, List.getElem?_map, List.getElem?_eq_getElem hk]
  · obtain rfl : l = [] := by simpa using h0
    exact (Any.strings_Join_none Tryz.lays156 xJoin a cap sep w).mono fun e w' ⟨h1, h2⟩ => ⟨h1, h2 ▸ Below.refl _ _⟩
  · rw [List.length_map] at hcap ⊢
    exact Any.strings_Join Tryz.lays156 xJoin b off cap l sep w (fun j x hx => hc j _ (by rw [List.getElem?_map, hx]; rfl)) hb (by omega) hcap (by simpa [joinB, ByteArray.size] using hs)
theorem dec_spec (n : Nat) (h : n < 18446744073709551616) : Tells Tryz.prog 64 [u64 n] (strA (decB n)) := by
  have h1 : Tells Tryz.prog 91 [u64 n, int 10] (strA (decB n)) := by
    refine tells_of_aw Tryz.func91 rfl rfl fun nx => ?_
    refine stp ?_
    refine aop_tells rfl rfl (fmtuint_spec n h) ⟨AVle.refl _, AVle.refl _, trivial⟩ fun nx2 => ?_
    refine stp ?_
    exact ret_tells rfl (AVle.refl _)
  refine tells_of_aw Tryz.func64 rfl rfl fun nx => ?_
  refine stp ?_
  refine aop_tells rfl rfl h1 ⟨AVle.refl _, AVle.refl _, trivial⟩ fun nx2 => ?_
  refine stp ?_
  exact ret_tells rfl (AVle.refl _)
def txtC (c : Cnd) : ByteArray := ⟨(condL c).toArray⟩
theorem dec_size {n : Nat} (h : n < 18446744073709551616) : (Lib.decDigits n).length ≤ 20 := by
  have h2 : (decB n).size ≤ 20 := decB_size (by omega)
  exact h2
theorem opsL_at {k : Nat} (hk : k < 7) : ∃ s : ByteArray, s.data.toList = opT k ∧ s.size ≤ 2 ∧ ∃ f, rowF opsL k = .ag [strA s, fn0 f] := by
  match k, hk with
  | 0, _ | 1, _ | 2, _ | 3, _ | 4, _ | 5, _ | 6, _ => exact ⟨_, rfl, by decide, _, rfl⟩
theorem oneRow_two {f : Nat → AV} (h : (f 0).cells.all isOne = true) (h' : (f 1).cells.all isOne = true) : oneRow 2 f := fun k hk => by
  rcases k with _ | _ | k
  · exact h
  · exact h'
  · omega
theorem join3 (a b c : Bts) : Lib.join [a, b, c] [32] = a ++ 32 :: (b ++ 32 :: c) := by simp [Lib.join, List.intercalate, List.intersperse]
theorem join5 (a b c d e : Bts) : Lib.join [a, b, c, d, e] [32] = a ++ 32 :: (b ++ 32 :: (c ++ 32 :: (d ++ 32 :: e))) := by simp [Lib.join, List.intercalate, List.intersperse]
def aB : ByteArray := ⟨#[97]⟩
def eqB : ByteArray := ⟨#[61, 61]⟩
theorem cat_data (a b : ByteArray) : (a ++ b).data.toList = a.data.toList ++ b.data.toList := by simp
theorem dec_data (n : Nat) : (decB n).data.toList = Lib.decDigits n := rfl
theorem txt3 {i k m v : Nat} {so : ByteArray} (h : so.data.toList = opT k) (hk : k ≠ 6) : joinB [aB ++ decB i, so, decB v] spB = txtC ⟨(i : Nat), (k : Int) + 1, m, v⟩ := by
  unfold joinB txtC condL
  rw [List.map_cons, List.map_cons, List.map_cons, List.map_nil, cat_data, h, dec_data, dec_data, show spB.data.toList = [32] from rfl, join3]
  dsimp only
  rw [if_neg (by omega), show ((k : Int) + 1).toNat - 1 = k by omega, Int.toNat_natCast]
  rfl
theorem txt5 {i m v : Nat} {so : ByteArray} (h : so.data.toList = opT 6) : joinB [aB ++ decB i, so, decB m, eqB, decB v] spB = txtC ⟨(i : Nat), 7, m, v⟩ := by
  unfold joinB txtC condL
  rw [List.map_cons, List.map_cons, List.map_cons, List.map_cons, List.map_cons, List.map_nil, cat_data, h, dec_data, dec_data, dec_data, show spB.data.toList = [32] from rfl, join5]
  dsimp only
  rw [if_pos rfl, Int.toNat_natCast]
  rfl
theorem txt_small {c : Cnd} (hr : rightC c = true) (hok : c.ok) : (txtC c).size ≤ 1000 := by
  obtain ⟨h1, h2, h3, h4, h5⟩ := rightC_iff.1 hr
  show (condL c).length ≤ 1000
  have d1 := dec_size (n := c.arg.toNat) (by omega)
  have d2 := dec_size hok.1
  have d3 := dec_size hok.2
  have d4 : ∀ k : Nat, k < 7 → (opT k).length ≤ 2 := by decide
  have d5 := d4 (c.op.toNat - 1) (by omega)
  unfold condL
  simp only [List.length_append, List.length_cons, List.length_nil]
  split
  · simp only [List.length_append, List.length_cons]; omega
  · omega
theorem le_txt {a b : ByteArray} (h : a = b) : AVle (strA a) (strA b) := le_str h
set_option maxHeartbeats 2000000 in
theorem text_spec (c : Cnd) (hr : rightC c = true) (hok : c.ok) : Tells Tryz.prog 40 [cndA c] (strA (txtC c)) := by
  obtain ⟨h1, h2, h3, h4, h5⟩ := rightC_iff.1 hr
  have hR := right_spec c
  rw [hr] at hR
  obtain ⟨arg, op, mask, value⟩ := c
  dsimp only at h1 h2 h3 h4 h5
  obtain ⟨i, rfl⟩ : ∃ i : Nat, arg = i := ⟨arg.toNat, by omega⟩
  obtain ⟨k, rfl⟩ : ∃ k : Nat, op = k + 1 := ⟨(op - 1).toNat, by omega⟩
  have hit := itoa_spec i (by omega)
  have hdv := dec_spec value hok.2
  have hdm := dec_spec mask hok.1
  have hk7 : k < 7 := by omega
  obtain ⟨so, hso, hss, f, hf⟩ := opsL_at hk7
  have hx : IntKind.i64.wrap ((k : Int) + 1 - 1) = (k : Int) := by rw [wrap_id (by omega) (by omega)]; omega
  refine tells_of_aw Tryz.func40 rfl rfl fun nx => ?_
  refine stp ?_
  refine aop_tells rfl rfl hR ⟨AVle.refl _, trivial⟩ fun nx2 => ?_
  refine stp ?_
  refine aw_mixN 12 _ (fun _ => false) (fun i => match i with | 2 => true | 4 => true | _ => false) [0, 1, 2, 3, 4, 5, 6, 7, 8, 9, 10, 11] (by kernel_rfl) (by kernel_rfl) (HB.refl _) ?_
  refine stp ?_
  refine ⟨_, pure_tells rfl rfl rfl hit ⟨AVle.refl _, trivial⟩ (NoId.v _), ?_⟩
  refine stp ?_
  refine ⟨by have := decB_size (n := i) (by omega); have h2 : (⟨#[97]⟩ : ByteArray).size = 1 := rfl; rw [h2]; omega, ?_⟩
  refine stp ?_
  refine ⟨_, pure_tells rfl rfl rfl ops_spec trivial noid_ops, ?_⟩
  refine stp ?_
  refine ⟨⟨by rw [hx]; omega, by rw [hx]; omega⟩, splitV_as (b := .rp [strA so, fn0 f]) (by rw [hx]; show AV.rp (rowF opsL k).cells = _; rw [hf]; rfl) ?_⟩
  refine stp ?_
  intro c t1; cases c
  · have t1 : k ≠ 6 := fun e => by subst e; cases t1
    refine stp ?_
    refine aop_tells rfl rfl hdv ⟨AVle.refl _, trivial⟩ fun nx3 => ?_
    refine stp ?_
    refine ⟨oneRow_one rfl, by show (2 + 1) * 16 ≤ _; decide, by decide, ?_⟩
    refine stp ?_
    have e := txt3 (i := i) (m := mask) (v := value) hso t1
    refine aop_tells rfl rfl (join_spec [aB ++ decB i, so, decB value] spB (by show 3 ≤ _; decide) (by rw [e]; exact Nat.le_trans (txt_small hr hok) (by decide))) ⟨AVle.os_sl.trans (AVle.sl_fun fun j hj => ?_), AVle.refl _, trivial⟩ fun nx3 => ?_
    · match j, hj with
      | 0, _ | 1, _ | 2, _ => rfl
    refine stp ?_
    exact ret_tells rfl (le_txt e)
  · have t1 : k = 6 := by have : (k : Int) + 1 = 7 := by simpa using t1.symm
                          omega
    subst t1
    refine stp ?_
    refine aop_tells rfl rfl hdm ⟨AVle.refl _, trivial⟩ fun nx3 => ?_
    refine stp ?_
    refine ⟨oneRow_two rfl rfl, by show (2 + 2) * 16 ≤ _; decide, by decide, ?_⟩
    refine stp ?_
    refine aop_tells rfl rfl hdv ⟨AVle.refl _, trivial⟩ fun nx3 => ?_
    refine stp ?_
    refine ⟨oneRow_one rfl, by show (4 + 1) * 16 ≤ _; decide, by decide, ?_⟩
    refine stp ?_
    have e := txt5 (i := i) (m := mask) (v := value) hso
    refine aop_tells rfl rfl (join_spec [aB ++ decB i, so, decB mask, eqB, decB value] spB (by show 5 ≤ _; decide) (by rw [e]; exact Nat.le_trans (txt_small hr hok) (by decide))) ⟨AVle.os_sl.trans (AVle.sl_fun fun j hj => ?_), AVle.refl _, trivial⟩ fun nx3 => ?_
    · match j, hj with
      | 0, _ | 1, _ | 2, _ | 3, _ | 4, _ => rfl
    refine stp ?_
    exact ret_tells rfl (le_txt e)
end Go.Proofs.W

/- The key of a set of conditions. -/
namespace Go.Proofs.W
open Go.Vl
set_option maxRecDepth 100000

/-- The first m of a row, each run of equal ones once. -/
def cUs (d : Array Bts) : Nat → List Bts
  | 0 => []
  | m + 1 => if m = 0 ∨ d[m]! ≠ d[m - 1]! then cUs d m ++ [d[m]!] else cUs d m
theorem cUs_le (d : Array Bts) : ∀ m, (cUs d m).length ≤ m
  | 0 => Nat.le_refl _
  | m + 1 => by
    have := cUs_le d m
    unfold cUs
    split
    · simp; omega
    · omega
theorem cUs_whole {d : Array Bts} : ∀ {m : Nat}, m ≤ d.size → (∀ j, 1 ≤ j → j < m → d[j]! ≠ d[j - 1]!) → cUs d m = d.toList.take m
  | 0, _, _ => rfl
  | m + 1, hm, h => by
    have ih := cUs_whole (m := m) (by omega) fun j h1 h2 => h j h1 (by omega)
    have hc : m = 0 ∨ d[m]! ≠ d[m - 1]! := by
      rcases Nat.eq_zero_or_pos m with h0 | h0
      · exact .inl h0
      · exact .inr (h m h0 (by omega))
    rw [cUs, if_pos hc, ih, List.take_add_one, show d[m]! = d[m] by simp [show m < d.size by omega]]
    simp [show m < d.size by omega]
theorem cUs_same {d : Array Bts} {m : Nat} (h0 : m ≠ 0) (h : d[m]! = d[m - 1]!) : cUs d (m + 1) = cUs d m := by
  rw [cUs, if_neg (by intro hh; rcases hh with hh | hh; exact h0 hh; exact hh h)]
theorem cUs_next {d : Array Bts} {m : Nat} (h : d[m]! ≠ d[m - 1]!) : cUs d (m + 1) = cUs d m ++ [d[m]!] := by
  rw [cUs, if_pos (.inr h)]
/-- A sorted row, each run once. -/
theorem cUs_spec {d : Array Bts} : ∀ {m : Nat}, m ≤ d.size → (∀ i j, i < j → j < m → Go.Sort.ltStr d[j]! d[i]! = false) → (cUs d m).Pairwise RSb ∧ ∀ x, x ∈ cUs d m ↔ ∃ j, j < m ∧ d[j]! = x
  | 0, _, _ => ⟨List.Pairwise.nil, fun x => by simp [cUs]⟩
  | m + 1, hm, hs => by
    obtain ⟨h1, h2⟩ := cUs_spec (m := m) (by omega) fun i j a b => hs i j a (by omega)
    by_cases hc : m = 0 ∨ d[m]! ≠ d[m - 1]!
    · rw [cUs, if_pos hc]
      refine ⟨?_, fun x => ?_⟩
      · rw [List.pairwise_append]
        refine ⟨h1, List.pairwise_singleton _ _, fun a ha b hb => ?_⟩
        rw [List.mem_singleton] at hb
        subst hb
        obtain ⟨j, hj, rfl⟩ := (h2 a).1 ha
        cases hlt : Go.Sort.ltStr d[j]! d[m]! with
        | true => exact hlt
        | false =>
          exfalso
          have h3 := hs (m - 1) m (by omega) (by omega)
          have h4 : Go.Sort.ltStr d[m - 1]! d[m]! = false := by
            rcases Nat.lt_or_ge j (m - 1) with q | q
            · exact Go.Sort.swo_ltStr.ntrans _ _ _ (hs j (m - 1) q (by omega)) hlt
            · rw [show m - 1 = j by omega]; exact hlt
          rcases hc with hc | hc
          · omega
          · exact hc (ltStr_tot' _ _ h3 h4)
      · rw [List.mem_append, h2, List.mem_singleton]
        constructor
        · rintro (⟨j, hj, rfl⟩ | rfl)
          · exact ⟨j, by omega, rfl⟩
          · exact ⟨m, by omega, rfl⟩
        · rintro ⟨j, hj, rfl⟩
          rcases Nat.lt_or_ge j m with q | q
          · exact .inl ⟨j, q, rfl⟩
          · exact .inr (by rw [show j = m by omega])
    · rw [cUs, if_neg hc]
      refine ⟨h1, fun x => ?_⟩
      rw [h2]
      constructor
      · rintro ⟨j, hj, rfl⟩; exact ⟨j, by omega, rfl⟩
      · rintro ⟨j, hj, rfl⟩
        rcases Nat.lt_or_ge j m with q | q
        · exact ⟨j, q, rfl⟩
        · have hj' : j = m := by omega
          subst hj'
          have : j ≠ 0 := fun h => hc (.inl h)
          exact ⟨j - 1, by omega, by by_cases he : d[j]! = d[j - 1]!; exact he.symm; exact absurd (.inr he) hc⟩
def sortT (l : List Bts) : List Bts := sortBy Go.Sort.ltStr l
def compT (l : List Bts) : List Bts := cUs (sortT l).toArray (sortT l).length
theorem compT_spec (l : List Bts) : (compT l).Pairwise RSb ∧ ∀ x, x ∈ compT l ↔ x ∈ l := by
  have hp := sortBy_pair Go.Sort.swo_ltStr l
  have hm : ∀ x, x ∈ sortT l ↔ x ∈ l := fun x => sortBy_mem
  unfold compT
  have hp' : (sortT l).Pairwise fun a b => Go.Sort.ltStr b a = false := hp
  generalize sortT l = S at hm hp'
  obtain ⟨h1, h2⟩ := cUs_spec (d := S.toArray) (m := S.length) (by simp) fun i j hij hj => by
    have hi : i < S.length := by omega
    have := List.pairwise_iff_getElem.1 hp' i j hi hj hij
    simpa [hi, hj] using this
  refine ⟨h1, fun x => (h2 x).trans ?_⟩
  rw [← hm, List.mem_iff_getElem]
  constructor
  · rintro ⟨j, hj, rfl⟩
    exact ⟨j, hj, by simp [hj]⟩
  · rintro ⟨j, hj, rfl⟩
    exact ⟨j, hj, by simp [hj]⟩
def keyL (cs : List Cnd) : Bts := joinL 59 (compT (cs.map condL))
theorem keyL_parts {cs : List Cnd} (h : ∀ c ∈ cs, rightC c = true) : ∀ a ∈ compT (cs.map condL), (59 : UInt8) ∉ a ∧ a ≠ [] := fun a ha => by
  obtain ⟨c, hc, rfl⟩ := List.mem_map.1 (((compT_spec _).2 a).1 ha)
  exact ⟨condL_no (h c hc), condL_ne c⟩
theorem keyL_iff {cs ds : List Cnd} (hc : ∀ c ∈ cs, rightC c = true) (hd : ∀ c ∈ ds, rightC c = true) : keyL cs = keyL ds ↔ ∀ c, c ∈ cs ↔ c ∈ ds := by
  constructor
  · intro h c
    have e := joinL_inj (keyL_parts hc) (keyL_parts hd) h
    have hm : ∀ x, x ∈ cs.map condL ↔ x ∈ ds.map condL := fun x => by rw [← (compT_spec _).2, e, (compT_spec _).2]
    constructor
    · intro q
      obtain ⟨d, hd1, hd2⟩ := List.mem_map.1 ((hm (condL c)).1 (List.mem_map_of_mem q))
      rw [← condL_inj (hd d hd1) (hc c q) hd2]
      exact hd1
    · intro q
      obtain ⟨d, hd1, hd2⟩ := List.mem_map.1 ((hm (condL c)).2 (List.mem_map_of_mem q))
      rw [← condL_inj (hc d hd1) (hd c q) hd2]
      exact hd1
  · intro h
    unfold keyL
    refine congrArg _ (strict_ext (compT_spec _).1 (compT_spec _).1 fun z => ?_)
    rw [(compT_spec _).2, (compT_spec _).2, List.mem_map, List.mem_map]
    exact ⟨fun ⟨c, q1, q2⟩ => ⟨c, (h c).1 q1, q2⟩, fun ⟨c, q1, q2⟩ => ⟨c, (h c).2 q1, q2⟩⟩
theorem keyL_nil {cs : List Cnd} : keyL cs = [] ↔ cs = [] := by
  constructor
  · intro h
    cases cs with
    | nil => rfl
    | cons c cs =>
      exfalso
      have hm := ((compT_spec ((c :: cs).map condL)).2 (condL c)).2 (by simp)
      unfold keyL at h
      have hne : ∀ a ∈ compT ((c :: cs).map condL), a ≠ [] := fun a ha => by
        obtain ⟨d, _, rfl⟩ := List.mem_map.1 (((compT_spec _).2 a).1 ha)
        exact condL_ne d
      generalize compT ((c :: cs).map condL) = L at h hm hne
      cases L with
      | nil => cases hm
      | cons a L =>
        cases L with
        | nil => exact hne a (.head _) h
        | cons b L =>
          rw [joinL_cons (List.cons_ne_nil _ _)] at h
          exact hne a (.head _) (List.append_eq_nil_iff.1 h).1
  · rintro rfl
    have h : compT (([] : List Cnd).map condL) = [] := List.eq_nil_iff_forall_not_mem.2 fun x hx => by cases ((compT_spec _).2 x).1 hx
    unfold keyL
    rw [h]
    rfl
end Go.Proofs.W

/- The key of a set of conditions, by the program. -/
namespace Go.Proofs
open Go.Shelf
shelf_lay_g SlLaysN.n44 Slgn 44 at Tryz 43 as Tryz.laysN44
end Go.Proofs
namespace Go.Proofs.W
open Go.Vl Go.Shelf
set_option maxRecDepth 100000

theorem compact_is (d : Array Bts) : ∀ m, Lib.compactUpTo d m = cUs d m
  | 0 => rfl
  | m + 1 => by
    rw [Lib.compactUpTo_succ, compact_is d m, cUs]
    unfold Lib.keeps
    by_cases h : m = 0 ∨ d[m]! ≠ d[m - 1]!
    · rw [if_pos h, decide_eq_true h]; rfl
    · rw [if_neg h, decide_eq_false h]; simp
theorem compS_str (d0 : Array Bts) (tl : List AV) (n : Nat) (hn : d0.size = n) (hsz : n ≤ 1000000) (s cap nx : Nat) (hcap : n ≤ cap) :
    ECall Tryz.prog 43 [.hs (0, s) 0 n cap] ⟨rowH_str s d0 tl, [], nx, 1⟩ (fun r h' => ∃ tl' nx' nn', r = .hs (0, s) 0 (cUs d0 n).length cap ∧ h' = ⟨rowH_str s (cUs d0 n).toArray tl', [], nx', nn'⟩) := by
  subst hn
  have hle := cUs_le d0 d0.size
  have h := ecall_put (P := Tryz.prog) (enc := encStr) (d := d0) (d' := (cUs d0 d0.size ++ List.replicate (d0.size - (cUs d0 d0.size).length) []).toArray) (tl := tl) (vs := []) (R := .hs (0, s) 0 (cUs d0 d0.size).length cap) (res := fun b => .slice (some ⟨b, 0, none⟩) (cUs d0 d0.size).length cap) (nm := 0) (s := s) (cap := cap) (nx := nx) (nn := 1) (f := 43) ⟨_, Tryz.func43, rfl, rfl⟩ (by simp; omega) (fun w X g b hg => .hs _ _ _ _ b hg) (fun w blk hk hH hb => by
    have k := AnyG.slices_Compact_string_arr Tryz.laysN44 blk 0 cap d0 w hH (by omega) hcap
    rw [compact_is] at k
    exact k.mono fun e w' ⟨h1, q, h2⟩ => ⟨h1, q, #[], by rw [h2]; unfold Sort.grow; rw [Array.append_empty]⟩)
  refine h.mono fun r h' ⟨h1, h2⟩ => ⟨List.replicate (d0.size - (cUs d0 d0.size).length) (eA_str []) ++ tl, nx, 1, h1, ?_⟩
  rw [h2]
  unfold rowH_str rowG
  simp [eA_str]
def nil1s (sz : Nat) : AV := .os sz 0 (fun _ => .any) none
theorem comp0_str : Tells Tryz.prog 43 [nil1s 1] (nil1s 1) := by
  refine tells_of_aw Tryz.func43 rfl rfl fun nx => ?_
  refine stp ?_
  exact ret_tells rfl (AVle.refl _)
theorem rowG_K (d : Array Bts) (tl : List AV) : rowG eA_str d tl = rowK (fun z => [eA_str z]) d tl := by
  unfold rowG rowK
  rw [List.map_eq_flatMap]
theorem eS_len : ∀ z : Bts, ([eA_str z] : List AV).length = 1 := fun _ => rfl
theorem c_str : Tryz.prog.cellsOf 9 = 1 := by kernel_rfl
theorem gr_str : growOk Tryz.prog 9 = true := by kernel_rfl
theorem gb_str : Tryz.prog.bytesOf 9 = 16 := by kernel_rfl
theorem keyG1 {l : List Bts} {x : Bts} {tl : List AV} (h : 1 ≤ tl.length) : splice (rowG eA_str l.toArray tl) (l.length * Tryz.prog.cellsOf 9) [eA_str x] = rowG eA_str (l ++ [x]).toArray (tl.drop 1) := by
  rw [c_str, rowG_K, rowG_K]; exact rowK_push eS_len h
theorem keyG0 {x : Bts} {m : Nat} : [eA_str x] ++ List.replicate (m * Tryz.prog.cellsOf 9) AV.any = rowG eA_str #[x] (List.replicate m .any) := by
  rw [c_str]; simp [rowG]
theorem keyG2 {l : List Bts} {x : Bts} {tl : List AV} {m : Nat} : (rowG eA_str l.toArray tl).take (l.length * Tryz.prog.cellsOf 9) ++ [eA_str x] ++ List.replicate (m * Tryz.prog.cellsOf 9) .any = rowG eA_str (l ++ [x]).toArray (List.replicate m .any) := by
  rw [c_str, rowG_K, rowG_K, rowK_take eS_len, Nat.mul_one]; exact rowK_one
def keyO (L : List Bts) : Option (Nat × Nat × List AV) → AV
  | none => nil1s 1
  | some (s1, cap, _) => .hs (0, s1) 0 L.length cap
def keyH (L : List Bts) : Option (Nat × Nat × List AV) → List (Vl.Id × Own)
  | none => []
  | some (s1, _, tl) => rowH_str s1 L.toArray tl
def keyI (L : List Bts) : Option (Nat × Nat × List AV) → Prop
  | none => L = []
  | some (_, cap, tl) => 1 ≤ L.length ∧ L.length ≤ cap ∧ cap ≤ L.length + tl.length
theorem key_len {i j : Vl.Id} {L : List Bts} {x : Bts} {cap : Nat} (h : i.2 = j.2) : AVle (.hs i 0 (L.length + 1) cap) (.hs j 0 (L ++ [x]).length cap) := by
  rw [List.length_append]; exact AVle.hs_nm h
theorem rows1 {L : List Bts} : AVle (slOf 1 eA_str [] L) (strsJ (L.map fun z => ⟨z.toArray⟩)) := by
  unfold slOf strsJ slOf
  rw [List.length_map]
  refine AVle.sl_fun fun k hk => ?_
  simp [eA_str, encStr, strA, List.getD, List.getElem?_map, List.getElem?_eq_getElem hk]
def semiB : ByteArray := ⟨#[59]⟩
theorem join_is : ∀ L : List Bts, Lib.join L [59] = joinL 59 L
  | [] => rfl
  | [a] => by rw [Lib.join_one]; rfl
  | a :: b :: l => by
    have := join_is (b :: l)
    rw [joinL_cons (List.cons_ne_nil _ _), ← this]
    simp [Lib.join, List.intercalate, List.intersperse]
theorem joinB_is (L : List Bts) : joinB (L.map fun z => ⟨z.toArray⟩) semiB = ⟨(joinL 59 L).toArray⟩ := by
  unfold joinB
  rw [List.map_map, show ((fun x : ByteArray => x.data.toList) ∘ fun z : Bts => (⟨z.toArray⟩ : ByteArray)) = id from funext fun z => by simp, List.map_id, show semiB.data.toList = [59] from rfl, join_is]
theorem joinL_len : ∀ (L : List Bts) (N : Nat), (∀ a ∈ L, a.length ≤ N) → (joinL 59 L).length ≤ L.length * (N + 1)
  | [], N, _ => Nat.zero_le _
  | [a], N, h => by have := h a (.head _); show a.length ≤ _; simp; omega
  | a :: b :: l, N, h => by
    have h1 := h a (.head _)
    have h2 := joinL_len (b :: l) N fun x hx => h x (.tail _ hx)
    rw [joinL_cons (List.cons_ne_nil _ _), List.length_append, List.length_cons]
    rw [show (a :: b :: l).length = (b :: l).length + 1 from rfl, Nat.succ_mul]
    omega
def keyB (cs : List Cnd) : ByteArray := ⟨(keyL cs).toArray⟩
theorem conds_next {cs : List Cnd} {i : Nat} (hi : i < cs.length) : (cs.take (i + 1)).map condL = (cs.take i).map condL ++ [condL (cs.getD i cnd0)] := by
  rw [take_getD cnd0 hi, List.map_append]; rfl
theorem keyB_is (cs : List Cnd) : joinB ((compT (cs.map condL)).map fun z => ⟨z.toArray⟩) semiB = keyB cs := joinB_is _
theorem keyB_nil : strA (joinB [] semiB) = strA (keyB []) := by
  unfold keyB
  rw [keyL_nil.2 rfl]; rfl
theorem ownEq {a b : Own} (h : a = b) : OwnLe a b := h ▸ OwnLe.refl a
theorem frz_rowG {bs : List (Nat × Own)} {i : Vl.Id} {n cap : Nat} {l : List Bts} {tl : List AV} (hn : l.length = n) (hm : (i.2, .c (rowG eA_str l.toArray tl)) ∈ bs) (hcap : n ≤ cap) : Frz bs (.hs i 0 n cap) (slOf 1 eA_str [] l) :=
  frz_rowK eS_len (fun _ => rfl) hn (by rw [← rowG_K]; exact hm) hcap
theorem condL_len {c : Cnd} (hr : rightC c = true) (hok : c.ok) : (condL c).length ≤ 1000 := txt_small hr hok
theorem compT_len (l : List Bts) : (compT l).length ≤ l.length := by
  have := cUs_le (sortT l).toArray (sortT l).length
  unfold compT
  have h2 : (sortT l).length = l.length := sortBy_length
  omega
theorem join_small {cs : List Cnd} (hr : ∀ c ∈ cs, rightC c = true) (hok : ∀ c ∈ cs, c.ok) (hl : cs.length ≤ 12) : (keyB cs).size ≤ 12012 := by
  have h1 := joinL_len (compT (cs.map condL)) 1000 fun a ha => by
    obtain ⟨c, hc, rfl⟩ := List.mem_map.1 (((compT_spec _).2 a).1 ha)
    exact condL_len (hr c hc) (hok c hc)
  have h2 := compT_len (cs.map condL)
  rw [List.length_map] at h2
  have h3 : (compT (cs.map condL)).length * (1000 + 1) ≤ 12 * (1000 + 1) := Nat.mul_le_mul_right _ (by omega)
  show (keyL cs).length ≤ _
  unfold keyL
  omega
set_option maxHeartbeats 4000000 in
theorem key_spec (cs : List Cnd) (hr : ∀ c ∈ cs, rightC c = true) (hok : ∀ c ∈ cs, c.ok) (hl : cs.length ≤ 12) : Tells Tryz.prog 21 [cnds cs] (strA (keyB cs)) := by
  refine tells_of_aw Tryz.func21 rfl rfl fun nx => ?_
  refine stp ?_
  refine aw_loop (fun y : Nat × List Bts × Option (Nat × Nat × List AV) × Nat => mk 23 [(3, keyO y.2.1 y.2.2.1), (6, cnds cs), (7, int cs.length), (8, int y.1)] ⟨keyH y.2.1 y.2.2.1, [], y.2.2.2, 1⟩) (fun y => y.1 ≤ cs.length ∧ y.2.1 = (cs.take y.1).map condL ∧ keyI y.2.1 y.2.2.1) (fun y => cs.length - y.1) ?_ ?_
  · exact ⟨(0, [], none, nx), ⟨Nat.zero_le _, rfl, rfl⟩, ele_tell (bx := []) (pm := []) [] [] rfl rfl (List.nil_sublist _) (List.Sublist.refl _) trivial trivial ⟨AVle.os_nil, AVle.refl _, AVle.refl _, AVle.refl _, trivial⟩⟩
  · rintro ⟨i, L, md, nx1⟩ ⟨h1, hL, h2⟩
    dsimp only at h1 hL h2
    have hLl : L.length = i := by rw [hL, List.length_map, List.length_take]; omega
    refine stp ?_
    intro c g; cases c
    · have g := not_of g
      try dsimp only at g
      have hi : i = cs.length := by omega
      subst hi
      rw [List.take_length] at hL
      rcases md with _ | ⟨s1, cap, tl⟩
      · obtain rfl : L = [] := h2
        obtain rfl : cs = [] := List.length_eq_zero_iff.1 (by simpa using hLl.symm)
        refine stp ?_
        refine aop_tells rfl rfl (sort0_str _) ⟨AVle.refl _, trivial⟩ fun nx2 => ?_
        refine stp ?_
        refine aop_tells rfl rfl comp0_str ⟨AVle.refl _, trivial⟩ fun nx3 => ?_
        refine stp ?_
        refine aop_tells rfl rfl (join_spec [] semiB (by decide) (by decide)) ⟨AVle.os_sl0, AVle.refl _, trivial⟩ fun nx4 => ?_
        refine stp ?_
        exact ret_tells rfl (AVle.of_eq keyB_nil)
      · obtain ⟨q1, q2, q3⟩ := h2
        refine stp ?_
        refine aop_callF (xs := [.hs (0, s1) 0 L.length cap]) [] [] 1 rfl rfl rfl rfl ⟨AVle.refl _, trivial⟩ (sortS_str L.toArray tl L.length (by simp) (by omega) s1 cap _) (BxLe.refl _) (PmEq.refl _) rfl fun r h' hq => ?_
        obtain ⟨nx2, nn2, rfl⟩ := hq
        refine stp ?_
        refine aop_callF (xs := [.hs (0, s1) 0 L.length cap]) [] [] 1 rfl rfl rfl rfl ⟨AVle.refl _, trivial⟩ (compS_str (sortBy Go.Sort.ltStr L.toArray.toList).toArray tl L.length (by simp [sortBy_length]) (by omega) s1 cap _ q2) (BxLe.refl _) (PmEq.refl _) rfl fun r h' hq => ?_
        obtain ⟨tl2, nx3, nn3, rfl, rfl⟩ := hq
        refine stp ?_
        have hst : ∀ l : List Bts, (sortBy Go.Sort.ltStr l).length = l.length := fun l => sortBy_length
        have hcT : cUs (sortBy Go.Sort.ltStr L.toArray.toList).toArray L.length = compT (cs.map condL) := by
          unfold compT sortT
          rw [hst, ← hL]
        rw [hcT]
        have hcl := compT_len (cs.map condL)
        rw [← hL] at hcl
        rw [← hL]
        have hj : Tells Tryz.prog 42 [slOf 1 eA_str [] (compT L), strA semiB] _ := Tells.args (bs := [strsJ ((compT L).map fun z => ⟨z.toArray⟩), strA semiB]) ⟨rows1, AVle.refl _, trivial⟩ (join_spec ((compT L).map fun z => ⟨z.toArray⟩) semiB (by rw [List.length_map]; omega) (by rw [hL, keyB_is]; exact Nat.le_trans (join_small hr hok hl) (by decide)))
        refine AOp.of_yields (yields_look rfl rfl hj ⟨frz_rowG (i := (0, s1)) rfl (.head _) (by omega), Frz.refl _, trivial⟩ (Flat.v _)) ?_
        refine stp ?_
        exact ret_tells rfl (le_txt (by rw [hL]; exact keyB_is cs))
    · have g := yes_of g
      try dsimp only at g
      have hi : i < cs.length := by omega
      have hm : cs.getD i cnd0 ∈ cs := by simp [List.getD, hi]
      have ht := text_spec _ (hr _ hm) (hok _ hm)
      have hn := conds_next hi
      rw [← hL] at hn
      rcases md with _ | ⟨s1, cap, tl⟩
      · obtain rfl : L = [] := h2
        refine stp ?_
        refine ⟨⟨by first | omega | (dsimp only; omega), by first | omega | (dsimp only; omega)⟩, ?_⟩
        refine stpR ?_
        refine aw_regionY (fun i => match i with | 0 => true | _ => false) 5 ?_
        refine stp ?_
        refine aop_tells rfl rfl ht ⟨AVle.refl _, trivial⟩ fun nx2 => ?_
        refine stp ?_
        refine aop_appendB0 (m := 1) rfl rfl (.inr ⟨_, rfl⟩) Tryz.underlying88 gr_str c_str.symm (by decide) (oneRow_one rfl) (by rw [gb_str]; omega) (by omega) fun ncap hcap => ?_
        refine stp ?_
        exact back (i + 1, [condL (cs.getD i cnd0)], some (nx2, ncap, List.replicate (ncap - 1) .any), nx2 + 1) ⟨hi, hn.symm, ⟨Nat.le_refl _, hcap, by simp; omega⟩⟩ (by dsimp only; omega) (ele_tell (pm := []) (bx := rowH_str nx2 #[condL (cs.getD i cnd0)] (List.replicate (ncap - 1) .any)) [((2, nx2), .c ([eA_str (condL (cs.getD i cnd0))] ++ List.replicate ((ncap - 1) * Tryz.prog.cellsOf 9) .any))] [] rfl rfl (.cons_cons _ (.cons _ .slnil)) .slnil ⟨rfl, ownEq (congrArg Own.c keyG0), trivial⟩ trivial ⟨AVle.hs_nm rfl, AVle.refl _, AVle.refl _, le_int (wrap_succ (by first | omega | (dsimp only; omega))), trivial⟩)
      · obtain ⟨q1, q2, q3⟩ := h2
        refine stp ?_
        refine ⟨⟨by first | omega | (dsimp only; omega), by first | omega | (dsimp only; omega)⟩, ?_⟩
        refine stpR ?_
        refine aw_regionY (fun i => match i with | 0 => true | _ => false) 5 ?_
        refine stp ?_
        refine aop_tells rfl rfl ht ⟨AVle.refl _, trivial⟩ fun nx2 => ?_
        refine stp ?_
        refine aop_appendB (m := 1) (szx := 1) (n := L.length) (cap := cap) (cs := rowG eA_str L.toArray tl) (i := (0, s1)) rfl rfl (.inr ⟨_, rfl⟩) Tryz.underlying88 gr_str (.inr c_str.symm) (by rfl) q2 (by rw [c_str, rowG_len]; simpa using q3) (oneRow_one rfl) (fun _ => by rw [gb_str]; omega) (fun _ => by omega) (fun hm => absurd hm (by decide)) (fun hm hfit => ?_) (fun hm hfit ncap hcap => ?_)
        · refine stp ?_
          (conv => whnf)
          exact back (i + 1, L ++ [condL (cs.getD i cnd0)], some (s1, cap, tl.drop 1), nx2) ⟨hi, hn.symm, ⟨by simp, by simpa using hfit, by simp; omega⟩⟩ (by dsimp only; omega) (ele_tell (pm := []) (bx := rowH_str s1 (L ++ [condL (cs.getD i cnd0)]).toArray (tl.drop 1)) [((0, s1), .c (splice (rowG eA_str L.toArray tl) (L.length * Tryz.prog.cellsOf 9) [eA_str (condL (cs.getD i cnd0))]))] [] rfl rfl (.cons _ (.cons_cons _ .slnil)) .slnil ⟨rfl, ownEq (congrArg Own.c (keyG1 (by have := hfit; omega))), trivial⟩ trivial ⟨key_len rfl, AVle.refl _, AVle.refl _, le_int (wrap_succ (by first | omega | (dsimp only; omega))), trivial⟩)
        · refine stp ?_
          (conv => whnf)
          exact back (i + 1, L ++ [condL (cs.getD i cnd0)], some (nx2, ncap, List.replicate (ncap - (L.length + 1)) .any), nx2 + 1) ⟨hi, hn.symm, ⟨by simp, by simpa using hcap, by simp; omega⟩⟩ (by dsimp only; omega) (ele_tell (pm := []) (bx := rowH_str nx2 (L ++ [condL (cs.getD i cnd0)]).toArray (List.replicate (ncap - (L.length + 1)) .any)) [((2, nx2), .c ((rowG eA_str L.toArray tl).take (L.length * Tryz.prog.cellsOf 9) ++ [eA_str (condL (cs.getD i cnd0))] ++ List.replicate ((ncap - (L.length + 1)) * Tryz.prog.cellsOf 9) .any))] [] rfl rfl (.cons_cons _ (.cons _ (.cons _ .slnil))) .slnil ⟨rfl, ownEq (congrArg Own.c keyG2), trivial⟩ trivial ⟨key_len rfl, AVle.refl _, AVle.refl _, le_int (wrap_succ (by first | omega | (dsimp only; omega))), trivial⟩)
end Go.Proofs.W

/- Which policies are valid. -/
namespace Go.Proofs.W
open Go.Vl
set_option maxRecDepth 100000

def badC (c : Cnd) : Bool := decide (c.op = 7) && decide (clrB c.value c.mask ≠ 0)
def alikeB (a b : List Cnd) : Bool := (a.all fun c => decide (c ∈ b)) && b.all fun c => decide (c ∈ a)
def dupR (r q : Rul) : Bool := kS q.name r.name && (decide (q.conds.length = 0) || alikeB q.conds r.conds)
def ruleV (l : List TRow) (rs : List Rul) (i : Nat) : Int := if foundB l (rs.getD i rul0).name = false then 14 else if (rs.getD i rul0).conds.any badC = true then 16 else if (rs.take i).any (dupR (rs.getD i rul0)) = true then 15 else 0
def firstV (l : List TRow) (rs : List Rul) : Option Nat := (List.range rs.length).find? fun i => decide (ruleV l rs i ≠ 0)
def validE (p : Pol) (l : List TRow) : Int × Int := if rightP p = false then (0, 13) else if (tabR l).2 ≠ 0 then (0, 18) else match firstV l p.rules with
  | some i => ((i : Int), ruleV l p.rules i)
  | none => (0, 0)
def nameL (r : Rul) : Bts := r.name.data.toList
def ownL (r : Rul) : Bts := nameL r ++ 58 :: keyL r.conds
theorem name_no {l : List UInt8} (h : nameB l = true) : (58 : UInt8) ∉ l := fun q => by
  unfold nameB at h
  simp only [Bool.and_eq_true] at h
  have := List.all_eq_true.1 h.2.2.2.2.1 58 q
  revert this
  decide
theorem rule_name {r : Rul} (h : rightR r = true) : (58 : UInt8) ∉ nameL r := name_no (by
  unfold rightR at h
  simp only [Bool.and_eq_true] at h
  exact h.1)
theorem rule_conds {r : Rul} (h : rightR r = true) : ∀ c ∈ r.conds, rightC c = true := fun c hc => by
  unfold rightR at h
  simp only [Bool.and_eq_true] at h
  have := h.2.2.2
  simp only [Bool.not_eq_true', List.any_eq_false] at this
  simpa using this c hc
theorem alike_iff {a b : List Cnd} : alikeB a b = true ↔ ∀ c, c ∈ a ↔ c ∈ b := by
  unfold alikeB
  simp only [Bool.and_eq_true, List.all_eq_true, decide_eq_true_eq]
  exact ⟨fun h c => ⟨h.1 c, h.2 c⟩, fun h => ⟨fun c => (h c).1, fun c => (h c).2⟩⟩
theorem own_eq15 {q r : Rul} (hq : rightR q = true) (hr : rightR r = true) : ownL q = ownL r ↔ kS q.name r.name = true ∧ alikeB q.conds r.conds = true := by
  unfold ownL
  constructor
  · intro h
    obtain ⟨h1, h2⟩ := split_at (rule_name hq) (rule_name hr) h
    exact ⟨kS_eq.2 (data_inj' h1), alike_iff.2 ((keyL_iff (rule_conds hq) (rule_conds hr)).1 h2)⟩
  · rintro ⟨h1, h2⟩
    unfold nameL
    rw [kS_eq.1 h1, (keyL_iff (rule_conds hq) (rule_conds hr)).2 (alike_iff.1 h2)]
theorem own_bare {q r : Rul} (hq : rightR q = true) (hr : rightR r = true) : ownL q = nameL r ++ [58] ↔ kS q.name r.name = true ∧ q.conds.length = 0 := by
  unfold ownL
  constructor
  · intro h
    obtain ⟨h1, h2⟩ := split_at (rule_name hq) (rule_name hr) h
    exact ⟨kS_eq.2 (data_inj' h1), List.length_eq_zero_iff.2 (keyL_nil.1 h2)⟩
  · rintro ⟨h1, h2⟩
    unfold nameL
    rw [kS_eq.1 h1, keyL_nil.2 (List.length_eq_zero_iff.1 h2)]
def seenL (rs : List Rul) (i : Nat) : List Bts := (rs.take i).map ownL
theorem fresh_iff {rs : List Rul} (h : ∀ r ∈ rs, rightR r = true) {i : Nat} {r : Rul} (hr : rightR r = true) : (nameL r ++ [58] ∈ seenL rs i ∨ ownL r ∈ seenL rs i) ↔ (rs.take i).any (dupR r) = true := by
  unfold seenL
  rw [List.any_eq_true]
  constructor
  · rintro (q | q)
    · obtain ⟨x, hx, he⟩ := List.mem_map.1 q
      obtain ⟨k1, k2⟩ := (own_bare (h x (List.mem_of_mem_take hx)) hr).1 he
      exact ⟨x, hx, by unfold dupR; rw [k1, decide_eq_true k2]; rfl⟩
    · obtain ⟨x, hx, he⟩ := List.mem_map.1 q
      obtain ⟨k1, k2⟩ := (own_eq15 (h x (List.mem_of_mem_take hx)) hr).1 he
      exact ⟨x, hx, by unfold dupR; rw [k1, k2, Bool.or_true]; rfl⟩
  · rintro ⟨x, hx, he⟩
    unfold dupR at he
    rw [Bool.and_eq_true, Bool.or_eq_true, decide_eq_true_iff] at he
    have hxr := h x (List.mem_of_mem_take hx)
    rcases he with ⟨k1, k2 | k2⟩
    · exact .inl (List.mem_map.2 ⟨x, hx, (own_bare hxr hr).2 ⟨k1, k2⟩⟩)
    · exact .inr (List.mem_map.2 ⟨x, hx, (own_eq15 hxr hr).2 ⟨k1, k2⟩⟩)
theorem first_at {l : List TRow} {rs : List Rul} {i : Nat} (hi : i < rs.length) (h : ∀ j, j < i → ruleV l rs j = 0) (hv : ruleV l rs i ≠ 0) : firstV l rs = some i := by
  unfold firstV
  rw [List.find?_eq_some_iff_getElem]
  refine ⟨by simpa using hv, i, by simpa using hi, by simp, fun j hj => ?_⟩
  simp [h j hj]
theorem first_none {l : List TRow} {rs : List Rul} (h : ∀ j, j < rs.length → ruleV l rs j = 0) : firstV l rs = none := by
  unfold firstV
  rw [List.find?_eq_none]
  intro j hj
  simp [h j (List.mem_range.1 hj)]
end Go.Proofs.W

/- Which policies are valid, by the program: what is asked of each rule. -/
namespace Go.Proofs.W
open Go.Vl
set_option maxRecDepth 100000

def esV (N : List ByteArray) : List (Value × AV) := N.map fun s => (.string s, .v (.bool true))
def inV (N : List ByteArray) (s : ByteArray) : Bool := N.any fun t => kS s t
theorem esV_fit (N : List ByteArray) : keysFit .string (esV N) = true := by simp [keysFit, esV, keyFit]
theorem esV_look (s : ByteArray) : ∀ N : List ByteArray, alook (.string s) (esV N) = if inV N s then some (.v (.bool true)) else none
  | [] => rfl
  | t :: N => by
    have ih := esV_look s N
    show (bif s.toList == t.toList then _ else alook (.string s) (esV N)) = _
    rw [ih]
    unfold inV
    rw [List.any_cons]
    unfold kS
    cases s.toList == t.toList <;> rfl
theorem esV_put (s : ByteArray) : ∀ N : List ByteArray, inV N s = false → aput (.string s) (.v (.bool true)) (esV N) = esV (N ++ [s])
  | [], _ => rfl
  | t :: N, h => by
    unfold inV at h
    rw [List.any_cons, Bool.or_eq_false_iff] at h
    show (bif s.toList == t.toList then _ else (_ : Value × AV) :: aput _ _ (esV N)) = _
    unfold kS at h
    rw [h.1, cond_false, esV_put s N h.2]; rfl
theorem esV_get {s : ByteArray} {N : List ByteArray} : lookR (alook (.string s) (esV N)) (.v (.bool false)) false = .v (.bool (inV N s)) := by
  rw [esV_look]; cases inV N s <;> rfl
def rulC (r : Rul) : List AV := [strA r.name, int r.act.1, int r.act.2, cnds r.conds]
theorem chk2a_spec (c : Cnd) (hok : c.ok) : Tells Tryz.prog 20 [cndA c] (boolA (badC c)) := by
  obtain ⟨arg, op, mask, value⟩ := c
  refine tells_of_aw Tryz.func20 rfl rfl fun nx => ?_
  refine stp ?_
  intro c t1; cases c
  · refine stp ?_
    refine ret_tells rfl (le_bool ?_)
    have : ¬ op = 7 := fun e => by subst e; cases t1
    unfold badC
    rw [decide_eq_false this]; rfl
  · have h7 : op = 7 := by simpa using t1.symm
    refine stp ?_
    intro c hc
    have e : badC ⟨arg, op, mask, value⟩ = c := by
      unfold badC
      rw [decide_eq_true h7, Bool.true_and, hc]
      dsimp only
      rw [u64_andNot hok.2 hok.1]
      by_cases h0 : clrB value mask = 0
      · rw [h0]; rfl
      · rw [decide_eq_true h0]
        exact (bne_iff_ne.2 (fun e => h0 (Int.ofNat.inj e))).symm
    rw [e]
    cases c
    · refine stp ?_
      exact ret_tells rfl (AVle.refl _)
    · refine stp ?_
      exact ret_tells rfl (AVle.refl _)
theorem chk2_spec (r : Rul) (hok : ∀ c ∈ r.conds, c.ok) (hl : r.conds.length ≤ 1000000000) : Tells Tryz.prog 18 [.rp (rulC r)] (boolA (!(r.conds.any badC))) := by
  have hc := cntf_cnd r.conds badC 20 hl fun i hi => chk2a_spec _ (hok _ (by simp [List.getD, hi]))
  generalize r.conds.any badC = b at hc ⊢
  refine tells_of_aw Tryz.func18 rfl rfl fun nx => ?_
  refine stp ?_
  refine aop_tells rfl rfl hc ⟨AVle.refl _, AVle.refl _, trivial⟩ fun nx2 => ?_
  cases b
  · refine stp ?_
    exact ret_tells rfl (AVle.refl _)
  · refine stp ?_
    exact ret_tells rfl (AVle.refl _)
theorem chk1_spec (l : List TRow) (r : Rul) (hl : l.length ≤ 1000000) (hs : MonoT l r.name) : Tells Tryz.prog 16 [.rp [trows l], .rp (rulC r)] (boolA (foundB l r.name)) := by
  have hf := tabfind_spec l r.name hl hs
  unfold findA at hf
  refine tells_of_aw Tryz.func16 rfl rfl fun nx => ?_
  cases hb : foundB l r.name with
  | true =>
    rw [hb, if_pos rfl] at hf
    refine stp ?_
    refine aop_tells rfl rfl hf ⟨AVle.refl _, AVle.refl _, trivial⟩ fun nx2 => ?_
    refine stp ?_
    exact ret_tells rfl (AVle.refl _)
  | false =>
    rw [hb, if_neg (by decide)] at hf
    refine stp ?_
    refine aop_tells rfl rfl hf ⟨AVle.refl _, AVle.refl _, trivial⟩ fun nx2 => ?_
    refine stp ?_
    exact ret_tells rfl (AVle.refl _)
def colB : ByteArray := ⟨#[58]⟩
def freshV (N : List ByteArray) (s own : ByteArray) : Bool := !inV N (s ++ colB) && !inV N own
set_option maxHeartbeats 1000000 in
theorem chk3_spec (N : List ByteArray) (r : Rul) (own : ByteArray) (hs : r.name.size ≤ 1000000) (s nx : Nat) :
    ECall Tryz.prog 22 [.rp [.om (0, s)], .rp (rulC r), .rp [strA own]] ⟨[((0, s), .mp (esV N))], [], nx, 1⟩ fun b h' => ∃ nx' nn', b = boolA (freshV N r.name own) ∧ h' = ⟨[((0, s), .mp (esV N))], [], nx', nn'⟩ := by
  refine ECall.wk (ecall_of_aw Tryz.func22 rfl rfl ?_)
  refine stpM ?_
  refine ⟨by have h2 : (⟨#[58]⟩ : ByteArray).size = 1 := rfl; rw [h2]; omega, ?_⟩
  refine stpM ?_
  refine ⟨⟨rfl, esV_fit _⟩, splitO_eq (b := .v (.bool (inV N (r.name ++ colB)))) esV_get ?_⟩
  unfold freshV
  cases h1 : inV N (r.name ++ colB)
  · refine stpM ?_
    refine ⟨⟨rfl, esV_fit _⟩, splitO_eq (b := .v (.bool (inV N own))) esV_get ?_⟩
    cases h2 : inV N own
    · refine stp ?_
      exact ret_is rfl ⟨_, _, AVle.refl _, HLe.refl _, _, _, rfl, rfl⟩
    · refine stp ?_
      exact ret_is rfl ⟨_, _, AVle.refl _, HLe.refl _, _, _, rfl, rfl⟩
  · refine stp ?_
    exact ret_is rfl ⟨_, _, AVle.refl _, HLe.refl _, _, _, rfl, rfl⟩
end Go.Proofs.W

/- A valid policy without one of its rules, with other actions, with conditions in another order, with a rule more. -/
namespace Go.Proofs.W
open Go.Vl
set_option maxRecDepth 100000

theorem validE_0 {p : Pol} {l : List TRow} : (validE p l).2 = 0 ↔ rightP p = true ∧ (tabR l).2 = 0 ∧ ∀ i, i < p.rules.length → ruleV l p.rules i = 0 := by
  unfold validE
  by_cases h1 : rightP p = false
  · rw [if_pos h1]
    exact ⟨fun h => absurd h (by decide), fun h => by rw [h1] at h; cases h.1⟩
  rw [if_neg h1]
  by_cases h2 : (tabR l).2 ≠ 0
  · rw [if_pos h2]
    exact ⟨fun h => absurd h (by decide), fun h => absurd h.2.1 h2⟩
  rw [if_neg h2]
  constructor
  · intro h
    refine ⟨by simpa using h1, by simpa using h2, fun i hi => ?_⟩
    cases hf : firstV l p.rules with
    | none =>
      unfold firstV at hf
      have := List.find?_eq_none.1 hf i (List.mem_range.2 hi)
      simpa using this
    | some j =>
      rw [hf] at h
      unfold firstV at hf
      have := List.find?_some hf
      exact absurd h (by simpa using this)
  · rintro ⟨_, _, h⟩
    rw [first_none h]
theorem validE_ok {p : Pol} {l : List TRow} (h : (validE p l).2 = 0) : validE p l = (0, 0) := by
  obtain ⟨h1, h2, h3⟩ := validE_0.1 h
  unfold validE
  rw [if_neg (by rw [h1]; decide), if_neg (by omega), first_none h3]
theorem validE_at {p : Pol} {l : List TRow} (h1 : rightP p = true) (h2 : (tabR l).2 = 0) {i : Nat} (hi : i < p.rules.length) (h3 : ∀ j, j < i → ruleV l p.rules j = 0) {v : Int} (h4 : ruleV l p.rules i = v) (h5 : v ≠ 0) : validE p l = ((i : Int), v) := by
  unfold validE
  rw [if_neg (by rw [h1]; decide), if_neg (by omega), first_at hi h3 (by rw [h4]; exact h5)]
  exact congrArg _ h4
theorem ruleV_0 {l : List TRow} {rs : List Rul} {i : Nat} : ruleV l rs i = 0 ↔ foundB l (rs.getD i rul0).name = true ∧ (rs.getD i rul0).conds.any badC = false ∧ (rs.take i).any (dupR (rs.getD i rul0)) = false := by
  unfold ruleV
  by_cases h1 : foundB l (rs.getD i rul0).name = false
  · rw [if_pos h1]; exact ⟨fun h => absurd h (by decide), fun h => by rw [h1] at h; cases h.1⟩
  rw [if_neg h1]
  by_cases h2 : (rs.getD i rul0).conds.any badC = true
  · rw [if_pos h2]; exact ⟨fun h => absurd h (by decide), fun h => by rw [h2] at h; cases h.2.1⟩
  rw [if_neg h2]
  by_cases h3 : (rs.take i).any (dupR (rs.getD i rul0)) = true
  · rw [if_pos h3]; exact ⟨fun h => absurd h (by decide), fun h => by rw [h3] at h; cases h.2.2⟩
  rw [if_neg h3]
  exact ⟨fun _ => ⟨by simpa using h1, by simpa using h2, by simpa using h3⟩, fun _ => rfl⟩
theorem rightP_iff {p : Pol} : rightP p = true ↔ right9 p.dflt.1 p.dflt.2 = true ∧ p.rules.length ≤ 500 ∧ ∀ r ∈ p.rules, rightR r = true := by
  unfold rightP
  simp only [Bool.and_eq_true, decide_eq_true_eq, Bool.not_eq_true', List.any_eq_false, Bool.not_eq_false']
  exact ⟨fun h => ⟨h.1, h.2.1, fun r hr => by simpa using h.2.2 r hr⟩, fun h => ⟨h.1, h.2.1, fun r hr => by simpa using h.2.2 r hr⟩⟩
/-- Two rules that are valid alike. -/
def sameV (r q : Rul) : Prop := r.name = q.name ∧ ∀ c, c ∈ r.conds ↔ c ∈ q.conds
theorem sameV.bad {r q : Rul} (h : sameV r q) : r.conds.any badC = q.conds.any badC := by
  rw [Bool.eq_iff_iff, List.any_eq_true, List.any_eq_true]
  exact ⟨fun ⟨c, h1, h2⟩ => ⟨c, (h.2 c).1 h1, h2⟩, fun ⟨c, h1, h2⟩ => ⟨c, (h.2 c).2 h1, h2⟩⟩
theorem sameV.len {r q : Rul} (h : sameV r q) : decide (r.conds.length = 0) = decide (q.conds.length = 0) := by
  have : r.conds.length = 0 ↔ q.conds.length = 0 := by
    rw [List.length_eq_zero_iff, List.length_eq_zero_iff, List.eq_nil_iff_forall_not_mem, List.eq_nil_iff_forall_not_mem]
    exact ⟨fun k c hc => k c ((h.2 c).2 hc), fun k c hc => k c ((h.2 c).1 hc)⟩
  exact decide_eq_decide.2 this
theorem sameV.dup {r r' q q' : Rul} (h : sameV r r') (k : sameV q q') : dupR r q = dupR r' q' := by
  unfold dupR
  rw [h.1, k.1, k.len]
  have : alikeB q.conds r.conds = alikeB q'.conds r'.conds := by
    rw [Bool.eq_iff_iff, alike_iff, alike_iff]
    exact ⟨fun e c => ((k.2 c).symm.trans (e c)).trans (h.2 c), fun e c => ((k.2 c).trans (e c)).trans (h.2 c).symm⟩
  rw [this]
theorem take_any_dup {rs rs' : List Rul} (hl : rs.length = rs'.length) (h : ∀ j, j < rs.length → sameV (rs.getD j rul0) (rs'.getD j rul0)) {r r' : Rul} (hr : sameV r r') {i : Nat} (hi : i ≤ rs.length) : (rs.take i).any (dupR r) = (rs'.take i).any (dupR r') := by
  rw [Bool.eq_iff_iff, List.any_eq_true, List.any_eq_true]
  constructor
  · rintro ⟨x, hx, he⟩
    obtain ⟨j, hj, rfl⟩ := List.mem_iff_getElem.1 hx
    rw [List.length_take] at hj
    have hs := h j (by omega)
    refine ⟨rs'.getD j rul0, List.mem_iff_getElem.2 ⟨j, by rw [List.length_take]; omega, by rw [List.getElem_take]; simp [List.getD, show j < rs'.length by omega]⟩, ?_⟩
    rw [← hr.dup hs, show rs.getD j rul0 = (rs.take i)[j]'(by rw [List.length_take]; omega) by rw [List.getElem_take]; simp [List.getD, show j < rs.length by omega]]
    exact he
  · rintro ⟨x, hx, he⟩
    obtain ⟨j, hj, rfl⟩ := List.mem_iff_getElem.1 hx
    rw [List.length_take] at hj
    have hs := h j (by omega)
    refine ⟨rs.getD j rul0, List.mem_iff_getElem.2 ⟨j, by rw [List.length_take]; omega, by rw [List.getElem_take]; simp [List.getD, show j < rs.length by omega]⟩, ?_⟩
    rw [hr.dup hs, show rs'.getD j rul0 = (rs'.take i)[j]'(by rw [List.length_take]; omega) by rw [List.getElem_take]; simp [List.getD, show j < rs'.length by omega]]
    exact he
theorem ruleV_same {l : List TRow} {rs rs' : List Rul} (hl : rs.length = rs'.length) (h : ∀ j, j < rs.length → sameV (rs.getD j rul0) (rs'.getD j rul0)) {i : Nat} (hi : i < rs.length) : ruleV l rs i = ruleV l rs' i := by
  have hs := h i hi
  unfold ruleV
  rw [hs.1, hs.bad, take_any_dup hl h hs (by omega)]
theorem firstV_same {l : List TRow} {rs rs' : List Rul} (hl : rs.length = rs'.length) (h : ∀ j, j < rs.length → sameV (rs.getD j rul0) (rs'.getD j rul0)) : firstV l rs = firstV l rs' := by
  unfold firstV
  rw [← hl]
  have : ∀ L : List Nat, (∀ i ∈ L, i < rs.length) → L.find? (fun i => decide (ruleV l rs i ≠ 0)) = L.find? fun i => decide (ruleV l rs' i ≠ 0) := by
    intro L
    induction L with
    | nil => intro _; rfl
    | cons a L ih =>
      intro hL
      rw [List.find?_cons, List.find?_cons, ruleV_same hl h (hL a (.head _)), ih fun i hi => hL i (.tail _ hi)]
  exact this _ fun i hi => List.mem_range.1 hi
theorem valid_same {p q : Pol} {l : List TRow} (hR : rightP p = rightP q) (hl : p.rules.length = q.rules.length) (h : ∀ j, j < p.rules.length → sameV (p.rules.getD j rul0) (q.rules.getD j rul0)) : validE p l = validE q l := by
  unfold validE
  rw [hR, firstV_same hl h]
  cases hf : firstV l q.rules with
  | none => rfl
  | some i =>
    dsimp only
    have hi : i < p.rules.length := by
      unfold firstV at hf
      have := List.mem_range.1 (List.mem_of_find?_eq_some hf)
      omega
    rw [ruleV_same hl h hi]
end Go.Proofs.W

/- Which policies are valid, by the program. -/
namespace Go.Proofs.W
open Go.Vl
set_option maxRecDepth 100000

def ownB (r : Rul) : ByteArray := r.name ++ colB ++ keyB r.conds
theorem ownB_data (r : Rul) : (ownB r).data.toList = ownL r := by
  unfold ownB ownL keyB nameL
  rw [cat_data, cat_data, show colB.data.toList = [58] from rfl]
  simp
theorem inV_iff {N : List ByteArray} {s : ByteArray} : inV N s = true ↔ s.data.toList ∈ N.map (fun t => t.data.toList) := by
  unfold inV
  rw [List.any_eq_true, List.mem_map]
  exact ⟨fun ⟨t, h1, h2⟩ => ⟨t, h1, by rw [kS_eq.1 h2]⟩, fun ⟨t, h1, h2⟩ => ⟨t, h1, kS_eq.2 (data_inj' h2.symm)⟩⟩
def seenB (rs : List Rul) (i : Nat) : List ByteArray := (rs.take i).map ownB
theorem seenB_data (rs : List Rul) (i : Nat) : (seenB rs i).map (fun t => t.data.toList) = seenL rs i := by
  unfold seenB seenL
  rw [List.map_map]
  exact List.map_congr_left fun r _ => ownB_data r
theorem fresh_is {rs : List Rul} (h : ∀ r ∈ rs, rightR r = true) {i : Nat} {r : Rul} (hr : rightR r = true) : freshV (seenB rs i) r.name (ownB r) = !(rs.take i).any (dupR r) := by
  unfold freshV
  rw [← Bool.not_or]
  congr 1
  rw [Bool.eq_iff_iff, Bool.or_eq_true, inV_iff, inV_iff, seenB_data, ownB_data, cat_data, show colB.data.toList = [58] from rfl]
  exact fresh_iff h hr
theorem seen_next {rs : List Rul} {i : Nat} (hi : i < rs.length) : seenB rs (i + 1) = seenB rs i ++ [ownB (rs.getD i rul0)] := by
  unfold seenB
  rw [take_getD rul0 hi, List.map_append]; rfl
def askL (l : List TRow) (r : Rul) (s : Nat) : List AV := [.ag [.fn (.func 16) [] [.rp [trows l], .rp (rulC r)], int 14], .ag [.fn (.func 18) [] [.rp (rulC r)], int 16], .ag [.fn (.func 22) [] [.rp [.om (0, s)], .rp (rulC r), .rp [strA (ownB r)]], int 15]]
theorem fresh_own {rs : List Rul} {i : Nat} {r : Rul} (h : freshV (seenB rs i) r.name (ownB r) = true) : inV (seenB rs i) (ownB r) = false := by
  unfold freshV at h
  simp only [Bool.and_eq_true, Bool.not_eq_true'] at h
  exact h.2
theorem le_two {a b c d : Int} (h : (a, b) = (c, d)) : AVle (.tup [int a, int b]) (.tup [int c, int d]) := by
  cases h; exact AVle.refl _
theorem z_str1 : zcells Tryz.prog 9 = some [strA ⟨#[]⟩] := by kernel_rfl
theorem AVle.om_nm {i j : Vl.Id} (h : i.2 = j.2) : AVle (.om i) (.om j) := fun w X g u hr => by
  cases hr with
  | om _ b hg => exact .om _ b (h ▸ hg)
theorem AVle.rps {cs ds : List AV} (h : LeL cs ds) : AVle (.rp cs) (.rp ds) := fun w X g u hr => by
  obtain ⟨hl, h⟩ := h.get
  cases hr with
  | rp _ b off vs hn hcell hr =>
    refine .rp _ b off vs (by rw [hn, hl]) hcell fun k d u hd hu => ?_
    have hlt : k < cs.length := by rw [hl]; exact (List.getElem?_eq_some_iff.1 hd).1
    exact h k _ d (List.getElem?_eq_getElem hlt) hd _ _ _ _ (hr k _ u (List.getElem?_eq_getElem hlt) hu)
theorem rule_in {rs : List Rul} {i : Nat} (h : i < rs.length) : rs.getD i rul0 ∈ rs := by simp [List.getD, h]
set_option maxHeartbeats 8000000 in
theorem check15_spec (p : Pol) (l : List TRow) (hp : p.ok) (hp2 : ∀ r ∈ p.rules, r.conds.length ≤ 12 ∧ r.name.size ≤ 1000000) (hl : l.length ≤ 1000000) (hn : ∀ r ∈ l, r.name.size ≤ maxLen) : Tells Tryz.prog 8 [polA p, trows l] (.tup [int (validE p l).1, int (validE p l).2]) := by
  have hR := pright_spec p hp
  have hT := tabright_spec l hl hn
  cases hb : rightP p with
  | false =>
    rw [hb] at hR
    obtain ⟨⟨k, n⟩, x, rs⟩ := p
    refine tells_of_aw Tryz.func8 rfl rfl fun nx => ?_
    refine stp ?_
    refine aop_tells rfl rfl hR ⟨AVle.refl _, trivial⟩ fun nx2 => ?_
    refine stp ?_
    exact ret_tells rfl (le_two (by unfold validE; rw [if_pos hb]))
  | true =>
  rw [hb] at hR
  by_cases ht : (tabR l).2 = 0
  rotate_left
  · obtain ⟨⟨k, n⟩, x, rs⟩ := p
    refine tells_of_aw Tryz.func8 rfl rfl fun nx => ?_
    refine stp ?_
    refine aop_tells rfl rfl hR ⟨AVle.refl _, trivial⟩ fun nx2 => ?_
    refine stp ?_
    refine aop_tells rfl rfl hT ⟨AVle.refl _, trivial⟩ fun nx3 => ?_
    refine stp ?_
    intro c hc
    obtain rfl : c = true := hc.trans (bne_iff_ne.2 ht)
    refine stp ?_
    exact ret_tells rfl (le_two (by unfold validE; rw [if_neg (by rw [hb]; decide), if_pos ht]))
  · have hs := tab_sorted ht
    have hrr := (rightP_iff.1 hb).2.2
    have hok := hp.2
    have hlen : p.rules.length ≤ 500 := (rightP_iff.1 hb).2.1
    have hat : ∀ i v, i < p.rules.length → (∀ j, j < i → ruleV l p.rules j = 0) → ruleV l p.rules i = v → v ≠ 0 → ((i : Int), v) = validE p l := fun i v h1 h2 h3 h4 => (validE_at hb ht h1 h2 h3 h4).symm
    have hnone : (∀ j, j < p.rules.length → ruleV l p.rules j = 0) → ((0 : Int), (0 : Int)) = validE p l := fun h => (validE_ok (validE_0.2 ⟨hb, ht, h⟩)).symm
    generalize hV : validE p l = V at hat hnone ⊢
    obtain ⟨V1, V2⟩ := V
    obtain ⟨⟨k, n⟩, x, rs⟩ := p
    dsimp only at hok hrr hat hnone hlen hp2
    rw [ht] at hT
    refine tells_of_aw Tryz.func8 rfl rfl fun nx => ?_
    refine stp ?_
    refine aop_tells rfl rfl hR ⟨AVle.refl _, trivial⟩ fun nx2 => ?_
    refine stp ?_
    refine aop_tells rfl rfl hT ⟨AVle.refl _, trivial⟩ fun nx3 => ?_
    (refine stpR ?_; refine aw_region ?_; refine stpR ?_; refine aw_region ?_; refine stpR ?_)
    refine aw_freeze (n := 69) (nx := nx3 + 2) (nn := 4) (pm := []) (bx := [((2, nx3), .mp [])]) (L := [(2, .rp [int k, int n, boolA x, ruls rs]), (3, .rp [trows l]), (8, .rp [.om (2, nx3)])]) (df := some []) [((3, nx3 + 1), .c [.om (2, nx3)]), ((1, nx + 1), .c [trows l]), ((0, nx), .c [int k, int n, boolA x, ruls rs])] rfl rfl rfl (.cons _ ((List.perm_append_comm (l₁ := [((2, nx3), Own.mp [])]) (l₂ := [((1, nx + 1), .c [trows l]), ((0, nx), .c [int k, int n, boolA x, ruls rs])])))) (List.Sublist.refl _) ⟨Frz.bp (.tail _ (.tail _ (.head _))) rfl, Frz.bp (.tail _ (.head _)) rfl, Frz.bp (.head _) rfl, trivial⟩ ?_
    refine stp ?_
    refine aw_loop (fun y : Nat × Nat => mk 69 [(3, .rp [trows l]), (8, .rp [.om (0, nx3)]), (29, ruls rs), (30, int rs.length), (31, int y.1)] ⟨[((0, nx3), .mp (esV (seenB rs y.1)))], [], y.2, 1⟩) (fun y => y.1 ≤ rs.length ∧ ∀ j, j < y.1 → ruleV l rs j = 0) (fun y => rs.length - y.1) ?_ ?_
    · exact ⟨(0, nx3 + 2), ⟨Nat.zero_le _, fun j h => absurd h (Nat.not_lt_zero _)⟩, ele_tell (pm := []) (bx := [((0, nx3), .mp (esV (seenB rs 0)))]) [((2, nx3), .mp [])] [] rfl rfl (List.Sublist.refl _) .slnil ⟨rfl, OwnLe.refl _, trivial⟩ trivial ⟨AVle.refl _, W.AVle.rps ⟨W.AVle.om_nm rfl, trivial⟩, AVle.refl _, AVle.refl _, AVle.refl _, trivial⟩⟩
    · rintro ⟨i, nx4⟩ ⟨h1, h2⟩
      dsimp only at h1 h2
      refine stp ?_
      intro c g; cases c
      · have g := not_of g
        try dsimp only at g
        obtain rfl : i = rs.length := by omega
        refine stp ?_
        exact ret_tells rfl (le_two (hnone h2))
      · have g := yes_of g
        try dsimp only at g
        have hi : i < rs.length := by omega
        have hm : rs.getD i rul0 ∈ rs := rule_in hi
        have hri := hrr _ hm
        have hoki := hok _ hm
        have hsi := hp2 _ hm
        have hk := key_spec (rs.getD i rul0).conds (rule_conds hri) hoki.2.2 hsi.1
        have ha1 := chk1_spec l (rs.getD i rul0) hl (sorted_mono hs _)
        have ha2 := chk2_spec (rs.getD i rul0) hoki.2.2 (by omega)
        have ha3 := chk3_spec (seenB rs i) (rs.getD i rul0) (ownB (rs.getD i rul0)) hsi.2 nx3
        rw [fresh_is hrr hri] at ha3
        have hv := @ruleV_0 l rs i
        have hks : (keyB (rs.getD i rul0).conds).size ≤ 12012 := join_small (rule_conds hri) hoki.2.2 hsi.1
        refine stp ?_
        refine ⟨⟨by first | omega | (dsimp only; omega), by first | omega | (dsimp only; omega)⟩, ?_⟩
        refine stpR ?_
        refine aw_freeze (n := 69) (nx := nx4 + 1) (nn := 2) (pm := []) (bx := [((0, nx3), .mp (esV (seenB rs i)))]) (L := [(3, .rp [trows l]), (8, .rp [.om (0, nx3)]), (9, int i), (10, .rp (rulC (rs.getD i rul0))), (29, ruls rs), (30, int rs.length), (31, int i)]) (df := some []) [((1, nx4), .c (rulC (rs.getD i rul0)))] rfl rfl rfl (List.Perm.refl _) (List.Sublist.refl _) ⟨Frz.refl _, Frz.refl _, Frz.refl _, Frz.bp (.head _) rfl, Frz.refl _, Frz.refl _, Frz.refl _, trivial⟩ ?_
        refine stp ?_
        refine aw_mixN 8 [] (fun i => match i with | 7 => true | _ => false) (fun i => match i with | 5 => true | _ => false) [0, 1, 2, 3, 4, 5, 6, 7] (by kernel_rfl) (by kernel_rfl) (fun _ _ _ h => by cases h) ?_
        refine stp ?_
        refine ⟨by have h2 : (⟨#[58]⟩ : ByteArray).size = 1 := rfl; rw [h2]; omega, ?_⟩
        refine stp ?_
        refine ⟨_, pure_tells rfl rfl rfl hk ⟨AVle.refl _, trivial⟩ (NoId.v _), ?_⟩
        refine stp ?_
        refine ⟨by rw [ByteArray.size_append]; have h2 : (⟨#[58]⟩ : ByteArray).size = 1 := rfl; rw [h2]; omega, splitV_as (b := strA (ownB (rs.getD i rul0))) rfl ?_⟩
        refine stp ?_
        refine ⟨_, eff_alloc rfl rfl z_str1 (fun _ _ _ h => by cases h), fun r' h' hr => ?_⟩
        obtain ⟨rfl, rfl⟩ := hr
        refine stpR ?_
        refine aw_freeze (n := 69) (nx := nx4 + 2) (nn := 2) (pm := []) (bx := [((0, nx3), .mp (esV (seenB rs i)))]) (L := [(3, .rp [trows l]), (8, .rp [.om (0, nx3)]), (9, int i), (10, .rp (rulC (rs.getD i rul0))), (11, .fn (.func 16) [] [.rp [trows l], .rp (rulC (rs.getD i rul0))]), (12, .fn (.func 18) [] [.rp (rulC (rs.getD i rul0))]), (13, .rp [strA (ownB (rs.getD i rul0))]), (29, ruls rs), (30, int rs.length), (31, int i)]) (df := some []) [((2, nx4 + 1), .c [strA (ownB (rs.getD i rul0))])] rfl rfl rfl (List.Perm.refl _) (List.Sublist.refl _) ⟨Frz.refl _, Frz.refl _, Frz.refl _, Frz.refl _, Frz.refl _, Frz.refl _, Frz.bp (.head _) rfl, Frz.refl _, Frz.refl _, Frz.refl _, trivial⟩ ?_
        refine stp ?_
        refine aw_loop (fun y : Nat × Nat => mk 69 [(3, .rp [trows l]), (8, .rp [.om (0, nx3)]), (9, int i), (13, .rp [strA (ownB (rs.getD i rul0))]), (29, ruls rs), (30, int rs.length), (31, int i), (52, .sl 2 3 (rowF (askL l (rs.getD i rul0) nx3))), (53, int 3), (54, int y.1)] ⟨[((0, nx3), .mp (esV (seenB rs i)))], [], y.2, 1⟩) (fun y => y.1 ≤ 3 ∧ (1 ≤ y.1 → foundB l (rs.getD i rul0).name = true) ∧ (2 ≤ y.1 → (rs.getD i rul0).conds.any badC = false) ∧ (3 ≤ y.1 → (rs.take i).any (dupR (rs.getD i rul0)) = false)) (fun y => 3 - y.1) ?_ ?_
        · refine ⟨(0, nx4 + 2), ⟨Nat.zero_le _, fun h => absurd h (Nat.not_succ_le_zero _), fun h => absurd h (Nat.not_succ_le_zero _), fun h => absurd h (Nat.not_succ_le_zero _)⟩, ?_⟩
          exact ele_tell (pm := []) (bx := [((0, nx3), .mp (esV (seenB rs i)))]) [((0, nx3), .mp (esV (seenB rs i)))] [] rfl rfl (List.Sublist.refl _) .slnil (BxLe.refl _) trivial ⟨AVle.refl _, AVle.refl _, AVle.refl _, AVle.refl _, AVle.refl _, AVle.refl _, AVle.refl _, le_rowF ⟨⟨⟨trivial, rfl⟩, rfl⟩, rfl⟩, AVle.refl _, AVle.refl _, trivial⟩
        · rintro ⟨j, nx5⟩ ⟨k0, k1, k2, k3⟩
          dsimp only at k0 k1 k2 k3
          rcases j with _ | _ | _ | _ | j
          · refine stp ?_
            refine ⟨⟨by show (0 : Int) ≤ 0; decide, by show (0 : Int) < 3; decide⟩, ?_⟩
            refine stp ?_
            refine aop_tells rfl rfl ha1 ⟨AVle.refl _, AVle.refl _, trivial⟩ fun nx6 => ?_
            cases hf : foundB l (rs.getD i rul0).name
            · refine stp ?_
              (refine aw_draw 4 ?_ ?_ ?_ ?_; (· kernel_rfl); (· kernel_rfl); (· kernel_rfl))
              refine stp ?_
              exact ret_tells rfl (le_two (hat i 14 hi h2 (if_pos hf) (by decide)))
            · refine stp ?_
              exact back (1, nx6) ⟨by show 1 ≤ 3; decide, fun _ => rfl, fun h => absurd h (by show ¬ 2 ≤ 1; decide), fun h => absurd h (by show ¬ 3 ≤ 1; decide)⟩ (by show 3 - 1 < 3 - 0; decide) (ele_tell (pm := []) (bx := [((0, nx3), .mp (esV (seenB rs i)))]) [((0, nx3), .mp (esV (seenB rs i)))] [] rfl rfl (.cons _ (List.Sublist.refl _)) .slnil (BxLe.refl _) trivial ⟨AVle.refl _, AVle.refl _, AVle.refl _, AVle.refl _, AVle.refl _, AVle.refl _, AVle.refl _, AVle.refl _, AVle.refl _, AVle.refl _, trivial⟩)
          · have q1 := k1 (Nat.le_refl _)
            refine stp ?_
            refine ⟨⟨by show (0 : Int) ≤ 1; decide, by show (1 : Int) < 3; decide⟩, ?_⟩
            refine stp ?_
            refine aop_tells rfl rfl ha2 ⟨AVle.refl _, trivial⟩ fun nx6 => ?_
            cases hf : (rs.getD i rul0).conds.any badC
            · refine stp ?_
              exact back (2, nx6) ⟨by show 2 ≤ 3; decide, fun _ => q1, fun _ => rfl, fun h => absurd h (by show ¬ 3 ≤ 2; decide)⟩ (by show 3 - 2 < 3 - 1; decide) (ele_tell (pm := []) (bx := [((0, nx3), .mp (esV (seenB rs i)))]) [((0, nx3), .mp (esV (seenB rs i)))] [] rfl rfl (.cons _ (List.Sublist.refl _)) .slnil (BxLe.refl _) trivial ⟨AVle.refl _, AVle.refl _, AVle.refl _, AVle.refl _, AVle.refl _, AVle.refl _, AVle.refl _, AVle.refl _, AVle.refl _, AVle.refl _, trivial⟩)
            · refine stp ?_
              (refine aw_draw 4 ?_ ?_ ?_ ?_; (· kernel_rfl); (· kernel_rfl); (· kernel_rfl))
              refine stp ?_
              exact ret_tells rfl (le_two (hat i 16 hi h2 (by unfold ruleV; rw [if_neg (by rw [q1]; decide), if_pos hf]) (by decide)))
          · have q1 := k1 (by decide)
            have q2 := k2 (Nat.le_refl _)
            refine stp ?_
            refine ⟨⟨by show (0 : Int) ≤ 2; decide, by show (2 : Int) < 3; decide⟩, ?_⟩
            refine stp ?_
            refine aop_callF (xs := [.rp [.om (0, nx3)], .rp (rulC (rs.getD i rul0)), .rp [strA (ownB (rs.getD i rul0))]]) [((1, nx5), .c [.fn (.func 22) [] [.rp [.om (0, nx3)], .rp (rulC (rs.getD i rul0)), .rp [strA (ownB (rs.getD i rul0))]], int 15])] [] 2 rfl rfl rfl rfl ⟨AVle.refl _, AVle.refl _, AVle.refl _, trivial⟩ (ha3 (nx5 + 1)) (BxLe.refl _) (PmEq.refl _) rfl fun r h' hq => ?_
            obtain ⟨nx6, nn6, rfl, rfl⟩ := hq
            cases hf : (rs.take i).any (dupR (rs.getD i rul0))
            · refine stp ?_
              exact back (3, nx6) ⟨by show 3 ≤ 3; decide, fun _ => q1, fun _ => q2, fun _ => rfl⟩ (by show 3 - 3 < 3 - 2; decide) (ele_tell (pm := []) (bx := [((0, nx3), .mp (esV (seenB rs i)))]) [((0, nx3), .mp (esV (seenB rs i)))] [] rfl rfl (.cons _ (List.Sublist.refl _)) .slnil (BxLe.refl _) trivial ⟨AVle.refl _, AVle.refl _, AVle.refl _, AVle.refl _, AVle.refl _, AVle.refl _, AVle.refl _, AVle.refl _, AVle.refl _, AVle.refl _, trivial⟩)
            · refine stp ?_
              (refine aw_draw 4 ?_ ?_ ?_ ?_; (· kernel_rfl); (· kernel_rfl); (· kernel_rfl))
              refine stp ?_
              exact ret_tells rfl (le_two (hat i 15 hi h2 (by unfold ruleV; rw [if_neg (by rw [q1]; decide), if_neg (by rw [q2]; decide), if_pos hf]) (by decide)))
          · have q1 := k1 (by decide)
            have q2 := k2 (by decide)
            have q3 := k3 (Nat.le_refl _)
            have q4 : freshV (seenB rs i) (rs.getD i rul0).name (ownB (rs.getD i rul0)) = true := by rw [fresh_is hrr hri, q3]; rfl
            have q5 := esV_put _ _ (fresh_own q4)
            rw [← seen_next hi] at q5
            refine stpM ?_
            refine ⟨⟨rfl, esV_fit _⟩, ?_⟩
            refine stpM ?_
            refine forceM_intro ?_
            refine stp ?_
            exact back (i + 1, nx5) ⟨hi, fun m hm2 => by
              rcases Nat.lt_or_ge m i with q | q
              · exact h2 m q
              · rw [show m = i by omega]; exact hv.2 ⟨q1, q2, q3⟩⟩ (by dsimp only; omega) (ele_tell (pm := []) (bx := [((0, nx3), .mp (esV (seenB rs (i + 1))))]) [((0, nx3), .mp (aput (.string (ownB (rs.getD i rul0))) (.v (.bool true)) (esV (seenB rs i))))] [] rfl rfl (List.Sublist.refl _) .slnil ⟨rfl, ownEq (congrArg Own.mp q5), trivial⟩ trivial ⟨AVle.refl _, AVle.refl _, AVle.refl _, AVle.refl _, le_int (wrap_succ (by first | omega | (dsimp only; omega))), trivial⟩)
          · exact absurd k0 (by omega)
end Go.Proofs.W
