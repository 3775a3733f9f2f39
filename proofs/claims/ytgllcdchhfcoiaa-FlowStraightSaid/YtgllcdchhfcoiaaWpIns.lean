import Derived.Test.YtgllcdchhfcoiaaVlV
namespace Go.Proofs.W
open Go.Vl

/-- An instruction. -/
structure Ins where
  code : Nat
  jt : Nat
  jf : Nat
  k : Nat
deriving DecidableEq
def ins0 : Ins := ⟨0, 0, 0, 0⟩
def Ins.ok (i : Ins) : Prop := i.code < 65536 ∧ i.jt < 256 ∧ i.jf < 256 ∧ i.k < 4294967296
def aloneL : List (Nat × Nat) := [(32, 1), (0, 2), (96, 3), (128, 4), (1, 5), (97, 6), (129, 7), (2, 8), (3, 9), (7, 10), (135, 11), (132, 12), (5, 13), (6, 14), (22, 15)]
def bothL : List (Nat × Nat) := [(4, 16), (20, 17), (36, 18), (52, 19), (68, 20), (84, 21), (100, 22), (116, 23), (164, 24), (21, 25), (37, 26), (53, 27), (69, 28)]
def lk (l : List (Nat × Nat)) (c : Nat) : Option Nat := (l.find? (fun p => p.1 == c)).map (·.2)
def clr8 (c : Nat) : Nat := c - 8 * ((c / 8) % 2)
/-- What a code means: its kind (0: none), is its other side X? -/
def kof (c : Nat) : Nat × Bool := match lk aloneL c with
  | some k => (k, false)
  | none => match lk bothL (clr8 c) with
    | some k => (k, (c / 8) % 2 == 1)
    | none => (0, false)
theorem lk_some {l : List (Nat × Nat)} {c k : Nat} (h : lk l c = some k) : (c, k) ∈ l := by
  unfold lk at h
  rw [Option.map_eq_some_iff] at h
  obtain ⟨p, h1, h2⟩ := h
  have := List.find?_some h1
  have hm := List.mem_of_find?_eq_some h1
  simp at this
  obtain ⟨a, b⟩ := p
  dsimp only at this h2
  subst this; subst h2
  exact hm
theorem lk_none {l : List (Nat × Nat)} {c : Nat} (h : lk l c = none) : ∀ p ∈ l, p.1 ≠ c := by
  unfold lk at h
  rw [Option.map_eq_none_iff, List.find?_eq_none] at h
  intro p hp
  have := h p hp
  simpa using this
theorem kof_le (c : Nat) : (kof c).1 ≤ 28 := by
  unfold kof
  split
  · rename_i k h
    have := lk_some h
    have hd : ∀ p ∈ aloneL, p.2 ≤ 28 := by decide
    exact hd _ this
  · split
    · rename_i k h
      have := lk_some h
      have hd : ∀ p ∈ bothL, p.2 ≤ 28 := by decide
      exact hd _ this
    · simp
/-- As the reference asks. -/
def refOf (c : Nat) : Nat × Bool :=
  match [32, 0, 96, 128, 1, 97, 129, 2, 3, 7, 135, 132, 5, 6, 22].findIdx? (fun a => c == a) with
  | some i => (i + 1, false)
  | none => match [4, 20, 36, 52, 68, 84, 100, 116, 164, 21, 37, 53, 69].findIdx? (fun a => c == a || c == a + 8) with
    | some i => (i + 16, c != [4, 20, 36, 52, 68, 84, 100, 116, 164, 21, 37, 53, 69].getD i 0)
    | none => (0, false)
theorem refOf_small : ∀ c, c < 256 → refOf c = kof c := by decide +kernel
theorem kof_big {c : Nat} (h : 256 ≤ c) : kof c = (0, false) := by
  have h1 : lk aloneL c = none := by
    cases hl : lk aloneL c with
    | none => rfl
    | some k =>
      have := lk_some hl
      have hd : ∀ p ∈ aloneL, p.1 < 256 := by decide
      have := hd _ this; dsimp only at this; omega
  have h2 : lk bothL (clr8 c) = none := by
    cases hl : lk bothL (clr8 c) with
    | none => rfl
    | some k =>
      have := lk_some hl
      have hd : ∀ p ∈ bothL, p.1 < 200 := by decide
      have := hd _ this; unfold clr8 at this; dsimp only at this; omega
  simp [kof, h1, h2]
theorem refOf_big {c : Nat} (h : 256 ≤ c) : refOf c = (0, false) := by
  have h1 : [32, 0, 96, 128, 1, 97, 129, 2, 3, 7, 135, 132, 5, 6, 22].findIdx? (fun a => c == a) = none := by
    rw [List.findIdx?_eq_none_iff]
    have hd : ∀ a ∈ [32, 0, 96, 128, 1, 97, 129, 2, 3, 7, 135, 132, 5, 6, 22], a < 256 := by decide
    intro a ha
    have := hd a ha
    simp; omega
  have h2 : [4, 20, 36, 52, 68, 84, 100, 116, 164, 21, 37, 53, 69].findIdx? (fun a => c == a || c == a + 8) = none := by
    rw [List.findIdx?_eq_none_iff]
    have hd : ∀ a ∈ [4, 20, 36, 52, 68, 84, 100, 116, 164, 21, 37, 53, 69], a < 200 := by decide
    intro a ha
    have := hd a ha
    simp; omega
  simp [refOf, h1, h2]
theorem refOf_eq (c : Nat) : refOf c = kof c := by
  rcases Nat.lt_or_ge c 256 with h | h
  · exact refOf_small c h
  · rw [refOf_big h, kof_big h]

/-- What is wrong with an instruction alone; rest: how many stand behind it. -/
def wrongI (i : Ins) (rest : Nat) : Nat :=
  let (kind, x) := kof i.code
  if kind = 0 then 5
  else if kind = 1 ∧ (i.k % 4 ≠ 0 ∨ 64 ≤ i.k) then 6
  else if (kind = 3 ∨ kind = 6 ∨ kind = 8 ∨ kind = 9) ∧ 16 ≤ i.k then 7
  else if x = false ∧ kind = 19 ∧ i.k = 0 then 8
  else if x = false ∧ (kind = 22 ∨ kind = 23) ∧ 31 < i.k then 9
  else if (kind = 13 ∧ rest ≤ i.k) ∨ (25 ≤ kind ∧ (rest ≤ i.jt ∨ rest ≤ i.jf)) then 10
  else 0
/-- The list's first three points: where, and what. -/
def formedI (l : List Ins) : Nat × Nat :=
  if l.length = 0 then (0, 4)
  else if 4096 < l.length then (0, 3)
  else match (List.range l.length).find? (fun n => wrongI (l.getD n ins0) (l.length - 1 - n) != 0) with
    | some n => (n, wrongI (l.getD n ins0) (l.length - 1 - n))
    | none => if (kof (l.getD (l.length - 1) ins0).code).1 = 14 ∨ (kof (l.getD (l.length - 1) ins0).code).1 = 15 then (0, 0) else (l.length - 1, 11)
end Go.Proofs.W
