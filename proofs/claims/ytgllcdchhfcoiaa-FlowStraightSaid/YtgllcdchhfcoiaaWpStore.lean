import Derived.Test.YtgllcdchhfcoiaaWpIns
namespace Go.Proofs.W

def kind (l : List Ins) (n : Nat) : Nat := (kof (l.getD n ins0).code).1
structure Formed (l : List Ins) : Prop where
  pos : 0 < l.length
  le : l.length ≤ 4096
  ok : ∀ n, n < l.length → wrongI (l.getD n ins0) (l.length - 1 - n) = 0
  last : kind l (l.length - 1) = 14 ∨ kind l (l.length - 1) = 15
theorem formed_of {l : List Ins} (h : (formedI l).2 = 0) : Formed l := by
  unfold formedI at h
  split at h
  · cases h
  split at h
  · cases h
  split at h
  · rename_i n hn
    have := List.find?_some hn
    dsimp only at h this
    simp only [bne_iff_ne] at this
    exact absurd h this
  · rename_i hn
    split at h
    · rename_i hk
      refine ⟨by omega, by omega, fun n h1 => ?_, hk⟩
      rw [List.find?_range_eq_none] at hn
      simpa using hn n h1
    · cases h
theorem formed_fail {l : List Ins} (h : (formedI l).2 ≠ 0) : ¬ Formed l := fun hf => h (by
  unfold formedI
  rw [if_neg (by have := hf.pos; omega), if_neg (by have := hf.le; omega), List.find?_range_eq_none.2 (fun i hi => by simpa using hf.ok i hi)]
  dsimp only
  have := hf.last
  unfold kind at this
  rw [if_pos this])
def nextsI (l : List Ins) (n : Nat) : List Nat :=
  if kind l n = 14 ∨ kind l n = 15 then [] else if kind l n = 13 then [n + 1 + (l.getD n ins0).k] else if 25 ≤ kind l n then [n + 1 + (l.getD n ins0).jt, n + 1 + (l.getD n ins0).jf] else [n + 1]
theorem wrong_parts {i : Ins} {r : Nat} (h : wrongI i r = 0) : (kof i.code).1 ≠ 0 ∧ ¬ ((kof i.code).1 = 1 ∧ (i.k % 4 ≠ 0 ∨ 64 ≤ i.k)) ∧ ¬ (((kof i.code).1 = 3 ∨ (kof i.code).1 = 6 ∨ (kof i.code).1 = 8 ∨ (kof i.code).1 = 9) ∧ 16 ≤ i.k) ∧
    ¬ (((kof i.code).1 = 13 ∧ r ≤ i.k) ∨ (25 ≤ (kof i.code).1 ∧ (r ≤ i.jt ∨ r ≤ i.jf))) := by
  unfold wrongI at h
  generalize kof i.code = kk at *
  obtain ⟨k, x⟩ := kk
  dsimp only at h ⊢
  split at h
  · cases h
  split at h
  · cases h
  split at h
  · cases h
  split at h
  · cases h
  split at h
  · cases h
  split at h
  · cases h
  exact ⟨by assumption, by assumption, by assumption, by assumption⟩
theorem nexts_lt {l : List Ins} (hf : Formed l) {n : Nat} (hn : n < l.length) : ∀ t ∈ nextsI l n, n < t ∧ t < l.length := by
  have hw := wrong_parts (hf.ok n hn)
  have hl : n = l.length - 1 → kind l n = 14 ∨ kind l n = 15 := fun h => h ▸ hf.last
  have hk : (kof (l.getD n ins0).code).1 = kind l n := rfl
  rw [hk] at hw
  intro t ht
  unfold nextsI at ht
  split at ht
  · simp at ht
  split at ht
  · simp only [List.mem_singleton] at ht; omega
  split at ht
  · simp only [List.mem_cons, List.not_mem_nil, or_false] at ht; omega
  · simp only [List.mem_singleton] at ht; omega
def isStore (k : Nat) : Prop := k = 8 ∨ k = 9
instance (k : Nat) : Decidable (isStore k) := inferInstanceAs (Decidable (_ ∨ _))
def nowI (i : Ins) (a : Nat) : Nat := if isStore (kof i.code).1 then a ||| 2 ^ i.k else a
def goI (now : Nat) (l : List Nat) (to : Nat) : List Nat := l.set to (l.getD to 0 &&& now)
def stepS (l : List Ins) (a : List Nat) (n : Nat) : List Nat := (nextsI l n).foldl (goI (nowI (l.getD n ins0) (a.getD n 0))) a
def initS (n : Nat) : List Nat := (List.replicate n 65535 ++ List.replicate (4096 - n) 0).set 0 0
def atI (l : List Ins) (n : Nat) : List Nat := (List.range n).foldl (stepS l) (initS l.length)
def storedI (l : List Ins) : List Nat := (atI l l.length).take l.length
theorem atI_zero (l : List Ins) : atI l 0 = initS l.length := rfl
theorem atI_succ (l : List Ins) (n : Nat) : atI l (n + 1) = stepS l (atI l n) n := by simp [atI, List.range_succ]
theorem goI_length (now to : Nat) (l : List Nat) : (goI now l to).length = l.length := by simp [goI]
theorem foldgo_length (now : Nat) : ∀ (ts : List Nat) (l : List Nat), (ts.foldl (goI now) l).length = l.length
  | [], _ => rfl
  | t :: ts, l => by rw [List.foldl_cons, foldgo_length now ts, goI_length]
theorem initS_length {n : Nat} (h : n ≤ 4096) : (initS n).length = 4096 := by simp [initS]; omega
theorem atI_length {l : List Ins} (hf : l.length ≤ 4096) (n : Nat) : (atI l n).length = 4096 := by
  induction n with
  | zero => exact initS_length hf
  | succ n ih => rw [atI_succ, stepS, foldgo_length, ih]
theorem goI_get (now to : Nat) (l : List Nat) (k : Nat) : (goI now l to).getD k 0 = if to = k ∧ to < l.length then l.getD to 0 &&& now else l.getD k 0 := by
  simp only [goI, List.getD, List.getElem?_set]
  by_cases h1 : to = k
  · subst h1
    by_cases h2 : to < l.length
    · simp [h2]
    · simp [h2, List.getElem?_eq_none (Nat.le_of_not_lt h2)]
  · simp [h1]
def small (l : List Nat) : Prop := ∀ k, l.getD k 0 < 65536
theorem goI_small {now to : Nat} {l : List Nat} (h : small l) : small (goI now l to) := by
  intro k
  rw [goI_get]
  split
  · exact Nat.lt_of_le_of_lt Nat.and_le_left (h to)
  · exact h k
theorem foldgo_small {now : Nat} : ∀ {ts : List Nat} {l : List Nat}, small l → small (ts.foldl (goI now) l)
  | [], _, h => h
  | t :: ts, l, h => by rw [List.foldl_cons]; exact foldgo_small (goI_small h)
theorem initS_get {n k : Nat} (h : n ≤ 4096) : (initS n).getD k 0 = if 0 < k ∧ k < n then 65535 else 0 := by
  simp only [initS, List.getD, List.getElem?_set]
  by_cases h1 : 0 = k
  · subst h1; simp; split <;> simp
  · rw [if_neg h1]
    by_cases h2 : k < n
    · rw [List.getElem?_append_left (by simpa using h2)]
      simp [h2]; omega
    · rw [List.getElem?_append_right (by simpa using h2)]
      rw [if_neg (by omega)]
      simp [List.getElem?_replicate]
      split <;> simp
theorem initS_small {n : Nat} (h : n ≤ 4096) : small (initS n) := by
  intro k; rw [initS_get h]; split <;> omega
theorem atI_small {l : List Ins} (hf : l.length ≤ 4096) (n : Nat) : small (atI l n) := by
  induction n with
  | zero => exact initS_small hf
  | succ n ih => rw [atI_succ]; exact foldgo_small ih
theorem now_small {i : Ins} {a r : Nat} (ha : a < 65536) (hw : wrongI i r = 0) : nowI i a < 65536 := by
  unfold nowI
  split
  · rename_i h
    have h2 := (wrong_parts hw).2.2.1
    unfold isStore at h
    have h3 : i.k < 16 := by omega
    exact Nat.or_lt_two_pow (n := 16) ha (Nat.pow_lt_pow_right (by decide) h3)
  · exact ha
/-- Cells stored: the given text's check. -/
def checkI (l : List Ins) : Nat × Nat :=
  if (formedI l).2 ≠ 0 then formedI l
  else match (List.range l.length).find? (fun n => decide ((kind l n = 3 ∨ kind l n = 6) ∧ (storedI l).getD n 0 / 2 ^ (l.getD n ins0).k % 2 = 0)) with
    | some n => (n, 12)
    | none => (0, 0)
end Go.Proofs.W
