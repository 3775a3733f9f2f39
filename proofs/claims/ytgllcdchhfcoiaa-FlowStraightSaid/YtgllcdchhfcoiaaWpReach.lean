import Derived.Test.YtgllcdchhfcoiaaWpStore
namespace Go.Proofs.W

/-- Reached, where nothing goes on behind what stops. -/
inductive Rch (l : List Ins) (stop : Nat → Bool) : Nat → Prop
  | zero : Rch l stop 0
  | step (n t : Nat) (h : Rch l stop n) (hs : stop n = false) (ht : t ∈ nextsI l n) : Rch l stop t
theorem Rch.lt {l : List Ins} {stop : Nat → Bool} (hf : Formed l) {n : Nat} (h : Rch l stop n) : n < l.length := by
  induction h with
  | zero => exact hf.pos
  | step n t _ _ ht ih => exact (nexts_lt hf ih t ht).2
def setT (o : List Bool) (t : Nat) : List Bool := o.set t true
def scanStep (l : List Ins) (stop : Nat → Bool) (o : List Bool) (n : Nat) : List Bool := if o.getD n false && !stop n then (nextsI l n).foldl setT o else o
def scan0 (n : Nat) : List Bool := setT (List.replicate n false) 0
def scanN (l : List Ins) (stop : Nat → Bool) (k : Nat) : List Bool := (List.range k).foldl (scanStep l stop) (scan0 l.length)
def reachC (l : List Ins) (stop : Nat → Bool) : List Bool := scanN l stop l.length
def reachI (l : List Ins) : List Bool := reachC l fun _ => false
theorem setT_get (o : List Bool) (t k : Nat) : (setT o t).getD k false = (o.getD k false || (decide (t = k) && decide (t < o.length))) := by
  simp only [setT, List.getD, List.getElem?_set]
  by_cases h1 : t = k
  · subst h1
    by_cases h2 : t < o.length
    · simp [h2]
    · simp [h2, List.getElem?_eq_none (Nat.le_of_not_lt h2)]
  · simp [h1]
theorem setT_length (o : List Bool) (t : Nat) : (setT o t).length = o.length := by simp [setT]
theorem foldT_length : ∀ (ts : List Nat) (o : List Bool), (ts.foldl setT o).length = o.length
  | [], _ => rfl
  | t :: ts, o => by rw [List.foldl_cons, foldT_length ts, setT_length]
theorem foldT_get : ∀ (ts : List Nat) (o : List Bool) (k : Nat), (∀ t ∈ ts, t < o.length) → ((ts.foldl setT o).getD k false = true ↔ o.getD k false = true ∨ k ∈ ts)
  | [], o, k, _ => by simp
  | t :: ts, o, k, h => by
    rw [List.foldl_cons, foldT_get ts (setT o t) k (fun x hx => by rw [setT_length]; exact h x (by simp [hx])), setT_get]
    have ht := h t (by simp)
    rw [show (decide (t = k)) = decide (k = t) from decide_eq_decide.2 eq_comm]
    simp [ht, or_assoc]
theorem scanN_succ (l : List Ins) (stop : Nat → Bool) (k : Nat) : scanN l stop (k + 1) = scanStep l stop (scanN l stop k) k := by simp [scanN, List.range_succ]
theorem scanStep_length (l : List Ins) (stop : Nat → Bool) (o : List Bool) (n : Nat) : (scanStep l stop o n).length = o.length := by
  unfold scanStep; split
  · exact foldT_length _ _
  · rfl
theorem scanN_length (l : List Ins) (stop : Nat → Bool) (k : Nat) : (scanN l stop k).length = l.length := by
  induction k with
  | zero => simp [scanN, scan0, setT_length]
  | succ k ih => rw [scanN_succ, scanStep_length, ih]
theorem scan0_get {n : Nat} (hn : 0 < n) (k : Nat) : (scan0 n).getD k false = true ↔ k = 0 := by
  rw [scan0, setT_get]
  have : (List.replicate n false).getD k false = false := by
    simp only [List.getD, List.getElem?_replicate]; split <;> rfl
  rw [this]
  simp [hn, eq_comm]
theorem scan_iff {l : List Ins} (hf : Formed l) (stop : Nat → Bool) : ∀ k, k ≤ l.length → ∀ n, (scanN l stop k).getD n false = true ↔ n = 0 ∨ ∃ m, m < k ∧ Rch l stop m ∧ stop m = false ∧ n ∈ nextsI l m := by
  intro k
  induction k with
  | zero => intro _ n; rw [show scanN l stop 0 = scan0 l.length from rfl, scan0_get hf.pos]; simp
  | succ k ih =>
    intro hk n
    have hR : (scanN l stop k).getD k false = true ↔ Rch l stop k := by
      rw [ih (by omega)]
      constructor
      · rintro (h | ⟨m, _, h1, h2, h3⟩)
        · subst h; exact .zero
        · exact .step m k h1 h2 h3
      · intro h
        cases h with
        | zero => exact .inl rfl
        | step m _ h1 h2 h3 => exact .inr ⟨m, (nexts_lt hf (h1.lt hf) k h3).1, h1, h2, h3⟩
    rw [scanN_succ, scanStep]
    split
    · rename_i h
      simp only [Bool.and_eq_true, Bool.not_eq_true'] at h
      rw [foldT_get _ _ _ (fun t ht => by rw [scanN_length]; exact (nexts_lt hf (by omega) t ht).2), ih (by omega)]
      constructor
      · rintro ((h1 | ⟨m, h1, h2⟩) | h1)
        · exact .inl h1
        · exact .inr ⟨m, by omega, h2⟩
        · exact .inr ⟨k, by omega, hR.1 h.1, h.2, h1⟩
      · rintro (h1 | ⟨m, h1, h2, h3, h4⟩)
        · exact .inl (.inl h1)
        · rcases Nat.lt_or_ge m k with h5 | h5
          · exact .inl (.inr ⟨m, h5, h2, h3, h4⟩)
          · obtain rfl : m = k := by omega
            exact .inr h4
    · rename_i h
      simp only [Bool.and_eq_true, Bool.not_eq_true'] at h
      rw [ih (by omega)]
      constructor
      · rintro (h1 | ⟨m, h1, h2⟩)
        · exact .inl h1
        · exact .inr ⟨m, by omega, h2⟩
      · rintro (h1 | ⟨m, h1, h2, h3, h4⟩)
        · exact .inl h1
        · rcases Nat.lt_or_ge m k with h5 | h5
          · exact .inr ⟨m, h5, h2, h3, h4⟩
          · obtain rfl : m = k := by omega
            exact absurd ⟨hR.2 h2, h3⟩ h
theorem reachC_iff {l : List Ins} (hf : Formed l) (stop : Nat → Bool) (n : Nat) : (reachC l stop).getD n false = true ↔ Rch l stop n := by
  rw [reachC, scan_iff hf stop l.length (Nat.le_refl _)]
  constructor
  · rintro (h | ⟨m, _, h1, h2, h3⟩)
    · subst h; exact .zero
    · exact .step m n h1 h2 h3
  · intro h
    cases h with
    | zero => exact .inl rfl
    | step m _ h1 h2 h3 => exact .inr ⟨m, h1.lt hf, h1, h2, h3⟩
theorem reachC_length (l : List Ins) (stop : Nat → Bool) : (reachC l stop).length = l.length := scanN_length l stop l.length
theorem reachI_length (l : List Ins) : (reachI l).length = l.length := reachC_length l _
abbrev Reached (l : List Ins) (n : Nat) : Prop := Rch l (fun _ => false) n
theorem reachI_iff {l : List Ins} (hf : Formed l) (n : Nat) : (reachI l).getD n false = true ↔ Reached l n := reachC_iff hf _ n
end Go.Proofs.W
