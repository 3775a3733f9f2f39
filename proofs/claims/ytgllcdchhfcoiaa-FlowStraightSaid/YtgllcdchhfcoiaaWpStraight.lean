import Derived.Test.YtgllcdchhfcoiaaWlLong
namespace Go.Proofs.W
open Go.Vl

/-- The longest way from each instruction on. -/
def LV (l : List Ins) (n : Nat) : Nat := (longA l l.length).getD n 0
theorem longA_step (l : List Ins) (j : Nat) : longA l (j + 1) = (longA l j).set (l.length - 1 - j) (longF (longA l j) (nextsI l (l.length - 1 - j)) + 1) := rfl
theorem longA_keep (l : List Ins) (n : Nat) : ∀ d j, l.length ≤ n + j → j + d ≤ l.length → (longA l (j + d)).getD n 0 = (longA l j).getD n 0
  | 0, _, _, _ => rfl
  | d + 1, j, h, h2 => by
    rw [← Nat.add_assoc, longA_step, getDL_set, if_neg (by omega)]
    exact longA_keep l n d j h (by omega)
theorem longF_congr {a b : List Nat} : ∀ (ts : List Nat), (∀ t ∈ ts, a.getD t 0 = b.getD t 0) → longF a ts = longF b ts := by
  intro ts h
  unfold longF
  have : ∀ (ts : List Nat) (m : Nat), (∀ t ∈ ts, a.getD t 0 = b.getD t 0) → ts.foldl (fun x t => max x (a.getD t 0)) m = ts.foldl (fun x t => max x (b.getD t 0)) m := by
    intro ts
    induction ts with
    | nil => intro m _; rfl
    | cons t ts ih => intro m h; rw [List.foldl_cons, List.foldl_cons, h t (by simp)]; exact ih _ fun x hx => h x (by simp [hx])
  exact this ts 0 h
theorem LV_eq {l : List Ins} (hf : Formed l) {n : Nat} (hn : n < l.length) : LV l n = longF (longA l l.length) (nextsI l n) + 1 := by
  obtain ⟨j, hj⟩ : ∃ j, n + 1 + j = l.length := ⟨l.length - 1 - n, by omega⟩
  have h1 := longA_keep l n (l.length - (j + 1)) (j + 1) (by omega) (by omega)
  rw [show j + 1 + (l.length - (j + 1)) = l.length by omega] at h1
  unfold LV
  rw [h1, longA_step, show l.length - 1 - j = n by omega, getDL_set, if_pos ⟨rfl, by rw [longA_length]; exact hn⟩]
  congr 1
  refine longF_congr _ fun t ht => ?_
  have h2 := nexts_lt hf hn t ht
  have h3 := longA_keep l t (l.length - j) j (by omega) (by omega)
  rw [show j + (l.length - j) = l.length by omega] at h3
  exact h3.symm
def insB (b : Bool) : Ins := if b then ⟨22, 0, 0, 0⟩ else ⟨132, 0, 0, 0⟩
def straight (l : List Bool) : List Ins := l.map insB ++ [⟨22, 0, 0, 0⟩]
def firstB (l : List Bool) : Nat := (l.findIdx? (fun b => b)).getD l.length
theorem straight_len (l : List Bool) : (straight l).length = l.length + 1 := by simp [straight]
theorem straight_get {l : List Bool} {n : Nat} (h : n ≤ l.length) : (straight l).getD n ins0 = insB (if n < l.length then l.getD n false else true) := by
  unfold straight
  simp only [List.getD]
  by_cases h1 : n < l.length
  · rw [List.getElem?_append_left (by simpa using h1), if_pos h1]
    simp [h1]
  · obtain rfl : n = l.length := by omega
    rw [List.getElem?_append_right (by simp), if_neg h1]
    simp [insB]
theorem kof_insB (b : Bool) : kof (insB b).code = (if b then 15 else 12, false) := by cases b <;> decide
theorem kind_straight {l : List Bool} {n : Nat} (h : n ≤ l.length) : kind (straight l) n = if (if n < l.length then l.getD n false else true) = true then 15 else 12 := by
  unfold kind; rw [straight_get h, kof_insB]
theorem firstB_le (l : List Bool) : firstB l ≤ l.length := by
  unfold firstB
  cases h : l.findIdx? (fun b => b) with
  | none => simp
  | some i => have := (List.findIdx?_eq_some_iff_getElem.1 h).1; simp; omega
theorem firstB_low {l : List Bool} {n : Nat} (h : n < firstB l) : l.getD n false = false := by
  unfold firstB at h
  cases hf : l.findIdx? (fun b => b) with
  | none =>
    rw [hf] at h
    rw [List.findIdx?_eq_none_iff] at hf
    have hn : n < l.length := by simpa using h
    have := hf l[n] (List.getElem_mem hn)
    simpa [List.getD, hn] using this
  | some i =>
    rw [hf] at h
    obtain ⟨h1, h2, h3⟩ := List.findIdx?_eq_some_iff_getElem.1 hf
    have h4 : n < i := by simpa using h
    have := h3 n h4
    simpa [List.getD, show n < l.length by omega] using this
theorem firstB_at (l : List Bool) (h : firstB l < l.length) : l.getD (firstB l) false = true := by
  unfold firstB at h ⊢
  cases hf : l.findIdx? (fun b => b) with
  | none => rw [hf] at h; simp at h
  | some i =>
    obtain ⟨h1, h2, h3⟩ := List.findIdx?_eq_some_iff_getElem.1 hf
    simpa [List.getD, h1] using h2
theorem kind_first (l : List Bool) : kind (straight l) (firstB l) = 15 := by
  rw [kind_straight (firstB_le l)]
  split
  · rename_i h
    rw [firstB_at l h]; rfl
  · rfl
theorem kind_low {l : List Bool} {n : Nat} (h : n < firstB l) : kind (straight l) n = 12 := by
  have := firstB_le l
  rw [kind_straight (by omega), if_pos (show n < l.length by omega), firstB_low h]
  rfl
theorem straight_right {l : List Bool} (hl : l.length ≤ 200) : Right (straight l) := by
  have hk : ∀ n, n < (straight l).length → kind (straight l) n = 15 ∨ kind (straight l) n = 12 := fun n hn => by
    rw [straight_len] at hn
    rw [kind_straight (by omega)]; split <;> simp
  refine ⟨⟨by rw [straight_len]; omega, by rw [straight_len]; omega, fun n hn => ?_, ?_⟩, fun n hn h => ?_⟩
  · rw [straight_len] at hn
    rw [straight_get (by omega)]
    unfold wrongI
    rw [kof_insB]
    generalize (if n < l.length then l.getD n false else true) = b
    cases b <;> simp
  · rw [straight_len, kind_straight (by omega)]
    simp
  · have := hk n hn; omega
theorem straight_nexts {l : List Bool} {n : Nat} (h : n < firstB l) : nextsI (straight l) n = [n + 1] := by
  unfold nextsI; rw [kind_low h]; rfl
theorem straight_end (l : List Bool) : nextsI (straight l) (firstB l) = [] := by
  unfold nextsI; rw [kind_first l]; rfl
theorem straight_reached {l : List Bool} (n : Nat) : Reached (straight l) n ↔ n ≤ firstB l := by
  constructor
  · intro h
    induction h with
    | zero => omega
    | step m t _ _ ht ih =>
      rcases Nat.lt_or_ge m (firstB l) with h1 | h1
      · rw [straight_nexts h1] at ht; simp at ht; omega
      · obtain rfl : m = firstB l := by omega
        rw [straight_end] at ht; simp at ht
  · induction n with
    | zero => intro _; exact .zero
    | succ n ih => intro h; exact .step n (n + 1) (ih (by omega)) rfl (by rw [straight_nexts (by omega)]; simp)
theorem straight_LV {l : List Bool} (hl : l.length ≤ 200) : ∀ d n, n + d = firstB l → LV (straight l) n = d + 1
  | 0, n, h => by
    obtain rfl : n = firstB l := by omega
    have := firstB_le l
    rw [LV_eq (straight_right hl).1 (by rw [straight_len]; omega), straight_end]
    rfl
  | d + 1, n, h => by
    have := firstB_le l
    have ih := straight_LV hl d (n + 1) (by omega)
    rw [LV_eq (straight_right hl).1 (by rw [straight_len]; omega), straight_nexts (by omega)]
    show max 0 (LV (straight l) (n + 1)) + 1 = _
    rw [ih]; omega
theorem straight_long {l : List Bool} (hl : l.length ≤ 200) : longI (straight l) = firstB l + 1 := straight_LV hl (firstB l) 0 (by omega)
theorem straight_cnt {l : List Bool} (hl : l.length ≤ 200) : ∀ n, n ≤ l.length + 1 → cnt (straight l) n = min n (firstB l + 1)
  | 0, _ => by rw [cnt_zero]; omega
  | n + 1, h => by
    rw [cnt_succ (by rw [straight_len]; omega), straight_cnt hl n (by omega)]
    have h1 := reachI_iff (straight_right hl).1 n
    rw [straight_reached] at h1
    split
    · rename_i h2; have := h1.1 h2; omega
    · rename_i h2; have : ¬ n ≤ firstB l := fun h3 => h2 (h1.2 h3); omega
theorem straight_prune {l : List Bool} (hl : l.length ≤ 200) : (pruneI (straight l)).length = firstB l + 1 := by
  have := firstB_le l
  rw [prune_len (straight_right hl), straight_len, straight_cnt hl _ (Nat.le_refl _)]
  omega
end Go.Proofs.W
