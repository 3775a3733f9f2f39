import Derived.Test.YtgllcdchhfcoiaaWpReach
namespace Go.Proofs.W

/-- A set, and what of it is still to be gone on from. -/
def lookB (s : List Bool × List Nat) (t : Nat) : List Bool × List Nat := if s.1.getD t false then s else (setT s.1 t, s.2 ++ [t])
theorem count_set : ∀ (o : List Bool) (t : Nat), t < o.length → o.getD t false = false → (setT o t).count true = o.count true + 1
  | [], t, h, _ => by simp at h
  | b :: o, 0, _, h => by
    have : b = false := by simpa using h
    subst this
    simp [setT]
  | b :: o, t + 1, h, h' => by
    have ih := count_set o t (by simpa using h) (by simpa using h')
    simp only [setT, List.set_cons_succ, List.count_cons] at ih ⊢
    omega
theorem count_lt : ∀ (o : List Bool) (t : Nat), t < o.length → o.getD t false = false → o.count true < o.length
  | [], t, h, _ => by simp at h
  | b :: o, 0, _, h => by
    have : b = false := by simpa using h
    subst this
    have := List.count_le_length (a := true) (l := o)
    simp only [List.count_cons, List.length_cons]
    simp; omega
  | b :: o, t + 1, h, h' => by
    have ih := count_lt o t (by simpa using h) (by simpa using h')
    simp only [List.count_cons, List.length_cons]
    split <;> omega
structure Weak (n : Nat) (s : List Bool × List Nat) : Prop where
  len : s.1.length = n
  few : s.2.length ≤ s.1.count true
theorem Weak.look {n t : Nat} {s : List Bool × List Nat} (h : Weak n s) (ht : t < n) : Weak n (lookB s t) := by
  unfold lookB
  split
  · exact h
  · rename_i h1
    have h1 : s.1.getD t false = false := by simpa using h1
    have h2 := count_set s.1 t (by rw [h.len]; exact ht) h1
    have h3 := h.few
    exact ⟨by rw [setT_length, h.len], by dsimp only; rw [h2, List.length_append, List.length_singleton]; omega⟩
theorem Weak.room {n t : Nat} {s : List Bool × List Nat} (h : Weak n s) (ht : t < n) (h1 : s.1.getD t false = false) : s.2.length < n := by
  have := count_lt s.1 t (by rw [h.len]; exact ht) h1
  have h2 := h.len
  have h3 := h.few
  omega
theorem Weak.fold {n : Nat} : ∀ {ts : List Nat} {s : List Bool × List Nat}, Weak n s → (∀ t ∈ ts, t < n) → Weak n (ts.foldl lookB s)
  | [], _, h, _ => h
  | t :: ts, s, h, ht => by rw [List.foldl_cons]; exact Weak.fold (h.look (ht t (by simp))) fun x hx => ht x (by simp [hx])
def mBfs (n : Nat) (s : List Bool × List Nat) : Nat := 2 * (n - s.1.count true) + s.2.length
theorem mBfs_look {n t : Nat} {s : List Bool × List Nat} (h : Weak n s) (ht : t < n) : mBfs n (lookB s t) ≤ mBfs n s := by
  unfold lookB
  split
  · exact Nat.le_refl _
  · rename_i h1
    have h1 : s.1.getD t false = false := by simpa using h1
    have h2 := count_set s.1 t (by rw [h.len]; exact ht) h1
    have h3 := count_lt s.1 t (by rw [h.len]; exact ht) h1
    have h4 := h.len
    unfold mBfs
    dsimp only
    rw [h2, List.length_append, List.length_singleton]
    omega
theorem mBfs_fold {n : Nat} : ∀ {ts : List Nat} {s : List Bool × List Nat}, Weak n s → (∀ t ∈ ts, t < n) → mBfs n (ts.foldl lookB s) ≤ mBfs n s
  | [], _, _, _ => Nat.le_refl _
  | t :: ts, s, h, ht => by
    rw [List.foldl_cons]
    exact Nat.le_trans (mBfs_fold (h.look (ht t (by simp))) fun x hx => ht x (by simp [hx])) (mBfs_look h (ht t (by simp)))
theorem look_get {n t : Nat} {s : List Bool × List Nat} (h : Weak n s) (ht : t < n) (k : Nat) : (lookB s t).1.getD k false = true ↔ s.1.getD k false = true ∨ k = t := by
  unfold lookB
  split
  · rename_i h1
    constructor
    · exact .inl
    · rintro (h2 | h2)
      · exact h2
      · subst h2; exact h1
  · dsimp only
    rw [setT_get, h.len, show (decide (t = k)) = decide (k = t) from decide_eq_decide.2 eq_comm]
    simp [ht]
theorem look_mem {t : Nat} {s : List Bool × List Nat} (k : Nat) : k ∈ (lookB s t).2 ↔ k ∈ s.2 ∨ (k = t ∧ s.1.getD k false = false) := by
  unfold lookB
  split
  · rename_i h1
    constructor
    · exact .inl
    · rintro (h2 | ⟨h2, h3⟩)
      · exact h2
      · subst h2; rw [h1] at h3; cases h3
  · rename_i h1
    have h1 : s.1.getD t false = false := by simpa using h1
    simp only [List.mem_append, List.mem_singleton]
    constructor
    · rintro (h2 | h2)
      · exact .inl h2
      · subst h2; exact .inr ⟨rfl, h1⟩
    · rintro (h2 | ⟨h2, _⟩)
      · exact .inl h2
      · exact .inr h2
theorem fold_get {n : Nat} : ∀ {ts : List Nat} {s : List Bool × List Nat}, Weak n s → (∀ t ∈ ts, t < n) → ∀ k, ((ts.foldl lookB s).1.getD k false = true ↔ s.1.getD k false = true ∨ k ∈ ts)
  | [], _, _, _, k => by simp
  | t :: ts, s, h, ht, k => by
    rw [List.foldl_cons, fold_get (h.look (ht t (by simp))) (fun x hx => ht x (by simp [hx])), look_get h (ht t (by simp))]
    simp [or_assoc]
theorem fold_mem {n : Nat} : ∀ {ts : List Nat} {s : List Bool × List Nat}, Weak n s → (∀ t ∈ ts, t < n) → ∀ k, (k ∈ (ts.foldl lookB s).2 ↔ k ∈ s.2 ∨ (k ∈ ts ∧ s.1.getD k false = false))
  | [], _, _, _, k => by simp
  | t :: ts, s, h, ht, k => by
    rw [List.foldl_cons, fold_mem (h.look (ht t (by simp))) (fun x hx => ht x (by simp [hx])), look_mem]
    have hg := look_get h (ht t (by simp)) k
    by_cases h1 : s.1.getD k false = true
    · have h2 := hg.2 (.inl h1)
      simp only [h1, h2]; simp
    · have h1' : s.1.getD k false = false := by simpa using h1
      by_cases h3 : k = t
      · have h2 := hg.2 (.inr h3)
        simp only [h1', h2]; simp [h3]
      · have h2 : (lookB s t).1.getD k false = false := by
          cases h4 : (lookB s t).1.getD k false
          · rfl
          · rcases hg.1 h4 with h5 | h5
            · exact absurd h5 h1
            · exact absurd h5 h3
        simp only [h1', h2]; simp [h3]
structure Inv (l : List Ins) (s : List Bool × List Nat) : Prop where
  weak : Weak l.length s
  zero : s.1.getD 0 false = true
  sound : ∀ x, s.1.getD x false = true → Reached l x
  mem : ∀ x ∈ s.2, s.1.getD x false = true
  full : ∀ x, s.1.getD x false = true → x ∈ s.2 ∨ ∀ t ∈ nextsI l x, s.1.getD t false = true
theorem Inv.start {l : List Ins} (hf : Formed l) : Inv l (lookB (List.replicate l.length false, []) 0) := by
  have hz : ∀ k, (List.replicate l.length false).getD k false = false := fun k => by
    simp only [List.getD, List.getElem?_replicate]; split <;> rfl
  have hw : Weak l.length (List.replicate l.length false, []) := ⟨by simp, by simp⟩
  have hg := look_get hw hf.pos
  have hm := fun k => look_mem (s := (List.replicate l.length false, [])) (t := 0) k
  refine ⟨hw.look hf.pos, (hg 0).2 (.inr rfl), fun x hx => ?_, fun x hx => ?_, fun x hx => ?_⟩
  · rcases (hg x).1 hx with h | h
    · rw [hz] at h; cases h
    · subst h; exact .zero
  · rcases (hm x).1 hx with h | ⟨h, _⟩
    · simp at h
    · subst h; exact (hg 0).2 (.inr rfl)
  · rcases (hg x).1 hx with h | h
    · rw [hz] at h; cases h
    · subst h; exact .inl ((hm 0).2 (.inr ⟨rfl, hz 0⟩))
theorem Inv.next {l : List Ins} (hf : Formed l) {o : List Bool} {m : Nat} {b : List Nat} (h : Inv l (o, m :: b)) : Inv l ((nextsI l m).foldl lookB (o, b)) ∧ mBfs l.length ((nextsI l m).foldl lookB (o, b)) < mBfs l.length (o, m :: b) := by
  obtain ⟨hw, hz, hs, hm, hfu⟩ := h
  dsimp only at hz hs hm hfu
  have hmo : o.getD m false = true := hm m (by simp)
  have hml : m < l.length := (hs m hmo).lt hf
  have hw' : Weak l.length (o, b) := ⟨hw.len, by have := hw.few; simp only [List.length_cons] at this; dsimp only; omega⟩
  have hts : ∀ t ∈ nextsI l m, t < l.length := fun t ht => (nexts_lt hf hml t ht).2
  have hg := fold_get hw' hts
  have hmm := fold_mem hw' hts
  refine ⟨⟨hw'.fold hts, (hg 0).2 (.inl hz), fun x hx => ?_, fun x hx => ?_, fun x hx => ?_⟩, ?_⟩
  · rcases (hg x).1 hx with h | h
    · exact hs x h
    · exact .step m x (hs m hmo) rfl h
  · rcases (hmm x).1 hx with h | ⟨h, _⟩
    · exact (hg x).2 (.inl (hm x (by simp; exact .inr h)))
    · exact (hg x).2 (.inr h)
  · by_cases h1 : o.getD x false = true
    · rcases hfu x h1 with h2 | h2
      · rcases List.mem_cons.1 h2 with h3 | h3
        · subst h3
          exact .inr fun t ht => (hg t).2 (.inr ht)
        · exact .inl ((hmm x).2 (.inl h3))
      · exact .inr fun t ht => (hg t).2 (.inl (h2 t ht))
    · rcases (hg x).1 hx with h2 | h2
      · exact absurd h2 h1
      · exact .inl ((hmm x).2 (.inr ⟨h2, by simpa using h1⟩))
  · have := mBfs_fold hw' hts
    unfold mBfs at this ⊢
    simp only [List.length_cons] at this ⊢
    omega
theorem getD_ext {o o' : List Bool} (hl : o.length = o'.length) (h : ∀ k, o.getD k false = o'.getD k false) : o = o' := by
  refine List.ext_getElem hl fun k h1 h2 => ?_
  have := h k
  simpa [List.getD, h1, h2] using this
theorem Inv.done {l : List Ins} (hf : Formed l) {o : List Bool} (h : Inv l (o, [])) : o = reachI l := by
  have hiff : ∀ x, o.getD x false = true ↔ Reached l x := by
    intro x
    constructor
    · exact h.sound x
    · intro hx
      induction hx with
      | zero => exact h.zero
      | step n t _ _ ht ih =>
        rcases h.full n ih with h1 | h1
        · simp at h1
        · exact h1 t ht
  refine getD_ext (by rw [reachI_length]; exact h.weak.len) fun k => ?_
  have := (hiff k).trans (reachI_iff hf k).symm
  exact Bool.eq_iff_iff.2 this
end Go.Proofs.W
