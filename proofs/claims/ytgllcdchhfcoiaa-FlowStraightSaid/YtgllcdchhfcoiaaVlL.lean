/- Plain words on lists. -/
import Derived.Test.YtgllcdchhfcoiaaVlK
namespace Go.Vl

theorem idx_at' {α : Type} {p : α → Bool} {l : List α} {i : Nat} {d : α} (hi : i < l.length) (hb : ∀ j, j < i → p (l.getD j d) = false) (h : p (l.getD i d) = true) : l.findIdx? p = some i := by
  rw [List.findIdx?_eq_some_iff_getElem]
  refine ⟨hi, by simpa [List.getD, hi] using h, fun j hj => ?_⟩
  have := hb j hj
  have hj' : j < l.length := by omega
  simpa [List.getD, hj'] using this
theorem idx_none' {α : Type} {p : α → Bool} {l : List α} {d : α} (hb : ∀ j, j < l.length → p (l.getD j d) = false) : l.findIdx? p = none := by
  rw [List.findIdx?_eq_none_iff]
  intro x hx
  obtain ⟨j, hj, rfl⟩ := List.getElem_of_mem hx
  have := hb j hj
  simpa [List.getD, hj] using this
/-- A cell read at a place that is reckoned. -/
theorem split_eq {a b : AV} {K : AV → Prop} (h : a = b) (hk : splitB b K) : splitB a K := h ▸ hk
theorem splitO_eq {o : Op} {a b : AV} {K : AV → Prop} (h : a = b) (hk : splitO o b K) : splitO o a K := h ▸ hk
theorem getD_map {α : Type} {f : α → AV} {l : List α} {i : Nat} {d : α} {e : AV} (h : i < l.length) : (l.map f).getD i e = f (l.getD i d) := by
  simp [List.getD, h]
theorem splice_one {α : Type} {f : α → AV} {l : List α} {i : Nat} {x : α} (h : i < l.length) : splice (l.map f) i [f x] = (l.set i x).map f := by
  rw [splice_def]
  apply List.ext_getElem?
  intro k
  rw [splice_get _ _ _ (by simp; omega)]
  simp only [List.length_cons, List.length_nil, List.getElem?_map, List.getElem?_set]
  by_cases hk : k < i
  · simp [hk, show ¬ i = k by omega]
  · by_cases hk2 : k = i
    · subst hk2; simp [h]
    · simp [hk, show ¬ k < i + 1 by omega, show ¬ i = k by omega]
theorem getDL_set {α : Type} {l : List α} {i k : Nat} {x d : α} : (l.set i x).getD k d = if i = k ∧ i < l.length then x else l.getD k d := by
  simp only [List.getD_eq_getElem?_getD, List.getElem?_set]
  by_cases h : i = k
  · subst h
    by_cases hl : i < l.length
    · simp [hl]
    · simp [hl, List.getElem?_eq_none (Nat.le_of_not_lt hl)]
  · simp [h]
theorem fill_set {α : Type} (A : List α) (m : Nat) (v z : α) : (A ++ List.replicate (m + 1) z).set A.length v = (A ++ [v]) ++ List.replicate m z := by
  rw [List.replicate_succ, List.set_append_right _ _ (Nat.le_refl _)]
  simp
theorem fill_same {α : Type} (A : List α) (m : Nat) (z : α) : A ++ List.replicate (m + 1) z = (A ++ [z]) ++ List.replicate m z := by
  rw [List.replicate_succ]; simp
theorem fill_get {α : Type} {A : List α} {m i : Nat} {z d : α} (h : i < A.length) : (A ++ List.replicate m z).getD i d = A.getD i d := by
  simp [List.getD, List.getElem?_append_left h]
theorem LeL.of_eq {a b : List AV} (h : a = b) : LeL a b := h ▸ LeL.refl a
theorem bpar {p : Prop} [Decidable p] {c : Bool} (h : c = decide p) : (c = true ↔ p) := by subst h; simp
end Go.Vl
