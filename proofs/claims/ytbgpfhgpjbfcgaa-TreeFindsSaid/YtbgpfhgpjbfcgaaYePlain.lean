import Derived.Test.YtbgpfhgpjbfcgaaYdDeep
namespace Go.Proofs.Ytb
open Go.Vl

theorem getD_app3 {A B C : List Node} {j : Nat} (h : j < B.length) : (A ++ B ++ C).getD (A.length + j) node0 = B.getD j node0 := by
  rw [List.append_assoc, List.getD_eq_getElem?_getD, List.getElem?_append_right (by omega), Nat.add_sub_cancel_left, List.getElem?_append_left h, ← List.getD_eq_getElem?_getD]
theorem TreeAt.app {t s : List Node} {k a d : Nat} {l : List Int} (h : TreeAt t k l a d) : TreeAt (t ++ s) k l a d := by
  induction h with
  | leaf k x a h => exact .leaf k x a (by rw [List.getElem?_append_left (List.getElem?_eq_some_iff.1 h).1]; exact h)
  | node k lo hi x l r a d e h1 h2 h hl hr hx ihl ihr => exact .node k lo hi x l r a d e h1 h2 (by rw [List.getElem?_append_left (List.getElem?_eq_some_iff.1 h).1]; exact h) ihl ihr hx
theorem tr_tree : ∀ (N : Nat) (l : List Int) (a : Nat) (pre : List Node), l.length = N → 1 ≤ N → ∃ d, TreeAt (pre ++ tr l a pre.length) (pre.length + (2 * N - 2)) l a d ∧ ∀ k, N ≤ 2 ^ k → d ≤ k := by
  intro N
  induction N using Nat.strongRecOn with
  | _ N ih =>
    intro l a pre hN h1
    by_cases h : l.length ≤ 1
    · obtain ⟨x, rfl⟩ : ∃ x, l = [x] := by
        match l, hN, h with
        | [], hN, _ => simp at hN; omega
        | [x], _, _ => exact ⟨x, rfl⟩
        | _ :: _ :: _, _, h => simp at h
      have : N = 1 := by simpa using hN.symm
      subst this
      rw [tr_one h]
      exact ⟨0, .leaf _ x a (by simp), fun k _ => by omega⟩
    · have hl1 : (l.take (l.length / 2)).length = N / 2 := by simp; omega
      have hl2 : (l.drop (l.length / 2)).length = N - N / 2 := by simp; omega
      obtain ⟨d, hd, hdk⟩ := ih (N / 2) (by omega) (l.take (l.length / 2)) a pre hl1 (by omega)
      obtain ⟨e, he, hek⟩ := ih (N - N / 2) (by omega) (l.drop (l.length / 2)) (a + l.length / 2) (pre ++ tr (l.take (l.length / 2)) a pre.length) hl2 (by omega)
      have t1 := tr_length _ (l.take (l.length / 2)) a pre.length hl1 (by omega)
      have t2 := tr_length _ (l.drop (l.length / 2)) (a + l.length / 2) (pre.length + (tr (l.take (l.length / 2)) a pre.length).length) hl2 (by omega)
      rw [List.length_append] at he
      refine ⟨1 + max d e, ?_, fun k hk => ?_⟩
      · rw [tr_more h]
        have hlr : l = l.take (l.length / 2) ++ l.drop (l.length / 2) := (List.take_append_drop _ _).symm
        have hx : (l.drop (l.length / 2)).head? = some (l.getD (l.length / 2) 0) := by
          rw [List.head?_drop, List.getD_eq_getElem?_getD, List.getElem?_eq_getElem (by omega)]; rfl
        generalize hL : tr (l.take (l.length / 2)) a pre.length = L at *
        generalize hH : tr (l.drop (l.length / 2)) (a + l.length / 2) (pre.length + L.length) = H at *
        have e1 : pre ++ (L ++ H ++ [⟨false, l.getD (l.length / 2) 0, 0, (pre.length + L.length - 1 : Int), (pre.length + L.length + H.length - 1 : Int)⟩]) =
            (pre ++ L ++ H) ++ [⟨false, l.getD (l.length / 2) 0, 0, ((pre.length + (2 * (N / 2) - 2) : Nat) : Int), ((pre.length + L.length + (2 * (N - N / 2) - 2) : Nat) : Int)⟩] := by
          simp only [List.append_assoc]
          congr 5
          all_goals (congr 2 <;> omega)
        rw [e1]
        have e2 : pre.length + (2 * N - 2) = (pre ++ L ++ H).length := by simp; omega
        rw [e2]
        conv => rhs; skip
        have key := TreeAt.node (t := (pre ++ L ++ H) ++ [⟨false, l.getD (l.length / 2) 0, 0, ((pre.length + (2 * (N / 2) - 2) : Nat) : Int), ((pre.length + L.length + (2 * (N - N / 2) - 2) : Nat) : Int)⟩]) (pre ++ L ++ H).length (pre.length + (2 * (N / 2) - 2)) (pre.length + L.length + (2 * (N - N / 2) - 2)) (l.getD (l.length / 2) 0) (l.take (l.length / 2)) (l.drop (l.length / 2)) a d e
          (by simp; omega) (by simp; omega) (by simp) (by rw [List.append_assoc, List.append_assoc, ← List.append_assoc]; exact hd.app) (by rw [show (l.take (l.length / 2)).length = l.length / 2 by simp; omega]; exact he.app) hx
        rw [← hlr] at key
        exact key
      · match k, hk with
        | 0, hk => simp at hk; omega
        | k + 1, hk =>
          rw [Nat.pow_succ] at hk
          have h3 := hdk k (by omega)
          have h4 := hek k (by omega)
          omega
theorem tr_facts : ∀ (N : Nat) (l : List Int) (a b : Nat), l.length = N → 1 ≤ N → ((tr l a b).countP (·.leaf) = N) ∧ ∀ i, i < (tr l a b).length →
    (∃ j : Nat, j < N ∧ (tr l a b).getD i node0 = ⟨true, l.getD j 0, (a + j : Nat), 0, 0⟩) ∨ ∃ (x : Int) (lo hi : Nat), lo < b + i ∧ hi < b + i ∧ (tr l a b).getD i node0 = ⟨false, x, 0, lo, hi⟩ := by
  intro N
  induction N using Nat.strongRecOn with
  | _ N ih =>
    intro l a b hN h1
    by_cases h : l.length ≤ 1
    · have : N = 1 := by omega
      subst this
      rw [tr_one h]
      refine ⟨rfl, fun i hi => ?_⟩
      obtain rfl : i = 0 := by simpa using hi
      exact .inl ⟨0, by omega, rfl⟩
    · have hl1 : (l.take (l.length / 2)).length = N / 2 := by simp; omega
      have hl2 : (l.drop (l.length / 2)).length = N - N / 2 := by simp; omega
      obtain ⟨c1, f1⟩ := ih (N / 2) (by omega) (l.take (l.length / 2)) a b hl1 (by omega)
      have t1 := tr_length _ (l.take (l.length / 2)) a b hl1 (by omega)
      obtain ⟨c2, f2⟩ := ih (N - N / 2) (by omega) (l.drop (l.length / 2)) (a + l.length / 2) (b + (tr (l.take (l.length / 2)) a b).length) hl2 (by omega)
      have t2 := tr_length _ (l.drop (l.length / 2)) (a + l.length / 2) (b + (tr (l.take (l.length / 2)) a b).length) hl2 (by omega)
      rw [tr_more h]
      generalize hL : tr (l.take (l.length / 2)) a b = L at *
      generalize hH : tr (l.drop (l.length / 2)) (a + l.length / 2) (b + L.length) = H at *
      refine ⟨by simp [List.countP_append, c1, c2]; omega, fun i hi => ?_⟩
      simp only [List.length_append, List.length_cons, List.length_nil] at hi
      rcases Nat.lt_or_ge i L.length with h2 | h2
      · have e : (L ++ H ++ [(⟨false, l.getD (l.length / 2) 0, 0, (b + L.length - 1 : Int), (b + L.length + H.length - 1 : Int)⟩ : Node)]).getD i node0 = L.getD i node0 := by
          rw [List.append_assoc, List.getD_eq_getElem?_getD, List.getElem?_append_left h2, ← List.getD_eq_getElem?_getD]
        rw [e]
        rcases f1 i h2 with ⟨j, hj, hn⟩ | ⟨x, lo, hg, q1, q2, hn⟩
        · refine .inl ⟨j, by omega, ?_⟩
          rw [hn]
          have : (l.take (l.length / 2)).getD j 0 = l.getD j 0 := by simp [List.getD, List.getElem?_take, show j < l.length / 2 by omega]
          rw [this]
        · exact .inr ⟨x, lo, hg, q1, q2, hn⟩
      · rcases Nat.lt_or_ge i (L.length + H.length) with h3 | h3
        · obtain ⟨j, rfl⟩ : ∃ j, i = L.length + j := ⟨i - L.length, by omega⟩
          rw [getD_app3 (by omega)]
          rcases f2 j (by omega) with ⟨k, hk, hn⟩ | ⟨x, lo, hg, q1, q2, hn⟩
          · refine .inl ⟨l.length / 2 + k, by omega, ?_⟩
            rw [hn]
            have : (l.drop (l.length / 2)).getD k 0 = l.getD (l.length / 2 + k) 0 := by simp [List.getD]
            rw [this, Nat.add_assoc]
          · exact .inr ⟨x, lo, hg, by omega, by omega, hn⟩
        · obtain rfl : i = L.length + H.length := by omega
          refine .inr ⟨l.getD (l.length / 2) 0, b + L.length - 1, b + L.length + H.length - 1, by omega, by omega, ?_⟩
          rw [List.getD_eq_getElem?_getD, List.getElem?_append_right (by simp)]
          simp
          omega
theorem deepL_tree {t : List Node} {k a d : Nat} {l : List Int} (h : TreeAt t k l a d) : (deepL t).getD k 0 = d := by
  have pre : ∀ i j, i < j → j ≤ t.length → (deepL (t.take j)).getD i 0 = (deepL (t.take (i + 1))).getD i 0 := by
    intro i j hij
    induction j with
    | zero => omega
    | succ j ih =>
      intro hj
      rcases Nat.lt_or_ge i j with h1 | h1
      · rw [← ih h1 (by omega), deepL_succ (by omega), deepS]
        have hl : i < (deepL (t.take j)).length := by rw [deepL_len, List.length_take]; omega
        rw [List.getD_eq_getElem?_getD, List.getElem?_append_left hl, ← List.getD_eq_getElem?_getD]
      · obtain rfl : i = j := by omega
        rfl
  have at_ : ∀ i, i < t.length → ((deepL t).getD i 0 = if (t.getD i node0).leaf then 0 else 1 + (if (deepL t).getD (t.getD i node0).high.toNat 0 > (deepL t).getD (t.getD i node0).low.toNat 0 then (deepL t).getD (t.getD i node0).high.toNat 0 else (deepL t).getD (t.getD i node0).low.toNat 0)) ∨ ¬ ((t.getD i node0).high.toNat < i ∧ (t.getD i node0).low.toNat < i) := by
    intro i hi
    by_cases hc : (t.getD i node0).high.toNat < i ∧ (t.getD i node0).low.toNat < i
    · left
      have e1 := pre i t.length hi (Nat.le_refl _)
      rw [List.take_length] at e1
      have e2 : ∀ j, j < i → (deepL (t.take i)).getD j 0 = (deepL t).getD j 0 := fun j hj => by
        have := pre j t.length (by omega) (Nat.le_refl _)
        rw [List.take_length] at this
        rw [this, pre j i hj (by omega)]
      rw [e1, deepL_succ hi, deepS]
      have hl : (deepL (t.take i)).length = i := by rw [deepL_len, List.length_take]; omega
      rw [List.getD_eq_getElem?_getD, List.getElem?_append_right (by omega), hl]
      simp only [Nat.sub_self, List.getElem?_cons_zero, Option.getD_some]
      rw [e2 _ hc.1, e2 _ hc.2]
    · exact .inr hc
  induction h with
  | leaf k x a h =>
    have hk := (List.getElem?_eq_some_iff.1 h).1
    have e := pre k t.length hk (Nat.le_refl _)
    rw [List.take_length] at e
    rw [e, deepL_succ hk, deepS, nodeF_at h]
    have hl : (deepL (t.take k)).length = k := by rw [deepL_len, List.length_take]; omega
    rw [List.getD_eq_getElem?_getD, List.getElem?_append_right (by omega), hl]
    simp
  | node k lo hi x l r a d e h1 h2 h hl hr hx ihl ihr =>
    have hk := (List.getElem?_eq_some_iff.1 h).1
    rcases at_ k hk with h3 | h3
    · rw [h3, nodeF_at h]
      simp only [Bool.false_eq_true, if_false, Int.toNat_natCast]
      rw [ihl, ihr]
      split <;> omega
    · rw [nodeF_at h] at h3
      simp at h3; omega
/-- What Build gives of rising numbers. -/
theorem build_tree (l : List Int) (h : 1 ≤ l.length) : ∃ d, TreeAt (tr l 0 0) ((tr l 0 0).length - 1) l 0 d ∧ (∀ k, l.length ≤ 2 ^ k → d ≤ k) ∧ (deepL (tr l 0 0)).getD ((tr l 0 0).length - 1) 0 = d := by
  obtain ⟨d, h1, h2⟩ := tr_tree l.length l 0 [] rfl h
  have e := tr_length l.length l 0 0 rfl h
  simp only [List.nil_append, List.length_nil, Nat.zero_add] at h1
  have e2 : (tr l 0 0).length - 1 = 2 * l.length - 2 := by omega
  rw [e2]
  exact ⟨d, h1, h2, deepL_tree h1⟩
theorem build_formed (l : List Int) (h : 1 ≤ l.length) : formed (tr l 0 0) := fun i hi => by
  rcases (tr_facts l.length l 0 0 rfl h).2 i hi with ⟨j, _, hn⟩ | ⟨x, lo, hg, q1, q2, hn⟩
  · left; rw [hn]
  · right; rw [hn]; exact ⟨lo, hg, rfl, rfl, by omega, by omega⟩
end Go.Proofs.Ytb
