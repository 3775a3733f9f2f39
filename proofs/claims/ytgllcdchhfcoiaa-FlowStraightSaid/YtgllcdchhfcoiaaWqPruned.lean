import Derived.Test.YtgllcdchhfcoiaaWjPrune
import Derived.Test.YtgllcdchhfcoiaaWpBits
namespace Go.Proofs.W

section
variable {l : List Ins}
def cnt (l : List Ins) (n : Nat) : Nat := ((reachI l).take n).count true
theorem reachedOf_ok (h : Right l) : reachedOf l = reachI l := by unfold reachedOf; rw [if_pos (check_iff.2 h)]
theorem cnt_zero : cnt l 0 = 0 := by simp [cnt]
theorem cnt_succ {n : Nat} (hn : n < l.length) : cnt l (n + 1) = cnt l n + (if (reachI l).getD n false then 1 else 0) := count_take (by rw [reachI_length]; exact hn)
theorem cnt_in (hf : Formed l) {n : Nat} (h : Reached l n) : cnt l (n + 1) = cnt l n + 1 := by
  rw [cnt_succ (h.lt hf), (reachI_iff hf n).2 h]; rfl
theorem cnt_mono {a b : Nat} (h : a ≤ b) : cnt l a ≤ cnt l b := by
  obtain ⟨d, rfl⟩ : ∃ d, b = a + d := ⟨b - a, by omega⟩
  exact (count_mono (reachI l) a d).1
theorem cnt_lt (hf : Formed l) {a b : Nat} (ha : Reached l a) (h : a < b) : cnt l a < cnt l b := by
  have h1 := cnt_in hf ha
  have h2 := cnt_mono (l := l) (show a + 1 ≤ b from h)
  omega
theorem cnt_inj (hf : Formed l) {a b : Nat} (ha : Reached l a) (hb : Reached l b) (h : cnt l a = cnt l b) : a = b := by
  rcases Nat.lt_trichotomy a b with h1 | h1 | h1
  · have := cnt_lt hf ha h1; omega
  · exact h1
  · have := cnt_lt hf hb h1; omega
theorem prTo_len (h : Right l) : ∀ n, n ≤ l.length → (prTo l n).length = cnt l n := by
  intro n
  induction n with
  | zero => intro _; rw [cnt_zero]; simp [prTo]
  | succ n ih =>
    intro hn
    rw [prTo_succ, reachedOf_ok h, cnt_succ (by omega), ← ih (by omega)]
    split
    · rename_i h1; simp
    · rename_i h1; simp
theorem prTo_get (h : Right l) {n : Nat} (hr : Reached l n) : ∀ m, n < m → m ≤ l.length → (prTo l m).getD (cnt l n) ins0 = prI l n := by
  intro m
  induction m with
  | zero => intro h; omega
  | succ m ih =>
    intro h1 h2
    have hlen := prTo_len h m (by omega)
    rw [prTo_succ, reachedOf_ok h]
    by_cases h3 : n = m
    · subst h3
      rw [if_pos ((reachI_iff h.1 n).2 hr)]
      simp [List.getD, ← hlen]
    · have h4 := ih (by omega) (by omega)
      have h5 := cnt_lt h.1 hr (show n < m by omega)
      split
      · rw [← h4]
        simp only [List.getD]
        rw [List.getElem?_append_left (by omega)]
      · exact h4
theorem pruneI_ok (h : Right l) : pruneI l = prTo l l.length := by unfold pruneI; rw [reachedOf_ok h, reachI_length]
theorem prune_len (h : Right l) : (pruneI l).length = cnt l l.length := by rw [pruneI_ok h]; exact prTo_len h l.length (Nat.le_refl _)
theorem prune_get (h : Right l) {n : Nat} (hr : Reached l n) : (pruneI l).getD (cnt l n) ins0 = prI l n := by rw [pruneI_ok h]; exact prTo_get h hr l.length (hr.lt h.1) (Nat.le_refl _)
theorem cnt_onto (hf : Formed l) : ∀ m, m ≤ l.length → ∀ j, j < cnt l m → ∃ n, n < m ∧ Reached l n ∧ cnt l n = j := by
  intro m
  induction m with
  | zero => intro _ j hj; rw [cnt_zero] at hj; omega
  | succ m ih =>
    intro hm j hj
    rw [cnt_succ (by omega)] at hj
    by_cases h1 : j < cnt l m
    · obtain ⟨n, h2, h3⟩ := ih (by omega) j h1
      exact ⟨n, by omega, h3⟩
    · split at hj
      · rename_i h2
        exact ⟨m, by omega, (reachI_iff hf m).1 h2, by omega⟩
      · omega
theorem prune_at (h : Right l) {j : Nat} (hj : j < (pruneI l).length) : ∃ n, Reached l n ∧ cnt l n = j := by
  rw [prune_len h] at hj
  obtain ⟨n, _, h1⟩ := cnt_onto h.1 l.length (Nat.le_refl _) j hj
  exact ⟨n, h1⟩
theorem cnt_len (h : Right l) {n : Nat} (hr : Reached l n) : cnt l n < (pruneI l).length := by rw [prune_len h]; exact cnt_lt h.1 hr (hr.lt h.1)
theorem to_cnt (h : Right l) {n k : Nat} (hn : Reached l n) (ht : n + 1 + k < l.length) : (toI (sums (reachedOf l)) n k).toNat + (cnt l n + 1) = cnt l (n + 1 + k) ∧ (toI (sums (reachedOf l)) n k).toNat ≤ k := by
  have hle := h.1.le
  have h1 := to_sums (o := reachedOf l) (n := n) (k := k) (by rw [reachedOf_ok h, reachI_length]; omega) (by rw [reachedOf_ok h, reachI_length]; omega)
  have h2 := cnt_in h.1 hn
  have h3 := cnt_mono (l := l) (show n + 1 ≤ n + 1 + k by omega)
  rw [h1.1]
  rw [reachedOf_ok h] at *
  unfold cnt at *
  refine ⟨by omega, ?_⟩
  have := h1.2.2
  rw [h1.1] at this
  omega
theorem next_in (h : Right l) {n t : Nat} (hr : Reached l n) (ht : t ∈ nextsI l n) : Reached l t := .step n t hr rfl ht
theorem pr_code (n : Nat) : (prI l n).code = (l.getD n ins0).code := by unfold prI prAt; split; · rfl
                                                                        split <;> rfl
theorem pr_kind (h : Right l) {n : Nat} (hr : Reached l n) : kind (pruneI l) (cnt l n) = kind l n := by unfold kind; rw [prune_get h hr, pr_code]
theorem pr_k {n : Nat} (hk : kind l n ≠ 13) : (prI l n).k = (l.getD n ins0).k := by unfold prI prAt; rw [if_neg hk]; split <;> rfl
theorem pr_nexts (h : Right l) {n : Nat} (hr : Reached l n) : nextsI (pruneI l) (cnt l n) = (nextsI l n).map (cnt l) := by
  have hnx := nexts_lt h.1 (hr.lt h.1)
  have h1 := cnt_in h.1 hr
  unfold nextsI at hnx ⊢
  rw [pr_kind h hr, prune_get h hr]
  by_cases k1 : kind l n = 14 ∨ kind l n = 15
  · rw [if_pos k1, if_pos k1]; rfl
  · rw [if_neg k1] at hnx
    rw [if_neg k1, if_neg k1]
    by_cases k2 : kind l n = 13
    · rw [if_pos k2] at hnx
      rw [if_pos k2, if_pos k2]
      have h2 := hnx _ (List.mem_singleton.2 rfl)
      have h3 := to_cnt h hr h2.2
      have h4 : (prI l n).k = (toI (sums (reachedOf l)) n (l.getD n ins0).k).toNat := by unfold prI prAt; rw [if_pos k2]
      rw [h4]
      simp only [List.map_cons, List.map_nil, List.cons.injEq, and_true]
      omega
    · rw [if_neg k2] at hnx
      rw [if_neg k2, if_neg k2]
      by_cases k3 : 25 ≤ kind l n
      · rw [if_pos k3] at hnx
        rw [if_pos k3, if_pos k3]
        have h2 := hnx (n + 1 + (l.getD n ins0).jt) (by simp)
        have h2' := hnx (n + 1 + (l.getD n ins0).jf) (by simp)
        have h3 := to_cnt h hr h2.2
        have h3' := to_cnt h hr h2'.2
        have h4 : (prI l n).jt = (toI (sums (reachedOf l)) n (l.getD n ins0).jt).toNat := by unfold prI prAt; rw [if_neg k2, if_pos k3]
        have h4' : (prI l n).jf = (toI (sums (reachedOf l)) n (l.getD n ins0).jf).toNat := by unfold prI prAt; rw [if_neg k2, if_pos k3]
        rw [h4, h4']
        simp only [List.map_cons, List.map_nil, List.cons.injEq, and_true]
        omega
      · rw [if_neg k3, if_neg k3]
        simp [h1]
theorem pr_reach (h : Right l) {s s' : Nat → Bool} (hs : ∀ m, Reached l m → s' (cnt l m) = s m) {n : Nat} (hr : Rch l s n) : Reached l n ∧ Rch (pruneI l) s' (cnt l n) := by
  induction hr with
  | zero => exact ⟨.zero, by rw [cnt_zero]; exact .zero⟩
  | step n t h1 h2 h3 ih =>
    obtain ⟨ih1, ih2⟩ := ih
    exact ⟨next_in h ih1 h3, .step (cnt l n) (cnt l t) ih2 (by rw [hs n ih1]; exact h2) (by rw [pr_nexts h ih1]; exact List.mem_map.2 ⟨t, h3, rfl⟩)⟩
theorem pr_back (h : Right l) {s s' : Nat → Bool} (hs : ∀ m, Reached l m → s' (cnt l m) = s m) {j : Nat} (hr : Rch (pruneI l) s' j) : ∃ n, Reached l n ∧ cnt l n = j ∧ Rch l s n := by
  induction hr with
  | zero => exact ⟨0, .zero, cnt_zero, .zero⟩
  | step j t h1 h2 h3 ih =>
    obtain ⟨n, i1, rfl, i3⟩ := ih
    rw [pr_nexts h i1] at h3
    obtain ⟨t', h4, rfl⟩ := List.mem_map.1 h3
    exact ⟨t', next_in h i1 h4, rfl, .step n t' i3 (by rw [← hs n i1]; exact h2) h4⟩
theorem pr_wrong (h : Right l) {n : Nat} (hr : Reached l n) : wrongI (prI l n) ((pruneI l).length - 1 - cnt l n) = 0 := by
  have hw := h.1.ok n (hr.lt h.1)
  have hnx := nexts_lt h.1 (hr.lt h.1)
  have hin := fun t (ht : t ∈ nextsI l n) => cnt_len h (next_in h hr ht)
  have hc := pr_code (l := l) n
  have hkd : (kof (l.getD n ins0).code).1 = kind l n := rfl
  have hk := fun hk => pr_k (l := l) (n := n) hk
  have h13 : kind l n = 13 → (prI l n).k < (pruneI l).length - 1 - cnt l n := by
    intro k2
    have hm : n + 1 + (l.getD n ins0).k ∈ nextsI l n := by unfold nextsI; rw [if_neg (by omega), if_pos k2]; simp
    have h2 := hin _ hm
    have h3 := to_cnt h hr (hnx _ hm).2
    have h4 : (prI l n).k = (toI (sums (reachedOf l)) n (l.getD n ins0).k).toNat := by unfold prI prAt; rw [if_pos k2]
    omega
  have h25 : 25 ≤ kind l n → (prI l n).jt < (pruneI l).length - 1 - cnt l n ∧ (prI l n).jf < (pruneI l).length - 1 - cnt l n := by
    intro k3
    have hm : n + 1 + (l.getD n ins0).jt ∈ nextsI l n := by unfold nextsI; rw [if_neg (by omega), if_neg (by omega), if_pos k3]; simp
    have hm' : n + 1 + (l.getD n ins0).jf ∈ nextsI l n := by unfold nextsI; rw [if_neg (by omega), if_neg (by omega), if_pos k3]; simp
    have h2 := hin _ hm
    have h2' := hin _ hm'
    have h3 := to_cnt h hr (hnx _ hm).2
    have h3' := to_cnt h hr (hnx _ hm').2
    have h4 : (prI l n).jt = (toI (sums (reachedOf l)) n (l.getD n ins0).jt).toNat := by unfold prI prAt; rw [if_neg (by omega), if_pos k3]
    have h4' : (prI l n).jf = (toI (sums (reachedOf l)) n (l.getD n ins0).jf).toNat := by unfold prI prAt; rw [if_neg (by omega), if_pos k3]
    omega
  unfold wrongI at hw ⊢
  rw [hc]
  rw [← hkd] at hk h13 h25
  clear hnx hin hkd hc
  generalize kof (l.getD n ins0).code = kk at *
  obtain ⟨k, x⟩ := kk
  dsimp only at hw hk h13 h25 ⊢
  by_cases e : k = 13
  · have h13 := h13 e
    subst e
    simp at hw ⊢
    omega
  · rw [hk e]
    by_cases e2 : 25 ≤ k
    · have h25 := h25 e2
      repeat' split at hw
      all_goals first | (exfalso; omega) | skip
      repeat' split
      all_goals first | rfl | (exfalso; omega)
    · have e3 : ¬ (k = 13 ∧ (l.length - 1 - n) ≤ (l.getD n ins0).k ∨ 25 ≤ k ∧ (l.length - 1 - n ≤ (l.getD n ins0).jt ∨ l.length - 1 - n ≤ (l.getD n ins0).jf)) := fun h => h.elim (fun h => e h.1) (fun h => e2 h.1)
      rw [if_neg e3] at hw
      have e4 : ¬ (k = 13 ∧ (pruneI l).length - 1 - cnt l n ≤ (l.getD n ins0).k ∨ 25 ≤ k ∧ ((pruneI l).length - 1 - cnt l n ≤ (prI l n).jt ∨ (pruneI l).length - 1 - cnt l n ≤ (prI l n).jf)) := fun h => h.elim (fun h => e h.1) (fun h => e2 h.1)
      rw [if_neg e4]
      exact hw
theorem pruned_formed (h : Right l) : Formed (pruneI l) := by
  have hz : Reached l 0 := .zero
  have hlen := prune_len h
  have hcl : cnt l l.length ≤ l.length := by
    unfold cnt
    have := List.count_le_length (a := true) (l := (reachI l).take l.length)
    rw [List.length_take, reachI_length] at this
    omega
  have hpos := cnt_len h hz
  refine ⟨by omega, by have := h.1.le; omega, fun j hj => ?_, ?_⟩
  · obtain ⟨n, hr, rfl⟩ := prune_at h hj
    rw [prune_get h hr]
    exact pr_wrong h hr
  · obtain ⟨n, hr, hn⟩ := prune_at h (j := (pruneI l).length - 1) (by omega)
    rw [← hn, pr_kind h hr]
    refine Classical.byContradiction fun hk => ?_
    obtain ⟨t, ht⟩ : ∃ t, t ∈ nextsI l n := by
      unfold nextsI
      rw [if_neg hk]
      split
      · exact ⟨_, List.mem_singleton.2 rfl⟩
      · split
        · exact ⟨_, List.mem_cons_self ..⟩
        · exact ⟨_, List.mem_singleton.2 rfl⟩
    have h1 := cnt_lt h.1 hr (nexts_lt h.1 (hr.lt h.1) t ht).1
    have h2 := cnt_len h (next_in h hr ht)
    omega
theorem pr_stop (h : Right l) (c : Nat) : ∀ m, Reached l m → stopC (pruneI l) c (cnt l m) = stopC l c m := by
  intro m hm
  unfold stopC
  rw [pr_kind h hm, prune_get h hm]
  by_cases hk : isStore (kind l m)
  · rw [pr_k (by unfold isStore at hk; omega)]
  · simp [hk]
theorem pruned_right (h : Right l) : Right (pruneI l) := by
  refine ⟨pruned_formed h, fun j hj hk hr => ?_⟩
  obtain ⟨n, hn, rfl⟩ := prune_at h hj
  rw [pr_kind h hn] at hk
  rw [prune_get h hn, pr_k (by omega)] at hr
  obtain ⟨n', h1, h2, h3⟩ := pr_back h (pr_stop h _) hr
  have := cnt_inj h.1 h1 hn h2
  subst this
  exact h.2 n' (hn.lt h.1) hk h3
theorem pruned_reached (h : Right l) {j : Nat} (hj : j < (pruneI l).length) : Reached (pruneI l) j := by
  obtain ⟨n, hn, rfl⟩ := prune_at h hj
  exact (pr_reach h (fun _ _ => rfl) hn).2
theorem prune_nil (h : ¬ Right l) : pruneI l = [] := by
  unfold pruneI reachedOf
  rw [if_neg (fun h0 => h (check_iff.1 h0))]
  rfl
theorem pruned_ok (h : Right l) (hok : okL l) : okL (pruneI l) := by
  intro i hi
  obtain ⟨j, hj, rfl⟩ := List.getElem_of_mem hi
  obtain ⟨n, hn, rfl⟩ := prune_at h hj
  have h1 := prune_get h hn
  have h2 : (pruneI l)[cnt l n] = prI l n := by simpa [List.getD, hj] using h1
  rw [h2]
  have hki := hok.get (hn.lt h.1)
  obtain ⟨a1, a2, a3, a4⟩ := hki
  have hnx := nexts_lt h.1 (hn.lt h.1)
  unfold prI prAt
  split
  · rename_i k2
    have hm : n + 1 + (l.getD n ins0).k ∈ nextsI l n := by unfold nextsI; rw [if_neg (by omega), if_pos k2]; simp
    have h3 := to_cnt h hn (hnx _ hm).2
    exact ⟨a1, a2, a3, by dsimp only; omega⟩
  · split
    · rename_i k2 k3
      have hm : n + 1 + (l.getD n ins0).jt ∈ nextsI l n := by unfold nextsI; rw [if_neg (by omega), if_neg (by omega), if_pos k3]; simp
      have hm' : n + 1 + (l.getD n ins0).jf ∈ nextsI l n := by unfold nextsI; rw [if_neg (by omega), if_neg (by omega), if_pos k3]; simp
      have h3 := to_cnt h hn (hnx _ hm).2
      have h3' := to_cnt h hn (hnx _ hm').2
      exact ⟨a1, by dsimp only; omega, by dsimp only; omega, a4⟩
    · exact ⟨a1, a2, a3, a4⟩
end
end Go.Proofs.W
