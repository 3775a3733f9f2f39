/- A region that draws its order: first the operations that only yield, in whatever order; then those whose order is forced. -/
import Derived.Test.YtgllcdchhfcoiaaVl2
namespace Go.Vl
open Go.RowKit
variable {P : Program}

def DC (ops : Array Oper) (listed : Array Bool) : Prop :=
  ∀ (k : Nat) (o : Oper), ops[k]? = some o → listed.getD k true = true → ∀ e ∈ o.after, Region.binds .any e = true → listed.getD e.on false = true

theorem bits_fold (md : Region.Mode) (acc : Array Nat) (i : Nat) : ∀ (l : List Edge) (s : Nat),
    (l.foldl (fun s e => if Region.binds md e then s ||| 2 ^ e.on ||| acc.getD e.on 0 else s) s).testBit i = true →
    s.testBit i = true ∨ ∃ e ∈ l, Region.binds md e = true ∧ (i = e.on ∨ (acc.getD e.on 0).testBit i = true)
  | [], s, h => .inl h
  | e :: l, s, h => by
    rw [List.foldl_cons] at h
    rcases bits_fold md acc i l _ h with h | ⟨e', he', hb, h'⟩
    · by_cases hb : Region.binds md e = true
      · rw [if_pos hb] at h
        simp only [Nat.testBit_or, Bool.or_eq_true] at h
        rcases h with (h | h) | h
        · exact .inl h
        · refine .inr ⟨e, by simp, hb, .inl ?_⟩
          rw [Nat.testBit_two_pow] at h
          simpa using (of_decide_eq_true h).symm
        · exact .inr ⟨e, by simp, hb, .inr h⟩
      · rw [if_neg hb] at h
        exact .inl h
    · exact .inr ⟨e', List.mem_cons_of_mem _ he', hb, h'⟩

theorem before_go (D : Nat → Nat → Prop) : ∀ (l : List Oper) (acc : Array Nat),
    (∀ k i, (acc.getD k 0).testBit i = true → D k i) →
    (∀ (t : Nat) (o : Oper), l[t]? = some o → ∀ i, (∃ e ∈ o.after.toList, Region.binds .any e = true ∧ (i = e.on ∨ D e.on i)) → D (acc.size + t) i) →
    ∀ k i, ((l.foldl (fun acc o => acc.push (o.after.foldl (fun s e => if Region.binds .any e then s ||| 2 ^ e.on ||| acc.getD e.on 0 else s) 0)) acc).getD k 0).testBit i = true → D k i
  | [], acc, h1, _ => h1
  | o :: l, acc, h1, h2 => by
    rw [List.foldl_cons]
    refine before_go D l _ ?_ ?_
    · intro k i hk
      rw [Array.getD_eq_getD_getElem?, Array.getElem?_push] at hk
      split at hk
      · rename_i he
        subst he
        simp only [Option.getD_some] at hk
        rw [← Array.foldl_toList] at hk
        rcases bits_fold .any acc i _ _ hk with h | ⟨e, he, hb, h⟩
        · simp at h
        · have := h2 0 o (by simp) i ⟨e, he, hb, h.imp id (fun h => h1 _ _ h)⟩
          simpa using this
      · rw [← Array.getD_eq_getD_getElem?] at hk
        exact h1 k i hk
    · intro t o' ho' i hi
      have := h2 (t + 1) o' (by simpa using ho') i hi
      simpa [Nat.add_assoc, Nat.add_comm 1 t] using this

theorem before_listed {ops : Array Oper} {listed : Array Bool} (hd : DC ops listed) (hsz : listed.size = ops.size) {j i : Nat} {o : Oper} (hj : ops[j]? = some o)
    (ha : ∀ e ∈ o.after, Region.binds .any e = true → listed.getD e.on false = true) (hb : ((Region.before ops).getD j 0).testBit i = true) : listed.getD i false = true := by
  have key := before_go (fun k i => ∀ o, ops[k]? = some o → (∀ e ∈ o.after, Region.binds .any e = true → listed.getD e.on false = true) → listed.getD i false = true)
    ops.toList #[] (by simp) ?_ j i (by unfold Region.before at hb; rw [← Array.foldl_toList] at hb; exact hb) o hj ha
  · exact key
  · intro t o ho i ⟨e, he, hbi, h⟩ o' ho' ha'
    simp only [List.size_toArray, List.length_nil, Nat.zero_add] at ho'
    have : o' = o := by rw [Array.getElem?_toList] at ho; rw [ho] at ho'; exact (Option.some.inj ho').symm
    subst this
    have h1 := ha' e (Array.mem_toList_iff.1 he) hbi
    rcases h with h | h
    · rw [h]; exact h1
    · have hlt : e.on < listed.size := by
        rcases Nat.lt_or_ge e.on listed.size with h' | h'
        · exact h'
        · simp [Array.getD_eq_getD_getElem?, Array.getElem?_eq_none h'] at h1
      have ho2 : ops[e.on]? = some ops[e.on] := Array.getElem?_eq_getElem (by omega)
      refine h ops[e.on] ho2 fun e' he' hb' => hd e.on _ ho2 ?_ e' he' hb'
      rw [Array.getD_eq_getD_getElem?, Array.getElem?_eq_getElem hlt] at h1 ⊢
      simpa using h1

/-- What is looked up of a region that draws: edges lead back; what is not apart is behind; of the tail each waits for all that stand ahead. -/
def ordB (ops : Array Oper) (m : Nat) : Bool :=
  let bf := Region.before ops
  let l := ops.toList.zipIdx
  l.all fun (oj, j) => (oj.after.toList.all fun e => !Region.binds .any e || Nat.blt e.on j) &&
    bif Nat.blt j m then l.all fun (oi, i) => !Nat.blt i j || (bf.getD j 0).testBit i || oi.apart ops oj
    else (List.range j).all fun i => (bf.getD j 0).testBit i

structure OrdOk (ops : Array Oper) (m : Nat) : Prop where
  back : ∀ (j : Nat) (o : Oper), ops[j]? = some o → ∀ e ∈ o.after, Region.binds .any e = true → e.on < j
  pair : ∀ (i j : Nat) (oi oj : Oper), ops[i]? = some oi → ops[j]? = some oj → i < j → j < m → ((Region.before ops).getD j 0).testBit i = true ∨ oi.apart ops oj = true
  tail : ∀ (i j : Nat) (oj : Oper), ops[j]? = some oj → m ≤ j → i < j → ((Region.before ops).getD j 0).testBit i = true

theorem blt_true {a b : Nat} (h : Nat.blt a b = true) : a < b := by simpa [Nat.blt_eq] using h
theorem blt_iff {a b : Nat} : Nat.blt a b = true ↔ a < b := by simp [Nat.blt_eq]
theorem ordOk {ops : Array Oper} {m : Nat} (h : ordB ops m = true) : OrdOk ops m := by
  have get : ∀ (j : Nat) (o : Oper), ops[j]? = some o → (o, j) ∈ ops.toList.zipIdx := fun j o hj => by
    rw [List.mk_mem_zipIdx_iff_getElem?, Array.getElem?_toList]; exact hj
  simp only [ordB, List.all_eq_true] at h
  refine ⟨fun j o hj e he hb => ?_, fun i j oi oj hi hj hij hjm => ?_, fun i j oj hj hm hij => ?_⟩
  · have := h _ (get j o hj)
    simp only [Bool.and_eq_true, List.all_eq_true] at this
    have := this.1 e (Array.mem_toList_iff.2 he)
    simp only [hb, Bool.not_true, Bool.false_or] at this
    exact blt_true this
  · have := h _ (get j oj hj)
    simp only [Bool.and_eq_true, blt_iff.2 hjm, cond_true, List.all_eq_true] at this
    have := this.2 _ (get i oi hi)
    simp only [blt_iff.2 hij, Bool.not_true, Bool.false_or, Bool.or_eq_true] at this
    exact this
  · have := h _ (get j oj hj)
    have hn : Nat.blt j m = false := by cases h' : Nat.blt j m with | true => exact absurd (blt_true h') (by omega) | false => rfl
    simp only [Bool.and_eq_true, hn, cond_false, List.all_eq_true, List.mem_range] at this
    exact this.2 i hij

theorem mem_ready_iff {ops : Array Oper} {listed : Array Bool} {j : Nat} : j ∈ Region.ready .any ops listed ↔
    listed.getD j true = false ∧ ∃ o, ops[j]? = some o ∧ ∀ e ∈ o.after, Region.binds .any e = true → listed.getD e.on false = true := by
  unfold Region.ready
  simp only [List.mem_filter, List.mem_range, Bool.and_eq_true, Bool.not_eq_true']
  constructor
  · rintro ⟨hlt, h1, h2⟩
    refine ⟨h1, ops[j], Array.getElem?_eq_getElem hlt, fun e he hb => ?_⟩
    rw [Array.getElem?_eq_getElem hlt] at h2
    simp only [Option.map_some, Option.getD_some] at h2
    have := Array.all_eq_true_iff_forall_mem.1 h2 e he
    simpa [hb] using this
  · rintro ⟨h1, o, ho, h2⟩
    refine ⟨(Array.getElem?_eq_some_iff.1 ho).1, h1, ?_⟩
    rw [ho]
    simp only [Option.map_some, Option.getD_some]
    refine Array.all_eq_true_iff_forall_mem.2 fun e he => ?_
    by_cases hb : Region.binds .any e = true
    · simp [h2 e he hb]
    · simp [hb]

theorem listed_set {listed : Array Bool} {i k : Nat} {d : Bool} (hi : i < listed.size) : (listed.setIfInBounds i true).getD k d = if k = i then true else listed.getD k d := by
  simp only [Array.getD_eq_getD_getElem?, Array.getElem?_setIfInBounds]
  by_cases h : i = k
  · subst h; simp [hi]
  · have h' : ¬ k = i := fun e => h e.symm
    simp [h, h']
theorem listed_bool {listed : Array Bool} {k : Nat} {b : Bool} (hk : k < listed.size) : listed.getD k b = listed.getD k (!b) := by
  simp [Array.getD_eq_getD_getElem?, Array.getElem?_eq_getElem hk]

section
variable {ops : Array Oper} {m : Nat} {Q : Exit → Act → World → Prop}

theorem DC.set {listed : Array Bool} (hd : DC ops listed) (hsz : listed.size = ops.size) (hk : OrdOk ops m) {j : Nat} (hj : j ∈ Region.ready .any ops listed) : DC ops (listed.setIfInBounds j true) := by
  obtain ⟨h1, o, ho, h2⟩ := mem_ready_iff.1 hj
  have hjlt : j < listed.size := by rw [hsz]; exact (Array.getElem?_eq_some_iff.1 ho).1
  intro k o' ho' hl e he hb
  rw [listed_set hjlt] at hl ⊢
  by_cases hkj : k = j
  · subst hkj
    rw [ho] at ho'; cases ho'
    split
    · rfl
    · exact h2 e he hb
  · rw [if_neg hkj] at hl
    split
    · rfl
    · exact hd k o' ho' hl e he hb

/-- The tail: forced. -/
theorem tail_any {ro : Option Nat} (hk : OrdOk ops m) : ∀ (n k : Nat) (listed : Array Bool) (a : Act) (w : World), k + n = ops.size → m ≤ k → listed.size = ops.size → DC ops listed →
    (∀ i, i < ops.size → (listed.getD i true = false ↔ k ≤ i)) → wpOpsIn (Fr ro) 0 P ops Q (List.range' k n) a w → wpAnyIn (Fr ro) 0 P .any ops Q n listed a w
  | 0, k, listed, a, w, hkn, hm, hsz, hd, hun, h => by
    refine ⟨?_, h⟩
    refine List.eq_nil_iff_forall_not_mem.2 fun j hj => ?_
    obtain ⟨h1, o, ho, _⟩ := mem_ready_iff.1 hj
    have hlt := (Array.getElem?_eq_some_iff.1 ho).1
    have := (hun j hlt).1 h1
    omega
  | n + 1, k, listed, a, w, hkn, hm, hsz, hd, hun, h => by
    have hklt : k < ops.size := by omega
    have hko : ops[k]? = some ops[k] := Array.getElem?_eq_getElem hklt
    have hkr : k ∈ Region.ready .any ops listed := by
      refine mem_ready_iff.2 ⟨(hun k hklt).2 (Nat.le_refl _), _, hko, fun e he hb => ?_⟩
      have hlt := hk.back k _ hko e he hb
      rw [listed_bool (by omega)]
      cases hl : listed.getD e.on true with
      | true => simpa using hl
      | false => exact absurd ((hun e.on (by omega)).1 hl) (by omega)
    refine ⟨fun h0 => (by rw [h0] at hkr; cases hkr), fun j hj => ?_⟩
    have hjk : j = k := by
      obtain ⟨h1, o, ho, h2⟩ := mem_ready_iff.1 hj
      have hlt := (Array.getElem?_eq_some_iff.1 ho).1
      have hge := (hun j hlt).1 h1
      rcases Nat.lt_or_ge k j with hlt' | hle
      · have hb := hk.tail k j o ho (by omega) hlt'
        have := before_listed hd hsz ho h2 hb
        have h3 := (hun k hklt).2 (Nat.le_refl _)
        rw [listed_bool (by omega)] at this
        simp [h3] at this
      · omega
    subst hjk
    rw [List.range'_succ, wpOpsIn_cons] at h
    refine wpOpIn_mono (fun a' w' h' => tail_any hk n (j + 1) _ a' w' (by omega) (by omega) (by simp [hsz]) (hd.set hsz hk hkr) (fun i hi => ?_) h') h
    rw [listed_set (by omega)]
    by_cases hij : i = j
    · subst hij; simp
    · rw [if_neg hij, hun i hi]; omega

theorem pure_any (hk : OrdOk ops m) (hm : m ≤ ops.size) {ro : Option Nat} {X M : Nat → Nat → Prop} {w0 : World} {g : List Nat} :
    ∀ (n : Nat) (L : List Nat) (listed : Array Bool) (E E' : Env) (a : Act) (w : World), L.length = n → (∀ i ∈ L, i < m) → L.Pairwise (· < ·) → listed.size = ops.size → DC ops listed →
    (∀ i, i < ops.size → (listed.getD i true = false ↔ i ∈ L ∨ m ≤ i)) → RunL P ops L E E' → St ro X M w0 E a w g →
    (∀ a w, St ro X M w0 E' a w g → wpOpsIn (Fr ro) 0 P ops Q (List.range' m (ops.size - m)) a w) → wpAnyIn (Fr ro) 0 P .any ops Q (n + (ops.size - m)) listed a w := by
  intro n
  induction n with
  | zero =>
    intro L listed E E' a w hl _ _ hsz hd hun hrun hs hq
    have : L = [] := List.eq_nil_of_length_eq_zero hl
    subst this
    simp only [RunL] at hrun
    subst hrun
    rw [Nat.zero_add]
    exact tail_any hk _ m listed a w (by omega) (Nat.le_refl _) hsz hd (fun i hi => by simpa using hun i hi) (hq a w hs)
  | succ n ih =>
    intro L listed E E' a w hl hlm hpw hsz hd hun hrun hs hq
    rw [Nat.add_right_comm]
    obtain ⟨k, L', rfl⟩ : ∃ k L', L = k :: L' := by cases L with | nil => simp at hl | cons k L' => exact ⟨k, L', rfl⟩
    have hkm : k < m := hlm k (by simp)
    have hko : ops[k]? = some ops[k] := Array.getElem?_eq_getElem (by omega)
    have hkr : k ∈ Region.ready .any ops listed := by
      refine mem_ready_iff.2 ⟨(hun k (by omega)).2 (by simp), _, hko, fun e he hb => ?_⟩
      have hlt := hk.back k _ hko e he hb
      rw [listed_bool (by omega)]
      cases hl : listed.getD e.on true with
      | true => simpa using hl
      | false =>
        rcases (hun e.on (by omega)).1 hl with h' | h'
        · rcases List.mem_cons.1 h' with h' | h'
          · omega
          · have := (List.pairwise_cons.1 hpw).1 _ h'; omega
        · omega
    refine ⟨fun h0 => (by rw [h0] at hkr; cases hkr), fun j hj => ?_⟩
    obtain ⟨h1, oj, hoj, h2⟩ := mem_ready_iff.1 hj
    have hjlt := (Array.getElem?_eq_some_iff.1 hoj).1
    have hjL : j ∈ k :: L' := by
      rcases (hun j hjlt).1 h1 with h' | h'
      · exact h'
      · have hb := hk.tail k j oj hoj h' (by omega)
        have := before_listed hd hsz hoj h2 hb
        have h3 := (hun k (by omega)).2 (by simp)
        rw [listed_bool (by omega)] at this
        simp [h3] at this
    obtain ⟨l1, l2, hl12⟩ := List.append_of_mem hjL
    rw [hl12] at hrun hpw hun hlm hl
    have hl1 : ∀ i ∈ l1, i < j := fun i hi => (List.pairwise_append.1 hpw).2.2 i hi j (by simp)
    obtain ⟨r, hy, hrun'⟩ := RunL.front hoj l1 l2 E E' (fun i hi oi hoi => by
      rcases hk.pair i j oi oj hoi hoj (hl1 i hi) (hlm j (by simp)) with hb | hb
      · have := before_listed hd hsz hoj h2 hb
        have hilt : i < ops.size := (Array.getElem?_eq_some_iff.1 hoi).1
        have h3 := (hun i hilt).2 (.inl (by simp [hi]))
        rw [listed_bool (by omega)] at this
        simp [h3] at this
      · exact hb) hrun
    refine hy.does hoj hs fun a' w' hs' => ?_
    refine ih (l1 ++ l2) _ _ E' a' w' (by simp at hl ⊢; omega) (fun i hi => hlm i ?_) ?_ (by simp [hsz]) (hd.set hsz hk hj) (fun i hi => ?_) hrun' hs' hq
    · rcases List.mem_append.1 hi with h | h <;> simp [h]
    · have := List.pairwise_append.1 hpw
      refine List.pairwise_append.2 ⟨this.1, (List.pairwise_cons.1 this.2.1).2, fun a ha b hb => this.2.2 a ha b (by simp [hb])⟩
    · rw [listed_set (by omega)]
      by_cases hij : i = j
      · subst hij
        simp only [if_true]
        constructor
        · intro h; cases h
        · intro h
          exfalso
          rcases h with h | h
          · have h5 := (List.pairwise_append.1 hpw)
            rcases List.mem_append.1 h with h | h
            · exact absurd (hl1 i h) (by omega)
            · exact absurd ((List.pairwise_cons.1 h5.2.1).1 i h) (by omega)
          · have := hlm i (by simp); omega
      · rw [if_neg hij, hun i hi]
        simp only [List.mem_append, List.mem_cons]
        constructor
        · rintro ((h | h | h) | h)
          · exact .inl (.inl h)
          · exact absurd h hij
          · exact .inl (.inr h)
          · exact .inr h
        · rintro ((h | h) | h)
          · exact .inl (.inl h)
          · exact .inl (.inr (.inr h))
          · exact .inr h

end
end Go.Vl
