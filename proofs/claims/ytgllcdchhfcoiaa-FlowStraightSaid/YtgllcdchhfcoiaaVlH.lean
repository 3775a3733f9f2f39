/- From what a row hands in to trees of values: a law whose function answers true, whatever comes in. -/
import Derived.Test.YtgllcdchhfcoiaaVlG
import Derived.ProofKit
import Derived.SizedLaws
namespace Go.Vl
open Go.RowKit Go.ChangeShapes
variable {P : Program}

def mkAV (P : Program) (t : TypeId) (cs : List AV) : AV :=
  match P.underlying t with
  | some d => bif agD d then .ag cs else cs.headD .any
  | none => .any

/-- Types whose values are told: fields lie one behind the other. -/
def contig (P : Program) : List Field → Nat → Option Nat
  | [], off => some off
  | f :: fs, off => bif Nat.beq f.offset off then contig P fs (off + P.cellsOf f.type) else none
def okTy (P : Program) : Nat → TypeId → Bool
  | 0, _ => false
  | d + 1, t =>
    match P.underlying t with
    | some .bool | some (.int _) | some .string => Nat.beq (P.cellsOf t) 1
    | some (.slice e) => Nat.beq (P.cellsOf t) 1 && (Nat.blt 0 (P.cellsOf e) && okTy P d e)
    | some (.struct fs) => (match contig P fs.toList 0 with | some n => Nat.beq n (P.cellsOf t) | none => false) && fs.toList.all fun f => okTy P d f.type
    | some (.array n e) => Nat.beq (P.cellsOf t) (n * P.cellsOf e) && okTy P d e
    | _ => false

def wtyP (P : Program) (w : TypeId → List AV → Prop) : List TypeId → List AV → Prop
  | [], as => as = []
  | t :: ts, as => ∃ p q, as = p ++ q ∧ w t p ∧ wtyP P w ts q
/-- Cells that a value of the type may have. -/
def wty (P : Program) : Nat → TypeId → List AV → Prop
  | 0, _, _ => False
  | d + 1, t, as =>
    match P.underlying t with
    | some .bool => ∃ b, as = [.v (.bool b)]
    | some (.int k) => ∃ n, as = [.v (.int k n)] ∧ (Lit.int k n).wf = true
    | some .string => ∃ s, as = [.v (.string s)] ∧ s.size ≤ maxLen
    | some (.slice e) => ∃ n f, as = [.sl (P.cellsOf e) n f] ∧ n ≤ maxLen ∧ ∀ i, i < n → ∃ cs, f i = mkAV P e cs ∧ wty P d e cs
    | some (.struct fs) => wtyP P (wty P d) (fs.toList.map (·.type)) as
    | some (.array n e) => wtyP P (wty P d) (List.replicate n e) as
    | _ => False

section
variable {H : Type} {enc : TypeId × Value → H} {w : World} {X : Nat → Nat → Prop} {g : List Nat}

def RepL (w : World) (X : Nat → Nat → Prop) (g : List Nat) (as : List AV) (vs : List Value) : Prop :=
  vs.length = as.length ∧ ∀ (k : Nat) (c : AV) (u : Value), as[k]? = some c → vs[k]? = some u → Rep w X g c u
theorem RepL.append {as bs : List AV} {us vs : List Value} (h : RepL w X g as us) (k : RepL w X g bs vs) : RepL w X g (as ++ bs) (us ++ vs) := by
  refine ⟨by simp [h.1, k.1], fun i c u hc hu => ?_⟩
  rw [List.getElem?_append] at hc hu
  rw [h.1] at hu
  split at hc
  · rename_i hi; rw [if_pos hi] at hu; exact h.2 i c u hc hu
  · rename_i hi; rw [if_neg hi] at hu; exact k.2 _ c u hc hu
theorem RepL.one {a : AV} {u : Value} (h : Rep w X g a u) : RepL w X g [a] [u] := ⟨rfl, fun k c v hc hv => by
  cases k with
  | zero => simp at hc hv; subst hc; subst hv; exact h
  | succ k => simp at hc⟩

theorem fields_wty {n d : Nat} (ih : ∀ (t : TypeId) (cs : List Value) (dat : DataW H) (ps : List MemPlace), okTy P d t = true → DataW.trod enc P w 0 (fun _ => true) true n t cs = some (dat, ps) → cs.length = P.cellsOf t ∧ ∃ as, RepL w X g as cs ∧ wty P d t as) (cs : List Value) :
    ∀ (fs : List Field) (off e : Nat) (xs : List (DataW H × List MemPlace)), contig P fs off = some e → fs.all (fun f => okTy P d f.type) = true →
      fs.mapM (fun f => DataW.trod enc P w 0 (fun _ => true) true n f.type ((cs.drop f.offset).take (P.cellsOf f.type))) = some xs → off ≤ cs.length → 
      e ≤ cs.length ∧ ∃ as, RepL w X g as ((cs.drop off).take (e - off)) ∧ off ≤ e ∧ wtyP P (wty P d) (fs.map (·.type)) as
  | [], off, e, xs, hc, _, _, hle => by
    simp only [contig, Option.some.injEq] at hc
    subst hc
    exact ⟨hle, [], by simp [RepL], Nat.le_refl _, rfl⟩
  | f :: fs, off, e, xs, hc, hok, hm, hle => by
    simp only [contig] at hc
    cases hb : Nat.beq f.offset off with
    | false => simp [hb] at hc
    | true =>
      simp only [hb, cond_true] at hc
      have hoff := Nat.eq_of_beq_eq_true hb
      simp only [List.all_cons, Bool.and_eq_true] at hok
      rw [List.mapM_cons] at hm
      cases h1 : DataW.trod enc P w 0 (fun _ => true) true n f.type ((cs.drop f.offset).take (P.cellsOf f.type)) with
      | none => rw [h1] at hm; cases hm
      | some x =>
        rw [h1] at hm
        cases h2 : fs.mapM (fun f => DataW.trod enc P w 0 (fun _ => true) true n f.type ((cs.drop f.offset).take (P.cellsOf f.type))) with
        | none => rw [h2] at hm; cases hm
        | some ys =>
          obtain ⟨hl, as, ha, hw⟩ := ih f.type _ x.1 x.2 hok.1 h1
          rw [hoff] at hl ha
          have hsz : off + P.cellsOf f.type ≤ cs.length := by
            rw [List.length_take, List.length_drop] at hl; omega
          obtain ⟨he, bs, hb, hle2, hwb⟩ := fields_wty ih cs fs (off + P.cellsOf f.type) e ys hc hok.2 h2 hsz
          refine ⟨he, as ++ bs, ?_, by omega, as, bs, rfl, hw, hwb⟩
          have e0 : e - off = P.cellsOf f.type + (e - (off + P.cellsOf f.type)) := by omega
          have e1 : (cs.drop off).take (e - off) = (cs.drop off).take (P.cellsOf f.type) ++ (cs.drop (off + P.cellsOf f.type)).take (e - (off + P.cellsOf f.type)) := by
            rw [e0, List.take_add, List.drop_drop]
          rw [e1]
          exact ha.append hb

theorem cells?_spec {a : Addr} {n : Nat} {us : List Value} (h : w.cells? 0 a n = some us) : us.length = n ∧ ∀ (k : Nat) (u : Value), us[k]? = some u → w.cell? (a.add k) = some u := by
  unfold World.cells? at h
  simp only [Nat.zero_le, if_true] at h
  have key : ∀ (l : List Nat) (us : List Value), l.mapM (fun i => w.cell? (a.add i)) = some us → us.length = l.length ∧ ∀ (k i : Nat) (u : Value), l[k]? = some i → us[k]? = some u → w.cell? (a.add i) = some u := by
    intro l
    induction l with
    | nil => intro us h; simp at h; subst h; exact ⟨rfl, by simp⟩
    | cons x l ih =>
      intro us h
      rw [List.mapM_cons] at h
      cases h1 : w.cell? (a.add x) with
      | none => rw [h1] at h; cases h
      | some v =>
        rw [h1] at h
        cases h2 : l.mapM (fun i => w.cell? (a.add i)) with
        | none => rw [h2] at h; cases h
        | some vs =>
          rw [h2] at h
          simp at h
          subst h
          obtain ⟨q1, q2⟩ := ih vs h2
          refine ⟨by simp [q1], fun k i u hi hu => ?_⟩
          cases k with
          | zero => simp at hi hu; subst hi; subst hu; exact h1
          | succ k => simp at hi hu; exact q2 k i u hi hu
  obtain ⟨q1, q2⟩ := key _ _ h
  refine ⟨by simpa using q1, fun k u hu => q2 k k u ?_ hu⟩
  have : k < n := by have := (List.getElem?_eq_some_iff.1 hu).1; rw [q1] at this; simpa using this
  simp [this]

theorem mapM_some {α β : Type} {f : α → Option β} : ∀ {l : List α} {ys : List β}, l.mapM f = some ys → ys.length = l.length ∧ ∀ (k : Nat) (x : α), l[k]? = some x → ∃ y, ys[k]? = some y ∧ f x = some y
  | [], ys, h => by simp at h; subst h; exact ⟨rfl, by simp⟩
  | x :: l, ys, h => by
    rw [List.mapM_cons] at h
    cases h1 : f x with
    | none => rw [h1] at h; cases h
    | some y =>
      rw [h1] at h
      cases h2 : l.mapM f with
      | none => rw [h2] at h; cases h
      | some zs =>
        rw [h2] at h
        simp at h
        subst h
        obtain ⟨q1, q2⟩ := mapM_some h2
        refine ⟨by simp [q1], fun k z hk => ?_⟩
        cases k with
        | zero => simp at hk; subst hk; exact ⟨y, rfl, h1⟩
        | succ k => simp at hk; simpa using q2 k z hk

theorem mkAV_cells {d : Nat} {t : TypeId} {as : List AV} (h : wty P d t as) : (mkAV P t as).cells = as := by
  cases d with
  | zero => exact h.elim
  | succ d =>
    unfold wty at h
    unfold mkAV
    cases ht : P.underlying t with
    | none => simp [ht] at h
    | some D =>
      simp only [ht] at h ⊢
      cases D <;> simp only [] at h <;> first | (exact h.elim) | skip
      · obtain ⟨b, rfl⟩ := h; rfl
      · obtain ⟨n, rfl, _⟩ := h; rfl
      · obtain ⟨n, rfl, _⟩ := h; rfl
      · obtain ⟨n, f, rfl, _⟩ := h; rfl
      · rfl
      · rfl

theorem arr_wty {n d : Nat} {e : TypeId} (ih : ∀ (t : TypeId) (cs : List Value) (dat : DataW H) (ps : List MemPlace), okTy P d t = true → DataW.trod enc P w 0 (fun _ => true) true n t cs = some (dat, ps) → cs.length = P.cellsOf t ∧ ∃ as, RepL w X g as cs ∧ wty P d t as) (cs : List Value) (hok : okTy P d e = true) :
    ∀ (m i : Nat) (xs : List (DataW H × List MemPlace)), (List.range' i m).mapM (fun i => DataW.trod enc P w 0 (fun _ => true) true n e ((cs.drop (i * P.cellsOf e)).take (P.cellsOf e))) = some xs → (i + m) * P.cellsOf e ≤ cs.length →
      ∃ as, RepL w X g as ((cs.drop (i * P.cellsOf e)).take (m * P.cellsOf e)) ∧ wtyP P (wty P d) (List.replicate m e) as
  | 0, i, xs, _, _ => ⟨[], by simp [RepL], rfl⟩
  | m + 1, i, xs, hm, hle => by
    rw [List.range'_succ, List.mapM_cons] at hm
    cases h1 : DataW.trod enc P w 0 (fun _ => true) true n e ((cs.drop (i * P.cellsOf e)).take (P.cellsOf e)) with
    | none => rw [h1] at hm; cases hm
    | some x =>
      rw [h1] at hm
      cases h2 : (List.range' (i + 1) m).mapM (fun i => DataW.trod enc P w 0 (fun _ => true) true n e ((cs.drop (i * P.cellsOf e)).take (P.cellsOf e))) with
      | none => rw [h2] at hm; cases hm
      | some ys =>
        obtain ⟨hl, as, ha, hw⟩ := ih e _ x.1 x.2 hok h1
        obtain ⟨bs, hb, hwb⟩ := arr_wty ih cs hok m (i + 1) ys h2 (by rw [Nat.add_right_comm]; exact hle)
        refine ⟨as ++ bs, ?_, as, bs, rfl, hw, hwb⟩
        have e1 : (cs.drop (i * P.cellsOf e)).take ((m + 1) * P.cellsOf e) = (cs.drop (i * P.cellsOf e)).take (P.cellsOf e) ++ (cs.drop ((i + 1) * P.cellsOf e)).take (m * P.cellsOf e) := by
          rw [show (m + 1) * P.cellsOf e = P.cellsOf e + m * P.cellsOf e by rw [Nat.add_mul, Nat.one_mul, Nat.add_comm], List.take_add, List.drop_drop, Nat.add_mul i 1, Nat.one_mul]
        rw [e1]
        exact ha.append hb

/-- What can be read as data reads as a tree of values. -/
theorem trod_rep (hx : ∀ b o, ¬ X b o) : ∀ (n d : Nat) (t : TypeId) (cs : List Value) (dat : DataW H) (ps : List MemPlace), okTy P d t = true → DataW.trod enc P w 0 (fun _ => true) true n t cs = some (dat, ps) →
    cs.length = P.cellsOf t ∧ ∃ as, RepL w X g as cs ∧ wty P d t as
  | 0, _, _, _, _, _, _, h => by simp [DataW.trod] at h
  | n + 1, 0, _, _, _, _, hok, _ => by simp [okTy] at hok
  | n + 1, d + 1, t, cs, dat, ps, hok, h => by
    have ih := fun t cs dat ps hok h => trod_rep hx n d t cs dat ps hok h
    unfold okTy at hok
    unfold wty
    unfold DataW.trod at h
    cases ht : P.underlying t with
    | none => simp [ht] at hok
    | some D =>
      simp only [ht] at hok h ⊢
      cases D <;> simp only [] at hok <;> first | (cases hok; done) | skip
      case bool =>
        have h1 := Nat.eq_of_beq_eq_true hok
        split at h <;> first | (cases h; done) | skip
        all_goals rename_i he
        all_goals first | (cases he; done) | skip
        · exact ⟨by simp [h1], [.v (.bool _)], RepL.one (.v _), _, rfl⟩
      case int k =>
        have h1 := Nat.eq_of_beq_eq_true hok
        split at h <;> first | (cases h; done) | skip
        all_goals rename_i he
        all_goals first | (cases he; done) | skip
        · cases he
          split at h
          · rename_i hk
            obtain ⟨rfl, hwf⟩ := hk
            exact ⟨by simp [h1], [.v (.int _ _)], RepL.one (.v _), _, rfl, hwf⟩
          · cases h
      case string =>
        have h1 := Nat.eq_of_beq_eq_true hok
        split at h <;> first | (cases h; done) | skip
        all_goals rename_i he
        all_goals first | (cases he; done) | skip
        · split at h
          · rename_i hk
            exact ⟨by simp [h1], [.v (.string _)], RepL.one (.v _), _, rfl, hk⟩
          · cases h
      case slice e =>
        simp only [Bool.and_eq_true] at hok
        have h1 := Nat.eq_of_beq_eq_true hok.1
        have hpos := blt_true hok.2.1
        split at h <;> first | (cases h; done) | skip
        all_goals rename_i he
        all_goals first | (cases he; done) | skip
        · cases he
          exact ⟨by simp [h1], [.sl (P.cellsOf e) 0 (fun _ => .any)], RepL.one (.sl0 _ _ _ _), 0, _, rfl, Nat.zero_le _, fun i hi => absurd hi (by omega)⟩
        · cases he
          rename_i a len cap
          refine ⟨by simp [h1], ?_⟩
          split at h
          · rename_i hcond
            cases hm : (List.range len).mapM (fun i => (w.cells? 0 (a.add (i * P.cellsOf e)) (P.cellsOf e)).bind (DataW.trod enc P w 0 (fun _ => true) true n e)) with
            | none => rw [hm] at h; cases h
            | some elems =>
              obtain ⟨hm1, hm2⟩ := mapM_some hm
              have elem : ∀ i, i < len → ∃ us as, us.length = P.cellsOf e ∧ (∀ (k : Nat) (u : Value), us[k]? = some u → w.cell? ((a.add (i * P.cellsOf e)).add k) = some u) ∧ RepL w X g as us ∧ wty P d e as := by
                intro i hi
                obtain ⟨y, _, hy⟩ := hm2 i i (by simp [hi])
                obtain ⟨us, hu, htr⟩ := Option.bind_eq_some_iff.1 hy
                obtain ⟨c1, c2⟩ := cells?_spec hu
                obtain ⟨q1, as, q2, q3⟩ := ih e us y.1 y.2 hok.2.2 htr
                exact ⟨us, as, c1, c2, q2, q3⟩
              by_cases hlen : len = 0
              · subst hlen
                exact ⟨[.sl (P.cellsOf e) 0 (fun _ => .any)], RepL.one (.sl0 _ _ _ _), 0, _, rfl, Nat.zero_le _, fun i hi => absurd hi (by omega)⟩
              · obtain ⟨b, off, spot⟩ := a
                have hspot : spot = none := by
                  obtain ⟨us, as, c1, c2, _, _⟩ := elem 0 (by omega)
                  have := c2 0 us[0] (List.getElem?_eq_getElem (by omega))
                  simp only [Nat.zero_mul] at this
                  have ha : ((⟨b, off, spot⟩ : Addr).add 0).add 0 = ⟨b, off, spot⟩ := rfl
                  rw [ha] at this
                  unfold World.cell? at this
                  split at this
                  · cases spot with
                    | none => rfl
                    | some s => simp at this
                  · cases this
                subst hspot
                have elem' : ∀ i : Fin len, ∃ us as, us.length = P.cellsOf e ∧ (∀ (k : Nat) (u : Value), us[k]? = some u → w.cell? ⟨b, off + i * P.cellsOf e + k, none⟩ = some u) ∧ RepL w X g as us ∧ wty P d e as := fun i => by
                  obtain ⟨us, as, c1, c2, c3, c4⟩ := elem i i.2
                  exact ⟨us, as, c1, fun k u hk => by have := c2 k u hk; rw [add_none, add_none] at this; exact this, c3, c4⟩
                let us : Nat → List Value := fun i => if hi : i < len then Classical.choose (elem' ⟨i, hi⟩) else []
                have hus : ∀ i (hi : i < len), us i = Classical.choose (elem' ⟨i, hi⟩) := fun i hi => by simp [us, hi]
                let as : Nat → List AV := fun i => if hi : i < len then Classical.choose (Classical.choose_spec (elem' ⟨i, hi⟩)) else []
                have has : ∀ i (hi : i < len), as i = Classical.choose (Classical.choose_spec (elem' ⟨i, hi⟩)) := fun i hi => by simp [as, hi]
                have spec : ∀ i, i < len → (us i).length = P.cellsOf e ∧ (∀ (k : Nat) (u : Value), (us i)[k]? = some u → w.cell? ⟨b, off + i * P.cellsOf e + k, none⟩ = some u) ∧ RepL w X g (as i) (us i) ∧ wty P d e (as i) := fun i hi => by
                  rw [hus i hi, has i hi]
                  exact Classical.choose_spec (Classical.choose_spec (elem' ⟨i, hi⟩))
                let vs : List Value := (List.range (len * P.cellsOf e)).map fun k => (w.cell? ⟨b, off + k, none⟩).getD undef
                have hvs : ∀ i j, i < len → j < P.cellsOf e → vs[i * P.cellsOf e + j]? = (us i)[j]? ∧ w.cell? ⟨b, off + (i * P.cellsOf e + j), none⟩ = (us i)[j]? := by
                  intro i j hi hj
                  obtain ⟨s1, s2, _, _⟩ := spec i hi
                  have hju : (us i)[j]? = some (us i)[j] := List.getElem?_eq_getElem (by omega)
                  have hc := s2 j _ hju
                  rw [Nat.add_assoc] at hc
                  have hle : (i + 1) * P.cellsOf e ≤ len * P.cellsOf e := Nat.mul_le_mul_right _ hi
                  rw [Nat.add_mul, Nat.one_mul] at hle
                  have hlt : i * P.cellsOf e + j < len * P.cellsOf e := by omega
                  refine ⟨?_, by rw [hc, hju]⟩
                  simp only [vs, List.getElem?_map, List.getElem?_range hlt, Option.map_some, hc, Option.getD_some, hju]
                refine ⟨[.sl (P.cellsOf e) len (fun i => mkAV P e (as i))], RepL.one ?_, len, _, rfl, by omega, fun i hi => ⟨as i, rfl, (spec i hi).2.2.2⟩⟩
                refine .sl _ _ _ b off cap vs (by simp [vs]) hcond.2.1 (fun k u hk => ⟨?_, hx _ _⟩) (fun i hi => ?_) (fun i j c u hi hj hu => ?_)
                · have hklt : k < len * P.cellsOf e := by simpa [vs] using (List.getElem?_eq_some_iff.1 hk).1
                  have hdm := Nat.div_add_mod k (P.cellsOf e)
                  have hdiv : k / P.cellsOf e < len := by rw [Nat.div_lt_iff_lt_mul hpos]; exact hklt
                  obtain ⟨e1, e2⟩ := hvs (k / P.cellsOf e) (k % P.cellsOf e) hdiv (Nat.mod_lt _ hpos)
                  rw [Nat.mul_comm, hdm] at e1 e2
                  rw [e2, ← e1]; exact hk
                · rw [mkAV_cells (spec i hi).2.2.2, ← (spec i hi).2.2.1.1, (spec i hi).1]
                · rw [mkAV_cells (spec i hi).2.2.2] at hj
                  have hjl : j < P.cellsOf e := by rw [← (spec i hi).1, (spec i hi).2.2.1.1]; exact (List.getElem?_eq_some_iff.1 hj).1
                  rw [(hvs i j hi hjl).1] at hu
                  exact (spec i hi).2.2.1.2 j c u hj hu
          · cases h
      case array m e =>
        simp only [Bool.and_eq_true] at hok
        have h1 := Nat.eq_of_beq_eq_true hok.1
        change (if cs.length = P.cellsOf t then ((List.range m).mapM fun i => DataW.trod enc P w 0 (fun _ => true) true n e ((cs.drop (i * P.cellsOf e)).take (P.cellsOf e))).map (fun xs => (DataW.agg (xs.map (·.1)), xs.flatMap (·.2))) else none) = some (dat, ps) at h
        split at h
        · rename_i hcl
          cases hm : (List.range m).mapM (fun i => DataW.trod enc P w 0 (fun _ => true) true n e ((cs.drop (i * P.cellsOf e)).take (P.cellsOf e))) with
          | none => rw [hm] at h; cases h
          | some xs =>
            rw [List.range_eq_range'] at hm
            obtain ⟨as, q1, q2⟩ := arr_wty ih cs hok.2 m 0 xs hm (by rw [Nat.zero_add]; omega)
            refine ⟨hcl, as, ?_, q2⟩
            rw [Nat.zero_mul, List.drop_zero, ← h1, ← hcl, List.take_length] at q1
            exact q1
        · cases h
      case struct fs =>
        simp only [Bool.and_eq_true] at hok
        change (if cs.length = P.cellsOf t then (fs.toList.mapM fun f => DataW.trod enc P w 0 (fun _ => true) true n f.type ((cs.drop f.offset).take (P.cellsOf f.type))).map (fun xs => (DataW.agg (xs.map (·.1)), xs.flatMap (·.2))) else none) = some (dat, ps) at h
        split at h
        · rename_i hcl
          cases hm : fs.toList.mapM (fun f => DataW.trod enc P w 0 (fun _ => true) true n f.type ((cs.drop f.offset).take (P.cellsOf f.type))) with
          | none => rw [hm] at h; cases h
          | some xs =>
            cases hcg : contig P fs.toList 0 with
            | none => rw [hcg] at hok; cases hok.1
            | some m =>
              rw [hcg] at hok
              have h1 := Nat.eq_of_beq_eq_true hok.1
              obtain ⟨q0, as, q1, _, q2⟩ := fields_wty ih cs fs.toList 0 m xs hcg hok.2 hm (Nat.zero_le _)
              refine ⟨hcl, as, ?_, q2⟩
              rw [List.drop_zero, Nat.sub_zero, h1, ← hcl, List.take_length] at q1
              exact q1
        · cases h

def WtyAll (P : Program) (d : Nat) : List TypeId → List AV → Prop
  | [], [] => True
  | t :: ts, a :: as => (∃ cs, a = mkAV P t cs ∧ wty P d t cs) ∧ WtyAll P d ts as
  | _, _ => False

theorem rep_mkAV {r : Reach} {base d : Nat} {t : TypeId} {v : Value} {as : List AV} (hok : Value.okWide P w r base t v) (hr : RepL w X g as v.cells.toList) (hw : wty P d t as) : Rep w X g (mkAV P t as) v := by
  cases d with
  | zero => exact hw.elim
  | succ d =>
    unfold wty at hw
    unfold mkAV
    unfold Value.okWide Cell.okWide Cell.ok at hok
    have one : ∀ {a : AV}, as = [a] → (∀ cs, v ≠ .agg cs) → Rep w X g a v := by
      intro a ha hn
      subst ha
      have hc : v.cells.toList = [v] := by cases v <;> first | rfl | exact absurd rfl (hn _)
      rw [hc] at hr
      exact hr.2 0 a v rfl rfl
    cases ht : P.underlying t with
    | none => simp [ht] at hw
    | some D =>
      simp only [ht] at hw hok ⊢
      cases D <;> simp only [] at hw <;> first | (exact hw.elim) | skip
      · obtain ⟨b, rfl⟩ := hw
        exact one rfl (fun cs h => by subst h; simp at hok)
      · obtain ⟨n, rfl, _⟩ := hw
        exact one rfl (fun cs h => by subst h; simp at hok)
      · obtain ⟨n, rfl, _⟩ := hw
        exact one rfl (fun cs h => by subst h; simp at hok)
      · obtain ⟨n, f, rfl, _⟩ := hw
        exact one rfl (fun cs h => by subst h; simp at hok)
      · obtain ⟨cs, rfl, _⟩ := hok
        have := Rep.ag (w := w) (X := X) (g := g) as cs.toList hr.1 hr.2
        simpa [agD] using this
      · obtain ⟨cs, rfl, _⟩ := hok
        have := Rep.ag (w := w) (X := X) (g := g) as cs.toList hr.1 hr.2
        simpa [agD] using this

theorem trodAll_rep {d base : Nat} {r : Reach} (hx : ∀ b o, ¬ X b o) : ∀ (ts : List TypeId) (vs : List Value) (ds : List (DataW H)) (ps : List MemPlace), ts.all (okTy P d) = true → DataW.TrodAll enc P w 0 (fun _ => true) true ts vs ds ps →
    (∀ (j : Nat) (t : TypeId) (v : Value), ts[j]? = some t → vs[j]? = some v → Value.okWide P w r base t v) → ∃ as, vs.length = as.length ∧ WtyAll P d ts as ∧ ∀ (k : Nat) (c : AV) (u : Value), as[k]? = some c → vs[k]? = some u → Rep w X g c u
  | [], [], [], _, _, _, _ => ⟨[], rfl, trivial, by simp⟩
  | t :: ts, v :: vs, x :: ds, ps, hok, h, hv => by
    obtain ⟨p, q, ⟨n, h1⟩, h2, _⟩ := h
    simp only [List.all_cons, Bool.and_eq_true] at hok
    obtain ⟨as, q1, q2, q3⟩ := trodAll_rep hx ts vs ds q hok.2 h2 (fun j t v hj hj' => hv (j + 1) t v (by simpa using hj) (by simpa using hj'))
    obtain ⟨_, cs, q4, q5⟩ := trod_rep (X := X) (g := g) hx n d t _ x p hok.1 h1
    refine ⟨mkAV P t cs :: as, by simp [q1], ⟨⟨cs, rfl, q5⟩, q2⟩, fun k c u hc hu => ?_⟩
    cases k with
    | zero => simp at hc hu; subst hc; subst hu; exact rep_mkAV (hv 0 t v rfl rfl) q4 q5
    | succ k => simp at hc hu; exact q3 k c u hc hu
  | [], _ :: _, _, _, _, h, _ => h.elim
  | [], [], _ :: _, _, _, h, _ => h.elim
  | _ :: _, [], _, _, _, h, _ => h.elim
  | _ :: _, _ :: _, [], _, _, h, _ => h.elim

/-- A law whose function answers true, whatever comes in. -/
theorem law_calls {f : FuncId} {fn : Func} {args : Array Value} {ds : List (DataW H)} {ps : List MemPlace} {d base : Nat} {r : Reach} (hok : fn.params.toList.all (okTy P d) = true)
    (hval : ∀ (j : Nat) (t : TypeId) (v : Value), fn.params[j]? = some t → args[j]? = some v → Value.okWide P w r base t v) (hA : DataW.TrodAll enc P w 0 (fun _ => true) true fn.params.toList args.toList ds ps)
    (hlaw : ∀ as : List AV, WtyAll P d fn.params.toList as → PCall P f as (fun r => r = .v (.bool true))) :
    Calls P f args w fun e w' => e = .returned (.bool true) ∧ Below w.heap.size w w' := by
  have hX : ∀ b o, ¬ excl none2 [] ⟨[], [], 0, 0⟩ b o := by
    rintro b o (h | ⟨p, hp, _⟩ | ⟨p, hp, _⟩)
    · exact h
    · cases hp
    · cases hp
  obtain ⟨as, q1, q2, q3⟩ := trodAll_rep (X := excl none2 [] ⟨[], [], 0, 0⟩) (g := []) (base := base) (r := r) hX _ _ _ _ hok hA (fun j t v hj hj' => hval j t v (by simpa using hj) (by simpa using hj'))
  obtain ⟨_, hc⟩ := hlaw as q2 0
  have := hc none2 w [] args.toList ⟨by simp, by simp, by simp [Heap.ids], rfl, fun b o hx => absurd hx (hX b o)⟩ (fun b o h => h.elim) q1 q3
  rw [Array.toArray_toList] at this
  refine this.mono fun e w' ⟨r, h', g', a6, q, _, _, _, a7, _⟩ => ?_
  cases r with
  | pan x => exact q.elim
  | ret r =>
  obtain ⟨a2, _, _⟩ := q
  obtain ⟨u, a1, a6⟩ := a6
  subst a2
  cases a6
  exact ⟨a1, (a7.mono fun b o _ hx => (hX b o hx).elim).below⟩

theorem below_trodAll (hl : laidOutB P = true) {W W' : World} (hb : Below W.heap.size W W') : ∀ {ts : List TypeId} {vs : List Value} {ds : List (DataW H)} {ps : List MemPlace},
    (∀ t ∈ ts, P.readableRec t = true ∧ t < P.types.size) → DataW.TrodAll enc P W 0 (fun _ => true) true ts vs ds ps → DataW.TrodAll enc P W' 0 (fun b => decide (b < W.heap.size)) true ts vs ds ps
  | [], [], [], _, _, h => h
  | t :: ts, v :: vs, x :: ds, ps, hr, h => by
    have hlt := h.lt
    obtain ⟨p, q, h1, h2, rfl⟩ := h
    obtain ⟨r1, r2⟩ := hr t (by simp)
    exact ⟨p, q, Below.trod hl r1 r2 h1 hb (fun x hx => hlt x (List.mem_append_left _ hx)), below_trodAll hl hb (fun t ht => hr t (List.mem_cons_of_mem _ ht)) h2, rfl⟩
  | [], _ :: _, _, _, _, h => h.elim
  | [], [], _ :: _, _, _, h => h.elim
  | _ :: _, [], _, _, _, h => h.elim
  | _ :: _, _ :: _, [], _, _, h => h.elim

theorem law_post {s : ChangeSpec} {fn : Func} {args : Array Value} {ds gs : List (DataW H)} {ps : List MemPlace} {tb : TypeId} {W W' : World} (hvars : s.vars = []) (hres : fn.resultTypes = #[tb]) (htb : P.underlying tb = some .bool)
    (hfn : ∀ ds : List (DataW H), ds.length = fn.params.toList.length → (s.fn H (ds ++ [])).results = [.lit (.bool true)] ∧ (s.fn H (ds ++ [])).args = ds ∧ (s.fn H (ds ++ [])).vars = [])
    (hw : DataW.Whole enc P fn.params.toList s.vars false W args.toList ds gs ps) (hl : laidOutB P = true) (hr : ∀ t ∈ fn.params.toList, P.readableRec t = true ∧ t < P.types.size)
    (hb : Below W.heap.size W W') : s.post enc P fn false true false false W args (.bool true) W' := by
  have hw' := hw
  obtain ⟨p, q, h1, h2, rfl, h3, h4⟩ := hw
  rw [hvars] at h2
  obtain ⟨rfl, rfl⟩ : gs = [] ∧ q = [] := by
    cases gs with
    | nil => exact ⟨rfl, h2⟩
    | cons _ _ => exact h2.elim
  have hlen : ds.length = fn.params.toList.length := by
    have : ∀ {ts : List TypeId} {vs : List Value} {ds : List (DataW H)} {ps : List MemPlace}, DataW.TrodAll enc P W 0 (fun _ => true) true ts vs ds ps → ds.length = ts.length := by
      intro ts
      induction ts with
      | nil => intro vs ds ps h; cases vs <;> cases ds <;> first | rfl | exact h.elim
      | cons t ts ih =>
        intro vs ds ps h
        cases vs with
        | nil => exact h.elim
        | cons v vs =>
          cases ds with
          | nil => exact h.elim
          | cons x ds => obtain ⟨p, q, _, h2, _⟩ := h; simp [ih h2]
    exact this h1
  obtain ⟨f1, f2, f3⟩ := hfn ds hlen
  refine ⟨ds, [], p ++ [], [], p, [], hw', ?_, ?_, ?_, hb.frame _, fun h => by cases h⟩
  · rw [f1, hres]
    exact trodAll_mk1 (shut_bool htb true)
  · rw [f2]
    exact below_trodAll hl hb hr h1
  · rw [f3, hvars]; rfl
end
end Go.Vl
