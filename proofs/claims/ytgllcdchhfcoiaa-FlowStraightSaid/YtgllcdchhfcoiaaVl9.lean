/- From the table to regions. -/
import Derived.Test.YtgllcdchhfcoiaaVlE
namespace Go.Vl
open Go.RowKit
variable {P : Program}

theorem run_value {s : Sem Value} {w w' : World} {u : Value} (h : s.run P w = .ok u w') : (do pure (Next.value (← s)) : Sem Next).run P w = .ok (.value u) w' := by
  simp [h]

theorem yields_of {o : Oper} {E : Env} {r : AV} (hd : ∀ c, o.op ≠ .defer c) (h : ∀ (ρ : Operand → Value) (w : World) (X : Nat → Nat → Prop) (g : List Nat), HOk w (excl X g E.h) g E.h →
    (∀ x ∈ o.op.operands, Rep w (excl X g E.h) g (E.ev x) (ρ x)) → ∃ u w', (execOp ρ o).run P w = .ok (.value u) w' ∧ Evo none2 w w' ∧ Rep w' (excl X g E.h) g r u) : Yields P o E r :=
  ⟨hd, fun ρ w X g hk hx => .inl (h ρ w X g hk hx)⟩

theorem gives_yields {s : Sem Value} {h : Heap} {w : World} {X : Nat → Nat → Prop} {g : List Nat} {r : AV} (hg : Gives P s h w X g r) :
    ∃ u w', (do pure (Next.value (← s)) : Sem Next).run P w = .ok (.value u) w' ∧ Evo none2 w w' ∧ Rep w' X g r u :=
  let ⟨u, w', h1, h2, h3⟩ := hg; ⟨u, w', run_value h1, h2, h3⟩

theorem reps_map {w : World} {X : Nat → Nat → Prop} {g : List Nat} {E : Env} {ρ : Operand → Value} {xs : List Operand} (hx : ∀ x ∈ xs, Rep w X g (E.ev x) (ρ x)) :
    ∀ (k : Nat) (c : AV) (u : Value), (xs.map E.ev)[k]? = some c → (xs.map ρ)[k]? = some u → Rep w X g c u := by
  intro k c u h1 h2
  rw [List.getElem?_map] at h1 h2
  cases hk : xs[k]? with
  | none => simp [hk] at h1
  | some x =>
    simp only [hk, Option.map_some, Option.some.injEq] at h1 h2
    subst h1; subst h2
    exact hx x (List.mem_of_getElem? hk)

theorem parts_map {w : World} {X : Nat → Nat → Prop} {g : List Nat} {E : Env} {ρ : Operand → Value} {ps : List (Nat × Operand)} (hx : ∀ p ∈ ps, Rep w X g (E.ev p.2) (ρ p.2)) :
    ∀ (k i : Nat) (a : AV) (j : Nat) (u : Value), (ps.map fun p => (p.1, E.ev p.2))[k]? = some (i, a) → (ps.map fun p => (p.1, ρ p.2))[k]? = some (j, u) → i = j ∧ Rep w X g a u := by
  intro k i a j u h1 h2
  rw [List.getElem?_map] at h1 h2
  cases hk : ps[k]? with
  | none => simp [hk] at h1
  | some p =>
    simp only [hk, Option.map_some, Option.some.injEq, Prod.mk.injEq] at h1 h2
    obtain ⟨rfl, rfl⟩ := h1
    obtain ⟨rfl, rfl⟩ := h2
    exact ⟨rfl, hx p (List.mem_of_getElem? hk)⟩

theorem apure_sound {o : Oper} {E : Env} {C : Option Prop} {r : AV} (h : apure P o.op E = some (C, r)) (hc : condP C) : Yields P o E r := by
  refine yields_of (fun c hd => by rw [hd] at h; simp [apure] at h) fun ρ w X g hk hx => ?_
  obtain ⟨dst, op, type, pos, after, guard⟩ := o
  have same : ∀ {x : Operand}, x ∈ op.operands → r = E.ev x → ∃ u w', (pure (Next.value (ρ x)) : Sem Next).run P w = .ok (.value u) w' ∧ Evo none2 w w' ∧ Rep w' (excl X g E.h) g r u := by
    intro x hm hr; subst hr
    exact ⟨ρ x, w, rfl, Evo.refl _ _, hx x hm⟩
  cases op <;> simp only [apure] at h <;> first | (cases h; done) | skip
  case move x => cases h; exact same (by simp [Op.operands]) rfl
  case assign x => cases h; exact same (by simp [Op.operands]) rfl
  case pick c a b =>
    split at h <;> first | (cases h; done) | skip
    rename_i t ht
    cases h
    have h1 := hx c (by simp [Op.operands])
    rw [ht] at h1
    have h2 := rep_v h1
    simp only [execOp, h2, asBool, pure_bind]
    cases t
    · exact ⟨ρ b, w, rfl, Evo.refl _ _, hx b (by simp [Op.operands])⟩
    · exact ⟨ρ a, w, rfl, Evo.refl _ _, hx a (by simp [Op.operands])⟩
  case build t parts =>
    have := abuild_sound (P := P) (h := E.h) (w := w) (X := excl X g E.h) (g := g) (us := parts.toList.map fun p => (p.1, ρ p.2)) h (by simp) (parts_map fun p hp => hx p.2 (by simp only [Op.operands]; rw [List.mem_toArray]; exact List.mem_map.2 ⟨p, hp, rfl⟩))
    have e : (parts.toList.map fun p => (p.1, ρ p.2)).toArray = parts.map fun (i, x) => (i, ρ x) := by apply Array.ext'; simp
    rw [e] at this
    exact gives_yields this
  case buildSlice t n parts =>
    have := abuildSlice_sound (P := P) (h := E.h) (w := w) (X := excl X g E.h) (g := g) (us := parts.toList.map fun p => (p.1, ρ p.2)) h hk (by simp) (parts_map fun p hp => hx p.2 (by simp only [Op.operands]; rw [List.mem_toArray]; exact List.mem_map.2 ⟨p, hp, rfl⟩))
    have e : (parts.toList.map fun p => (p.1, ρ p.2)).toArray = parts.map fun (i, x) => (i, ρ x) := by apply Array.ext'; simp
    rw [e] at this
    exact gives_yields this
  case load t x => exact gives_yields (aload_sound h hc hk (hx x (by simp [Op.operands])))
  case nilCheck x =>
    obtain ⟨h1, h2⟩ := anil_sound (P := P) h (hx x (by simp [Op.operands]))
    subst h1
    exact ⟨ρ x, w, h2, Evo.refl _ _, hx x (by simp [Op.operands])⟩
  case binOp op t x y yt => exact gives_yields (abin_sound (h := E.h) h hc (hx x (by simp [Op.operands])) (hx y (by simp [Op.operands])) x y)
  case unOp op t x => exact gives_yields (aun_sound (h := E.h) h (hx x (by simp [Op.operands])))
  case convert s d x => exact gives_yields (aconv_sound (h := E.h) h (hx x (by simp [Op.operands])))
  case makeInterface t x =>
    cases hb : P.concrete t with
    | false => simp [hb] at h
    | true =>
      simp only [hb, cond_true, Option.some.injEq, Prod.mk.injEq] at h
      obtain ⟨_, rfl⟩ := h
      exact gives_yields (h := E.h) (gives_same (run_makeInterface w t (ρ x) hb) (.ifc _ _ _ (hx x (by simp [Op.operands]))))
  case makeFunc fn first caps =>
    simp only [Option.some.injEq, Prod.mk.injEq] at h
    obtain ⟨_, rfl⟩ := h
    refine gives_yields (h := E.h) (gives_same (u := .func fn (first.map ρ) (caps.map ρ)) (by simp [Instr.makeFunc]) ?_)
    have := Rep.fn (w := w) (X := excl X g E.h) (g := g) fn (first.toList.map E.ev) (caps.toList.map E.ev) (first.toList.map ρ) (caps.toList.map ρ) (by simp) (by simp)
      (reps_map fun x hm => hx x (by simp only [Op.operands]; exact Array.mem_append_left _ (Array.mem_toList_iff.1 hm)))
      (reps_map fun x hm => hx x (by simp only [Op.operands]; exact Array.mem_append_right _ (Array.mem_toList_iff.1 hm)))
    have e1 : (first.toList.map ρ).toArray = first.map ρ := by apply Array.ext'; simp
    have e2 : (caps.toList.map ρ).toArray = caps.map ρ := by apply Array.ext'; simp
    rw [e1, e2] at this
    exact this
  case slice t x lo hi mx =>
    refine gives_yields (aslice_sound (P := P) (h := E.h) h hc (hx x (by simp [Op.operands])) (vlo := lo.map ρ) (vhi := hi.map ρ) (vmx := mx.map ρ) ?_ ?_ ?_ ?_ ?_ ?_)
    · intro a ha
      cases lo with
      | none => simp at ha
      | some y => simp at ha; subst ha; exact ⟨ρ y, rfl, hx y (by simp [Op.operands])⟩
    · intro ha; simp at ha; subst ha; rfl
    · intro a ha
      cases hi with
      | none => simp at ha
      | some y => simp at ha; subst ha; exact ⟨ρ y, rfl, hx y (by simp [Op.operands])⟩
    · intro ha; simp at ha; subst ha; rfl
    · intro a ha
      cases mx with
      | none => simp at ha
      | some y => simp at ha; subst ha; exact ⟨ρ y, rfl, hx y (by simp [Op.operands])⟩
    · intro ha; simp at ha; subst ha; rfl
  case fieldAddr t x f => exact gives_yields (afieldAddr_sound (h := E.h) h (hx x (by simp [Op.operands])))
  case field t x f => exact gives_yields (afield_sound (h := E.h) h (hx x (by simp [Op.operands])))
  case indexAddr t x ix => exact gives_yields (aindexAddr_sound (h := E.h) h hc (hx x (by simp [Op.operands])) (hx ix (by simp [Op.operands])))
  case lookup t x ix ok =>
    obtain ⟨u, h1, h2⟩ := alookup_sound h hc hk (hx x (by simp [Op.operands])) (hx ix (by simp [Op.operands]))
    exact gives_yields (h := E.h) (gives_same h1 h2)
  case index t x ix => exact gives_yields (aindex_sound (h := E.h) h hc (hx x (by simp [Op.operands])) (hx ix (by simp [Op.operands])))
  case extract t ix =>
    split at h <;> first | (cases h; done) | skip
    rename_i cs ht
    obtain ⟨h1, _⟩ := pureO_eq h
    have h2 := hx t (by simp [Op.operands])
    rw [ht] at h2
    generalize hu : ρ t = u at h2
    cases h2 with
    | tup _ vs hn hr =>
      have hlt : ix < vs.length := by rw [hn]; exact (List.getElem?_eq_some_iff.1 h1).1
      refine gives_yields (h := E.h) (gives_same (u := vs[ix]) ?_ (hr ix r _ h1 (List.getElem?_eq_getElem hlt)))
      rw [hu]
      simp [Instr.extract, hlt]
  case call c =>
    obtain ⟨callee, args, tys⟩ := c
    cases callee <;> simp only [] at h <;> first | (cases h; done) | skip
    rename_i b
    obtain ⟨u, h1, h2⟩ := abuiltin_sound (P := P) (w := w) (X := excl X g E.h) (g := g) (ty := type) (cs := args.map fun | .const _ => true | _ => false) (us := args.map ρ) h (by simp) (by
      rw [Array.toList_map]
      exact reps_map fun x hm => hx x (by simp only [Op.operands, Call.operands]; exact Array.mem_append_right _ (Array.mem_toList_iff.1 hm)))
    refine ⟨u, w, ?_, Evo.refl _ _, h2⟩
    simp only [execOp, resolve, pure_bind, invoke]
    exact h1

def condK (C : Option Prop) (K : Prop) : Prop :=
  match C with
  | none => K
  | some c => c ∧ K
theorem condK_use {C : Option Prop} {K : Prop} (h : condK C K) : condP C ∧ K := by
  cases C with
  | none => exact ⟨trivial, h⟩
  | some c => exact h

/-- The cells of a slice that is built. -/
def abuildCells (P : Program) (t : TypeId) (n : Nat) (parts : List (Nat × AV)) : Option (TypeId × List AV) :=
  match P.underlying t with
  | some (.slice e) =>
    match P.underlying e, zrow P e (n * P.cellsOf e) with
    | some _, some cs => bif Nat.ble (n * P.cellsOf e) 16777216 && Nat.blt 0 (P.cellsOf e) then
        (match afill (fun i => some (i * P.cellsOf e, P.cellsOf e)) cs parts with
        | some out => bif Nat.beq out.length (n * P.cellsOf e) && oneOk P e out then some (e, out) else none
        | none => none) else none
    | _, _ => none
  | _ => none
theorem abuildCells_spec {t : TypeId} {n : Nat} {parts : List (Nat × AV)} {e : TypeId} {out : List AV} (h : abuildCells P t n parts = some (e, out)) :
    abuildSlice P t n parts = some (none, .os (P.cellsOf e) n (aelem P e out) none) := by
  unfold abuildCells at h
  unfold abuildSlice
  cases ht : P.underlying t with
  | none => simp [ht] at h
  | some D =>
    cases D <;> simp only [ht] at h <;> first | (cases h; done) | skip
    rename_i e'
    cases hd : P.underlying e' with
    | none => simp [hd] at h
    | some d =>
      cases hz : zrow P e' (n * P.cellsOf e') with
      | none => simp [hd, hz] at h
      | some cs =>
        simp only [hd, hz] at h
        cases hb : (Nat.ble (n * P.cellsOf e') 16777216 && Nat.blt 0 (P.cellsOf e')) with
        | false => simp [hb] at h
        | true =>
          cases ho : afill (fun i => some (i * P.cellsOf e', P.cellsOf e')) cs parts with
          | none => simp [hb, ho] at h
          | some out' =>
            cases hb2 : (Nat.beq out'.length (n * P.cellsOf e') && oneOk P e' out') with
            | false => simp [hb, ho, hb2] at h
            | true =>
              simp only [hb, ho, hb2, cond_true, Option.some.injEq, Prod.mk.injEq] at h
              obtain ⟨rfl, rfl⟩ := h
              simp [hd, hz, hb, ho, hb2]

def apureK (P : Program) (o : Oper) (E : Env) (K : AV → Prop) (other : Prop) : Prop :=
  match o.op with
  | .buildSlice t n parts => match abuildCells P t n (parts.toList.map fun p => (p.1, E.ev p.2)) with
    | some (e, out) => forceL out fun out => K (.os (P.cellsOf e) n (aelem P e out) none)
    | none => False
  | _ => match apure P o.op E with
    | some (C, r) => condK C (splitO o.op r K)
    | none => other
theorem apureK_use {o : Oper} {E : Env} {K : AV → Prop} {other : Prop} (h : apureK P o E K other) : (∃ r, Yields P o E r ∧ K r) ∨ other := by
  unfold apureK at h
  split at h
  · rename_i t n parts ho
    split at h
    · rename_i e out hc
      exact .inl ⟨_, apure_sound (C := none) (by rw [ho]; simp only [apure]; exact abuildCells_spec hc) trivial, forceL_use h⟩
    · exact h.elim
  · split at h
    · rename_i C r hp
      obtain ⟨q1, q2⟩ := condK_use h
      exact .inl ⟨r, apure_sound hp q1, splitO_use q2⟩
    · exact .inr h

/-- Operations of a region that draws, one behind the other: each only yields. -/
def aQ (P : Program) (ops : Array Oper) : List Oper → Env → (Env → Prop) → Prop
  | [], E, K => K E
  | o :: l, E, K =>
    let go : Prop := apureK P o E (fun r => aQ P ops l (E.set o.dst r) K) (∃ r, Yields P o E r ∧ splitO o.op r fun r => aQ P ops l (E.set o.dst r) K)
    match o.guard with
    | none => go
    | some (j, want) => match agb (agd ops E j) with
      | some (some c) => bif (c == want) then go else aQ P ops l (E.set o.dst (.v undef)) K
      | some none => aQ P ops l (E.set o.dst (.v undef)) K
      | none => False

/-- Operations one behind the other. -/
def aK (P : Program) (ops : Array Oper) : List Oper → Env → (Env → Prop) → (AV → Env → Prop) → Prop
  | [], E, K, _ => K E
  | o :: l, E, K, Kp =>
    let go : Prop := apureK P o E (fun r => aK P ops l (E.set o.dst r) K Kp) (aheap P o E (fun E' => aK P ops l E' K Kp) Kp)
    match o.guard with
    | none => go
    | some (j, want) => match agb (agd ops E j) with
      | some (some c) => bif (c == want) then go else aK P ops l (E.set o.dst (.v undef)) K Kp
      | some none => aK P ops l (E.set o.dst (.v undef)) K Kp
      | none => False

theorem AOp.of_yields {o : Oper} {E : Env} {r : AV} {K : Env → Prop} {Kp : AV → Env → Prop} (hy : Yields P o E r) (hk : K (E.set o.dst r)) : AOp P o E K Kp :=
  fun ro X M w0 a w g hs next Q hn _ => hy.wp hs fun a' w' hs' => hn _ a' w' g hk (fun _ _ h => h) hs'

theorem aQ_run {ops : Array Oper} {K : Env → Prop} : ∀ (l : List Oper) (k : Nat) (E : Env), (∀ j, l[j]? = ops[k + j]? ∨ l.length ≤ j) → aQ P ops l E K → ∃ E', RunL P ops (List.range' k l.length) E E' ∧ K E'
  | [], k, E, _, h => ⟨E, rfl, h⟩
  | o :: l, k, E, hl, h => by
    have h0 : ops[k]? = some o := by
      rcases hl 0 with h | h
      · simpa using h.symm
      · simp at h
    have hl' : ∀ j, l[j]? = ops[k + 1 + j]? ∨ l.length ≤ j := fun j => by
      have := hl (j + 1)
      simp only [List.getElem?_cons_succ, List.length_cons] at this
      rcases this with h | h
      · left; rw [h]; congr 1; omega
      · right; omega
    have fin : ∀ {r : AV}, GY P ops o E r → aQ P ops l (E.set o.dst r) K → ∃ E', RunL P ops (List.range' k (o :: l).length) E E' ∧ K E' := by
      intro r hy hk
      obtain ⟨E', h1, h2⟩ := aQ_run l (k + 1) _ hl' hk
      exact ⟨E', by rw [List.length_cons, List.range'_succ]; exact ⟨o, r, h0, hy, h1⟩, h2⟩
    have go : apureK P o E (fun r => aQ P ops l (E.set o.dst r) K) (∃ r, Yields P o E r ∧ splitO o.op r fun r => aQ P ops l (E.set o.dst r) K) → ∃ r, Yields P o E r ∧ aQ P ops l (E.set o.dst r) K := by
      intro hg
      rcases apureK_use hg with hg | hg
      · exact hg
      · obtain ⟨r, q1, q2⟩ := hg
        exact ⟨r, q1, splitO_use q2⟩
    simp only [aQ] at h
    cases hgd : o.guard with
    | none =>
      simp only [hgd] at h
      obtain ⟨r, q1, q2⟩ := go h
      exact fin (by unfold GY; simp only [hgd]; exact q1) q2
    | some p =>
      obtain ⟨j, want⟩ := p
      simp only [hgd] at h
      split at h
      · rename_i c hc
        cases hb : (c == want) with
        | true =>
          simp only [hb, cond_true] at h
          obtain ⟨r, q1, q2⟩ := go h
          exact fin (by unfold GY; simp only [hgd]; exact ⟨some c, hc, .inl ⟨by simpa using hb, q1⟩⟩) q2
        | false =>
          simp only [hb, cond_false] at h
          exact fin (r := .v undef) (by unfold GY; simp only [hgd]; exact ⟨some c, hc, .inr ⟨by simpa using hb, trivial⟩⟩) h
      · rename_i hc
        exact fin (r := .v undef) (by unfold GY; simp only [hgd]; exact ⟨none, hc, .inr ⟨by simp, trivial⟩⟩) h
      · exact h.elim

theorem aK_sound {ops : Array Oper} {K : Env → Prop} {Kp : AV → Env → Prop} {ro : Option Nat} {X M : Nat → Nat → Prop} {w0 : World} {g0 : List Nat} {Q : Exit → Act → World → Prop}
    (hQ : ∀ E a w g, K E → (∀ (i b : Nat), g0[i]? = some b → g[i]? = some b) → St ro X M w0 E a w g → Q .normal a w)
    (hP : ∀ x E a w g v, Kp x E → (∀ (i b : Nat), g0[i]? = some b → g[i]? = some b) → St ro X M w0 E a w g → Rep w (excl X g E.h) g x v → Q (.panic [{ v, recovered := false }]) a w) : ∀ (l : List Oper) (k : Nat) (E : Env) (a : Act) (w : World) (g : List Nat),
    (∀ j, l[j]? = ops[k + j]? ∨ l.length ≤ j) → (∀ (i b : Nat), g0[i]? = some b → g[i]? = some b) → St ro X M w0 E a w g → aK P ops l E K Kp → wpOpsIn (Fr ro) 0 P ops Q (List.range' k l.length) a w
  | [], k, E, a, w, g, _, hg, hs, h => hQ E a w g h hg hs
  | o :: l, k, E, a, w, g, hl, hg, hs, h => by
    have h0 : ops[k]? = some o := by
      rcases hl 0 with h | h
      · simpa using h.symm
      · simp at h
    have hl' : ∀ j, l[j]? = ops[k + 1 + j]? ∨ l.length ≤ j := fun j => by
      have := hl (j + 1)
      simp only [List.getElem?_cons_succ, List.length_cons] at this
      rcases this with h | h
      · left; rw [h]; congr 1; omega
      · right; omega
    rw [List.length_cons, List.range'_succ, wpOpsIn_cons]
    have go : apureK P o E (fun r => aK P ops l (E.set o.dst r) K Kp) (aheap P o E (fun E' => aK P ops l E' K Kp) Kp) → AOp P o E (fun E' => aK P ops l E' K Kp) Kp := by
      intro hg
      rcases apureK_use hg with ⟨r, q1, q2⟩ | hg
      · exact AOp.of_yields q1 q2
      · exact aheap_sound hg
    have run : AOp P o E (fun E' => aK P ops l E' K Kp) Kp → o.wpIn (Fr ro) 0 P a w (wpOpsIn (Fr ro) 0 P ops Q (List.range' (k + 1) l.length)) Q := fun ha =>
      ha ro X M w0 a w g hs _ _ (fun E' a' w' g' hk' hg' hs' => aK_sound hQ hP l (k + 1) E' a' w' g' hl' (fun i b hi => hg' i b (hg i b hi)) hs' hk') (fun x E' a' w' g' v hk' hg' hs' hr' => hP x E' a' w' g' v hk' (fun i b hi => hg' i b (hg i b hi)) hs' hr')
    simp only [aK] at h
    unfold wpOpIn
    simp only [h0]
    cases hgd : o.guard with
    | none =>
      simp only [hgd] at h
      simp only [Region.wanted, hgd, if_true]
      exact run (go h)
    | some p =>
      obtain ⟨j, want⟩ := p
      simp only [hgd] at h
      split at h
      · rename_i c hc
        have hy := agd_spec hc hs
        simp only [Region.wanted, hgd, hy]
        cases hb : (c == want) with
        | true =>
          simp only [hb, cond_true] at h
          have : (some c == some want) = true := by simpa using hb
          simp only [this, if_true]
          exact run (go h)
        | false =>
          simp only [hb, cond_false] at h
          have : (some c == some want) = false := by simpa using hb
          simp only [this]
          exact ⟨fun _ _ => trivial, aK_sound hQ hP l (k + 1) _ _ w g hl' hg (hs.put o.dst (.v _)) h⟩
      · rename_i hc
        have hy := agd_spec hc hs
        simp only [Region.wanted, hgd, hy]
        exact ⟨fun _ _ => trivial, aK_sound hQ hP l (k + 1) _ _ w g hl' hg (hs.put o.dst (.v _)) h⟩
      · exact h.elim

/-- A region in the text's order. -/
theorem aw_region {id : Nat} {ops : Array Oper} {E : Env} {Q : AExit → Env → Prop} (h : aK P ops ops.toList E (Q .normal) (fun x E => Q (.panic x) E))   : AW P (.region id ops false) E Q := by
  unfold AW
  intro ro X M w0 a w g g0 hg hs
  refine wpIn_region ?_
  rw [List.range_eq_range']
  have := aK_sound (P := P) (ops := ops) (K := Q .normal) (X := X) (M := M) (w0 := w0) (g0 := g0) (Kp := fun x E => Q (.panic x) E) (ro := ro) (Q := lift ro X M w0 g0 Q) (fun E a w g hk hg hs => ⟨.normal, E, g, hk, rfl, hg, hs⟩) (fun x E a w g v hk hg hs hr => ⟨.panic x, E, g, hk, ⟨v, rfl, hr⟩, hg, hs⟩) ops.toList 0 E a w g (fun j => .inl (by simp)) hg hs h
  simpa using this

theorem St.drew {ro : Option Nat} {X M : Nat → Nat → Prop} {w0 : World} {E : Env} {a : Act} {w : World} {g : List Nat} (h : St ro X M w0 E a w g) : St ro X M w0 E a w.drew g := h.evo0 (evo_drew w)

/-- A region that draws: the first m only yield; the others are forced. -/
theorem aw_draw {id : Nat} {ops : Array Oper} {E : Env} {Q : AExit → Env → Prop} (m : Nat) (hf : P.follows .mixedOrders = true) (hb : ordB ops m = true) (hm : Nat.ble m ops.size = true)
    (h : aQ P ops (ops.toList.take m) E fun E' => aK P ops (ops.toList.drop m) E' (Q .normal) (fun x E => Q (.panic x) E)) : AW P (.region id ops true) E Q := by
  unfold AW
  intro ro X M w0 a w g g0 hg hs
  have hm := ble_true hm
  refine wpIn_region_any hf ?_
  have hlt : (ops.toList.take m).length = m := by simp; omega
  obtain ⟨E', h1, h2⟩ := aQ_run (P := P) (ops := ops) (ops.toList.take m) 0 E (fun j => by
    rw [hlt, List.getElem?_take, Nat.zero_add]
    by_cases hj : j < m
    · left; simp [hj]
    · right; omega) h
  rw [hlt] at h1
  have hs' : St ro X M w0 E a { w with drawn := w.drawn + 1 } g := hs.drew
  have hun : ∀ i, i < ops.size → ((Array.replicate ops.size false).getD i true = false ↔ i ∈ List.range' 0 m ∨ m ≤ i) := by
    intro i hi
    have : (Array.replicate ops.size false).getD i true = false := by simp [Array.getD_eq_getD_getElem?, hi]
    simp only [this, true_iff, List.mem_range'_1]
    omega
  have key := pure_any (P := P) (ordOk hb) hm (ro := ro) (Q := lift ro X M w0 g0 Q) (X := X) (M := M) (w0 := w0) (g := g) m (List.range' 0 m) (Array.replicate ops.size false) E E' a _ (by simp) (fun i hi => by simp only [List.mem_range'_1] at hi; omega)
    List.pairwise_lt_range' (by simp) (fun k o ho hl => by
      have hk := (Array.getElem?_eq_some_iff.1 ho).1
      simp [Array.getD_eq_getD_getElem?, hk] at hl) hun h1 hs' (fun a' w' hs'' => by
      have := aK_sound (P := P) (ops := ops) (K := Q .normal) (X := X) (M := M) (w0 := w0) (g0 := g0) (Kp := fun x E => Q (.panic x) E) (ro := ro) (Q := lift ro X M w0 g0 Q) (fun E a w g hk hg hs => ⟨.normal, E, g, hk, rfl, hg, hs⟩) (fun x E a w g v hk hg hs hr => ⟨.panic x, E, g, hk, ⟨v, rfl, hr⟩, hg, hs⟩) (ops.toList.drop m) m E' a' w' g (fun j => .inl (by simp)) hg hs'' h2
      simpa using this)
  have e : m + (ops.size - m) = ops.size := by omega
  rw [e] at key
  exact key
end Go.Vl
