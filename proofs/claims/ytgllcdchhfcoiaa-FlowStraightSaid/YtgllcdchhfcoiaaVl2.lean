/- Regions of operations, told by values: in the text's order, and in whatever order the edges allow. -/
import Derived.Test.YtgllcdchhfcoiaaVl1
namespace Go.Vl
open Go.RowKit
variable {P : Program}

/-- The operation, at operands that read as E tells, gives a value that reads so, and turns nothing that was there. -/
def Yields (P : Program) (o : Oper) (E : Env) (r : AV) : Prop :=
  (∀ c, o.op ≠ .defer c) ∧ ∀ (ρ : Operand → Value) (w : World) (X : Nat → Nat → Prop) (g : List Nat), HOk w (excl X g E.h) g E.h →
    (∀ x ∈ o.op.operands, Rep w (excl X g E.h) g (E.ev x) (ρ x)) →
    (∃ u w', (execOp ρ o).run P w = .ok (.value u) w' ∧ Evo none2 w w' ∧ Rep w' (excl X g E.h) g r u) ∨
    (∃ f vs w1, (execOp ρ o).run P w = .ok (.enter f vs) w1 ∧ Evo none2 w w1 ∧
      Calls P f vs w1 fun e w' => ∃ u, e = .returned u ∧ Evo none2 w1 w' ∧ Rep w' (excl X g E.h) g r u)

/-- An operation with an effect on what is one's own (or any at all): what it ends in. -/
def AOp (P : Program) (o : Oper) (E : Env) (K : Env → Prop) (Kp : AV → Env → Prop := fun _ _ => False) : Prop :=
  ∀ ro X M w0 a w g, St ro X M w0 E a w g →
    ∀ (next : Act → World → Prop) (Q : Exit → Act → World → Prop), (∀ E' a' w' g', K E' → (∀ (i b : Nat), g[i]? = some b → g'[i]? = some b) → St ro X M w0 E' a' w' g' → next a' w') →
      (∀ x E' a' w' g' v, Kp x E' → (∀ (i b : Nat), g[i]? = some b → g'[i]? = some b) → St ro X M w0 E' a' w' g' → Rep w' (excl X g' E'.h) g' x v → Q (.panic [{ v, recovered := false }]) a' w') →
      o.wpIn (Fr ro) 0 P a w next Q

theorem callsFr {r : Option Nat} {n : Nat} {f : FuncId} {args : Array Value} {w : World} {R : Ending → World → Prop} : CallsIn (Fr r) n P f args w R ↔ Calls P f args w R :=
  callsIn_wide (n := n)
theorem wpIn_of_run {r : Option Nat} {o : Oper} {a : Act} {w : World} {next : Act → World → Prop} {Q : Exit → Act → World → Prop} (hd : ∀ c, o.op ≠ .defer c) (h : o.uponIn (Fr r) 0 P a next Q ((execOp a.eval o).run P w)) :
    o.wpIn (Fr r) 0 P a w next Q := ⟨fun _ _ => trivial, by rw [Oper.semAt_eq _ _ _ hd]; exact h⟩
theorem upon_enter {r : Option Nat} {o : Oper} {a : Act} {w : World} {next : Act → World → Prop} {Q : Exit → Act → World → Prop} {f : FuncId} {vs : Array Value}
    (h : Calls P f vs w fun e w' => match e with | .returned v => next (a.put o.dst v) w' | .panicked chain => Q (.panic chain) a w' | .outgrown => LetsOut Q) : o.uponIn (Fr r) 0 P a next Q (.ok (.enter f vs) w) :=
  ⟨fun h0 => (by cases h0), callsFr.2 (Calls.mono h fun e _ q => by cases e <;> exact q)⟩

theorem excl_none {X : Nat → Nat → Prop} {g : List Nat} {h : Heap} {b o : Nat} (hx : excl none2 g h b o) : excl X g h b o := by
  rcases hx with h | h | h
  · exact h.elim
  · exact .inr (.inl h)
  · exact .inr (.inr h)

theorem HOk.evo0 {w w' : World} {X : Nat → Nat → Prop} {g : List Nat} {h : Heap} (hk : HOk w (excl X g h) g h) (he : Evo none2 w w') : HOk w' (excl X g h) g h := by
  have hs : Stays w (excl X g h) g w' (excl X g h) g := he.stays (fun _ _ _ x => x.elim) (fun _ _ _ x => x) (fun _ _ x => x)
  refine ⟨fun p hp => ?_, fun p hp => ?_, hk.nodup, hk.nx, fun b o hx => Nat.lt_of_lt_of_le (hk.bd b o hx) he.size⟩
  · obtain ⟨b, h1, h2⟩ := hk.bx p hp
    exact ⟨b, h1, h2.stays hs (he.blk b (OwnRep.lt h2) (fun _ x => x))⟩
  · obtain ⟨b, vs, e, h1, h2, h3⟩ := hk.pm p hp
    exact ⟨b, vs, e, h1, (he.blk b (lt_of_block h2) (fun _ x => x)).trans h2, h3⟩

theorem St.evo0 {ro : Option Nat} {X M : Nat → Nat → Prop} {w0 : World} {E : Env} {a : Act} {w w' : World} {g : List Nat} (h : St ro X M w0 E a w g) (he : Evo none2 w w') : St ro X M w0 E a w' g :=
  ⟨h.hok.evo0 he, fun k => (h.tm k).stays (he.stays (fun _ _ _ x => x.elim) (fun _ _ _ x => x) (fun _ _ x => x)), h.n, h.evo.trans (he.mono fun _ _ _ x => x.elim), h.loc, h.def_.stays (he.stays (fun _ _ _ x => x.elim) (fun _ _ _ x => x) (fun _ _ x => x)), h.sep, h.top, h.rnd⟩

theorem getD_set {a : Array Value} {d k : Nat} {u : Value} : (a.setIfInBounds d u).getD k undef = if k = d ∧ d < a.size then u else a.getD k undef := by
  simp only [Array.getD_eq_getD_getElem?, Array.getElem?_setIfInBounds]
  by_cases h : d = k
  · subst h
    by_cases hs : d < a.size
    · simp [hs]
    · simp [hs, Array.getElem?_eq_none (Nat.le_of_not_lt hs)]
  · have h' : ¬ k = d := fun e => h e.symm
    simp [h, h']

theorem Env.set_t {E : Env} {d : Nat} {r : AV} {k : Nat} : (E.set (some d) r).t k = if k = d ∧ d < E.n then r else E.t k := by
  unfold Env.set
  dsimp only
  by_cases hk : k = d
  · subst hk
    simp only [Nat.beq_refl, cond_true, true_and]
    by_cases h : k < E.n
    · have hb : Nat.blt k E.n = true := by simpa [Nat.blt_eq] using h
      simp [hb, h]
    · have hb : Nat.blt k E.n = false := by cases h' : Nat.blt k E.n with | true => exact absurd (by simpa [Nat.blt_eq] using h') h | false => rfl
      simp [hb, h]
  · have : Nat.beq k d = false := by cases h' : Nat.beq k d with | true => exact absurd (Nat.eq_of_beq_eq_true h') hk | false => rfl
    simp [hk, this]
theorem Env.set_h {E : Env} {d : Option Nat} {r : AV} : (E.set d r).h = E.h := by cases d <;> rfl
theorem Env.set_df {E : Env} {d : Option Nat} {r : AV} : (E.set d r).df = E.df := by cases d <;> rfl
theorem Env.set_n {E : Env} {d : Option Nat} {r : AV} : (E.set d r).n = E.n := by cases d <;> rfl

theorem St.put {ro : Option Nat} {X M : Nat → Nat → Prop} {w0 : World} {E : Env} {a : Act} {w : World} {g : List Nat} (h : St ro X M w0 E a w g) (d : Option Nat) {r : AV} {u : Value}
    (hr : Rep w (excl X g E.h) g r u) : St ro X M w0 (E.set d r) (a.put d u) w g := by
  cases d with
  | none => exact h
  | some d =>
    refine ⟨by rw [Env.set_h]; exact h.hok, fun k => ?_, ?_, h.evo, by rw [Env.set_h]; exact h.loc, by rw [Env.set_h, Env.set_df]; exact h.def_, by rw [Env.set_h]; exact h.sep, by rw [Env.set_df]; exact h.top, h.rnd⟩
    · rw [Env.set_h, Env.set_t]
      simp only [Act.put]
      rw [getD_set, h.n]
      split
      · exact hr
      · exact h.tm k
    · rw [Env.set_n, ← h.n]; simp [Act.put]

theorem Yields.wp {o : Oper} {E : Env} {r : AV} (hy : Yields P o E r) {ro : Option Nat} {X M : Nat → Nat → Prop} {w0 : World} {a : Act} {w : World} {g : List Nat} (hs : St ro X M w0 E a w g)
    {next : Act → World → Prop} {Q : Exit → Act → World → Prop} (hn : ∀ a' w', St ro X M w0 (E.set o.dst r) a' w' g → next a' w') : o.wpIn (Fr ro) 0 P a w next Q := by
  refine wpIn_of_run hy.1 ?_
  rcases hy.2 a.eval w X g hs.hok (fun x _ => hs.ev x) with ⟨u, w', hrun, he, hr⟩ | ⟨f, vs, w1, hrun, he, hc⟩
  · rw [hrun]
    exact hn _ _ ((hs.evo0 he).put o.dst hr)
  · rw [hrun]
    refine upon_enter (Calls.mono hc fun e w' ⟨u, h1, h2, h3⟩ => ?_)
    subst h1
    exact hn _ _ (((hs.evo0 he).evo0 h2).put o.dst h3)

/-- What stands in the temporary that a guard asks. -/
def agd (ops : Array Oper) (E : Env) (j : Nat) : AV :=
  match (ops[j]?).bind (·.dst) with
  | some d => E.t d
  | none => .any

/-- What a guard sees of it: a truth value, or none. -/
def agb : AV → Option (Option Bool)
  | .v (.bool c) => some (some c)
  | .v (.tuple _) => some none
  | _ => none

theorem agd_spec {ops : Array Oper} {E : Env} {j : Nat} {c : Option Bool} (h : agb (agd ops E j) = some c) {ro : Option Nat} {X M : Nat → Nat → Prop} {w0 : World} {a : Act} {w : World} {g : List Nat} (hs : St ro X M w0 E a w g) :
    yielded ops a.tmps j = c := by
  unfold agd at h
  unfold yielded
  cases hd : (ops[j]?).bind (·.dst) with
  | none => simp [hd, agb] at h
  | some d =>
    simp only [hd] at h
    have h1 := hs.tm d
    generalize he : E.t d = e at h h1
    rw [Array.getD_eq_getD_getElem?] at h1
    unfold agb at h
    split at h
    · rename_i b
      cases h
      have h2 : (a.tmps[d]?).getD undef = .bool b := by
        generalize (a.tmps[d]?).getD undef = u at h1
        cases h1; rfl
      cases h3 : a.tmps[d]? with
      | none => simp [h3, undef] at h2
      | some u => simp only [h3, Option.getD_some] at h2; simp [h3, h2]
    · rename_i b
      cases h
      have h2 : (a.tmps[d]?).getD undef = .tuple b := by
        generalize (a.tmps[d]?).getD undef = u at h1
        cases h1; rfl
      cases h3 : a.tmps[d]? with
      | none => simp [h3]
      | some u => simp only [h3, Option.getD_some] at h2; simp [h3, h2]
    · cases h

/-- A guarded operation yields: what it gives, or nothing where its guard says no. -/
def GY (P : Program) (ops : Array Oper) (o : Oper) (E : Env) (r : AV) : Prop :=
  match o.guard with
  | none => Yields P o E r
  | some (j, want) => ∃ c, agb (agd ops E j) = some c ∧ ((c = some want ∧ Yields P o E r) ∨ (c ≠ some want ∧ r = .v undef))

theorem GY.does {ops : Array Oper} {o : Oper} {E : Env} {r : AV} {i : Nat} (hi : ops[i]? = some o) (hy : GY P ops o E r) {ro : Option Nat} {X M : Nat → Nat → Prop} {w0 : World} {a : Act} {w : World} {g : List Nat} (hs : St ro X M w0 E a w g)
    {next : Act → World → Prop} {Q : Exit → Act → World → Prop} (hn : ∀ a' w', St ro X M w0 (E.set o.dst r) a' w' g → next a' w') : wpOpIn (Fr ro) 0 P ops Q i next a w := by
  unfold wpOpIn GY at *
  simp only [hi]
  cases hg : o.guard with
  | none =>
    simp only [hg] at hy
    simp only [Region.wanted, hg, if_true]
    exact hy.wp hs hn
  | some p =>
    obtain ⟨j, want⟩ := p
    simp only [hg] at hy
    obtain ⟨c, hc, hy⟩ := hy
    have hyl := agd_spec hc hs
    simp only [Region.wanted, hg, hyl]
    rcases hy with ⟨h1, h2⟩ | ⟨h1, h2⟩
    · subst h1
      simp only [BEq.rfl, if_true]
      exact h2.wp hs hn
    · subst h2
      have : (c == some want) = false := by simpa using h1
      simp only [this]
      exact ⟨fun _ _ => trivial, hn _ _ (hs.put o.dst (.v _))⟩

theorem mem_looks_of_operand {ops : Array Oper} {o : Oper} {t : Nat} (h : Operand.tmp t ∈ o.op.operands) : t ∈ o.looksAt ops := by
  unfold Oper.looksAt
  refine List.mem_append_left _ ?_
  exact List.mem_filterMap.2 ⟨.tmp t, Array.mem_toList_iff.2 h, rfl⟩
theorem mem_looks_of_guard {ops : Array Oper} {o : Oper} {j d : Nat} {want : Bool} (hg : o.guard = some (j, want)) (hd : (ops[j]?).bind (·.dst) = some d) : d ∈ o.looksAt ops := by
  unfold Oper.looksAt
  refine List.mem_append_right _ ?_
  simp [hg, hd]

theorem Yields.congr {ops : Array Oper} {o : Oper} {E E' : Env} {r : AV} (hh : E'.h = E.h) (ht : ∀ k, k ∈ o.looksAt ops → E'.t k = E.t k) (h : Yields P o E r) : Yields P o E' r := by
  refine ⟨h.1, ?_⟩
  intro ρ w X g hk hx
  rw [hh] at hk hx ⊢
  refine h.2 ρ w X g hk fun x hm => ?_
  have := hx x hm
  cases x with
  | tmp k => simp only [Env.ev] at this ⊢; rw [ht k (mem_looks_of_operand hm)] at this; exact this
  | const c => exact this
  | global c => exact this
  | func c => exact this
theorem GY.congr {ops : Array Oper} {o : Oper} {E E' : Env} {r : AV} (hh : E'.h = E.h) (ht : ∀ k, k ∈ o.looksAt ops → E'.t k = E.t k) (h : GY P ops o E r) : GY P ops o E' r := by
  unfold GY at *
  cases hg : o.guard with
  | none => simp only [hg] at h ⊢; exact h.congr hh ht
  | some p =>
    obtain ⟨j, want⟩ := p
    simp only [hg] at h ⊢
    obtain ⟨c, hc, h⟩ := h
    refine ⟨c, ?_, h.imp (fun ⟨h1, h2⟩ => ⟨h1, h2.congr hh ht⟩) id⟩
    unfold agd at *
    cases hd : (ops[j]?).bind (·.dst) with
    | none => simp [hd, agb] at hc
    | some d => simp only [hd] at hc ⊢; rw [ht d (mem_looks_of_guard hg hd)]; exact hc

theorem Env.set_other {E : Env} {d : Option Nat} {r : AV} {k : Nat} (h : d ≠ some k) : (E.set d r).t k = E.t k := by
  cases d with
  | none => rfl
  | some d =>
    rw [Env.set_t, if_neg]
    intro hh
    exact h (by rw [hh.1])
theorem Env.ext' {E E' : Env} (hn : E.n = E'.n) (hh : E.h = E'.h) (hd : E.df = E'.df) (ht : ∀ k, E.t k = E'.t k) : E = E' := by
  cases E; cases E'
  simp only at hn hh hd ht
  subst hn; subst hh; subst hd
  have := funext ht
  subst this
  rfl
theorem Env.set_comm {E : Env} {d d' : Option Nat} {r r' : AV} (h : ∀ k, d = some k → d' ≠ some k) : (E.set d r).set d' r' = (E.set d' r').set d r := by
  cases d with
  | none => rfl
  | some d =>
    cases d' with
    | none => rfl
    | some d' =>
      have hne : d ≠ d' := fun e => h d rfl (by rw [e])
      refine Env.ext' (by simp [Env.set_n]) (by simp [Env.set_h]) (by simp [Env.set_df]) fun k => ?_
      simp only [Env.set_t, Env.set_n]
      by_cases h1 : k = d' ∧ d' < E.n
      · have h2 : ¬ (k = d ∧ d < E.n) := fun h2 => hne (h2.1.symm.trans h1.1)
        simp [h1, h2]
        intro hc; first | exact absurd hc hne | exact absurd hc.symm hne
      · simp [h1]

/-- A run of operations by their places, in this order. -/
def RunL (P : Program) (ops : Array Oper) : List Nat → Env → Env → Prop
  | [], E, E' => E' = E
  | i :: l, E, E' => ∃ o r, ops[i]? = some o ∧ GY P ops o E r ∧ RunL P ops l (E.set o.dst r) E'

theorem RunL.front {ops : Array Oper} {j : Nat} {oj : Oper} (hj : ops[j]? = some oj) : ∀ (l1 l2 : List Nat) (E E' : Env),
    (∀ i ∈ l1, ∀ oi, ops[i]? = some oi → oi.apart ops oj = true) → RunL P ops (l1 ++ j :: l2) E E' →
    ∃ r, GY P ops oj E r ∧ RunL P ops (l1 ++ l2) (E.set oj.dst r) E'
  | [], l2, E, E', _, h => by
    obtain ⟨o, r, h1, h2, h3⟩ := h
    rw [hj] at h1
    cases h1
    exact ⟨r, h2, h3⟩
  | i :: l1, l2, E, E', hap, h => by
    obtain ⟨oi, ri, h1, h2, h3⟩ := h
    obtain ⟨rj, h4, h5⟩ := RunL.front hj l1 l2 (E.set oi.dst ri) E' (fun i' hi' => hap i' (List.mem_cons_of_mem _ hi')) h3
    obtain ⟨a1, a2, a3⟩ := Oper.apart_spec (hap i (by simp) oi h1)
    refine ⟨rj, h4.congr (by rw [Env.set_h]) (fun k hk => (Env.set_other (fun e => a1 k e hk)).symm), oi, ri, h1, ?_, ?_⟩
    · exact h2.congr (by rw [Env.set_h]) (fun k hk => Env.set_other (fun e => a3 k e hk))
    · rw [Env.set_comm (fun k hk => fun e => a2 k e hk)]; exact h5
end Go.Vl
