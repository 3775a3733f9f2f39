/- Ranges over functions: yield, the statement. -/
import Derived.Test.YtgllcdchhfcoiaaVlQ
import Derived.Test.YtgllcdchhfcoiaaVlL
import Derived.RangeFuncRecord
namespace Go.Vl
open Go.RowKit
variable {P : Program}

def yTmps (ps : Array Tmp) (vs : Array Value) (tmps : Array Value) : Array Value := (ps.zip vs).foldl (fun tmps p => tmps.setIfInBounds p.1 p.2) tmps
/-- A round's way of being called: by its yield. -/
def yWay (P : Program) (i : Id) : Way :=
  ⟨fun _ g vs w R => ∃ b q, g[i.2]? = some b ∧ w.heap[b]? = some (.loop q) ∧ vs.size = q.params.size ∧ RoundIn (Fr none) 0 P b q.fn (yTmps q.params vs q.tmps) q.assign q.body w R,
   fun ⟨b, q, h1, h2, h3, h4⟩ hr => ⟨b, q, h1, h2, h3, h4.mono hr⟩⟩

/-- A round's frame. -/
def roundEnv (n : Nat) (t : Nat → AV) (h : Heap) : List (Tmp × AV) → Env
  | [] => ⟨n, t, h, none⟩
  | p :: l => (roundEnv n t h l).set (some p.1) p.2
def rfin (i : Id) (st : LoopState) (pd : Option Code) (c : Bool) (Q : AV → Heap → Prop) (E : Env) : Prop :=
  match hgeto i.1 E.h.bx with
  | some (s, .lp _ _ n t ps asg body) => s = i.2 ∧ Q (.v (.bool c)) { E.h with bx := hseto i.1 (.lp st pd n t ps asg body) E.h.bx }
  | _ => False
def roundQ (i : Id) (Q : AV → Heap → Prop) : AExit → Env → Prop
  | .normal, E => rfin i .ready none true Q E
  | .ret, E => rfin i .done (some .ret) false Q E
  | .exit id, E => rfin i .done (some (.exit id)) false Q E
  | .goto l, E => rfin i .done (some (.goto l)) false Q E
  | .panic _, _ => False
def asgQ (P : Program) (i : Id) (body0 : Code) (Q : AV → Heap → Prop) : AExit → Env → Prop
  | .normal, E => match hgeto i.1 E.h.bx with
    | some (s, .lp .ready pd n t ps asg body) => s = i.2 ∧ AW P body0 { E with h := { E.h with bx := hseto i.1 (.lp .busy pd n t ps asg body) E.h.bx } } (roundQ i Q)
    | _ => False
  | _, _ => False

theorem roundEnv_h {n : Nat} {t : Nat → AV} {h : Heap} : ∀ {l : List (Tmp × AV)}, (roundEnv n t h l).h = h
  | [] => rfl
  | p :: l => by rw [roundEnv, Env.set_h]; exact roundEnv_h
theorem roundEnv_df {n : Nat} {t : Nat → AV} {h : Heap} : ∀ {l : List (Tmp × AV)}, (roundEnv n t h l).df = none
  | [] => rfl
  | p :: l => by rw [roundEnv, Env.set_df]; exact roundEnv_df
theorem St.round {ro : Option Nat} {X M : Nat → Nat → Prop} {w0 : World} {n : Nat} {t : Nat → AV} {h : Heap} {tmps : Array Value} {w : World} {g : List Nat} (hs : St ro X M w0 ⟨n, t, h, none⟩ { tmps := tmps, defers := [] } w g) :
    ∀ (ps : List Tmp) (as : List AV) (vs : List Value), as.length = vs.length → (∀ (k : Nat) (c : AV) (u : Value), as[k]? = some c → vs[k]? = some u → Rep w (excl X g h) g c u) →
    St ro X M w0 (roundEnv n t h (ps.zip as).reverse) { tmps := (ps.zip vs).foldl (fun tmps p => tmps.setIfInBounds p.1 p.2) tmps, defers := [] } w g := by
  have key : ∀ (l : List (Tmp × AV)) (m : List (Tmp × Value)), l.length = m.length → (∀ (k : Nat) (p : Tmp × AV) (q : Tmp × Value), l[k]? = some p → m[k]? = some q → p.1 = q.1 ∧ Rep w (excl X g h) g p.2 q.2) →
      St ro X M w0 (roundEnv n t h l) { tmps := m.foldr (fun p tmps => tmps.setIfInBounds p.1 p.2) tmps, defers := [] } w g := by
    intro l
    induction l with
    | nil => intro m hl _; have : m = [] := List.eq_nil_of_length_eq_zero (by simpa using hl.symm); subst this; exact hs
    | cons p l ih =>
      intro m hl hr
      cases m with
      | nil => simp at hl
      | cons q m =>
        have h1 := ih m (by simpa using hl) (fun k p' q' h1 h2 => hr (k + 1) p' q' (by simpa using h1) (by simpa using h2))
        obtain ⟨e, h2⟩ := hr 0 p q rfl rfl
        have h3 := h1.put (some p.1) (r := p.2) (u := q.2) (by rw [roundEnv_h]; exact h2)
        rw [e] at h3
        simp only [List.foldr_cons, roundEnv]
        rw [e]
        exact h3
  intro ps as vs hl hr
  have := key (ps.zip as).reverse (ps.zip vs).reverse (by simp [hl]) (fun k p q h1 h2 => by
    have hlen : (ps.zip as).length = (ps.zip vs).length := by simp [hl]
    have hk : k < (ps.zip as).length := by simpa using (List.getElem?_eq_some_iff.1 h1).1
    rw [List.getElem?_reverse hk] at h1
    rw [List.getElem?_reverse (by omega), ← hlen] at h2
    rw [List.getElem?_zip_eq_some] at h1 h2
    have e : p.1 = q.1 := by have := h1.1.symm.trans h2.1; simpa using this
    exact ⟨e, hr _ _ _ h1.2 h2.2⟩)
  rw [List.foldr_reverse] at this
  exact this

theorem run_getLoop {w : World} {b : Nat} {q : Loop} (h : w.heap[b]? = some (.loop q)) : (Instr.getLoop b).run P w = .ok q w := by
  simp only [Instr.getLoop, Sem.run_bind, run_getObjG h, Result.andThen_ok, Sem.run_pure]
theorem run_beginRound {w : World} {b : Nat} {q : Loop} (h : w.heap[b]? = some (.loop q)) (hq : q.state = .ready) : (Instr.beginRound b).run P w = .ok () (World.setO w b (.loop { q with state := .busy })) := by
  simp only [Instr.beginRound, Sem.run_bind, run_getLoop h, Result.andThen_ok, run_setObjG h, hq, Sem.run_pure]
theorem run_endRound {w : World} {b : Nat} {q : Loop} {j : Option Code} (h : w.heap[b]? = some (.loop q)) : (Instr.endRound b j).run P w = .ok (.bool j.isNone) (World.setO w b (.loop { q with state := if j.isNone then .ready else .done, pending := j })) := by
  simp only [Instr.endRound, Sem.run_bind, run_getLoop h, Result.andThen_ok, run_setObjG h, Sem.run_pure]

/-- A yield's contract, out of the round's code. -/
theorem yield_of_aw {i : Id} {h : Heap} {pd : Option Code} {n : Nat} {t : Nat → AV} {ps : Array Tmp} {asg body : Code} {as : List AV} {Q : AV → Heap → Prop} (hlp : hgeto i.1 h.bx = some (i.2, .lp .ready pd n t ps asg body))
    (hlen : as.length = ps.size) (hw : AW P asg (roundEnv n t h (ps.toList.zip as).reverse) (asgQ P i body Q)) : ECallG (yWay P i) as h (retR Q) := by
  intro X w g vs hk hsep hl hr
  obtain ⟨b, hgb, fn, tmps, d, hb, hsz, hrt⟩ := hk.bx _ (hgeto_mem hlp)
  dsimp only at hgb
  refine ⟨b, _, hgb, hb, by simp [hl, hlen], ?_⟩
  have hs0 : St (some b) X (excl none2 g h) w ⟨n, t, h, none⟩ { tmps := tmps, defers := [] } w g :=
    ⟨hk, hrt, hsz, Evo.refl _ _, fun _ _ hx _ => hx, rfl, hsep, ⟨fun h0 => (by cases h0), fun _ => rfl⟩, fun l hl => (by cases hl; exact ⟨_, hb⟩)⟩
  have hs := hs0.round ps.toList as vs hl.symm hr
  have ey : yTmps ps vs.toArray tmps = (ps.toList.zip vs).foldl (fun tmps p => tmps.setIfInBounds p.1 p.2) tmps := by
    unfold yTmps
    rw [← Array.foldl_toList, Array.toList_zip]
  unfold AW at hw
  have h1 := hw (some b) X _ w _ w g g (fun _ _ h => h) hs
  refine roundIn_of_wpIn (F := Fr none) trivial (wpIn_mono (F := Fr (some b)) (by dsimp only; rw [ey]; exact h1) fun ex a1 w1 hq => ?_)
  obtain ⟨ax, E1, g1, q, hx, hg1, s⟩ := hq
  cases ax with
  | normal =>
    cases (hx : ex = .normal)
    dsimp only [asgQ] at q
    split at q
    · rename_i st pd1 n1 t1 ps1 asg1 body1 hget
      obtain ⟨rfl, q⟩ := q
      obtain ⟨b1, hgb1, fn1, tmps1, d1, hb1, hsz1, hrt1⟩ := s.hok.bx _ (hgeto_mem hget)
      dsimp only at hgb1
      have : b1 = b := by have := hg1 _ _ hgb; rw [hgb1] at this; cases this; rfl
      subst this
      refine ⟨_, run_beginRound hb1 rfl, ?_⟩
      have hev := evo_setO (o' := .loop ⟨.busy, pd1, fn1, tmps1, ps1, asg1, body1, d1⟩) hb1 rfl (fun _ => rfl)
      have s2 := s.setOwn (x := .lp .busy pd1 n1 t1 ps1 asg1 body1) hget hgb1 hev (fun hst => ⟨fn1, tmps1, d1, setO_same hb1, hsz1, fun k => (hrt1 k).stays hst⟩)
      unfold AW at q
      refine wpIn_mono (F := Fr (some b1)) (q (some b1) X _ w a1 _ g1 g hg1 s2) fun ex2 a2 w2 hq2 => ?_
      obtain ⟨ax2, E2, g2, q2, hx2, hg2, s2⟩ := hq2
      have fin : ∀ (st : LoopState) (j : Option Code), st = (if j.isNone then .ready else .done) → rfin i st j j.isNone Q E2 → ∃ v w', (Instr.endRound b1 j).run P w2 = .ok v w' ∧
          ∃ r h' g', ResRep w' (excl X g' h') g' r (.returned v) ∧ retR Q r h' ∧ (∀ (i b : Nat), g[i]? = some b → g'[i]? = some b) ∧ HOk w' (excl X g' h') g' h' ∧ (∀ b o, X b o → ∀ i, i ∈ h'.ids → g'[i]? ≠ some b) ∧
          Evo (excl none2 g h) w w' ∧ (∀ b o, excl none2 g' h' b o → b < w.heap.size → excl none2 g h b o) := by
        intro st j hst hf
        unfold rfin at hf
        split at hf
        · rename_i s3 st3 pd3 n3 t3 ps3 asg3 body3 hget3
          obtain ⟨rfl, hf⟩ := hf
          obtain ⟨b3, hgb3, fn3, tmps3, d3, hb3, hsz3, hrt3⟩ := s2.hok.bx _ (hgeto_mem hget3)
          dsimp only at hgb3
          have : b3 = b1 := by have := hg2 _ _ hgb; rw [hgb3] at this; cases this; rfl
          subst this
          have hev3 := evo_setO (o' := .loop ⟨st, j, fn3, tmps3, ps3, asg3, body3, d3⟩) hb3 rfl (fun _ => rfl)
          have s4 := s2.setOwn (x := .lp st j n3 t3 ps3 asg3 body3) hget3 hgb3 hev3 (fun hst => ⟨fn3, tmps3, d3, setO_same hb3, hsz3, fun k => (hrt3 k).stays hst⟩)
          refine ⟨_, _, by rw [run_endRound hb3, ← hst], .ret (.v (.bool j.isNone)), _, g2, ⟨_, rfl, .v _⟩, hf, hg2, s4.hok, s4.sep, s4.evo, s4.loc⟩
        · exact hf.elim
      cases ax2 with
      | normal => cases (hx2 : ex2 = .normal); exact fin .ready none rfl q2
      | ret => cases (hx2 : ex2 = .ret); exact fin .done (some .ret) rfl q2
      | exit id => cases (hx2 : ex2 = .exit id); exact fin .done (some (.exit id)) rfl q2
      | goto l => cases (hx2 : ex2 = .goto l); exact fin .done (some (.goto l)) rfl q2
      | panic x => exact q2.elim
    · exact q.elim
  | ret => exact q.elim
  | exit id => exact q.elim
  | goto l => exact q.elim
  | panic x => exact q.elim

/-- A call of yield. -/
theorem aop_yield {o : Oper} {E : Env} {K : Env → Prop} {Kp : AV → Env → Prop} {fo : Operand} {args : Array Operand} {tys : Array TypeId} {i : Id} {Q : AV → Heap → Prop}
    (ho : o.op = .call { callee := .value fo, args := args, argTypes := tys }) (hf : E.ev fo = .yl i)
    (hc : ECallG (yWay P i) (args.toList.map E.ev) E.h (retR Q)) (hk : ∀ r h', Q r h' → Named r h' fun r h' => K (({ E with h := h' } : Env).set o.dst r)) : AOp P o E K Kp := by
  intro ro X M w0 a w g hs next Q' hn hpan
  have hfr := hs.ev fo
  rw [hf] at hfr
  generalize hu : a.eval fo = u at hfr
  cases hfr with
  | yl _ b' hgb' =>
    obtain ⟨b, q, hgb, hb, hsz, hround⟩ := hc X w g (args.toList.map a.eval) hs.hok hs.sep (by simp) (fun k c u hc hu => by
      rw [List.getElem?_map] at hc hu
      cases hx : args.toList[k]? with
      | none => simp [hx] at hc
      | some x =>
        simp only [hx, Option.map_some, Option.some.injEq] at hc hu
        subst hc; subst hu
        exact hs.ev x)
    obtain rfl : b = b' := by rw [hgb] at hgb'; exact Option.some.inj hgb'
    have eargs : (args.toList.map a.eval).toArray = args.map a.eval := by apply Array.ext'; simp
    have hrun : (execOp a.eval o).run P w = .ok (.round b q.fn (yTmps q.params (args.map a.eval) q.tmps) q.assign q.body) w := by
      unfold execOp
      simp only [ho, resolve, hu, Deferred.ofValue, pure_bind, invoke, Array.empty_append, Array.append_empty]
      rw [eargs] at hsz
      have hne : ¬ ((args.map a.eval).size ≠ q.params.size) := fun h => h hsz
      simp only [Instr.yield, Sem.run_bind, run_getLoop hb, Result.andThen_ok, if_neg hne, Sem.run_pure]
      rfl
    refine wpIn_of_run (by rw [ho]; intro c h; cases h) ?_
    rw [hrun]
    rw [eargs] at hround
    refine ⟨fun h0 => (by cases h0), RoundIn.mono (F := Fr ro) (n := 0) (R' := _) (show RoundIn (Fr ro) 0 P b q.fn _ q.assign q.body w _ from hround) ?_⟩
    rintro e w' ⟨r, h', g', a6, a2, a3, a4, a5, a7, a8⟩
    have hst : Stays w (excl X g E.h) g w' (excl X g' h') g' := by
      refine a7.stays (fun b o _ hx => excl_none hx) (fun b o hb' hx => ?_) a3
      rcases hx with hx | hx | hx
      · exact .inl hx
      · exact excl_none (a8 b o (.inr (.inl hx)) hb')
      · exact excl_none (a8 b o (.inr (.inr hx)) hb')
    have hnew : St ro X M w0 { E with h := h' } a w' g' :=
      ⟨a4, fun k => (hs.tm k).stays hst, hs.n, hs.evo.and_then a7 (fun b o hb' hx => hs.loc b o hx hb'), fun b o hx hb' => hs.loc b o (a8 b o hx (Nat.lt_of_lt_of_le hb' hs.evo.size)) hb', hs.def_.stays hst, a5, hs.top, hs.rnd⟩
    cases r with
    | pan x => exact a2.elim
    | ret r =>
      obtain ⟨u, rfl, a6⟩ := a6
      obtain ⟨r', h'', l1, l2, hk'⟩ := hk r h' a2
      have hnew' := hnew.like l2
      refine hn _ _ _ g' hk' a3 (hnew'.put o.dst ?_)
      show Rep w' (excl X g' h'') g' r' u
      rw [l2.excl]
      exact l1 _ _ _ _ a6

/-- What is asked behind the iterator's call. -/
def rdone (i : Id) (E : Env) (Q : AExit → Env → Prop) (h : Heap) : Prop :=
  match hgeto i.1 h.bx with
  | some (s, .lp st pd n t ps asg body) => s = i.2 ∧ st ≠ .busy ∧
    (let E2 : Env := { E with h := { h with bx := hseto i.1 (.lp .exhausted pd n t ps asg body) h.bx } }
     match pd with
     | none => Q .normal E2
     | some .ret => Q .ret E2
     | some (.exit id) => Q (.exit id) E2
     | some (.goto l) => Q (.goto l) E2
     | _ => False)
  | _ => False

theorem run_endLoop {w : World} {b : Nat} {q : Loop} (h : w.heap[b]? = some (.loop q)) (hq : q.state ≠ .busy) : (Instr.endLoop b).run P w = .ok q.pending (World.setO w b (.loop { q with state := .exhausted })) := by
  have : (q.state == LoopState.busy) = false := by cases hst : q.state <;> first | rfl | exact absurd hst hq
  simp only [Instr.endLoop, Sem.run_bind, run_getLoop h, Result.andThen_ok, run_setObjG h, this, Bool.false_eq_true, if_false, Sem.run_pure]


theorem run_rangeCall {gop : Operand} {it : FuncId} {v1 v2 : List Value} {a : Act} {b : Nat} {w : World} (hu : a.eval gop = .func (.func it) v1.toArray v2.toArray) (hc : callable P it) :
    ∃ d, (resolve a.eval (rangeCall gop b) 0).run P w = .ok d w ∧ (invoke d.target d.args).run P w = .ok (.enter it (v1 ++ [Value.func (.yield b) #[] #[]] ++ v2).toArray) w := by
  obtain ⟨fn, hfn, hbody, hname⟩ := hc
  refine ⟨_, by simp only [rangeCall, resolve, hu, Deferred.ofValue, pure_bind]; rfl, ?_⟩
  simp only [invoke, callFunc, Sem.run_bind, run_program, Result.andThen_ok, hfn, hname, hbody, Bool.false_eq_true, if_false, Sem.run_pure]
  congr 3
  apply Array.ext'
  simp
  rfl

theorem DOk.push {w : World} {X : Nat → Nat → Prop} {g : List Nat} {ds : List DA} {es : List Deferred} {d : DA} {e : Deferred} (h : DOk w X g (some ds) es) (h1 : DRep w X g d e) : DOk w X g (some (d :: ds)) (e :: es) := DReps.cons h1 h

/-- The iterator has been called and has returned: the record is closed, the pending jump is done. -/
theorem range_end {E : Env} {Q : AExit → Env → Prop} {i : Id} {ro : Option Nat} {X M : Nat → Nat → Prop} {w0 : World} {g0 g : List Nat} {a : Act} {w : World} {b : Nat} {h : Heap} (hg0 : ∀ (i b : Nat), g0[i]? = some b → g[i]? = some b)
    (hs : St ro X M w0 { E with h := h } a w g) (hgb : g[i.2]? = some b) (hd : rdone i E Q h) :
    ∃ jump w4, (Instr.endLoop b).run P w = .ok jump w4 ∧ (match jump with | none => lift ro X M w0 g0 Q .normal a w4 | some c => c.wpIn (Fr ro) 0 P (lift ro X M w0 g0 Q) a w4) := by
  unfold rdone at hd
  split at hd
  · rename_i s st pd n t ps asg body hget
    obtain ⟨rfl, hst, hd⟩ := hd
    obtain ⟨b3, hgb3, fn3, tmps3, d3, hb3, hsz3, hrt3⟩ := hs.hok.bx _ (hgeto_mem hget)
    dsimp only at hgb3
    rw [hgb] at hgb3
    obtain rfl : b = b3 := Option.some.inj hgb3
    have hev := evo_setO (o' := .loop ⟨.exhausted, pd, fn3, tmps3, ps, asg, body, d3⟩) hb3 rfl (fun _ => rfl)
    have s4 := hs.setOwn (x := .lp .exhausted pd n t ps asg body) hget hgb hev (fun hst => ⟨fn3, tmps3, d3, setO_same hb3, hsz3, fun k => (hrt3 k).stays hst⟩)
    refine ⟨_, _, run_endLoop hb3 hst, ?_⟩
    dsimp only at hd ⊢
    cases pd with
    | none => exact ⟨.normal, _, g, hd, rfl, hg0, s4⟩
    | some c =>
      cases c with
      | ret => exact wpIn_ret ⟨.ret, _, g, hd, rfl, hg0, s4⟩
      | exit id => exact wpIn_exit ⟨.exit id, _, g, hd, rfl, hg0, s4⟩
      | goto l => exact wpIn_goto ⟨.goto l, _, g, hd, rfl, hg0, s4⟩
      | _ => exact hd.elim
  · exact hd.elim

theorem range_call {E1 : Env} {Q : AExit → Env → Prop} {it : FuncId} {first caps : List AV} {i : Id} {ro : Option Nat} {X M : Nat → Nat → Prop} {w0 : World} {g0 g1 : List Nat} {a1 : Act} {w1 : World} {b : Nat} {v1 v2 : List Value}
    (hg1 : ∀ (i b : Nat), g0[i]? = some b → g1[i]? = some b) (hs1 : St ro X M w0 E1 a1 w1 g1) (hgb : g1[i.2]? = some b)
    (hl1 : v1.length = first.length) (hl2 : v2.length = caps.length) (hr1 : ∀ (k : Nat) (c : AV) (u : Value), first[k]? = some c → v1[k]? = some u → Rep w1 (excl X g1 E1.h) g1 c u)
    (hr2 : ∀ (k : Nat) (c : AV) (u : Value), caps[k]? = some c → v2[k]? = some u → Rep w1 (excl X g1 E1.h) g1 c u)
    (hc : ECall P it (first ++ [.yl i] ++ caps) E1.h fun _ h' => rdone i E1 Q h') :
    CallsIn (Fr ro) 0 P it (v1 ++ [Value.func (.yield b) #[] #[]] ++ v2).toArray w1 (rangePost (Fr ro) 0 P b (lift ro X M w0 g0 Q) a1) := by
  refine callsFr.2 (Calls.mono (hc.2 X w1 g1 (v1 ++ [Value.func (.yield b) #[] #[]] ++ v2) hs1.hok hs1.sep (by simp [hl1, hl2]) (fun k c u hc hu => ?_)) ?_)
  · rw [List.getElem?_append] at hc hu
    simp only [List.length_append, List.length_cons, List.length_nil, hl1] at hc hu
    split at hc
    · rename_i h1
      rw [if_pos h1] at hu
      rw [List.getElem?_append] at hc hu
      rw [hl1] at hu
      split at hc
      · rename_i h2; rw [if_pos h2] at hu; exact hr1 k c u hc hu
      · rename_i h2; rw [if_neg h2] at hu
        have : k - first.length = 0 := by omega
        rw [this] at hc hu
        simp at hc hu
        subst hc; subst hu
        exact .yl _ _ hgb
    · rename_i h1
      rw [if_neg h1] at hu
      exact hr2 _ c u hc hu
  · rintro e w' ⟨r, h', g', a6, a2, a3, a4, a5, a7, a8⟩
    have hst : Stays w1 (excl X g1 E1.h) g1 w' (excl X g' h') g' := by
      refine a7.stays (fun b o _ hx => excl_none hx) (fun b o hb' hx => ?_) a3
      rcases hx with hx | hx | hx
      · exact .inl hx
      · exact excl_none (a8 b o (.inr (.inl hx)) hb')
      · exact excl_none (a8 b o (.inr (.inr hx)) hb')
    have hnew : St ro X M w0 { E1 with h := h' } a1 w' g' :=
      ⟨a4, fun k => (hs1.tm k).stays hst, hs1.n, hs1.evo.and_then a7 (fun b o hb' hx => hs1.loc b o hx hb'), fun b o hx hb' => hs1.loc b o (a8 b o hx (Nat.lt_of_lt_of_le hb' hs1.evo.size)) hb', hs1.def_.stays hst, a5, hs1.top, hs1.rnd⟩
    cases r with
    | pan x => exact a2.elim
    | ret r =>
      obtain ⟨u, rfl, a6⟩ := a6
      obtain ⟨jump, w4, h1, h2⟩ := range_end (P := P) (fun i b hi => a3 i b (hg1 i b hi)) hnew (a3 _ _ hgb) a2
      exact ⟨jump, w4, h1, h2⟩

/-- 'for .. := range it { .. }', outermost. -/
theorem aw_range {gop : Operand} {ps : Array Tmp} {asg body : Code} {E : Env} {Q : AExit → Env → Prop} {it : FuncId} {first caps : List AV} {ds : List DA} (hd : E.df = some ds) (hf : E.ev gop = .fn (.func it) first caps)
    (hc : ECall P it (first ++ [.yl (E.h.nn + 1, E.h.nx + 1)] ++ caps) ((E.h.addo .df).addo (.lp .ready none E.n E.t ps asg body)) fun _ h' =>
      rdone (E.h.nn + 1, E.h.nx + 1) { E with h := (E.h.addo .df).addo (.lp .ready none E.n E.t ps asg body), df := some (.col (E.h.nn, E.h.nx) :: ds) } Q h') : AW P (.rangeFunc gop ps asg body) E Q := by
  unfold AW
  intro ro X M w0 a w g g0 hg hs
  obtain rfl : ro = none := hs.top.1 (by rw [hd]; rfl)
  refine wpIn_rangeFunc fun fn _ => ?_
  have hfr := hs.ev gop
  rw [hf] at hfr
  generalize hu : a.eval gop = u at hfr
  cases hfr with
  | fn _ _ _ v1 v2 hl1 hl2 hr1 hr2 =>
    obtain ⟨s1, q1, st1⟩ := hs.obj (x := .df) (.deferred (some [])) (fun X' g' _ hnew => hnew)
    obtain ⟨s2, q2, st2⟩ := s1.obj (x := .lp .ready none E.n E.t ps asg body) (.loop ⟨.ready, none, fn, a.tmps, ps, asg, body, w.heap.size⟩) (fun X' g' hst hnew => ⟨fn, a.tmps, w.heap.size, hnew, s1.n, fun k => (s1.tm k).stays hst⟩)
    have hgi : ∀ (i b : Nat), g[i]? = some b → (g ++ [w.heap.size] ++ [(w.alloc (.deferred (some []))).heap.size])[i]? = some b := fun i b h => by
      have := (List.getElem?_eq_some_iff.1 h).1
      rw [List.getElem?_append_left (by simp; omega), List.getElem?_append_left this]; exact h
    have hent : (Instr.enterLoop fn a.tmps ps asg body (Fr none).round).run P w = .ok ((w.alloc (.deferred (some []))).heap.size, [{ target := .collected w.heap.size, args := #[] }])
        ((w.alloc (.deferred (some []))).alloc (.loop ⟨.ready, none, fn, a.tmps, ps, asg, body, w.heap.size⟩)) := by
      simp only [Instr.enterLoop, Fr, Fence.wide]
      simp [newObj, Sem.run]
    obtain ⟨d, hres, hinv⟩ := run_rangeCall (P := P) (b := (w.alloc (.deferred (some []))).heap.size) (w := (w.alloc (.deferred (some []))).alloc (.loop ⟨.ready, none, fn, a.tmps, ps, asg, body, w.heap.size⟩)) hu hc.1
    have s3 : St none X M w0 { E with h := (E.h.addo .df).addo (.lp .ready none E.n E.t ps asg body), df := some (.col (E.h.nn, E.h.nx) :: ds) } { a with defers := [{ target := .collected w.heap.size, args := #[] }] ++ a.defers }
        ((w.alloc (.deferred (some []))).alloc (.loop ⟨.ready, none, fn, a.tmps, ps, asg, body, w.heap.size⟩)) (g ++ [w.heap.size] ++ [(w.alloc (.deferred (some []))).heap.size]) := by
      have hdef := s2.def_
      dsimp only at hdef
      rw [hd] at hdef
      have hq1 : (g ++ [w.heap.size] ++ [(w.alloc (.deferred (some []))).heap.size])[E.h.nx]? = some w.heap.size := by
        rw [List.getElem?_append_left (by simp [hs.hok.nx])]; exact q1
      exact ⟨s2.hok, s2.tm, s2.n, s2.evo, s2.loc, DOk.push hdef (.col _ _ hq1), s2.sep, ⟨fun _ => rfl, fun h0 => (by cases h0)⟩, s2.rnd⟩
    exact ⟨_, _, _, d, _, it, _, _, hent, hres, fun _ _ => trivial, hinv, fun h0 => (by cases h0),
      range_call (fun i b hi => hgi i b (hg i b hi)) s3 q2 hl1 hl2 (fun k c u hc hu => ((hr1 k c u hc hu).stays st1).stays st2) (fun k c u hc hu => ((hr2 k c u hc hu).stays st1).stays st2) hc⟩

/-- The same, in a round of another. -/
theorem aw_rangeR {gop : Operand} {ps : Array Tmp} {asg body : Code} {E : Env} {Q : AExit → Env → Prop} {it : FuncId} {first caps : List AV} (hd : E.df = none) (hf : E.ev gop = .fn (.func it) first caps)
    (hc : ECall P it (first ++ [.yl (E.h.nn, E.h.nx)] ++ caps) (E.h.addo (.lp .ready none E.n E.t ps asg body)) fun _ h' =>
      rdone (E.h.nn, E.h.nx) { E with h := E.h.addo (.lp .ready none E.n E.t ps asg body) } Q h') : AW P (.rangeFunc gop ps asg body) E Q := by
  unfold AW
  intro ro X M w0 a w g g0 hg hs
  obtain ⟨l0, hl0⟩ := Option.isSome_iff_exists.1 (hs.top.2 hd)
  subst hl0
  refine wpIn_rangeFunc fun fn _ => ?_
  have hfr := hs.ev gop
  rw [hf] at hfr
  generalize hu : a.eval gop = u at hfr
  cases hfr with
  | fn _ _ _ v1 v2 hl1 hl2 hr1 hr2 =>
    obtain ⟨q0, hq0⟩ := hs.rnd l0 rfl
    obtain ⟨q, hq⟩ := hs.evo.lpk l0 q0 hq0
    obtain ⟨s2, q2, st2⟩ := hs.obj (x := .lp .ready none E.n E.t ps asg body) (.loop ⟨.ready, none, fn, a.tmps, ps, asg, body, q.defers⟩) (fun X' g' hst hnew => ⟨fn, a.tmps, q.defers, hnew, hs.n, fun k => (hs.tm k).stays hst⟩)
    have hgi : ∀ (i b : Nat), g[i]? = some b → (g ++ [w.heap.size])[i]? = some b := fun i b h => by
      rw [List.getElem?_append_left (List.getElem?_eq_some_iff.1 h).1]; exact h
    have hent : (Instr.enterLoop fn a.tmps ps asg body (Fr (some l0)).round).run P w = .ok (w.heap.size, []) (w.alloc (.loop ⟨.ready, none, fn, a.tmps, ps, asg, body, q.defers⟩)) := by
      simp only [Instr.enterLoop, Fr, Sem.run_bind, run_getLoop hq, Result.andThen_ok, Sem.run_pure]
      simp [newObj, Sem.run]
    obtain ⟨d, hres, hinv⟩ := run_rangeCall (P := P) (b := w.heap.size) (w := w.alloc (.loop ⟨.ready, none, fn, a.tmps, ps, asg, body, q.defers⟩)) hu hc.1
    have s3 : St (some l0) X M w0 { E with h := E.h.addo (.lp .ready none E.n E.t ps asg body) } { a with defers := [] ++ a.defers } (w.alloc (.loop ⟨.ready, none, fn, a.tmps, ps, asg, body, q.defers⟩)) (g ++ [w.heap.size]) := s2
    exact ⟨_, _, _, d, _, it, _, _, hent, hres, fun _ _ => trivial, hinv, fun h0 => (by cases h0),
      range_call (fun i b hi => hgi i b (hg i b hi)) s3 q2 hl1 hl2 (fun k c u hc hu => (hr1 k c u hc hu).stays st2) (fun k c u hc hu => (hr2 k c u hc hu).stays st2) hc⟩
end Go.Vl
