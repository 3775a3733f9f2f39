/- Channels of one's own, with a buffer, in one goroutine: make, send where there is room, a select that does not wait. -/
import Derived.Test.YtgllcdchhfcoiaaVlF
namespace Go.Vl
open Go.RowKit
variable {P : Program}

theorem step_lone_comm {fr fr' : Frame} {cs cs' : List Frame} {w w' : World} {cases : Array CommCase} {blocking : Bool} {shape : CommShape}
    (h : (stepG P true { frame := fr, callers := cs, status := .running, dying := none } w).bare = .comm { frame := fr', callers := cs', status := .running, dying := none } cases blocking shape w') :
    step P (lone fr cs w) = (communicate P { timers := #[], alone := none, slice := none } #[{ (default : Goroutine) with status := .finished }] 0 { frame := fr', callers := cs', status := .running, dying := none } cases blocking shape w').1 := by
  generalize hs : stepG P true { frame := fr, callers := cs, status := .running, dying := none } w = s at h
  cases s <;> simp at h
  obtain ⟨rfl, rfl, rfl, rfl, rfl⟩ := h
  rw [step, stepT, move_lone]
  simp [runT, lone, Array.swapAt!, hs]

/-- The rest of a region, run from here. -/
def Runs (ro : Option Nat) (P : Program) (ops : Array Oper) (Q : Exit → Act → World → Prop) (l : List Nat) (a : Act) (w : World) : Prop :=
  ∀ (b : Frame) (k : List Item) (cs : List Frame), b.roundOf = ro →
    ∃ e a' w', Q e a' w' ∧ ArrivesIn (Machine.fenced P (Fr ro)) P (lone (b.atR a (.inRegion ops l :: k)) cs w) b k cs e a' w'
theorem fr_room {ro : Option Nat} {n : Nat} : (Fr ro).room n := fun d hd => by cases hd
theorem fr_fenced {ro : Option Nat} {fr : Frame} {cs : List Frame} {w : World} : (lone fr cs w).fenced P (Fr ro) := fenced_lone (.inl trivial) (fun _ _ => trivial) fr_room
theorem runs_end {ro : Option Nat} {ops : Array Oper} {Q : Exit → Act → World → Prop} {a : Act} {w : World} (h : Q .normal a w) : Runs ro P ops Q [] a w :=
  fun b k cs _ => ⟨.normal, a, w, h, .one fr_fenced stepR_region_end⟩
theorem runs_region {ro : Option Nat} {id : Nat} {ops : Array Oper} {Q : Exit → Act → World → Prop} {a : Act} {w : World} (h : Runs ro P ops Q (List.range ops.size) a w) : (Code.region id ops false).wpIn (Fr ro) 0 P Q a w :=
  fun b k cs hro _ _ => let ⟨e, a', w', q, r⟩ := h b k cs hro; ⟨e, a', w', q, .of_steps (.one fr_fenced stepR_region) r⟩
theorem runs_step {ro : Option Nat} {ops : Array Oper} {Q : Exit → Act → World → Prop} {a a' : Act} {w w' : World} {i : Nat} {rest : List Nat}
    (h : ∀ (b : Frame) (k : List Item) (cs : List Frame), b.roundOf = ro → step P (lone (b.atR a (.inRegion ops (i :: rest) :: k)) cs w) = .next (lone (b.atR a' (.inRegion ops rest :: k)) cs w')) (hr : Runs ro P ops Q rest a' w') : Runs ro P ops Q (i :: rest) a w :=
  fun b k cs hro => let ⟨e, a'', w'', q, r⟩ := hr b k cs hro; ⟨e, a'', w'', q, .of_steps (.one fr_fenced (h b k cs hro)) r⟩

theorem runs_value {ro : Option Nat} {ops : Array Oper} {Q : Exit → Act → World → Prop} {a : Act} {w w' : World} {i : Nat} {rest : List Nat} {o : Oper} {v : Value} (ho : ops[i]? = some o) (hw : Region.wanted o (yielded ops a.tmps) = true)
    (hd : ∀ c, o.op ≠ .defer c) (hrun : (execOp a.eval o).run P w = .ok (.value v) w') (hr : Runs ro P ops Q rest (a.put o.dst v) w') : Runs ro P ops Q (i :: rest) a w := by
  refine runs_step (fun b k cs hro => step_lone_go ?_) hr
  rw [stepGR_op ho hw, Oper.semAt_eq _ _ _ hd]
  have hfin : (b.atR a (.inRegion ops (i :: rest) :: k)).finish v = b.atR (a.put o.dst v) (.inRegion ops rest :: k) := by rw [Frame.finish_atR, ho]; rfl
  rw [← hfin]
  simp [stepG.apply, hrun]

theorem runs_enter {ro : Option Nat} {ops : Array Oper} {Q : Exit → Act → World → Prop} {a : Act} {w w1 : World} {i : Nat} {rest : List Nat} {o : Oper} {f : FuncId} {vs : Array Value} (ho : ops[i]? = some o) (hw : Region.wanted o (yielded ops a.tmps) = true)
    (hd : ∀ c, o.op ≠ .defer c) (hrun : (execOp a.eval o).run P w = .ok (.enter f vs) w1) (hc : Calls P f vs w1 fun e w' => ∃ u, e = .returned u ∧ Runs ro P ops Q rest (a.put o.dst u) w') : Runs ro P ops Q (i :: rest) a w := by
  intro b k cs hro
  obtain ⟨hF, hcall⟩ := (callsFr (r := ro) (n := 0)).2 hc
  obtain ⟨e, w'', fr, ⟨u, he, hR⟩, hsteps, hfn, hleave⟩ := hcall (b.atR a (.inRegion ops (i :: rest) :: k) :: cs) fr_room
  subst he
  have henter : step P (lone (b.atR a (.inRegion ops (i :: rest) :: k)) cs w) = .next (lone (Frame.enter P f vs .normal) (b.atR a (.inRegion ops (i :: rest) :: k) :: cs) w1) :=
    step_lone_go (by rw [stepGR_op ho hw, Oper.semAt_eq _ _ _ hd]; simp [stepG.apply, hrun, Frame.atR])
  have hfin : (b.atR a (.inRegion ops (i :: rest) :: k)).finish u = b.atR (a.put o.dst u) (.inRegion ops rest :: k) := by rw [Frame.finish_atR, ho]; rfl
  obtain ⟨e, a', w₃, hq, harr⟩ := hR b k cs hro
  refine ⟨e, a', w₃, hq, .of_steps (.head fr_fenced henter (StepsIn.trans hsteps (.one fr_fenced ?_))) harr⟩
  rw [← hfin]; exact step_leave_returned hleave

theorem Yields.runs {o : Oper} {E : Env} {r : AV} (hy : Yields P o E r) {ro : Option Nat} {X M : Nat → Nat → Prop} {w0 : World} {a : Act} {w : World} {g : List Nat} (hs : St ro X M w0 E a w g) {ops : Array Oper} {i : Nat} {rest : List Nat}
    (ho : ops[i]? = some o) (hw : Region.wanted o (yielded ops a.tmps) = true) {Q : Exit → Act → World → Prop} (hn : ∀ a' w', St ro X M w0 (E.set o.dst r) a' w' g → Runs ro P ops Q rest a' w') : Runs ro P ops Q (i :: rest) a w := by
  rcases hy.2 a.eval w X g hs.hok (fun x _ => hs.ev x) with ⟨u, w', hrun, he, hr⟩ | ⟨f, vs, w1, hrun, he, hc⟩
  · exact runs_value ho hw hy.1 hrun (hn _ _ ((hs.evo0 he).put o.dst hr))
  · refine runs_enter ho hw hy.1 hrun (Calls.mono hc fun e w' ⟨u, h1, h2, h3⟩ => ⟨u, h1, hn _ _ (((hs.evo0 he).evo0 h2).put o.dst h3)⟩)

/-- A channel's operations. -/
def acomm (P : Program) (o : Oper) (E : Env) (K : Env → Prop) (other : Prop) : Prop :=
  match o.op with
  | .send ch x => match E.ev ch with
    | .oc i => match hgeto i.1 E.h.bx with
      | some (s, .ch cap buf) => (s = i.2 ∧ buf.length < cap) ∧ hsetK i.1 (.ch cap (buf ++ [E.ev x])) E.h.bx fun bx => K (({ E with h := { E.h with bx := bx } } : Env).set o.dst .any)
      | _ => False
    | _ => False
  | .select ⟨[⟨ch, none, e⟩]⟩ false => match E.ev ch, (P.info? e).bind (·.zero) with
    | .oc i, some z => match hgeto i.1 E.h.bx with
      | some (s, .ch cap buf) => s = i.2 ∧ (buf = [] → K (E.set o.dst (.tup [.v (.int .i64 (-1)), .v (.bool false), ofV z]))) ∧
          (∀ x rest, buf = x :: rest → hsetK i.1 (.ch cap rest) E.h.bx fun bx => K (({ E with h := { E.h with bx := bx } } : Env).set o.dst (.tup [.v (.int .i64 0), .v (.bool true), x])))
      | _ => False
    | _, _ => False
  | _ => other

theorem acomm_runs {o : Oper} {E : Env} {K : Env → Prop} (h : acomm P o E K False) {ro : Option Nat} {X M : Nat → Nat → Prop} {w0 : World} {a : Act} {w : World} {g : List Nat} (hs : St ro X M w0 E a w g) {ops : Array Oper} {i : Nat} {rest : List Nat}
    (ho : ops[i]? = some o) (hw : Region.wanted o (yielded ops a.tmps) = true) {Q : Exit → Act → World → Prop}
    (hn : ∀ E' a' w', K E' → St ro X M w0 E' a' w' g → Runs ro P ops Q rest a' w') : Runs ro P ops Q (i :: rest) a w := by
  unfold acomm at h
  split at h
  · rename_i ch x hop
    split at h
    · rename_i i' hch
      split at h
      · rename_i s cap buf hget
        obtain ⟨⟨rfl, hroom⟩, hK⟩ := h
        obtain ⟨b, hgb, vs, sn, rc, hb, hlen, hr⟩ := hs.hok.bx _ (hgeto_mem hget)
        dsimp only at hgb
        have hcv : a.eval ch = .chan (some b) := by
          have := hs.ev ch
          rw [hch] at this
          generalize a.eval ch = u at this
          cases this with
          | oc _ b' hg' => rw [hgb] at hg'; cases hg'; rfl
        have hev := evo_setO (o' := .chan cap (vs.toArray.push (a.eval x)) false (sn + 1) rc false) hb rfl (fun h => by cases h)
        have hnew := hs.setOwn (x := .ch cap (buf ++ [E.ev x])) hget hgb hev (fun hst => ⟨vs ++ [a.eval x], sn + 1, rc, by rw [setO_same hb]; simp, by simp [hlen], fun k c u h1 h2 => by
          rcases Nat.lt_or_ge k buf.length with hlt | hge
          · rw [List.getElem?_append_left hlt] at h1
            rw [List.getElem?_append_left (by omega)] at h2
            exact (hr k c u h1 h2).stays hst
          · rw [List.getElem?_append_right hge] at h1
            rw [List.getElem?_append_right (by omega), hlen] at h2
            have hk : k - buf.length = 0 := by
              have := (List.getElem?_eq_some_iff.1 h1).1; simp at this; omega
            rw [hk] at h1 h2
            simp at h1 h2
            subst h1; subst h2
            exact (hs.ev x).stays hst⟩)
        refine runs_step (fun b' k cs hro => ?_) (hn _ _ _ (hsetK_use hK) (hnew.put o.dst (.any undef)))
        have hfin : (b'.atR a (.inRegion ops (i :: rest) :: k)).finish undef = b'.atR (a.put o.dst undef) (.inRegion ops rest :: k) := by rw [Frame.finish_atR, ho]; rfl
        have hstep := stepGR_op (P := P) (b := b') (k := k) (cs := cs) (w := w) (rest := rest) ho hw
        rw [Oper.semAt_eq _ _ _ (by rw [hop]; intro c h; cases h)] at hstep
        have hex : (execOp a.eval o).run P w = .ok (.comm #[{ chan := .chan (some b), send := some (a.eval x), zero := .tuple #[] }] true .send) w := by
          unfold execOp; simp only [hop, hcv]; rfl
        have hlt : vs.length < cap := by omega
        have hcomm : (stepG P true { frame := b'.atR a (.inRegion ops (i :: rest) :: k), callers := cs, status := .running, dying := none } w).bare =
            .comm { frame := b'.atR a (.inRegion ops (i :: rest) :: k), callers := cs, status := .running, dying := none } #[{ chan := .chan (some b), send := some (a.eval x), zero := .tuple #[] }] true .send w := by
          rw [hstep]
          simp [stepG.apply, hex]
        rw [step_lone_comm hcomm, ← hfin]
        simp [communicate, ways, hb, partners, hlt, choose, Sem.run, Question.forced, bind, Sem.bind, pure, Goroutine.finishComm, commResult, lone, World.setO]
      · exact h.elim
    · exact h.elim
  · rename_i ch e hop
    split at h
    · rename_i i' z hch hz
      split at h
      · rename_i s cap buf hget
        obtain ⟨rfl, hK0, hK1⟩ := h
        obtain ⟨b, hgb, vs, sn, rc, hb, hlen, hr⟩ := hs.hok.bx _ (hgeto_mem hget)
        dsimp only at hgb
        have hcv : a.eval ch = .chan (some b) := by
          have := hs.ev ch
          rw [hch] at this
          generalize a.eval ch = u at this
          cases this with
          | oc _ b' hg' => rw [hgb] at hg'; cases hg'; rfl
        have hex : (execOp a.eval o).run P w = .ok (.comm #[{ chan := .chan (some b), send := none, zero := z }] false .select) w := by
          unfold execOp
          simp only [hop]
          simp [hcv, run_zeroValue' hz]
        have hcomm : ∀ (b' : Frame) (k : List Item) (cs : List Frame), b'.roundOf = ro → (stepG P true { frame := b'.atR a (.inRegion ops (i :: rest) :: k), callers := cs, status := .running, dying := none } w).bare =
            .comm { frame := b'.atR a (.inRegion ops (i :: rest) :: k), callers := cs, status := .running, dying := none } #[{ chan := .chan (some b), send := none, zero := z }] false .select w := fun b' k cs hro => by
          have hstep := stepGR_op (P := P) (b := b') (k := k) (cs := cs) (w := w) (rest := rest) ho hw
          rw [Oper.semAt_eq _ _ _ (by rw [hop]; intro c h; cases h)] at hstep
          rw [hstep]
          simp [stepG.apply, hex]
        have hfin : ∀ (b' : Frame) (k : List Item) (v : Value), (b'.atR a (.inRegion ops (i :: rest) :: k)).finish v = b'.atR (a.put o.dst v) (.inRegion ops rest :: k) := fun b' k v => by rw [Frame.finish_atR, ho]; rfl
        rcases vs with _ | ⟨v, vs⟩
        · have hbe : buf = [] := List.eq_nil_of_length_eq_zero (by simpa using hlen.symm)
          refine runs_step (a' := a.put o.dst (.tuple #[.int .i64 (-1), .bool false, z])) (w' := w) (fun b' k cs hro => ?_) (hn _ _ _ (hK0 hbe) (hs.put o.dst ?_))
          · rw [step_lone_comm (hcomm b' k cs hro), ← hfin]
            simp [communicate, ways, hb, partners, Goroutine.finishComm, commResult, lone, goInt]
          · refine .tup [.v (.int .i64 (-1)), .v (.bool false), ofV z] [.int .i64 (-1), .bool false, z] rfl fun k c u h1 h2 => ?_
            match k, h1, h2 with
            | 0, h1, h2 => simp at h1 h2; subst h1; subst h2; exact .v _
            | 1, h1, h2 => simp at h1 h2; subst h1; subst h2; exact .v _
            | 2, h1, h2 => simp at h1 h2; subst h1; subst h2; exact rep_ofV z
        · rcases buf with _ | ⟨x, buf⟩
          · simp at hlen
          · have hev := evo_setO (o' := .chan cap vs.toArray false sn (rc + 1) false) hb rfl (fun h => by cases h)
            have hnew := hs.setOwn (x := .ch cap buf) hget hgb hev (fun hst => ⟨vs, sn, rc + 1, setO_same hb, by simpa using hlen, fun k c u h1 h2 => (hr (k + 1) c u (by simpa using h1) (by simpa using h2)).stays hst⟩)
            have hxv : Rep w (excl X g E.h) g x v := hr 0 x v rfl rfl
            have hst : Stays w (excl X g E.h) g (World.setO w b (.chan cap vs.toArray false sn (rc + 1) false)) (excl X g { E.h with bx := hseto i'.1 (.ch cap buf) E.h.bx }) g := by
              refine hev.stays (fun b'' o' _ hm => by rw [hm]; exact .inr (.inl ⟨_, hgeto_mem hget, hgb⟩)) (fun b'' o' _ hx => ?_) (fun _ _ h => h)
              rcases hx with hx | ⟨p, hp, hgp⟩ | hx
              · exact .inl hx
              · have h1 : ∃ p ∈ hseto i'.1 (.ch cap buf) E.h.bx, g[p.1.2]? = some b'' := ⟨p, hp, hgp⟩
                rw [ex_stamp (q := fun j => g[j]? = some b''), hseto_fst, ← ex_stamp (q := fun j => g[j]? = some b'')] at h1
                exact .inr (.inl h1)
              · exact .inr (.inr hx)
            refine runs_step (a' := a.put o.dst (.tuple #[.int .i64 0, .bool true, v])) (w' := World.setO w b (.chan cap vs.toArray false sn (rc + 1) false)) (fun b' k cs hro => ?_) (hn _ _ _ (hsetK_use (hK1 x buf rfl)) (hnew.put o.dst ?_))
            · rw [step_lone_comm (hcomm b' k cs hro), ← hfin]
              simp [communicate, ways, hb, partners, choose, Sem.run, Question.forced, bind, Sem.bind, pure, Goroutine.finishComm, commResult, lone, goInt, World.setO]
            · refine .tup [.v (.int .i64 0), .v (.bool true), x] [.int .i64 0, .bool true, v] rfl fun k c u h1 h2 => ?_
              match k, h1, h2 with
              | 0, h1, h2 => simp at h1 h2; subst h1; subst h2; exact .v _
              | 1, h1, h2 => simp at h1 h2; subst h1; subst h2; exact .v _
              | 2, h1, h2 => simp at h1 h2; subst h1; subst h2; exact hxv.stays hst
      · exact h.elim
    · exact h.elim
  · exact h.elim

theorem acomm_or {o : Oper} {E : Env} {K : Env → Prop} {other : Prop} (h : acomm P o E K other) : acomm P o E K False ∨ other := by
  unfold acomm at *
  split at h
  · exact .inl h
  · exact .inl h
  · exact .inr h
/-- Operations one behind the other, a channel's among them. -/
def aC (P : Program) (ops : Array Oper) : List Oper → Env → (Env → Prop) → Prop
  | [], E, K => K E
  | o :: l, E, K => match o.guard with
    | none => acomm P o E (fun E' => aC P ops l E' K) (apureK P o E (fun r => aC P ops l (E.set o.dst r) K) False)
    | some _ => False
theorem aC_sound {ops : Array Oper} {K : Env → Prop} {ro : Option Nat} {X M : Nat → Nat → Prop} {w0 : World} {g : List Nat} {Q : Exit → Act → World → Prop}
    (hQ : ∀ E a w, K E → St ro X M w0 E a w g → Q .normal a w) : ∀ (l : List Oper) (k : Nat) (E : Env) (a : Act) (w : World),
    (∀ j, l[j]? = ops[k + j]? ∨ l.length ≤ j) → St ro X M w0 E a w g → aC P ops l E K → Runs ro P ops Q (List.range' k l.length) a w
  | [], k, E, a, w, _, hs, h => runs_end (hQ E a w h hs)
  | o :: l, k, E, a, w, hl, hs, h => by
    have h0 : ops[k]? = some o := by
      rcases hl 0 with h | h
      · simpa using h.symm
      · simp at h
    have hl' : ∀ j, l[j]? = ops[k + 1 + j]? ∨ l.length ≤ j := fun j => by
      have := hl (j + 1)
      simp only [List.getElem?_cons_succ, List.length_cons] at this
      rcases this with h | h
      · left; rw [h]; congr 1; omega
      · right; omega
    rw [List.length_cons, List.range'_succ]
    simp only [aC] at h
    cases hgd : o.guard with
    | some p => simp [hgd] at h
    | none =>
      simp only [hgd] at h
      have hw : Region.wanted o (yielded ops a.tmps) = true := by simp [Region.wanted, hgd]
      rcases acomm_or h with h | h
      · exact acomm_runs h hs h0 hw fun E' a' w' hk hs' => aC_sound hQ l (k + 1) E' a' w' hl' hs' hk
      · rcases apureK_use h with ⟨r, q1, q2⟩ | h
        · exact q1.runs hs h0 hw fun a' w' hs' => aC_sound hQ l (k + 1) _ a' w' hl' hs' q2
        · exact h.elim
theorem aw_regionC {id : Nat} {ops : Array Oper} {E : Env} {Q : AExit → Env → Prop} (h : aC P ops ops.toList E (Q .normal)) : AW P (.region id ops false) E Q := by
  unfold AW
  intro ro X M w0 a w g g0 hg hs
  refine runs_region ?_
  rw [List.range_eq_range']
  have := aC_sound (P := P) (ops := ops) (K := Q .normal) (ro := ro) (X := X) (M := M) (w0 := w0) (g := g) (Q := lift ro X M w0 g0 Q) (fun E a w hk hs => ⟨.normal, E, g, hk, rfl, hg, hs⟩) ops.toList 0 E a w (fun j => .inl (by simp)) hs h
  simpa using this
end Go.Vl
