/- Functions: from a body to a contract; what is told anew at a loop's head. -/
import Derived.Test.YtgllcdchhfcoiaaVl9
import Derived.RangeFuncLeaves
namespace Go.Vl
open Go.RowKit
variable {P : Program}

def allP : List Prop → Prop
  | [] => True
  | p :: l => p ∧ allP l
def ares1 (P : Program) (E : Env) : ResultVar → Option (Option Prop × AV)
  | .tmp t => some (none, E.t t)
  | .cell a t => aload P t E.h (E.t a)
def aresL (P : Program) (E : Env) : List ResultVar → Option (List Prop × List AV)
  | [] => some ([], [])
  | r :: l => match ares1 P E r, aresL P E l with
    | some (none, a), some (cs, as) => some (cs, a :: as)
    | some (some c, a), some (cs, as) => some (c :: cs, a :: as)
    | _, _ => none
def ares (P : Program) (fn : Func) (E : Env) : Option (List Prop × AV) :=
  match aresL P E fn.results.toList with
  | some (cs, [a]) => some (cs, a)
  | some (cs, as) => some (cs, .tup as)
  | none => none

def resOne (tmps : Array Value) : ResultVar → Sem Value
  | .tmp t => pure (tmps.getD t undef)
  | .cell a t => do loadVar t (← asAddr (tmps.getD a undef))

theorem ares1_sound {ro : Option Nat} {X M : Nat → Nat → Prop} {w0 : World} {E : Env} {a : Act} {w : World} {g : List Nat} (hs : St ro X M w0 E a w g) {r : ResultVar} {C : Option Prop} {x : AV} (h : ares1 P E r = some (C, x)) (hC : condP C) :
    ∃ u, (resOne a.tmps r).run P w = .ok u w ∧ Rep w (excl X g E.h) g x u := by
  cases r with
  | tmp t =>
    simp only [ares1, Option.some.injEq, Prod.mk.injEq] at h
    obtain ⟨_, rfl⟩ := h
    exact ⟨_, rfl, hs.tm t⟩
  | cell b t =>
    simp only [ares1] at h
    have hb := hs.tm b
    obtain ⟨u, h2, h4⟩ := aload_run h hC hs.hok hb
    have hw : ∃ ad, a.tmps.getD b undef = .pointer (some ad) := by
      generalize a.tmps.getD b undef = v at hb h2
      unfold Instr.loadAt Instr.sureAddr at h2
      cases v <;> simp at h2
      rename_i ad
      cases ad with
      | none => simp at h2
      | some ad => exact ⟨ad, rfl⟩
    obtain ⟨ad, had⟩ := hw
    rw [had] at h2
    simp only [Instr.loadAt, Instr.sureAddr, pure_bind] at h2
    refine ⟨u, ?_, h4⟩
    simp only [resOne, had, asAddr, pure_bind]
    simpa [Instr.loadAt, Instr.sureAddr] using h2

theorem aresL_sound {ro : Option Nat} {X M : Nat → Nat → Prop} {w0 : World} {E : Env} {a : Act} {w : World} {g : List Nat} (hs : St ro X M w0 E a w g) : ∀ (rs : List ResultVar) (cs : List Prop) (xs : List AV), aresL P E rs = some (cs, xs) → allP cs →
    ∃ us : List Value, (rs.mapM (resOne a.tmps)).run P w = .ok us w ∧ us.length = xs.length ∧ ∀ (k : Nat) (c : AV) (u : Value), xs[k]? = some c → us[k]? = some u → Rep w (excl X g E.h) g c u
  | [], cs, xs, h, _ => by simp only [aresL, Option.some.injEq, Prod.mk.injEq] at h; obtain ⟨_, rfl⟩ := h; exact ⟨[], by simp, rfl, by simp⟩
  | r :: rs, cs, xs, h, hcs => by
    obtain ⟨C, x, cs', ys, hx, hys, hC, hcs', rfl⟩ : ∃ C x cs' ys, ares1 P E r = some (C, x) ∧ aresL P E rs = some (cs', ys) ∧ condP C ∧ allP cs' ∧ xs = x :: ys := by
      simp only [aresL] at h
      split at h
      · rename_i x cs' ys hx hys
        cases h
        exact ⟨_, _, _, _, hx, hys, trivial, hcs, rfl⟩
      · rename_i c x cs' ys hx hys
        cases h
        exact ⟨_, _, _, _, hx, hys, hcs.1, hcs.2, rfl⟩
      · cases h
    · obtain ⟨u, h1, h2⟩ := ares1_sound hs hx hC
      obtain ⟨us, h3, h4, h5⟩ := aresL_sound hs rs cs' ys hys hcs'
      refine ⟨u :: us, ?_, by simp [h4], fun k c v hc hv => ?_⟩
      · rw [List.mapM_cons]
        simp only [Sem.run_bind, h1, Result.andThen_ok, h3, Sem.run_pure]
      · cases k with
        | zero => simp at hc hv; subst hc; subst hv; exact h2
        | succ k => simp at hc hv; exact h5 k c v hc hv

theorem ares_sound {ro : Option Nat} {X M : Nat → Nat → Prop} {w0 : World} {E : Env} {a : Act} {w : World} {g : List Nat} (hs : St ro X M w0 E a w g) {fn : Func} {cs : List Prop} {x : AV} (h : ares P fn E = some (cs, x)) (hcs : allP cs) :
    ∃ u, (results fn a.tmps).run P w = .ok u w ∧ Rep w (excl X g E.h) g x u := by
  unfold ares at h
  have key : ∀ xs, aresL P E fn.results.toList = some (cs, xs) → ∃ us : List Value, (results fn a.tmps).run P w = .ok (if h : us.toArray.size = 1 then us.toArray[0] else .tuple us.toArray) w ∧ us.length = xs.length ∧
      ∀ (k : Nat) (c : AV) (u : Value), xs[k]? = some c → us[k]? = some u → Rep w (excl X g E.h) g c u := by
    intro xs hxs
    obtain ⟨us, h1, h2, h3⟩ := aresL_sound hs _ _ _ hxs hcs
    refine ⟨us, ?_, h2, h3⟩
    have e : results fn a.tmps = (do let vs ← fn.results.mapM (resOne a.tmps); pure (if h : vs.size = 1 then vs[0] else .tuple vs)) := by
      unfold results
      have : (fun r : ResultVar => (match r with
        | .tmp t => (pure (a.tmps.getD t undef) : Sem Value)
        | .cell b t => do loadVar t (← asAddr (a.tmps.getD b undef)))) = resOne a.tmps := by funext r; cases r <;> rfl
      rw [← this]
      rfl
    rw [e, Array.mapM_eq_mapM_toList]
    simp only [Sem.run_bind, Sem.run_map]
    rw [h1]
    simp only [Result.andThen_ok, Sem.run_pure]
  split at h
  · rename_i cs' x' hxs
    cases h
    obtain ⟨us, h1, h2, h3⟩ := key _ hxs
    obtain ⟨u, rfl⟩ : ∃ u, us = [u] := by
      match us, h2 with
      | [u], _ => exact ⟨u, rfl⟩
    exact ⟨u, by simpa using h1, h3 0 _ u rfl rfl⟩
  · rename_i cs' xs hne hxs
    cases h
    obtain ⟨us, h1, h2, h3⟩ := key _ hxs
    have hn : ¬ us.toArray.size = 1 := by
      intro h1
      have : xs.length = 1 := by rw [← h2]; simpa using h1
      match xs, this with
      | [y], _ => exact (hne y rfl).elim
    rw [dif_neg hn] at h1
    exact ⟨_, h1, .tup _ us h2 h3⟩
  · cases h

def resQ (P : Program) (fn : Func) (Q : AV → Heap → Prop) (E : Env) : Prop :=
  match ares P fn E with
  | some (cs, r) => allP cs ∧ Q r E.h
  | none => False
/-- How a frame stands that leaves. -/
inductive AMode where
  | returning
  | panicking (x : AV)
def DMRep (w : World) (X : Nat → Nat → Prop) (g : List Nat) : AMode → FrameMode → Prop
  | .returning, m => m = .returning
  | .panicking x, m => ∃ v, m = .panicking [{ v, recovered := false }] ∧ Rep w X g x v
/-- A call that was put off, made as the frame leaves: it returns; how the frame stands behind it. -/
def DCall (P : Program) (f : FuncId) (args : List AV) (u : AMode) (h : Heap) (Q : AMode → Heap → Prop) : Prop :=
  callable P f ∧ ∀ (X : Nat → Nat → Prop) (w : World) (g : List Nat) (vs : List Value) (m : FrameMode), HOk w (excl X g h) g h → (∀ b o, X b o → ∀ i, i ∈ h.ids → g[i]? ≠ some b) → vs.length = args.length →
    (∀ (k : Nat) (c : AV) (u : Value), args[k]? = some c → vs[k]? = some u → Rep w (excl X g h) g c u) → DMRep w (excl X g h) g u m →
    CallsDIn (Fr none) 0 P f vs.toArray m w fun e m' w' => ∃ v u' h' g', e = .returned v ∧ DMRep w' (excl X g' h') g' u' (settle m') ∧ Q u' h' ∧ (∀ (i b : Nat), g[i]? = some b → g'[i]? = some b) ∧ HOk w' (excl X g' h') g' h' ∧ (∀ b o, X b o → ∀ i, i ∈ h'.ids → g'[i]? ≠ some b) ∧
      Evo (excl none2 g h) w w' ∧ (∀ b o, excl none2 g' h' b o → b < w.heap.size → excl none2 g h b o)

def hdel (nm : Nat) : List (Id × Own) → List (Id × Own)
  | [] => []
  | p :: l => bif Nat.beq p.1.1 nm then l else p :: hdel nm l
theorem hdel_sub {nm : Nat} : ∀ {l : List (Id × Own)}, (hdel nm l).Sublist l
  | [] => .slnil
  | p :: l => by
    unfold hdel
    cases Nat.beq p.1.1 nm
    · exact .cons_cons _ hdel_sub
    · exact .cons _ (List.Sublist.refl l)
theorem hdel_ne {nm s : Nat} {x : Own} : ∀ {l : List (Id × Own)} {p : Id × Own}, (l.map (·.1.2)).Nodup → hgeto nm l = some (s, x) → p ∈ hdel nm l → p.1.2 ≠ s
  | [], _, _, h, _ => by simp [hgeto] at h
  | q :: l, p, hn, hg, h => by
    simp only [List.map_cons, List.nodup_cons] at hn
    unfold hdel at h
    unfold hgeto at hg
    cases hb : Nat.beq q.1.1 nm with
    | true =>
      simp only [hb, cond_true, Option.some.injEq, Prod.mk.injEq] at h hg
      intro e
      exact hn.1 (by rw [hg.1, ← e]; exact List.mem_map.2 ⟨p, h, rfl⟩)
    | false =>
      simp only [hb, cond_false, List.mem_cons] at h hg
      rcases h with rfl | h
      · intro e
        exact hn.1 (by rw [e]; exact List.mem_map.2 ⟨_, hgeto_mem hg, rfl⟩)
      · exact hdel_ne hn.2 hg h

/-- What was put off is done, one behind the other. -/
def aleave (P : Program) (fn : Func) (Q : Res → Heap → Prop) : List DA → AMode → Env → Prop
  | [], .returning, E => resQ P fn (fun r h => Q (.ret r) h) E
  | [], .panicking x, E => Q (.pan x) E.h
  | .col i :: ds, u, E => match hgeto i.1 E.h.bx with
    | some (s, .df) => s = i.2 ∧ aleave P fn Q ds u { E with h := { E.h with bx := hdel i.1 E.h.bx }, df := some ds }
    | _ => False
  | .fn f caps args :: ds, u, E => DCall P f (args ++ caps) u E.h fun u' h' => aleave P fn Q ds u' { E with h := h', df := some ds }
/-- What is asked where a body ends. -/
def leaveQ (P : Program) (fn : Func) (Q : Res → Heap → Prop) : AExit → Env → Prop
  | .normal, E => match E.df with
    | some ds => aleave P fn Q ds .returning E
    | none => False
  | .ret, E => match E.df with
    | some ds => aleave P fn Q ds .returning E
    | none => False
  | .panic x, E => match E.df with
    | some ds => aleave P fn Q ds (.panicking x) E
    | none => False
  | _, _ => False
def retQ (P : Program) (fn : Func) (Q : AV → Heap → Prop) : AExit → Env → Prop := leaveQ P fn (retR Q)

def entry (fn : Func) (args : List AV) (h : Heap) : Env := ⟨args.length + (fn.ntmps - args.length), fun k => args.getD k .any, h, some []⟩

theorem resQ_eq (P : Program) (fn : Func) (Q : AV → Heap → Prop) (E : Env) : resQ P fn Q E = (match ares P fn E with | some (cs, r) => allP cs ∧ Q r E.h | none => False) := rfl

def endQ (X : Nat → Nat → Prop) (w : World) (g : List Nat) (h : Heap) (Q : Res → Heap → Prop) (e : Ending) (w' : World) : Prop :=
  ∃ r h' g', ResRep w' (excl X g' h') g' r e ∧ Q r h' ∧ (∀ (i b : Nat), g[i]? = some b → g'[i]? = some b) ∧ HOk w' (excl X g' h') g' h' ∧ (∀ b o, X b o → ∀ i, i ∈ h'.ids → g'[i]? ≠ some b) ∧
      Evo (excl none2 g h) w w' ∧ (∀ b o, excl none2 g' h' b o → b < w.heap.size → excl none2 g h b o)

theorem DMRep.stays {w w' : World} {X X' : Nat → Nat → Prop} {g g' : List Nat} (hs : Stays w X g w' X' g') {u : AMode} {m : FrameMode} (h : DMRep w X g u m) : DMRep w' X' g' u m := by
  cases u with
  | returning => exact h
  | panicking x => obtain ⟨v, h1, h2⟩ := h; exact ⟨v, h1, h2.stays hs⟩
theorem DMRep.run {w : World} {X : Nat → Nat → Prop} {g : List Nat} {u : AMode} {m : FrameMode} (h : DMRep w X g u m) : m ≠ .run := by
  cases u with
  | returning => rw [show m = .returning from h]; intro e; cases e
  | panicking x => obtain ⟨v, rfl, _⟩ := h; intro e; cases e

theorem aleave_sound {fn : Func} {Q : Res → Heap → Prop} {X : Nat → Nat → Prop} {w0 : World} {h0 : Heap} {g0 : List Nat} : ∀ (ds : List DA) (u : AMode) (E : Env) (a : Act) (w : World) (g : List Nat) (m : FrameMode),
    aleave P fn Q ds u E → E.df = some ds → (∀ (i b : Nat), g0[i]? = some b → g[i]? = some b) → St none X (excl none2 g0 h0) w0 E a w g → DMRep w (excl X g E.h) g u m →
    LeavesInM (Fr none) 0 P fn a.tmps (endQ X w0 g0 h0 Q) a.defers m w
  | [], .returning, E, a, w, g, m, h, hd, hg, s, hm => by
    have e0 : a.defers = [] := by have := s.def_; rw [hd] at this; exact this.nil
    cases (hm : m = .returning)
    rw [e0]
    unfold aleave resQ at h
    split at h
    · rename_i cs r hres
      obtain ⟨u, h1, h2⟩ := ares_sound s hres h.1
      exact ⟨u, h1, .ret r, E.h, g, ⟨u, rfl, h2⟩, h.2, hg, s.hok, s.sep, s.evo, s.loc⟩
    · exact h.elim
  | [], .panicking x, E, a, w, g, m, h, hd, hg, s, hm => by
    have e0 : a.defers = [] := by have := s.def_; rw [hd] at this; exact this.nil
    obtain ⟨v, rfl, hr⟩ := hm
    rw [e0]
    exact ⟨.pan x, E.h, g, ⟨v, rfl, hr⟩, h, hg, s.hok, s.sep, s.evo, s.loc⟩
  | .col i :: ds, u, E, a, w, g, m, h, hd, hg, s, hm => by
    have hdr : DReps w (excl X g E.h) g (.col i :: ds) a.defers := by have := s.def_; rw [hd] at this; exact this
    obtain ⟨tmps, defers⟩ := a
    dsimp only at hdr ⊢
    cases hdr with
    | cons h1 h2 =>
      rename_i es
      cases h1 with
      | col _ b hgb =>
        unfold aleave at h
        split at h
        · rename_i st hst
          obtain ⟨rfl, h⟩ := h
          have hmem := hgeto_mem hst
          obtain ⟨b', hb1, hb2⟩ := s.hok.bx _ hmem
          dsimp only at hb1
          rw [hgb] at hb1
          cases hb1
          have hblk : w.heap[b]? = some (.deferred (some [])) := hb2
          have hbl := lt_of_block hblk
          let w' : World := World.setO w b (.deferred none)
          have hoth : ∀ k, k ≠ b → w'.heap[k]? = w.heap[k]? := fun k hk => setO_other hk
          have hrun : (Instr.takeDeferred b).run P w = .ok [] w' := by
            simp only [Instr.takeDeferred, Sem.run_bind, run_getObjG hblk, Result.andThen_ok, run_setObjG hblk, Sem.run_pure]
            rfl
          have hev : Evo (fun b' _ => b' = b) w w' := evo_setO hblk rfl (fun h => by cases h)
          have hexX : ∀ o, excl X g E.h b o := fun o => .inr (.inl ⟨_, hmem, hgb⟩)
          have hst' : Stays w (excl X g E.h) g w' (excl X g E.h) g := hev.stays (fun b' o _ hm => by rw [hm]; exact hexX o) (fun _ _ _ x => x) (fun _ _ x => x)
          have hle : ∀ Y : Nat → Nat → Prop, ∀ b' o, excl Y g { E.h with bx := hdel i.1 E.h.bx } b' o → excl Y g E.h b' o := by
            rintro Y b' o (hx | ⟨p, hp, hgp⟩ | ⟨p, hp, hgp⟩)
            · exact .inl hx
            · exact .inr (.inl ⟨p, hdel_sub.subset hp, hgp⟩)
            · exact .inr (.inr ⟨p, hp, hgp⟩)
          have hst2 : Stays w (excl X g E.h) g w' (excl X g { E.h with bx := hdel i.1 E.h.bx }) g := hst'.trans (Stays.less (hle X))
          have hids : (Heap.ids { E.h with bx := hdel i.1 E.h.bx }).Sublist E.h.ids := by
            unfold Heap.ids
            exact (hdel_sub.map _).append (List.Sublist.refl _)
          have hs' : St none X (excl none2 g0 h0) w0 { E with h := { E.h with bx := hdel i.1 E.h.bx }, df := some ds } ⟨tmps, es⟩ w' g := by
            refine ⟨⟨fun p hp => ?_, fun p hp => ?_, s.hok.nodup.sublist (hids.map _), s.hok.nx, fun b' o hx => ?_⟩, fun k => (s.tm k).stays hst2, s.n, s.evo.and_then hev (fun b' o hb' e => ?_), fun b' o hx hb' => s.loc b' o (hle none2 b' o hx) hb', DReps.stays hst2 h2,
              fun b' o hx j hj => s.sep b' o hx j (hids.subset hj), ⟨fun _ => rfl, fun h0 => (by cases h0)⟩, s.rnd⟩
            · obtain ⟨b', q1, q2⟩ := s.hok.bx p (hdel_sub.subset hp)
              have hne : b' ≠ b := fun e => own_ne s.hok (List.mem_append_left _ (List.mem_map.2 ⟨_, hmem, rfl⟩) : i.2 ∈ E.h.ids) (List.mem_append_left _ (List.mem_map.2 ⟨p, hdel_sub.subset hp, rfl⟩) : p.1.2 ∈ E.h.ids) (Ne.symm (hdel_ne (ids_nodup s.hok) hst hp)) hgb (e ▸ q1)
              exact ⟨b', q1, q2.stays hst2 (hoth b' hne)⟩
            · obtain ⟨b', vs', e', q1, q2, q3⟩ := s.hok.pm p hp
              have hne : b' ≠ b := fun e => by rw [e, hblk] at q2; cases q2
              exact ⟨b', vs', e', q1, (hoth b' hne).trans q2, q3⟩
            · have := s.hok.bd b' o (hle X b' o hx)
              simpa [w', World.setO] using this
            · rw [e]; exact s.loc b o (.inr (.inl ⟨_, hmem, hgb⟩)) (e ▸ hb')
          refine ⟨hm.run, .inl ⟨b, w', rfl, hrun, ?_⟩⟩
          exact aleave_sound ds u _ ⟨tmps, es⟩ w' g m h rfl hg hs' (hm.stays hst2)
        · exact h.elim
  | .fn f caps args :: ds, u, E, a, w, g, m, h, hd, hg, s, hm => by
    have hdr : DReps w (excl X g E.h) g (.fn f caps args :: ds) a.defers := by have := s.def_; rw [hd] at this; exact this
    obtain ⟨tmps, defers⟩ := a
    dsimp only at hdr ⊢
    cases hdr with
    | cons h1 h2 =>
      rename_i es
      cases h1 with
      | fn _ _ _ v1 v2 hn1 hn2 r1 r2 =>
        unfold aleave at h
        obtain ⟨⟨fn', hfn, hbody, hname⟩, hcall⟩ := h
        have hrun : (invoke (.fn (.func f) v1.toArray) v2.toArray).run P w = .ok (.enter f (v2 ++ v1).toArray) w := by
          have e : v2.toArray ++ v1.toArray = (v2 ++ v1).toArray := by simp
          simp only [invoke, e]
          simp only [callFunc, Sem.run_bind, run_program, Result.andThen_ok, hfn, hname, hbody, Bool.false_eq_true, if_false, Sem.run_pure]
        refine ⟨hm.run, .inr ⟨fun h0 => (by cases h0), .func f, v1.toArray, f, (v2 ++ v1).toArray, rfl, hrun, fun _ _ => trivial, ?_⟩⟩
        refine CallsDIn.mono (hcall X w g (v2 ++ v1) m s.hok s.sep (by simp [hn1, hn2]) (fun k c u' hc hu => ?_) hm) fun e m' w' ⟨v, u', h', g', a1, a2, a3, a4, a5, a6, a7, a8⟩ => ?_
        · rw [List.getElem?_append] at hc hu
          rw [hn2] at hu
          split at hc
          · rename_i hk; rw [if_pos hk] at hu; exact r2 k c u' hc hu
          · rename_i hk; rw [if_neg hk] at hu; exact r1 _ c u' hc hu
        · subst a1
          have hst : Stays w (excl X g E.h) g w' (excl X g' h') g' := by
            refine a7.stays (fun b o _ hx => excl_none hx) (fun b o hb' hx => ?_) a4
            rcases hx with hx | hx | hx
            · exact .inl hx
            · exact excl_none (a8 b o (.inr (.inl hx)) hb')
            · exact excl_none (a8 b o (.inr (.inr hx)) hb')
          have hnew : St none X (excl none2 g0 h0) w0 { E with h := h', df := some ds } ⟨tmps, es⟩ w' g' :=
            ⟨a5, fun k => (s.tm k).stays hst, s.n, s.evo.and_then a7 (fun b o hb' hx => s.loc b o hx hb'), fun b o hx hb' => s.loc b o (a8 b o hx (Nat.lt_of_lt_of_le hb' s.evo.size)) hb', DReps.stays hst h2, a6, ⟨fun _ => rfl, fun h0 => (by cases h0)⟩, s.rnd⟩
          exact aleave_sound ds u' _ ⟨tmps, es⟩ w' g' (settle m') a3 rfl (fun i b hi => a4 i b (hg i b hi)) hnew a2

theorem ecallR_of_aw {f : FuncId} {fn : Func} {c : Code} {args : List AV} {h : Heap} {Q : Res → Heap → Prop} (hf : P.funcs[f]? = some fn) (hb : fn.body = some c) (hn : (fn.name == "runtime.NumGoroutine") = false)
    (hw : AW P c (entry fn args h) (leaveQ P fn Q)) : ECallR P f args h Q := by
  refine ⟨⟨fn, hf, by rw [hb]; rfl, hn⟩, fun X w g vs hk hsep hl hr => ?_⟩
  refine (callsFr (r := none) (n := 0)).1 (callsIn_of_wp_marks hf hb trivial ?_)
  have hs : St none X (excl none2 g h) w (entry fn args h) { tmps := vs.toArray ++ Array.replicate (fn.ntmps - vs.toArray.size) undef, defers := [] } w g := by
    refine ⟨hk, fun k => ?_, by simp [entry, hl], Evo.refl _ _, fun b o hx _ => hx, DReps.nil, hsep, ⟨fun _ => rfl, fun h0 => (by cases h0)⟩, fun _ h0 => (by cases h0)⟩
    simp only [entry, List.getD]
    cases hc : args[k]? with
    | none => exact .any _
    | some c =>
      have hlt : k < args.length := (List.getElem?_eq_some_iff.1 hc).1
      have hlv : k < vs.length := by omega
      have hv : (vs.toArray ++ Array.replicate (fn.ntmps - vs.toArray.size) undef).getD k undef = vs[k] := by
        rw [Array.getD_eq_getD_getElem?, Array.getElem?_append_left (by simpa using hlv)]
        simp [hlv]
      show Rep _ _ _ _ ((vs.toArray ++ Array.replicate (fn.ntmps - vs.toArray.size) undef).getD k undef)
      rw [hv]
      exact hr k c _ hc (List.getElem?_eq_getElem hlv)
  unfold AW at hw
  refine wpIn_mono (hw none X _ w _ w g g (fun _ _ h => h) hs) fun ex a' w' hq => ?_
  obtain ⟨ax, E', g', q, hx, hg', s⟩ := hq
  have fin : ∀ (u : AMode) (m : FrameMode), DMRep w' (excl X g' E'.h) g' u m → (match E'.df with | some ds => aleave P fn Q ds u E' | none => False) → LeavesInM (Fr none) 0 P fn a'.tmps (endQ X w g h Q) a'.defers m w' := by
    intro u m hm q
    cases hd : E'.df with
    | none => rw [hd] at q; exact q.elim
    | some ds => rw [hd] at q; exact aleave_sound ds u E' a' w' g' m q hd hg' s hm
  cases ax with
  | normal => cases (hx : ex = .normal); exact fin .returning _ rfl q
  | ret => cases (hx : ex = .ret); exact fin .returning _ rfl q
  | panic x => obtain ⟨v, rfl, hr⟩ := hx; exact fin (.panicking x) _ ⟨v, rfl, hr⟩ q
  | exit i => exact q.elim
  | goto i => exact q.elim
theorem ecall_of_aw {f : FuncId} {fn : Func} {c : Code} {args : List AV} {h : Heap} {Q : AV → Heap → Prop} (hf : P.funcs[f]? = some fn) (hb : fn.body = some c) (hn : (fn.name == "runtime.NumGoroutine") = false)
    (hw : AW P c (entry fn args h) (retQ P fn Q)) : ECall P f args h Q := ecallR_of_aw hf hb hn hw

/-- A contract that speaks of no memory of one's own. -/
def PCall (P : Program) (f : FuncId) (args : List AV) (R : AV → Prop) : Prop := ∀ nx, ECall P f args ⟨[], [], nx, 0⟩ fun r h' => R r ∧ h'.bx = [] ∧ h'.pm = []

theorem pcall_of_aw {f : FuncId} {fn : Func} {c : Code} {args : List AV} {R : AV → Prop} (hf : P.funcs[f]? = some fn) (hb : fn.body = some c) (hn : (fn.name == "runtime.NumGoroutine") = false)
    (hw : ∀ nx, AW P c (entry fn args ⟨[], [], nx, 0⟩) (retQ P fn fun r _ => R r)) : PCall P f args R := by
  intro nx
  have h1 := ecall_of_aw hf hb hn (hw nx)
  refine ⟨h1.1, fun X w g vs hk hsep hl hr => (h1.2 X w g vs hk hsep hl hr).mono fun e w' ⟨r, h', g', a6, a2, a3, a4, a5, a7, a8⟩ => ?_⟩
  cases r with
  | pan x => exact a2.elim
  | ret r =>
  -- what is one's own behind the call is let go
  refine ⟨.ret r, ⟨[], [], h'.nx, h'.nn⟩, g', a6.stays (Stays.less fun b o hx => hx.elim .inl (fun h => h.elim (fun ⟨p, hp, _⟩ => by cases hp) (fun ⟨p, hp, _⟩ => by cases hp))), ⟨a2, rfl, rfl⟩, a3, ⟨by simp, by simp, by simp [Heap.ids], a4.nx, fun b o hx => a4.bd b o (hx.elim .inl (fun h => h.elim (fun ⟨p, hp, _⟩ => by cases hp) (fun ⟨p, hp, _⟩ => by cases hp)))⟩,
    fun b o hx i hi => by simp [Heap.ids] at hi, a7, ?_⟩
  rintro b o (hx | ⟨p, hp, _⟩ | ⟨p, hp, _⟩)
  · exact hx.elim
  · cases hp
  · cases hp

theorem PCall.mono {f : FuncId} {args : List AV} {R R' : AV → Prop} (h : PCall P f args R) (hr : ∀ r, R r → R' r) : PCall P f args R' := fun nx => (h nx).mono fun r _ ⟨h1, h2⟩ => ⟨hr r h1, h2⟩

theorem PCall.over {f : FuncId} {args : List AV} {R : AV → Prop} (hc : PCall P f args R) (h : Heap) : ECall P f args h fun r h' => R r ∧ h'.bx = h.bx ∧ h'.pm = h.pm := by
  have h1 := (hc h.nx).frame (h := h) h.bx h.pm (by simp) (by simp) rfl
  refine h1.mono fun r h' hq => ?_
  obtain ⟨h1', ⟨q1, q2, q3⟩, rfl⟩ := hq
  simp [q1, q2, q3]

/-- A call of such a function: the rest of what is told stays; the numbers go on. -/
theorem aop_pcall {o : Oper} {E : Env} {K : Env → Prop} {fo : Operand} {args : Array Operand} {tys : Array TypeId} {f : FuncId} {first caps as : List AV} {R : AV → Prop} {Kp : AV → Env → Prop}
    (ho : o.op = .call { callee := .value fo, args := args, argTypes := tys }) (hf : E.ev fo = .fn (.func f) first caps)
    (hc : PCall P f as R) (hl : LeL (first ++ args.toList.map E.ev ++ caps) as)
    (hk : ∀ r nx, R r → K (({ E with h := { E.h with nx := nx } } : Env).set o.dst r)) : AOp P o E K Kp :=
  aop_call ho hf ((hc.over E.h).args hl) fun r h' ⟨h1, h2, h3⟩ => by
    refine ⟨r, { E.h with nx := h'.nx }, AVle.refl _, ⟨by rw [h2], by rw [h3], rfl⟩, hk r _ h1⟩

/-- The value bears no number of what is one's own. -/
def NoId (a : AV) : Prop := ∀ w X g g' u, Rep w X g a u → Rep w X g' a u
theorem NoId.v (x : Value) : NoId (.v x) := fun _ _ _ _ _ h => by cases h; exact .v _
theorem NoId.any : NoId .any := fun _ _ _ _ _ _ => .any _
theorem NoId.ag {cs : List AV} (h : ∀ c ∈ cs, NoId c) : NoId (.ag cs) := fun w X g g' u hr => by
  cases hr with
  | ag _ vs hn hr => exact .ag _ vs hn fun k c u hc hu => h c (List.mem_of_getElem? hc) w X g g' u (hr k c u hc hu)
theorem NoId.tup {cs : List AV} (h : ∀ c ∈ cs, NoId c) : NoId (.tup cs) := fun w X g g' u hr => by
  cases hr with
  | tup _ vs hn hr => exact .tup _ vs hn fun k c u hc hu => h c (List.mem_of_getElem? hc) w X g g' u (hr k c u hc hu)
theorem NoId.sl {sz n : Nat} {f : Nat → AV} (h : ∀ i, i < n → ∀ c ∈ (f i).cells, NoId c) : NoId (.sl sz n f) := fun w X g g' u hr => by
  cases hr with
  | sl0 => exact .sl0 _ _ _ _
  | sl _ _ _ b off cap vs hlen hcap hcell hcs hr => exact .sl _ _ _ b off cap vs hlen hcap hcell hcs fun i j c u hi hj hu => h i hi c (List.mem_of_getElem? hj) w X g g' u (hr i j c u hi hj hu)

/-- In a region that draws. -/
theorem yields_pcall {o : Oper} {E : Env} {fo : Operand} {args : Array Operand} {tys : Array TypeId} {f : FuncId} {first caps as : List AV} {R : AV → Prop} {r : AV}
    (ho : o.op = .call { callee := .value fo, args := args, argTypes := tys }) (hf : E.ev fo = .fn (.func f) first caps)
    (hc : PCall P f as R) (hl : LeL (first ++ args.toList.map E.ev ++ caps) as) (hr : ∀ r', R r' → AVle r' r) (hid : NoId r) : Yields P o E r := by
  refine ⟨(by rw [ho]; intro c h0; cases h0), ?_⟩
  intro ρ w X g hk hx
  obtain ⟨⟨fn, hfn, hbody, hname⟩, hcall⟩ := (hc E.h.nx).args hl
  have hfr := hx fo (by simp [ho, Op.operands, Call.operands])
  rw [hf] at hfr
  generalize hu : ρ fo = u at hfr
  cases hfr with
  | fn _ _ _ v1 v2 hl1 hl2 hr1 hr2 =>
    have hex : excl (excl X g E.h) g ⟨[], [], E.h.nx, 0⟩ = excl X g E.h := by
      funext b o
      apply propext
      constructor
      · rintro (h | ⟨p, hp, _⟩ | ⟨p, hp, _⟩)
        · exact h
        · cases hp
        · cases hp
      · exact .inl
    have hrun : (execOp ρ o).run P w = .ok (.enter f (v1 ++ args.toList.map ρ ++ v2).toArray) w := by
      have e : v1.toArray ++ args.map ρ ++ v2.toArray = (v1 ++ args.toList.map ρ ++ v2).toArray := by
        apply Array.ext'; simp
      unfold execOp
      simp only [ho, resolve, hu, Deferred.ofValue, pure_bind, invoke, e]
      simp only [callFunc, Sem.run_bind, run_program, Result.andThen_ok, hfn, hname, hbody, Bool.false_eq_true, if_false, Sem.run_pure]
    have hxs : ∀ x ∈ args.toList, Rep w (excl X g E.h) g (E.ev x) (ρ x) := fun x hm => hx x (by
      rw [ho]; simp only [Op.operands, Call.operands]; exact Array.mem_append_right _ (Array.mem_toList_iff.1 hm))
    refine .inr ⟨f, _, w, hrun, Evo.refl _ _, ?_⟩
    have hcs := hcall (excl X g E.h) w g (v1 ++ args.toList.map ρ ++ v2) (by rw [hex]; exact ⟨by simp, by simp, by simp [Heap.ids], hk.nx, hk.bd⟩) (fun b o _ i hi => by simp [Heap.ids] at hi) (by simp [hl1, hl2]) (fun k c u hc hu => by
      rw [hex]
      rw [List.getElem?_append] at hc hu
      simp only [List.length_append, List.length_map, hl1, hl2] at hc hu
      split at hc
      · rename_i h1
        rw [if_pos h1] at hu
        rw [List.getElem?_append] at hc hu
        rw [hl1] at hu
        split at hc
        · rename_i h2; rw [if_pos h2] at hu; exact hr1 k c u hc hu
        · rename_i h2; rw [if_neg h2] at hu
          exact reps_map hxs _ c u hc hu
      · rename_i h1
        rw [if_neg h1] at hu
        exact hr2 _ c u hc hu)
    refine Calls.mono hcs fun e w' ⟨r', h', g', a6, q, a3, a4, a5, a7, a8⟩ => ?_
    cases r' with
    | pan x => exact q.elim
    | ret r' =>
    obtain ⟨a2, b1, b2⟩ := q
    obtain ⟨u, a1, a6⟩ := a6
    refine ⟨u, a1, a7.mono fun b o _ hx => ?_, ?_⟩
    · rcases hx with hx | ⟨p, hp, _⟩ | ⟨p, hp, _⟩
      · exact hx
      · cases hp
      · cases hp
    · have h5 := hr r' a2 _ _ _ _ a6
      have h6 := hid _ _ _ g _ h5
      refine h6.stays (Stays.less fun b o hx => .inl hx)

/-- What is told at a loop's head: some slots, what is one's own. -/
def look : List (Nat × AV) → Nat → AV
  | [], _ => .any
  | p :: l, k => bif Nat.beq p.1 k then p.2 else look l k
def mk (n : Nat) (L : List (Nat × AV)) (h : Heap) (df : Option (List DA) := some []) : Env := ⟨n, look L, h, df⟩
def LeT (t : Nat → AV) : List (Nat × AV) → Prop
  | [] => True
  | p :: l => AVle (t p.1) p.2 ∧ LeT t l
theorem LeT.look {t : Nat → AV} : ∀ {L : List (Nat × AV)}, LeT t L → ∀ k, AVle (t k) (look L k)
  | [], _, k => AVle.any _
  | p :: l, h, k => by
    unfold Vl.look
    cases hb : Nat.beq p.1 k with
    | true => have := Nat.eq_of_beq_eq_true hb; subst this; exact h.1
    | false => exact LeT.look h.2 k
theorem ele_mk {E : Env} {n : Nat} {L : List (Nat × AV)} {h : Heap} (hn : E.n = n) (hh : E.h = h) (hL : LeT E.t L) : ELe E (mk n L h E.df) := by
  subst hn; subst hh
  intro ro X M w0 a w g hs
  exact ⟨hs.hok, fun k => hL.look k _ _ _ _ (hs.tm k), hs.n, hs.evo, hs.loc, hs.def_, hs.sep, hs.top, hs.rnd⟩
/-- Variables and rows of one's own that are no more wanted are let go. -/
theorem ele_drop {E : Env} {bx : List (Id × Own)} {pm : List (Id × Nat)} {nn : Nat} (hb : bx.Sublist E.h.bx) (hp : pm.Sublist E.h.pm) : ELe E { E with h := ⟨bx, pm, E.h.nx, nn⟩ } := by
  intro ro X M w0 a w g hs
  have hex : ∀ b o, excl X g ⟨bx, pm, E.h.nx, nn⟩ b o → excl X g E.h b o := by
    rintro b o (h | ⟨p, hp', hg⟩ | ⟨p, hp', hg⟩)
    · exact .inl h
    · exact .inr (.inl ⟨p, hb.subset hp', hg⟩)
    · exact .inr (.inr ⟨p, hp.subset hp', hg⟩)
  have hex2 : ∀ b o, excl none2 g ⟨bx, pm, E.h.nx, nn⟩ b o → excl none2 g E.h b o := by
    rintro b o (h | ⟨p, hp', hg⟩ | ⟨p, hp', hg⟩)
    · exact .inl h
    · exact .inr (.inl ⟨p, hb.subset hp', hg⟩)
    · exact .inr (.inr ⟨p, hp.subset hp', hg⟩)
  have hst := Stays.less (w := w) (g := g) hex
  have hids : (Heap.ids ⟨bx, pm, E.h.nx, nn⟩).Sublist E.h.ids := by
    unfold Heap.ids
    exact (hb.map _).append (hp.map _)
  refine ⟨⟨fun p h => ?_, fun p h => hs.hok.pm p (hp.subset h), hs.hok.nodup.sublist (hids.map _), hs.hok.nx, fun b o h => hs.hok.bd b o (hex b o h)⟩, fun k => (hs.tm k).stays hst, hs.n, hs.evo, fun b o h => hs.loc b o (hex2 b o h), hs.def_.stays hst, fun b o h i hi => hs.sep b o h i (hids.subset hi), hs.top, hs.rnd⟩
  obtain ⟨b, h1, h2⟩ := hs.hok.bx p (hb.subset h)
  exact ⟨b, h1, h2.stays hst rfl⟩
theorem ELe.trans {E E' E'' : Env} (h : ELe E E') (k : ELe E' E'') : ELe E E'' := fun ro X M w0 a w g hs => k ro X M w0 a w g (h ro X M w0 a w g hs)
attribute [irreducible] resQ
end Go.Vl
