/- Functions: from a body to a contract; what is told anew at a loop's head. -/
import Derived.Test.YtbgpfhgpjbfcgaaVl9
namespace Go.Vl
open Go.RowKit
variable {P : Program}

def allP : List Prop → Prop
  | [] => True
  | p :: l => p ∧ allP l
def ares1 (P : Program) (E : Env) : ResultVar → Option (Option Prop × AV)
  | .tmp t => some (none, E.t t)
  | .cell a t => aload P t E.h (E.t a)
def aresL (P : Program) (E : Env) : List ResultVar → Option (List Prop × List AV)
  | [] => some ([], [])
  | r :: l => match ares1 P E r, aresL P E l with
    | some (none, a), some (cs, as) => some (cs, a :: as)
    | some (some c, a), some (cs, as) => some (c :: cs, a :: as)
    | _, _ => none
def ares (P : Program) (fn : Func) (E : Env) : Option (List Prop × AV) :=
  match aresL P E fn.results.toList with
  | some (cs, [a]) => some (cs, a)
  | some (cs, as) => some (cs, .tup as)
  | none => none

def resOne (tmps : Array Value) : ResultVar → Sem Value
  | .tmp t => pure (tmps.getD t undef)
  | .cell a t => do loadVar t (← asAddr (tmps.getD a undef))

theorem ares1_sound {X M : Nat → Nat → Prop} {w0 : World} {E : Env} {a : Act} {w : World} {g : List Nat} (hs : St X M w0 E a w g) {r : ResultVar} {C : Option Prop} {x : AV} (h : ares1 P E r = some (C, x)) (hC : condP C) :
    ∃ u, (resOne a.tmps r).run P w = .ok u w ∧ Rep w (excl X g E.h) g x u := by
  cases r with
  | tmp t =>
    simp only [ares1, Option.some.injEq, Prod.mk.injEq] at h
    obtain ⟨_, rfl⟩ := h
    exact ⟨_, rfl, hs.tm t⟩
  | cell b t =>
    simp only [ares1] at h
    have hb := hs.tm b
    obtain ⟨u, h2, h4⟩ := aload_run h hC hs.hok hb
    have hw : ∃ ad, a.tmps.getD b undef = .pointer (some ad) := by
      generalize a.tmps.getD b undef = v at hb h2
      unfold Instr.loadAt Instr.sureAddr at h2
      cases v <;> simp at h2
      rename_i ad
      cases ad with
      | none => simp at h2
      | some ad => exact ⟨ad, rfl⟩
    obtain ⟨ad, had⟩ := hw
    rw [had] at h2
    simp only [Instr.loadAt, Instr.sureAddr, pure_bind] at h2
    refine ⟨u, ?_, h4⟩
    simp only [resOne, had, asAddr, pure_bind]
    simpa [Instr.loadAt, Instr.sureAddr] using h2

theorem aresL_sound {X M : Nat → Nat → Prop} {w0 : World} {E : Env} {a : Act} {w : World} {g : List Nat} (hs : St X M w0 E a w g) : ∀ (rs : List ResultVar) (cs : List Prop) (xs : List AV), aresL P E rs = some (cs, xs) → allP cs →
    ∃ us : List Value, (rs.mapM (resOne a.tmps)).run P w = .ok us w ∧ us.length = xs.length ∧ ∀ (k : Nat) (c : AV) (u : Value), xs[k]? = some c → us[k]? = some u → Rep w (excl X g E.h) g c u
  | [], cs, xs, h, _ => by simp only [aresL, Option.some.injEq, Prod.mk.injEq] at h; obtain ⟨_, rfl⟩ := h; exact ⟨[], by simp, rfl, by simp⟩
  | r :: rs, cs, xs, h, hcs => by
    obtain ⟨C, x, cs', ys, hx, hys, hC, hcs', rfl⟩ : ∃ C x cs' ys, ares1 P E r = some (C, x) ∧ aresL P E rs = some (cs', ys) ∧ condP C ∧ allP cs' ∧ xs = x :: ys := by
      simp only [aresL] at h
      split at h
      · rename_i x cs' ys hx hys
        cases h
        exact ⟨_, _, _, _, hx, hys, trivial, hcs, rfl⟩
      · rename_i c x cs' ys hx hys
        cases h
        exact ⟨_, _, _, _, hx, hys, hcs.1, hcs.2, rfl⟩
      · cases h
    · obtain ⟨u, h1, h2⟩ := ares1_sound hs hx hC
      obtain ⟨us, h3, h4, h5⟩ := aresL_sound hs rs cs' ys hys hcs'
      refine ⟨u :: us, ?_, by simp [h4], fun k c v hc hv => ?_⟩
      · rw [List.mapM_cons]
        simp only [Sem.run_bind, h1, Result.andThen_ok, h3, Sem.run_pure]
      · cases k with
        | zero => simp at hc hv; subst hc; subst hv; exact h2
        | succ k => simp at hc hv; exact h5 k c v hc hv

theorem ares_sound {X M : Nat → Nat → Prop} {w0 : World} {E : Env} {a : Act} {w : World} {g : List Nat} (hs : St X M w0 E a w g) {fn : Func} {cs : List Prop} {x : AV} (h : ares P fn E = some (cs, x)) (hcs : allP cs) :
    ∃ u, (results fn a.tmps).run P w = .ok u w ∧ Rep w (excl X g E.h) g x u := by
  unfold ares at h
  have key : ∀ xs, aresL P E fn.results.toList = some (cs, xs) → ∃ us : List Value, (results fn a.tmps).run P w = .ok (if h : us.toArray.size = 1 then us.toArray[0] else .tuple us.toArray) w ∧ us.length = xs.length ∧
      ∀ (k : Nat) (c : AV) (u : Value), xs[k]? = some c → us[k]? = some u → Rep w (excl X g E.h) g c u := by
    intro xs hxs
    obtain ⟨us, h1, h2, h3⟩ := aresL_sound hs _ _ _ hxs hcs
    refine ⟨us, ?_, h2, h3⟩
    have e : results fn a.tmps = (do let vs ← fn.results.mapM (resOne a.tmps); pure (if h : vs.size = 1 then vs[0] else .tuple vs)) := by
      unfold results
      have : (fun r : ResultVar => (match r with
        | .tmp t => (pure (a.tmps.getD t undef) : Sem Value)
        | .cell b t => do loadVar t (← asAddr (a.tmps.getD b undef)))) = resOne a.tmps := by funext r; cases r <;> rfl
      rw [← this]
      rfl
    rw [e, Array.mapM_eq_mapM_toList]
    simp only [Sem.run_bind, Sem.run_map]
    rw [h1]
    simp only [Result.andThen_ok, Sem.run_pure]
  split at h
  · rename_i cs' x' hxs
    cases h
    obtain ⟨us, h1, h2, h3⟩ := key _ hxs
    obtain ⟨u, rfl⟩ : ∃ u, us = [u] := by
      match us, h2 with
      | [u], _ => exact ⟨u, rfl⟩
    exact ⟨u, by simpa using h1, h3 0 _ u rfl rfl⟩
  · rename_i cs' xs hne hxs
    cases h
    obtain ⟨us, h1, h2, h3⟩ := key _ hxs
    have hn : ¬ us.toArray.size = 1 := by
      intro h1
      have : xs.length = 1 := by rw [← h2]; simpa using h1
      match xs, this with
      | [y], _ => exact (hne y rfl).elim
    rw [dif_neg hn] at h1
    exact ⟨_, h1, .tup _ us h2 h3⟩
  · cases h

def resQ (P : Program) (fn : Func) (Q : AV → Heap → Prop) (E : Env) : Prop :=
  match ares P fn E with
  | some (cs, r) => allP cs ∧ Q r E.h
  | none => False
/-- What is asked where a body ends. -/
def retQ (P : Program) (fn : Func) (Q : AV → Heap → Prop) : Exit → Env → Prop
  | .normal, E => resQ P fn Q E
  | .ret, E => resQ P fn Q E
  | _, _ => False

def entry (fn : Func) (args : List AV) (h : Heap) : Env := ⟨args.length + (fn.ntmps - args.length), fun k => args.getD k .any, h⟩

theorem resQ_eq (P : Program) (fn : Func) (Q : AV → Heap → Prop) (E : Env) : resQ P fn Q E = (match ares P fn E with | some (cs, r) => allP cs ∧ Q r E.h | none => False) := rfl
theorem ecall_of_aw {f : FuncId} {fn : Func} {c : Code} {args : List AV} {h : Heap} {Q : AV → Heap → Prop} (hf : P.funcs[f]? = some fn) (hb : fn.body = some c) (hn : (fn.name == "runtime.NumGoroutine") = false)
    (hw : AW P c (entry fn args h) (retQ P fn Q)) : ECall P f args h Q := by
  refine ⟨⟨fn, hf, by rw [hb]; rfl, hn⟩, fun X w g vs hk hsep hl hr => ?_⟩
  refine calls_of_wp hf hb ?_
  have hs : St X (excl none2 g h) w (entry fn args h) { tmps := vs.toArray ++ Array.replicate (fn.ntmps - vs.toArray.size) undef, defers := [] } w g := by
    refine ⟨hk, fun k => ?_, by simp [entry, hl], Evo.refl _ _, fun b o hx _ => hx, rfl, hsep⟩
    simp only [entry, List.getD]
    cases hc : args[k]? with
    | none => exact .any _
    | some c =>
      have hlt : k < args.length := (List.getElem?_eq_some_iff.1 hc).1
      have hlv : k < vs.length := by omega
      have hv : (vs.toArray ++ Array.replicate (fn.ntmps - vs.toArray.size) undef).getD k undef = vs[k] := by
        rw [Array.getD_eq_getD_getElem?, Array.getElem?_append_left (by simpa using hlv)]
        simp [hlv]
      show Rep _ _ _ _ ((vs.toArray ++ Array.replicate (fn.ntmps - vs.toArray.size) undef).getD k undef)
      rw [hv]
      exact hr k c _ hc (List.getElem?_eq_getElem hlv)
  unfold AW at hw
  refine wp_mono (hw X _ w _ w g g (fun _ _ h => h) hs) fun ex a' w' hq => ?_
  obtain ⟨E', g', q, hg', s⟩ := hq
  have fin : resQ P fn Q E' → a'.defers = [] ∧ ∃ v, (results fn a'.tmps).run P w' = .ok v w' ∧ ∃ u r h' g', Ending.returned v = .returned u ∧ Q r h' ∧ (∀ (i b : Nat), g[i]? = some b → g'[i]? = some b) ∧ HOk w' (excl X g' h') g' h' ∧ (∀ b o, X b o → ∀ i, i ∈ h'.ids → g'[i]? ≠ some b) ∧
      Rep w' (excl X g' h') g' r u ∧ Evo (excl none2 g h) w w' ∧ (∀ b o, excl none2 g' h' b o → b < w.heap.size → excl none2 g h b o) := by
    intro q
    unfold resQ at q
    split at q
    · rename_i cs r hres
      obtain ⟨u, h1, h2⟩ := ares_sound s hres q.1
      exact ⟨s.def_, u, h1, u, r, E'.h, g', rfl, q.2, hg', s.hok, s.sep, h2, s.evo, s.loc⟩
    · exact q.elim
  cases ex with
  | normal => exact fin q
  | ret => exact fin q
  | _ => exact q.elim

/-- A contract that speaks of no memory of one's own. -/
def PCall (P : Program) (f : FuncId) (args : List AV) (R : AV → Prop) : Prop := ∀ nx, ECall P f args ⟨[], [], nx, 0⟩ fun r h' => R r ∧ h'.bx = [] ∧ h'.pm = []

theorem pcall_of_aw {f : FuncId} {fn : Func} {c : Code} {args : List AV} {R : AV → Prop} (hf : P.funcs[f]? = some fn) (hb : fn.body = some c) (hn : (fn.name == "runtime.NumGoroutine") = false)
    (hw : ∀ nx, AW P c (entry fn args ⟨[], [], nx, 0⟩) (retQ P fn fun r _ => R r)) : PCall P f args R := by
  intro nx
  have h1 := ecall_of_aw hf hb hn (hw nx)
  refine ⟨h1.1, fun X w g vs hk hsep hl hr => (h1.2 X w g vs hk hsep hl hr).mono fun e w' ⟨u, r, h', g', a1, a2, a3, a4, a5, a6, a7, a8⟩ => ?_⟩
  -- what is one's own behind the call is let go
  refine ⟨u, r, ⟨[], [], h'.nx, h'.nn⟩, g', a1, ⟨a2, rfl, rfl⟩, a3, ⟨by simp, by simp, by simp [Heap.ids], a4.nx, fun b o hx => a4.bd b o (hx.elim .inl (fun h => h.elim (fun ⟨p, hp, _⟩ => by cases hp) (fun ⟨p, hp, _⟩ => by cases hp)))⟩,
    fun b o hx i hi => by simp [Heap.ids] at hi, a6.stays (Stays.less fun b o hx => hx.elim .inl (fun h => h.elim (fun ⟨p, hp, _⟩ => by cases hp) (fun ⟨p, hp, _⟩ => by cases hp))), a7, ?_⟩
  rintro b o (hx | ⟨p, hp, _⟩ | ⟨p, hp, _⟩)
  · exact hx.elim
  · cases hp
  · cases hp

theorem PCall.mono {f : FuncId} {args : List AV} {R R' : AV → Prop} (h : PCall P f args R) (hr : ∀ r, R r → R' r) : PCall P f args R' := fun nx => (h nx).mono fun r _ ⟨h1, h2⟩ => ⟨hr r h1, h2⟩

theorem PCall.over {f : FuncId} {args : List AV} {R : AV → Prop} (hc : PCall P f args R) (h : Heap) : ECall P f args h fun r h' => R r ∧ h'.bx = h.bx ∧ h'.pm = h.pm := by
  have h1 := (hc h.nx).frame (h := h) h.bx h.pm (by simp) (by simp) rfl
  refine h1.mono fun r h' hq => ?_
  obtain ⟨h1', ⟨q1, q2, q3⟩, rfl⟩ := hq
  simp [q1, q2, q3]

/-- A call of such a function: the rest of what is told stays; the numbers go on. -/
theorem aop_pcall {o : Oper} {E : Env} {K : Env → Prop} {fo : Operand} {args : Array Operand} {tys : Array TypeId} {f : FuncId} {first caps as : List AV} {R : AV → Prop}
    (ho : o.op = .call { callee := .value fo, args := args, argTypes := tys }) (hf : E.ev fo = .fn (.func f) first caps)
    (hc : PCall P f as R) (hl : LeL (first ++ args.toList.map E.ev ++ caps) as)
    (hk : ∀ r nx, R r → K (({ E with h := { E.h with nx := nx } } : Env).set o.dst r)) : AOp P o E K :=
  aop_call ho hf ((hc.over E.h).args hl) fun r h' ⟨h1, h2, h3⟩ => by
    refine ⟨r, { E.h with nx := h'.nx }, AVle.refl _, ⟨by rw [h2], by rw [h3], rfl⟩, hk r _ h1⟩

/-- The value bears no number of what is one's own. -/
def NoId (a : AV) : Prop := ∀ w X g g' u, Rep w X g a u → Rep w X g' a u
theorem NoId.v (x : Value) : NoId (.v x) := fun _ _ _ _ _ h => by cases h; exact .v _
theorem NoId.any : NoId .any := fun _ _ _ _ _ _ => .any _
theorem NoId.ag {cs : List AV} (h : ∀ c ∈ cs, NoId c) : NoId (.ag cs) := fun w X g g' u hr => by
  cases hr with
  | ag _ vs hn hr => exact .ag _ vs hn fun k c u hc hu => h c (List.mem_of_getElem? hc) w X g g' u (hr k c u hc hu)
theorem NoId.tup {cs : List AV} (h : ∀ c ∈ cs, NoId c) : NoId (.tup cs) := fun w X g g' u hr => by
  cases hr with
  | tup _ vs hn hr => exact .tup _ vs hn fun k c u hc hu => h c (List.mem_of_getElem? hc) w X g g' u (hr k c u hc hu)
theorem NoId.sl {sz n : Nat} {f : Nat → AV} (h : ∀ i, i < n → ∀ c ∈ (f i).cells, NoId c) : NoId (.sl sz n f) := fun w X g g' u hr => by
  cases hr with
  | sl0 => exact .sl0 _ _ _ _
  | sl _ _ _ b off cap vs hlen hcap hcell hcs hr => exact .sl _ _ _ b off cap vs hlen hcap hcell hcs fun i j c u hi hj hu => h i hi c (List.mem_of_getElem? hj) w X g g' u (hr i j c u hi hj hu)

/-- In a region that draws. -/
theorem yields_pcall {o : Oper} {E : Env} {fo : Operand} {args : Array Operand} {tys : Array TypeId} {f : FuncId} {first caps as : List AV} {R : AV → Prop} {r : AV}
    (ho : o.op = .call { callee := .value fo, args := args, argTypes := tys }) (hf : E.ev fo = .fn (.func f) first caps)
    (hc : PCall P f as R) (hl : LeL (first ++ args.toList.map E.ev ++ caps) as) (hr : ∀ r', R r' → AVle r' r) (hid : NoId r) : Yields P o E r := by
  intro ρ w X g hk hx
  obtain ⟨⟨fn, hfn, hbody, hname⟩, hcall⟩ := (hc E.h.nx).args hl
  have hfr := hx fo (by simp [ho, Op.operands, Call.operands])
  rw [hf] at hfr
  generalize hu : ρ fo = u at hfr
  cases hfr with
  | fn _ _ _ v1 v2 hl1 hl2 hr1 hr2 =>
    have hex : excl (excl X g E.h) g ⟨[], [], E.h.nx, 0⟩ = excl X g E.h := by
      funext b o
      apply propext
      constructor
      · rintro (h | ⟨p, hp, _⟩ | ⟨p, hp, _⟩)
        · exact h
        · cases hp
        · cases hp
      · exact .inl
    have hrun : (execOp ρ o).run P w = .ok (.enter f (v1 ++ args.toList.map ρ ++ v2).toArray) w := by
      have e : v1.toArray ++ args.map ρ ++ v2.toArray = (v1 ++ args.toList.map ρ ++ v2).toArray := by
        apply Array.ext'; simp
      unfold execOp
      simp only [ho, resolve, hu, Deferred.ofValue, pure_bind, invoke, e]
      simp only [callFunc, Sem.run_bind, run_program, Result.andThen_ok, hfn, hname, hbody, Bool.false_eq_true, if_false, Sem.run_pure]
    have hxs : ∀ x ∈ args.toList, Rep w (excl X g E.h) g (E.ev x) (ρ x) := fun x hm => hx x (by
      rw [ho]; simp only [Op.operands, Call.operands]; exact Array.mem_append_right _ (Array.mem_toList_iff.1 hm))
    refine .inr ⟨f, _, w, hrun, Evo.refl _ _, ?_⟩
    have hcs := hcall (excl X g E.h) w g (v1 ++ args.toList.map ρ ++ v2) (by rw [hex]; exact ⟨by simp, by simp, by simp [Heap.ids], hk.nx, hk.bd⟩) (fun b o _ i hi => by simp [Heap.ids] at hi) (by simp [hl1, hl2]) (fun k c u hc hu => by
      rw [hex]
      rw [List.getElem?_append] at hc hu
      simp only [List.length_append, List.length_map, hl1, hl2] at hc hu
      split at hc
      · rename_i h1
        rw [if_pos h1] at hu
        rw [List.getElem?_append] at hc hu
        rw [hl1] at hu
        split at hc
        · rename_i h2; rw [if_pos h2] at hu; exact hr1 k c u hc hu
        · rename_i h2; rw [if_neg h2] at hu
          exact reps_map hxs _ c u hc hu
      · rename_i h1
        rw [if_neg h1] at hu
        exact hr2 _ c u hc hu)
    refine Calls.mono hcs fun e w' ⟨u, r', h', g', a1, ⟨a2, b1, b2⟩, a3, a4, a5, a6, a7, a8⟩ => ⟨u, a1, a7.mono fun b o _ hx => ?_, ?_⟩
    · rcases hx with hx | ⟨p, hp, _⟩ | ⟨p, hp, _⟩
      · exact hx
      · cases hp
      · cases hp
    · have h5 := hr r' a2 _ _ _ _ a6
      have h6 := hid _ _ _ g _ h5
      refine h6.stays (Stays.less fun b o hx => .inl hx)

/-- What is told at a loop's head: some slots, what is one's own. -/
def look : List (Nat × AV) → Nat → AV
  | [], _ => .any
  | p :: l, k => bif Nat.beq p.1 k then p.2 else look l k
def mk (n : Nat) (L : List (Nat × AV)) (h : Heap) : Env := ⟨n, look L, h⟩
def LeT (t : Nat → AV) : List (Nat × AV) → Prop
  | [] => True
  | p :: l => AVle (t p.1) p.2 ∧ LeT t l
theorem LeT.look {t : Nat → AV} : ∀ {L : List (Nat × AV)}, LeT t L → ∀ k, AVle (t k) (look L k)
  | [], _, k => AVle.any _
  | p :: l, h, k => by
    unfold Vl.look
    cases hb : Nat.beq p.1 k with
    | true => have := Nat.eq_of_beq_eq_true hb; subst this; exact h.1
    | false => exact LeT.look h.2 k
theorem ele_mk {E : Env} {n : Nat} {L : List (Nat × AV)} {h : Heap} (hn : E.n = n) (hh : E.h = h) (hL : LeT E.t L) : ELe E (mk n L h) := by
  subst hn; subst hh
  intro X M w0 a w g hs
  exact ⟨hs.hok, fun k => hL.look k _ _ _ _ (hs.tm k), hs.n, hs.evo, hs.loc, hs.def_, hs.sep⟩
/-- Variables and rows of one's own that are no more wanted are let go. -/
theorem ele_drop {E : Env} {bx : List (Id × List AV)} {pm : List (Id × Nat)} {nn : Nat} (hb : bx.Sublist E.h.bx) (hp : pm.Sublist E.h.pm) : ELe E { E with h := ⟨bx, pm, E.h.nx, nn⟩ } := by
  intro X M w0 a w g hs
  have hex : ∀ b o, excl X g ⟨bx, pm, E.h.nx, nn⟩ b o → excl X g E.h b o := by
    rintro b o (h | ⟨p, hp', hg⟩ | ⟨p, hp', hg⟩)
    · exact .inl h
    · exact .inr (.inl ⟨p, hb.subset hp', hg⟩)
    · exact .inr (.inr ⟨p, hp.subset hp', hg⟩)
  have hex2 : ∀ b o, excl none2 g ⟨bx, pm, E.h.nx, nn⟩ b o → excl none2 g E.h b o := by
    rintro b o (h | ⟨p, hp', hg⟩ | ⟨p, hp', hg⟩)
    · exact .inl h
    · exact .inr (.inl ⟨p, hb.subset hp', hg⟩)
    · exact .inr (.inr ⟨p, hp.subset hp', hg⟩)
  have hst := Stays.less (w := w) (g := g) hex
  have hids : (Heap.ids ⟨bx, pm, E.h.nx, nn⟩).Sublist E.h.ids := by
    unfold Heap.ids
    exact (hb.map _).append (hp.map _)
  refine ⟨⟨fun p h => ?_, fun p h => hs.hok.pm p (hp.subset h), hs.hok.nodup.sublist (hids.map _), hs.hok.nx, fun b o h => hs.hok.bd b o (hex b o h)⟩, fun k => (hs.tm k).stays hst, hs.n, hs.evo, fun b o h => hs.loc b o (hex2 b o h), hs.def_, fun b o h i hi => hs.sep b o h i (hids.subset hi)⟩
  obtain ⟨b, vs, e, h1, h2, h3, h4⟩ := hs.hok.bx p (hb.subset h)
  exact ⟨b, vs, e, h1, h2, h3, fun k c u h5 h6 => (h4 k c u h5 h6).stays hst⟩
theorem ELe.trans {E E' E'' : Env} (h : ELe E E') (k : ELe E' E'') : ELe E E'' := fun X M w0 a w g hs => k X M w0 a w g (h X M w0 a w g hs)
attribute [irreducible] resQ
end Go.Vl
