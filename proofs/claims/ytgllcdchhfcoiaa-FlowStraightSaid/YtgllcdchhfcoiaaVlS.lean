/- Iterators: what they hand over, to whomever. -/
import Derived.Test.YtgllcdchhfcoiaaVlR
namespace Go.Vl
open Go.RowKit
variable {P : Program}

/-- Memory of one's own, told by less. -/
structure HLe (h h' : Heap) : Prop where
  ok : ∀ w X g, HOk w (excl X g h) g h → HOk w (excl X g h') g h'
  ex : ∀ Y g b o, excl Y g h' b o → excl Y g h b o
  ids : ∀ i, i ∈ h'.ids → i ∈ h.ids
theorem HLe.refl (h : Heap) : HLe h h := ⟨fun _ _ _ h => h, fun _ _ _ _ h => h, fun _ h => h⟩
theorem HLe.trans {a b c : Heap} (h : HLe a b) (k : HLe b c) : HLe a c := ⟨fun w X g q => k.ok w X g (h.ok w X g q), fun Y g b o q => h.ex Y g b o (k.ex Y g b o q), fun i q => h.ids i (k.ids i q)⟩
theorem hle_like {h h' : Heap} (l : Like h h') : HLe h h' := ⟨fun w X g hk => by rw [l.excl]; exact hk.like l, fun Y g b o hx => by rw [← l.excl]; exact hx, fun i hi => l.ids.mem_iff.1 hi⟩
theorem hle_cells {h : Heap} {bx : List (Id × Own)} (l : BxLe h.bx bx) : HLe h { h with bx := bx } :=
  ⟨fun w X g hk => by rw [l.excl]; exact hk.cells l, fun Y g b o hx => by rw [← l.excl]; exact hx, fun i hi => by rw [← l.ids]; exact hi⟩
theorem hle_drop {h : Heap} {bx : List (Id × Own)} {pm : List (Id × Nat)} {nn : Nat} (hb : bx.Sublist h.bx) (hp : pm.Sublist h.pm) : HLe h ⟨bx, pm, h.nx, nn⟩ := by
  have hex : ∀ Y g b o, excl Y g ⟨bx, pm, h.nx, nn⟩ b o → excl Y g h b o := by
    rintro Y g b o (hx | ⟨p, hp', hg⟩ | ⟨p, hp', hg⟩)
    · exact .inl hx
    · exact .inr (.inl ⟨p, hb.subset hp', hg⟩)
    · exact .inr (.inr ⟨p, hp.subset hp', hg⟩)
  have hids : (Heap.ids ⟨bx, pm, h.nx, nn⟩).Sublist h.ids := by
    unfold Heap.ids
    exact (hb.map _).append (hp.map _)
  refine ⟨fun w X g hk => ?_, hex, fun i hi => hids.subset hi⟩
  have hst := Stays.less (w := w) (g := g) (hex X g)
  refine ⟨fun p hp' => ?_, fun p hp' => hk.pm p (hp.subset hp'), hk.nodup.sublist (hids.map _), hk.nx, fun b o hx => hk.bd b o (hex X g b o hx)⟩
  obtain ⟨b, h1, h2⟩ := hk.bx p (hb.subset hp')
  exact ⟨b, h1, h2.stays hst rfl⟩
/-- Some boxes and rows are let go, the others told anew, names are free. -/
theorem hle_tell {h : Heap} {bx : List (Id × Own)} {pm : List (Id × Nat)} {nx nn : Nat} (bx' : List (Id × Own)) (pm' : List (Id × Nat)) (hx : h.nx = nx) (hb : bx'.Sublist h.bx) (hp : pm'.Sublist h.pm) (eb : BxLe bx' bx) (ep : PmEq pm' pm) : HLe h ⟨bx, pm, nx, nn⟩ := by
  subst hx
  have e1 : HLe h ⟨bx', pm', h.nx, nn⟩ := hle_drop hb hp
  have e2 : HLe ⟨bx', pm', h.nx, nn⟩ ⟨bx, pm', h.nx, nn⟩ := hle_cells (h := ⟨bx', pm', h.nx, nn⟩) eb
  have e3 : HLe ⟨bx, pm', h.nx, nn⟩ ⟨bx, pm, h.nx, nn⟩ := hle_like ⟨.refl _, .of_eq (PmEq.map ep), rfl⟩
  exact e1.trans (e2.trans e3)
/-- A post over memory that is told by less. -/
def wk (Q : AV → Heap → Prop) (r : AV) (h : Heap) : Prop := ∃ r' h', AVle r r' ∧ HLe h h' ∧ Q r' h'
theorem ECallG.wk {C : Way} {as : List AV} {h : Heap} {Q : AV → Heap → Prop} (hc : ECallG C as h (retR (wk Q))) : ECallG C as h (retR Q) := by
  intro X w g vs h1 h2 h3 h4
  refine C.mono (hc X w g vs h1 h2 h3 h4) fun e w' ⟨r, h', g', a1, a2, a3, a4, a5, a7, a8⟩ => ?_
  cases r with
  | pan x => exact a2.elim
  | ret r =>
    obtain ⟨r', h'', q1, q2, q3⟩ := a2
    obtain ⟨u, rfl, a1⟩ := a1
    exact ⟨.ret r', h'', g', ⟨u, rfl, q1 _ _ _ _ (a1.stays (Stays.less (q2.ex X g')))⟩, q3, a3, q2.ok _ _ _ a4, fun b o hx i hi => a5 b o hx i (q2.ids i hi), a7, fun b o hx hb => a8 b o (q2.ex none2 g' b o hx) hb⟩
theorem ECall.wk {f : FuncId} {as : List AV} {h : Heap} {Q : AV → Heap → Prop} (hc : ECall P f as h (Vl.wk Q)) : ECall P f as h Q := ⟨hc.1, hc.2.wk⟩

/-- What a consumer gives for what it is handed: it goes on, or it has enough. -/
def yPost {σ α : Type} (Cb : σ → List (Id × Own)) (Cp : σ → List (Id × Nat)) (I : List α → σ → Prop) (J : List α → α → σ → Prop) (pre : List α) (x : α) (r : AV) (h' : Heap) : Prop :=
  ∃ s', ((r = .v (.bool true) ∧ I (pre ++ [x]) s') ∨ (r = .v (.bool false) ∧ J pre x s')) ∧ h'.bx = Cb s' ∧ h'.pm = Cp s'
def Cons (P : Program) (i : Id) {σ α : Type} (e : α → List AV) (xs : List α) (Cb : σ → List (Id × Own)) (Cp : σ → List (Id × Nat)) (I : List α → σ → Prop) (J : List α → α → σ → Prop) : Prop :=
  ∀ pre x post s nx nn, xs = pre ++ x :: post → I pre s → ECallG (yWay P i) (e x) ⟨Cb s, Cp s, nx, nn⟩ (retR (yPost Cb Cp I J pre x))
/-- All have been handed over, or one was enough. -/
def allQ {σ α : Type} (xs : List α) (I : List α → σ → Prop) (J : List α → α → σ → Prop) (s' : σ) : Prop := I xs s' ∨ ∃ pre x post, xs = pre ++ x :: post ∧ J pre x s'
/-- The iterator hands over these, one behind the other, to whomever. -/
def IterSpec (P : Program) (it : FuncId) (first caps : List AV) {α : Type} (e : α → List AV) (xs : List α) : Prop :=
  ∀ (i : Id) (σ : Type) (Cb : σ → List (Id × Own)) (Cp : σ → List (Id × Nat)) (I : List α → σ → Prop) (J : List α → α → σ → Prop), Cons P i e xs Cb Cp I J →
    ∀ s0 nx nn, I [] s0 → ECall P it (first ++ [.yl i] ++ caps) ⟨Cb s0, Cp s0, nx, nn⟩ (fun _ h' => ∃ s', allQ xs I J s' ∧ h'.bx = Cb s' ∧ h'.pm = Cp s')

/-- In the iterator: something is handed over. -/
theorem aop_hand {o : Oper} {E : Env} {K : Env → Prop} {Kp : AV → Env → Prop} {fo : Operand} {args : Array Operand} {tys : Array TypeId} {i : Id} {σ α : Type} {e : α → List AV} {xs : List α} {Cb : σ → List (Id × Own)} {Cp : σ → List (Id × Nat)}
    {I : List α → σ → Prop} {J : List α → α → σ → Prop} (own : List (Id × Own)) (ownp : List (Id × Nat)) {pre post : List α} {x : α} {s : σ} {nx nn : Nat}
    (ho : o.op = .call { callee := .value fo, args := args, argTypes := tys }) (hf : E.ev fo = .yl i) (hE : E.h = ⟨own ++ Cb s, ownp ++ Cp s, nx, nn⟩) (hc : Cons P i e xs Cb Cp I J) (hx : xs = pre ++ x :: post) (hI : I pre s)
    (hl : LeL (args.toList.map E.ev) (e x)) (hk1 : ∀ s' nx', I (pre ++ [x]) s' → K (({ E with h := ⟨own ++ Cb s', ownp ++ Cp s', nx', nn⟩ } : Env).set o.dst (.v (.bool true))))
    (hk0 : ∀ s' nx', J pre x s' → K (({ E with h := ⟨own ++ Cb s', ownp ++ Cp s', nx', nn⟩ } : Env).set o.dst (.v (.bool false)))) : AOp P o E K Kp := by
  have h1 := ((hc pre x post s nx nn hx hI).args hl).frame (h := E.h) own ownp (by rw [hE]; exact List.perm_append_comm) (by rw [hE]; exact List.perm_append_comm) (by rw [hE])
  refine aop_yield ho hf (Q := fun r h' => ∃ h1', yPost Cb Cp I J pre x r h1' ∧ h' = ⟨h1'.bx ++ own, h1'.pm ++ ownp, h1'.nx, h1'.nn⟩) (h1.mono fun r h' hq => ?_) (fun r h' hq => ?_)
  · obtain ⟨h1', q1, q2⟩ := hq
    cases r with
    | pan x => exact q1.elim
    | ret r => exact ⟨h1', q1, q2⟩
  · obtain ⟨h1', ⟨s', q1, q2, q3⟩, rfl⟩ := hq
    refine ⟨r, ⟨own ++ Cb s', ownp ++ Cp s', h1'.nx, nn⟩, AVle.refl _, ⟨?_, ?_, rfl⟩, ?_⟩
    · rw [q2]; exact List.perm_append_comm.map _
    · rw [q3]; exact List.perm_append_comm.map _
    · rcases q1 with ⟨rfl, q1⟩ | ⟨rfl, q1⟩
      · exact hk1 s' _ q1
      · exact hk0 s' _ q1

/-- 'for .. := range it { .. }', over an iterator that is told. -/
theorem aw_iter {gop : Operand} {ps : Array Tmp} {asg body : Code} {E : Env} {Q : AExit → Env → Prop} {it : FuncId} {first caps : List AV} {ds : List DA} {σ α : Type} {e : α → List AV} {xs : List α} {first' caps' : List AV}
    (Cb : σ → List (Id × Own)) (Cp : σ → List (Id × Nat)) (I : List α → σ → Prop) (J : List α → α → σ → Prop) (s0 : σ) (hd : E.df = some ds) (hf : E.ev gop = .fn (.func it) first caps) (hit : IterSpec P it first' caps' e xs) (hl1 : LeL first first') (hl2 : LeL caps caps')
    (hb : ((E.h.addo .df).addo (.lp .ready none E.n E.t ps asg body)).bx = Cb s0) (hp : E.h.pm = Cp s0) (h0 : I [] s0) (hc : Cons P (E.h.nn + 1, E.h.nx + 1) e xs Cb Cp I J)
    (hend : ∀ s' nx nn, allQ xs I J s' → rdone (E.h.nn + 1, E.h.nx + 1) { E with h := (E.h.addo .df).addo (.lp .ready none E.n E.t ps asg body), df := some (.col (E.h.nn, E.h.nx) :: ds) } Q ⟨Cb s', Cp s', nx, nn⟩) :
    AW P (.rangeFunc gop ps asg body) E Q := by
  refine aw_range hd hf ?_
  have h1 := hit (E.h.nn + 1, E.h.nx + 1) σ Cb Cp I J hc s0 (E.h.nx + 2) (E.h.nn + 2) h0
  have e1 : (E.h.addo .df).addo (.lp .ready none E.n E.t ps asg body) = ⟨Cb s0, Cp s0, E.h.nx + 2, E.h.nn + 2⟩ := by
    rw [← hb, ← hp]; rfl
  rw [← e1] at h1
  refine ((ECall.args (LeL.append (LeL.append hl1 (LeL.refl _)) hl2) h1)).mono fun r h' hq => ?_
  obtain ⟨s', q1, q2, q3⟩ := hq
  obtain ⟨bx, pm, nx, nn⟩ := h'
  dsimp only at q2 q3
  subst q2; subst q3
  exact hend s' nx nn q1
theorem aw_iterR {gop : Operand} {ps : Array Tmp} {asg body : Code} {E : Env} {Q : AExit → Env → Prop} {it : FuncId} {first caps : List AV} {σ α : Type} {e : α → List AV} {xs : List α} {first' caps' : List AV}
    (Cb : σ → List (Id × Own)) (Cp : σ → List (Id × Nat)) (I : List α → σ → Prop) (J : List α → α → σ → Prop) (s0 : σ) (hd : E.df = none) (hf : E.ev gop = .fn (.func it) first caps) (hit : IterSpec P it first' caps' e xs) (hl1 : LeL first first') (hl2 : LeL caps caps')
    (hb : (E.h.addo (.lp .ready none E.n E.t ps asg body)).bx = Cb s0) (hp : E.h.pm = Cp s0) (h0 : I [] s0) (hc : Cons P (E.h.nn, E.h.nx) e xs Cb Cp I J)
    (hend : ∀ s' nx nn, allQ xs I J s' → rdone (E.h.nn, E.h.nx) { E with h := E.h.addo (.lp .ready none E.n E.t ps asg body) } Q ⟨Cb s', Cp s', nx, nn⟩) :
    AW P (.rangeFunc gop ps asg body) E Q := by
  refine aw_rangeR hd hf ?_
  have h1 := hit (E.h.nn, E.h.nx) σ Cb Cp I J hc s0 (E.h.nx + 1) (E.h.nn + 1) h0
  have e1 : E.h.addo (.lp .ready none E.n E.t ps asg body) = ⟨Cb s0, Cp s0, E.h.nx + 1, E.h.nn + 1⟩ := by
    rw [← hb, ← hp]; rfl
  rw [← e1] at h1
  refine ((ECall.args (LeL.append (LeL.append hl1 (LeL.refl _)) hl2) h1)).mono fun r h' hq => ?_
  obtain ⟨s', q1, q2, q3⟩ := hq
  obtain ⟨bx, pm, nx, nn⟩ := h'
  dsimp only at q2 q3
  subst q2; subst q3
  exact hend s' nx nn q1
end Go.Vl
