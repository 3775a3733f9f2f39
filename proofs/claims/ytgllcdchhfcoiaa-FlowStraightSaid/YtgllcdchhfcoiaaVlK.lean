/- Memory of one's own, told anew. -/
import Derived.Test.YtgllcdchhfcoiaaVlJ
namespace Go.Vl
open Go.RowKit
variable {P : Program}

def MpLe : List (Value × AV) → List (Value × AV) → Prop
  | [], [] => True
  | p :: l, q :: r => p.1 = q.1 ∧ AVle p.2 q.2 ∧ MpLe l r
  | _, _ => False
theorem MpLe.refl : ∀ l : List (Value × AV), MpLe l l
  | [] => trivial
  | p :: l => ⟨rfl, AVle.refl _, MpLe.refl l⟩
theorem MpLe.get : ∀ {l r : List (Value × AV)}, MpLe l r → l.length = r.length ∧ ∀ (k : Nat) (a b : Value × AV), l[k]? = some a → r[k]? = some b → a.1 = b.1 ∧ AVle a.2 b.2
  | [], [], _ => ⟨rfl, by simp⟩
  | p :: l, q :: r, h => by
    obtain ⟨h1, h2⟩ := MpLe.get h.2.2
    refine ⟨by simp [h1], fun k c d hc hd => ?_⟩
    cases k with
    | zero => simp at hc hd; subst hc; subst hd; exact ⟨h.1, h.2.1⟩
    | succ k => simp at hc hd; exact h2 k c d hc hd
  | [], _ :: _, h => h.elim
  | _ :: _, [], h => h.elim
/-- What is one's own, told by less. -/
def OwnLe : Own → Own → Prop
  | .c a, .c b => LeL a b
  | .mp a, .mp b => MpLe a b
  | .ch c a, .ch d b => c = d ∧ LeL a b
  | .lp st pd n t ps asg body, .lp st' pd' n' t' ps' asg' body' => st = st' ∧ pd = pd' ∧ n = n' ∧ (∀ k, AVle (t k) (t' k)) ∧ ps = ps' ∧ asg = asg' ∧ body = body'
  | .df, .df => True
  | _, _ => False
theorem OwnLe.refl : ∀ (a : Own), OwnLe a a
  | .c a => LeL.refl a
  | .mp a => MpLe.refl a
  | .ch _ a => ⟨rfl, LeL.refl a⟩
  | .lp _ _ _ _ _ _ _ => ⟨rfl, rfl, rfl, fun _ => AVle.refl _, rfl, rfl, rfl⟩
  | .df => trivial
theorem OwnRep.le {w : World} {X : Nat → Nat → Prop} {g : List Nat} {i : Nat} : ∀ {a b : Own}, OwnLe a b → OwnRep w X g i a → OwnRep w X g i b
  | .c a, .c b, h, ⟨vs, e, h1, h2, h3⟩ => by
    obtain ⟨l1, l2⟩ := LeL.get h
    refine ⟨vs, e, h1, h2.trans l1, fun k c u hc hu => ?_⟩
    have hlt : k < a.length := by rw [l1]; exact (List.getElem?_eq_some_iff.1 hc).1
    exact l2 k _ c (List.getElem?_eq_getElem hlt) hc _ _ _ _ (h3 k _ u (List.getElem?_eq_getElem hlt) hu)
  | .mp a, .mp b, h, ⟨ents, h1, h2, h3⟩ => by
    obtain ⟨l1, l2⟩ := MpLe.get h
    refine ⟨ents, h1, h2.trans l1, fun k p e hp he => ?_⟩
    have hlt : k < a.length := by rw [l1]; exact (List.getElem?_eq_some_iff.1 hp).1
    obtain ⟨q1, q2⟩ := l2 k _ p (List.getElem?_eq_getElem hlt) hp
    obtain ⟨r1, r2, r3⟩ := h3 k _ e (List.getElem?_eq_getElem hlt) he
    exact ⟨r1.trans q1, r2, q2 _ _ _ _ r3⟩
  | .ch _ a, .ch _ b, ⟨rfl, h⟩, ⟨vs, s, k, h1, h2, h3⟩ => by
    obtain ⟨l1, l2⟩ := LeL.get h
    refine ⟨vs, s, k, h1, h2.trans l1, fun k c u hc hu => ?_⟩
    have hlt : k < a.length := by rw [l1]; exact (List.getElem?_eq_some_iff.1 hc).1
    exact l2 k _ c (List.getElem?_eq_getElem hlt) hc _ _ _ _ (h3 k _ u (List.getElem?_eq_getElem hlt) hu)
  | .lp _ _ _ _ _ _ _, .lp _ _ _ _ _ _ _, ⟨rfl, rfl, rfl, h, rfl, rfl, rfl⟩, ⟨fn, tmps, d, h1, h2, h3⟩ => ⟨fn, tmps, d, h1, h2, fun k => h k _ _ _ _ (h3 k)⟩
  | .df, .df, _, h => h

/-- The same boxes, whose cells are told by others; names are free. -/
def BxLe : List (Id × Own) → List (Id × Own) → Prop
  | [], [] => True
  | p :: l, q :: r => p.1.2 = q.1.2 ∧ OwnLe p.2 q.2 ∧ BxLe l r
  | _, _ => False
def PmEq : List (Id × Nat) → List (Id × Nat) → Prop
  | [], [] => True
  | p :: l, q :: r => p.1.2 = q.1.2 ∧ p.2 = q.2 ∧ PmEq l r
  | _, _ => False
theorem BxLe.mem : ∀ {l r : List (Id × Own)}, BxLe l r → ∀ q ∈ r, ∃ p ∈ l, p.1.2 = q.1.2 ∧ OwnLe p.2 q.2
  | [], [], _, q, hq => by cases hq
  | p :: l, q' :: r, h, q, hq => by
    rcases List.mem_cons.1 hq with rfl | hq
    · exact ⟨p, by simp, h.1, h.2.1⟩
    · obtain ⟨p', h1, h2⟩ := BxLe.mem h.2.2 q hq
      exact ⟨p', List.mem_cons_of_mem _ h1, h2⟩
  | [], _ :: _, h, _, _ => h.elim
  | _ :: _, [], h, _, _ => h.elim
theorem BxLe.mem' : ∀ {l r : List (Id × Own)}, BxLe l r → ∀ p ∈ l, ∃ q ∈ r, p.1.2 = q.1.2
  | [], [], _, q, hq => by cases hq
  | p' :: l, q' :: r, h, p, hp => by
    rcases List.mem_cons.1 hp with rfl | hp
    · exact ⟨q', by simp, h.1⟩
    · obtain ⟨q, h1, h2⟩ := BxLe.mem' h.2.2 p hp
      exact ⟨q, List.mem_cons_of_mem _ h1, h2⟩
  | [], _ :: _, h, _, _ => h.elim
  | _ :: _, [], h, _, _ => h.elim
theorem BxLe.stamps : ∀ {l r : List (Id × Own)}, BxLe l r → r.map (·.1.2) = l.map (·.1.2)
  | [], [], _ => rfl
  | p :: l, q :: r, h => by simp [h.1, BxLe.stamps h.2.2]
  | [], _ :: _, h => h.elim
  | _ :: _, [], h => h.elim
theorem BxLe.refl : ∀ (l : List (Id × Own)), BxLe l l
  | [] => trivial
  | p :: l => ⟨rfl, OwnLe.refl _, BxLe.refl l⟩
theorem PmEq.map : ∀ {l r : List (Id × Nat)}, PmEq l r → r.map (fun p => (p.1.2, p.2)) = l.map (fun p => (p.1.2, p.2))
  | [], [], _ => rfl
  | p :: l, q :: r, h => by simp [h.1, h.2.1, PmEq.map h.2.2]
  | [], _ :: _, h => h.elim
  | _ :: _, [], h => h.elim

theorem ele_cells {E : Env} {bx : List (Id × Own)} (h : BxLe E.h.bx bx) : ELe E { E with h := { E.h with bx := bx } } := by
  intro ro X M w0 a w g hs
  have ids : Heap.ids { E.h with bx := bx } = E.h.ids := by unfold Heap.ids; dsimp only; rw [h.stamps]
  have ex : ∀ Y : Nat → Nat → Prop, excl Y g { E.h with bx := bx } = excl Y g E.h := fun Y => by
    funext b o
    apply propext
    constructor
    · rintro (hx | ⟨p, hp, hg⟩ | hx)
      · exact .inl hx
      · obtain ⟨q, h1, h2, _⟩ := h.mem p hp
        exact .inr (.inl ⟨q, h1, h2 ▸ hg⟩)
      · exact .inr (.inr hx)
    · rintro (hx | ⟨p, hp, hg⟩ | hx)
      · exact .inl hx
      · obtain ⟨q, h1, h2⟩ := h.mem' p hp
        exact .inr (.inl ⟨q, h1, h2 ▸ hg⟩)
      · exact .inr (.inr hx)
  refine ⟨?_, fun k => by show Rep w (excl X g { E.h with bx := bx }) g _ _; rw [ex]; exact hs.tm k, hs.n, hs.evo, fun b o hx => hs.loc b o (by rw [← ex]; exact hx), by show DOk w (excl X g { E.h with bx := bx }) g _ _; rw [ex]; exact hs.def_, fun b o hx i hi => hs.sep b o hx i (by rw [← ids]; exact hi), hs.top, hs.rnd⟩
  show HOk w (excl X g { E.h with bx := bx }) g { E.h with bx := bx }
  rw [ex]
  refine ⟨fun p hp => ?_, hs.hok.pm, by rw [ids]; exact hs.hok.nodup, hs.hok.nx, hs.hok.bd⟩
  obtain ⟨q, h1, h2, h3⟩ := h.mem p hp
  obtain ⟨b, k1, k2⟩ := hs.hok.bx q h1
  exact ⟨b, h2 ▸ k1, k2.le h3⟩

theorem ele_tell {E : Env} {n : Nat} {bx : List (Id × Own)} {pm : List (Id × Nat)} {nx nn : Nat} {L : List (Nat × AV)} (bx' : List (Id × Own)) (pm' : List (Id × Nat)) (hn : E.n = n) (hx : E.h.nx = nx) (hb : bx'.Sublist E.h.bx) (hp : pm'.Sublist E.h.pm)
    (eb : BxLe bx' bx) (ep : PmEq pm' pm) (hL : LeT E.t L) : ELe E (mk n L ⟨bx, pm, nx, nn⟩ E.df) := by
  subst hn; subst hx
  have e1 := ele_drop (nn := nn) hb hp
  have e2 : ELe { E with h := ⟨bx', pm', E.h.nx, nn⟩ } { E with h := ⟨bx, pm', E.h.nx, nn⟩ } := ele_cells (E := { E with h := ⟨bx', pm', E.h.nx, nn⟩ }) eb
  have e3 : ELe { E with h := ⟨bx, pm', E.h.nx, nn⟩ } { E with h := ⟨bx, pm, E.h.nx, nn⟩ } := ele_like (E := { E with h := ⟨bx, pm', E.h.nx, nn⟩ }) ⟨.refl _, .of_eq (PmEq.map ep), rfl⟩
  exact e1.trans (e2.trans (e3.trans (ele_mk (E := { E with h := ⟨bx, pm, E.h.nx, nn⟩ }) rfl rfl hL)))

/-- A contract holds under other names. -/
theorem ECallG.like {C : Way} {args : List AV} {h h' : Heap} {Q : Res → Heap → Prop} (l : Like h h') (hc : ECallG C args h Q) : ECallG C args h' Q := by
  refine fun X w g vs h1 h2 h3 h4 => ?_
  have h5 := hc X w g vs (by rw [← l.excl]; exact h1.like ⟨l.bx.symm, l.pm.symm, l.nx.symm⟩) (fun b o hx i hi => h2 b o hx i (l.ids.mem_iff.2 hi)) h3 (by rw [← l.excl]; exact h4)
  refine C.mono h5 fun e w' ⟨r, k, g', a1, a2, a3, a4, a5, a7, a8⟩ => ⟨r, k, g', a1, a2, a3, a4, a5, by rw [l.excl]; exact a7, by rw [l.excl]; exact a8⟩
theorem ECall.like {f : FuncId} {args : List AV} {h h' : Heap} {Q : AV → Heap → Prop} (l : Like h h') (hc : ECall P f args h Q) : ECall P f args h' Q := ⟨hc.1, hc.2.like l⟩

theorem BxLe.ids {h : Heap} {bx : List (Id × Own)} (l : BxLe h.bx bx) : Heap.ids { h with bx := bx } = h.ids := by unfold Heap.ids; dsimp only; rw [l.stamps]
theorem BxLe.excl {h : Heap} {bx : List (Id × Own)} (l : BxLe h.bx bx) (Y : Nat → Nat → Prop) (g : List Nat) : Vl.excl Y g { h with bx := bx } = Vl.excl Y g h := by
  funext b o
  apply propext
  constructor
  · rintro (hx | ⟨p, hp, hg⟩ | hx)
    · exact .inl hx
    · obtain ⟨q, h1, h2, _⟩ := l.mem p hp
      exact .inr (.inl ⟨q, h1, h2 ▸ hg⟩)
    · exact .inr (.inr hx)
  · rintro (hx | ⟨p, hp, hg⟩ | hx)
    · exact .inl hx
    · obtain ⟨q, h1, h2⟩ := l.mem' p hp
      exact .inr (.inl ⟨q, h1, h2 ▸ hg⟩)
    · exact .inr (.inr hx)
theorem HOk.cells {w : World} {X : Nat → Nat → Prop} {g : List Nat} {h : Heap} {bx : List (Id × Own)} (hk : HOk w X g h) (l : BxLe h.bx bx) : HOk w X g { h with bx := bx } := by
  refine ⟨fun p hp => ?_, hk.pm, by rw [l.ids]; exact hk.nodup, hk.nx, hk.bd⟩
  obtain ⟨q, h1, h2, h3⟩ := l.mem p hp
  obtain ⟨b, k1, k2⟩ := hk.bx q h1
  exact ⟨b, h2 ▸ k1, k2.le h3⟩
/-- A contract over memory that is told by less holds over what is told by more; names are free. -/
theorem ECallG.tell {C : Way} {args : List AV} {h h' : Heap} {Q : Res → Heap → Prop} (hc : ECallG C args h Q) (hb : BxLe h'.bx h.bx) (hp : PmEq h'.pm h.pm) (hn : h.nx = h'.nx) : ECallG C args h' Q := by
  have l : Like { h' with bx := h.bx } h := ⟨.refl _, .of_eq (PmEq.map hp), hn⟩
  have e1 : ∀ Y g, Vl.excl Y g h = Vl.excl Y g h' := fun Y g => (l.excl Y g).trans (hb.excl Y g)
  have e2 : h.ids.Perm h'.ids := l.ids.trans (.of_eq hb.ids)
  refine fun X w g vs h1 h2 h3 h4 => ?_
  have h5 := hc X w g vs (by rw [e1]; exact (h1.cells hb).like l) (fun b o hx i hi => h2 b o hx i (e2.mem_iff.1 hi)) h3 (by rw [e1]; exact h4)
  exact C.mono h5 fun e w' ⟨r, k, g', a1, a2, a3, a4, a5, a7, a8⟩ => ⟨r, k, g', a1, a2, a3, a4, a5, by rw [← e1]; exact a7, by rw [← e1]; exact a8⟩
theorem ECall.tell {f : FuncId} {args : List AV} {h h' : Heap} {Q : AV → Heap → Prop} (hc : ECall P f args h Q) (hb : BxLe h'.bx h.bx) (hp : PmEq h'.pm h.pm) (hn : h.nx = h'.nx) : ECall P f args h' Q := ⟨hc.1, hc.2.tell hb hp hn⟩
theorem ECallR.tell {f : FuncId} {args : List AV} {h h' : Heap} {Q : Res → Heap → Prop} (hc : ECallR P f args h Q) (hb : BxLe h'.bx h.bx) (hp : PmEq h'.pm h.pm) (hn : h.nx = h'.nx) : ECallR P f args h' Q := ⟨hc.1, hc.2.tell hb hp hn⟩
end Go.Vl
