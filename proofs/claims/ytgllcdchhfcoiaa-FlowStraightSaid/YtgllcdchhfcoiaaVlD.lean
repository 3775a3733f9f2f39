/- Calls by contract; make. -/
import Derived.Test.YtgllcdchhfcoiaaVlC
namespace Go.Vl
open Go.RowKit
variable {P : Program}

def AVle (a b : AV) : Prop := ∀ w X g u, Rep w X g a u → Rep w X g b u
theorem AVle.refl (a : AV) : AVle a a := fun _ _ _ _ h => h
theorem AVle.trans {a b c : AV} (h : AVle a b) (k : AVle b c) : AVle a c := fun w X g u x => k w X g u (h w X g u x)
theorem AVle.any (a : AV) : AVle a .any := fun _ _ _ u _ => .any u
theorem AVle.of_eq {a b : AV} (h : a = b) : AVle a b := h ▸ AVle.refl a
theorem AVle.os_sl {sz n : Nat} {f : Nat → AV} {oi : Option Id} : AVle (.os sz n f oi) (.sl sz n f) := fun _ _ _ _ h => sl_of_os h
theorem AVle.os_sl0 {sz sz' : Nat} {f f' : Nat → AV} {oi : Option Id} : AVle (.os sz 0 f oi) (.sl sz' 0 f') := fun _ _ _ _ h => by
  cases h with
  | os0 => exact .sl0 _ _ _ _
  | osn => exact .sl0 _ _ _ _
  | oss => exact .sl0 _ _ _ _
theorem AVle.os_nil {sz sz' : Nat} {f f' : Nat → AV} : AVle (.os sz 0 f none) (.os sz' 0 f' none) := fun _ _ _ _ h => by
  cases h with
  | os0 => exact .os0 _ _ _
  | osn => exact .os0 _ _ _

theorem AVle.sl_congr {sz n : Nat} {f f' : Nat → AV} (hf : ∀ k, k < n → AVle (f k) (f' k)) (hc : ∀ k, k < n → (f k).cells.length = sz → (f' k).cells.length = sz ∧ ∀ (j : Nat) (c c' : AV), (f k).cells[j]? = some c → (f' k).cells[j]? = some c' → AVle c c') : AVle (.sl sz n f) (.sl sz n f') := fun w X g u h => by
  cases h with
  | sl0 => exact .sl0 _ _ _ _
  | sl _ _ _ b off cap vs hlen hcap hcell hcs hr =>
    refine .sl _ _ _ b off cap vs hlen hcap hcell (fun i hi => (hc i hi (hcs i hi)).1) (fun i j c u hi hj hu => ?_)
    obtain ⟨q1, q2⟩ := hc i hi (hcs i hi)
    have hjl : j < (f i).cells.length := by rw [hcs i hi, ← q1]; exact (List.getElem?_eq_some_iff.1 hj).1
    exact q2 j _ c (List.getElem?_eq_getElem hjl) hj _ _ _ _ (hr i j _ u hi (List.getElem?_eq_getElem hjl) hu)
theorem AVle.sl_fun {sz n : Nat} {f f' : Nat → AV} (hf : ∀ k, k < n → f k = f' k) : AVle (.sl sz n f) (.sl sz n f') := fun w X g u h => by
  cases h with
  | sl0 => exact .sl0 _ _ _ _
  | sl _ _ _ b off cap vs hlen hcap hcell hcs hr => exact .sl _ _ _ b off cap vs hlen hcap hcell (fun i hi => by rw [← hf i hi]; exact hcs i hi) (fun i j c u hi hj hu => hr i j c u hi (by rw [hf i hi]; exact hj) hu)
theorem AVle.os_fun {sz n : Nat} {f f' : Nat → AV} {oi : Option Id} (hf : ∀ k, k < n → f k = f' k) : AVle (.os sz n f oi) (.os sz n f' oi) := fun w X g u h => by
  cases h with
  | os0 => exact .os0 _ _ _
  | osn _ _ _ b off vs hlen hcell hcs hr => exact .osn _ _ _ b off vs hlen hcell (fun i hi => by rw [← hf i hi]; exact hcs i hi) (fun i j c u hi hj hu => hr i j c u hi (by rw [hf i hi]; exact hj) hu)
  | oss _ _ _ i b cap vs hg hlen hcap hcell hroom hcs hr => exact .oss _ _ _ i b cap vs hg hlen hcap hcell hroom (fun i hi => by rw [← hf i hi]; exact hcs i hi) (fun i j c u hi hj hu => hr i j c u hi (by rw [hf i hi]; exact hj) hu)
theorem AVle.ag {cs ds : List AV} (hl : cs.length = ds.length) (h : ∀ (k : Nat) (c d : AV), cs[k]? = some c → ds[k]? = some d → AVle c d) : AVle (.ag cs) (.ag ds) := fun w X g u hr => by
  cases hr with
  | ag _ vs hn hr =>
    refine .ag _ vs (by rw [hn, hl]) fun k d u hd hu => ?_
    have hlt : k < cs.length := by rw [hl]; exact (List.getElem?_eq_some_iff.1 hd).1
    exact h k _ d (List.getElem?_eq_getElem hlt) hd _ _ _ _ (hr k _ u (List.getElem?_eq_getElem hlt) hu)
theorem AVle.tup {cs ds : List AV} (hl : cs.length = ds.length) (h : ∀ (k : Nat) (c d : AV), cs[k]? = some c → ds[k]? = some d → AVle c d) : AVle (.tup cs) (.tup ds) := fun w X g u hr => by
  cases hr with
  | tup _ vs hn hr =>
    refine .tup _ vs (by rw [hn, hl]) fun k d u hd hu => ?_
    have hlt : k < cs.length := by rw [hl]; exact (List.getElem?_eq_some_iff.1 hd).1
    exact h k _ d (List.getElem?_eq_getElem hlt) hd _ _ _ _ (hr k _ u (List.getElem?_eq_getElem hlt) hu)

/-- One list of values is told by another, place by place. -/
def LeL : List AV → List AV → Prop
  | [], [] => True
  | a :: l, b :: r => AVle a b ∧ LeL l r
  | _, _ => False
theorem LeL.refl : ∀ (l : List AV), LeL l l
  | [] => trivial
  | a :: l => ⟨AVle.refl a, LeL.refl l⟩
theorem LeL.get : ∀ {l r : List AV}, LeL l r → l.length = r.length ∧ ∀ (k : Nat) (a b : AV), l[k]? = some a → r[k]? = some b → AVle a b
  | [], [], _ => ⟨rfl, by simp⟩
  | a :: l, b :: r, h => by
    obtain ⟨h1, h2⟩ := LeL.get h.2
    refine ⟨by simp [h1], fun k c d hc hd => ?_⟩
    cases k with
    | zero => simp at hc hd; subst hc; subst hd; exact h.1
    | succ k => simp at hc hd; exact h2 k c d hc hd
  | [], _ :: _, h => h.elim
  | _ :: _, [], h => h.elim
theorem AVle.ags {cs ds : List AV} (h : LeL cs ds) : AVle (.ag cs) (.ag ds) := AVle.ag h.get.1 h.get.2
theorem AVle.tups {cs ds : List AV} (h : LeL cs ds) : AVle (.tup cs) (.tup ds) := AVle.tup h.get.1 h.get.2

def callable (P : Program) (f : FuncId) : Prop := ∃ fn, P.funcs[f]? = some fn ∧ fn.body.isNone = false ∧ (fn.name == "runtime.NumGoroutine") = false

/-- How a call ends: with a result, or with a panic. -/
inductive Res where
  | ret (r : AV)
  | pan (x : AV)
def ResRep (w : World) (X : Nat → Nat → Prop) (g : List Nat) : Res → Ending → Prop
  | .ret r, e => ∃ u, e = .returned u ∧ Rep w X g r u
  | .pan x, e => ∃ v, e = .panicked [{ v, recovered := false }] ∧ Rep w X g x v
theorem ResRep.stays {w w' : World} {X X' : Nat → Nat → Prop} {g g' : List Nat} (hs : Stays w X g w' X' g') {r : Res} {e : Ending} (h : ResRep w X g r e) : ResRep w' X' g' r e := by
  cases r with
  | ret r => obtain ⟨u, h1, h2⟩ := h; exact ⟨u, h1, h2.stays hs⟩
  | pan x => obtain ⟨u, h1, h2⟩ := h; exact ⟨u, h1, h2.stays hs⟩

/-- A way of being called. -/
structure Way where
  C : World → List Nat → Array Value → World → (Ending → World → Prop) → Prop
  mono : ∀ {w0 : World} {g : List Nat} {vs : Array Value} {w : World} {R R' : Ending → World → Prop}, C w0 g vs w R → (∀ e w', R e w' → R' e w') → C w0 g vs w R'

/-- A contract: called with arguments that read so, over what is one's own (h), it returns, or panics, and Q holds of the end and of what is one's own behind it. -/
def ECallG (C : Way) (args : List AV) (h : Heap) (Q : Res → Heap → Prop) : Prop :=
  ∀ (X : Nat → Nat → Prop) (w : World) (g : List Nat) (vs : List Value), HOk w (excl X g h) g h → (∀ b o, X b o → ∀ i, i ∈ h.ids → g[i]? ≠ some b) → vs.length = args.length →
    (∀ (k : Nat) (c : AV) (u : Value), args[k]? = some c → vs[k]? = some u → Rep w (excl X g h) g c u) →
    C.C w g vs.toArray w fun e w' => ∃ r h' g', ResRep w' (excl X g' h') g' r e ∧ Q r h' ∧ (∀ (i b : Nat), g[i]? = some b → g'[i]? = some b) ∧ HOk w' (excl X g' h') g' h' ∧ (∀ b o, X b o → ∀ i, i ∈ h'.ids → g'[i]? ≠ some b) ∧
      Evo (excl none2 g h) w w' ∧ (∀ b o, excl none2 g' h' b o → b < w.heap.size → excl none2 g h b o)

theorem ECallG.mono {C : Way} {args : List AV} {h : Heap} {Q Q' : Res → Heap → Prop} (hc : ECallG C args h Q) (hq : ∀ r h', Q r h' → Q' r h') : ECallG C args h Q' :=
  fun X w g vs h1 h2 h3 h4 => C.mono (hc X w g vs h1 h2 h3 h4) fun e w' ⟨r, h', g', a1, a2, a3⟩ => ⟨r, h', g', a1, hq _ _ a2, a3⟩
theorem ECallG.args {C : Way} {as bs : List AV} {h : Heap} {Q : Res → Heap → Prop} (hl : LeL as bs) (hc : ECallG C bs h Q) : ECallG C as h Q := by
  obtain ⟨h1, h2⟩ := hl.get
  refine fun X w g vs a1 a2 a3 a4 => hc X w g vs a1 a2 (a3.trans h1) fun k c u hk hu => ?_
  have hlt : k < as.length := by rw [h1]; exact (List.getElem?_eq_some_iff.1 hk).1
  exact h2 k _ c (List.getElem?_eq_getElem hlt) hk _ _ _ _ (a4 k _ u (List.getElem?_eq_getElem hlt) hu)

/-- A function's way of being called. -/
def fnWay (P : Program) (f : FuncId) : Way := ⟨fun _ _ vs w R => Calls P f vs w R, fun h hr => h.mono hr⟩
def ECallR (P : Program) (f : FuncId) (args : List AV) (h : Heap) (Q : Res → Heap → Prop) : Prop := callable P f ∧ ECallG (fnWay P f) args h Q
/-- It returns. -/
def retR (Q : AV → Heap → Prop) : Res → Heap → Prop
  | .ret r, h => Q r h
  | .pan _, _ => False
def ECall (P : Program) (f : FuncId) (args : List AV) (h : Heap) (Q : AV → Heap → Prop) : Prop := ECallR P f args h (retR Q)

theorem ECallR.mono {f : FuncId} {args : List AV} {h : Heap} {Q Q' : Res → Heap → Prop} (hc : ECallR P f args h Q) (hq : ∀ r h', Q r h' → Q' r h') : ECallR P f args h Q' := ⟨hc.1, hc.2.mono hq⟩
theorem ECallR.args {f : FuncId} {as bs : List AV} {h : Heap} {Q : Res → Heap → Prop} (hl : LeL as bs) (hc : ECallR P f bs h Q) : ECallR P f as h Q := ⟨hc.1, hc.2.args hl⟩
theorem retR_mono {Q Q' : AV → Heap → Prop} (hq : ∀ r h', Q r h' → Q' r h') : ∀ r h', retR Q r h' → retR Q' r h'
  | .ret r, h', h => hq r h' h
  | .pan _, _, h => h
theorem ECall.mono {f : FuncId} {args : List AV} {h : Heap} {Q Q' : AV → Heap → Prop} (hc : ECall P f args h Q) (hq : ∀ r h', Q r h' → Q' r h') : ECall P f args h Q' := ECallR.mono hc (retR_mono hq)
theorem ECall.args {f : FuncId} {as bs : List AV} {h : Heap} {Q : AV → Heap → Prop} (hl : LeL as bs) (hc : ECall P f bs h Q) : ECall P f as h Q := ECallR.args hl hc

/-- A contract over a part of what is one's own holds over the whole. -/
theorem ECallG.frame {C : Way} {args : List AV} {h1 h : Heap} {Q : Res → Heap → Prop} (hc : ECallG C args h1 Q) (rb : List (Id × Own)) (rp : List (Id × Nat))
    (hb : h.bx.Perm (h1.bx ++ rb)) (hp : h.pm.Perm (h1.pm ++ rp)) (hn : h1.nx = h.nx) :
    ECallG C args h fun r h' => ∃ h1', Q r h1' ∧ h' = ⟨h1'.bx ++ rb, h1'.pm ++ rp, h1'.nx, h1'.nn⟩ := by
  refine fun X w g vs hk hsep hl hr => ?_
  let Xr : List Nat → Nat → Nat → Prop := fun g b o => X b o ∨ (∃ p ∈ rb, g[p.1.2]? = some b) ∨ (∃ p ∈ rp, g[p.1.2]? = some b ∧ p.2 ≤ o)
  have hex : excl (Xr g) g h1 = excl X g h := by
    funext b o
    apply propext
    unfold excl
    have e1 : (∃ p ∈ h.bx, g[p.1.2]? = some b) ↔ (∃ p ∈ h1.bx, g[p.1.2]? = some b) ∨ ∃ p ∈ rb, g[p.1.2]? = some b := by
      constructor
      · rintro ⟨p, hp', hg⟩
        rcases List.mem_append.1 (hb.mem_iff.1 hp') with h | h
        · exact .inl ⟨p, h, hg⟩
        · exact .inr ⟨p, h, hg⟩
      · rintro (⟨p, hp', hg⟩ | ⟨p, hp', hg⟩)
        · exact ⟨p, hb.mem_iff.2 (List.mem_append_left _ hp'), hg⟩
        · exact ⟨p, hb.mem_iff.2 (List.mem_append_right _ hp'), hg⟩
    have e2 : (∃ p ∈ h.pm, g[p.1.2]? = some b ∧ p.2 ≤ o) ↔ (∃ p ∈ h1.pm, g[p.1.2]? = some b ∧ p.2 ≤ o) ∨ ∃ p ∈ rp, g[p.1.2]? = some b ∧ p.2 ≤ o := by
      constructor
      · rintro ⟨p, hp', hg⟩
        rcases List.mem_append.1 (hp.mem_iff.1 hp') with h | h
        · exact .inl ⟨p, h, hg⟩
        · exact .inr ⟨p, h, hg⟩
      · rintro (⟨p, hp', hg⟩ | ⟨p, hp', hg⟩)
        · exact ⟨p, hp.mem_iff.2 (List.mem_append_left _ hp'), hg⟩
        · exact ⟨p, hp.mem_iff.2 (List.mem_append_right _ hp'), hg⟩
    rw [e1, e2]
    constructor
    · rintro ((h | h | h) | h | h)
      · exact .inl h
      · exact .inr (.inl (.inr h))
      · exact .inr (.inr (.inr h))
      · exact .inr (.inl (.inl h))
      · exact .inr (.inr (.inl h))
    · rintro (h | (h | h) | (h | h))
      · exact .inl (.inl h)
      · exact .inr (.inl h)
      · exact .inl (.inr (.inl h))
      · exact .inr (.inr h)
      · exact .inl (.inr (.inr h))
  have hids : h.ids.Perm ((h1.bx.map (·.1.2) ++ h1.pm.map (·.1.2)) ++ (rb.map (·.1.2) ++ rp.map (·.1.2))) := by
    unfold Heap.ids
    have p1 : (h.bx.map (·.1.2)).Perm (h1.bx.map (·.1.2) ++ rb.map (·.1.2)) := by rw [← List.map_append]; exact hb.map _
    have p2 : (h.pm.map (·.1.2)).Perm (h1.pm.map (·.1.2) ++ rp.map (·.1.2)) := by rw [← List.map_append]; exact hp.map _
    refine (p1.append p2).trans ?_
    rw [List.append_assoc, List.append_assoc]
    refine List.Perm.append_left _ ?_
    rw [← List.append_assoc, ← List.append_assoc]
    exact List.Perm.append_right _ List.perm_append_comm
  have hnd : (((h1.bx.map (·.1.2) ++ h1.pm.map (·.1.2)).map fun i => g[i]?) ++ ((rb.map (·.1.2) ++ rp.map (·.1.2)).map fun i => g[i]?)).Nodup := by
    rw [← List.map_append]
    exact (hids.map _).nodup_iff.1 hk.nodup
  obtain ⟨nd1, nd2, nd3⟩ := List.nodup_append.1 hnd
  have hbm : ∀ p ∈ h1.bx, p ∈ h.bx := fun p h' => hb.mem_iff.2 (List.mem_append_left _ h')
  have hpm : ∀ p ∈ h1.pm, p ∈ h.pm := fun p h' => hp.mem_iff.2 (List.mem_append_left _ h')
  have hbr : ∀ p ∈ rb, p ∈ h.bx := fun p h' => hb.mem_iff.2 (List.mem_append_right _ h')
  have hpr : ∀ p ∈ rp, p ∈ h.pm := fun p h' => hp.mem_iff.2 (List.mem_append_right _ h')
  have hrid : ∀ i, i ∈ rb.map (·.1.2) ++ rp.map (·.1.2) → i ∈ h.ids := fun i hi => hids.mem_iff.2 (List.mem_append_right _ hi)
  have h1id : ∀ i, i ∈ h1.ids → i ∈ h.ids := fun i hi => hids.mem_iff.2 (List.mem_append_left _ hi)
  have hk1 : HOk w (excl (Xr g) g h1) g h1 := by
    rw [hex]
    exact ⟨fun p h' => hk.bx p (hbm p h'), fun p h' => hk.pm p (hpm p h'), nd1, hn.trans hk.nx, hk.bd⟩
  have hsep1 : ∀ b o, Xr g b o → ∀ i, i ∈ h1.ids → g[i]? ≠ some b := by
    rintro b o (hx | ⟨p, hp', hg⟩ | ⟨p, hp', hg, _⟩) i hi
    · exact hsep b o hx i (h1id i hi)
    · intro e
      exact nd3 _ (List.mem_map.2 ⟨i, hi, rfl⟩) _ (List.mem_map.2 ⟨p.1.2, List.mem_append_left _ (List.mem_map.2 ⟨p, hp', rfl⟩), rfl⟩) (by rw [e, hg])
    · intro e
      exact nd3 _ (List.mem_map.2 ⟨i, hi, rfl⟩) _ (List.mem_map.2 ⟨p.1.2, List.mem_append_right _ (List.mem_map.2 ⟨p, hp', rfl⟩), rfl⟩) (by rw [e, hg])
  refine C.mono (hc (Xr g) w g vs hk1 hsep1 hl (by rw [hex]; exact hr)) fun e w' ⟨r, h1', g', a6, a2, a3, a4, a5, a7, a8⟩ => ?_
  have hXg : Xr g' = Xr g := by
    funext b o
    apply propext
    have same : ∀ i, i ∈ h.ids → g'[i]? = g[i]? := fun i hi => by
      obtain ⟨b', hb', _⟩ := ids_lt hk hi
      rw [hb', a3 i b' hb']
    have e1 : (∃ p ∈ rb, g'[p.1.2]? = some b) ↔ ∃ p ∈ rb, g[p.1.2]? = some b := by
      constructor <;> rintro ⟨p, hp', hg⟩ <;> refine ⟨p, hp', ?_⟩
      · rw [← same p.1.2 (hrid _ (List.mem_append_left _ (List.mem_map.2 ⟨p, hp', rfl⟩)))]; exact hg
      · rw [same p.1.2 (hrid _ (List.mem_append_left _ (List.mem_map.2 ⟨p, hp', rfl⟩)))]; exact hg
    have e2 : (∃ p ∈ rp, g'[p.1.2]? = some b ∧ p.2 ≤ o) ↔ ∃ p ∈ rp, g[p.1.2]? = some b ∧ p.2 ≤ o := by
      constructor <;> rintro ⟨p, hp', hg, hle⟩ <;> refine ⟨p, hp', ?_, hle⟩
      · rw [← same p.1.2 (hrid _ (List.mem_append_right _ (List.mem_map.2 ⟨p, hp', rfl⟩)))]; exact hg
      · rw [same p.1.2 (hrid _ (List.mem_append_right _ (List.mem_map.2 ⟨p, hp', rfl⟩)))]; exact hg
    simp only [Xr]
    rw [e1, e2]
  have hex' : excl X g' ⟨h1'.bx ++ rb, h1'.pm ++ rp, h1'.nx, h1'.nn⟩ = excl (Xr g) g' h1' := by
    rw [← hXg]
    funext b o
    apply propext
    unfold excl
    simp only [Xr, List.mem_append, or_and_right, exists_or]
    constructor
    · rintro (h | (h | h) | (h | h))
      · exact .inl (.inl h)
      · exact .inr (.inl h)
      · exact .inl (.inr (.inl h))
      · exact .inr (.inr h)
      · exact .inl (.inr (.inr h))
    · rintro ((h | h | h) | h | h)
      · exact .inl h
      · exact .inr (.inl (.inr h))
      · exact .inr (.inr (.inr h))
      · exact .inr (.inl (.inl h))
      · exact .inr (.inr (.inl h))
  have hM : ∀ b o, excl none2 g h1 b o → excl none2 g h b o := by
    rintro b o (h | ⟨p, hp', hg⟩ | ⟨p, hp', hg⟩)
    · exact h.elim
    · exact .inr (.inl ⟨p, hbm p hp', hg⟩)
    · exact .inr (.inr ⟨p, hpm p hp', hg⟩)
  have hrest : ∀ i, i ∈ rb.map (·.1.2) ++ rp.map (·.1.2) → ∀ b, g[i]? = some b → ∀ o, ¬ excl none2 g h1 b o := by
    rintro i hi b hg o (h | ⟨p, hp', hg'⟩ | ⟨p, hp', hg', _⟩)
    · exact h
    · exact nd3 _ (List.mem_map.2 ⟨p.1.2, List.mem_append_left _ (List.mem_map.2 ⟨p, hp', rfl⟩), rfl⟩) _ (List.mem_map.2 ⟨i, hi, rfl⟩) (by rw [hg', hg])
    · exact nd3 _ (List.mem_map.2 ⟨p.1.2, List.mem_append_right _ (List.mem_map.2 ⟨p, hp', rfl⟩), rfl⟩) _ (List.mem_map.2 ⟨i, hi, rfl⟩) (by rw [hg', hg])
  have hstays : Stays w (excl X g h) g w' (excl (Xr g) g' h1') g' := by
    refine a7.stays (fun b o _ hx => excl_none (hM b o hx)) (fun b o hb' hx => ?_) a3
    rcases hx with hx | hx | hx
    · rw [← hex]; exact .inl hx
    · exact excl_none (hM b o (a8 b o (.inr (.inl hx)) hb'))
    · exact excl_none (hM b o (a8 b o (.inr (.inr hx)) hb'))
  -- blocks of the callee's are others than the rest's
  have hapart : ∀ i, i ∈ h1'.ids → ∀ j, j ∈ rb.map (·.1.2) ++ rp.map (·.1.2) → g'[i]? ≠ g'[j]? := by
    intro i hi j hj e
    obtain ⟨b, hb', hlt⟩ := ids_lt hk (hrid j hj)
    have hgj : g'[j]? = some b := a3 j b hb'
    have hown : ∃ o, excl none2 g' h1' b o := by
      unfold Heap.ids at hi
      rcases List.mem_append.1 hi with hi | hi
      · obtain ⟨p, hp', rfl⟩ := List.mem_map.1 hi
        exact ⟨0, .inr (.inl ⟨p, hp', by rw [e, hgj]⟩)⟩
      · obtain ⟨p, hp', rfl⟩ := List.mem_map.1 hi
        exact ⟨p.2, .inr (.inr ⟨p, hp', by rw [e, hgj], Nat.le_refl _⟩)⟩
    obtain ⟨o, ho⟩ := hown
    exact hrest j hj b hb' o (a8 b o ho hlt)
  refine ⟨r, _, g', ?_, ⟨h1', a2, rfl⟩, a3, ?_, ?_, a7.mono fun b o _ hx => hM b o hx, ?_⟩
  · rw [hex']
    rw [hXg.symm] at a6 ⊢
    rw [hXg] at a6 ⊢
    exact a6
  · rw [hex']
    rw [hXg.symm] at a4 ⊢
    rw [hXg] at a4 ⊢
    refine ⟨fun p hp' => ?_, fun p hp' => ?_, ?_, a4.nx, a4.bd⟩
    · rcases List.mem_append.1 hp' with hp' | hp'
      · exact a4.bx p hp'
      · obtain ⟨b, q1, q2⟩ := hk.bx p (hbr p hp')
        exact ⟨b, a3 _ _ q1, q2.stays hstays (a7.blk b q2.lt (hrest p.1.2 (List.mem_append_left _ (List.mem_map.2 ⟨p, hp', rfl⟩)) b q1))⟩
    · rcases List.mem_append.1 hp' with hp' | hp'
      · exact a4.pm p hp'
      · obtain ⟨b, vs', e', q1, q2, q3⟩ := hk.pm p (hpr p hp')
        refine ⟨b, vs', e', a3 _ _ q1, ?_, q3⟩
        rw [a7.blk b (lt_of_block q2) (hrest p.1.2 (List.mem_append_right _ (List.mem_map.2 ⟨p, hp', rfl⟩)) b q1)]
        exact q2
    · have same : ∀ i, i ∈ rb.map (·.1.2) ++ rp.map (·.1.2) → g'[i]? = g[i]? := fun i hi => by
        obtain ⟨b', hb', _⟩ := ids_lt hk (hrid i hi)
        rw [hb', a3 i b' hb']
      have perm : (Heap.ids ⟨h1'.bx ++ rb, h1'.pm ++ rp, h1'.nx, h1'.nn⟩).Perm (h1'.ids ++ (rb.map (·.1.2) ++ rp.map (·.1.2))) := by
        unfold Heap.ids
        simp only [List.map_append]
        rw [List.append_assoc, List.append_assoc]
        refine List.Perm.append_left _ ?_
        rw [← List.append_assoc, ← List.append_assoc]
        exact List.Perm.append_right _ List.perm_append_comm
      refine (perm.map _).nodup_iff.2 ?_
      rw [List.map_append]
      refine List.nodup_append.2 ⟨a4.nodup, ?_, ?_⟩
      · rw [List.map_congr_left same]; exact nd2
      · intro x hx y hy hxy
        obtain ⟨i, hi, rfl⟩ := List.mem_map.1 hx
        obtain ⟨j, hj, rfl⟩ := List.mem_map.1 hy
        exact hapart i hi j hj hxy
  · intro b o hx i hi
    unfold Heap.ids at hi
    simp only [List.map_append] at hi
    have hi' : i ∈ h1'.ids ∨ i ∈ rb.map (·.1.2) ++ rp.map (·.1.2) := by
      unfold Heap.ids
      simp only [List.mem_append] at hi ⊢
      rcases hi with (h | h) | (h | h)
      · exact .inl (.inl h)
      · exact .inr (.inl h)
      · exact .inl (.inr h)
      · exact .inr (.inr h)
    rcases hi' with hi | hi
    · exact a5 b o (.inl hx) i hi
    · obtain ⟨b', hb', _⟩ := ids_lt hk (hrid i hi)
      rw [a3 i b' hb']
      intro e
      exact hsep b o hx i (hrid i hi) (by rw [hb', e])
  · rintro b o hx hb'
    rcases hx with hx | ⟨p, hp', hg⟩ | ⟨p, hp', hg, hle⟩
    · exact hx.elim
    · rcases List.mem_append.1 hp' with hp' | hp'
      · exact hM b o (a8 b o (.inr (.inl ⟨p, hp', hg⟩)) hb')
      · obtain ⟨b', hb'', _⟩ := ids_lt hk (hrid p.1.2 (List.mem_append_left _ (List.mem_map.2 ⟨p, hp', rfl⟩)))
        rw [a3 _ _ hb''] at hg; cases hg
        exact .inr (.inl ⟨p, hbr p hp', hb''⟩)
    · rcases List.mem_append.1 hp' with hp' | hp'
      · exact hM b o (a8 b o (.inr (.inr ⟨p, hp', hg, hle⟩)) hb')
      · obtain ⟨b', hb'', _⟩ := ids_lt hk (hrid p.1.2 (List.mem_append_right _ (List.mem_map.2 ⟨p, hp', rfl⟩)))
        rw [a3 _ _ hb''] at hg; cases hg
        exact .inr (.inr ⟨p, hpr p hp', hb'', hle⟩)

theorem ECallR.frame {f : FuncId} {args : List AV} {h1 h : Heap} {Q : Res → Heap → Prop} (hc : ECallR P f args h1 Q) (rb : List (Id × Own)) (rp : List (Id × Nat))
    (hb : h.bx.Perm (h1.bx ++ rb)) (hp : h.pm.Perm (h1.pm ++ rp)) (hn : h1.nx = h.nx) :
    ECallR P f args h fun r h' => ∃ h1', Q r h1' ∧ h' = ⟨h1'.bx ++ rb, h1'.pm ++ rp, h1'.nx, h1'.nn⟩ := ⟨hc.1, hc.2.frame rb rp hb hp hn⟩
theorem ECall.frame {f : FuncId} {args : List AV} {h1 h : Heap} {Q : AV → Heap → Prop} (hc : ECall P f args h1 Q) (rb : List (Id × Own)) (rp : List (Id × Nat))
    (hb : h.bx.Perm (h1.bx ++ rb)) (hp : h.pm.Perm (h1.pm ++ rp)) (hn : h1.nx = h.nx) :
    ECall P f args h fun r h' => ∃ h1', Q r h1' ∧ h' = ⟨h1'.bx ++ rb, h1'.pm ++ rp, h1'.nx, h1'.nn⟩ :=
  (ECallR.frame hc rb rp hb hp hn).mono fun r h' ⟨h1', q1, q2⟩ => by
    cases r with
    | ret r => exact ⟨h1', q1, q2⟩
    | pan x => exact q1.elim

/-- The same memory, other names. -/
structure Like (h h' : Heap) : Prop where
  bx : (h'.bx.map (fun p => (p.1.2, p.2))).Perm (h.bx.map (fun p => (p.1.2, p.2)))
  pm : (h'.pm.map (fun p => (p.1.2, p.2))).Perm (h.pm.map (fun p => (p.1.2, p.2)))
  nx : h'.nx = h.nx
theorem Like.refl (h : Heap) : Like h h := ⟨.refl _, .refl _, rfl⟩
theorem like_mem {α : Type} {l l' : List (Id × α)} (h : (l'.map (fun p => (p.1.2, p.2))).Perm (l.map (fun p => (p.1.2, p.2)))) {p : Id × α} (hp : p ∈ l') : ∃ q ∈ l, q.1.2 = p.1.2 ∧ q.2 = p.2 := by
  have : (p.1.2, p.2) ∈ l.map (fun p => (p.1.2, p.2)) := h.mem_iff.1 (List.mem_map.2 ⟨p, hp, rfl⟩)
  obtain ⟨q, hq, e⟩ := List.mem_map.1 this
  simp only [Prod.mk.injEq] at e
  exact ⟨q, hq, e.1, e.2⟩
theorem Like.ids {h h' : Heap} (l : Like h h') : h'.ids.Perm h.ids := by
  have e1 : (h'.bx.map (·.1.2)).Perm (h.bx.map (·.1.2)) := by
    have := l.bx.map Prod.fst
    simpa [List.map_map, Function.comp_def] using this
  have e2 : (h'.pm.map (·.1.2)).Perm (h.pm.map (·.1.2)) := by
    have := l.pm.map Prod.fst
    simpa [List.map_map, Function.comp_def] using this
  unfold Heap.ids
  exact e1.append e2
theorem Like.excl {h h' : Heap} (l : Like h h') (X : Nat → Nat → Prop) (g : List Nat) : Vl.excl X g h' = Vl.excl X g h := by
  have key : ∀ {h h' : Heap}, Like h h' → ∀ b o, Vl.excl X g h' b o → Vl.excl X g h b o := by
    rintro h h' l b o (hx | ⟨p, hp, hg⟩ | ⟨p, hp, hg, hle⟩)
    · exact .inl hx
    · obtain ⟨q, hq, e1, e2⟩ := like_mem l.bx hp
      exact .inr (.inl ⟨q, hq, by rw [e1]; exact hg⟩)
    · obtain ⟨q, hq, e1, e2⟩ := like_mem l.pm hp
      exact .inr (.inr ⟨q, hq, by rw [e1]; exact hg, by rw [e2]; exact hle⟩)
  funext b o
  exact propext ⟨key l b o, key ⟨l.bx.symm, l.pm.symm, l.nx.symm⟩ b o⟩
theorem HOk.like {w : World} {X : Nat → Nat → Prop} {g : List Nat} {h h' : Heap} (hk : HOk w X g h) (l : Like h h') : HOk w X g h' := by
  refine ⟨fun p hp => ?_, fun p hp => ?_, (l.ids.map _).nodup_iff.2 hk.nodup, l.nx.trans hk.nx, hk.bd⟩
  · obtain ⟨q, hq, e1, e2⟩ := like_mem l.bx hp
    rw [← e1, ← e2]
    exact hk.bx q hq
  · obtain ⟨q, hq, e1, e2⟩ := like_mem l.pm hp
    rw [← e1, ← e2]
    exact hk.pm q hq
theorem St.like {ro : Option Nat} {X M : Nat → Nat → Prop} {w0 : World} {E : Env} {a : Act} {w : World} {g : List Nat} (hs : St ro X M w0 E a w g) {h' : Heap} (l : Like E.h h') : St ro X M w0 { E with h := h' } a w g :=
  ⟨by show HOk w (excl X g h') g h'; rw [l.excl]; exact hs.hok.like l, fun k => by show Rep w (excl X g h') g _ _; rw [l.excl]; exact hs.tm k, hs.n, hs.evo, fun b o h => hs.loc b o (by rw [← l.excl]; exact h), by show DOk w (excl X g h') g _ _; rw [l.excl]; exact hs.def_,
   fun b o h i hi => hs.sep b o h i (l.ids.mem_iff.1 hi), hs.top, hs.rnd⟩
theorem ele_like {E : Env} {h' : Heap} (l : Like E.h h') : ELe E { E with h := h' } := fun _ _ _ _ _ _ _ hs => hs.like l

/-- What a call has given, told in the caller's own names. -/
def Named (r : AV) (h : Heap) (K : AV → Heap → Prop) : Prop := ∃ r' h', AVle r r' ∧ Like h h' ∧ K r' h'
theorem Named.same {r : AV} {h : Heap} {K : AV → Heap → Prop} (hk : K r h) : Named r h K := ⟨r, h, AVle.refl _, Like.refl _, hk⟩

/-- A call whose contract speaks of all that is one's own. -/
theorem aop_callR {o : Oper} {E : Env} {K : Env → Prop} {fo : Operand} {args : Array Operand} {tys : Array TypeId} {f : FuncId} {first caps : List AV} {Q : Res → Heap → Prop} {Kp : AV → Env → Prop}
    (ho : o.op = .call { callee := .value fo, args := args, argTypes := tys }) (hf : E.ev fo = .fn (.func f) first caps)
    (hc : ECallR P f (first ++ args.toList.map E.ev ++ caps) E.h Q) (hk : ∀ r h', Q (.ret r) h' → Named r h' fun r h' => K (({ E with h := h' } : Env).set o.dst r)) (hkp : ∀ x h', Q (.pan x) h' → Kp x { E with h := h' }) : AOp P o E K Kp := by
  intro ro X M w0 a w g hs next Q' hn hpan
  obtain ⟨⟨fn, hfn, hbody, hname⟩, hcall⟩ := hc
  have hfr := hs.ev fo
  rw [hf] at hfr
  generalize hu : a.eval fo = u at hfr
  cases hfr with
  | fn _ _ _ v1 v2 hl1 hl2 hr1 hr2 =>
    have hrun : (execOp a.eval o).run P w = .ok (.enter f (v1 ++ args.toList.map a.eval ++ v2).toArray) w := by
      have e : v1.toArray ++ args.map a.eval ++ v2.toArray = (v1 ++ args.toList.map a.eval ++ v2).toArray := by
        apply Array.ext'; simp
      unfold execOp
      simp only [ho, resolve, hu, Deferred.ofValue, pure_bind, invoke, e]
      simp only [callFunc, Sem.run_bind, run_program, Result.andThen_ok, hfn, hname, hbody, Bool.false_eq_true, if_false, Sem.run_pure]
    refine wpIn_of_run (by rw [ho]; intro c h; cases h) ?_
    rw [hrun]
    refine upon_enter ?_
    have hcs := hcall X w g (v1 ++ args.toList.map a.eval ++ v2) hs.hok hs.sep (by simp [hl1, hl2]) (fun k c u hc hu => by
      rw [List.getElem?_append] at hc hu
      simp only [List.length_append, List.length_map, hl1, hl2] at hc hu
      split at hc
      · rename_i h1
        rw [if_pos h1] at hu
        rw [List.getElem?_append] at hc hu
        rw [hl1] at hu
        split at hc
        · rename_i h2; rw [if_pos h2] at hu; exact hr1 k c u hc hu
        · rename_i h2; rw [if_neg h2] at hu
          rw [List.getElem?_map] at hc hu
          cases hx : args.toList[k - first.length]? with
          | none => simp [hx] at hc
          | some x =>
            simp only [hx, Option.map_some, Option.some.injEq] at hc hu
            subst hc; subst hu
            exact hs.ev x
      · rename_i h1
        rw [if_neg h1] at hu
        exact hr2 _ c u hc hu)
    refine Calls.mono hcs fun e w' ⟨r, h', g', a6, a2, a3, a4, a5, a7, a8⟩ => ?_
    have hst : Stays w (excl X g E.h) g w' (excl X g' h') g' := by
      refine a7.stays (fun b o _ hx => excl_none hx) (fun b o hb' hx => ?_) a3
      rcases hx with hx | hx | hx
      · exact .inl hx
      · exact excl_none (a8 b o (.inr (.inl hx)) hb')
      · exact excl_none (a8 b o (.inr (.inr hx)) hb')
    have hnew : St ro X M w0 { E with h := h' } a w' g' :=
      ⟨a4, fun k => (hs.tm k).stays hst, hs.n, hs.evo.and_then a7 (fun b o hb' hx => hs.loc b o hx hb'), fun b o hx hb' => hs.loc b o (a8 b o hx (Nat.lt_of_lt_of_le hb' hs.evo.size)) hb', hs.def_.stays hst, a5, hs.top, hs.rnd⟩
    cases r with
    | ret r =>
      obtain ⟨u, rfl, a6⟩ := a6
      obtain ⟨r', h'', l1, l2, hk'⟩ := hk r h' a2
      have hnew' := hnew.like l2
      refine hn _ _ _ g' hk' a3 (hnew'.put o.dst ?_)
      show Rep w' (excl X g' h'') g' r' u
      rw [l2.excl]
      exact l1 _ _ _ _ a6
    | pan x =>
      obtain ⟨u, rfl, a6⟩ := a6
      exact hpan x { E with h := h' } a w' g' u (hkp x h' a2) a3 hnew a6
theorem aop_call {o : Oper} {E : Env} {K : Env → Prop} {fo : Operand} {args : Array Operand} {tys : Array TypeId} {f : FuncId} {first caps : List AV} {Q : AV → Heap → Prop} {Kp : AV → Env → Prop}
    (ho : o.op = .call { callee := .value fo, args := args, argTypes := tys }) (hf : E.ev fo = .fn (.func f) first caps)
    (hc : ECall P f (first ++ args.toList.map E.ev ++ caps) E.h Q) (hk : ∀ r h', Q r h' → Named r h' fun r h' => K (({ E with h := h' } : Env).set o.dst r)) : AOp P o E K Kp :=
  aop_callR ho hf hc hk (fun _ _ h => h.elim)
end Go.Vl
