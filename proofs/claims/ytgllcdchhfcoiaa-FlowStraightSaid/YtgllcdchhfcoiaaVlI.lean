/- Data, as trees of values: what arguments a law may be handed, told by lists, numbers, tuples. Memory of one's own that is no more written. -/
import Derived.Test.YtgllcdchhfcoiaaVlH
namespace Go.Vl
open Go.RowKit
variable {P : Program}

/-- Each value of the type is told by e of something that is right. -/
structure Cov (P : Program) (d : Nat) (t : TypeId) {α : Type} (e : α → AV) (ok : α → Prop) : Prop where
  h : ∀ cs, wty P d t cs → ∃ x, ok x ∧ LeL cs (e x).cells ∧ AVle (mkAV P t cs) (e x)
structure CovP (P : Program) (d : Nat) (ts : List TypeId) {α : Type} (e : α → List AV) (ok : α → Prop) : Prop where
  h : ∀ cs, wtyP P (wty P d) ts cs → ∃ x, ok x ∧ LeL cs (e x)

theorem LeL.append : ∀ {as bs cs ds : List AV}, LeL as bs → LeL cs ds → LeL (as ++ cs) (bs ++ ds)
  | [], [], _, _, _, h => h
  | _ :: _, _ :: _, _, _, h, k => ⟨h.1, LeL.append h.2 k⟩
  | [], _ :: _, _, _, h, _ => h.elim
  | _ :: _, [], _, _, h, _ => h.elim

theorem Cov.map {d : Nat} {t : TypeId} {α β : Type} {e : α → AV} {e' : β → AV} {ok : α → Prop} {ok' : β → Prop} (h : Cov P d t e ok) (f : α → β) (he : ∀ x, e x = e' (f x)) (ho : ∀ x, ok x → ok' (f x)) : Cov P d t e' ok' :=
  ⟨fun cs hw => let ⟨x, h1, h2, h3⟩ := h.h cs hw; ⟨f x, ho x h1, by rw [← he]; exact h2, by rw [← he]; exact h3⟩⟩
theorem Cov.of_cell {d : Nat} {t : TypeId} {α : Type} {e : α → AV} {ok : α → Prop} {D : TypeDesc} (ht : P.underlying t = some D) (hD : agD D = false)
    (h : ∀ cs, wty P d t cs → ∃ x, ok x ∧ cs.length = 1 ∧ (e x).cells = [e x] ∧ AVle (cs.headD .any) (e x)) : Cov P d t e ok := by
  refine ⟨fun cs hw => ?_⟩
  obtain ⟨x, h1, h2, h3, h4⟩ := h cs hw
  refine ⟨x, h1, ?_, ?_⟩
  · match cs, h2 with
    | [c], _ => rw [h3]; exact ⟨h4, trivial⟩
  · simp only [mkAV, ht, hD, cond_false]; exact h4
theorem Cov.bool {d : Nat} {t : TypeId} (ht : P.underlying t = some .bool) : Cov P (d + 1) t (fun b : Bool => .v (.bool b)) (fun _ => True) :=
  Cov.of_cell ht rfl fun cs hw => by
    simp only [wty, ht] at hw
    obtain ⟨b, rfl⟩ := hw
    exact ⟨b, trivial, rfl, rfl, AVle.refl _⟩
theorem Cov.int {d : Nat} {t : TypeId} {k : IntKind} (ht : P.underlying t = some (.int k)) : Cov P (d + 1) t (fun n : Int => .v (.int k n)) (fun n => (Lit.int k n).wf = true) :=
  Cov.of_cell ht rfl fun cs hw => by
    simp only [wty, ht] at hw
    obtain ⟨b, rfl, h⟩ := hw
    exact ⟨b, h, rfl, rfl, AVle.refl _⟩
theorem Cov.str {d : Nat} {t : TypeId} (ht : P.underlying t = some .string) : Cov P (d + 1) t (fun s : ByteArray => .v (.string s)) (fun s => s.size ≤ maxLen) :=
  Cov.of_cell ht rfl fun cs hw => by
    simp only [wty, ht] at hw
    obtain ⟨b, rfl, h⟩ := hw
    exact ⟨b, h, rfl, rfl, AVle.refl _⟩
theorem Cov.slice {d : Nat} {t e : TypeId} {α : Type} {en : α → AV} {ok : α → Prop} (dflt : α) (ht : P.underlying t = some (.slice e)) (he : Cov P d e en ok) (hsz : ∀ x, (en x).cells.length = P.cellsOf e) :
    Cov P (d + 1) t (fun l : List α => slOf (P.cellsOf e) en dflt l) (fun l => l.length ≤ maxLen ∧ ∀ x ∈ l, ok x) :=
  Cov.of_cell ht rfl fun cs hw => by
    simp only [wty, ht] at hw
    obtain ⟨n, f, rfl, hn, hf⟩ := hw
    have key : ∀ m, m ≤ n → ∃ l : List α, l.length = m ∧ (∀ x ∈ l, ok x) ∧ ∀ (i : Nat) (x : α), l[i]? = some x → ∃ cs, f i = mkAV P e cs ∧ wty P d e cs ∧ LeL cs (en x).cells ∧ AVle (mkAV P e cs) (en x) := by
      intro m
      induction m with
      | zero => intro _; exact ⟨[], rfl, by simp, by simp⟩
      | succ m ih =>
        intro hm
        obtain ⟨l, h1, h2, h3⟩ := ih (by omega)
        obtain ⟨cs, h4, h5⟩ := hf m (by omega)
        obtain ⟨x, h6, h7, h8⟩ := he.h cs h5
        refine ⟨l ++ [x], by simp [h1], fun y hy => ?_, fun i y hy => ?_⟩
        · rcases List.mem_append.1 hy with hy | hy
          · exact h2 y hy
          · simp at hy; subst hy; exact h6
        · rw [List.getElem?_append] at hy
          split at hy
          · exact h3 i y hy
          · rename_i hi
            have : i = m := by
              have := (List.getElem?_eq_some_iff.1 hy).1
              simp at this; omega
            subst this
            rw [h1, Nat.sub_self] at hy
            simp at hy; subst hy
            exact ⟨cs, h4, h5, h7, h8⟩
    obtain ⟨l, h1, h2, h3⟩ := key n (Nat.le_refl _)
    refine ⟨l, ⟨by omega, h2⟩, rfl, rfl, ?_⟩
    subst h1
    refine AVle.sl_congr (fun k hk => ?_) (fun k hk hc => ?_)
    · obtain ⟨cs, q1, q2, q3, q4⟩ := h3 k _ (List.getElem?_eq_getElem hk)
      rw [q1]; simpa [List.getD, hk] using q4
    · obtain ⟨cs, q1, q2, q3, q4⟩ := h3 k _ (List.getElem?_eq_getElem hk)
      refine ⟨hsz _, fun j c c' hj hj' => ?_⟩
      rw [q1, mkAV_cells q2] at hj
      exact q3.get.2 j c c' hj (by simpa [List.getD, hk] using hj')

theorem CovP.nil {d : Nat} : CovP P d [] (fun _ : Unit => []) (fun _ => True) := ⟨fun cs h => ⟨(), trivial, by rw [show cs = [] from h]; trivial⟩⟩
theorem CovP.cons {d : Nat} {t : TypeId} {ts : List TypeId} {α β : Type} {e : α → AV} {es : β → List AV} {ok : α → Prop} {oks : β → Prop} (h : Cov P d t e ok) (k : CovP P d ts es oks) :
    CovP P d (t :: ts) (fun p : α × β => (e p.1).cells ++ es p.2) (fun p => ok p.1 ∧ oks p.2) := ⟨fun cs hw => by
  obtain ⟨p, q, rfl, h1, h2⟩ := hw
  obtain ⟨x, a1, a2, _⟩ := h.h p h1
  obtain ⟨y, b1, b2⟩ := k.h q h2
  exact ⟨(x, y), ⟨a1, b1⟩, a2.append b2⟩⟩
theorem CovP.rep {d : Nat} {t : TypeId} {α : Type} {e : α → AV} {ok : α → Prop} (h : Cov P d t e ok) : ∀ n : Nat, CovP P d (List.replicate n t) (fun l : List α => (l.map fun x => (e x).cells).flatten) (fun l => l.length = n ∧ ∀ x ∈ l, ok x)
  | 0 => ⟨fun cs hw => ⟨[], ⟨rfl, by simp⟩, by rw [show cs = [] from hw]; trivial⟩⟩
  | n + 1 => ⟨fun cs hw => by
    obtain ⟨p, q, rfl, h1, h2⟩ := hw
    obtain ⟨x, a1, a2, _⟩ := h.h p h1
    obtain ⟨l, ⟨b1, b2⟩, b3⟩ := (CovP.rep h n).h q h2
    refine ⟨x :: l, ⟨by simp [b1], fun y hy => ?_⟩, by simpa using a2.append b3⟩
    rcases List.mem_cons.1 hy with rfl | hy
    · exact a1
    · exact b2 y hy⟩
theorem Cov.ag {d : Nat} {t : TypeId} {ts : List TypeId} {α : Type} {es : α → List AV} {ok : α → Prop} {D : TypeDesc} (ht : P.underlying t = some D) (hD : agD D = true) (hw : ∀ cs, wty P (d + 1) t cs → wtyP P (wty P d) ts cs)
    (h : CovP P d ts es ok) : Cov P (d + 1) t (fun x => .ag (es x)) ok := ⟨fun cs hc => by
  obtain ⟨x, h1, h2⟩ := h.h cs (hw cs hc)
  exact ⟨x, h1, h2, by simp only [mkAV, ht, hD, cond_true]; exact AVle.ags h2⟩⟩
theorem Cov.struct {d : Nat} {t : TypeId} {fs : Array Field} {ts : List TypeId} {α : Type} {es : α → List AV} {ok : α → Prop} (ht : P.underlying t = some (.struct fs)) (hts : fs.toList.map (·.type) = ts) (h : CovP P d ts es ok) :
    Cov P (d + 1) t (fun x => .ag (es x)) ok := Cov.ag ht rfl (fun cs hc => by simp only [wty, ht, hts] at hc; exact hc) h
theorem Cov.array {d : Nat} {t e : TypeId} {n : Nat} {α : Type} {en : α → AV} {ok : α → Prop} (ht : P.underlying t = some (.array n e)) (h : Cov P d e en ok) :
    Cov P (d + 1) t (fun l : List α => .ag ((l.map fun x => (en x).cells).flatten)) (fun l => l.length = n ∧ ∀ x ∈ l, ok x) := Cov.ag ht rfl (fun cs hc => by simp only [wty, ht] at hc; exact hc) (CovP.rep h n)

theorem PCall.args {f : FuncId} {as bs : List AV} {R : AV → Prop} (hl : LeL as bs) (h : PCall P f bs R) : PCall P f as R := fun nx => (h nx).args hl

theorem wtyAll_one {d : Nat} {t : TypeId} {α : Type} {e : α → AV} {ok : α → Prop} (h : Cov P d t e ok) {f : FuncId} {R : AV → Prop} (k : ∀ x, ok x → PCall P f [e x] R) : ∀ as, WtyAll P d [t] as → PCall P f as R
  | [a], ⟨⟨cs, ha, hw⟩, _⟩ => by
    obtain ⟨x, h1, _, h3⟩ := h.h cs hw
    subst ha
    exact PCall.args (bs := [e x]) ⟨h3, trivial⟩ (k x h1)
  | [], h => h.elim
  | _ :: _ :: _, h => h.2.elim
theorem wtyAll_two {d : Nat} {t t' : TypeId} {α β : Type} {e : α → AV} {ok : α → Prop} {e' : β → AV} {ok' : β → Prop} (h : Cov P d t e ok) (h' : Cov P d t' e' ok') {f : FuncId} {R : AV → Prop}
    (k : ∀ x y, ok x → ok' y → PCall P f [e x, e' y] R) : ∀ as, WtyAll P d [t, t'] as → PCall P f as R
  | [a, b], ⟨⟨cs, ha, hw⟩, ⟨cs', hb, hw'⟩, _⟩ => by
    obtain ⟨x, h1, _, h3⟩ := h.h cs hw
    obtain ⟨y, h1', _, h3'⟩ := h'.h cs' hw'
    subst ha; subst hb
    exact PCall.args (bs := [e x, e' y]) ⟨h3, h3', trivial⟩ (k x y h1 h1')
  | [], h => h.elim
  | [_], h => h.2.elim
  | _ :: _ :: _ :: _, h => h.2.2.elim
theorem wtyAll_three {d : Nat} {t t' t'' : TypeId} {α β γ : Type} {e : α → AV} {ok : α → Prop} {e' : β → AV} {ok' : β → Prop} {e'' : γ → AV} {ok'' : γ → Prop} (h : Cov P d t e ok) (h' : Cov P d t' e' ok') (h'' : Cov P d t'' e'' ok'') {f : FuncId} {R : AV → Prop}
    (k : ∀ x y z, ok x → ok' y → ok'' z → PCall P f [e x, e' y, e'' z] R) : ∀ as, WtyAll P d [t, t', t''] as → PCall P f as R
  | [a, b, c], ⟨⟨cs, ha, hw⟩, ⟨cs', hb, hw'⟩, ⟨cs'', hc, hw''⟩, _⟩ => by
    obtain ⟨x, h1, _, h3⟩ := h.h cs hw
    obtain ⟨y, h1', _, h3'⟩ := h'.h cs' hw'
    obtain ⟨z, h1'', _, h3''⟩ := h''.h cs'' hw''
    subst ha; subst hb; subst hc
    exact PCall.args (bs := [e x, e' y, e'' z]) ⟨h3, h3', h3'', trivial⟩ (k x y z h1 h1' h1'')
  | [], h => h.elim
  | [_], h => h.2.elim
  | [_, _], h => h.2.2.elim
  | _ :: _ :: _ :: _ :: _, h => h.2.2.2.elim

/-- Where a box is no more written, what points into it reads its cells. -/
def Frz (bs : List (Nat × Own)) (a a' : AV) : Prop :=
  ∀ w X g u, (∀ p ∈ bs, ∃ b, g[p.1]? = some b ∧ (∀ o, ¬ X b o) ∧ OwnRep w X g b p.2) → Rep w X g a u → Rep w X g a' u
theorem Frz.of_le {bs : List (Nat × Own)} {a a' : AV} (h : AVle a a') : Frz bs a a' := fun w X g u _ hr => h w X g u hr
theorem Frz.refl {bs : List (Nat × Own)} (a : AV) : Frz bs a a := .of_le (AVle.refl a)
theorem Frz.bp {bs : List (Nat × Own)} {i : Id} {off : Nat} {cs cs' : List AV} (hm : (i.2, .c cs) ∈ bs) (hc : cs.drop off = cs') : Frz bs (.bp i off) (.rp cs') := fun w X g u h hr => by
  obtain ⟨b, h1, h4, vs, e, h2, h3, h5⟩ := h _ hm
  cases hr with
  | bp _ _ b' hg =>
    dsimp only at h1
    rw [h1] at hg; cases hg
    subst hc
    refine .rp _ b off (vs.toList.drop off) (by simp [h3]) (fun k u hk => ?_) (fun k c u hk hu => ?_)
    · rw [List.getElem?_drop] at hk
      exact ⟨by rw [cell_of_block h2]; simpa using hk, h4 _⟩
    · rw [List.getElem?_drop] at hk hu
      exact h5 _ c u hk (by simpa using hu)
theorem Frz.om {bs : List (Nat × Own)} {i : Id} {es : List (Value × AV)} (hm : (i.2, .mp es) ∈ bs) : Frz bs (.om i) (.fm es) := fun w X g u h hr => by
  obtain ⟨b, h1, h4, ents, h2, h3, h5⟩ := h _ hm
  cases hr with
  | om _ b' hg =>
    dsimp only at h1
    rw [h1] at hg; cases hg
    exact .fm es b ents ents.length h2 h4 h3 (fun k p e hp he => (h5 k p e hp he).1) (fun k p e hp he => (h5 k p e hp he).2.2)
theorem Frz.hs {bs : List (Nat × Own)} {i : Id} {off n cap sz : Nat} {f : Nat → AV} {cs : List AV} (hm : (i.2, .c cs) ∈ bs) (hcap : n ≤ cap) (hn : (off + n) * sz ≤ cs.length ∨ off + n * sz ≤ cs.length) (hsz : ∀ k, k < n → (f k).cells.length = sz)
    (hf : ∀ k, k < n → ∀ j c, (f k).cells[j]? = some c → ∃ c0, cs[off + (k * sz + j)]? = some c0 ∧ AVle c0 c) (hle : off + n * sz ≤ cs.length) : Frz bs (.hs i off n cap) (.sl sz n f) := fun w X g u h hr => by
  obtain ⟨b, h1, h4, vs, e, h2, h3, h5⟩ := h _ hm
  cases hr with
  | hs _ _ _ _ b' hg =>
    dsimp only at h1 h3
    rw [h1] at hg; cases hg
    refine .sl _ _ _ b off cap ((vs.toList.drop off).take (n * sz)) (by simp; omega) hcap (fun k u hk => ?_) hsz (fun k j c u hk hj hu => ?_)
    · rw [List.getElem?_take] at hk
      split at hk
      · rw [List.getElem?_drop] at hk
        exact ⟨by rw [cell_of_block h2]; simpa using hk, h4 _⟩
      · cases hk
    · rw [List.getElem?_take] at hu
      split at hu
      · rw [List.getElem?_drop] at hu
        obtain ⟨c0, q1, q2⟩ := hf k hk j c hj
        exact q2 _ _ _ _ (h5 _ c0 u q1 (by simpa using hu))
      · cases hu
theorem Frz.hs1 {bs : List (Nat × Own)} {i : Id} {n cap : Nat} {f : Nat → AV} {cs : List AV} (hm : (i.2, .c cs) ∈ bs) (hcap : n ≤ cap) (hn : n ≤ cs.length) (hsz : ∀ k, k < n → (f k).cells = [f k])
    (hf : ∀ k, k < n → cs[k]? = some (f k)) : Frz bs (.hs i 0 n cap) (.sl 1 n f) :=
  Frz.hs hm hcap (.inr (by omega)) (fun k hk => by rw [hsz k hk]; rfl) (fun k hk j c hj => by
    rw [hsz k hk] at hj
    have : j = 0 := by have := (List.getElem?_eq_some_iff.1 hj).1; simpa using this
    subst this
    simp at hj; subst hj
    exact ⟨f k, by simpa using hf k hk, AVle.refl _⟩) (by omega)

def FrzL (bs : List (Nat × Own)) : List AV → List AV → Prop
  | [], [] => True
  | a :: l, b :: r => Frz bs a b ∧ FrzL bs l r
  | _, _ => False
theorem FrzL.get {bs : List (Nat × Own)} : ∀ {l r : List AV}, FrzL bs l r → l.length = r.length ∧ ∀ (k : Nat) (a b : AV), l[k]? = some a → r[k]? = some b → Frz bs a b
  | [], [], _ => ⟨rfl, by simp⟩
  | a :: l, b :: r, h => by
    obtain ⟨h1, h2⟩ := FrzL.get h.2
    refine ⟨by simp [h1], fun k c d hc hd => ?_⟩
    cases k with
    | zero => simp at hc hd; subst hc; subst hd; exact h.1
    | succ k => simp at hc hd; exact h2 k c d hc hd
  | [], _ :: _, h => h.elim
  | _ :: _, [], h => h.elim
theorem Frz.fn {bs : List (Nat × Own)} {f : Fn} {a a' b b' : List AV} (h1 : FrzL bs a a') (h2 : FrzL bs b b') : Frz bs (.fn f a b) (.fn f a' b') := fun w X g u h hr => by
  cases hr with
  | fn _ _ _ v1 v2 n1 n2 r1 r2 =>
    obtain ⟨l1, q1⟩ := h1.get
    obtain ⟨l2, q2⟩ := h2.get
    refine .fn _ _ _ v1 v2 (n1.trans l1) (n2.trans l2) (fun k c u hc hu => ?_) (fun k c u hc hu => ?_)
    · have hlt : k < a.length := by rw [l1]; exact (List.getElem?_eq_some_iff.1 hc).1
      exact q1 k _ c (List.getElem?_eq_getElem hlt) hc _ _ _ _ h (r1 k _ u (List.getElem?_eq_getElem hlt) hu)
    · have hlt : k < b.length := by rw [l2]; exact (List.getElem?_eq_some_iff.1 hc).1
      exact q2 k _ c (List.getElem?_eq_getElem hlt) hc _ _ _ _ h (r2 k _ u (List.getElem?_eq_getElem hlt) hu)
theorem Frz.ag {bs : List (Nat × Own)} {a a' : List AV} (h1 : FrzL bs a a') : Frz bs (.ag a) (.ag a') := fun w X g u h hr => by
  cases hr with
  | ag _ vs hn hr =>
    obtain ⟨l1, q1⟩ := h1.get
    refine .ag _ vs (hn.trans l1) fun k c u hc hu => ?_
    have hlt : k < a.length := by rw [l1]; exact (List.getElem?_eq_some_iff.1 hc).1
    exact q1 k _ c (List.getElem?_eq_getElem hlt) hc _ _ _ _ h (hr k _ u (List.getElem?_eq_getElem hlt) hu)

def FrzT (bs : List (Nat × Own)) (t : Nat → AV) : List (Nat × AV) → Prop
  | [] => True
  | p :: l => Frz bs (t p.1) p.2 ∧ FrzT bs t l
theorem FrzT.look {bs : List (Nat × Own)} {t : Nat → AV} : ∀ {L : List (Nat × AV)}, FrzT bs t L → ∀ k, Frz bs (t k) (Vl.look L k)
  | [], _, k => .of_le (AVle.any _)
  | p :: l, h, k => by
    unfold Vl.look
    cases hb : Nat.beq p.1 k with
    | true => have := Nat.eq_of_beq_eq_true hb; subst this; exact h.1
    | false => exact FrzT.look h.2 k

theorem Frz.rp {bs : List (Nat × Own)} {a a' : List AV} (h1 : FrzL bs a a') : Frz bs (.rp a) (.rp a') := fun w X g u h hr => by
  cases hr with
  | rp _ b off vs hn hcell hr =>
    obtain ⟨l1, q1⟩ := h1.get
    refine .rp _ b off vs (hn.trans l1) hcell fun k c u hc hu => ?_
    have hlt : k < a.length := by rw [l1]; exact (List.getElem?_eq_some_iff.1 hc).1
    exact q1 k _ c (List.getElem?_eq_getElem hlt) hc _ _ _ _ h (hr k _ u (List.getElem?_eq_getElem hlt) hu)
theorem Frz.trans {bs : List (Nat × Own)} {a b c : AV} (h : Frz bs a b) (k : Frz bs b c) : Frz bs a c := fun w X g u hb hr => k w X g u hb (h w X g u hb hr)
theorem Frz.ifc {bs : List (Nat × Own)} {t : TypeId} {a b : AV} (h : Frz bs a b) : Frz bs (.ifc t a) (.ifc t b) := fun w X g u hb hr => by
  cases hr with
  | ifc _ _ v hv => exact .ifc _ _ v (h w X g v hb hv)

/-- Boxes of one's own that are no more written are let go, and read as they stand. (Boxes that stay must not be told anew: their cells stay as they are.) -/
theorem ele_freeze {E : Env} {n : Nat} {bx : List (Id × Own)} {pm : List (Id × Nat)} {nx nn : Nat} {L : List (Nat × AV)} (bs : List (Id × Own)) (hn : E.n = n) (hx : E.h.nx = nx)
    (hb : (bs ++ bx).Sublist E.h.bx) (hp : pm.Sublist E.h.pm) (hL : FrzT (bs.map fun p => (p.1.2, p.2)) E.t L) : ELe E (mk n L ⟨bx, pm, nx, nn⟩ E.df) := by
  subst hn; subst hx
  intro ro X M w0 a w g hs
  have hs' := ele_drop (E := E) (nn := nn) ((List.sublist_append_right bs bx).trans hb) hp ro X M w0 a w g hs
  refine ⟨hs'.hok, fun k => ?_, hs'.n, hs'.evo, hs'.loc, hs'.def_, hs'.sep, hs'.top, hs'.rnd⟩
  refine hL.look k w _ g _ (fun p hp' => ?_) (hs'.tm k)
  obtain ⟨q, hq, rfl⟩ := List.mem_map.1 hp'
  obtain ⟨b, h1, h2⟩ := hs.hok.bx q (hb.subset (List.mem_append_left _ hq))
  have hex : ∀ b o, excl X g ⟨bx, pm, E.h.nx, nn⟩ b o → excl X g E.h b o := by
    rintro b o (h | ⟨p, hp', hg⟩ | ⟨p, hp', hg⟩)
    · exact .inl h
    · exact .inr (.inl ⟨p, hb.subset (List.mem_append_right _ hp'), hg⟩)
    · exact .inr (.inr ⟨p, hp.subset hp', hg⟩)
  refine ⟨b, h1, ?_, h2.stays (Stays.less hex) rfl⟩
  have hqI : q.1.2 ∈ E.h.ids := List.mem_append_left _ (List.mem_map.2 ⟨q, hb.subset (List.mem_append_left _ hq), rfl⟩)
  rintro o (hx | ⟨p, hp', hg⟩ | ⟨p, hp', hg, _⟩)
  · exact hs.sep b o hx _ hqI h1
  · have hnd : ((bs ++ bx).map (fun p => g[p.1.2]?)).Nodup := by
      have h5 := hs.hok.nodup
      unfold Heap.ids at h5
      rw [List.map_append, List.map_map] at h5
      exact ((List.nodup_append.1 h5).1).sublist (hb.map _)
    rw [List.map_append] at hnd
    exact (List.nodup_append.1 hnd).2.2 _ (List.mem_map.2 ⟨q, hq, rfl⟩) _ (List.mem_map.2 ⟨p, hp', rfl⟩) (by rw [h1, hg])
  · have h5 := hs.hok.nodup
    unfold Heap.ids at h5
    rw [List.map_append] at h5
    exact (List.nodup_append.1 h5).2.2 _ (List.mem_map.2 ⟨q.1.2, List.mem_map.2 ⟨q, hb.subset (List.mem_append_left _ hq), rfl⟩, rfl⟩) _ (List.mem_map.2 ⟨p.1.2, List.mem_map.2 ⟨p, hp.subset hp', rfl⟩, rfl⟩) (by rw [h1, hg])
end Go.Vl
