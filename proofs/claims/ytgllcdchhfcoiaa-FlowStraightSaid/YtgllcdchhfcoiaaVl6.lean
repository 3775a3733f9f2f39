/- The table of operations that only give a value. -/
import Derived.Test.YtgllcdchhfcoiaaVl5
import Derived.Laws.Small
import Derived.Laws.Entries
namespace Go.Vl
open Go.RowKit
variable {P : Program}

def hgeto (nm : Nat) : List (Id × Own) → Option (Nat × Own)
  | [] => none
  | p :: l => bif Nat.beq p.1.1 nm then some (p.1.2, p.2) else hgeto nm l
theorem hgeto_mem {nm s : Nat} {cs : Own} : ∀ {l : List (Id × Own)}, hgeto nm l = some (s, cs) → ((nm, s), cs) ∈ l
  | [], h => by simp [hgeto] at h
  | p :: l, h => by
    unfold hgeto at h
    cases hb : Nat.beq p.1.1 nm with
    | true =>
      simp only [hb, cond_true, Option.some.injEq, Prod.mk.injEq] at h
      have := Nat.eq_of_beq_eq_true hb
      obtain ⟨⟨p1, p2⟩, p3⟩ := p
      simp only at this h
      obtain ⟨rfl, rfl⟩ := h
      subst this
      simp
    | false => simp only [hb, cond_false] at h; exact List.mem_cons_of_mem _ (hgeto_mem h)
def hget (nm : Nat) (l : List (Id × Own)) : Option (Nat × List AV) :=
  match hgeto nm l with
  | some (s, .c cs) => some (s, cs)
  | _ => none
theorem hget_geto {nm s : Nat} {cs : List AV} {l : List (Id × Own)} (h : hget nm l = some (s, cs)) : hgeto nm l = some (s, .c cs) := by
  unfold hget at h
  split at h
  · rename_i s' cs' h'
    cases h; exact h'
  · cases h
theorem hget_mem {nm s : Nat} {cs : List AV} {l : List (Id × Own)} (h : hget nm l = some (s, cs)) : ((nm, s), .c cs) ∈ l := hgeto_mem (hget_geto h)

def pureO (a : Option AV) : Out := a.map fun r => (none, r)

def aload (P : Program) (t : TypeId) (h : Heap) : AV → Out
  | .rp cs => pureO (apart P t cs 0)
  | .bp i off => match hget i.1 h.bx with
    | some (s, cs) => match P.underlying t with
      | some d => bif agD d then (apart P t (cs.drop off) 0).map fun r => (some (s = i.2), r) else some (some (s = i.2 ∧ off < cs.length), cs.getD off .any)
      | none => none
    | none => none
  | _ => none

/-- The element k of cells of elements. -/
def aelem (P : Program) (e : TypeId) (cs : List AV) (k : Nat) : AV :=
  match P.underlying e with
  | some d => bif agD d then .ag ((cs.drop (k * P.cellsOf e)).take (P.cellsOf e)) else cs.getD k .any
  | none => .any

def aindexAddr (P : Program) (t : TypeId) (x ix : AV) : Out :=
  match P.underlying t, x, ix with
  | some (.slice e), .sl sz n f, .v (.int _ i) => bif (P.underlying e).isSome && Nat.beq sz (P.cellsOf e) then some (some (0 ≤ i ∧ i < n), .rp (f i.toNat).cells) else none
  | some (.slice e), .os sz n f _, .v (.int _ i) => bif (P.underlying e).isSome && Nat.beq sz (P.cellsOf e) then some (some (0 ≤ i ∧ i < n), .rp (f i.toNat).cells) else none
  | some (.slice e), .hs b off n _, .v (.int _ i) => bif (P.underlying e).isSome then some (some (0 ≤ i ∧ i < n), .bp b (off + i.toNat * P.cellsOf e)) else none
  | some (.array n e), .rp cs, .v (.int _ i) => bif (P.underlying e).isSome then some (some (0 ≤ i ∧ i < (n : Int) ∧ i.toNat * P.cellsOf e ≤ cs.length), .rp (cs.drop (i.toNat * P.cellsOf e))) else none
  | some (.array n e), .bp b off, .v (.int _ i) => bif (P.underlying e).isSome then some (some (0 ≤ i ∧ i < (n : Int)), .bp b (off + i.toNat * P.cellsOf e)) else none
  | _, _, _ => none

def aindex (P : Program) (t : TypeId) (x ix : AV) : Out :=
  match P.underlying t, x, ix with
  | some (.array n e), .ag cs, .v (.int _ (.ofNat i)) => bif (P.underlying e).isSome && Nat.blt i n then pureO (apart P e cs (i * P.cellsOf e)) else none
  | some .string, .v (.string s), .v (.int _ i) => some (some (0 ≤ i ∧ i < s.size), .v (.int .u8 (s.data.getD i.toNat 0).toNat))
  | _, _, _ => none

def afieldAddr (P : Program) (t : TypeId) (x : AV) (f : Nat) : Out :=
  match P.underlying t with
  | some (.struct fs) =>
    match fs[f]? with
    | some fd => bif (P.underlying fd.type).isSome && !(Nat.beq (P.cellsOf fd.type) 0) then
        match x with
        | .rp cs => bif Nat.ble fd.offset cs.length then some (none, .rp (cs.drop fd.offset)) else none
        | .bp i off => some (none, .bp i (off + fd.offset))
        | _ => none
      else none
    | none => none
  | _ => none

def afield (P : Program) (t : TypeId) (x : AV) (f : Nat) : Out :=
  match P.underlying t, x with
  | some (.struct fs), .ag cs =>
    match fs[f]? with
    | some fd => pureO (apart P fd.type cs fd.offset)
    | none => none
  | _, _ => none

def isCell : AV → Bool
  | .ag _ => false
  | _ => true
/-- Are the type's values of one cell, if they are no rows? -/
def oneOk (P : Program) (e : TypeId) (cs : List AV) : Bool :=
  match P.underlying e with
  | some d => bif agD d then true else Nat.beq (P.cellsOf e) 1 && cs.all isCell
  | none => false

def aslice (P : Program) (t : TypeId) (x : AV) (lo hi mx : Option AV) : Out :=
  match P.underlying t with
  | some (.slice e) =>
    bif (P.underlying e).isSome then
    match x, lo, hi, mx with
    | .sl sz n f, none, none, none => some (none, .sl sz n f)
    | .sl sz n f, some (.v (.int _ l)), none, none => bif Nat.beq sz (P.cellsOf e) then some (some (0 ≤ l ∧ l ≤ n), .sl sz (n - l.toNat) (fun k => f (l.toNat + k))) else none
    | .sl sz n f, none, some (.v (.int _ h)), none => bif Nat.beq sz (P.cellsOf e) then some (some (0 ≤ h ∧ h ≤ n), .sl sz h.toNat f) else none
    | .sl sz n f, some (.v (.int _ l)), some (.v (.int _ h)), none => bif Nat.beq sz (P.cellsOf e) then some (some (0 ≤ l ∧ l ≤ h ∧ h ≤ n), .sl sz (h.toNat - l.toNat) (fun k => f (l.toNat + k))) else none
    | .sl sz n f, none, some (.v (.int _ h)), some (.v (.int _ m)) => bif Nat.beq sz (P.cellsOf e) then some (some (0 ≤ h ∧ h ≤ n ∧ m = h), .os sz h.toNat f none) else none
    | .os sz n f _, none, none, none => some (none, .sl sz n f)
    | .os sz n f _, some (.v (.int _ l)), none, none => bif Nat.beq sz (P.cellsOf e) then some (some (0 ≤ l ∧ l ≤ n), .sl sz (n - l.toNat) (fun k => f (l.toNat + k))) else none
    | .os sz n f _, none, some (.v (.int _ h)), none => bif Nat.beq sz (P.cellsOf e) then some (some (0 ≤ h ∧ h ≤ n), .sl sz h.toNat f) else none
    | .os sz n f _, some (.v (.int _ l)), some (.v (.int _ h)), none => bif Nat.beq sz (P.cellsOf e) then some (some (0 ≤ l ∧ l ≤ h ∧ h ≤ n), .sl sz (h.toNat - l.toNat) (fun k => f (l.toNat + k))) else none
    | _, _, _, _ => none
    else none
  | some .string =>
    match x, lo, hi, mx with
    | .v (.string s), none, none, none => some (none, .v (.string (s.extract 0 s.size)))
    | .v (.string s), some (.v (.int _ l)), none, none => some (some (0 ≤ l ∧ l ≤ s.size), .v (.string (s.extract l.toNat s.size)))
    | .v (.string s), none, some (.v (.int _ h)), none => some (some (0 ≤ h ∧ h ≤ s.size), .v (.string (s.extract 0 h.toNat)))
    | .v (.string s), some (.v (.int _ l)), some (.v (.int _ h)), none => some (some (0 ≤ l ∧ l ≤ h ∧ h ≤ s.size), .v (.string (s.extract l.toNat h.toNat)))
    | _, _, _, _ => none
  | some (.array n e) =>
    bif (P.underlying e).isSome then
    match x, lo, hi, mx with
    | .bp i off, none, none, none => some (none, .hs i off n n)
    | .rp cs, none, none, none => bif Nat.beq cs.length (n * P.cellsOf e) && (Nat.blt 0 (P.cellsOf e) && oneOk P e cs) then some (none, .sl (P.cellsOf e) n (aelem P e cs)) else none
    | .rp cs, none, some (.v (.int _ h)), none => some (some ((cs.length = n * P.cellsOf e ∧ oneOk P e cs = true) ∧ 0 ≤ h ∧ h ≤ n), .sl (P.cellsOf e) h.toNat (aelem P e cs))
    | _, _, _, _ => none
    else none
  | _ => none

def aun (op : UnOp) : AV → Out
  | .v (.int k n) => match op with
    | .neg => some (none, .v (.int k (k.wrap (0 - n))))
    | .xor => some (none, .v (.int k (bitsI .xor k (if k.signed then -1 else k.max) n)))
    | _ => none
  | .v (.bool b) => match op with
    | .not => some (none, .v (.bool (!b)))
    | _ => none
  | _ => none

def aconv (P : Program) (s d : TypeId) (x : AV) : Out :=
  match P.underlying s, P.underlying d, x with
  | some _, some (.int k), .v (.int _ n) => some (none, .v (.int k (k.wrap n)))
  | some .string, some .string, .v (.string b) => some (none, .v (.string b))
  | _, _, _ => none

def fieldsSome (P : Program) (fs : List Field) : Bool := fs.all fun f => (P.underlying f.type).isSome
def abuild (P : Program) (t : TypeId) (parts : List (Nat × AV)) : Out :=
  match P.underlying t, (P.info? t).bind (·.zero) with
  | some (.struct fs), some z => bif fieldsSome P fs.toList then pureO ((afill (fun i => (fs[i]?).map fun f => (f.offset, P.cellsOf f.type)) (z.cells.toList.map ofC) parts).map .ag) else none
  | some (.array _ e), some z => bif (P.underlying e).isSome then pureO ((afill (fun i => some (i * P.cellsOf e, P.cellsOf e)) (z.cells.toList.map ofC) parts).map .ag) else none
  | _, _ => none

def zrow (P : Program) (e : TypeId) (n : Nat) : Option (List AV) :=
  match (P.info? e).bind (·.zero) with
  | some z => bif Nat.beq z.cells.size 0 then none else some ((List.range n).map fun k => ((z.cells.toList.map ofC).getD (k % z.cells.size) .any))
  | none => none
def abuildSlice (P : Program) (t : TypeId) (n : Nat) (parts : List (Nat × AV)) : Out :=
  match P.underlying t with
  | some (.slice e) =>
    match P.underlying e, zrow P e (n * P.cellsOf e) with
    | some _, some cs => bif Nat.ble (n * P.cellsOf e) 16777216 && Nat.blt 0 (P.cellsOf e) then
        (match afill (fun i => some (i * P.cellsOf e, P.cellsOf e)) cs parts with
        | some out => bif Nat.beq out.length (n * P.cellsOf e) && oneOk P e out then some (none, .os (P.cellsOf e) n (aelem P e out) none) else none
        | none => none) else none
    | _, _ => none
  | _ => none

def abuiltin (P : Program) (b : Builtin) (tys : List TypeId) (args : List AV) : Out :=
  match b, tys, args with
  | .len, t :: _, x :: _ =>
    match P.underlying t, x with
    | some .string, .v (.string s) => some (none, .v (.int .i64 s.size))
    | some (.array n _), _ => some (none, .v (.int .i64 n))
    | some (.slice _), .sl _ n _ => some (none, .v (.int .i64 n))
    | some (.slice _), .os _ n _ _ => some (none, .v (.int .i64 n))
    | some (.slice _), .hs _ _ n _ => some (none, .v (.int .i64 n))
    | _, _ => none
  | .max, _, [.v (.int k x), .v (.int k' y)] => bif kindEq k k' then some (none, .v (.int k (if y > x then y else x))) else none
  | .min, _, [.v (.int k x), .v (.int k' y)] => bif kindEq k k' then some (none, .v (.int k (if y < x then y else x))) else none
  | _, _, _ => none

def anil : AV → Out
  | .rp cs => some (none, .rp cs)
  | .bp i off => some (none, .bp i off)
  | .fn (.func f) a b => some (none, .fn (.func f) a b)
  | .ifc t x => some (none, .ifc t x)
  | _ => none

def keyIs : Value → Value → Bool
  | .int k a, .int k' b => kindEq k k' && (a == b)
  | .string a, .string b => a.toList == b.toList
  | .bool a, .bool b => a == b
  | _, _ => false
def keyFit : TypeDesc → Value → Bool
  | .int k, .int k' _ => kindEq k k'
  | .string, .string _ => true
  | .bool, .bool _ => true
  | _, _ => false
def alook (key : Value) : List (Value × AV) → Option AV
  | [] => none
  | p :: l => bif keyIs key p.1 then some p.2 else alook key l
def aput (key : Value) (v : AV) : List (Value × AV) → List (Value × AV)
  | [] => [(key, v)]
  | p :: l => bif keyIs key p.1 then (p.1, v) :: l else p :: aput key v l
def keysFit (d : TypeDesc) (es : List (Value × AV)) : Bool := es.all fun p => keyFit d p.1
/-- What a map gives for a key. -/
def lookR (o : Option AV) (z : AV) (ok : Bool) : AV :=
  bif ok then .tup [o.getD z, .v (.bool o.isSome)] else o.getD z
def alookup (P : Program) (t : TypeId) (h : Heap) (x ix : AV) (ok : Bool) : Out :=
  match P.underlying t, ix with
  | some (.map kt et), .v key =>
    match P.underlying kt, (P.info? et).bind (·.zero) with
    | some d, some z => bif keyFit d key then
        match x with
        | .fm es => some (some (keysFit d es = true), lookR (alook key es) (ofV z) ok)
        | .om i => match hgeto i.1 h.bx with
          | some (s, .mp es) => some (some (s = i.2 ∧ keysFit d es = true), lookR (alook key es) (ofV z) ok)
          | _ => none
        | .v (.map none) => some (none, lookR none (ofV z) ok)
        | _ => none
      else none
    | _, _ => none
  | _, _ => none

def apure (P : Program) (op : Op) (E : Env) : Out :=
  match op with
  | .move x | .assign x => some (none, E.ev x)
  | .pick c a b => match E.ev c with
    | .v (.bool t) => some (none, bif t then E.ev a else E.ev b)
    | _ => none
  | .build t parts => abuild P t (parts.toList.map fun p => (p.1, E.ev p.2))
  | .buildSlice t n parts => abuildSlice P t n (parts.toList.map fun p => (p.1, E.ev p.2))
  | .load t x => aload P t E.h (E.ev x)
  | .nilCheck x => anil (E.ev x)
  | .binOp op t x y _ => abin P op t (E.ev x) (E.ev y)
  | .unOp op _ x => aun op (E.ev x)
  | .convert s d x => aconv P s d (E.ev x)
  | .makeFunc fn first caps => some (none, .fn fn (first.toList.map E.ev) (caps.toList.map E.ev))
  | .makeInterface t x => bif P.concrete t then some (none, .ifc t (E.ev x)) else none
  | .fieldAddr t x f => afieldAddr P t (E.ev x) f
  | .field t x f => afield P t (E.ev x) f
  | .indexAddr t x ix => aindexAddr P t (E.ev x) (E.ev ix)
  | .lookup t x ix ok => alookup P t E.h (E.ev x) (E.ev ix) ok
  | .index t x ix => aindex P t (E.ev x) (E.ev ix)
  | .slice t x lo hi mx => aslice P t (E.ev x) (lo.map E.ev) (hi.map E.ev) (mx.map E.ev)
  | .extract t ix => match E.ev t with
    | .tup cs => pureO cs[ix]?
    | _ => none
  | .call { callee := .builtin b, args, argTypes } => abuiltin P b argTypes.toList (args.toList.map E.ev)
  | _ => none

/-- What an operation gives in memory that nobody turns. -/
def Gives (P : Program) (s : Sem Value) (h : Heap) (w : World) (X : Nat → Nat → Prop) (g : List Nat) (r : AV) : Prop :=
  ∃ u w', s.run P w = .ok u w' ∧ Evo none2 w w' ∧ Rep w' X g r u

section sound
variable {h : Heap} {w : World} {X : Nat → Nat → Prop} {g : List Nat}

theorem gives_same {s : Sem Value} {r : AV} {u : Value} (h1 : s.run P w = .ok u w) (h2 : Rep w X g r u) : Gives P s h w X g r := ⟨u, w, h1, Evo.refl _ _, h2⟩

theorem pureO_eq {a : Option AV} {C : Option Prop} {r : AV} (h : pureO a = some (C, r)) : a = some r ∧ C = none := by
  unfold pureO at h
  cases a with
  | none => simp at h
  | some r' => simp at h; exact ⟨by rw [h.2], h.1.symm⟩

theorem aload_run {t : TypeId} {a : AV} {C : Option Prop} {r : AV} {u : Value} (h1 : aload P t h a = some (C, r)) (hC : condP C) (hk : HOk w X g h) (ha : Rep w X g a u) : ∃ u', (Instr.loadAt t u).run P w = .ok u' w ∧ Rep w X g r u' := by
  unfold aload at h1
  split at h1
  · obtain ⟨h2, _⟩ := pureO_eq h1
    obtain ⟨u', h3, h4⟩ := loadAt_sound h2 ha
    exact ⟨u', h3, h4⟩
  · rename_i i off
    split at h1
    · rename_i st cs hcs
      obtain ⟨h2, hC⟩ : apart P t (cs.drop off) 0 = some r ∧ st = i.2 := by
        split at h1
        · rename_i d hd
          cases hag : agD d with
          | true =>
            simp only [hag, cond_true] at h1
            obtain ⟨r', h2, h1⟩ := Option.map_eq_some_iff.1 h1
            simp only [Prod.mk.injEq] at h1
            obtain ⟨rfl, rfl⟩ := h1
            exact ⟨h2, hC⟩
          | false =>
            simp only [hag, cond_false, Option.some.injEq, Prod.mk.injEq] at h1
            obtain ⟨rfl, rfl⟩ := h1
            refine ⟨?_, hC.1⟩
            have hlt : off < cs.length := hC.2
            simp [apart, hd, hag, hlt]
        · cases h1
      subst hC
      obtain ⟨b, hg, vs, e, hb, hsz, hr⟩ := hk.bx _ (hget_mem hcs)
      cases ha with
      | bp _ _ b' hg' =>
        dsimp only at hg hsz hr
        rw [hg] at hg'
        cases hg'
        obtain ⟨u', h3, h4⟩ := loadVar_sound (w := w) (X := X) (g := g) (vs := vs.toList.drop off) (b := b) (off := off) h2 (by simp [hsz]) (fun k u hk => by
            rw [cell_of_block hb]
            rw [List.getElem?_drop, Array.getElem?_toList] at hk
            exact hk)
          (fun k c u hc hu => by
            rw [List.getElem?_drop] at hc hu
            rw [Array.getElem?_toList] at hu
            exact hr _ c u hc hu)
        exact ⟨u', by simp [Instr.loadAt, Instr.sureAddr, h3], h4⟩
    · cases h1
  · cases h1

theorem aload_sound {t : TypeId} {a : AV} {C : Option Prop} {r : AV} {u : Value} (h1 : aload P t h a = some (C, r)) (hC : condP C) (hk : HOk w X g h) (ha : Rep w X g a u) : Gives P (Instr.loadAt t u) h w X g r :=
  let ⟨_, h2, h3⟩ := aload_run h1 hC hk ha
  gives_same h2 h3

theorem rp_of_row {sz n : Nat} {f : Nat → AV} {b off : Nat} {vs : List Value} (hlen : vs.length = n * sz)
      (hcell : ∀ (k : Nat) (u : Value), vs[k]? = some u → w.cell? ⟨b, off + k, none⟩ = some u ∧ ¬ X b (off + k))
      (hc : ∀ i, i < n → (f i).cells.length = sz)
      (hr : ∀ (i j : Nat) (c : AV) (u : Value), i < n → (f i).cells[j]? = some c → vs[i * sz + j]? = some u → Rep w X g c u) {i : Nat} (hi : i < n) :
    Rep w X g (.rp (f i).cells) (.pointer (some ⟨b, off + i * sz, none⟩)) := by
  have hle : (i + 1) * sz ≤ n * sz := Nat.mul_le_mul_right _ hi
  rw [Nat.add_mul, Nat.one_mul] at hle
  refine .rp _ b _ ((vs.drop (i * sz)).take sz) (by rw [hc i hi]; simp; omega) (fun k u hk => ?_) (fun k c u hk hu => ?_)
  · rw [List.getElem?_take] at hk
    split at hk
    · rw [List.getElem?_drop] at hk
      rw [Nat.add_assoc]
      exact hcell _ u hk
    · cases hk
  · rw [List.getElem?_take] at hu
    split at hu
    · rw [List.getElem?_drop] at hu
      exact hr i k c u hi hk hu
    · cases hu

theorem aindexAddr_sound {t : TypeId} {x ix : AV} {C : Option Prop} {r : AV} {u v : Value} (h1 : aindexAddr P t x ix = some (C, r)) (hc : condP C) (hx : Rep w X g x u) (hi : Rep w X g ix v) :
    Gives P (Instr.indexAt t u v) h w X g r := by
  have row : ∀ {e : TypeId} {sz n : Nat} {f : Nat → AV} {k : IntKind} {i : Int} {cap : Nat} {b off : Nat} {vs : List Value}, P.underlying t = some (.slice e) → v = .int k i →
      ((P.underlying e).isSome && Nat.beq sz (P.cellsOf e)) = true → 0 ≤ i ∧ i < (n : Int) → vs.length = n * sz →
      (∀ (k : Nat) (u : Value), vs[k]? = some u → w.cell? ⟨b, off + k, none⟩ = some u ∧ ¬ X b (off + k)) → (∀ i, i < n → (f i).cells.length = sz) →
      (∀ (i j : Nat) (c : AV) (u : Value), i < n → (f i).cells[j]? = some c → vs[i * sz + j]? = some u → Rep w X g c u) →
      Gives P (Instr.indexAt t (.slice (some ⟨b, off, none⟩) n cap) v) h w X g (.rp (f i.toNat).cells) := by
    intro e sz n f k i cap b off vs ht hv hb hin hlen hcell hcs hr
    simp only [Bool.and_eq_true] at hb
    obtain ⟨hs, hsz⟩ := hb
    have hsz := Nat.eq_of_beq_eq_true hsz
    obtain ⟨d, hd⟩ := Option.isSome_iff_exists.1 hs
    subst hv
    refine gives_same (u := .pointer (some ⟨b, off + i.toNat * sz, none⟩)) ?_ (rp_of_row hlen hcell hcs hr (by omega))
    simp [Instr.indexAt, asIntOf, run_underlying ht, hin, run_sizeOf' hd, add_none, hsz]
  unfold aindexAddr at h1
  split at h1
  · rename_i e sz n f k i ht
    have := rep_v hi; subst this
    cases hb : (P.underlying e).isSome && Nat.beq sz (P.cellsOf e) with
    | false => simp [hb] at h1
    | true =>
      simp only [hb, cond_true, Option.some.injEq, Prod.mk.injEq] at h1
      obtain ⟨rfl, rfl⟩ := h1
      simp only [condP] at hc
      cases hx with
      | sl0 sz f a cap => simp at hc; omega
      | sl _ _ _ b off cap vs hlen _ hcell hcs hr => exact row ht rfl hb hc hlen hcell hcs hr
  · rename_i e sz n f oi k i ht
    have := rep_v hi; subst this
    cases hb : (P.underlying e).isSome && Nat.beq sz (P.cellsOf e) with
    | false => simp [hb] at h1
    | true =>
      simp only [hb, cond_true, Option.some.injEq, Prod.mk.injEq] at h1
      obtain ⟨rfl, rfl⟩ := h1
      simp only [condP] at hc
      cases hx with
      | os0 sz f a => simp at hc; omega
      | osn _ _ _ b off vs hlen hcell hcs hr => exact row ht rfl hb hc hlen hcell hcs hr
      | oss _ _ _ i' b cap vs hg hlen _ hcell _ hcs hr => exact row (off := 0) ht rfl hb hc hlen (fun k u hk => by rw [Nat.zero_add]; exact hcell k u hk) hcs hr
  · rename_i e b off n cap k i ht
    have := rep_v hi; subst this
    cases hb : (P.underlying e).isSome with
    | false => simp [hb] at h1
    | true =>
      simp only [hb, cond_true, Option.some.injEq, Prod.mk.injEq] at h1
      obtain ⟨rfl, rfl⟩ := h1
      simp only [condP] at hc
      obtain ⟨d, hd⟩ := Option.isSome_iff_exists.1 hb
      cases hx with
      | hs _ _ _ _ b' hg =>
        refine gives_same (u := .pointer (some ⟨b', off + i.toNat * P.cellsOf e, none⟩)) ?_ (.bp _ _ b' hg)
        simp [Instr.indexAt, asIntOf, run_underlying ht, hc, run_sizeOf' hd, add_none]
  · rename_i n e cs k i ht
    have := rep_v hi; subst this
    cases hb : (P.underlying e).isSome with
    | false => simp [hb] at h1
    | true =>
      simp only [hb, cond_true, Option.some.injEq, Prod.mk.injEq] at h1
      obtain ⟨rfl, rfl⟩ := h1
      simp only [condP] at hc
      obtain ⟨d, hd⟩ := Option.isSome_iff_exists.1 hb
      cases hx with
      | rp _ b off vs hn hcell hr =>
        refine gives_same (u := .pointer (some ⟨b, off + i.toNat * P.cellsOf e, none⟩)) ?_ (.rp _ b _ (vs.drop (i.toNat * P.cellsOf e)) (by simp [hn]) (fun k u hk => by rw [List.getElem?_drop] at hk; rw [Nat.add_assoc]; exact hcell _ u hk)
          (fun k c u hk hu => by rw [List.getElem?_drop] at hk hu; exact hr _ c u hk hu))
        simp [Instr.indexAt, asIntOf, run_underlying ht, hc.1, hc.2.1, run_sizeOf' hd, add_none, Instr.sureAddr]
  · rename_i n e b off k i ht
    have := rep_v hi; subst this
    cases hb : (P.underlying e).isSome with
    | false => simp [hb] at h1
    | true =>
      simp only [hb, cond_true, Option.some.injEq, Prod.mk.injEq] at h1
      obtain ⟨rfl, rfl⟩ := h1
      simp only [condP] at hc
      obtain ⟨d, hd⟩ := Option.isSome_iff_exists.1 hb
      cases hx with
      | bp _ _ b' hg =>
        refine gives_same (u := .pointer (some ⟨b', off + i.toNat * P.cellsOf e, none⟩)) ?_ (.bp _ _ b' hg)
        simp [Instr.indexAt, asIntOf, run_underlying ht, hc, run_sizeOf' hd, add_none, Instr.sureAddr]
  · cases h1

theorem aindex_sound {t : TypeId} {x ix : AV} {C : Option Prop} {r : AV} {u v : Value} (h1 : aindex P t x ix = some (C, r)) (hc : condP C) (hx : Rep w X g x u) (hi : Rep w X g ix v) :
    Gives P (Instr.index t u v) h w X g r := by
  unfold aindex at h1
  split at h1
  · rename_i n e cs k i ht
    have := rep_v hi; subst this
    cases hb : (P.underlying e).isSome && Nat.blt i n with
    | false => simp [hb] at h1
    | true =>
      simp only [hb, cond_true] at h1
      obtain ⟨h2, _⟩ := pureO_eq h1
      simp only [Bool.and_eq_true] at hb
      obtain ⟨d, hd⟩ := Option.isSome_iff_exists.1 hb.1
      have hlt := blt_true hb.2
      cases hx with
      | ag _ vs hn hr =>
        obtain ⟨u', h3, h4⟩ := apart_sound h2 hn hr
        refine gives_same (u := u') ?_ h4
        have hle : ¬ n ≤ i := by omega
        simp [Instr.index, asIntOf, run_underlying ht, hlt, hle, run_sizeOf' hd, h3]
  · rename_i s k i ht
    have := rep_v hi; subst this
    have := rep_v hx; subst this
    simp only [Option.some.injEq, Prod.mk.injEq] at h1
    obtain ⟨rfl, rfl⟩ := h1
    simp only [condP] at hc
    have hlt : i.toNat < s.size := by omega
    have e1 : s[i.toNat]? = some s[i.toNat] := by simp [hlt]
    have e2 : s.data.getD i.toNat 0 = s[i.toNat] := by
      have hlt2 : i.toNat < s.data.size := hlt
      rw [Array.getD_eq_getD_getElem?, Array.getElem?_eq_getElem hlt2]; rfl
    refine gives_same (u := .int .u8 (s.data.getD i.toNat 0).toNat) ?_ (.v _)
    simp [Instr.index, asIntOf, run_underlying ht, hc.1, e1, e2]
  · cases h1
end sound
end Go.Vl
