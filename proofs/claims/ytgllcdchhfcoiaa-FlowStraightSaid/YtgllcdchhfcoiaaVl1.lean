/- A logic of values over the walk's rules: what a slot holds is told by a tree of values, memory that nobody writes stands behind it. -/
import Derived.Orders
import Derived.OrdersIn
import Derived.RangeFuncIn
import Derived.Below
import Derived.Laws.World
namespace Go.Vl
open Go.RowKit

/-- A number of what is one's own: a name (by which it is found), and a stamp (which is never given twice). -/
abbrev Id := Nat × Nat

inductive AV where
  | v (x : Value)
  | any
  | ag (cs : List AV)
  | tup (cs : List AV)
  | fn (f : Fn) (first caps : List AV)
  | ifc (t : TypeId) (x : AV)
  | sl (sz n : Nat) (f : Nat → AV)
  | os (sz n : Nat) (f : Nat → AV) (i : Option Id)
  | rp (cs : List AV)
  | bp (i : Id) (off : Nat)
  | hs (i : Id) (off n cap : Nat)
  | yl (i : Id)
  | om (i : Id)
  | oc (i : Id)
  | fm (es : List (Value × AV))

/-- What is one's own. -/
inductive Own where
  | c (cs : List AV)
  | mp (es : List (Value × AV))
  | ch (cap : Nat) (buf : List AV)
  | lp (st : LoopState) (pd : Option Code) (n : Nat) (t : Nat → AV) (ps : Array Tmp) (asg body : Code)
  | df

def AV.cells : AV → List AV
  | .ag cs => cs
  | a => [a]

/-- The value reads so in this world, over cells that nobody may write (X tells those that may be written). -/
inductive Rep (w : World) (X : Nat → Nat → Prop) (g : List Nat) : AV → Value → Prop
  | any (u : Value) : Rep w X g .any u
  | v (x : Value) : Rep w X g (.v x) x
  | ag (cs : List AV) (vs : List Value) (hn : vs.length = cs.length)
      (h : ∀ (k : Nat) (c : AV) (u : Value), cs[k]? = some c → vs[k]? = some u → Rep w X g c u) : Rep w X g (.ag cs) (.agg vs.toArray)
  | tup (cs : List AV) (vs : List Value) (hn : vs.length = cs.length)
      (h : ∀ (k : Nat) (c : AV) (u : Value), cs[k]? = some c → vs[k]? = some u → Rep w X g c u) : Rep w X g (.tup cs) (.tuple vs.toArray)
  | fn (f : Fn) (c1 c2 : List AV) (v1 v2 : List Value) (hn1 : v1.length = c1.length) (hn2 : v2.length = c2.length)
      (h1 : ∀ (k : Nat) (c : AV) (u : Value), c1[k]? = some c → v1[k]? = some u → Rep w X g c u)
      (h2 : ∀ (k : Nat) (c : AV) (u : Value), c2[k]? = some c → v2[k]? = some u → Rep w X g c u) : Rep w X g (.fn f c1 c2) (.func f v1.toArray v2.toArray)
  | ifc (t : TypeId) (x : AV) (u : Value) (h : Rep w X g x u) : Rep w X g (.ifc t x) (.iface t u)
  | sl0 (sz : Nat) (f : Nat → AV) (a : Option Addr) (cap : Nat) : Rep w X g (.sl sz 0 f) (.slice a 0 cap)
  | sl (sz n : Nat) (f : Nat → AV) (b off cap : Nat) (vs : List Value) (hlen : vs.length = n * sz) (hcap : n ≤ cap)
      (hcell : ∀ (k : Nat) (u : Value), vs[k]? = some u → w.cell? ⟨b, off + k, none⟩ = some u ∧ ¬ X b (off + k))
      (hc : ∀ i, i < n → (f i).cells.length = sz)
      (h : ∀ (i j : Nat) (c : AV) (u : Value), i < n → (f i).cells[j]? = some c → vs[i * sz + j]? = some u → Rep w X g c u) :
      Rep w X g (.sl sz n f) (.slice (some ⟨b, off, none⟩) n cap)
  | os0 (sz : Nat) (f : Nat → AV) (a : Option Addr) : Rep w X g (.os sz 0 f none) (.slice a 0 0)
  | osn (sz n : Nat) (f : Nat → AV) (b off : Nat) (vs : List Value) (hlen : vs.length = n * sz)
      (hcell : ∀ (k : Nat) (u : Value), vs[k]? = some u → w.cell? ⟨b, off + k, none⟩ = some u ∧ ¬ X b (off + k))
      (hc : ∀ i, i < n → (f i).cells.length = sz)
      (h : ∀ (i j : Nat) (c : AV) (u : Value), i < n → (f i).cells[j]? = some c → vs[i * sz + j]? = some u → Rep w X g c u) :
      Rep w X g (.os sz n f none) (.slice (some ⟨b, off, none⟩) n n)
  | oss (sz n : Nat) (f : Nat → AV) (i : Id) (b cap : Nat) (vs : List Value) (hg : g[i.2]? = some b) (hlen : vs.length = n * sz) (hcap : n ≤ cap)
      (hcell : ∀ (k : Nat) (u : Value), vs[k]? = some u → w.cell? ⟨b, k, none⟩ = some u ∧ ¬ X b k)
      (hroom : ∀ k, k < cap * sz → (∃ u, w.cell? ⟨b, k, none⟩ = some u) ∧ w.frozen? ⟨b, k, none⟩ = false)
      (hc : ∀ i, i < n → (f i).cells.length = sz)
      (h : ∀ (i j : Nat) (c : AV) (u : Value), i < n → (f i).cells[j]? = some c → vs[i * sz + j]? = some u → Rep w X g c u) :
      Rep w X g (.os sz n f (some i)) (.slice (some ⟨b, 0, none⟩) n cap)
  | rp (cs : List AV) (b off : Nat) (vs : List Value) (hn : vs.length = cs.length)
      (hcell : ∀ (k : Nat) (u : Value), vs[k]? = some u → w.cell? ⟨b, off + k, none⟩ = some u ∧ ¬ X b (off + k))
      (h : ∀ (k : Nat) (c : AV) (u : Value), cs[k]? = some c → vs[k]? = some u → Rep w X g c u) : Rep w X g (.rp cs) (.pointer (some ⟨b, off, none⟩))
  | bp (i : Id) (off b : Nat) (hg : g[i.2]? = some b) : Rep w X g (.bp i off) (.pointer (some ⟨b, off, none⟩))
  | hs (i : Id) (off n cap b : Nat) (hg : g[i.2]? = some b) : Rep w X g (.hs i off n cap) (.slice (some ⟨b, off, none⟩) n cap)
  | yl (i : Id) (b : Nat) (hg : g[i.2]? = some b) : Rep w X g (.yl i) (.func (.yield b) #[] #[])
  | om (i : Id) (b : Nat) (hg : g[i.2]? = some b) : Rep w X g (.om i) (.map (some b))
  | oc (i : Id) (b : Nat) (hg : g[i.2]? = some b) : Rep w X g (.oc i) (.chan (some b))
  | fm (es : List (Value × AV)) (b : Nat) (ents : List MapEntry) (clock : Nat) (hb : w.heap[b]? = some (.map ents.toArray clock)) (hx : ∀ o, ¬ X b o) (hn : ents.length = es.length)
      (hk : ∀ (k : Nat) (p : Value × AV) (e : MapEntry), es[k]? = some p → ents[k]? = some e → e.key = p.1)
      (h : ∀ (k : Nat) (p : Value × AV) (e : MapEntry), es[k]? = some p → ents[k]? = some e → Rep w X g p.2 e.val) : Rep w X g (.fm es) (.map (some b))

/-- What reads so still reads so, where what is read stays and no more may be written of it. -/
structure Stays (w : World) (X : Nat → Nat → Prop) (g : List Nat) (w' : World) (X' : Nat → Nat → Prop) (g' : List Nat) : Prop where
  cell : ∀ (b o : Nat) (u : Value), w.cell? ⟨b, o, none⟩ = some u → ¬ X b o → w'.cell? ⟨b, o, none⟩ = some u ∧ ¬ X' b o
  room : ∀ (b o : Nat) (u : Value), w.cell? ⟨b, o, none⟩ = some u → (∃ u', w'.cell? ⟨b, o, none⟩ = some u') ∧ w'.frozen? ⟨b, o, none⟩ = w.frozen? ⟨b, o, none⟩
  ids : ∀ (i b : Nat), g[i]? = some b → g'[i]? = some b
  obj : ∀ (b : Nat) (o : Obj), w.heap[b]? = some o → (∀ k, ¬ X b k) → w'.heap[b]? = some o ∧ ∀ k, ¬ X' b k

theorem Rep.stays {w w' : World} {X X' : Nat → Nat → Prop} {g g' : List Nat} (hs : Stays w X g w' X' g') {a : AV} {u : Value} (h : Rep w X g a u) : Rep w' X' g' a u := by
  induction h with
  | any u => exact .any u
  | v x => exact .v x
  | ag cs vs hn _ ih => exact .ag cs vs hn ih
  | tup cs vs hn _ ih => exact .tup cs vs hn ih
  | fn f c1 c2 v1 v2 hn1 hn2 _ _ ih1 ih2 => exact .fn f c1 c2 v1 v2 hn1 hn2 ih1 ih2
  | ifc t x u _ ih => exact .ifc t x u ih
  | sl0 sz f a cap => exact .sl0 sz f a cap
  | sl sz n f b off cap vs hlen hcap hcell hc _ ih => exact .sl sz n f b off cap vs hlen hcap (fun k u hk => hs.cell _ _ _ (hcell k u hk).1 (hcell k u hk).2) hc ih
  | os0 sz f a => exact .os0 sz f a
  | osn sz n f b off vs hlen hcell hc _ ih => exact .osn sz n f b off vs hlen (fun k u hk => hs.cell _ _ _ (hcell k u hk).1 (hcell k u hk).2) hc ih
  | oss sz n f i b cap vs hg hlen hcap hcell hroom hc _ ih =>
    refine .oss sz n f i b cap vs (hs.ids _ _ hg) hlen hcap (fun k u hk => hs.cell _ _ _ (hcell k u hk).1 (hcell k u hk).2) (fun k hk => ?_) hc ih
    obtain ⟨⟨u, hu⟩, hf⟩ := hroom k hk
    exact ⟨(hs.room _ _ _ hu).1, (hs.room _ _ _ hu).2.trans hf⟩
  | rp cs b off vs hn hcell _ ih => exact .rp cs b off vs hn (fun k u hk => hs.cell _ _ _ (hcell k u hk).1 (hcell k u hk).2) ih
  | bp i off b hg => exact .bp i off b (hs.ids _ _ hg)
  | hs i off n cap b hg => exact .hs i off n cap b (hs.ids _ _ hg)
  | yl i b hg => exact .yl i b (hs.ids _ _ hg)
  | om i b hg => exact .om i b (hs.ids _ _ hg)
  | oc i b hg => exact .oc i b (hs.ids _ _ hg)
  | fm es b ents clock hb hx hn hk _ ih => exact .fm es b ents clock (hs.obj _ _ hb hx).1 (hs.obj _ _ hb hx).2 hn hk ih

theorem Stays.refl (w : World) (X : Nat → Nat → Prop) (g : List Nat) : Stays w X g w X g := ⟨fun _ _ _ h h' => ⟨h, h'⟩, fun _ _ u h => ⟨⟨u, h⟩, rfl⟩, fun _ _ h => h, fun _ _ h h' => ⟨h, h'⟩⟩
theorem Stays.trans {w w' w'' : World} {X X' X'' : Nat → Nat → Prop} {g g' g'' : List Nat} (h : Stays w X g w' X' g') (k : Stays w' X' g' w'' X'' g'') : Stays w X g w'' X'' g'' :=
  ⟨fun b o u h1 h2 => let ⟨a1, a2⟩ := h.cell b o u h1 h2; k.cell b o u a1 a2,
   fun b o u h1 => let ⟨⟨u', a1⟩, a2⟩ := h.room b o u h1; ⟨(k.room b o u' a1).1, (k.room b o u' a1).2.trans a2⟩,
   fun i b hi => k.ids i b (h.ids i b hi),
   fun b o h1 h2 => k.obj b o (h.obj b o h1 h2).1 (h.obj b o h1 h2).2⟩
/-- Less may be written. -/
theorem Stays.less {w : World} {X X' : Nat → Nat → Prop} {g : List Nat} (h : ∀ b o, X' b o → X b o) : Stays w X g w X' g :=
  ⟨fun b o _ h1 h2 => ⟨h1, fun hx => h2 (h b o hx)⟩, fun _ _ u h => ⟨⟨u, h⟩, rfl⟩, fun _ _ h => h, fun b _ h1 h2 => ⟨h1, fun k hx => h2 k (h b k hx)⟩⟩

/-- The part of memory that is one's own: variables (a number, what its cells hold), and rows that may be appended to (a number, how many cells are taken). -/
structure Heap where
  bx : List (Id × Own)
  pm : List (Id × Nat)
  nx : Nat
  nn : Nat := 0

def excl (X : Nat → Nat → Prop) (g : List Nat) (h : Heap) (b o : Nat) : Prop :=
  X b o ∨ (∃ p ∈ h.bx, g[p.1.2]? = some b) ∨ (∃ p ∈ h.pm, g[p.1.2]? = some b ∧ p.2 ≤ o)

def Heap.ids (h : Heap) : List Nat := h.bx.map (·.1.2) ++ h.pm.map (·.1.2)

def OwnRep (w : World) (X : Nat → Nat → Prop) (g : List Nat) (b : Nat) : Own → Prop
  | .c cs => ∃ vs e, w.heap[b]? = some (.cells vs e (0, 0)) ∧ vs.size = cs.length ∧ ∀ (k : Nat) (c : AV) (u : Value), cs[k]? = some c → vs[k]? = some u → Rep w X g c u
  | .mp es => ∃ ents : List MapEntry, w.heap[b]? = some (.map ents.toArray ents.length) ∧ ents.length = es.length ∧
      (∀ (k : Nat) (p : Value × AV) (e : MapEntry), es[k]? = some p → ents[k]? = some e → e.key = p.1 ∧ e.born = k ∧ Rep w X g p.2 e.val)
  | .ch cap buf => ∃ (vs : List Value) (s k : Nat), w.heap[b]? = some (.chan cap vs.toArray false s k false) ∧ vs.length = buf.length ∧ ∀ (k : Nat) (c : AV) (u : Value), buf[k]? = some c → vs[k]? = some u → Rep w X g c u
  | .lp st pd n t ps asg body => ∃ fn tmps d, w.heap[b]? = some (.loop ⟨st, pd, fn, tmps, ps, asg, body, d⟩) ∧ tmps.size = n ∧ ∀ k, Rep w X g (t k) (tmps.getD k undef)
  | .df => w.heap[b]? = some (.deferred (some []))

theorem OwnRep.stays {w w' : World} {X X' : Nat → Nat → Prop} {g g' : List Nat} (hs : Stays w X g w' X' g') {b : Nat} (hb : w'.heap[b]? = w.heap[b]?) {o : Own} (h : OwnRep w X g b o) : OwnRep w' X' g' b o := by
  cases o with
  | c cs => obtain ⟨vs, e, h1, h2, h3⟩ := h; exact ⟨vs, e, hb.trans h1, h2, fun k c u hc hu => (h3 k c u hc hu).stays hs⟩
  | mp es => obtain ⟨ents, h1, h2, h3⟩ := h; exact ⟨ents, hb.trans h1, h2, fun k p e hp he => ⟨(h3 k p e hp he).1, (h3 k p e hp he).2.1, (h3 k p e hp he).2.2.stays hs⟩⟩
  | ch cap buf => obtain ⟨vs, s, k, h1, h2, h3⟩ := h; exact ⟨vs, s, k, hb.trans h1, h2, fun k c u hc hu => (h3 k c u hc hu).stays hs⟩
  | lp st pd n t ps asg body => obtain ⟨fn, tmps, d, h1, h2, h3⟩ := h; exact ⟨fn, tmps, d, hb.trans h1, h2, fun k => (h3 k).stays hs⟩
  | df => exact hb.trans h

structure HOk (w : World) (X : Nat → Nat → Prop) (g : List Nat) (h : Heap) : Prop where
  bx : ∀ p ∈ h.bx, ∃ b, g[p.1.2]? = some b ∧ OwnRep w X g b p.2
  pm : ∀ p ∈ h.pm, ∃ b vs e, g[p.1.2]? = some b ∧ w.heap[b]? = some (.cells vs e (0, 0)) ∧ p.2 ≤ vs.size
  nodup : (h.ids.map (fun i => g[i]?)).Nodup
  nx : h.nx = g.length
  bd : ∀ (b o : Nat), X b o → b < w.heap.size

/-- From w on to w' only cells of M have turned, of the blocks that were. -/
structure Evo (M : Nat → Nat → Prop) (w w' : World) : Prop where
  os : w'.os = w.os
  tape : w'.tape = w.tape
  output : w'.output = w.output
  size : w.heap.size ≤ w'.heap.size
  blk : ∀ (b : Nat), b < w.heap.size → (∀ o, ¬ M b o) → w'.heap[b]? = w.heap[b]?
  cell : ∀ (b o : Nat), b < w.heap.size → ¬ M b o → w'.cell? ⟨b, o, none⟩ = w.cell? ⟨b, o, none⟩
  room : ∀ (b : Nat) (vs : Array Value) (e : TypeId) (fz : Nat × Nat), w.heap[b]? = some (.cells vs e fz) → ∃ vs', w'.heap[b]? = some (.cells vs' e fz) ∧ vs'.size = vs.size
  lpk : ∀ (b : Nat) (l : Loop), w.heap[b]? = some (.loop l) → ∃ l', w'.heap[b]? = some (.loop l')

theorem Evo.refl (M : Nat → Nat → Prop) (w : World) : Evo M w w := ⟨rfl, rfl, rfl, Nat.le_refl _, fun _ _ _ => rfl, fun _ _ _ _ => rfl, fun _ vs _ _ h => ⟨vs, h, rfl⟩, fun _ l h => ⟨l, h⟩⟩
theorem Evo.trans {M : Nat → Nat → Prop} {a b c : World} (h : Evo M a b) (k : Evo M b c) : Evo M a c :=
  ⟨k.os.trans h.os, k.tape.trans h.tape, k.output.trans h.output, Nat.le_trans h.size k.size,
   fun x hx hm => (k.blk x (Nat.lt_of_lt_of_le hx h.size) hm).trans (h.blk x hx hm),
   fun x o hx hm => (k.cell x o (Nat.lt_of_lt_of_le hx h.size) hm).trans (h.cell x o hx hm),
   fun x vs e fz hx => let ⟨vs', h1, h2⟩ := h.room x vs e fz hx; let ⟨vs'', h3, h4⟩ := k.room x vs' e fz h1; ⟨vs'', h3, h4.trans h2⟩,
   fun x l hx => let ⟨l', h1⟩ := h.lpk x l hx; k.lpk x l' h1⟩
theorem Evo.mono {M M' : Nat → Nat → Prop} {w w' : World} (h : Evo M w w') (hm : ∀ b o, b < w.heap.size → M b o → M' b o) : Evo M' w w' :=
  ⟨h.os, h.tape, h.output, h.size, fun b hb hn => h.blk b hb (fun o hx => hn o (hm b o hb hx)), fun b o hb hn => h.cell b o hb (fun hx => hn (hm b o hb hx)), h.room, h.lpk⟩
def none2 : Nat → Nat → Prop := fun _ _ => False
theorem Evo.below {w w' : World} (h : Evo none2 w w') : Below w.heap.size w w' := ⟨h.os, h.tape, h.output, h.size, fun k hk => h.blk k hk (fun _ hx => hx)⟩
theorem block_of_cell {w : World} {b o : Nat} {u : Value} (h : w.cell? ⟨b, o, none⟩ = some u) : ∃ vs e fz, w.heap[b]? = some (.cells vs e fz) ∧ vs[o]? = some u := by
  unfold World.cell? at h
  split at h
  · rename_i vs e fz hb
    exact ⟨vs, e, fz, hb, by simpa using h⟩
  · cases h
theorem cell_of_block {w : World} {b o : Nat} {vs : Array Value} {e : TypeId} {fz : Nat × Nat} (h : w.heap[b]? = some (.cells vs e fz)) : w.cell? ⟨b, o, none⟩ = vs[o]? := by
  simp [World.cell?, h]
theorem frozen_of_block {w : World} {b o : Nat} {vs : Array Value} {e : TypeId} {lo hi : Nat} (h : w.heap[b]? = some (.cells vs e (lo, hi))) : w.frozen? ⟨b, o, none⟩ = (decide (lo ≤ o) && decide (o < hi)) := by
  simp [World.frozen?, h]
theorem lt_of_block {w : World} {b : Nat} {o : Obj} (h : w.heap[b]? = some o) : b < w.heap.size := by
  rcases Nat.lt_or_ge b w.heap.size with h' | h'
  · exact h'
  · simp [Array.getElem?_eq_none h'] at h
theorem Evo.of_below {w w' : World} (h : Below w.heap.size w w') : Evo none2 w w' :=
  ⟨h.os, h.tape, h.output, h.size, fun b hb _ => h.block b hb, fun b o hb _ => World.cell?_of_block (a := ⟨b, o, none⟩) (h.block b hb),
   fun b vs _ _ hb => ⟨vs, (h.block b (lt_of_block hb)).trans hb, rfl⟩, fun b l hb => ⟨l, (h.block b (lt_of_block hb)).trans hb⟩⟩
theorem OwnRep.lt {w : World} {X : Nat → Nat → Prop} {g : List Nat} {b : Nat} {o : Own} (h : OwnRep w X g b o) : b < w.heap.size := by
  cases o with
  | c cs => obtain ⟨vs, e, h1, _⟩ := h; exact lt_of_block h1
  | mp es => obtain ⟨ents, h1, _⟩ := h; exact lt_of_block h1
  | ch cap buf => obtain ⟨vs, s, k, h1, _⟩ := h; exact lt_of_block h1
  | lp st pd n t ps asg body => obtain ⟨fn, tmps, d, h1, _⟩ := h; exact lt_of_block h1
  | df => exact lt_of_block h
theorem Evo.stays {M : Nat → Nat → Prop} {w w' : World} (h : Evo M w w') {X X' : Nat → Nat → Prop} {g g' : List Nat} (hm : ∀ b o, b < w.heap.size → M b o → X b o)
    (hx : ∀ b o, b < w.heap.size → X' b o → X b o) (hg : ∀ (i b : Nat), g[i]? = some b → g'[i]? = some b) : Stays w X g w' X' g' := by
  refine ⟨fun b o u hu hn => ?_, fun b o u hu => ?_, hg, fun b o hb hn => ⟨(h.blk b (lt_of_block hb) (fun k hk => hn k (hm b k (lt_of_block hb) hk))).trans hb, fun k hk => hn k (hx b k (lt_of_block hb) hk)⟩⟩
  · have hb : b < w.heap.size := World.block_lt_of_cell? w _ hu
    exact ⟨(h.cell b o hb (fun m => hn (hm b o hb m))).trans hu, fun x => hn (hx b o hb x)⟩
  · obtain ⟨vs, e, fz, hb, ho⟩ := block_of_cell hu
    obtain ⟨vs', hb', hs⟩ := h.room b vs e fz hb
    have : o < vs'.size := by rw [hs]; exact (Array.getElem?_eq_some_iff.1 ho).1
    exact ⟨⟨vs'[o], by rw [cell_of_block hb']; simp [this]⟩, by obtain ⟨lo, hi⟩ := fz; rw [frozen_of_block hb, frozen_of_block hb']⟩

/-- A call that is put off. -/
inductive DA where
  | col (i : Id)
  | fn (f : FuncId) (caps args : List AV)
inductive DRep (w : World) (X : Nat → Nat → Prop) (g : List Nat) : DA → Deferred → Prop
  | col (i : Id) (b : Nat) (hg : g[i.2]? = some b) : DRep w X g (.col i) ⟨.collected b, #[]⟩
  | fn (f : FuncId) (caps args : List AV) (v1 v2 : List Value) (hn1 : v1.length = caps.length) (hn2 : v2.length = args.length)
      (h1 : ∀ (k : Nat) (c : AV) (u : Value), caps[k]? = some c → v1[k]? = some u → Rep w X g c u)
      (h2 : ∀ (k : Nat) (c : AV) (u : Value), args[k]? = some c → v2[k]? = some u → Rep w X g c u) : DRep w X g (.fn f caps args) ⟨.fn (.func f) v1.toArray, v2.toArray⟩
inductive DReps (w : World) (X : Nat → Nat → Prop) (g : List Nat) : List DA → List Deferred → Prop
  | nil : DReps w X g [] []
  | cons {d : DA} {e : Deferred} {ds : List DA} {es : List Deferred} (h : DRep w X g d e) (hs : DReps w X g ds es) : DReps w X g (d :: ds) (e :: es)
def DOk (w : World) (X : Nat → Nat → Prop) (g : List Nat) : Option (List DA) → List Deferred → Prop
  | none, ds => ds = []
  | some l, ds => DReps w X g l ds
theorem DRep.stays {w w' : World} {X X' : Nat → Nat → Prop} {g g' : List Nat} (hs : Stays w X g w' X' g') {d : DA} {e : Deferred} (h : DRep w X g d e) : DRep w' X' g' d e := by
  cases h with
  | col i b hg => exact .col i b (hs.ids _ _ hg)
  | fn f caps args v1 v2 hn1 hn2 h1 h2 => exact .fn f caps args v1 v2 hn1 hn2 (fun k c u hc hu => (h1 k c u hc hu).stays hs) (fun k c u hc hu => (h2 k c u hc hu).stays hs)
theorem DReps.stays {w w' : World} {X X' : Nat → Nat → Prop} {g g' : List Nat} (hs : Stays w X g w' X' g') {d : List DA} {e : List Deferred} (h : DReps w X g d e) : DReps w' X' g' d e := by
  induction h with
  | nil => exact .nil
  | cons h1 _ ih => exact .cons (h1.stays hs) ih
theorem DOk.stays {w w' : World} {X X' : Nat → Nat → Prop} {g g' : List Nat} (hs : Stays w X g w' X' g') : ∀ {d : Option (List DA)} {e : List Deferred}, DOk w X g d e → DOk w' X' g' d e
  | none, _, h => h
  | some _, _, h => DReps.stays hs h
theorem DOk.nil {w : World} {X : Nat → Nat → Prop} {g : List Nat} {d : List Deferred} (h : DOk w X g (some []) d) : d = [] := by cases (h : DReps w X g [] d); rfl

/-- What is known of a frame: its temporaries, its own memory, what it has put off (none: nothing may be put off: a round of a range over a function). -/
structure Env where
  n : Nat
  t : Nat → AV
  h : Heap
  df : Option (List DA)

/-- A constant, as a tree. -/
def ofC : Value → AV
  | .slice none 0 0 => .os 0 0 (fun _ => .any) none
  | .func f a b => bif a.isEmpty && b.isEmpty then .fn f [] [] else .v (.func f a b)
  | x => .v x
def ofV : Value → AV
  | .agg cs => .ag (cs.toList.map ofC)
  | x => ofC x

theorem rep_ofC {w : World} {X : Nat → Nat → Prop} {g : List Nat} (x : Value) : Rep w X g (ofC x) x := by
  unfold ofC
  split
  · exact .os0 0 _ none
  · rename_i f a b
    cases h : a.isEmpty && b.isEmpty
    · exact .v _
    · simp only [Bool.and_eq_true, Array.isEmpty_iff] at h
      obtain ⟨rfl, rfl⟩ := h
      exact .fn f [] [] [] [] rfl rfl (by simp) (by simp)
  · exact .v _
theorem rep_ofV {w : World} {X : Nat → Nat → Prop} {g : List Nat} (x : Value) : Rep w X g (ofV x) x := by
  unfold ofV
  split
  · rename_i cs
    have := Rep.ag (w := w) (X := X) (g := g) (cs.toList.map ofC) cs.toList (by simp) (fun k c u h1 h2 => by
      rw [List.getElem?_map, h2] at h1
      simp only [Option.map_some, Option.some.injEq] at h1
      subst h1
      exact rep_ofC u)
    simpa using this
  · exact rep_ofC _

def Env.ev (E : Env) : Operand → AV
  | .tmp k => E.t k
  | .const x => ofV x
  | .global g => .v (.pointer (some ⟨g, 0, none⟩))
  | .func f => .fn (.func f) [] []

def Env.set (E : Env) (d : Option Nat) (r : AV) : Env :=
  match d with
  | none => E
  | some d => ⟨E.n, fun k => bif Nat.beq k d then (bif Nat.blt d E.n then r else E.t k) else E.t k, E.h, E.df⟩

structure St (r : Option Nat) (X M : Nat → Nat → Prop) (w0 : World) (E : Env) (a : Act) (w : World) (g : List Nat) : Prop where
  hok : HOk w (excl X g E.h) g E.h
  tm : ∀ k, Rep w (excl X g E.h) g (E.t k) (a.tmps.getD k undef)
  n : a.tmps.size = E.n
  evo : Evo M w0 w
  loc : ∀ (b o : Nat), excl none2 g E.h b o → b < w0.heap.size → M b o
  def_ : DOk w (excl X g E.h) g E.df a.defers
  sep : ∀ (b o : Nat), X b o → ∀ i, i ∈ E.h.ids → g[i]? ≠ some b
  top : (E.df.isSome = true → r = none) ∧ (E.df = none → r.isSome = true)
  rnd : ∀ l, r = some l → ∃ q, w0.heap[l]? = some (.loop q)

/-- How a piece of code is left. -/
inductive AExit where
  | normal
  | exit (id : Nat)
  | goto (l : Nat)
  | ret
  | panic (x : AV)
def ExRel (w : World) (X : Nat → Nat → Prop) (g : List Nat) : AExit → Exit → Prop
  | .normal, ex => ex = .normal
  | .exit i, ex => ex = .exit i
  | .goto l, ex => ex = .goto l
  | .ret, ex => ex = .ret
  | .panic x, ex => ∃ v, ex = .panic [{ v, recovered := false }] ∧ Rep w X g x v
theorem ExRel.stays {w w' : World} {X X' : Nat → Nat → Prop} {g g' : List Nat} (hs : Stays w X g w' X' g') {x : AExit} {e : Exit} (h : ExRel w X g x e) : ExRel w' X' g' x e := by
  cases x with
  | panic x => obtain ⟨v, h1, h2⟩ := h; exact ⟨v, h1, h2.stays hs⟩
  | _ => exact h

def lift (ro : Option Nat) (X M : Nat → Nat → Prop) (w0 : World) (g0 : List Nat) (Q : AExit → Env → Prop) : Exit → Act → World → Prop :=
  fun ex a w => ∃ x E g, Q x E ∧ ExRel w (excl X g E.h) g x ex ∧ (∀ (i b : Nat), g0[i]? = some b → g[i]? = some b) ∧ St ro X M w0 E a w g

/-- Any function, any round. -/
def Fr (r : Option Nat) : Fence := { Fence.wide with round := r }
theorem Fr_none : Fr none = Fence.wide := rfl


/-- The code, begun at what E tells, ends so. -/
def AW (P : Program) (c : Code) (E : Env) (Q : AExit → Env → Prop) : Prop :=
  ∀ ro X M w0 a w g g0, (∀ (i b : Nat), g0[i]? = some b → g[i]? = some b) → St ro X M w0 E a w g → c.wpIn (Fr ro) 0 P (lift ro X M w0 g0 Q) a w

theorem St.ev {ro : Option Nat} {X M : Nat → Nat → Prop} {w0 : World} {E : Env} {a : Act} {w : World} {g : List Nat} (h : St ro X M w0 E a w g) (x : Operand) : Rep w (excl X g E.h) g (E.ev x) (a.eval x) := by
  cases x with
  | tmp k => exact h.tm k
  | const x => exact rep_ofV x
  | global g => exact .v _
  | func f => exact .fn (.func f) [] [] [] [] rfl rfl (by simp) (by simp)

section
variable {P : Program}
theorem AW.mono {c : Code} {E : Env} {Q Q' : AExit → Env → Prop} (h : AW P c E Q) (hq : ∀ ex E, Q ex E → Q' ex E) : AW P c E Q' :=
  fun r X M w0 a w g g0 hg hs => wpIn_mono (h r X M w0 a w g g0 hg hs) fun ex _ _ ⟨x, E', g', q, hx, hg', s⟩ => ⟨x, E', g', hq x E' q, hx, hg', s⟩

/-- What E tells is told by E' too. -/
def ELe (E E' : Env) : Prop := ∀ ro X M w0 a w g, St ro X M w0 E a w g → St ro X M w0 E' a w g
theorem ELe.refl (E : Env) : ELe E E := fun _ _ _ _ _ _ _ h => h
theorem AW.le {c : Code} {E E' : Env} {Q : AExit → Env → Prop} (hl : ELe E E') (h : AW P c E' Q) : AW P c E Q :=
  fun r X M w0 a w g g0 hg hs => h r X M w0 a w g g0 hg (hl r X M w0 a w g hs)

theorem aw_skip {E : Env} {Q : AExit → Env → Prop} (h : Q .normal E) : AW P .skip E Q := fun _ _ _ _ _ _ g _ hg hs => wpIn_skip ⟨.normal, E, g, h, rfl, hg, hs⟩
theorem aw_label {E : Env} {Q : AExit → Env → Prop} {l : Nat} (h : Q .normal E) : AW P (.label l) E Q := fun _ _ _ _ _ _ g _ hg hs => wpIn_label ⟨.normal, E, g, h, rfl, hg, hs⟩
theorem aw_exit {E : Env} {Q : AExit → Env → Prop} {i : Nat} (h : Q (.exit i) E) : AW P (.exit i) E Q := fun _ _ _ _ _ _ g _ hg hs => wpIn_exit ⟨.exit i, E, g, h, rfl, hg, hs⟩
theorem aw_goto {E : Env} {Q : AExit → Env → Prop} {i : Nat} (h : Q (.goto i) E) : AW P (.goto i) E Q := fun _ _ _ _ _ _ g _ hg hs => wpIn_goto ⟨.goto i, E, g, h, rfl, hg, hs⟩
theorem aw_ret {E : Env} {Q : AExit → Env → Prop} (h : Q .ret E) : AW P .ret E Q := fun _ _ _ _ _ _ g _ hg hs => wpIn_ret ⟨.ret, E, g, h, rfl, hg, hs⟩

def seqQ (P : Program) (y : Code) (Q : AExit → Env → Prop) : AExit → Env → Prop
  | .normal, E => AW P y E Q
  | ex, E => Q ex E
theorem aw_seq {x y : Code} {E : Env} {Q : AExit → Env → Prop} (h : AW P x E (seqQ P y Q)) : AW P (.seq x y) E Q :=
  fun r X M w0 a w g g0 hg hs => wpIn_seq (wpIn_mono (h r X M w0 a w g g0 hg hs) fun ex a' w' hq => by
    obtain ⟨ax, E', g', q, hx, hg', s⟩ := hq
    cases ax with
    | normal => cases (hx : ex = .normal); exact q r X M w0 a' w' g' g0 hg' s
    | exit i => cases (hx : ex = .exit i); exact ⟨_, E', g', q, rfl, hg', s⟩
    | goto i => cases (hx : ex = .goto i); exact ⟨_, E', g', q, rfl, hg', s⟩
    | ret => cases (hx : ex = .ret); exact ⟨_, E', g', q, rfl, hg', s⟩
    | panic x => obtain ⟨v, rfl, hr⟩ := hx; exact ⟨_, E', g', q, ⟨v, rfl, hr⟩, hg', s⟩)
theorem aw_cond {c : Operand} {x y : Code} {E : Env} {Q : AExit → Env → Prop} {t : Bool} (hc : E.ev c = .v (.bool t)) (ht : t = true → AW P x E Q) (hf : t = false → AW P y E Q) :
    AW P (.cond c x y) E Q := by
  intro r X M w0 a w g g0 hg hs
  have hr := hs.ev c
  rw [hc] at hr
  have : a.eval c = .bool t := by
    generalize a.eval c = u at hr
    cases hr
    rfl
  exact wpIn_cond_split this (fun h => ht h r X M w0 a w g g0 hg hs) (fun h => hf h r X M w0 a w g g0 hg hs)
theorem aw_true {c : Operand} {x y : Code} {E : Env} {Q : AExit → Env → Prop} (hc : E.ev c = .v (.bool true)) (h : AW P x E Q) : AW P (.cond c x y) E Q :=
  aw_cond hc (fun _ => h) (fun h => by cases h)
theorem aw_false {c : Operand} {x y : Code} {E : Env} {Q : AExit → Env → Prop} (hc : E.ev c = .v (.bool false)) (h : AW P y E Q) : AW P (.cond c x y) E Q :=
  aw_cond hc (fun h => by cases h) (fun _ => h)
def blockQ (i : Nat) (Q : AExit → Env → Prop) : AExit → Env → Prop
  | .exit j, E => bif Nat.beq j i then Q .normal E else Q (.exit j) E
  | ex, E => Q ex E
theorem aw_block {i : Nat} {c : Code} {E : Env} {Q : AExit → Env → Prop} (h : AW P c E (blockQ i Q)) : AW P (.block i c) E Q :=
  fun r X M w0 a w g g0 hg hs => wpIn_block (wpIn_mono (h r X M w0 a w g g0 hg hs) fun ex a' w' hq => by
    obtain ⟨ax, E', g', q, hx, hg', s⟩ := hq
    cases ax with
    | exit j =>
      cases (hx : ex = .exit j)
      by_cases hj : j = i
      · subst hj; simp only [blockQ, Nat.beq_refl, cond_true] at q; simp only [Exit.inBlock, if_true]; exact ⟨.normal, E', g', q, rfl, hg', s⟩
      · have : Nat.beq j i = false := by cases h : Nat.beq j i with | true => exact absurd (Nat.eq_of_beq_eq_true h) hj | false => rfl
        simp only [blockQ, this, cond_false] at q; simp only [Exit.inBlock, if_neg hj]; exact ⟨.exit j, E', g', q, rfl, hg', s⟩
    | normal => cases (hx : ex = .normal); exact ⟨.normal, E', g', q, rfl, hg', s⟩
    | goto i => cases (hx : ex = .goto i); exact ⟨_, E', g', q, rfl, hg', s⟩
    | ret => cases (hx : ex = .ret); exact ⟨_, E', g', q, rfl, hg', s⟩
    | panic x => obtain ⟨v, rfl, hr⟩ := hx; exact ⟨_, E', g', q, ⟨v, rfl, hr⟩, hg', s⟩)

def LoopBack {α : Type} (env : α → Env) (I : α → Prop) (m : α → Nat) (x : α) (E : Env) : Prop := ∃ x', I x' ∧ m x' < m x ∧ ELe E (env x')
def loopQ {α : Type} (env : α → Env) (I : α → Prop) (m : α → Nat) (x : α) (Q : AExit → Env → Prop) : AExit → Env → Prop
  | .normal, E => LoopBack env I m x E
  | ex, E => Q ex E
theorem aw_loop {α : Type} (env : α → Env) (I : α → Prop) (m : α → Nat) {c : Code} {E : Env} {Q : AExit → Env → Prop}
    (h0 : ∃ x, I x ∧ ELe E (env x)) (hr : ∀ x, I x → AW P c (env x) (loopQ env I m x Q)) : AW P (.loop c) E Q := by
  intro ro X M w0 a w g g0 hg hs b k cs hro hfb hroom
  obtain ⟨x0, hI0, hle0⟩ := h0
  have key : ∀ n x a w g, m x = n → I x → (∀ (i b : Nat), g0[i]? = some b → g[i]? = some b) → St ro X M w0 (env x) a w g →
      ∃ e a' w', lift ro X M w0 g0 Q e a' w' ∧ ArrivesIn (Machine.fenced P (Fr ro)) P (lone (b.atR a (.code c :: .inLoop c :: k)) cs w) b k cs e a' w' := by
    intro n
    induction n using Nat.strongRecOn with
    | _ n ih =>
      intro x a w g hn hI hg hs
      obtain ⟨e, a₁, w₁, hq, harr⟩ := hr x hI ro X M w0 a w g g0 hg hs b (.inLoop c :: k) cs hro hfb hroom
      obtain ⟨ax, E', g', q, hx, hg', s⟩ := hq
      cases ax with
      | normal =>
        cases (hx : e = .normal)
        obtain ⟨x', hI', hlt, hle⟩ := q
        obtain ⟨e₂, a₂, w₂, hq₂, harr₂⟩ := ih (m x') (hn ▸ hlt) x' a₁ w₁ g' rfl hI' hg' (hle _ _ _ _ _ _ _ s)
        exact ⟨e₂, a₂, w₂, hq₂, .of_steps (StepsIn.trans harr (.one (fenced_calm hfb hroom rfl) stepR_inLoop)) harr₂⟩
      | exit id => cases (hx : e = .exit id); exact ⟨_, a₁, w₁, ⟨_, E', g', q, rfl, hg', s⟩, .pass (x := .inLoop c) rfl (fun _ _ => .inl (by simp)) harr⟩
      | goto l => cases (hx : e = .goto l); exact ⟨_, a₁, w₁, ⟨_, E', g', q, rfl, hg', s⟩, .pass (x := .inLoop c) rfl (fun _ _ => .inl (by simp)) harr⟩
      | ret => cases (hx : e = .ret); exact ⟨_, a₁, w₁, ⟨_, E', g', q, rfl, hg', s⟩, .pass (x := .inLoop c) rfl (fun _ _ => .inl (by simp)) harr⟩
      | panic x => obtain ⟨v, rfl, hr⟩ := hx; exact ⟨_, a₁, w₁, ⟨_, E', g', q, ⟨v, rfl, hr⟩, hg', s⟩, .pass (x := .inLoop c) rfl (fun _ _ => .inl (by simp)) harr⟩
  obtain ⟨e, a', w', hq, harr⟩ := key _ x0 a w g rfl hI0 hg (hle0 _ _ _ _ _ _ _ hs)
  exact ⟨e, a', w', hq, .of_steps (.one (fenced_calm hfb hroom rfl) stepR_loop) harr⟩
end
attribute [irreducible] AW LoopBack
end Go.Vl
