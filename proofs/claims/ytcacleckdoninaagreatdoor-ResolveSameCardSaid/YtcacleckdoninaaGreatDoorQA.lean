/- The tables that are laid, and that this seat's laws read: a block's number, and what its cells hold. -/
import Derived.Below
import Derived.Lib.ItoaNum
import Derived.Orders
import Derived.OrdersIn
import Derived.RangeFuncIn
import Derived.Laws.World
import Derived.Laws.AppendOwn
import Derived.Laws.StructEq
import Derived.Laws.Build
import Derived.Laws.Slices
import Derived.Laws.Small
import Derived.Laws.Entries
import Derived.Laws.Panics
set_option linter.unusedVariables false
set_option linter.unusedSimpArgs false
set_option maxHeartbeats 16000000
namespace Go
theorem Om {p:Prop} (h:p:=by omega):p:=h
theorem Si {p:Prop} (h:p:=by simp):p:=h
end Go
namespace Go.Vl
def JwD:List (Nat×Array Value):= [(1,(Go.Lib.pow10Tab.map fun z=> Value.int .u64 z).toArray)]
end Go.Vl

/- A logic of values over the walk's rules: what a slot holds is told by a tree of values, memory that nobody writes stands behind it. -/
namespace Go.Vl
open Go.RowKit
abbrev Id:=Nat×Nat
inductive AV where
 | v (x:Value)
 | any
 | ag (cs:List AV)
 | tup (cs:List AV)
 | fn (f:Fn) (first caps:List AV)
 | ifc (t:TypeId) (x:AV)
 | sl (sz n:Nat) (f:Nat→AV)
 | os (sz n:Nat) (f:Nat→AV) (i:Option Id)
 | rp (cs:List AV)
 | bp (i:Id) (off:Nat)
 | hs (i:Id) (off n cap:Nat)
 | yl (i:Id)
 | om (i:Id)
 | oc (i:Id)
 | fm (es:List (Value×AV))
inductive Own where
 | c (cs:List AV)
 | mp (es:List (Value×AV))
 | ch (cap:Nat) (buf:List AV)
 | it (es:List (Value×AV)) (seen:List Nat)
 | si (s:ByteArray) (pos:Nat)
 | kn (bl:Nat) (ob:Obj)
 | sb (t:TypeId) (bf:Option (Id×Nat×Nat))
 | bt (e:TypeId) (l:List Value) (cap:Nat)
 | lp (st:LoopState) (pd:Option Code) (n:Nat) (t:Nat→AV) (ps:Array Tmp) (asg body:Code)
 | df
def AV.cells:AV→List AV
 | .ag cs=> cs
 | a=> [a]
inductive Rep (w:World) (X:Nat→Nat→Prop) (g:List Nat):AV→Value→Prop
 | any (u:Value):Rep w X g .any u
 | v (x:Value):Rep w X g (.v x) x
 | ag (cs:List AV) (vs:List Value) (hn:vs.length=cs.length)
    (h:∀(k:Nat) (c:AV) (u:Value),cs[k]? =some c→vs[k]? =some u→Rep w X g c u):Rep w X g (.ag cs) (.agg vs.toArray)
 | tup (cs:List AV) (vs:List Value) (hn:vs.length=cs.length)
    (h:∀(k:Nat) (c:AV) (u:Value),cs[k]? =some c→vs[k]? =some u→Rep w X g c u):Rep w X g (.tup cs) (.tuple vs.toArray)
 | fn (f:Fn) (c1 c2:List AV) (v1 v2:List Value) (hn1:v1.length=c1.length) (hn2:v2.length=c2.length)
    (h1:∀(k:Nat) (c:AV) (u:Value),c1[k]? =some c→v1[k]? =some u→Rep w X g c u)
    (h2:∀(k:Nat) (c:AV) (u:Value),c2[k]? =some c→v2[k]? =some u→Rep w X g c u):Rep w X g (.fn f c1 c2) (.func f v1.toArray v2.toArray)
 | ifc (t:TypeId) (x:AV) (u:Value) (h:Rep w X g x u):Rep w X g (.ifc t x) (.iface t u)
 | sl0 (sz:Nat) (f:Nat→AV) (a:Option Addr) (cap:Nat):Rep w X g (.sl sz 0 f) (.slice a 0 cap)
 | sl (sz n:Nat) (f:Nat→AV) (b off cap:Nat) (vs:List Value) (hlen:vs.length=n * sz) (hcap:n≤cap)
    (hcell:∀(k:Nat) (u:Value),vs[k]? =some u→w.cell? ⟨b,off+k,none⟩=some u∧¬X b (off+k))
    (hc:∀i,i < n→(f i).cells.length=sz)
    (h:∀(i j:Nat) (c:AV) (u:Value),i < n→(f i).cells[j]? =some c→vs[i * sz+j]? =some u→Rep w X g c u):
    Rep w X g (.sl sz n f) (.slice (some ⟨b,off,none⟩) n cap)
 | os0 (sz:Nat) (f:Nat→AV) (a:Option Addr):Rep w X g (.os sz 0 f none) (.slice a 0 0)
 | osn (sz n:Nat) (f:Nat→AV) (b off:Nat) (vs:List Value) (hlen:vs.length=n * sz)
    (hcell:∀(k:Nat) (u:Value),vs[k]? =some u→w.cell? ⟨b,off+k,none⟩=some u∧¬X b (off+k))
    (hc:∀i,i < n→(f i).cells.length=sz)
    (h:∀(i j:Nat) (c:AV) (u:Value),i < n→(f i).cells[j]? =some c→vs[i * sz+j]? =some u→Rep w X g c u):
    Rep w X g (.os sz n f none) (.slice (some ⟨b,off,none⟩) n n)
 | oss (sz n:Nat) (f:Nat→AV) (i:Id) (b cap:Nat) (vs:List Value) (hg:g[i.2]? =some b) (hlen:vs.length=n * sz) (hcap:n≤cap)
    (hcell:∀(k:Nat) (u:Value),vs[k]? =some u→w.cell? ⟨b,k,none⟩=some u∧¬X b k)
    (hroom:∀k,k < cap * sz→∃u,w.cell? ⟨b,k,none⟩=some u)
    (hc:∀i,i < n→(f i).cells.length=sz)
    (h:∀(i j:Nat) (c:AV) (u:Value),i < n→(f i).cells[j]? =some c→vs[i * sz+j]? =some u→Rep w X g c u):
    Rep w X g (.os sz n f (some i)) (.slice (some ⟨b,0,none⟩) n cap)
 | rp (cs:List AV) (b off:Nat) (vs:List Value) (hn:vs.length=cs.length)
    (hcell:∀(k:Nat) (u:Value),vs[k]? =some u→w.cell? ⟨b,off+k,none⟩=some u∧¬X b (off+k))
    (h:∀(k:Nat) (c:AV) (u:Value),cs[k]? =some c→vs[k]? =some u→Rep w X g c u):Rep w X g (.rp cs) (.pointer (some ⟨b,off,none⟩))
 | bp (i:Id) (off b:Nat) (hg:g[i.2]? =some b):Rep w X g (.bp i off) (.pointer (some ⟨b,off,none⟩))
 | hs (i:Id) (off n cap b:Nat) (hg:g[i.2]? =some b):Rep w X g (.hs i off n cap) (.slice (some ⟨b,off,none⟩) n cap)
 | yl (i:Id) (b:Nat) (hg:g[i.2]? =some b):Rep w X g (.yl i) (.func (.yield b) #[] #[])
 | om (i:Id) (b:Nat) (hg:g[i.2]? =some b):Rep w X g (.om i) (.map (some b))
 | oc (i:Id) (b:Nat) (hg:g[i.2]? =some b):Rep w X g (.oc i) (.chan (some b))
 | fm (es:List (Value×AV)) (b:Nat) (ents:List MapEntry) (hb:w.heap[b]? =some (.map ents.toArray ents.length)) (hx:∀o,¬X b o) (hn:ents.length=es.length)
    (hk:∀(k:Nat) (p:Value×AV) (e:MapEntry),es[k]? =some p→ents[k]? =some e→e.key=p.1∧e.born=k)
    (h:∀(k:Nat) (p:Value×AV) (e:MapEntry),es[k]? =some p→ents[k]? =some e→Rep w X g p.2 e.val):Rep w X g (.fm es) (.map (some b))
structure Stays (w:World) (X:Nat→Nat→Prop) (g:List Nat) (w':World) (X':Nat→Nat→Prop) (g':List Nat):Prop where
 cell:∀(b o:Nat) (u:Value),w.cell? ⟨b,o,none⟩=some u→¬X b o→w'.cell? ⟨b,o,none⟩=some u∧¬X' b o
 room:∀(b o:Nat) (u:Value),w.cell? ⟨b,o,none⟩=some u→∃u',w'.cell? ⟨b,o,none⟩=some u'
 ids:∀(i b:Nat),g[i]? =some b→g'[i]? =some b
 obj:∀(b:Nat) (o:Obj),w.heap[b]? =some o→(∀k,¬X b k)→w'.heap[b]? =some o∧∀k,¬X' b k
theorem Rep.stays {w w':World} {X X':Nat→Nat→Prop} {g g':List Nat} (hs:Stays w X g w' X' g') {a:AV} {u:Value} (h:Rep w X g a u):Rep w' X' g' a u:=by
 induction h with
 | any u=> exact .any u
 | v x=> exact .v x
 | ag cs vs hn _ ih=> exact .ag cs vs hn ih
 | tup cs vs hn _ ih=> exact .tup cs vs hn ih
 | fn f c1 c2 v1 v2 hn1 hn2 _ _ ih1 ih2=> exact .fn f c1 c2 v1 v2 hn1 hn2 ih1 ih2
 | ifc t x u _ ih=> exact .ifc t x u ih
 | sl0 sz f a cap=> exact .sl0 sz f a cap
 | sl sz n f b off cap vs hlen hcap hcell hc _ ih=> exact .sl sz n f b off cap vs hlen hcap (fun k u hk=> hs.cell _ _ _ (hcell k u hk).1 (hcell k u hk).2) hc ih
 | os0 sz f a=> exact .os0 sz f a
 | osn sz n f b off vs hlen hcell hc _ ih=> exact .osn sz n f b off vs hlen (fun k u hk=> hs.cell _ _ _ (hcell k u hk).1 (hcell k u hk).2) hc ih
 | oss sz n f i b cap vs hg hlen hcap hcell hroom hc _ ih=>
   refine .oss sz n f i b cap vs (hs.ids _ _ hg) hlen hcap (fun k u hk=> hs.cell _ _ _ (hcell k u hk).1 (hcell k u hk).2) (fun k hk=> ?_) hc ih;obtain ⟨u,hu⟩:=hroom k hk;exact hs.room _ _ _ hu
 | rp cs b off vs hn hcell _ ih=> exact .rp cs b off vs hn (fun k u hk=> hs.cell _ _ _ (hcell k u hk).1 (hcell k u hk).2) ih
 | bp i off b hg=> exact .bp i off b (hs.ids _ _ hg)
 | hs i off n cap b hg=> exact .hs i off n cap b (hs.ids _ _ hg)
 | yl i b hg=> exact .yl i b (hs.ids _ _ hg)
 | om i b hg=> exact .om i b (hs.ids _ _ hg)
 | oc i b hg=> exact .oc i b (hs.ids _ _ hg)
 | fm es b ents hb hx hn hk _ ih=> exact .fm es b ents (hs.obj _ _ hb hx).1 (hs.obj _ _ hb hx).2 hn hk ih
theorem Stays.refl (w:World) (X:Nat→Nat→Prop) (g:List Nat):Stays w X g w X g:=⟨fun _ _ _ h h'=> ⟨h,h'⟩,fun _ _ u h=> ⟨u,h⟩,fun _ _ h=> h,fun _ _ h h'=> ⟨h,h'⟩⟩
theorem Stays.trans {w w' w'':World} {X X' X'':Nat→Nat→Prop} {g g' g'':List Nat} (h:Stays w X g w' X' g') (k:Stays w' X' g' w'' X'' g''):Stays w X g w'' X'' g'':=
 ⟨fun b o u h1 h2=> let ⟨a1,a2⟩:=h.cell b o u h1 h2;k.cell b o u a1 a2,
  fun b o u h1=> let ⟨u',a1⟩:=h.room b o u h1;k.room b o u' a1,
  fun i b hi=> k.ids i b (h.ids i b hi),
  fun b o h1 h2=> k.obj b o (h.obj b o h1 h2).1 (h.obj b o h1 h2).2⟩
theorem Stays.less {w:World} {X X':Nat→Nat→Prop} {g:List Nat} (h:∀b o,X' b o→X b o):Stays w X g w X' g:=
 ⟨fun b o _ h1 h2=> ⟨h1,fun hx=> h2 (h b o hx)⟩,fun _ _ u h=> ⟨u,h⟩,fun _ _ h=> h,fun b _ h1 h2=> ⟨h1,fun k hx=> h2 k (h b k hx)⟩⟩
structure Heap where
 bx:List (Id×Own)
 pm:List (Id×Nat)
 nx:Nat
 nn:Nat:=0
def excl (X:Nat→Nat→Prop) (g:List Nat) (h:Heap) (b o:Nat):Prop:=
 X b o∨(∃p∈h.bx,g[p.1.2]? =some b)∨(∃p∈h.pm,g[p.1.2]? =some b∧p.2≤o)
def Heap.ids (h:Heap):List Nat:=h.bx.map (·.1.2)++h.pm.map (·.1.2)
def OwnRep (w:World) (X:Nat→Nat→Prop) (g:List Nat) (b:Nat):Own→Prop
 | .c cs=> ∃vs e,w.heap[b]? =some (.cells vs e (0,0))∧vs.size=cs.length∧∀(k:Nat) (c:AV) (u:Value),cs[k]? =some c→vs[k]? =some u→Rep w X g c u
 | .mp es=> ∃ents:List MapEntry,w.heap[b]? =some (.map ents.toArray ents.length)∧ents.length=es.length∧
    (∀(k:Nat) (p:Value×AV) (e:MapEntry),es[k]? =some p→ents[k]? =some e→e.key=p.1∧e.born=k∧Rep w X g p.2 e.val)
 | .ch cap buf=> ∃(vs:List Value) (s k:Nat),w.heap[b]? =some (.chan cap vs.toArray false s k false)∧vs.length=buf.length∧∀(k:Nat) (c:AV) (u:Value),buf[k]? =some c→vs[k]? =some u→Rep w X g c u
 | .it es seen=> ∃(mb:Nat) (ents:List MapEntry),w.heap[b]? =some (.mapIter (some mb) ents.length seen.toArray ents.length)∧w.heap[mb]? =some (.map ents.toArray ents.length)∧(∀o,¬X mb o)∧ents.length=es.length∧
    (∀(k:Nat) (p:Value×AV) (e:MapEntry),es[k]? =some p→ents[k]? =some e→e.key=p.1∧e.born=k∧Rep w X g p.2 e.val)
 | .lp st pd n t ps asg body=> ∃fn tmps d,w.heap[b]? =some (.loop ⟨st,pd,fn,tmps,ps,asg,body,d⟩)∧tmps.size=n∧∀k,Rep w X g (t k) (tmps.getD k undef)
 | .df=> w.heap[b]? =some (.deferred (some []))
 | .si s pos=> w.heap[b]? =some (.stringIter s pos)
 | .kn bl ob=> b=bl∧w.heap[b]? =some ob
 | .sb t bf=> ∃p v,w.heap[b]? =some (.cells #[p,v] t (0,0))∧(p= .pointer none∨p= .pointer (some ⟨b,0,none⟩))∧((bf=none∧v= .slice none 0 0)∨∃i n cap k,bf=some (i,n,cap)∧g[i.2]? =some k∧v= .slice (some ⟨k,0,none⟩) n cap)
 | .bt e l cap=> ∃vs,w.heap[b]? =some (.cells vs e (0,0))∧l.length≤cap∧cap≤maxLen∧vs.size=cap∧vs.toList.take l.length=l
theorem OwnRep.stays {w w':World} {X X':Nat→Nat→Prop} {g g':List Nat} (hs:Stays w X g w' X' g') {b:Nat} (hb:w'.heap[b]? =w.heap[b]?) {o:Own} (h:OwnRep w X g b o):OwnRep w' X' g' b o:=by
 cases o with
 | c cs=> obtain ⟨vs,e,h1,h2,h3⟩:=h;exact ⟨vs,e,hb.trans h1,h2,fun k c u hc hu=> (h3 k c u hc hu).stays hs⟩
 | mp es=> obtain ⟨ents,h1,h2,h3⟩:=h;exact ⟨ents,hb.trans h1,h2,fun k p e hp he=> ⟨(h3 k p e hp he).1,(h3 k p e hp he).2.1,(h3 k p e hp he).2.2.stays hs⟩⟩
 | ch cap buf=> obtain ⟨vs,s,k,h1,h2,h3⟩:=h;exact ⟨vs,s,k,hb.trans h1,h2,fun k c u hc hu=> (h3 k c u hc hu).stays hs⟩
 | it es seen=> obtain ⟨mb,ents,h1,h2,h3,h4,h5⟩:=h;exact ⟨mb,ents,hb.trans h1,(hs.obj _ _ h2 h3).1,(hs.obj _ _ h2 h3).2,h4,fun k p e hp he=> ⟨(h5 k p e hp he).1,(h5 k p e hp he).2.1,(h5 k p e hp he).2.2.stays hs⟩⟩
 | lp st pd n t ps asg body=> obtain ⟨fn,tmps,d,h1,h2,h3⟩:=h;exact ⟨fn,tmps,d,hb.trans h1,h2,fun k=> (h3 k).stays hs⟩
 | df=> exact hb.trans h
 | si s pos=> exact hb.trans h
 | kn bl ob=> exact ⟨h.1,hb.trans h.2⟩
 | sb t bf=>
   obtain ⟨p,v,h1,h2,h3⟩:=h;exact ⟨p,v,hb.trans h1,h2,h3.imp id fun ⟨i,n,cap,k,a1,a2,a3⟩=> ⟨i,n,cap,k,a1,hs.ids _ _ a2,a3⟩⟩
 | bt e l cap=> obtain ⟨vs,h1,h2⟩:=h;exact ⟨vs,hb.trans h1,h2⟩
def Kn (w:World) (X:Nat→Nat→Prop):Prop:=∀p∈JwD,(∃e fz,w.heap[p.1]? =some (.cells p.2 e fz))∧∀o,¬X p.1 o
theorem Kn.stays {w w':World} {X X':Nat→Nat→Prop} {g g':List Nat} (hs:Stays w X g w' X' g') (h:Kn w X):Kn w' X':=fun p hp=>
 let ⟨⟨e,fz,h1⟩,h2⟩:=h p hp
 ⟨⟨e,fz,(hs.obj _ _ h1 h2).1⟩,(hs.obj _ _ h1 h2).2⟩
structure HOk (w:World) (X:Nat→Nat→Prop) (g:List Nat) (h:Heap):Prop where
 bx:∀p∈h.bx,∃b,g[p.1.2]? =some b∧OwnRep w X g b p.2
 pm:∀p∈h.pm,∃b vs e,g[p.1.2]? =some b∧w.heap[b]? =some (.cells vs e (0,0))∧p.2≤vs.size
 nodup:(h.ids.map (fun i=> g[i]?)).Nodup
 nx:h.nx=g.length
 bd:∀(b o:Nat),X b o→b < w.heap.size
 kn:Kn w X
inductive RoomTo (w:World) (b:Nat) (vs:Array Value) (e:TypeId):Prop where
 | mk (vs':Array Value) {fz:Nat×Nat} (h:w.heap[b]? =some (.cells vs' e fz)) (hs:vs'.size=vs.size):RoomTo w b vs e
structure Evo (M:Nat→Nat→Prop) (w w':World):Prop where
 os:w'.os=w.os
 tape:w'.tape=w.tape
 output:w'.output=w.output
 size:w.heap.size≤w'.heap.size
 blk:∀(b:Nat),b < w.heap.size→(∀o,¬M b o)→w'.heap[b]? =w.heap[b]?
 cell:∀(b o:Nat),b < w.heap.size→¬M b o→w'.cell? ⟨b,o,none⟩=w.cell? ⟨b,o,none⟩
 room:∀(b:Nat) (vs:Array Value) (e:TypeId) (fz:Nat×Nat),w.heap[b]? =some (.cells vs e fz)→RoomTo w' b vs e
 lpk:∀(b:Nat) (l:Loop),w.heap[b]? =some (.loop l)→∃l',w'.heap[b]? =some (.loop l')
theorem Evo.refl (M:Nat→Nat→Prop) (w:World):Evo M w w:=⟨rfl,rfl,rfl,Nat.le_refl _,fun _ _ _=> rfl,fun _ _ _ _=> rfl,fun _ vs _ _ h=> ⟨vs,h,rfl⟩,fun _ l h=> ⟨l,h⟩⟩
theorem Evo.trans {M:Nat→Nat→Prop} {a b c:World} (h:Evo M a b) (k:Evo M b c):Evo M a c:=
 ⟨k.os.trans h.os,k.tape.trans h.tape,k.output.trans h.output,Nat.le_trans h.size k.size,
  fun x hx hm=> (k.blk x (Nat.lt_of_lt_of_le hx h.size) hm).trans (h.blk x hx hm),
  fun x o hx hm=> (k.cell x o (Nat.lt_of_lt_of_le hx h.size) hm).trans (h.cell x o hx hm),
  fun x vs e fz hx=> let ⟨vs',h1,h2⟩:=h.room x vs e fz hx;let ⟨vs'',h3,h4⟩:=k.room x vs' e _ h1;⟨vs'',h3,h4.trans h2⟩,
  fun x l hx=> let ⟨l',h1⟩:=h.lpk x l hx;k.lpk x l' h1⟩
theorem Evo.mono {M M':Nat→Nat→Prop} {w w':World} (h:Evo M w w') (hm:∀b o,b < w.heap.size→M b o→M' b o):Evo M' w w':=
 ⟨h.os,h.tape,h.output,h.size,fun b hb hn=> h.blk b hb (fun o hx=> hn o (hm b o hb hx)),fun b o hb hn=> h.cell b o hb (fun hx=> hn (hm b o hb hx)),h.room,h.lpk⟩
def none2:Nat→Nat→Prop:=fun _ _=> False
theorem Evo.below {w w':World} (h:Evo none2 w w'):Below w.heap.size w w':=⟨h.os,h.tape,h.output,h.size,fun k hk=> h.blk k hk (fun _ hx=> hx)⟩
theorem JnK {w:World} {b o:Nat} {u:Value} (h:w.cell? ⟨b,o,none⟩=some u):∃vs e fz,w.heap[b]? =some (.cells vs e fz)∧vs[o]? =some u:=by
 unfold World.cell? at h
 split at h
 ·rename_i vs e fz hb
  exact ⟨vs,e,fz,hb,by simpa using h⟩
 ·cases h
theorem Jz {w:World} {b o:Nat} {vs:Array Value} {e:TypeId} {fz:Nat×Nat} (h:w.heap[b]? =some (.cells vs e fz)):w.cell? ⟨b,o,none⟩=vs[o]? :=by
 simp [World.cell?,h]
theorem Jer {w:World} {b o:Nat} {vs:Array Value} {e:TypeId} {lo hi:Nat} (h:w.heap[b]? =some (.cells vs e (lo,hi))):w.frozen? ⟨b,o,none⟩=(decide (lo≤o)&& decide (o < hi)):=by
 simp [World.frozen?,h]
theorem Jl {w:World} {b:Nat} {o:Obj} (h:w.heap[b]? =some o):b < w.heap.size:=by
 rcases Nat.lt_or_ge b w.heap.size with h' | h'
 ·exact h'
 ·simp [Array.getElem?_eq_none h'] at h
theorem Evo.of_below {w w':World} (h:Below w.heap.size w w'):Evo none2 w w':=
 ⟨h.os,h.tape,h.output,h.size,fun b hb _=> h.block b hb,fun b o hb _=> World.cell?_of_block (a:=⟨b,o,none⟩) (h.block b hb),
  fun b vs _ _ hb=> ⟨vs,(h.block b (Jl hb)).trans hb,rfl⟩,fun b l hb=> ⟨l,(h.block b (Jl hb)).trans hb⟩⟩
theorem OwnRep.lt {w:World} {X:Nat→Nat→Prop} {g:List Nat} {b:Nat} {o:Own} (h:OwnRep w X g b o):b < w.heap.size:=by
 cases o with
 | c cs=> obtain ⟨vs,e,h1,_⟩:=h;exact Jl h1
 | mp es=> obtain ⟨ents,h1,_⟩:=h;exact Jl h1
 | ch cap buf=> obtain ⟨vs,s,k,h1,_⟩:=h;exact Jl h1
 | it es seen=> obtain ⟨mb,ents,h1,_⟩:=h;exact Jl h1
 | lp st pd n t ps asg body=> obtain ⟨fn,tmps,d,h1,_⟩:=h;exact Jl h1
 | df=> exact Jl h
 | si s pos=> exact Jl h
 | kn bl ob=> exact Jl h.2
 | sb t bf=> obtain ⟨p,v,h1,_⟩:=h;exact Jl h1
 | bt e l cap=> obtain ⟨vs,h1,_⟩:=h;exact Jl h1
theorem Evo.stays {M:Nat→Nat→Prop} {w w':World} (h:Evo M w w') {X X':Nat→Nat→Prop} {g g':List Nat} (hm:∀b o,b < w.heap.size→M b o→X b o)
 (hx:∀b o,b < w.heap.size→X' b o→X b o) (hg:∀(i b:Nat),g[i]? =some b→g'[i]? =some b):Stays w X g w' X' g':=by
 refine ⟨fun b o u hu hn=> ?_,fun b o u hu=> ?_,hg,fun b o hb hn=> ⟨(h.blk b (Jl hb) (fun k hk=> hn k (hm b k (Jl hb) hk))).trans hb,fun k hk=> hn k (hx b k (Jl hb) hk)⟩⟩
 ·have hb:b < w.heap.size:=World.block_lt_of_cell? w _ hu;exact ⟨(h.cell b o hb (fun m=> hn (hm b o hb m))).trans hu,fun x=> hn (hx b o hb x)⟩
 ·obtain ⟨vs,e,fz,hb,ho⟩:=JnK hu;obtain ⟨vs',hb',hs⟩:=h.room b vs e fz hb;have:o < vs'.size:=by rw [hs];exact (Array.getElem?_eq_some_iff.1 ho).1
  exact ⟨vs'[o],by rw [Jz hb'];simp [this]⟩
inductive DA where
 | col (i:Id)
 | fn (f:FuncId) (caps args:List AV)
inductive DRep (w:World) (X:Nat→Nat→Prop) (g:List Nat):DA→Deferred→Prop
 | col (i:Id) (b:Nat) (hg:g[i.2]? =some b):DRep w X g (.col i) ⟨.collected b, #[]⟩
 | fn (f:FuncId) (caps args:List AV) (v1 v2:List Value) (hn1:v1.length=caps.length) (hn2:v2.length=args.length)
    (h1:∀(k:Nat) (c:AV) (u:Value),caps[k]? =some c→v1[k]? =some u→Rep w X g c u)
    (h2:∀(k:Nat) (c:AV) (u:Value),args[k]? =some c→v2[k]? =some u→Rep w X g c u):DRep w X g (.fn f caps args) ⟨.fn (.func f) v1.toArray,v2.toArray⟩
inductive DReps (w:World) (X:Nat→Nat→Prop) (g:List Nat):List DA→List Deferred→Prop
 | nil:DReps w X g [] []
 | cons {d:DA} {e:Deferred} {ds:List DA} {es:List Deferred} (h:DRep w X g d e) (hs:DReps w X g ds es):DReps w X g (d::ds) (e::es)
def DOk (w:World) (X:Nat→Nat→Prop) (g:List Nat):Option (List DA)→List Deferred→Prop
 | none,ds=> ds= []
 | some l,ds=> DReps w X g l ds
theorem DRep.stays {w w':World} {X X':Nat→Nat→Prop} {g g':List Nat} (hs:Stays w X g w' X' g') {d:DA} {e:Deferred} (h:DRep w X g d e):DRep w' X' g' d e:=by
 cases h with
 | col i b hg=> exact .col i b (hs.ids _ _ hg)
 | fn f caps args v1 v2 hn1 hn2 h1 h2=> exact .fn f caps args v1 v2 hn1 hn2 (fun k c u hc hu=> (h1 k c u hc hu).stays hs) (fun k c u hc hu=> (h2 k c u hc hu).stays hs)
theorem DReps.stays {w w':World} {X X':Nat→Nat→Prop} {g g':List Nat} (hs:Stays w X g w' X' g') {d:List DA} {e:List Deferred} (h:DReps w X g d e):DReps w' X' g' d e:=by
 induction h with
 | nil=> exact .nil
 | cons h1 _ ih=> exact .cons (h1.stays hs) ih
theorem DOk.stays {w w':World} {X X':Nat→Nat→Prop} {g g':List Nat} (hs:Stays w X g w' X' g'):∀ {d:Option (List DA)} {e:List Deferred},DOk w X g d e→DOk w' X' g' d e
 | none,_,h=> h
 | some _,_,h=> DReps.stays hs h
theorem DOk.nil {w:World} {X:Nat→Nat→Prop} {g:List Nat} {d:List Deferred} (h:DOk w X g (some []) d):d= []:=by cases (h:DReps w X g [] d);rfl
structure Env where
 n:Nat
 t:Nat→AV
 h:Heap
 df:Option (List DA)
def ofC:Value→AV
 | .slice none 0 0=> .os 0 0 (fun _=> .any) none
 | .func f a b=> bif a.isEmpty&& b.isEmpty then .fn f [] [] else .v (.func f a b)
 | x=> .v x
def ofV:Value→AV
 | .agg cs=> .ag (cs.toList.map ofC)
 | x=> ofC x
theorem JfU {w:World} {X:Nat→Nat→Prop} {g:List Nat} (x:Value):Rep w X g (ofC x) x:=by
 unfold ofC
 split
 ·exact .os0 0 _ none
 ·rename_i f a b
  cases h:a.isEmpty&& b.isEmpty
  ·exact .v _
  ·simp only [Bool.and_eq_true,Array.isEmpty_iff] at h;obtain ⟨rfl,rfl⟩:=h;exact .fn f [] [] [] [] rfl rfl Si Si
 ·exact .v _
theorem JlN {w:World} {X:Nat→Nat→Prop} {g:List Nat} (x:Value):Rep w X g (ofV x) x:=by
 unfold ofV
 split
 ·rename_i cs
  have:=Rep.ag (w:=w) (X:=X) (g:=g) (cs.toList.map ofC) cs.toList Si (fun k c u h1 h2=> by
   rw [List.getElem?_map,h2] at h1;simp only [Option.map_some,Option.some.injEq] at h1;subst h1;exact JfU u)
  simpa using this
 ·exact JfU _
def Env.ev (E:Env):Operand→AV
 | .tmp k=> E.t k
 | .const x=> ofV x
 | .global g=> .v (.pointer (some ⟨g,0,none⟩))
 | .func f=> .fn (.func f) [] []
def Env.set (E:Env) (d:Option Nat) (r:AV):Env:=
 match d with
 | none=> E
 | some d=> ⟨E.n,fun k=> bif Nat.beq k d then (bif Nat.blt d E.n then r else E.t k) else E.t k,E.h,E.df⟩
structure St (r:Option Nat) (X M:Nat→Nat→Prop) (w0:World) (E:Env) (a:Act) (w:World) (g:List Nat):Prop where
 hok:HOk w (excl X g E.h) g E.h
 tm:∀k,Rep w (excl X g E.h) g (E.t k) (a.tmps.getD k undef)
 n:a.tmps.size=E.n
 evo:Evo M w0 w
 loc:∀(b o:Nat),excl none2 g E.h b o→b < w0.heap.size→M b o
 def_:DOk w (excl X g E.h) g E.df a.defers
 sep:∀(b o:Nat),X b o→∀i,i∈E.h.ids→g[i]? ≠some b
 top:(E.df.isSome=true→r=none)∧(E.df=none→r.isSome=true)
 rnd:∀l,r=some l→∃q,w0.heap[l]? =some (.loop q)
inductive AExit where
 | normal
 | exit (id:Nat)
 | goto (l:Nat)
 | ret
 | panic (x:AV)
def ExRel (w:World) (X:Nat→Nat→Prop) (g:List Nat):AExit→Exit→Prop
 | .normal,ex=> ex= .normal
 | .exit i,ex=> ex= .exit i
 | .goto l,ex=> ex= .goto l
 | .ret,ex=> ex= .ret
 | .panic x,ex=> ∃v,ex= .panic [{ v,recovered:=false}]∧Rep w X g x v
theorem ExRel.stays {w w':World} {X X':Nat→Nat→Prop} {g g':List Nat} (hs:Stays w X g w' X' g') {x:AExit} {e:Exit} (h:ExRel w X g x e):ExRel w' X' g' x e:=by
 cases x with
 | panic x=> obtain ⟨v,h1,h2⟩:=h;exact ⟨v,h1,h2.stays hs⟩
 | _=> exact h
def Jd9 (ro:Option Nat) (X M:Nat→Nat→Prop) (w0:World) (g0:List Nat) (Q:AExit→Env→Prop):Exit→Act→World→Prop:=
 fun ex a w=> ∃x E g,Q x E∧ExRel w (excl X g E.h) g x ex∧(∀(i b:Nat),g0[i]? =some b→g[i]? =some b)∧St ro X M w0 E a w g
def Fr (r:Option Nat):Fence:= { Fence.wide with round:=r}
def AW (P:Program) (c:Code) (E:Env) (Q:AExit→Env→Prop):Prop:=
 ∀ro X M w0 a w g g0,(∀(i b:Nat),g0[i]? =some b→g[i]? =some b)→St ro X M w0 E a w g→c.wpIn (Fr ro) 0 P (Jd9 ro X M w0 g0 Q) a w
theorem St.ev {ro:Option Nat} {X M:Nat→Nat→Prop} {w0:World} {E:Env} {a:Act} {w:World} {g:List Nat} (h:St ro X M w0 E a w g) (x:Operand):Rep w (excl X g E.h) g (E.ev x) (a.eval x):=by
 cases x with
 | tmp k=> exact h.tm k
 | const x=> exact JlN x
 | global g=> exact .v _
 | func f=> exact .fn (.func f) [] [] [] [] rfl rfl Si Si
section
variable {P:Program}
theorem AW.mono {c:Code} {E:Env} {Q Q':AExit→Env→Prop} (h:AW P c E Q) (hq:∀ex E,Q ex E→Q' ex E):AW P c E Q':=
 fun r X M w0 a w g g0 hg hs=> wpIn_mono (h r X M w0 a w g g0 hg hs) fun ex _ _ ⟨x,E',g',q,hx,hg',s⟩=> ⟨x,E',g',hq x E' q,hx,hg',s⟩
def ELe (E E':Env):Prop:=∀ro X M w0 a w g,St ro X M w0 E a w g→St ro X M w0 E' a w g
theorem ELe.refl (E:Env):ELe E E:=fun _ _ _ _ _ _ _ h=> h
theorem AW.le {c:Code} {E E':Env} {Q:AExit→Env→Prop} (hl:ELe E E') (h:AW P c E' Q):AW P c E Q:=
 fun r X M w0 a w g g0 hg hs=> h r X M w0 a w g g0 hg (hl r X M w0 a w g hs)
theorem Jry {E:Env} {Q:AExit→Env→Prop} (h:Q .normal E):AW P .skip E Q:=fun _ _ _ _ _ _ g _ hg hs=> wpIn_skip ⟨.normal,E,g,h,rfl,hg,hs⟩
theorem Jof {E:Env} {Q:AExit→Env→Prop} {l:Nat} (h:Q .normal E):AW P (.label l) E Q:=fun _ _ _ _ _ _ g _ hg hs=> wpIn_label ⟨.normal,E,g,h,rfl,hg,hs⟩
theorem Jrz {E:Env} {Q:AExit→Env→Prop} {i:Nat} (h:Q (.exit i) E):AW P (.exit i) E Q:=fun _ _ _ _ _ _ g _ hg hs=> wpIn_exit ⟨.exit i,E,g,h,rfl,hg,hs⟩
theorem JzO {E:Env} {Q:AExit→Env→Prop} (h:Q .ret E):AW P .ret E Q:=fun _ _ _ _ _ _ g _ hg hs=> wpIn_ret ⟨.ret,E,g,h,rfl,hg,hs⟩
def Jog (P:Program) (y:Code) (Q:AExit→Env→Prop):AExit→Env→Prop
 | .normal,E=> AW P y E Q
 | ex,E=> Q ex E
theorem Jut {x y:Code} {E:Env} {Q:AExit→Env→Prop} (h:AW P x E (Jog P y Q)):AW P (.seq x y) E Q:=
 fun r X M w0 a w g g0 hg hs=> wpIn_seq (wpIn_mono (h r X M w0 a w g g0 hg hs) fun ex a' w' hq=> by
  obtain ⟨ax,E',g',q,hx,hg',s⟩:=hq;cases ax with
  | normal=> cases (hx:ex= .normal);exact q r X M w0 a' w' g' g0 hg' s
  | exit i=> cases (hx:ex= .exit i);exact ⟨_,E',g',q,rfl,hg',s⟩
  | goto i=> cases (hx:ex= .goto i);exact ⟨_,E',g',q,rfl,hg',s⟩
  | ret=> cases (hx:ex= .ret);exact ⟨_,E',g',q,rfl,hg',s⟩
  | panic x=> obtain ⟨v,rfl,hr⟩:=hx;exact ⟨_,E',g',q,⟨v,rfl,hr⟩,hg',s⟩)
theorem JrA {c:Operand} {x y:Code} {E:Env} {Q:AExit→Env→Prop} {t:Bool} (hc:E.ev c= .v (.bool t)) (ht:t=true→AW P x E Q) (hf:t=false→AW P y E Q):
 AW P (.cond c x y) E Q:=by
 intro r X M w0 a w g g0 hg hs
 have hr:=hs.ev c
 rw [hc] at hr
 have:a.eval c= .bool t:=by
  generalize a.eval c=u at hr;cases hr;rfl
 exact wpIn_cond_split this (fun h=> ht h r X M w0 a w g g0 hg hs) (fun h=> hf h r X M w0 a w g g0 hg hs)
theorem JrB {c:Operand} {x y:Code} {E:Env} {Q:AExit→Env→Prop} (hc:E.ev c= .v (.bool true)) (h:AW P x E Q):AW P (.cond c x y) E Q:=
 JrA hc (fun _=> h) (fun h=> by cases h)
theorem Joh {c:Operand} {x y:Code} {E:Env} {Q:AExit→Env→Prop} (hc:E.ev c= .v (.bool false)) (h:AW P y E Q):AW P (.cond c x y) E Q:=
 JrA hc (fun h=> by cases h) (fun _=> h)
def Jf2 (i:Nat) (Q:AExit→Env→Prop):AExit→Env→Prop
 | .exit j,E=> bif Nat.beq j i then Q .normal E else Q (.exit j) E
 | ex,E=> Q ex E
theorem JwE {i:Nat} {c:Code} {E:Env} {Q:AExit→Env→Prop} (h:AW P c E (Jf2 i Q)):AW P (.block i c) E Q:=
 fun r X M w0 a w g g0 hg hs=> wpIn_block (wpIn_mono (h r X M w0 a w g g0 hg hs) fun ex a' w' hq=> by
  obtain ⟨ax,E',g',q,hx,hg',s⟩:=hq;cases ax with
  | exit j=>
    cases (hx:ex= .exit j);by_cases hj:j=i
    ·subst hj;simp only [Jf2,Nat.beq_refl,cond_true] at q;simp only [Exit.inBlock,if_true];exact ⟨.normal,E',g',q,rfl,hg',s⟩
    ·have:Nat.beq j i=false:=(by cases h:Nat.beq j i with | true=> exact absurd (Nat.eq_of_beq_eq_true h) hj | false=> rfl);simp only [Jf2,this,cond_false] at q;simp only [Exit.inBlock,if_neg hj];exact ⟨.exit j,E',g',q,rfl,hg',s⟩
  | normal=> cases (hx:ex= .normal);exact ⟨.normal,E',g',q,rfl,hg',s⟩
  | goto i=> cases (hx:ex= .goto i);exact ⟨_,E',g',q,rfl,hg',s⟩
  | ret=> cases (hx:ex= .ret);exact ⟨_,E',g',q,rfl,hg',s⟩
  | panic x=> obtain ⟨v,rfl,hr⟩:=hx;exact ⟨_,E',g',q,⟨v,rfl,hr⟩,hg',s⟩)
def Jhm {α:Type} (env:α→Env) (I:α→Prop) (m:α→Nat) (x:α) (E:Env):Prop:=∃x',I x'∧m x' < m x∧ELe E (env x')
def Jyt {α:Type} (env:α→Env) (I:α→Prop) (m:α→Nat) (x:α) (Q:AExit→Env→Prop):AExit→Env→Prop
 | .normal,E=> Jhm env I m x E
 | ex,E=> Q ex E
theorem Jm {α:Type} (env:α→Env) (I:α→Prop) (m:α→Nat) {c:Code} {E:Env} {Q:AExit→Env→Prop}
 (h0:∃x,I x∧ELe E (env x)) (hr:∀x,I x→AW P c (env x) (Jyt env I m x Q)):AW P (.loop c) E Q:=by
 intro ro X M w0 a w g g0 hg hs b k cs hro hfb hroom
 obtain ⟨x0,hI0,hle0⟩:=h0
 have key:∀n x a w g,m x=n→I x→(∀(i b:Nat),g0[i]? =some b→g[i]? =some b)→St ro X M w0 (env x) a w g→
  ∃e a' w',Jd9 ro X M w0 g0 Q e a' w'∧ArrivesIn (Machine.fenced P (Fr ro)) P (lone (b.atR a (.code c:: .inLoop c::k)) cs w) b k cs e a' w':=by
  intro n
  induction n using Nat.strongRecOn with
  | _ n ih=>
    intro x a w g hn hI hg hs;obtain ⟨e,a₁,w₁,hq,harr⟩:=hr x hI ro X M w0 a w g g0 hg hs b (.inLoop c::k) cs hro hfb hroom;obtain ⟨ax,E',g',q,hx,hg',s⟩:=hq;cases ax with
    | normal=>
      cases (hx:e= .normal);obtain ⟨x',hI',hlt,hle⟩:=q;obtain ⟨e₂,a₂,w₂,hq₂,harr₂⟩:=ih (m x') (hn ▸ hlt) x' a₁ w₁ g' rfl hI' hg' (hle _ _ _ _ _ _ _ s);exact ⟨e₂,a₂,w₂,hq₂, .of_steps (StepsIn.trans harr (.one (fenced_calm hfb hroom rfl) stepR_inLoop)) harr₂⟩
    | exit id=> cases (hx:e= .exit id);exact ⟨_,a₁,w₁,⟨_,E',g',q,rfl,hg',s⟩, .pass (x:= .inLoop c) rfl (fun _ _=> .inl Si) harr⟩
    | goto l=> cases (hx:e= .goto l);exact ⟨_,a₁,w₁,⟨_,E',g',q,rfl,hg',s⟩, .pass (x:= .inLoop c) rfl (fun _ _=> .inl Si) harr⟩
    | ret=> cases (hx:e= .ret);exact ⟨_,a₁,w₁,⟨_,E',g',q,rfl,hg',s⟩, .pass (x:= .inLoop c) rfl (fun _ _=> .inl Si) harr⟩
    | panic x=> obtain ⟨v,rfl,hr⟩:=hx;exact ⟨_,a₁,w₁,⟨_,E',g',q,⟨v,rfl,hr⟩,hg',s⟩, .pass (x:= .inLoop c) rfl (fun _ _=> .inl Si) harr⟩
 obtain ⟨e,a',w',hq,harr⟩:=key _ x0 a w g rfl hI0 hg (hle0 _ _ _ _ _ _ _ hs)
 exact ⟨e,a',w',hq, .of_steps (.one (fenced_calm hfb hroom rfl) stepR_loop) harr⟩
end
attribute [irreducible] AW Jhm
end Go.Vl

/- Regions of operations, told by values: in the text's order, and in whatever order the edges allow. -/
namespace Go.Vl
open Go.RowKit
variable {P:Program}
def Yields (P:Program) (o:Oper) (E:Env) (r:AV):Prop:=
 (∀c,o.op≠ .defer c)∧∀(ρ:Operand→Value) (w:World) (X:Nat→Nat→Prop) (g:List Nat),HOk w (excl X g E.h) g E.h→
   (∀x∈o.op.operands,Rep w (excl X g E.h) g (E.ev x) (ρ x))→
   (∃u w',(execOp ρ o).run P w= .ok (.value u) w'∧Evo none2 w w'∧Rep w' (excl X g E.h) g r u)∨
   (∃f vs w1,(execOp ρ o).run P w= .ok (.enter f vs) w1∧Evo none2 w w1∧
     Calls P f vs w1 fun e w'=> ∃u,e= .returned u∧Evo none2 w1 w'∧Rep w' (excl X g E.h) g r u)
def AOp (P:Program) (o:Oper) (E:Env) (K:Env→Prop) (Kp:AV→Env→Prop:=fun _ _=> False):Prop:=
 ∀ro X M w0 a w g,St ro X M w0 E a w g→
  ∀(next:Act→World→Prop) (Q:Exit→Act→World→Prop),(∀E' a' w' g',K E'→(∀(i b:Nat),g[i]? =some b→g'[i]? =some b)→St ro X M w0 E' a' w' g'→next a' w')→
   (∀x E' a' w' g' v,Kp x E'→(∀(i b:Nat),g[i]? =some b→g'[i]? =some b)→St ro X M w0 E' a' w' g'→Rep w' (excl X g' E'.h) g' x v→Q (.panic [{ v,recovered:=false}]) a' w')→
   o.wpIn (Fr ro) 0 P a w next Q
theorem JlO {r:Option Nat} {n:Nat} {f:FuncId} {args:Array Value} {w:World} {R:Ending→World→Prop}:CallsIn (Fr r) n P f args w R↔Calls P f args w R:=
 callsIn_wide (n:=n)
theorem Jx {r:Option Nat} {o:Oper} {a:Act} {w:World} {next:Act→World→Prop} {Q:Exit→Act→World→Prop} (hd:∀c,o.op≠ .defer c) (h:o.uponIn (Fr r) 0 P a next Q ((execOp a.eval o).run P w)):
 o.wpIn (Fr r) 0 P a w next Q:=⟨fun _ _=> trivial,by rw [Oper.semAt_eq _ _ _ hd];exact h⟩
theorem Jkr {r:Option Nat} {o:Oper} {a:Act} {w:World} {next:Act→World→Prop} {Q:Exit→Act→World→Prop} {f:FuncId} {vs:Array Value}
 (h:Calls P f vs w fun e w'=> match e with | .returned v=> next (a.put o.dst v) w' | .panicked chain=> Q (.panic chain) a w' | .outgrown=> LetsOut Q):o.uponIn (Fr r) 0 P a next Q (.ok (.enter f vs) w):=
 ⟨fun h0=> (by cases h0),JlO.2 (Calls.mono h fun e _ q=> by cases e <;> exact q)⟩
theorem Jas {X:Nat→Nat→Prop} {g:List Nat} {h:Heap} {b o:Nat} (hx:excl none2 g h b o):excl X g h b o:=by
 rcases hx with h | h | h
 ·exact h.elim
 ·exact .inr (.inl h)
 ·exact .inr (.inr h)
theorem HOk.evo0 {w w':World} {X:Nat→Nat→Prop} {g:List Nat} {h:Heap} (hk:HOk w (excl X g h) g h) (he:Evo none2 w w'):HOk w' (excl X g h) g h:=by
 have hs:Stays w (excl X g h) g w' (excl X g h) g:=he.stays (fun _ _ _ x=> x.elim) (fun _ _ _ x=> x) (fun _ _ x=> x)
 refine ⟨fun p hp=> ?_,fun p hp=> ?_,hk.nodup,hk.nx,fun b o hx=> Nat.lt_of_lt_of_le (hk.bd b o hx) he.size,hk.kn.stays hs⟩
 ·obtain ⟨b,h1,h2⟩:=hk.bx p hp;exact ⟨b,h1,h2.stays hs (he.blk b (OwnRep.lt h2) (fun _ x=> x))⟩
 ·obtain ⟨b,vs,e,h1,h2,h3⟩:=hk.pm p hp;exact ⟨b,vs,e,h1,(he.blk b (Jl h2) (fun _ x=> x)).trans h2,h3⟩
theorem St.evo0 {ro:Option Nat} {X M:Nat→Nat→Prop} {w0:World} {E:Env} {a:Act} {w w':World} {g:List Nat} (h:St ro X M w0 E a w g) (he:Evo none2 w w'):St ro X M w0 E a w' g:=
 ⟨h.hok.evo0 he,fun k=> (h.tm k).stays (he.stays (fun _ _ _ x=> x.elim) (fun _ _ _ x=> x) (fun _ _ x=> x)),h.n,h.evo.trans (he.mono fun _ _ _ x=> x.elim),h.loc,h.def_.stays (he.stays (fun _ _ _ x=> x.elim) (fun _ _ _ x=> x) (fun _ _ x=> x)),h.sep,h.top,h.rnd⟩
theorem JwF {a:Array Value} {d k:Nat} {u:Value}:(a.setIfInBounds d u).getD k undef=if k=d∧d < a.size then u else a.getD k undef:=by
 simp only [Array.getD_eq_getD_getElem?,Array.getElem?_setIfInBounds]
 by_cases h:d=k
 ·subst h;by_cases hs:d < a.size
  ·simp [hs]
  ·simp [hs,Array.getElem?_eq_none (Nat.le_of_not_lt hs)]
 ·have h':¬k=d:=fun e=> h e.symm;simp [h,h']
theorem Env.set_t {E:Env} {d:Nat} {r:AV} {k:Nat}:(E.set (some d) r).t k=if k=d∧d < E.n then r else E.t k:=by
 unfold Env.set
 dsimp only
 by_cases hk:k=d
 ·subst hk;simp only [Nat.beq_refl,cond_true,true_and];by_cases h:k < E.n
  ·have hb:Nat.blt k E.n=true:=by simpa [Nat.blt_eq] using h
   simp [hb,h]
  ·have hb:Nat.blt k E.n=false:=by cases h':Nat.blt k E.n with | true=> exact absurd (by simpa [Nat.blt_eq] using h') h | false=> rfl
   simp [hb,h]
 ·have:Nat.beq k d=false:=by cases h':Nat.beq k d with | true=> exact absurd (Nat.eq_of_beq_eq_true h') hk | false=> rfl
  simp [hk,this]
theorem Env.set_h {E:Env} {d:Option Nat} {r:AV}:(E.set d r).h=E.h:=by cases d <;> rfl
theorem Env.set_df {E:Env} {d:Option Nat} {r:AV}:(E.set d r).df=E.df:=by cases d <;> rfl
theorem Env.set_n {E:Env} {d:Option Nat} {r:AV}:(E.set d r).n=E.n:=by cases d <;> rfl
theorem St.put {ro:Option Nat} {X M:Nat→Nat→Prop} {w0:World} {E:Env} {a:Act} {w:World} {g:List Nat} (h:St ro X M w0 E a w g) (d:Option Nat) {r:AV} {u:Value}
 (hr:Rep w (excl X g E.h) g r u):St ro X M w0 (E.set d r) (a.put d u) w g:=by
 cases d with
 | none=> exact h
 | some d=>
   refine ⟨by rw [Env.set_h];exact h.hok,fun k=> ?_, ?_,h.evo,by rw [Env.set_h];exact h.loc,by rw [Env.set_h,Env.set_df];exact h.def_,by rw [Env.set_h];exact h.sep,by rw [Env.set_df];exact h.top,h.rnd⟩
   ·rw [Env.set_h,Env.set_t];simp only [Act.put];rw [JwF,h.n];split
    ·exact hr
    ·exact h.tm k
   ·rw [Env.set_n,← h.n];simp [Act.put]
theorem Yields.wp {o:Oper} {E:Env} {r:AV} (hy:Yields P o E r) {ro:Option Nat} {X M:Nat→Nat→Prop} {w0:World} {a:Act} {w:World} {g:List Nat} (hs:St ro X M w0 E a w g)
 {next:Act→World→Prop} {Q:Exit→Act→World→Prop} (hn:∀a' w',St ro X M w0 (E.set o.dst r) a' w' g→next a' w'):o.wpIn (Fr ro) 0 P a w next Q:=by
 refine Jx hy.1 ?_
 rcases hy.2 a.eval w X g hs.hok (fun x _=> hs.ev x) with ⟨u,w',hrun,he,hr⟩ | ⟨f,vs,w1,hrun,he,hc⟩
 ·rw [hrun];exact hn _ _ ((hs.evo0 he).put o.dst hr)
 ·rw [hrun];refine Jkr (Calls.mono hc fun e w' ⟨u,h1,h2,h3⟩=> ?_);subst h1;exact hn _ _ (((hs.evo0 he).evo0 h2).put o.dst h3)
def agd (ops:Array Oper) (E:Env) (j:Nat):AV:=
 match (ops[j]?).bind (·.dst) with
 | some d=> E.t d
 | none=> .any
def agb:AV→Option (Option Bool)
 | .v (.bool c)=> some (some c)
 | .v (.tuple _)=> some none
 | _=> none
theorem JjV {ops:Array Oper} {E:Env} {j:Nat} {c:Option Bool} (h:agb (agd ops E j)=some c) {ro:Option Nat} {X M:Nat→Nat→Prop} {w0:World} {a:Act} {w:World} {g:List Nat} (hs:St ro X M w0 E a w g):
 yielded ops a.tmps j=c:=by
 unfold agd at h
 unfold yielded
 cases hd:(ops[j]?).bind (·.dst) with
 | none=> simp [hd,agb] at h
 | some d=>
   simp only [hd] at h;have h1:=hs.tm d;generalize he:E.t d=e at h h1;rw [Array.getD_eq_getD_getElem?] at h1;unfold agb at h;split at h
   ·rename_i b
    cases h;have h2:(a.tmps[d]?).getD undef= .bool b:=by
     generalize (a.tmps[d]?).getD undef=u at h1;cases h1;rfl
    cases h3:a.tmps[d]? with
    | none=> simp [h3,undef] at h2
    | some u=> simp only [h3,Option.getD_some] at h2;simp [h3,h2]
   ·rename_i b
    cases h;have h2:(a.tmps[d]?).getD undef= .tuple b:=by
     generalize (a.tmps[d]?).getD undef=u at h1;cases h1;rfl
    cases h3:a.tmps[d]? with
    | none=> simp [h3]
    | some u=> simp only [h3,Option.getD_some] at h2;simp [h3,h2]
   ·cases h
def GY (P:Program) (ops:Array Oper) (o:Oper) (E:Env) (r:AV):Prop:=
 match o.guard with
 | none=> Yields P o E r
 | some (j,want)=> ∃c,agb (agd ops E j)=some c∧((c=some want∧Yields P o E r)∨(c≠some want∧r= .v undef))
theorem GY.does {ops:Array Oper} {o:Oper} {E:Env} {r:AV} {i:Nat} (hi:ops[i]? =some o) (hy:GY P ops o E r) {ro:Option Nat} {X M:Nat→Nat→Prop} {w0:World} {a:Act} {w:World} {g:List Nat} (hs:St ro X M w0 E a w g)
 {next:Act→World→Prop} {Q:Exit→Act→World→Prop} (hn:∀a' w',St ro X M w0 (E.set o.dst r) a' w' g→next a' w'):wpOpIn (Fr ro) 0 P ops Q i next a w:=by
 unfold wpOpIn GY at *
 simp only [hi]
 cases hg:o.guard with
 | none=>
   simp only [hg] at hy;simp only [Region.wanted,hg,if_true];exact hy.wp hs hn
 | some p=>
   obtain ⟨j,want⟩:=p;simp only [hg] at hy;obtain ⟨c,hc,hy⟩:=hy;have hyl:=JjV hc hs;simp only [Region.wanted,hg,hyl];rcases hy with ⟨h1,h2⟩ | ⟨h1,h2⟩
   ·subst h1;simp only [BEq.rfl,if_true];exact h2.wp hs hn
   ·subst h2;have:(c ==some want)=false:=(by simpa using h1);simp only [this];exact ⟨fun _ _=> trivial,hn _ _ (hs.put o.dst (.v _))⟩
theorem Jes {ops:Array Oper} {o:Oper} {t:Nat} (h:Operand.tmp t∈o.op.operands):t∈o.looksAt ops:=by
 unfold Oper.looksAt
 refine List.mem_append_left _ ?_
 exact List.mem_filterMap.2 ⟨.tmp t,Array.mem_toList_iff.2 h,rfl⟩
theorem Jfe {ops:Array Oper} {o:Oper} {j d:Nat} {want:Bool} (hg:o.guard=some (j,want)) (hd:(ops[j]?).bind (·.dst)=some d):d∈o.looksAt ops:=by
 unfold Oper.looksAt
 refine List.mem_append_right _ ?_
 simp [hg,hd]
theorem Yields.congr {ops:Array Oper} {o:Oper} {E E':Env} {r:AV} (hh:E'.h=E.h) (ht:∀k,k∈o.looksAt ops→E'.t k=E.t k) (h:Yields P o E r):Yields P o E' r:=by
 refine ⟨h.1, ?_⟩
 intro ρ w X g hk hx
 rw [hh] at hk hx⊢
 refine h.2 ρ w X g hk fun x hm=> ?_
 have:=hx x hm
 cases x with
 | tmp k=> simp only [Env.ev] at this⊢;rw [ht k (Jes hm)] at this;exact this
 | const c=> exact this
 | global c=> exact this
 | func c=> exact this
theorem GY.congr {ops:Array Oper} {o:Oper} {E E':Env} {r:AV} (hh:E'.h=E.h) (ht:∀k,k∈o.looksAt ops→E'.t k=E.t k) (h:GY P ops o E r):GY P ops o E' r:=by
 unfold GY at *
 cases hg:o.guard with
 | none=> simp only [hg] at h⊢;exact h.congr hh ht
 | some p=>
   obtain ⟨j,want⟩:=p;simp only [hg] at h⊢;obtain ⟨c,hc,h⟩:=h;refine ⟨c, ?_,h.imp (fun ⟨h1,h2⟩=> ⟨h1,h2.congr hh ht⟩) id⟩;unfold agd at *
   cases hd:(ops[j]?).bind (·.dst) with
   | none=> simp [hd,agb] at hc
   | some d=> simp only [hd] at hc⊢;rw [ht d (Jfe hg hd)];exact hc
theorem Env.set_other {E:Env} {d:Option Nat} {r:AV} {k:Nat} (h:d≠some k):(E.set d r).t k=E.t k:=by
 cases d with
 | none=> rfl
 | some d=>
   rw [Env.set_t,if_neg];intro hh;exact h (by rw [hh.1])
theorem Env.ext' {E E':Env} (hn:E.n=E'.n) (hh:E.h=E'.h) (hd:E.df=E'.df) (ht:∀k,E.t k=E'.t k):E=E':=by
 cases E;cases E'
 simp only at hn hh hd ht
 subst hn;subst hh;subst hd
 have:=funext ht
 subst this
 rfl
theorem Env.set_comm {E:Env} {d d':Option Nat} {r r':AV} (h:∀k,d=some k→d'≠some k):(E.set d r).set d' r'=(E.set d' r').set d r:=by
 cases d with
 | none=> rfl
 | some d=>
   cases d' with
   | none=> rfl
   | some d'=>
     have hne:d≠d':=fun e=> h d rfl (by rw [e]);refine Env.ext' (by simp [Env.set_n]) (by simp [Env.set_h]) (by simp [Env.set_df]) fun k=> ?_;simp only [Env.set_t,Env.set_n];by_cases h1:k=d'∧d' < E.n
     ·have h2:¬(k=d∧d < E.n):=fun h2=> hne (h2.1.symm.trans h1.1);simp [h1,h2];intro hc;first | exact absurd hc hne | exact absurd hc.symm hne
     ·simp [h1]
def RunL (P:Program) (ops:Array Oper):List Nat→Env→Env→Prop
 | [],E,E'=> E'=E
 | i::l,E,E'=> ∃o r,ops[i]? =some o∧GY P ops o E r∧RunL P ops l (E.set o.dst r) E'
theorem RunL.front {ops:Array Oper} {j:Nat} {oj:Oper} (hj:ops[j]? =some oj):∀(l1 l2:List Nat) (E E':Env),
 (∀i∈l1,∀oi,ops[i]? =some oi→oi.apart ops oj=true)→RunL P ops (l1++j::l2) E E'→
 ∃r,GY P ops oj E r∧RunL P ops (l1++l2) (E.set oj.dst r) E'
 | [],l2,E,E',_,h=> by
   obtain ⟨o,r,h1,h2,h3⟩:=h;rw [hj] at h1;cases h1;exact ⟨r,h2,h3⟩
 | i::l1,l2,E,E',hap,h=> by
   obtain ⟨oi,ri,h1,h2,h3⟩:=h;obtain ⟨rj,h4,h5⟩:=RunL.front hj l1 l2 (E.set oi.dst ri) E' (fun i' hi'=> hap i' (List.mem_cons_of_mem _ hi')) h3;obtain ⟨a1,a2,a3⟩:=Oper.apart_spec (hap i Si oi h1);refine ⟨rj,h4.congr (by rw [Env.set_h]) (fun k hk=> (Env.set_other (fun e=> a1 k e hk)).symm),oi,ri,h1, ?_, ?_⟩
   ·exact h2.congr (by rw [Env.set_h]) (fun k hk=> Env.set_other (fun e=> a3 k e hk))
   ·rw [Env.set_comm (fun k hk=> fun e=> a2 k e hk)];exact h5
end Go.Vl

/- A region that draws its order: first the operations that only yield, in whatever order; then those whose order is forced. -/
namespace Go.Vl
open Go.RowKit
variable {P:Program}
def DC (ops:Array Oper) (listed:Array Bool):Prop:=
 ∀(k:Nat) (o:Oper),ops[k]? =some o→listed.getD k true=true→∀e∈o.after,Region.binds .any e=true→listed.getD e.on false=true
theorem Jmw (md:Region.Mode) (acc:Array Nat) (i:Nat):∀(l:List Edge) (s:Nat),
 (l.foldl (fun s e=> if Region.binds md e then s||| 2 ^ e.on||| acc.getD e.on 0 else s) s).testBit i=true→
 s.testBit i=true∨∃e∈l,Region.binds md e=true∧(i=e.on∨(acc.getD e.on 0).testBit i=true)
 | [],s,h=> .inl h
 | e::l,s,h=> by
   rw [List.foldl_cons] at h;rcases Jmw md acc i l _ h with h | ⟨e',he',hb,h'⟩
   ·by_cases hb:Region.binds md e=true
    ·rw [if_pos hb] at h;simp only [Nat.testBit_or,Bool.or_eq_true] at h;rcases h with (h | h) | h
     ·exact .inl h
     ·refine .inr ⟨e,by simp,hb, .inl ?_⟩;rw [Nat.testBit_two_pow] at h;simpa using (of_decide_eq_true h).symm
     ·exact .inr ⟨e,by simp,hb, .inr h⟩
    ·rw [if_neg hb] at h;exact .inl h
   ·exact .inr ⟨e',List.mem_cons_of_mem _ he',hb,h'⟩
theorem Jmx (D:Nat→Nat→Prop):∀(l:List Oper) (acc:Array Nat),
 (∀k i,(acc.getD k 0).testBit i=true→D k i)→
 (∀(t:Nat) (o:Oper),l[t]? =some o→∀i,(∃e∈o.after.toList,Region.binds .any e=true∧(i=e.on∨D e.on i))→D (acc.size+t) i)→
 ∀k i,((l.foldl (fun acc o=> acc.push (o.after.foldl (fun s e=> if Region.binds .any e then s||| 2 ^ e.on||| acc.getD e.on 0 else s) 0)) acc).getD k 0).testBit i=true→D k i
 | [],acc,h1,_=> h1
 | o::l,acc,h1,h2=> by
   rw [List.foldl_cons];refine Jmx D l _ ?_ ?_
   ·intro k i hk;rw [Array.getD_eq_getD_getElem?,Array.getElem?_push] at hk;split at hk
    ·rename_i he
     subst he;simp only [Option.getD_some] at hk;rw [← Array.foldl_toList] at hk;rcases Jmw .any acc i _ _ hk with h | ⟨e,he,hb,h⟩
     ·simp at h
     ·have:=h2 0 o Si i ⟨e,he,hb,h.imp id (fun h=> h1 _ _ h)⟩;simpa using this
    ·rw [← Array.getD_eq_getD_getElem?] at hk;exact h1 k i hk
   ·intro t o' ho' i hi;have:=h2 (t+1) o' (by simpa using ho') i hi;simpa [Nat.add_assoc,Nat.add_comm 1 t] using this
theorem Jbd {ops:Array Oper} {listed:Array Bool} (hd:DC ops listed) (hsz:listed.size=ops.size) {j i:Nat} {o:Oper} (hj:ops[j]? =some o)
 (ha:∀e∈o.after,Region.binds .any e=true→listed.getD e.on false=true) (hb:((Region.before ops).getD j 0).testBit i=true):listed.getD i false=true:=by
 have key:=Jmx (fun k i=> ∀o,ops[k]? =some o→(∀e∈o.after,Region.binds .any e=true→listed.getD e.on false=true)→listed.getD i false=true)
  ops.toList #[] Si ?_ j i (by unfold Region.before at hb;rw [← Array.foldl_toList] at hb;exact hb) o hj ha
 ·exact key
 ·intro t o ho i ⟨e,he,hbi,h⟩ o' ho' ha';simp only [List.size_toArray,List.length_nil,Nat.zero_add] at ho';have:o'=o:=by rw [Array.getElem?_toList] at ho;rw [ho] at ho';exact (Option.some.inj ho').symm
  subst this;have h1:=ha' e (Array.mem_toList_iff.1 he) hbi;rcases h with h | h
  ·rw [h];exact h1
  ·have hlt:e.on < listed.size:=by
    rcases Nat.lt_or_ge e.on listed.size with h' | h'
    ·exact h'
    ·simp [Array.getD_eq_getD_getElem?,Array.getElem?_eq_none h'] at h1
   have ho2:ops[e.on]? =some ops[e.on]:=Array.getElem?_eq_getElem Om;refine h ops[e.on] ho2 fun e' he' hb'=> hd e.on _ ho2 ?_ e' he' hb';rw [Array.getD_eq_getD_getElem?,Array.getElem?_eq_getElem hlt] at h1⊢;simpa using h1
def Jb1 (ops:Array Oper) (m:Nat):Bool:=
 let bf:=Region.before ops
 let l:=ops.toList.zipIdx
 l.all fun (oj,j)=> (oj.after.toList.all fun e=> !Region.binds .any e|| Nat.blt e.on j)&&
  bif Nat.blt j m then l.all fun (oi,i)=> !Nat.blt i j|| (bf.getD j 0).testBit i|| oi.apart ops oj
  else (List.range j).all fun i=> (bf.getD j 0).testBit i
structure OrdOk (ops:Array Oper) (m:Nat):Prop where
 back:∀(j:Nat) (o:Oper),ops[j]? =some o→∀e∈o.after,Region.binds .any e=true→e.on < j
 pair:∀(i j:Nat) (oi oj:Oper),ops[i]? =some oi→ops[j]? =some oj→i < j→j < m→((Region.before ops).getD j 0).testBit i=true∨oi.apart ops oj=true
 tail:∀(i j:Nat) (oj:Oper),ops[j]? =some oj→m≤j→i < j→((Region.before ops).getD j 0).testBit i=true
theorem JbF {a b:Nat} (h:Nat.blt a b=true):a < b:=by simpa [Nat.blt_eq] using h
theorem JiZ {a b:Nat}:Nat.blt a b=true↔a < b:=by simp [Nat.blt_eq]
theorem Jn4 {ops:Array Oper} {m:Nat} (h:Jb1 ops m=true):OrdOk ops m:=by
 have get:∀(j:Nat) (o:Oper),ops[j]? =some o→(o,j)∈ops.toList.zipIdx:=fun j o hj=> by
  rw [List.mk_mem_zipIdx_iff_getElem?,Array.getElem?_toList];exact hj
 simp only [Jb1,List.all_eq_true] at h
 refine ⟨fun j o hj e he hb=> ?_,fun i j oi oj hi hj hij hjm=> ?_,fun i j oj hj hm hij=> ?_⟩
 ·have:=h _ (get j o hj);simp only [Bool.and_eq_true,List.all_eq_true] at this;have:=this.1 e (Array.mem_toList_iff.2 he);simp only [hb,Bool.not_true,Bool.false_or] at this;exact JbF this
 ·have:=h _ (get j oj hj);simp only [Bool.and_eq_true,JiZ.2 hjm,cond_true,List.all_eq_true] at this;have:=this.2 _ (get i oi hi);simp only [JiZ.2 hij,Bool.not_true,Bool.false_or,Bool.or_eq_true] at this;exact this
 ·have:=h _ (get j oj hj);have hn:Nat.blt j m=false:=by cases h':Nat.blt j m with | true=> exact absurd (JbF h') Om | false=> rfl
  simp only [Bool.and_eq_true,hn,cond_false,List.all_eq_true,List.mem_range] at this;exact this.2 i hij
theorem Jaw {ops:Array Oper} {listed:Array Bool} {j:Nat}:j∈Region.ready .any ops listed↔
 listed.getD j true=false∧∃o,ops[j]? =some o∧∀e∈o.after,Region.binds .any e=true→listed.getD e.on false=true:=by
 unfold Region.ready
 simp only [List.mem_filter,List.mem_range,Bool.and_eq_true,Bool.not_eq_true']
 constructor
 ·rintro ⟨hlt,h1,h2⟩;refine ⟨h1,ops[j],Array.getElem?_eq_getElem hlt,fun e he hb=> ?_⟩;rw [Array.getElem?_eq_getElem hlt] at h2;simp only [Option.map_some,Option.getD_some] at h2;have:=Array.all_eq_true_iff_forall_mem.1 h2 e he;simpa [hb] using this
 ·rintro ⟨h1,o,ho,h2⟩;refine ⟨(Array.getElem?_eq_some_iff.1 ho).1,h1, ?_⟩;rw [ho];simp only [Option.map_some,Option.getD_some];refine Array.all_eq_true_iff_forall_mem.2 fun e he=> ?_;by_cases hb:Region.binds .any e=true
  ·simp [h2 e he hb]
  ·simp [hb]
theorem JdB {listed:Array Bool} {i k:Nat} {d:Bool} (hi:i < listed.size):(listed.setIfInBounds i true).getD k d=if k=i then true else listed.getD k d:=by
 simp only [Array.getD_eq_getD_getElem?,Array.getElem?_setIfInBounds]
 by_cases h:i=k
 ·subst h;simp [hi]
 ·have h':¬k=i:=fun e=> h e.symm;simp [h,h']
theorem Jaz {listed:Array Bool} {k:Nat} {b:Bool} (hk:k < listed.size):listed.getD k b=listed.getD k (!b):=by
 simp [Array.getD_eq_getD_getElem?,Array.getElem?_eq_getElem hk]
section
variable {ops:Array Oper} {m:Nat} {Q:Exit→Act→World→Prop}
theorem DC.set {listed:Array Bool} (hd:DC ops listed) (hsz:listed.size=ops.size) (hk:OrdOk ops m) {j:Nat} (hj:j∈Region.ready .any ops listed):DC ops (listed.setIfInBounds j true):=by
 obtain ⟨h1,o,ho,h2⟩:=Jaw.1 hj
 have hjlt:j < listed.size:=by rw [hsz];exact (Array.getElem?_eq_some_iff.1 ho).1
 intro k o' ho' hl e he hb
 rw [JdB hjlt] at hl⊢
 by_cases hkj:k=j
 ·subst hkj;rw [ho] at ho';cases ho';split
  ·rfl
  ·exact h2 e he hb
 ·rw [if_neg hkj] at hl;split
  ·rfl
  ·exact hd k o' ho' hl e he hb
theorem Jhn {ro:Option Nat} (hk:OrdOk ops m):∀(n k:Nat) (listed:Array Bool) (a:Act) (w:World),k+n=ops.size→m≤k→listed.size=ops.size→DC ops listed→
 (∀i,i < ops.size→(listed.getD i true=false↔k≤i))→wpOpsIn (Fr ro) 0 P ops Q (List.range' k n) a w→wpAnyIn (Fr ro) 0 P .any ops Q n listed a w
 | 0,k,listed,a,w,hkn,hm,hsz,hd,hun,h=> by
   refine ⟨?_,h⟩;refine List.eq_nil_iff_forall_not_mem.2 fun j hj=> ?_;obtain ⟨h1,o,ho,_⟩:=Jaw.1 hj;have hlt:=(Array.getElem?_eq_some_iff.1 ho).1;have:=(hun j hlt).1 h1;omega
 | n+1,k,listed,a,w,hkn,hm,hsz,hd,hun,h=> by
   have hklt:k < ops.size:=by omega
   have hko:ops[k]? =some ops[k]:=Array.getElem?_eq_getElem hklt;have hkr:k∈Region.ready .any ops listed:=by
    refine Jaw.2 ⟨(hun k hklt).2 (Nat.le_refl _),_,hko,fun e he hb=> ?_⟩;have hlt:=hk.back k _ hko e he hb;rw [Jaz Om];cases hl:listed.getD e.on true with
    | true=> simpa using hl
    | false=> exact absurd ((hun e.on Om).1 hl) Om
   refine ⟨fun h0=> (by rw [h0] at hkr;cases hkr),fun j hj=> ?_⟩;have hjk:j=k:=by
    obtain ⟨h1,o,ho,h2⟩:=Jaw.1 hj;have hlt:=(Array.getElem?_eq_some_iff.1 ho).1;have hge:=(hun j hlt).1 h1;rcases Nat.lt_or_ge k j with hlt' | hle
    ·have hb:=hk.tail k j o ho Om hlt';have:=Jbd hd hsz ho h2 hb;have h3:=(hun k hklt).2 (Nat.le_refl _);rw [Jaz Om] at this;simp [h3] at this
    ·omega
   subst hjk;rw [List.range'_succ,wpOpsIn_cons] at h;refine wpOpIn_mono (fun a' w' h'=> Jhn hk n (j+1) _ a' w' Om Om (by simp [hsz]) (hd.set hsz hk hkr) (fun i hi=> ?_) h') h;rw [JdB Om];by_cases hij:i=j
   ·subst hij;simp
   ·rw [if_neg hij,hun i hi];omega
theorem JwG (hk:OrdOk ops m) (hm:m≤ops.size) {ro:Option Nat} {X M:Nat→Nat→Prop} {w0:World} {g:List Nat}:
 ∀(n:Nat) (L:List Nat) (listed:Array Bool) (E E':Env) (a:Act) (w:World),L.length=n→(∀i∈L,i < m)→L.Pairwise (· < ·)→listed.size=ops.size→DC ops listed→
 (∀i,i < ops.size→(listed.getD i true=false↔i∈L∨m≤i))→RunL P ops L E E'→St ro X M w0 E a w g→
 (∀a w,St ro X M w0 E' a w g→wpOpsIn (Fr ro) 0 P ops Q (List.range' m (ops.size - m)) a w)→wpAnyIn (Fr ro) 0 P .any ops Q (n+(ops.size - m)) listed a w:=by
 intro n
 induction n with
 | zero=>
   intro L listed E E' a w hl _ _ hsz hd hun hrun hs hq;have:L= []:=List.eq_nil_of_length_eq_zero hl;subst this;simp only [RunL] at hrun;subst hrun;rw [Nat.zero_add];exact Jhn hk _ m listed a w Om (Nat.le_refl _) hsz hd (fun i hi=> by simpa using hun i hi) (hq a w hs)
 | succ n ih=>
   intro L listed E E' a w hl hlm hpw hsz hd hun hrun hs hq;rw [Nat.add_right_comm];obtain ⟨k,L',rfl⟩:∃k L',L=k::L':=by cases L with | nil=> simp at hl | cons k L'=> exact ⟨k,L',rfl⟩
   have hkm:k < m:=hlm k Si;have hko:ops[k]? =some ops[k]:=Array.getElem?_eq_getElem Om;have hkr:k∈Region.ready .any ops listed:=by
    refine Jaw.2 ⟨(hun k Om).2 Si,_,hko,fun e he hb=> ?_⟩;have hlt:=hk.back k _ hko e he hb;rw [Jaz Om];cases hl:listed.getD e.on true with
    | true=> simpa using hl
    | false=>
      rcases (hun e.on Om).1 hl with h' | h'
      ·rcases List.mem_cons.1 h' with h' | h'
       ·omega
       ·have:=(List.pairwise_cons.1 hpw).1 _ h';omega
      ·omega
   refine ⟨fun h0=> (by rw [h0] at hkr;cases hkr),fun j hj=> ?_⟩;obtain ⟨h1,oj,hoj,h2⟩:=Jaw.1 hj;have hjlt:=(Array.getElem?_eq_some_iff.1 hoj).1;have hjL:j∈k::L':=by
    rcases (hun j hjlt).1 h1 with h' | h'
    ·exact h'
    ·have hb:=hk.tail k j oj hoj h' Om;have:=Jbd hd hsz hoj h2 hb;have h3:=(hun k Om).2 Si;rw [Jaz Om] at this;simp [h3] at this
   obtain ⟨l1,l2,hl12⟩:=List.append_of_mem hjL;rw [hl12] at hrun hpw hun hlm hl;have hl1:∀i∈l1,i < j:=fun i hi=> (List.pairwise_append.1 hpw).2.2 i hi j Si;obtain ⟨r,hy,hrun'⟩:=RunL.front hoj l1 l2 E E' (fun i hi oi hoi=> by
    rcases hk.pair i j oi oj hoi hoj (hl1 i hi) (hlm j Si) with hb | hb
    ·have:=Jbd hd hsz hoj h2 hb;have hilt:i < ops.size:=(Array.getElem?_eq_some_iff.1 hoi).1;have h3:=(hun i hilt).2 (.inl (by simp [hi]));rw [Jaz Om] at this;simp [h3] at this
    ·exact hb) hrun
   refine hy.does hoj hs fun a' w' hs'=> ?_;refine ih (l1++l2) _ _ E' a' w' (by simp at hl⊢;omega) (fun i hi=> hlm i ?_) ?_ (by simp [hsz]) (hd.set hsz hk hj) (fun i hi=> ?_) hrun' hs' hq
   ·rcases List.mem_append.1 hi with h | h <;> simp [h]
   ·have:=List.pairwise_append.1 hpw;refine List.pairwise_append.2 ⟨this.1,(List.pairwise_cons.1 this.2.1).2,fun a ha b hb=> this.2.2 a ha b (by simp [hb])⟩
   ·rw [JdB Om];by_cases hij:i=j
    ·subst hij;simp only [if_true]
     constructor
     ·intro h;cases h
     ·intro h;exfalso
      rcases h with h | h
      ·have h5:=(List.pairwise_append.1 hpw);rcases List.mem_append.1 h with h | h
       ·exact absurd (hl1 i h) Om
       ·exact absurd ((List.pairwise_cons.1 h5.2.1).1 i h) Om
      ·have:=hlm i Si;omega
    ·rw [if_neg hij,hun i hi];simp only [List.mem_append,List.mem_cons]
     constructor
     ·rintro ((h | h | h) | h)
      ·exact .inl (.inl h)
      ·exact absurd h hij
      ·exact .inl (.inr h)
      ·exact .inr h
     ·rintro ((h | h) | h)
      ·exact .inl (.inl h)
      ·exact .inl (.inr (.inr h))
      ·exact .inr h
end
end Go.Vl

/- What single operations give, told by values. -/
namespace Go.Vl
open Go.RowKit
variable {P:Program}
def agD:TypeDesc→Bool
 | .struct _ | .array _ _=> true
 | _=> false
theorem JfE {t:TypeId} {d:TypeDesc} (h:P.underlying t=some d) (w:World):(isAgg t).run P w= .ok (agD d) w:=by
 simp only [isAgg,Sem.run_bind,run_underlying h,Result.andThen_ok]
 cases d <;> rfl
theorem Jjt {t:TypeId} {d:TypeDesc} (h:P.underlying t=some d):∃i,P.info? t=some i:=by
 unfold Program.underlying at h
 cases hi:P.info? t with
 | none=> simp [hi] at h
 | some i=> exact ⟨i,rfl⟩
theorem Ju {t:TypeId} {d:TypeDesc} (h:P.underlying t=some d) (w:World):(sizeOf t).run P w= .ok (P.cellsOf t) w:=by
 obtain ⟨i,hi⟩:=Jjt h
 simp [sizeOf,typeInfo,hi,Program.cellsOf]
def apart (P:Program) (t:TypeId) (cs:List AV) (off:Nat):Option AV:=
 match P.underlying t with
 | some d=> bif agD d then (bif Nat.ble (off+P.cellsOf t) cs.length then some (.ag ((cs.drop off).take (P.cellsOf t))) else none)
   else cs[off]?
 | none=> none
theorem Jdl {a b:Nat} (h:Nat.ble a b=true):a≤b:=Nat.le_of_ble_eq_true h
theorem Jcc {t:TypeId} {cs:List AV} {off:Nat} {r:AV} (h:apart P t cs off=some r) {w:World} {X:Nat→Nat→Prop} {g:List Nat} {vs:List Value} (hn:vs.length=cs.length)
 (hr:∀(k:Nat) (c:AV) (u:Value),cs[k]? =some c→vs[k]? =some u→Rep w X g c u):∃u,(part t vs.toArray off).run P w= .ok u w∧Rep w X g r u:=by
 unfold apart at h
 cases hd:P.underlying t with
 | none=> simp [hd] at h
 | some d=>
   simp only [hd] at h;cases ha:agD d with
   | true=>
     simp only [ha,cond_true] at h;cases hb:Nat.ble (off+P.cellsOf t) cs.length with
     | false=> simp [hb] at h
     | true=>
       simp only [hb,cond_true,Option.some.injEq] at h;subst h;have hle:=Jdl hb;refine ⟨.agg ((vs.drop off).take (P.cellsOf t)).toArray, ?_, ?_⟩
       ·simp only [part,Sem.run_bind,JfE hd,Result.andThen_ok,ha,if_true,Ju hd,Sem.run_pure]
        congr 2
        apply Array.ext';simp [Array.toList_extract,List.extract_eq_take_drop]
       ·refine .ag _ _ (by simp;omega) fun k c u h1 h2=> ?_;rw [List.getElem?_take] at h1 h2;split at h1
        ·rename_i hk
         rw [if_pos hk] at h2;rw [List.getElem?_drop] at h1 h2;exact hr _ _ _ h1 h2
        ·cases h1
   | false=>
     simp only [ha,cond_false] at h;have hlt:off < vs.length:=(by rw [hn];exact (List.getElem?_eq_some_iff.1 h).1);refine ⟨vs[off], ?_,hr off r _ h (List.getElem?_eq_getElem hlt)⟩;simp only [part,Sem.run_bind,JfE hd,Result.andThen_ok,ha,Bool.false_eq_true,if_false,List.getElem?_toArray,List.getElem?_eq_getElem hlt,Sem.run_pure]
theorem J1 (b off k:Nat):(⟨b,off,none⟩:Addr).add k=⟨b,off+k,none⟩:=by
 unfold Addr.add
 split
 ·rename_i h;subst h;rfl
 ·rfl
theorem Jh0 {t:TypeId} {cs:List AV} {r:AV} (h:apart P t cs 0=some r) {w:World} {X:Nat→Nat→Prop} {g:List Nat} {vs:List Value} {b off:Nat} (hn:vs.length=cs.length)
 (hcell:∀(k:Nat) (u:Value),vs[k]? =some u→w.cell? ⟨b,off+k,none⟩=some u)
 (hr:∀(k:Nat) (c:AV) (u:Value),cs[k]? =some c→vs[k]? =some u→Rep w X g c u):∃u,(loadVar t ⟨b,off,none⟩).run P w= .ok u w∧Rep w X g r u:=by
 unfold apart at h
 cases hd:P.underlying t with
 | none=> simp [hd] at h
 | some d=>
   simp only [hd] at h;cases ha:agD d with
   | true=>
     simp only [ha,cond_true,Nat.zero_add] at h;cases hb:Nat.ble (P.cellsOf t) cs.length with
     | false=> simp [hb] at h
     | true=>
       simp only [hb,cond_true,Option.some.injEq,List.drop_zero] at h;subst h;have hle:=Jdl hb;refine ⟨.agg (vs.take (P.cellsOf t)).toArray, ?_, ?_⟩
       ·have hl:=run_loadCells_list (P:=P) w ⟨b,off,none⟩ (vs.take (P.cellsOf t)) (fun j v hj=> by
         rw [J1];rw [List.getElem?_take] at hj;split at hj
         ·exact hcell j v hj
         ·cases hj)
        have hlen:(vs.take (P.cellsOf t)).length=P.cellsOf t:=(by simp;omega);rw [hlen] at hl;simp only [loadVar,Sem.run_bind,JfE hd,Result.andThen_ok,ha,if_true,Ju hd,hl,Sem.run_pure]
       ·refine .ag _ _ (by simp;omega) fun k c u h1 h2=> ?_;rw [List.getElem?_take] at h1 h2;split at h1
        ·rename_i hk
         rw [if_pos hk] at h2;exact hr _ _ _ h1 h2
        ·cases h1
   | false=>
     simp only [ha,cond_false] at h;have hlt:0 < vs.length:=(by rw [hn];exact (List.getElem?_eq_some_iff.1 h).1);have hv:vs[0]? =some vs[0]:=List.getElem?_eq_getElem hlt;refine ⟨vs[0], ?_,hr 0 r _ h hv⟩;have hc:=hcell 0 _ hv;simp only [Nat.add_zero] at hc;simp [loadVar,JfE hd,ha,load,Sem.run,hc]
theorem Joi {t:TypeId} {cs:List AV} {r:AV} (h:apart P t cs 0=some r) {w:World} {X:Nat→Nat→Prop} {g:List Nat} {u:Value} (hu:Rep w X g (.rp cs) u):
 ∃u',(Instr.loadAt t u).run P w= .ok u' w∧Rep w X g r u':=by
 cases hu with
 | rp cs b off vs hn hcell hr=>
   obtain ⟨u',h1,h2⟩:=Jh0 h (b:=b) (off:=off) hn (fun k u hk=> (hcell k u hk).1) hr;exact ⟨u',by simp [Instr.loadAt,Instr.sureAddr,h1],h2⟩
def Jct:AV→Bool
 | .any=> false
 | .v (.agg _)=> false
 | _=> true
theorem Jh5 {a:AV} {u:Value} {w:World} {X:Nat→Nat→Prop} {g:List Nat} (ho:Jct a=true) (h:Rep w X g a u):
 u.cells.toList.length=a.cells.length∧∀(k:Nat) (c:AV) (v:Value),a.cells[k]? =some c→u.cells.toList[k]? =some v→Rep w X g c v:=by
 have one:∀ {a:AV} {u:Value},a.cells= [a]→u.cells= #[u]→Rep w X g a u→u.cells.toList.length=a.cells.length∧∀(k:Nat) (c:AV) (v:Value),a.cells[k]? =some c→u.cells.toList[k]? =some v→Rep w X g c v:=by
  intro a u h1 h2 h3;rw [h1,h2];refine ⟨rfl,fun k c v hc hv=> ?_⟩;cases k with
  | zero=> simp at hc hv;subst hc;subst hv;exact h3
  | succ k=> simp at hc
 cases h with
 | any u=> simp [Jct] at ho
 | v _=>
   cases u with
   | agg cs=> simp [Jct] at ho
   | _=> exact one rfl rfl (.v _)
 | ag cs vs hn hr=> exact ⟨by simpa [Value.cells,AV.cells] using hn,fun k c v hc hv=> hr k c v hc (by simpa [Value.cells] using hv)⟩
 | tup cs vs hn hr=> exact one rfl rfl (.tup cs vs hn hr)
 | fn f c1 c2 v1 v2 a1 a2 a3 a4=> exact one rfl rfl (.fn f c1 c2 v1 v2 a1 a2 a3 a4)
 | ifc t x u h=> exact one rfl rfl (.ifc t x u h)
 | sl0 sz f a cap=> exact one rfl rfl (.sl0 sz f a cap)
 | sl sz n f b off cap vs a1 a2 a3 a4 a5=> exact one rfl rfl (.sl sz n f b off cap vs a1 a2 a3 a4 a5)
 | os0 sz f a=> exact one rfl rfl (.os0 sz f a)
 | osn sz n f b off vs a1 a2 a3 a4=> exact one rfl rfl (.osn sz n f b off vs a1 a2 a3 a4)
 | oss sz n f i b cap vs a1 a2 a3 a4 a5 a6 a7=> exact one rfl rfl (.oss sz n f i b cap vs a1 a2 a3 a4 a5 a6 a7)
 | rp cs b off vs a1 a2 a3=> exact one rfl rfl (.rp cs b off vs a1 a2 a3)
 | bp i off b a1=> exact one rfl rfl (.bp i off b a1)
 | hs i off n cap b a1=> exact one rfl rfl (.hs i off n cap b a1)
 | yl i b a1=> exact one rfl rfl (.yl i b a1)
 | om i b a1=> exact one rfl rfl (.om i b a1)
 | oc i b a1=> exact one rfl rfl (.oc i b a1)
 | fm es b ents a1 a2 a3 a4 a5=> exact one rfl rfl (.fm es b ents a1 a2 a3 a4 a5)
def JfF (place:Nat→Option (Nat×Nat)) (cells:List AV):List (Nat×AV)→Option (List AV)
 | []=> some cells
 | (i,a)::rest=>
   match place i with
   | none=> none
   | some (off,size)=> bif Jct a&& (Nat.beq a.cells.length size&& Nat.ble (off+size) cells.length) then JfF place (cells.take off++(a.cells++cells.drop (off+size))) rest else none
theorem Juu (vs:List Value):∀(off k:Nat) (cells:Array Value),off+k+vs.length≤cells.size→
 ((vs.zipIdx k).foldl (fun cs p=> cs.setIfInBounds (off+p.2) p.1) cells).toList=cells.toList.take (off+k)++(vs++cells.toList.drop (off+k+vs.length)):=by
 induction vs with
 | nil=> intro off k cells h;simp
 | cons v vs ih=>
   intro off k cells h;simp only [List.length_cons] at h;rw [List.zipIdx_cons,List.foldl_cons,ih off (k+1) _ (by simp;omega)];simp only [Array.toList_setIfInBounds];have hlt:off+k < cells.toList.length:=by simp;omega
   have e:(cells.toList.set (off+k) v).drop (off+(k+1)+vs.length)=cells.toList.drop (off+k+(vs.length+1)):=by
    rw [List.drop_set_of_lt Om]
    congr 1
    omega
   rw [e,← Nat.add_assoc,List.take_succ_eq_append_getElem (by simpa using hlt),List.take_set_of_le Om];simp
theorem JfG {w:World} {X:Nat→Nat→Prop} {g:List Nat} {place:Nat→Option (Nat×Nat)}:∀(ps:List (Nat×AV)) (us:List (Nat×Value)) (cs:List AV) (vs:Array Value) (out:List AV),
 ps.length=us.length→(∀(k i:Nat) (a:AV) (j:Nat) (u:Value),ps[k]? =some (i,a)→us[k]? =some (j,u)→i=j∧Rep w X g a u)→vs.toList.length=cs.length→
 (∀(k:Nat) (c:AV) (u:Value),cs[k]? =some c→vs.toList[k]? =some u→Rep w X g c u)→JfF place cs ps=some out→
 ∃ws:List Value,Instr.fill place vs us=some ws.toArray∧ws.length=out.length∧∀(k:Nat) (c:AV) (u:Value),out[k]? =some c→ws[k]? =some u→Rep w X g c u
 | [],us,cs,vs,out,hl,_,hn,hr,h=> by
   have:us= []:=List.eq_nil_of_length_eq_zero (by simpa using hl.symm);subst this;simp only [JfF,Option.some.injEq] at h;subst h;exact ⟨vs.toList,by simp [Instr.fill],hn,hr⟩
 | (i,a)::ps, [],cs,vs,out,hl,_,hn,hr,h=> by simp at hl
 | (i,a)::ps,(j,u)::us,cs,vs,out,hl,hp,hn,hr,h=> by
   obtain ⟨rfl,ha⟩:=hp 0 i a j u rfl rfl;simp only [JfF] at h;cases hpl:place i with
   | none=> simp [hpl] at h
   | some p=>
     obtain ⟨off,size⟩:=p;simp only [hpl] at h;cases hb:Jct a&& (Nat.beq a.cells.length size&& Nat.ble (off+size) cs.length) with
     | false=> simp [hb] at h
     | true=>
       simp only [hb,cond_true] at h;simp only [Bool.and_eq_true] at hb;obtain ⟨ho,hs,hle⟩:=hb;have hs:=Nat.eq_of_beq_eq_true hs;have hle:=Jdl hle;obtain ⟨hc1,hc2⟩:=Jh5 ho ha;have hus:u.cells.size=size:=(by rw [← hs,← hc1];simp);have hvs:vs.size=cs.length:=(by simpa using hn);have hfold:=Juu u.cells.toList off 0 vs (by simp;omega);have hfold':(Array.foldl (fun cs (p:Value×Nat)=> cs.setIfInBounds (off+p.2) p.1) vs u.cells.zipIdx).toList=vs.toList.take off++(u.cells.toList++vs.toList.drop (off+size)):=by
        rw [← Array.foldl_toList,Array.toList_zipIdx,hfold];simp [hus]
       obtain ⟨ws,h1,h2,h3⟩:=JfG ps us _ (Array.foldl (fun cs (p:Value×Nat)=> cs.setIfInBounds (off+p.2) p.1) vs u.cells.zipIdx) out (by simpa using hl)
        (fun k i' a' j' u' hk hk'=> hp (k+1) i' a' j' u' (by simpa using hk) (by simpa using hk')) (by rw [hfold'];simp;omega) (fun k c v hc hv=> by
          rw [hfold'] at hv;rw [List.getElem?_append] at hc hv;simp only [List.length_take,Array.length_toList] at hc hv;have e1:min off cs.length=off:=Om;have e2:min off vs.size=off:=Om;rw [e1] at hc;rw [e2] at hv;split at hc
          ·rename_i hk
           rw [if_pos hk] at hv;rw [List.getElem?_take,if_pos hk] at hc hv;exact hr k c v hc hv
          ·rename_i hk
           rw [if_neg hk] at hv;rw [List.getElem?_append] at hc hv;rw [hc1] at hv;split at hc
           ·rename_i hk2
            rw [if_pos hk2] at hv;exact hc2 _ c v hc hv
           ·rename_i hk2
            rw [if_neg hk2] at hv;rw [List.getElem?_drop] at hc hv;exact hr _ c v hc hv) h
       refine ⟨ws, ?_,h2,h3⟩;simp only [Instr.fill,hpl];rw [if_neg]
       ·exact h1
       ·simp [hus];omega
abbrev Out:=Option (Option Prop×AV)
def J9:Option Prop→Prop
 | none=> True
 | some c=> c
def Jb2 (op:BinOp) (k:IntKind) (x y:Int):Int:=
 let a:=BitVec.ofInt k.bits x
 let b:=BitVec.ofInt k.bits y
 k.wrap (match op with
  | .and=> a&&& b
  | .or=> a||| b
  | .xor=> a ^^^ b
  | _=> a&&& ~~~b).toNat
def JwH (op:BinOp) (k:IntKind) (a b:Int):Out:=
 match op with
 | .add=> some (none, .v (.int k (k.wrap (a+b))))
 | .sub=> some (none, .v (.int k (k.wrap (a - b))))
 | .mul=> some (none, .v (.int k (k.wrap (a * b))))
 | .quo=> some (some (b≠0), .v (.int k (k.wrap (a.tdiv b))))
 | .rem=> some (some (b≠0), .v (.int k (a.tmod b)))
 | .and=> some (none, .v (.int k (Jb2 .and k a b)))
 | .or=> some (none, .v (.int k (Jb2 .or k a b)))
 | .xor=> some (none, .v (.int k (Jb2 .xor k a b)))
 | .andNot=> some (none, .v (.int k (Jb2 .andNot k a b)))
 | .eql=> some (none, .v (.bool (a ==b)))
 | .neq=> some (none, .v (.bool (a !=b)))
 | .lss=> some (none, .v (.bool (decide (a < b))))
 | .leq=> some (none, .v (.bool (decide (a≤b))))
 | .gtr=> some (none, .v (.bool (decide (a > b))))
 | .geq=> some (none, .v (.bool (decide (a≥b))))
 | _=> none
def Jc6 (a b:IntKind):Bool:=
 match a,b with
 | .i8, .i8 | .i16, .i16 | .i32, .i32 | .i64, .i64 | .u8, .u8 | .u16, .u16 | .u32, .u32 | .u64, .u64=> true
 | _,_=> false
theorem Jdm {a b:IntKind} (h:Jc6 a b=true):a=b:=by cases a <;> cases b <;> first | rfl | cases h
def Joj (P:Program) (eq:TypeId→AV→AV→Option Bool) (xs ys:List AV):List Field→Option Bool
 | []=> some true
 | f::fs=>
   match apart P f.type xs f.offset,apart P f.type ys f.offset with
   | some a,some b=>
     match eq f.type a b,Joj P eq xs ys fs with
     | some r,some s=> some (r&& s)
     | _,_=> none
   | _,_=> none
def JlP (P:Program) (eq:TypeId→AV→AV→Option Bool) (e:TypeId) (xs ys:List AV):Nat→Nat→Option Bool
 | 0,_=> some true
 | n+1,i=>
   match apart P e xs (i * P.cellsOf e),apart P e ys (i * P.cellsOf e) with
   | some a,some b=>
     match eq e a b,JlP P eq e xs ys n (i+1) with
     | some r,some s=> some (r&& s)
     | _,_=> none
   | _,_=> none
def aeq (P:Program):Nat→TypeId→AV→AV→Option Bool
 | 0,_,_,_=> none
 | d+1,t,x,y=>
   match P.underlying t,x,y with
   | some .bool, .v (.bool a), .v (.bool b)=> some (a ==b)
   | some (.int _), .v (.int k a), .v (.int k' b)=> bif Jc6 k k' then some (a ==b) else none
   | some .string, .v (.string a), .v (.string b)=> some (a.toList ==b.toList)
   | some (.struct fs), .ag xs, .ag ys=> Joj P (aeq P d) xs ys fs.toList
   | some (.array n e), .ag xs, .ag ys=> JlP P (aeq P d) e xs ys n 0
   | _,_,_=> none
def aeqOk (P:Program):Nat→TypeId→Bool
 | 0,_=> false
 | d+1,t=>
   match P.underlying t with
   | some (.struct fs) => !P.stoodInHeld t && fs.toList.all fun f => f.name != "_" && aeqOk P d f.type
   | some (.array _ e)=> aeqOk P d e
   | some .bool | some (.int _) | some .string=> true
   | _=> false
def JwI (P:Program) (op:BinOp) (t:TypeId) (x y:AV):Out:=
 match x,y with
 | .v (.int k a), .v (.int k' b)=>
   match op with
   | .shl=> some (some (0≤b), .v (.int k (k.wrap (a * 2 ^ (min b.toNat k.bits)))))
   | .shr=> some (some (0≤b), .v (.int k (a.fdiv (2 ^ (min b.toNat k.bits)))))
   | op=> bif Jc6 k k' then JwH op k a b else none
 | .v (.string a), .v (.string b)=>
   match op with
   | .add=> some (some (((a.size+b.size:Nat):Int)≤9223372036854775807), .v (.string (a++b)))
   | .eql=> some (none, .v (.bool (a.toList ==b.toList)))
   | .neq=> some (none, .v (.bool (!(a.toList ==b.toList))))
   | .lss=> some (none, .v (.bool (Op.bytesLess a.toList b.toList)))
   | .leq=> some (none, .v (.bool (Op.bytesLess a.toList b.toList|| a.toList ==b.toList)))
   | .gtr=> some (none, .v (.bool (!(Op.bytesLess a.toList b.toList|| a.toList ==b.toList))))
   | .geq=> some (none, .v (.bool (!Op.bytesLess a.toList b.toList)))
   | _=> none
 | .v (.bool a), .v (.bool b)=>
   match op,P.underlying t with
   | .eql,some .bool=> some (none, .v (.bool (a ==b)))
   | .neq,some .bool=> some (none, .v (.bool (!(a ==b))))
   | _,_=> none
 | .ag xs, .ag ys=>
   match op,P.underlying t,aeq P 8 t (.ag xs) (.ag ys) with
   | .eql,some _,some r=> some (some (aeqOk P 8 t=true∧P.eqGuardType P.depth t=false), .v (.bool r))
   | .neq,some _,some r=> some (some (aeqOk P 8 t=true∧P.eqGuardType P.depth t=false), .v (.bool (!r)))
   | _,_,_=> none
 | .fn _ _ _, .v .nilFunc=>
   match op,P.underlying t with
   | .eql,some (.func _ _ _)=> some (none, .v (.bool false))
   | .neq,some (.func _ _ _)=> some (none, .v (.bool true))
   | _,_=> none
 | .v .nilFunc, .v .nilFunc=>
   match op,P.underlying t with
   | .eql,some (.func _ _ _)=> some (none, .v (.bool true))
   | .neq,some (.func _ _ _)=> some (none, .v (.bool false))
   | _,_=> none
 | .bp _ _, .v (.pointer none)=>
   match op,P.underlying t with
   | .eql,some (.pointer _)=> some (none, .v (.bool false))
   | .neq,some (.pointer _)=> some (none, .v (.bool true))
   | _,_=> none
 | .v (.pointer none), .v (.pointer none)=>
   match op,P.underlying t with
   | .eql,some (.pointer _)=> some (none, .v (.bool true))
   | .neq,some (.pointer _)=> some (none, .v (.bool false))
   | _,_=> none
 | .ifc _ _, .v .nilIface=>
   match op,P.underlying t with
   | .eql,some (.interface _)=> some (none, .v (.bool false))
   | .neq,some (.interface _)=> some (none, .v (.bool true))
   | _,_=> none
 | _,_=> none
theorem JD {w:World} {X:Nat→Nat→Prop} {g:List Nat} {x u:Value} (h:Rep w X g (.v x) u):u=x:=by cases h;rfl
theorem JwJ {op:BinOp} {k:IntKind} {a b:Int} {C:Option Prop} {r:AV} (h:JwH op k a b=some (C,r)) (hc:J9 C) (w:World) (t:TypeId) (hs:op≠ .shl∧op≠ .shr):
 ∃u,(binOp op t (.int k a) (.int k b)).run P w= .ok u w∧r= .v u:=by
 cases op <;> simp only [JwH,Option.some.injEq,Prod.mk.injEq,reduceCtorEq] at h <;> try (exact absurd rfl hs.1) <;> try (exact absurd rfl hs.2)
 all_goals obtain ⟨rfl,rfl⟩:=h
 all_goals simp [J9] at hc
 all_goals simp [binOp,Op.intArith,Op.intDiv,Op.intBits,Op.intCmp,Jb2,hc]
theorem Jju {d:Nat} {eq:TypeId→AV→AV→Option Bool} {w:World} {X:Nat→Nat→Prop} {g:List Nat} {xs ys:List AV} {us vs:List Value} (hu:us.length=xs.length) (hv:vs.length=ys.length)
 (hru:∀(k:Nat) (c:AV) (u:Value),xs[k]? =some c→us[k]? =some u→Rep w X g c u) (hrv:∀(k:Nat) (c:AV) (u:Value),ys[k]? =some c→vs[k]? =some u→Rep w X g c u):
 ∀ (fs : List Field) (r : Bool), (∀ f ∈ fs, f.name ≠ "_" ∧ ∀ a b u v s, eq f.type a b = some s → Rep w X g a u → Rep w X g b v → (Op.equalIn d f.type u v).run P w = .ok s w) → Joj P eq xs ys fs = some r →
  (Op.eqFields d us.toArray vs.toArray fs).run P w= .ok r w
 | [],r,_,h=> by simp only [Joj,Option.some.injEq] at h;subst h;rfl
 | f::fs,r,hf,h=> by
   simp only [Joj] at h;split at h
   ·rename_i a b ha hb
    split at h
    ·rename_i s s' hs hs'
     simp only [Option.some.injEq] at h;subst h;obtain ⟨u,h1,h2⟩:=Jcc ha hu hru;obtain ⟨v,h3,h4⟩:=Jcc hb hv hrv;obtain ⟨hn,he⟩:=hf f Si;have h5:=he a b u v s hs h2 h4;have ih:=Jju hu hv hru hrv fs s' (fun f' hf'=> hf f' (List.mem_cons_of_mem _ hf')) hs';simp only [Op.eqFields,if_pos hn,Sem.run_bind,h1,Result.andThen_ok,h3,h5];cases s
     ·simp
     ·simpa using ih
    ·cases h
   ·cases h
theorem Jjv {d:Nat} {eq:TypeId→AV→AV→Option Bool} {e:TypeId} {w:World} {X:Nat→Nat→Prop} {g:List Nat} {xs ys:List AV} {us vs:List Value} (hu:us.length=xs.length) (hv:vs.length=ys.length)
 (hru:∀(k:Nat) (c:AV) (u:Value),xs[k]? =some c→us[k]? =some u→Rep w X g c u) (hrv:∀(k:Nat) (c:AV) (u:Value),ys[k]? =some c→vs[k]? =some u→Rep w X g c u)
 (he:∀a b u v s,eq e a b=some s→Rep w X g a u→Rep w X g b v→(Op.equalIn d e u v).run P w= .ok s w):
 ∀(n i:Nat) (r:Bool),JlP P eq e xs ys n i=some r→
  (forIn (m:=Sem) (List.range' i n) ((none,()):Option Bool×Unit) (fun i _=> do
    if !(← Op.equalIn d e (← part e us.toArray (i * P.cellsOf e)) (← part e vs.toArray (i * P.cellsOf e))) then return ForInStep.done (some false,())
    pure (ForInStep.yield (none,()))) >>=fun r=> match r.1 with | some b=> pure b | none=> pure true).run P w= .ok r w
 | 0,i,r,h=> by simp only [JlP,Option.some.injEq] at h;subst h;rfl
 | n+1,i,r,h=> by
   simp only [JlP] at h;split at h
   ·rename_i a b ha hb
    split at h
    ·rename_i s s' hs hs'
     simp only [Option.some.injEq] at h;subst h;obtain ⟨u,h1,h2⟩:=Jcc ha hu hru;obtain ⟨v,h3,h4⟩:=Jcc hb hv hrv;have h5:=he a b u v s hs h2 h4;have ih:=Jjv hu hv hru hrv he n (i+1) s' hs';rw [List.range'_succ,List.forIn_cons];simp only [Sem.run_bind,h1,Result.andThen_ok,h3,h5];cases s
     ·simp
     ·simpa using ih
    ·cases h
   ·cases h
theorem Jgu:∀(d D:Nat) (t:TypeId) (a b:AV) (u v:Value) (s:Bool) (w:World) (X:Nat→Nat→Prop) (g:List Nat),d≤D→aeq P d t a b=some s→aeqOk P d t=true→Rep w X g a u→Rep w X g b v→
 (Op.equalIn D t u v).run P w= .ok s w
 | 0,_,_,_,_,_,_,_,_,_,_,_,h,_,_,_=> by simp [aeq] at h
 | d+1,0,_,_,_,_,_,_,_,_,_,hD,_,_,_,_=> by omega
 | d+1,D+1,t,a,b,u,v,s,w,X,g,hD,h,hok,ha,hb=> by
   unfold aeq at h;unfold aeqOk at hok;split at h
   ·rename_i ht
    have:=JD ha;subst this;have:=JD hb;subst this;cases h;simp [Op.equalIn,run_underlying ht]
   ·rename_i k0 k x k' y ht
    have:=JD ha;subst this;have:=JD hb;subst this;cases hk:Jc6 k k' with
    | false=> simp [hk] at h
    | true=>
      simp only [hk,cond_true,Option.some.injEq] at h;have:=Jdm hk;subst this;subst h;simp [Op.equalIn,run_underlying ht]
   ·rename_i ht
    have:=JD ha;subst this;have:=JD hb;subst this;cases h;simp [Op.equalIn,run_underlying ht,beq_toListBytes]
   ·rename_i fs xs ys ht
    simp only [ht,Bool.and_eq_true,Bool.not_eq_true',List.all_eq_true] at hok;cases ha with
    | ag _ us hu hru=>
    cases hb with
    | ag _ vs hv hrv=>
    have hfs:P.fieldsOf t=fs:=(by simp [Program.fieldsOf,ht]);rw [run_equalIn_struct w D t us.toArray vs.toArray (by rw [hfs];exact ht) hok.1,hfs];refine Jju hu hv hru hrv fs.toList s (fun f hf=> ?_) h;have:=hok.2 f hf;simp only [Bool.and_eq_true,bne_iff_ne] at this;exact ⟨this.1,fun a b u v s hs ha hb=> Jgu d D f.type a b u v s w X g Om hs this.2 ha hb⟩
   ·rename_i n e xs ys ht
    simp only [ht] at hok;cases ha with
    | ag _ us hu hru=>
    cases hb with
    | ag _ vs hv hrv=>
    have key:=Jjv (d:=D) hu hv hru hrv (e:=e) (fun a b u v s hs ha hb=> Jgu d D e a b u v s w X g Om hs hok ha hb) n 0 s h;by_cases hn:n=0
    ·subst hn;simp only [JlP,Option.some.injEq] at h;subst h;obtain ⟨i,hi⟩:∃d,P.underlying e=some d:=by
      cases d with
      | zero=> simp [aeqOk] at hok
      | succ d=>
        unfold aeqOk at hok;cases hd:P.underlying e with
        | none=> simp [hd] at hok
        | some d=> exact ⟨d,rfl⟩
     simp [Op.equalIn,run_underlying ht,Ju hi]
    ·obtain ⟨i,hi⟩:∃d,P.underlying e=some d:=by
      cases d with
      | zero=> simp [aeqOk] at hok
      | succ d=>
        unfold aeqOk at hok;cases hd:P.underlying e with
        | none=> simp [hd] at hok
        | some d=> exact ⟨d,rfl⟩
     simp only [Op.equalIn,Sem.run_bind,run_underlying ht,Result.andThen_ok,Ju hi,Std.Legacy.Range.forIn_eq_forIn_range',Std.Legacy.Range.size,Nat.sub_zero,Nat.add_sub_cancel,Nat.div_one];simp only [Sem.run_bind] at key;refine Eq.trans ?_ key
     congr 1
     funext a w'
     rcases a with ⟨_ | _,_⟩ <;> rfl
   ·cases h
end Go.Vl

/- The table of operations that only give a value. -/
namespace Go.Vl
open Go.RowKit
variable {P:Program}
def J6 (nm:Nat):List (Id×Own)→Option (Nat×Own)
 | []=> none
 | p::l=> bif Nat.beq p.1.1 nm then some (p.1.2,p.2) else J6 nm l
theorem Jat {nm s:Nat} {cs:Own}:∀ {l:List (Id×Own)},J6 nm l=some (s,cs)→((nm,s),cs)∈l
 | [],h=> by simp [J6] at h
 | p::l,h=> by
   unfold J6 at h;cases hb:Nat.beq p.1.1 nm with
   | true=>
     simp only [hb,cond_true,Option.some.injEq,Prod.mk.injEq] at h;have:=Nat.eq_of_beq_eq_true hb;obtain ⟨⟨p1,p2⟩,p3⟩:=p;simp only at this h;obtain ⟨rfl,rfl⟩:=h;subst this;simp
   | false=> simp only [hb,cond_false] at h;exact List.mem_cons_of_mem _ (Jat h)
def Jbm (nm:Nat) (l:List (Id×Own)):Option (Nat×List AV):=
 match J6 nm l with
 | some (s, .c cs)=> some (s,cs)
 | _=> none
theorem Jh6 {nm s:Nat} {cs:List AV} {l:List (Id×Own)} (h:Jbm nm l=some (s,cs)):J6 nm l=some (s, .c cs):=by
 unfold Jbm at h
 split at h
 ·rename_i s' cs' h'
  cases h;exact h'
 ·cases h
theorem Jf3 {nm s:Nat} {cs:List AV} {l:List (Id×Own)} (h:Jbm nm l=some (s,cs)):((nm,s), .c cs)∈l:=Jat (Jh6 h)
def Jgv (a:Option AV):Out:=a.map fun r=> (none,r)
def JdC (P:Program) (t:TypeId) (h:Heap):AV→Out
 | .rp cs=> Jgv (apart P t cs 0)
 | .bp i off=> match Jbm i.1 h.bx with
   | some (s,cs)=> match P.underlying t with
     | some d=> bif agD d then (apart P t (cs.drop off) 0).map fun r=> (some (s=i.2),r) else some (some (s=i.2∧off < cs.length),cs.getD off .any)
     | none=> none
   | none=> none
 | _=> none
def JdD (P:Program) (e:TypeId) (cs:List AV) (k:Nat):AV:=
 match P.underlying e with
 | some d=> bif agD d then .ag ((cs.drop (k * P.cellsOf e)).take (P.cellsOf e)) else cs.getD k .any
 | none=> .any
def Jho (P:Program) (t:TypeId) (x ix:AV):Out:=
 match P.underlying t,x,ix with
 | some (.slice e), .sl sz n f, .v (.int _ i)=> bif (P.underlying e).isSome&& Nat.beq sz (P.cellsOf e) then some (some (0≤i∧i < n), .rp (f i.toNat).cells) else none
 | some (.slice e), .os sz n f _, .v (.int _ i)=> bif (P.underlying e).isSome&& Nat.beq sz (P.cellsOf e) then some (some (0≤i∧i < n), .rp (f i.toNat).cells) else none
 | some (.slice e), .hs b off n _, .v (.int _ i)=> bif (P.underlying e).isSome then some (some (0≤i∧i < n), .bp b (off+i.toNat * P.cellsOf e)) else none
 | some (.array n e), .rp cs, .v (.int _ i)=> bif (P.underlying e).isSome then some (some (0≤i∧i < (n:Int)∧i.toNat * P.cellsOf e≤cs.length), .rp (cs.drop (i.toNat * P.cellsOf e))) else none
 | some (.array n e), .bp b off, .v (.int _ i)=> bif (P.underlying e).isSome then some (some (0≤i∧i < (n:Int)), .bp b (off+i.toNat * P.cellsOf e)) else none
 | _,_,_=> none
def Jok (P:Program) (t:TypeId) (x ix:AV):Out:=
 match P.underlying t,x,ix with
 | some (.array n e), .ag cs, .v (.int _ (.ofNat i))=> bif (P.underlying e).isSome&& Nat.blt i n then Jgv (apart P e cs (i * P.cellsOf e)) else none
 | some .string, .v (.string s), .v (.int _ i)=> some (some (0≤i∧i < s.size), .v (.int .u8 (s.data.getD i.toNat 0).toNat))
 | _,_,_=> none
def Jhp (P:Program) (t:TypeId) (x:AV) (f:Nat):Out:=
 match P.underlying t with
 | some (.struct fs)=>
   match fs[f]? with
   | some fd=> bif (P.underlying fd.type).isSome&& !(Nat.beq (P.cellsOf fd.type) 0) then
      match x with
      | .rp cs=> bif Nat.ble fd.offset cs.length then some (none, .rp (cs.drop fd.offset)) else none
      | .bp i off=> some (none, .bp i (off+fd.offset))
      | _=> none
     else none
   | none=> none
 | _=> none
def Jol (P:Program) (t:TypeId) (x:AV) (f:Nat):Out:=
 match P.underlying t,x with
 | some (.struct fs), .ag cs=>
   match fs[f]? with
   | some fd=> Jgv (apart P fd.type cs fd.offset)
   | none=> none
 | _,_=> none
def Juv:AV→Bool
 | .ag _=> false
 | _=> true
def JfH (P:Program) (e:TypeId) (cs:List AV):Bool:=
 match P.underlying e with
 | some d=> bif agD d then true else Nat.beq (P.cellsOf e) 1&& cs.all Juv
 | none=> false
def Jom (P:Program) (t:TypeId) (x:AV) (lo hi mx:Option AV):Out:=
 match P.underlying t with
 | some (.slice e)=>
   bif (P.underlying e).isSome then
   match x,lo,hi,mx with
   | .sl sz n f,none,none,none=> some (none, .sl sz n f)
   | .sl sz n f,some (.v (.int _ l)),none,none=> bif Nat.beq sz (P.cellsOf e) then some (some (0≤l∧l≤n), .sl sz (n - l.toNat) (fun k=> f (l.toNat+k))) else none
   | .sl sz n f,none,some (.v (.int _ h)),none=> bif Nat.beq sz (P.cellsOf e) then some (some (0≤h∧h≤n), .sl sz h.toNat f) else none
   | .sl sz n f,some (.v (.int _ l)),some (.v (.int _ h)),none=> bif Nat.beq sz (P.cellsOf e) then some (some (0≤l∧l≤h∧h≤n), .sl sz (h.toNat - l.toNat) (fun k=> f (l.toNat+k))) else none
   | .sl sz n f,none,some (.v (.int _ h)),some (.v (.int _ m))=> bif Nat.beq sz (P.cellsOf e) then some (some (0≤h∧h≤n∧m=h), .os sz h.toNat f none) else none
   | .os sz n f _,none,none,none=> some (none, .sl sz n f)
   | .os sz n f _,some (.v (.int _ l)),none,none=> bif Nat.beq sz (P.cellsOf e) then some (some (0≤l∧l≤n), .sl sz (n - l.toNat) (fun k=> f (l.toNat+k))) else none
   | .os sz n f _,none,some (.v (.int _ h)),none=> bif Nat.beq sz (P.cellsOf e) then some (some (0≤h∧h≤n), .sl sz h.toNat f) else none
   | .os sz n f _,some (.v (.int _ l)),some (.v (.int _ h)),none=> bif Nat.beq sz (P.cellsOf e) then some (some (0≤l∧l≤h∧h≤n), .sl sz (h.toNat - l.toNat) (fun k=> f (l.toNat+k))) else none
   | _,_,_,_=> none
   else none
 | some .string=>
   match x,lo,hi,mx with
   | .v (.string s),none,none,none=> some (none, .v (.string (s.extract 0 s.size)))
   | .v (.string s),some (.v (.int _ l)),none,none=> some (some (0≤l∧l≤s.size), .v (.string (s.extract l.toNat s.size)))
   | .v (.string s),none,some (.v (.int _ h)),none=> some (some (0≤h∧h≤s.size), .v (.string (s.extract 0 h.toNat)))
   | .v (.string s),some (.v (.int _ l)),some (.v (.int _ h)),none=> some (some (0≤l∧l≤h∧h≤s.size), .v (.string (s.extract l.toNat h.toNat)))
   | _,_,_,_=> none
 | some (.array n e)=>
   bif (P.underlying e).isSome then
   match x,lo,hi,mx with
   | .bp i off,none,none,none=> some (none, .hs i off n n)
   | .rp cs,none,none,none=> bif Nat.beq cs.length (n * P.cellsOf e)&& (Nat.blt 0 (P.cellsOf e)&& JfH P e cs) then some (none, .sl (P.cellsOf e) n (JdD P e cs)) else none
   | .rp cs,none,some (.v (.int _ h)),none=> some (some ((cs.length=n * P.cellsOf e∧JfH P e cs=true)∧0≤h∧h≤n), .sl (P.cellsOf e) h.toNat (JdD P e cs))
   | _,_,_,_=> none
   else none
 | _=> none
def aun (op:UnOp):AV→Out
 | .v (.int k n)=> match op with
   | .neg=> some (none, .v (.int k (k.wrap (0 - n))))
   | .xor=> some (none, .v (.int k (Jb2 .xor k (if k.signed then -1 else k.max) n)))
   | _=> none
 | .v (.bool b)=> match op with
   | .not=> some (none, .v (.bool (!b)))
   | _=> none
 | _=> none
def JsE (P:Program) (s d:TypeId) (x:AV):Out:=
 match P.underlying s,P.underlying d,x with
 | some _,some (.int k), .v (.int _ n)=> some (none, .v (.int k (k.wrap n)))
 | some .string,some .string, .v (.string b)=> some (none, .v (.string b))
 | _,_,_=> none
def Jet (P:Program) (fs:List Field):Bool:=fs.all fun f=> (P.underlying f.type).isSome
def Jon (P:Program) (t:TypeId) (parts:List (Nat×AV)):Out:=
 match P.underlying t,(P.info? t).bind (·.zero) with
 | some (.struct fs),some z=> bif Jet P fs.toList then Jgv ((JfF (fun i=> (fs[i]?).map fun f=> (f.offset,P.cellsOf f.type)) (z.cells.toList.map ofC) parts).map .ag) else none
 | some (.array _ e),some z=> bif (P.underlying e).isSome then Jgv ((JfF (fun i=> some (i * P.cellsOf e,P.cellsOf e)) (z.cells.toList.map ofC) parts).map .ag) else none
 | _,_=> none
def JsF (P:Program) (e:TypeId) (n:Nat):Option (List AV):=
 match (P.info? e).bind (·.zero) with
 | some z=> bif Nat.beq z.cells.size 0 then none else some ((List.range n).map fun k=> ((z.cells.toList.map ofC).getD (k % z.cells.size) .any))
 | none=> none
def JdV (P:Program) (t:TypeId) (n:Nat) (parts:List (Nat×AV)):Out:=
 match P.underlying t with
 | some (.slice e)=>
   match P.underlying e,JsF P e (n * P.cellsOf e) with
   | some _,some cs=> bif Nat.ble (n * P.cellsOf e) 16777216&& Nat.blt 0 (P.cellsOf e) then
      (match JfF (fun i=> some (i * P.cellsOf e,P.cellsOf e)) cs parts with
      | some out=> bif Nat.beq out.length (n * P.cellsOf e)&& JfH P e out then some (none, .os (P.cellsOf e) n (JdD P e out) none) else none
      | none=> none) else none
   | _,_=> none
 | _=> none
def JjW (P:Program) (b:Builtin) (tys:List TypeId) (args:List AV):Out:=
 match b,tys,args with
 | .len,t::_,x::_=>
   match P.underlying t,x with
   | some .string, .v (.string s)=> some (none, .v (.int .i64 s.size))
   | some (.array n _),_=> some (none, .v (.int .i64 n))
   | some (.slice _), .sl _ n _=> some (none, .v (.int .i64 n))
   | some (.slice _), .os _ n _ _=> some (none, .v (.int .i64 n))
   | some (.slice _), .hs _ _ n _=> some (none, .v (.int .i64 n))
   | _,_=> none
 | .max,_, [.v (.int k x), .v (.int k' y)]=> bif Jc6 k k' then some (none, .v (.int k (if y > x then y else x))) else none
 | .min,_, [.v (.int k x), .v (.int k' y)]=> bif Jc6 k k' then some (none, .v (.int k (if y < x then y else x))) else none
 | _,_,_=> none
def JwK:AV→Out
 | .rp cs=> some (none, .rp cs)
 | .bp i off=> some (none, .bp i off)
 | .fn (.func f) a b=> some (none, .fn (.func f) a b)
 | .ifc t x=> some (none, .ifc t x)
 | _=> none
def JcV:Value→Value→Bool
 | .int k a, .int k' b=> Jc6 k k'&& (a ==b)
 | .string a, .string b=> a.toList ==b.toList
 | .bool a, .bool b=> a ==b
 | _,_=> false
def JaO:TypeDesc→Value→Bool
 | .int k, .int k' _=> Jc6 k k'
 | .string, .string _=> true
 | .bool, .bool _=> true
 | _,_=> false
def JaV (key:Value):List (Value×AV)→Option AV
 | []=> none
 | p::l=> bif JcV key p.1 then some p.2 else JaV key l
def JcJ (key:Value) (v:AV):List (Value×AV)→List (Value×AV)
 | []=> [(key,v)]
 | p::l=> bif JcV key p.1 then (p.1,v)::l else p::JcJ key v l
def Ja4 (d:TypeDesc) (es:List (Value×AV)):Bool:=es.all fun p=> JaO d p.1
def Jeu (o:Option AV) (z:AV) (ok:Bool):AV:=
 bif ok then .tup [o.getD z, .v (.bool o.isSome)] else o.getD z
def JfV (P:Program) (t:TypeId) (h:Heap) (x ix:AV) (ok:Bool):Out:=
 match P.underlying t,ix with
 | some (.map kt et), .v key=>
   match P.underlying kt,(P.info? et).bind (·.zero) with
   | some d,some z=> bif JaO d key then
      match x with
      | .fm es=> some (some (Ja4 d es=true),Jeu (JaV key es) (ofV z) ok)
      | .om i=> match J6 i.1 h.bx with
        | some (s, .mp es)=> some (some (s=i.2∧Ja4 d es=true),Jeu (JaV key es) (ofV z) ok)
        | _=> none
      | .v (.map none)=> some (none,Jeu none (ofV z) ok)
      | _=> none
     else none
   | _,_=> none
 | _,_=> none
def Jbe (P:Program) (op:Op) (E:Env):Out:=
 match op with
 | .move x | .assign x=> some (none,E.ev x)
 | .pick c a b=> match E.ev c with
   | .v (.bool t)=> some (none,bif t then E.ev a else E.ev b)
   | _=> none
 | .build t parts=> Jon P t (parts.toList.map fun p=> (p.1,E.ev p.2))
 | .buildSlice t n parts=> JdV P t n (parts.toList.map fun p=> (p.1,E.ev p.2))
 | .load t x=> JdC P t E.h (E.ev x)
 | .nilCheck x=> JwK (E.ev x)
 | .binOp op t x y _=> JwI P op t (E.ev x) (E.ev y)
 | .unOp op _ x=> aun op (E.ev x)
 | .convert s d x=> JsE P s d (E.ev x)
 | .makeFunc fn first caps=> some (none, .fn fn (first.toList.map E.ev) (caps.toList.map E.ev))
 | .makeInterface t x=> bif P.concrete t then some (none, .ifc t (E.ev x)) else none
 | .fieldAddr t x f=> Jhp P t (E.ev x) f
 | .field t x f=> Jol P t (E.ev x) f
 | .indexAddr t x ix=> Jho P t (E.ev x) (E.ev ix)
 | .lookup t x ix ok=> JfV P t E.h (E.ev x) (E.ev ix) ok
 | .index t x ix=> Jok P t (E.ev x) (E.ev ix)
 | .slice t x lo hi mx=> Jom P t (E.ev x) (lo.map E.ev) (hi.map E.ev) (mx.map E.ev)
 | .extract t ix=> match E.ev t with
   | .tup cs=> Jgv cs[ix]?
   | _=> none
 | .call { callee:= .builtin b,args,argTypes}=> JjW P b argTypes.toList (args.toList.map E.ev)
 | _=> none
def Jcm (P:Program) (s:Sem Value) (h:Heap) (w:World) (X:Nat→Nat→Prop) (g:List Nat) (r:AV):Prop:=
 ∃u w',s.run P w= .ok u w'∧Evo none2 w w'∧Rep w' X g r u
section sound
variable {h:Heap} {w:World} {X:Nat→Nat→Prop} {g:List Nat}
theorem Js {s:Sem Value} {r:AV} {u:Value} (h1:s.run P w= .ok u w) (h2:Rep w X g r u):Jcm P s h w X g r:=⟨u,w,h1,Evo.refl _ _,h2⟩
theorem JeM {a:Option AV} {C:Option Prop} {r:AV} (h:Jgv a=some (C,r)):a=some r∧C=none:=by
 unfold Jgv at h
 cases a with
 | none=> simp at h
 | some r'=> simp at h;exact ⟨by rw [h.2],h.1.symm⟩
theorem Jmy {t:TypeId} {a:AV} {C:Option Prop} {r:AV} {u:Value} (h1:JdC P t h a=some (C,r)) (hC:J9 C) (hk:HOk w X g h) (ha:Rep w X g a u):∃u',(Instr.loadAt t u).run P w= .ok u' w∧Rep w X g r u':=by
 unfold JdC at h1
 split at h1
 ·obtain ⟨h2,_⟩:=JeM h1;obtain ⟨u',h3,h4⟩:=Joi h2 ha;exact ⟨u',h3,h4⟩
 ·rename_i i off
  split at h1
  ·rename_i st cs hcs
   obtain ⟨h2,hC⟩:apart P t (cs.drop off) 0=some r∧st=i.2:=by
    split at h1
    ·rename_i d hd
     cases hag:agD d with
     | true=>
       simp only [hag,cond_true] at h1;obtain ⟨r',h2,h1⟩:=Option.map_eq_some_iff.1 h1;simp only [Prod.mk.injEq] at h1;obtain ⟨rfl,rfl⟩:=h1;exact ⟨h2,hC⟩
     | false=>
       simp only [hag,cond_false,Option.some.injEq,Prod.mk.injEq] at h1;obtain ⟨rfl,rfl⟩:=h1;refine ⟨?_,hC.1⟩;have hlt:off < cs.length:=hC.2;simp [apart,hd,hag,hlt]
    ·cases h1
   subst hC;obtain ⟨b,hg,vs,e,hb,hsz,hr⟩:=hk.bx _ (Jf3 hcs);cases ha with
   | bp _ _ b' hg'=>
     dsimp only at hg hsz hr;rw [hg] at hg';cases hg';obtain ⟨u',h3,h4⟩:=Jh0 (w:=w) (X:=X) (g:=g) (vs:=vs.toList.drop off) (b:=b) (off:=off) h2 (by simp [hsz]) (fun k u hk=> by
      rw [Jz hb];rw [List.getElem?_drop,Array.getElem?_toList] at hk;exact hk)
      (fun k c u hc hu=> by
        rw [List.getElem?_drop] at hc hu;rw [Array.getElem?_toList] at hu;exact hr _ c u hc hu)
     exact ⟨u',by simp [Instr.loadAt,Instr.sureAddr,h3],h4⟩
  ·cases h1
 ·cases h1
theorem JqA {t:TypeId} {a:AV} {C:Option Prop} {r:AV} {u:Value} (h1:JdC P t h a=some (C,r)) (hC:J9 C) (hk:HOk w X g h) (ha:Rep w X g a u):Jcm P (Instr.loadAt t u) h w X g r:=
 let ⟨_,h2,h3⟩:=Jmy h1 hC hk ha
 Js h2 h3
theorem Juw {sz n:Nat} {f:Nat→AV} {b off:Nat} {vs:List Value} (hlen:vs.length=n * sz)
 (hcell:∀(k:Nat) (u:Value),vs[k]? =some u→w.cell? ⟨b,off+k,none⟩=some u∧¬X b (off+k))
 (hc:∀i,i < n→(f i).cells.length=sz)
 (hr:∀(i j:Nat) (c:AV) (u:Value),i < n→(f i).cells[j]? =some c→vs[i * sz+j]? =some u→Rep w X g c u) {i:Nat} (hi:i < n):
 Rep w X g (.rp (f i).cells) (.pointer (some ⟨b,off+i * sz,none⟩)):=by
 have hle:(i+1) * sz≤n * sz:=Nat.mul_le_mul_right _ hi
 rw [Nat.add_mul,Nat.one_mul] at hle
 refine .rp _ b _ ((vs.drop (i * sz)).take sz) (by rw [hc i hi];simp;omega) (fun k u hk=> ?_) (fun k c u hk hu=> ?_)
 ·rw [List.getElem?_take] at hk;split at hk
  ·rw [List.getElem?_drop] at hk;rw [Nat.add_assoc];exact hcell _ u hk
  ·cases hk
 ·rw [List.getElem?_take] at hu;split at hu
  ·rw [List.getElem?_drop] at hu;exact hr i k c u hi hk hu
  ·cases hu
theorem JjX {t:TypeId} {x ix:AV} {C:Option Prop} {r:AV} {u v:Value} (h1:Jho P t x ix=some (C,r)) (hc:J9 C) (hx:Rep w X g x u) (hi:Rep w X g ix v):
 Jcm P (Instr.indexAt t u v) h w X g r:=by
 have row:∀ {e:TypeId} {sz n:Nat} {f:Nat→AV} {k:IntKind} {i:Int} {cap:Nat} {b off:Nat} {vs:List Value},P.underlying t=some (.slice e)→v= .int k i→
  ((P.underlying e).isSome&& Nat.beq sz (P.cellsOf e))=true→0≤i∧i < (n:Int)→vs.length=n * sz→
  (∀(k:Nat) (u:Value),vs[k]? =some u→w.cell? ⟨b,off+k,none⟩=some u∧¬X b (off+k))→(∀i,i < n→(f i).cells.length=sz)→
  (∀(i j:Nat) (c:AV) (u:Value),i < n→(f i).cells[j]? =some c→vs[i * sz+j]? =some u→Rep w X g c u)→
  Jcm P (Instr.indexAt t (.slice (some ⟨b,off,none⟩) n cap) v) h w X g (.rp (f i.toNat).cells):=by
  intro e sz n f k i cap b off vs ht hv hb hin hlen hcell hcs hr;simp only [Bool.and_eq_true] at hb;obtain ⟨hs,hsz⟩:=hb;have hsz:=Nat.eq_of_beq_eq_true hsz;obtain ⟨d,hd⟩:=Option.isSome_iff_exists.1 hs;subst hv;refine Js (u:= .pointer (some ⟨b,off+i.toNat * sz,none⟩)) ?_ (Juw hlen hcell hcs hr Om);simp [Instr.indexAt,asIntOf,run_underlying ht,hin,Ju hd,J1,hsz]
 unfold Jho at h1
 split at h1
 ·rename_i e sz n f k i ht
  have:=JD hi;subst this;cases hb:(P.underlying e).isSome&& Nat.beq sz (P.cellsOf e) with
  | false=> simp [hb] at h1
  | true=>
    simp only [hb,cond_true,Option.some.injEq,Prod.mk.injEq] at h1;obtain ⟨rfl,rfl⟩:=h1;simp only [J9] at hc;cases hx with
    | sl0 sz f a cap=> simp at hc;omega
    | sl _ _ _ b off cap vs hlen _ hcell hcs hr=> exact row ht rfl hb hc hlen hcell hcs hr
 ·rename_i e sz n f oi k i ht
  have:=JD hi;subst this;cases hb:(P.underlying e).isSome&& Nat.beq sz (P.cellsOf e) with
  | false=> simp [hb] at h1
  | true=>
    simp only [hb,cond_true,Option.some.injEq,Prod.mk.injEq] at h1;obtain ⟨rfl,rfl⟩:=h1;simp only [J9] at hc;cases hx with
    | os0 sz f a=> simp at hc;omega
    | osn _ _ _ b off vs hlen hcell hcs hr=> exact row ht rfl hb hc hlen hcell hcs hr
    | oss _ _ _ i' b cap vs hg hlen _ hcell _ hcs hr=> exact row (off:=0) ht rfl hb hc hlen (fun k u hk=> by rw [Nat.zero_add];exact hcell k u hk) hcs hr
 ·rename_i e b off n cap k i ht
  have:=JD hi;subst this;cases hb:(P.underlying e).isSome with
  | false=> simp [hb] at h1
  | true=>
    simp only [hb,cond_true,Option.some.injEq,Prod.mk.injEq] at h1;obtain ⟨rfl,rfl⟩:=h1;simp only [J9] at hc;obtain ⟨d,hd⟩:=Option.isSome_iff_exists.1 hb;cases hx with
    | hs _ _ _ _ b' hg=>
      refine Js (u:= .pointer (some ⟨b',off+i.toNat * P.cellsOf e,none⟩)) ?_ (.bp _ _ b' hg);simp [Instr.indexAt,asIntOf,run_underlying ht,hc,Ju hd,J1]
 ·rename_i n e cs k i ht
  have:=JD hi;subst this;cases hb:(P.underlying e).isSome with
  | false=> simp [hb] at h1
  | true=>
    simp only [hb,cond_true,Option.some.injEq,Prod.mk.injEq] at h1;obtain ⟨rfl,rfl⟩:=h1;simp only [J9] at hc;obtain ⟨d,hd⟩:=Option.isSome_iff_exists.1 hb;cases hx with
    | rp _ b off vs hn hcell hr=>
      refine Js (u:= .pointer (some ⟨b,off+i.toNat * P.cellsOf e,none⟩)) ?_ (.rp _ b _ (vs.drop (i.toNat * P.cellsOf e)) (by simp [hn]) (fun k u hk=> by rw [List.getElem?_drop] at hk;rw [Nat.add_assoc];exact hcell _ u hk)
       (fun k c u hk hu=> by rw [List.getElem?_drop] at hk hu;exact hr _ c u hk hu))
      simp [Instr.indexAt,asIntOf,run_underlying ht,hc.1,hc.2.1,Ju hd,J1,Instr.sureAddr]
 ·rename_i n e b off k i ht
  have:=JD hi;subst this;cases hb:(P.underlying e).isSome with
  | false=> simp [hb] at h1
  | true=>
    simp only [hb,cond_true,Option.some.injEq,Prod.mk.injEq] at h1;obtain ⟨rfl,rfl⟩:=h1;simp only [J9] at hc;obtain ⟨d,hd⟩:=Option.isSome_iff_exists.1 hb;cases hx with
    | bp _ _ b' hg=>
      refine Js (u:= .pointer (some ⟨b',off+i.toNat * P.cellsOf e,none⟩)) ?_ (.bp _ _ b' hg);simp [Instr.indexAt,asIntOf,run_underlying ht,hc,Ju hd,J1,Instr.sureAddr]
 ·cases h1
theorem Joo {t:TypeId} {x ix:AV} {C:Option Prop} {r:AV} {u v:Value} (h1:Jok P t x ix=some (C,r)) (hc:J9 C) (hx:Rep w X g x u) (hi:Rep w X g ix v):
 Jcm P (Instr.index t u v) h w X g r:=by
 unfold Jok at h1
 split at h1
 ·rename_i n e cs k i ht
  have:=JD hi;subst this;cases hb:(P.underlying e).isSome&& Nat.blt i n with
  | false=> simp [hb] at h1
  | true=>
    simp only [hb,cond_true] at h1;obtain ⟨h2,_⟩:=JeM h1;simp only [Bool.and_eq_true] at hb;obtain ⟨d,hd⟩:=Option.isSome_iff_exists.1 hb.1;have hlt:=JbF hb.2;cases hx with
    | ag _ vs hn hr=>
      obtain ⟨u',h3,h4⟩:=Jcc h2 hn hr;refine Js (u:=u') ?_ h4;have hle:¬n≤i:=Om;simp [Instr.index,asIntOf,run_underlying ht,hlt,hle,Ju hd,h3]
 ·rename_i s k i ht
  have:=JD hi;subst this;have:=JD hx;subst this;simp only [Option.some.injEq,Prod.mk.injEq] at h1;obtain ⟨rfl,rfl⟩:=h1;simp only [J9] at hc;have hlt:i.toNat < s.size:=by omega
  have e1:s[i.toNat]? =some s[i.toNat]:=by simp [hlt]
  have e2:s.data.getD i.toNat 0=s[i.toNat]:=by
   have hlt2:i.toNat < s.data.size:=hlt;rw [Array.getD_eq_getD_getElem?,Array.getElem?_eq_getElem hlt2];rfl
  refine Js (u:= .int .u8 (s.data.getD i.toNat 0).toNat) ?_ (.v _);simp [Instr.index,asIntOf,run_underlying ht,hc.1,e1,e2]
 ·cases h1
end sound
end Go.Vl

/- The table's operations are told rightly. -/
namespace Go.Vl
open Go.RowKit
variable {P:Program}
section sound
variable {h:Heap} {w:World} {X:Nat→Nat→Prop} {g:List Nat}
theorem JjY {t:TypeId} {x:AV} {f:Nat} {C:Option Prop} {r:AV} {u:Value} (h1:Jhp P t x f=some (C,r)) (hx:Rep w X g x u):
 Jcm P (Instr.fieldAt t u f) h w X g r:=by
 unfold Jhp at h1
 split at h1
 ·rename_i fs ht
  split at h1
  ·rename_i fd hfd
   cases hb:(P.underlying fd.type).isSome&& !(Nat.beq (P.cellsOf fd.type) 0) with
   | false=> simp [hb] at h1
   | true=>
     simp only [hb,cond_true] at h1;simp only [Bool.and_eq_true,Bool.not_eq_true'] at hb;obtain ⟨d,hd⟩:=Option.isSome_iff_exists.1 hb.1;have hz:P.cellsOf fd.type≠0:=fun e=> by rw [e] at hb;simp at hb
     split at h1
     ·rename_i cs
      cases hl:Nat.ble fd.offset cs.length with
      | false=> simp [hl] at h1
      | true=>
        simp only [hl,cond_true,Option.some.injEq,Prod.mk.injEq] at h1;obtain ⟨_,rfl⟩:=h1;cases hx with
        | rp _ b off vs hn hcell hr=>
          refine Js (u:= .pointer (some ⟨b,off+fd.offset,none⟩)) ?_ (.rp _ b _ (vs.drop fd.offset) (by simp [hn]) (fun k u hk=> by rw [List.getElem?_drop] at hk;rw [Nat.add_assoc];exact hcell _ u hk)
           (fun k c u hk hu=> by rw [List.getElem?_drop] at hk hu;exact hr _ c u hk hu))
          simp [Instr.fieldAt,run_underlying ht,hfd,Instr.sureAddr,fieldPlace,Ju hd,hz,J1]
     ·rename_i i off
      simp only [Option.some.injEq,Prod.mk.injEq] at h1;obtain ⟨_,rfl⟩:=h1;cases hx with
      | bp _ _ b hg=>
        refine Js (u:= .pointer (some ⟨b,off+fd.offset,none⟩)) ?_ (.bp _ _ b hg);simp [Instr.fieldAt,run_underlying ht,hfd,Instr.sureAddr,fieldPlace,Ju hd,hz,J1]
     ·cases h1
  ·cases h1
 ·cases h1
theorem Jop {t:TypeId} {x:AV} {f:Nat} {C:Option Prop} {r:AV} {u:Value} (h1:Jol P t x f=some (C,r)) (hx:Rep w X g x u):
 Jcm P (Instr.field t u f) h w X g r:=by
 unfold Jol at h1
 split at h1
 ·rename_i fs cs ht
  split at h1
  ·rename_i fd hfd
   obtain ⟨h2,_⟩:=JeM h1;cases hx with
   | ag _ vs hn hr=>
     obtain ⟨u',h3,h4⟩:=Jcc h2 hn hr;exact Js (by simp [Instr.field,run_underlying ht,hfd,asAgg,h3]) h4
  ·cases h1
 ·cases h1
theorem JzP {sz n n':Nat} {f f':Nat→AV} {b off l cap:Nat} {vs:List Value} (hlen:vs.length=n * sz)
 (hcell:∀(k:Nat) (u:Value),vs[k]? =some u→w.cell? ⟨b,off+k,none⟩=some u∧¬X b (off+k))
 (hc:∀i,i < n→(f i).cells.length=sz)
 (hr:∀(i j:Nat) (c:AV) (u:Value),i < n→(f i).cells[j]? =some c→vs[i * sz+j]? =some u→Rep w X g c u)
 (hl:l+n'≤n) (hcap:n'≤cap) (hf:∀i,i < n'→f' i=f (l+i)):
 Rep w X g (.sl sz n' f') (.slice (some ⟨b,off+l * sz,none⟩) n' cap):=by
 have hmul:∀i,i < n'→(l+i+1) * sz≤n * sz:=fun i hi=> Nat.mul_le_mul_right _ Om
 have hle:(l+n') * sz≤n * sz:=Nat.mul_le_mul_right _ hl
 rw [Nat.add_mul] at hle
 refine .sl _ _ _ b _ cap ((vs.drop (l * sz)).take (n' * sz)) (by simp;omega) hcap (fun k u hk=> ?_) (fun i hi=> by rw [hf i hi];exact hc _ Om) (fun i j c u hi hj hu=> ?_)
 ·rw [List.getElem?_take] at hk;split at hk
  ·rw [List.getElem?_drop] at hk;rw [Nat.add_assoc];exact hcell _ u hk
  ·cases hk
 ·rw [List.getElem?_take] at hu;split at hu
  ·rw [List.getElem?_drop] at hu;rw [hf i hi] at hj;exact hr (l+i) j c u Om hj (by rw [Nat.add_mul,Nat.add_assoc];exact hu)
  ·cases hu
theorem Jdn {sz n:Nat} {f:Nat→AV} {oi:Option Id} {u:Value} (hx:Rep w X g (.os sz n f oi) u):Rep w X g (.sl sz n f) u:=by
 cases hx with
 | os0 sz f a=> exact .sl0 sz f a 0
 | osn _ _ _ b off vs hlen hcell hcs hr=> exact .sl _ _ _ b off n vs hlen (Nat.le_refl _) hcell hcs hr
 | oss _ _ _ i' b cap vs hg hlen hcap hcell _ hcs hr=> exact .sl _ _ _ b 0 cap vs hlen hcap (fun k u hk=> by rw [Nat.zero_add];exact hcell k u hk) hcs hr
theorem Joq {e:TypeId} {t:TypeId} (ht:P.underlying t=some (.slice e)) {d:TypeDesc} (hd:P.underlying e=some d) {sz n:Nat} (hsz:sz=P.cellsOf e) {f:Nat→AV} {u:Value} (hx:Rep w X g (.sl sz n f) u) (l n':Nat) (hl:l+n'≤n)
 (lo hi:Option Value) (hlo:(lo=none∧l=0)∨∃k,lo=some (.int k l)) (hhi:(hi=none∧l+n'=n)∨∃k,hi=some (.int k ((l+n':Nat):Int))):
 ∃u',(Instr.sliceAt t u lo hi none).run P w= .ok u' w∧Rep w X g (.sl sz n' (fun k=> f (l+k))) u':=by
 have hN:∀(N cap:Nat),n=N→n≤cap→(Instr.sliceBounds true n cap lo hi none).run P w= .ok (l,l+n',cap) w:=by
  intro N cap _ hcap;have e1:(l:Int)≤((l+n':Nat):Int):=by omega
  have e2:((l+n':Nat):Int)≤(cap:Int):=by omega
  have e3:¬cap < l+n':=by omega
  rcases hlo with ⟨rfl,rfl⟩ | ⟨k,rfl⟩ <;> rcases hhi with ⟨rfl,hh⟩ | ⟨k',rfl⟩
  ·simp [Instr.sliceBounds,← hh]
  ·simp [Instr.sliceBounds,Instr.sliceBound,asIntOf];omega
  ·have e4:l≤n:=by omega
   simp [Instr.sliceBounds,Instr.sliceBound,asIntOf,hh,e4]
  ·have e5:(0:Int)≤(l:Int)+(n':Int):=by omega
   have e6:(l:Int)+(n':Int)≤(cap:Int):=by omega
   have e7:((l:Int)+(n':Int)).toNat=l+n':=by omega
   simp [Instr.sliceBounds,Instr.sliceBound,asIntOf,e5,e6,e7]
 cases hx with
 | sl0 _ _ a cap=>
   have hl0:l=0∧n'=0:=by omega
   obtain ⟨rfl,rfl⟩:=hl0;refine ⟨.slice (if cap=0 then a else a.map (·.add (0 * P.cellsOf e))) 0 (cap - 0), ?_, .sl0 _ _ _ _⟩;simp only [Instr.sliceAt,Sem.run_bind,run_underlying ht,Result.andThen_ok,Instr.slice,hN 0 cap rfl (Nat.zero_le _),Ju hd,Sem.run_pure,Nat.add_zero,Nat.sub_zero]
 | sl _ _ _ b off cap vs hlen hcap hcell hcs hr=>
   by_cases hcl:cap=l
   ·have h0:n'=0:=Om;subst h0;refine ⟨.slice (some ⟨b,off,none⟩) 0 (cap - l), ?_, .sl0 _ _ _ _⟩;simp only [Instr.sliceAt,Sem.run_bind,run_underlying ht,Result.andThen_ok,Instr.slice,hN n cap rfl hcap,Ju hd,Sem.run_pure,Nat.add_zero,Nat.sub_self,if_pos hcl]
   ·refine ⟨.slice (some ⟨b,off+l * sz,none⟩) n' (cap - l), ?_,JzP hlen hcell hcs hr hl Om (fun _ _=> rfl)⟩;simp only [Instr.sliceAt,Sem.run_bind,run_underlying ht,Result.andThen_ok,Instr.slice,hN n cap rfl hcap,Ju hd,Sem.run_pure,if_neg hcl,Option.map_some,J1,← hsz,Nat.add_sub_cancel_left]
theorem Jh7 {e:TypeId} {cs:List AV} {n:Nat} (hlen:cs.length=n * P.cellsOf e) (h1:JfH P e cs=true) {vs:List Value} (hn:vs.length=cs.length)
 (hr:∀(k:Nat) (c:AV) (u:Value),cs[k]? =some c→vs[k]? =some u→Rep w X g c u):
 (∀i,i < n→(JdD P e cs i).cells.length=P.cellsOf e)∧(∀(i j:Nat) (c:AV) (u:Value),i < n→(JdD P e cs i).cells[j]? =some c→vs[i * P.cellsOf e+j]? =some u→Rep w X g c u):=by
 unfold JfH at h1
 cases hd:P.underlying e with
 | none=> simp [hd] at h1
 | some d=>
   simp only [hd] at h1;cases ha:agD d with
   | true=>
     refine ⟨fun i hi=> ?_,fun i j c u hi hj hu=> ?_⟩
     ·have hle:(i+1) * P.cellsOf e≤n * P.cellsOf e:=Nat.mul_le_mul_right _ hi;rw [Nat.add_mul,Nat.one_mul] at hle;simp [JdD,hd,ha,AV.cells];omega
     ·simp only [JdD,hd,ha,cond_true,AV.cells] at hj;rw [List.getElem?_take] at hj;split at hj
      ·rw [List.getElem?_drop] at hj;exact hr _ c u hj hu
      ·cases hj
   | false=>
     simp only [ha,cond_false,Bool.and_eq_true,List.all_eq_true] at h1;have h2:=Nat.eq_of_beq_eq_true h1.1;have cell:∀i,i < n→∃c,cs[i]? =some c∧JdD P e cs i=c∧c.cells= [c]:=fun i hi=> by
      have hlt:i < cs.length:=(by rw [hlen,h2];omega);refine ⟨cs[i],List.getElem?_eq_getElem hlt,by simp [JdD,hd,ha,List.getD,List.getElem?_eq_getElem hlt], ?_⟩;have:=h1.2 cs[i] (List.getElem_mem hlt);generalize cs[i]=c at this;cases c <;> first | rfl | simp [Juv] at this
     refine ⟨fun i hi=> ?_,fun i j c u hi hj hu=> ?_⟩
     ·obtain ⟨c,_,h4,h5⟩:=cell i hi;rw [h4,h5,h2];rfl
     ·obtain ⟨c',h3,h4,h5⟩:=cell i hi;rw [h4,h5] at hj;cases j with
      | zero=> simp at hj;subst hj;rw [h2] at hu;simp at hu;exact hr i _ u h3 hu
      | succ j=> simp at hj
theorem Jor {t:TypeId} {x:AV} {lo hi mx:Option AV} {C:Option Prop} {r:AV} {u:Value} {vlo vhi vmx:Option Value} (h1:Jom P t x lo hi mx=some (C,r)) (hc:J9 C) (hx:Rep w X g x u)
 (hlo:∀a,lo=some a→∃v,vlo=some v∧Rep w X g a v) (hlo':lo=none→vlo=none) (hhi:∀a,hi=some a→∃v,vhi=some v∧Rep w X g a v) (hhi':hi=none→vhi=none)
 (hmx:∀a,mx=some a→∃v,vmx=some v∧Rep w X g a v) (hmx':mx=none→vmx=none):Jcm P (Instr.sliceAt t u vlo vhi vmx) h w X g r:=by
 have iv:∀ {o:Option AV} {vo:Option Value} {k:IntKind} {i:Int},(∀a,o=some a→∃v,vo=some v∧Rep w X g a v)→o=some (.v (.int k i))→vo=some (.int k i):=by
  intro o vo k i h1 h2;obtain ⟨v,h3,h4⟩:=h1 _ h2;have:=JD h4;subst this;exact h3
 unfold Jom at h1
 split at h1
 ·rename_i e ht
  cases hs:(P.underlying e).isSome with
  | false=> simp [hs] at h1
  | true=>
    obtain ⟨d,hd⟩:=Option.isSome_iff_exists.1 hs;simp only [hs,cond_true] at h1;have rowcase:∀ {sz n:Nat} {f:Nat→AV},Rep w X g (.sl sz n f) u→∀(l n':Nat),l+n'≤n→sz=P.cellsOf e→((vlo=none∧l=0)∨∃k,vlo=some (.int k l))→((vhi=none∧l+n'=n)∨∃k,vhi=some (.int k ((l+n':Nat):Int)))→vmx=none→
     Jcm P (Instr.sliceAt t u vlo vhi vmx) h w X g (.sl sz n' (fun k=> f (l+k))):=by
     intro sz n f hx l n' hl hsz h3 h4 h5;subst h5;obtain ⟨u',h6,h7⟩:=Joq ht hd hsz hx l n' hl vlo vhi h3 h4;exact Js h6 h7
    have all:∀ {sz n:Nat} {f:Nat→AV},Rep w X g (.sl sz n f) u→vlo=none→vhi=none→vmx=none→Jcm P (Instr.sliceAt t u vlo vhi vmx) h w X g (.sl sz n f):=by
     intro sz n f hx h3 h4 h5;subst h3;subst h4;subst h5;have key:∀(a:Option Addr) (cap:Nat),(Instr.sliceAt t (.slice a n cap) none none none).run P w= .ok (.slice (if cap=0 then a else a.map (·.add 0)) n cap) w:=by
      intro a cap;simp [Instr.sliceAt,run_underlying ht,Instr.slice,Instr.sliceBounds,Ju hd]
     cases hx with
     | sl0 _ _ a cap=> exact Js (key a cap) (.sl0 _ _ _ _)
     | sl _ _ _ b off cap vs hlen hcap hcell hcs hr=>
       refine Js (key _ cap) ?_;have:(if cap=0 then some (⟨b,off,none⟩:Addr) else (some (⟨b,off,none⟩:Addr)).map (·.add 0))=some ⟨b,off,none⟩:=(by split <;> simp [J1]);rw [this];exact .sl _ _ _ b off cap vs hlen hcap hcell hcs hr
    have full:∀ {sz n:Nat} {f:Nat→AV} {i:Nat},Rep w X g (.sl sz n f) u→i≤n→sz=P.cellsOf e→vlo=none→(∃k,vhi=some (.int k i))→(∃k,vmx=some (.int k i))→Jcm P (Instr.sliceAt t u vlo vhi vmx) h w X g (.os sz i f none):=by
     intro sz n f i hx hi hsz h3 ⟨k,h4⟩ ⟨k',h5⟩;subst h3;subst h4;subst h5;have key:∀(a:Option Addr) (cap:Nat),n≤cap→(Instr.sliceAt t (.slice a n cap) none (some (.int k i)) (some (.int k' i))).run P w= .ok (.slice (if i=0 then a else a.map (·.add 0)) i i) w:=by
      intro a cap hcap;have e1:i≤cap:=Om;have e2:¬cap < i:=Om;simp [Instr.sliceAt,run_underlying ht,Instr.slice,Instr.sliceBounds,Instr.sliceBound,asIntOf,Ju hd,e1]
     cases hx with
     | sl0 _ _ a cap=>
       have:i=0:=Om;subst this;exact Js (key a cap (Nat.zero_le _)) (.os0 _ _ _)
     | sl _ _ _ b off cap vs hlen hcap hcell hcs hr=>
       refine Js (key _ cap hcap) ?_;have:(if i=0 then some (⟨b,off,none⟩:Addr) else (some (⟨b,off,none⟩:Addr)).map (·.add 0))=some ⟨b,off,none⟩:=(by split <;> simp [J1]);rw [this];have hle:i * sz≤n * sz:=Nat.mul_le_mul_right _ hi;refine .osn _ _ _ b off (vs.take (i * sz)) (by simp;omega) (fun k u hk=> ?_) (fun j hj=> hcs j Om) (fun j k c u hj hk hu=> ?_)
       ·rw [List.getElem?_take] at hk;split at hk
        ·exact hcell _ u hk
        ·cases hk
       ·rw [List.getElem?_take] at hu;split at hu
        ·exact hr j k c u Om hk hu
        ·cases hu
    have nat:∀ {i:Int} {k:IntKind},0≤i→Value.int k i= .int k ((i.toNat:Nat):Int):=fun h=> by rw [Int.toNat_of_nonneg h]
    have zadd:∀ {f:Nat→AV},(fun k=> f (0+k))=f:=fun {f}=> funext fun k=> by rw [Nat.zero_add]
    split at h1
    ·cases h1;exact all hx (hlo' rfl) (hhi' rfl) (hmx' rfl)
    ·rename_i sz n f k l
     cases hb:Nat.beq sz (P.cellsOf e) with
     | false=> simp [hb] at h1
     | true=>
       simp only [hb,cond_true,Option.some.injEq,Prod.mk.injEq] at h1;obtain ⟨rfl,rfl⟩:=h1;simp only [J9] at hc;exact rowcase hx l.toNat (n - l.toNat) Om (Nat.eq_of_beq_eq_true hb) (.inr ⟨k,by rw [iv hlo rfl,nat hc.1]⟩) (.inl ⟨hhi' rfl,by omega⟩) (hmx' rfl)
    ·rename_i sz n f k i
     cases hb:Nat.beq sz (P.cellsOf e) with
     | false=> simp [hb] at h1
     | true=>
       simp only [hb,cond_true,Option.some.injEq,Prod.mk.injEq] at h1;obtain ⟨rfl,rfl⟩:=h1;simp only [J9] at hc;have:=rowcase hx 0 i.toNat Om (Nat.eq_of_beq_eq_true hb) (.inl ⟨hlo' rfl,rfl⟩) (.inr ⟨k,by rw [iv hhi rfl,nat hc.1,Nat.zero_add]⟩) (hmx' rfl);rw [zadd] at this;exact this
    ·rename_i sz n f k l k' i
     cases hb:Nat.beq sz (P.cellsOf e) with
     | false=> simp [hb] at h1
     | true=>
       simp only [hb,cond_true,Option.some.injEq,Prod.mk.injEq] at h1;obtain ⟨rfl,rfl⟩:=h1;simp only [J9] at hc;exact rowcase hx l.toNat (i.toNat - l.toNat) Om (Nat.eq_of_beq_eq_true hb) (.inr ⟨k,by rw [iv hlo rfl,nat hc.1]⟩) (.inr ⟨k',by rw [iv hhi rfl];congr 2;omega⟩) (hmx' rfl)
    ·rename_i sz n f k i k' m
     cases hb:Nat.beq sz (P.cellsOf e) with
     | false=> simp [hb] at h1
     | true=>
       simp only [hb,cond_true,Option.some.injEq,Prod.mk.injEq] at h1;obtain ⟨rfl,rfl⟩:=h1;simp only [J9] at hc;obtain ⟨c1,c2,rfl⟩:=hc;exact full hx Om (Nat.eq_of_beq_eq_true hb) (hlo' rfl) ⟨k,by rw [iv hhi rfl,nat c1]⟩ ⟨k',by rw [iv hmx rfl,nat c1]⟩
    ·cases h1;exact all (Jdn hx) (hlo' rfl) (hhi' rfl) (hmx' rfl)
    ·rename_i sz n f oi k l
     cases hb:Nat.beq sz (P.cellsOf e) with
     | false=> simp [hb] at h1
     | true=>
       simp only [hb,cond_true,Option.some.injEq,Prod.mk.injEq] at h1;obtain ⟨rfl,rfl⟩:=h1;simp only [J9] at hc;exact rowcase (Jdn hx) l.toNat (n - l.toNat) Om (Nat.eq_of_beq_eq_true hb) (.inr ⟨k,by rw [iv hlo rfl,nat hc.1]⟩) (.inl ⟨hhi' rfl,by omega⟩) (hmx' rfl)
    ·rename_i sz n f oi k i
     cases hb:Nat.beq sz (P.cellsOf e) with
     | false=> simp [hb] at h1
     | true=>
       simp only [hb,cond_true,Option.some.injEq,Prod.mk.injEq] at h1;obtain ⟨rfl,rfl⟩:=h1;simp only [J9] at hc;have:=rowcase (Jdn hx) 0 i.toNat Om (Nat.eq_of_beq_eq_true hb) (.inl ⟨hlo' rfl,rfl⟩) (.inr ⟨k,by rw [iv hhi rfl,nat hc.1,Nat.zero_add]⟩) (hmx' rfl);rw [zadd] at this;exact this
    ·rename_i sz n f oi k l k' i
     cases hb:Nat.beq sz (P.cellsOf e) with
     | false=> simp [hb] at h1
     | true=>
       simp only [hb,cond_true,Option.some.injEq,Prod.mk.injEq] at h1;obtain ⟨rfl,rfl⟩:=h1;simp only [J9] at hc;exact rowcase (Jdn hx) l.toNat (i.toNat - l.toNat) Om (Nat.eq_of_beq_eq_true hb) (.inr ⟨k,by rw [iv hlo rfl,nat hc.1]⟩) (.inr ⟨k',by rw [iv hhi rfl];congr 2;omega⟩) (hmx' rfl)
    ·cases h1
 ·rename_i ht
  have out:∀ {s:ByteArray},u= .string s→(l i:Nat)→l≤i→i≤s.size→((vlo=none∧l=0)∨∃k,vlo=some (.int k l))→((vhi=none∧i=s.size)∨∃k,vhi=some (.int k i))→vmx=none→
   (Instr.sliceAt t u vlo vhi vmx).run P w= .ok (.string (s.extract l i)) w:=by
   intro s hu l i h1 h2 h3 h4 h5;subst hu;subst h5;rcases h3 with ⟨rfl,rfl⟩ | ⟨k,rfl⟩ <;> rcases h4 with ⟨rfl,rfl⟩ | ⟨k',rfl⟩
   ·simp [Instr.sliceAt,run_underlying ht,Instr.slice,Instr.sliceBounds]
   ·simp [Instr.sliceAt,run_underlying ht,Instr.slice,Instr.sliceBounds,Instr.sliceBound,asIntOf,h2]
   ·simp [Instr.sliceAt,run_underlying ht,Instr.slice,Instr.sliceBounds,Instr.sliceBound,asIntOf,h1]
   ·simp [Instr.sliceAt,run_underlying ht,Instr.slice,Instr.sliceBounds,Instr.sliceBound,asIntOf,h1,h2]
  have nat:∀ {i:Int} {k:IntKind},0≤i→Value.int k i= .int k ((i.toNat:Nat):Int):=fun h=> by rw [Int.toNat_of_nonneg h]
  split at h1
  ·have:=JD hx;cases h1;exact Js (out this 0 _ (Nat.zero_le _) (Nat.le_refl _) (.inl ⟨hlo' rfl,rfl⟩) (.inl ⟨hhi' rfl,rfl⟩) (hmx' rfl)) (.v _)
  ·have:=JD hx;simp only [Option.some.injEq,Prod.mk.injEq] at h1;obtain ⟨rfl,rfl⟩:=h1;simp only [J9] at hc;exact Js (out this _ _ Om (Nat.le_refl _) (.inr ⟨_,by rw [iv hlo rfl,nat hc.1]⟩) (.inl ⟨hhi' rfl,rfl⟩) (hmx' rfl)) (.v _)
  ·have:=JD hx;simp only [Option.some.injEq,Prod.mk.injEq] at h1;obtain ⟨rfl,rfl⟩:=h1;simp only [J9] at hc;exact Js (out this 0 _ (Nat.zero_le _) Om (.inl ⟨hlo' rfl,rfl⟩) (.inr ⟨_,by rw [iv hhi rfl,nat hc.1]⟩) (hmx' rfl)) (.v _)
  ·have:=JD hx;simp only [Option.some.injEq,Prod.mk.injEq] at h1;obtain ⟨rfl,rfl⟩:=h1;simp only [J9] at hc;exact Js (out this _ _ Om Om (.inr ⟨_,by rw [iv hlo rfl,nat hc.1]⟩) (.inr ⟨_,by rw [iv hhi rfl,nat Om]⟩) (hmx' rfl)) (.v _)
  ·cases h1
 ·rename_i n e ht
  cases hs:(P.underlying e).isSome with
  | false=> simp [hs] at h1
  | true=>
    obtain ⟨d,hd⟩:=Option.isSome_iff_exists.1 hs;simp only [hs,cond_true] at h1;have key:∀(b off:Nat),u= .pointer (some ⟨b,off,none⟩)→vlo=none→vhi=none→vmx=none→(Instr.sliceAt t u vlo vhi vmx).run P w= .ok (.slice (some ⟨b,off,none⟩) n n) w:=by
     intro b off h2 h3 h4 h5;subst h2;subst h3;subst h4;subst h5;have:(if n=0 then (⟨b,off,none⟩:Addr) else (⟨b,off,none⟩:Addr).add 0)=⟨b,off,none⟩:=(by split <;> simp [J1]);simp [Instr.sliceAt,run_underlying ht,Instr.sureAddr,Instr.sliceBounds,Ju hd,this]
    split at h1
    ·cases h1;cases hx with
     | bp _ _ b hg=> exact Js (key b _ rfl (hlo' rfl) (hhi' rfl) (hmx' rfl)) (.hs _ _ _ _ b hg)
    ·rename_i cs
     cases hb:Nat.beq cs.length (n * P.cellsOf e)&& (Nat.blt 0 (P.cellsOf e)&& JfH P e cs) with
     | false=> simp [hb] at h1
     | true=>
       simp only [hb,cond_true,Option.some.injEq,Prod.mk.injEq] at h1;obtain ⟨rfl,rfl⟩:=h1;simp only [Bool.and_eq_true] at hb;have hl:=Nat.eq_of_beq_eq_true hb.1;cases hx with
       | rp _ b off vs hn hcell hr=>
         obtain ⟨q1,q2⟩:=Jh7 (P:=P) (w:=w) (X:=X) (g:=g) hl hb.2.2 hn hr;exact Js (key b off rfl (hlo' rfl) (hhi' rfl) (hmx' rfl)) (.sl _ _ _ b off n vs (by rw [hn,hl]) (Nat.le_refl _) hcell q1 q2)
    ·rename_i cs k i
     simp only [Option.some.injEq,Prod.mk.injEq] at h1;obtain ⟨rfl,rfl⟩:=h1;simp only [J9] at hc;obtain ⟨⟨hl,hb⟩,hc⟩:=hc;have hone:=hb;have hi:vhi=some (.int k i):=iv hhi rfl;have hin:i.toNat≤n:=Om;cases hx with
     | rp _ b off vs hn hcell hr=>
       obtain ⟨q1,q2⟩:=Jh7 (P:=P) (w:=w) (X:=X) (g:=g) hl hb hn hr;have h2:(Instr.sliceAt t (.pointer (some ⟨b,off,none⟩)) vlo vhi vmx).run P w= .ok (.slice (some ⟨b,off,none⟩) i.toNat n) w:=by
        rw [hlo' rfl,hi,hmx' rfl];have e1:(if n=0 then (⟨b,off,none⟩:Addr) else (⟨b,off,none⟩:Addr).add 0)=⟨b,off,none⟩:=(by split <;> simp [J1]);have e2:¬i < 0:=Om;simp [Instr.sliceAt,run_underlying ht,Instr.sureAddr,Instr.sliceBounds,Instr.sliceBound,asIntOf,Ju hd,e1,e2,hin];intro h3;omega
       refine Js h2 (.sl _ _ _ b off n (vs.take (i.toNat * P.cellsOf e)) ?_ hin (fun j v hj=> ?_) (fun j hj=> q1 j Om) (fun j m c v hj hm hv=> q2 j m c v Om hm ?_))
       ·rw [List.length_take,hn,hl];exact Nat.min_eq_left (Nat.mul_le_mul_right _ hin)
       ·rw [List.getElem?_take] at hj;split at hj
        ·exact hcell j v hj
        ·cases hj
       ·rw [List.getElem?_take] at hv;split at hv
        ·exact hv
        ·cases hv
    ·cases h1
 ·cases h1
end sound
end Go.Vl

/- All operations of the table are told rightly. -/
namespace Go.Vl
open Go.RowKit
variable {P:Program}
section sound
variable {h:Heap} {w:World} {X:Nat→Nat→Prop} {g:List Nat}
theorem Jux {op:UnOp} {x:AV} {C:Option Prop} {r:AV} {u:Value} (h1:aun op x=some (C,r)) (hx:Rep w X g x u):Jcm P (Op.unary op u) h w X g r:=by
 unfold aun at h1
 split at h1
 ·have:=JD hx;subst this;split at h1 <;> first | (cases h1;done) | skip
  ·cases h1;exact Js (by simp [Op.unary,Op.intArith]) (.v _)
  ·cases h1;exact Js (by simp [Op.unary,Op.intBits,Jb2]) (.v _)
 ·have:=JD hx;subst this;split at h1 <;> first | (cases h1;done) | skip
  cases h1;exact Js (by simp [Op.unary]) (.v _)
 ·cases h1
theorem JqB {s d:TypeId} {x:AV} {C:Option Prop} {r:AV} {u:Value} (h1:JsE P s d x=some (C,r)) (hx:Rep w X g x u):Jcm P (convert s d u) h w X g r:=by
 unfold JsE at h1
 split at h1
 ·rename_i hs hd
  have:=JD hx;subst this;cases h1;exact Js (by simp [convert,run_underlying hs,run_underlying hd,Conv.intToInt]) (.v _)
 ·rename_i hs hd
  have:=JD hx;subst this;cases h1;exact Js (by simp [convert,run_underlying hs,run_underlying hd]) (.v _)
 ·cases h1
theorem Jhq {z:Value} {k:Nat} {c:AV} {u:Value} (h1:(z.cells.toList.map ofC)[k]? =some c) (h2:z.cells.toList[k]? =some u):Rep w X g c u:=by
 rw [List.getElem?_map,h2] at h1
 simp only [Option.map_some,Option.some.injEq] at h1
 subst h1
 exact JfU u
theorem Jks:∀(fs:List Field),Jet P fs=true→(fs.mapM (fun f=> (do pure (f.offset,← sizeOf f.type):Sem (Nat×Nat)))).run P w= .ok (fs.map fun f=> (f.offset,P.cellsOf f.type)) w
 | [],_=> by simp
 | f::fs,hf=> by
   simp only [Jet,List.all_cons,Bool.and_eq_true] at hf;obtain ⟨d,hd⟩:=Option.isSome_iff_exists.1 hf.1;rw [List.mapM_cons];simp only [Sem.run_bind,Ju hd,Result.andThen_ok,Sem.run_pure,Jks fs hf.2,List.map_cons]
theorem JqC (fs:Array Field) (hf:Jet P fs.toList=true):(fs.mapM (fun f=> (do pure (f.offset,← sizeOf f.type):Sem (Nat×Nat)))).run P w= .ok (fs.map fun f=> (f.offset,P.cellsOf f.type)) w:=by
 rw [Array.mapM_eq_mapM_toList]
 simp only [Sem.run_map,Jks fs.toList hf,Result.andThen_ok]
 congr 1
 apply Array.ext'
 simp
theorem Ja5 {t:TypeId} {z:Value} (hz:(P.info? t).bind (·.zero)=some z):(zeroValue t).run P w= .ok z w:=by
 cases hi:P.info? t with
 | none=> simp [hi] at hz
 | some i=> simp only [hi,Option.bind_some] at hz;simp [zeroValue,typeInfo,hi,hz]
theorem Jos {t:TypeId} {ps:List (Nat×AV)} {us:List (Nat×Value)} {C:Option Prop} {r:AV} (h1:Jon P t ps=some (C,r)) (hl:ps.length=us.length)
 (hp:∀(k i:Nat) (a:AV) (j:Nat) (u:Value),ps[k]? =some (i,a)→us[k]? =some (j,u)→i=j∧Rep w X g a u):Jcm P (Instr.build t us.toArray) h w X g r:=by
 unfold Jon at h1
 split at h1
 ·rename_i fs z ht hz
  cases hf:Jet P fs.toList with
  | false=> simp [hf] at h1
  | true=>
    simp only [hf,cond_true] at h1;obtain ⟨h2,_⟩:=JeM h1;obtain ⟨out,h3,rfl⟩:=Option.map_eq_some_iff.1 h2;obtain ⟨ws,h4,h5,h6⟩:=JfG ps us _ z.cells out hl hp Si (fun k c u hc hu=> Jhq hc hu) h3;refine Js (u:= .agg ws.toArray) ?_ (.ag _ _ h5 h6);have hplace:(fun (i:Nat)=> (fs.map fun (f:Field)=> (f.offset,P.cellsOf f.type))[i]?)=(fun (i:Nat)=> (fs[i]?).map fun (f:Field)=> (f.offset,P.cellsOf f.type)):=(by funext i;simp);simp only [Instr.build,Sem.run_bind,Ja5 hz,Result.andThen_ok,run_underlying ht,JqC fs hf,hplace,h4,Sem.run_pure]
 ·rename_i n e z ht hz
  cases hf:(P.underlying e).isSome with
  | false=> simp [hf] at h1
  | true=>
    obtain ⟨d,hd⟩:=Option.isSome_iff_exists.1 hf;simp only [hf,cond_true] at h1;obtain ⟨h2,_⟩:=JeM h1;obtain ⟨out,h3,rfl⟩:=Option.map_eq_some_iff.1 h2;obtain ⟨ws,h4,h5,h6⟩:=JfG ps us _ z.cells out hl hp Si (fun k c u hc hu=> Jhq hc hu) h3;refine Js (u:= .agg ws.toArray) ?_ (.ag _ _ h5 h6);simp only [Instr.build,Sem.run_bind,Ja5 hz,Result.andThen_ok,run_underlying ht,Ju hd,h4,Sem.run_pure]
 ·cases h1
theorem Jh8 (w:World) (o:Obj):Evo none2 w (w.alloc o):=Evo.of_below ((Below.refl _ _).alloc (Nat.le_refl _) o)
theorem Jf4 (w:World):Evo none2 w w.drew:=Evo.of_below ((Below.refl _ _).drew)
theorem Rep.evo0 {w w':World} {a:AV} {u:Value} (hr:Rep w X g a u) (he:Evo none2 w w'):Rep w' X g a u:=hr.stays (he.stays (fun _ _ _ x=> x.elim) (fun _ _ _ x=> x) (fun _ _ x=> x))
theorem Ji0 (hk:∀(b o:Nat),X b o→b < w.heap.size) {ws:List Value} {e:TypeId} (k:Nat) (u:Value) (hu:ws[k]? =some u):
 (w.alloc (.cells ws.toArray e)).cell? ⟨w.heap.size,0+k,none⟩=some u∧¬X w.heap.size (0+k):=by
 rw [Nat.zero_add,World.cell?_alloc_new]
 exact ⟨by simpa using hu,fun hx=> absurd (hk _ _ hx) (Nat.lt_irrefl _)⟩
theorem Jjs {t:TypeId} {n:Nat} {ps:List (Nat×AV)} {us:List (Nat×Value)} {C:Option Prop} {r:AV} (h1:JdV P t n ps=some (C,r)) (hk:HOk w X g h) (hl:ps.length=us.length)
 (hp:∀(k i:Nat) (a:AV) (j:Nat) (u:Value),ps[k]? =some (i,a)→us[k]? =some (j,u)→i=j∧Rep w X g a u):Jcm P (Instr.buildSlice t n us.toArray) h w X g r:=by
 unfold JdV at h1
 split at h1
 ·rename_i e ht
  split at h1
  ·rename_i d cs hd hz
   cases hb:Nat.ble (n * P.cellsOf e) 16777216&& Nat.blt 0 (P.cellsOf e) with
   | false=> simp [hb] at h1
   | true=>
     simp only [hb,cond_true] at h1;simp only [Bool.and_eq_true] at hb;have hle:=Jdl hb.1;have hpos:=JbF hb.2;split at h1
     ·rename_i out ho
      cases hb2:Nat.beq out.length (n * P.cellsOf e)&& JfH P e out with
      | false=> simp [hb2] at h1
      | true=>
        simp only [hb2,cond_true,Option.some.injEq,Prod.mk.injEq] at h1;obtain ⟨_,rfl⟩:=h1;simp only [Bool.and_eq_true] at hb2;have hlen:=Nat.eq_of_beq_eq_true hb2.1;unfold JsF at hz;split at hz
        ·rename_i z hzz
         cases hz0:Nat.beq z.cells.size 0 with
         | true=> simp [hz0] at hz
         | false=>
           simp only [hz0,cond_false,Option.some.injEq] at hz;subst hz;have hzpos:z.cells.size≠0:=fun e=> by rw [e] at hz0;simp at hz0
           let zs:Array Value:=(Array.range (n * P.cellsOf e)).map (fun i=> z.cells[i % z.cells.size]!)
           have hzs:∀k u,zs.toList[k]? =some u→k < n * P.cellsOf e∧z.cells.toList[k % z.cells.size]? =some u:=by
            intro k u hu;simp only [zs,Array.getElem?_toList,Array.getElem?_map] at hu;cases hr:(Array.range (n * P.cellsOf e))[k]? with
            | none=> simp [hr] at hu
            | some j=>
              have hklt:k < n * P.cellsOf e:=(by simpa using (Array.getElem?_eq_some_iff.1 hr).1);have hjk:j=k:=(by have:=(Array.getElem?_eq_some_iff.1 hr).2;simpa using this.symm);subst hjk;have hm:j % z.cells.size < z.cells.size:=Nat.mod_lt _ Om;simp only [hr,Option.map_some,Option.some.injEq] at hu;refine ⟨hklt, ?_⟩;rw [Array.getElem?_toList,Array.getElem?_eq_getElem hm,← hu,getElem!_pos z.cells _ hm]
           obtain ⟨ws,h4,h5,h6⟩:=JfG (w:=w) (X:=X) (g:=g) ps us _ zs out hl hp (by simp [zs]) (fun k c u hc hu=> by
            obtain ⟨q1,q2⟩:=hzs k u hu;rw [List.getElem?_map] at hc;have:(List.range (n * P.cellsOf e))[k]? =some k:=(by simp [q1]);rw [this] at hc;simp only [Option.map_some,Option.some.injEq,List.getD,List.getElem?_map,q2,Option.getD_some] at hc;subst hc;exact JfU u) ho
           obtain ⟨q1,q2⟩:=Jh7 (P:=P) (w:=w) (X:=X) (g:=g) hlen hb2.2 h5 h6;have hev:=Jh8 w (.cells ws.toArray e);refine ⟨.slice (some ⟨w.heap.size,0,none⟩) n n,w.alloc (.cells ws.toArray e), ?_,hev, ?_⟩
           ·have hng:¬(n * P.cellsOf e > 2 ^ 24):=Om;by_cases hz2:n * P.cellsOf e=0
            ·have hzz':zs= #[]:=(by apply Array.ext';simp [zs,hz2]);rw [hzz'] at h4;simp [Instr.buildSlice,run_underlying ht,Ju hd,hz2,show Array.range 0= #[] from rfl,h4,newRow]
            ·simp only [zs] at h4;simp [Instr.buildSlice,run_underlying ht,Ju hd,if_neg hng,if_neg hz2,Ja5 hzz,h4,newRow]
           ·refine .osn _ _ _ w.heap.size 0 ws (by rw [h5,hlen]) (Ji0 hk.bd) q1 (fun i j c u hi hj hu=> (q2 i j c u hi hj hu).evo0 hev)
        ·cases hz
     ·cases h1
  ·cases h1
 ·cases h1
theorem JsG {x:AV} {C:Option Prop} {r:AV} {u:Value} (h1:JwK x=some (C,r)) (hx:Rep w X g x u):
 r=x∧(match u with
  | .pointer none | .nilIface | .nilFunc=> (runtimePanic .nilDeref:Sem Next)
  | .func (.method name) first captured=>
    match (first[0]? :Option Value) with
    | some .nilIface=> runtimePanic .nilDeref
    | some (.iface t w)=> do
      if (← nilAhead ((← program).types.size+Made.depth) t w name) !=some false then
       unsupported (.noEntry "op/nilCheck.the method's receiver behind this interface value is a nil pointer, or cannot be seen to be none, and the arguments act or may panic (ledger 612)")
      pure (.value (.func (.method name) first captured))
    | _=> pure (.value (.func (.method name) first captured))
  | x=> pure (.value x)).run P w= .ok (.value u) w:=by
 unfold JwK at h1
 split at h1 <;> first | (cases h1;done) | skip
 all_goals cases h1
 all_goals cases hx
 all_goals exact ⟨rfl,rfl⟩
theorem JlQ {b:Builtin} {tys:Array TypeId} {ty:TypeId} {cs:Array Bool} {xs:List AV} {us:Array Value} {C:Option Prop} {r:AV} (h1:JjW P b tys.toList xs=some (C,r)) (hl:us.toList.length=xs.length)
 (hx:∀(k:Nat) (a:AV) (u:Value),xs[k]? =some a→us.toList[k]? =some u→Rep w X g a u):∃u,(builtin b tys ty cs us).run P w= .ok (.value u) w∧Rep w X g r u:=by
 obtain ⟨us⟩:=us
 obtain ⟨tys⟩:=tys
 simp only at hl hx h1
 unfold JjW at h1
 split at h1
 ·rename_i t tys x xs
  obtain ⟨u,us,rfl⟩:∃u us',us=u::us':=by cases us with | nil=> simp at hl | cons u us=> exact ⟨u,us,rfl⟩
  have hx0:=hx 0 x u rfl rfl;split at h1 <;> first | (cases h1;done) | skip
  ·rename_i s ht
   have:=JD hx0;subst this;cases h1;exact ⟨_,by simp [builtin,Builtin.len_,run_underlying ht,goInt], .v _⟩
  ·rename_i n _ ht
   cases h1;exact ⟨.int .i64 n,by simp [builtin,Builtin.len_,run_underlying ht,goInt], .v _⟩
  ·rename_i _ sz n f ht
   cases h1;refine ⟨.int .i64 n, ?_, .v _⟩;cases hx0 <;> simp [builtin,Builtin.len_,run_underlying ht,goInt]
  ·rename_i _ sz n f oi ht
   cases h1;refine ⟨.int .i64 n, ?_, .v _⟩;cases hx0 <;> simp [builtin,Builtin.len_,run_underlying ht,goInt]
  ·rename_i _ i off n cap ht
   cases h1;refine ⟨.int .i64 n, ?_, .v _⟩;cases hx0;simp [builtin,Builtin.len_,run_underlying ht,goInt]
 ·rename_i k x k' y
  cases hb:Jc6 k k' with
  | false=> simp [hb] at h1
  | true=>
    have:=Jdm hb;subst this;simp only [hb,cond_true,Option.some.injEq,Prod.mk.injEq] at h1;obtain ⟨_,rfl⟩:=h1
    match us,hl with
    | [u,v],_=>
      have:=JD (hx 0 _ u rfl rfl);subst this;have:=JD (hx 1 _ v rfl rfl);subst this;exact ⟨_,by simp [builtin,Builtin.max_,Builtin.max2], .v _⟩
 ·rename_i k x k' y
  cases hb:Jc6 k k' with
  | false=> simp [hb] at h1
  | true=>
    have:=Jdm hb;subst this;simp only [hb,cond_true,Option.some.injEq,Prod.mk.injEq] at h1;obtain ⟨_,rfl⟩:=h1
    match us,hl with
    | [u,v],_=>
      have:=JD (hx 0 _ u rfl rfl);subst this;have:=JD (hx 1 _ v rfl rfl);subst this;exact ⟨_,by simp [builtin,Builtin.min_,Builtin.min2], .v _⟩
 ·cases h1
theorem JsH {op:BinOp} {t:TypeId} {x y:AV} {C:Option Prop} {r:AV} {u v:Value} (h1:JwI P op t x y=some (C,r)) (hc:J9 C) (hx:Rep w X g x u) (hy:Rep w X g y v) (a b:Operand):
 Jcm P (do eqGuard op t a b u v;binOp op t u v) h w X g r:=by
 have quiet:∀ {u v:Value} {s:Sem Value} {r':Value},(∀w,(eqGuard op t a b u v).run P w= .ok () w)→s.run P w= .ok r' w→r= .v r'→Jcm P (do eqGuard op t a b u v;s) h w X g r:=by
  intro u v s r' h2 h3 h4;subst h4;exact Js (by simp only [Sem.run_bind,h2,Result.andThen_ok,h3]) (.v _)
 have guard0:∀ {u v:Value},(∀p q,(u,v)≠(Value.agg p,Value.agg q))→(u,v)≠(.nilIface, .nilIface)→∀w,(eqGuard op t a b u v).run P w= .ok () w:=by
  intro u v h2 h3 w;unfold eqGuard;split
  all_goals first
   | rfl
   | (rw [if_neg Si]
      split
      ·exact absurd rfl h3
      ·exact absurd rfl (h2 _ _)
      ·rfl)
 obtain ⟨D,hD⟩:∃D,Op.maxDepth=D+1:=⟨9999,rfl⟩
 have eD:∀u v,Op.equal t u v=Op.equalIn (D+1) t u v:=fun u v=> by unfold Op.equal;rw [hD]
 unfold JwI at h1
 split at h1
 ·have:=JD hx;subst this;have:=JD hy;subst this
  rename_i k x k' y
  have hg:=guard0 (u:= .int k x) (v:= .int k' y) (by intros;simp) Si;split at h1
  ·cases h1;simp only [J9] at hc;have hn:¬y < 0:=by omega
   exact quiet hg (by simp [binOp,Op.shift,hn]) rfl
  ·cases h1;simp only [J9] at hc;have hn:¬y < 0:=by omega
   exact quiet hg (by simp [binOp,Op.shift,hn]) rfl
  ·rename_i n1 n2
   cases hb:Jc6 k k' with
   | false=> simp [hb] at h1
   | true=>
     have:=Jdm hb;subst this;simp only [hb,cond_true] at h1;obtain ⟨u,h2,h3⟩:=JwJ h1 hc w t ⟨n1,n2⟩;exact quiet hg h2 h3
 ·have:=JD hx;subst this;have:=JD hy;subst this
  rename_i x y
  have hg:=guard0 (u:= .string x) (v:= .string y) (by intros;simp) Si;split at h1 <;> first | (cases h1;done) | skip
  ·cases h1;simp only [J9] at hc;have hn:¬(((x.size+y.size:Nat):Int) > IntKind.i64.max):=by
    have:IntKind.i64.max=9223372036854775807:=rfl;rw [this];omega
   exact quiet hg (by simp only [binOp,Op.stringOp,if_neg hn];rfl) rfl
  all_goals cases h1;exact quiet hg (by simp [binOp,Op.stringOp]) rfl
 ·have:=JD hx;subst this;have:=JD hy;subst this
  rename_i x y
  have hg:=guard0 (u:= .bool x) (v:= .bool y) (by intros;simp) Si;split at h1 <;> first | (cases h1;done) | skip
  ·rename_i ht;cases h1
   exact quiet hg (by simp only [binOp,eD,Op.equalIn,Sem.run_bind,run_underlying ht,Result.andThen_ok,Sem.run_pure,Option.isNone,Bool.not_true,Bool.not_false]) rfl
  ·rename_i ht;cases h1
   exact quiet hg (by simp only [binOp,eD,Op.equalIn,Sem.run_bind,run_underlying ht,Result.andThen_ok,Sem.run_pure,Option.isNone,Bool.not_true,Bool.not_false]) rfl
 ·rename_i xs ys
  have hag:∀ {s:Bool},aeq P 8 t (.ag xs) (.ag ys)=some s→aeqOk P 8 t=true∧P.eqGuardType P.depth t=false→(op= .eql∨op= .neq)→
   (∀w,(eqGuard op t a b u v).run P w= .ok () w)∧(Op.equal t u v).run P w= .ok s w:=by
   intro s h2 h3 hop;have h4:=Jgu 8 Op.maxDepth t _ _ u v s w X g (by decide) h2 h3.1 hx hy;cases hx with
   | ag _ us hu hru=>
   cases hy with
   | ag _ vs hv hrv=>
   refine ⟨fun w=> ?_,h4⟩;have h5:(op matches .eql | .neq)=true:=by rcases hop with rfl | rfl <;> rfl
   unfold eqGuard;simp [h3.2]
  split at h1 <;> first | (cases h1;done) | skip
  ·rename_i h2;cases h1;simp only [J9] at hc
   obtain ⟨q1,q2⟩:=hag h2 hc (.inl rfl);cases hx with
   | ag _ us hu hru=>
   cases hy with
   | ag _ vs hv hrv=>
   exact quiet q1 (by simp [binOp,q2]) rfl
  ·rename_i h2;cases h1;simp only [J9] at hc
   obtain ⟨q1,q2⟩:=hag h2 hc (.inr rfl);cases hx with
   | ag _ us hu hru=>
   cases hy with
   | ag _ vs hv hrv=>
   exact quiet q1 (by simp [binOp,q2]) rfl
 ·have:=JD hy;subst this;cases hx with
  | fn f c1 c2 v1 v2 a1 a2 a3 a4=>
    split at h1 <;> first | (cases h1;done) | skip
    all_goals rename_i ht;cases h1;exact quiet (guard0 (by intros;simp) Si) (by simp only [binOp,eD,Op.equalIn,Sem.run_bind,run_underlying ht,Result.andThen_ok,Sem.run_pure,Option.isNone,Bool.not_true,Bool.not_false]) rfl
 ·have:=JD hx;subst this;have:=JD hy;subst this;have hg:=guard0 (u:= .nilFunc) (v:= .nilFunc) (by intros;simp) Si;split at h1 <;> first | (cases h1;done) | skip
  all_goals rename_i ht;cases h1;exact quiet hg (by simp only [binOp,eD,Op.equalIn,Sem.run_bind,run_underlying ht,Result.andThen_ok,Sem.run_pure,Option.isNone,Bool.not_true,Bool.not_false]) rfl
 ·have:=JD hy;subst this;cases hx with
  | bp i off b' hg'=>
    split at h1 <;> first | (cases h1;done) | skip
    all_goals rename_i ht;cases h1;exact quiet (guard0 (by intros;simp) Si) (by simp only [binOp,eD,Op.equalIn,Sem.run_bind,run_underlying ht,Result.andThen_ok,Sem.run_pure,Option.isNone,Bool.not_true,Bool.not_false]) rfl
 ·have:=JD hx;subst this;have:=JD hy;subst this;have hg:=guard0 (u:= .pointer none) (v:= .pointer none) (by intros;simp) Si;split at h1 <;> first | (cases h1;done) | skip
  all_goals rename_i ht;cases h1;exact quiet hg (by simp only [binOp,eD,Op.equalIn,Sem.run_bind,run_underlying ht,Result.andThen_ok,Sem.run_pure,Option.isNone,Bool.not_true,Bool.not_false]) rfl
 ·have:=JD hy;subst this;cases hx with
  | ifc t' x' u' hu'=>
    split at h1 <;> first | (cases h1;done) | skip
    all_goals rename_i ht;cases h1;exact quiet (guard0 (by intros;simp) Si) (by simp only [binOp,eD,Op.equalIn,Sem.run_bind,run_underlying ht,Result.andThen_ok,Sem.run_pure,Option.isNone,Bool.not_true,Bool.not_false]) rfl
 ·cases h1
end sound
end Go.Vl
