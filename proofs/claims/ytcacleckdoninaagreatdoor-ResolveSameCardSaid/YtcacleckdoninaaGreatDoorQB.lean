/- Operations on memory of one's own: variables, stores, rows that are appended to. -/
import Derived.Test.YtcacleckdoninaaGreatDoorQA
import Derived.Laws.MakeOwn
import Derived.RangeFuncLeaves
import Derived.IntWalk
set_option linter.unusedVariables false
set_option linter.unusedSimpArgs false
set_option maxHeartbeats 16000000
namespace Go.Vl
open Go.RowKit
variable {P:Program}
theorem Evo.and_then {M M':Nat→Nat→Prop} {a b c:World} (h:Evo M a b) (k:Evo M' b c) (hm:∀x o,x < a.heap.size→M' x o→M x o):Evo M a c:=
 ⟨k.os.trans h.os,k.tape.trans h.tape,k.output.trans h.output,Nat.le_trans h.size k.size,
  fun x hx hn=> (k.blk x (Nat.lt_of_lt_of_le hx h.size) (fun o h'=> hn o (hm x o hx h'))).trans (h.blk x hx hn),
  fun x o hx hn=> (k.cell x o (Nat.lt_of_lt_of_le hx h.size) (fun h'=> hn (hm x o hx h'))).trans (h.cell x o hx hn),
  fun x vs e fz hx=> let ⟨vs',h1,h2⟩:=h.room x vs e fz hx;let ⟨vs'',h3,h4⟩:=k.room x vs' e _ h1;⟨vs'',h3,h4.trans h2⟩,
  fun x l hx=> let ⟨l',h1⟩:=h.lpk x l hx;k.lpk x l' h1⟩
theorem JbY {w:World} {X:Nat→Nat→Prop} {g:List Nat} {h:Heap} (hk:HOk w X g h) {i:Nat} (hi:i∈h.ids):∃b,g[i]? =some b∧b < w.heap.size:=by
 unfold Heap.ids at hi
 rcases List.mem_append.1 hi with hi | hi
 ·obtain ⟨p,hp,rfl⟩:=List.mem_map.1 hi;obtain ⟨b,h1,h2⟩:=hk.bx p hp;exact ⟨b,h1,h2.lt⟩
 ·obtain ⟨p,hp,rfl⟩:=List.mem_map.1 hi;obtain ⟨b,vs,e,h1,h2,_⟩:=hk.pm p hp;exact ⟨b,h1,Jl h2⟩
theorem JbG {w:World} {X:Nat→Nat→Prop} {g:List Nat} {h:Heap} (hk:HOk w X g h) {i:Nat} (hi:i∈h.ids):i < g.length:=by
 obtain ⟨b,hb,_⟩:=JbY hk hi
 exact (List.getElem?_eq_some_iff.1 hb).1
def Heap.addo (h:Heap) (x:Own):Heap:=⟨((h.nn,h.nx),x)::h.bx,h.pm,h.nx+1,h.nn+1⟩
def Heap.add (h:Heap) (cs:List AV):Heap:=⟨((h.nn,h.nx), .c cs)::h.bx,h.pm,h.nx+1,h.nn+1⟩
theorem St.obj {ro:Option Nat} {X M:Nat→Nat→Prop} {w0:World} {E:Env} {a:Act} {w:World} {g:List Nat} (hs:St ro X M w0 E a w g) {x:Own} (obj:Obj)
 (hr:∀(X':Nat→Nat→Prop) (g':List Nat),Stays w (excl X g E.h) g (w.alloc obj) X' g'→(w.alloc obj).heap[w.heap.size]? =some obj→OwnRep (w.alloc obj) X' g' w.heap.size x):
 St ro X M w0 { E with h:=E.h.addo x} a (w.alloc obj) (g++ [w.heap.size])∧(g++ [w.heap.size])[E.h.nx]? =some w.heap.size∧
 Stays w (excl X g E.h) g (w.alloc obj) (excl X (g++ [w.heap.size]) (E.h.addo x)) (g++ [w.heap.size]):=by
 have hk:=hs.hok
 have hev:=Jh8 w obj
 have hgi:∀(i b:Nat),g[i]? =some b→(g++ [w.heap.size])[i]? =some b:=fun i b h=> by
  rw [List.getElem?_append_left (List.getElem?_eq_some_iff.1 h).1];exact h
 have hgn:(g++ [w.heap.size])[E.h.nx]? =some w.heap.size:=by rw [hk.nx];simp
 have hgd:∀i,i < g.length→(g++ [w.heap.size])[i]? =g[i]? :=fun i h=> List.getElem?_append_left h
 have hex:∀b o,b < w.heap.size→excl X (g++ [w.heap.size]) (E.h.addo x) b o→excl X g E.h b o:=by
  intro b o hb hx;rcases hx with hx | ⟨p,hp,hg⟩ | ⟨p,hp,hg⟩
  ·exact .inl hx
  ·simp only [Heap.addo,List.mem_cons] at hp;rcases hp.symm with hp | rfl
   ·rw [hgd _ (JbG hk (List.mem_append_left _ (List.mem_map.2 ⟨p,hp,rfl⟩)))] at hg;exact .inr (.inl ⟨p,hp,hg⟩)
   ·dsimp only at hg;rw [hgn] at hg;cases hg;omega
  ·simp only [Heap.addo] at hp;rw [hgd _ (JbG hk (List.mem_append_right _ (List.mem_map.2 ⟨p,hp,rfl⟩)))] at hg;exact .inr (.inr ⟨p,hp,hg⟩)
 have hst:Stays w (excl X g E.h) g (w.alloc obj) (excl X (g++ [w.heap.size]) (E.h.addo x)) (g++ [w.heap.size]):=
  hev.stays (fun _ _ _ x=> x.elim) hex hgi
 have hblk:∀ {b:Nat} {o:Obj},w.heap[b]? =some o→(w.alloc obj).heap[b]? =some o:=fun h=> (hev.blk _ (Jl h) (fun _ x=> x)).trans h
 refine ⟨⟨⟨?_, ?_, ?_, ?_, ?_,hk.kn.stays hst⟩,fun k=> (hs.tm k).stays hst,hs.n,hs.evo.and_then hev (fun _ _ _ x=> x.elim), ?_,hs.def_.stays hst, ?_,hs.top,hs.rnd⟩,hgn,hst⟩
 ·intro p hp;simp only [Heap.addo,List.mem_cons] at hp;rcases hp.symm with hp | rfl
  ·obtain ⟨b,h1,h2⟩:=hk.bx p hp;exact ⟨b,hgi _ _ h1,h2.stays hst (hev.blk _ h2.lt (fun _ x=> x))⟩
  ·exact ⟨w.heap.size,hgn,hr _ _ hst (heap_alloc_new w _)⟩
 ·intro p hp;obtain ⟨b,vs',e',h1,h2,h3⟩:=hk.pm p hp;exact ⟨b,vs',e',hgi _ _ h1,hblk h2,h3⟩
 ·have hsame:E.h.ids.map (fun i=> (g++ [w.heap.size])[i]?)=E.h.ids.map (fun i=> g[i]?):=List.map_congr_left fun i hi=> hgd i (JbG hk hi);have hfresh:some w.heap.size∉E.h.ids.map (fun i=> (g++ [w.heap.size])[i]?):=by
   rw [hsame];intro hm;obtain ⟨i,hi,he⟩:=List.mem_map.1 hm;obtain ⟨b,hb,hlt⟩:=JbY hk hi;rw [hb] at he;cases he;exact absurd hlt (Nat.lt_irrefl _)
  have hnd:=hk.nodup;rw [← hsame] at hnd;simp only [Heap.ids,Heap.addo,List.map_cons,List.cons_append] at hnd hfresh⊢;rw [hgn];exact List.nodup_cons.2 ⟨hfresh,hnd⟩
 ·simp [Heap.addo,hk.nx]
 ·intro b o hx;simp only [World.size_alloc];by_cases hb:b < w.heap.size
  ·omega
  ·rcases hx with hx | ⟨p,hp,hg⟩ | ⟨p,hp,hg,_⟩
   ·have:=hk.bd b o (.inl hx);omega
   ·simp only [Heap.addo,List.mem_cons] at hp;rcases hp.symm with hp | rfl
    ·obtain ⟨b',hb',hlt⟩:=JbY hk (List.mem_append_left _ (List.mem_map.2 ⟨p,hp,rfl⟩):p.1.2∈E.h.ids);rw [hgi _ _ hb'] at hg;cases hg;omega
    ·dsimp only at hg;rw [hgn] at hg;cases hg;omega
   ·obtain ⟨b',hb',hlt⟩:=JbY hk (List.mem_append_right _ (List.mem_map.2 ⟨p,hp,rfl⟩):p.1.2∈E.h.ids);rw [hgi _ _ hb'] at hg;cases hg;omega
 ·intro b o hx hb;refine hs.loc b o ?_ hb;have hb':b < w.heap.size:=Nat.lt_of_lt_of_le hb hs.evo.size;rcases hx with hx | ⟨p,hp,hg⟩ | ⟨p,hp,hg⟩
  ·exact hx.elim
  ·simp only [Heap.addo,List.mem_cons] at hp;rcases hp.symm with hp | rfl
   ·rw [hgd _ (JbG hk (List.mem_append_left _ (List.mem_map.2 ⟨p,hp,rfl⟩)))] at hg;exact .inr (.inl ⟨p,hp,hg⟩)
   ·dsimp only at hg;rw [hgn] at hg;cases hg;omega
  ·rw [hgd _ (JbG hk (List.mem_append_right _ (List.mem_map.2 ⟨p,hp,rfl⟩)))] at hg;exact .inr (.inr ⟨p,hp,hg⟩)
 ·intro b o hx i hi;have hb:=hk.bd b o (.inl hx);have hold:i∈E.h.ids→(g++ [w.heap.size])[i]? ≠some b:=fun hi=> by rw [hgd i (JbG hk hi)];exact hs.sep b o hx i hi
  simp only [Heap.ids,Heap.addo,List.map_cons,List.cons_append,List.mem_cons] at hi;rcases hi with rfl | hi
  ·rw [hgn];intro e;cases e;omega
  ·exact hold hi
theorem St.box {ro:Option Nat} {X M:Nat→Nat→Prop} {w0:World} {E:Env} {a:Act} {w:World} {g:List Nat} (hs:St ro X M w0 E a w g) {cs:List AV} {vs:Array Value} (e:TypeId) (hn:vs.toList.length=cs.length)
 (hr:∀(k:Nat) (c:AV) (u:Value),cs[k]? =some c→vs.toList[k]? =some u→Rep w (excl X g E.h) g c u):
 St ro X M w0 { E with h:=E.h.add cs} a (w.alloc (.cells vs e)) (g++ [w.heap.size])∧
 Rep (w.alloc (.cells vs e)) (excl X (g++ [w.heap.size]) (E.h.add cs)) (g++ [w.heap.size]) (.bp (E.h.nn,E.h.nx) 0) (.pointer (some ⟨w.heap.size,0,none⟩)):=by
 obtain ⟨h1,h2,_⟩:=hs.obj (x:= .c cs) (.cells vs e) (fun X' g' hst hnew=> ⟨vs,e,hnew,by simpa using hn,fun k c u h5 h6=> (hr k c u h5 (by simpa using h6)).stays hst⟩)
 exact ⟨h1, .bp _ _ _ h2⟩
theorem JyE {o:Oper} {e:TypeId} {x:Operand} {E:Env} {K:Env→Prop} (ho:o.op= .box e x) (hc:Jct (E.ev x)=true)
 (hk:K (({ E with h:=E.h.add (E.ev x).cells}:Env).set o.dst (.bp (E.h.nn,E.h.nx) 0))):AOp P o E K:=by
 intro ro X M w0 a w g hs next Q hn hp
 obtain ⟨h1,h2⟩:=Jh5 hc (hs.ev x)
 obtain ⟨h3,h4⟩:=hs.box (vs:=(a.eval x).cells) e h1 h2
 refine Jx (by rw [ho];intro c h;cases h) ?_
 have:(execOp a.eval o).run P w= .ok (.value (.pointer (some ⟨w.heap.size,0,none⟩))) (w.alloc (.cells (a.eval x).cells e)):=by
  unfold execOp;simp only [ho,Instr.box,newVar,newRow];simp
 rw [this]
 exact hn _ _ _ _ hk (fun i b h=> by rw [List.getElem?_append_left (List.getElem?_eq_some_iff.1 h).1];exact h) (h3.put o.dst h4)
def JgZ (P:Program) (e:TypeId):Option (List AV):=((P.info? e).bind (·.zero)).map fun z=> z.cells.toList.map ofC
theorem Jmz {o:Oper} {e:TypeId} {E:Env} {K:Env→Prop} {cs:List AV} (ho:o.op= .alloc e) (hz:JgZ P e=some cs)
 (hk:K (({ E with h:=E.h.add cs}:Env).set o.dst (.bp (E.h.nn,E.h.nx) 0))):AOp P o E K:=by
 intro ro X M w0 a w g hs next Q hn hp
 obtain ⟨z,hz1,rfl⟩:=Option.map_eq_some_iff.1 hz
 obtain ⟨h3,h4⟩:=hs.box (vs:=z.cells) (cs:=z.cells.toList.map ofC) e Si (fun k c u hc hu=> Jhq hc hu)
 refine Jx (by rw [ho];intro c h;cases h) ?_
 have:(execOp a.eval o).run P w= .ok (.value (.pointer (some ⟨w.heap.size,0,none⟩))) (w.alloc (.cells z.cells e)):=by
  unfold execOp;simp only [ho,Instr.alloc,newVar,newRow];simp [Ja5 hz1]
 rw [this]
 exact hn _ _ _ _ hk (fun i b h=> by rw [List.getElem?_append_left (List.getElem?_eq_some_iff.1 h).1];exact h) (h3.put o.dst h4)
def JaA (nm:Nat) (cs:Own):List (Id×Own)→List (Id×Own)
 | []=> []
 | p::l=> bif Nat.beq p.1.1 nm then (p.1,cs)::l else p::JaA nm cs l
def Jkt (nm:Nat) (x:Own):List (Id×Own)→(List (Id×Own)→Prop)→Prop
 | [],K=> K []
 | ((a,s),y)::l,K=> bif Nat.beq a nm then K (((a,s),x)::l) else Jkt nm x l fun l'=> K (((a,s),y)::l')
theorem Jh9 {nm:Nat} {x:Own}:∀ {l:List (Id×Own)} {K:List (Id×Own)→Prop},Jkt nm x l K→K (JaA nm x l)
 | [],_,h=> h
 | ((a,s),y)::l,K,h=> by
   unfold Jkt at h;unfold JaA;dsimp only;cases hb:Nat.beq a nm
   ·simp only [hb,cond_false] at h⊢;exact Jh9 (K:=fun l'=> K (((a,s),y)::l')) h
   ·simp only [hb,cond_true] at h⊢;exact h
def JeN (nm:Nat) (cs:List AV):List (Id×Own)→List (Id×Own):=JaA nm (.c cs)
theorem Jot {L:List (Id×Own)} {q:Nat→Prop}:(∃p∈L,q p.1.2)↔∃j∈L.map (·.1.2),q j:=
 ⟨fun ⟨p,hp,h⟩=> ⟨_,List.mem_map.2 ⟨p,hp,rfl⟩,h⟩,fun ⟨j,hj,h⟩=> by obtain ⟨p,hp,rfl⟩:=List.mem_map.1 hj;exact ⟨p,hp,h⟩⟩
theorem Jff {nm:Nat} {cs:Own}:∀ {l:List (Id×Own)},(JaA nm cs l).map (·.1.2)=l.map (·.1.2)
 | []=> rfl
 | p::l=> by
   unfold JaA;cases h:Nat.beq p.1.1 nm
   ·simp [Jff (l:=l)]
   ·simp
theorem JmA {nm s:Nat} {cs cs0:Own}:∀ {l:List (Id×Own)} {p:Id×Own},(l.map (·.1.2)).Nodup→J6 nm l=some (s,cs0)→p∈JaA nm cs l→(p=((nm,s),cs))∨(p∈l∧p.1.2≠s)
 | [],p,_,_,h=> by simp [JaA] at h
 | q::l,p,hn,hg,h=> by
   simp only [List.map_cons,List.nodup_cons] at hn;unfold JaA at h;unfold J6 at hg;cases hb:Nat.beq q.1.1 nm with
   | true=>
     simp only [hb,cond_true,List.mem_cons,Option.some.injEq,Prod.mk.injEq] at h hg;have hq:=Nat.eq_of_beq_eq_true hb;obtain ⟨⟨q1,q2⟩,q3⟩:=q;simp only at hq hg hn h;obtain ⟨rfl,rfl⟩:=hg;subst hq;rcases h with rfl | h
     ·exact .inl rfl
     ·right
      refine ⟨List.mem_cons_of_mem _ h,fun e=> hn.1 ?_⟩;rw [← e];exact List.mem_map.2 ⟨p,h,rfl⟩
   | false=>
     simp only [hb,cond_false,List.mem_cons] at h hg;rcases h with rfl | h
     ·right
      refine ⟨by simp,fun e=> hn.1 ?_⟩;have:=Jat hg;rw [e];exact List.mem_map.2 ⟨_,this,rfl⟩
     ·rcases JmA hn.2 hg h with h | ⟨h,h'⟩
      ·exact .inl h
      ·exact .inr ⟨List.mem_cons_of_mem _ h,h'⟩
theorem Jg0 {w:World} {X:Nat→Nat→Prop} {g:List Nat} {h:Heap} (hk:HOk w X g h) {i j b:Nat} (hi:i∈h.ids) (hj:j∈h.ids) (hne:i≠j) (hgi:g[i]? =some b):g[j]? ≠some b:=by
 intro hgj
 have key:∀(l:List Nat),(l.map (fun i=> g[i]?)).Nodup→i∈l→j∈l→False:=by
  intro l
  induction l with
  | nil=> intro _ h;cases h
  | cons x l ih=>
    intro hn hi hj;simp only [List.map_cons,List.nodup_cons] at hn;rcases List.mem_cons.1 hi with hi' | hi'
    ·subst hi';rcases List.mem_cons.1 hj with hj' | hj'
     ·exact hne hj'.symm
     ·exact hn.1 (List.mem_map.2 ⟨j,hj',by rw [hgj,hgi]⟩)
    ·rcases List.mem_cons.1 hj with hj' | hj'
     ·subst hj';exact hn.1 (List.mem_map.2 ⟨i,hi',by rw [hgi,hgj]⟩)
     ·exact ih hn.2 hi' hj'
 exact key _ hk.nodup hi hj
theorem JmB {w:World} {X:Nat→Nat→Prop} {g:List Nat} {h:Heap} (hk:HOk w X g h):(h.bx.map (·.1.2)).Nodup:=by
 have:=hk.nodup
 unfold Heap.ids at this
 rw [List.map_append] at this
 have h1:=(List.nodup_append.1 this).1
 exact (List.pairwise_map.1 h1).imp fun h e=> h (by rw [e])
theorem St.setOwn {ro:Option Nat} {X M:Nat→Nat→Prop} {w0:World} {E:Env} {a:Act} {w:World} {g:List Nat} (hs:St ro X M w0 E a w g) {nm i b:Nat} {x0 x:Own} {w':World}
 (hget0:J6 nm E.h.bx=some (i,x0)) (hgi:g[i]? =some b) (hev:Evo (fun b' _=> b'=b) w w')
 (hr:Stays w (excl X g E.h) g w' (excl X g E.h) g→OwnRep w' (excl X g E.h) g b x):
 St ro X M w0 { E with h:= { E.h with bx:=JaA nm x E.h.bx}} a w' g:=by
 have hk:=hs.hok
 have hi:=Jat hget0
 have hiI:i∈E.h.ids:=List.mem_append_left _ (List.mem_map.2 ⟨_,hi,rfl⟩)
 have hbl:b < w.heap.size:=by
  obtain ⟨b',h1,h2⟩:=hk.bx _ hi;rw [hgi] at h1;cases h1;exact h2.lt
 have hoth:∀k,k < w.heap.size→k≠b→w'.heap[k]? =w.heap[k]? :=fun k hk1 hk'=> hev.blk k hk1 (fun _ e=> hk' e)
 have hex:∀Y:Nat→Nat→Prop,excl Y g ({ E.h with bx:=JaA nm x E.h.bx}:Heap)=excl Y g E.h:=by
  intro Y
  funext b' o
  apply propext;unfold excl;dsimp only;have hb1:(∃p∈JaA nm x E.h.bx,g[p.1.2]? =some b')↔∃p∈E.h.bx,g[p.1.2]? =some b':=by
   have h1:(∃p∈JaA nm x E.h.bx,g[p.1.2]? =some b')↔∃j∈(JaA nm x E.h.bx).map (·.1.2),g[j]? =some b':=Jot (q:=fun j=> g[j]? =some b');have h2:(∃p∈E.h.bx,g[p.1.2]? =some b')↔∃j∈E.h.bx.map (·.1.2),g[j]? =some b':=Jot (q:=fun j=> g[j]? =some b');rw [h1,h2,Jff]
  rw [hb1]
 have hXb:∀o,excl X g E.h b o:=fun o=> .inr (.inl ⟨_,hi,hgi⟩)
 have hst:Stays w (excl X g E.h) g w' (excl X g E.h) g:=hev.stays (fun b' o _ hm=> by rw [hm];exact hXb o) (fun _ _ _ x=> x) (fun _ _ x=> x)
 refine ⟨?_,fun k=> ?_,hs.n,hs.evo.and_then hev (fun b' o hb' hm=> ?_), ?_,by rw [hex];exact hs.def_.stays hst,fun b' o hx j hj=> hs.sep b' o hx j (by unfold Heap.ids at hj⊢;dsimp only at hj;rw [Jff] at hj;exact hj),hs.top,hs.rnd⟩
 ·rw [hex];refine ⟨fun p hp=> ?_,fun p hp=> ?_, ?_,hk.nx,fun b' o hx=> Nat.lt_of_lt_of_le (hk.bd b' o hx) hev.size,hk.kn.stays hst⟩
  ·rcases JmA (JmB hk) hget0 hp with rfl | ⟨hp,hne⟩
   ·exact ⟨b,hgi,hr hst⟩
   ·obtain ⟨b',h1,h2⟩:=hk.bx p hp;have hne':b'≠b:=fun e=> Jg0 hk hiI (List.mem_append_left _ (List.mem_map.2 ⟨p,hp,rfl⟩):p.1.2∈E.h.ids) (Ne.symm hne) hgi (e ▸ h1);exact ⟨b',h1,h2.stays hst (hoth b' h2.lt hne')⟩
  ·obtain ⟨b',vs',e',h1,h2,h3⟩:=hk.pm p hp;by_cases hpi:p.1.2=i
   ·exfalso
    have:=hk.nodup;unfold Heap.ids at this;rw [List.map_append] at this;exact (List.nodup_append.1 this).2.2 _ (List.mem_map.2 ⟨i,List.mem_map.2 ⟨_,hi,rfl⟩,rfl⟩) _ (List.mem_map.2 ⟨p.1.2,List.mem_map.2 ⟨p,hp,rfl⟩,rfl⟩) (by rw [hpi])
   ·have hne':b'≠b:=fun e=> Jg0 hk hiI (List.mem_append_right _ (List.mem_map.2 ⟨p,hp,rfl⟩):p.1.2∈E.h.ids) (Ne.symm hpi) hgi (e ▸ h1);exact ⟨b',vs',e',h1,(hoth b' (Jl h2) hne').trans h2,h3⟩
  ·have:=hk.nodup;unfold Heap.ids at this⊢;dsimp only;rw [Jff];exact this
 ·show Rep _ (excl X g ({ E.h with bx:=JaA nm x E.h.bx}:Heap)) g _ _;rw [hex];exact (hs.tm k).stays hst
 ·rw [hm];exact hs.loc b o (.inr (.inl ⟨_,hi,hgi⟩)) (hm ▸ hb')
 ·intro b' o hx hb';rw [hex] at hx;exact hs.loc b' o hx hb'
theorem St.setRow {ro:Option Nat} {X M:Nat→Nat→Prop} {w0:World} {E:Env} {a:Act} {w:World} {g:List Nat} (hs:St ro X M w0 E a w g) {nm i b:Nat} {cs0 cs:List AV} {vs0 vs:Array Value} {e:TypeId}
 (hget0:Jbm nm E.h.bx=some (i,cs0)) (hgi:g[i]? =some b) (hb:w.heap[b]? =some (.cells vs0 e (0,0))) (hn:vs.toList.length=cs.length) (hn0:vs.size=vs0.size)
 (hr:∀(k:Nat) (c:AV) (u:Value),cs[k]? =some c→vs.toList[k]? =some u→Rep w (excl X g E.h) g c u):
 St ro X M w0 { E with h:= { E.h with bx:=JeN nm cs E.h.bx}} a (w.setRow b vs) g:=by
 have hnew:(w.setRow b vs).heap[b]? =some (.cells vs e (0,0)):=setRow_heap w b vs0 vs e _ hb
 have hoth:∀k,k≠b→(w.setRow b vs).heap[k]? =w.heap[k]? :=fun k hk'=> setRow_other w b k _ hk'
 have hev:Evo (fun b' _=> b'=b) w (w.setRow b vs):=by
  refine ⟨rfl,rfl,rfl,by simp,fun k _ hn'=> hoth k (fun e=> hn' 0 e),fun k o _ hn'=> World.cell?_of_block (a:=⟨k,o,none⟩) (hoth k hn'),fun k us e' fz hb'=> ?_,fun k l hl=> ?_⟩
  ·by_cases hkb:k=b
   ·subst hkb;rw [hb] at hb';cases hb';exact ⟨vs,hnew,hn0⟩
   ·exact ⟨us,(hoth k hkb).trans hb',rfl⟩
  ·by_cases hkb:k=b
   ·subst hkb;rw [hb] at hl;cases hl
   ·exact ⟨l,(hoth k hkb).trans hl⟩
 exact hs.setOwn (x:= .c cs) (Jh6 hget0) hgi hev (fun hst=> ⟨vs,e,hnew,by simpa using hn,fun k c u h5 h6=> (hr k c u h5 (by simpa using h6)).stays hst⟩)
def Jb3:AV→Bool
 | .any | .ag _ | .tup _=> false
 | .v (.agg _) | .v (.tuple _)=> false
 | _=> true
theorem Je3 {c:AV} (h:Jb3 c=true) {w:World} {X:Nat→Nat→Prop} {g:List Nat} {u:Value} (hr:Rep w X g c u):u.oneCell'=true:=by
 cases hr <;> first | rfl | (simp [Jb3] at h;done) | skip
 cases u <;> first | rfl | (simp [Jb3] at h;done)
def Jaa:List AV→Nat→List AV→List AV
 | [],_,vs=> vs
 | c::cs,0,vs=> vs++(c::cs).drop vs.length
 | c::cs,n+1,vs=> c::Jaa cs n vs
theorem JaP:∀(cs:List AV) (off:Nat) (vs:List AV),Jaa cs off vs=cs.take off++(vs++cs.drop (off+vs.length))
 | [],_,vs=> by simp [Jaa]
 | c::cs,0,vs=> by simp [Jaa]
 | c::cs,n+1,vs=> by
   rw [Jaa,JaP cs n vs,Nat.add_right_comm];simp
theorem JcW {α:Type} (cs vs:List α) (off:Nat) (h:off+vs.length≤cs.length) (k:Nat):(cs.take off++(vs++cs.drop (off+vs.length)))[k]? =if k < off then cs[k]? else if k < off+vs.length then vs[k - off]? else cs[k]? :=by
 rw [List.getElem?_append]
 have e1:(cs.take off).length=off:=by simp;omega
 rw [e1]
 split
 ·rename_i hk;rw [List.getElem?_take,if_pos hk]
 ·rename_i hk
  rw [List.getElem?_append];by_cases h2:k < off+vs.length
  ·rw [if_pos Om,if_pos h2]
  ·rw [if_neg Om,if_neg h2,List.getElem?_drop]
   congr 1
   omega
theorem Jia {o:Oper} {t:TypeId} {p x:Operand} {E:Env} {K:Env→Prop} {i:Id} {off:Nat} {cs:List AV} (ho:o.op= .store t p x) (hp:E.ev p= .bp i off) (hcs:Jbm i.1 E.h.bx=some (i.2,cs))
 (hc:Jct (E.ev x)=true) (h1:(E.ev x).cells.all Jb3=true) (ht:(P.underlying t).isSome=true) (hsz:Nat.beq (E.ev x).cells.length (P.cellsOf t)=true) (hle:off+(E.ev x).cells.length≤cs.length)
 (hk:K (({ E with h:= { E.h with bx:=JeN i.1 (Jaa cs off (E.ev x).cells) E.h.bx}}:Env).set o.dst .any)):AOp P o E K:=by
 intro ro X M w0 a w g hs next Q hn hpan
 obtain ⟨d,hd⟩:=Option.isSome_iff_exists.1 ht
 obtain ⟨q1,q2⟩:=Jh5 hc (hs.ev x)
 have hmem:=Jf3 hcs
 obtain ⟨b,hg,vs,e,hb,hvs,hr⟩:=hs.hok.bx _ hmem
 dsimp only at hg hvs hr
 have hpa:=hs.ev p
 rw [hp] at hpa
 have hpv:a.eval p= .pointer (some ⟨b,off,none⟩):=by
  generalize a.eval p=u at hpa;cases hpa with
  | bp _ _ b' hg'=> rw [hg] at hg';cases hg';rfl
 have hone:∀u∈(a.eval x).cells.toList,u.oneCell'=true:=by
  intro u hu;obtain ⟨k,hk',hu'⟩:=List.getElem_of_mem hu;have hlt:k < (E.ev x).cells.length:=by rw [← q1];exact hk'
  have:=q2 k _ u (List.getElem?_eq_getElem hlt) (by rw [List.getElem?_eq_getElem hk',hu']);exact Je3 (List.all_eq_true.1 h1 _ (List.getElem_mem hlt)) this
 have hlen:(a.eval x).cells.toList.length=(E.ev x).cells.length:=q1
 have hL:(a.eval x).cells.size=(E.ev x).cells.length:=by rw [← hlen];simp
 have hst:=run_storeCells_at P b off e (a.eval x).cells.toList 0 vs w hb Om hone
 simp only [Nat.add_zero] at hst
 have hcz:(a.eval x).cells.size=P.cellsOf t:=by rw [← Nat.eq_of_beq_eq_true hsz,← hlen];simp
 have hrun:(execOp a.eval o).run P w= .ok .skip (w.setRow b (vs.toList.take off++(a.eval x).cells.toList++vs.toList.drop (off+(a.eval x).cells.toList.length)).toArray):=by
  unfold execOp;simp only [ho,hpv,Instr.storeAt,Instr.sureAddr,storeVar];simp only [Sem.run_bind,Sem.run_pure,Result.andThen_ok,Ju hd,hcz,ne_eq,not_true_eq_false,if_false,hst]
 have hnew:=hs.setRow (cs:=Jaa cs off (E.ev x).cells) (vs:=(vs.toList.take off++(a.eval x).cells.toList++vs.toList.drop (off+(a.eval x).cells.toList.length)).toArray) hcs hg hb
  (by simp only [JaP,List.length_append,List.length_take,List.length_drop,Array.length_toList];omega)
  (by simp only [List.size_toArray,List.length_append,List.length_take,List.length_drop,Array.length_toList];omega)
  (fun k c u hk1 hk2=> by
    simp only [List.append_assoc] at hk2;rw [JcW _ _ _ (by simp only [Array.length_toList];omega)] at hk2;rw [JaP] at hk1;rw [JcW _ _ _ hle] at hk1;rw [hlen] at hk2;split at hk1
    ·rename_i h2;rw [if_pos h2] at hk2;exact hr k c u hk1 (by simpa using hk2)
    ·rename_i h2
     rw [if_neg h2] at hk2;split at hk1
     ·rename_i h3;rw [if_pos h3] at hk2;exact q2 _ c u hk1 hk2
     ·rename_i h3;rw [if_neg h3] at hk2;exact hr k c u hk1 (by simpa using hk2))
 refine Jx (by rw [ho];intro c h;cases h) ?_
 rw [hrun]
 exact hn _ _ _ g hk (fun _ _ h=> h) (hnew.put o.dst (.any _))
def Jbv (nm:Nat):List (Id×Nat)→List (Id×Nat)
 | []=> []
 | p::l=> bif Nat.beq p.1.1 nm then l else p::Jbv nm l
def Jbb (nm:Nat):List (Id×Nat)→Option (Nat×Nat)
 | []=> none
 | p::l=> bif Nat.beq p.1.1 nm then some (p.1.2,p.2) else Jbb nm l
theorem JgK {nm s n:Nat}:∀ {l:List (Id×Nat)},Jbb nm l=some (s,n)→((nm,s),n)∈l
 | [],h=> by simp [Jbb] at h
 | p::l,h=> by
   unfold Jbb at h;cases hb:Nat.beq p.1.1 nm with
   | true=>
     simp only [hb,cond_true,Option.some.injEq,Prod.mk.injEq] at h;have:=Nat.eq_of_beq_eq_true hb;obtain ⟨⟨p1,p2⟩,p3⟩:=p;simp only at this h;obtain ⟨rfl,rfl⟩:=h;subst this;simp
   | false=> simp only [hb,cond_false] at h;exact List.mem_cons_of_mem _ (JgK h)
theorem permErase_sub {nm:Nat}:∀ {l:List (Id×Nat)},(Jbv nm l).Sublist l
 | []=> List.Sublist.refl _
 | p::l=> by
   unfold Jbv;cases Nat.beq p.1.1 nm
   ·exact (permErase_sub (l:=l)).cons_cons _
   ·exact List.sublist_cons_self _ _
theorem Jev {nm s n:Nat}:∀ {l:List (Id×Nat)} {p:Id×Nat},(l.map (·.1.2)).Nodup→Jbb nm l=some (s,n)→p∈Jbv nm l→p.1.2≠s
 | [],p,_,_,h=> by simp [Jbv] at h
 | q::l,p,hn,hg,h=> by
   simp only [List.map_cons,List.nodup_cons] at hn;unfold Jbv at h;unfold Jbb at hg;cases hb:Nat.beq q.1.1 nm with
   | true=>
     simp only [hb,cond_true,Option.some.injEq,Prod.mk.injEq] at h hg;obtain ⟨rfl,rfl⟩:=hg;intro e;exact hn.1 (List.mem_map.2 ⟨p,h,e⟩)
   | false=>
     simp only [hb,cond_false,List.mem_cons] at h hg;rcases h with rfl | h
     ·intro e;have:=JgK hg;exact hn.1 (List.mem_map.2 ⟨_,this,e.symm⟩)
     ·exact Jev hn.2 hg h
def JeO (oi:Option Id) (l:List (Id×Nat)):List (Id×Nat):=
 match oi with
 | some i=> Jbv i.1 l
 | none=> l
def Heap.grow (h:Heap) (oi:Option Id) (n:Nat):Heap:=
 ⟨h.bx,((h.nn,h.nx),n)::JeO oi h.pm,h.nx+1,h.nn+1⟩
def JcD (n:Nat) (f f':Nat→AV):Nat→AV:=fun k=> bif Nat.blt k n then f k else f' (k - n)
theorem St.grow {ro:Option Nat} {X M:Nat→Nat→Prop} {w0:World} {E:Env} {a:Act} {w w':World} {g:List Nat} (hs:St ro X M w0 E a w g) (oi:Option Id) (hperm:∀i,oi=some i→∃m,Jbb i.1 E.h.pm=some (i.2,m)) (n:Nat) {blk:Nat} {vs:Array Value} {e:TypeId}
 (hb:w'.heap[blk]? =some (.cells vs e (0,0))) (hn:n≤vs.size) (hblk:w.heap.size≤blk∨∃i m,oi=some i∧(i,m)∈E.h.pm∧g[i.2]? =some blk∧m≤n)
 (hev:Evo (fun b o=> ∃i m,oi=some i∧(i,m)∈E.h.pm∧g[i.2]? =some b∧m≤o) w w'):
 St ro X M w0 { E with h:=E.h.grow oi n} a w' (g++ [blk])∧Stays w (excl X g E.h) g w' (excl X (g++ [blk]) (E.h.grow oi n)) (g++ [blk]):=by
 have hk:=hs.hok
 have hgi:∀(i b:Nat),g[i]? =some b→(g++ [blk])[i]? =some b:=fun i b h=> by
  rw [List.getElem?_append_left (List.getElem?_eq_some_iff.1 h).1];exact h
 have hgn:(g++ [blk])[E.h.nx]? =some blk:=by rw [hk.nx];simp
 have hgd:∀i,i < g.length→(g++ [blk])[i]? =g[i]? :=fun i h=> List.getElem?_append_left h
 have hpmn:(E.h.pm.map (·.1.2)).Nodup:=by
  have:=hk.nodup;unfold Heap.ids at this;rw [List.map_append] at this;exact (List.pairwise_map.1 (List.nodup_append.1 this).2.1).imp fun h e=> h (by rw [e])
 have hsub:∀p,p∈(JeO oi E.h.pm)→p∈E.h.pm:=by
  intro p hp;cases oi with
  | none=> exact hp
  | some i=> exact permErase_sub.subset hp
 have hsubl:(JeO oi E.h.pm).Sublist E.h.pm:=by
  cases oi with
  | none=> exact List.Sublist.refl _
  | some i=> exact permErase_sub
 have hbxI:∀p∈E.h.bx,p.1.2∈E.h.ids:=fun p hp=> List.mem_append_left _ (List.mem_map.2 ⟨p,hp,rfl⟩)
 have hpmI:∀p∈E.h.pm,p.1.2∈E.h.ids:=fun p hp=> List.mem_append_right _ (List.mem_map.2 ⟨p,hp,rfl⟩)
 have hex:∀b o,b < w.heap.size→excl X (g++ [blk]) (E.h.grow oi n) b o→excl X g E.h b o:=by
  intro b o hb' hx;rcases hx with hx | ⟨p,hp,hg⟩ | ⟨p,hp,hg,hle⟩
  ·exact .inl hx
  ·simp only [Heap.grow] at hp;rw [hgd _ (JbG hk (hbxI p hp))] at hg;exact .inr (.inl ⟨p,hp,hg⟩)
  ·simp only [Heap.grow,List.mem_cons] at hp;rcases hp.symm with hp | rfl
   ·rw [hgd _ (JbG hk (hpmI p (hsub p hp)))] at hg;exact .inr (.inr ⟨p,hsub p hp,hg,hle⟩)
   ·dsimp only at hg hle;rw [hgn] at hg;cases hg;rcases hblk with hblk | ⟨i,m,_,h2,h3,h4⟩
    ·omega
    ·exact .inr (.inr ⟨(i,m),h2,h3,by dsimp only;omega⟩)
 have hm:∀b o,b < w.heap.size→(∃i m,oi=some i∧(i,m)∈E.h.pm∧g[i.2]? =some b∧m≤o)→excl none2 g E.h b o:=by
  rintro b o _ ⟨i,m,_,h2,h3,h4⟩;exact .inr (.inr ⟨(i,m),h2,h3,h4⟩)
 have hst:Stays w (excl X g E.h) g w' (excl X (g++ [blk]) (E.h.grow oi n)) (g++ [blk]):=hev.stays (fun b o h1 h2=> Jas (hm b o h1 h2)) hex hgi
 have hblkne:∀i∈E.h.ids,(∀j:Id,oi=some j→i≠j.2)→g[i]? ≠some blk:=by
  intro i hi hne hgb;rcases hblk with hblk | ⟨j,m,h1,h2,h3,_⟩
  ·obtain ⟨b',hb',hlt⟩:=JbY hk hi;rw [hb'] at hgb;cases hgb;omega
  ·exact Jg0 hk (hpmI _ h2) hi (fun e=> hne j h1 e.symm) h3 hgb
 have hsame:∀p∈E.h.bx,∀b o,g[p.1.2]? =some b→w.heap[b]? =some o→w'.heap[b]? =some o:=by
  intro p hp b o hg ho;rw [hev.blk b (Jl ho)]
  ·exact ho
  ·rintro o' ⟨i,m,h1,h2,h3,_⟩;have:=hk.nodup;unfold Heap.ids at this;rw [List.map_append] at this;exact (List.nodup_append.1 this).2.2 _ (List.mem_map.2 ⟨p.1.2,List.mem_map.2 ⟨p,hp,rfl⟩,rfl⟩) _ (List.mem_map.2 ⟨i.2,List.mem_map.2 ⟨_,h2,rfl⟩,rfl⟩) (by rw [hg,h3])
 refine ⟨⟨⟨?_, ?_, ?_, ?_, ?_,hk.kn.stays hst⟩,fun k=> (hs.tm k).stays hst,hs.n,hs.evo.and_then hev (fun b o hb' hx=> hs.loc b o (hm b o (Nat.lt_of_lt_of_le hb' hs.evo.size) hx) hb'), ?_,hs.def_.stays hst, ?_,hs.top,hs.rnd⟩,hst⟩
 ·intro p hp;obtain ⟨b,h1,h2⟩:=hk.bx p hp;have hl:=h2.lt;exact ⟨b,hgi _ _ h1,h2.stays hst ((hsame p hp b _ h1 (Array.getElem?_eq_getElem hl)).trans (Array.getElem?_eq_getElem hl).symm)⟩
 ·intro p hp;simp only [Heap.grow,List.mem_cons] at hp;rcases hp.symm with hp | rfl
  ·obtain ⟨b,vs',e',h1,h2,h3⟩:=hk.pm p (hsub p hp);refine ⟨b,vs',e',hgi _ _ h1,(hev.blk b (Jl h2) ?_).trans h2,h3⟩;rintro o' ⟨i,m,rfl,q2,q3,_⟩;obtain ⟨m',hm'⟩:=hperm i rfl;exact Jg0 hk (hpmI _ q2) (hpmI p (hsub p hp)) (Ne.symm (Jev hpmn hm' hp)) q3 h1
  ·exact ⟨blk,vs,e,hgn,hb,hn⟩
 ·have hnd:=hk.nodup;unfold Heap.ids at hnd⊢;simp only [Heap.grow,List.map_append,List.map_cons,hgn];rw [List.map_append] at hnd;obtain ⟨n1,n2,n3⟩:=List.nodup_append.1 hnd;have e1:(E.h.bx.map (·.1.2)).map (fun i=> (g++ [blk])[i]?)=(E.h.bx.map (·.1.2)).map (fun i=> g[i]?):=List.map_congr_left fun i hi=> by
   obtain ⟨p,hp,rfl⟩:=List.mem_map.1 hi;exact hgd _ (JbG hk (hbxI p hp))
  have e2:((JeO oi E.h.pm).map (·.1.2)).map (fun i=> (g++ [blk])[i]?)=((JeO oi E.h.pm).map (·.1.2)).map (fun i=> g[i]?):=
   List.map_congr_left fun i hi=> by
    obtain ⟨p,hp,rfl⟩:=List.mem_map.1 hi;exact hgd _ (JbG hk (hpmI p (hsub p hp)))
  refine (List.Perm.append_left _ (List.perm_append_singleton _ _).symm).nodup_iff.2 ?_;rw [e1,e2];refine List.nodup_append.2 ⟨n1,List.nodup_append.2 ⟨?_,by simp, ?_⟩, ?_⟩
  ·exact n2.sublist ((hsubl.map _).map _)
  ·intro x hx y hy he;subst he;simp at hy;subst hy;obtain ⟨i,hi,hib⟩:=List.mem_map.1 hx;obtain ⟨p,hp,rfl⟩:=List.mem_map.1 hi;refine hblkne p.1.2 (hpmI p (hsub p hp)) (fun j hj=> ?_) hib;subst hj;obtain ⟨m,hm⟩:=hperm j rfl;exact Jev hpmn hm hp
  ·intro x hx y hy he;subst he;rcases List.mem_append.1 hy with hy | hy
   ·refine n3 x hx x ?_ rfl;exact ((hsubl.map _).map _).subset hy
   ·simp at hy;subst hy;obtain ⟨i,hi,hib⟩:=List.mem_map.1 hx;obtain ⟨p,hp,rfl⟩:=List.mem_map.1 hi;refine hblkne p.1.2 (hbxI p hp) (fun j hj e=> ?_) hib;subst hj;rcases hblk with hblk | ⟨i,m,h1,h2,h3,_⟩
    ·obtain ⟨b',hb',hlt⟩:=JbY hk (hbxI p hp);rw [hb'] at hib;cases hib;omega
    ·cases h1;exact n3 _ (List.mem_map.2 ⟨p.1.2,List.mem_map.2 ⟨p,hp,rfl⟩,rfl⟩) _ (List.mem_map.2 ⟨_,List.mem_map.2 ⟨_,h2,rfl⟩,rfl⟩) (by rw [e])
 ·simp [Heap.grow,hk.nx]
 ·intro b o hx;by_cases hb':b < w.heap.size
  ·exact Nat.lt_of_lt_of_le hb' hev.size
  ·rcases hx with hx | ⟨p,hp,hg⟩ | ⟨p,hp,hg,_⟩
   ·have:=hk.bd b o (.inl hx);omega
   ·obtain ⟨b',hb'',hlt⟩:=JbY hk (hbxI p hp);rw [hgi _ _ hb''] at hg;cases hg;omega
   ·simp only [Heap.grow,List.mem_cons] at hp;rcases hp.symm with hp | rfl
    ·obtain ⟨b',hb'',hlt⟩:=JbY hk (hpmI p (hsub p hp));rw [hgi _ _ hb''] at hg;cases hg;omega
    ·dsimp only at hg;rw [hgn] at hg;cases hg;exact Jl hb
 ·intro b o hx hb';refine hs.loc b o ?_ hb';have hb2:b < w.heap.size:=Nat.lt_of_lt_of_le hb' hs.evo.size;rcases hx with hx | ⟨p,hp,hg⟩ | ⟨p,hp,hg,hle⟩
  ·exact hx.elim
  ·simp only [Heap.grow] at hp;rw [hgd _ (JbG hk (hbxI p hp))] at hg;exact .inr (.inl ⟨p,hp,hg⟩)
  ·simp only [Heap.grow,List.mem_cons] at hp;rcases hp.symm with hp | rfl
   ·rw [hgd _ (JbG hk (hpmI p (hsub p hp)))] at hg;exact .inr (.inr ⟨p,hsub p hp,hg,hle⟩)
   ·dsimp only at hg hle;rw [hgn] at hg;cases hg;rcases hblk with hblk | ⟨i,m,_,h2,h3,h4⟩
    ·omega
    ·exact .inr (.inr ⟨(i,m),h2,h3,by dsimp only;omega⟩)
 ·intro b o hx i hi;have hb':=hk.bd b o (.inl hx);have hold:i∈E.h.ids→(g++ [blk])[i]? ≠some b:=fun hi=> by rw [hgd i (JbG hk hi)];exact hs.sep b o hx i hi
  simp only [Heap.ids,Heap.grow,List.map_append,List.map_cons,List.map_nil,List.mem_append,List.mem_cons] at hi;rcases (hi.imp id Or.symm) with hi | hi | rfl
  ·exact hold (List.mem_append_left _ hi)
  ·obtain ⟨p,hp,rfl⟩:=List.mem_map.1 hi;exact hold (hpmI p (hsub p hp))
  ·rw [hgn];intro e;cases e;rcases hblk with hblk | ⟨i,m,_,h2,h3,_⟩
   ·omega
   ·exact hs.sep _ o hx i.2 (hpmI _ h2) h3
def Jcu (m:Nat) (f:Nat→AV):Prop:=∀k,k < m→(f k).cells.all Jb3=true
theorem JG {f:Nat→AV} (h:(f 0).cells.all Jb3=true):Jcu 1 f:=fun k hk=> by
 obtain rfl:k=0:=by omega
 exact h
def Jbc (P:Program) (e:TypeId):Bool:=
 match P.info? e with
 | some i=> match i.zero with
   | some z=> Nat.beq z.cells.size i.size&& Nat.blt 0 i.size
   | none=> false
 | none=> false
theorem Je4 {e:TypeId} (h:Jbc P e=true):∃i z,P.info? e=some i∧i.zero=some z∧z.cells.size=P.cellsOf e∧i.size=P.cellsOf e∧0 < P.cellsOf e∧i.bytes=P.bytesOf e:=by
 unfold Jbc at h
 cases hi:P.info? e with
 | none=> simp [hi] at h
 | some i=>
   simp only [hi] at h;cases hz:i.zero with
   | none=> simp [hz] at h
   | some z=>
     simp only [hz,Bool.and_eq_true] at h;have h1:=Nat.eq_of_beq_eq_true h.1;have h2:=JbF h.2;have h3:P.cellsOf e=i.size:=(by simp [Program.cellsOf,hi]);exact ⟨i,z,rfl,hz,by rw [h3,h1],h3.symm,by omega,by simp [Program.bytesOf,hi]⟩
theorem Jh1 (w:World) (t ty e e':TypeId) (i:TypeInfo) (ht:P.underlying t=some (.slice e)) (hi:P.info? e=some i)
 (g sLen sCap:Nat) (cur:Array Value) (hg:w.heap[g]? =some (.cells cur e' (0,0)))
 (a:Addr) (m c:Nat) (news:List Value) (hl:news.length=m * i.size) (hnews:∀(j:Nat) (u:Value),news[j]? =some u→w.cell? (a.add j)=some u) (h1:∀u∈news,u.oneCell'=true)
 (hroom:sLen+m≤sCap) (hfit:sLen * i.size+news.length≤cur.size):
 (Builtin.append_ #[t,t] ty #[.slice (some ⟨g,0,none⟩) sLen sCap, .slice (some a) m c]).run P w=
   .ok (.slice (some ⟨g,0,none⟩) (sLen+m) sCap) (w.setRow g (cur.toList.take (sLen * i.size)++news++cur.toList.drop (sLen * i.size+news.length)).toArray):=by
 have hf:=run_firstCells_some (P:=P) w i.size m a m c news hl hnews
 have hst:=run_storeCells_at P g (sLen * i.size) e' news 0 cur w hg (by simpa using hfit) h1
 simp only [Nat.add_zero] at hst
 simp [Builtin.append_,run_underlying ht,sizeOf,typeInfo,hi,Builtin.lenOf,hroom,hf,Addr.add_lit,hst]
theorem JrC {w:World} {X:Nat→Nat→Prop} {g:List Nat} {sz n m:Nat} {f f':Nat→AV} {olds news:List Value} (ho:olds.length=n * sz) (hl:news.length=m * sz)
 (hr:∀(i j:Nat) (c:AV) (u:Value),i < n→(f i).cells[j]? =some c→olds[i * sz+j]? =some u→Rep w X g c u)
 (hr':∀(i j:Nat) (c:AV) (u:Value),i < m→(f' i).cells[j]? =some c→news[i * sz+j]? =some u→Rep w X g c u)
 (hc:∀i,i < n→(f i).cells.length=sz) (hc':∀i,i < m→(f' i).cells.length=sz):
 (∀i,i < n+m→(JcD n f f' i).cells.length=sz)∧
 (∀(i j:Nat) (c:AV) (u:Value),i < n+m→(JcD n f f' i).cells[j]? =some c→(olds++news)[i * sz+j]? =some u→Rep w X g c u):=by
 have lo:∀i,i < n→JcD n f f' i=f i:=fun i h=> by simp [JcD,JiZ.2 h]
 have hi:∀i,n≤i→JcD n f f' i=f' (i - n):=fun i h=> by
  have:Nat.blt i n=false:=by cases h':Nat.blt i n with | true=> exact absurd (JbF h') Om | false=> rfl
  simp [JcD,this]
 refine ⟨fun i h=> ?_,fun i j c u h hj hu=> ?_⟩
 ·by_cases hn:i < n
  ·rw [lo i hn];exact hc i hn
  ·rw [hi i Om];exact hc' _ Om
 ·by_cases hn:i < n
  ·rw [lo i hn] at hj;have hjl:j < sz:=by rw [← hc i hn];exact (List.getElem?_eq_some_iff.1 hj).1
   have hle:(i+1) * sz≤n * sz:=Nat.mul_le_mul_right _ hn;rw [Nat.add_mul,Nat.one_mul] at hle;rw [List.getElem?_append_left Om] at hu;exact hr i j c u hn hj hu
  ·rw [hi i Om] at hj;have hle:n * sz≤i * sz:=Nat.mul_le_mul_right _ Om;rw [List.getElem?_append_right Om] at hu;refine hr' (i - n) j c u Om hj ?_;rw [Nat.sub_mul,← ho];have e:i * sz+j - olds.length=i * sz - olds.length+j:=by omega
   rw [← e];exact hu
theorem JmC {x:Value} {sz m:Nat} {f:Nat→AV} {w:World} {X:Nat→Nat→Prop} {g:List Nat} (h:Rep w X g (.sl sz m f) x) (hm:m≠0):
 ∃(a:Addr) (cap:Nat) (news:List Value),x= .slice (some a) m cap∧news.length=m * sz∧(∀(j:Nat) (u:Value),news[j]? =some u→w.cell? (a.add j)=some u)∧
  (∀i,i < m→(f i).cells.length=sz)∧(∀(i j:Nat) (c:AV) (u:Value),i < m→(f i).cells[j]? =some c→news[i * sz+j]? =some u→Rep w X g c u):=by
 cases h with
 | sl0=> exact absurd rfl hm
 | sl _ _ _ b off cap vs hlen hcap hcell hcs hr=> exact ⟨⟨b,off,none⟩,cap,vs,rfl,hlen,fun j u hu=> by rw [J1];exact (hcell j u hu).1,hcs,hr⟩
def Jou (E:Env) (x:Operand) (szx m:Nat) (f':Nat→AV):Prop:=∀ro X M w0 a w g,St ro X M w0 E a w g→(m=0→∃xb xc,a.eval x= .slice xb 0 xc)∧(m≠0→∃(ax:Addr) (xcap:Nat) (news:List Value),a.eval x= .slice (some ax) m xcap∧news.length=m * szx∧(∀(j:Nat) (u:Value),news[j]? =some u→w.cell? (ax.add j)=some u)∧
 (∀i,i < m→(f' i).cells.length=szx)∧(∀(i j:Nat) (c:AV) (u:Value),i < m→(f' i).cells[j]? =some c→news[i * szx+j]? =some u→Rep w (excl X g E.h) g c u))
theorem JmD {E:Env} {x:Operand} {szx m:Nat} {f':Nat→AV} (hx:E.ev x= .sl szx m f'∨∃oj,E.ev x= .os szx m f' oj):Jou E x szx m f':=fun ro X M w0 a w g hst=> by
 have hxr:Rep w (excl X g E.h) g (.sl szx m f') (a.eval x):=by
  have:=hst.ev x;rcases hx with hx | ⟨oj,hx⟩
  ·rw [hx] at this;exact this
  ·rw [hx] at this;exact Jdn this
 refine ⟨fun h=> ?_,fun h=> JmC hxr h⟩
 subst h
 generalize a.eval x=ux at hxr
 cases hxr with
 | sl0 _ _ xa xc=> exact ⟨_,_,rfl⟩
 | sl _ _ _ b off cap vs hlen' hcap=> exact ⟨_,_,rfl⟩
theorem JqD {o:Oper} {E:Env} {K:Env→Prop} {s x:Operand} {t e:TypeId} {sz n szx m:Nat} {f f':Nat→AV} {oi:Option Id}
 (ho:o.op= .call { callee:= .builtin .append,args:= #[s,x],argTypes:= #[t,t]}) (hs:E.ev s= .os sz n f oi)
 (hx:Jou E x szx m f')
 (ht:P.underlying t=some (.slice e)) (hg:Jbc P e=true) (hsz:(n=0∧oi=none)∨sz=P.cellsOf e) (hszx:m=0∨szx=P.cellsOf e)
 (hperm:∀i,oi=some i→Jbb i.1 E.h.pm=some (i.2,n * P.cellsOf e)) (hone:Jcu m f')
 (hroom0:m≠0→(n+m) * P.bytesOf e≤140737488355328) (hlen0:m≠0→n+m≤9223372036854775807)
 (hk0:m=0→K (E.set o.dst (.os sz n f oi)))
 (hk1:m≠0→K (({ E with h:=E.h.grow oi ((n+m) * P.cellsOf e)}:Env).set o.dst (.os (P.cellsOf e) (n+m) (JcD n f f') (some (E.h.nn,E.h.nx))))):AOp P o E K:=by
 intro ro X M w0 a w g hst next Q hn hpan
 obtain ⟨inf,z,hi,hz,hzs,hsi,hpos,hby⟩:=Je4 hg
 have hsr:=hst.ev s
 rw [hs] at hsr
 obtain ⟨hx0,hx1⟩:=hx ro X M w0 a w g hst
 have hexec:∀ {u:Value} {w':World},(Builtin.append_ #[t,t] o.type #[a.eval s,a.eval x]).run P w= .ok u w'→(execOp a.eval o).run P w= .ok (.value u) w':=by
  intro u w' h;unfold execOp;simp only [ho,resolve];simp [invoke,builtin,h]
 by_cases hm:m=0
 ·
  subst hm;have hrun:(Builtin.append_ #[t,t] o.type #[a.eval s,a.eval x]).run P w= .ok (a.eval s) w:=by
   have hdesc:((match P.underlying t with | some (.int _)=> true | _=> false)=false):=by rw [ht]
   have key:∀(base:Option Addr) (cap:Nat) (xb:Option Addr) (xc:Nat),n≤cap→(Builtin.append_ #[t,t] o.type #[.slice base n cap, .slice xb 0 xc]).run P w= .ok (.slice base n cap) w:=by
    intro base cap xb xc hcap;have hfc:(Builtin.firstCells inf.size 0 (.slice xb 0 xc)).run P w= .ok #[] w:=by
     cases xb with
     | none=> simp [Builtin.firstCells]
     | some ad=> simpa using run_firstCells_some (P:=P) w inf.size 0 ad 0 xc [] Si Si
    cases base <;> simp [Builtin.append_,run_underlying ht,sizeOf,typeInfo,hi,Builtin.lenOf,hcap,hfc,storeCells]
   obtain ⟨xb,xc,he⟩:=hx0 rfl;clear hx0 hx1;rw [he];generalize a.eval s=us at hsr;cases hsr with
   | os0=> exact key _ _ _ _ (Nat.le_refl _)
   | osn=> exact key _ _ _ _ (Nat.le_refl _)
   | oss _ _ _ i b cap vs hg' hlen' hcap=> exact key _ _ _ _ hcap
  refine Jx (by rw [ho];intro c h;cases h) ?_;rw [hexec hrun];have:=hst.ev s;rw [hs] at this;exact hn _ _ _ g (hk0 rfl) (fun _ _ h=> h) (hst.put o.dst this)
 ·have hroom:=hroom0 hm;have hlen:=hlen0 hm;have hszx':szx=P.cellsOf e:=hszx.resolve_left hm;subst hszx';obtain ⟨ax,xcap,news,hxv,hnl,hncell,hncs,hnr⟩:=hx1 hm;clear hx0 hx1;have hnone:∀u∈news,u.oneCell'=true:=by
   intro u hu;obtain ⟨k,hk,hku⟩:=List.getElem_of_mem hu;have hdm:=Nat.div_add_mod k (P.cellsOf e);have hmod:=Nat.mod_lt k hpos;have hdiv:k / P.cellsOf e < m:=by
    rw [Nat.div_lt_iff_lt_mul hpos];omega
   have hlt:k % P.cellsOf e < (f' (k / P.cellsOf e)).cells.length:=by rw [hncs _ hdiv];exact hmod
   have hrep:=hnr (k / P.cellsOf e) (k % P.cellsOf e) _ u hdiv (List.getElem?_eq_getElem hlt) (by
    rw [Nat.mul_comm,hdm,List.getElem?_eq_getElem hk,hku])
   exact Je3 (List.all_eq_true.1 (hone _ hdiv) _ (List.getElem_mem hlt)) hrep
  have h63:((n+m:Nat):Int)≤9223372036854775807:=by omega
  have fresh:∀ {us:Value} {olds:List Value},a.eval s=us→olds.length=n * P.cellsOf e→(∀i,i < n→(f i).cells.length=P.cellsOf e)→
   (∀(i j:Nat) (c:AV) (u:Value),i < n→(f i).cells[j]? =some c→olds[i * P.cellsOf e+j]? =some u→Rep w (excl X g E.h) g c u)→
   (∃ncap,n+m≤ncap∧(Builtin.append_ #[t,t] o.type #[us,a.eval x]).run P w= .ok (.slice (some ⟨w.heap.size,0,none⟩) (n+m) ncap) (w.drew.alloc (.cells (olds.toArray++news.toArray++Builtin.zeroCells z.cells (ncap - (n+m))) e)))→
   o.wpIn (Fr ro) 0 P a w next Q:=by
   intro us olds hus hol hcs hor ⟨ncap,hnc,hrun⟩;obtain ⟨q1,q2⟩:=JrC (w:=w) (X:=excl X g E.h) (g:=g) hol hnl hor hnr hcs hncs;have hsize:(olds.toArray++news.toArray++Builtin.zeroCells z.cells (ncap - (n+m))).size=ncap * P.cellsOf e:=by
    simp only [Array.size_append,List.size_toArray,size_zeroCells,hzs,hol,hnl,← Nat.add_mul]
    congr 1;omega
   have hnm:(n+m) * P.cellsOf e≤ncap * P.cellsOf e:=Nat.mul_le_mul_right _ hnc;have hblk:(w.drew.alloc (.cells (olds.toArray++news.toArray++Builtin.zeroCells z.cells (ncap - (n+m))) e)).heap[w.heap.size]? =some (.cells (olds.toArray++news.toArray++Builtin.zeroCells z.cells (ncap - (n+m))) e (0,0)):=heap_alloc_new w.drew _;have hev0:Evo none2 w (w.drew.alloc (.cells (olds.toArray++news.toArray++Builtin.zeroCells z.cells (ncap - (n+m))) e)):=(Jf4 w).trans (Jh8 w.drew _);obtain ⟨h3,h4⟩:=hst.grow oi (fun i hi=> ⟨_,hperm i hi⟩) ((n+m) * P.cellsOf e) hblk (by rw [hsize];exact hnm) (.inl (Nat.le_refl _)) (hev0.mono fun _ _ _ x=> x.elim);refine Jx (by rw [ho];intro c h;cases h) ?_;rw [hexec (hus ▸ hrun)];refine hn _ _ _ _ (hk1 hm) (fun i b h=> by rw [List.getElem?_append_left (List.getElem?_eq_some_iff.1 h).1];exact h) (h3.put o.dst ?_);refine .oss _ _ _ _ w.heap.size ncap (olds++news) (by rw [hst.hok.nx];simp) (by rw [List.length_append,hol,hnl,Nat.add_mul]) hnc (fun k u hk=> ⟨?_, ?_⟩) (fun k hk=> ?_) q1 (fun i j c u hi hj hu=> (q2 i j c u hi hj hu).stays h4)
   ·rw [Jz hblk];have hklt:=(List.getElem?_eq_some_iff.1 hk).1;rw [Array.getElem?_append_left (by simpa using hklt)];have e:olds.toArray++news.toArray=(olds++news).toArray:=Si;rw [e];simpa using hk
   ·have hklt:=(List.getElem?_eq_some_iff.1 hk).1;rw [List.length_append,hol,hnl,← Nat.add_mul] at hklt;rintro (hx | ⟨p,hp,hg'⟩ | ⟨p,hp,hg',hle⟩)
    ·exact absurd (hst.hok.bd _ _ (.inl hx)) (Nat.lt_irrefl _)
    ·obtain ⟨b',hb',hlt⟩:=JbY hst.hok (List.mem_append_left _ (List.mem_map.2 ⟨p,hp,rfl⟩):p.1.2∈E.h.ids);rw [List.getElem?_append_left (List.getElem?_eq_some_iff.1 hb').1,hb'] at hg';cases hg';omega
    ·simp only [Heap.grow,List.mem_cons] at hp;rcases hp.symm with hp | rfl
     ·have hpm:p∈E.h.pm:=by
       cases oi with
       | none=> exact hp
       | some i=> exact permErase_sub.subset hp
      obtain ⟨b',hb',hlt⟩:=JbY hst.hok (List.mem_append_right _ (List.mem_map.2 ⟨p,hpm,rfl⟩):p.1.2∈E.h.ids);rw [List.getElem?_append_left (List.getElem?_eq_some_iff.1 hb').1,hb'] at hg';cases hg';omega
     ·dsimp only at hle;omega
   ·rw [Jz hblk];exact ⟨_,Array.getElem?_eq_getElem (by rw [hsize];exact hk)⟩
  generalize hus:a.eval s=us at hsr;cases hsr with
  | os0 _ _ ad=>
    refine fresh (olds:= []) hus Si (fun i hi=> by omega) (fun i j c u hi=> by omega) ?_;rw [hxv];cases ad with
    | none=>
      have hr:=run_append_nil (P:=P) w t o.type e inf z ht hi hz ax m xcap news (by rw [hnl,hsi]) hncell Om Om (by rw [hby];simp only [Nat.zero_add] at hroom;omega);refine ⟨grownCap w m 0 e,by rw [Nat.zero_add];exact grownCap_ge w m 0 e, ?_⟩;simp only [Nat.zero_add];rw [hr];simp
    | some ad=>
      have hr:=run_append_grow (P:=P) w t o.type e inf z ht hi hz ad 0 0 [] Si Si ax m xcap news (by rw [hnl,hsi]) hncell Om Om (growslice_fits Om (by rw [hby];exact hroom));exact ⟨_,grownCap_ge w _ 0 e,hr⟩
  | osn _ _ _ b off vs hlen' hcell hcs hr0=>
    have hsz':n * sz=n * P.cellsOf e:=(by rcases hsz with ⟨h,_⟩ | h <;> rw [h] <;> simp);have hr:=run_append_grow (P:=P) w t o.type e inf z ht hi hz ⟨b,off,none⟩ n n vs (by rw [hlen',hsz',hsi]) (fun j u hu=> by rw [J1];exact (hcell j u hu).1) ax m xcap news (by rw [hnl,hsi]) hncell Om Om (growslice_fits Om (by rw [hby];exact hroom));refine fresh (olds:=vs) hus (by rw [hlen',hsz']) (fun i hi=> ?_) (fun i j c u hi hj hu=> ?_) ⟨_,grownCap_ge w _ n e,by rw [hxv];exact hr⟩
    ·rw [hcs i hi];exact hsz.resolve_left (fun h=> absurd h.1 Om)
    ·exact hr0 i j c u hi hj (by rw [hsz.resolve_left (fun h=> absurd h.1 Om)];exact hu)
  | oss _ _ _ i b cap vs hgi hlen' hcap hcell hcroom hcs hr0=>
    have hsz':n * sz=n * P.cellsOf e:=(by rcases hsz with ⟨h,_⟩ | h <;> rw [h] <;> simp);have hcs':∀i,i < n→(f i).cells.length=P.cellsOf e:=fun i hi=> by rw [hcs i hi];exact hsz.resolve_left (fun h=> absurd h.1 Om)
    have hr0':∀(i j:Nat) (c:AV) (u:Value),i < n→(f i).cells[j]? =some c→vs[i * P.cellsOf e+j]? =some u→Rep w (excl X g E.h) g c u:=fun i j c u hi hj hu=>
     hr0 i j c u hi hj (by rw [hsz.resolve_left (fun h=> absurd h.1 Om)];exact hu)
    have hsze:sz=P.cellsOf e:=hsz.resolve_left (fun h=> by cases h.2);by_cases hfit:n+m≤cap
    ·subst hsze;have hpm:=JgK (hperm i rfl);obtain ⟨b',cur,e',hgb',hcur,hle⟩:=hst.hok.pm _ hpm;dsimp only at hgb' hle;rw [hgi] at hgb';cases hgb';have hcapsz:cap * P.cellsOf e≤cur.size:=by
      rcases Nat.eq_zero_or_pos (cap * P.cellsOf e) with h0 | h0
      ·omega
      ·obtain ⟨u,hu⟩:=hcroom (cap * P.cellsOf e - 1) Om;rw [Jz hcur] at hu;have:=(Array.getElem?_eq_some_iff.1 hu).1;omega
     have hnm:(n+m) * P.cellsOf e≤cap * P.cellsOf e:=Nat.mul_le_mul_right _ hfit;rw [Nat.add_mul] at hnm;have hr:=Jh1 (P:=P) w t o.type e e' inf ht hi b n cap cur hcur ax m xcap news (by rw [hnl,hsi]) hncell hnone hfit (by rw [hsi,hnl];omega);rw [hsi] at hr;have holds:cur.toList.take (n * P.cellsOf e)=vs:=by
      apply List.ext_getElem?;intro k;rw [List.getElem?_take];split
      ·rename_i hk
       have hk':k < vs.length:=Om;have:=(hcell k _ (List.getElem?_eq_getElem hk')).1;rw [Jz hcur] at this;rw [Array.getElem?_toList,this,List.getElem?_eq_getElem hk']
      ·rename_i hk
       rw [List.getElem?_eq_none Om]
     have hnewsz:(cur.toList.take (n * P.cellsOf e)++news++cur.toList.drop (n * P.cellsOf e+news.length)).toArray.size=cur.size:=by
      simp only [List.size_toArray,List.length_append,List.length_take,List.length_drop,Array.length_toList];omega
     have hblk:(w.setRow b (cur.toList.take (n * P.cellsOf e)++news++cur.toList.drop (n * P.cellsOf e+news.length)).toArray).heap[b]? =some (.cells (cur.toList.take (n * P.cellsOf e)++news++cur.toList.drop (n * P.cellsOf e+news.length)).toArray e' (0,0)):=setRow_heap w b cur _ e' _ hcur;have hoth:∀k,k≠b→(w.setRow b (cur.toList.take (n * P.cellsOf e)++news++cur.toList.drop (n * P.cellsOf e+news.length)).toArray).heap[k]? =w.heap[k]? :=fun k hk=> setRow_other w b k _ hk;have hcells:∀k,(cur.toList.take (n * P.cellsOf e)++news++cur.toList.drop (n * P.cellsOf e+news.length)).toArray[k]? =if k < n * P.cellsOf e then cur[k]? else if k < n * P.cellsOf e+news.length then news[k - n * P.cellsOf e]? else cur[k]? :=by
      intro k;rw [List.getElem?_toArray,List.append_assoc,JcW _ _ _ (by simp only [Array.length_toList];omega)];simp
     have hev:Evo (fun b' o=> ∃i' m',some i=some i'∧(i',m')∈E.h.pm∧g[i'.2]? =some b'∧m'≤o) w (w.setRow b (cur.toList.take (n * P.cellsOf e)++news++cur.toList.drop (n * P.cellsOf e+news.length)).toArray):=by
      refine ⟨rfl,rfl,rfl,by simp,fun k _ hn'=> ?_,fun k o' _ hn'=> ?_,fun k us e'' fz hb'=> ?_,fun k l hl=> ?_⟩
      ·by_cases hkb:k=b
       ·subst hkb;exact absurd ⟨i,_,rfl,hpm,hgi,Nat.le_refl _⟩ (hn' (n * P.cellsOf e))
       ·exact hoth k hkb
      ·by_cases hkb:k=b
       ·subst hkb;rw [Jz hblk,Jz hcur,hcells];have:o' < n * P.cellsOf e:=by
         rcases Nat.lt_or_ge o' (n * P.cellsOf e) with h | h
         ·exact h
         ·exact absurd ⟨i,_,rfl,hpm,hgi,h⟩ hn'
        rw [if_pos this]
       ·exact World.cell?_of_block (a:=⟨k,o',none⟩) (hoth k hkb)
      ·by_cases hkb:k=b
       ·subst hkb;rw [hcur] at hb';cases hb';exact ⟨_,hblk,hnewsz⟩
       ·exact ⟨us,(hoth k hkb).trans hb',rfl⟩
      ·by_cases hkb:k=b
       ·subst hkb;rw [hcur] at hl;cases hl
       ·exact ⟨l,(hoth k hkb).trans hl⟩
     obtain ⟨q1,q2⟩:=JrC (w:=w) (X:=excl X g E.h) (g:=g) hlen' hnl hr0 hnr hcs hncs;obtain ⟨h3,h4⟩:=hst.grow (some i) (fun i hi=> ⟨_,hperm i hi⟩) ((n+m) * P.cellsOf e) hblk (by rw [hnewsz,Nat.add_mul];omega) (.inr ⟨i,_,rfl,hpm,hgi,Nat.mul_le_mul_right _ Om⟩) hev;refine Jx (by rw [ho];intro c h;cases h) ?_;rw [hexec (by rw [hus,hxv];exact hr)];refine hn _ _ _ _ (hk1 hm) (fun i b h=> by rw [List.getElem?_append_left (List.getElem?_eq_some_iff.1 h).1];exact h) (h3.put o.dst ?_);refine .oss _ _ _ _ b cap (vs++news) (by rw [hst.hok.nx];simp) (by rw [List.length_append,hlen',hnl,Nat.add_mul]) hfit (fun k u hk=> ⟨?_, ?_⟩) (fun k hk=> ?_) q1 (fun i j c u hi hj hu=> (q2 i j c u hi hj hu).stays h4)
     ·rw [Jz hblk,hcells];rw [List.getElem?_append] at hk;rw [← hlen'];split at hk
      ·rename_i h;rw [if_pos h]
       have:=(hcell k u hk).1;rw [Jz hcur] at this;exact this
      ·rename_i h
       have hlt:k < vs.length+news.length:=(by have:=(List.getElem?_eq_some_iff.1 hk).1;omega);rw [if_neg h,if_pos hlt];exact hk
     ·have hklt:=(List.getElem?_eq_some_iff.1 hk).1;rw [List.length_append,hlen',hnl,← Nat.add_mul] at hklt;rintro (hx | ⟨p,hp,hg'⟩ | ⟨p,hp,hg',hle'⟩)
      ·exact hst.sep _ _ hx i.2 (List.mem_append_right _ (List.mem_map.2 ⟨_,hpm,rfl⟩)) hgi
      ·have hpI:p.1.2∈E.h.ids:=List.mem_append_left _ (List.mem_map.2 ⟨p,hp,rfl⟩);rw [List.getElem?_append_left (JbG hst.hok hpI)] at hg';have hnd:=hst.hok.nodup;unfold Heap.ids at hnd;rw [List.map_append] at hnd;exact (List.nodup_append.1 hnd).2.2 _ (List.mem_map.2 ⟨p.1.2,List.mem_map.2 ⟨p,hp,rfl⟩,rfl⟩) _ (List.mem_map.2 ⟨i.2,List.mem_map.2 ⟨_,hpm,rfl⟩,rfl⟩) (by rw [hg',hgi])
      ·simp only [Heap.grow,List.mem_cons] at hp;rcases hp.symm with hp | rfl
       ·have hpI:p∈E.h.pm:=permErase_sub.subset hp;have hpids:p.1.2∈E.h.ids:=List.mem_append_right _ (List.mem_map.2 ⟨p,hpI,rfl⟩);rw [List.getElem?_append_left (JbG hst.hok hpids)] at hg';have hnd:=hst.hok.nodup;unfold Heap.ids at hnd;rw [List.map_append] at hnd;have hpmn:(E.h.pm.map (·.1.2)).Nodup:=(List.pairwise_map.1 (List.nodup_append.1 hnd).2.1).imp fun h e=> h (by rw [e]);exact Jg0 hst.hok (List.mem_append_right _ (List.mem_map.2 ⟨_,hpm,rfl⟩):i.2∈E.h.ids) hpids (Ne.symm (Jev hpmn (hperm i rfl) hp)) hgi hg'
       ·dsimp only at hle';omega
     ·rw [Jz hblk];exact ⟨_,Array.getElem?_eq_getElem (by rw [hnewsz];omega)⟩
    ·have hr:=run_append_grow (P:=P) w t o.type e inf z ht hi hz ⟨b,0,none⟩ n cap vs (by rw [hlen',hsz',hsi]) (fun j u hu=> by rw [J1,Nat.zero_add];exact (hcell j u hu).1) ax m xcap news (by rw [hnl,hsi]) hncell Om Om (growslice_fits Om (by rw [hby];exact hroom));exact fresh (olds:=vs) hus (by rw [hlen',hsz']) hcs' hr0' ⟨_,grownCap_ge w _ cap e,by rw [hxv];exact hr⟩
theorem Jcv {o:Oper} {E:Env} {K:Env→Prop} {s x:Operand} {t e:TypeId} {sz n szx m:Nat} {f f':Nat→AV} {oi:Option Id}
 (ho:o.op= .call { callee:= .builtin .append,args:= #[s,x],argTypes:= #[t,t]}) (hs:E.ev s= .os sz n f oi)
 (hx:E.ev x= .sl szx m f'∨∃oj,E.ev x= .os szx m f' oj)
 (ht:P.underlying t=some (.slice e)) (hg:Jbc P e=true) (hsz:(n=0∧oi=none)∨sz=P.cellsOf e) (hszx:m=0∨szx=P.cellsOf e)
 (hperm:∀i,oi=some i→Jbb i.1 E.h.pm=some (i.2,n * P.cellsOf e)) (hone:Jcu m f')
 (hroom0:m≠0→(n+m) * P.bytesOf e≤140737488355328) (hlen0:m≠0→n+m≤9223372036854775807)
 (hk0:m=0→K (E.set o.dst (.os sz n f oi)))
 (hk1:m≠0→K (({ E with h:=E.h.grow oi ((n+m) * P.cellsOf e)}:Env).set o.dst (.os (P.cellsOf e) (n+m) (JcD n f f') (some (E.h.nn,E.h.nx))))):AOp P o E K:=
 JqD ho hs (JmD hx) ht hg hsz hszx hperm hone hroom0 hlen0 hk0 hk1
def AVle (a b:AV):Prop:=∀w X g u,Rep w X g a u→Rep w X g b u
theorem AVle.refl (a:AV):AVle a a:=fun _ _ _ _ h=> h
theorem AVle.trans {a b c:AV} (h:AVle a b) (k:AVle b c):AVle a c:=fun w X g u x=> k w X g u (h w X g u x)
theorem AVle.any (a:AV):AVle a .any:=fun _ _ _ u _=> .any u
theorem AVle.of_eq {a b:AV} (h:a=b):AVle a b:=h ▸ AVle.refl a
theorem AVle.os_sl {sz n:Nat} {f:Nat→AV} {oi:Option Id}:AVle (.os sz n f oi) (.sl sz n f):=fun _ _ _ _ h=> Jdn h
theorem AVle.os_sl0 {sz sz':Nat} {f f':Nat→AV} {oi:Option Id}:AVle (.os sz 0 f oi) (.sl sz' 0 f'):=fun _ _ _ _ h=> by
 cases h with
 | os0=> exact .sl0 _ _ _ _
 | osn=> exact .sl0 _ _ _ _
 | oss=> exact .sl0 _ _ _ _
theorem AVle.os_nil {sz sz':Nat} {f f':Nat→AV}:AVle (.os sz 0 f none) (.os sz' 0 f' none):=fun _ _ _ _ h=> by
 cases h with
 | os0=> exact .os0 _ _ _
 | osn=> exact .os0 _ _ _
theorem AVle.sl_congr {sz n:Nat} {f f':Nat→AV} (hf:∀k,k < n→AVle (f k) (f' k)) (hc:∀k,k < n→(f k).cells.length=sz→(f' k).cells.length=sz∧∀(j:Nat) (c c':AV),(f k).cells[j]? =some c→(f' k).cells[j]? =some c'→AVle c c'):AVle (.sl sz n f) (.sl sz n f'):=fun w X g u h=> by
 cases h with
 | sl0=> exact .sl0 _ _ _ _
 | sl _ _ _ b off cap vs hlen hcap hcell hcs hr=>
   refine .sl _ _ _ b off cap vs hlen hcap hcell (fun i hi=> (hc i hi (hcs i hi)).1) (fun i j c u hi hj hu=> ?_);obtain ⟨q1,q2⟩:=hc i hi (hcs i hi);have hjl:j < (f i).cells.length:=by rw [hcs i hi,← q1];exact (List.getElem?_eq_some_iff.1 hj).1
   exact q2 j _ c (List.getElem?_eq_getElem hjl) hj _ _ _ _ (hr i j _ u hi (List.getElem?_eq_getElem hjl) hu)
theorem AVle.sl_fun {sz n:Nat} {f f':Nat→AV} (hf:∀k,k < n→f k=f' k):AVle (.sl sz n f) (.sl sz n f'):=fun w X g u h=> by
 cases h with
 | sl0=> exact .sl0 _ _ _ _
 | sl _ _ _ b off cap vs hlen hcap hcell hcs hr=> exact .sl _ _ _ b off cap vs hlen hcap hcell (fun i hi=> by rw [← hf i hi];exact hcs i hi) (fun i j c u hi hj hu=> hr i j c u hi (by rw [hf i hi];exact hj) hu)
theorem AVle.os_fun {sz n:Nat} {f f':Nat→AV} {oi:Option Id} (hf:∀k,k < n→f k=f' k):AVle (.os sz n f oi) (.os sz n f' oi):=fun w X g u h=> by
 cases h with
 | os0=> exact .os0 _ _ _
 | osn _ _ _ b off vs hlen hcell hcs hr=> exact .osn _ _ _ b off vs hlen hcell (fun i hi=> by rw [← hf i hi];exact hcs i hi) (fun i j c u hi hj hu=> hr i j c u hi (by rw [hf i hi];exact hj) hu)
 | oss _ _ _ i b cap vs hg hlen hcap hcell hroom hcs hr=> exact .oss _ _ _ i b cap vs hg hlen hcap hcell hroom (fun i hi=> by rw [← hf i hi];exact hcs i hi) (fun i j c u hi hj hu=> hr i j c u hi (by rw [hf i hi];exact hj) hu)
theorem AVle.ag {cs ds:List AV} (hl:cs.length=ds.length) (h:∀(k:Nat) (c d:AV),cs[k]? =some c→ds[k]? =some d→AVle c d):AVle (.ag cs) (.ag ds):=fun w X g u hr=> by
 cases hr with
 | ag _ vs hn hr=>
   refine .ag _ vs (by rw [hn,hl]) fun k d u hd hu=> ?_;have hlt:k < cs.length:=by rw [hl];exact (List.getElem?_eq_some_iff.1 hd).1
   exact h k _ d (List.getElem?_eq_getElem hlt) hd _ _ _ _ (hr k _ u (List.getElem?_eq_getElem hlt) hu)
theorem AVle.tup {cs ds:List AV} (hl:cs.length=ds.length) (h:∀(k:Nat) (c d:AV),cs[k]? =some c→ds[k]? =some d→AVle c d):AVle (.tup cs) (.tup ds):=fun w X g u hr=> by
 cases hr with
 | tup _ vs hn hr=>
   refine .tup _ vs (by rw [hn,hl]) fun k d u hd hu=> ?_;have hlt:k < cs.length:=by rw [hl];exact (List.getElem?_eq_some_iff.1 hd).1
   exact h k _ d (List.getElem?_eq_getElem hlt) hd _ _ _ _ (hr k _ u (List.getElem?_eq_getElem hlt) hu)
def LeL:List AV→List AV→Prop
 | [], []=> True
 | a::l,b::r=> AVle a b∧LeL l r
 | _,_=> False
theorem LeL.refl:∀(l:List AV),LeL l l
 | []=> trivial
 | a::l=> ⟨AVle.refl a,LeL.refl l⟩
theorem LeL.get:∀ {l r:List AV},LeL l r→l.length=r.length∧∀(k:Nat) (a b:AV),l[k]? =some a→r[k]? =some b→AVle a b
 | [], [],_=> ⟨rfl,by simp⟩
 | a::l,b::r,h=> by
   obtain ⟨h1,h2⟩:=LeL.get h.2;refine ⟨by simp [h1],fun k c d hc hd=> ?_⟩;cases k with
   | zero=> simp at hc hd;subst hc;subst hd;exact h.1
   | succ k=> simp at hc hd;exact h2 k c d hc hd
 | [],_::_,h=> h.elim
 | _::_, [],h=> h.elim
theorem AVle.ags {cs ds:List AV} (h:LeL cs ds):AVle (.ag cs) (.ag ds):=AVle.ag h.get.1 h.get.2
theorem AVle.tups {cs ds:List AV} (h:LeL cs ds):AVle (.tup cs) (.tup ds):=AVle.tup h.get.1 h.get.2
def Jbi (P : Program) (f : FuncId) : Prop := ∃ fn, P.funcs[f]? = some fn ∧ fn.body.isNone = false ∧ (fn.name == "runtime.NumGoroutine") = false
inductive Res where
 | ret (r:AV)
 | pan (x:AV)
def ResRep (w:World) (X:Nat→Nat→Prop) (g:List Nat):Res→Ending→Prop
 | .ret r,e=> ∃u,e= .returned u∧Rep w X g r u
 | .pan x,e=> ∃v,e= .panicked [{ v,recovered:=false}]∧Rep w X g x v
theorem ResRep.stays {w w':World} {X X':Nat→Nat→Prop} {g g':List Nat} (hs:Stays w X g w' X' g') {r:Res} {e:Ending} (h:ResRep w X g r e):ResRep w' X' g' r e:=by
 cases r with
 | ret r=> obtain ⟨u,h1,h2⟩:=h;exact ⟨u,h1,h2.stays hs⟩
 | pan x=> obtain ⟨u,h1,h2⟩:=h;exact ⟨u,h1,h2.stays hs⟩
structure Way where
 C:World→List Nat→Array Value→World→(Ending→World→Prop)→Prop
 mono:∀ {w0:World} {g:List Nat} {vs:Array Value} {w:World} {R R':Ending→World→Prop},C w0 g vs w R→(∀e w',R e w'→R' e w')→C w0 g vs w R'
def ECallG (C:Way) (args:List AV) (h:Heap) (Q:Res→Heap→Prop):Prop:=
 ∀(X:Nat→Nat→Prop) (w:World) (g:List Nat) (vs:List Value),HOk w (excl X g h) g h→(∀b o,X b o→∀i,i∈h.ids→g[i]? ≠some b)→vs.length=args.length→
  (∀(k:Nat) (c:AV) (u:Value),args[k]? =some c→vs[k]? =some u→Rep w (excl X g h) g c u)→
  C.C w g vs.toArray w fun e w'=> ∃r h' g',ResRep w' (excl X g' h') g' r e∧Q r h'∧(∀(i b:Nat),g[i]? =some b→g'[i]? =some b)∧HOk w' (excl X g' h') g' h'∧(∀b o,X b o→∀i,i∈h'.ids→g'[i]? ≠some b)∧
   Evo (excl none2 g h) w w'∧(∀b o,excl none2 g' h' b o→b < w.heap.size→excl none2 g h b o)
theorem ECallG.mono {C:Way} {args:List AV} {h:Heap} {Q Q':Res→Heap→Prop} (hc:ECallG C args h Q) (hq:∀r h',Q r h'→Q' r h'):ECallG C args h Q':=
 fun X w g vs h1 h2 h3 h4=> C.mono (hc X w g vs h1 h2 h3 h4) fun e w' ⟨r,h',g',a1,a2,a3⟩=> ⟨r,h',g',a1,hq _ _ a2,a3⟩
theorem ECallG.args {C:Way} {as bs:List AV} {h:Heap} {Q:Res→Heap→Prop} (hl:LeL as bs) (hc:ECallG C bs h Q):ECallG C as h Q:=by
 obtain ⟨h1,h2⟩:=hl.get
 refine fun X w g vs a1 a2 a3 a4=> hc X w g vs a1 a2 (a3.trans h1) fun k c u hk hu=> ?_
 have hlt:k < as.length:=by rw [h1];exact (List.getElem?_eq_some_iff.1 hk).1
 exact h2 k _ c (List.getElem?_eq_getElem hlt) hk _ _ _ _ (a4 k _ u (List.getElem?_eq_getElem hlt) hu)
def JdE (P:Program) (f:FuncId):Way:=⟨fun _ _ vs w R=> Calls P f vs w R,fun h hr=> h.mono hr⟩
def ECallR (P:Program) (f:FuncId) (args:List AV) (h:Heap) (Q:Res→Heap→Prop):Prop:=Jbi P f∧ECallG (JdE P f) args h Q
def JgL (Q:AV→Heap→Prop):Res→Heap→Prop
 | .ret r,h=> Q r h
 | .pan _,_=> False
def ECall (P:Program) (f:FuncId) (args:List AV) (h:Heap) (Q:AV→Heap→Prop):Prop:=ECallR P f args h (JgL Q)
theorem ECallR.mono {f:FuncId} {args:List AV} {h:Heap} {Q Q':Res→Heap→Prop} (hc:ECallR P f args h Q) (hq:∀r h',Q r h'→Q' r h'):ECallR P f args h Q':=⟨hc.1,hc.2.mono hq⟩
theorem ECallR.args {f:FuncId} {as bs:List AV} {h:Heap} {Q:Res→Heap→Prop} (hl:LeL as bs) (hc:ECallR P f bs h Q):ECallR P f as h Q:=⟨hc.1,hc.2.args hl⟩
theorem Juy {Q Q':AV→Heap→Prop} (hq:∀r h',Q r h'→Q' r h'):∀r h',JgL Q r h'→JgL Q' r h'
 | .ret r,h',h=> hq r h' h
 | .pan _,_,h=> h
theorem ECall.mono {f:FuncId} {args:List AV} {h:Heap} {Q Q':AV→Heap→Prop} (hc:ECall P f args h Q) (hq:∀r h',Q r h'→Q' r h'):ECall P f args h Q':=ECallR.mono hc (Juy hq)
theorem ECall.args {f:FuncId} {as bs:List AV} {h:Heap} {Q:AV→Heap→Prop} (hl:LeL as bs) (hc:ECall P f bs h Q):ECall P f as h Q:=ECallR.args hl hc
theorem ECallG.frame {C:Way} {args:List AV} {h1 h:Heap} {Q:Res→Heap→Prop} (hc:ECallG C args h1 Q) (rb:List (Id×Own)) (rp:List (Id×Nat))
 (hb:h.bx.Perm (h1.bx++rb)) (hp:h.pm.Perm (h1.pm++rp)) (hn:h1.nx=h.nx):
 ECallG C args h fun r h'=> ∃h1',Q r h1'∧h'=⟨h1'.bx++rb,h1'.pm++rp,h1'.nx,h1'.nn⟩:=by
 refine fun X w g vs hk hsep hl hr=> ?_
 let Xr:List Nat→Nat→Nat→Prop:=fun g b o=> X b o∨(∃p∈rb,g[p.1.2]? =some b)∨(∃p∈rp,g[p.1.2]? =some b∧p.2≤o)
 have hex:excl (Xr g) g h1=excl X g h:=by
  funext b o
  apply propext;unfold excl;have e1:(∃p∈h.bx,g[p.1.2]? =some b)↔(∃p∈h1.bx,g[p.1.2]? =some b)∨∃p∈rb,g[p.1.2]? =some b:=by
   constructor
   ·rintro ⟨p,hp',hg⟩;rcases List.mem_append.1 (hb.mem_iff.1 hp') with h | h
    ·exact .inl ⟨p,h,hg⟩
    ·exact .inr ⟨p,h,hg⟩
   ·rintro (⟨p,hp',hg⟩ | ⟨p,hp',hg⟩)
    ·exact ⟨p,hb.mem_iff.2 (List.mem_append_left _ hp'),hg⟩
    ·exact ⟨p,hb.mem_iff.2 (List.mem_append_right _ hp'),hg⟩
  have e2:(∃p∈h.pm,g[p.1.2]? =some b∧p.2≤o)↔(∃p∈h1.pm,g[p.1.2]? =some b∧p.2≤o)∨∃p∈rp,g[p.1.2]? =some b∧p.2≤o:=by
   constructor
   ·rintro ⟨p,hp',hg⟩;rcases List.mem_append.1 (hp.mem_iff.1 hp') with h | h
    ·exact .inl ⟨p,h,hg⟩
    ·exact .inr ⟨p,h,hg⟩
   ·rintro (⟨p,hp',hg⟩ | ⟨p,hp',hg⟩)
    ·exact ⟨p,hp.mem_iff.2 (List.mem_append_left _ hp'),hg⟩
    ·exact ⟨p,hp.mem_iff.2 (List.mem_append_right _ hp'),hg⟩
  rw [e1,e2]
  constructor
  ·rintro ((h | h | h) | h | h)
   ·exact .inl h
   ·exact .inr (.inl (.inr h))
   ·exact .inr (.inr (.inr h))
   ·exact .inr (.inl (.inl h))
   ·exact .inr (.inr (.inl h))
  ·rintro (h | (h | h) | (h | h))
   ·exact .inl (.inl h)
   ·exact .inr (.inl h)
   ·exact .inl (.inr (.inl h))
   ·exact .inr (.inr h)
   ·exact .inl (.inr (.inr h))
 have hids:h.ids.Perm ((h1.bx.map (·.1.2)++h1.pm.map (·.1.2))++(rb.map (·.1.2)++rp.map (·.1.2))):=by
  unfold Heap.ids;have p1:(h.bx.map (·.1.2)).Perm (h1.bx.map (·.1.2)++rb.map (·.1.2)):=by rw [← List.map_append];exact hb.map _
  have p2:(h.pm.map (·.1.2)).Perm (h1.pm.map (·.1.2)++rp.map (·.1.2)):=by rw [← List.map_append];exact hp.map _
  refine (p1.append p2).trans ?_;rw [List.append_assoc,List.append_assoc];refine List.Perm.append_left _ ?_;rw [← List.append_assoc,← List.append_assoc];exact List.Perm.append_right _ List.perm_append_comm
 have hnd:(((h1.bx.map (·.1.2)++h1.pm.map (·.1.2)).map fun i=> g[i]?)++((rb.map (·.1.2)++rp.map (·.1.2)).map fun i=> g[i]?)).Nodup:=by
  rw [← List.map_append];exact (hids.map _).nodup_iff.1 hk.nodup
 obtain ⟨nd1,nd2,nd3⟩:=List.nodup_append.1 hnd
 have hbm:∀p∈h1.bx,p∈h.bx:=fun p h'=> hb.mem_iff.2 (List.mem_append_left _ h')
 have hpm:∀p∈h1.pm,p∈h.pm:=fun p h'=> hp.mem_iff.2 (List.mem_append_left _ h')
 have hbr:∀p∈rb,p∈h.bx:=fun p h'=> hb.mem_iff.2 (List.mem_append_right _ h')
 have hpr:∀p∈rp,p∈h.pm:=fun p h'=> hp.mem_iff.2 (List.mem_append_right _ h')
 have hrid:∀i,i∈rb.map (·.1.2)++rp.map (·.1.2)→i∈h.ids:=fun i hi=> hids.mem_iff.2 (List.mem_append_right _ hi)
 have h1id:∀i,i∈h1.ids→i∈h.ids:=fun i hi=> hids.mem_iff.2 (List.mem_append_left _ hi)
 have hk1:HOk w (excl (Xr g) g h1) g h1:=by
  rw [hex];exact ⟨fun p h'=> hk.bx p (hbm p h'),fun p h'=> hk.pm p (hpm p h'),nd1,hn.trans hk.nx,hk.bd,hk.kn⟩
 have hsep1:∀b o,Xr g b o→∀i,i∈h1.ids→g[i]? ≠some b:=by
  rintro b o (hx | ⟨p,hp',hg⟩ | ⟨p,hp',hg,_⟩) i hi
  ·exact hsep b o hx i (h1id i hi)
  ·intro e;exact nd3 _ (List.mem_map.2 ⟨i,hi,rfl⟩) _ (List.mem_map.2 ⟨p.1.2,List.mem_append_left _ (List.mem_map.2 ⟨p,hp',rfl⟩),rfl⟩) (by rw [e,hg])
  ·intro e;exact nd3 _ (List.mem_map.2 ⟨i,hi,rfl⟩) _ (List.mem_map.2 ⟨p.1.2,List.mem_append_right _ (List.mem_map.2 ⟨p,hp',rfl⟩),rfl⟩) (by rw [e,hg])
 refine C.mono (hc (Xr g) w g vs hk1 hsep1 hl (by rw [hex];exact hr)) fun e w' ⟨r,h1',g',a6,a2,a3,a4,a5,a7,a8⟩=> ?_
 have hXg:Xr g'=Xr g:=by
  funext b o
  apply propext;have same:∀i,i∈h.ids→g'[i]? =g[i]? :=fun i hi=> by
   obtain ⟨b',hb',_⟩:=JbY hk hi;rw [hb',a3 i b' hb']
  have e1:(∃p∈rb,g'[p.1.2]? =some b)↔∃p∈rb,g[p.1.2]? =some b:=by
   constructor <;> rintro ⟨p,hp',hg⟩ <;> refine ⟨p,hp', ?_⟩
   ·rw [← same p.1.2 (hrid _ (List.mem_append_left _ (List.mem_map.2 ⟨p,hp',rfl⟩)))];exact hg
   ·rw [same p.1.2 (hrid _ (List.mem_append_left _ (List.mem_map.2 ⟨p,hp',rfl⟩)))];exact hg
  have e2:(∃p∈rp,g'[p.1.2]? =some b∧p.2≤o)↔∃p∈rp,g[p.1.2]? =some b∧p.2≤o:=by
   constructor <;> rintro ⟨p,hp',hg,hle⟩ <;> refine ⟨p,hp', ?_,hle⟩
   ·rw [← same p.1.2 (hrid _ (List.mem_append_right _ (List.mem_map.2 ⟨p,hp',rfl⟩)))];exact hg
   ·rw [same p.1.2 (hrid _ (List.mem_append_right _ (List.mem_map.2 ⟨p,hp',rfl⟩)))];exact hg
  simp only [Xr];rw [e1,e2]
 have hex':excl X g' ⟨h1'.bx++rb,h1'.pm++rp,h1'.nx,h1'.nn⟩=excl (Xr g) g' h1':=by
  rw [← hXg]
  funext b o
  apply propext;unfold excl;simp only [Xr,List.mem_append,or_and_right,exists_or]
  constructor
  ·rintro (h | (h | h) | (h | h))
   ·exact .inl (.inl h)
   ·exact .inr (.inl h)
   ·exact .inl (.inr (.inl h))
   ·exact .inr (.inr h)
   ·exact .inl (.inr (.inr h))
  ·rintro ((h | h | h) | h | h)
   ·exact .inl h
   ·exact .inr (.inl (.inr h))
   ·exact .inr (.inr (.inr h))
   ·exact .inr (.inl (.inl h))
   ·exact .inr (.inr (.inl h))
 have hM:∀b o,excl none2 g h1 b o→excl none2 g h b o:=by
  rintro b o (h | ⟨p,hp',hg⟩ | ⟨p,hp',hg⟩)
  ·exact h.elim
  ·exact .inr (.inl ⟨p,hbm p hp',hg⟩)
  ·exact .inr (.inr ⟨p,hpm p hp',hg⟩)
 have hrest:∀i,i∈rb.map (·.1.2)++rp.map (·.1.2)→∀b,g[i]? =some b→∀o,¬excl none2 g h1 b o:=by
  rintro i hi b hg o (h | ⟨p,hp',hg'⟩ | ⟨p,hp',hg',_⟩)
  ·exact h
  ·exact nd3 _ (List.mem_map.2 ⟨p.1.2,List.mem_append_left _ (List.mem_map.2 ⟨p,hp',rfl⟩),rfl⟩) _ (List.mem_map.2 ⟨i,hi,rfl⟩) (by rw [hg',hg])
  ·exact nd3 _ (List.mem_map.2 ⟨p.1.2,List.mem_append_right _ (List.mem_map.2 ⟨p,hp',rfl⟩),rfl⟩) _ (List.mem_map.2 ⟨i,hi,rfl⟩) (by rw [hg',hg])
 have hstays:Stays w (excl X g h) g w' (excl (Xr g) g' h1') g':=by
  refine a7.stays (fun b o _ hx=> Jas (hM b o hx)) (fun b o hb' hx=> ?_) a3;rcases hx with hx | hx | hx
  ·rw [← hex];exact .inl hx
  ·exact Jas (hM b o (a8 b o (.inr (.inl hx)) hb'))
  ·exact Jas (hM b o (a8 b o (.inr (.inr hx)) hb'))
 have hapart:∀i,i∈h1'.ids→∀j,j∈rb.map (·.1.2)++rp.map (·.1.2)→g'[i]? ≠g'[j]? :=by
  intro i hi j hj e;obtain ⟨b,hb',hlt⟩:=JbY hk (hrid j hj);have hgj:g'[j]? =some b:=a3 j b hb';have hown:∃o,excl none2 g' h1' b o:=by
   unfold Heap.ids at hi;rcases List.mem_append.1 hi with hi | hi
   ·obtain ⟨p,hp',rfl⟩:=List.mem_map.1 hi;exact ⟨0, .inr (.inl ⟨p,hp',by rw [e,hgj]⟩)⟩
   ·obtain ⟨p,hp',rfl⟩:=List.mem_map.1 hi;exact ⟨p.2, .inr (.inr ⟨p,hp',by rw [e,hgj],Nat.le_refl _⟩)⟩
  obtain ⟨o,ho⟩:=hown;exact hrest j hj b hb' o (a8 b o ho hlt)
 refine ⟨r,_,g', ?_,⟨h1',a2,rfl⟩,a3, ?_, ?_,a7.mono fun b o _ hx=> hM b o hx, ?_⟩
 ·rw [hex'];rw [hXg.symm] at a6⊢;rw [hXg] at a6⊢;exact a6
 ·rw [hex'];rw [hXg.symm] at a4⊢;rw [hXg] at a4⊢;refine ⟨fun p hp'=> ?_,fun p hp'=> ?_, ?_,a4.nx,a4.bd,a4.kn⟩
  ·rcases List.mem_append.1 hp' with hp' | hp'
   ·exact a4.bx p hp'
   ·obtain ⟨b,q1,q2⟩:=hk.bx p (hbr p hp');exact ⟨b,a3 _ _ q1,q2.stays hstays (a7.blk b q2.lt (hrest p.1.2 (List.mem_append_left _ (List.mem_map.2 ⟨p,hp',rfl⟩)) b q1))⟩
  ·rcases List.mem_append.1 hp' with hp' | hp'
   ·exact a4.pm p hp'
   ·obtain ⟨b,vs',e',q1,q2,q3⟩:=hk.pm p (hpr p hp');refine ⟨b,vs',e',a3 _ _ q1, ?_,q3⟩;rw [a7.blk b (Jl q2) (hrest p.1.2 (List.mem_append_right _ (List.mem_map.2 ⟨p,hp',rfl⟩)) b q1)];exact q2
  ·have same:∀i,i∈rb.map (·.1.2)++rp.map (·.1.2)→g'[i]? =g[i]? :=fun i hi=> by
    obtain ⟨b',hb',_⟩:=JbY hk (hrid i hi);rw [hb',a3 i b' hb']
   have perm:(Heap.ids ⟨h1'.bx++rb,h1'.pm++rp,h1'.nx,h1'.nn⟩).Perm (h1'.ids++(rb.map (·.1.2)++rp.map (·.1.2))):=by
    unfold Heap.ids;simp only [List.map_append];rw [List.append_assoc,List.append_assoc];refine List.Perm.append_left _ ?_;rw [← List.append_assoc,← List.append_assoc];exact List.Perm.append_right _ List.perm_append_comm
   refine (perm.map _).nodup_iff.2 ?_;rw [List.map_append];refine List.nodup_append.2 ⟨a4.nodup, ?_, ?_⟩
   ·rw [List.map_congr_left same];exact nd2
   ·intro x hx y hy hxy;obtain ⟨i,hi,rfl⟩:=List.mem_map.1 hx;obtain ⟨j,hj,rfl⟩:=List.mem_map.1 hy;exact hapart i hi j hj hxy
 ·intro b o hx i hi;unfold Heap.ids at hi;simp only [List.map_append] at hi;have hi':i∈h1'.ids∨i∈rb.map (·.1.2)++rp.map (·.1.2):=by
   unfold Heap.ids;simp only [List.mem_append] at hi⊢;rcases hi with (h | h) | (h | h)
   ·exact .inl (.inl h)
   ·exact .inr (.inl h)
   ·exact .inl (.inr h)
   ·exact .inr (.inr h)
  rcases hi' with hi | hi
  ·exact a5 b o (.inl hx) i hi
  ·obtain ⟨b',hb',_⟩:=JbY hk (hrid i hi);rw [a3 i b' hb'];intro e;exact hsep b o hx i (hrid i hi) (by rw [hb',e])
 ·rintro b o hx hb';rcases hx with hx | ⟨p,hp',hg⟩ | ⟨p,hp',hg,hle⟩
  ·exact hx.elim
  ·rcases List.mem_append.1 hp' with hp' | hp'
   ·exact hM b o (a8 b o (.inr (.inl ⟨p,hp',hg⟩)) hb')
   ·obtain ⟨b',hb'',_⟩:=JbY hk (hrid p.1.2 (List.mem_append_left _ (List.mem_map.2 ⟨p,hp',rfl⟩)));rw [a3 _ _ hb''] at hg;cases hg;exact .inr (.inl ⟨p,hbr p hp',hb''⟩)
  ·rcases List.mem_append.1 hp' with hp' | hp'
   ·exact hM b o (a8 b o (.inr (.inr ⟨p,hp',hg,hle⟩)) hb')
   ·obtain ⟨b',hb'',_⟩:=JbY hk (hrid p.1.2 (List.mem_append_right _ (List.mem_map.2 ⟨p,hp',rfl⟩)));rw [a3 _ _ hb''] at hg;cases hg;exact .inr (.inr ⟨p,hpr p hp',hb'',hle⟩)
theorem ECallR.frame {f:FuncId} {args:List AV} {h1 h:Heap} {Q:Res→Heap→Prop} (hc:ECallR P f args h1 Q) (rb:List (Id×Own)) (rp:List (Id×Nat))
 (hb:h.bx.Perm (h1.bx++rb)) (hp:h.pm.Perm (h1.pm++rp)) (hn:h1.nx=h.nx):
 ECallR P f args h fun r h'=> ∃h1',Q r h1'∧h'=⟨h1'.bx++rb,h1'.pm++rp,h1'.nx,h1'.nn⟩:=⟨hc.1,hc.2.frame rb rp hb hp hn⟩
theorem ECall.frame {f:FuncId} {args:List AV} {h1 h:Heap} {Q:AV→Heap→Prop} (hc:ECall P f args h1 Q) (rb:List (Id×Own)) (rp:List (Id×Nat))
 (hb:h.bx.Perm (h1.bx++rb)) (hp:h.pm.Perm (h1.pm++rp)) (hn:h1.nx=h.nx):
 ECall P f args h fun r h'=> ∃h1',Q r h1'∧h'=⟨h1'.bx++rb,h1'.pm++rp,h1'.nx,h1'.nn⟩:=
 (ECallR.frame hc rb rp hb hp hn).mono fun r h' ⟨h1',q1,q2⟩=> by
   cases r with
   | ret r=> exact ⟨h1',q1,q2⟩
   | pan x=> exact q1.elim
structure Like (h h':Heap):Prop where
 bx:(h'.bx.map (fun p=> (p.1.2,p.2))).Perm (h.bx.map (fun p=> (p.1.2,p.2)))
 pm:(h'.pm.map (fun p=> (p.1.2,p.2))).Perm (h.pm.map (fun p=> (p.1.2,p.2)))
 nx:h'.nx=h.nx
theorem Like.refl (h:Heap):Like h h:=⟨.refl _, .refl _,rfl⟩
theorem Jhr {α:Type} {l l':List (Id×α)} (h:(l'.map (fun p=> (p.1.2,p.2))).Perm (l.map (fun p=> (p.1.2,p.2)))) {p:Id×α} (hp:p∈l'):∃q∈l,q.1.2=p.1.2∧q.2=p.2:=by
 have:(p.1.2,p.2)∈l.map (fun p=> (p.1.2,p.2)):=h.mem_iff.1 (List.mem_map.2 ⟨p,hp,rfl⟩)
 obtain ⟨q,hq,e⟩:=List.mem_map.1 this
 simp only [Prod.mk.injEq] at e
 exact ⟨q,hq,e.1,e.2⟩
theorem Like.ids {h h':Heap} (l:Like h h'):h'.ids.Perm h.ids:=by
 have e1:(h'.bx.map (·.1.2)).Perm (h.bx.map (·.1.2)):=by
  have:=l.bx.map Prod.fst;simpa [List.map_map,Function.comp_def] using this
 have e2:(h'.pm.map (·.1.2)).Perm (h.pm.map (·.1.2)):=by
  have:=l.pm.map Prod.fst;simpa [List.map_map,Function.comp_def] using this
 unfold Heap.ids
 exact e1.append e2
theorem Like.excl {h h':Heap} (l:Like h h') (X:Nat→Nat→Prop) (g:List Nat):Vl.excl X g h'=Vl.excl X g h:=by
 have key:∀ {h h':Heap},Like h h'→∀b o,Vl.excl X g h' b o→Vl.excl X g h b o:=by
  rintro h h' l b o (hx | ⟨p,hp,hg⟩ | ⟨p,hp,hg,hle⟩)
  ·exact .inl hx
  ·obtain ⟨q,hq,e1,e2⟩:=Jhr l.bx hp;exact .inr (.inl ⟨q,hq,by rw [e1];exact hg⟩)
  ·obtain ⟨q,hq,e1,e2⟩:=Jhr l.pm hp;exact .inr (.inr ⟨q,hq,by rw [e1];exact hg,by rw [e2];exact hle⟩)
 funext b o
 exact propext ⟨key l b o,key ⟨l.bx.symm,l.pm.symm,l.nx.symm⟩ b o⟩
theorem HOk.like {w:World} {X:Nat→Nat→Prop} {g:List Nat} {h h':Heap} (hk:HOk w X g h) (l:Like h h'):HOk w X g h':=by
 refine ⟨fun p hp=> ?_,fun p hp=> ?_,(l.ids.map _).nodup_iff.2 hk.nodup,l.nx.trans hk.nx,hk.bd,hk.kn⟩
 ·obtain ⟨q,hq,e1,e2⟩:=Jhr l.bx hp;rw [← e1,← e2];exact hk.bx q hq
 ·obtain ⟨q,hq,e1,e2⟩:=Jhr l.pm hp;rw [← e1,← e2];exact hk.pm q hq
theorem St.like {ro:Option Nat} {X M:Nat→Nat→Prop} {w0:World} {E:Env} {a:Act} {w:World} {g:List Nat} (hs:St ro X M w0 E a w g) {h':Heap} (l:Like E.h h'):St ro X M w0 { E with h:=h'} a w g:=
 ⟨by show HOk w (excl X g h') g h';rw [l.excl];exact hs.hok.like l,fun k=> by show Rep w (excl X g h') g _ _;rw [l.excl];exact hs.tm k,hs.n,hs.evo,fun b o h=> hs.loc b o (by rw [← l.excl];exact h),by show DOk w (excl X g h') g _ _;rw [l.excl];exact hs.def_,
  fun b o h i hi=> hs.sep b o h i (l.ids.mem_iff.1 hi),hs.top,hs.rnd⟩
theorem Jdo {E:Env} {h':Heap} (l:Like E.h h'):ELe E { E with h:=h'}:=fun _ _ _ _ _ _ _ hs=> hs.like l
def Named (r:AV) (h:Heap) (K:AV→Heap→Prop):Prop:=∃r' h',AVle r r'∧Like h h'∧K r' h'
theorem Named.same {r:AV} {h:Heap} {K:AV→Heap→Prop} (hk:K r h):Named r h K:=⟨r,h,AVle.refl _,Like.refl _,hk⟩
theorem Juz {o:Oper} {E:Env} {K:Env→Prop} {fo:Operand} {args:Array Operand} {tys:Array TypeId} {f:FuncId} {first caps:List AV} {Q:Res→Heap→Prop} {Kp:AV→Env→Prop}
 (ho:o.op= .call { callee:= .value fo,args:=args,argTypes:=tys}) (hf:E.ev fo= .fn (.func f) first caps)
 (hc:ECallR P f (first++args.toList.map E.ev++caps) E.h Q) (hk:∀r h',Q (.ret r) h'→Named r h' fun r h'=> K (({ E with h:=h'}:Env).set o.dst r)) (hkp:∀x h',Q (.pan x) h'→Kp x { E with h:=h'}):AOp P o E K Kp:=by
 intro ro X M w0 a w g hs next Q' hn hpan
 obtain ⟨⟨fn,hfn,hbody,hname⟩,hcall⟩:=hc
 have hfr:=hs.ev fo
 rw [hf] at hfr
 generalize hu:a.eval fo=u at hfr
 cases hfr with
 | fn _ _ _ v1 v2 hl1 hl2 hr1 hr2=>
   have hrun:(execOp a.eval o).run P w= .ok (.enter f (v1++args.toList.map a.eval++v2).toArray) w:=by
    have e:v1.toArray++args.map a.eval++v2.toArray=(v1++args.toList.map a.eval++v2).toArray:=by
     apply Array.ext';simp
    unfold execOp;simp only [ho,resolve,hu,Deferred.ofValue,pure_bind,invoke,e];simp only [callFunc,Sem.run_bind,run_program,Result.andThen_ok,hfn,hname,hbody,Bool.false_eq_true,if_false,Sem.run_pure]
   refine Jx (by rw [ho];intro c h;cases h) ?_;rw [hrun];refine Jkr ?_;have hcs:=hcall X w g (v1++args.toList.map a.eval++v2) hs.hok hs.sep (by simp [hl1,hl2]) (fun k c u hc hu=> by
    rw [List.getElem?_append] at hc hu;simp only [List.length_append,List.length_map,hl1,hl2] at hc hu;split at hc
    ·rename_i h1
     rw [if_pos h1] at hu;rw [List.getElem?_append] at hc hu;rw [hl1] at hu;split at hc
     ·rename_i h2;rw [if_pos h2] at hu;exact hr1 k c u hc hu
     ·rename_i h2;rw [if_neg h2] at hu
      rw [List.getElem?_map] at hc hu;cases hx:args.toList[k - first.length]? with
      | none=> simp [hx] at hc
      | some x=>
        simp only [hx,Option.map_some,Option.some.injEq] at hc hu;subst hc;subst hu;exact hs.ev x
    ·rename_i h1
     rw [if_neg h1] at hu;exact hr2 _ c u hc hu)
   refine Calls.mono hcs fun e w' ⟨r,h',g',a6,a2,a3,a4,a5,a7,a8⟩=> ?_;have hst:Stays w (excl X g E.h) g w' (excl X g' h') g':=by
    refine a7.stays (fun b o _ hx=> Jas hx) (fun b o hb' hx=> ?_) a3;rcases hx with hx | hx | hx
    ·exact .inl hx
    ·exact Jas (a8 b o (.inr (.inl hx)) hb')
    ·exact Jas (a8 b o (.inr (.inr hx)) hb')
   have hnew:St ro X M w0 { E with h:=h'} a w' g':=
    ⟨a4,fun k=> (hs.tm k).stays hst,hs.n,hs.evo.and_then a7 (fun b o hb' hx=> hs.loc b o hx hb'),fun b o hx hb'=> hs.loc b o (a8 b o hx (Nat.lt_of_lt_of_le hb' hs.evo.size)) hb',hs.def_.stays hst,a5,hs.top,hs.rnd⟩
   cases r with
   | ret r=>
     obtain ⟨u,rfl,a6⟩:=a6;obtain ⟨r',h'',l1,l2,hk'⟩:=hk r h' a2;have hnew':=hnew.like l2;refine hn _ _ _ g' hk' a3 (hnew'.put o.dst ?_);show Rep w' (excl X g' h'') g' r' u;rw [l2.excl];exact l1 _ _ _ _ a6
   | pan x=>
     obtain ⟨u,rfl,a6⟩:=a6;exact hpan x { E with h:=h'} a w' g' u (hkp x h' a2) a3 hnew a6
theorem Jea {o:Oper} {E:Env} {K:Env→Prop} {fo:Operand} {args:Array Operand} {tys:Array TypeId} {f:FuncId} {first caps:List AV} {Q:AV→Heap→Prop} {Kp:AV→Env→Prop}
 (ho:o.op= .call { callee:= .value fo,args:=args,argTypes:=tys}) (hf:E.ev fo= .fn (.func f) first caps)
 (hc:ECall P f (first++args.toList.map E.ev++caps) E.h Q) (hk:∀r h',Q r h'→Named r h' fun r h'=> K (({ E with h:=h'}:Env).set o.dst r)):AOp P o E K Kp:=
 Juz ho hf hc hk (fun _ _ h=> h.elim)
variable {P:Program} {w:World} {X:Nat→Nat→Prop} {g:List Nat} {h:Heap}
theorem JqE (k:IntKind):Jc6 k k=true:=by cases k <;> rfl
theorem Jjw {d:TypeDesc} {a b:Value} (ha:JaO d a=true) (hb:JaO d b=true):Instr.sameNow d a b=some (JcV a b):=by
 unfold JaO at ha
 split at ha
 ·rename_i k k' n
  have:=Jdm ha;subst this;unfold JaO at hb;split at hb
  ·rename_i k2 k2' n2 hd
   cases hd;have:=Jdm hb;subst this;simp [Instr.sameNow,JcV,JqE]
  ·rename_i hd;cases hd
  ·rename_i hd;cases hd
  ·cases hb
 ·unfold JaO at hb;split at hb
  ·rename_i hd;cases hd
  ·simp [Instr.sameNow,JcV,beq_toListBytes]
  ·rename_i hd;cases hd
  ·cases hb
 ·unfold JaO at hb;split at hb
  ·rename_i hd;cases hd
  ·rename_i hd;cases hd
  ·simp [Instr.sameNow,JcV]
  ·cases hb
 ·cases ha
theorem JzQ {a b:Value} (h:JcV a b=true):b=a:=by
 unfold JcV at h
 split at h
 ·simp only [Bool.and_eq_true,beq_iff_eq] at h;rw [Jdm h.1,h.2]
 ·rename_i x y
  rw [ByteArray.toList_eq,ByteArray.toList_eq] at h;obtain ⟨⟨x⟩⟩:=x;obtain ⟨⟨y⟩⟩:=y;have h:x=y:=eq_of_beq h;rw [h]
 ·simp only [beq_iff_eq] at h;rw [h]
 ·cases h
theorem Jdp {d:TypeDesc} {kt:TypeId} {key:Value} {b:Bool} (hd:P.underlying kt=some d) (hk:JaO d key=true):(Instr.checkKey b 10000 kt key).run P w= .ok () w:=by
 unfold Instr.checkKey
 simp only [Sem.run_bind,run_underlying hd,Result.andThen_ok]
 unfold JaO at hk
 split at hk <;> first | rfl | (cases hk)
def Ji1 (w:World) (X:Nat→Nat→Prop) (g:List Nat) (es:List (Value×AV)) (ents:List MapEntry):Prop:=
 ents.length=es.length∧∀(k:Nat) (p:Value×AV) (e:MapEntry),es[k]? =some p→ents[k]? =some e→e.key=p.1∧Rep w X g p.2 e.val
theorem Jf5 {d:TypeDesc} {key:Value} (hk:JaO d key=true):∀(es:List (Value×AV)) (ents:List MapEntry) (i:Nat),Ja4 d es=true→Ji1 w X g es ents→JaV key es=none→
 Instr.findNow d key ents i=some none
 | [], [],i,_,_,_=> rfl
 | [],e::ents,i,_,h,_=> by have:=h.1;simp at this
 | p::es, [],i,_,h,_=> by have:=h.1;simp at this
 | p::es,e::ents,i,hf,h,hl=> by
   simp only [Ja4,List.all_cons,Bool.and_eq_true] at hf;have h0:=h.2 0 p e rfl rfl;unfold JaV at hl;unfold Instr.findNow;rw [h0.1,Jjw hk hf.1];cases hb:JcV key p.1 with
   | true=> simp [hb] at hl
   | false=>
     simp only [hb,cond_false] at hl;exact Jf5 hk es ents (i+1) hf.2 ⟨by have:=h.1;simpa using this,fun k p' e' h1 h2=> h.2 (k+1) p' e' (by simpa using h1) (by simpa using h2)⟩ hl
theorem Jf6 {d:TypeDesc} {key:Value} (hk:JaO d key=true):∀(es:List (Value×AV)) (ents:List MapEntry) (i:Nat) (v:AV),Ja4 d es=true→Ji1 w X g es ents→JaV key es=some v→
 ∃j e,ents[j]? =some e∧es[j]? =some (key,v)∧e.key=key∧Rep w X g v e.val∧Instr.findNow d key ents i=some (some (i+j,e.val))∧∀x,JcJ key x es=es.set j (key,x)
 | [], [],i,v,_,_,hl=> by simp [JaV] at hl
 | [],e::ents,i,v,_,h,_=> by have:=h.1;simp at this
 | p::es, [],i,v,_,h,_=> by have:=h.1;simp at this
 | p::es,e::ents,i,v,hf,h,hl=> by
   simp only [Ja4,List.all_cons,Bool.and_eq_true] at hf;have h0:=h.2 0 p e rfl rfl;unfold JaV at hl;unfold Instr.findNow;rw [h0.1,Jjw hk hf.1];cases hb:JcV key p.1 with
   | true=>
     simp only [hb,cond_true,Option.some.injEq] at hl;have hkey:=JzQ hb;subst hl;obtain ⟨p1,p2⟩:=p;dsimp only at hkey h0 hb;subst hkey;exact ⟨0,e,rfl,rfl,h0.1,h0.2,rfl,fun x=> by simp [JcJ,hb]⟩
   | false=>
     simp only [hb,cond_false] at hl;obtain ⟨j,e',q1,q2,q3,q4,q5,q6⟩:=Jf6 hk es ents (i+1) v hf.2 ⟨by have:=h.1;simpa using this,fun k p' e' h1 h2=> h.2 (k+1) p' e' (by simpa using h1) (by simpa using h2)⟩ hl;refine ⟨j+1,e',by simpa using q1,by simpa using q2,q3,q4, ?_,fun x=> by simp [JcJ,hb,q6]⟩;rw [q5,Nat.add_assoc,Nat.add_comm 1 j]
theorem Jei {key:Value} {x:AV}:∀(es:List (Value×AV)),JaV key es=none→JcJ key x es=es++ [(key,x)]
 | [],_=> rfl
 | p::es,h=> by
   unfold JaV at h;unfold JcJ;cases hb:JcV key p.1 with
   | true=> simp [hb] at h
   | false=>
     simp only [hb,cond_false] at h⊢;rw [Jei es h];rfl
theorem JdW {d:TypeDesc} {kt:TypeId} {key:Value} {ents:List MapEntry} {r:Option (Nat×Value)} (hd:P.underlying kt=some d) (h:Instr.findNow d key ents 0=some r):(Instr.findKey kt key ents).run P w= .ok r w:=by
 unfold Instr.findKey
 simp only [Sem.run_bind,run_underlying hd,Result.andThen_ok,h,Sem.run_pure]
theorem Jib {o:Option AV} {z:AV} {ok:Bool} {u:Value} (h:Rep w X g (o.getD z) u):Rep w X g (Jeu o z ok) (if ok then .tuple #[u, .bool o.isSome] else u):=by
 unfold Jeu
 cases ok with
 | false=> exact h
 | true=>
   refine .tup [o.getD z, .v (.bool o.isSome)] [u, .bool o.isSome] rfl fun k c v hc hv=> ?_
   match k,hc,hv with
   | 0,hc,hv=> simp at hc hv;subst hc;subst hv;exact h
   | 1,hc,hv=> simp at hc hv;subst hc;subst hv;exact .v _
theorem Jjx {t kt et:TypeId} {d:TypeDesc} {z key:Value} {ok:Bool} {es:List (Value×AV)} {ents:List MapEntry} {b clock:Nat} (ht:P.underlying t=some (.map kt et)) (hd:P.underlying kt=some d)
 (hz:(P.info? et).bind (·.zero)=some z) (hk:JaO d key=true) (hf:Ja4 d es=true) (hb:w.heap[b]? =some (.map ents.toArray clock)) (he:Ji1 w X g es ents):
 ∃u,(Instr.lookup t (.map (some b)) key ok).run P w= .ok u w∧Rep w X g (Jeu (JaV key es) (ofV z) ok) u:=by
 have hg:(getObj b).run P w= .ok (.map ents.toArray clock) w:=by simp [getObj,Sem.run,hb]
 cases hl:JaV key es with
 | none=>
   refine ⟨if ok then .tuple #[z, .bool false] else z, ?_,Jib (o:=none) (JlN z)⟩;unfold Instr.lookup;simp only [Sem.run_bind,run_underlying ht,Result.andThen_ok,hg,Sem.run_pure,Jdp hd hk,JdW hd (Jf5 hk es ents 0 hf he hl),Ja5 hz]
 | some v=>
   obtain ⟨j,e,q1,q2,q3,q4,q5,q6⟩:=Jf6 hk es ents 0 v hf he hl;refine ⟨if ok then .tuple #[e.val, .bool true] else e.val, ?_,Jib (o:=some v) q4⟩;unfold Instr.lookup;simp only [Sem.run_bind,run_underlying ht,Result.andThen_ok,hg,Sem.run_pure,Jdp hd hk,JdW hd q5]
theorem JnL {t:TypeId} {x ix:AV} {ok:Bool} {C:Option Prop} {r:AV} {u v:Value} (h1:JfV P t h x ix ok=some (C,r)) (hc:J9 C) (hk:HOk w X g h) (hx:Rep w X g x u) (hi:Rep w X g ix v):
 ∃u',(Instr.lookup t u v ok).run P w= .ok u' w∧Rep w X g r u':=by
 unfold JfV at h1
 split at h1
 ·rename_i kt et key ht
  have:=JD hi;subst this;split at h1
  ·rename_i d z hd hz
   cases hkf:JaO d v with
   | false=> simp [hkf] at h1
   | true=>
     simp only [hkf,cond_true] at h1;split at h1
     ·rename_i es
      simp only [Option.some.injEq,Prod.mk.injEq] at h1;obtain ⟨rfl,rfl⟩:=h1;cases hx with
      | fm _ b ents hb _ hn hke hr=> exact Jjx ht hd hz hkf hc hb ⟨hn,fun k p e q1 q2=> ⟨(hke k p e q1 q2).1,hr k p e q1 q2⟩⟩
     ·rename_i i
      split at h1
      ·rename_i s es hs
       simp only [Option.some.injEq,Prod.mk.injEq] at h1;obtain ⟨rfl,rfl⟩:=h1;obtain ⟨hs2,hf⟩:s=i.2∧Ja4 d es=true:=hc;subst hs2;obtain ⟨b,hg,ents,hb,hn,hr⟩:=hk.bx _ (Jat hs);cases hx with
       | om _ b' hg'=>
         dsimp only at hg;rw [hg] at hg';cases hg';exact Jjx ht hd hz hkf hf hb ⟨hn,fun k p e q1 q2=> ⟨(hr k p e q1 q2).1,(hr k p e q1 q2).2.2⟩⟩
      ·cases h1
     ·simp only [Option.some.injEq,Prod.mk.injEq] at h1;obtain ⟨rfl,rfl⟩:=h1;have:=JD hx;subst this;refine ⟨if ok then .tuple #[z, .bool false] else z, ?_,Jib (o:=none) (JlN z)⟩;unfold Instr.lookup;have hfn:(Instr.findKey kt v (#[]:Array MapEntry).toList).run P w= .ok none w:=JdW hd rfl;simp only [Sem.run_bind,run_underlying ht,Result.andThen_ok,Sem.run_pure,Jdp hd hkf,hfn,Ja5 hz]
     ·cases h1
  ·cases h1
 ·cases h1
def JfW:Obj→Bool
 | .cells _ _ _=> true
 | _=> false
def Jov:Obj→Bool
 | .loop _=> true
 | _=> false
theorem Jcd {w:World} {b:Nat} {o:Obj} (h:w.heap[b]? =some o) (hc:JfW o=false:=by rfl):(getObj b).run P w= .ok o w:=by
 cases o <;> first | (simp [JfW] at hc;done) | simp [getObj,Sem.run,h]
def World.setO (w:World) (b:Nat) (o:Obj):World:= { w with heap:=w.heap.setIfInBounds b o}
theorem JbK {w:World} {b:Nat} {o o':Obj} (h:w.heap[b]? =some o) (hc:JfW o=false:=by rfl):(setObj b o').run P w= .ok () (World.setO w b o'):=by
 cases o <;> first | (simp [JfW] at hc;done) | simp [setObj,Sem.run,h,World.setO]
theorem JcR {w:World} {b:Nat} {o o':Obj} (h:w.heap[b]? =some o):(World.setO w b o').heap[b]? =some o':=by
 have:=Jl h
 simp [World.setO,this]
theorem JdF {w:World} {b k:Nat} {o':Obj} (h:k≠b):(World.setO w b o').heap[k]? =w.heap[k]? :=by
 simp only [World.setO,Array.getElem?_setIfInBounds]
 simp [Ne.symm h]
theorem Jdq {w:World} {b:Nat} {o o':Obj} (hb:w.heap[b]? =some o) (hc:JfW o=false) (hl:Jov o=true→Jov o'=true):Evo (fun b' _=> b'=b) w (World.setO w b o'):=by
 refine ⟨rfl,rfl,rfl,by simp [World.setO],fun k _ hn'=> JdF (fun e=> hn' 0 e),fun k o _ hn'=> World.cell?_of_block (a:=⟨k,o,none⟩) (JdF hn'),fun k us e' fz hb'=> ?_,fun k l hl'=> ?_⟩
 ·by_cases hkb:k=b
  ·subst hkb;rw [hb] at hb';cases hb';simp [JfW] at hc
  ·exact ⟨us,(JdF hkb).trans hb',rfl⟩
 ·by_cases hkb:k=b
  ·subst hkb;rw [hb] at hl';cases hl';have:=hl rfl;cases o' <;> first | (simp [Jov] at this;done) | exact ⟨_,JcR hb⟩
  ·exact ⟨l,(JdF hkb).trans hl'⟩
theorem JqF {o:Oper} {t:TypeId} {E:Env} {K:Env→Prop} (ho:o.op= .makeMap t none)
 (hk:K (({ E with h:=E.h.addo (.mp [])}:Env).set o.dst (.om (E.h.nn,E.h.nx)))):AOp P o E K:=by
 intro ro X M w0 a w g hs next Q hn hp
 obtain ⟨h1,h2,_⟩:=hs.obj (x:= .mp []) (.map #[] 0) (fun X' g' hst hnew=> ⟨[],hnew,rfl,fun k p e hk=> by simp at hk⟩)
 refine Jx (by rw [ho];intro c h;cases h) ?_
 have:(execOp a.eval o).run P w= .ok (.value (.map (some w.heap.size))) (w.alloc (.map #[] 0)):=by
  unfold execOp;simp only [ho,Instr.makeMap];simp [newObj,Sem.run]
 rw [this]
 exact hn _ _ _ _ hk (fun i b h=> by rw [List.getElem?_append_left (List.getElem?_eq_some_iff.1 h).1];exact h) (h1.put o.dst (.om _ _ h2))
theorem JnM {d:TypeDesc} {key:Value} (hk:JaO d key=true):Instr.sameBits 10000 key key=true:=by
 unfold JaO at hk
 split at hk
 ·simp [Instr.sameBits]
 ·simp [Instr.sameBits,beq_toListBytes]
 ·simp [Instr.sameBits]
 ·cases hk
theorem JnN {t kt et:TypeId} {d:TypeDesc} {key v:Value} {x:AV} {es:List (Value×AV)} {w:World} {X:Nat→Nat→Prop} {g:List Nat} {b:Nat} (ht:P.underlying t=some (.map kt et)) (hd:P.underlying kt=some d)
 (hk:JaO d key=true) (hf:Ja4 d es=true) (hb:OwnRep w X g b (.mp es)) (hx:Rep w X g x v):
 ∃ents':List MapEntry,(Instr.mapUpdate t (.map (some b)) key v).run P w= .ok () (World.setO w b (.map ents'.toArray ents'.length))∧ents'.length=(JcJ key x es).length∧
  ∀(k:Nat) (p:Value×AV) (e:MapEntry),(JcJ key x es)[k]? =some p→ents'[k]? =some e→e.key=p.1∧e.born=k∧Rep w X g p.2 e.val:=by
 obtain ⟨ents,h1,h2,h3⟩:=hb
 have he:Ji1 w X g es ents:=⟨h2,fun k p e q1 q2=> ⟨(h3 k p e q1 q2).1,(h3 k p e q1 q2).2.2⟩⟩
 have hg:=Jcd (P:=P) h1
 cases hl:JaV key es with
 | none=>
   refine ⟨ents++ [⟨key,v,ents.length⟩], ?_,by rw [Jei es hl];simp [h2],fun k p e q1 q2=> ?_⟩
   ·unfold Instr.mapUpdate;simp only [Sem.run_bind,run_underlying ht,Result.andThen_ok,hg,Jdp hd hk,JdW hd (Jf5 hk es ents 0 hf he hl)];rw [JbK h1];simp
   ·rw [Jei es hl] at q1;rcases Nat.lt_or_ge k es.length with hlt | hge
    ·rw [List.getElem?_append_left hlt] at q1;rw [List.getElem?_append_left Om] at q2;exact h3 k p e q1 q2
    ·rw [List.getElem?_append_right hge] at q1;rw [List.getElem?_append_right Om] at q2;have:k=es.length:=by
      have:=(List.getElem?_eq_some_iff.1 q1).1;simp at this;omega
     subst this;rw [Nat.sub_self] at q1;rw [h2,Nat.sub_self] at q2;simp at q1 q2;subst q1;subst q2;exact ⟨rfl,rfl,hx⟩
 | some v0=>
   obtain ⟨j,e0,q1,q2,q3,q4,q5,q6⟩:=Jf6 hk es ents 0 v0 hf he hl;have hj:j < ents.length:=(List.getElem?_eq_some_iff.1 q1).1;have hje:ents[j]=e0:=(List.getElem?_eq_some_iff.1 q1).2;refine ⟨ents.set j ⟨key,v,e0.born⟩, ?_,by rw [q6];simp [h2],fun k p e r1 r2=> ?_⟩
   ·unfold Instr.mapUpdate;simp only [Sem.run_bind,run_underlying ht,Result.andThen_ok,hg,Jdp hd hk,JdW hd q5,Nat.zero_add];have hks:(Instr.keyThatStays (((ents.toArray[j]?).map (·.key)).getD key) key).run P w= .ok key w:=by
     simp [q1,q3,Instr.keyThatStays,JnM hk]
    simp only [hks,Result.andThen_ok];rw [JbK h1]
    congr 2
    simp only [List.length_set]
    congr 1
    apply Array.ext';simp only [Array.toList_modify,List.modify_eq_set,Option.map_eq_map];rw [List.getElem?_eq_getElem hj];simp [hje]
   ·rw [q6,List.getElem?_set] at r1;rw [List.getElem?_set] at r2;by_cases hjk:j=k
    ·subst hjk;have:j < es.length:=Om;simp [this] at r1;simp [hj] at r2;subst r1;subst r2;have:=h3 j _ e0 q2 q1;exact ⟨rfl,this.2.1,hx⟩
    ·simp [hjk] at r1 r2;exact h3 k p e r1 r2
theorem JnO {o:Oper} {t kt et:TypeId} {d:TypeDesc} {m k x:Operand} {key:Value} {i:Id} {es:List (Value×AV)} {E:Env} {K:Env→Prop} (ho:o.op= .mapUpdate t m k x∨o.op= .insert t m k x)
 (ht:P.underlying t=some (.map kt et)) (hd:P.underlying kt=some d) (hm:E.ev m= .om i) (hkv:E.ev k= .v key) (hes:J6 i.1 E.h.bx=some (i.2, .mp es)) (hk:JaO d key=true) (hf:Ja4 d es=true)
 (hK:K (({ E with h:= { E.h with bx:=JaA i.1 (.mp (JcJ key (E.ev x) es)) E.h.bx}}:Env).set o.dst .any)):AOp P o E K:=by
 intro ro X M w0 a w g hs next Q hn hp
 obtain ⟨b,hgb,hown⟩:=hs.hok.bx _ (Jat hes)
 dsimp only at hgb hown
 have hmv:a.eval m= .map (some b):=by
  have:=hs.ev m;rw [hm] at this;generalize a.eval m=u at this;cases this with
  | om _ b' hg'=> rw [hgb] at hg';cases hg';rfl
 have hkv':a.eval k=key:=by
  have:=hs.ev k;rw [hkv] at this;exact JD this
 obtain ⟨ents',h1,h2,h3⟩:=JnN ht hd hk hf hown (hs.ev x)
 obtain ⟨ents,hb0,_⟩:=hown
 have hev:=Jdq (o':= .map ents'.toArray ents'.length) hb0 rfl (fun h=> by cases h)
 have hnew:=hs.setOwn (x:= .mp (JcJ key (E.ev x) es)) hes hgb hev (fun hst=> ⟨ents',JcR hb0,h2,fun k p e q1 q2=> ⟨(h3 k p e q1 q2).1,(h3 k p e q1 q2).2.1,(h3 k p e q1 q2).2.2.stays hst⟩⟩)
 refine Jx (by intro c h;rcases ho with ho | ho <;> (rw [ho] at h;cases h)) ?_
 have:(execOp a.eval o).run P w= .ok .skip (World.setO w b (.map ents'.toArray ents'.length)):=by
  unfold execOp;rcases ho with ho | ho <;> (simp only [ho,hmv,hkv',Sem.run_bind,h1,Result.andThen_ok,Sem.run_pure])
 rw [this]
 exact hn _ _ _ g hK (fun _ _ h=> h) (hnew.put o.dst (.any _))
theorem Jow {o:Oper} {t e:TypeId} {d:ChanDir} {s:Operand} {k:IntKind} {n:Int} {inf:TypeInfo} {E:Env} {K:Env→Prop} (ho:o.op= .makeChan t s) (ht:P.underlying t=some (.chan d e)) (hi:P.info? e=some inf)
 (hn0:E.ev s= .v (.int k n)) (h0:0≤n) (h1:n≤9223372036854775807) (h2:(inf.bytes:Int) * n≤281474976710544)
 (hk:K (({ E with h:=E.h.addo (.ch n.toNat [])}:Env).set o.dst (.oc (E.h.nn,E.h.nx)))):AOp P o E K:=by
 intro ro X M w0 a w g hs next Q hn hp
 obtain ⟨q1,q2,_⟩:=hs.obj (x:= .ch n.toNat []) (.chan n.toNat #[] false 0 0 false) (fun X' g' hst hnew=> ⟨[],0,0,hnew,rfl,fun k p e hk=> by simp at hk⟩)
 have hv:a.eval s= .int k n:=by
  have:=hs.ev s;rw [hn0] at this;exact JD this
 refine Jx (by rw [ho];intro c h;cases h) ?_
 have:(execOp a.eval o).run P w= .ok (.value (.chan (some w.heap.size))) (w.alloc (.chan n.toNat #[] false 0 0 false)):=by
  have hc:¬(n < 0∨n > IntKind.i64.max∨(inf.bytes:Int) * n > 2 ^ 48 - 112):=by
   simp [IntKind.max,IntKind.signed,IntKind.bits];omega
  unfold execOp;simp only [ho,hv,Instr.makeChan,asInt,pure_bind,Sem.run_bind,run_underlying ht,Result.andThen_ok,typeInfo,run_program,hi,Sem.run_pure];have hi2:(asIntOf (.int k n)).run P w= .ok (k,n) w:=rfl;rw [hi2];simp only [Result.andThen_ok,if_neg hc];simp [newObj,Sem.run]
 rw [this]
 exact hn _ _ _ _ hk (fun i b h=> by rw [List.getElem?_append_left (List.getElem?_eq_some_iff.1 h).1];exact h) (q1.put o.dst (.oc _ _ q2))
def Jox (a:AV) (K:AV→Prop):Prop:=
 match a with
 | .v x=> K (.v x)
 | .any=> K .any
 | .ag cs=> K (.ag cs)
 | .tup cs=> K (.tup cs)
 | .fn f c d=> K (.fn f c d)
 | .ifc t x=> K (.ifc t x)
 | .sl sz n f=> K (.sl sz n f)
 | .os sz n f i=> K (.os sz n f i)
 | .rp cs=> K (.rp cs)
 | .bp i off=> K (.bp i off)
 | .hs i off n cap=> K (.hs i off n cap)
 | .yl i=> K (.yl i)
 | .om i=> K (.om i)
 | .oc i=> K (.oc i)
 | .fm es=> K (.fm es)
theorem Jku {a:AV} {K:AV→Prop} (h:Jox a K):K a:=by cases a <;> exact h
def Jbq:List AV→(List AV→Prop)→Prop
 | [],K=> K []
 | a::l,K=> Jox a fun a=> Jbq l fun l=> K (a::l)
theorem JaQ:∀ {l:List AV} {K:List AV→Prop},Jbq l K→K l
 | [],_,h=> h
 | a::l,K,h=> by
   unfold Jbq at h;exact JaQ (l:=l) (K:=fun l=> K (a::l)) (Jku (K:=fun a=> Jbq l fun l=> K (a::l)) h)
def Jkv (r:AV) (K:AV→Prop):Prop:=
 match r with
 | .v (.bool b)=> ∀c,c=b→K (.v (.bool c))
 | .v x=> K (.v x)
 | .any=> K .any
 | .ag cs=> Jbq cs fun cs=> K (.ag cs)
 | .tup cs=> Jbq cs fun cs=> K (.tup cs)
 | .fn f c d=> Jbq c fun c=> Jbq d fun d=> K (.fn f c d)
 | .ifc t x=> K (.ifc t x)
 | .sl sz n f=> K (.sl sz n f)
 | .os sz n f i=> K (.os sz n f i)
 | .rp cs=> K (.rp cs)
 | .bp i off=> K (.bp i off)
 | .hs i off n cap=> K (.hs i off n cap)
 | .yl i=> K (.yl i)
 | .om i=> K (.om i)
 | .oc i=> K (.oc i)
 | .fm es=> K (.fm es)
theorem Jkw {r:AV} {K:AV→Prop} (h:Jkv r K):K r:=by
 unfold Jkv at h
 split at h
 ·exact h _ rfl
 ·exact h
 ·exact h
 ·exact JaQ h
 ·exact JaQ h
 ·rename_i f c d
  exact JaQ (l:=d) (K:=fun d=> K (.fn f c d)) (JaQ (l:=c) (K:=fun c=> Jbq d fun d=> K (.fn f c d)) h)
 all_goals exact h
def Jci (r:AV) (K:AV→Prop):Prop:=
 match r with
 | .v x=> K (.v x)
 | .any=> K .any
 | .ag cs=> Jbq cs fun cs=> K (.ag cs)
 | .tup cs=> Jbq cs fun cs=> K (.tup cs)
 | .fn f c d=> Jbq c fun c=> Jbq d fun d=> K (.fn f c d)
 | .ifc t x=> K (.ifc t x)
 | .sl sz n f=> K (.sl sz n f)
 | .os sz n f i=> K (.os sz n f i)
 | .rp cs=> K (.rp cs)
 | .bp i off=> K (.bp i off)
 | .hs i off n cap=> K (.hs i off n cap)
 | .yl i=> K (.yl i)
 | .om i=> K (.om i)
 | .oc i=> K (.oc i)
 | .fm es=> K (.fm es)
theorem JcX {r:AV} {K:AV→Prop} (h:Jci r K):K r:=by
 unfold Jci at h
 split at h
 ·exact h
 ·exact h
 ·exact JaQ h
 ·exact JaQ h
 ·rename_i f c d
  exact JaQ (l:=d) (K:=fun d=> K (.fn f c d)) (JaQ (l:=c) (K:=fun c=> Jbq d fun d=> K (.fn f c d)) h)
 all_goals exact h
def Jew (o:Op) (r:AV) (K:AV→Prop):Prop:=
 match o with
 | .assign _ | .move _ | .pick _ _ _=> Jci r K
 | _=> Jkv r K
theorem Jkx {o:Op} {r:AV} {K:AV→Prop} (h:Jew o r K):K r:=by
 unfold Jew at h
 split at h <;> first | exact JcX h | exact Jkw h
def JwL (m:Nat) (K0 K1:Prop):Prop:=
 match m with
 | 0=> K0
 | _+1=> K1
theorem Jky {m:Nat} {K0 K1:Prop} (h0:m=0→K0) (h1:m≠0→K1):JwL m K0 K1:=by
 cases m with
 | zero=> exact h0 rfl
 | succ m=> exact h1 Om
theorem JwM {m:Nat} {K0 K1:Prop} (h:JwL m K0 K1):(m=0→K0)∧(m≠0→K1):=by
 cases m with
 | zero=> exact ⟨fun _=> h,fun h'=> absurd rfl h'⟩
 | succ m=> exact ⟨fun h'=> absurd h' Om,fun _=> h⟩
def Joy (oi:Option Id) (n:Nat) (pm:List (Id×Nat)):Prop:=
 match oi with
 | none=> True
 | some i=> Jbb i.1 pm=some (i.2,n)
def Jkz:AV→Option (Nat×Nat×(Nat→AV))
 | .sl sz n f=> some (sz,n,f)
 | .os sz n f _=> some (sz,n,f)
 | _=> none
def JkA (sz c n:Nat) (oi:Option Id):Bool:=
 bif Nat.beq sz c then true else (match n,oi with | 0,none=> true | _,_=> false)
theorem Jjy {sz c n:Nat} {oi:Option Id} (h:JkA sz c n oi=true):(n=0∧oi=none)∨sz=c:=by
 unfold JkA at h
 cases hb:Nat.beq sz c with
 | true=> exact .inr (Nat.eq_of_beq_eq_true hb)
 | false=>
   simp only [hb,cond_false] at h;split at h
   ·exact .inl ⟨rfl,rfl⟩
   ·cases h
def Ji2 (sz c m:Nat):Bool:=bif Nat.beq sz c then true else Nat.beq m 0
theorem Jic {sz c m:Nat} (h:Ji2 sz c m=true):m=0∨sz=c:=by
 unfold Ji2 at h
 cases hb:Nat.beq sz c with
 | true=> exact .inr (Nat.eq_of_beq_eq_true hb)
 | false=> simp only [hb,cond_false] at h;exact .inl (Nat.eq_of_beq_eq_true h)
def Jn5 (P:Program) (e:TypeId) (n:Nat):Option (List AV):=
 match (P.info? e).bind (·.zero) with
 | some z=> bif Nat.beq z.cells.size (P.cellsOf e)&& Nat.beq (P.cellsOf e) 1 then some (List.replicate n (ofC (z.cells.getD 0 undef)))
   else (bif Nat.beq z.cells.size (P.cellsOf e)&& Nat.blt 0 (P.cellsOf e) then some ((List.replicate n (z.cells.toList.map ofC)).flatten) else none)
 | none=> none
def JrD (P:Program) (o:Oper) (E:Env) (K:Env→Prop) (t:TypeId) (s x:AV):Prop:=
 match P.underlying t,s,Jkz x with
 | some (.slice e), .os sz n f oi,some (szx,m,f')=>
   bif Jbc P e&& (JkA sz (P.cellsOf e) n oi&& Ji2 szx (P.cellsOf e) m) then
    Joy oi (n * P.cellsOf e) E.h.pm∧JwL m (K (E.set o.dst (.os sz n f oi)))
     (Jcu m f'∧(n+m) * P.bytesOf e≤140737488355328∧n+m≤9223372036854775807∧
       K (({ E with h:=E.h.grow oi ((n+m) * P.cellsOf e)}:Env).set o.dst (.os (P.cellsOf e) (n+m) (JcD n f f') (some (E.h.nn,E.h.nx)))))
   else False
 | _,_,_=> False
theorem AOp.kp {o:Oper} {E:Env} {K:Env→Prop} {Kp:AV→Env→Prop} (h:AOp P o E K):AOp P o E K Kp:=
 fun ro X M w0 a w g hs next Q hn _=> h ro X M w0 a w g hs next Q hn (fun _ _ _ _ _ _ h=> h.elim)
theorem JuA {o:Oper} {x:Operand} {t:TypeId} {y:AV} {E:Env} {K:Env→Prop} {Kp:AV→Env→Prop} (ho:o.op= .panic x) (hx:E.ev x= .ifc t y) (hk:Kp (.ifc t y) E):AOp P o E K Kp:=by
 intro ro X M w0 a w g hs next Q hn hp
 have hv:=hs.ev x
 rw [hx] at hv
 generalize hu:a.eval x=u at hv
 cases hv with
 | ifc _ _ v hv=>
   refine Jx (by rw [ho];intro c h;cases h) ?_;have:(execOp a.eval o).run P w= .halt (.panic (.iface t v)) w:=by
    unfold execOp;simp only [ho,hu];simp [Instr.panic]
   rw [this];exact hp (.ifc t y) E a w g _ hk (fun _ _ h=> h) hs (.ifc _ _ _ hv)
def Jg1:List (Value×AV)→(List (Value×AV)→Prop)→Prop
 | [],K=> K []
 | (k,v)::l,K=> Jg1 l fun l=> K ((k,v)::l)
theorem JkB:∀ {l:List (Value×AV)} {K:List (Value×AV)→Prop},Jg1 l K→K l
 | [],_,h=> h
 | (k,v)::l,K,h=> JkB (l:=l) (K:=fun l=> K ((k,v)::l)) h
theorem Jex:∀ {l:List (Value×AV)} {K:List (Value×AV)→Prop},K l→Jg1 l K
 | [],_,h=> h
 | (k,v)::l,K,h=> Jex (l:=l) (K:=fun l=> K ((k,v)::l)) h
def Ji3 (P:Program) (o:Oper) (E:Env) (K:Env→Prop) (t:TypeId) (m k x:Operand):Prop:=
 match P.underlying t,E.ev m,E.ev k with
 | some (.map kt et), .om i, .v key=>
   match P.underlying kt,J6 i.1 E.h.bx with
   | some d,some (s, .mp es)=> bif JaO d key then (s=i.2∧Ja4 d es=true)∧Jox (E.ev x) fun v=> Jg1 (JcJ key v es) fun es'=> Jkt i.1 (.mp es') E.h.bx fun bx=> K (({ E with h:= { E.h with bx:=bx}}:Env).set o.dst .any) else False
   | _,_=> False
 | _,_,_=> False
theorem Jh2 {o:Oper} {E:Env} {K:Env→Prop} {t:TypeId} {m k x:Operand} (ho:o.op= .mapUpdate t m k x∨o.op= .insert t m k x) (h:Ji3 P o E K t m k x):AOp P o E K:=by
 unfold Ji3 at h
 split at h
 ·rename_i kt et i key ht hm hk
  split at h
  ·rename_i d s es hd hes
   cases hb:JaO d key with
   | false=> simp [hb] at h
   | true=>
     simp only [hb,cond_true] at h;obtain ⟨⟨rfl,hf⟩,h⟩:=h;have h1:=Jku h;have h2:=JkB h1;exact JnO ho ht hd hm hk hes hb hf (Jh9 h2)
  ·exact h.elim
 ·exact h.elim
def Jn6 (P:Program) (o:Oper) (E:Env) (K:Env→Prop) (Kp:AV→Env→Prop):Prop:=
 match o.op with
 | .box _ x=> bif Jct (E.ev x) then Jbq (E.ev x).cells fun cs=> K (({ E with h:=E.h.add cs}:Env).set o.dst (.bp (E.h.nn,E.h.nx) 0)) else False
 | .alloc e=> match JgZ P e with
   | some cs=> Jbq cs fun cs=> K (({ E with h:=E.h.add cs}:Env).set o.dst (.bp (E.h.nn,E.h.nx) 0))
   | none=> False
 | .store t p x=> match E.ev p with
   | .bp i off=> match Jbm i.1 E.h.bx with
     | some (s,cs)=> bif Jct (E.ev x)&& ((E.ev x).cells.all Jb3&& ((P.underlying t).isSome&& Nat.beq (E.ev x).cells.length (P.cellsOf t))) then
        Jbq (E.ev x).cells fun vs=> (s=i.2∧off+vs.length≤cs.length)∧Jkt i.1 (.c (Jaa cs off vs)) E.h.bx fun bx=> K (({ E with h:= { E.h with bx:=bx}}:Env).set o.dst .any)
       else False
     | none=> False
   | _=> False
 | .call { callee:= .builtin .append,args:=⟨[s,x]⟩,argTypes:=⟨[t,t']⟩}=> bif Nat.beq t t' then JrD P o E K t (E.ev s) (E.ev x) else False
 | .makeSlice t l c=> match P.underlying t,E.ev l,E.ev c with
   | some (.slice e), .v (.int _ L), .v (.int _ C)=> match P.underlying e,Jn5 P e C.toNat with
     | some _,some cs=> 0≤L∧L≤C∧(P.bytesOf e:Int) * C≤281474976710656∧C≤9223372036854775807∧K (({ E with h:=E.h.add cs}:Env).set o.dst (.hs (E.h.nn,E.h.nx) 0 L.toNat C.toNat))
     | _,_=> False
   | _,_,_=> False
 | .makeMap t none=> K (({ E with h:=E.h.addo (.mp [])}:Env).set o.dst (.om (E.h.nn,E.h.nx)))
 | .makeChan t s=> match P.underlying t,E.ev s with
   | some (.chan _ e), .v (.int _ n)=> match P.info? e with
     | some inf=> 0≤n∧n≤9223372036854775807∧(inf.bytes:Int) * n≤281474976710544∧K (({ E with h:=E.h.addo (.ch n.toNat [])}:Env).set o.dst (.oc (E.h.nn,E.h.nx)))
     | none=> False
   | _,_=> False
 | .panic x=> match E.ev x with
   | .ifc t y=> Kp (.ifc t y) E
   | _=> False
 | .mapUpdate t m k x=> Ji3 P o E K t m k x
 | .insert t m k x=> Ji3 P o E K t m k x
 | _=> AOp P o E K Kp
theorem JlR {z:Array Value} (hz:0 < z.size) (n:Nat):(madeCells z (n * z.size)).toList=(List.replicate n z.toList).flatten:=by
 apply List.ext_getElem?
 intro k
 have hr:(madeCells z (n * z.size)).toList[k]? =if k < n * z.size then some (z[k % z.size]!) else none:=by
  simp only [madeCells,Array.getElem?_toList];rw [Array.getElem?_map];by_cases h:k < n * z.size
  ·have:(Array.range (n * z.size))[k]? =some k:=by rw [Array.getElem?_eq_getElem (by simpa using h)];simp
   rw [this,if_pos h];rfl
  ·have:(Array.range (n * z.size))[k]? =none:=Array.getElem?_eq_none (by simpa using h);rw [this,if_neg h];rfl
 rw [hr]
 have hfl:∀(n k:Nat),(List.replicate n z.toList).flatten[k]? =if k < n * z.size then some (z[k % z.size]!) else none:=by
  intro n
  induction n with
  | zero=> intro k;simp
  | succ n ih=>
    intro k;rw [List.replicate_succ,List.flatten_cons,List.getElem?_append];simp only [Array.length_toList];by_cases h:k < z.size
    ·rw [if_pos h,if_pos (by rw [Nat.add_mul,Nat.one_mul];omega),Nat.mod_eq_of_lt h,Array.getElem?_toList,Array.getElem?_eq_getElem h,getElem!_pos z k h]
    ·rw [if_neg h,ih];have e:k % z.size=(k - z.size) % z.size:=by
      rw [Nat.mod_eq_sub_mod Om]
     rw [e,Nat.add_mul,Nat.one_mul];by_cases h2:k - z.size < n * z.size
     ·rw [if_pos h2,if_pos Om]
     ·rw [if_neg h2,if_neg Om]
 exact (hfl n k).symm
theorem JqG {e:TypeId} {n:Nat} {cs:List AV} (h:Jn5 P e n=some cs):∃inf z,P.info? e=some inf∧inf.zero=some z∧(madeCells z.cells (n * inf.size)).toList.length=cs.length∧
 ∀(w:World) (X:Nat→Nat→Prop) (g:List Nat) (k:Nat) (c:AV) (u:Value),cs[k]? =some c→(madeCells z.cells (n * inf.size)).toList[k]? =some u→Rep w X g c u:=by
 unfold Jn5 at h
 cases hi:P.info? e with
 | none=> simp [hi] at h
 | some inf=>
   cases hz:inf.zero with
   | none=> simp [hi,hz] at h
   | some z=>
     simp only [hi,Option.bind_some,hz] at h;have hcs:P.cellsOf e=inf.size:=(by simp [Program.cellsOf,hi]);cases hb:Nat.beq z.cells.size (P.cellsOf e)&& Nat.beq (P.cellsOf e) 1 with
     | true=>
       simp only [hb,cond_true,Option.some.injEq] at h;simp only [Bool.and_eq_true] at hb;have h1:=Nat.eq_of_beq_eq_true hb.1;have h2:=Nat.eq_of_beq_eq_true hb.2;subst h;have hsz:inf.size=1:=Om;have hzs:z.cells.size=1:=Om;refine ⟨inf,z,rfl,hz,by simp [size_madeCells,hsz],fun w X g k c u hc hu=> ?_⟩;have hk:k < n:=(by simpa using (List.getElem?_eq_some_iff.1 hc).1);have hc':c=ofC (z.cells.getD 0 undef):=by
        rw [List.getElem?_eq_getElem (by simpa using hk)] at hc;simpa using hc.symm
       have hu':u=z.cells.getD 0 undef:=by
        simp only [madeCells,Array.getElem?_toList,Array.getElem?_map,hsz,Nat.mul_one] at hu;have:(Array.range n)[k]? =some k:=(by rw [Array.getElem?_eq_getElem (by simpa using hk)];simp);rw [this] at hu;simp only [Option.map_some,Option.some.injEq,hzs,Nat.mod_one] at hu;have h0:0 < z.cells.size:=Om;rw [← hu,getElem!_pos z.cells 0 h0,Array.getD_eq_getD_getElem?,Array.getElem?_eq_getElem h0];rfl
       subst hc';subst hu';exact JfU _
     | false=>
       simp only [hb,cond_false] at h;cases hb2:Nat.beq z.cells.size (P.cellsOf e)&& Nat.blt 0 (P.cellsOf e) with
       | false=> simp [hb2] at h
       | true=>
         simp only [hb2,cond_true,Option.some.injEq] at h;simp only [Bool.and_eq_true] at hb2;have h1:=Nat.eq_of_beq_eq_true hb2.1;have h2:=JbF hb2.2;subst h;have e1:inf.size=z.cells.size:=Om;have hm:=JlR (z:=z.cells) Om n;rw [← e1] at hm;refine ⟨inf,z,rfl,hz, ?_,fun w X g k c u hc hu=> ?_⟩
         ·rw [hm];simp [List.length_flatten]
         ·rw [hm] at hu;have e2:(List.replicate n (z.cells.toList.map ofC)).flatten=((List.replicate n z.cells.toList).flatten).map ofC:=by
           rw [List.map_flatten,List.map_replicate]
          rw [e2,List.getElem?_map,hu] at hc;simp only [Option.map_some,Option.some.injEq] at hc;subst hc;exact JfU u
theorem JwN {o:Oper} {t e:TypeId} {l c:Operand} {E:Env} {K:Env→Prop} {kl kc:IntKind} {L C:Int} {cs:List AV} (ho:o.op= .makeSlice t l c) (ht:P.underlying t=some (.slice e)) (hl:E.ev l= .v (.int kl L)) (hc:E.ev c= .v (.int kc C))
 (hz:Jn5 P e C.toNat=some cs) (h0:0≤L) (hLC:L≤C) (hby:(P.bytesOf e:Int) * C≤281474976710656) (h63:C≤9223372036854775807)
 (hk:K (({ E with h:=E.h.add cs}:Env).set o.dst (.hs (E.h.nn,E.h.nx) 0 L.toNat C.toNat))):AOp P o E K:=by
 intro ro X M w0 a w g hs next Q hn hpan
 obtain ⟨inf,z,hi,hzz,hlen,hrep⟩:=JqG hz
 have hlv:a.eval l= .int kl L:=by have:=hs.ev l;rw [hl] at this;exact JD this
 have hcv:a.eval c= .int kc C:=by have:=hs.ev c;rw [hc] at this;exact JD this
 have hbytes:(inf.bytes:Int) * C≤281474976710656:=by simpa [Program.bytesOf,hi] using hby
 have hr:=run_make (P:=P) w t e inf z ht hi hzz kl kc L C h0 hLC hbytes h63
 obtain ⟨h3,h4⟩:=hs.box (vs:=madeCells z.cells (C.toNat * inf.size)) (cs:=cs) e hlen (fun k c u h1 h2=> hrep _ _ _ k c u h1 h2)
 refine Jx (by rw [ho];intro c h;cases h) ?_
 have:(execOp a.eval o).run P w= .ok (.value (.slice (some ⟨w.heap.size,0,none⟩) L.toNat C.toNat)) (w.alloc (.cells (madeCells z.cells (C.toNat * inf.size)) e)):=by
  unfold execOp;simp only [ho,hlv,hcv];simp only [Sem.run_bind,hr,Result.andThen_ok,Sem.run_pure]
 rw [this]
 cases h4 with
 | bp _ _ b hg=>
   exact hn _ _ _ _ hk (fun i b h=> by rw [List.getElem?_append_left (List.getElem?_eq_some_iff.1 h).1];exact h) (h3.put o.dst (.hs _ _ _ _ _ hg))
theorem JqH {o:Oper} {E:Env} {K:Env→Prop} {Kp:AV→Env→Prop} (h:Jn6 P o E K Kp):AOp P o E K Kp:=by
 unfold Jn6 at h
 split at h
 ·rename_i e x ho
  cases hb:Jct (E.ev x) with
  | false=> simp [hb] at h
  | true=> simp only [hb,cond_true] at h;exact (JyE ho hb (JaQ h)).kp
 ·rename_i e ho
  split at h
  ·rename_i cs hz;exact (Jmz ho hz (JaQ h)).kp
  ·exact h.elim
 ·rename_i t p x ho
  split at h
  ·rename_i i off hp
   split at h
   ·rename_i s cs hcs
    cases hb:Jct (E.ev x)&& ((E.ev x).cells.all Jb3&& ((P.underlying t).isSome&& Nat.beq (E.ev x).cells.length (P.cellsOf t))) with
    | false=> simp [hb] at h
    | true=>
      simp only [hb,cond_true] at h;simp only [Bool.and_eq_true] at hb;have h:=JaQ h;exact (Jia ho hp (h.1.1 ▸ hcs) hb.1 hb.2.1 hb.2.2.1 hb.2.2.2 h.1.2 (Jh9 h.2)).kp
   ·exact h.elim
  ·exact h.elim
 ·rename_i s x t t' ho
  cases hb:Nat.beq t t' with
  | false=> simp [hb] at h
  | true=>
    have:=Nat.eq_of_beq_eq_true hb;subst this;simp only [hb,cond_true] at h;unfold JrD at h;split at h
    ·rename_i e sz n f oi szx m f' ht hs hx
     cases hb2:Jbc P e&& (JkA sz (P.cellsOf e) n oi&& Ji2 szx (P.cellsOf e) m) with
     | false=> simp [hb2] at h
     | true=>
       simp only [hb2,cond_true] at h;simp only [Bool.and_eq_true] at hb2;obtain ⟨hp,hk⟩:=h;obtain ⟨k0,k1⟩:=JwM hk;have hx':E.ev x= .sl szx m f'∨∃oj,E.ev x= .os szx m f' oj:=by
        generalize E.ev x=xa at hx;unfold Jkz at hx;split at hx
        ·simp only [Option.some.injEq,Prod.mk.injEq] at hx;obtain ⟨rfl,rfl,rfl⟩:=hx;exact .inl rfl
        ·simp only [Option.some.injEq,Prod.mk.injEq] at hx;obtain ⟨rfl,rfl,rfl⟩:=hx;exact .inr ⟨_,rfl⟩
        ·cases hx
       by_cases hm:m=0
       ·subst hm;refine AOp.kp ?_;refine Jcv ho hs hx' ht hb2.1 (Jjy hb2.2.1) (Jic hb2.2.2) (fun i hi=> ?_) (fun k hk=> absurd hk Om) (fun h=> absurd rfl h) (fun h=> absurd rfl h) k0 (fun h=> absurd rfl h);subst hi;exact hp
       ·obtain ⟨q1,q2,q3,q4⟩:=k1 hm;refine AOp.kp ?_;refine Jcv ho hs hx' ht hb2.1 (Jjy hb2.2.1) (Jic hb2.2.2) (fun i hi=> ?_) q1 (fun _=> q2) (fun _=> q3) k0 (fun _=> q4);subst hi;exact hp
    ·exact h.elim
 ·rename_i t l c ho
  split at h
  ·rename_i e kl L kc C ht hl hc
   split at h
   ·rename_i d cs hd hz
    exact (JwN ho ht hl hc hz h.1 h.2.1 h.2.2.1 h.2.2.2.1 h.2.2.2.2).kp
   ·exact h.elim
  ·exact h.elim
 ·rename_i t ho;exact (JqF ho h).kp
 ·rename_i t s ho
  split at h
  ·rename_i dr e k n ht hn
   split at h
   ·rename_i inf hi
    exact (Jow ho ht hi hn h.1 h.2.1 h.2.2.1 h.2.2.2).kp
   ·exact h.elim
  ·exact h.elim
 ·rename_i x ho
  split at h
  ·rename_i t y hx;exact JuA ho hx h
  ·exact h.elim
 ·rename_i t m k x ho;exact (Jh2 (.inl ho) h).kp
 ·rename_i t m k x ho;exact (Jh2 (.inr ho) h).kp
 ·exact h
theorem Jce {s:Sem Value} {w w':World} {u:Value} (h:s.run P w= .ok u w'):(do pure (Next.value (← s)):Sem Next).run P w= .ok (.value u) w':=by
 simp [h]
theorem JuB {o:Oper} {E:Env} {r:AV} (hd:∀c,o.op≠ .defer c) (h:∀(ρ:Operand→Value) (w:World) (X:Nat→Nat→Prop) (g:List Nat),HOk w (excl X g E.h) g E.h→
 (∀x∈o.op.operands,Rep w (excl X g E.h) g (E.ev x) (ρ x))→∃u w',(execOp ρ o).run P w= .ok (.value u) w'∧Evo none2 w w'∧Rep w' (excl X g E.h) g r u):Yields P o E r:=
 ⟨hd,fun ρ w X g hk hx=> .inl (h ρ w X g hk hx)⟩
theorem Jal {s:Sem Value} {h:Heap} {w:World} {X:Nat→Nat→Prop} {g:List Nat} {r:AV} (hg:Jcm P s h w X g r):
 ∃u w',(do pure (Next.value (← s)):Sem Next).run P w= .ok (.value u) w'∧Evo none2 w w'∧Rep w' X g r u:=
 let ⟨u,w',h1,h2,h3⟩:=hg;⟨u,w',Jce h1,h2,h3⟩
theorem JeP {w:World} {X:Nat→Nat→Prop} {g:List Nat} {E:Env} {ρ:Operand→Value} {xs:List Operand} (hx:∀x∈xs,Rep w X g (E.ev x) (ρ x)):
 ∀(k:Nat) (c:AV) (u:Value),(xs.map E.ev)[k]? =some c→(xs.map ρ)[k]? =some u→Rep w X g c u:=by
 intro k c u h1 h2
 rw [List.getElem?_map] at h1 h2
 cases hk:xs[k]? with
 | none=> simp [hk] at h1
 | some x=>
   simp only [hk,Option.map_some,Option.some.injEq] at h1 h2;subst h1;subst h2;exact hx x (List.mem_of_getElem? hk)
theorem JmE {w:World} {X:Nat→Nat→Prop} {g:List Nat} {E:Env} {ρ:Operand→Value} {ps:List (Nat×Operand)} (hx:∀p∈ps,Rep w X g (E.ev p.2) (ρ p.2)):
 ∀(k i:Nat) (a:AV) (j:Nat) (u:Value),(ps.map fun p=> (p.1,E.ev p.2))[k]? =some (i,a)→(ps.map fun p=> (p.1,ρ p.2))[k]? =some (j,u)→i=j∧Rep w X g a u:=by
 intro k i a j u h1 h2
 rw [List.getElem?_map] at h1 h2
 cases hk:ps[k]? with
 | none=> simp [hk] at h1
 | some p=>
   simp only [hk,Option.map_some,Option.some.injEq,Prod.mk.injEq] at h1 h2;obtain ⟨rfl,rfl⟩:=h1;obtain ⟨rfl,rfl⟩:=h2;exact ⟨rfl,hx p (List.mem_of_getElem? hk)⟩
theorem JbL {o:Oper} {E:Env} {C:Option Prop} {r:AV} (h:Jbe P o.op E=some (C,r)) (hc:J9 C):Yields P o E r:=by
 refine JuB (fun c hd=> by rw [hd] at h;simp [Jbe] at h) fun ρ w X g hk hx=> ?_
 obtain ⟨dst,op,type,pos,after,guard⟩:=o
 have same:∀ {x:Operand},x∈op.operands→r=E.ev x→∃u w',(pure (Next.value (ρ x)):Sem Next).run P w= .ok (.value u) w'∧Evo none2 w w'∧Rep w' (excl X g E.h) g r u:=by
  intro x hm hr;subst hr;exact ⟨ρ x,w,rfl,Evo.refl _ _,hx x hm⟩
 cases op <;> simp only [Jbe] at h <;> first | (cases h;done) | skip
 case move x=> cases h;exact same (by simp [Op.operands]) rfl
 case assign x=> cases h;exact same (by simp [Op.operands]) rfl
 case pick c a b=>
  split at h <;> first | (cases h;done) | skip
  rename_i t ht
  cases h;have h1:=hx c (by simp [Op.operands]);rw [ht] at h1;have h2:=JD h1;simp only [execOp,h2,asBool,pure_bind];cases t
  ·exact ⟨ρ b,w,rfl,Evo.refl _ _,hx b (by simp [Op.operands])⟩
  ·exact ⟨ρ a,w,rfl,Evo.refl _ _,hx a (by simp [Op.operands])⟩
 case build t parts=>
  have:=Jos (P:=P) (h:=E.h) (w:=w) (X:=excl X g E.h) (g:=g) (us:=parts.toList.map fun p=> (p.1,ρ p.2)) h Si (JmE fun p hp=> hx p.2 (by simp only [Op.operands];rw [List.mem_toArray];exact List.mem_map.2 ⟨p,hp,rfl⟩));have e:(parts.toList.map fun p=> (p.1,ρ p.2)).toArray=parts.map fun (i,x)=> (i,ρ x):=by apply Array.ext';simp
  rw [e] at this;exact Jal this
 case buildSlice t n parts=>
  have:=Jjs (P:=P) (h:=E.h) (w:=w) (X:=excl X g E.h) (g:=g) (us:=parts.toList.map fun p=> (p.1,ρ p.2)) h hk Si (JmE fun p hp=> hx p.2 (by simp only [Op.operands];rw [List.mem_toArray];exact List.mem_map.2 ⟨p,hp,rfl⟩));have e:(parts.toList.map fun p=> (p.1,ρ p.2)).toArray=parts.map fun (i,x)=> (i,ρ x):=by apply Array.ext';simp
  rw [e] at this;exact Jal this
 case load t x=> exact Jal (JqA h hc hk (hx x (by simp [Op.operands])))
 case nilCheck x=>
  obtain ⟨h1,h2⟩:=JsG (P:=P) h (hx x (by simp [Op.operands]));subst h1;exact ⟨ρ x,w,h2,Evo.refl _ _,hx x (by simp [Op.operands])⟩
 case binOp op t x y yt=> exact Jal (JsH (h:=E.h) h hc (hx x (by simp [Op.operands])) (hx y (by simp [Op.operands])) x y)
 case unOp op t x=> exact Jal (Jux (h:=E.h) h (hx x (by simp [Op.operands])))
 case convert s d x=> exact Jal (JqB (h:=E.h) h (hx x (by simp [Op.operands])))
 case makeInterface t x=>
  cases hb:P.concrete t with
  | false=> simp [hb] at h
  | true=>
    simp only [hb,cond_true,Option.some.injEq,Prod.mk.injEq] at h;obtain ⟨_,rfl⟩:=h;exact Jal (h:=E.h) (Js (run_makeInterface w t (ρ x) hb) (.ifc _ _ _ (hx x (by simp [Op.operands]))))
 case makeFunc fn first caps=>
  simp only [Option.some.injEq,Prod.mk.injEq] at h;obtain ⟨_,rfl⟩:=h;refine Jal (h:=E.h) (Js (u:= .func fn (first.map ρ) (caps.map ρ)) (by simp [Instr.makeFunc]) ?_);have:=Rep.fn (w:=w) (X:=excl X g E.h) (g:=g) fn (first.toList.map E.ev) (caps.toList.map E.ev) (first.toList.map ρ) (caps.toList.map ρ) Si Si
   (JeP fun x hm=> hx x (by simp only [Op.operands];exact Array.mem_append_left _ (Array.mem_toList_iff.1 hm)))
   (JeP fun x hm=> hx x (by simp only [Op.operands];exact Array.mem_append_right _ (Array.mem_toList_iff.1 hm)))
  have e1:(first.toList.map ρ).toArray=first.map ρ:=by apply Array.ext';simp
  have e2:(caps.toList.map ρ).toArray=caps.map ρ:=by apply Array.ext';simp
  rw [e1,e2] at this;exact this
 case slice t x lo hi mx=>
  refine Jal (Jor (P:=P) (h:=E.h) h hc (hx x (by simp [Op.operands])) (vlo:=lo.map ρ) (vhi:=hi.map ρ) (vmx:=mx.map ρ) ?_ ?_ ?_ ?_ ?_ ?_)
  ·intro a ha;cases lo with
   | none=> simp at ha
   | some y=> simp at ha;subst ha;exact ⟨ρ y,rfl,hx y (by simp [Op.operands])⟩
  ·intro ha;simp at ha;subst ha;rfl
  ·intro a ha;cases hi with
   | none=> simp at ha
   | some y=> simp at ha;subst ha;exact ⟨ρ y,rfl,hx y (by simp [Op.operands])⟩
  ·intro ha;simp at ha;subst ha;rfl
  ·intro a ha;cases mx with
   | none=> simp at ha
   | some y=> simp at ha;subst ha;exact ⟨ρ y,rfl,hx y (by simp [Op.operands])⟩
  ·intro ha;simp at ha;subst ha;rfl
 case fieldAddr t x f=> exact Jal (JjY (h:=E.h) h (hx x (by simp [Op.operands])))
 case field t x f=> exact Jal (Jop (h:=E.h) h (hx x (by simp [Op.operands])))
 case indexAddr t x ix=> exact Jal (JjX (h:=E.h) h hc (hx x (by simp [Op.operands])) (hx ix (by simp [Op.operands])))
 case lookup t x ix ok=>
  obtain ⟨u,h1,h2⟩:=JnL h hc hk (hx x (by simp [Op.operands])) (hx ix (by simp [Op.operands]));exact Jal (h:=E.h) (Js h1 h2)
 case index t x ix=> exact Jal (Joo (h:=E.h) h hc (hx x (by simp [Op.operands])) (hx ix (by simp [Op.operands])))
 case extract t ix=>
  split at h <;> first | (cases h;done) | skip
  rename_i cs ht
  obtain ⟨h1,_⟩:=JeM h;have h2:=hx t (by simp [Op.operands]);rw [ht] at h2;generalize hu:ρ t=u at h2;cases h2 with
  | tup _ vs hn hr=>
    have hlt:ix < vs.length:=(by rw [hn];exact (List.getElem?_eq_some_iff.1 h1).1);refine Jal (h:=E.h) (Js (u:=vs[ix]) ?_ (hr ix r _ h1 (List.getElem?_eq_getElem hlt)));rw [hu];simp [Instr.extract,hlt]
 case call c=>
  obtain ⟨callee,args,tys⟩:=c;cases callee <;> simp only [] at h <;> first | (cases h;done) | skip
  rename_i b
  obtain ⟨u,h1,h2⟩:=JlQ (P:=P) (w:=w) (X:=excl X g E.h) (g:=g) (ty:=type) (cs:=args.map fun | .const _=> true | _=> false) (us:=args.map ρ) h Si (by
   rw [Array.toList_map];exact JeP fun x hm=> hx x (by simp only [Op.operands,Call.operands];exact Array.mem_append_right _ (Array.mem_toList_iff.1 hm)))
  refine ⟨u,w, ?_,Evo.refl _ _,h2⟩;simp only [execOp,resolve,pure_bind,invoke];exact h1
def Jn7 (C:Option Prop) (K:Prop):Prop:=
 match C with
 | none=> K
 | some c=> c∧K
theorem Jid {C:Option Prop} {K:Prop} (h:Jn7 C K):J9 C∧K:=by
 cases C with
 | none=> exact ⟨trivial,h⟩
 | some c=> exact h
def JcE (P:Program) (t:TypeId) (n:Nat) (parts:List (Nat×AV)):Option (TypeId×List AV):=
 match P.underlying t with
 | some (.slice e)=>
   match P.underlying e,JsF P e (n * P.cellsOf e) with
   | some _,some cs=> bif Nat.ble (n * P.cellsOf e) 16777216&& Nat.blt 0 (P.cellsOf e) then
      (match JfF (fun i=> some (i * P.cellsOf e,P.cellsOf e)) cs parts with
      | some out=> bif Nat.beq out.length (n * P.cellsOf e)&& JfH P e out then some (e,out) else none
      | none=> none) else none
   | _,_=> none
 | _=> none
theorem Jeb {t:TypeId} {n:Nat} {parts:List (Nat×AV)} {e:TypeId} {out:List AV} (h:JcE P t n parts=some (e,out)):
 JdV P t n parts=some (none, .os (P.cellsOf e) n (JdD P e out) none):=by
 unfold JcE at h
 unfold JdV
 cases ht:P.underlying t with
 | none=> simp [ht] at h
 | some D=>
   cases D <;> simp only [ht] at h <;> first | (cases h;done) | skip
   rename_i e'
   cases hd:P.underlying e' with
   | none=> simp [hd] at h
   | some d=>
     cases hz:JsF P e' (n * P.cellsOf e') with
     | none=> simp [hd,hz] at h
     | some cs=>
       simp only [hd,hz] at h;cases hb:(Nat.ble (n * P.cellsOf e') 16777216&& Nat.blt 0 (P.cellsOf e')) with
       | false=> simp [hb] at h
       | true=>
         cases ho:JfF (fun i=> some (i * P.cellsOf e',P.cellsOf e')) cs parts with
         | none=> simp [hb,ho] at h
         | some out'=>
           cases hb2:(Nat.beq out'.length (n * P.cellsOf e')&& JfH P e' out') with
           | false=> simp [hb,ho,hb2] at h
           | true=>
             simp only [hb,ho,hb2,cond_true,Option.some.injEq,Prod.mk.injEq] at h;obtain ⟨rfl,rfl⟩:=h;simp [hd,hz,hb,ho,hb2]
def Jf7 (P:Program) (o:Oper) (E:Env) (K:AV→Prop) (other:Prop):Prop:=
 match o.op with
 | .buildSlice t n parts=> match JcE P t n (parts.toList.map fun p=> (p.1,E.ev p.2)) with
   | some (e,out)=> Jbq out fun out=> K (.os (P.cellsOf e) n (JdD P e out) none)
   | none=> False
 | _=> match Jbe P o.op E with
   | some (C,r)=> Jn7 C (Jew o.op r K)
   | none=> other
theorem Jhs {o:Oper} {E:Env} {K:AV→Prop} {other:Prop} (h:Jf7 P o E K other):(∃r,Yields P o E r∧K r)∨other:=by
 unfold Jf7 at h
 split at h
 ·rename_i t n parts ho
  split at h
  ·rename_i e out hc
   exact .inl ⟨_,JbL (C:=none) (by rw [ho];simp only [Jbe];exact Jeb hc) trivial,JaQ h⟩
  ·exact h.elim
 ·split at h
  ·rename_i C r hp
   obtain ⟨q1,q2⟩:=Jid h;exact .inl ⟨r,JbL hp q1,Jkx q2⟩
  ·exact .inr h
def aQ (P:Program) (ops:Array Oper):List Oper→Env→(Env→Prop)→Prop
 | [],E,K=> K E
 | o::l,E,K=>
   let go:Prop:=Jf7 P o E (fun r=> aQ P ops l (E.set o.dst r) K) (∃r,Yields P o E r∧Jew o.op r fun r=> aQ P ops l (E.set o.dst r) K)
   match o.guard with
   | none=> go
   | some (j,want)=> match agb (agd ops E j) with
     | some (some c)=> bif (c ==want) then go else aQ P ops l (E.set o.dst (.v undef)) K
     | some none=> aQ P ops l (E.set o.dst (.v undef)) K
     | none=> False
def aK (P:Program) (ops:Array Oper):List Oper→Env→(Env→Prop)→(AV→Env→Prop)→Prop
 | [],E,K,_=> K E
 | o::l,E,K,Kp=>
   let go:Prop:=Jf7 P o E (fun r=> aK P ops l (E.set o.dst r) K Kp) (Jn6 P o E (fun E'=> aK P ops l E' K Kp) Kp)
   match o.guard with
   | none=> go
   | some (j,want)=> match agb (agd ops E j) with
     | some (some c)=> bif (c ==want) then go else aK P ops l (E.set o.dst (.v undef)) K Kp
     | some none=> aK P ops l (E.set o.dst (.v undef)) K Kp
     | none=> False
theorem AOp.of_yields {o:Oper} {E:Env} {r:AV} {K:Env→Prop} {Kp:AV→Env→Prop} (hy:Yields P o E r) (hk:K (E.set o.dst r)):AOp P o E K Kp:=
 fun ro X M w0 a w g hs next Q hn _=> hy.wp hs fun a' w' hs'=> hn _ a' w' g hk (fun _ _ h=> h) hs'
theorem JuC {ops:Array Oper} {K:Env→Prop}:∀(l:List Oper) (k:Nat) (E:Env),(∀j,l[j]? =ops[k+j]? ∨l.length≤j)→aQ P ops l E K→∃E',RunL P ops (List.range' k l.length) E E'∧K E'
 | [],k,E,_,h=> ⟨E,rfl,h⟩
 | o::l,k,E,hl,h=> by
   have h0:ops[k]? =some o:=by
    rcases hl 0 with h | h
    ·simpa using h.symm
    ·simp at h
   have hl':∀j,l[j]? =ops[k+1+j]? ∨l.length≤j:=fun j=> by
    have:=hl (j+1);simp only [List.getElem?_cons_succ,List.length_cons] at this;rcases this with h | h
    ·left;rw [h];congr 1;omega
    ·right;omega
   have fin:∀ {r:AV},GY P ops o E r→aQ P ops l (E.set o.dst r) K→∃E',RunL P ops (List.range' k (o::l).length) E E'∧K E':=by
    intro r hy hk;obtain ⟨E',h1,h2⟩:=JuC l (k+1) _ hl' hk;exact ⟨E',by rw [List.length_cons,List.range'_succ];exact ⟨o,r,h0,hy,h1⟩,h2⟩
   have go:Jf7 P o E (fun r=> aQ P ops l (E.set o.dst r) K) (∃r,Yields P o E r∧Jew o.op r fun r=> aQ P ops l (E.set o.dst r) K)→∃r,Yields P o E r∧aQ P ops l (E.set o.dst r) K:=by
    intro hg;rcases Jhs hg with hg | hg
    ·exact hg
    ·obtain ⟨r,q1,q2⟩:=hg;exact ⟨r,q1,Jkx q2⟩
   simp only [aQ] at h;cases hgd:o.guard with
   | none=>
     simp only [hgd] at h;obtain ⟨r,q1,q2⟩:=go h;exact fin (by unfold GY;simp only [hgd];exact q1) q2
   | some p=>
     obtain ⟨j,want⟩:=p;simp only [hgd] at h;split at h
     ·rename_i c hc
      cases hb:(c ==want) with
      | true=>
        simp only [hb,cond_true] at h;obtain ⟨r,q1,q2⟩:=go h;exact fin (by unfold GY;simp only [hgd];exact ⟨some c,hc, .inl ⟨by simpa using hb,q1⟩⟩) q2
      | false=>
        simp only [hb,cond_false] at h;exact fin (r:= .v undef) (by unfold GY;simp only [hgd];exact ⟨some c,hc, .inr ⟨by simpa using hb,trivial⟩⟩) h
     ·rename_i hc
      exact fin (r:= .v undef) (by unfold GY;simp only [hgd];exact ⟨none,hc, .inr ⟨by simp,trivial⟩⟩) h
     ·exact h.elim
theorem JcY {ops:Array Oper} {K:Env→Prop} {Kp:AV→Env→Prop} {ro:Option Nat} {X M:Nat→Nat→Prop} {w0:World} {g0:List Nat} {Q:Exit→Act→World→Prop}
 (hQ:∀E a w g,K E→(∀(i b:Nat),g0[i]? =some b→g[i]? =some b)→St ro X M w0 E a w g→Q .normal a w)
 (hP:∀x E a w g v,Kp x E→(∀(i b:Nat),g0[i]? =some b→g[i]? =some b)→St ro X M w0 E a w g→Rep w (excl X g E.h) g x v→Q (.panic [{ v,recovered:=false}]) a w):∀(l:List Oper) (k:Nat) (E:Env) (a:Act) (w:World) (g:List Nat),
 (∀j,l[j]? =ops[k+j]? ∨l.length≤j)→(∀(i b:Nat),g0[i]? =some b→g[i]? =some b)→St ro X M w0 E a w g→aK P ops l E K Kp→wpOpsIn (Fr ro) 0 P ops Q (List.range' k l.length) a w
 | [],k,E,a,w,g,_,hg,hs,h=> hQ E a w g h hg hs
 | o::l,k,E,a,w,g,hl,hg,hs,h=> by
   have h0:ops[k]? =some o:=by
    rcases hl 0 with h | h
    ·simpa using h.symm
    ·simp at h
   have hl':∀j,l[j]? =ops[k+1+j]? ∨l.length≤j:=fun j=> by
    have:=hl (j+1);simp only [List.getElem?_cons_succ,List.length_cons] at this;rcases this with h | h
    ·left;rw [h];congr 1;omega
    ·right;omega
   rw [List.length_cons,List.range'_succ,wpOpsIn_cons];have go:Jf7 P o E (fun r=> aK P ops l (E.set o.dst r) K Kp) (Jn6 P o E (fun E'=> aK P ops l E' K Kp) Kp)→AOp P o E (fun E'=> aK P ops l E' K Kp) Kp:=by
    intro hg;rcases Jhs hg with ⟨r,q1,q2⟩ | hg
    ·exact AOp.of_yields q1 q2
    ·exact JqH hg
   have run:AOp P o E (fun E'=> aK P ops l E' K Kp) Kp→o.wpIn (Fr ro) 0 P a w (wpOpsIn (Fr ro) 0 P ops Q (List.range' (k+1) l.length)) Q:=fun ha=>
    ha ro X M w0 a w g hs _ _ (fun E' a' w' g' hk' hg' hs'=> JcY hQ hP l (k+1) E' a' w' g' hl' (fun i b hi=> hg' i b (hg i b hi)) hs' hk') (fun x E' a' w' g' v hk' hg' hs' hr'=> hP x E' a' w' g' v hk' (fun i b hi=> hg' i b (hg i b hi)) hs' hr')
   simp only [aK] at h;unfold wpOpIn;simp only [h0];cases hgd:o.guard with
   | none=>
     simp only [hgd] at h;simp only [Region.wanted,hgd,if_true];exact run (go h)
   | some p=>
     obtain ⟨j,want⟩:=p;simp only [hgd] at h;split at h
     ·rename_i c hc
      have hy:=JjV hc hs;simp only [Region.wanted,hgd,hy];cases hb:(c ==want) with
      | true=>
        simp only [hb,cond_true] at h;have:(some c ==some want)=true:=(by simpa using hb);simp only [this,if_true];exact run (go h)
      | false=>
        simp only [hb,cond_false] at h;have:(some c ==some want)=false:=(by simpa using hb);simp only [this];exact ⟨fun _ _=> trivial,JcY hQ hP l (k+1) _ _ w g hl' hg (hs.put o.dst (.v _)) h⟩
     ·rename_i hc
      have hy:=JjV hc hs;simp only [Region.wanted,hgd,hy];exact ⟨fun _ _=> trivial,JcY hQ hP l (k+1) _ _ w g hl' hg (hs.put o.dst (.v _)) h⟩
     ·exact h.elim
theorem JZ {id:Nat} {ops:Array Oper} {E:Env} {Q:AExit→Env→Prop} (h:aK P ops ops.toList E (Q .normal) (fun x E=> Q (.panic x) E)):AW P (.region id ops false) E Q:=by
 unfold AW
 intro ro X M w0 a w g g0 hg hs
 refine wpIn_region ?_
 rw [List.range_eq_range']
 have:=JcY (P:=P) (ops:=ops) (K:=Q .normal) (X:=X) (M:=M) (w0:=w0) (g0:=g0) (Kp:=fun x E=> Q (.panic x) E) (ro:=ro) (Q:=Jd9 ro X M w0 g0 Q) (fun E a w g hk hg hs=> ⟨.normal,E,g,hk,rfl,hg,hs⟩) (fun x E a w g v hk hg hs hr=> ⟨.panic x,E,g,hk,⟨v,rfl,hr⟩,hg,hs⟩) ops.toList 0 E a w g (fun j=> .inl Si) hg hs h
 simpa using this
theorem St.drew {ro:Option Nat} {X M:Nat→Nat→Prop} {w0:World} {E:Env} {a:Act} {w:World} {g:List Nat} (h:St ro X M w0 E a w g):St ro X M w0 E a w.drew g:=h.evo0 (Jf4 w)
theorem JL {id:Nat} {ops:Array Oper} {E:Env} {Q:AExit→Env→Prop} (m:Nat) (hf:P.follows .mixedOrders=true) (hb:Jb1 ops m=true) (hm:Nat.ble m ops.size=true)
 (h:aQ P ops (ops.toList.take m) E fun E'=> aK P ops (ops.toList.drop m) E' (Q .normal) (fun x E=> Q (.panic x) E)):AW P (.region id ops true) E Q:=by
 unfold AW
 intro ro X M w0 a w g g0 hg hs
 have hm:=Jdl hm
 refine wpIn_region_any hf ?_
 have hlt:(ops.toList.take m).length=m:=by simp;omega
 obtain ⟨E',h1,h2⟩:=JuC (P:=P) (ops:=ops) (ops.toList.take m) 0 E (fun j=> by
  rw [hlt,List.getElem?_take,Nat.zero_add];by_cases hj:j < m
  ·left;simp [hj]
  ·right;omega) h
 rw [hlt] at h1
 have hs':St ro X M w0 E a { w with drawn:=w.drawn+1} g:=hs.drew
 have hun:∀i,i < ops.size→((Array.replicate ops.size false).getD i true=false↔i∈List.range' 0 m∨m≤i):=by
  intro i hi;have:(Array.replicate ops.size false).getD i true=false:=by simp [Array.getD_eq_getD_getElem?,hi]
  simp only [this,true_iff,List.mem_range'_1];omega
 have key:=JwG (P:=P) (Jn4 hb) hm (ro:=ro) (Q:=Jd9 ro X M w0 g0 Q) (X:=X) (M:=M) (w0:=w0) (g:=g) m (List.range' 0 m) (Array.replicate ops.size false) E E' a _ Si (fun i hi=> by simp only [List.mem_range'_1] at hi;omega)
  List.pairwise_lt_range' Si (fun k o ho hl=> by
   have hk:=(Array.getElem?_eq_some_iff.1 ho).1;simp [Array.getD_eq_getD_getElem?,hk] at hl) hun h1 hs' (fun a' w' hs''=> by
   have:=JcY (P:=P) (ops:=ops) (K:=Q .normal) (X:=X) (M:=M) (w0:=w0) (g0:=g0) (Kp:=fun x E=> Q (.panic x) E) (ro:=ro) (Q:=Jd9 ro X M w0 g0 Q) (fun E a w g hk hg hs=> ⟨.normal,E,g,hk,rfl,hg,hs⟩) (fun x E a w g v hk hg hs hr=> ⟨.panic x,E,g,hk,⟨v,rfl,hr⟩,hg,hs⟩) (ops.toList.drop m) m E' a' w' g (fun j=> .inl Si) hg hs'' h2;simpa using this)
 have e:m+(ops.size - m)=ops.size:=by omega
 rw [e] at key
 exact key
def Jie:List Prop→Prop
 | []=> True
 | p::l=> p∧Jie l
def JkC (P:Program) (E:Env):ResultVar→Option (Option Prop×AV)
 | .tmp t=> some (none,E.t t)
 | .cell a t=> JdC P t E.h (E.t a)
def Jht (P:Program) (E:Env):List ResultVar→Option (List Prop×List AV)
 | []=> some ([], [])
 | r::l=> match JkC P E r,Jht P E l with
   | some (none,a),some (cs,as)=> some (cs,a::as)
   | some (some c,a),some (cs,as)=> some (c::cs,a::as)
   | _,_=> none
def Jif (P:Program) (fn:Func) (E:Env):Option (List Prop×AV):=
 match Jht P E fn.results.toList with
 | some (cs, [a])=> some (cs,a)
 | some (cs,as)=> some (cs, .tup as)
 | none=> none
def Jig (tmps:Array Value):ResultVar→Sem Value
 | .tmp t=> pure (tmps.getD t undef)
 | .cell a t=> do loadVar t (← asAddr (tmps.getD a undef))
theorem JqI {ro:Option Nat} {X M:Nat→Nat→Prop} {w0:World} {E:Env} {a:Act} {w:World} {g:List Nat} (hs:St ro X M w0 E a w g) {r:ResultVar} {C:Option Prop} {x:AV} (h:JkC P E r=some (C,x)) (hC:J9 C):
 ∃u,(Jig a.tmps r).run P w= .ok u w∧Rep w (excl X g E.h) g x u:=by
 cases r with
 | tmp t=>
   simp only [JkC,Option.some.injEq,Prod.mk.injEq] at h;obtain ⟨_,rfl⟩:=h;exact ⟨_,rfl,hs.tm t⟩
 | cell b t=>
   simp only [JkC] at h;have hb:=hs.tm b;obtain ⟨u,h2,h4⟩:=Jmy h hC hs.hok hb;have hw:∃ad,a.tmps.getD b undef= .pointer (some ad):=by
    generalize a.tmps.getD b undef=v at hb h2;unfold Instr.loadAt Instr.sureAddr at h2;cases v <;> simp at h2
    rename_i ad
    cases ad with
    | none=> simp at h2
    | some ad=> exact ⟨ad,rfl⟩
   obtain ⟨ad,had⟩:=hw;rw [had] at h2;simp only [Instr.loadAt,Instr.sureAddr,pure_bind] at h2;refine ⟨u, ?_,h4⟩;simp only [Jig,had,asAddr,pure_bind];simpa [Instr.loadAt,Instr.sureAddr] using h2
theorem Jjz {ro:Option Nat} {X M:Nat→Nat→Prop} {w0:World} {E:Env} {a:Act} {w:World} {g:List Nat} (hs:St ro X M w0 E a w g):∀(rs:List ResultVar) (cs:List Prop) (xs:List AV),Jht P E rs=some (cs,xs)→Jie cs→
 ∃us:List Value,(rs.mapM (Jig a.tmps)).run P w= .ok us w∧us.length=xs.length∧∀(k:Nat) (c:AV) (u:Value),xs[k]? =some c→us[k]? =some u→Rep w (excl X g E.h) g c u
 | [],cs,xs,h,_=> by simp only [Jht,Option.some.injEq,Prod.mk.injEq] at h;obtain ⟨_,rfl⟩:=h;exact ⟨[],by simp,rfl,by simp⟩
 | r::rs,cs,xs,h,hcs=> by
   obtain ⟨C,x,cs',ys,hx,hys,hC,hcs',rfl⟩:∃C x cs' ys,JkC P E r=some (C,x)∧Jht P E rs=some (cs',ys)∧J9 C∧Jie cs'∧xs=x::ys:=by
    simp only [Jht] at h;split at h
    ·rename_i x cs' ys hx hys
     cases h;exact ⟨_,_,_,_,hx,hys,trivial,hcs,rfl⟩
    ·rename_i c x cs' ys hx hys
     cases h;exact ⟨_,_,_,_,hx,hys,hcs.1,hcs.2,rfl⟩
    ·cases h
   ·obtain ⟨u,h1,h2⟩:=JqI hs hx hC;obtain ⟨us,h3,h4,h5⟩:=Jjz hs rs cs' ys hys hcs';refine ⟨u::us, ?_,by simp [h4],fun k c v hc hv=> ?_⟩
    ·rw [List.mapM_cons];simp only [Sem.run_bind,h1,Result.andThen_ok,h3,Sem.run_pure]
    ·cases k with
     | zero=> simp at hc hv;subst hc;subst hv;exact h2
     | succ k=> simp at hc hv;exact h5 k c v hc hv
theorem JkD {ro:Option Nat} {X M:Nat→Nat→Prop} {w0:World} {E:Env} {a:Act} {w:World} {g:List Nat} (hs:St ro X M w0 E a w g) {fn:Func} {cs:List Prop} {x:AV} (h:Jif P fn E=some (cs,x)) (hcs:Jie cs):
 ∃u,(results fn a.tmps).run P w= .ok u w∧Rep w (excl X g E.h) g x u:=by
 unfold Jif at h
 have key:∀xs,Jht P E fn.results.toList=some (cs,xs)→∃us:List Value,(results fn a.tmps).run P w= .ok (if h:us.toArray.size=1 then us.toArray[0] else .tuple us.toArray) w∧us.length=xs.length∧
  ∀(k:Nat) (c:AV) (u:Value),xs[k]? =some c→us[k]? =some u→Rep w (excl X g E.h) g c u:=by
  intro xs hxs;obtain ⟨us,h1,h2,h3⟩:=Jjz hs _ _ _ hxs hcs;refine ⟨us, ?_,h2,h3⟩;have e:results fn a.tmps=(do let vs ← fn.results.mapM (Jig a.tmps);pure (if h:vs.size=1 then vs[0] else .tuple vs)):=by
   unfold results;have:(fun r:ResultVar=> (match r with
    | .tmp t=> (pure (a.tmps.getD t undef):Sem Value)
    | .cell b t=> do loadVar t (← asAddr (a.tmps.getD b undef))))=Jig a.tmps:=by funext r;cases r <;> rfl
   rw [← this];rfl
  rw [e,Array.mapM_eq_mapM_toList];simp only [Sem.run_bind,Sem.run_map];rw [h1];simp only [Result.andThen_ok,Sem.run_pure]
 split at h
 ·rename_i cs' x' hxs
  cases h;obtain ⟨us,h1,h2,h3⟩:=key _ hxs;obtain ⟨u,rfl⟩:∃u,us= [u]:=by
   match us,h2 with
   | [u],_=> exact ⟨u,rfl⟩
  exact ⟨u,by simpa using h1,h3 0 _ u rfl rfl⟩
 ·rename_i cs' xs hne hxs
  cases h;obtain ⟨us,h1,h2,h3⟩:=key _ hxs;have hn:¬us.toArray.size=1:=by
   intro h1;have:xs.length=1:=by rw [← h2];simpa using h1
   match xs,this with
   | [y],_=> exact (hne y rfl).elim
  rw [dif_neg hn] at h1;exact ⟨_,h1, .tup _ us h2 h3⟩
 ·cases h
def Jfx (P:Program) (fn:Func) (Q:AV→Heap→Prop) (E:Env):Prop:=
 match Jif P fn E with
 | some (cs,r)=> Jie cs∧Q r E.h
 | none=> False
inductive AMode where
 | returning
 | panicking (x:AV)
def DMRep (w:World) (X:Nat→Nat→Prop) (g:List Nat):AMode→FrameMode→Prop
 | .returning,m=> m= .returning
 | .panicking x,m=> ∃v,m= .panicking [{ v,recovered:=false}]∧Rep w X g x v
def DCall (P:Program) (f:FuncId) (args:List AV) (u:AMode) (h:Heap) (Q:AMode→Heap→Prop):Prop:=
 Jbi P f∧∀(X:Nat→Nat→Prop) (w:World) (g:List Nat) (vs:List Value) (m:FrameMode),HOk w (excl X g h) g h→(∀b o,X b o→∀i,i∈h.ids→g[i]? ≠some b)→vs.length=args.length→
  (∀(k:Nat) (c:AV) (u:Value),args[k]? =some c→vs[k]? =some u→Rep w (excl X g h) g c u)→DMRep w (excl X g h) g u m→
  CallsDIn (Fr none) 0 P f vs.toArray m w fun e m' w'=> ∃v u' h' g',e= .returned v∧DMRep w' (excl X g' h') g' u' (settle m')∧Q u' h'∧(∀(i b:Nat),g[i]? =some b→g'[i]? =some b)∧HOk w' (excl X g' h') g' h'∧(∀b o,X b o→∀i,i∈h'.ids→g'[i]? ≠some b)∧
   Evo (excl none2 g h) w w'∧(∀b o,excl none2 g' h' b o→b < w.heap.size→excl none2 g h b o)
def JgM (nm:Nat):List (Id×Own)→List (Id×Own)
 | []=> []
 | p::l=> bif Nat.beq p.1.1 nm then l else p::JgM nm l
theorem hdel_sub {nm:Nat}:∀ {l:List (Id×Own)},(JgM nm l).Sublist l
 | []=> .slnil
 | p::l=> by
   unfold JgM;cases Nat.beq p.1.1 nm
   ·exact .cons_cons _ hdel_sub
   ·exact .cons _ (List.Sublist.refl l)
theorem JrE {nm s:Nat} {x:Own}:∀ {l:List (Id×Own)} {p:Id×Own},(l.map (·.1.2)).Nodup→J6 nm l=some (s,x)→p∈JgM nm l→p.1.2≠s
 | [],_,_,h,_=> by simp [J6] at h
 | q::l,p,hn,hg,h=> by
   simp only [List.map_cons,List.nodup_cons] at hn;unfold JgM at h;unfold J6 at hg;cases hb:Nat.beq q.1.1 nm with
   | true=>
     simp only [hb,cond_true,Option.some.injEq,Prod.mk.injEq] at h hg;intro e;exact hn.1 (by rw [hg.1,← e];exact List.mem_map.2 ⟨p,h,rfl⟩)
   | false=>
     simp only [hb,cond_false,List.mem_cons] at h hg;rcases h with rfl | h
     ·intro e;exact hn.1 (by rw [e];exact List.mem_map.2 ⟨_,Jat hg,rfl⟩)
     ·exact JrE hn.2 hg h
def JdX (P:Program) (fn:Func) (Q:Res→Heap→Prop):List DA→AMode→Env→Prop
 | [], .returning,E=> Jfx P fn (fun r h=> Q (.ret r) h) E
 | [], .panicking x,E=> Q (.pan x) E.h
 | .col i::ds,u,E=> match J6 i.1 E.h.bx with
   | some (s, .df)=> s=i.2∧JdX P fn Q ds u { E with h:= { E.h with bx:=JgM i.1 E.h.bx},df:=some ds}
   | _=> False
 | .fn f caps args::ds,u,E=> DCall P f (args++caps) u E.h fun u' h'=> JdX P fn Q ds u' { E with h:=h',df:=some ds}
def JuD (P:Program) (fn:Func) (Q:Res→Heap→Prop):AExit→Env→Prop
 | .normal,E=> match E.df with
   | some ds=> JdX P fn Q ds .returning E
   | none=> False
 | .ret,E=> match E.df with
   | some ds=> JdX P fn Q ds .returning E
   | none=> False
 | .panic x,E=> match E.df with
   | some ds=> JdX P fn Q ds (.panicking x) E
   | none=> False
 | _,_=> False
def JwO (P:Program) (fn:Func) (Q:AV→Heap→Prop):AExit→Env→Prop:=JuD P fn (JgL Q)
def entry (fn:Func) (args:List AV) (h:Heap):Env:=⟨args.length+(fn.ntmps - args.length),fun k=> args.getD k .any,h,some []⟩
theorem JyF (P:Program) (fn:Func) (Q:AV→Heap→Prop) (E:Env):Jfx P fn Q E=(match Jif P fn E with | some (cs,r)=> Jie cs∧Q r E.h | none=> False):=rfl
def JzR (X:Nat→Nat→Prop) (w:World) (g:List Nat) (h:Heap) (Q:Res→Heap→Prop) (e:Ending) (w':World):Prop:=
 ∃r h' g',ResRep w' (excl X g' h') g' r e∧Q r h'∧(∀(i b:Nat),g[i]? =some b→g'[i]? =some b)∧HOk w' (excl X g' h') g' h'∧(∀b o,X b o→∀i,i∈h'.ids→g'[i]? ≠some b)∧
  Evo (excl none2 g h) w w'∧(∀b o,excl none2 g' h' b o→b < w.heap.size→excl none2 g h b o)
theorem DMRep.stays {w w':World} {X X':Nat→Nat→Prop} {g g':List Nat} (hs:Stays w X g w' X' g') {u:AMode} {m:FrameMode} (h:DMRep w X g u m):DMRep w' X' g' u m:=by
 cases u with
 | returning=> exact h
 | panicking x=> obtain ⟨v,h1,h2⟩:=h;exact ⟨v,h1,h2.stays hs⟩
theorem DMRep.run {w:World} {X:Nat→Nat→Prop} {g:List Nat} {u:AMode} {m:FrameMode} (h:DMRep w X g u m):m≠ .run:=by
 cases u with
 | returning=> rw [show m= .returning from h];intro e;cases e
 | panicking x=> obtain ⟨v,rfl,_⟩:=h;intro e;cases e
theorem Jf8 {fn:Func} {Q:Res→Heap→Prop} {X:Nat→Nat→Prop} {w0:World} {h0:Heap} {g0:List Nat}:∀(ds:List DA) (u:AMode) (E:Env) (a:Act) (w:World) (g:List Nat) (m:FrameMode),
 JdX P fn Q ds u E→E.df=some ds→(∀(i b:Nat),g0[i]? =some b→g[i]? =some b)→St none X (excl none2 g0 h0) w0 E a w g→DMRep w (excl X g E.h) g u m→
 LeavesInM (Fr none) 0 P fn a.tmps (JzR X w0 g0 h0 Q) a.defers m w
 | [], .returning,E,a,w,g,m,h,hd,hg,s,hm=> by
   have e0:a.defers= []:=by have:=s.def_;rw [hd] at this;exact this.nil
   cases (hm:m= .returning);rw [e0];unfold JdX Jfx at h;split at h
   ·rename_i cs r hres
    obtain ⟨u,h1,h2⟩:=JkD s hres h.1;exact ⟨u,h1, .ret r,E.h,g,⟨u,rfl,h2⟩,h.2,hg,s.hok,s.sep,s.evo,s.loc⟩
   ·exact h.elim
 | [], .panicking x,E,a,w,g,m,h,hd,hg,s,hm=> by
   have e0:a.defers= []:=by have:=s.def_;rw [hd] at this;exact this.nil
   obtain ⟨v,rfl,hr⟩:=hm;rw [e0];exact ⟨.pan x,E.h,g,⟨v,rfl,hr⟩,h,hg,s.hok,s.sep,s.evo,s.loc⟩
 | .col i::ds,u,E,a,w,g,m,h,hd,hg,s,hm=> by
   have hdr:DReps w (excl X g E.h) g (.col i::ds) a.defers:=by have:=s.def_;rw [hd] at this;exact this
   obtain ⟨tmps,defers⟩:=a;dsimp only at hdr⊢;cases hdr with
   | cons h1 h2=>
     rename_i es
     cases h1 with
     | col _ b hgb=>
       unfold JdX at h;split at h
       ·rename_i st hst
        obtain ⟨rfl,h⟩:=h;have hmem:=Jat hst;obtain ⟨b',hb1,hb2⟩:=s.hok.bx _ hmem;dsimp only at hb1;rw [hgb] at hb1;cases hb1;have hblk:w.heap[b]? =some (.deferred (some [])):=hb2;have hbl:=Jl hblk
        let w':World:=World.setO w b (.deferred none)
        have hoth:∀k,k≠b→w'.heap[k]? =w.heap[k]? :=fun k hk=> JdF hk;have hrun:(Instr.takeDeferred b).run P w= .ok [] w':=by
         simp only [Instr.takeDeferred,Sem.run_bind,Jcd hblk,Result.andThen_ok,JbK hblk,Sem.run_pure];rfl
        have hev:Evo (fun b' _=> b'=b) w w':=Jdq hblk rfl (fun h=> by cases h);have hexX:∀o,excl X g E.h b o:=fun o=> .inr (.inl ⟨_,hmem,hgb⟩);have hst':Stays w (excl X g E.h) g w' (excl X g E.h) g:=hev.stays (fun b' o _ hm=> by rw [hm];exact hexX o) (fun _ _ _ x=> x) (fun _ _ x=> x);have hle:∀Y:Nat→Nat→Prop,∀b' o,excl Y g { E.h with bx:=JgM i.1 E.h.bx} b' o→excl Y g E.h b' o:=by
         rintro Y b' o (hx | ⟨p,hp,hgp⟩ | ⟨p,hp,hgp⟩)
         ·exact .inl hx
         ·exact .inr (.inl ⟨p,hdel_sub.subset hp,hgp⟩)
         ·exact .inr (.inr ⟨p,hp,hgp⟩)
        have hst2:Stays w (excl X g E.h) g w' (excl X g { E.h with bx:=JgM i.1 E.h.bx}) g:=hst'.trans (Stays.less (hle X));have hids:(Heap.ids { E.h with bx:=JgM i.1 E.h.bx}).Sublist E.h.ids:=by
         unfold Heap.ids;exact (hdel_sub.map _).append (List.Sublist.refl _)
        have hs':St none X (excl none2 g0 h0) w0 { E with h:= { E.h with bx:=JgM i.1 E.h.bx},df:=some ds} ⟨tmps,es⟩ w' g:=by
         refine ⟨⟨fun p hp=> ?_,fun p hp=> ?_,s.hok.nodup.sublist (hids.map _),s.hok.nx,fun b' o hx=> ?_,s.hok.kn.stays hst2⟩,fun k=> (s.tm k).stays hst2,s.n,s.evo.and_then hev (fun b' o hb' e=> ?_),fun b' o hx hb'=> s.loc b' o (hle none2 b' o hx) hb',DReps.stays hst2 h2,
          fun b' o hx j hj=> s.sep b' o hx j (hids.subset hj),⟨fun _=> rfl,fun h0=> (by cases h0)⟩,s.rnd⟩
         ·obtain ⟨b',q1,q2⟩:=s.hok.bx p (hdel_sub.subset hp);have hne:b'≠b:=fun e=> Jg0 s.hok (List.mem_append_left _ (List.mem_map.2 ⟨_,hmem,rfl⟩):i.2∈E.h.ids) (List.mem_append_left _ (List.mem_map.2 ⟨p,hdel_sub.subset hp,rfl⟩):p.1.2∈E.h.ids) (Ne.symm (JrE (JmB s.hok) hst hp)) hgb (e ▸ q1);exact ⟨b',q1,q2.stays hst2 (hoth b' hne)⟩
         ·obtain ⟨b',vs',e',q1,q2,q3⟩:=s.hok.pm p hp;have hne:b'≠b:=fun e=> by rw [e,hblk] at q2;cases q2
          exact ⟨b',vs',e',q1,(hoth b' hne).trans q2,q3⟩
         ·have:=s.hok.bd b' o (hle X b' o hx);simpa [w',World.setO] using this
         ·rw [e];exact s.loc b o (.inr (.inl ⟨_,hmem,hgb⟩)) (e ▸ hb')
        refine ⟨hm.run, .inl ⟨b,w',rfl,hrun, ?_⟩⟩;exact Jf8 ds u _ ⟨tmps,es⟩ w' g m h rfl hg hs' (hm.stays hst2)
       ·exact h.elim
 | .fn f caps args::ds,u,E,a,w,g,m,h,hd,hg,s,hm=> by
   have hdr:DReps w (excl X g E.h) g (.fn f caps args::ds) a.defers:=by have:=s.def_;rw [hd] at this;exact this
   obtain ⟨tmps,defers⟩:=a;dsimp only at hdr⊢;cases hdr with
   | cons h1 h2=>
     rename_i es
     cases h1 with
     | fn _ _ _ v1 v2 hn1 hn2 r1 r2=>
       unfold JdX at h;obtain ⟨⟨fn',hfn,hbody,hname⟩,hcall⟩:=h;have hrun:(invoke (.fn (.func f) v1.toArray) v2.toArray).run P w= .ok (.enter f (v2++v1).toArray) w:=by
        have e:v2.toArray++v1.toArray=(v2++v1).toArray:=Si;simp only [invoke,e];simp only [callFunc,Sem.run_bind,run_program,Result.andThen_ok,hfn,hname,hbody,Bool.false_eq_true,if_false,Sem.run_pure]
       refine ⟨hm.run, .inr ⟨fun h0=> (by cases h0), .func f,v1.toArray,f,(v2++v1).toArray,rfl,hrun,fun _ _=> trivial, ?_⟩⟩;refine CallsDIn.mono (hcall X w g (v2++v1) m s.hok s.sep (by simp [hn1,hn2]) (fun k c u' hc hu=> ?_) hm) fun e m' w' ⟨v,u',h',g',a1,a2,a3,a4,a5,a6,a7,a8⟩=> ?_
       ·rw [List.getElem?_append] at hc hu;rw [hn2] at hu;split at hc
        ·rename_i hk;rw [if_pos hk] at hu;exact r2 k c u' hc hu
        ·rename_i hk;rw [if_neg hk] at hu;exact r1 _ c u' hc hu
       ·subst a1;have hst:Stays w (excl X g E.h) g w' (excl X g' h') g':=by
         refine a7.stays (fun b o _ hx=> Jas hx) (fun b o hb' hx=> ?_) a4;rcases hx with hx | hx | hx
         ·exact .inl hx
         ·exact Jas (a8 b o (.inr (.inl hx)) hb')
         ·exact Jas (a8 b o (.inr (.inr hx)) hb')
        have hnew:St none X (excl none2 g0 h0) w0 { E with h:=h',df:=some ds} ⟨tmps,es⟩ w' g':=
         ⟨a5,fun k=> (s.tm k).stays hst,s.n,s.evo.and_then a7 (fun b o hb' hx=> s.loc b o hx hb'),fun b o hx hb'=> s.loc b o (a8 b o hx (Nat.lt_of_lt_of_le hb' s.evo.size)) hb',DReps.stays hst h2,a6,⟨fun _=> rfl,fun h0=> (by cases h0)⟩,s.rnd⟩
        exact Jf8 ds u' _ ⟨tmps,es⟩ w' g' (settle m') a3 rfl (fun i b hi=> a4 i b (hg i b hi)) hnew a2
theorem Joz {f : FuncId} {fn : Func} {c : Code} {args : List AV} {h : Heap} {Q : Res → Heap → Prop} (hf : P.funcs[f]? = some fn) (hb : fn.body = some c) (hn : (fn.name == "runtime.NumGoroutine") = false)
 (hw:AW P c (entry fn args h) (JuD P fn Q)):ECallR P f args h Q:=by
 refine ⟨⟨fn,hf,by rw [hb];rfl,hn⟩,fun X w g vs hk hsep hl hr=> ?_⟩
 refine (JlO (r:=none) (n:=0)).1 (callsIn_of_wp_marks hf hb trivial ?_)
 have hs:St none X (excl none2 g h) w (entry fn args h) { tmps:=vs.toArray++Array.replicate (fn.ntmps - vs.toArray.size) undef,defers:= []} w g:=by
  refine ⟨hk,fun k=> ?_,by simp [entry,hl],Evo.refl _ _,fun b o hx _=> hx,DReps.nil,hsep,⟨fun _=> rfl,fun h0=> (by cases h0)⟩,fun _ h0=> (by cases h0)⟩;simp only [entry,List.getD];cases hc:args[k]? with
  | none=> exact .any _
  | some c=>
    have hlt:k < args.length:=(List.getElem?_eq_some_iff.1 hc).1;have hlv:k < vs.length:=Om;have hv:(vs.toArray++Array.replicate (fn.ntmps - vs.toArray.size) undef).getD k undef=vs[k]:=by
     rw [Array.getD_eq_getD_getElem?,Array.getElem?_append_left (by simpa using hlv)];simp [hlv]
    show Rep _ _ _ _ ((vs.toArray++Array.replicate (fn.ntmps - vs.toArray.size) undef).getD k undef);rw [hv];exact hr k c _ hc (List.getElem?_eq_getElem hlv)
 unfold AW at hw
 refine wpIn_mono (hw none X _ w _ w g g (fun _ _ h=> h) hs) fun ex a' w' hq=> ?_
 obtain ⟨ax,E',g',q,hx,hg',s⟩:=hq
 have fin:∀(u:AMode) (m:FrameMode),DMRep w' (excl X g' E'.h) g' u m→(match E'.df with | some ds=> JdX P fn Q ds u E' | none=> False)→LeavesInM (Fr none) 0 P fn a'.tmps (JzR X w g h Q) a'.defers m w':=by
  intro u m hm q;cases hd:E'.df with
  | none=> rw [hd] at q;exact q.elim
  | some ds=> rw [hd] at q;exact Jf8 ds u E' a' w' g' m q hd hg' s hm
 cases ax with
 | normal=> cases (hx:ex= .normal);exact fin .returning _ rfl q
 | ret=> cases (hx:ex= .ret);exact fin .returning _ rfl q
 | panic x=> obtain ⟨v,rfl,hr⟩:=hx;exact fin (.panicking x) _ ⟨v,rfl,hr⟩ q
 | exit i=> exact q.elim
 | goto i=> exact q.elim
theorem JB {f : FuncId} {fn : Func} {c : Code} {args : List AV} {h : Heap} {Q : AV → Heap → Prop} (hf : P.funcs[f]? = some fn) (hb : fn.body = some c) (hn : (fn.name == "runtime.NumGoroutine") = false)
 (hw:AW P c (entry fn args h) (JwO P fn Q)):ECall P f args h Q:=Joz hf hb hn hw
def PCall (P:Program) (f:FuncId) (args:List AV) (R:AV→Prop):Prop:=∀nx,ECall P f args ⟨[], [],nx,0⟩ fun r h'=> R r∧h'.bx= []∧h'.pm= []
theorem JqJ {f : FuncId} {fn : Func} {c : Code} {args : List AV} {R : AV → Prop} (hf : P.funcs[f]? = some fn) (hb : fn.body = some c) (hn : (fn.name == "runtime.NumGoroutine") = false)
 (hw:∀nx,AW P c (entry fn args ⟨[], [],nx,0⟩) (JwO P fn fun r _=> R r)):PCall P f args R:=by
 intro nx
 have h1:=JB hf hb hn (hw nx)
 refine ⟨h1.1,fun X w g vs hk hsep hl hr=> (h1.2 X w g vs hk hsep hl hr).mono fun e w' ⟨r,h',g',a6,a2,a3,a4,a5,a7,a8⟩=> ?_⟩
 cases r with
 | pan x=> exact a2.elim
 | ret r=>
 refine ⟨.ret r,⟨[], [],h'.nx,h'.nn⟩,g',a6.stays (Stays.less fun b o hx=> hx.elim .inl (fun h=> h.elim (fun ⟨p,hp,_⟩=> by cases hp) (fun ⟨p,hp,_⟩=> by cases hp))),⟨a2,rfl,rfl⟩,a3,⟨by simp,by simp,by simp [Heap.ids],a4.nx,fun b o hx=> a4.bd b o (hx.elim .inl (fun h=> h.elim (fun ⟨p,hp,_⟩=> by cases hp) (fun ⟨p,hp,_⟩=> by cases hp))),a4.kn.stays (g:=g') (g':=g') (Stays.less fun b o hx=> hx.elim .inl (fun h=> h.elim (fun ⟨p,hp,_⟩=> by cases hp) (fun ⟨p,hp,_⟩=> by cases hp)))⟩,
  fun b o hx i hi=> by simp [Heap.ids] at hi,a7, ?_⟩
 rintro b o (hx | ⟨p,hp,_⟩ | ⟨p,hp,_⟩)
 ·exact hx.elim
 ·cases hp
 ·cases hp
theorem PCall.mono {f:FuncId} {args:List AV} {R R':AV→Prop} (h:PCall P f args R) (hr:∀r,R r→R' r):PCall P f args R':=fun nx=> (h nx).mono fun r _ ⟨h1,h2⟩=> ⟨hr r h1,h2⟩
theorem PCall.over {f:FuncId} {args:List AV} {R:AV→Prop} (hc:PCall P f args R) (h:Heap):ECall P f args h fun r h'=> R r∧h'.bx=h.bx∧h'.pm=h.pm:=by
 have h1:=(hc h.nx).frame (h:=h) h.bx h.pm Si Si rfl
 refine h1.mono fun r h' hq=> ?_
 obtain ⟨h1',⟨q1,q2,q3⟩,rfl⟩:=hq
 simp [q1,q2,q3]
def NoId (a:AV):Prop:=∀w X g g' u,Rep w X g a u→Rep w X g' a u
theorem NoId.v (x:Value):NoId (.v x):=fun _ _ _ _ _ h=> by cases h;exact .v _
theorem NoId.any:NoId .any:=fun _ _ _ _ _ _=> .any _
theorem NoId.ag {cs:List AV} (h:∀c∈cs,NoId c):NoId (.ag cs):=fun w X g g' u hr=> by
 cases hr with
 | ag _ vs hn hr=> exact .ag _ vs hn fun k c u hc hu=> h c (List.mem_of_getElem? hc) w X g g' u (hr k c u hc hu)
theorem NoId.tup {cs:List AV} (h:∀c∈cs,NoId c):NoId (.tup cs):=fun w X g g' u hr=> by
 cases hr with
 | tup _ vs hn hr=> exact .tup _ vs hn fun k c u hc hu=> h c (List.mem_of_getElem? hc) w X g g' u (hr k c u hc hu)
theorem NoId.sl {sz n:Nat} {f:Nat→AV} (h:∀i,i < n→∀c∈(f i).cells,NoId c):NoId (.sl sz n f):=fun w X g g' u hr=> by
 cases hr with
 | sl0=> exact .sl0 _ _ _ _
 | sl _ _ _ b off cap vs hlen hcap hcell hcs hr=> exact .sl _ _ _ b off cap vs hlen hcap hcell hcs fun i j c u hi hj hu=> h i hi c (List.mem_of_getElem? hj) w X g g' u (hr i j c u hi hj hu)
theorem JoA {o:Oper} {E:Env} {fo:Operand} {args:Array Operand} {tys:Array TypeId} {f:FuncId} {first caps as:List AV} {R:AV→Prop} {r:AV}
 (ho:o.op= .call { callee:= .value fo,args:=args,argTypes:=tys}) (hf:E.ev fo= .fn (.func f) first caps)
 (hc:PCall P f as R) (hl:LeL (first++args.toList.map E.ev++caps) as) (hr:∀r',R r'→AVle r' r) (hid:NoId r):Yields P o E r:=by
 refine ⟨(by rw [ho];intro c h0;cases h0), ?_⟩
 intro ρ w X g hk hx
 obtain ⟨⟨fn,hfn,hbody,hname⟩,hcall⟩:=(hc E.h.nx).args hl
 have hfr:=hx fo (by simp [ho,Op.operands,Call.operands])
 rw [hf] at hfr
 generalize hu:ρ fo=u at hfr
 cases hfr with
 | fn _ _ _ v1 v2 hl1 hl2 hr1 hr2=>
   have hex:excl (excl X g E.h) g ⟨[], [],E.h.nx,0⟩=excl X g E.h:=by
    funext b o
    apply propext
    constructor
    ·rintro (h | ⟨p,hp,_⟩ | ⟨p,hp,_⟩)
     ·exact h
     ·cases hp
     ·cases hp
    ·exact .inl
   have hrun:(execOp ρ o).run P w= .ok (.enter f (v1++args.toList.map ρ++v2).toArray) w:=by
    have e:v1.toArray++args.map ρ++v2.toArray=(v1++args.toList.map ρ++v2).toArray:=by
     apply Array.ext';simp
    unfold execOp;simp only [ho,resolve,hu,Deferred.ofValue,pure_bind,invoke,e];simp only [callFunc,Sem.run_bind,run_program,Result.andThen_ok,hfn,hname,hbody,Bool.false_eq_true,if_false,Sem.run_pure]
   have hxs:∀x∈args.toList,Rep w (excl X g E.h) g (E.ev x) (ρ x):=fun x hm=> hx x (by
    rw [ho];simp only [Op.operands,Call.operands];exact Array.mem_append_right _ (Array.mem_toList_iff.1 hm))
   refine .inr ⟨f,_,w,hrun,Evo.refl _ _, ?_⟩;have hcs:=hcall (excl X g E.h) w g (v1++args.toList.map ρ++v2) (by rw [hex];exact ⟨by simp,by simp,by simp [Heap.ids],hk.nx,hk.bd,hk.kn⟩) (fun b o _ i hi=> by simp [Heap.ids] at hi) (by simp [hl1,hl2]) (fun k c u hc hu=> by
    rw [hex];rw [List.getElem?_append] at hc hu;simp only [List.length_append,List.length_map,hl1,hl2] at hc hu;split at hc
    ·rename_i h1
     rw [if_pos h1] at hu;rw [List.getElem?_append] at hc hu;rw [hl1] at hu;split at hc
     ·rename_i h2;rw [if_pos h2] at hu;exact hr1 k c u hc hu
     ·rename_i h2;rw [if_neg h2] at hu
      exact JeP hxs _ c u hc hu
    ·rename_i h1
     rw [if_neg h1] at hu;exact hr2 _ c u hc hu)
   refine Calls.mono hcs fun e w' ⟨r',h',g',a6,q,a3,a4,a5,a7,a8⟩=> ?_;cases r' with
   | pan x=> exact q.elim
   | ret r'=>
   obtain ⟨a2,b1,b2⟩:=q;obtain ⟨u,a1,a6⟩:=a6;refine ⟨u,a1,a7.mono fun b o _ hx=> ?_, ?_⟩
   ·rcases hx with hx | ⟨p,hp,_⟩ | ⟨p,hp,_⟩
    ·exact hx
    ·cases hp
    ·cases hp
   ·have h5:=hr r' a2 _ _ _ _ a6;have h6:=hid _ _ _ g _ h5;refine h6.stays (Stays.less fun b o hx=> .inl hx)
def look:List (Nat×AV)→Nat→AV
 | [],_=> .any
 | p::l,k=> bif Nat.beq p.1 k then p.2 else look l k
def mk (n:Nat) (L:List (Nat×AV)) (h:Heap) (df:Option (List DA):=some []):Env:=⟨n,look L,h,df⟩
def LeT (t:Nat→AV):List (Nat×AV)→Prop
 | []=> True
 | p::l=> AVle (t p.1) p.2∧LeT t l
theorem LeT.look {t:Nat→AV}:∀ {L:List (Nat×AV)},LeT t L→∀k,AVle (t k) (look L k)
 | [],_,k=> AVle.any _
 | p::l,h,k=> by
   unfold Vl.look;cases hb:Nat.beq p.1 k with
   | true=> have:=Nat.eq_of_beq_eq_true hb;subst this;exact h.1
   | false=> exact LeT.look h.2 k
theorem Jax {E:Env} {n:Nat} {L:List (Nat×AV)} {h:Heap} (hn:E.n=n) (hh:E.h=h) (hL:LeT E.t L):ELe E (mk n L h E.df):=by
 subst hn;subst hh
 intro ro X M w0 a w g hs
 exact ⟨hs.hok,fun k=> hL.look k _ _ _ _ (hs.tm k),hs.n,hs.evo,hs.loc,hs.def_,hs.sep,hs.top,hs.rnd⟩
theorem JcZ {E:Env} {bx:List (Id×Own)} {pm:List (Id×Nat)} {nn:Nat} (hb:bx.Sublist E.h.bx) (hp:pm.Sublist E.h.pm):ELe E { E with h:=⟨bx,pm,E.h.nx,nn⟩}:=by
 intro ro X M w0 a w g hs
 have hex:∀b o,excl X g ⟨bx,pm,E.h.nx,nn⟩ b o→excl X g E.h b o:=by
  rintro b o (h | ⟨p,hp',hg⟩ | ⟨p,hp',hg⟩)
  ·exact .inl h
  ·exact .inr (.inl ⟨p,hb.subset hp',hg⟩)
  ·exact .inr (.inr ⟨p,hp.subset hp',hg⟩)
 have hex2:∀b o,excl none2 g ⟨bx,pm,E.h.nx,nn⟩ b o→excl none2 g E.h b o:=by
  rintro b o (h | ⟨p,hp',hg⟩ | ⟨p,hp',hg⟩)
  ·exact .inl h
  ·exact .inr (.inl ⟨p,hb.subset hp',hg⟩)
  ·exact .inr (.inr ⟨p,hp.subset hp',hg⟩)
 have hst:=Stays.less (w:=w) (g:=g) hex
 have hids:(Heap.ids ⟨bx,pm,E.h.nx,nn⟩).Sublist E.h.ids:=by
  unfold Heap.ids;exact (hb.map _).append (hp.map _)
 refine ⟨⟨fun p h=> ?_,fun p h=> hs.hok.pm p (hp.subset h),hs.hok.nodup.sublist (hids.map _),hs.hok.nx,fun b o h=> hs.hok.bd b o (hex b o h),hs.hok.kn.stays hst⟩,fun k=> (hs.tm k).stays hst,hs.n,hs.evo,fun b o h=> hs.loc b o (hex2 b o h),hs.def_.stays hst,fun b o h i hi=> hs.sep b o h i (hids.subset hi),hs.top,hs.rnd⟩
 obtain ⟨b,h1,h2⟩:=hs.hok.bx p (hb.subset h)
 exact ⟨b,h1,h2.stays hst rfl⟩
theorem ELe.trans {E E' E'':Env} (h:ELe E E') (k:ELe E' E''):ELe E E'':=fun ro X M w0 a w g hs=> k ro X M w0 a w g (h ro X M w0 a w g hs)
attribute [irreducible] Jfx
theorem Jc9 {fn:Func} {Q:AV→Heap→Prop} {E:Env} {cs:List Prop} {r:AV} (h:Jif P fn E=some (cs,r)) (hc:Jie cs) (hq:Q r E.h):Jfx P fn Q E:=by
 rw [JyF,h];exact ⟨hc,hq⟩
theorem Jad {fn:Func} {Q:AV→Heap→Prop} {E:Env} {r:AV} (h:Jif P fn E=some ([],r)) (hq:Q r E.h):Jfx P fn Q E:=Jc9 h trivial hq
theorem Jk {k:IntKind} {a b:Int} (h:a=b):AVle (.v (.int k a)) (.v (.int k b)):=h ▸ AVle.refl _
theorem Jp {a b:Bool} (h:a=b):AVle (.v (.bool a)) (.v (.bool b)):=h ▸ AVle.refl _
theorem Jg2 {a b:ByteArray} (h:a=b):AVle (.v (.string a)) (.v (.string b)):=h ▸ AVle.refl _
theorem back {α:Type} {env:α→Env} {I:α→Prop} {m:α→Nat} {x:α} {E:Env} (x':α) (h1:I x') (h2:m x' < m x) (h3:ELe E (env x')):Jhm env I m x E:=by
 unfold Jhm;exact ⟨x',h1,h2,h3⟩
theorem JC {i:Nat} (h:i < 9223372036854775807):IntKind.i64.wrap ((i:Int)+1)=((i+1:Nat):Int):=by
 rw [IntWalk.i64_in _ ⟨by omega,by omega⟩];omega
theorem JaE {n:Int} (h1:-9223372036854775808≤n) (h2:n≤9223372036854775807):IntKind.i64.wrap n=n:=IntWalk.i64_in n ⟨h1,h2⟩
def JF {α:Type} (sz:Nat) (e:α→AV) (d:α) (l:List α):AV:= .sl sz l.length (fun k=> e (l.getD k d))
end Go.Vl
