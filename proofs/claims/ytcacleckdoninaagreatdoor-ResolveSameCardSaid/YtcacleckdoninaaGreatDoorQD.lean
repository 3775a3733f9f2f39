import Derived.Test.YtcacleckdoninaaGreatDoorQC
import Derived.Maps.RangeRun
import Derived.Sort.Row
import Derived.Sort.Grow
import Derived.Shelf.Strings.FuncGrows
import Derived.Scope
import Derived.Laws.IdiomStrings
import Derived.Shelf.SlSortCmp.InsertionK
import Derived.Sort.Statements
import Derived.Shelf.Strings.Builder1
import Derived.KernelRfl
import Derived.Test.YtcacleckdoninaaGreatDoorProg
import Derived.Shelf.Strconv.Itoa3
import Derived.Shelf.Lay
import Derived.Ground.NamesProg
import Derived.Shelf.Strings.SlTrimAscii
import Derived.Shelf.Small.Strs
import Derived.Sort.AssemblyPlain
import Derived.Shelf.SortM.Plain
import Derived.Shelf.SortM.SortNone
import Derived.Shelf.SlGeneric
import Derived.Ground.SlgmProg
set_option linter.unusedVariables false
set_option linter.unusedSimpArgs false
set_option maxHeartbeats 16000000
namespace Go.Vl
open Go.RowKit
variable {P:Program}
theorem JsM {o:Oper} {t kt et:TypeId} {m:Operand} {es:List (Value×AV)} {E:Env} {K:Env→Prop} {Kp:AV→Env→Prop} (ho:o.op= .range t m) (ht:P.underlying t=some (.map kt et)) (hm:E.ev m= .fm es)
 (hk:K (({ E with h:=E.h.addo (.it es [])}:Env).set o.dst (.bp (E.h.nn,E.h.nx) 0))):AOp P o E K Kp:=by
 intro ro X M w0 a w g hs next Q hn hp
 have hr:=hs.ev m
 rw [hm] at hr
 generalize hmv:a.eval m=u at hr
 cases hr with
 | fm _ mb ents hb hx hl hke hrp=>
   obtain ⟨h1,h2,_⟩:=hs.obj (x:= .it es []) (.mapIter (some mb) ents.length #[] ents.length) (fun X' g' hst hnew=> ⟨mb,ents,hnew,(hst.obj _ _ hb hx).1,(hst.obj _ _ hb hx).2,hl,fun k p e q1 q2=> ⟨(hke k p e q1 q2).1,(hke k p e q1 q2).2,(hrp k p e q1 q2).stays hst⟩⟩);refine Jx (by rw [ho];intro c h;cases h) ?_;have:(execOp a.eval o).run P w= .ok (.value (.pointer (some ⟨w.heap.size,0,none⟩))) (w.alloc (.mapIter (some mb) ents.length #[] ents.length)):=by
    unfold execOp;simp only [ho,Instr.range,hmv,Sem.run_bind,JeL ht,Result.andThen_ok,Jcd hb];simp [newObj,Sem.run]
   rw [this];exact hn _ _ _ _ hk (fun i b h=> by rw [List.getElem?_append_left (List.getElem?_eq_some_iff.1 h).1];exact h) (h1.put o.dst (.bp _ _ _ h2))
theorem JuL {Y:Nat→Nat→Prop} {g:List Nat} {h:Heap} {nm:Nat} {x:Own} {b o:Nat} (hx:excl Y g ({ h with bx:=JaA nm x h.bx}:Heap) b o):excl Y g h b o:=by
 rcases hx with hx | ⟨p,hp,hg⟩ | hx
 ·exact .inl hx
 ·have:p.1.2∈(JaA nm x h.bx).map (·.1.2):=List.mem_map.2 ⟨p,hp,rfl⟩;rw [Jff] at this;obtain ⟨q,hq,he⟩:=List.mem_map.1 this;exact .inr (.inl ⟨q,hq,by rw [he];exact hg⟩)
 ·exact .inr (.inr hx)
theorem JuM {o:Oper} {it:Operand} {i:Id} {es:List (Value×AV)} {seen:List Nat} {E:Env} {K:Env→Prop} {Kp:AV→Env→Prop} (ho:o.op= .next it false) (hit:E.ev it= .bp i 0) (hes:J6 i.1 E.h.bx=some (i.2, .it es seen))
 (hmore:∀k p,es[k]? =some p→k∉seen→K (({ E with h:= { E.h with bx:=JaA i.1 (.it es (seen++ [k])) E.h.bx}}:Env).set o.dst (.tup [.v (.bool true), .v p.1,p.2])))
 (hdone:(∀k,k < es.length→k∈seen)→K (E.set o.dst (.tup [.v (.bool false)]))):AOp P o E K Kp:=by
 intro ro X M w0 a w g hs next Q hn hp
 obtain ⟨b,hgb,hown⟩:=hs.hok.bx _ (Jat hes)
 dsimp only at hgb hown
 have hiv:a.eval it= .pointer (some ⟨b,0,none⟩):=by
  have:=hs.ev it;rw [hit] at this;generalize a.eval it=u at this;cases this with
  | bp _ _ b' hg'=> rw [hgb] at hg';cases hg';rfl
 obtain ⟨mb,ents,h1,h2,h3,h4,h5⟩:=hown
 have hborn:∀x∈ents.toArray.toList,x.born < ents.length:=fun x hx=> by
  obtain ⟨k,hk,rfl⟩:=List.getElem_of_mem hx;have hk2:k < es.length:=by rw [← h4];exact hk
  rw [(h5 k _ _ (List.getElem?_eq_getElem hk2) (List.getElem?_eq_getElem hk)).2.1];exact hk
 refine Jx (by intro c h;rw [ho] at h;cases h) ?_
 rcases run_next_at (P:=P) w o.type b mb ents.length ents.length seen.toArray ents.toArray ents.length h1 h2 hborn (Nat.le_refl _) with ⟨h0,hrun⟩ | ⟨e,he,w1,hw1,hrun⟩
 ·have:(execOp a.eval o).run P w= .ok (.value (.tuple #[.bool false])) w:=by
   unfold execOp;simp only [ho,hiv,hrun,Sem.run_bind,Result.andThen_ok,Sem.run_pure]
  rw [this];refine hn _ _ _ g (hdone fun k hk=> ?_) (fun _ _ h=> h) (hs.put o.dst ?_)
  ·have hk2:k < ents.length:=by rw [h4];exact hk
   have hb:=(h5 k _ _ (List.getElem?_eq_getElem hk) (List.getElem?_eq_getElem hk2)).2.1;rcases Decidable.em (k∈seen) with h | h
   ·exact h
   ·exfalso
    have hem:(leftOf ents.toArray seen.toArray)= #[]:=Array.eq_empty_of_size_eq_zero h0;unfold leftOf at hem;rw [Array.filter_eq_empty_iff] at hem;have:=hem ents[k] Si;simp [hb] at this;exact h this
  ·refine .tup [.v (.bool false)] [.bool false] rfl fun k c u hc hu=> ?_;cases k with
   | zero=> simp at hc hu;subst hc;subst hu;exact .v _
   | succ k=> simp at hc
 ·have hem:e∈ents∧e.born∉seen:=by
   unfold leftOf at he;simp at he;exact he
  obtain ⟨k,hk,hek⟩:=List.getElem_of_mem hem.1;have hk2:k < es.length:=by rw [← h4];exact hk
  obtain ⟨q1,q2,q3⟩:=h5 k es[k] ents[k] (List.getElem?_eq_getElem hk2) (List.getElem?_eq_getElem hk);rw [hek] at q1 q2 q3;have s1:St ro X M w0 E a w1 g:=by
   rcases hw1 with rfl | rfl
   ·exact hs
   ·exact hs.drew
  have hb1:w1.heap[b]? =some (.mapIter (some mb) ents.length seen.toArray ents.length):=by rcases hw1 with rfl | rfl <;> exact h1
  have hm1:w1.heap[mb]? =some (.map ents.toArray ents.length):=by rcases hw1 with rfl | rfl <;> exact h2
  have hst:Stays w (excl X g E.h) g w1 (excl X g E.h) g:=by
   rcases hw1 with rfl | rfl
   ·exact Stays.refl _ _ _
   ·exact (Jf4 w).stays (fun _ _ _ h=> h.elim) (fun _ _ _ h=> h) (fun _ _ h=> h)
  have hev:=Jdq (o':= .mapIter (some mb) ents.length (seen++ [k]).toArray ents.length) hb1 rfl (fun h=> by cases h);have hne:mb≠b:=fun h=> by rw [h] at h2;rw [h1] at h2;cases h2
  have hnew:=s1.setOwn (x:= .it es (seen++ [k])) hes hgb hev (fun hst2=> ⟨mb,ents,JcR hb1,(JdF hne).trans hm1,h3,h4,fun k' p' e' r1 r2=> ⟨(h5 k' p' e' r1 r2).1,(h5 k' p' e' r1 r2).2.1,((h5 k' p' e' r1 r2).2.2.stays hst).stays hst2⟩⟩);have:(execOp a.eval o).run P w= .ok (.value (.tuple #[.bool true,e.key,e.val])) (World.setO w1 b (.mapIter (some mb) ents.length (seen++ [k]).toArray ents.length)):=by
   unfold execOp;simp only [ho,hiv,hrun,Sem.run_bind,Result.andThen_ok,Sem.run_pure,q2,List.push_toArray];rfl
  rw [this];refine hn _ _ _ g (hmore k es[k] (List.getElem?_eq_getElem hk2) (by rw [← q2];exact hem.2)) (fun _ _ h=> h) (hnew.put o.dst ?_);have hval:=((q3.stays hst).stays (hev.stays (X:=excl X g E.h) (X':=excl X g E.h) (g:=g) (g':=g) (fun b' o' _ hbb=> by
   subst hbb;exact .inr (.inl ⟨_,Jat hes,hgb⟩)) (fun _ _ _ h=> h) (fun _ _ h=> h)))
  refine .tup _ [.bool true,e.key,e.val] rfl fun j c u hc hu=> ?_;rcases j with _ | _ | _ | j
  ·simp at hc hu;subst hc;subst hu;exact .v _
  ·simp at hc hu;subst hc;subst hu;rw [q1];exact .v _
  ·simp at hc hu;subst hc;subst hu;exact hval.stays (Stays.less fun b' o' h=> JuL h)
  ·simp at hc
theorem JuN {o:Oper} {it:Operand} {i:Id} {es:List (Value×AV)} {seen:List Nat} {k:Nat} {p:Value×AV} {E:Env} {K:Env→Prop} {Kp:AV→Env→Prop} (ho:o.op= .entry it) (hit:E.ev it= .bp i 0) (hes:J6 i.1 E.h.bx=some (i.2, .it es (seen++ [k])))
 (hp:es[k]? =some p) (hk:K (E.set o.dst (.tup [.v p.1,p.2]))):AOp P o E K Kp:=by
 intro ro X M w0 a w g hs next Q hn hpan
 obtain ⟨b,hgb,hown⟩:=hs.hok.bx _ (Jat hes)
 dsimp only at hgb hown
 have hiv:a.eval it= .pointer (some ⟨b,0,none⟩):=by
  have:=hs.ev it;rw [hit] at this;generalize a.eval it=u at this;cases this with
  | bp _ _ b' hg'=> rw [hgb] at hg';cases hg';rfl
 obtain ⟨mb,ents,h1,h2,h3,h4,h5⟩:=hown
 have hk2:k < es.length:=(List.getElem?_eq_some_iff.1 hp).1
 have hk3:k < ents.length:=by rw [h4];exact hk2
 obtain ⟨q1,q2,q3⟩:=h5 k p ents[k] hp (List.getElem?_eq_getElem hk3)
 have hnd:(ents.toArray.toList.map (·.born)).Nodup:=by
  have:ents.map (·.born)=List.range ents.length:=by
   refine List.ext_getElem Si fun j j1 j2=> ?_;rw [List.getElem_map,List.getElem_range];have hj:j < ents.length:=by simpa using j1
   have hj2:j < es.length:=by rw [← h4];exact hj
   exact (h5 j _ _ (List.getElem?_eq_getElem hj2) (List.getElem?_eq_getElem hj)).2.1
  show (ents.map (·.born)).Nodup;rw [this];exact List.nodup_range
 have hrun:=run_entry_at (P:=P) w b mb ents.length seen.toArray ents.toArray ents.length ents[k] (by rw [q2,List.push_toArray];exact h1) h2 Si hnd
 refine Jx (by intro c h;rw [ho] at h;cases h) ?_
 have:(execOp a.eval o).run P w= .ok (.value (.tuple #[ents[k].key,ents[k].val])) w:=by
  unfold execOp;simp only [ho,hiv,hrun,Sem.run_bind,Result.andThen_ok,Sem.run_pure]
 rw [this]
 refine hn _ _ _ g hk (fun _ _ h=> h) (hs.put o.dst ?_)
 refine .tup _ [ents[k].key,ents[k].val] rfl fun j c u hc hu=> ?_
 rcases j with _ | _ | j
 ·simp at hc hu;subst hc;subst hu;rw [q1];exact .v _
 ·simp at hc hu;subst hc;subst hu;exact q3
 ·simp at hc
theorem JuO {o:Oper} {it:Operand} {i:Id} {es:List (Value×AV)} {seen:List Nat} {R:List (Id×Own)} {E:Env} {K:Env→Prop} {Kp:AV→Env→Prop} (ho:o.op= .next it false) (hit:E.ev it= .bp i 0) (hR:E.h.bx=(i, .it es seen)::R)
 (hmore:∀k p,es[k]? =some p→k∉seen→K (({ E with h:= { E.h with bx:=(i, .it es (seen++ [k]))::R}}:Env).set o.dst (.tup [.v (.bool true), .v p.1,p.2])))
 (hdone:(∀k,k < es.length→k∈seen)→K (E.set o.dst (.tup [.v (.bool false)]))):AOp P o E K Kp:=
 JuM (seen:=seen) ho hit (by rw [hR];simp [J6]) (fun k p h1 h2=> by
  have:JaA i.1 (.it es (seen++ [k])) E.h.bx=(i, .it es (seen++ [k]))::R:=by rw [hR];simp [JaA]
  rw [this];exact hmore k p h1 h2) hdone
theorem JsN {o:Oper} {it:Operand} {i:Id} {es:List (Value×AV)} {seen:List Nat} {k:Nat} {p:Value×AV} {R:List (Id×Own)} {E:Env} {K:Env→Prop} {Kp:AV→Env→Prop} (ho:o.op= .entry it) (hit:E.ev it= .bp i 0) (hR:E.h.bx=(i, .it es (seen++ [k]))::R)
 (hp:es[k]? =some p) (hk:K (E.set o.dst (.tup [.v p.1,p.2]))):AOp P o E K Kp:=JuN (seen:=seen) ho hit (by rw [hR];simp [J6]) hp hk
def Jg4 (P:Program) (it:FuncId) (first caps:List AV) {α:Type} (e:α→List AV) (S:List α→Prop):Prop:=
 ∀(i:Id) (σ:Type) (Cb:σ→List (Id×Own)) (Cp:σ→List (Id×Nat)) (I:List α→σ→Prop) (J:List α→α→σ→Prop),(∀xs,S xs→Jj1 P i e xs Cb Cp I J)→
  ∀s0 nx nn,I [] s0→ECall P it (first++ [.yl i]++caps) ⟨Cb s0,Cp s0,nx,nn⟩ (fun _ h'=> ∃xs s',S xs∧JsK xs I J s'∧h'.bx=Cb s'∧h'.pm=Cp s')
theorem IterSpec.set {it:FuncId} {first caps:List AV} {α:Type} {e:α→List AV} {xs:List α} (h:IterSpec P it first caps e xs):Jg4 P it first caps e (·=xs):=
 fun i σ Cb Cp I J hc s0 nx nn h0=> (h i σ Cb Cp I J (hc xs rfl) s0 nx nn h0).mono fun _ _ ⟨s',h1,h2,h3⟩=> ⟨xs,s',rfl,h1,h2,h3⟩
theorem JwW {gop:Operand} {ps:Array Tmp} {asg body:Code} {E:Env} {Q:AExit→Env→Prop} {it:FuncId} {first caps:List AV} {ds:List DA} {σ α:Type} {e:α→List AV} {S:List α→Prop} {first' caps':List AV}
 (Cb:σ→List (Id×Own)) (Cp:σ→List (Id×Nat)) (I:List α→σ→Prop) (J:List α→α→σ→Prop) (s0:σ) (hd:E.df=some ds) (hf:E.ev gop= .fn (.func it) first caps) (hit:Jg4 P it first' caps' e S) (hl1:LeL first first') (hl2:LeL caps caps')
 (hb:((E.h.addo .df).addo (.lp .ready none E.n E.t ps asg body)).bx=Cb s0) (hp:E.h.pm=Cp s0) (h0:I [] s0) (hc:∀xs,S xs→Jj1 P (E.h.nn+1,E.h.nx+1) e xs Cb Cp I J)
 (hend:∀xs s' nx nn,S xs→JsK xs I J s'→Je6 (E.h.nn+1,E.h.nx+1) { E with h:=(E.h.addo .df).addo (.lp .ready none E.n E.t ps asg body),df:=some (.col (E.h.nn,E.h.nx)::ds)} Q ⟨Cb s',Cp s',nx,nn⟩):
 AW P (.rangeFunc gop ps asg body) E Q:=by
 refine JjZ hd hf ?_
 have h1:=hit (E.h.nn+1,E.h.nx+1) σ Cb Cp I J hc s0 (E.h.nx+2) (E.h.nn+2) h0
 have e1:(E.h.addo .df).addo (.lp .ready none E.n E.t ps asg body)=⟨Cb s0,Cp s0,E.h.nx+2,E.h.nn+2⟩:=by
  rw [← hb,← hp];rfl
 rw [← e1] at h1
 refine ((ECall.args (LeL.append (LeL.append hl1 (LeL.refl _)) hl2) h1)).mono fun r h' hq=> ?_
 obtain ⟨xs,s',hS,q1,q2,q3⟩:=hq
 obtain ⟨bx,pm,nx,nn⟩:=h'
 dsimp only at q2 q3
 subst q2;subst q3
 exact hend xs s' nx nn hS q1
theorem JyI {gop:Operand} {ps:Array Tmp} {asg body:Code} {E:Env} {Q:AExit→Env→Prop} {it:FuncId} {first caps:List AV} {ds:List DA} {σ α:Type} {e:α→List AV} {S:List α→Prop} {first' caps':List AV}
 (Cb:σ→List (Id×Own)) (Cp:σ→List (Id×Nat)) (I:List α→σ→Prop) (s0:σ) (hd:E.df=some ds) (hf:E.ev gop= .fn (.func it) first caps) (hit:Jg4 P it first' caps' e S) (hl1:LeL first first') (hl2:LeL caps caps')
 (hb:E.h.bx=Cb s0) (hp:E.h.pm=Cp s0) (h0:I [] s0) (hlen:∀x,(e x).length=ps.size)
 (hc:∀pre x post s nx nn,S (pre++x::post)→I pre s→AW P asg (JcF E.n E.t ⟨((E.h.nn+1,E.h.nx+1), .lp .ready none E.n E.t ps asg body)::((E.h.nn,E.h.nx), .df)::Cb s,Cp s,nx,nn⟩ (ps.toList.zip (e x)).reverse)
   (JoD P (E.h.nn+1,E.h.nx+1) body (Jn9 (fun s=> ((E.h.nn+1,E.h.nx+1), .lp .ready none E.n E.t ps asg body)::((E.h.nn,E.h.nx), .df)::Cb s) Cp I (fun _ _ _=> False) pre x)))
 (hend:∀xs s' nx nn,S xs→I xs s'→Q .normal { E with h:=⟨((E.h.nn+1,E.h.nx+1), .lp .exhausted none E.n E.t ps asg body)::((E.h.nn,E.h.nx), .df)::Cb s',Cp s',nx,nn⟩,df:=some (.col (E.h.nn,E.h.nx)::ds)}):
 AW P (.rangeFunc gop ps asg body) E Q:=by
 refine JwW (fun s=> ((E.h.nn+1,E.h.nx+1), .lp .ready none E.n E.t ps asg body)::((E.h.nn,E.h.nx), .df)::Cb s) Cp I (fun _ _ _=> False) s0 hd hf hit hl1 hl2 ?_ hp h0 ?_ ?_
 ·show _::_::E.h.bx=_;rw [hb];rfl
 ·intro xs hS pre x post s nx nn hx hI;subst hx;exact JgN (i:=(E.h.nn+1,E.h.nx+1)) (pd:=none) (n:=E.n) (t:=E.t) (ps:=ps) (asg:=asg) (body:=body) (by simp [J6]) (hlen x) (hc pre x post s nx nn hS hI)
 ·intro xs s' nx nn hS h;rcases h with h | ⟨_,_,_,_,h⟩
  ·unfold Je6;simp only [J6,Nat.beq_refl,cond_true];refine ⟨trivial,(by intro h;cases h), ?_⟩;simp only [JaA,Nat.beq_refl,cond_true];exact hend xs s' nx nn hS h
  ·exact h.elim
theorem JuP {seen:List Nat} {n k:Nat} (hnd:seen.Nodup) (hlt:∀j∈seen,j < n) (hk:k < n) (hn:k∉seen):∃post,(seen++k::post).Perm (List.range n):=by
 refine ⟨(List.range n).filter fun j=> decide (j∉seen∧j≠k), ?_⟩
 have hp:∀j,j∈(List.range n).filter (fun j=> decide (j∉seen∧j≠k))↔j < n∧j∉seen∧j≠k:=fun j=> by simp
 generalize hpost:(List.range n).filter (fun j=> decide (j∉seen∧j≠k))=post at hp
 have hpn:post.Nodup:=by rw [← hpost];exact List.nodup_range.filter _
 have hnd2:(seen++k::post).Nodup:=by
  rw [List.nodup_append];refine ⟨hnd,List.nodup_cons.2 ⟨fun h=> ((hp k).1 h).2.2 rfl,hpn⟩,fun a ha b hb hab=> ?_⟩;subst hab;rcases List.mem_cons.1 hb with rfl | h
  ·exact hn ha
  ·exact ((hp a).1 h).2.1 ha
 refine (List.perm_ext_iff_of_nodup hnd2 List.nodup_range).2 fun j=> ?_
 rw [List.mem_range,List.mem_append,List.mem_cons,hp]
 constructor
 ·rintro (h | rfl | h)
  ·exact hlt j h
  ·exact hk
  ·exact h.1
 ·intro h;by_cases h1:j∈seen
  ·exact .inl h1
  ·by_cases h2:j=k
   ·exact .inr (.inl h2)
   ·exact .inr (.inr ⟨h,h1,h2⟩)
theorem JuQ {seen:List Nat} {n:Nat} (hnd:seen.Nodup) (hlt:∀j∈seen,j < n) (hall:∀k,k < n→k∈seen):seen.Perm (List.range n):=by
 refine (List.perm_ext_iff_of_nodup hnd List.nodup_range).2 fun j=> ?_
 rw [List.mem_range]
 exact ⟨hlt j,hall j⟩
def Jw (n:Nat) (f:Nat→AV):List AV:=(List.range n).flatMap fun k=> (f k).cells
def Jyu (Q:Nat→(Nat→AV)→Prop) (sz:Nat) (r:AV) (h':Heap):Prop:=
 ∃n f,Q n f∧((n=0∧h'.bx= []∧h'.pm= []∧r= .os sz 0 f none)∨∃s cap more nx' nn',n≤cap∧cap * sz≤n * sz+more∧r= .hs (0,s) 0 n cap∧h'=⟨[((0,s), .c (Jw n f++List.replicate more .any))], [],nx',nn'⟩)
theorem Jds {n sz:Nat} {f:Nat→AV} (hc:∀i,i < n→(f i).cells.length=sz):(Jw n f).length=n * sz∧∀i j,i < n→j < sz→(Jw n f)[i * sz+j]? =(f i).cells[j]? :=by
 induction n with
 | zero=> exact ⟨by simp [Jw],fun i j h=> by omega⟩
 | succ n ih=>
   obtain ⟨h1,h2⟩:=ih fun i hi=> hc i Om;have e:Jw (n+1) f=Jw n f++(f n).cells:=by unfold Jw;rw [List.range_succ,List.flatMap_append];simp
   have hn:=hc n Om;refine ⟨by rw [e,List.length_append,h1,hn,Nat.succ_mul],fun i j hi hj=> ?_⟩;rw [e];by_cases h:i < n
   ·rw [List.getElem?_append_left,h2 i j h hj];rw [h1];have:i * sz+sz≤n * sz:=(by rw [← Nat.succ_mul];exact Nat.mul_le_mul_right _ h);omega
   ·obtain rfl:i=n:=(by omega);rw [List.getElem?_append_right (by rw [h1];omega),h1]
    congr 1;omega
theorem JsO {f:FuncId} {args:List AV} {nx sz:Nat} {Q:Nat→(Nat→AV)→Prop} (hz:0 < sz) (hflat:∀n f,Q n f→∀k,k < n→∀c∈(f k).cells,Flat c)
 (hc:ECall P f args ⟨[], [],nx,0⟩ fun r h'=> ∃n f oi nx' nn',Q n f∧(oi=none→n=0)∧r= .os sz n f oi∧h'=⟨[],J2 oi (n * sz),nx',nn'⟩):
 ECall P f args ⟨[], [],nx,0⟩ (Jyu Q sz):=by
 refine ⟨hc.1,fun X w g vs h1 h2 h3 h4=> ?_⟩
 refine (JdE P f).mono (hc.2 X w g vs h1 h2 h3 h4) fun e w' ⟨r,h',g',a1,a2,a3,a4,a5,a7,a8⟩=> ?_
 cases r with
 | pan x=> exact a2.elim
 | ret r=>
   obtain ⟨n,f0,oi,nx',nn',q1,q2,rfl,rfl⟩:=a2;cases oi with
   | none=>
     obtain rfl:=q2 rfl;exact ⟨.ret (.os sz 0 f0 none),⟨[], [],nx',nn'⟩,g',a1,⟨0,f0,q1, .inl ⟨rfl,rfl,rfl,rfl⟩⟩,a3,a4,a5,a7,a8⟩
   | some i=>
     obtain ⟨nm,s⟩:=i;obtain ⟨u,rfl,a1⟩:=a1;obtain ⟨b,bvs,be,hgb,hblk,hle⟩:=a4.pm ((nm,s),n * sz) (by simp [J2]);dsimp only at hgb hle;generalize hu:u=u0 at a1;cases a1 with
     | oss _ _ _ _ b2 cap vs2 hg2 hlen hcap hcell hroom hcs hrep=>
       subst hu;dsimp only at hg2;rw [hgb] at hg2;cases hg2;have hflt:=hflat n f0 q1;obtain ⟨rl,rg⟩:=Jds hcs;have hcapsz:cap * sz≤bvs.size:=by
        rcases Nat.eq_zero_or_pos (cap * sz) with h0 | h0
        ·omega
        ·obtain ⟨v,hv⟩:=hroom (cap * sz - 1) Om;rw [Jz hblk] at hv;have:=(Array.getElem?_eq_some_iff.1 hv).1;omega
       have hnew:¬b < w.heap.size:=fun hb=> by
        have:=a8 b (n * sz) (.inr (.inr ⟨((nm,s),n * sz),by simp [J2],hgb,Nat.le_refl _⟩)) hb;rcases this with h | ⟨p,hp,_⟩ | ⟨p,hp,_⟩
        ·exact h
        ·cases hp
        ·cases hp
       have hids:∀j,j∈Heap.ids (⟨[((0,s), .c (Jw n f0++List.replicate (bvs.size - n * sz) .any))], [],nx',nn'⟩:Heap)→j=s:=fun j hj=> by simpa [Heap.ids] using hj
       refine ⟨.ret (.hs (0,s) 0 n cap),⟨[((0,s), .c (Jw n f0++List.replicate (bvs.size - n * sz) .any))], [],nx',nn'⟩,g',⟨_,rfl, .hs _ _ _ _ b hgb⟩,⟨n,f0,q1, .inr ⟨s,cap,bvs.size - n * sz,nx',nn',hcap,Om,rfl,rfl⟩⟩,a3, ?_,fun b' o hx j hj=> ?_,a7,fun b' o hx hb=> ?_⟩
       ·refine ⟨fun p hp=> ?_,fun p hp=> (by cases hp),by simp [Heap.ids],a4.nx,fun b' o hx=> ?_,fun p hp=> ⟨(a4.kn p hp).1,fun o hx=> ?_⟩⟩
        ·obtain rfl:=List.mem_singleton.1 hp;refine ⟨b,hgb,bvs,be,hblk,by rw [List.length_append,rl,List.length_replicate];omega,fun k c u hk hku=> ?_⟩;rcases Nat.lt_or_ge k (n * sz) with hlt | hge
         ·rw [List.getElem?_append_left (by rw [rl];exact hlt)] at hk;have hd:k=(k / sz) * sz+k % sz:=(by rw [Nat.mul_comm];exact (Nat.div_add_mod k sz).symm);have hk1:k / sz < n:=Nat.div_lt_of_lt_mul (by rw [Nat.mul_comm];exact hlt);have hk2:k % sz < sz:=Nat.mod_lt _ hz;rw [hd,rg _ _ hk1 hk2] at hk;have hv:k < vs2.length:=(by rw [hlen];exact hlt);have hcv:=(hcell k _ (List.getElem?_eq_getElem hv)).1;rw [Jz hblk,hku] at hcv;cases hcv;exact hflt _ hk1 c (List.mem_of_getElem? hk) _ _ _ _ _ _ _ (hrep _ _ c _ hk1 hk (by rw [← hd];exact List.getElem?_eq_getElem hv))
         ·rw [List.getElem?_append_right (by rw [rl];exact hge)] at hk;obtain rfl:c= .any:=by
           have:=List.mem_of_getElem? hk;exact (List.mem_replicate.1 this).2
          exact .any _
        ·rcases hx with hx | ⟨p,hp,hg⟩ | ⟨p,hp,_⟩
         ·exact a4.bd b' o (.inl hx)
         ·obtain rfl:=List.mem_singleton.1 hp;dsimp only at hg;rw [hgb] at hg;cases hg;exact Jl hblk
         ·cases hp
        ·rcases hx with hx | ⟨q,hq,hg⟩ | ⟨q,hq,_⟩
         ·exact (a4.kn p hp).2 o (.inl hx)
         ·obtain rfl:=List.mem_singleton.1 hq;exact (a4.kn p hp).2 (n * sz) (.inr (.inr ⟨((nm,s),n * sz),by simp [J2],hg,Nat.le_refl _⟩))
         ·cases hq
       ·obtain rfl:=hids j hj;exact a5 b' o hx j (by simp [Heap.ids,J2])
       ·rcases hx with hx | ⟨p,hp,hg⟩ | ⟨p,hp,_⟩
        ·exact hx.elim
        ·obtain rfl:=List.mem_singleton.1 hp;dsimp only at hg;rw [hgb] at hg;cases hg;exact absurd hb hnew
        ·cases hp
theorem Ji5 {w:World} {X:Nat→Nat→Prop} {g:List Nat} {us vs:List Value} (h3:us.length=(vs.map AV.v).length)
 (h4:∀(k:Nat) (c:AV) (u:Value),(vs.map AV.v)[k]? =some c→us[k]? =some u→Rep w X g c u):us=vs:=by
 refine List.ext_getElem (by simpa using h3) fun k hk1 hk2=> ?_
 have:=h4 k (.v vs[k]) us[k] (by simp [hk2]) (List.getElem?_eq_getElem hk1)
 generalize us[k]=a at this
 cases this
 rfl
theorem Kn.none {w:World} {X:Nat→Nat→Prop} (h:Kn w X):Kn w none2:=fun p hp=> ⟨(h p hp).1,fun _ h=> h⟩
theorem Jdi {f:FuncId} {vs:List Value} {u:Value} (hcb:Jbi P f)
 (h:∀w,Kn w none2→Calls P f vs.toArray w fun e w'=> e= .returned u∧Below w.heap.size w w'):Tells P f (vs.map .v) (.v u):=fun nx=> by
 refine ⟨hcb,fun X w g us h1 h2 h3 h4=> ?_⟩
 obtain rfl:=Ji5 h3 h4
 refine (JdE P f).mono (w0:=w) (g:=g) (R:=_) (h w h1.kn.none) fun e w' ⟨he,hb⟩=> ?_
 have hev:=Evo.of_below hb
 exact ⟨.ret (.v u),⟨[], [],nx,0⟩,g,⟨u,he, .v _⟩,⟨Rf,rfl,rfl⟩,fun _ _ h=> h,h1.evo0 hev,fun b o hx i hi=> (by cases hi),hev.mono fun b o _ h=> h.elim,fun b o h _=> h⟩
theorem Jbj {f:FuncId} {vs:List Value} {u:Value} (hcb:Jbi P f)
 (h:∀w,Calls P f vs.toArray w fun e w'=> e= .returned u∧Below w.heap.size w w'):Tells P f (vs.map .v) (.v u):=Jdi hcb fun w _=> h w
theorem JjB {α:Type} [Inhabited α] {f:FuncId} {enc:α→Value} {d d':Array α} {tl:List AV} {nm s cap nx nn:Nat} (hcb:Jbi P f) (hd:d'.size=d.size)
 (h:∀(w:World) (blk:Nat),Sort.Holds enc w blk 0 d→blk < w.heap.size→Calls P f #[.slice (some ⟨blk,0,none⟩) d.size cap] w fun e w'=> e= .returned (.tuple #[])∧∃n os,w'=Sort.grow (Sort.putRow enc (Sort.ahead w n) blk 0 d') os):
 ECall P f [.hs (nm,s) 0 d.size cap] ⟨[((nm,s), .c (d.toList.map (fun x=> .v (enc x))++tl))], [],nx,nn⟩
  fun r h'=> r= .tup []∧h'=⟨[((nm,s), .c (d'.toList.map (fun x=> .v (enc x))++tl))], [],nx,nn⟩:=by
 refine ⟨hcb,fun X w g us h1 h2 h3 h4=> ?_⟩
 obtain ⟨b,hgb,vs,ety,hblk,hsz,hrep⟩:=h1.bx _ (.head _)
 dsimp only at hgb
 match us,h3,h4 with
 | [u],_,h4=>
 have hr:=h4 0 _ u rfl rfl
 generalize hu:u=u0 at hr
 cases hr with
 | hs _ _ _ _ b2 hg2=>
   subst hu;dsimp only at hg2;rw [hgb] at hg2;cases hg2;have hbl:=Jl hblk;have hlen:d.size≤vs.size:=by rw [hsz];simp
   have hH:Sort.Holds enc w b 0 d:=fun j hj=> by
    refine ⟨?_,by rw [Jer hblk];simp⟩;have hj2:j < vs.size:=(by omega);have:=hrep j (.v (enc d[j]!)) vs[j] (by rw [List.getElem?_append_left (by simpa using hj)];simp [hj]) (Array.getElem?_eq_getElem hj2);generalize hv:vs[j]=v at this;cases this;rw [Jz hblk,Nat.zero_add,Array.getElem?_eq_getElem hj2,hv]
   refine (JdE P f).mono (w0:=w) (g:=g) (R:=_) (h w b hH hbl) fun e w' ⟨he,n,os,hw⟩=> ?_;have hb':w'.heap[b]? =some (.cells (Sort.putCells enc 0 d' vs) ety (0,0)):=by
    subst hw;rw [Sort.heap_grow_old _ _ (by simpa [Sort.putRow,Sort.mapBlock,Sort.ahead] using hbl)];show (w.heap.modify b _)[b]? =_;rw [Array.getElem?_modify,if_pos rfl,hblk];rfl
   have hoth:∀k,k < w.heap.size→k≠b→w'.heap[k]? =w.heap[k]? :=fun k hk hne=> by
    subst hw;rw [Sort.heap_grow_old _ _ (by simpa [Sort.putRow,Sort.mapBlock,Sort.ahead] using hk)];show (w.heap.modify b _)[k]? =_;rw [Array.getElem?_modify,if_neg (Ne.symm hne)]
   have hsize:w.heap.size≤w'.heap.size:=by
    subst hw;simp [Sort.grow,Sort.putRow,Sort.mapBlock,Sort.ahead]
   have hM:∀b0 o,¬excl none2 g ⟨[((nm,s), .c (d.toList.map (fun x=> .v (enc x))++tl))], [],nx,nn⟩ b0 o→b0≠b:=fun b0 o hn hb0=> hn (.inr (.inl ⟨_, .head _,by rw [hb0];exact hgb⟩));have hev:Evo (excl none2 g ⟨[((nm,s), .c (d.toList.map (fun x=> .v (enc x))++tl))], [],nx,nn⟩) w w':=by
    refine ⟨by subst hw;rfl,by subst hw;rfl,by subst hw;rfl,hsize,fun b0 hb0 hn=> hoth b0 hb0 (hM b0 0 (hn 0)),fun b0 o hb0 hn=> World.cell?_of_block (a:=⟨b0,o,none⟩) (hoth b0 hb0 (hM b0 o hn)),fun b0 us0 e0 fz h0=> ?_,fun b0 l h0=> ?_⟩
    ·by_cases hb0:b0=b
     ·subst hb0;rw [hblk] at h0;cases h0;exact ⟨_,hb',by simp [Sort.putCells]⟩
     ·exact ⟨us0,(hoth b0 (Jl h0) hb0).trans h0,rfl⟩
    ·by_cases hb0:b0=b
     ·subst hb0;rw [hblk] at h0;cases h0
     ·exact ⟨l,(hoth b0 (Jl h0) hb0).trans h0⟩
   have hstay:=hev.stays (X:=excl X g ⟨[((nm,s), .c (d.toList.map (fun x=> .v (enc x))++tl))], [],nx,nn⟩) (X':=excl X g ⟨[((nm,s), .c (d.toList.map (fun x=> .v (enc x))++tl))], [],nx,nn⟩) (g:=g) (g':=g)
    (fun b0 o _ hm=> hm.elim (fun h=> h.elim) .inr) (fun _ _ _ h=> h) (fun _ _ h=> h)
   refine ⟨.ret (.tup []),_,g,⟨_,he, .tup [] [] rfl Si⟩,⟨rfl,rfl⟩,fun _ _ h=> h, ?_,fun b0 o hx i hi=> h2 b0 o hx i hi,hev,fun b0 o h _=> by simpa [excl] using h⟩;have hids:∀b0 o,excl X g ⟨[((nm,s), .c (d'.toList.map (fun x=> .v (enc x))++tl))], [],nx,nn⟩ b0 o↔excl X g ⟨[((nm,s), .c (d.toList.map (fun x=> .v (enc x))++tl))], [],nx,nn⟩ b0 o:=fun b0 o=> by simp [excl]
   have hX:excl X g ⟨[((nm,s), .c (d'.toList.map (fun x=> .v (enc x))++tl))], [],nx,nn⟩=excl X g ⟨[((nm,s), .c (d.toList.map (fun x=> .v (enc x))++tl))], [],nx,nn⟩:=by
    funext b0 o;exact propext (hids b0 o)
   rw [hX];refine ⟨fun p hp=> ?_,fun p hp=> (by cases hp),h1.nodup,h1.nx,fun b0 o hx=> ?_, ?_⟩
   ·obtain rfl:=List.mem_singleton.1 hp;refine ⟨b,hgb,Sort.putCells enc 0 d' vs,ety,hb',by simp [Sort.putCells,hsz,hd],fun k c u hk hku=> ?_⟩;have hkv:k < vs.size:=(by have:=(Array.getElem?_eq_some_iff.1 hku).1;simpa [Sort.putCells] using this);have hval:(Sort.putCells enc 0 d' vs)[k]? =some (if 0≤k∧k < 0+d'.size then enc d'[k - 0]! else vs[k]):=(by simp [Sort.putCells,hkv]);rw [hval] at hku;by_cases hkd:k < d'.size
    ·rw [if_pos ⟨Nat.zero_le _,Om⟩] at hku;rw [List.getElem?_append_left (by simpa using hkd)] at hk;simp [hkd] at hk hku;subst hk;subst hku;exact .v _
    ·rw [if_neg Om] at hku;rw [List.getElem?_append_right (by simpa using Nat.le_of_not_lt hkd)] at hk;refine (hrep k c u ?_ (by rw [Array.getElem?_eq_getElem hkv];exact hku)).stays hstay;rw [List.getElem?_append_right (by simp;omega)];simpa [hd] using hk
   ·exact Nat.lt_of_lt_of_le (h1.bd b0 o hx) hsize
   ·exact h1.kn.stays hstay
theorem JjC {f:FuncId} {sz nx:Nat} {F:Nat→AV} (hcb:Jbi P f)
 (h:∀(p:Option Addr) (cap:Nat) (w:World),Calls P f #[.slice p 0 cap] w fun e w'=> e= .returned (.tuple #[])∧w'=w):Tells P f [.os sz 0 F none] (.tup []):=fun nx=> by
 refine ⟨hcb,fun X w g us h1 h2 h3 h4=> ?_⟩
 match us,h3,h4 with
 | [u],_,h4=>
 have hr:=h4 0 _ u rfl rfl
 have key:∃p cap,u= .slice p 0 cap:=by
  cases hr with
  | os0 _ _ a=> exact ⟨a,0,rfl⟩
  | osn _ _ _ b off vs=> exact ⟨_,0,rfl⟩
 obtain ⟨p,cap,rfl⟩:=key
 refine (JdE P f).mono (w0:=w) (g:=g) (R:=_) (h p cap w) fun e w' ⟨he,hw⟩=> ?_
 subst hw
 exact ⟨.ret (.tup []),⟨[], [],nx,0⟩,g,⟨_,he, .tup [] [] rfl Si⟩,⟨Rf,rfl,rfl⟩,fun _ _ h=> h,h1,h2,Evo.refl _ _,fun b o h _=> h⟩
theorem JrH {gop:Operand} {ps:Array Tmp} {asg body:Code} {E:Env} {Q:AExit→Env→Prop} {it:FuncId} {first caps:List AV} {ds:List DA} {σ α:Type} {e:α→List AV} {xs:List α} {first' caps':List AV}
 (Cb:σ→List (Id×Own)) (Cp:σ→List (Id×Nat)) (I:List α→σ→Prop) (J:List α→α→σ→Prop) (s0:σ) (hd:E.df=some ds) (hf:E.ev gop= .fn (.func it) first caps) (hit:IterSpec P it first' caps' e xs) (hl1:LeL first first') (hl2:LeL caps caps')
 (hb:E.h.bx=Cb s0) (hp:E.h.pm=Cp s0) (h0:I [] s0) (hlen:∀x,(e x).length=ps.size)
 (hc:∀pre x post s nx nn,xs=pre++x::post→I pre s→AW P asg (JcF E.n E.t ⟨((E.h.nn+1,E.h.nx+1), .lp .ready none E.n E.t ps asg body)::((E.h.nn,E.h.nx), .df)::Cb s,Cp s,nx,nn⟩ (ps.toList.zip (e x)).reverse)
   (JoD P (E.h.nn+1,E.h.nx+1) body (wk fun r h'=> (r= .v (.bool true)∧∃s',I (pre++ [x]) s'∧h'.bx=((E.h.nn+1,E.h.nx+1), .lp .ready none E.n E.t ps asg body)::((E.h.nn,E.h.nx), .df)::Cb s'∧h'.pm=Cp s')∨
     (r= .v (.bool false)∧∃s',J pre x s'∧h'.bx=((E.h.nn+1,E.h.nx+1), .lp .done (some .ret) E.n E.t ps asg body)::((E.h.nn,E.h.nx), .df)::Cb s'∧h'.pm=Cp s'))))
 (hend:∀s' nx nn,I xs s'→Q .normal { E with h:=⟨((E.h.nn+1,E.h.nx+1), .lp .exhausted none E.n E.t ps asg body)::((E.h.nn,E.h.nx), .df)::Cb s',Cp s',nx,nn⟩,df:=some (.col (E.h.nn,E.h.nx)::ds)})
 (hret:∀pre x post s' nx nn,xs=pre++x::post→J pre x s'→Q .ret { E with h:=⟨((E.h.nn+1,E.h.nx+1), .lp .exhausted (some .ret) E.n E.t ps asg body)::((E.h.nn,E.h.nx), .df)::Cb s',Cp s',nx,nn⟩,df:=some (.col (E.h.nn,E.h.nx)::ds)}):
 AW P (.rangeFunc gop ps asg body) E Q:=by
 refine JyG (σ:=σ×Bool) (fun s=> ((E.h.nn+1,E.h.nx+1), .lp (bif s.2 then .done else .ready) (bif s.2 then some .ret else none) E.n E.t ps asg body)::((E.h.nn,E.h.nx), .df)::Cb s.1) (fun s=> Cp s.1) (fun pre s=> s.2=false∧I pre s.1) (fun pre x s=> s.2=true∧J pre x s.1) (s0,false) hd hf hit hl1 hl2 ?_ hp ⟨rfl,h0⟩ ?_ ?_
 ·show _::_::E.h.bx=_;rw [hb];rfl
 ·rintro pre x post ⟨s,b⟩ nx nn hx ⟨hb0,hI⟩;dsimp only at hb0 hI;subst hb0;refine (JgN (i:=(E.h.nn+1,E.h.nx+1)) (pd:=none) (n:=E.n) (t:=E.t) (ps:=ps) (asg:=asg) (body:=body) (by simp [J6]) (hlen x) (hc pre x post s nx nn hx hI)).wk.mono fun r h' hq=> ?_;cases r with
  | pan x=> exact hq.elim
  | ret r=>
    rcases hq with ⟨hr,s',h1,h2,h3⟩ | ⟨hr,s',h1,h2,h3⟩
    ·exact ⟨(s',false), .inl ⟨hr,rfl,h1⟩,h2,h3⟩
    ·exact ⟨(s',true), .inr ⟨hr,rfl,h1⟩,h2,h3⟩
 ·rintro ⟨s',b⟩ nx nn h;rcases h with ⟨hb0,h⟩ | ⟨pre,x,post,hx,hb0,h⟩
  ·dsimp only at hb0 h;subst hb0;unfold Je6;simp only [J6,Nat.beq_refl,cond_true,cond_false];refine ⟨trivial,(by intro h;cases h), ?_⟩;simp only [JaA,Nat.beq_refl,cond_true];exact hend s' nx nn h
  ·dsimp only at hb0 h;subst hb0;unfold Je6;simp only [J6,Nat.beq_refl,cond_true,cond_false];refine ⟨trivial,(by intro h;cases h), ?_⟩;simp only [JaA,Nat.beq_refl,cond_true];exact hret pre x post s' nx nn hx h
theorem JkI {t e:TypeId} {d:TypeDesc} {n:Nat} {w:World} (ht:P.underlying t=some (.array n e)) (hd:P.underlying e=some d) (h1:P.cellsOf e=1) (b off:Nat) (hn:0 < n):
 (Instr.sliceAt t (.pointer (some ⟨b,off,none⟩)) none none none).run P w= .ok (.slice (some ⟨b,off,none⟩) n n) w:=by
 simp [Instr.sliceAt,run_underlying ht,Instr.sureAddr,Instr.sliceBounds,Ju hd,h1,J1]
theorem JoM {o:Oper} {E:Env} {t e:TypeId} {x:Operand} {n:Nat} {d:TypeDesc} {cs:List AV} (ho:o.op= .slice t x none none none) (hx:E.ev x= .rp cs)
 (ht:P.underlying t=some (.array n e)) (hd:P.underlying e=some d) (h1:P.cellsOf e=1) (hn0:0 < n) (hn:n≤cs.length) (hc:∀c∈cs,c.cells= [c]):Yields P o E (.sl 1 n (fun j=> cs.getD j .any)):=by
 refine ⟨(by rw [ho];intro c hc;cases hc),fun ρ w X g hk hr=> .inl ?_⟩
 have r1:=hr x (by rw [ho];simp [Op.operands])
 rw [hx] at r1
 generalize hu:ρ x=u at r1
 cases r1 with
 | rp _ b off vs hvs hcell hrep=>
   refine ⟨.slice (some ⟨b,off,none⟩) n n,w, ?_,Evo.refl _ _, ?_⟩
   ·unfold execOp;simp only [ho,hu,Option.map_none];exact Jce (JkI ht hd h1 b off hn0)
   ·refine .sl _ _ _ b off n (vs.take n) (by simp;omega) (Nat.le_refl _) (fun k u hk=> ?_) (fun i hi=> ?_) (fun i j c u hi hj hu=> ?_)
    ·rw [List.getElem?_take] at hk;split at hk
     ·exact hcell k u hk
     ·cases hk
    ·have hi2:i < cs.length:=(by omega);have:cs.getD i .any∈cs:=(by simp [List.getD,hi2]);rw [hc _ this];rfl
    ·have hi2:i < cs.length:=(by omega);have hm:cs.getD i .any∈cs:=(by simp [List.getD,hi2]);rw [hc _ hm] at hj;cases j with
     | zero=>
       simp only [List.getElem?_cons_zero,Option.some.injEq] at hj;subst hj;rw [List.getElem?_take] at hu;split at hu
       ·exact hrep i _ u (by simp [List.getD,hi2]) (by simpa using hu)
       ·cases hu
     | succ j=> simp at hj
theorem JmH {o:Oper} {E:Env} {K:Env→Prop} {Kp:AV→Env→Prop} {t e:TypeId} {x:Operand} {n:Nat} {d:TypeDesc} {cs:List AV} (ho:o.op= .slice t x none none none) (hx:E.ev x= .rp cs)
 (ht:P.underlying t=some (.array n e)) (hd:P.underlying e=some d) (h1:P.cellsOf e=1) (hn0:0 < n) (hn:n≤cs.length) (hc:∀c∈cs,c.cells= [c]) (hk:K (E.set o.dst (.sl 1 n (fun j=> cs.getD j .any)))):AOp P o E K Kp:=
 AOp.of_yields (JoM ho hx ht hd h1 hn0 hn hc) hk
def PureNow (P:Program) (ops:Array Oper) (o:Oper) (E:Env) (r:AV):Prop:=
 ∀E':Env,E'.h=E.h→(∀k,k∈o.looksAt ops→E'.t k=E.t k)→GY P ops o E' r
theorem PureNow.congr {ops:Array Oper} {o:Oper} {E E':Env} {r:AV} (h:PureNow P ops o E r) (hh:E'.h=E.h) (ht:∀k,k∈o.looksAt ops→E'.t k=E.t k):PureNow P ops o E' r:=
 fun E'' h1 h2=> h E'' (h1.trans hh) fun k hk=> (h2 k hk).trans (ht k hk)
def MixL3 (P:Program) (ops:Array Oper) (B:List (Id×Own)) (eff ld:Nat→Bool):List Nat→Env→(Env→Prop)→Prop
 | [],E,K=> K E
 | i::l,E,K=> ∃o,ops[i]? =some o∧(match eff i with
   | true=> ∃R,Eff P ops B o E R∧∀r h',R r h'→MixL3 P ops B eff ld l (({ E with h:=h'}:Env).set o.dst r) K
   | false=> match ld i with
     | true=> ∃r,PureNow P ops o E r∧MixL3 P ops B eff ld l (E.set o.dst r) K
     | false=> ∃r,PureAll P ops B o E r∧MixL3 P ops B eff ld l (E.set o.dst r) K)
theorem MixL3.front {ops:Array Oper} {B:List (Id×Own)} {eff ld:Nat→Bool} {K:Env→Prop} {j:Nat} {oj:Oper} (hj:ops[j]? =some oj):∀(l1 l2:List Nat) (E:Env),
 (∀i∈l1,eff i=false∧(ld i=true→eff j=false)∧∀oi,ops[i]? =some oi→oi.apart ops oj=true)→MixL3 P ops B eff ld (l1++j::l2) E K→MixL3 P ops B eff ld (j::(l1++l2)) E K
 | [],l2,E,_,h=> h
 | i::l1,l2,E,hap,h=> by
   obtain ⟨oi,h1,h2⟩:=h;obtain ⟨he,hld,ha⟩:=hap i Si;obtain ⟨a1,a2,a3⟩:=Oper.apart_spec (ha oi h1);have back:∀ {ri:AV} {E1:Env},E1.h=E.h∨ld i=false→(∀k,k∈oi.looksAt ops→E1.t k=E.t k)→(match ld i with | true=> PureNow P ops oi E ri | false=> PureAll P ops B oi E ri)→
    (match ld i with | true=> PureNow P ops oi E1 ri | false=> PureAll P ops B oi E1 ri):=fun hh ht hp=> by
    cases hli:ld i with
    | true=> simp only [hli] at hp⊢;exact hp.congr (hh.resolve_right (by rw [hli];simp)) ht
    | false=> simp only [hli] at hp⊢;exact hp.congr ht
   simp only [he] at h2;have h2':∃ri,(match ld i with | true=> PureNow P ops oi E ri | false=> PureAll P ops B oi E ri)∧MixL3 P ops B eff ld (l1++j::l2) (E.set oi.dst ri) K:=by
    cases hli:ld i with
    | true=> simp only [hli] at h2⊢;exact h2
    | false=> simp only [hli] at h2⊢;exact h2
   obtain ⟨ri,h3,h4⟩:=h2';have close:∀ {E1:Env},(match ld i with | true=> PureNow P ops oi E1 ri | false=> PureAll P ops B oi E1 ri)→MixL3 P ops B eff ld (l1++l2) (E1.set oi.dst ri) K→MixL3 P ops B eff ld (i::(l1++l2)) E1 K:=fun hp hk=> by
    refine ⟨oi,h1, ?_⟩;simp only [he];cases hli:ld i with
    | true=> simp only [hli] at hp⊢;exact ⟨ri,hp,hk⟩
    | false=> simp only [hli] at hp⊢;exact ⟨ri,hp,hk⟩
   obtain ⟨o,h5,h6⟩:=MixL3.front hj l1 l2 _ (fun i' hi'=> hap i' (List.mem_cons_of_mem _ hi')) h4;rw [hj] at h5;cases h5;refine ⟨oj,hj, ?_⟩;cases hej:eff j with
   | true=>
     have hli:ld i=false:=by
      cases h:ld i with
      | false=> rfl
      | true=> rw [hld h] at hej;cases hej
     simp only [hej] at h6⊢;obtain ⟨R,q1,q2⟩:=h6;refine ⟨R,q1.congr (by rw [Env.set_h]) fun k hk=> (Env.set_other (fun e=> a1 k e hk)).symm,fun r h' hr=> ?_⟩;have q3:=q2 r h' hr;refine close (back (.inr hli) (fun k hk=> Env.set_other (fun e=> a3 k e hk)) h3) ?_;rw [JoH,Env.set_comm (d:=oi.dst) (d':=oj.dst) (fun k hk=> a2 k hk)] at q3;exact q3
   | false=>
     simp only [hej] at h6⊢;cases hlj:ld j with
     | true=>
       simp only [hlj] at h6⊢;obtain ⟨rj,q1,q2⟩:=h6;refine ⟨rj,q1.congr (by rw [Env.set_h]) fun k hk=> (Env.set_other (fun e=> a1 k e hk)).symm,close (back (.inl (by rw [Env.set_h])) (fun k hk=> Env.set_other (fun e=> a3 k e hk)) h3) ?_⟩;rw [Env.set_comm (d:=oi.dst) (d':=oj.dst) (fun k hk=> a2 k hk)] at q2;exact q2
     | false=>
       simp only [hlj] at h6⊢;obtain ⟨rj,q1,q2⟩:=h6;refine ⟨rj,q1.congr fun k hk=> (Env.set_other (fun e=> a1 k e hk)).symm,close (back (.inl (by rw [Env.set_h])) (fun k hk=> Env.set_other (fun e=> a3 k e hk)) h3) ?_⟩;rw [Env.set_comm (d:=oi.dst) (d':=oj.dst) (fun k hk=> a2 k hk)] at q2;exact q2
def ordM3 (ops:Array Oper) (m:Nat) (eff ld:Nat→Bool) (L:List Nat):Bool:=
 let bf:=Region.before ops
 Nat.ble m ops.size&& (Jb1 ops m&& (L.all (fun i=> Nat.blt i m)&& ((List.range m).all (fun i=> L.contains i)&& (go bf L))))
where
 go (bf:Array Nat):List Nat→Bool
  | []=> true
  | i::l=> (l.all fun j=> match ops[i]?,ops[j]? with
    | some oi,some oj=> (!Nat.beq i j)&& ((oi.after.toList.all fun e=> !Region.binds .any e|| !Nat.beq e.on j)&& ((bf.getD j 0).testBit i|| (!eff i&& (!(ld i&& eff j)&& oi.apart ops oj))))
    | _,_=> false)&& ((match ops[i]? with | some oi=> oi.after.toList.all fun e=> !Region.binds .any e|| !Nat.beq e.on i | none=> false)&& go bf l)
def JoN (ops:Array Oper) (eff ld:Nat→Bool) (i j:Nat):Prop:=
 i≠j∧∀oi oj,ops[i]? =some oi→ops[j]? =some oj→(∀e∈oi.after,Region.binds .any e=true→e.on≠j)∧(((Region.before ops).getD j 0).testBit i=true∨(eff i=false∧(ld i=true→eff j=false)∧oi.apart ops oj=true))
theorem JoO {ops:Array Oper} {eff ld:Nat→Bool}:∀ {L:List Nat},ordM3.go ops eff ld (Region.before ops) L=true→
 L.Pairwise (JoN ops eff ld)∧∀i∈L,∀oi,ops[i]? =some oi→∀e∈oi.after,Region.binds .any e=true→e.on≠i
 | [],_=> ⟨.nil,by simp⟩
 | i::l,h=> by
   simp only [ordM3.go,Bool.and_eq_true] at h;obtain ⟨h1,h2,h3⟩:=h;obtain ⟨q1,q2⟩:=JoO h3;refine ⟨List.pairwise_cons.2 ⟨fun j hj=> ?_,q1⟩,fun k hk=> ?_⟩
   ·have:=List.all_eq_true.1 h1 j hj;split at this
    ·rename_i oi oj hi hj'
     simp only [Bool.and_eq_true,Bool.or_eq_true,List.all_eq_true] at this;obtain ⟨p1,p2,p3⟩:=this;refine ⟨Jfh p1,fun oi' oj' hi2 hj2=> ?_⟩;rw [hi] at hi2;rw [hj'] at hj2;cases hi2;cases hj2;refine ⟨fun e he hb=> ?_,p3.imp id fun h=> by
      simp at h;exact ⟨h.1,fun hl=> h.2.1.resolve_left (by rw [hl];simp),h.2.2⟩⟩
     rcases p2 e (Array.mem_toList_iff.2 he) with h | h
     ·simp [hb] at h
     ·exact Jfh h
    ·cases this
   ·rcases List.mem_cons.1 hk with rfl | hk
    ·intro oi hi e he hb;rw [hi] at h2;have:=List.all_eq_true.1 h2 e (Array.mem_toList_iff.2 he);simp only [hb,Bool.not_true,Bool.false_or] at this;exact Jfh this
    ·exact q2 k hk
theorem JwX {ops:Array Oper} {m:Nat} {B:List (Id×Own)} {eff ld:Nat→Bool} {Q:Exit→Act→World→Prop} (hk:OrdOk ops m) (hm:m≤ops.size)
 {ro:Option Nat} {X M:Nat→Nat→Prop} {w0:World} {g0:List Nat} {K:Env→Prop}
 (hq:∀E a w g,K E→(∀(i b:Nat),g0[i]? =some b→g[i]? =some b)→St ro X M w0 E a w g→wpOpsIn (Fr ro) 0 P ops Q (List.range' m (ops.size - m)) a w):
 ∀(n:Nat) (L:List Nat) (listed:Array Bool) (E:Env) (a:Act) (w:World) (g:List Nat),L.length=n→L.Pairwise (JoN ops eff ld)→(∀i∈L,i < m)→
  (∀i∈L,∀oi,ops[i]? =some oi→∀e∈oi.after,Region.binds .any e=true→e.on≠i)→listed.size=ops.size→DC ops listed→
 (∀i,i < ops.size→(listed.getD i true=false↔i∈L∨m≤i))→MixL3 P ops B eff ld L E K→HB B E.h.bx→(∀(i b:Nat),g0[i]? =some b→g[i]? =some b)→St ro X M w0 E a w g→wpAnyIn (Fr ro) 0 P .any ops Q (n+(ops.size - m)) listed a w:=by
 intro n
 induction n with
 | zero=>
   intro L listed E a w g hl _ _ _ hsz hd hun hrun _ hg hs;have:L= []:=List.eq_nil_of_length_eq_zero hl;subst this;rw [Nat.zero_add];exact Jhn hk _ m listed a w Om (Nat.le_refl _) hsz hd (fun i hi=> by simpa using hun i hi) (hq E a w g hrun hg hs)
 | succ n ih=>
   intro L listed E a w g hl hpw hlt hself hsz hd hun hrun hB hg hs;rw [Nat.add_right_comm];obtain ⟨k,L',rfl⟩:∃k L',L=k::L':=by cases L with | nil=> simp at hl | cons k L'=> exact ⟨k,L',rfl⟩
   have hkm:k < m:=hlt k Si;have hklt:k < ops.size:=by omega
   have hko:ops[k]? =some ops[k]:=Array.getElem?_eq_getElem hklt;have hkr:k∈Region.ready .any ops listed:=by
    refine Jaw.2 ⟨(hun k hklt).2 Si,_,hko,fun e he hb=> ?_⟩;have hb':=hk.back k _ hko e he hb;rw [Jaz Om];cases hl:listed.getD e.on true with
    | true=> simpa using hl
    | false=>
      rcases (hun e.on Om).1 hl with h' | h'
      ·rcases List.mem_cons.1 h' with h' | h'
       ·exact absurd h' (hself k Si _ hko e he hb)
       · exact absurd rfl (((List.pairwise_cons.1 hpw).1 _ h').2 _ _ hko (Array.getElem?_eq_getElem Om) |>.1 e he hb)
      ·omega
   refine ⟨fun h0=> (by rw [h0] at hkr;cases hkr),fun j hj=> ?_⟩;obtain ⟨h1,oj,hoj,h2⟩:=Jaw.1 hj;have hjlt:=(Array.getElem?_eq_some_iff.1 hoj).1;have hjL:j∈k::L':=by
    rcases (hun j hjlt).1 h1 with h' | h'
    ·exact h'
    ·have hb:=hk.tail k j oj hoj h' Om;have:=Jbd hd hsz hoj h2 hb;have h3:=(hun k Om).2 Si;rw [Jaz Om] at this;simp [h3] at this
   obtain ⟨l1,l2,hl12⟩:=List.append_of_mem hjL;rw [hl12] at hrun hpw hun hlt hl hself;have hl1:∀i∈l1,JoN ops eff ld i j:=fun i hi=> (List.pairwise_append.1 hpw).2.2 i hi j Si;obtain ⟨o,ho,hrun'⟩:=MixL3.front hoj l1 l2 E (fun i hi=> by
    obtain ⟨hne,hp⟩:=hl1 i hi;have hilt:i < ops.size:=Nat.lt_of_lt_of_le (hlt i (by simp [hi])) hm;rcases (hp _ _ (Array.getElem?_eq_getElem hilt) hoj).2 with hb | ⟨hb,hb2,hb'⟩
    ·have:=Jbd hd hsz hoj h2 hb;have h3:=(hun i hilt).2 (by simp [hi]);rw [Jaz Om] at this;simp [h3] at this
    ·exact ⟨hb,hb2,fun oi hoi=> by rw [Array.getElem?_eq_getElem hilt] at hoi;cases hoi;exact hb'⟩) hrun
   rw [hoj] at ho;cases ho;have hnext:∀E' a' w' g',MixL3 P ops B eff ld (l1++l2) E' K→HB B E'.h.bx→(∀(i b:Nat),g0[i]? =some b→g'[i]? =some b)→St ro X M w0 E' a' w' g'→wpAnyIn (Fr ro) 0 P .any ops Q (n+(ops.size - m)) (listed.setIfInBounds j true) a' w':=by
    intro E' a' w' g' hm' hB' hg' hs';have hsub:(l1++l2).Sublist (l1++j::l2):=List.Sublist.append Sf (List.sublist_cons_self _ _);refine ih (l1++l2) _ E' a' w' g' (by simp at hl⊢;omega) (hpw.sublist hsub) (fun i hi=> hlt i (hsub.subset hi)) (fun i hi=> hself i (hsub.subset hi)) (by simp [hsz]) (hd.set hsz hk hj) (fun i hi=> ?_) hm' hB' hg' hs';rw [JdB Om];by_cases hij:i=j
    ·subst hij;simp only [if_true]
     constructor
     ·intro h;cases h
     ·intro h;exfalso
      have h5:=List.pairwise_append.1 hpw;rcases h with h | h
      ·rcases List.mem_append.1 h with h | h
       ·exact (h5.2.2 i h i Si).1 rfl
       ·exact ((List.pairwise_cons.1 h5.2.1).1 i h).1 rfl
      ·have:=hlt i Si;omega
    ·rw [if_neg hij,hun i hi];simp [hij]
   cases hej:eff j with
   | true=>
     simp only [hej] at hrun';obtain ⟨R,⟨q0,q1⟩,q2⟩:=hrun';unfold wpOpIn;simp only [hoj,Region.wanted,q0,if_true];exact q1 E rfl (fun _ _=> rfl) ro X M w0 a w g hs _ _ (fun E' a' w' g' hE hgg hs'=> by
      obtain ⟨r,h',p1,p2,rfl⟩:=hE;exact hnext _ a' w' g' (q2 r h' p1) (by rw [Env.set_h];exact p2) (fun i b hi=> hgg i b (hg i b hi)) hs') (fun x E' a' w' g' v hk'=> hk'.elim)
   | false=>
     simp only [hej] at hrun';cases hlj:ld j with
     | true=>
       simp only [hlj] at hrun';obtain ⟨r,q1,q2⟩:=hrun';exact (q1 E rfl fun _ _=> rfl).does hoj hs fun a' w' hs'=> hnext _ a' w' g q2 (by rw [Env.set_h];exact hB) hg hs'
     | false=>
       simp only [hlj] at hrun';obtain ⟨r,q1,q2⟩:=hrun';exact (q1 E hB fun _ _=> rfl).does hoj hs fun a' w' hs'=> hnext _ a' w' g q2 (by rw [Env.set_h];exact hB) hg hs'
def aM3 (P:Program) (ops:Array Oper) (eff ld:Nat→Bool):List Nat→Env→(Env→Prop)→Prop
 | [],E,K=> K E
 | i::l,E,K=> match ops[i]? with
   | none=> False
   | some o=> match eff i with
      | true=> ∃R,Eff P ops [] o E R∧∀r h',R r h'→aM3 P ops eff ld l (({ E with h:=h'}:Env).set o.dst r) K
      | false=> match ld i with
        | true=> ∃r,PureNow P ops o E r∧Jci r fun r=> aM3 P ops eff ld l (E.set o.dst r) K
        | false=> match o.guard with
          | some _=> False
          | none=> match Jbe P o.op { E with h:=⟨[], [],0,0⟩} with
            | some (C,r)=> Jn7 C (Jci r fun r=> aM3 P ops eff ld l (E.set o.dst r) K)
            | none=> False
theorem Ji6 {ops:Array Oper} {eff ld:Nat→Bool} {K:Env→Prop}:∀ {L:List Nat} {E:Env},aM3 P ops eff ld L E K→MixL3 P ops [] eff ld L E K
 | [],E,h=> h
 | i::l,E,h=> by
   unfold aM3 at h;split at h
   ·exact h.elim
   ·rename_i o ho
    refine ⟨o,ho, ?_⟩;cases he:eff i with
    | true=>
      simp only [he] at h⊢;obtain ⟨R,q1,q2⟩:=h;exact ⟨R,q1,fun r h' hr=> Ji6 (q2 r h' hr)⟩
    | false=>
      simp only [he] at h⊢;cases hl:ld i with
      | true=>
        simp only [hl] at h⊢;obtain ⟨r,q1,q2⟩:=h;exact ⟨r,q1,Ji6 (JcX q2)⟩
      | false=>
        simp only [hl] at h⊢;split at h
        ·exact h.elim
        ·rename_i hg
         split at h
         ·rename_i C r hp
          obtain ⟨q1,q2⟩:=Jid h;refine ⟨r,fun E' hb ht=> ?_,Ji6 (JcX q2)⟩;unfold GY;simp only [hg];exact JbL (Jey (E:= { E with h:=⟨[], [],0,0⟩}) (E':=E') hb (JbH (E:= { E with h:=⟨[], [],0,0⟩}) ht) hp) q1
         ·exact h.elim
theorem JuR {ops:Array Oper} {o:Oper} {E:Env} {C:Option Prop} {r:AV} (hg:o.guard=none) (hp:Jbe P o.op E=some (C,r)) (hC:J9 C):PureNow P ops o E r:=fun E' hh ht=> by
 unfold GY
 simp only [hg]
 exact JbL (Jey (E:=E) (E':=E') (by rw [hh];exact HB.refl _) (JbH ht) hp) hC
theorem JyJ {id:Nat} {ops:Array Oper} {E:Env} {Q:AExit→Env→Prop} (m:Nat) (eff ld:Nat→Bool) (L:List Nat) (hf:P.follows .mixedOrders=true) (hb:ordM3 ops m eff ld L=true)
 (h:aM3 P ops eff ld L E fun E'=> aK P ops (ops.toList.drop m) E' (Q .normal) (fun x E=> Q (.panic x) E)):AW P (.region id ops true) E Q:=by
 simp only [ordM3,Bool.and_eq_true,List.all_eq_true] at hb
 obtain ⟨h0,h00,h1,h2,h3⟩:=hb
 have hm:=Jdl h0
 obtain ⟨h4,h5⟩:=JoO h3
 have hlt:∀i∈L,i < m:=fun i hi=> JbF (h1 i hi)
 have hall:∀i,i < m→i∈L:=fun i hi=> by simpa using h2 i (List.mem_range.2 hi)
 have hnd:L.Nodup:=h4.imp fun h=> h.1
 have hlen:L.length=m:=by
  have p:L.Perm (List.range m):=(List.perm_ext_iff_of_nodup hnd List.nodup_range).2 fun i=> ⟨fun hi=> List.mem_range.2 (hlt i hi),fun hi=> hall i (List.mem_range.1 hi)⟩;simpa using p.length_eq
 unfold AW
 intro ro X M w0 a w g g0 hg hs
 refine wpIn_region_any hf ?_
 have hs':St ro X M w0 E a { w with drawn:=w.drawn+1} g:=hs.drew
 have key:=JwX (eff:=eff) (ld:=ld) (g0:=g0) (K:=fun E'=> aK P ops (ops.toList.drop m) E' (Q .normal) (fun x E=> Q (.panic x) E)) (Q:=Jd9 ro X M w0 g0 Q) (P:=P) (X:=X) (M:=M) (w0:=w0) (ro:=ro) (B:= []) (Jn4 h00) hm (fun E' a' w' g' hk hg' hs''=> by
  have:=JcY (P:=P) (ops:=ops) (K:=Q .normal) (X:=X) (M:=M) (w0:=w0) (g0:=g0) (Kp:=fun x E=> Q (.panic x) E) (ro:=ro) (Q:=Jd9 ro X M w0 g0 Q) (fun E a w g hk hg hs=> ⟨.normal,E,g,hk,rfl,hg,hs⟩) (fun x E a w g v hk hg hs hr=> ⟨.panic x,E,g,hk,⟨v,rfl,hr⟩,hg,hs⟩) (ops.toList.drop m) m E' a' w' g' (fun j=> .inl Si) hg' hs'' hk;simpa using this) m L (Array.replicate ops.size false) E a _ g hlen h4 hlt h5 Si (fun k o ho hl=> by
  have hk:=(Array.getElem?_eq_some_iff.1 ho).1;simp [Array.getD_eq_getD_getElem?,hk] at hl) (fun i hi=> by
  have:(Array.replicate ops.size false).getD i true=false:=by simp [Array.getD_eq_getD_getElem?,hi]
  simp only [this,true_iff];rcases Nat.lt_or_ge i m with h | h
  ·exact .inl (hall i h)
  ·exact .inr h) (Ji6 h) (fun _ _ _ h=> by cases h) hg hs'
 have e:m+(ops.size - m)=ops.size:=by omega
 rw [e] at key
 exact key
end Go.Vl

namespace Go.Vl
open Go.RowKit
variable {P:Program}
def JwY {ι:Type} (F:ι→Env) (J:ι→Prop) (Q:AExit→Env→Prop):AExit→Env→Prop:=fun e E'=>
 match e with
 | .normal=> ∃i,J i∧ELe E' (F i)
 | e=> Q e E'
theorem Jij {ι:Type} (F:ι→Env) (J:ι→Prop) {x y:Code} {E:Env} {Q:AExit→Env→Prop} (h:AW P x E (JwY F J Q)) (hk:∀i,J i→AW P y (F i) Q):AW P x E (Jog P y Q):=
 h.mono fun ex E' h'=> by
  cases ex with
  | normal=> obtain ⟨i,hI,hl⟩:=h';exact AW.le hl (hk i hI)
  | exit i=> exact h'
  | goto i=> exact h'
  | ret=> exact h'
  | panic i=> exact h'
theorem JdG {ι:Type} (F:ι→Env) (J:ι→Prop) {k:Nat} {x y:Code} {E:Env} {Q:AExit→Env→Prop} (h:AW P x E (Jf2 k (JwY F J Q))) (hk:∀i,J i→AW P y (F i) Q):AW P x E (Jf2 k (Jog P y Q)):=by
 have key:∀ex E',JwY F J Q ex E'→Jog P y Q ex E':=fun ex E' h'=> by
  cases ex with
  | normal=> obtain ⟨i,hI,hl⟩:=h';exact AW.le hl (hk i hI)
  | exit i=> exact h'
  | goto i=> exact h'
  | ret=> exact h'
  | panic i=> exact h'
 refine h.mono fun ex E' h'=> ?_
 cases ex with
 | exit i=>
   simp only [Jf2] at h'⊢;cases hb:Nat.beq i k with
   | true=> simp only [hb,cond_true] at h'⊢;exact key .normal _ h'
   | false=> simp only [hb,cond_false] at h'⊢;exact h'
 | normal=> exact key .normal _ h'
 | goto i=> exact h'
 | ret=> exact h'
 | panic i=> exact h'
section
variable {α:Type} [Inhabited α]
def Jc1 (E:α→AV) (d:Array α) (tl:List AV):List AV:=d.toList.map E++tl
omit [Inhabited α] in
theorem JoP {E:α→AV} {d:Array α} {tl:List AV}:(Jc1 E d tl).length=d.size+tl.length:=by simp [Jc1]
theorem Jdb {x:Int} {i:Nat} (h:x=(i:Int)):0≤x:=by omega
theorem Jdt {x:Int} {i n:Nat} (h:x=(i:Int)) (hn:i < n):x < (n:Int):=by omega
end
end Go.Vl

namespace Go.Vl
open Go.RowKit
variable {P:Program}
theorem AOp.any {o:Oper} {E:Env} {K:Env→Prop} {Kp:AV→Env→Prop} (h:AOp P o E K):AOp P o E K Kp:=fun ro X M w0 a w g hs next Q hn _=> h ro X M w0 a w g hs next Q hn fun _ _ _ _ _ _ h=> h.elim
theorem JwZ {w:World} {X:Nat→Nat→Prop} {g:List Nat} {m sz:Nat} {f':Nat→AV} {news:List Value} (hpos:0 < sz) (hnl:news.length=m * sz) (hncs:∀i,i < m→(f' i).cells.length=sz)
 (hnr:∀(i j:Nat) (c:AV) (u:Value),i < m→(f' i).cells[j]? =some c→news[i * sz+j]? =some u→Rep w X g c u) (hone:Jcu m f'):∀u∈news,u.oneCell'=true:=by
 intro u hu
 obtain ⟨k,hk,hku⟩:=List.getElem_of_mem hu
 have hdm:=Nat.div_add_mod k sz
 have hmod:=Nat.mod_lt k hpos
 have hdiv:k / sz < m:=by rw [Nat.div_lt_iff_lt_mul hpos];omega
 have hlt:k % sz < (f' (k / sz)).cells.length:=by rw [hncs _ hdiv];exact hmod
 have hrep:=hnr (k / sz) (k % sz) _ u hdiv (List.getElem?_eq_getElem hlt) (by
  rw [Nat.mul_comm,hdm,List.getElem?_eq_getElem hk,hku])
 exact Je3 (List.all_eq_true.1 (hone _ hdiv) _ (List.getElem_mem hlt)) hrep
theorem JoQ {w:World} {X:Nat→Nat→Prop} {g:List Nat} {m sz:Nat} {f':Nat→AV} {news:List Value} (hpos:0 < sz) (hnl:news.length=m * sz) (hncs:∀i,i < m→(f' i).cells.length=sz)
 (hnr:∀(i j:Nat) (c:AV) (u:Value),i < m→(f' i).cells[j]? =some c→news[i * sz+j]? =some u→Rep w X g c u):
 ∀(k:Nat) (c:AV) (u:Value),(Jw m f')[k]? =some c→news[k]? =some u→Rep w X g c u:=by
 intro k c u hc hu
 obtain ⟨rl,rg⟩:=Jds hncs
 have hk:k < m * sz:=by rw [← hnl];exact (List.getElem?_eq_some_iff.1 hu).1
 have hdm:=Nat.div_add_mod k sz
 have hmod:=Nat.mod_lt k hpos
 have hdiv:k / sz < m:=by rw [Nat.div_lt_iff_lt_mul hpos];exact hk
 have e:k=k / sz * sz+k % sz:=by rw [Nat.mul_comm];exact hdm.symm
 rw [e,rg _ _ hdiv hmod] at hc
 exact hnr _ _ c u hdiv hc (by rw [← e];exact hu)
theorem Je7 {o:Oper} {E:Env} {K:Env→Prop} {Kp:AV→Env→Prop} {s x:Operand} {t e:TypeId} {n szx m cap:Nat} {f':Nat→AV} {i:Id} {cs:List AV}
 (ho:o.op= .call { callee:= .builtin .append,args:= #[s,x],argTypes:= #[t,t]}) (hs:E.ev s= .hs i 0 n cap)
 (hx:E.ev x= .sl szx m f'∨∃oj,E.ev x= .os szx m f' oj)
 (ht:P.underlying t=some (.slice e)) (hg:Jbc P e=true) (hszx:m=0∨szx=P.cellsOf e)
 (hcs:Jbm i.1 E.h.bx=some (i.2,cs)) (hcap:n≤cap) (hcl:cap * P.cellsOf e≤cs.length) (hone:Jcu m f')
 (hroom0:m≠0→(n+m) * P.bytesOf e≤140737488355328) (hlen0:m≠0→n+m≤9223372036854775807)
 (hk0:m=0→K (E.set o.dst (.hs i 0 n cap)))
 (hk1:m≠0→n+m≤cap→K (({ E with h:= { E.h with bx:=JeN i.1 (Jaa cs (n * P.cellsOf e) (Jw m f')) E.h.bx}}:Env).set o.dst (.hs i 0 (n+m) cap)))
 (hk2:m≠0→¬n+m≤cap→∀ncap,n+m≤ncap→K (({ E with h:=E.h.add (cs.take (n * P.cellsOf e)++Jw m f'++List.replicate ((ncap - (n+m)) * P.cellsOf e) .any)}:Env).set o.dst (.hs (E.h.nn,E.h.nx) 0 (n+m) ncap))):AOp P o E K Kp:=by
 intro ro X M w0 a w g hst next Q hn hpan
 obtain ⟨inf,z,hi,hz,hzs,hsi,hpos,hby⟩:=Je4 hg
 have hmem:=Jf3 hcs
 obtain ⟨b,hgb,vs,ev,hb,hvs,hr⟩:=hst.hok.bx _ hmem
 dsimp only at hgb hvs hr
 have hsv:a.eval s= .slice (some ⟨b,0,none⟩) n cap:=by
  have:=hst.ev s;rw [hs] at this;generalize a.eval s=u at this;cases this with
  | hs _ _ _ _ b' hg'=> rw [hgb] at hg';cases hg';rfl
 have hxr:Rep w (excl X g E.h) g (.sl szx m f') (a.eval x):=by
  have:=hst.ev x;rcases hx with hx | ⟨oj,hx⟩
  ·rw [hx] at this;exact this
  ·rw [hx] at this;exact Jdn this
 have hexec:∀ {u:Value} {w':World},(Builtin.append_ #[t,t] o.type #[a.eval s,a.eval x]).run P w= .ok u w'→(execOp a.eval o).run P w= .ok (.value u) w':=by
  intro u w' h;unfold execOp;simp only [ho,resolve];simp [invoke,builtin,h]
 by_cases hm:m=0
 ·subst hm;have hrun:(Builtin.append_ #[t,t] o.type #[a.eval s,a.eval x]).run P w= .ok (a.eval s) w:=by
   have key:∀(xb:Option Addr) (xc:Nat),(Builtin.append_ #[t,t] o.type #[.slice (some ⟨b,0,none⟩) n cap, .slice xb 0 xc]).run P w= .ok (.slice (some ⟨b,0,none⟩) n cap) w:=by
    intro xb xc;have hfc:(Builtin.firstCells inf.size 0 (.slice xb 0 xc)).run P w= .ok #[] w:=by
     cases xb with
     | none=> simp [Builtin.firstCells]
     | some ad=> simpa using run_firstCells_some (P:=P) w inf.size 0 ad 0 xc [] Si Si
    simp [Builtin.append_,run_underlying ht,sizeOf,typeInfo,hi,Builtin.lenOf,hcap,hfc,storeCells]
   rw [hsv];generalize a.eval x=ux at hxr;cases hxr with
   | sl0 _ _ xa xc=> exact key _ _
   | sl _ _ _ b off cap vs hlen' hcap=> exact key _ _
  refine Jx (by rw [ho];intro c h;cases h) ?_;rw [hexec hrun];have:=hst.ev s;rw [hs] at this;exact hn _ _ _ g (hk0 rfl) (fun _ _ h=> h) (hst.put o.dst this)
 ·have hroom:=hroom0 hm;have hlen:=hlen0 hm;have hszx':szx=P.cellsOf e:=hszx.resolve_left hm;subst hszx';obtain ⟨ax,xcap,news,hxv,hnl,hncell,hncs,hnr⟩:=JmC hxr hm;have hnone:=JwZ hpos hnl hncs hnr hone;have hnrep:=JoQ hpos hnl hncs hnr;obtain ⟨rl,rg⟩:=Jds hncs;have hvl:vs.toList.length=cs.length:=by simpa using hvs
  by_cases hfit:n+m≤cap
  ·have hnm:(n+m) * P.cellsOf e≤cap * P.cellsOf e:=Nat.mul_le_mul_right _ hfit;rw [Nat.add_mul] at hnm;have hr2:=Jh1 (P:=P) w t o.type e ev inf ht hi b n cap vs hb ax m xcap news (by rw [hnl,hsi]) hncell hnone hfit (by rw [hsi,hnl];omega);rw [hsi] at hr2;have hnew:=hst.setRow (cs:=Jaa cs (n * P.cellsOf e) (Jw m f')) (vs:=(vs.toList.take (n * P.cellsOf e)++news++vs.toList.drop (n * P.cellsOf e+news.length)).toArray) hcs hgb hb
    (by simp only [JaP,List.length_append,List.length_take,List.length_drop,Array.length_toList,rl,hnl];omega)
    (by simp only [List.size_toArray,List.length_append,List.length_take,List.length_drop,Array.length_toList,hnl];omega)
    (fun k c u hk1 hk2=> by
      simp only [List.append_assoc] at hk2;rw [JcW _ _ _ (by simp only [Array.length_toList];omega)] at hk2;rw [JaP] at hk1;rw [JcW _ _ _ (by rw [rl];omega)] at hk1;rw [hnl] at hk2;rw [rl] at hk1;split at hk1
      ·rename_i h2;rw [if_pos h2] at hk2;exact hr k c u hk1 (by simpa using hk2)
      ·rename_i h2
       rw [if_neg h2] at hk2;split at hk1
       ·rename_i h3;rw [if_pos h3] at hk2;exact hnrep _ c u hk1 hk2
       ·rename_i h3;rw [if_neg h3] at hk2;exact hr k c u hk1 (by simpa using hk2))
   refine Jx (by rw [ho];intro c h;cases h) ?_;rw [hexec (by rw [hsv,hxv];exact hr2)];exact hn _ _ _ g (hk1 hm hfit) (fun _ _ h=> h) (hnew.put o.dst (.hs _ _ _ _ b hgb))
  ·have hnc:n * P.cellsOf e≤cap * P.cellsOf e:=Nat.mul_le_mul_right _ hcap;have hol:(vs.toList.take (n * P.cellsOf e)).length=n * P.cellsOf e:=by rw [List.length_take];omega
   have hocell:∀(j:Nat) (u:Value),(vs.toList.take (n * P.cellsOf e))[j]? =some u→w.cell? ((⟨b,0,none⟩:Addr).add j)=some u:=fun j u hu=> by
    rw [J1,Nat.zero_add,Jz hb];rw [List.getElem?_take] at hu;split at hu
    ·simpa using hu
    ·cases hu
   have hr2:=run_append_grow (P:=P) w t o.type e inf z ht hi hz ⟨b,0,none⟩ n cap (vs.toList.take (n * P.cellsOf e)) (by rw [hol,hsi]) hocell ax m xcap news (by rw [hnl,hsi]) hncell Om Om (growslice_fits Om (by rw [hby];exact hroom));have hge:=grownCap_ge w (n+m) cap e;generalize grownCap w (n+m) cap e=ncap at hr2 hge;have hst2:=hst.drew;obtain ⟨h3,h4⟩:=hst2.box (cs:=cs.take (n * P.cellsOf e)++Jw m f'++List.replicate ((ncap - (n+m)) * P.cellsOf e) .any) (vs:=(vs.toList.take (n * P.cellsOf e)).toArray++news.toArray++Builtin.zeroCells z.cells (ncap - (n+m))) e
    (by simp only [Array.toList_append,List.length_append,Array.length_toList,size_zeroCells,hzs,List.length_take,List.length_replicate,rl,hnl,List.size_toArray];omega)
    (fun k c u hc hu=> by
      have hevo:Evo none2 w w.drew:=Jf4 w;simp only [Array.toList_append] at hu;rw [List.append_assoc] at hc hu;by_cases h1:k < n * P.cellsOf e
      ·rw [List.getElem?_append_left (by rw [List.length_take];omega),List.getElem?_take,if_pos h1] at hc;rw [List.getElem?_append_left (by simp only [List.length_take, Array.length_toList] at *; omega)] at hu;rw [List.getElem?_take,if_pos h1] at hu;exact (hr k c u hc (by simpa using hu)).evo0 hevo
      ·rw [List.getElem?_append_right (by rw [List.length_take];omega),List.length_take,Nat.min_eq_left Om] at hc;rw [List.getElem?_append_right (by simp only [List.length_take, Array.length_toList] at *; omega)] at hu;simp only [hol] at hu;by_cases h2:k - n * P.cellsOf e < m * P.cellsOf e
       ·rw [List.getElem?_append_left (by rw [rl];exact h2)] at hc;rw [List.getElem?_append_left (by rw [hnl];exact h2)] at hu;exact (hnrep _ c u hc hu).evo0 hevo
       ·rw [List.getElem?_append_right (by rw [rl];omega)] at hc;have:=List.mem_of_getElem? hc;rw [(List.mem_replicate.1 this).2];exact .any _)
   refine Jx (by rw [ho];intro c h;cases h) ?_;rw [hexec (by rw [hsv,hxv];exact hr2)];refine hn _ _ _ _ (hk2 hm hfit ncap hge) (fun i b h=> by rw [List.getElem?_append_left (List.getElem?_eq_some_iff.1 h).1];exact h) (h3.put o.dst ?_);refine .hs _ _ _ _ w.heap.size ?_;generalize hX:excl X (g++ [w.drew.heap.size]) (E.h.add (cs.take (n * P.cellsOf e)++Jw m f'++List.replicate ((ncap - (n+m)) * P.cellsOf e) .any))=X2 at h4;cases h4 with
   | bp _ _ b' hg'=> exact hg'
theorem JrI {w:World} {X:Nat→Nat→Prop} {g:List Nat} {i:Id} {b:Nat} (h:Rep w X g (.bp i 0) (.pointer (some ⟨b,0,none⟩))):g[i.2]? =some b:=by
 cases h with
 | bp _ _ b' hg'=> exact hg'
theorem JnS {o:Oper} {E:Env} {K:Env→Prop} {Kp:AV→Env→Prop} {s x:Operand} {t e:TypeId} {sz szx m:Nat} {f f':Nat→AV}
 (ho:o.op= .call { callee:= .builtin .append,args:= #[s,x],argTypes:= #[t,t]}) (hs:E.ev s= .os sz 0 f none)
 (hx:Jou E x szx m f')
 (ht:P.underlying t=some (.slice e)) (hg:Jbc P e=true) (hszx:szx=P.cellsOf e) (hm:m≠0) (hone:Jcu m f')
 (hroom:m * P.bytesOf e≤140737488355328) (hlen:m≤9223372036854775807)
 (hk2:∀ncap,m≤ncap→K (({ E with h:=E.h.add (Jw m f'++List.replicate ((ncap - m) * P.cellsOf e) .any)}:Env).set o.dst (.hs (E.h.nn,E.h.nx) 0 m ncap))):AOp P o E K Kp:=by
 intro ro X M w0 a w g hst next Q hn hpan
 obtain ⟨inf,z,hi,hz,hzs,hsi,hpos,hby⟩:=Je4 hg
 subst hszx
 have hexec:∀ {u:Value} {w':World},(Builtin.append_ #[t,t] o.type #[a.eval s,a.eval x]).run P w= .ok u w'→(execOp a.eval o).run P w= .ok (.value u) w':=by
  intro u w' h;unfold execOp;simp only [ho,resolve];simp [invoke,builtin,h]
 obtain ⟨ax,xcap,news,hxv,hnl,hncell,hncs,hnr⟩:=(hx ro X M w0 a w g hst).2 hm
 have hnrep:=JoQ hpos hnl hncs hnr
 obtain ⟨rl,rg⟩:=Jds hncs
 have hrun:∃ncap,m≤ncap∧(Builtin.append_ #[t,t] o.type #[a.eval s,a.eval x]).run P w= .ok (.slice (some ⟨w.heap.size,0,none⟩) m ncap) (w.drew.alloc (.cells (news.toArray++Builtin.zeroCells z.cells (ncap - m)) e)):=by
  have hsr:=hst.ev s;rw [hs] at hsr;rw [hxv];generalize a.eval s=us at hsr;have key:∀ad:Option Addr,us= .slice ad 0 0→∃ncap,m≤ncap∧(Builtin.append_ #[t,t] o.type #[us, .slice (some ax) m xcap]).run P w= .ok (.slice (some ⟨w.heap.size,0,none⟩) m ncap) (w.drew.alloc (.cells (news.toArray++Builtin.zeroCells z.cells (ncap - m)) e)):=by
   rintro ad rfl;cases ad with
   | none=> exact ⟨_,grownCap_ge w m 0 e,run_append_nil (P:=P) w t o.type e inf z ht hi hz ax m xcap news (by rw [hnl,hsi]) hncell Om Om (by rw [hby];omega)⟩
   | some ad=>
     have hr:=run_append_grow (P:=P) w t o.type e inf z ht hi hz ad 0 0 [] Si Si ax m xcap news (by rw [hnl,hsi]) hncell Om Om (growslice_fits Om (by rw [hby,Nat.zero_add];exact hroom));rw [Nat.zero_add] at hr;exact ⟨_,grownCap_ge w m 0 e,by simpa using hr⟩
  cases hsr with
  | os0 _ _ ad=> exact key ad rfl
  | osn _ _ _ b off vs=> exact key _ rfl
 obtain ⟨ncap,hnc,hr⟩:=hrun
 obtain ⟨h3,h4⟩:=hst.drew.box (cs:=Jw m f'++List.replicate ((ncap - m) * P.cellsOf e) .any) (vs:=news.toArray++Builtin.zeroCells z.cells (ncap - m)) e
  (by simp only [Array.toList_append,List.length_append,Array.length_toList,size_zeroCells,hzs,List.length_replicate,rl,hnl])
  (fun k c u hc hu=> by
    simp only [Array.toList_append] at hu;by_cases h2:k < m * P.cellsOf e
    ·rw [List.getElem?_append_left (by rw [rl];exact h2)] at hc;rw [List.getElem?_append_left (by rw [hnl];exact h2)] at hu;exact (hnrep _ c u hc hu).evo0 (Jf4 w)
    ·rw [List.getElem?_append_right (by rw [rl];omega)] at hc;have:=List.mem_of_getElem? hc;rw [(List.mem_replicate.1 this).2];exact .any _)
 refine Jx (by rw [ho];intro c h;cases h) ?_
 rw [hexec hr]
 exact hn _ _ _ _ (hk2 ncap hnc) (fun i b h=> by rw [List.getElem?_append_left (List.getElem?_eq_some_iff.1 h).1];exact h) (h3.put o.dst (.hs _ _ _ _ w.heap.size (JrI h4)))
theorem Jgc {o:Oper} {E:Env} {K:Env→Prop} {Kp:AV→Env→Prop} {s x:Operand} {t e:TypeId} {sz szx m:Nat} {f f':Nat→AV}
 (ho:o.op= .call { callee:= .builtin .append,args:= #[s,x],argTypes:= #[t,t]}) (hs:E.ev s= .os sz 0 f none)
 (hx:E.ev x= .sl szx m f'∨∃oj,E.ev x= .os szx m f' oj)
 (ht:P.underlying t=some (.slice e)) (hg:Jbc P e=true) (hszx:szx=P.cellsOf e) (hm:m≠0) (hone:Jcu m f')
 (hroom:m * P.bytesOf e≤140737488355328) (hlen:m≤9223372036854775807)
 (hk2:∀ncap,m≤ncap→K (({ E with h:=E.h.add (Jw m f'++List.replicate ((ncap - m) * P.cellsOf e) .any)}:Env).set o.dst (.hs (E.h.nn,E.h.nx) 0 m ncap))):AOp P o E K Kp:=
 JnS ho hs (JmD hx) ht hg hszx hm hone hroom hlen hk2
theorem JnT {o:Oper} {E:Env} {K:Env→Prop} {Kp:AV→Env→Prop} {s x:Operand} {t e:TypeId} {sz m:Nat} {f:Nat→AV} {tn:TypeId} {kn kq:IntKind}
 (ho:o.op= .call { callee:= .builtin .append,args:= #[s,x],argTypes:= #[t,tn]}) (hs:E.ev s= .os sz 0 f none)
 (hx:E.ev x= .v (.int kq m)) (hm:m≠0) (htn:P.underlying tn=some (.int kn)) (ht:P.underlying t=some (.slice e)) (hg:Jbc P e=true)
 (hroom:m * P.bytesOf e≤140737488355328) (hlen:m≤9223372036854775807)
 (hk2:∀ncap,m≤ncap→K (({ E with h:=E.h.add (List.replicate (ncap * P.cellsOf e) .any)}:Env).set o.dst (.hs (E.h.nn,E.h.nx) 0 m ncap))):AOp P o E K Kp:=by
 intro ro X M w0 a w g hst next Q hn hpan
 obtain ⟨inf,z,hi,hz,hzs,hsi,hpos,hby⟩:=Je4 hg
 have hxv:a.eval x= .int kq m:=by
  have:=hst.ev x;rw [hx] at this;generalize a.eval x=u at this;cases this;rfl
 have hexec:∀ {u:Value} {w':World},(Builtin.append_ #[t,tn] o.type #[a.eval s,a.eval x]).run P w= .ok u w'→(execOp a.eval o).run P w= .ok (.value u) w':=by
  intro u w' h;unfold execOp;simp only [ho,resolve];simp [invoke,builtin,h]
 have hrun:∃ncap,m≤ncap∧(Builtin.append_ #[t,tn] o.type #[a.eval s,a.eval x]).run P w= .ok (.slice (some ⟨w.heap.size,0,none⟩) m ncap) (w.drew.alloc (.cells (([]:List Value).toArray++Builtin.zeroCells z.cells m++Builtin.zeroCells z.cells (ncap - m)) e)):=by
  have hsr:=hst.ev s;rw [hs] at hsr;rw [hxv];generalize a.eval s=us at hsr;have key:∀ad:Option Addr,us= .slice ad 0 0→∃ncap,m≤ncap∧(Builtin.append_ #[t,tn] o.type #[us, .int kq m]).run P w= .ok (.slice (some ⟨w.heap.size,0,none⟩) m ncap) (w.drew.alloc (.cells (([]:List Value).toArray++Builtin.zeroCells z.cells m++Builtin.zeroCells z.cells (ncap - m)) e)):=by
   rintro ad rfl;have hr:=Go.Lib.run_append_grow_zeros (P:=P) w t tn o.type e inf z kq kn ht htn hi hz ad 0 0 [] (by cases ad with
    | none=> simp [Builtin.firstCells]
    | some a0=> simpa using run_firstCells_some (P:=P) w.drew inf.size 0 a0 0 0 [] Si Si) m Om Om Om Om (by rw [hby];omega) (growslice_fits Om (by rw [hby,Nat.zero_add];exact hroom))
   rw [Nat.zero_add] at hr;exact ⟨_,grownCap_ge w m 0 e,hr⟩
  cases hsr with
  | os0 _ _ ad=> exact key ad rfl
  | osn _ _ _ b off vs=> exact key _ rfl
 obtain ⟨ncap,hnc,hr⟩:=hrun
 obtain ⟨h3,h4⟩:=hst.drew.box (cs:=List.replicate (ncap * P.cellsOf e) .any) (vs:=([]:List Value).toArray++Builtin.zeroCells z.cells m++Builtin.zeroCells z.cells (ncap - m)) e
  (by
    simp only [Array.toList_append,List.length_append,Array.length_toList,size_zeroCells,hzs,List.length_replicate,List.length_nil,Nat.zero_add,← Nat.add_mul]
    congr 1;omega)
  (fun k c u hc hu=> by
    have:=List.mem_of_getElem? hc;rw [(List.mem_replicate.1 this).2];exact .any _)
 refine Jx (by rw [ho];intro c h;cases h) ?_
 rw [hexec hr]
 exact hn _ _ _ _ (hk2 ncap hnc) (fun i b h=> by rw [List.getElem?_append_left (List.getElem?_eq_some_iff.1 h).1];exact h) (h3.put o.dst (.hs _ _ _ _ w.heap.size (JrI h4)))
theorem JqQ {o:Oper} {E:Env} {t e:TypeId} {x hi:Operand} {n l cap:Nat} {i:Id} {k':IntKind} {d:TypeDesc} (ho:o.op= .slice t x none (some hi) none) (hx:E.ev x= .hs i 0 n cap)
 (hhi:E.ev hi= .v (.int k' (l:Int))) (ht:P.underlying t=some (.slice e)) (hd:P.underlying e=some d) (hl:l≤cap) (hc:0 < cap):Yields P o E (.hs i 0 l cap):=by
 refine ⟨(by rw [ho];intro c hc;cases hc),fun ρ w X g hk hr=> .inl ?_⟩
 have r1:=hr x (by rw [ho];simp [Op.operands])
 have r3:=hr hi (by rw [ho];simp [Op.operands])
 rw [hx] at r1;rw [hhi] at r3
 have e3:=JD r3
 generalize hu:ρ x=u at r1
 cases r1 with
 | hs _ _ _ _ b hgb=>
   have hN:(Instr.sliceBounds true n cap none (some (.int k' (l:Int))) none).run P w= .ok (0,l,cap) w:=by
    have e5:(0:Int)≤(l:Int):=(by omega);have e6:(l:Int)≤(cap:Int):=(by omega);simp [Instr.sliceBounds,Instr.sliceBound,asIntOf,hl]
   have hcl:¬cap=0:=by omega
   refine ⟨.slice (some ⟨b,0,none⟩) l cap,w, ?_,Evo.refl _ _, .hs _ _ _ _ b hgb⟩;unfold execOp;simp only [ho,hu,Option.map_some,e3,Option.map_none];refine Jce ?_;simp [Instr.sliceAt,Sem.run_bind,run_underlying ht,Result.andThen_ok,Instr.slice,hN,Ju hd,Sem.run_pure,J1,hcl]
theorem JoR {o:Oper} {E:Env} {K:Env→Prop} {Kp:AV→Env→Prop} {t e:TypeId} {x hi:Operand} {n l cap:Nat} {i:Id} {k':IntKind} {d:TypeDesc} (ho:o.op= .slice t x none (some hi) none) (hx:E.ev x= .hs i 0 n cap)
 (hhi:E.ev hi= .v (.int k' (l:Int))) (ht:P.underlying t=some (.slice e)) (hd:P.underlying e=some d) (hl:l≤cap) (hc:0 < cap) (hk:K (E.set o.dst (.hs i 0 l cap))):AOp P o E K Kp:=
 AOp.of_yields (JqQ ho hx hhi ht hd hl hc) hk
theorem JmI {w:World} {X:Nat→Nat→Prop} {g:List Nat} {sz:Nat} {f:Nat→AV} {u:Value} (h:Rep w X g (.os sz 0 f none) u):∃ad,u= .slice ad 0 0:=by
 cases h with
 | os0 _ _ ad=> exact ⟨ad,rfl⟩
 | osn _ _ _ b off vs=> exact ⟨_,rfl⟩
theorem Jj2 {o:Oper} {E:Env} {K:Env→Prop} {Kp:AV→Env→Prop} {x:Operand} {t e:TypeId} {sz:Nat} {f:Nat→AV} (ho:o.op= .call { callee:= .builtin .cap,args:= #[x],argTypes:= #[t]})
 (hx:E.ev x= .os sz 0 f none) (ht:P.underlying t=some (.slice e)) (hk:K (E.set o.dst (.v (.int .i64 0)))):AOp P o E K Kp:=by
 refine AOp.of_yields (r:= .v (.int .i64 0)) ⟨(by rw [ho];intro c hc;cases hc),fun ρ w X g hk hr=> .inl ?_⟩ hk
 have r1:=hr x (by rw [ho];simp [Op.operands,Call.operands])
 rw [hx] at r1
 obtain ⟨ad,hu⟩:=JmI r1
 refine ⟨.int .i64 0,w, ?_,Evo.refl _ _, .v _⟩
 unfold execOp
 simp only [ho,resolve]
 simp [invoke,builtin,hu,Builtin.cap_,run_underlying ht,goInt]
theorem Jw0 {o:Oper} {E:Env} {K:Env→Prop} {Kp:AV→Env→Prop} {t e:TypeId} {x hi:Operand} {sz:Nat} {f:Nat→AV} {k':IntKind} {d:TypeDesc} (ho:o.op= .slice t x none (some hi) none) (hx:E.ev x= .os sz 0 f none)
 (hhi:E.ev hi= .v (.int k' 0)) (ht:P.underlying t=some (.slice e)) (hd:P.underlying e=some d) (hk:K (E.set o.dst (.os sz 0 f none))):AOp P o E K Kp:=by
 refine AOp.of_yields (r:= .os sz 0 f none) ⟨(by rw [ho];intro c hc;cases hc),fun ρ w X g hk hr=> .inl ?_⟩ hk
 have r1:=hr x (by rw [ho];simp [Op.operands])
 have r3:=hr hi (by rw [ho];simp [Op.operands])
 rw [hx] at r1;rw [hhi] at r3
 have e3:=JD r3
 obtain ⟨ad,hu⟩:=JmI r1
 have hN:(Instr.sliceBounds true 0 0 none (some (.int k' 0)) none).run P w= .ok (0,0,0) w:=by
  simp [Instr.sliceBounds,Instr.sliceBound,asIntOf]
 cases ad with
 | none=>
   refine ⟨.slice none 0 0,w, ?_,Evo.refl _ _, .os0 _ _ _⟩;unfold execOp;simp only [ho,hu,Option.map_some,e3,Option.map_none];refine Jce ?_;simp [Instr.sliceAt,Sem.run_bind,run_underlying ht,Result.andThen_ok,Instr.slice,hN,Ju hd,Sem.run_pure,J1]
 | some ad=>
   refine ⟨.slice (some ad) 0 0,w, ?_,Evo.refl _ _, .os0 _ _ _⟩;unfold execOp;simp only [ho,hu,Option.map_some,e3,Option.map_none];refine Jce ?_;simp [Instr.sliceAt,Sem.run_bind,run_underlying ht,Result.andThen_ok,Instr.slice,hN,Ju hd,Sem.run_pure,J1]
theorem Jel {o:Oper} {E:Env} {K:Env→Prop} {Kp:AV→Env→Prop} {fo:Operand} {args:Array Operand} {tys:Array TypeId} {f:FuncId} {first caps xs:List AV} {h1:Heap} {Q:AV→Heap→Prop} {bx1:List (Id×Own)} {pm1:List (Id×Nat)}
 (rb:List (Id×Own)) (rp:List (Id×Nat)) (nn:Nat) (ho:o.op= .call { callee:= .value fo,args:=args,argTypes:=tys}) (hf:E.ev fo= .fn (.func f) first caps) (hbx:E.h.bx=bx1++rb) (hpm:E.h.pm=rp++pm1)
 (hl:LeL (first++args.toList.map E.ev++caps) xs) (hc:ECall P f xs h1 Q) (hbl:BxLe bx1 h1.bx) (hpe:PmEq pm1 h1.pm) (hn:h1.nx=E.h.nx)
 (hk:∀r h',Q r h'→K (({ E with h:=⟨h'.bx++rb,rp++h'.pm,h'.nx,nn⟩}:Env).set o.dst r)):AOp P o E K Kp:=by
 have h2:ECall P f xs ⟨bx1,pm1,h1.nx,h1.nn⟩ Q:=hc.tell hbl hpe rfl
 have h3:=(ECall.frame (h:=E.h) h2 rb rp (by rw [hbx]) (by rw [hpm];exact List.perm_append_comm) hn).args hl
 refine Jea ho hf h3 fun r h' hq=> ?_
 obtain ⟨h1',q1,rfl⟩:=hq
 exact ⟨r,⟨h1'.bx++rb,rp++h1'.pm,h1'.nx,nn⟩,Rf,⟨.refl _,List.perm_append_comm.map _,rfl⟩,hk r h1' q1⟩
theorem AVle.fn_caps {f:Fn} {cs ds:List AV} (h:LeL cs ds):AVle (.fn f [] cs) (.fn f [] ds):=by
 intro w X g u hr
 cases hr with
 | fn _ _ _ v1 v2 n1 n2 r1 r2=>
   refine .fn _ _ _ v1 v2 n1 (n2.trans h.get.1) r1 ?_;intro k c u hc hu;have hk:k < cs.length:=by rw [h.get.1];exact (List.getElem?_eq_some_iff.1 hc).1
   exact h.get.2 k _ c (List.getElem?_eq_getElem hk) hc w X g u (r2 k _ u (List.getElem?_eq_getElem hk) hu)
theorem Jik {ops:Array Oper} {o:Oper} {E E':Env} {j:Nat} {want:Bool} {x:Option Bool} (hg:o.guard=some (j,want)) (ht:∀k,k∈o.looksAt ops→E'.t k=E.t k) (h:agb (agd ops E j)=some x):agb (agd ops E' j)=some x:=by
 unfold agd at h⊢
 cases hd:(ops[j]?).bind (·.dst) with
 | none=> simp [hd,agb] at h
 | some d=> simp only [hd] at h⊢;rw [ht d (Jfe hg hd)];exact h
theorem JcK {ops:Array Oper} {B:List (Id×Own)} {o:Oper} {E:Env} {j:Nat} {want c:Bool} (hg:o.guard=some (j,want)) (hd:agb (agd ops E j)=some (some c)) (hc:(c ==want)=false):PureAll P ops B o E (.v undef):=fun E' _ ht=> by
 unfold GY
 simp only [hg]
 exact ⟨some c,Jik hg ht hd, .inr ⟨(fun h=> by rw [Option.some.inj h,beq_self_eq_true] at hc;cases hc),Tt⟩⟩
theorem Jag {ops:Array Oper} {B:List (Id×Own)} {o:Oper} {E:Env} {j:Nat} {want c:Bool} {C:Option Prop} {r:AV} (hg:o.guard=some (j,want)) (hd:agb (agd ops E j)=some (some c)) (hc:(c ==want)=true)
 (hp:Jbe P o.op { E with h:=⟨B, [],0,0⟩}=some (C,r)) (hC:J9 C):PureAll P ops B o E r:=fun E' hb ht=> by
 unfold GY
 simp only [hg]
 exact ⟨some c,Jik hg ht hd, .inl ⟨by rw [beq_iff_eq.1 hc],JbL (Jey (E:= { E with h:=⟨B, [],0,0⟩}) (E':=E') hb (JbH (E:= { E with h:=⟨B, [],0,0⟩}) ht) hp) hC⟩⟩
end Go.Vl

namespace Go.Vl
open Go.RowKit
variable {P:Program}
section
variable {α:Type} [Inhabited α]
def Jab (E:α→List AV) (d:Array α) (tl:List AV):List AV:=d.toList.flatMap E++tl
omit [Inhabited α] in
theorem Jdu {E:α→List AV} {k:Nat} (hk:∀x,(E x).length=k):∀l:List α,(l.flatMap E).length=l.length * k
 | []=> by simp
 | x::l=> by rw [List.flatMap_cons,List.length_append,hk,Jdu hk l,List.length_cons,Nat.succ_mul];omega
omit [Inhabited α] in
theorem Jhv {E:α→List AV} {k:Nat} (hk:∀x,(E x).length=k) {d:Array α} {tl:List AV}:(Jab E d tl).length=d.size * k+tl.length:=by
 unfold Jab;rw [List.length_append,Jdu hk];simp
omit [Inhabited α] in
theorem JmJ {E:α→List AV} {k:Nat} (hk:∀x,(E x).length=k) {tl:List AV}:∀(l:List α) (i:Nat) (h:i < l.length),((l.flatMap E++tl).drop (i * k)).take k=E l[i]
 | [],i,h=> by cases h
 | x::l,0,_=> by
   rw [List.flatMap_cons,List.append_assoc,Nat.zero_mul,List.drop_zero,List.take_append_of_le_length (by rw [hk];exact Nat.le_refl _),List.take_of_length_le (by rw [hk];exact Nat.le_refl _)];rfl
 | x::l,i+1,h=> by
   have e:(E x++(l.flatMap E++tl)).drop ((i+1) * k)=(l.flatMap E++tl).drop (i * k):=by
    rw [List.drop_append,List.drop_of_length_le (by rw [hk,Nat.succ_mul];omega),hk,Nat.succ_mul,Nat.add_sub_cancel];rfl
   rw [List.flatMap_cons,List.append_assoc,e];exact JmJ hk l i (by simpa using h)
theorem JoS {E:α→List AV} {k:Nat} (hk:∀x,(E x).length=k) {d:Array α} {tl:List AV} {i:Nat} (hi:i < d.size):((Jab E d tl).drop (i * k)).take k=E d[i]! :=by
 unfold Jab
 rw [JmJ hk d.toList i (by simpa using hi)]
 simp [hi]
omit [Inhabited α] in
theorem JfJ {a b vs:List AV} {off:Nat}:Jaa (a++b) (a.length+off) vs=a++Jaa b off vs:=by
 rw [JaP,JaP,List.take_append,List.drop_append]
 have h1:a.take (a.length+off)=a:=List.take_of_length_le Om
 have h2:a.drop (a.length+off+vs.length)= []:=List.drop_of_length_le Om
 rw [h1,h2,show a.length+off - a.length=off by omega,show a.length+off+vs.length - a.length=off+vs.length by omega]
 simp
omit [Inhabited α] in
theorem Jil {a b vs:List AV} (h:a.length=vs.length):Jaa (a++b) 0 vs=vs++b:=by
 rw [JaP,Nat.zero_add,← h,List.drop_left']
 ·simp
 ·rfl
omit [Inhabited α] in
theorem JmK {E:α→List AV} {k:Nat} (hk:∀x,(E x).length=k) {tl:List AV} {x:α}:∀(l:List α) (i:Nat),i < l.length→Jaa (l.flatMap E++tl) (i * k) (E x)=(l.set i x).flatMap E++tl
 | [],i,h=> by cases h
 | y::l,0,_=> by
   rw [List.flatMap_cons,List.append_assoc,Nat.zero_mul,Jil (by rw [hk,hk])];simp [List.flatMap_cons]
 | y::l,i+1,h=> by
   rw [List.flatMap_cons,List.append_assoc,Nat.succ_mul,Nat.add_comm,show k+i * k=(E y).length+i * k by rw [hk],JfJ,JmK hk l i (by simpa using h)];simp [List.flatMap_cons]
omit [Inhabited α] in
theorem JoT {E:α→List AV} {k:Nat} (hk:∀x,(E x).length=k) {d:Array α} {tl:List AV} {i:Nat} {x:α} (hi:i < d.size):Jaa (Jab E d tl) (i * k) (E x)=Jab E (d.setIfInBounds i x) tl:=by
 unfold Jab
 rw [JmK hk _ _ (by simpa using hi)]
 simp
omit [Inhabited α] in
theorem JlW {E:α→List AV} {k:Nat} (hk:∀x,(E x).length=k) {d:Array α} {tl:List AV} {i:Nat} (hi:i < d.size):i * k+k≤(Jab E d tl).length:=by
 rw [Jhv hk,← Nat.succ_mul]
 exact Nat.le_trans (Nat.mul_le_mul_right k hi) (Nat.le_add_right _ _)
theorem Jhw {x:Int} {i c k:Nat} (hc:c=k) (h:x=(i:Int)):0+x.toNat * c=i * k:=by subst hc;subst h;simp
theorem Jhx {E:α→List AV} {k:Nat} (hk:∀x,(E x).length=k) {h:Heap} {t:TypeId} {nm s off j:Nat} {d:Array α} {tl:List AV} (hcs:Jbm nm h.bx=some (s,Jab E d tl)) (ht:(P.underlying t).map agD=some true) (hn:P.cellsOf t=k) (hoff:off=j * k) (hj:j < d.size):
 JdC P t h (.bp (nm,s) off)=some (some (s=s), .ag (E d[j]!)):=by
 subst hoff
 obtain ⟨td,ht,ha⟩:=Option.map_eq_some_iff.1 ht
 have hl:Nat.ble (0+k) ((Jab E d tl).drop (j * k)).length=true:=Nat.ble_eq_true_of_le (by rw [List.length_drop];have:=JlW (tl:=tl) hk hj;omega)
 unfold JdC
 simp only [hcs,ht,ha,cond_true,apart,hn,hl,List.drop_zero,JoS hk hj,Option.map_some]
theorem JdH {E:α→List AV} {k:Nat} (hk:∀x,(E x).length=k) {o:Op} {e:Env} {t:TypeId} {p:Operand} {nm s off j:Nat} {d:Array α} {tl:List AV} (ho:o= .load t p) (hp:e.ev p= .bp (nm,s) off) (hoff:off=j * k)
 (hcs:Jbm nm e.h.bx=some (s,Jab E d tl)) (ht:(P.underlying t).map agD=some true) (hn:P.cellsOf t=k) (hj:j < d.size):Jbe P o e=some (some (s=s), .ag (E d[j]!)):=by
 rw [ho]
 show JdC P t e.h (e.ev p)=_
 rw [hp]
 exact Jhx hk hcs ht hn hoff hj
theorem JqR {E:α→List AV} {k:Nat} (hk:∀x,(E x).length=k) {o:Oper} {e:Env} {t:TypeId} {p:Operand} {nm s off j:Nat} {d:Array α} {tl:List AV} (ho:o.op= .load t p) (hp:e.ev p= .bp (nm,s) off) (hoff:off=j * k)
 (hcs:Jbm nm e.h.bx=some (s,Jab E d tl)) (ht:(P.underlying t).map agD=some true) (hn:P.cellsOf t=k) (hj:j < d.size):Yields P o e (.ag (E d[j]!)):=by
 refine JbL (C:=some (s=s)) ?_ rfl
 rw [ho]
 show JdC P t e.h (e.ev p)=_
 rw [hp]
 exact Jhx hk hcs ht hn hoff hj
theorem JoU {E:α→List AV} {k:Nat} (hk:∀x,(E x).length=k) {ops:Array Oper} {o:Oper} {e:Env} {t:TypeId} {p:Operand} {nm s off j:Nat} {d:Array α} {tl:List AV} (hg:o.guard=none) (ho:o.op= .load t p) (hp:e.ev p= .bp (nm,s) off) (hoff:off=j * k)
 (hcs:Jbm nm e.h.bx=some (s,Jab E d tl)) (ht:(P.underlying t).map agD=some true) (hn:P.cellsOf t=k) (hj:j < d.size):PureNow P ops o e (.ag (E d[j]!)):=by
 refine JuR hg (C:=some (s=s)) ?_ rfl
 rw [ho]
 show JdC P t e.h (e.ev p)=_
 rw [hp]
 exact Jhx hk hcs ht hn hoff hj
omit [Inhabited α] in
theorem JoV {E:α→List AV} {k:Nat} (hk:∀x,(E x).length=k) {ops:Array Oper} {o:Oper} {e:Env} {t:TypeId} {p x:Operand} {nm s off j:Nat} {d:Array α} {tl:List AV} {z:α} (hg:o.guard=none) (ho:o.op= .store t p x) (hd:o.dst=none) (hp:e.ev p= .bp (nm,s) off) (hoff:off=j * k)
 (hx:e.ev x= .ag (E z)) (h1:(E z).all Jb3=true) (h2:Jct (.ag (E z))=true) (hcs:Jbm nm e.h.bx=some (s,Jab E d tl)) (ht:(P.underlying t).isSome=true) (hn:P.cellsOf t=k) (hj:j < d.size):
 Eff P ops [] o e fun _ h'=> h'= { e.h with bx:=JeN nm (Jab E (d.setIfInBounds j z) tl) e.h.bx}:=by
 subst hoff
 have hcl:(AV.ag (E z)).cells=E z:=rfl
 have q:=Jdr (P:=P) (ops:=ops) (B:= []) (E:=e) (cs:=Jab E d tl) (i:=(nm,s)) hg ho hd hp hcs (by rw [hx];exact h2) (by rw [hx,hcl];exact h1) ht (by rw [hx,hcl,hk,hn];exact Nat.beq_refl _) (by rw [hx,hcl,hk];exact JlW hk hj) (fun _ _ _ h=> by cases h)
 rw [hx,hcl,JoT hk hj] at q
 exact q
omit [Inhabited α] in
theorem JsP {E:α→List AV} {k:Nat} (hk:∀x,(E x).length=k) {o:Oper} {e:Env} {K:Env→Prop} {Kp:AV→Env→Prop} {t:TypeId} {p x:Operand} {nm s off j:Nat} {d:Array α} {tl:List AV} {z:α} (ho:o.op= .store t p x) (hd:o.dst=none) (hp:e.ev p= .bp (nm,s) off) (hoff:off=j * k)
 (hx:e.ev x= .ag (E z)) (h1:(E z).all Jb3=true) (h2:Jct (.ag (E z))=true) (hcs:Jbm nm e.h.bx=some (s,Jab E d tl)) (ht:(P.underlying t).isSome=true) (hn:P.cellsOf t=k) (hj:j < d.size)
 (hK:K { e with h:= { e.h with bx:=JeN nm (Jab E (d.setIfInBounds j z) tl) e.h.bx}}):AOp P o e K Kp:=by
 subst hoff
 have hcl:(AV.ag (E z)).cells=E z:=rfl
 refine AOp.any (Jia ho hp hcs (by rw [hx];exact h2) (by rw [hx,hcl];exact h1) ht (by rw [hx,hcl,hk,hn];exact Nat.beq_refl _) (by rw [hx,hcl,hk];exact JlW hk hj) ?_)
 rw [hx,hcl,JoT hk hj,hd]
 exact hK
end
theorem Jim {o:Oper} {E:Env} {t e:TypeId} {x lo:Operand} {n l cap:Nat} {i:Id} {k':IntKind} {d:TypeDesc} (ho:o.op= .slice t x (some lo) none none) (hx:E.ev x= .hs i 0 n cap)
 (hlo:E.ev lo= .v (.int k' (l:Int))) (ht:P.underlying t=some (.slice e)) (hd:P.underlying e=some d) (hl:l≤n) (hn:n≤cap) (hc:l < cap):Yields P o E (.hs i (l * P.cellsOf e) (n - l) (cap - l)):=by
 refine ⟨(by rw [ho];intro c hc;cases hc),fun ρ w X g hk hr=> .inl ?_⟩
 have r1:=hr x (by rw [ho];simp [Op.operands])
 have r3:=hr lo (by rw [ho];simp [Op.operands])
 rw [hx] at r1;rw [hlo] at r3
 have e3:=JD r3
 generalize hu:ρ x=u at r1
 cases r1 with
 | hs _ _ _ _ b hgb=>
   have hN:(Instr.sliceBounds true n cap (some (.int k' (l:Int))) none none).run P w= .ok (l,n,cap) w:=by
    have e5:(0:Int)≤(l:Int):=(by omega);have e6:(l:Int)≤(n:Int):=(by omega);simp [Instr.sliceBounds,Instr.sliceBound,asIntOf,hl,hn]
   have hcl:¬cap=l:=by omega
   refine ⟨.slice (some ⟨b,l * P.cellsOf e,none⟩) (n - l) (cap - l),w, ?_,Evo.refl _ _, .hs _ _ _ _ b hgb⟩;unfold execOp;simp only [ho,hu,Option.map_some,e3,Option.map_none];refine Jce ?_;simp [Instr.sliceAt,Sem.run_bind,run_underlying ht,Result.andThen_ok,Instr.slice,hN,Ju hd,Sem.run_pure,J1,hcl]
theorem JsQ {o:Oper} {E:Env} {K:Env→Prop} {Kp:AV→Env→Prop} {s:Operand} {t e:TypeId} {i:Id} {off n cap:Nat} {cs:List AV} {z:Value}
 (ho:o.op= .call { callee:= .builtin .clear,args:= #[s],argTypes:= #[t]}) (hd:o.dst=none) (hs:E.ev s= .hs i off n cap) (hn:n≠0)
 (ht:P.underlying t=some (.slice e)) (hz:(P.info? e).bind (·.zero)=some z) (hsz:z.cells.size=P.cellsOf e) (h1:z.cells.all (·.oneCell')=true)
 (hcs:Jbm i.1 E.h.bx=some (i.2,cs)) (hle:off+n * P.cellsOf e≤cs.length)
 (hk:K { E with h:= { E.h with bx:=JeN i.1 (Jaa cs off (List.replicate (n * P.cellsOf e) .any)) E.h.bx}}):AOp P o E K Kp:=by
 intro ro X M w0 a w g hst next Q hn' hpan
 have hmem:=Jf3 hcs
 obtain ⟨b,hg,vs,e',hb,hvs,hr⟩:=hst.hok.bx _ hmem
 dsimp only at hg hvs hr
 have hsv:a.eval s= .slice (some ⟨b,off,none⟩) n cap:=by
  have:=hst.ev s;rw [hs] at this;generalize a.eval s=u at this;cases this with
  | hs _ _ _ _ b' hg'=> rw [hg] at hg';cases hg';rfl
 have hnl:(Builtin.zeroCells z.cells n).toList.length=n * P.cellsOf e:=by rw [Array.length_toList,size_zeroCells,hsz]
 have hone:∀v∈(Builtin.zeroCells z.cells n).toList,v.oneCell'=true:=by
  intro v hv;rw [Builtin.zeroCells,Array.toList_map,List.mem_map] at hv;obtain ⟨j,hj,rfl⟩:=hv;have hpos:0 < z.cells.size:=by
   rcases Nat.eq_zero_or_pos z.cells.size with h0 | h0
   ·rw [h0] at hj;simp at hj
   ·exact h0
  have hm:=Nat.mod_lt j hpos;have e2:z.cells[j % z.cells.size]! =z.cells[j % z.cells.size]:=by simp [hm]
  rw [e2];exact Array.all_eq_true.1 h1 _ hm
 have hst2:=run_storeCells_at P b off e' (Builtin.zeroCells z.cells n).toList 0 vs w hb (by rw [hnl,Nat.add_zero];simpa [hvs] using hle) hone
 simp only [Nat.add_zero] at hst2
 obtain ⟨m,rfl⟩:∃m,n=m+1:=⟨n - 1,Om⟩
 have hrun:(execOp a.eval o).run P w= .ok (.value (.tuple #[])) (w.setRow b (vs.toList.take off++(Builtin.zeroCells z.cells (m+1)).toList++vs.toList.drop (off+(Builtin.zeroCells z.cells (m+1)).toList.length)).toArray):=by
  have hcl:(Builtin.clear_ #[t] o.type #[.slice (some ⟨b,off,none⟩) (m+1) cap]).run P w= .ok (.tuple #[]) (w.setRow b (vs.toList.take off++(Builtin.zeroCells z.cells (m+1)).toList++vs.toList.drop (off+(Builtin.zeroCells z.cells (m+1)).toList.length)).toArray):=by
   simp only [Builtin.clear_];simp [run_underlying ht,Ja5 hz,hst2]
  unfold execOp;simp only [ho,resolve];simp [invoke,builtin,hsv,hcl]
 have hnew:=hst.setRow (cs:=Jaa cs off (List.replicate ((m+1) * P.cellsOf e) .any)) (vs:=(vs.toList.take off++(Builtin.zeroCells z.cells (m+1)).toList++vs.toList.drop (off+(Builtin.zeroCells z.cells (m+1)).toList.length)).toArray) hcs hg hb
  (by simp only [JaP,List.length_append,List.length_take,List.length_drop,List.length_replicate,hnl];simp only [Array.length_toList];omega)
  (by simp only [List.size_toArray,List.length_append,List.length_take,List.length_drop,hnl];simp only [Array.length_toList];omega)
  (fun k c u hk1 hk2=> by
    simp only [List.append_assoc] at hk2;rw [JcW _ _ _ (by rw [hnl];simpa [hvs] using hle)] at hk2;rw [JaP,JcW _ _ _ (by rw [List.length_replicate];exact hle)] at hk1;rw [hnl] at hk2;rw [List.length_replicate] at hk1;split at hk1
    ·rename_i h2;rw [if_pos h2] at hk2;exact hr k c u hk1 (by simpa using hk2)
    ·rename_i h2
     rw [if_neg h2] at hk2;split at hk1
     ·rw [(List.mem_replicate.1 (List.mem_of_getElem? hk1)).2];exact .any _
     ·rename_i h3;rw [if_neg h3] at hk2;exact hr k c u hk1 (by simpa using hk2))
 refine Jx (by rw [ho];intro c h;cases h) ?_
 rw [hrun]
 refine hn' _ _ _ g ?_ (fun _ _ h=> h) (hnew.put o.dst (.v (.tuple #[])))
 rw [hd]
 exact hk
end Go.Vl

namespace Go.Vl
open Go.RowKit
variable {P:Program}
theorem JaL {E:Env} {n:Nat} {bx:List (Id×Own)} {pm:List (Id×Nat)} {nx nn:Nat} {L:List (Nat×AV)} (bx'' bx':List (Id×Own)) (pm':List (Id×Nat)) (hn:E.n=n) (hx:E.h.nx=nx) (h0:bx''.Perm E.h.bx) (hb:bx'.Sublist bx'') (hp:pm'.Sublist E.h.pm)
 (eb:BxLe bx' bx) (ep:PmEq pm' pm) (hL:LeT E.t L):ELe E (mk n L ⟨bx,pm,nx,nn⟩ E.df):=
 (Jdo (E:=E) (h':=⟨bx'',E.h.pm,E.h.nx,E.h.nn⟩) ⟨h0.map _, .refl _,rfl⟩).trans (Jh (E:= { E with h:=⟨bx'',E.h.pm,E.h.nx,E.h.nn⟩}) bx' pm' hn hx hb hp eb ep hL)
variable {α:Type}
theorem JmL {E:α→List AV} {k:Nat} (hk:∀x,(E x).length=k) {l:List α} {tl:List AV} {x:α} (h:k≤tl.length):Jaa (Jab E l.toArray tl) (l.length * k) (E x)=Jab E (l++ [x]).toArray (tl.drop k):=by
 unfold Jab
 have e1:l.length * k=(l.flatMap E).length:=(Jdu hk l).symm
 show Jaa (l.flatMap E++tl) (l.length * k) (E x)=(l++ [x]).flatMap E++tl.drop k
 rw [e1]
 have:=JfJ (a:=l.flatMap E) (b:=tl) (off:=0) (vs:=E x)
 rw [Nat.add_zero] at this
 rw [this,JaP,Nat.zero_add,hk]
 simp
theorem JmM {E:α→List AV} {k:Nat} (hk:∀x,(E x).length=k) {l:List α} {tl:List AV}:(Jab E l.toArray tl).take (l.length * k)=l.flatMap E:=by
 unfold Jab
 show (l.flatMap E++tl).take (l.length * k)=_
 rw [← Jdu hk l,List.take_left]
theorem JoW {E:α→List AV} {l:List α} {x:α} {tl:List AV}:l.flatMap E++E x++tl=Jab E (l++ [x]).toArray tl:=by
 unfold Jab
 simp [List.flatMap_append]
theorem Jhy [Inhabited α] {bs:List (Nat×Own)} {i:Id} {n cap k:Nat} {E:α→List AV} (hk:∀x,(E x).length=k) {e:α→AV} (he:∀x,(e x).cells=E x) {d:α} {l:List α} {tl:List AV} (hn:l.length=n) (hm:(i.2, .c (Jab E l.toArray tl))∈bs) (hcap:n≤cap):
 Frz bs (.hs i 0 n cap) (JF k e d l):=by
 subst hn
 have hle:l.length * k≤(Jab E l.toArray tl).length:=by rw [Jhv hk];simp
 refine Frz.hs hm hcap (.inr (by rw [Nat.zero_add];exact hle)) (fun j _=> by rw [he,hk]) (fun j hj q c hc=> ⟨c, ?_,Rf⟩) (by rw [Nat.zero_add];exact hle)
 rw [he] at hc
 have hq:q < k:=by have:=(List.getElem?_eq_some_iff.1 hc).1;rwa [hk] at this
 have hg:=JoS (E:=E) (tl:=tl) hk (d:=l.toArray) (i:=j) (by simpa using hj)
 have hx:(l.toArray)[j]! =l.getD j d:=by simp [List.getD,hj]
 rw [hx] at hg
 rw [← hg,List.getElem?_take,if_pos hq,List.getElem?_drop] at hc
 rw [Nat.zero_add]
 exact hc
def JbI (x:Int×Int):Value:= .agg #[.int .i64 x.1, .int .i64 x.2]
def kA (x:Int×Int):AV:= .ag [.v (.int .i64 x.1), .v (.int .i64 x.2)]
def Jar (x:Int×Int):Value×AV:=(JbI x, .v (.bool true))
theorem JuS {w:World} {X:Nat→Nat→Prop} {g:List Nat} {x:Int×Int} {u:Value} (h:Rep w X g (kA x) u):u=JbI x:=by
 cases h with
 | ag _ vs hn h=>
   match vs,hn with
   | [a,b],_=>
     have h0:=JD (h 0 _ a rfl rfl);have h1:=JD (h 1 _ b rfl rfl);subst h0 h1;rfl
theorem JuT {w:World} {X:Nat→Nat→Prop} {g:List Nat} {x:Int×Int}:Rep w X g (kA x) (JbI x):=
 .ag [_,_] [_,_] rfl fun k c u hc hu=> by
  match k,hc,hu with
  | 0,hc,hu=> simp at hc hu;subst hc;subst hu;exact .v _
  | 1,hc,hu=> simp at hc hu;subst hc;subst hu;exact .v _
structure PairT (P:Program) (kt e:TypeId):Prop where
 arr:P.underlying kt=some (.array 2 e)
 el:P.underlying e=some (.int .i64)
 sz:P.cellsOf e=1
 ok:aeqOk P 8 kt=true
 p0:∀a:Int×Int,apart P e [.v (.int .i64 a.1), .v (.int .i64 a.2)] 0=some (.v (.int .i64 a.1))
 p1:∀a:Int×Int,apart P e [.v (.int .i64 a.1), .v (.int .i64 a.2)] 1=some (.v (.int .i64 a.2))
 eq:∀a b:Int×Int,aeq P 8 kt (kA a) (kA b)=some (a.1 ==b.1&& (a.2 ==b.2&& true))
theorem Jw1 (a b:Int×Int):(a.1 ==b.1&& (a.2 ==b.2&& true))=decide (a=b):=by
 rw [Bool.eq_iff_iff]
 simp [Prod.ext_iff]
theorem PairT.equal {kt e:TypeId} (h:PairT P kt e) (a b:Int×Int) (w:World):(Op.equal kt (JbI a) (JbI b)).run P w= .ok (decide (a=b)) w:=by
 rw [← Jw1]
 exact Jgu 8 10000 kt (kA a) (kA b) _ _ _ w (fun _ _=> False) [] Om (h.eq a b) h.ok JuT JuT
theorem PairT.checkI {kt e:TypeId} (h:PairT P kt e) (a:Int) (b:Bool) (n:Nat) (w:World):(Instr.checkKey b (n+1) e (.int .i64 a)).run P w= .ok () w:=by
 unfold Instr.checkKey
 simp only [Sem.run_bind,run_underlying h.el,Result.andThen_ok,Sem.run_pure]
theorem PairT.check {kt e:TypeId} (h:PairT P kt e) (a:Int×Int) (b:Bool) (w:World):(Instr.checkKey b 10000 kt (JbI a)).run P w= .ok () w:=by
 have hsz:=Ju (w:=w) h.el
 rw [h.sz] at hsz
 have hr:∀(k:Nat) (c:AV) (u:Value), [AV.v (.int .i64 a.1), .v (.int .i64 a.2)][k]? =some c→ [Value.int .i64 a.1, .int .i64 a.2][k]? =some u→Rep w (fun _ _=> False) [] c u:=fun k c u hc hu=> by
  match k,hc,hu with
  | 0,hc,hu=> simp at hc hu;subst hc;subst hu;exact .v _
  | 1,hc,hu=> simp at hc hu;subst hc;subst hu;exact .v _
 obtain ⟨u0,q0,r0⟩:=Jcc (vs:= [Value.int .i64 a.1, .int .i64 a.2]) (h.p0 a) rfl hr
 obtain ⟨u1,q1,r1⟩:=Jcc (vs:= [Value.int .i64 a.1, .int .i64 a.2]) (h.p1 a) rfl hr
 have:=JD r0;subst this
 have:=JD r1;subst this
 obtain ⟨n,hn⟩:∃n,10000=n+1+1:=⟨9998,rfl⟩
 rw [hn]
 unfold JbI Instr.checkKey
 simp only [Sem.run_bind,run_underlying h.arr,Result.andThen_ok]
 simp only [Std.Legacy.Range.forIn_eq_forIn_range',Std.Legacy.Range.size,Nat.sub_zero,Nat.add_sub_cancel,Nat.div_one,List.range'_succ,List.range'_zero,List.forIn_cons,List.forIn_nil]
 simp [Sem.run_bind,hsz,q0,q1,h.checkI]
theorem PairT.ask {kt e:TypeId} (h:PairT P kt e) (x:Int×Int) (w:World):∀(es:List (Int×Int)) (ents:List MapEntry) (i:Nat),ents.length=es.length→(∀(k:Nat) (p:Int×Int) (en:MapEntry),es[k]? =some p→ents[k]? =some en→en.key=JbI p)→
 (x∉es∧(Instr.findAsking kt (JbI x) ents i).run P w= .ok none w)∨∃j en,ents[j]? =some en∧es[j]? =some x∧(Instr.findAsking kt (JbI x) ents i).run P w= .ok (some (i+j,en.val)) w
 | [], [],i,_,_=> .inl ⟨by simp,by simp [Instr.findAsking]⟩
 | [],en::ents,i,hn,_=> by simp at hn
 | p::es, [],i,hn,_=> by simp at hn
 | p::es,en::ents,i,hn,hk=> by
   have h0:=hk 0 p en rfl rfl;unfold Instr.findAsking;rw [h0];simp only [Sem.run_bind,h.equal,Result.andThen_ok];by_cases hx:x=p
   ·refine .inr ⟨0,en,rfl,by simp [hx], ?_⟩;simp [hx]
   ·rcases h.ask x w es ents (i+1) (by simpa using hn) (fun k p' e' h1 h2=> hk (k+1) p' e' (by simpa using h1) (by simpa using h2)) with ⟨h1,h2⟩ | ⟨j,e',h1,h2,h3⟩
    ·refine .inl ⟨by simp [hx,h1], ?_⟩;simp [hx,h2]
    ·refine .inr ⟨j+1,e',by simpa using h1,by simpa using h2, ?_⟩;simp [hx,h3];omega
theorem PairT.find {kt e:TypeId} (h:PairT P kt e) (x:Int×Int) (w:World) (es:List (Int×Int)) (ents:List MapEntry) (hn:ents.length=es.length) (hk:∀(k:Nat) (p:Int×Int) (en:MapEntry),es[k]? =some p→ents[k]? =some en→en.key=JbI p):
 (x∉es∧(Instr.findKey kt (JbI x) ents).run P w= .ok none w)∨∃j en,ents[j]? =some en∧es[j]? =some x∧(Instr.findKey kt (JbI x) ents).run P w= .ok (some (j,en.val)) w:=by
 unfold Instr.findKey
 match es,ents,hn,hk with
 | [], [],_,_=> exact .inl ⟨by simp,by simp [Sem.run_bind,run_underlying h.arr,Instr.findNow]⟩
 | p::es,en::ents,hn,hk=>
   have e0:Instr.findNow (.array 2 e) (JbI x) (en::ents) 0=none:=by simp [Instr.findNow,Instr.sameNow]
   rcases h.ask x w (p::es) (en::ents) 0 hn hk with ⟨h1,h2⟩ | ⟨j,e',h1,h2,h3⟩
   ·exact .inl ⟨h1,by simp only [Sem.run_bind,run_underlying h.arr,Result.andThen_ok,e0,h2]⟩
   ·refine .inr ⟨j,e',h1,h2, ?_⟩;simp only [Sem.run_bind,run_underlying h.arr,Result.andThen_ok,e0,h3,Nat.zero_add]
theorem JqS {o:Oper} {t kt e et:TypeId} {m k:Operand} {x:Int×Int} {i:Id} {es:List (Int×Int)} {E:Env} {K:Env→Prop} {Kp:AV→Env→Prop} (ho:o.op= .lookup t m k false) (ht:P.underlying t=some (.map kt et)) (hp:PairT P kt e)
 (hz:(P.info? et).bind (·.zero)=some (.bool false)) (hm:E.ev m= .om i) (hkv:E.ev k=kA x) (hes:J6 i.1 E.h.bx=some (i.2, .mp (es.map Jar))) (hK:K (E.set o.dst (.v (.bool (decide (x∈es)))))):AOp P o E K Kp:=by
 refine AOp.of_yields (r:= .v (.bool (decide (x∈es)))) ⟨(by rw [ho];intro c hc;cases hc),fun ρ w X g hk hr=> .inl ?_⟩ hK
 have r1:=hr m (by rw [ho];simp [Op.operands])
 have r2:=hr k (by rw [ho];simp [Op.operands])
 rw [hm] at r1;rw [hkv] at r2
 have e2:=JuS r2
 obtain ⟨b,hgb,hown⟩:=hk.bx _ (Jat hes)
 dsimp only at hgb hown
 obtain ⟨ents,h1,h2,h3⟩:=hown
 have hmv:ρ m= .map (some b):=by
  generalize ρ m=u at r1;cases r1 with
  | om _ b' hg'=> rw [hgb] at hg';cases hg';rfl
 rw [List.length_map] at h2
 have hkk:∀(k:Nat) (p:Int×Int) (en:MapEntry),es[k]? =some p→ents[k]? =some en→en.key=JbI p:=fun k p en q1 q2=> (h3 k (Jar p) en (by simp [q1]) q2).1
 have hg:=Jcd (P:=P) h1
 refine ⟨.bool (decide (x∈es)),w, ?_,Evo.refl _ _, .v _⟩
 unfold execOp
 simp only [ho,hmv,e2]
 refine Jce ?_
 unfold Instr.lookup
 simp only [Sem.run_bind,run_underlying ht,Result.andThen_ok,hg,Sem.run_pure,hp.check]
 rcases hp.find x w es ents h2 hkk with ⟨hn,hf⟩ | ⟨j,en,q1,q2,hf⟩
 ·have hzz:=Ja5 (w:=w) hz;simp only [hf,Result.andThen_ok,Sem.run_pure];simp [hn,Sem.run_bind,hzz]
 ·have hv:=JD (h3 j (Jar x) en (by simp [q2]) q1).2.2;simp only [hf,Result.andThen_ok,Sem.run_pure];simp [hv,List.mem_of_getElem? q2]
def JcL (x:Int×Int) (es:List (Int×Int)):List (Int×Int):=if x∈es then es else es++ [x]
theorem JlX {t kt e et:TypeId} {x:Int×Int} {es:List (Int×Int)} {w:World} {X:Nat→Nat→Prop} {g:List Nat} {b:Nat} (ht:P.underlying t=some (.map kt et)) (hp:PairT P kt e) (hb:OwnRep w X g b (.mp (es.map Jar))):
 ∃ents':List MapEntry,(Instr.mapUpdate t (.map (some b)) (JbI x) (.bool true)).run P w= .ok () (World.setO w b (.map ents'.toArray ents'.length))∧ents'.length=((JcL x es).map Jar).length∧
  ∀(k:Nat) (p:Value×AV) (en:MapEntry),((JcL x es).map Jar)[k]? =some p→ents'[k]? =some en→en.key=p.1∧en.born=k∧Rep w X g p.2 en.val:=by
 obtain ⟨ents,h1,h2,h3⟩:=hb
 rw [List.length_map] at h2
 have hkk:∀(k:Nat) (p:Int×Int) (en:MapEntry),es[k]? =some p→ents[k]? =some en→en.key=JbI p:=fun k p en q1 q2=> (h3 k (Jar p) en (by simp [q1]) q2).1
 have hg:=Jcd (P:=P) h1
 rcases hp.find x w es ents h2 hkk with ⟨hn,hf⟩ | ⟨j,e0,q1,q2,hf⟩
 ·refine ⟨ents++ [⟨JbI x, .bool true,ents.length⟩], ?_,by unfold JcL;rw [if_neg hn];simp [h2],fun k p en r1 r2=> ?_⟩
  ·unfold Instr.mapUpdate;simp only [Sem.run_bind,run_underlying ht,Result.andThen_ok,hg,hp.check,hf];rw [JbK h1];simp
  ·unfold JcL at r1;rw [if_neg hn,List.map_append] at r1;rcases Nat.lt_or_ge k es.length with hlt | hge
   ·rw [List.getElem?_append_left (by simpa using hlt)] at r1;rw [List.getElem?_append_left Om] at r2;exact h3 k p en r1 r2
   ·rw [List.getElem?_append_right (by simpa using hge)] at r1;rw [List.getElem?_append_right Om] at r2;have:k=es.length:=by
     have:=(List.getElem?_eq_some_iff.1 r1).1;simp at this;omega
    subst this;rw [List.length_map,Nat.sub_self] at r1;rw [h2,Nat.sub_self] at r2;simp at r1 r2;subst r1;subst r2;exact ⟨rfl,rfl, .v _⟩
 ·have hj:j < ents.length:=(List.getElem?_eq_some_iff.1 q1).1;have hje:ents[j]=e0:=(List.getElem?_eq_some_iff.1 q1).2;have h0:=h3 j (Jar x) e0 (by simp [q2]) q1;have hv:=JD h0.2.2;have hkey:e0.key=JbI x:=h0.1;have hmem:x∈es:=List.mem_of_getElem? q2;refine ⟨ents.set j ⟨JbI x, .bool true,e0.born⟩, ?_,by unfold JcL;rw [if_pos hmem];simp [h2],fun k p en r1 r2=> ?_⟩
  ·unfold Instr.mapUpdate;simp only [Sem.run_bind,run_underlying ht,Result.andThen_ok,hg,hp.check,hf];have hks:(Instr.keyThatStays (((ents.toArray[j]?).map (·.key)).getD (JbI x)) (JbI x)).run P w= .ok (JbI x) w:=by
    have hsb:Instr.sameBits 10000 (JbI x) (JbI x)=true:=by
     obtain ⟨n,hn⟩:∃n,10000=n+1:=⟨9999,rfl⟩;rw [hn];simp [JbI,Instr.sameBits]
    simp [q1,hkey,Instr.keyThatStays,hsb]
   simp only [hks,Result.andThen_ok];rw [JbK h1]
   congr 2
   simp only [List.length_set]
   congr 1
   apply Array.ext';simp only [Array.toList_modify,List.modify_eq_set,Option.map_eq_map];rw [List.getElem?_eq_getElem hj];simp [hje]
  ·unfold JcL at r1;rw [if_pos hmem] at r1;rw [List.getElem?_set] at r2;by_cases hjk:j=k
   ·subst hjk;simp [hj] at r2;subst r2;have e1:=h3 j p e0 r1 q1;exact ⟨hkey.symm.trans e1.1,e1.2.1,by
     have:p=Jar x:=(by rw [List.getElem?_map,q2] at r1;exact (Option.some.inj r1).symm);subst this;exact .v _⟩
   ·simp [hjk] at r2;exact h3 k p en r1 r2
theorem JqT {o:Oper} {t kt e et:TypeId} {m k v:Operand} {x:Int×Int} {i:Id} {es:List (Int×Int)} {E:Env} {K:Env→Prop} (ho:o.op= .mapUpdate t m k v∨o.op= .insert t m k v) (ht:P.underlying t=some (.map kt et)) (hp:PairT P kt e)
 (hm:E.ev m= .om i) (hkv:E.ev k=kA x) (hv:E.ev v= .v (.bool true)) (hes:J6 i.1 E.h.bx=some (i.2, .mp (es.map Jar)))
 (hK:K (({ E with h:= { E.h with bx:=JaA i.1 (.mp ((JcL x es).map Jar)) E.h.bx}}:Env).set o.dst .any)):AOp P o E K:=by
 intro ro X M w0 a w g hs next Q hn hp'
 obtain ⟨b,hgb,hown⟩:=hs.hok.bx _ (Jat hes)
 dsimp only at hgb hown
 have hmv:a.eval m= .map (some b):=by
  have:=hs.ev m;rw [hm] at this;generalize a.eval m=u at this;cases this with
  | om _ b' hg'=> rw [hgb] at hg';cases hg';rfl
 have hkv':a.eval k=JbI x:=by
  have:=hs.ev k;rw [hkv] at this;exact JuS this
 have hvv:a.eval v= .bool true:=by
  have:=hs.ev v;rw [hv] at this;exact JD this
 obtain ⟨ents',h1,h2,h3⟩:=JlX (x:=x) ht hp hown
 obtain ⟨ents,hb0,_⟩:=hown
 have hev:=Jdq (o':= .map ents'.toArray ents'.length) hb0 rfl (fun h=> by cases h)
 have hnew:=hs.setOwn (x:= .mp ((JcL x es).map Jar)) hes hgb hev (fun hst=> ⟨ents',JcR hb0,h2,fun k p e q1 q2=> ⟨(h3 k p e q1 q2).1,(h3 k p e q1 q2).2.1,(h3 k p e q1 q2).2.2.stays hst⟩⟩)
 refine Jx (by intro c h;rcases ho with ho | ho <;> (rw [ho] at h;cases h)) ?_
 have:(execOp a.eval o).run P w= .ok .skip (World.setO w b (.map ents'.toArray ents'.length)):=by
  unfold execOp;rcases ho with ho | ho <;> (simp only [ho,hmv,hkv',hvv,Sem.run_bind,h1,Result.andThen_ok,Sem.run_pure])
 rw [this]
 exact hn _ _ _ g hK (fun _ _ h=> h) (hnew.put o.dst (.any _))
theorem Jfi {ops:Array Oper} {B:List (Id×Own)} {o:Oper} {E:Env} {j:Nat} {want c:Bool} {fo:Operand} {args:Array Operand} {tys:Array TypeId} {f:FuncId} {first caps qs:List AV} {s:AV} (hg:o.guard=some (j,want)) (hd:agb (agd ops E j)=some (some c)) (hw:(c ==want)=true)
 (ho:o.op= .call { callee:= .value fo,args:=args,argTypes:=tys}) (hf:E.ev fo= .fn (.func f) first caps)
 (hc:Tells P f qs s) (hl:LeL (first++args.toList.map E.ev++caps) qs) (hid:NoId s):PureAll P ops B o E s:=fun E' _ ht=> by
 unfold GY
 simp only [hg]
 refine ⟨some c,Jik hg ht hd, .inl ⟨by rw [beq_iff_eq.1 hw], ?_⟩⟩
 have hev:=JbH ht
 refine JQ ho (by rw [hev fo (by rw [ho];simp [Op.operands,Call.operands])];exact hf) hc ?_ hid
 rw [Jek fun x hm=> hev x (by rw [ho];simp only [Op.operands,Call.operands];exact Array.mem_append_right _ (Array.mem_toList_iff.1 hm))]
 exact hl
theorem Jem {ops:Array Oper} {B:List (Id×Own)} {o:Oper} {E:Env} {j:Nat} {want c b b':Bool} {C:Option Prop} (hg:o.guard=some (j,want)) (hd:agb (agd ops E j)=some (some c)) (hc:(c ==want)=true)
 (hp:Jbe P o.op { E with h:=⟨B, [],0,0⟩}=some (C, .v (.bool b))) (hC:J9 C) (hb:b=b'):PureAll P ops B o E (.v (.bool b')):=hb ▸ Jag hg hd hc hp hC
theorem Jin {ops:Array Oper} {B:List (Id×Own)} {o:Oper} {E:Env} {b b':Bool} {C:Option Prop} (hg:o.guard=none)
 (hp:Jbe P o.op { E with h:=⟨B, [],0,0⟩}=some (C, .v (.bool b))) (hC:J9 C) (hb:b=b'):PureAll P ops B o E (.v (.bool b')):=hb ▸ JfI hg hp hC
theorem MixL.mono {ops:Array Oper} {B:List (Id×Own)} {eff:Nat→Bool} {K K':Env→Prop}:∀ {L:List Nat} {E:Env},(∀E,K E→K' E)→MixL P ops B eff L E K→MixL P ops B eff L E K'
 | [],E,hk,h=> hk E h
 | i::l,E,hk,h=> by
   obtain ⟨o,h1,h2⟩:=h;refine ⟨o,h1, ?_⟩;cases he:eff i with
   | true=>
     simp only [he] at h2⊢;obtain ⟨R,q1,q2⟩:=h2;exact ⟨R,q1,fun r h' hr=> MixL.mono hk (q2 r h' hr)⟩
   | false=>
     simp only [he] at h2⊢;obtain ⟨r,q1,q2⟩:=h2;exact ⟨r,q1,MixL.mono hk q2⟩
theorem MixL.app {ops:Array Oper} {B:List (Id×Own)} {eff:Nat→Bool} {K:Env→Prop} {L2:List Nat}:∀ {L:List Nat} {E:Env},MixL P ops B eff L E (fun E'=> MixL P ops B eff L2 E' K)→MixL P ops B eff (L++L2) E K
 | [],E,h=> h
 | i::l,E,h=> by
   obtain ⟨o,h1,h2⟩:=h;refine ⟨o,h1, ?_⟩;cases he:eff i with
   | true=>
     simp only [he] at h2⊢;obtain ⟨R,q1,q2⟩:=h2;exact ⟨R,q1,fun r h' hr=> MixL.app (q2 r h' hr)⟩
   | false=>
     simp only [he] at h2⊢;obtain ⟨r,q1,q2⟩:=h2;exact ⟨r,q1,MixL.app q2⟩
theorem JsR {o:Oper} {t:TypeId} {m:Operand} {s:ByteArray} {E:Env} {K:Env→Prop} {Kp:AV→Env→Prop} (ho:o.op= .range t m) (ht:P.underlying t=some .string) (hm:E.ev m= .v (.string s))
 (hk:K (({ E with h:=E.h.addo (.si s 0)}:Env).set o.dst (.bp (E.h.nn,E.h.nx) 0))):AOp P o E K Kp:=by
 intro ro X M w0 a w g hs next Q hn hp
 have hr:=hs.ev m
 rw [hm] at hr
 generalize hmv:a.eval m=u at hr
 cases hr with
 | v _=>
   obtain ⟨h1,h2,_⟩:=hs.obj (x:= .si s 0) (.stringIter s 0) (fun X' g' hst hnew=> hnew);refine Jx (by rw [ho];intro c h;cases h) ?_;have:(execOp a.eval o).run P w= .ok (.value (.pointer (some ⟨w.heap.size,0,none⟩))) (w.alloc (.stringIter s 0)):=by
    unfold execOp;simp only [ho,Instr.range,hmv,Sem.run_bind,JeL ht,Result.andThen_ok];simp [newObj,Sem.run]
   rw [this];exact hn _ _ _ _ hk (fun i b h=> by rw [List.getElem?_append_left (List.getElem?_eq_some_iff.1 h).1];exact h) (h1.put o.dst (.bp _ _ _ h2))
theorem JuU {o:Oper} {it:Operand} {i:Id} {s:ByteArray} {pos:Nat} {E:Env} {K:Env→Prop} {Kp:AV→Env→Prop} (ho:o.op= .next it true) (hit:E.ev it= .bp i 0) (hes:J6 i.1 E.h.bx=some (i.2, .si s pos))
 (hmore:pos < s.size→K (({ E with h:= { E.h with bx:=JaA i.1 (.si s (pos+(Utf8.decode s pos).2)) E.h.bx}}:Env).set o.dst (.tup [.v (.bool true), .v (.int .i64 pos), .v (.int .i32 (Utf8.decode s pos).1)])))
 (hdone:¬pos < s.size→K (E.set o.dst (.tup [.v (.bool false)]))):AOp P o E K Kp:=by
 intro ro X M w0 a w g hs next Q hn hp
 obtain ⟨b,hgb,hown⟩:=hs.hok.bx _ (Jat hes)
 dsimp only at hgb hown
 have hiv:a.eval it= .pointer (some ⟨b,0,none⟩):=by
  have:=hs.ev it;rw [hit] at this;generalize a.eval it=u at this;cases this with
  | bp _ _ b' hg'=> rw [hgb] at hg';cases hg';rfl
 have h1:w.heap[b]? =some (.stringIter s pos):=hown
 refine Jx (by intro c h;rw [ho] at h;cases h) ?_
 by_cases hlt:pos < s.size
 ·have hev:=Jdq (o':= .stringIter s (pos+(Utf8.decode s pos).2)) h1 rfl (fun h=> by cases h);have hnew:=hs.setOwn (x:= .si s (pos+(Utf8.decode s pos).2)) hes hgb hev (fun _=> JcR h1);have:(execOp a.eval o).run P w= .ok (.value (.tuple #[.bool true, .int .i64 pos, .int .i32 (Utf8.decode s pos).1])) (World.setO w b (.stringIter s (pos+(Utf8.decode s pos).2))):=by
   unfold execOp;simp only [ho,hiv,Instr.next,Sem.run_bind,Jcd h1,Result.andThen_ok,if_pos hlt,JbK h1,Sem.run_pure];rfl
  rw [this];refine hn _ _ _ g (hmore hlt) (fun _ _ h=> h) (hnew.put o.dst ?_);refine .tup _ [.bool true, .int .i64 pos, .int .i32 (Utf8.decode s pos).1] rfl fun j c u hc hu=> ?_;rcases j with _ | _ | _ | j
  ·simp at hc hu;subst hc;subst hu;exact .v _
  ·simp at hc hu;subst hc;subst hu;exact .v _
  ·simp at hc hu;subst hc;subst hu;exact .v _
  ·simp at hc
 ·have:(execOp a.eval o).run P w= .ok (.value (.tuple #[.bool false])) w:=by
   unfold execOp;simp only [ho,hiv,Instr.next,Sem.run_bind,Jcd h1,Result.andThen_ok,if_neg hlt,Sem.run_pure]
  rw [this];refine hn _ _ _ g (hdone hlt) (fun _ _ h=> h) (hs.put o.dst ?_);refine .tup [.v (.bool false)] [.bool false] rfl fun k c u hc hu=> ?_;cases k with
  | zero=> simp at hc hu;subst hc;subst hu;exact .v _
  | succ k=> simp at hc
theorem JkJ {o:Oper} {it:Operand} {i:Id} {s:ByteArray} {pos:Nat} {R:List (Id×Own)} {E:Env} {K:Env→Prop} {Kp:AV→Env→Prop} (ho:o.op= .next it true) (hit:E.ev it= .bp i 0) (hR:E.h.bx=(i, .si s pos)::R)
 (hmore:pos < s.size→K (({ E with h:= { E.h with bx:=(i, .si s (pos+(Utf8.decode s pos).2))::R}}:Env).set o.dst (.tup [.v (.bool true), .v (.int .i64 pos), .v (.int .i32 (Utf8.decode s pos).1)])))
 (hdone:¬pos < s.size→K (E.set o.dst (.tup [.v (.bool false)]))):AOp P o E K Kp:=
 JuU (pos:=pos) ho hit (by rw [hR];simp [J6]) (fun h=> by
  have:JaA i.1 (.si s (pos+(Utf8.decode s pos).2)) E.h.bx=(i, .si s (pos+(Utf8.decode s pos).2))::R:=by rw [hR];simp [JaA]
  rw [this];exact hmore h) hdone
theorem JsS {o:Oper} {it:Operand} {i:Id} {s:ByteArray} {pos c wd:Nat} {R:List (Id×Own)} {E:Env} {K:Env→Prop} {Kp:AV→Env→Prop} (ho:o.op= .next it true) (hit:E.ev it= .bp i 0) (hR:E.h.bx=(i, .si s pos)::R) (hlt:pos < s.size) (hd:Utf8.decode s pos=(c,wd))
 (hk:K (({ E with h:= { E.h with bx:=(i, .si s (pos+wd))::R}}:Env).set o.dst (.tup [.v (.bool true), .v (.int .i64 pos), .v (.int .i32 c)]))):AOp P o E K Kp:=
 JkJ ho hit hR (fun _=> by rw [hd];exact hk) (fun h=> absurd hlt h)
theorem JsT {o:Oper} {it:Operand} {i:Id} {s:ByteArray} {pos:Nat} {R:List (Id×Own)} {E:Env} {K:Env→Prop} {Kp:AV→Env→Prop} (ho:o.op= .next it true) (hit:E.ev it= .bp i 0) (hR:E.h.bx=(i, .si s pos)::R) (hlt:¬pos < s.size)
 (hk:K (E.set o.dst (.tup [.v (.bool false)]))):AOp P o E K Kp:=
 JkJ ho hit hR (fun h=> absurd h hlt) (fun _=> hk)
theorem JmN {s:ByteArray} {i:Nat} (h:(s.get! i).toNat < 128):Utf8.decode s i=((s.get! i).toNat,1):=by
 unfold Utf8.decode
 simp only [Nat.add_zero]
 rw [if_pos h]
theorem JoX {f:FuncId} {ars:List AV} {vs xs:List Value} {t:TypeId} (hcb:Jbi P f) (has:∀w X g (us:List Value),us.length=ars.length→(∀(k:Nat) (c:AV) (u:Value),ars[k]? =some c→us[k]? =some u→Rep w X g c u)→us=vs)
 (h:∀w,Kn w none2→Calls P f vs.toArray w fun e w'=> ∃A,e= .returned (.slice (some ⟨A,0,none⟩) xs.length xs.length)∧w.heap.size≤A∧w'.ownsRow w.heap.size t 1 (.slice (some ⟨A,0,none⟩) xs.length xs.length) xs.length xs∧Below w.heap.size w w'):
 Tells P f ars (.sl 1 xs.length fun k=> .v (xs.getD k undef)):=fun nx=> by
 refine ⟨hcb,fun X w g us h1 h2 h3 h4=> ?_⟩
 obtain rfl:=has _ _ _ us h3 h4
 refine (JdE P f).mono (w0:=w) (g:=g) (R:=_) (h w h1.kn.none) fun e w' ⟨A,he,hA,hown,hb⟩=> ?_
 have hev:=Evo.of_below hb
 refine ⟨.ret (.sl 1 xs.length fun k=> .v (xs.getD k undef)),⟨[], [],nx,0⟩,g,⟨_,he, ?_⟩,⟨Rf,rfl,rfl⟩,fun _ _ h=> h,h1.evo0 hev,fun b o hx i hi=> (by cases hi),hev.mono fun b o _ h=> h.elim,fun b o h _=> h⟩
 obtain ⟨hl,hv⟩:=hown
 rcases hv with ⟨hv,_⟩ | ⟨A',cap,cur,hv,_,hblk,hn,_,hsz,htk⟩
 ·cases hv
 ·cases hv;have hnx:∀o,¬excl X g ⟨[], [],nx,0⟩ A o:=fun o hx=> by
   have:=h1.bd _ _ hx;omega
  refine .sl 1 xs.length _ A 0 _ xs Om (Nat.le_refl _) (fun k u hu=> ⟨?_,hnx _⟩) (fun i _=> rfl) (fun i j c u hi hc hu=> ?_)
  ·have hk:=(List.getElem?_eq_some_iff.1 hu).1;rw [Jz hblk,Nat.zero_add];have:(cur.toList.take (xs.length * 1))[k]? =some u:=by rw [htk];exact hu
   rw [List.getElem?_take] at this;split at this
   ·simpa using this
   ·cases this
  ·cases j with
   | zero=>
     simp only [AV.cells,List.getElem?_cons_zero,Option.some.injEq] at hc;subst hc;rw [Nat.mul_one,Nat.add_zero] at hu;have:xs.getD i undef=u:=(by rw [List.getD_eq_getElem?_getD,hu];rfl);rw [this];exact .v _
   | succ j=> simp [AV.cells] at hc
theorem JoY {w w':World} (h:Evo none2 w w'):Below w.heap.size w w':=⟨h.os,h.tape,h.output,h.size,fun b hb=> h.blk b hb fun o q=> q⟩
theorem JnU {g:FuncId} {p:Nat→Bool} (h:∀x:Nat,x≤1114111→Tells P g [.v (.int .i32 x)] (.v (.bool (p x)))) (w:World) (hw:Kn w none2):Go.Proofs.PredGrows P g #[] p w:=fun W x hx hWw=> by
 have hk:HOk W (excl none2 [] ⟨[], [],0,0⟩) [] ⟨[], [],0,0⟩:=⟨by simp,by simp,by simp [Heap.ids],rfl,fun b o hx=> (by rcases hx with hx | ⟨p,hp,_⟩ | ⟨p,hp,_⟩ <;> first | exact hx.elim | cases hp),fun p hp=> ⟨by obtain ⟨⟨e,fz,h1⟩,_⟩:=hw p hp;exact ⟨e,fz,(hWw.block _ (Jl h1)).trans h1⟩,fun o hx=> (by rcases hx with hx | ⟨p,hp,_⟩ | ⟨p,hp,_⟩ <;> first | exact hx.elim | cases hp)⟩⟩
 have hc:=(h x hx 0).2 none2 W [] [.int .i32 x] hk (fun _ _ hx=> hx.elim) rfl (fun k c u hc hu=> by
  cases k with
  | zero=> simp at hc hu;subst hc;subst hu;exact .v _
  | succ k=> simp at hc)
 refine Calls.mono (show Calls P g _ W _ from hc) fun e w' ⟨r,h',g',a1,a2,_,_,_,a3,_⟩=> ?_
 cases r with
 | pan x=> exact a2.elim
 | ret r=>
   obtain ⟨u,rfl,e2⟩:=a1;have:=a2.1 _ _ _ _ e2;cases this;refine ⟨rfl,JoY (a3.mono fun b o _ hx=> ?_)⟩;rcases hx with hx | ⟨p,hp,_⟩ | ⟨p,hp,_⟩
   ·exact hx
   ·cases hp
   ·cases hp
theorem JAw {f:FuncId}:AVle (.fn (.func f) [] []) (.v (.func (.func f) #[] #[])):=fun w X g u hr=> by
 cases hr with
 | fn _ _ _ v1 v2 h1 h2 _ _=>
   have e1:v1= []:=List.eq_nil_of_length_eq_zero h1;have e2:v2= []:=List.eq_nil_of_length_eq_zero h2;subst e1;subst e2;exact .v _
def JlY (P:Program) (it:FuncId) (first caps:List AV) {α:Type} (e:α→List AV) (xs:List α) (own:List (Id×Own)):Prop:=
 ∀(i:Id) (σ:Type) (Cb:σ→List (Id×Own)) (Cp:σ→List (Id×Nat)) (I:List α→σ→Prop),Jj1 P i e xs Cb Cp I (fun _ _ _=> False)→
  ∀s0 nx nn,I [] s0→ECall P it (first++ [.yl i]++caps) ⟨own++Cb s0,Cp s0,nx,nn⟩ (fun _ h'=> ∃s',I xs s'∧h'.bx=Cb s'∧h'.pm=Cp s')
theorem JrJ {gop:Operand} {ps:Array Tmp} {asg body:Code} {E:Env} {Q:AExit→Env→Prop} {it:FuncId} {first caps:List AV} {ds:List DA} {σ α:Type} {e:α→List AV} {xs:List α} {first' caps':List AV} (own:List (Id×Own))
 (Cb:σ→List (Id×Own)) (Cp:σ→List (Id×Nat)) (I:List α→σ→Prop) (s0:σ) (hd:E.df=some ds) (hf:E.ev gop= .fn (.func it) first caps) (hit:JlY P it first' caps' e xs own) (hl1:LeL first first') (hl2:LeL caps caps')
 (hb:E.h.bx=own++Cb s0) (hp:E.h.pm=Cp s0) (h0:I [] s0) (hlen:∀x,(e x).length=ps.size)
 (hc:∀pre x post s nx nn,xs=pre++x::post→I pre s→AW P asg (JcF E.n E.t ⟨((E.h.nn+1,E.h.nx+1), .lp .ready none E.n E.t ps asg body)::((E.h.nn,E.h.nx), .df)::Cb s,Cp s,nx,nn⟩ (ps.toList.zip (e x)).reverse)
   (JoD P (E.h.nn+1,E.h.nx+1) body (Jn9 (fun s=> ((E.h.nn+1,E.h.nx+1), .lp .ready none E.n E.t ps asg body)::((E.h.nn,E.h.nx), .df)::Cb s) Cp I (fun _ _ _=> False) pre x)))
 (hend:∀s' nx nn,I xs s'→Q .normal { E with h:=⟨((E.h.nn+1,E.h.nx+1), .lp .exhausted none E.n E.t ps asg body)::((E.h.nn,E.h.nx), .df)::Cb s',Cp s',nx,nn⟩,df:=some (.col (E.h.nn,E.h.nx)::ds)}):
 AW P (.rangeFunc gop ps asg body) E Q:=by
 refine JjZ hd hf ?_
 have hcons:Jj1 P (E.h.nn+1,E.h.nx+1) e xs (fun s=> ((E.h.nn+1,E.h.nx+1), .lp .ready none E.n E.t ps asg body)::((E.h.nn,E.h.nx), .df)::Cb s) Cp I (fun _ _ _=> False):=by
  intro pre x post s nx nn hx hI;exact JgN (i:=(E.h.nn+1,E.h.nx+1)) (pd:=none) (n:=E.n) (t:=E.t) (ps:=ps) (asg:=asg) (body:=body) (by simp [J6]) (hlen x) (hc pre x post s nx nn hx hI)
 have h1:=hit (E.h.nn+1,E.h.nx+1) σ _ Cp I hcons s0 (E.h.nx+2) (E.h.nn+2) h0
 have hperm:(own++((E.h.nn+1,E.h.nx+1),Own.lp .ready none E.n E.t ps asg body)::((E.h.nn,E.h.nx), .df)::Cb s0).Perm (((E.h.nn+1,E.h.nx+1), .lp .ready none E.n E.t ps asg body)::((E.h.nn,E.h.nx), .df)::(own++Cb s0)):=
  List.perm_middle.trans (List.Perm.cons _ List.perm_middle)
 have e1:(E.h.addo .df).addo (.lp .ready none E.n E.t ps asg body)=⟨((E.h.nn+1,E.h.nx+1), .lp .ready none E.n E.t ps asg body)::((E.h.nn,E.h.nx), .df)::(own++Cb s0),Cp s0,E.h.nx+2,E.h.nn+2⟩:=by
  rw [← hb,← hp];rfl
 rw [e1]
 have hl:Like ⟨own++((E.h.nn+1,E.h.nx+1),Own.lp .ready none E.n E.t ps asg body)::((E.h.nn,E.h.nx), .df)::Cb s0,Cp s0,E.h.nx+2,E.h.nn+2⟩ ⟨((E.h.nn+1,E.h.nx+1), .lp .ready none E.n E.t ps asg body)::((E.h.nn,E.h.nx), .df)::(own++Cb s0),Cp s0,E.h.nx+2,E.h.nn+2⟩:=⟨hperm.symm.map _, .refl _,rfl⟩
 have h2:=ECall.like hl h1
 refine ((ECall.args (LeL.append (LeL.append hl1 (LeL.refl _)) hl2) h2)).mono fun r h' hq=> ?_
 obtain ⟨s',q1,q2,q3⟩:=hq
 obtain ⟨bx,pm,nx,nn⟩:=h'
 dsimp only at q2 q3
 subst q2;subst q3
 unfold Je6
 simp only [J6,Nat.beq_refl,cond_true]
 refine ⟨trivial,(by intro h;cases h), ?_⟩
 simp only [JaA,Nat.beq_refl,cond_true]
 exact hend s' nx nn q1
theorem JoZ {α:Type} (a b c:List α):(a++(b++c)).Perm (b++(a++c)):=by
 rw [← List.append_assoc,← List.append_assoc]
 exact List.perm_append_comm.append_right _
theorem JuV {o:Oper} {E:Env} {K:Env→Prop} {Kp:AV→Env→Prop} {fo:Operand} {args:Array Operand} {tys:Array TypeId} {f:FuncId} {first caps xs:List AV} {h1:Heap} {Q:AV→Heap→Prop} {bx1:List (Id×Own)} {pm1:List (Id×Nat)}
 (rb1 rb2:List (Id×Own)) (rp:List (Id×Nat)) (nn:Nat) (ho:o.op= .call { callee:= .value fo,args:=args,argTypes:=tys}) (hf:E.ev fo= .fn (.func f) first caps) (hbx:E.h.bx=rb1++(bx1++rb2)) (hpm:E.h.pm=rp++pm1)
 (hl:LeL (first++args.toList.map E.ev++caps) xs) (hc:ECall P f xs h1 Q) (hbl:BxLe bx1 h1.bx) (hpe:PmEq pm1 h1.pm) (hn:h1.nx=E.h.nx)
 (hk:∀r h',Q r h'→K (({ E with h:=⟨rb1++(h'.bx++rb2),rp++h'.pm,h'.nx,nn⟩}:Env).set o.dst r)):AOp P o E K Kp:=by
 have h2:ECall P f xs ⟨bx1,pm1,h1.nx,h1.nn⟩ Q:=hc.tell hbl hpe rfl
 have h3:=(ECall.frame (h:=E.h) h2 (rb1++rb2) rp (by rw [hbx];exact JoZ _ _ _) (by rw [hpm];exact List.perm_append_comm) hn).args hl
 refine Jea ho hf h3 fun r h' hq=> ?_
 obtain ⟨h1',q1,rfl⟩:=hq
 exact ⟨r,⟨rb1++(h1'.bx++rb2),rp++h1'.pm,h1'.nx,nn⟩,Rf,⟨(JoZ _ _ _).map _,List.perm_append_comm.map _,rfl⟩,hk r h1' q1⟩
end Go.Vl

namespace Go.Vl
open Go.RowKit
variable {P:Program}
section
variable {F:Fence} {n:Nat} {b:Frame} {a:Act} {k:List Item} {cs:List Frame} {w:World} {Q:Exit→Act→World→Prop}
end
end Go.Vl

/- Regions that draw, with two effects that stand in no order, and more effects behind both. -/
namespace Go.Vl
open Go.RowKit
variable {P:Program}
theorem Jw2 {ops:Array Oper} {m:Nat} {B:List (Id×Own)} {eff:Nat→Bool} {Q:Exit→Act→World→Prop} (hk:OrdOk ops m) (hm:m≤ops.size)
 {ro:Option Nat} {X M:Nat→Nat→Prop} {w0:World} {g0:List Nat} {K:Env→Prop} {a0 c0:Nat} {rest:List Nat} (hea:eff a0=true) (hec:eff c0=true) (hac:a0≠c0) (ham:a0 < m)
 (hself0:∀oi,ops[a0]? =some oi→∀e∈oi.after,Region.binds .any e=true→e.on≠a0)
 (hna:∀i,i∉rest→i≠a0→i < m→∀oi,ops[i]? =some oi→∀e∈oi.after,Region.binds .any e=true→e.on≠a0)
 (hq:∀E a w g,K E→(∀(i b:Nat),g0[i]? =some b→g[i]? =some b)→St ro X M w0 E a w g→wpOpsIn (Fr ro) 0 P ops Q (List.range' m (ops.size - m)) a w):
 ∀(n:Nat) (pre:List Nat) (listed:Array Bool) (E:Env) (a:Act) (w:World) (g:List Nat),pre.length+rest.length+2=n→(pre++c0::rest).Pairwise (Jgw ops eff)→(pre++a0::rest).Pairwise (Jgw ops eff)→(∀i∈pre++c0::rest,i < m)→(a0∉pre++c0::rest)→
  (∀i∈pre++c0::rest,∀oi,ops[i]? =some oi→∀e∈oi.after,Region.binds .any e=true→e.on≠i)→listed.size=ops.size→DC ops listed→
 (∀i,i < ops.size→(listed.getD i true=false↔(i=a0∨i∈pre++c0::rest)∨m≤i))→(∀i∈pre,eff i=false)→
 MixL P ops B eff pre E (fun E'=> MixL P ops B eff (a0::c0::rest) E' K∧MixL P ops B eff (c0::a0::rest) E' K)→HB B E.h.bx→(∀(i b:Nat),g0[i]? =some b→g[i]? =some b)→St ro X M w0 E a w g→wpAnyIn (Fr ro) 0 P .any ops Q (n+(ops.size - m)) listed a w:=by
 intro n
 induction n with
 | zero=> intro pre _ _ _ _ _ hl;omega
 | succ n ih=>
   intro pre listed E a w g hl hpw hpc hlt hnm hself hsz hd hun hpe hrun hB hg hs;rw [Nat.add_right_comm];obtain ⟨k,L',hkL,hrL⟩:∃k L',pre++c0::rest=k::L'∧∀i∈rest,i∈L':=by
    cases pre with
    | nil=> exact ⟨_,_,rfl,fun i hi=> hi⟩
    | cons k l=> exact ⟨_,_,rfl,fun i hi=> List.mem_append_right _ (List.mem_cons_of_mem _ hi)⟩
   have hkmem:k∈pre++c0::rest:=by rw [hkL];simp
   have hkm:k < m:=hlt k hkmem;have hka:k≠a0:=fun e=> hnm (e ▸ hkmem);have hklt:k < ops.size:=by omega
   have hko:ops[k]? =some ops[k]:=Array.getElem?_eq_getElem hklt;have hpk:=hpw;rw [hkL] at hpk;have hkn:k∉rest:=fun h=> ((List.pairwise_cons.1 hpk).1 k (hrL k h)).1 rfl;have hkr:k∈Region.ready .any ops listed:=by
    refine Jaw.2 ⟨(hun k hklt).2 (.inl (.inr hkmem)),_,hko,fun e he hb=> ?_⟩;have hb':=hk.back k _ hko e he hb;rw [Jaz Om];cases hl:listed.getD e.on true with
    | true=> simpa using hl
    | false=>
      rcases (hun e.on Om).1 hl with (h' | h') | h'
      ·exact absurd h' (hna k hkn hka hkm _ hko e he hb)
      ·rw [hkL] at h';rcases List.mem_cons.1 h' with h' | h'
       ·exact absurd h' (hself k hkmem _ hko e he hb)
       · exact absurd rfl (((List.pairwise_cons.1 hpk).1 _ h').2 _ _ hko (Array.getElem?_eq_getElem Om) |>.1 e he hb)
      ·omega
   refine ⟨fun h0=> (by rw [h0] at hkr;cases hkr),fun j hj=> ?_⟩;obtain ⟨h1,oj,hoj,h2⟩:=Jaw.1 hj;have hjlt:=(Array.getElem?_eq_some_iff.1 hoj).1;have hjL:j=a0∨j∈pre++c0::rest:=by
    rcases (hun j hjlt).1 h1 with h' | h'
    ·exact h'
    ·have hb:=hk.tail k j oj hoj h' Om;have:=Jbd hd hsz hoj h2 hb;have h3:=(hun k Om).2 (.inl (.inr hkmem));rw [Jaz Om] at this;simp [h3] at this
   have hnb:∀i,(i=a0∨i∈pre++c0::rest)→((Region.before ops).getD j 0).testBit i=true→False:=fun i hi hb=> by
    have hilt:i < ops.size:=by
     rcases hi with rfl | hi
     ·omega
     ·have:=hlt i hi;omega
    have:=Jbd hd hsz hoj h2 hb;have h3:=(hun i hilt).2 (.inl hi);rw [Jaz Om] at this;simp [h3] at this
   have JeN:∀(L2:List Nat),(∀i,i < ops.size→i≠j→(((i=a0∨i∈pre++c0::rest)∨m≤i)↔(i∈L2∨m≤i)))→j∉L2→j < m→∀i,i < ops.size→((listed.setIfInBounds j true).getD i true=false↔i∈L2∨m≤i):=fun L2 hL hj2 hjm i hi=> by
    rw [JdB Om];by_cases hij:i=j
    ·subst hij;simp only [if_true]
     constructor
     ·intro h;cases h
     ·intro h;exfalso
      rcases h with h | h
      ·exact hj2 h
      ·omega
    ·rw [if_neg hij,hun i hi];exact hL i hi hij
   have heffect:∀(L2:List Nat),L2.length=n→L2.Pairwise (Jgw ops eff)→(∀i∈L2,i < m)→(∀i∈L2,∀oi,ops[i]? =some oi→∀e∈oi.after,Region.binds .any e=true→e.on≠i)→(∀i,i < ops.size→i≠j→(((i=a0∨i∈pre++c0::rest)∨m≤i)↔(i∈L2∨m≤i)))→j∉L2→j < m→eff j=true→MixL P ops B eff (j::L2) E K→wpOpIn (Fr ro) 0 P ops Q j (wpAnyIn (Fr ro) 0 P Region.Mode.any ops Q (n+(ops.size - m)) (listed.setIfInBounds j true)) a w:=fun L2 e1 e2 e3 e4 e5 e6 e7 e8 e9=> by
    obtain ⟨o,ho,hrun'⟩:=e9;rw [hoj] at ho;cases ho;simp only [e8] at hrun';obtain ⟨R,⟨q0,q1⟩,q2⟩:=hrun';unfold wpOpIn;simp only [hoj,Region.wanted,q0,if_true];exact q1 E rfl (fun _ _=> rfl) ro X M w0 a w g hs _ _ (fun E' a' w' g' hE hgg hs'=> by
     obtain ⟨r,h',p1,p2,rfl⟩:=hE;exact JrG hk hm hq n L2 _ _ a' w' g' e1 e2 e3 e4 (by simp [hsz]) (hd.set hsz hk hj) (JeN L2 e5 e6 e7) (q2 r h' p1) (by rw [Env.set_h];exact p2) (fun i b hi=> hgg i b (hg i b hi)) hs') (fun x E' a' w' g' v hk'=> hk'.elim)
   rcases hjL with rfl | hjL
   ·have h5:=List.pairwise_append.1 hpc;obtain h6:=MixL.front hoj pre (c0::rest) E (fun i hi=> by
     obtain ⟨_,hp⟩:=h5.2.2 i hi j Si;have hilt:i < ops.size:=(by have:=hlt i (by simp [hi]);omega);rcases (hp _ _ (Array.getElem?_eq_getElem hilt) hoj).2 with hb | ⟨hb,hb'⟩
     ·exact (hnb i (.inr (by simp [hi])) hb).elim
     ·exact ⟨hb,fun oi hoi=> by rw [Array.getElem?_eq_getElem hilt] at hoi;cases hoi;exact hb'⟩) (MixL.app (MixL.mono (fun _ h=> h.1) hrun))
    exact heffect (pre++c0::rest) (by simp;omega) hpw hlt hself (fun i _ hij=> by simp [hij]) hnm ham hea h6
   ·have hjm:=hlt j hjL;have hja:j≠a0:=fun e=> hnm (e ▸ hjL);rcases List.mem_append.1 hjL with hjp | hjp
    ·obtain ⟨l1,l2,rfl⟩:=List.append_of_mem hjp;have hej:=hpe j hjp;have hpw':(l1++j::(l2++c0::rest)).Pairwise (Jgw ops eff):=(by simpa using hpw);have hl1:∀i∈l1,Jgw ops eff i j:=fun i hi=> (List.pairwise_append.1 hpw').2.2 i hi j Si;obtain ⟨o,ho,hrun'⟩:=MixL.front hoj l1 l2 E (fun i hi=> by
      have hilt:i < ops.size:=(by have:=hlt i (by simp [hi]);omega);rcases ((hl1 i hi).2 _ _ (Array.getElem?_eq_getElem hilt) hoj).2 with hb | ⟨hb,hb'⟩
      ·exact (hnb i (.inr (by simp [hi])) hb).elim
      ·exact ⟨hb,fun oi hoi=> by rw [Array.getElem?_eq_getElem hilt] at hoi;cases hoi;exact hb'⟩) hrun
     rw [hoj] at ho;cases ho;simp only [hej] at hrun';obtain ⟨r,q1,q2⟩:=hrun';have hsub:(l1++l2++c0::rest).Sublist (l1++j::l2++c0::rest):=(by simp [List.Sublist.append_left]);have hsub2:(l1++l2++a0::rest).Sublist (l1++j::l2++a0::rest):=(by simp [List.Sublist.append_left]);have hnj:j∉l1++l2++c0::rest:=fun h=> by
      have h5:=List.pairwise_append.1 hpw';rw [List.append_assoc] at h;rcases List.mem_append.1 h with h | h
      ·exact (h5.2.2 j h j Si).1 rfl
      ·exact ((List.pairwise_cons.1 h5.2.1).1 j h).1 rfl
     refine (q1 E hB fun _ _=> rfl).does hoj hs fun a' w' hs'=> ih (l1++l2) _ _ a' w' g (by simp at hl⊢;omega) (hpw.sublist hsub) (hpc.sublist hsub2) (fun i hi=> hlt i (hsub.subset hi)) (fun h=> hnm (hsub.subset h)) (fun i hi=> hself i (hsub.subset hi)) (by simp [hsz]) (hd.set hsz hk hj) (fun i hi=> ?_) (fun i hi=> hpe i (by rcases List.mem_append.1 hi with h | h <;> simp [h])) q2 (by rw [Env.set_h];exact hB) hg hs';have e:=JeN (a0::(l1++l2++c0::rest)) (fun i _ hij=> by simp [hij]) (by simp only [List.mem_cons,not_or];exact ⟨hja,hnj⟩) hjm i hi;rw [e,List.mem_cons]
    ·rcases List.mem_cons.1 hjp with rfl | hjr
     ·have h6:=MixL.front hoj pre (a0::rest) E (fun i hi=> by
       have hilt:i < ops.size:=(by have:=hlt i (by simp [hi]);omega);rcases (((List.pairwise_append.1 hpw).2.2 i hi j Si).2 _ _ (Array.getElem?_eq_getElem hilt) hoj).2 with hb | ⟨hb,hb'⟩
       ·exact (hnb i (.inr (by simp [hi])) hb).elim
       ·exact ⟨hb,fun oi hoi=> by rw [Array.getElem?_eq_getElem hilt] at hoi;cases hoi;exact hb'⟩) (MixL.app (MixL.mono (fun _ h=> h.2) hrun))
      have h5:=List.pairwise_append.1 hpw;refine heffect (pre++a0::rest) (by simp;omega) hpc (fun i hi=> ?_) (fun i hi=> ?_) (fun i _ hij=> by simp [hij,or_assoc,or_comm,or_left_comm]) (fun h=> ?_) hjm hec h6
      ·simp only [List.mem_append,List.mem_cons] at hi;rcases hi with hi | rfl | hi
       ·exact hlt i (by simp [hi])
       ·exact ham
       ·exact hlt i (by simp [hi])
      ·simp only [List.mem_append,List.mem_cons] at hi;rcases hi with hi | rfl | hi
       ·exact hself i (by simp [hi])
       ·exact hself0
       ·exact hself i (by simp [hi])
      ·simp only [List.mem_append,List.mem_cons] at h;rcases h with h | h | h
       ·exact (h5.2.2 j h j Si).1 rfl
       ·exact hja h
       ·exact ((List.pairwise_cons.1 h5.2.1).1 j h).1 rfl
     ·exfalso
      have hp:=((List.pairwise_cons.1 (List.pairwise_append.1 hpw).2.1).1 j hjr).2 _ _ (Array.getElem?_eq_getElem (by have:=hlt c0 Si;omega)) hoj;rcases hp.2 with hb | ⟨hb,_⟩
      ·exact hnb c0 (.inr Si) hb
      ·rw [hec] at hb;cases hb
def Jyv (ops:Array Oper) (m:Nat) (eff:Nat→Bool) (pre:List Nat) (a0 c0:Nat) (rest:List Nat):Bool:=
 let bf:=Region.before ops
 Nat.ble m ops.size&& (Jb1 ops m&& ((pre++c0::rest).all (fun i=> Nat.blt i m&& !Nat.beq i a0)&& ((List.range m).all (fun i=> Nat.beq i a0|| (pre++c0::rest).contains i)&& (ordM.go ops eff bf (pre++c0::rest)&& (ordM.go ops eff bf (pre++a0::rest)&&
  (eff a0&& (eff c0&& (Nat.blt a0 m&& (pre.all (fun i=> !eff i)&& ((List.range m).all (fun i=> Nat.beq i a0|| (rest.contains i|| match ops[i]? with | some oi=> oi.after.toList.all fun e=> !Region.binds .any e|| !Nat.beq e.on a0 | none=> false))&& Nat.beq (pre.length+rest.length+2) m))))))))))
theorem JyK {id:Nat} {ops:Array Oper} {E:Env} {Q:AExit→Env→Prop} (m:Nat) (B:List (Id×Own)) (eff tl:Nat→Bool) (pre:List Nat) (a0 c0:Nat) (rest:List Nat) (hf:P.follows .mixedOrders=true) (hb:Jyv ops m eff pre a0 c0 rest=true) (hB:HB B E.h.bx)
 (h:aN P ops B eff tl pre E fun E'=> aN P ops B eff tl (a0::c0::rest) E' (fun E'=> aK P ops (ops.toList.drop m) E' (Q .normal) (fun x E=> Q (.panic x) E))∧aN P ops B eff tl (c0::a0::rest) E' (fun E'=> aK P ops (ops.toList.drop m) E' (Q .normal) (fun x E=> Q (.panic x) E))):AW P (.region id ops true) E Q:=by
 simp only [Jyv,Bool.and_eq_true,List.all_eq_true] at hb
 obtain ⟨h0,h00,h1,h2,h3,h3c,hea,hec,ha,hp,hn,hl⟩:=hb
 have hm:=Jdl h0
 obtain ⟨h4,h5⟩:=Ji4 h3
 obtain ⟨h4c,h5c⟩:=Ji4 h3c
 have hlt:∀i∈pre++c0::rest,i < m:=fun i hi=> JbF (h1 i hi).1
 have hnm:a0∉pre++c0::rest:=fun hi=> Jfh (h1 a0 hi).2 rfl
 have hall:∀i,i < m→i=a0∨i∈pre++c0::rest:=fun i hi=> by
  have:=h2 i (List.mem_range.2 hi);simpa using this
 have ham:a0 < m:=JbF ha
 have hac:a0≠c0:=fun e=> hnm (by simp [e])
 have hself0:=h5c a0 Si
 have hpe:∀i∈pre,eff i=false:=fun i hi=> by simpa using hp i hi
 have hlen:pre.length+rest.length+2=m:=by simpa using hl
 have hna:∀i,i∉rest→i≠a0→i < m→∀oi,ops[i]? =some oi→∀e∈oi.after,Region.binds .any e=true→e.on≠a0:=fun i hnr hne hi oi ho e he hb=> by
  have:=hn i (List.mem_range.2 hi);rw [ho] at this;simp only [Bool.or_eq_true,List.all_eq_true] at this;rcases this with h | h | h
  ·exact absurd (by simpa using h) hne
  ·exact absurd (by simpa using h) hnr
  ·have:=h e (Array.mem_toList_iff.2 he);simp only [hb,Bool.not_true,Bool.false_or] at this;exact Jfh (by simpa using this)
 unfold AW
 intro ro X M w0 a w g g0 hg hs
 refine wpIn_region_any hf ?_
 have hs':St ro X M w0 E a { w with drawn:=w.drawn+1} g:=hs.drew
 have key:=Jw2 (eff:=eff) (a0:=a0) (c0:=c0) (rest:=rest) (g0:=g0) (K:=fun E'=> aK P ops (ops.toList.drop m) E' (Q .normal) (fun x E=> Q (.panic x) E)) (Q:=Jd9 ro X M w0 g0 Q) (P:=P) (X:=X) (M:=M) (w0:=w0) (ro:=ro) (B:=B) (Jn4 h00) hm hea hec hac ham hself0 hna (fun E' a' w' g' hk hg' hs''=> by
  have:=JcY (P:=P) (ops:=ops) (K:=Q .normal) (X:=X) (M:=M) (w0:=w0) (g0:=g0) (Kp:=fun x E=> Q (.panic x) E) (ro:=ro) (Q:=Jd9 ro X M w0 g0 Q) (fun E a w g hk hg hs=> ⟨.normal,E,g,hk,rfl,hg,hs⟩) (fun x E a w g v hk hg hs hr=> ⟨.panic x,E,g,hk,⟨v,rfl,hr⟩,hg,hs⟩) (ops.toList.drop m) m E' a' w' g' (fun j=> .inl Si) hg' hs'' hk;simpa using this) m pre (Array.replicate ops.size false) E a _ g hlen h4 h4c hlt hnm h5 Si (fun k o ho hl=> by
  have hk:=(Array.getElem?_eq_some_iff.1 ho).1;simp [Array.getD_eq_getD_getElem?,hk] at hl) (fun i hi=> by
  have:(Array.replicate ops.size false).getD i true=false:=by simp [Array.getD_eq_getD_getElem?,hi]
  simp only [this,true_iff];rcases Nat.lt_or_ge i m with h | h
  ·exact .inl (hall i h)
  ·exact .inr h) hpe (MixL.mono (fun _ q=> ⟨JdY q.1,JdY q.2⟩) (JdY h)) hB hg hs'
 have e:m+(ops.size - m)=ops.size:=by omega
 rw [e] at key
 exact key
theorem Jw3 {w:World} {X:Nat→Nat→Prop} {g:List Nat} {i:Id} {n cap b:Nat} {vs us:List Value} (hg:g[i.2]? =some b) (h3:us.length=(AV.hs i 0 n cap::vs.map AV.v).length)
 (h4:∀(k:Nat) (c:AV) (u:Value),(AV.hs i 0 n cap::vs.map AV.v)[k]? =some c→us[k]? =some u→Rep w X g c u):us= .slice (some ⟨b,0,none⟩) n cap::vs:=by
 match us,h3,h4 with
 | a::us,h3,h4=>
 have ha:=h4 0 _ a rfl rfl
 obtain rfl:us=vs:=Ji5 (by simpa using h3) fun k c v hc hv=> h4 (k+1) c v (by simpa using hc) (by simpa using hv)
 cases ha with
 | hs _ _ _ _ b2 hg2=>
   rw [hg] at hg2;cases hg2;rfl
theorem JmO {α:Type} [Inhabited α] {f:FuncId} {enc:α→Value} {d d':Array α} {tl:List AV} {vs:List Value} {R:AV} {res:Nat→Value} {nm s cap nx nn:Nat} (hcb:Jbi P f) (hd:d'.size=d.size)
 (hR:∀(w:World) (X:Nat→Nat→Prop) (g:List Nat) (b:Nat),g[s]? =some b→Rep w X g R (res b))
 (h:∀(w:World) (blk:Nat),Kn w none2→Sort.Holds enc w blk 0 d→blk < w.heap.size→Calls P f (.slice (some ⟨blk,0,none⟩) d.size cap::vs).toArray w fun e w'=> e= .returned (res blk)∧∃n os,w'=Sort.grow (Sort.putRow enc (Sort.ahead w n) blk 0 d') os):
 ECall P f (.hs (nm,s) 0 d.size cap::vs.map .v) ⟨[((nm,s), .c (d.toList.map (fun x=> .v (enc x))++tl))], [],nx,nn⟩
  fun r h'=> r=R∧h'=⟨[((nm,s), .c (d'.toList.map (fun x=> .v (enc x))++tl))], [],nx,nn⟩:=by
 refine ⟨hcb,fun X w g us h1 h2 h3 h4=> ?_⟩
 obtain ⟨b,hgb,vs0,ety,hblk,hsz,hrep⟩:=h1.bx _ (.head _)
 dsimp only at hgb
 obtain rfl:=Jw3 hgb h3 h4
 have hbl:=Jl hblk
 have hlen:d.size≤vs0.size:=by rw [hsz];simp
 have hH:Sort.Holds enc w b 0 d:=fun j hj=> by
  refine ⟨?_,by rw [Jer hblk];simp⟩;have hj2:j < vs0.size:=by omega
  have:=hrep j (.v (enc d[j]!)) vs0[j] (by rw [List.getElem?_append_left (by simpa using hj)];simp [hj]) (Array.getElem?_eq_getElem hj2);generalize hv:vs0[j]=v at this;cases this;rw [Jz hblk,Nat.zero_add,Array.getElem?_eq_getElem hj2,hv]
 refine (JdE P f).mono (w0:=w) (g:=g) (R:=_) (h w b h1.kn.none hH hbl) fun e w' ⟨he,n,os,hw⟩=> ?_
 have hb':w'.heap[b]? =some (.cells (Sort.putCells enc 0 d' vs0) ety (0,0)):=by
  subst hw;rw [Sort.heap_grow_old _ _ (by simpa [Sort.putRow,Sort.mapBlock,Sort.ahead] using hbl)];show (w.heap.modify b _)[b]? =_;rw [Array.getElem?_modify,if_pos rfl,hblk];rfl
 have hoth:∀k,k < w.heap.size→k≠b→w'.heap[k]? =w.heap[k]? :=fun k hk hne=> by
  subst hw;rw [Sort.heap_grow_old _ _ (by simpa [Sort.putRow,Sort.mapBlock,Sort.ahead] using hk)];show (w.heap.modify b _)[k]? =_;rw [Array.getElem?_modify,if_neg (Ne.symm hne)]
 have hsize:w.heap.size≤w'.heap.size:=by
  subst hw;simp [Sort.grow,Sort.putRow,Sort.mapBlock,Sort.ahead]
 have hM:∀b0 o,¬excl none2 g ⟨[((nm,s), .c (d.toList.map (fun x=> .v (enc x))++tl))], [],nx,nn⟩ b0 o→b0≠b:=fun b0 o hn hb0=> hn (.inr (.inl ⟨_, .head _,by rw [hb0];exact hgb⟩))
 have hev:Evo (excl none2 g ⟨[((nm,s), .c (d.toList.map (fun x=> .v (enc x))++tl))], [],nx,nn⟩) w w':=by
  refine ⟨by subst hw;rfl,by subst hw;rfl,by subst hw;rfl,hsize,fun b0 hb0 hn=> hoth b0 hb0 (hM b0 0 (hn 0)),fun b0 o hb0 hn=> World.cell?_of_block (a:=⟨b0,o,none⟩) (hoth b0 hb0 (hM b0 o hn)),fun b0 us0 e0 fz h0=> ?_,fun b0 l h0=> ?_⟩
  ·by_cases hb0:b0=b
   ·subst hb0;rw [hblk] at h0;cases h0;exact ⟨_,hb',by simp [Sort.putCells]⟩
   ·exact ⟨us0,(hoth b0 (Jl h0) hb0).trans h0,rfl⟩
  ·by_cases hb0:b0=b
   ·subst hb0;rw [hblk] at h0;cases h0
   ·exact ⟨l,(hoth b0 (Jl h0) hb0).trans h0⟩
 have hstay:=hev.stays (X:=excl X g ⟨[((nm,s), .c (d.toList.map (fun x=> .v (enc x))++tl))], [],nx,nn⟩) (X':=excl X g ⟨[((nm,s), .c (d.toList.map (fun x=> .v (enc x))++tl))], [],nx,nn⟩) (g:=g) (g':=g)
  (fun b0 o _ hm=> hm.elim (fun h=> h.elim) .inr) (fun _ _ _ h=> h) (fun _ _ h=> h)
 refine ⟨.ret R,_,g,⟨_,he,hR _ _ _ _ hgb⟩,⟨rfl,rfl⟩,fun _ _ h=> h, ?_,fun b0 o hx i hi=> h2 b0 o hx i hi,hev,fun b0 o h _=> by simpa [excl] using h⟩
 have hX:excl X g ⟨[((nm,s), .c (d'.toList.map (fun x=> .v (enc x))++tl))], [],nx,nn⟩=excl X g ⟨[((nm,s), .c (d.toList.map (fun x=> .v (enc x))++tl))], [],nx,nn⟩:=by
  funext b0 o;exact propext (by simp [excl])
 rw [hX]
 refine ⟨fun p hp=> ?_,fun p hp=> (by cases hp),h1.nodup,h1.nx,fun b0 o hx=> ?_, ?_⟩
 ·obtain rfl:=List.mem_singleton.1 hp;refine ⟨b,hgb,Sort.putCells enc 0 d' vs0,ety,hb',by simp [Sort.putCells,hsz,hd],fun k c u hk hku=> ?_⟩;have hkv:k < vs0.size:=by have:=(Array.getElem?_eq_some_iff.1 hku).1;simpa [Sort.putCells] using this
  have hval:(Sort.putCells enc 0 d' vs0)[k]? =some (if 0≤k∧k < 0+d'.size then enc d'[k - 0]! else vs0[k]):=by simp [Sort.putCells,hkv]
  rw [hval] at hku;by_cases hkd:k < d'.size
  ·rw [if_pos ⟨Nat.zero_le _,Om⟩] at hku;rw [List.getElem?_append_left (by simpa using hkd)] at hk;simp [hkd] at hk hku;subst hk;subst hku;exact .v _
  ·rw [if_neg Om] at hku;rw [List.getElem?_append_right (by simpa using Nat.le_of_not_lt hkd)] at hk;refine (hrep k c u ?_ (by rw [Array.getElem?_eq_getElem hkv];exact hku)).stays hstay;rw [List.getElem?_append_right (by simp;omega)];simpa [hd] using hk
 ·exact Nat.lt_of_lt_of_le (h1.bd b0 o hx) hsize
 ·exact h1.kn.stays hstay
theorem JkK {w:World} {t e:TypeId} {n:Nat} {d:TypeDesc} (ht:P.underlying t=some (.array n e)) (hd:P.underlying e=some d) (h1:P.cellsOf e=1) (b off h:Nat) (hh:h≤n) (hn:0 < n) (k':IntKind):
 (Instr.sliceAt t (.pointer (some ⟨b,off,none⟩)) none (some (.int k' h)) none).run P w= .ok (.slice (some ⟨b,off,none⟩) h n) w:=by
 have e1:¬n=0:=by omega
 simp [Instr.sliceAt,run_underlying ht,Instr.sureAddr,Instr.sliceBounds,Instr.sliceBound,asIntOf,hh,e1,Ju hd,h1,J1]
theorem JmP {o:Oper} {E:Env} {K:Env→Prop} {Kp:AV→Env→Prop} {t e:TypeId} {x hi:Operand} {n h:Nat} {k':IntKind} {d:TypeDesc} {i:Id} {off:Nat} (ho:o.op= .slice t x none (some hi) none) (hx:E.ev x= .bp i off)
 (hhi:E.ev hi= .v (.int k' h)) (ht:P.underlying t=some (.array n e)) (hd:P.underlying e=some d) (h1:P.cellsOf e=1) (hh:h≤n) (hn:0 < n) (hk:K (E.set o.dst (.hs i off h n))):AOp P o E K Kp:=by
 refine AOp.of_yields ⟨(by rw [ho];intro c hc;cases hc),fun ρ w X g _ hr=> .inl ?_⟩ hk
 have r1:=hr x (by rw [ho];simp [Op.operands])
 have r3:=hr hi (by rw [ho];simp [Op.operands])
 rw [hx] at r1;rw [hhi] at r3
 have e3:=JD r3
 generalize hu:ρ x=u at r1
 cases r1 with
 | bp _ _ b hg=>
   refine ⟨.slice (some ⟨b,off,none⟩) h n,w, ?_,Evo.refl _ _, .hs _ _ _ _ b hg⟩;unfold execOp;simp only [ho,hu,Option.map_some,Option.map_none,e3];exact Jce (JkK ht hd h1 b off h hh hn k')
theorem JuW {o:Oper} {E:Env} {K:Env→Prop} {Kp:AV→Env→Prop} {s d e:TypeId} {x:Operand} {i:Id} {off cap:Nat} {cs:List AV} {l:List UInt8} (ho:o.op= .convert s d x) (hx:E.ev x= .hs i off l.length cap)
 (hcs:Jbm i.1 E.h.bx=some (i.2,cs)) (hl:∀j (hj:j < l.length),cs[off+j]? =some (.v (.int .u8 (l[j].toNat:Int)))) (hs:P.underlying s=some (.slice e)) (he:P.underlying e=some (.int .u8)) (hd:P.underlying d=some .string)
 (hk:K (E.set o.dst (.v (.string ⟨l.toArray⟩)))):AOp P o E K Kp:=by
 refine AOp.of_yields ⟨(by rw [ho];intro c hc;cases hc),fun ρ w X g hok hr=> .inl ?_⟩ hk
 have r1:=hr x (by rw [ho];simp [Op.operands])
 rw [hx] at r1
 obtain ⟨b,hg,vs,e',hb,hvs,hrp⟩:=hok.bx _ (Jf3 hcs)
 dsimp only at hg hvs hrp
 generalize hu:ρ x=u at r1
 cases r1 with
 | hs _ _ _ _ b' hg'=>
   rw [hg] at hg';cases hg';refine ⟨.string ⟨l.toArray⟩,w, ?_,Evo.refl _ _, .v _⟩;unfold execOp;simp only [ho,hu];refine Jce (run_convert_bytes_back w s d e ⟨b,off,none⟩ cap l hs he hd fun j hj=> ?_);have hc:=hl j hj;have hlt:off+j < vs.size:=by rw [hvs];exact (List.getElem?_eq_some_iff.1 hc).1
   have:=hrp (off+j) _ vs[off+j] hc (Array.getElem?_eq_getElem hlt);generalize hv:vs[off+j]=v at this;cases this;rw [show (⟨b,off,none⟩:Addr).add j=⟨b,off+j,none⟩ from J1 _ _ _,Jz hb,Array.getElem?_eq_getElem hlt,hv]
theorem JsU {f:FuncId} {xs vs:List Value} {u:Value} (hcb:Jbi P f)
 (h0:xs.length=0→∀(a:Option Addr) (cap:Nat) w,Kn w none2→Calls P f (Value.slice a 0 cap::vs).toArray w fun e w'=> e= .returned u∧Below w.heap.size w w')
 (h1:∀(b off cap:Nat) w,Kn w none2→(∀(j:Nat) x,xs[j]? =some x→w.cell? ⟨b,off+j,none⟩=some x)→b < w.heap.size→xs.length≤cap→0 < xs.length→Calls P f (Value.slice (some ⟨b,off,none⟩) xs.length cap::vs).toArray w fun e w'=> e= .returned u∧Below w.heap.size w w'):
 Tells P f (.sl 1 xs.length (fun k=> .v (xs.getD k undef))::vs.map .v) (.v u):=fun nx=> by
 refine ⟨hcb,fun X w g us k1 k2 k3 k4=> ?_⟩
 match us,k3,k4 with
 | a::us,k3,k4=>
 have ha:=k4 0 _ a rfl rfl
 obtain rfl:us=vs:=Ji5 (by simpa using k3) fun k c v hc hv=> k4 (k+1) c v (by simpa using hc) (by simpa using hv)
 have hk:=k1.kn.none
 have key:Calls P f (a::us).toArray w fun e w'=> e= .returned u∧Below w.heap.size w w':=by
  generalize hxs:(fun k=> AV.v (xs.getD k undef))=F at ha;generalize hn:xs.length=n at ha;cases ha with
  | sl0 _ _ a0 cap=> exact h0 hn a0 cap w hk
  | sl _ _ _ b off cap ws hlen hcap hcell hc hrep=>
    rcases Nat.eq_zero_or_pos n with hz | hz
    ·subst hz;exact h0 hn _ cap w hk
    ·subst hn;have hat:∀(j:Nat) x,xs[j]? =some x→w.cell? ⟨b,off+j,none⟩=some x:=fun j x hx=> by
      have hj:=(List.getElem?_eq_some_iff.1 hx).1;have hw:j < ws.length:=(by omega);have hr:=hrep j 0 (.v (xs.getD j undef)) ws[j] hj (by rw [← hxs];rfl) (by rw [Nat.mul_one,Nat.add_zero];exact List.getElem?_eq_getElem hw);have e:ws[j]=xs.getD j undef:=(by generalize ws[j]=q at hr;cases hr;rfl);rw [(hcell j _ (List.getElem?_eq_getElem hw)).1,e,List.getD_eq_getElem?_getD,hx];rfl
     have hb:b < w.heap.size:=World.block_lt_of_cell? w _ (hat 0 xs[0] (List.getElem?_eq_getElem hz));exact h1 b off cap w hk hat hb hcap hz
 refine (JdE P f).mono (w0:=w) (g:=g) (R:=_) key fun e w' ⟨he,hb⟩=> ?_
 have hev:=Evo.of_below hb
 exact ⟨.ret (.v u),⟨[], [],nx,0⟩,g,⟨u,he, .v _⟩,⟨Rf,rfl,rfl⟩,fun _ _ h=> h,k1.evo0 hev,fun b o hx i hi=> (by cases hi),hev.mono fun b o _ h=> h.elim,fun b o h _=> h⟩
theorem JuX {ops:Array Oper} {B:List (Id×Own)} {o:Oper} {E:Env} {fo:Operand} {args:Array Operand} {tys:Array TypeId} {f:FuncId} {first caps xs:List AV} {h1:Heap} {Q:AV→Heap→Prop} {bx1:List (Id×Own)} {pm1:List (Id×Nat)}
 (rb:List (Id×Own)) (rp:List (Id×Nat)) (nn:Nat) (hg:o.guard=none) (ho:o.op= .call { callee:= .value fo,args:=args,argTypes:=tys}) (hf:E.ev fo= .fn (.func f) first caps) (hbx:E.h.bx=rb++bx1) (hpm:E.h.pm=rp++pm1)
 (hl:LeL (first++args.toList.map E.ev++caps) xs) (hc:ECall P f xs h1 Q) (hbl:BxLe bx1 h1.bx) (hpe:PmEq pm1 h1.pm) (hn:h1.nx=E.h.nx) (hB:∀r h',Q r h'→HB B (rb++h'.bx)):
 Eff P ops B o E fun r h'=> ∃h2,Q r h2∧h'=⟨rb++h2.bx,rp++h2.pm,h2.nx,nn⟩:=by
 have h2:ECall P f xs ⟨bx1,pm1,h1.nx,h1.nn⟩ Q:=hc.tell hbl hpe rfl
 have h3:=(ECall.frame (h:=E.h) h2 rb rp (by rw [hbx];exact List.perm_append_comm) (by rw [hpm];exact List.perm_append_comm) hn).args hl
 refine JwV hg ho hf h3 fun r h' hq=> ?_
 obtain ⟨h1',q1,rfl⟩:=hq
 exact ⟨r,⟨rb++h1'.bx,rp++h1'.pm,h1'.nx,nn⟩,Rf,⟨List.perm_append_comm.map _,List.perm_append_comm.map _,rfl⟩,⟨h1',q1,rfl⟩,hB r h1' q1⟩
theorem JuY {E:Env} {n:Nat} {bx:List (Id×Own)} {pm:List (Id×Nat)} {nx nn:Nat} {L:List (Nat×AV)} (bx'' bx':List (Id×Own)) (pm'' pm':List (Id×Nat)) (hn:E.n=n) (hx:E.h.nx=nx) (h0:bx''.Perm E.h.bx) (g0:pm''.Perm E.h.pm) (hb:bx'.Sublist bx'') (hp:pm'.Sublist pm'')
 (eb:BxLe bx' bx) (ep:PmEq pm' pm) (hL:LeT E.t L):ELe E (mk n L ⟨bx,pm,nx,nn⟩ E.df):=
 (Jdo (E:=E) (h':=⟨bx'',pm'',E.h.nx,E.h.nn⟩) ⟨h0.map _,g0.map _,rfl⟩).trans (Jh (E:= { E with h:=⟨bx'',pm'',E.h.nx,E.h.nn⟩}) bx' pm' hn hx hb hp eb ep hL)
theorem JsV {f:FuncId} {N n cap nm s nx nn:Nat} {cs tl az:List AV} {vs:List Value} {R:AV} {res:Nat→Value} {Φ:List AV→Prop} (hcb:Jbi P f) (hcs:cs.length=N)
 (ha:∀(w:World) (X:Nat→Nat→Prop) (g:List Nat) (us:List Value),us.length=az.length→(∀(k:Nat) (c:AV) (u:Value),az[k]? =some c→us[k]? =some u→Rep w X g c u)→us=vs)
 (hR:∀(w:World) (X:Nat→Nat→Prop) (g:List Nat) (b:Nat),g[s]? =some b→Rep w X g R (res b))
 (h:∀(w:World) (X:Nat→Nat→Prop) (g:List Nat) (blk:Nat) (us:List Value),us.length=N→(∀(k:Nat) (c:AV) (u:Value),cs[k]? =some c→us[k]? =some u→Rep w X g c u)→Sort.Holds id w blk 0 us.toArray→blk < w.heap.size→
   Calls P f (.slice (some ⟨blk,0,none⟩) n cap::vs).toArray w fun e w'=> e= .returned (res blk)∧∃(us':List Value) (cs':List AV) (m:Nat) (os:Array Obj),us'.length=N∧cs'.length=N∧Φ cs'∧(∀(k:Nat) (c:AV) (u:Value),cs'[k]? =some c→us'[k]? =some u→Rep w X g c u)∧w'=Sort.grow (Sort.putRow id (Sort.ahead w m) blk 0 us'.toArray) os):
 ECall P f (.hs (nm,s) 0 n cap::az) ⟨[((nm,s), .c (cs++tl))], [],nx,nn⟩
  fun r h'=> r=R∧∃cs',Φ cs'∧h'=⟨[((nm,s), .c (cs'++tl))], [],nx,nn⟩:=by
 refine ⟨hcb,fun X w g us h1 h2 h3 h4=> ?_⟩
 obtain ⟨b,hgb,vs0,ety,hblk,hsz,hrep⟩:=h1.bx _ (.head _)
 dsimp only at hgb
 match us,h3,h4 with
 | a::us,h3,h4=>
 have hva:=h4 0 _ a rfl rfl
 obtain rfl:us=vs:=ha w _ g us (by simpa using h3) fun k c v hc hv=> h4 (k+1) c v (by simpa using hc) (by simpa using hv)
 cases hva with
 | hs _ _ _ _ b2 hg2=>
 dsimp only at hg2
 rw [hgb] at hg2
 cases hg2
 have hbl:=Jl hblk
 have hlen:N≤vs0.size:=by rw [hsz,List.length_append];omega
 have htl:(vs0.toList.take N).length=N:=by simp;omega
 have hH:Sort.Holds id w b 0 (vs0.toList.take N).toArray:=fun j hj=> by
  refine ⟨?_,by rw [Jer hblk];simp⟩;have hjN:j < N:=by rw [List.size_toArray,htl] at hj;exact hj
  have hj2:j < vs0.size:=by omega
  rw [Jz hblk,Nat.zero_add,Array.getElem?_eq_getElem hj2];simp [hj2,hjN]
 have hr0:∀(k:Nat) (c:AV) (u:Value),cs[k]? =some c→(vs0.toList.take N)[k]? =some u→Rep w (excl X g ⟨[((nm,s), .c (cs++tl))], [],nx,nn⟩) g c u:=fun k c u hc hu=> by
  have hk:k < cs.length:=(List.getElem?_eq_some_iff.1 hc).1;rw [List.getElem?_take,if_pos Om] at hu;exact hrep k c u (by rw [List.getElem?_append_left hk];exact hc) (by simpa using hu)
 refine (JdE P f).mono (w0:=w) (g:=g) (R:=_) (h w _ g b _ htl hr0 hH hbl) fun e w' ⟨he,us',cs',n',os,hl1,hl2,hΦ,hr',hw⟩=> ?_
 have hb':w'.heap[b]? =some (.cells (Sort.putCells id 0 us'.toArray vs0) ety (0,0)):=by
  subst hw;rw [Sort.heap_grow_old _ _ (by simpa [Sort.putRow,Sort.mapBlock,Sort.ahead] using hbl)];show (w.heap.modify b _)[b]? =_;rw [Array.getElem?_modify,if_pos rfl,hblk];rfl
 have hoth:∀k,k < w.heap.size→k≠b→w'.heap[k]? =w.heap[k]? :=fun k hk hne=> by
  subst hw;rw [Sort.heap_grow_old _ _ (by simpa [Sort.putRow,Sort.mapBlock,Sort.ahead] using hk)];show (w.heap.modify b _)[k]? =_;rw [Array.getElem?_modify,if_neg (Ne.symm hne)]
 have hsize:w.heap.size≤w'.heap.size:=by
  subst hw;simp [Sort.grow,Sort.putRow,Sort.mapBlock,Sort.ahead]
 have hM:∀b0 o,¬excl none2 g ⟨[((nm,s), .c (cs++tl))], [],nx,nn⟩ b0 o→b0≠b:=fun b0 o hn hb0=> hn (.inr (.inl ⟨_, .head _,by rw [hb0];exact hgb⟩))
 have hev:Evo (excl none2 g ⟨[((nm,s), .c (cs++tl))], [],nx,nn⟩) w w':=by
  refine ⟨by subst hw;rfl,by subst hw;rfl,by subst hw;rfl,hsize,fun b0 hb0 hn=> hoth b0 hb0 (hM b0 0 (hn 0)),fun b0 o hb0 hn=> World.cell?_of_block (a:=⟨b0,o,none⟩) (hoth b0 hb0 (hM b0 o hn)),fun b0 us0 e0 fz h0=> ?_,fun b0 l h0=> ?_⟩
  ·by_cases hb0:b0=b
   ·subst hb0;rw [hblk] at h0;cases h0;exact ⟨_,hb',by simp [Sort.putCells]⟩
   ·exact ⟨us0,(hoth b0 (Jl h0) hb0).trans h0,rfl⟩
  ·by_cases hb0:b0=b
   ·subst hb0;rw [hblk] at h0;cases h0
   ·exact ⟨l,(hoth b0 (Jl h0) hb0).trans h0⟩
 have hstay:=hev.stays (X:=excl X g ⟨[((nm,s), .c (cs++tl))], [],nx,nn⟩) (X':=excl X g ⟨[((nm,s), .c (cs++tl))], [],nx,nn⟩) (g:=g) (g':=g)
  (fun b0 o _ hm=> hm.elim (fun h=> h.elim) .inr) (fun _ _ _ h=> h) (fun _ _ h=> h)
 refine ⟨.ret R,_,g,⟨_,he,hR _ _ _ _ hgb⟩,⟨rfl,cs',hΦ,rfl⟩,fun _ _ h=> h, ?_,fun b0 o hx i hi=> h2 b0 o hx i hi,hev,fun b0 o h _=> by simpa [excl] using h⟩
 have hX:excl X g ⟨[((nm,s), .c (cs'++tl))], [],nx,nn⟩=excl X g ⟨[((nm,s), .c (cs++tl))], [],nx,nn⟩:=by
  funext b0 o;exact propext (by simp [excl])
 rw [hX]
 refine ⟨fun p hp=> ?_,fun p hp=> (by cases hp),h1.nodup,h1.nx,fun b0 o hx=> ?_, ?_⟩
 ·obtain rfl:=List.mem_singleton.1 hp;refine ⟨b,hgb,Sort.putCells id 0 us'.toArray vs0,ety,hb',by rw [List.length_append] at hsz;simp [Sort.putCells,hsz,hl2,hcs],fun k c u hk hku=> ?_⟩;have hkv:k < vs0.size:=by have:=(Array.getElem?_eq_some_iff.1 hku).1;simpa [Sort.putCells] using this
  have hval:(Sort.putCells id 0 us'.toArray vs0)[k]? =some (if 0≤k∧k < 0+us'.toArray.size then id us'.toArray[k - 0]! else vs0[k]):=by simp [Sort.putCells,hkv]
  rw [hval] at hku;by_cases hkd:k < N
  ·rw [if_pos ⟨Nat.zero_le _,by rw [List.size_toArray];omega⟩] at hku;rw [List.getElem?_append_left Om] at hk;refine (hr' k c u hk ?_).stays hstay;have hkl:k < us'.length:=by omega
   simp [hkl] at hku;rw [List.getElem?_eq_getElem hkl,hku]
  ·rw [if_neg (by rw [List.size_toArray];omega)] at hku;rw [List.getElem?_append_right Om] at hk;refine (hrep k c u ?_ (by rw [Array.getElem?_eq_getElem hkv];exact hku)).stays hstay;rw [List.getElem?_append_right Om,hcs,← hl2];exact hk
 ·exact Nat.lt_of_lt_of_le (h1.bd b0 o hx) hsize
 ·exact h1.kn.stays hstay
structure KX where
 k:Nat
 a:AV
 u:Value
instance:Inhabited KX:=⟨⟨0, .any, .int .u32 0⟩⟩
def KX.enc (x:KX):List Value:= [.int .u32 x.k,if x.u.oneCell' then x.u else .int .u32 0]
def KX.cmp (x y:KX):Int:=Lib.compareInt x.k y.k
def JM (D:List (Nat×AV)):List AV:=D.flatMap fun x=> [.v (.int .u32 x.1),x.2]
theorem KX.one (x:KX):∀v∈x.enc,v.oneCell'=true:=fun v hv=> by
 unfold KX.enc at hv
 simp only [List.mem_cons,List.mem_nil_iff,or_false] at hv
 rcases hv with rfl | rfl
 ·rfl
 ·split
  ·assumption
  ·rfl
theorem KX.lt (x y:KX):Go.Proofs.ltOf KX.cmp x y=decide (x.k < y.k):=by
 unfold Go.Proofs.ltOf KX.cmp Lib.compareInt
 by_cases h1:(x.k:Int) < y.k
 ·simp [h1];omega
 ·by_cases h2:(y.k:Int) < x.k <;> simp [h1,h2] <;> omega
theorem KX.swo:Sort.SWO (Go.Proofs.ltOf KX.cmp) where
 irrefl x:=by rw [KX.lt];simp
 trans x y z h1 h2 := by rw [KX.lt] at *; simp at *; omega
 ntrans x y z h1 h2 := by rw [KX.lt] at *; simp at *; omega
theorem JdI (D:List (Nat×AV)):(JM D).length=D.length * 2:=Jdu (E:=fun x:Nat×AV=> [.v (.int .u32 x.1),x.2]) (fun _=> rfl) D
theorem JfK:∀(D:List (Nat×AV)) (t:Nat) (h:t / 2 < D.length),(JM D)[t]? =some (if t % 2=0 then .v (.int .u32 D[t / 2].1) else D[t / 2].2)
 | [],t,h=> by simp at h
 | x::D,0,_=> rfl
 | x::D,1,_=> rfl
 | x::D,t+2,h=> by
   have h2:(t+2) / 2=t / 2+1:=by omega
   have ih:=JfK D t (by rw [h2] at h;simpa using h);show (JM D)[t]? =_;rw [ih,show (t+2) % 2=t % 2 by omega];simp only [h2,List.getElem_cons_succ]
theorem JuZ (d:Array KX) (t:Nat) (h:t < d.size * 2):(Sort.flatK KX.enc 2 d)[t]! =if t % 2=0 then .int .u32 d[t / 2]!.k else if d[t / 2]!.u.oneCell' then d[t / 2]!.u else .int .u32 0:=by
 rw [Sort.get_flatK _ _ _ _ h]
 unfold KX.enc
 rcases Nat.mod_two_eq_zero_or_one t with h0 | h0 <;> rw [h0] <;> rfl
theorem JjD {f:FuncId} {g:Nat} {D:List (Nat×AV)} {tl:List AV} {nm s cap nx nn:Nat} (hcb:Jbi P f) (hone:∀x∈D,Jb3 x.2=true)
 (h:∀(d:Array KX) (w:World) (blk:Nat),d.size=D.length→(∀j,j < D.length→d[j]!.k=(D.getD j (0, .any)).1)→Sort.HoldsK KX.enc 2 w blk 0 d→blk < w.heap.size→
   Calls P f #[.slice (some ⟨blk,0,none⟩) d.size cap, .func (.func g) #[] #[]] w fun e w'=> e= .returned (.tuple #[])∧∃d' n os,Sort.PermIn 0 d.size d d'∧Sort.SortedIn (Go.Proofs.ltOf KX.cmp) 0 d.size d'∧w'=Go.Proofs.sortWorldK KX.enc 2 w blk 0 n d' os):
 ECall P f [.hs (nm,s) 0 D.length cap, .fn (.func g) [] []] ⟨[((nm,s), .c (JM D++tl))], [],nx,nn⟩
  fun r h'=> r= .tup []∧∃cs',(∃D',D'.Perm D∧D'.Pairwise (fun a b=> a.1≤b.1)∧cs'=JM D')∧h'=⟨[((nm,s), .c (cs'++tl))], [],nx,nn⟩:=by
 refine JsV (N:=D.length * 2) (n:=D.length) (vs:= [.func (.func g) #[] #[]]) (R:= .tup []) (res:=fun _=> .tuple #[]) (Φ:=fun cs'=> ∃D',D'.Perm D∧D'.Pairwise (fun a b=> a.1≤b.1)∧cs'=JM D') hcb (JdI D) (fun w X g us h1 h2=> ?_) (fun w X g b hg=> .tup [] [] rfl Si) (fun w X g blk us hl hr hH hb=> ?_)
 ·match us,h1,h2 with
  | [u],_,h2=>
    have:=h2 0 _ u rfl rfl;cases this with
    | fn f c1 c2 v1 v2 hn1 hn2 _ _=>
      obtain rfl:v1= []:=List.length_eq_zero_iff.1 hn1;obtain rfl:v2= []:=List.length_eq_zero_iff.1 hn2;rfl
 ·
  let d:Array KX:=((List.range D.length).map fun j=> (⟨(D.getD j (0, .any)).1,(D.getD j (0, .any)).2,us.getD (j * 2+1) (.int .u32 0)⟩:KX)).toArray
  have hds:d.size=D.length:=by simp [d]
  have hdg:∀j,j < D.length→d[j]! =⟨(D.getD j (0, .any)).1,(D.getD j (0, .any)).2,us.getD (j * 2+1) (.int .u32 0)⟩:=fun j hj=> by
   simp [d,hj]
  have hrep:∀j,j < D.length→us.getD (j * 2) (.int .u32 0)= .int .u32 (D.getD j (0, .any)).1∧Rep w X g (D.getD j (0, .any)).2 (us.getD (j * 2+1) (.int .u32 0))∧(us.getD (j * 2+1) (.int .u32 0)).oneCell'=true:=fun j hj=> by
   have h0:=JfK D (j * 2) Om;have h1:=JfK D (j * 2+1) Om;rw [if_pos Om] at h0;rw [if_neg Om] at h1;have e0:j * 2 / 2=j:=by omega
   have e1:(j * 2+1) / 2=j:=by omega
   simp only [e0] at h0;simp only [e1] at h1;have eD:D.getD j (0, .any)=D[j]:=by simp [hj]
   have k0:us[j * 2]? =some (us.getD (j * 2) (.int .u32 0)):=by rw [List.getD_eq_getElem?_getD,List.getElem?_eq_getElem Om];rfl
   have k1:us[j * 2+1]? =some (us.getD (j * 2+1) (.int .u32 0)):=by rw [List.getD_eq_getElem?_getD,List.getElem?_eq_getElem Om];rfl
   have r0:=hr _ _ _ h0 k0;have r1:=hr _ _ _ h1 k1;rw [eD];refine ⟨?_,r1,Je3 (hone _ (List.getElem_mem hj)) r1⟩;generalize us.getD (j * 2) (.int .u32 0)=v at r0;cases r0;rfl
  have hflat:us.toArray=Sort.flatK KX.enc 2 d:=by
   refine Sort.ext_get! (by simp [hds,hl]) fun t ht=> ?_;have ht2:t < D.length * 2:=by simpa [hl] using ht
   rw [JuZ d t Om,hdg _ Om];obtain ⟨r1,r2,r3⟩:=hrep (t / 2) Om;have eu:us.toArray[t]! =us.getD t (.int .u32 0):=by simp [show t < us.length by omega]
   rw [eu];rcases Nat.mod_two_eq_zero_or_one t with h0 | h0
   ·rw [if_pos h0,show us.getD t (.int .u32 0)=us.getD (t / 2 * 2) (.int .u32 0) by rw [show t / 2 * 2=t by omega]];exact r1
   ·rw [if_neg Om,if_pos r3,show us.getD t (.int .u32 0)=us.getD (t / 2 * 2+1) (.int .u32 0) by rw [show t / 2 * 2+1=t by omega]]
  have hH2:Sort.HoldsK KX.enc 2 w blk 0 d:=by unfold Sort.HoldsK;rw [← hflat];exact hH
  have hc:=h d w blk hds (fun j hj=> by rw [hdg j hj]) hH2 hb;rw [hds] at hc;refine hc.mono fun e w' ⟨he,d',n',os,hp,hso,hw⟩=> ⟨he,(Sort.flatK KX.enc 2 d').toList,JM (d'.toList.map fun x=> (x.k,x.a)),n',os, ?_, ?_,⟨_, ?_, ?_,rfl⟩,fun t c u hcs hus=> ?_, ?_⟩
  ·have:=hp.1;simp [this,hds]
  ·have:=hp.1;rw [JdI];simp [this,hds]
  ·obtain ⟨p1,_,p3⟩:=hp;have e1:(d'.extract 0 D.length).toList=d'.toList:=by rw [← hds,← p1];simp
   have e2:(d.extract 0 D.length).toList=d.toList:=by rw [← hds];simp
   rw [e1,e2] at p3;have:=p3.map fun x:KX=> (x.k,x.a);refine this.trans (.of_eq ?_);refine List.ext_getElem (by simp [d]) fun j hj1 hj2=> ?_;simp [d,hj2]
  ·rw [List.pairwise_iff_getElem];intro i j hi hj hij;have hj':j < d'.size:=by simpa using hj
   have:=hso i j (Nat.zero_le _) hij (by rw [← hds,← hp.1];exact hj');rw [KX.lt] at this;have h2:=of_decide_eq_false this;simp only [List.getElem_map,Array.getElem_toList];rw [getElem!_pos d' i Om,getElem!_pos d' j hj'] at h2;omega
  ·have hs':d'.size=D.length:=by rw [hp.1,hds]
   have ht:t < d'.size * 2:=by have:=(List.getElem?_eq_some_iff.1 hus).1;simpa using this
   have hj:t / 2 < d'.size:=by omega
   obtain ⟨p1,_,p3⟩:=hp;have e1:(d'.extract 0 D.length).toList=d'.toList:=by rw [← hs'];simp
   have e2:(d.extract 0 D.length).toList=d.toList:=by rw [← hds];simp
   rw [e1,e2] at p3;have hm:d'[t / 2]∈d.toList:=p3.mem_iff.1 Si;obtain ⟨j,hj2,hdj⟩:=List.getElem_of_mem hm;have hjD:j < D.length:=by simpa [hds] using hj2
   obtain ⟨r1,r2,r3⟩:=hrep j hjD;have hx:d'[t / 2]=⟨(D.getD j (0, .any)).1,(D.getD j (0, .any)).2,us.getD (j * 2+1) (.int .u32 0)⟩:=by
    rw [← hdj,← hdg j hjD];simp [show j < d.size by omega]
   rw [JfK _ _ (by simpa using hj)] at hcs;have hu:u=(Sort.flatK KX.enc 2 d')[t]! :=by
    have:=(List.getElem?_eq_some_iff.1 hus).2;rw [← this];simp [ht]
   rw [JuZ d' t ht,getElem!_pos d' _ hj,hx] at hu;simp only [List.getElem_map,Array.getElem_toList,hx] at hcs;dsimp only at hcs hu;rcases Nat.mod_two_eq_zero_or_one t with h0 | h0
   ·rw [if_pos h0] at hcs hu;cases hcs;subst hu;exact .v _
   ·rw [if_neg Om] at hcs hu;rw [if_pos r3] at hu;cases hcs;subst hu;exact r2
  ·rw [hw];unfold Go.Proofs.sortWorldK Sort.putRowK;simp
theorem JjE {ops:Array Oper} {B:List (Id×Own)} {o:Oper} {E:Env} {s x:Operand} {t e:TypeId} {n szx m cap:Nat} {f':Nat→AV} {i:Id} {cs:List AV} (hg:o.guard=none)
 (ho:o.op= .call { callee:= .builtin .append,args:= #[s,x],argTypes:= #[t,t]}) (hs:E.ev s= .hs i 0 n cap)
 (hx:E.ev x= .sl szx m f'∨∃oj,E.ev x= .os szx m f' oj)
 (ht:P.underlying t=some (.slice e)) (hgr:Jbc P e=true) (hszx:szx=P.cellsOf e) (hm:m≠0)
 (hcs:Jbm i.1 E.h.bx=some (i.2,cs)) (hcap:n≤cap) (hcl:cap * P.cellsOf e≤cs.length) (hone:Jcu m f')
 (hroom:(n+m) * P.bytesOf e≤140737488355328) (hlen:n+m≤9223372036854775807)
 (hB1:HB B (JeN i.1 (Jaa cs (n * P.cellsOf e) (Jw m f')) E.h.bx)) (hB2:∀l,HB B (E.h.add l).bx):
 Eff P ops B o E fun r h'=> (n+m≤cap∧r= .hs i 0 (n+m) cap∧h'= { E.h with bx:=JeN i.1 (Jaa cs (n * P.cellsOf e) (Jw m f')) E.h.bx})∨
  (∃ncap,n+m≤ncap∧r= .hs (E.h.nn,E.h.nx) 0 (n+m) ncap∧h'=E.h.add (cs.take (n * P.cellsOf e)++Jw m f'++List.replicate ((ncap - (n+m)) * P.cellsOf e) .any)):=by
 refine ⟨hg,fun E' hh htt=> ?_⟩
 have hev:=JbH htt
 have es:E'.ev s=E.ev s:=hev s (by rw [ho];simp [Op.operands,Call.operands])
 have ex:E'.ev x=E.ev x:=hev x (by rw [ho];simp [Op.operands,Call.operands])
 refine Je7 ho (es.trans hs) (by rw [ex];exact hx) ht hgr (.inr hszx) (by rw [hh];exact hcs) hcap hcl hone (fun _=> hroom) (fun _=> hlen) (fun h=> absurd h hm) (fun _ hfit=> ?_) (fun _ _ ncap hge=> ?_)
 ·exact ⟨_,_, .inl ⟨hfit,rfl,by rw [hh]⟩,by rw [hh];exact hB1,rfl⟩
 ·exact ⟨_,_, .inr ⟨ncap,hge,by rw [hh],by rw [hh]⟩,by rw [hh];exact hB2 _,rfl⟩
theorem Jio {ops:Array Oper} {B:List (Id×Own)} {o:Oper} {E:Env} {s x:Operand} {t e:TypeId} {sz szx m:Nat} {f f':Nat→AV} (hg:o.guard=none)
 (ho:o.op= .call { callee:= .builtin .append,args:= #[s,x],argTypes:= #[t,t]}) (hs:E.ev s= .os sz 0 f none)
 (hx:E.ev x= .sl szx m f'∨∃oj,E.ev x= .os szx m f' oj)
 (ht:P.underlying t=some (.slice e)) (hgr:Jbc P e=true) (hszx:szx=P.cellsOf e) (hm:m≠0) (hone:Jcu m f')
 (hroom:m * P.bytesOf e≤140737488355328) (hlen:m≤9223372036854775807) (hB2:∀l,HB B (E.h.add l).bx):
 Eff P ops B o E fun r h'=> ∃ncap,m≤ncap∧r= .hs (E.h.nn,E.h.nx) 0 m ncap∧h'=E.h.add (Jw m f'++List.replicate ((ncap - m) * P.cellsOf e) .any):=by
 refine ⟨hg,fun E' hh htt=> ?_⟩
 have hev:=JbH htt
 have es:E'.ev s=E.ev s:=hev s (by rw [ho];simp [Op.operands,Call.operands])
 have ex:E'.ev x=E.ev x:=hev x (by rw [ho];simp [Op.operands,Call.operands])
 refine Jgc ho (es.trans hs) (by rw [ex];exact hx) ht hgr hszx hm hone hroom hlen (fun ncap hge=> ?_)
 exact ⟨_,_,⟨ncap,hge,by rw [hh],by rw [hh]⟩,by rw [hh];exact hB2 _,rfl⟩
open Go.RowKit Go.Shelf Go.Proofs
variable {P:Program} {ρ:Ren}
set_option maxRecDepth 100000
theorem JqU {o:Oper} {e:TypeId} {E:Env} {K:Env→Prop} {z:Value} (ho:o.op= .alloc e) (hz:(P.info? e).bind (·.zero)=some z) (hc:z.cells= #[.pointer none, .slice none 0 0])
 (hk:K (({ E with h:=E.h.addo (.sb e none)}:Env).set o.dst (.bp (E.h.nn,E.h.nx) 0))):AOp P o E K:=by
 intro ro X M w0 a w g hs next Q hn hp
 obtain ⟨h1,h2,_⟩:=hs.obj (x:= .sb e none) (.cells z.cells e) (fun X' g' hst hnew=> ⟨_,_,by rw [hnew,hc], .inl rfl, .inl ⟨rfl,rfl⟩⟩)
 refine Jx (by rw [ho];intro c h;cases h) ?_
 have:(execOp a.eval o).run P w= .ok (.value (.pointer (some ⟨w.heap.size,0,none⟩))) (w.alloc (.cells z.cells e)):=by
  unfold execOp;simp only [ho,Instr.alloc,newVar,newRow];simp [Ja5 hz]
 rw [this]
 exact hn _ _ _ _ hk (fun i b h=> by rw [List.getElem?_append_left (List.getElem?_eq_some_iff.1 h).1];exact h) (h1.put o.dst (.bp _ _ _ h2))
structure Kept (b g:Option Nat) (w w':World):Prop where
 os:w'.os=w.os
 tape:w'.tape=w.tape
 output:w'.output=w.output
 size:w.heap.size≤w'.heap.size
 block:∀k,k < w.heap.size→some k≠b→some k≠g→w'.heap[k]? =w.heap[k]?
 room:∀(j:Nat) (vs:Array Value) (e:TypeId) (fz:Nat×Nat),w.heap[j]? =some (.cells vs e fz)→RoomTo w' j vs e
theorem Kept.refl (b g:Option Nat) (w:World):Kept b g w w:=⟨rfl,rfl,rfl,Nat.le_refl _,fun _ _ _ _=> rfl,fun _ vs _ _ h=> ⟨vs,h,rfl⟩⟩
theorem Kept.trans {b g b' g' b2 g2:Option Nat} {w w' w'':World} (h:Kept b g w w') (h':Kept b' g' w' w'') (hb:∀k,k < w.heap.size→some k≠b2→some k≠g2→some k≠b∧some k≠g∧some k≠b'∧some k≠g'):Kept b2 g2 w w'':=
 ⟨h'.os.trans h.os,h'.tape.trans h.tape,h'.output.trans h.output,Nat.le_trans h.size h'.size,fun k hk h1 h2=> (h'.block k (Nat.lt_of_lt_of_le hk h.size) (hb k hk h1 h2).2.2.1 (hb k hk h1 h2).2.2.2).trans (h.block k hk (hb k hk h1 h2).1 (hb k hk h1 h2).2.1),
  fun j vs e fz hj=> let ⟨vs',h1,h2⟩:=h.room j vs e fz hj;let ⟨vs'',h3,h4⟩:=h'.room j vs' e _ h1;⟨vs'',h3,h4.trans h2⟩⟩
theorem Jo0 {w:World} {b:Nat} {cs:Array Value} {e:TypeId} {fz:Nat×Nat} (hb:w.heap[b]? =some (.cells cs e fz)) (n:Nat) (v:Value):Kept (some b) none w (w.setCell ⟨b,n,none⟩ v):=by
 refine ⟨rfl,rfl,rfl,by simp [World.setCell],fun k _ hk _=> Below.heap_setCell _ _ _ _ (fun e=> hk (by simp [e])),fun j vs e' fz' hj=> ?_⟩
 by_cases hjb:j=b
 ·subst hjb;rw [hb] at hj;cases hj;exact RoomTo.mk (cs.setIfInBounds n v) (fz:=fz) (by simp [World.setCell,Array.getElem?_modify,hb]) Si
 ·exact ⟨vs,(Below.heap_setCell _ _ _ _ (fun e=> hjb (by simp [e]))).trans hj,rfl⟩
theorem JkL (w:World) (o:Obj) (g:Option Nat):Kept none g w (w.drew.alloc o):=⟨rfl,rfl,rfl,by simp,fun k hk _ _=> heap_alloc_old w.drew _ hk,fun j vs e fz hj=> ⟨vs,(heap_alloc_old w.drew _ (Jl hj)).trans hj,rfl⟩⟩
theorem JsW (L:Lays.n240 P ρ) (X:Builder.X72 P ρ) (b:Nat) (p v:Value) (w:World) (hb:w.heap[b]? =some (.cells #[p,v] (ρ.t 72) (0,0))) (hp:p= .pointer none∨p= .pointer (some ⟨b,0,none⟩)):
 Calls P (ρ.f 240) #[.pointer (some ⟨b,0,none⟩)] w fun e w'=> e= .returned (.tuple #[])∧w'.heap[b]? =some (.cells #[.pointer (some ⟨b,0,none⟩),v] (ρ.t 72) (0,0))∧Kept (some b) none w w':=by
 rcases hp with rfl | rfl
 ·refine (Any.Builder_copyCheck_fresh L X b w (by rw [Lib.cell_of_heap hb];rfl) (by simp [World.shape?,hb]) (Lib.frozen_of_heap hb 0)).mono fun e w' ⟨h1,h2⟩=> ⟨h1, ?_, ?_⟩
  ·rw [h2];simp [World.setCell,Array.getElem?_modify,hb]
  ·rw [h2];exact Jo0 hb 0 _
 ·exact (Any.Builder_copyCheck_used L X b w (by rw [Lib.cell_of_heap hb];rfl)).mono fun e w' ⟨h1,h2⟩=> ⟨h1,by rw [h2];exact hb,by rw [h2];exact Kept.refl _ _ _⟩
inductive SbRow (w:World) (b:Nat) (e:TypeId) (bs:List Value):Value→Option Nat→Prop
 | nn (h:bs= []):SbRow w b e bs (.slice none 0 0) none
 | ro (k cap:Nat) (cur:Array Value) (hk:w.heap[k]? =some (.cells cur e (0,0))) (hne:k≠b) (hn:bs.length≤cap) (hc:cap≤maxLen) (hs:cur.size=cap) (ht:cur.toList.take bs.length=bs):SbRow w b e bs (.slice (some ⟨k,0,none⟩) bs.length cap) (some k)
def JsX (w w':World) (b:Nat) (e:TypeId) (bs:List Value) (k:Option Nat) (v':Value):Prop:=
 ∃k' cap' cur',v'= .slice (some ⟨k',0,none⟩) bs.length cap'∧w'.heap[k']? =some (.cells cur' e (0,0))∧k'≠b∧(k=some k'∨w.heap.size≤k')∧bs.length≤cap'∧cap'≤maxLen∧cur'.size=cap'∧cur'.toList.take bs.length=bs
theorem Ju0 {w:World} {b:Nat} {t u ty e:TypeId} {i:TypeInfo} (ht:P.underlying t=some (.slice e)) (hu:P.underlying u=some .string) (hi:P.info? e=some i) (hz:i.zero=some (.int .u8 0)) (hsize:i.size=1) (hby:i.bytes=1)
 {bs:List Value} {v:Value} {k:Option Nat} (hv:SbRow w b e bs v k) (hb:b < w.heap.size) (s:ByteArray) (hs:0 < s.size) (hlen:bs.length+s.size≤140737488355328):
 ∃v' w',(Builtin.append_ #[t,u] ty #[v, .string s]).run P w= .ok v' w'∧JsX w w' b e (bs++Lib.strCells s) k v'∧Kept none k w w':=by
 have hl:(bs++Lib.strCells s).length=bs.length+s.size:=by rw [List.length_append,Lib.strCells_length]
 have hz1:(Value.int IntKind.u8 0).cells.size=1:=rfl
 have e1:(s.data.map fun b=> Value.int .u8 b.toNat)=(Lib.strCells s).toArray:=by apply Array.ext';simp [Lib.strCells]
 cases hv with
 | nn h=>
   subst h;have hr:=run_append_nil_string (P:=P) w t u ty e i (.int .u8 0) ht hu hi hz s hs (by simp at hlen;omega) (by rw [hby];simp at hlen;omega);rw [e1] at hr;have hge:=grownCap_ge w s.size 0 e;have hcm:grownCap w s.size 0 e≤maxLen:=grownCap_le_maxLen w s.size 0 e (by simp only [maxLen];simp at hlen;omega);refine ⟨_,_,hr,⟨w.heap.size,_,_,by rw [List.nil_append,Lib.strCells_length],heap_alloc_new w.drew _,Om, .inr (Nat.le_refl _),by rw [List.nil_append,Lib.strCells_length];exact hge,hcm, ?_, ?_⟩,JkL w _ _⟩
   ·simp only [Array.size_append,List.size_toArray,size_zeroCells,hz1,Lib.strCells_length];omega
   ·rw [List.nil_append,Array.toList_append];exact List.take_left
 | ro k cap cur hk hne hn hc hsz htk=>
   by_cases hroom:bs.length+s.size≤cap
   ·have hr:=Lib.run_append_room_string (P:=P) w t u ty e i ht hu hi hsize k bs.length cap cur hk s hroom Om;refine ⟨_,_,hr,⟨k,cap,_,by rw [hl],setRow_heap w k cur _ e _ hk,hne, .inl rfl,by rw [hl];exact hroom,hc, ?_, ?_⟩,⟨rfl,rfl,rfl,by simp,fun j _ _ hj=> setRow_other w k j _ (fun e=> hj (by simp [e])),fun j vs e' fz' hj=> ?_⟩⟩
    ·simp only [List.size_toArray,List.length_append,List.length_take,List.length_drop,Array.length_toList,Lib.strCells_length];omega
    ·rw [htk];exact List.take_left
    ·by_cases hjk:j=k
     ·subst hjk;rw [hk] at hj;cases hj;refine ⟨_,setRow_heap w j cur _ e _ hk, ?_⟩;simp only [List.size_toArray,List.length_append,List.length_take,List.length_drop,Array.length_toList,Lib.strCells_length];omega
     ·exact ⟨vs,(setRow_other w k j _ hjk).trans hj,rfl⟩
   ·have holds:∀j u,bs[j]? =some u→w.cell? ((⟨k,0,none⟩:Addr).add j)=some u:=fun j u hj=> by
     rw [J1,Nat.zero_add,Jz hk];have hjl:=(List.getElem?_eq_some_iff.1 hj).1;rw [← htk,List.getElem?_take_of_lt hjl,Array.getElem?_toList] at hj;exact hj
    have hr:=Lib.run_append_grow_string (P:=P) w t u ty e i (.int .u8 0) ht hu hi hz ⟨k,0,none⟩ bs.length cap bs (by rw [hsize,Nat.mul_one]) holds s Om Om (by rw [hby];exact growslice_fits Om Om);have hge:=grownCap_ge w (bs.length+s.size) cap e;have hcm:grownCap w (bs.length+s.size) cap e≤maxLen:=grownCap_le_maxLen w (bs.length+s.size) cap e (by simp only [maxLen];omega);refine ⟨_,_,hr,⟨w.heap.size,_,_,by rw [hl],heap_alloc_new w.drew _,Om, .inr (Nat.le_refl _),by rw [hl];exact hge,hcm, ?_, ?_⟩,JkL w _ _⟩
    ·simp only [Array.size_append,List.size_toArray,size_zeroCells,hz1,Lib.strCells_length];omega
    ·simp only [Array.toList_append];exact List.take_left
theorem Jo1 {ops:Array Oper} {rest:List Oper} {o:Oper} {a:Act} {Q:Exit→Act→World→Prop} {w:World} {b:Nat} {e:TypeId} {i:TypeInfo} {t u:TypeId} (hgd:o.guard=none) (sl x:Operand)
 (ho:o.op= .call { callee:= .builtin .append,args:= #[sl,x],argTypes:= #[t,u]}) (ht:P.underlying t=some (.slice e)) (hu:P.underlying u=some .string) (hi:P.info? e=some i) (hz:i.zero=some (.int .u8 0)) (hsize:i.size=1) (hby:i.bytes=1)
 {bs:List Value} {v:Value} {k:Option Nat} (hv:SbRow w b e bs v k) (hb:b < w.heap.size) (s:ByteArray) (hs0:0 < s.size) (hlen:bs.length+s.size≤140737488355328) (hs:a.eval sl=v) (hx:a.eval x= .string s)
 (h:∀v' w',JsX w w' b e (bs++Lib.strCells s) k v'→Kept none k w w'→wpList P ops Q rest (a.put o.dst v') w'):wpList P ops Q (o::rest) a w:=by
 obtain ⟨v',w',hr,h1,h2⟩:=Ju0 (P:=P) (ty:=o.type) ht hu hi hz hsize hby hv hb s hs0 hlen
 refine wpList_plain hgd fun K hK=> ?_
 unfold Oper.wp execOp
 simp only [ho,resolve,invoke,builtin,Sem.run_bind,Sem.run_pure,Result.andThen_ok,List.map_toArray,List.map_cons,List.map_nil,hs,hx,hr]
 exact hK _ _ (h v' w' h1 h2)
theorem SbRow.kept {w w':World} {b:Nat} {e:TypeId} {bs:List Value} {v:Value} {k:Option Nat} (h:SbRow w b e bs v k) (hk:∀j,k=some j→w'.heap[j]? =w.heap[j]?):SbRow w' b e bs v k:=by
 cases h with
 | nn h=> exact .nn h
 | ro j cap cur h1 h2 h3 h4 h5 h6=> exact .ro j cap cur ((hk j rfl).trans h1) h2 h3 h4 h5 h6
theorem SbRow.lt {w:World} {b:Nat} {e:TypeId} {bs:List Value} {v:Value} {k:Option Nat} (h:SbRow w b e bs v k):∀j,k=some j→j < w.heap.size∧j≠b:=by
 intro j hj
 cases h with
 | nn h=> cases hj
 | ro j cap cur h1 h2 h3 h4 h5 h6=> cases hj;exact ⟨Jl h1,h2⟩
theorem JqV (L:Lays.n166 P ρ) (X:Builder.Extra P ρ) {b:Nat} {p v:Value} {bs:List Value} {k:Option Nat} (s:ByteArray) (w:World) (hb:w.heap[b]? =some (.cells #[p,v] (ρ.t 72) (0,0)))
 (hp:p= .pointer none∨p= .pointer (some ⟨b,0,none⟩)) (hv:SbRow w b (ρ.t 5) bs v k) (hs:0 < s.size) (hlen:bs.length+s.size≤140737488355328):
 Calls P (ρ.f 166) #[.pointer (some ⟨b,0,none⟩), .string s] w fun e w'=> e= .returned (.tuple #[.int .i64 s.size, .nilIface])∧(∃v',w'.heap[b]? =some (.cells #[.pointer (some ⟨b,0,none⟩),v'] (ρ.t 72) (0,0))∧
  JsX w w' b (ρ.t 5) (bs++Lib.strCells s) k v')∧Kept (some b) k w w':=by
 obtain ⟨i0,hi,hz0,hz1,hz2⟩:=info_parts X.infoByte
 have mixed:=L.mixed
 have t72:=L.t72;have a72:=L.a72;have z72:=L.z72;have v72:=L.v72;have u72:=run_underlying L.t72
 have t70:=L.t70;have a70:=L.a70;have z70:=L.z70;have v70:=L.v70;have u70:=run_underlying L.t70
 have t37:=L.t37;have a37:=L.a37;have z37:=L.z37;have v37:=L.v37;have u37:=run_underlying L.t37
 have t3:=L.t3;have a3:=L.a3;have z3:=L.z3;have v3:=L.v3;have u3:=run_underlying L.t3
 have t9:=L.t9;have a9:=L.a9;have z9:=L.z9;have v9:=L.v9;have u9:=run_underlying L.t9
 have t4:=L.t4;have a4:=L.a4;have z4:=L.z4;have v4:=L.v4;have u4:=run_underlying L.t4
 have t164:=L.t164;have a164:=L.a164;have z164:=L.z164;have v164:=L.v164;have u164:=run_underlying L.t164
 have t5:=X.t5;have a5:=X.a5;have z5:=X.z5;have v5:=X.v5;have u5:=run_underlying X.t5
 have e240:∀args w,(callFunc (ρ.f 240) args).run P w= .ok (.enter (ρ.f 240) args) w:=enters_of L.f240 Kr rfl
 go_enter L.f166,Body.n166_ntmps ρ
 go_wp2_with (go_at_fn (ρ.f 240);refine (JsW { L with} X.toX72 b p v _ hb hp).mono ?_)
 rintro e w1 ⟨rfl,hb1,kp1⟩
 have hbl:b < w.heap.size:=Jl hb
 have hv1:SbRow w1 b (ρ.t 5) bs v k:=hv.kept fun j hj=> kp1.block j (hv.lt j hj).1 (fun e=> (hv.lt j hj).2 (by cases e;rfl)) Si
 have hbl1:=Jl hb1
 have c1:w1.cell? ⟨b,1,none⟩=some v:=by rw [Lib.cell_of_heap hb1];rfl
 go_wp2_with (at_builtin;refine Jo1 rfl _ _ rfl L.t37 L.t9 hi hz0 hz1 hz2 hv1 hbl1 s hs hlen rfl rfl ?_)
 intro v' w2 hnew hgrow
 have hb2:w2.heap[b]? =some (.cells #[.pointer (some ⟨b,0,none⟩),v] (ρ.t 72) (0,0)):=by
  rw [hgrow.block b (Jl hb1) Si (fun e=> (hv.lt b e.symm).2 rfl)];exact hb1
 have f1:w2.frozen? ⟨b,1,none⟩=false:=Lib.frozen_of_heap hb2 1
 have d1:w2.cell? ⟨b,1,none⟩=some v:=by rw [Lib.cell_of_heap hb2];rfl
 obtain ⟨k',cap',cur',rfl,q1,q2,q3,q4⟩:=hnew
 go_wp2
 go_ret2
 refine ⟨rfl,⟨_,by simp [World.setCell,Array.getElem?_modify,hb2],k',cap',cur',rfl, ?_,q2,q3.imp id (fun h=> Nat.le_trans kp1.size h),q4⟩, ?_⟩
 ·exact (Below.heap_setCell _ _ _ _ (fun e=> q2 (by simp [e]))).trans q1
 ·refine (kp1.trans (b2:=some b) (g2:=k) hgrow fun j _ h1 h2=> ⟨h1,by simp,by simp,h2⟩).trans (Jo0 hb2 1 _) fun j _ h1 h2=> ⟨h1,h2,h1,by simp⟩
theorem Jo2 (L:Lays.n169 P ρ) (X:Builder.Extra P ρ) {b k cap:Nat} {p:Value} {l:List UInt8} {cur:Array Value} (w:World) (hb:w.heap[b]? =some (.cells #[p, .slice (some ⟨k,0,none⟩) l.length cap] (ρ.t 72) (0,0)))
 (hk:w.heap[k]? =some (.cells cur (ρ.t 5) (0,0))) (h0:l≠ []) (hn:l.length≤cap) (hcm:cap≤maxLen) (hcs:cur.size=cap) (ht:cur.toList.take l.length=Lib.byteCells l):
 Calls P (ρ.f 169) #[.pointer (some ⟨b,0,none⟩)] w fun e w'=> e= .returned (.string ⟨l.toArray⟩)∧w'=w.drew.freeze ⟨k,0,none⟩ l.length:=by
 have hl0:l.length≠0:=by simpa using h0
 have c1:w.drew.cell? ⟨b,1,none⟩=some (.slice (some ⟨k,0,none⟩) l.length cap):=by
  have:w.drew.heap[b]? =some (.cells #[p, .slice (some ⟨k,0,none⟩) l.length cap] (ρ.t 72) (0,0)):=hb;rw [Lib.cell_of_heap this];rfl
 have hk':w.drew.heap[k]? =some (.cells cur (ρ.t 5) (0,0)):=hk
 have hSD:(Builtin.unsafeSliceData_ #[(ρ.t 37)] (ρ.t 127) #[.slice (some ⟨k,0,none⟩) l.length cap]).run P w.drew= .ok (.pointer (some ⟨k,0,none⟩)) w.drew:=
  Lib.run_unsafeSliceData_row _ _ _ _ _ _ Om
 have hUS:(Builtin.unsafeString_ #[(ρ.t 127),(ρ.t 3)] (ρ.t 9) #[.pointer (some ⟨k,0,none⟩), .int .i64 l.length]).run P w.drew= .ok (.string ⟨l.toArray⟩) (w.drew.freeze ⟨k,0,none⟩ l.length):=by
  refine Lib.run_unsafeString_row w.drew (ρ.t 127) (ρ.t 3) (ρ.t 9) (ρ.t 5) L.t127 X.cellsByte k cur.size (by simp [World.shape?,hk']) l h0 Om (by unfold maxLen at hcm;omega) ?_;intro j x hx;have hj:=(List.getElem?_eq_some_iff.1 hx).1;rw [J1,Nat.zero_add,Jz hk',← Array.getElem?_toList,← List.getElem?_take_of_lt hj,ht];simp [Lib.byteCells,hx]
 have mixed:=L.mixed
 have t72:=L.t72;have a72:=L.a72;have z72:=L.z72;have v72:=L.v72;have u72:=run_underlying L.t72
 have t70:=L.t70;have a70:=L.a70;have z70:=L.z70;have v70:=L.v70;have u70:=run_underlying L.t70
 have t37:=L.t37;have a37:=L.a37;have z37:=L.z37;have v37:=L.v37;have u37:=run_underlying L.t37
 have t127:=L.t127;have a127:=L.a127;have z127:=L.z127;have v127:=L.v127;have u127:=run_underlying L.t127
 have t3:=L.t3;have a3:=L.a3;have z3:=L.z3;have v3:=L.v3;have u3:=run_underlying L.t3
 have t9:=L.t9;have a9:=L.a9;have z9:=L.z9;have v9:=L.v9;have u9:=run_underlying L.t9
 have t5:=X.t5;have a5:=X.a5;have z5:=X.z5;have v5:=X.v5;have u5:=run_underlying X.t5
 go_enter L.f169,Body.n169_ntmps ρ
 go_wp2
 go_region_o
 all_goals (go_wp2;go_ret;exact ⟨rfl,rfl⟩)
def sbH (nm s:Nat) (T e:TypeId) (bs:List Value):Option (Id×Nat)→List (Id×Own)
 | none=> [((nm,s), .sb T none)]
 | some (i,cap)=> [((nm,s), .sb T (some (i,bs.length,cap))),(i, .bt e bs cap)]
theorem JlZ {w:World} {X:Nat→Nat→Prop} {g:List Nat} {i:Id} {b:Nat} {tl:List Value} {us:List Value} (hg:g[i.2]? =some b) (h3:us.length=(AV.bp i 0::tl.map AV.v).length)
 (h4:∀(k:Nat) (c:AV) (u:Value),(AV.bp i 0::tl.map AV.v)[k]? =some c→us[k]? =some u→Rep w X g c u):us= .pointer (some ⟨b,0,none⟩)::tl:=by
 match us,h3,h4 with
 | a::us,h3,h4=>
 have ha:=h4 0 _ a rfl rfl
 obtain rfl:us=tl:=Ji5 (by simpa using h3) fun k c v hc hv=> h4 (k+1) c v (by simpa using hc) (by simpa using hv)
 cases ha with
 | bp _ _ b2 hg2=> rw [hg] at hg2;cases hg2;rfl
theorem Jj3 {w:World} {X:Nat→Nat→Prop} {g:List Nat} {nm s nx nn:Nat} {T e:TypeId} {bs:List Value} {bf:Option (Id×Nat)} (h0:bf=none→bs= []) (h:HOk w X g ⟨sbH nm s T e bs bf, [],nx,nn⟩):
 ∃b p v k,g[s]? =some b∧w.heap[b]? =some (.cells #[p,v] T (0,0))∧(p= .pointer none∨p= .pointer (some ⟨b,0,none⟩))∧SbRow w b e bs v k∧(∀j,k=some j→∃i cap,bf=some (i,cap)∧g[i.2]? =some j):=by
 match bf,h0,h with
 | none,h0,h=>
   obtain ⟨b,hb,p,v,h1,h2,h3⟩:=h.bx _ (.head _);rcases h3 with ⟨_,rfl⟩ | ⟨i,n,cap,k,h3,_⟩
   ·exact ⟨b,p,_,none,hb,h1,h2, .nn (h0 rfl),fun j hj=> by cases hj⟩
   ·cases h3
 | some (i,cap),_,h=>
   obtain ⟨b,hb,p,v,h1,h2,h3⟩:=h.bx _ (.head _);obtain ⟨k,hk,cur,q1,q2,q3,q4,q5⟩:=h.bx _ (.tail _ (.head _));have hnd:=h.nodup;dsimp only at hb hk;rcases h3 with ⟨h3,_⟩ | ⟨i',n,cap',k',h3,h4,rfl⟩
   ·cases h3
   ·cases h3;rw [hk] at h4;cases h4;have hne:k≠b:=fun e=> by
     subst e;simp only [Heap.ids,sbH,List.map_cons,List.map_nil,List.append_nil,hb,hk] at hnd;simp at hnd
    exact ⟨b,p,_,some k,hb,h1,h2, .ro k cap cur q1 hne q2 q3 q4 q5,fun j hj=> by cases hj;exact ⟨i,cap,rfl,hk⟩⟩
theorem JdJ {X:Nat→Nat→Prop} {g:List Nat} {nm s nx nn:Nat} {T e:TypeId} {bs:List Value} {bf:Option (Id×Nat)} {b o:Nat}:excl X g ⟨sbH nm s T e bs bf, [],nx,nn⟩ b o↔X b o∨g[s]? =some b∨∃i cap,bf=some (i,cap)∧g[i.2]? =some b:=by
 match bf with
 | none=> simp [excl,sbH]
 | some (i,cap)=>
   simp [excl,sbH]
theorem Jo3 {w w':World} {b:Nat} {k:Option Nat} {M:Nat→Nat→Prop} (h:Kept (some b) k w w') (hb:∀o,M b o) (hk:∀j o,k=some j→M j o) (hl:∀j,(j=b∨k=some j)→∀l,w.heap[j]? ≠some (.loop l)):Evo M w w':=by
 have hne:∀j o,¬M j o→some j≠some b∧some j≠k:=fun j o hn=> ⟨fun e=> hn (by cases e;exact hb o),fun e=> hn (hk j o e.symm)⟩
 exact ⟨h.os,h.tape,h.output,h.size,fun j hj hn=> h.block j hj (hne j 0 (hn 0)).1 (hne j 0 (hn 0)).2,fun j o hj hn=> World.cell?_of_block (a:=⟨j,o,none⟩) (h.block j hj (hne j o hn).1 (hne j o hn).2),
  fun j vs e fz hj=> h.room j vs e fz hj,fun j l hj=> ⟨l,(h.block j (Jl hj) (fun e=> hl j (.inl (by cases e;rfl)) l hj) (fun e=> hl j (.inr e.symm) l hj)).trans hj⟩⟩
theorem JnV (L:Lays.n166 P ρ) (X:Builder.Extra P ρ) (hcb:Jbi P (ρ.f 166)) {nm s nx nn:Nat} (bn:Nat) {bs:List Value} {bf:Option (Id×Nat)} (h0:bf=none→bs= []) (str:ByteArray) (hs:0 < str.size) (hlen:bs.length+str.size≤140737488355328):
 ECall P (ρ.f 166) [.bp (nm,s) 0, .v (.string str)] ⟨sbH nm s (ρ.t 72) (ρ.t 5) bs bf, [],nx,nn⟩ fun r h'=> r= .tup [.v (.int .i64 str.size), .v .nilIface]∧
  ∃s' cap nx',h'=⟨sbH nm s (ρ.t 72) (ρ.t 5) (bs++Lib.strCells str) (some ((bn,s'),cap)), [],nx',nn⟩:=by
 refine ⟨hcb,fun Xx w g us h1 h2 h3 h4=> ?_⟩
 obtain ⟨b,p,v,k,hgb,hb,hp,hv,hk⟩:=Jj3 h0 h1
 obtain rfl:=JlZ (tl:= [.string str]) hgb h3 h4
 refine (JdE P _).mono (w0:=w) (g:=g) (R:=_) (JqV L X str w hb hp hv hs hlen) fun e w' ⟨he,⟨v',hb',k',cap',cur',hv',hk',hne',hor,q1,q2,q3,q4⟩,hkept⟩=> ?_
 subst hv'
 have hev:Evo (excl none2 g ⟨sbH nm s (ρ.t 72) (ρ.t 5) bs bf, [],nx,nn⟩) w w':=Jo3 hkept (fun o=> JdJ.2 (.inr (.inl hgb))) (fun j o hj=> JdJ.2 (.inr (.inr (hk j hj)))) (by
  rintro j (rfl | hj) l hl
  ·rw [hb] at hl;cases hl
  ·cases hv with
   | nn _=> cases hj
   | ro k cap cur hc=> cases hj;rw [hc] at hl;cases hl)
 have hsm:s∈(⟨sbH nm s (ρ.t 72) (ρ.t 5) bs bf, [],nx,nn⟩:Heap).ids:=by cases bf <;> simp [Heap.ids,sbH]
 obtain ⟨g',s',nx',hg,hgk,hnx,hX,hO⟩:∃(g':List Nat) (s' nx':Nat),(∀(i b:Nat),g[i]? =some b→g'[i]? =some b)∧g'[s']? =some k'∧nx'=g'.length∧(∀o,¬Xx k' o)∧(k' < w.heap.size→∃i cap,bf=some (i,cap)∧g[i.2]? =some k'):=by
  rcases hor with hor | hor
  ·obtain ⟨i,cap,rfl,hi⟩:=hk k' hor;exact ⟨g,i.2,nx,fun _ _ h=> h,hi,h1.nx,fun o hx=> h2 k' o hx i.2 (by simp [Heap.ids,sbH]) hi,fun _=> ⟨i,cap,rfl,hi⟩⟩
  ·refine ⟨g++ [k'],g.length,g.length+1,fun i b h=> by rw [List.getElem?_append_left (List.getElem?_eq_some_iff.1 h).1];exact h,by simp,by simp,fun o hx=> ?_,fun h=> by omega⟩;have:=h1.bd _ _ (.inl hx:excl Xx g _ k' o);omega
 have hx:∀(Y:Nat→Nat→Prop) b0 o,b0 < w.heap.size→excl Y g' ⟨sbH nm s (ρ.t 72) (ρ.t 5) (bs++Lib.strCells str) (some ((bn,s'),cap')), [],nx',nn⟩ b0 o→excl Y g ⟨sbH nm s (ρ.t 72) (ρ.t 5) bs bf, [],nx,nn⟩ b0 o:=fun Y b0 o hb0 hx=> by
  rcases JdJ.1 hx with hx | hx | ⟨i,cap,e,hx⟩
  ·exact JdJ.2 (.inl hx)
  ·rw [hg _ _ hgb] at hx;cases hx;exact JdJ.2 (.inr (.inl hgb))
  ·cases e;rw [hgk] at hx;cases hx;exact JdJ.2 (.inr (.inr (hO hb0)))
 have hst:=hev.stays (X:=excl Xx g ⟨sbH nm s (ρ.t 72) (ρ.t 5) bs bf, [],nx,nn⟩) (fun b0 o _ h=> Jas h) (hx Xx) hg
 refine ⟨.ret (.tup [.v (.int .i64 str.size), .v .nilIface]),⟨sbH nm s (ρ.t 72) (ρ.t 5) (bs++Lib.strCells str) (some ((bn,s'),cap')), [],nx',nn⟩,g',⟨_,he, .tup _ [.int .i64 str.size, .nilIface] rfl fun k c u hc hu=> ?_⟩,⟨rfl,s',cap',nx',rfl⟩,hg,⟨fun q hq=> ?_,fun q hq=> (by cases hq), ?_,hnx,fun b0 o hx0=> ?_,h1.kn.stays hst⟩,fun b0 o hx0 i hi hgi=> ?_,hev,fun b0 o hx0 hb0=> hx none2 b0 o hb0 hx0⟩
 ·rcases k with _ | _ | k
  ·simp at hc hu;subst hc;subst hu;exact .v _
  ·simp at hc hu;subst hc;subst hu;exact .v _
  ·simp at hc
 ·rcases List.mem_cons.1 hq with rfl | hq
  ·exact ⟨b,hg _ _ hgb,_,_,hb', .inr rfl, .inr ⟨_,_,_,k',rfl,hgk,rfl⟩⟩
  ·obtain rfl:=List.mem_singleton.1 hq;exact ⟨k',hgk,cur',hk',q1,q2,q3,q4⟩
 ·have:b≠k':=fun e=> hne' e.symm;simp [Heap.ids,sbH,hg _ _ hgb,hgk,this]
 ·rcases JdJ.1 hx0 with hx0 | hx0 | ⟨i,cap,e,hx0⟩
  ·exact Nat.lt_of_lt_of_le (h1.bd _ _ (.inl hx0)) hkept.size
  ·rw [hg _ _ hgb] at hx0;cases hx0;exact Jl hb'
  ·cases e;rw [hgk] at hx0;cases hx0;exact Jl hk'
 ·have hi:i=s∨i=s':=by simpa [Heap.ids,sbH] using hi
  rcases hi with rfl | rfl
  ·rw [hg _ _ hgb] at hgi;cases hgi;exact h2 b o hx0 i hsm hgb
  ·rw [hgk] at hgi;cases hgi;exact hX o hx0
theorem JqW (L:Lays.n170 P ρ) (hcb:Jbi P (ρ.f 170)) {nm s nx nn:Nat} {bs:List Value} {i:Id} {cap:Nat}:
 ECall P (ρ.f 170) [.bp (nm,s) 0] ⟨sbH nm s (ρ.t 72) (ρ.t 5) bs (some (i,cap)), [],nx,nn⟩ fun r h'=> r= .v (.int .i64 bs.length)∧h'=⟨sbH nm s (ρ.t 72) (ρ.t 5) bs (some (i,cap)), [],nx,nn⟩:=by
 refine ⟨hcb,fun Xx w g us h1 h2 h3 h4=> ?_⟩
 obtain ⟨b,p,v,k,hgb,hb,hp,hv,hk⟩:=Jj3 (fun h=> by cases h) h1
 obtain rfl:=JlZ (tl:= []) hgb h3 h4
 have hB:Lib.IsBuilder (ρ.t 72) (ρ.t 5) 0 b bs w:=by
  have hA:Lib.BuilderAt (ρ.t 72) (ρ.t 5) 0 b p bs w:=by
   cases hv with
   | nn e=> subst e;exact ⟨Nat.zero_le _,_,hb,⟨rfl, .inl ⟨rfl,rfl⟩⟩,by simp [Value.ownBlock]⟩
   | ro k cap cur q1 q2 q3 q4 q5 q6=> exact ⟨Nat.zero_le _,_,hb,⟨by simp, .inr ⟨k,cap,cur,rfl,Nat.zero_le _,q1,q3,q4,Om,by simpa using q6⟩⟩,by simp [Value.ownBlock,q2]⟩
  rcases hp with rfl | rfl
  ·exact .inl hA
  ·exact .inr hA
 refine (JdE P _).mono (w0:=w) (g:=g) (R:=_) (Any.Builder_Len L 0 b bs w hB) fun e w' ⟨he,hw⟩=> ?_
 subst hw
 exact ⟨.ret (.v (.int .i64 bs.length)),_,g,⟨_,he, .v _⟩,⟨rfl,rfl⟩,fun _ _ h=> h,h1,h2,Evo.refl _ _,fun _ _ h _=> h⟩
theorem Jl0 (L:Lays.n169 P ρ) (X:Builder.Extra P ρ) (hcb:Jbi P (ρ.f 169)) {nm s nx nn:Nat} {l:List UInt8} {i:Id} {cap:Nat} (h0:l≠ []):
 ECall P (ρ.f 169) [.bp (nm,s) 0] ⟨sbH nm s (ρ.t 72) (ρ.t 5) (Lib.byteCells l) (some (i,cap)), [],nx,nn⟩ fun r h'=> r= .v (.string ⟨l.toArray⟩)∧h'=⟨[], [],nx,nn⟩:=by
 refine ⟨hcb,fun Xx w g us h1 h2 h3 h4=> ?_⟩
 obtain ⟨b,p,v,k,hgb,hb,hp,hv,hk⟩:=Jj3 (fun h=> by cases h) h1
 obtain rfl:=JlZ (tl:= []) hgb h3 h4
 cases hv with
 | nn e=> exact absurd (List.map_eq_nil_iff.1 e) h0
 | ro k cp cur q1 q2 q3 q4 q5 q6=>
   rw [Lib.byteCells_length] at hb q3 q6;refine (JdE P _).mono (w0:=w) (g:=g) (R:=_) (Jo2 L X w hb q1 h0 q3 q4 q5 q6) fun e w' ⟨he,hw⟩=> ?_;have hl0:¬l.length=0:=by simpa using h0
   unfold World.freeze at hw;rw [if_neg hl0] at hw;have hk':w'.heap[k]? =some (.cells cur (ρ.t 5) (0,l.length)):=by
    subst hw;show (w.heap.modify k _)[k]? =_;rw [Array.getElem?_modify,if_pos rfl,q1];simp
   have hoth:∀j,j≠k→w'.heap[j]? =w.heap[j]? :=fun j hj=> by
    subst hw;show (w.heap.modify k _)[j]? =_;rw [Array.getElem?_modify,if_neg (Ne.symm hj)]
   have hsz:w.heap.size≤w'.heap.size:=by
    subst hw;show _≤(w.heap.modify k _).size;simp
   have hkept:Kept (some b) (some k) w w':=by
    refine ⟨by subst hw;rfl,by subst hw;rfl,by subst hw;rfl,hsz,fun j _ _ hj=> hoth j (fun e=> hj (by rw [e])),fun j vs e' fz hj=> ?_⟩;by_cases hjk:j=k
    ·subst hjk;rw [q1] at hj;cases hj;exact RoomTo.mk cur hk' rfl
    ·exact ⟨vs,(hoth j hjk).trans hj,rfl⟩
   have hev:Evo (excl none2 g ⟨sbH nm s (ρ.t 72) (ρ.t 5) (Lib.byteCells l) (some (i,cap)), [],nx,nn⟩) w w':=Jo3 hkept (fun o=> JdJ.2 (.inr (.inl hgb))) (fun j o hj=> JdJ.2 (.inr (.inr (hk j hj)))) (by
    rintro j (rfl | hj) l hl
    ·rw [hb] at hl;cases hl
    ·cases hj;rw [q1] at hl;cases hl)
   have hx:∀(Y:Nat→Nat→Prop) b0 o,excl Y g ⟨[], [],nx,nn⟩ b0 o→Y b0 o:=fun Y b0 o hx=> by
    rcases hx with hx | ⟨p,hp,_⟩ | ⟨p,hp,_⟩
    ·exact hx
    ·cases hp
    ·cases hp
   have hst:=hev.stays (X:=excl Xx g ⟨sbH nm s (ρ.t 72) (ρ.t 5) (Lib.byteCells l) (some (i,cap)), [],nx,nn⟩) (X':=excl Xx g ⟨[], [],nx,nn⟩) (g:=g) (g':=g) (fun b0 o _ h=> Jas h) (fun b0 o _ h=> .inl (hx Xx b0 o h)) (fun _ _ h=> h);exact ⟨.ret (.v (.string ⟨l.toArray⟩)),⟨[], [],nx,nn⟩,g,⟨_,he, .v _⟩,⟨rfl,rfl⟩,fun _ _ h=> h,⟨fun q hq=> (by cases hq),fun q hq=> (by cases hq),(by simp [Heap.ids]),h1.nx,fun b0 o h=> Nat.lt_of_lt_of_le (h1.bd _ _ (.inl (hx Xx b0 o h))) hsz,h1.kn.stays hst⟩,
    fun b0 o _ i hi=> (by simp [Heap.ids] at hi),hev,fun b0 o h _=> (hx none2 b0 o h).elim⟩
theorem Jl1 {f:FuncId} {ars:List AV} {s:AV} (h:Tells P f ars s):PCall P f ars (fun r=> r=s):=fun nx=> by
 refine ⟨(h nx).1,fun X w g us h1 h2 h3 h4=> ?_⟩
 refine (JdE P f).mono (w0:=w) (g:=g) ((h nx).2 X w g us h1 h2 h3 h4) fun e w' ⟨r,h',g',a1,a2,a3⟩=> ?_
 cases r with
 | pan x=> exact a2.elim
 | ret r=>
   obtain ⟨u,e1,e2⟩:=a1;exact ⟨.ret s,h',g',⟨u,e1,a2.1 _ _ _ _ e2⟩,⟨rfl,a2.2⟩,a3⟩
end Go.Vl

namespace Go.Proofs.W
structure Cnd where
 arg:Int
 op:Int
 mask:Nat
 value:Nat
deriving DecidableEq
def cnd0:Cnd:=⟨0,0,0,0⟩
def Cnd.ok (c:Cnd):Prop:=c.mask < 18446744073709551616∧c.value < 18446744073709551616
def rightC (c:Cnd):Bool:=decide (0≤c.arg)&& decide (c.arg≤5)&& decide (1≤c.op)&& decide (c.op≤7)&& (decide (c.op=7)|| decide (c.mask=0))
def JgP (v m:Nat):Nat:=v&&& (18446744073709551615 - m)
def isC (b:Bool):Cnd×Nat:=(cnd0,if b then 1 else 2)
def asC (c:Cnd) (op:Int) (v:Nat):Cnd×Nat:=(⟨c.arg,op,0,v⟩,0)
def JaC (c:Cnd) (v:Nat):Cnd×Nat:=if v=0 then isC false else if v=1 then asC c 1 0 else asC c 3 v
def Jba (c:Cnd) (v:Nat):Cnd×Nat:=if v=0 then isC true else if v=18446744073709551615 then asC c 1 v else asC c 6 v
def Jc2 (c:Cnd):Cnd×Nat:=if JgP c.value c.mask≠0 then isC false else if c.mask=0 then isC true else if c.mask=18446744073709551615 then asC c 1 c.value else (c,0)
def JaF (c:Cnd):Cnd×Nat:=
 if c.op=3 then JaC c c.value
 else if c.op=6 then Jba c c.value
 else if c.op=7 then Jc2 c
 else if c.op=4 then (if c.value=18446744073709551615 then isC true else JaC c (c.value+1))
 else if c.op=5 then (if c.value=18446744073709551615 then isC false else Jba c (c.value+1))
 else (c,0)
def JN (c:Cnd):Cnd×Nat:=if rightC c then JaF c else isC false
def JaD (c:Cnd) (a:Nat):Bool:=
 if c.op=1 then decide (a=c.value)
 else if c.op=2 then !decide (a=c.value)
 else if c.op=3 then decide (a < c.value)
 else if c.op=4 then decide (a≤c.value)
 else if c.op=5 then decide (a > c.value)
 else if c.op=6 then decide (a≥c.value)
 else decide (a&&& c.mask=c.value)
theorem JX {c:Cnd}:rightC c=true↔0≤c.arg∧c.arg≤5∧1≤c.op∧c.op≤7∧(c.op=7∨c.mask=0):=by
 simp [rightC,and_assoc]
theorem JrK {v m:Nat} (hm:m < 2 ^ 64) (i:Nat):(JgP v m).testBit i=(v.testBit i&& (decide (i < 64)&& !m.testBit i)):=by
 unfold JgP
 rw [Nat.testBit_and,show (18446744073709551615:Nat) - m=2 ^ 64 - (m+1) by omega,Nat.testBit_two_pow_sub_succ hm]
set_option maxRecDepth 10000 in
theorem Jj4 {v m:Nat} (hv:v < 2 ^ 64) (hm:m < 2 ^ 64):JgP v m=0↔v||| m=m:=by
 have hb:∀i,¬i < 64→v.testBit i=false:=fun i hi=> Nat.testBit_lt_two_pow (Nat.lt_of_lt_of_le hv (Nat.pow_le_pow_right Dc Om))
 constructor
 ·intro h;refine Nat.eq_of_testBit_eq fun i=> ?_;have h1:=JrK (v:=v) hm i;rw [h,Nat.zero_testBit] at h1;rw [Nat.testBit_or];by_cases hi:i < 64
  ·rw [decide_eq_true hi] at h1
   revert h1
   cases v.testBit i <;> cases m.testBit i <;> decide
  ·rw [hb i hi];simp
 ·intro h;refine Nat.eq_of_testBit_eq fun i=> ?_;rw [JrK hm,Nat.zero_testBit];have h1:=congrArg (·.testBit i) h;simp only [Nat.testBit_or] at h1
  revert h1
  cases v.testBit i <;> cases m.testBit i <;> simp
theorem JqX {c:Cnd} (ho:c.ok) (hr:rightC c=true) {a:Nat} (ha:a < 18446744073709551616):
 ((JN c).2=1→JaD c a=true)∧((JN c).2=2→JaD c a=false)∧((JN c).2=0→rightC (JN c).1=true∧(JN c).1.arg=c.arg∧JaD (JN c).1 a=JaD c a):=by
 obtain ⟨h1,h2,h3,h4,h5⟩:=JX.1 hr
 obtain ⟨o1,o2⟩:=ho
 obtain ⟨arg,op,mask,value⟩:=c
 dsimp only at h1 h2 h3 h4 h5 o1 o2
 unfold JN
 rw [if_pos hr]
 have hop:op=1∨op=2∨op=3∨op=4∨op=5∨op=6∨op=7:=by omega
 rcases hop with rfl | rfl | rfl | rfl | rfl | rfl | rfl
 ·simp [JaF,hr]
 ·simp [JaF,hr]
 ·obtain rfl:mask=0:=by omega
  simp only [JaF,if_true,JaC];split
  ·simp [isC,JaD];(first | omega | rfl | exact decide_eq_decide.2 Om)
  ·split
   ·simp [asC,JaD,rightC,h1,h2];(first | omega | rfl | exact decide_eq_decide.2 Om)
   ·simp [asC,JaD,rightC,h1,h2];try rfl
 ·obtain rfl:mask=0:=by omega
  simp only [JaF];simp only [show ((4:Int)=3)=False by simp,show ((4:Int)=6)=False by simp,show ((4:Int)=7)=False by simp,if_false,if_true];split
  ·simp [isC,JaD];(first | omega | rfl | exact decide_eq_decide.2 Om)
  ·simp only [JaC];split
   ·omega
   ·split
    ·simp [asC,JaD,rightC,h1,h2];(first | omega | rfl | exact decide_eq_decide.2 Om)
    ·simp [asC,JaD,rightC,h1,h2];(first | omega | rfl | exact decide_eq_decide.2 Om)
 ·obtain rfl:mask=0:=by omega
  simp only [JaF];simp only [show ((5:Int)=3)=False by simp,show ((5:Int)=6)=False by simp,show ((5:Int)=7)=False by simp,show ((5:Int)=4)=False by simp,if_false,if_true];split
  ·simp [isC,JaD];(first | omega | rfl | exact decide_eq_decide.2 Om)
  ·simp only [Jba];split
   ·omega
   ·split
    ·simp [asC,JaD,rightC,h1,h2];(first | omega | rfl | exact decide_eq_decide.2 Om)
    ·simp [asC,JaD,rightC,h1,h2];(first | omega | rfl | exact decide_eq_decide.2 Om)
 ·obtain rfl:mask=0:=by omega
  simp only [JaF];simp only [show ((6:Int)=3)=False by simp,if_false,if_true,Jba];split
  ·simp [isC,JaD];(first | omega | rfl | exact decide_eq_decide.2 Om)
  ·split
   ·simp [asC,JaD,rightC,h1,h2];(first | omega | rfl | exact decide_eq_decide.2 Om)
   ·simp [asC,JaD,rightC,h1,h2]
 ·simp only [JaF];simp only [show ((7:Int)=3)=False by simp,show ((7:Int)=6)=False by simp,if_false,if_true,Jc2];have hor:a&&& mask||| mask=mask:=by
   refine Nat.eq_of_testBit_eq fun i=> ?_;rw [Nat.testBit_or,Nat.testBit_and];cases a.testBit i <;> cases mask.testBit i <;> rfl
  split
  ·rename_i hz
   have hz':¬(value||| mask=mask):=fun h=> hz ((Jj4 o2 o1).2 h);have:¬(a&&& mask=value):=fun h=> hz' (by rw [← h];exact hor);simp [isC,JaD,this]
  ·rename_i hz
   have hz':value||| mask=mask:=(Jj4 o2 o1).1 (Decidable.not_not.1 hz);split
   ·rename_i hm
    subst hm;have:value=0:=(by simpa using hz');simp [isC,JaD,this]
   ·split
    ·rename_i hm
     subst hm;have hmask:a&&& 18446744073709551615=a:=by
      rw [show (18446744073709551615:Nat)=2 ^ 64 - 1 by decide,Nat.and_two_pow_sub_one_eq_mod];exact Nat.mod_eq_of_lt (by simpa using ha)
     simp [asC,JaD,rightC,h1,h2,hmask];rfl
    ·simp [hr]
open Go.Vl
structure Ins where
 code:Nat
 jt:Nat
 jf:Nat
 k:Nat
deriving DecidableEq
def Ins.ok (i:Ins):Prop:=i.code < 65536∧i.jt < 256∧i.jf < 256∧i.k < 4294967296
set_option maxRecDepth 100000
def int (n:Int):AV:= .v (.int .i64 n)
def u8 (n:Int):AV:= .v (.int .u8 n)
def u32 (n:Int):AV:= .v (.int .u32 n)
def boolA (b:Bool):AV:= .v (.bool b)
def u64 (n:Int):AV:= .v (.int .u64 n)
theorem JaY {a b:Int}:(false=(a ==b))↔a≠b:=by rw [eq_comm];simp
theorem JaZ {a b:Int}:(true=(a ==b))↔a=b:=by rw [eq_comm];simp
theorem JaR {a b:Int}:(false=(a !=b))↔a=b:=by rw [eq_comm];simp
theorem JaS {a b:Int}:(true=(a !=b))↔a≠b:=by rw [eq_comm];simp
theorem Ja0 {p:Prop} [Decidable p]:(false=decide p)↔¬p:=by rw [eq_comm];simp
theorem Ja1 {p:Prop} [Decidable p]:(true=decide p)↔p:=by rw [eq_comm];simp
def Jt (c:Cnd):AV:= .ag [int c.arg,int c.op,u64 c.mask,u64 c.value]
def JaT (l:List Cnd):AV:=JF 4 Jt cnd0 l
theorem JeQ (b:Bool):Tells Tryz.prog 148 [boolA b] (.tup [Jt (isC b).1,int (isC b).2]):=by
 refine Jc Tryz.func148 rfl rfl fun nx=> ?_
 cases b
 ·refine Z ?_;exact Jf rfl ⟨rfl,Tt⟩ Rf
 ·refine Z ?_;exact Jf rfl ⟨rfl,Tt⟩ Rf
theorem Jg5 (c:Cnd) (op:Int) (v:Nat):Tells Tryz.prog 245 [Jt c,int op,u64 v] (.tup [Jt (asC c op v).1,int (asC c op v).2]):=by
 refine Jc Tryz.func245 rfl rfl fun nx=> ?_
 refine Z ?_
 exact Jf rfl ⟨rfl,Tt⟩ Rf
theorem JdK (c:Cnd):Tells Tryz.prog 126 [Jt c] (boolA (rightC c)):=by
 refine Jc Tryz.func126 rfl rfl fun nx=> ?_
 (repeat' (refine Z ?_;intro c h;cases c))
 all_goals
  refine Z ?_;refine Jb rfl (Jp ?_)
  (try simp only [JaY, JaZ, Ja0, Ja1, JaR, JaS] at *)
  simp [rightC];omega
theorem JkM (c:Cnd) (v:Nat):Tells Tryz.prog 201 [Jt c,u64 v] (.tup [Jt (JaC c v).1,int (JaC c v).2]):=by
 refine Jc Tryz.func201 rfl rfl fun nx=> ?_
 refine Z ?_
 intro c h1;cases c
 ·refine Z ?_;intro c h2;cases c
  ·refine Z ?_;refine Ja rfl rfl (Jg5 c 3 v) Y3 fun nx=> ?_;refine Z ?_
   (try simp only [JaY, JaZ, Ja0, Ja1, JaR, JaS] at *)
   rw [JaC,if_neg Om,if_neg Om];exact Jf rfl ⟨rfl,Tt⟩ Rf
  ·refine Z ?_;refine Ja rfl rfl (Jg5 c 1 0) Y3 fun nx=> ?_;refine Z ?_
   (try simp only [JaY, JaZ, Ja0, Ja1, JaR, JaS] at *)
   rw [JaC,if_neg Om,if_pos Om];exact Jf rfl ⟨rfl,Tt⟩ Rf
 ·refine Z ?_;refine Ja rfl rfl (JeQ false) Y1 fun nx=> ?_;refine Z ?_
  (try simp only [JaY, JaZ, Ja0, Ja1, JaR, JaS] at *)
  rw [JaC,if_pos Om];exact Jf rfl ⟨rfl,Tt⟩ Rf
theorem JmQ (c:Cnd) (v:Nat):Tells Tryz.prog 203 [Jt c,u64 v] (.tup [Jt (Jba c v).1,int (Jba c v).2]):=by
 refine Jc Tryz.func203 rfl rfl fun nx=> ?_
 refine Z ?_
 intro c h1;cases c
 ·refine Z ?_;intro c h2;cases c
  ·refine Z ?_;refine Ja rfl rfl (Jg5 c 6 v) Y3 fun nx=> ?_;refine Z ?_
   (try simp only [JaY, JaZ, Ja0, Ja1, JaR, JaS] at *)
   rw [Jba,if_neg Om,if_neg Om];exact Jf rfl ⟨rfl,Tt⟩ Rf
  ·refine Z ?_;refine Ja rfl rfl (Jg5 c 1 v) Y3 fun nx=> ?_;refine Z ?_
   (try simp only [JaY, JaZ, Ja0, Ja1, JaR, JaS] at *)
   rw [Jba,if_neg Om,if_pos Om];exact Jf rfl ⟨rfl,Tt⟩ Rf
 ·refine Z ?_;refine Ja rfl rfl (JeQ true) Y1 fun nx=> ?_;refine Z ?_
  (try simp only [JaY, JaZ, Ja0, Ja1, JaR, JaS] at *)
  rw [Jba,if_pos Om];exact Jf rfl ⟨rfl,Tt⟩ Rf
theorem JkN {a b:Nat} (ha:a < 18446744073709551616) (hb:b < 18446744073709551616):Jb2 .andNot .u64 a b=((JgP a b:Nat):Int):=
 JqM (k:= .u64) ha hb (by
  have:a&&& (2 ^ IntKind.u64.bits - 1 - b)≤a:=Nat.and_le_left;have:a&&& (2 ^ IntKind.u64.bits - 1 - b) < 18446744073709551616:=by omega
  simp [IntKind.wrap,IntKind.signed,IntKind.bits] at this⊢;omega)
theorem Ju1 (c:Cnd) (ho:c.ok):Tells Tryz.prog 199 [Jt c] (.tup [Jt (Jc2 c).1,int (Jc2 c).2]):=by
 refine Jc Tryz.func199 rfl rfl fun nx=> ?_
 refine Z ?_
 intro c h1;cases c
 all_goals
  rw [JkN ho.2 ho.1] at h1
 ·refine Z ?_;intro c h2;cases c
  ·refine Z ?_;intro c h3;cases c
   ·refine Z ?_
    (try simp only [JaY, JaZ, Ja0, Ja1, JaR, JaS] at *)
    rw [Jc2,if_neg Om,if_neg Om,if_neg Om];exact Jf rfl ⟨rfl,Tt⟩ Rf
   ·refine Z ?_;refine Ja rfl rfl (Jg5 c 1 c.value) Y3 fun nx=> ?_;refine Z ?_
    (try simp only [JaY, JaZ, Ja0, Ja1, JaR, JaS] at *)
    rw [Jc2,if_neg Om,if_neg Om,if_pos Om];exact Jf rfl ⟨rfl,Tt⟩ Rf
  ·refine Z ?_;refine Ja rfl rfl (JeQ true) Y1 fun nx=> ?_;refine Z ?_
   (try simp only [JaY, JaZ, Ja0, Ja1, JaR, JaS] at *)
   rw [Jc2,if_neg Om,if_pos Om];exact Jf rfl ⟨rfl,Tt⟩ Rf
 ·refine Z ?_;refine Ja rfl rfl (JeQ false) Y1 fun nx=> ?_;refine Z ?_
  (try simp only [JaY, JaZ, Ja0, Ja1, JaR, JaS] at *)
  rw [Jc2,if_pos Om];exact Jf rfl ⟨rfl,Tt⟩ Rf
theorem JmR (c:Cnd):Tells Tryz.prog 198 [Jt c] (.tup [Jt c,int 0]):=by
 refine Jc Tryz.func198 rfl rfl fun nx=> ?_
 refine Z ?_
 exact Jf rfl ⟨rfl,Tt⟩ Rf
theorem JsY (c:Cnd):Tells Tryz.prog 200 [Jt c] (.tup [Jt (JaC c c.value).1,int (JaC c c.value).2]):=by
 refine Jc Tryz.func200 rfl rfl fun nx=> ?_
 refine Z ?_
 refine Ja rfl rfl (JkM c c.value) Y2 fun nx=> ?_
 refine Z ?_
 exact Jf rfl ⟨rfl,Tt⟩ Rf
theorem JsZ (c:Cnd):Tells Tryz.prog 202 [Jt c] (.tup [Jt (Jba c c.value).1,int (Jba c c.value).2]):=by
 refine Jc Tryz.func202 rfl rfl fun nx=> ?_
 refine Z ?_
 refine Ja rfl rfl (JmQ c c.value) Y2 fun nx=> ?_
 refine Z ?_
 exact Jf rfl ⟨rfl,Tt⟩ Rf
def JkO (c:Cnd):Cnd×Nat:=if c.value=18446744073709551615 then isC true else JaC c (c.value+1)
def Jip (c:Cnd):Cnd×Nat:=if c.value=18446744073709551615 then isC false else Jba c (c.value+1)
theorem Jo4 {v:Nat} (h:v < 18446744073709551616) (h2:v≠18446744073709551615):IntKind.u64.wrap ((v:Int)+1)=((v+1:Nat):Int):=by
 simp [IntKind.wrap,IntKind.signed,IntKind.bits]
 omega
theorem Jfj {a b:Int} (h:a=b):AVle (.v (.int .u64 a)) (u64 b):=h ▸ Rf
theorem Js0 (c:Cnd) (ho:c.ok):Tells Tryz.prog 204 [Jt c] (.tup [Jt (JkO c).1,int (JkO c).2]):=by
 refine Jc Tryz.func204 rfl rfl fun nx=> ?_
 refine Z ?_
 intro c h1;cases c
 · (try simp only [JaY, JaZ, Ja0, Ja1, JaR, JaS] at *)
   have h2:c.value≠18446744073709551615:=by omega
   refine Z ?_;refine Ja rfl rfl (JkM c (c.value+1)) ⟨Rf,Jfj (Jo4 ho.2 h2),Tt⟩ fun nx=> ?_;refine Z ?_;rw [JkO,if_neg h2];exact Jf rfl ⟨rfl,Tt⟩ Rf
 ·refine Z ?_;refine Ja rfl rfl (JeQ true) Y1 fun nx=> ?_;refine Z ?_
  (try simp only [JaY, JaZ, Ja0, Ja1, JaR, JaS] at *)
  rw [JkO,if_pos Om];exact Jf rfl ⟨rfl,Tt⟩ Rf
theorem Js1 (c:Cnd) (ho:c.ok):Tells Tryz.prog 205 [Jt c] (.tup [Jt (Jip c).1,int (Jip c).2]):=by
 refine Jc Tryz.func205 rfl rfl fun nx=> ?_
 refine Z ?_
 intro c h1;cases c
 · (try simp only [JaY, JaZ, Ja0, Ja1, JaR, JaS] at *)
   have h2:c.value≠18446744073709551615:=by omega
   refine Z ?_;refine Ja rfl rfl (JmQ c (c.value+1)) ⟨Rf,Jfj (Jo4 ho.2 h2),Tt⟩ fun nx=> ?_;refine Z ?_;rw [Jip,if_neg h2];exact Jf rfl ⟨rfl,Tt⟩ Rf
 ·refine Z ?_;refine Ja rfl rfl (JeQ false) Y1 fun nx=> ?_;refine Z ?_
  (try simp only [JaY, JaZ, Ja0, Ja1, JaR, JaS] at *)
  rw [Jip,if_pos Om];exact Jf rfl ⟨rfl,Tt⟩ Rf
def fn0 (f:Nat):AV:= .fn (.func f) [] []
def Jgd:List (Value×AV):= [(.int .i64 1,fn0 198),(.int .i64 2,fn0 198),(.int .i64 7,fn0 199),(.int .i64 3,fn0 200),(.int .i64 6,fn0 202),(.int .i64 4,fn0 204),(.int .i64 5,fn0 205)]
theorem Js2:Tells Tryz.prog 149 [] (.fm Jgd):=by
 refine Jc Tryz.func149 rfl rfl fun nx=> ?_
 (repeat ((conv=>whnf);first|refine ω0 ?_|refine ω1 ?_|refine ω2 ?_|refine ω3 ?_|refine ω4 rfl ?_|refine ω5 rfl ?_|refine ω6 ?_|refine ω7 ?_|refine ⟨rfl,?_⟩|refine ⟨trivial,?_⟩|refine ⟨⟨rfl,Nat.le_of_ble_eq_true rfl⟩,?_⟩|refine ⟨⟨by kernel_rfl,by kernel_rfl⟩,?_⟩|refine ⟨by decide,?_⟩|refine Jga ?_|refine Jfg ?_))
 refine AW.le (Jcw (L:= [(0, .fm Jgd)]) (bx:= []) (pm:= []) (nn:=0) [((0,nx), .mp Jgd)] rfl rfl Sf .slnil ⟨Frz.om (.head _),Tt⟩) ?_
 refine Z ?_
 refine Jb rfl Rf
theorem NoId.fm {es:List (Value×AV)} (h:∀p∈es,NoId p.2):NoId (.fm es):=fun w X g g' u hr=> by
 cases hr with
 | fm _ b ents hb hx hn hk hr=> exact .fm es b ents hb hx hn hk fun k p e hp he=> h p (List.mem_of_getElem? hp) w X g g' _ (hr k p e hp he)
theorem Js3:NoId (.fm Jgd):=NoId.fm (by
 intro p hp
 simp only [Jgd,List.mem_cons,List.not_mem_nil,or_false] at hp
 rcases hp with rfl | rfl | rfl | rfl | rfl | rfl | rfl <;> exact NoId.fn Si Si)
theorem Jw4 (c:Cnd) (n:Int):NoId (.tup [Jt c,int n]):=NoId.tup (by
 intro x hx
 simp only [List.mem_cons,List.not_mem_nil,or_false] at hx
 rcases hx with rfl | rfl
 ·exact NoId.ag (by intro y hy;simp only [List.mem_cons,List.not_mem_nil,or_false] at hy;rcases hy with rfl | rfl | rfl | rfl <;> exact NoId.v _)
 ·exact NoId.v _)
theorem Ju2 (c:Cnd) (ho:c.ok):Tells Tryz.prog 97 [Jt c] (.tup [Jt (JN c).1,int (JN c).2]):=by
 cases hr:rightC c
 ·refine Jc Tryz.func97 rfl rfl fun nx=> ?_;refine Z ?_;refine Ja rfl rfl (JdK c) Y1 fun nx=> ?_;rw [hr];refine Z ?_;refine Ja rfl rfl (JeQ false) Y1 fun nx=> ?_;refine Z ?_;rw [JN,hr];exact Jf rfl ⟨rfl,Tt⟩ Rf
 ·have hop:=JX.1 hr;have key:∀f:Nat,∀q:Cnd×Nat,JaF c=q→JaV (.int .i64 c.op) Jgd=some (fn0 f)→Tells Tryz.prog f [Jt c] (.tup [Jt q.1,int q.2])→Tells Tryz.prog 97 [Jt c] (.tup [Jt (JN c).1,int (JN c).2]):=by
   intro f q hq hal hf;refine Jc Tryz.func97 rfl rfl fun nx=> ?_;refine Z ?_;refine Ja rfl rfl (JdK c) Y1 fun nx=> ?_;rw [hr];refine Z ?_
   (refine JL 8 Kr Kr Kr ?_)
   refine Z ?_;refine Jau (JQ rfl rfl Js2 trivial Js3) ?_;refine Z ?_;refine Ji (b:=fn0 f) (by
    show Jeu (JaV (.int .i64 c.op) Jgd) _ false=_;rw [hal];rfl) ?_
   refine Z ?_;refine Jau (JQ rfl rfl hf Y1 (Jw4 _ _)) ?_;refine Z ?_;rw [JN,if_pos hr,hq];exact Jf rfl ⟨rfl,Tt⟩ Rf
  obtain ⟨arg,op,mask,value⟩:=c;dsimp only at hop;have h7:op=1∨op=2∨op=3∨op=4∨op=5∨op=6∨op=7:=by omega
  rcases h7 with rfl | rfl | rfl | rfl | rfl | rfl | rfl
  ·exact key _ (⟨arg,1,mask,value⟩,0) rfl rfl (JmR _)
  ·exact key _ (⟨arg,2,mask,value⟩,0) rfl rfl (JmR _)
  ·exact key _ (JaC ⟨arg,3,mask,value⟩ value) rfl rfl (JsY _)
  ·exact key _ (JkO ⟨arg,4,mask,value⟩) rfl rfl (Js0 _ ho)
  ·exact key _ (Jip ⟨arg,5,mask,value⟩) rfl rfl (Js1 _ ho)
  ·exact key _ (Jba ⟨arg,6,mask,value⟩ value) rfl rfl (JsZ _)
  ·exact key _ (Jc2 ⟨arg,7,mask,value⟩) rfl rfl (Ju1 _ ho)
theorem JrL {a b:Nat} (ha:a < 18446744073709551616) (hb:b < 18446744073709551616):Jb2 .and .u64 a b=((a&&& b:Nat):Int):=
 JoF (k:= .u64) ha hb (by
  have:a&&& b≤a:=Nat.and_le_left;simp [IntKind.wrap,IntKind.signed,IntKind.bits] at this⊢;omega)
theorem Js4 (a:Nat) (c:Cnd):Tells Tryz.prog 164 [u64 a,Jt c] (boolA (decide (a=c.value))):=by
 refine Jc Tryz.func164 rfl rfl fun nx=> ?_
 refine Z ?_
 intro c h;cases c
 all_goals
  refine Z ?_;refine Jb rfl (Jp ?_)
  (try simp only [JaY, JaZ, Ja0, Ja1, JaR, JaS] at *)
  first | omega | (simp;omega)
theorem Js5 (a:Nat) (c:Cnd):Tells Tryz.prog 165 [u64 a,Jt c] (boolA (!decide (a=c.value))):=by
 refine Jc Tryz.func165 rfl rfl fun nx=> ?_
 refine Z ?_
 intro c h;cases c
 all_goals
  refine Z ?_;refine Jb rfl (Jp ?_)
  (try simp only [JaY, JaZ, Ja0, Ja1, JaR, JaS] at *)
  first | omega | (simp;omega)
theorem Js6 (a:Nat) (c:Cnd):Tells Tryz.prog 166 [u64 a,Jt c] (boolA (decide (a < c.value))):=by
 refine Jc Tryz.func166 rfl rfl fun nx=> ?_
 refine Z ?_
 intro c h;cases c
 all_goals
  refine Z ?_;refine Jb rfl (Jp ?_)
  (try simp only [JaY, JaZ, Ja0, Ja1, JaR, JaS] at *)
  first | omega | (simp;omega)
theorem Js7 (a:Nat) (c:Cnd):Tells Tryz.prog 167 [u64 a,Jt c] (boolA (decide (a≤c.value))):=by
 refine Jc Tryz.func167 rfl rfl fun nx=> ?_
 refine Z ?_
 intro c h;cases c
 all_goals
  refine Z ?_;refine Jb rfl (Jp ?_)
  (try simp only [JaY, JaZ, Ja0, Ja1, JaR, JaS] at *)
  first | omega | (simp;omega)
theorem Js8 (a:Nat) (c:Cnd):Tells Tryz.prog 168 [u64 a,Jt c] (boolA (decide (a > c.value))):=by
 refine Jc Tryz.func168 rfl rfl fun nx=> ?_
 refine Z ?_
 intro c h;cases c
 all_goals
  refine Z ?_;refine Jb rfl (Jp ?_)
  (try simp only [JaY, JaZ, Ja0, Ja1, JaR, JaS] at *)
  first | omega | (simp;omega)
theorem Js9 (a:Nat) (c:Cnd):Tells Tryz.prog 169 [u64 a,Jt c] (boolA (decide (a≥c.value))):=by
 refine Jc Tryz.func169 rfl rfl fun nx=> ?_
 refine Z ?_
 intro c h;cases c
 all_goals
  refine Z ?_;refine Jb rfl (Jp ?_)
  (try simp only [JaY, JaZ, Ja0, Ja1, JaR, JaS] at *)
  first | omega | (simp;omega)
theorem Jta (a:Nat) (c:Cnd) (ha:a < 18446744073709551616) (ho:c.ok):Tells Tryz.prog 170 [u64 a,Jt c] (boolA (decide (a&&& c.mask=c.value))):=by
 refine Jc Tryz.func170 rfl rfl fun nx=> ?_
 refine Z ?_
 intro c h;cases c
 all_goals
  rw [JrL ha ho.1] at h;refine Z ?_;refine Jb rfl (Jp ?_)
  (try simp only [JaY, JaZ, Ja0, Ja1, JaR, JaS] at *)
  first | omega | (simp;omega)
def strA (s:ByteArray):AV:= .v (.string s)
def Jhz:List AV:= [
 .ag [strA ⟨#[61,61]⟩,fn0 164],
 .ag [strA ⟨#[33,61]⟩,fn0 165],
 .ag [strA ⟨#[60]⟩,fn0 166],
 .ag [strA ⟨#[60,61]⟩,fn0 167],
 .ag [strA ⟨#[62]⟩,fn0 168],
 .ag [strA ⟨#[62,61]⟩,fn0 169],
 .ag [strA ⟨#[38]⟩,fn0 170]]
theorem JhA:Tells Tryz.prog 127 [] (.sl 2 7 (Jco Jhz)):=by
 refine Jc Tryz.func127 rfl rfl fun nx=> ?_
 refine Z ?_
 refine Jb rfl (JlS ⟨⟨⟨⟨⟨⟨⟨trivial,rfl⟩,rfl⟩,rfl⟩,rfl⟩,rfl⟩,rfl⟩,rfl⟩)
def Jyw (a0 a1 a2 a3 a4 a5:Nat):AV:= .ag [u64 a0,u64 a1,u64 a2,u64 a3,u64 a4,u64 a5]
theorem Ju3 (c:Cnd):NoId (Jt c):=NoId.ag (by intro y hy;simp only [List.mem_cons,List.not_mem_nil,or_false] at hy;rcases hy with rfl | rfl | rfl | rfl <;> exact NoId.v _)
theorem Jo5:NoId (.sl 2 7 (Jco Jhz)):=NoId.sl (by
 intro i hi x hx
 match i,hi with
 | 0,_ | 1,_ | 2,_ | 3,_ | 4,_ | 5,_ | 6,_=> rcases List.mem_cons.1 hx with rfl | hx;exact NoId.v _;rcases List.mem_cons.1 hx with rfl | hx;exact NoId.fn Si Si;cases hx)
theorem ixc {c i:Nat} (h:c=1):0+Int.toNat ((i:Nat):Int) * c=i:=by subst h;omega
theorem Jdv (c:Cnd) (a0 a1 a2 a3 a4 a5:Nat) (hr:rightC c=true) (k f:Nat) (hk:c.op=k+1) (hk7:k < 7) (s:AV) (hf:Jco Jhz k= .ag [s,fn0 f]) (b:Bool)
 (hb:Tells Tryz.prog f [u64 ([a0,a1,a2,a3,a4,a5].getD c.arg.toNat 0:Nat),Jt c] (boolA b)):
 Tells Tryz.prog 68 [Jt c,Jyw a0 a1 a2 a3 a4 a5] (boolA b):=by
 obtain ⟨h1,h2,h3,h4,h5⟩:=JX.1 hr
 obtain ⟨arg,op,mask,value⟩:=c
 dsimp only at h1 h2 h3 h4 h5 hk
 obtain ⟨i,rfl⟩:∃i:Nat,arg=i:=⟨arg.toNat,Om⟩
 replace h2:i≤5:=by omega
 refine Jc Tryz.func68 rfl rfl fun nx=> ?_
 refine Z ?_
 (refine JL 17 Kr Kr Kr ?_)
 refine Z ?_
 refine Jau (JQ rfl rfl (JdK _) Y1 (NoId.v _)) ?_
 rw [hr]
 refine Z ?_
 refine Jau (JQ rfl rfl JhA trivial Jo5) ?_
 have hx:IntKind.i64.wrap (op - 1)=(k:Int):=by rw [JaE Om Om];omega
 refine Z ?_
 refine ⟨⟨by rw [hx];omega,by rw [hx];omega⟩,Ji (b:= .rp [s,fn0 f]) (by rw [hx];show AV.rp (Jco Jhz k).cells=_;rw [hf];rfl) ?_⟩
 refine Z ?_
 refine ⟨⟨h1,by show (i:Int) < (6:Int);omega⟩,Ji (b:= .bp (1,nx+1) i) (congrArg (AV.bp (1,nx+1)) (ixc Kr)) ?_⟩
 (conv=> whnf)
 refine ⟨⟨rfl,by show i+1≤6;omega⟩,Ji (b:=u64 ([a0,a1,a2,a3,a4,a5].getD i 0:Nat)) (by
  match i,h2 with
  | 0,_ | 1,_ | 2,_ | 3,_ | 4,_ | 5,_=> rfl) ?_⟩
 refine Z ?_
 refine Jau (JQ rfl rfl hb Y2 (NoId.v _)) ?_
 cases b
 ·refine Z ?_;exact Jb rfl Rf
 ·refine Z ?_;exact Jb rfl Rf
theorem Jtb (c:Cnd) (a0 a1 a2 a3 a4 a5:Nat) (ho:c.ok) (ha:∀i, [a0,a1,a2,a3,a4,a5].getD i 0 < 18446744073709551616):
 Tells Tryz.prog 68 [Jt c,Jyw a0 a1 a2 a3 a4 a5] (boolA (rightC c&& JaD c ([a0,a1,a2,a3,a4,a5].getD c.arg.toNat 0))):=by
 cases hr:rightC c
 ·refine Jc Tryz.func68 rfl rfl fun nx=> ?_;refine Z ?_
  (refine JL 17 Kr Kr Kr ?_)
  refine Z ?_;refine Jau (JQ rfl rfl (JdK c) Y1 (NoId.v _)) ?_;rw [hr];refine Z ?_;exact Jb rfl Rf
 ·have hop:=JX.1 hr;rw [Bool.true_and];have ha':=ha c.arg.toNat;obtain ⟨arg,op,mask,value⟩:=c;dsimp only at hop ha';have h7:op=1∨op=2∨op=3∨op=4∨op=5∨op=6∨op=7:=by omega
  rcases h7 with rfl | rfl | rfl | rfl | rfl | rfl | rfl
  ·exact Jdv _ _ _ _ _ _ _ hr 0 _ rfl Dc _ rfl _ (Js4 _ _)
  ·exact Jdv _ _ _ _ _ _ _ hr 1 _ rfl Dc _ rfl _ (Js5 _ _)
  ·exact Jdv _ _ _ _ _ _ _ hr 2 _ rfl Dc _ rfl _ (Js6 _ _)
  ·exact Jdv _ _ _ _ _ _ _ hr 3 _ rfl Dc _ rfl _ (Js7 _ _)
  ·exact Jdv _ _ _ _ _ _ _ hr 4 _ rfl Dc _ rfl _ (Js8 _ _)
  ·exact Jdv _ _ _ _ _ _ _ hr 5 _ rfl Dc _ rfl _ (Js9 _ _)
  ·exact Jdv _ _ _ _ _ _ _ hr 6 _ rfl Dc _ rfl _ (Jta _ _ ha' ho)
end Go.Proofs.W

namespace Go.Proofs
open Go.Shelf
shelf_lay LaysM.n171 Nm 171 at Tryz as Tryz.laysM171
end Go.Proofs
namespace Go.Proofs.W
open Go.Vl Go.Shelf Go.RowKit
set_option maxRecDepth 100000
theorem JrM {w : World} (h : Kn w none2) : Lib.TabIs Tryz.prog w "internal/strconv.uint64pow10" .u64 Lib.pow10Tab := by
 obtain ⟨⟨e,fz,h1⟩,_⟩:=h (1,(Go.Lib.pow10Tab.map fun z=> Value.int .u64 z).toArray) (by unfold JwD;exact List.mem_cons_self)
 unfold Lib.TabIs World.var?
 rw [show Tryz.prog.globalNamed "internal/strconv.uint64pow10" = some 1 from by kernel_rfl]
 simp only [Option.bind_some]
 rw [h1]
theorem Ju4 {W : World} (h : Lib.TabIs Tryz.prog W "internal/strconv.uint64pow10" .u64 Lib.pow10Tab) : Kn W none2 := by
 unfold Lib.TabIs World.var? at h
 rw [show Tryz.prog.globalNamed "internal/strconv.uint64pow10" = some 1 from by kernel_rfl, Option.bind_some] at h
 intro p hp
 unfold JwD at hp
 obtain rfl:=List.mem_singleton.1 hp
 refine ⟨?_,fun _ h=> h⟩
 split at h
 ·rename_i cs e fz hb
  cases h;exact ⟨_,_,hb⟩
 ·cases h
theorem JjF (w:World):∀n,Below w.heap.size w (w.drewN n)
 | 0=> Below.refl _ _
 | n+1=> (JjF w n).drew
theorem JqY (w:World) (k:Nat) (os:Array Obj):Below w.heap.size w (Sort.grow (w.drewN k) os):=by
 have h:=JjF w k
 refine ⟨h.os,h.tape,h.output,Nat.le_trans h.size (by simp [Sort.grow]),fun j hj=> ?_⟩
 rw [Sort.heap_grow_old _ _ (Nat.lt_of_lt_of_le hj h.size)]
 exact h.block j hj
def Jay (n:Nat):ByteArray:=⟨(Lib.decDigits n).toArray⟩
theorem Jw5 (n:Nat):Lib.itoa (n:Int)=Lib.decDigits n:=by
 unfold Lib.itoa
 rw [if_neg Om]
 rfl
theorem JmS (n:Nat) (hn:n≤9223372036854775807):Tells Tryz.prog 75 [int n] (strA (Jay n)):=
 Jdi (vs:= [.int .i64 n]) ⟨_,Tryz.func75,rfl,rfl⟩ fun w hk=> (Any.strconv_Itoa Tryz.laysM171 n Om Om w (JrM hk)).mono fun e w' ⟨h1,k,os,h2⟩=> ⟨by rw [h1,Jw5];rfl,by rw [h2];exact JqY w k os⟩
end Go.Proofs.W

namespace Go.Proofs
open Go.Shelf
shelf_lay Lays.n160 Nm 160 at Tryz as Tryz.lays160
shelf_lay Lays.n137 Nm 137 at Tryz as Tryz.lays137
end Go.Proofs
namespace Go.Proofs.W
open Go.Vl Go.Shelf
set_option maxRecDepth 100000
def lettersB:ByteArray:=⟨#[97,98,99,100,101,102,103,104,105,106,107,108,109,110,111,112,113,114,115,116,117,118,119,120,121,122]⟩
def signsB:ByteArray:=⟨#[97,98,99,100,101,102,103,104,105,106,107,108,109,110,111,112,113,114,115,116,117,118,119,120,121,122,48,49,50,51,52,53,54,55,56,57,95]⟩
theorem Ju5 (s:ByteArray) (hs:s.size≤9223372036854775807):Tells Tryz.prog 142 [.v (.string s), .v (.string signsB)] (.v (.string ⟨(Lib.trimS s.data.toList signsB.data.toList).toArray⟩)):=
 Jbj (vs:= [.string s, .string signsB]) ⟨_,Tryz.func142,rfl,rfl⟩ fun w=> Any.strings_Trim_laid Tryz.lays160 Kr s signsB w hs Dc (ascii_of_all Dc)
theorem Jo6 (s:ByteArray) (c:Int):Tells Tryz.prog 143 [.v (.string s), .v (.int .u8 c)] (.v (.int .i64 (Lib.indexByte s.data.toList c.toNat.toUInt8))):=
 Jbj (vs:= [.string s, .int .u8 c]) ⟨_,Tryz.func143,rfl,rfl⟩ fun w=> (Any.strings_IndexByte Tryz.lays137 s c w).mono fun e w' ⟨h1,h2⟩=> ⟨h1,by subst h2;exact ⟨rfl,rfl,rfl,Nat.le_refl _,fun _ _=> rfl⟩⟩
theorem Jgx {p:UInt8→Bool}:∀ {l:List UInt8},l.dropWhile p= []↔l.all p=true
 | []=> by simp
 | x::l=> by
   rw [List.dropWhile_cons,List.all_cons];cases h:p x
   ·simp
   ·simp only [if_true,Bool.true_and];exact Jgx
theorem JkP {p:UInt8→Bool}:∀ {l:List UInt8} {y:UInt8} {ys:List UInt8},l.dropWhile p=y::ys→p y=false
 | [],y,ys,h=> by simp at h
 | x::l,y,ys,h=> by
   rw [List.dropWhile_cons] at h;cases hx:p x
   ·rw [hx] at h;simp at h;rw [← h.1];exact hx
   ·rw [hx] at h;simp only [if_true] at h;exact JkP h
theorem Jiq (l cs:List UInt8):Lib.trimS l cs= []↔l.all (cs.contains ·)=true:=by
 unfold Lib.trimS Lib.trimLeftS Lib.trimRightS
 rw [Jgx,List.all_reverse]
 constructor
 ·intro h;cases hq:l.reverse.dropWhile (cs.contains ·) with
  | nil=> rw [Jgx,List.all_reverse] at hq;exact hq
  | cons y ys=>
    have hy:=JkP hq;rw [hq,List.all_cons,hy] at h;cases h
 ·intro h;have:l.reverse.dropWhile (cs.contains ·)= []:=by rw [Jgx,List.all_reverse];exact h
  rw [this];rfl
theorem Jtc (l:List UInt8) (c:UInt8):(0≤Lib.indexByte l c↔c∈l)∧-1≤Lib.indexByte l c:=by
 induction l with
 | nil=> simp [Lib.indexByte]
 | cons b l ih=>
   obtain ⟨h1,h2⟩:=ih;unfold Lib.indexByte;by_cases hb:b=c
   ·subst hb;simp
   ·have hbe:(b ==c)=false:=(by simpa using hb);rw [hbe];simp only [Bool.false_eq_true,if_false];by_cases hi:Lib.indexByte l c=-1
    ·have:¬c∈l:=fun h=> by have:=h1.2 h;omega
     rw [if_pos (by rw [hi];rfl)];simp [this,Ne.symm hb]
    ·rw [if_neg (by simpa using hi)];have hm:c∈l:=h1.1 Om;simp [hm];omega
def Jj5:List UInt8:= [100,101,102,97,117,108,116]
def Jw6:List UInt8:= [120,51,50]
def nameB (l:List UInt8):Bool:= !(l == [])&& (!(l ==Jj5)&& (!(l ==Jw6)&& (decide (l.length≤30)&& (l.all (signsB.data.toList.contains ·)&& lettersB.data.toList.contains (l.headD 0)))))
theorem Jtd {l:List UInt8} (h:false= !(l == [])):nameB l=false:=by rw [nameB,← h];rfl
theorem Jte {l:List UInt8} (h:false= !(l ==Jj5)):nameB l=false:=by rw [nameB,← h];simp
theorem Jtf {l:List UInt8} (h:false= !(l ==Jw6)):nameB l=false:=by rw [nameB,← h];simp
theorem Jtg {l:List UInt8} (h:¬l.length≤30):nameB l=false:=by rw [nameB,decide_eq_false h];simp
theorem Jth {l : List UInt8} (h : ¬ l.all (signsB.data.toList.contains ·) = true) : nameB l = false := by rw [nameB, Bool.not_eq_true _ |>.mp h]; simp
theorem Jw7 {l:List UInt8} (h1:true= !(l == [])) (h2:true= !(l ==Jj5)) (h3:true= !(l ==Jw6)) (h4:l.length≤30) (h5:l.all (signsB.data.toList.contains ·)=true):nameB l=lettersB.data.toList.contains (l.headD 0):=by
 rw [nameB,← h1,← h2,← h3,decide_eq_true h4,h5];rfl
theorem Jo7 {s:ByteArray} (h:¬s.data.toList= []):0 < s.size:=by
 rcases Nat.eq_zero_or_pos s.size with h0 | h0
 ·exfalso;apply h
  have:s.data.toList.length=0:=h0;exact List.length_eq_zero_iff.1 this
 ·exact h0
theorem Ju6 (l:List UInt8):(⟨l.toArray⟩:ByteArray).toList=l:=by rw [Lib.toList_data]
theorem JkQ (s:ByteArray) (hs:s.size≤9223372036854775807):Tells Tryz.prog 90 [.v (.string s)] (boolA (nameB s.data.toList)):=by
 have hsz:s.size=s.data.toList.length:=rfl
 refine Jc Tryz.func90 rfl rfl fun nx=> ?_
 refine Z ?_
 intro c t1
 rw [Lib.toList_data,Lib.toList_data] at t1
 cases c
 ·refine Z ?_;exact Jb rfl (Jp (Jtd t1).symm)
 refine Z ?_
 intro c t2
 rw [Lib.toList_data,Lib.toList_data] at t2
 cases c
 ·refine Z ?_;exact Jb rfl (Jp (Jte t2).symm)
 refine Z ?_
 intro c t3
 rw [Lib.toList_data,Lib.toList_data] at t3
 cases c
 ·refine Z ?_;exact Jb rfl (Jp (Jtf t3).symm)
 refine Z ?_
 intro c t4;cases c
 ·refine Z ?_;exact Jb rfl (Jp (Jtg (by have:=Jn t4;omega)).symm)
 have h4:s.data.toList.length≤30:=by have:=Jo t4;omega
 refine Z ?_
 refine Ja rfl rfl (Ju5 s hs) Y2 fun nx1=> ?_
 refine Z ?_
 intro c t5
 rw [Ju6,Lib.toList_data] at t5
 cases c
 ·have h5:¬Lib.trimS s.data.toList signsB.data.toList= []:=by simpa using t5
  rw [Jiq] at h5;refine Z ?_;exact Jb rfl (Jp (Jth h5).symm)
 have h5:Lib.trimS s.data.toList signsB.data.toList= []:=by simpa using t5
 rw [Jiq] at h5
 have h0:¬s.data.toList= []:=by simpa using t1
 refine Z ?_
 refine ⟨⟨by decide,by have:=Jo7 h0;show (0:Int) < (s.size:Int);omega⟩, ?_⟩
 refine Z ?_
 refine Ja rfl rfl (Jo6 lettersB _) Y2 fun nx2=> ?_
 refine Z ?_
 intro c t6
 refine Z ?_
 have e1:(((s.data.getD (Int.toNat 0) 0).toNat:Int)).toNat.toUInt8=s.data.toList.headD 0:=by
  have hh:s.data.getD 0 0=s.data.toList.headD 0:=by
   have:=Jo7 h0;cases hq:s.data.toList with
   | nil=> exact absurd hq h0
   | cons x xs=>
     have h2:s.data=(x::xs).toArray:=(by rw [← hq]);rw [h2];rfl
  show (((s.data.getD 0 0).toNat:Int)).toNat.toUInt8=_;rw [hh,Int.toNat_natCast];simp
 refine Jb rfl (Jp (t6.trans ?_))
 rw [Jw7 t1 t2 t3 h4 h5,e1,Bool.eq_iff_iff,decide_eq_true_eq]
 exact (Jtc _ _).1.trans Si
end Go.Proofs.W

namespace Go.Proofs.W
open Go.Vl
set_option maxRecDepth 100000
def Jez (n:Int):AV:= .fn (.func 218) [] [.rp [int n]]
theorem Jw8 (n:Int) (h:0≤n∧n≤100000):Tells Tryz.prog 218 [.rp [int n]] (int (n - 1)):=by
 refine Jc Tryz.func218 rfl rfl fun nx=> ?_
 refine Z ?_
 refine Jb rfl (Jk (JaE Om Om))
theorem Jo8 (n:Int):Tells Tryz.prog 171 [int n] (Jez n):=by
 refine Jc Tryz.func171 rfl rfl fun nx=> ?_
 (repeat ((conv=>whnf);first|refine ω0 ?_|refine ω1 ?_|refine ω2 ?_|refine ω3 ?_|refine ω4 rfl ?_|refine ω5 rfl ?_|refine ω6 ?_|refine ω7 ?_|refine ⟨rfl,?_⟩|refine ⟨trivial,?_⟩|refine ⟨⟨rfl,Nat.le_of_ble_eq_true rfl⟩,?_⟩|refine ⟨⟨by kernel_rfl,by kernel_rfl⟩,?_⟩|refine ⟨by decide,?_⟩|refine Jga ?_|refine Jfg ?_))
 refine AW.le (Jcw (L:= [(2,Jez n)]) (bx:= []) (pm:= []) (nn:=0) [((0,nx), .c [int n])] rfl rfl Sf Sf ⟨Frz.fn Tt ⟨Frz.bp (.head _) rfl,Tt⟩,Tt⟩) ?_
 refine Z ?_
 refine Jb rfl Rf
def Je8:List AV:= [
 .ag [.v (.string ⟨#[107,105,108,108]⟩), .v (.int .u32 2147483648), .v .nilFunc],
 .ag [.v (.string ⟨#[107,105,108,108,95,116,104,114,101,97,100]⟩), .v (.int .u32 0), .v .nilFunc],
 .ag [.v (.string ⟨#[116,114,97,112]⟩), .v (.int .u32 196608), .v .nilFunc],
 .ag [.v (.string ⟨#[101,114,114,110,111]⟩), .v (.int .u32 327680),Jez 4096],
 .ag [.v (.string ⟨#[110,111,116,105,102,121]⟩), .v (.int .u32 2143289344), .v .nilFunc],
 .ag [.v (.string ⟨#[116,114,97,99,101]⟩), .v (.int .u32 2146435072),Jez 65536],
 .ag [.v (.string ⟨#[108,111,103]⟩), .v (.int .u32 2147221504), .v .nilFunc],
 .ag [.v (.string ⟨#[97,108,108,111,119]⟩), .v (.int .u32 2147418112), .v .nilFunc]]
def Jti:AV:= .sl 3 8 (Jco Je8)
theorem JhB:Tells Tryz.prog 132 [] Jti:=by
 refine Jc Tryz.func132 rfl rfl fun nx=> ?_
 refine Z ?_
 refine Ja rfl rfl (Jo8 4096) Y1 fun nx=> ?_
 refine Z ?_
 refine Ja rfl rfl (Jo8 65536) Y1 fun nx=> ?_
 refine Z ?_
 refine Jb rfl (JlS ⟨⟨⟨⟨⟨⟨⟨⟨trivial,rfl⟩,rfl⟩,rfl⟩,rfl⟩,rfl⟩,rfl⟩,rfl⟩,rfl⟩)
theorem JyL (k:Int) (h:k < 1∨8 < k):Tells Tryz.prog 74 [int k] (.tup [.ag [.v (.string ⟨#[]⟩), .v (.int .u32 0), .v .nilFunc],boolA false]):=by
 refine Jc Tryz.func74 rfl rfl fun nx=> ?_
 refine Z ?_
 refine Ja rfl rfl JhB trivial fun nx=> ?_
 refine Z ?_
 intro c h1;cases c
 ·refine Z ?_;intro c h2;cases c
  ·simp at h1 h2;omega
  ·refine Z ?_
   (refine Jf rfl ?_ ?_;(· exact ⟨rfl,Tt⟩));exact Rf
 ·refine Z ?_
  (refine Jf rfl ?_ ?_;(· exact ⟨rfl,Tt⟩));exact Rf
theorem Jir (k:Nat) (h:k < 8):Tells Tryz.prog 74 [int (k+1)] (.tup [Jco Je8 k,boolA true]):=by
 refine Jc Tryz.func74 rfl rfl fun nx=> ?_
 refine Z ?_
 refine Ja rfl rfl JhB trivial fun nx=> ?_
 refine Z ?_
 intro c h1;cases c
 ·refine Z ?_;rcases k with _ | _ | _ | _ | _ | _ | _ | _ | k
  iterate 8
   ·refine ⟨⟨by decide,by decide⟩, ?_⟩;refine Z ?_
    (refine Jf rfl ?_ ?_;(· exact ⟨rfl,Tt⟩));exact Rf
  ·omega
 ·simp at h1;omega
def Jdj (k:Int):Int:=if k=4 then 4095 else if k=6 then 65535 else 0
def act (k n:Int):AV:= .ag [int k,int n]
def right9 (k n:Int):Bool:=decide (1≤k)&& decide (k≤8)&& decide (0≤n)&& decide (n≤Jdj k)
theorem Jcq (s:ByteArray) (c:Int):Tells Tryz.prog 128 [.ag [.v (.string s), .v (.int .u32 c), .v .nilFunc]] (int 0):=by
 refine Jc Tryz.func128 rfl rfl fun nx=> ?_
 refine Z ?_
 refine Jb rfl Rf
theorem Jfk (s:ByteArray) (c n:Int) (h:0≤n∧n≤100000):Tells Tryz.prog 128 [.ag [.v (.string s), .v (.int .u32 c),Jez n]] (int (n - 1)):=by
 refine Jc Tryz.func128 rfl rfl fun nx=> ?_
 refine Z ?_
 refine Ja rfl rfl (Jw8 n h) Y1 fun nx=> ?_
 refine Z ?_
 refine Jb rfl Rf
theorem JhC (k:Nat) (h:k < 8):∃s c m,Jco Je8 k= .ag [.v (.string s), .v (.int .u32 c),m]∧(m= .v .nilFunc∨∃n,m=Jez n)∧Tells Tryz.prog 128 [Jco Je8 k] (int (Jdj (k+1))):=by
 rcases k with _ | _ | _ | _ | _ | _ | _ | _ | k
 ·exact ⟨_,_,_,rfl, .inl rfl,Jcq _ _⟩
 ·exact ⟨_,_,_,rfl, .inl rfl,Jcq _ _⟩
 ·exact ⟨_,_,_,rfl, .inl rfl,Jcq _ _⟩
 ·exact ⟨_,_,_,rfl, .inr ⟨_,rfl⟩,Jfk _ _ 4096 Dc⟩
 ·exact ⟨_,_,_,rfl, .inl rfl,Jcq _ _⟩
 ·exact ⟨_,_,_,rfl, .inr ⟨_,rfl⟩,Jfk _ _ 65536 Dc⟩
 ·exact ⟨_,_,_,rfl, .inl rfl,Jcq _ _⟩
 ·exact ⟨_,_,_,rfl, .inl rfl,Jcq _ _⟩
 ·omega
theorem Jtj {k n:Int} (h:k < 1∨8 < k):right9 k n=false:=by simp [right9];omega
theorem JzT (k n:Int) (m:AV) (s:ByteArray) (c:Int) (hm:m= .v .nilFunc∨∃n,m=Jez n) (hk:1≤k∧k≤8)
 (h26:Tells Tryz.prog 74 [int k] (.tup [.ag [.v (.string s), .v (.int .u32 c),m],boolA true])) (h27:Tells Tryz.prog 128 [.ag [.v (.string s), .v (.int .u32 c),m]] (int (Jdj k))):
 Tells Tryz.prog 69 [act k n] (boolA (right9 k n)):=by
 refine Jc Tryz.func69 rfl rfl fun nx=> ?_
 refine Z ?_
 refine Ja rfl rfl h26 Y1 fun nx=> ?_
 rcases hm with rfl | ⟨n',rfl⟩
 all_goals
  refine Z ?_
  (refine JL 13 Kr Kr Kr ?_)
  refine Z ?_;intro c h1;cases c
  ·refine Z ?_;refine Jb rfl (Jp ?_);simp at h1;simp [right9];omega
  refine Z ?_;refine Jau (JQ rfl rfl h27 Y1 (NoId.v _)) ?_;refine Z ?_;intro c h2;cases c
  ·refine Z ?_;refine Jb rfl (Jp ?_);simp at h1 h2;simp [right9];omega
  ·refine Z ?_;refine Jb rfl (Jp ?_);simp at h1 h2;simp [right9];omega
theorem JhD (k n:Int):Tells Tryz.prog 69 [act k n] (boolA (right9 k n)):=by
 by_cases hk:k < 1∨8 < k
 ·refine Jc Tryz.func69 rfl rfl fun nx=> ?_;refine Z ?_;refine Ja rfl rfl (JyL k hk) Y1 fun nx=> ?_;refine Z ?_
  (refine JL 13 Kr Kr Kr ?_)
  refine Z ?_;refine Jb rfl (Jp (Jtj hk).symm)
 ·obtain ⟨j,hj,rfl⟩:∃j:Nat,j < 8∧k=(j:Int)+1:=⟨(k - 1).toNat,Om,Om⟩;obtain ⟨s,c,m,hr,ho,hm⟩:=JhC j hj;have h26:=Jir j hj;rw [hr] at h26 hm;exact JzT _ n m s c ho Om h26 hm
abbrev A2:=Int×Int
def Jw9 (a:A2):AV:=act a.1 a.2
theorem Jg6 {α:Type} {p:α→Bool} {l:List α} {i:Nat} (d:α) (hi:i < l.length) (hb:∀j,j < i→p (l.getD j d)=false) (h:p (l.getD i d)=true):l.findIdx? p=some i:=by
 rw [List.findIdx?_eq_some_iff_getElem]
 refine ⟨hi,by simpa [List.getD,hi] using h,fun j hj=> ?_⟩
 have:=hb j hj
 have hj':j < l.length:=by omega
 simpa [List.getD,hj'] using this
theorem JeR {α:Type} {p:α→Bool} {l:List α} (d:α) (hb:∀j,j < l.length→p (l.getD j d)=false):l.findIdx? p=none:=by
 rw [List.findIdx?_eq_none_iff]
 intro x hx
 obtain ⟨j,hj,rfl⟩:=List.getElem_of_mem hx
 have:=hb j hj
 simpa [List.getD,hj] using this
def JhE:Option Nat→Int
 | some i=> i
 | none=> -1
theorem JdZ (o:Option Nat):decide (0≤JhE o)=o.isSome:=by cases o <;> simp [JhE]
structure Rul where
 name:ByteArray
 act:A2
 conds:List Cnd
structure Pol where
 dflt:A2
 x32:Bool
 rules:List Rul
def Jg:Rul:=⟨⟨#[]⟩,(0,0), []⟩
def J7 (r:Rul):AV:= .ag [strA r.name,int r.act.1,int r.act.2,JaT r.conds]
def JW (l:List Rul):AV:=JF 4 J7 Jg l
def polA (p:Pol):AV:= .ag [int p.dflt.1,int p.dflt.2,boolA p.x32,JW p.rules]
theorem Jxa (l:List Int) (p:Int→Bool) (f:Nat) (hl:l.length≤1000000000) (hp:∀i,i < l.length→Tells Tryz.prog f [int (l.getD i 0)] (boolA (p (l.getD i 0)))):
 Tells Tryz.prog 187 [JF 1 int 0 l,fn0 f] (int (JhE (l.findIdx? p))):=by
 refine Jc Tryz.func187 rfl rfl fun nx=> ?_
 refine Z ?_
 refine Jm (fun s:Nat×Nat=> mk 19 [(0,JF 1 int 0 l),(1,fn0 f),(7,int l.length),(8,int s.1)] ⟨[], [],s.2,0⟩) (fun s=> s.1≤l.length∧∀j,j < s.1→p (l.getD j 0)=false) (fun s=> l.length - s.1) ?_ ?_
 ·exact ⟨(0,nx),⟨by simp,by intro j hj;simp at hj⟩,Jax rfl rfl Y4⟩
 ·rintro ⟨i,nx⟩ ⟨h1,h2⟩;dsimp only at h1 h2;refine Z ?_;intro c h3;cases c
  ·have h3:=Jn h3;dsimp only at h3;refine Z ?_;refine Jb rfl (Jk ?_);rw [JeR 0 (fun j hj=> h2 j Om)];rfl
  ·have h3:=Jo h3;dsimp only at h3;have hi:i < l.length:=by omega
   refine Z ?_;refine ⟨⟨Dm,Dm⟩, ?_⟩;refine Z ?_;refine Ja rfl rfl (hp i hi) Y1 fun nx'=> ?_;intro c h4;cases c
   ·refine Z ?_;refine back (i+1,nx') ⟨Dm,fun j hj=> ?_⟩ Dm (Jax rfl rfl ⟨Rf,Rf,Rf,Jk (JC Dm),Tt⟩);dsimp only at hj;rcases Nat.lt_or_ge j i with h | h
    ·exact h2 j h
    ·obtain rfl:j=i:=(by omega);exact h4.symm
   ·refine Z ?_;refine Jb rfl (Jk ?_);rw [Jg6 0 hi h2 h4.symm];rfl
theorem Jo9 (l:List Int) (p:Int→Bool) (f:Nat) (hl:l.length≤1000000000) (hp:∀i,i < l.length→Tells Tryz.prog f [int (l.getD i 0)] (boolA (p (l.getD i 0)))):
 Tells Tryz.prog 144 [JF 1 int 0 l,fn0 f] (boolA (l.any p)):=by
 refine Jc Tryz.func144 rfl rfl fun nx=> ?_
 refine Z ?_
 refine Ja rfl rfl (Jxa l p f hl hp) Y2 fun nx'=> ?_
 refine Z ?_
 intro c h;cases c
 all_goals
  refine Z ?_;refine Jb rfl (Jp ?_);rw [h,← List.findIdx?_isSome];exact JdZ _
theorem Jxb (l:List Cnd) (p:Cnd→Bool) (f:Nat) (hl:l.length≤1000000000) (hp:∀i,i < l.length→Tells Tryz.prog f [Jt (l.getD i cnd0)] (boolA (p (l.getD i cnd0)))):
 Tells Tryz.prog 93 [JF 4 Jt cnd0 l,fn0 f] (int (JhE (l.findIdx? p))):=by
 refine Jc Tryz.func93 rfl rfl fun nx=> ?_
 refine Z ?_
 refine Jm (fun s:Nat×Nat=> mk 19 [(0,JF 4 Jt cnd0 l),(1,fn0 f),(7,int l.length),(8,int s.1)] ⟨[], [],s.2,0⟩) (fun s=> s.1≤l.length∧∀j,j < s.1→p (l.getD j cnd0)=false) (fun s=> l.length - s.1) ?_ ?_
 ·exact ⟨(0,nx),⟨by simp,by intro j hj;simp at hj⟩,Jax rfl rfl Y4⟩
 ·rintro ⟨i,nx⟩ ⟨h1,h2⟩;dsimp only at h1 h2;refine Z ?_;intro c h3;cases c
  ·have h3:=Jn h3;dsimp only at h3;refine Z ?_;refine Jb rfl (Jk ?_);rw [JeR cnd0 (fun j hj=> h2 j Om)];rfl
  ·have h3:=Jo h3;dsimp only at h3;have hi:i < l.length:=by omega
   refine Z ?_;refine ⟨⟨Dm,Dm⟩, ?_⟩;refine Z ?_;refine Ja rfl rfl (hp i hi) Y1 fun nx'=> ?_;intro c h4;cases c
   ·refine Z ?_;refine back (i+1,nx') ⟨Dm,fun j hj=> ?_⟩ Dm (Jax rfl rfl ⟨Rf,Rf,Rf,Jk (JC Dm),Tt⟩);dsimp only at hj;rcases Nat.lt_or_ge j i with h | h
    ·exact h2 j h
    ·obtain rfl:j=i:=(by omega);exact h4.symm
   ·refine Z ?_;refine Jb rfl (Jk ?_);rw [Jg6 cnd0 hi h2 h4.symm];rfl
theorem Jpa (l:List Cnd) (p:Cnd→Bool) (f:Nat) (hl:l.length≤1000000000) (hp:∀i,i < l.length→Tells Tryz.prog f [Jt (l.getD i cnd0)] (boolA (p (l.getD i cnd0)))):
 Tells Tryz.prog 43 [JF 4 Jt cnd0 l,fn0 f] (boolA (l.any p)):=by
 refine Jc Tryz.func43 rfl rfl fun nx=> ?_
 refine Z ?_
 refine Ja rfl rfl (Jxb l p f hl hp) Y2 fun nx'=> ?_
 refine Z ?_
 intro c h;cases c
 all_goals
  refine Z ?_;refine Jb rfl (Jp ?_);rw [h,← List.findIdx?_isSome];exact JdZ _
theorem Jxc (l:List Rul) (p:Rul→Bool) (f:Nat) (hl:l.length≤1000000000) (hp:∀i,i < l.length→Tells Tryz.prog f [J7 (l.getD i Jg)] (boolA (p (l.getD i Jg)))):
 Tells Tryz.prog 47 [JF 4 J7 Jg l,fn0 f] (int (JhE (l.findIdx? p))):=by
 refine Jc Tryz.func47 rfl rfl fun nx=> ?_
 refine Z ?_
 refine Jm (fun s:Nat×Nat=> mk 19 [(0,JF 4 J7 Jg l),(1,fn0 f),(7,int l.length),(8,int s.1)] ⟨[], [],s.2,0⟩) (fun s=> s.1≤l.length∧∀j,j < s.1→p (l.getD j Jg)=false) (fun s=> l.length - s.1) ?_ ?_
 ·exact ⟨(0,nx),⟨by simp,by intro j hj;simp at hj⟩,Jax rfl rfl Y4⟩
 ·rintro ⟨i,nx⟩ ⟨h1,h2⟩;dsimp only at h1 h2;refine Z ?_;intro c h3;cases c
  ·have h3:=Jn h3;dsimp only at h3;refine Z ?_;refine Jb rfl (Jk ?_);rw [JeR Jg (fun j hj=> h2 j Om)];rfl
  ·have h3:=Jo h3;dsimp only at h3;have hi:i < l.length:=by omega
   refine Z ?_;refine ⟨⟨Dm,Dm⟩, ?_⟩;refine Z ?_;refine Ja rfl rfl (hp i hi) Y1 fun nx'=> ?_;intro c h4;cases c
   ·refine Z ?_;refine back (i+1,nx') ⟨Dm,fun j hj=> ?_⟩ Dm (Jax rfl rfl ⟨Rf,Rf,Rf,Jk (JC Dm),Tt⟩);dsimp only at hj;rcases Nat.lt_or_ge j i with h | h
    ·exact h2 j h
    ·obtain rfl:j=i:=(by omega);exact h4.symm
   ·refine Z ?_;refine Jb rfl (Jk ?_);rw [Jg6 Jg hi h2 h4.symm];rfl
theorem Jxd (l:List Rul) (p:Rul→Bool) (f:Nat) (hl:l.length≤1000000000) (hp:∀i,i < l.length→Tells Tryz.prog f [J7 (l.getD i Jg)] (boolA (p (l.getD i Jg)))):
 Tells Tryz.prog 70 [JF 4 J7 Jg l,fn0 f] (boolA (l.any p)):=by
 refine Jc Tryz.func70 rfl rfl fun nx=> ?_
 refine Z ?_
 refine Ja rfl rfl (Jxc l p f hl hp) Y2 fun nx'=> ?_
 refine Z ?_
 intro c h;cases c
 all_goals
  refine Z ?_;refine Jb rfl (Jp ?_);rw [h,← List.findIdx?_isSome];exact JdZ _
def Jtk (s:ByteArray):AV:= .ag [strA s,int (-1),int (-1),int (-1),int (-1),int (-1),int 0,int 0]
def Jec (n:Int):Bool:=decide (n < -1)|| decide (n > 1073741823)
theorem Jis (n:Int):Tells Tryz.prog 145 [int n] (boolA (Jec n)):=by
 refine Jc Tryz.func145 rfl rfl fun nx=> ?_
 refine Z ?_
 intro c t1;cases c
 ·refine Z ?_;intro c t2;cases c
  ·refine Z ?_;exact Jb rfl (Jp (by rw [Jec,← t1,← t2];rfl))
  ·refine Z ?_;exact Jb rfl (Jp (by rw [Jec,← t1,← t2];rfl))
 ·refine Z ?_;exact Jb rfl (Jp (by rw [Jec,← t1];rfl))
theorem JqZ (s:ByteArray):Tells Tryz.prog 91 [Jtk s] (boolA true):=by
 have hc:=Jo9 [-1,-1,-1,-1,-1] Jec 145 Dc (fun i _=> Jis _)
 rw [show [(-1:Int),-1,-1,-1,-1].any Jec=false by decide] at hc
 refine Jc Tryz.func91 rfl rfl fun nx=> ?_
 (refine JE ?_;refine JZ ?_;refine JE ?_)
 refine JaX (n:=30) (nx:=nx+1) (nn:=1) (pm:= []) (bx:= []) (L:= [(1, .rp [strA s,int (-1),int (-1),int (-1),int (-1),int (-1),int 0,int 0])]) (df:=some []) [((0,nx), .c [strA s,int (-1),int (-1),int (-1),int (-1),int (-1),int 0,int 0])] rfl rfl rfl (List.Perm.refl _) Sf ⟨Frz.bp (.head _) rfl,Tt⟩ ?_
 refine JI (fun n=> match n with | 0=> true | _=> false) 2 ?_
 refine Z ?_
 refine JmH (n:=5) (e:=3) (cs:= [int (-1),int (-1),int (-1),int (-1),int (-1),int 0,int 0]) rfl rfl Tryz.underlying63 Tryz.underlying3 Kr Dc Dc (by simp [int,AV.cells]) ?_
 refine Z ?_
 refine Ja rfl rfl hc ⟨AVle.sl_fun fun k hk=> ?_,Y1⟩ fun nx1=> ?_
 ·match k,hk with
  | 0,_ | 1,_ | 2,_ | 3,_ | 4,_=> rfl
 refine Z ?_
 exact Jb rfl Rf
def m1A:AV:= .ag [int (-1),int (-1),int (-1),int (-1),int (-1)]
theorem JnW (s:ByteArray) (hs:s.size≤9223372036854775807) (b:Bool) (hb:nameB s.data.toList=b):Tells Tryz.prog 40 [.sl 8 1 (fun _=> Jtk s)] (.tup [int 0,int (if b then 0 else 13)]):=by
 have hn:=JkQ s hs
 rw [hb] at hn
 have hr:=JqZ s
 refine Jc Tryz.func40 rfl rfl fun nx=> ?_
 refine Z ?_
 refine Jm (fun y:Bool×Nat=> mk 88 [(2,int 0),(3,int 0),(14, .sl 8 1 (fun _=> Jtk s)),(15,int 1),(16,int (bif y.1 then 1 else 0))] ⟨[], [],y.2,0⟩) (fun y=> y.1=true→b=true) (fun y=> if y.1 then 0 else 1) ?_ ?_
 ·exact ⟨(false,nx+1),(fun h=> by cases h),Jh (pm:= []) [] [] rfl rfl (List.nil_sublist _) Sf Tt Tt Y5⟩
 ·rintro ⟨y,nx1⟩ hy;cases y
  ·refine Z ?_;refine ⟨⟨by show (0:Int)≤0;decide,by show (0:Int) < 1;decide⟩, ?_⟩;refine Z ?_;refine Ja rfl rfl hn Y1 fun nx2=> ?_;cases b
   ·refine Z ?_;exact Jb rfl Rf
   ·refine Z ?_
    (refine JL 13 Kr Kr Kr ?_)
    refine Z ?_;refine Ja rfl rfl hr Y1 fun nx3=> ?_;refine Z ?_;refine Jm (fun z:Nat×Nat=> mk 88 [(2,int 0),(3,int 0),(5,int 0),(6, .bp (0,nx1) 0),(14, .sl 8 1 (fun _=> Jtk s)),(15,int 1),(16,int 0),(59,m1A),(60,int z.1)] ⟨[((0,nx1), .c [strA s,int (-1),int (-1),int (-1),int (-1),int (-1),int 0,int 0])], [],z.2,1⟩) (fun z=> z.1≤5) (fun z=> 5 - z.1) ?_ ?_
    ·exact ⟨(0,nx3),Nat.zero_le _,Jh (pm:= []) _ [] rfl rfl Sf Sf ⟨rfl,OwnLe.refl _,Tt⟩ Tt Y9⟩
    ·rintro ⟨k,nx4⟩ hk;dsimp only at hk;rcases k with _ | _ | _ | _ | _ | _ | k
     iterate 5
      ·refine Z ?_;refine back (_+1,nx4) Dm Dm (Jh (pm:= []) _ [] rfl rfl Sf Sf ⟨rfl,OwnLe.refl _,Tt⟩ Tt Y9)
     ·refine Z ?_;exact back (true,nx4) (fun _=> rfl) (by show 0 < 1;decide) (Jh (pm:= []) [] [] rfl rfl (List.nil_sublist _) Sf Tt Tt Y5)
     ·omega
  ·have hbt:=hy rfl;rw [hbt];refine Z ?_;exact Jb rfl Rf
structure TRow where
 name:ByteArray
 a0:Int
 a1:Int
 a2:Int
 a3:Int
 a4:Int
 mux:Int
 sub:Int
def TRow.num (r:TRow):Nat→Int
 | 0=> r.a0
 | 1=> r.a1
 | 2=> r.a2
 | 3=> r.a3
 | _=> r.a4
def Jd:TRow:=⟨⟨#[]⟩,0,0,0,0,0,0,0⟩
def Jcx (r:TRow):List AV:= [strA r.name,int r.a0,int r.a1,int r.a2,int r.a3,int r.a4,int r.mux,int r.sub]
def Jj (r:TRow):AV:= .ag (Jcx r)
def trows (l:List TRow):AV:=JF 8 Jj Jd l
def JzU (r:TRow):AV:= .ag [int r.a0,int r.a1,int r.a2,int r.a3,int r.a4]
theorem Jyx:PairT Tryz.prog 242 3:=⟨by kernel_rfl,by kernel_rfl,by kernel_rfl,by kernel_rfl,fun _=> rfl,fun _=> rfl,fun _ _=> rfl⟩
theorem JyM:(Tryz.prog.info? 4).bind (·.zero)=some (.bool false):=by kernel_rfl
theorem JeS (s nx nn:Nat) (es:List (Int×Int)) (a n:Int):
 ECall Tryz.prog 92 [.om (0,s),int a,int n] ⟨[((0,s), .mp (es.map Jar))], [],nx,1⟩ fun r h'=> ∃nx' nn',r=boolA (decide ((a,n)∈es))∧h'=⟨[((0,s), .mp ((JcL (a,n) es).map Jar))], [],nx',nn'⟩:=by
 refine ECall.wk (JB Tryz.func92 rfl rfl ?_)
 (refine JE ?_;refine JZ ?_;refine JE ?_;refine JZ ?_;refine JE ?_)
 refine AW.le (E':=mk 18 [(0, .om (0,s)),(6,boolA false),(7, .bp (1,nx) 0)] ⟨[((1,nx), .c [int a,int n]),((0,s), .mp (es.map Jar))], [],nx+1,2⟩) (Jh (pm:= []) _ [] rfl rfl Sf Sf Bf Tt Y3) ?_
 refine JE ?_
 refine JI (Ef [0]) 3 ?_
 refine Z ?_
 refine Ji (b:=kA (a,n)) rfl ?_
 (conv=> whnf)
 refine JqS (x:=(a,n)) (i:=(0,s)) (es:=es) rfl Tryz.underlying188 Jyx JyM rfl rfl rfl ?_
 refine JE ?_
 refine JI (Ef [0]) 3 ?_
 refine Z ?_
 refine Ji (b:=kA (a,n)) rfl ?_
 (conv=> whnf)
 refine AOp.any (JqT (x:=(a,n)) (i:=(0,s)) (es:=es) (.inl rfl) Tryz.underlying188 Jyx rfl rfl rfl rfl ?_)
 refine Z ?_
 exact Jad rfl ⟨_,⟨[((0,s), .mp ((JcL (a,n) es).map Jar))], [],nx+1,1⟩,Rf,Jr _ _ rfl (.cons _ Sf) Sf Bf Pf,_,_,rfl,rfl⟩
def Jfz (r:TRow):Bool:= [r.a0,r.a1,r.a2,r.a3,r.a4].any Jec
def Jcr (r:TRow):Bool:= !Jfz r&& (if r.mux=0 then decide (r.sub=0) else (decide (r.mux=1)|| decide (r.mux=2))&& decide (1≤r.sub)&& decide (r.sub≤255))
theorem Jq0 (r:TRow):Tells Tryz.prog 91 [Jj r] (boolA (Jcr r)):=by
 have hc:=Jo9 [r.a0,r.a1,r.a2,r.a3,r.a4] Jec 145 (by show 5≤_;decide) (fun i _=> Jis _)
 unfold Jcr
 have hb:Jfz r= [r.a0,r.a1,r.a2,r.a3,r.a4].any Jec:=rfl
 rw [← hb] at hc
 generalize Jfz r=b at hc
 obtain ⟨nm,a0,a1,a2,a3,a4,mux,sub⟩:=r
 dsimp only at hc⊢
 refine Jc Tryz.func91 rfl rfl fun nx=> ?_
 (refine JE ?_;refine JZ ?_;refine JE ?_)
 refine JaX (n:=30) (nx:=nx+1) (nn:=1) (pm:= []) (bx:= []) (L:= [(1, .rp [strA nm,int a0,int a1,int a2,int a3,int a4,int mux,int sub])]) (df:=some []) [((0,nx), .c [strA nm,int a0,int a1,int a2,int a3,int a4,int mux,int sub])] rfl rfl rfl (List.Perm.refl _) Sf ⟨Frz.bp (.head _) rfl,Tt⟩ ?_
 refine JI (fun n=> match n with | 0=> true | _=> false) 2 ?_
 refine Z ?_
 refine JmH (n:=5) (e:=3) (cs:= [int a0,int a1,int a2,int a3,int a4,int mux,int sub]) rfl rfl Tryz.underlying63 Tryz.underlying3 Kr Dc (by show 5 * 1≤7;decide) (by simp [int,AV.cells]) ?_
 refine Z ?_
 refine Ja rfl rfl hc ⟨AVle.sl_fun fun k hk=> ?_,Y1⟩ fun nx1=> ?_
 ·match k,hk with
  | 0,_ | 1,_ | 2,_ | 3,_ | 4,_=> rfl
 cases b
 ·refine Z ?_;intro c g;cases c
  ·have g:¬mux=0:=fun h=> by subst h;simp at g
   rw [if_neg g];refine Z ?_;intro c t1;cases c
   ·have t1:decide (mux=1)=false:=decide_eq_false (by simpa using t1.symm);rw [t1];refine Z ?_;intro c t2;cases c
    ·have t2:decide (mux=2)=false:=decide_eq_false (by simpa using t2.symm);rw [t2];refine Z ?_;exact Jb rfl Rf
    ·have t2:decide (mux=2)=true:=decide_eq_true (by simpa using t2.symm);rw [t2];refine Z ?_;intro c t3;cases c
     ·refine Z ?_;exact Jb rfl (Jp (by rw [show decide (1≤sub)=false from t3.symm];rfl))
     ·refine Z ?_;intro c t4;cases c
      all_goals
       refine Z ?_;exact Jb rfl (Jp (t4.trans (by rw [show decide (1≤sub)=true from t3.symm];rfl)))
   ·have t1:decide (mux=1)=true:=decide_eq_true (by simpa using t1.symm);rw [t1];refine Z ?_;intro c t3;cases c
    ·refine Z ?_;exact Jb rfl (Jp (by rw [show decide (1≤sub)=false from t3.symm];rfl))
    ·refine Z ?_;intro c t4;cases c
     all_goals
      refine Z ?_;exact Jb rfl (Jp (t4.trans (by rw [show decide (1≤sub)=true from t3.symm];rfl)))
  ·have g:mux=0:=by simpa using g.symm
   rw [if_pos g];refine Z ?_;intro c h;cases c
   all_goals
    refine Z ?_;exact Jb rfl (Jp (h.trans (by rw [Bool.eq_iff_iff];simp)))
 ·refine Z ?_;exact Jb rfl (Jp Si)
structure Inf where
 name:ByteArray
 token:Nat
 bit:Bool
 bits:Int
def JaM:Inf:=⟨⟨#[]⟩,0,false,0⟩
def JdT (i:Inf):List AV:= [strA i.name,u32 i.token,boolA i.bit,int i.bits]
def JzV (i:Inf):AV:= .ag (JdT i)
def infL:List Inf:= [⟨⟨#[120,56,54,95,54,52]⟩,3221225534,false,64⟩,⟨⟨#[120,51,50]⟩,3221225534,true,64⟩,⟨⟨#[105,51,56,54]⟩,1073741827,false,32⟩,⟨⟨#[97,114,109,54,52]⟩,3221225655,false,64⟩,⟨⟨#[114,105,115,99,118,54,52]⟩,3221225715,false,64⟩]
def infN:List (Nat×Inf):= [(0,infL.getD 0 JaM),(1,infL.getD 1 JaM),(2,infL.getD 2 JaM),(3,infL.getD 3 JaM),(4,infL.getD 4 JaM)]
def Jxe (p:Nat×Inf):List AV:= [int p.1,JzV p.2]
def Ju7:AV:= .ag (infL.flatMap JdT)
theorem JmT:IterSpec Tryz.prog 125 [] [] Jxe infN:=by
 intro i σ Cb Cp I J hc s0 nx nn h0
 refine ECall.wk (JB Tryz.func125 rfl rfl ?_)
 refine AW.le (E':=mk 22 [(0, .yl i)] ⟨Cb s0,Cp s0,nx,0⟩) (Et (bx:=Cb s0) (pm:=Cp s0) rfl rfl Bf Pf Y1) ?_
 refine Z ?_
 refine AW.le (E':=mk 22 [(0, .yl i),(11,Ju7),(12,int 0)] ⟨Cb s0,Cp s0,nx+1,0⟩) (Jh (bx:=Cb s0) (pm:=Cp s0) _ _ rfl rfl (.cons _ Sf) Sf Bf Pf Y3) ?_
 refine Jm (fun y:Nat×σ×Nat=> mk 22 [(0, .yl i),(11,Ju7),(12,int y.1)] ⟨Cb y.2.1,Cp y.2.1,y.2.2,0⟩) (fun y=> y.1≤5∧I (infN.take y.1) y.2.1) (fun y=> 5 - y.1) ?_ ?_
 ·exact ⟨(0,s0,nx+1),⟨Nat.zero_le _,h0⟩,Et rfl rfl Bf Pf Y3⟩
 ·rintro ⟨k,s,nx1⟩ ⟨hk,hI⟩;dsimp only at hk hI;rcases k with _ | _ | _ | _ | _ | _ | k
  ·refine Z ?_;refine Jc0 [((0,nx1), .c (JdT (infL.getD 0 JaM)))] [] rfl rfl rfl hc (show infN=infN.take 0++(0,infL.getD 0 JaM)::infN.drop (0+1) from rfl) hI Y2 (fun s' nx' hI'=> ?_) (fun s' nx' hJ=> ?_)
   ·refine Z ?_;exact back (0+1,s',nx') ⟨Dm,hI'⟩ Dm (Jh _ _ rfl rfl (.cons _ Sf) Sf Bf Pf Y3)
   ·refine Z ?_;exact Jad rfl ⟨_,⟨Cb s',Cp s',nx',0⟩,Rf,Jr _ _ rfl (.cons _ Sf) Sf Bf Pf,s', .inr ⟨_,_,_,rfl,hJ⟩,rfl,rfl⟩
  ·refine Z ?_;refine Jc0 [((0,nx1), .c (JdT (infL.getD 1 JaM)))] [] rfl rfl rfl hc (show infN=infN.take 1++(1,infL.getD 1 JaM)::infN.drop (1+1) from rfl) hI Y2 (fun s' nx' hI'=> ?_) (fun s' nx' hJ=> ?_)
   ·refine Z ?_;exact back (1+1,s',nx') ⟨Dm,hI'⟩ Dm (Jh _ _ rfl rfl (.cons _ Sf) Sf Bf Pf Y3)
   ·refine Z ?_;exact Jad rfl ⟨_,⟨Cb s',Cp s',nx',0⟩,Rf,Jr _ _ rfl (.cons _ Sf) Sf Bf Pf,s', .inr ⟨_,_,_,rfl,hJ⟩,rfl,rfl⟩
  ·refine Z ?_;refine Jc0 [((0,nx1), .c (JdT (infL.getD 2 JaM)))] [] rfl rfl rfl hc (show infN=infN.take 2++(2,infL.getD 2 JaM)::infN.drop (2+1) from rfl) hI Y2 (fun s' nx' hI'=> ?_) (fun s' nx' hJ=> ?_)
   ·refine Z ?_;exact back (2+1,s',nx') ⟨Dm,hI'⟩ Dm (Jh _ _ rfl rfl (.cons _ Sf) Sf Bf Pf Y3)
   ·refine Z ?_;exact Jad rfl ⟨_,⟨Cb s',Cp s',nx',0⟩,Rf,Jr _ _ rfl (.cons _ Sf) Sf Bf Pf,s', .inr ⟨_,_,_,rfl,hJ⟩,rfl,rfl⟩
  ·refine Z ?_;refine Jc0 [((0,nx1), .c (JdT (infL.getD 3 JaM)))] [] rfl rfl rfl hc (show infN=infN.take 3++(3,infL.getD 3 JaM)::infN.drop (3+1) from rfl) hI Y2 (fun s' nx' hI'=> ?_) (fun s' nx' hJ=> ?_)
   ·refine Z ?_;exact back (3+1,s',nx') ⟨Dm,hI'⟩ Dm (Jh _ _ rfl rfl (.cons _ Sf) Sf Bf Pf Y3)
   ·refine Z ?_;exact Jad rfl ⟨_,⟨Cb s',Cp s',nx',0⟩,Rf,Jr _ _ rfl (.cons _ Sf) Sf Bf Pf,s', .inr ⟨_,_,_,rfl,hJ⟩,rfl,rfl⟩
  ·refine Z ?_;refine Jc0 [((0,nx1), .c (JdT (infL.getD 4 JaM)))] [] rfl rfl rfl hc (show infN=infN.take 4++(4,infL.getD 4 JaM)::infN.drop (4+1) from rfl) hI Y2 (fun s' nx' hI'=> ?_) (fun s' nx' hJ=> ?_)
   ·refine Z ?_;exact back (4+1,s',nx') ⟨Dm,hI'⟩ Dm (Jh _ _ rfl rfl (.cons _ Sf) Sf Bf Pf Y3)
   ·refine Z ?_;exact Jad rfl ⟨_,⟨Cb s',Cp s',nx',0⟩,Rf,Jr _ _ rfl (.cons _ Sf) Sf Bf Pf,s', .inr ⟨_,_,_,rfl,hJ⟩,rfl,rfl⟩
  ·refine Z ?_;exact Jad rfl ⟨_,⟨Cb s,Cp s,nx1,0⟩,Rf,HLe.refl _,s, .inl hI,rfl,rfl⟩
  ·omega
theorem Jit:Tells Tryz.prog 65 [] (.fn (.func 125) [] []):=by
 refine Jc Tryz.func65 rfl rfl fun nx=> ?_
 refine Z ?_
 exact Jb rfl Rf
theorem JmU {pre post:List (Nat×Inf)} {x:Nat×Inf} (h:infN=pre++x::post):(pre=infN.take 0∧x=(0,infL.getD 0 JaM))∨(pre=infN.take 1∧x=(1,infL.getD 1 JaM))∨(pre=infN.take 2∧x=(2,infL.getD 2 JaM))∨(pre=infN.take 3∧x=(3,infL.getD 3 JaM))∨(pre=infN.take 4∧x=(4,infL.getD 4 JaM)):=by
 have hl:pre.length < 5:=by have:=congrArg List.length h;simp [infN] at this;omega
 have hp:pre=infN.take pre.length:=by rw [h];simp
 have hx:infN[pre.length]? =some x:=by rw [h];simp
 rcases (by omega:pre.length=0∨pre.length=1∨pre.length=2∨pre.length=3∨pre.length=4) with e | e | e | e | e
 all_goals rw [e] at hp hx
 ·exact .inl ⟨hp,(Option.some.inj hx).symm⟩
 ·exact .inr (.inl ⟨hp,(Option.some.inj hx).symm⟩)
 ·exact .inr (.inr (.inl ⟨hp,(Option.some.inj hx).symm⟩))
 ·exact .inr (.inr (.inr (.inl ⟨hp,(Option.some.inj hx).symm⟩)))
 ·exact .inr (.inr (.inr (.inr ⟨hp,(Option.some.inj hx).symm⟩)))
def JcH (num:Nat):Bool:=decide (num&&& 1073741824≠0)&& decide (num≠4294967295)
def JcG (arch:Nat) (w:Bool) (x:Nat×Inf):Bool:=decide (x.2.token=arch)&& ((decide (x.1≠0)&& decide (x.1≠1))|| (x.2.bit ==w))
def Jj6 (arch num:Nat):AV:=match infN.find? (JcG arch (JcH num)) with
 | some x=> .tup [int x.1,boolA true]
 | none=> .tup [int 0,boolA false]
theorem Jxf {arch num:Nat} (h:∀y∈infN,JcG arch (JcH num) y=false):Jj6 arch num= .tup [int 0,boolA false]:=by
 unfold Jj6
 rw [List.find?_eq_none.2 (fun x hx=> by rw [h x hx];decide)]
theorem Jxg {arch num:Nat} {pre post:List (Nat×Inf)} {x:Nat×Inf} (hx:infN=pre++x::post) (h:∀y∈pre,JcG arch (JcH num) y=false) (hs:JcG arch (JcH num) x=true):Jj6 arch num= .tup [int x.1,boolA true]:=by
 unfold Jj6
 have:infN.find? (JcG arch (JcH num))=some x:=by
  rw [hx,List.find?_append,List.find?_eq_none.2 (fun y hy=> by rw [h y hy];decide),List.find?_cons,hs];rfl
 rw [this]
theorem JAx {a b:Nat} (ha:a < 4294967296) (hb:b < 4294967296):Jb2 .and .u32 (a:Int) (b:Int)=((a&&& b:Nat):Int):=
 JoF (k:= .u32) ha hb (by
  have:a&&& b≤a:=Nat.and_le_left;simp [IntKind.wrap,IntKind.signed,IntKind.bits] at this⊢;omega)
theorem Jg7 {arch:Nat} {w:Bool} {x:Nat×Inf} (h:false=((x.2.token:Int) ==(arch:Int))):JcG arch w x=false:=by
 unfold JcG
 rw [show decide (x.2.token=arch)=false from decide_eq_false (fun e=> by rw [e] at h;simp at h)];rfl
theorem Ju8 {arch:Nat} {w:Bool} {x:Nat×Inf} (t:true=((x.2.token:Int) ==(arch:Int))) (h:((decide (x.1≠0)&& decide (x.1≠1))|| (x.2.bit ==w))=false):JcG arch w x=false:=by
 unfold JcG;rw [h,Bool.and_false]
theorem Jen {arch:Nat} {w:Bool} {x:Nat×Inf} (t:true=((x.2.token:Int) ==(arch:Int))) (h:((decide (x.1≠0)&& decide (x.1≠1))|| (x.2.bit ==w))=true):JcG arch w x=true:=by
 unfold JcG
 have e:x.2.token=arch:=by have:(x.2.token:Int)=(arch:Int):=by simpa using t.symm
                           omega
 rw [h,decide_eq_true e];rfl
theorem Jed {arch:Nat} {w:Bool} {x:Nat×Inf} {pre:List (Nat×Inf)} (h:∀z∈pre,JcG arch w z=false) (hx:JcG arch w x=false):∀z∈pre++ [x],JcG arch w z=false:=fun z hz=> by
 rcases List.mem_append.1 hz with q | q
 ·exact h z q
 ·rw [List.mem_singleton.1 q];exact hx
theorem Jq1 (arch num:Nat) (ha:arch < 4294967296) (hn:num < 4294967296):Tells Tryz.prog 27 [u32 arch,u32 num] (Jj6 arch num):=by
 refine Jc Tryz.func27 rfl rfl fun nx=> ?_
 (refine JE ?_;refine JZ ?_;refine JE ?_)
 refine Jij (fun y:Nat=> mk 38 [(2, .bp (0,nx) 0),(4, .bp (1,nx+1) 0),(5, .bp (2,nx+2) 0),(6, .bp (3,nx+3) 0)] ⟨[((3,nx+3), .c [boolA (JcH num)]),((2,nx+2), .c [boolA false]),((1,nx+1), .c [int 0]),((0,nx), .c [u32 arch])], [],y,4⟩) (fun _=> True) ?_ ?_
 ·have hw:JcH num=(decide (num&&& 1073741824≠0)&& decide (num≠4294967295)):=rfl;refine Z ?_;intro c hc;have hc2:c=decide (num&&& 1073741824≠0):=by
   rw [hc];show (Jb2 .and .u32 (num:Int) ((1073741824:Nat):Int) !=0)=_;rw [JAx hn Dc,Bool.eq_iff_iff];simp
  clear hc;rw [← hc2] at hw;clear hc2;cases c
  ·rw [hw];refine Z ?_;exact ⟨nx+4,trivial,Jh (pm:= []) _ [] rfl rfl Sf Sf Bf Tt Y4⟩
  ·rw [Bool.true_and] at hw;refine Z ?_;intro c hc;have hc2:c=JcH num:=by
    rw [hw,hc,Bool.eq_iff_iff];simp;omega
   rw [← hc2];clear hc hc2 hw;cases c
   all_goals
    refine Z ?_;exact ⟨nx+4,trivial,Jh (pm:= []) _ [] rfl rfl Sf Sf Bf Tt Y4⟩
 ·rintro nx2 -;refine Z ?_;refine Ja rfl rfl Jit trivial fun nx3=> ?_;refine Z ?_;refine AW.le (E':=mk 38 [(2, .bp (0,nx) 0),(4, .bp (1,nx+1) 0),(5, .bp (2,nx+2) 0),(6, .bp (3,nx+3) 0),(16, .fn (.func 125) [] [])] ⟨[((3,nx+3), .c [boolA (JcH num)]),((2,nx+2), .c [boolA false]),((1,nx+1), .c [int 0]),((0,nx), .c [u32 arch])], [],nx3,4⟩) (Et rfl rfl Bf Pf Y5) ?_;generalize hw:JcH num=w;refine JrH (σ:=Option Nat) (α:=Nat×Inf) (e:=Jxe) (xs:=infN) (first':= []) (caps':= []) (fun y=> [((3,nx+3), .c [boolA (w)]),((2,nx+2), .c [boolA y.isSome]),((1,nx+1), .c [int (y.getD 0:Nat)]),((0,nx), .c [u32 arch])]) (fun _=> []) (fun pre y=> y=none∧∀z∈pre,JcG arch w z=false) (fun pre x y=> y=some x.1∧JcG arch w x=true∧∀z∈pre,JcG arch w z=false) none rfl rfl JmT Tt trivial rfl rfl ⟨rfl,fun z hz=> by cases hz⟩ (fun _=> rfl) ?_ ?_ ?_
  ·rintro pre x post s nx4 nn4 hx ⟨rfl,hI⟩;rcases JmU hx with ⟨rfl,rfl⟩ | ⟨rfl,rfl⟩ | ⟨rfl,rfl⟩ | ⟨rfl,rfl⟩ | ⟨rfl,rfl⟩
   ·refine AW.le (JcZ (nn:=9) Sf Sf) ?_;refine Z ?_;intro c t1;cases c
    ·refine Z ?_;exact ⟨_,⟨_,_,_,0⟩,Rf,Jr _ _ rfl (.cons _ Sf) Sf Bf Pf, .inl ⟨rfl,none,⟨rfl,Jed hI (Jg7 t1)⟩,rfl,rfl⟩⟩
    ·cases w
     ·refine Z ?_;exact ⟨_,⟨_,_,_,0⟩,Rf,Jr _ _ rfl (.cons _ Sf) Sf Bf Pf, .inr ⟨rfl,some 0,⟨rfl,Jen t1 rfl,hI⟩,rfl,rfl⟩⟩
     ·refine Z ?_;exact ⟨_,⟨_,_,_,0⟩,Rf,Jr _ _ rfl (.cons _ Sf) Sf Bf Pf, .inl ⟨rfl,none,⟨rfl,Jed hI (Ju8 t1 rfl)⟩,rfl,rfl⟩⟩
   ·refine AW.le (JcZ (nn:=9) Sf Sf) ?_;refine Z ?_;intro c t1;cases c
    ·refine Z ?_;exact ⟨_,⟨_,_,_,0⟩,Rf,Jr _ _ rfl (.cons _ Sf) Sf Bf Pf, .inl ⟨rfl,none,⟨rfl,Jed hI (Jg7 t1)⟩,rfl,rfl⟩⟩
    ·cases w
     ·refine Z ?_;exact ⟨_,⟨_,_,_,0⟩,Rf,Jr _ _ rfl (.cons _ Sf) Sf Bf Pf, .inl ⟨rfl,none,⟨rfl,Jed hI (Ju8 t1 rfl)⟩,rfl,rfl⟩⟩
     ·refine Z ?_;exact ⟨_,⟨_,_,_,0⟩,Rf,Jr _ _ rfl (.cons _ Sf) Sf Bf Pf, .inr ⟨rfl,some 1,⟨rfl,Jen t1 rfl,hI⟩,rfl,rfl⟩⟩
   ·refine AW.le (JcZ (nn:=9) Sf Sf) ?_;refine Z ?_;intro c t1;cases c
    ·refine Z ?_;exact ⟨_,⟨_,_,_,0⟩,Rf,Jr _ _ rfl (.cons _ Sf) Sf Bf Pf, .inl ⟨rfl,none,⟨rfl,Jed hI (Jg7 t1)⟩,rfl,rfl⟩⟩
    ·cases w
     ·refine Z ?_;exact ⟨_,⟨_,_,_,0⟩,Rf,Jr _ _ rfl (.cons _ Sf) Sf Bf Pf, .inr ⟨rfl,some 2,⟨rfl,Jen t1 rfl,hI⟩,rfl,rfl⟩⟩
     ·refine Z ?_;exact ⟨_,⟨_,_,_,0⟩,Rf,Jr _ _ rfl (.cons _ Sf) Sf Bf Pf, .inr ⟨rfl,some 2,⟨rfl,Jen t1 rfl,hI⟩,rfl,rfl⟩⟩
   ·refine AW.le (JcZ (nn:=9) Sf Sf) ?_;refine Z ?_;intro c t1;cases c
    ·refine Z ?_;exact ⟨_,⟨_,_,_,0⟩,Rf,Jr _ _ rfl (.cons _ Sf) Sf Bf Pf, .inl ⟨rfl,none,⟨rfl,Jed hI (Jg7 t1)⟩,rfl,rfl⟩⟩
    ·cases w
     ·refine Z ?_;exact ⟨_,⟨_,_,_,0⟩,Rf,Jr _ _ rfl (.cons _ Sf) Sf Bf Pf, .inr ⟨rfl,some 3,⟨rfl,Jen t1 rfl,hI⟩,rfl,rfl⟩⟩
     ·refine Z ?_;exact ⟨_,⟨_,_,_,0⟩,Rf,Jr _ _ rfl (.cons _ Sf) Sf Bf Pf, .inr ⟨rfl,some 3,⟨rfl,Jen t1 rfl,hI⟩,rfl,rfl⟩⟩
   ·refine AW.le (JcZ (nn:=9) Sf Sf) ?_;refine Z ?_;intro c t1;cases c
    ·refine Z ?_;exact ⟨_,⟨_,_,_,0⟩,Rf,Jr _ _ rfl (.cons _ Sf) Sf Bf Pf, .inl ⟨rfl,none,⟨rfl,Jed hI (Jg7 t1)⟩,rfl,rfl⟩⟩
    ·cases w
     ·refine Z ?_;exact ⟨_,⟨_,_,_,0⟩,Rf,Jr _ _ rfl (.cons _ Sf) Sf Bf Pf, .inr ⟨rfl,some 4,⟨rfl,Jen t1 rfl,hI⟩,rfl,rfl⟩⟩
     ·refine Z ?_;exact ⟨_,⟨_,_,_,0⟩,Rf,Jr _ _ rfl (.cons _ Sf) Sf Bf Pf, .inr ⟨rfl,some 4,⟨rfl,Jen t1 rfl,hI⟩,rfl,rfl⟩⟩
  ·rintro s' nx4 nn4 ⟨rfl,hI⟩;rw [Jxf (by rw [hw];exact hI)];refine Z ?_;exact Jf rfl ⟨⟨rfl,Nat.le_of_ble_eq_true rfl⟩,⟨rfl,Nat.le_of_ble_eq_true rfl⟩,Tt⟩ Rf
  ·rintro pre x post s' nx4 nn4 hx ⟨rfl,h1,h2⟩;rw [Jxg hx (by rw [hw];exact h2) (by rw [hw];exact h1)];refine Z ?_;exact Jf rfl ⟨⟨rfl,Nat.le_of_ble_eq_true rfl⟩,⟨rfl,Nat.le_of_ble_eq_true rfl⟩,Tt⟩ Rf
structure Rec where
 num:Nat
 arch:Nat
 ptr:Nat
 a0:Nat
 a1:Nat
 a2:Nat
 a3:Nat
 a4:Nat
 a5:Nat
def Rec.ok (r:Rec):Prop:=r.num < 4294967296∧r.arch < 4294967296∧r.ptr < 18446744073709551616∧r.a0 < 18446744073709551616∧r.a1 < 18446744073709551616∧r.a2 < 18446744073709551616∧r.a3 < 18446744073709551616∧r.a4 < 18446744073709551616∧r.a5 < 18446744073709551616
def Rec.arg (r:Rec):Nat→Nat
 | 0=> r.a0
 | 1=> r.a1
 | 2=> r.a2
 | 3=> r.a3
 | 4=> r.a4
 | _=> r.a5
def J3 (r:Rec):List AV:= [u32 r.num,u32 r.arch,u64 r.ptr,u64 r.a0,u64 r.a1,u64 r.a2,u64 r.a3,u64 r.a4,u64 r.a5]
def recA (r:Rec):AV:= .ag (J3 r)
theorem JyN {a:Nat} (h:a < 5) (hn:∀z∈infN,z.1≠a):False:=by
 rcases (by omega:a=0∨a=1∨a=2∨a=3∨a=4) with rfl | rfl | rfl | rfl | rfl
 ·exact hn (0,infL.getD 0 JaM) (by simp [infN]) rfl
 ·exact hn (1,infL.getD 1 JaM) (by simp [infN]) rfl
 ·exact hn (2,infL.getD 2 JaM) (by simp [infN]) rfl
 ·exact hn (3,infL.getD 3 JaM) (by simp [infN]) rfl
 ·exact hn (4,infL.getD 4 JaM) (by simp [infN]) rfl
theorem JAy {k a:Nat} {pre:List (Nat×Inf)} {i:Inf} (h:∀z∈pre,z.1≠a) (t:false=((k:Int) ==(a:Int))):∀z∈pre++ [(k,i)],z.1≠a:=fun z hz=> by
 rcases List.mem_append.1 hz with q | q
 ·exact h z q
 ·rw [List.mem_singleton.1 q];intro e;dsimp only at e;subst e;simp at t
theorem JzW {k a:Nat} (t:true=((k:Int) ==(a:Int))):k=a:=by
 have:(k:Int)=(a:Int):=by simpa using t.symm
 omega
theorem Jtl (a:Nat) (ha:a < 5):Tells Tryz.prog 66 [int a] (.tup [JzV (infL.getD a JaM),int 0]):=by
 refine Jc Tryz.func66 rfl rfl fun nx=> ?_
 refine Z ?_
 refine Ja rfl rfl Jit trivial fun nx3=> ?_
 refine Z ?_
 refine AW.le (E':=mk 14 [(1, .bp (0,nx) 0),(2, .bp (1,nx+1) 0),(3, .bp (2,nx+2) 0),(6, .fn (.func 125) [] [])] ⟨[((2,nx+2), .c [int 0]),((1,nx+1), .c (JdT JaM)),((0,nx), .c [int a])], [],nx3,3⟩) (Jh (pm:= []) _ [] rfl rfl Sf Sf Bf Tt Y4) ?_
 refine JrH (σ:=Option Nat) (α:=Nat×Inf) (e:=Jxe) (xs:=infN) (first':= []) (caps':= []) (fun y=> [((2,nx+2), .c [int 0]),((1,nx+1), .c (JdT (y.elim JaM fun k=> infL.getD k JaM))),((0,nx), .c [int a])]) (fun _=> []) (fun pre y=> y=none∧∀z∈pre,z.1≠a) (fun pre x y=> y=some a) none rfl rfl JmT Tt trivial rfl rfl ⟨rfl,fun z hz=> by cases hz⟩ (fun _=> rfl) ?_ ?_ ?_
 ·rintro pre x post s nx4 nn4 hx ⟨rfl,hI⟩;rcases JmU hx with ⟨rfl,rfl⟩ | ⟨rfl,rfl⟩ | ⟨rfl,rfl⟩ | ⟨rfl,rfl⟩ | ⟨rfl,rfl⟩
  all_goals
   refine AW.le (JcZ (nn:=9) Sf Sf) ?_;refine Z ?_;intro c t1;cases c
   ·refine Z ?_;exact ⟨_,⟨_,_,_,0⟩,Rf,Jr _ _ rfl (.cons _ Sf) Sf Bf Pf, .inl ⟨rfl,none,⟨rfl,JAy hI t1⟩,rfl,rfl⟩⟩
   ·have e:=JzW t1;clear t1;subst e;refine Z ?_;exact ⟨_,⟨_,_,_,0⟩,Rf,Jr _ _ rfl (.cons _ Sf) Sf Bf Pf, .inr ⟨rfl,some _,rfl,rfl,rfl⟩⟩
 ·rintro s' nx4 nn4 ⟨rfl,hI⟩;exact (JyN ha hI).elim
 ·rintro pre x post s' nx4 nn4 hx rfl;refine Z ?_;exact Jf rfl ⟨rfl,⟨rfl,Nat.le_of_ble_eq_true rfl⟩,Tt⟩ Rf
def Jxh (f:Nat→Nat):AV:= .ag [u64 (f 0:Nat),u64 (f 1:Nat),u64 (f 2:Nat),u64 (f 3:Nat),u64 (f 4:Nat),u64 (f 5:Nat)]
def Jq (a:Nat) (r:Rec) (k:Nat):Nat:=if a=2 then r.arg k % 4294967296 else r.arg k
theorem Ji7 {n:Nat} (h:n < 18446744073709551616):IntKind.u64.wrap (IntKind.u32.wrap (n:Int))=((n % 4294967296:Nat):Int):=by
 simp [IntKind.wrap,IntKind.signed,IntKind.bits];omega
theorem Jxi {a:Nat} (h:a < 5):((infL.getD a JaM).bits ==32)=decide (a=2):=by
 rcases (by omega:a=0∨a=1∨a=2∨a=3∨a=4) with rfl | rfl | rfl | rfl | rfl <;> rfl
theorem Jd3:Tryz.prog.cellsOf 29=1:=by kernel_rfl
def Jah (f:Nat→Nat):List AV:= [u64 (f 0:Nat),u64 (f 1:Nat),u64 (f 2:Nat),u64 (f 3:Nat),u64 (f 4:Nat),u64 (f 5:Nat)]
def Jj7 (k:Nat) (r:Rec) (j:Nat):Nat:=bif Nat.blt j k then r.arg j % 4294967296 else r.arg j
theorem Jg8 {a:Nat} {r:Rec} (e:a=2) (k:Nat):AVle (u64 (r.arg k % 4294967296:Nat)) (u64 (Jq a r k:Nat)):=by
 unfold Jq;rw [if_pos e];exact Rf
theorem Jpb (a:Nat) (ha:a < 5) (r:Rec) (hr:r.ok):Tells Tryz.prog 29 [int a,recA r] (Jxh (Jq a r)):=by
 have hof:=Jtl a ha
 have hbits:=Jxi ha
 obtain ⟨-,-,-,r0,r1,r2,r3,r4,r5⟩:=hr
 refine Jc Tryz.func29 rfl rfl fun nx=> ?_
 refine Z ?_
 refine Ja rfl rfl hof Y1 fun nx2=> ?_
 refine Z ?_
 intro c hc
 have hc2:c=decide (a=2):=hc.trans hbits
 clear hc
 cases c
 ·have e:¬a=2:=of_decide_eq_false hc2.symm;have eA:Jq a r=r.arg:=by funext k;unfold Jq;rw [if_neg e]
  rw [eA];refine Z ?_;exact Jf rfl ⟨rfl,Tt⟩ Rf
 ·have e:a=2:=of_decide_eq_true hc2.symm;refine Z ?_;refine Jm (fun y:Nat×Nat=> mk 35 [(3, .bp (0,nx) 0),(4, .bp (1,nx+1) 0),(5, .bp (2,nx+2) 0),(23,int y.1)] ⟨[((3,nx2), .c (JdT (infL.getD a JaM))),((2,nx+2), .c (Jah (Jj7 y.1 r))),((1,nx+1), .c (Jah fun _=> 0)),((0,nx), .c (J3 r))], [],y.2,4⟩) (fun y=> y.1≤6) (fun y=> 6 - y.1) ?_ ?_
  ·exact ⟨(0,nx2+1),Nat.zero_le _,Jh (pm:= []) _ [] rfl rfl Sf Sf ⟨rfl,OwnLe.refl _,rfl,Y6,rfl,Y6,Bf⟩ Tt Y4⟩
  ·rintro ⟨k,nx3⟩ hk;dsimp only at hk;rcases k with _ | _ | _ | _ | _ | _ | _ | k
   ·refine Z ?_;refine ⟨⟨Int.natCast_nonneg _,show ((0:Nat):Int) < 6 by decide⟩,Ji (b:= .bp (2,nx+2) 0) (congrArg (AV.bp (2,nx+2)) (by rw [Jd3];rfl)) ?_⟩;refine Z ?_;refine ⟨⟨Int.natCast_nonneg _,show ((0:Nat):Int) < 6 by decide⟩,Ji (b:= .bp (2,nx+2) 0) (congrArg (AV.bp (2,nx+2)) (by rw [Jd3];rfl)) ?_⟩;refine Z ?_;exact back (0+1,nx3) (show 0+1≤6 by decide) Dm (Jh (bx:= [((3,nx2), .c (JdT (infL.getD a JaM))),((2,nx+2), .c (Jah (Jj7 (0+1) r))),((1,nx+1), .c (Jah fun _=> 0)),((0,nx), .c (J3 r))]) (pm:= []) _ [] rfl rfl Sf Sf ⟨rfl,OwnLe.refl _,rfl,⟨Jfj (Ji7 r0),Y5⟩,Bf⟩ Tt Y4)
   ·refine Z ?_;refine ⟨⟨Int.natCast_nonneg _,show ((1:Nat):Int) < 6 by decide⟩,Ji (b:= .bp (2,nx+2) 1) (congrArg (AV.bp (2,nx+2)) (by rw [Jd3];rfl)) ?_⟩;refine Z ?_;refine ⟨⟨Int.natCast_nonneg _,show ((1:Nat):Int) < 6 by decide⟩,Ji (b:= .bp (2,nx+2) 1) (congrArg (AV.bp (2,nx+2)) (by rw [Jd3];rfl)) ?_⟩;refine Z ?_;exact back (1+1,nx3) (show 1+1≤6 by decide) Dm (Jh (bx:= [((3,nx2), .c (JdT (infL.getD a JaM))),((2,nx+2), .c (Jah (Jj7 (1+1) r))),((1,nx+1), .c (Jah fun _=> 0)),((0,nx), .c (J3 r))]) (pm:= []) _ [] rfl rfl Sf Sf ⟨rfl,OwnLe.refl _,rfl,⟨Rf,Jfj (Ji7 r1),Y4⟩,Bf⟩ Tt Y4)
   ·refine Z ?_;refine ⟨⟨Int.natCast_nonneg _,show ((2:Nat):Int) < 6 by decide⟩,Ji (b:= .bp (2,nx+2) 2) (congrArg (AV.bp (2,nx+2)) (by rw [Jd3];rfl)) ?_⟩;refine Z ?_;refine ⟨⟨Int.natCast_nonneg _,show ((2:Nat):Int) < 6 by decide⟩,Ji (b:= .bp (2,nx+2) 2) (congrArg (AV.bp (2,nx+2)) (by rw [Jd3];rfl)) ?_⟩;refine Z ?_;exact back (2+1,nx3) (show 2+1≤6 by decide) Dm (Jh (bx:= [((3,nx2), .c (JdT (infL.getD a JaM))),((2,nx+2), .c (Jah (Jj7 (2+1) r))),((1,nx+1), .c (Jah fun _=> 0)),((0,nx), .c (J3 r))]) (pm:= []) _ [] rfl rfl Sf Sf ⟨rfl,OwnLe.refl _,rfl,⟨Rf,Rf,Jfj (Ji7 r2),Y3⟩,Bf⟩ Tt Y4)
   ·refine Z ?_;refine ⟨⟨Int.natCast_nonneg _,show ((3:Nat):Int) < 6 by decide⟩,Ji (b:= .bp (2,nx+2) 3) (congrArg (AV.bp (2,nx+2)) (by rw [Jd3];rfl)) ?_⟩;refine Z ?_;refine ⟨⟨Int.natCast_nonneg _,show ((3:Nat):Int) < 6 by decide⟩,Ji (b:= .bp (2,nx+2) 3) (congrArg (AV.bp (2,nx+2)) (by rw [Jd3];rfl)) ?_⟩;refine Z ?_;exact back (3+1,nx3) (show 3+1≤6 by decide) Dm (Jh (bx:= [((3,nx2), .c (JdT (infL.getD a JaM))),((2,nx+2), .c (Jah (Jj7 (3+1) r))),((1,nx+1), .c (Jah fun _=> 0)),((0,nx), .c (J3 r))]) (pm:= []) _ [] rfl rfl Sf Sf ⟨rfl,OwnLe.refl _,rfl,⟨Rf,Rf,Rf,Jfj (Ji7 r3),Y2⟩,Bf⟩ Tt Y4)
   ·refine Z ?_;refine ⟨⟨Int.natCast_nonneg _,show ((4:Nat):Int) < 6 by decide⟩,Ji (b:= .bp (2,nx+2) 4) (congrArg (AV.bp (2,nx+2)) (by rw [Jd3];rfl)) ?_⟩;refine Z ?_;refine ⟨⟨Int.natCast_nonneg _,show ((4:Nat):Int) < 6 by decide⟩,Ji (b:= .bp (2,nx+2) 4) (congrArg (AV.bp (2,nx+2)) (by rw [Jd3];rfl)) ?_⟩;refine Z ?_;exact back (4+1,nx3) (show 4+1≤6 by decide) Dm (Jh (bx:= [((3,nx2), .c (JdT (infL.getD a JaM))),((2,nx+2), .c (Jah (Jj7 (4+1) r))),((1,nx+1), .c (Jah fun _=> 0)),((0,nx), .c (J3 r))]) (pm:= []) _ [] rfl rfl Sf Sf ⟨rfl,OwnLe.refl _,rfl,⟨Rf,Rf,Rf,Rf,Jfj (Ji7 r4),Y1⟩,Bf⟩ Tt Y4)
   ·refine Z ?_;refine ⟨⟨Int.natCast_nonneg _,show ((5:Nat):Int) < 6 by decide⟩,Ji (b:= .bp (2,nx+2) 5) (congrArg (AV.bp (2,nx+2)) (by rw [Jd3];rfl)) ?_⟩;refine Z ?_;refine ⟨⟨Int.natCast_nonneg _,show ((5:Nat):Int) < 6 by decide⟩,Ji (b:= .bp (2,nx+2) 5) (congrArg (AV.bp (2,nx+2)) (by rw [Jd3];rfl)) ?_⟩;refine Z ?_;exact back (5+1,nx3) (show 5+1≤6 by decide) Dm (Jh (bx:= [((3,nx2), .c (JdT (infL.getD a JaM))),((2,nx+2), .c (Jah (Jj7 (5+1) r))),((1,nx+1), .c (Jah fun _=> 0)),((0,nx), .c (J3 r))]) (pm:= []) _ [] rfl rfl Sf Sf ⟨rfl,OwnLe.refl _,rfl,⟨Rf,Rf,Rf,Rf,Rf,Jfj (Ji7 r5),Tt⟩,Bf⟩ Tt Y4)
   ·refine Z ?_;refine Jf rfl ⟨rfl,Tt⟩ (AVle.ags ⟨Jg8 e 0,Jg8 e 1,Jg8 e 2,Jg8 e 3,Jg8 e 4,Jg8 e 5,Tt⟩)
   ·omega
end Go.Proofs.W

namespace Go.Proofs.W
open Go.Vl
section
variable {α:Type} [Inhabited α] {lt:α→α→Bool}
theorem JyO {a j:Nat} {e:Array α} (h:a < j) (hl:lt e[j]! e[j - 1]! =true):Go.Sort.insInner lt a j e=Go.Sort.insInner lt a (j - 1) (Go.Sort.swp e j (j - 1)):=by
 cases j with
 | zero=> omega
 | succ j=>
   rw [Go.Sort.insInner];simp only [Nat.add_sub_cancel] at hl⊢;rw [if_pos (by simp [hl];omega)]
theorem Jxj {a j:Nat} {e:Array α} (hl:lt e[j]! e[j - 1]! =false):Go.Sort.insInner lt a j e=e:=by
 cases j with
 | zero=> rfl
 | succ j=>
   rw [Go.Sort.insInner];simp only [Nat.add_sub_cancel] at hl⊢;rw [if_neg (by simp [hl])]
theorem Ju9 {a j:Nat} {e:Array α} (h:¬a < j):Go.Sort.insInner lt a j e=e:=by
 cases j with
 | zero=> rfl
 | succ j=> rw [Go.Sort.insInner];simp;omega
theorem Jfl {K:Bool→Prop} {b b':Bool} (h:b=b') (hk:∀c,c=b'→K c):∀c,c=b→K c:=by subst h;exact hk
def Jan (lt:α→α→Bool) (l:List α):List α:=l.mergeSort (fun x y=> !lt y x)
omit [Inhabited α] in
theorem Je9 (hS:Go.Sort.SWO lt) (l:List α):(Jan lt l).Pairwise (fun x y=> lt y x=false):=by
 have tr:∀a b c:α,(!lt b a)=true→(!lt c b)=true→(!lt c a)=true:=fun a b c h1 h2=> by
  simp only [Bool.not_eq_true'] at *; exact hS.ntrans _ _ _ h2 h1
 have tq:∀a b:α,((!lt b a)|| (!lt a b))=true:=fun a b=> by
  cases h1:lt b a <;> cases h2:lt a b <;> try rfl
  have:=hS.trans _ _ _ h1 h2;rw [hS.irrefl] at this;cases this
 exact (List.pairwise_mergeSort tr tq l).imp fun h=> by simpa using h
omit [Inhabited α] in
theorem JhF {l:List α} {x:α}:x∈Jan lt l↔x∈l:=(List.mergeSort_perm l _).mem_iff
omit [Inhabited α] in
theorem Jbw {l:List α}:(Jan lt l).length=l.length:=List.length_mergeSort _
omit [Inhabited α] in
theorem Jl2 (hS:Go.Sort.SWO lt) (hT:∀x y,lt x y=false→lt y x=false→x=y) {l l':List α} (h:l.Perm l'):Jan lt l=Jan lt l':=
 List.Perm.eq_of_pairwise (le:=fun x y=> lt y x=false) (fun a b _ _ h1 h2=> hT a b h2 h1) (Je9 hS l) (Je9 hS l') (((List.mergeSort_perm l _).trans h).trans (List.mergeSort_perm l' _).symm)
omit [Inhabited α] in
end
end Go.Proofs.W

namespace Go.Proofs.W
open Go.Vl
set_option maxRecDepth 100000
def Jiu (mux sub:Int) (r:TRow):Bool:=decide (r.mux=mux)&& (decide (r.sub=sub)&& decide (mux≠0))
def Jg9 (a:Nat) (n:Int) (r:TRow):Bool:=decide (r.num a=n)
def Jiv (a num:Nat):Nat:=if a=1∧num / 1073741824 % 2=1 then num - 1073741824 else num
theorem Jva {c lo d m i:Nat} (h:lo < 2 ^ i) (hm:m < 2 ^ i):(2 ^ i * c+lo)&&& (2 ^ i * d+m)=2 ^ i * (c&&& d)+(lo&&& m):=by
 apply Nat.eq_of_testBit_eq
 intro j
 have hlm:lo&&& m < 2 ^ i:=Nat.lt_of_le_of_lt Nat.and_le_left h
 rw [Nat.testBit_and,Nat.testBit_two_pow_mul_add _ h,Nat.testBit_two_pow_mul_add _ hm,Nat.testBit_two_pow_mul_add _ hlm]
 split <;> rw [Nat.testBit_and]
def JfL (num:Nat):Nat:=if num=102 then 1 else if num=117 then 2 else 0
theorem Jpc (num:Nat):Tells Tryz.prog 28 [u32 num] (int (JfL num)):=by
 refine Jc Tryz.func28 rfl rfl fun nx=> ?_
 refine Z ?_
 intro c t;cases c
 ·have e:¬num=102:=fun e=> by subst e;simp at t
  refine Z ?_;intro c t2;cases c
  ·have e2:¬num=117:=fun e=> by subst e;simp at t2
   have e3:JfL num=0:=by unfold JfL;rw [if_neg e,if_neg e2]
   rw [e3];refine Z ?_;exact Jb rfl Rf
  ·have e2:num=117:=by have:(num:Int)=117:=by simpa using t2.symm
                       omega
   subst e2;refine Z ?_;exact Jb rfl Rf
 ·have e2:num=102:=by have:(num:Int)=102:=by simpa using t.symm
                      omega
  subst e2;refine Z ?_;exact Jb rfl Rf
def Jgy (l:List TRow):Option Nat→ByteArray
 | some i=> (l.getD i Jd).name
 | none=> ⟨#[]⟩
structure CallR where
 some:Bool
 abi:Int
 name:ByteArray
 muxed:Bool
def Jyy:CallR:=⟨false,0,⟨#[]⟩,false⟩
def JfA (arch num:Nat):Option Nat:=(infN.find? (JcG arch (JcH num))).map (·.1)
theorem JyP (arch num:Nat):Jj6 arch num=match JfA arch num with
 | some a=> .tup [int a,boolA true]
 | none=> .tup [int 0,boolA false]:=by
 unfold Jj6 JfA
 cases infN.find? (JcG arch (JcH num)) <;> rfl
theorem JrN {arch num a:Nat} (h:JfA arch num=some a):a < 5:=by
 unfold JfA at h
 obtain ⟨x,hx,rfl⟩:=Option.map_eq_some_iff.1 h
 have:=List.mem_of_find?_eq_some hx
 simp only [infN,List.mem_cons,List.not_mem_nil,or_false] at this
 rcases this with rfl | rfl | rfl | rfl | rfl <;> decide
def Jd4 (a num:Nat):Nat:=if a=2 then JfL num else 0
def ofI (l:List TRow) (r:Rec):CallR:=match JfA r.arch r.num with
 | none=> Jyy
 | some a=> if 0 < Jd4 a r.num then ⟨true,a,Jgy l (l.findIdx? (Jiu (Jd4 a r.num) ((r.a0 % 4294967296:Nat):Int))),true⟩
   else ⟨true,a,Jgy l (l.findIdx? (Jg9 a ((Jiv a r.num:Nat):Int))),false⟩
theorem Jvb {a b:AV} {K:AV→Prop} (h:a=b) (hk:Jci b K):Jci a K:=h ▸ hk
end Go.Proofs.W

namespace Go.Proofs.W
open Go.Vl
set_option maxRecDepth 100000
def kS (s t:ByteArray):Bool:=s.toList ==t.toList
theorem JaG {s t:ByteArray}:kS s t=true↔s=t:=by
 unfold kS
 rw [beq_iff_eq,Lib.toList_data,Lib.toList_data]
 constructor
 ·intro h;obtain ⟨⟨a⟩⟩:=s;obtain ⟨⟨b⟩⟩:=t;simpa using h
 ·rintro rfl;rfl
section
variable {α:Type} {nm:α→ByteArray} {val:α→AV}
end
end Go.Proofs.W

namespace Go.Proofs.W
open Go.Vl
set_option maxRecDepth 100000
structure Ent where
 name:ByteArray
 m:Nat
 a:Nat→Nat
 b:Nat→Bool
 st:Nat
structure Gat where
 name:ByteArray
 m:Nat
 a:Nat→Nat
 b:Nat→Bool
def JeA (es:List (Value×AV)) (j:Nat):Value:=(es.getD j (.int .i64 0, .any)).1
theorem Jtm {es:List (Value×AV)} {k:Nat} {p:Value×AV} (h:es[k]? =some p):JeA es k=p.1:=by simp [JeA,List.getD,h]
theorem JmV (es:List (Value×AV)):(List.range es.length).map (JeA es)=es.map (·.1):=by
 refine List.ext_getElem Si fun j h1 h2=> ?_
 have:j < es.length:=by simpa using h1
 simp [JeA,List.getD,this]
end Go.Proofs.W

namespace Go.Proofs
open Go.Shelf
shelf_lay_g SlLaysM.n6 Slgm 6 at Tryz 94 as Tryz.laysM6
end Go.Proofs
namespace Go.Proofs.W
open Go.Vl Go.Shelf
set_option maxRecDepth 100000
def JaI (z:List UInt8):AV:= .v (encStr z)
def Jc3 (s:Nat) (d:Array (List UInt8)) (tl:List AV):List (Vl.Id×Own):= [((0,s), .c (Jc1 JaI d tl))]
theorem Jpd (l:List (List UInt8)):l.mergeSort (fun x y=> decide (x≤y))=Jan Go.Sort.ltStr l:=by
 unfold Jan
 congr 1
 funext x y
 simp only [Go.Sort.ltStr]
 by_cases h:x≤y
 ·rw [decide_eq_true h,decide_eq_false (List.not_lt.2 h)];rfl
 ·rw [decide_eq_false h,decide_eq_true (List.not_le.1 h)];rfl
theorem Jvc:∀x y:List UInt8,Go.Sort.ltStr x y=false→Go.Sort.ltStr y x=false→x=y:=fun x y h1 h2=> by
 simp only [Go.Sort.ltStr,decide_eq_false_iff_not,List.not_lt] at h1 h2
 exact List.le_antisymm h2 h1
theorem Jvd (d0:Array (List UInt8)) (tl:List AV) (n:Nat) (hn:d0.size=n) (hsz:n≤1000000) (s cap nx:Nat):
 ECall Tryz.prog 94 [.hs (0,s) 0 n cap] ⟨Jc3 s d0 tl, [],nx,1⟩ (fun r h'=> ∃nx' nn',h'=⟨Jc3 s (Jan Go.Sort.ltStr d0.toList).toArray tl, [],nx',nn'⟩):=by
 subst hn
 have h:=JjB (P:=Tryz.prog) (enc:=encStr) (d:=d0) (d':=(Jan Go.Sort.ltStr d0.toList).toArray) (tl:=tl) (nm:=0) (s:=s) (cap:=cap) (nx:=nx) (nn:=1) (f:=94) ⟨_,Tryz.func94,rfl,rfl⟩ (by simp [Jbw]) (fun w blk hH hb=> by
  have k:=AnyM.slices_Sort_string Tryz.laysM6 blk 0 cap d0.toList w hH hb (by simp;omega);rw [Jpd] at k;exact k)
 exact h.mono fun r h' ⟨_,h2⟩=> ⟨nx,1,h2⟩
theorem Jve (F:Nat→AV):Tells Tryz.prog 94 [.os 1 0 F none] (.tup []):=
 JjC (nx:=0) ⟨_,Tryz.func94,rfl,rfl⟩ fun p cap w=> AnyM.slices_Sort_string_none Tryz.laysM6 p cap w
end Go.Proofs.W
