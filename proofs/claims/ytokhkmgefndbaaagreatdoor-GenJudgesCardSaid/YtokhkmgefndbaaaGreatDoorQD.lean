import Derived.Test.YtokhkmgefndbaaaGreatDoorQC
import Derived.Maps.RangeRun
import Derived.Sort.Row
import Derived.Sort.Grow
import Derived.Shelf.Strings.FuncGrows
import Derived.Scope
import Derived.Shelf.SlSortCmp.InsertionK
import Derived.Sort.Statements
import Derived.Laws.IdiomStrings
import Derived.KernelRfl
import Derived.Test.YtokhkmgefndbaaaGreatDoorProg
import Derived.Ground.NamesProg
import Derived.Shelf.Lay
import Derived.Shelf.Strings.SlTrimAscii
import Derived.Shelf.Small.Strs
import Derived.Sort.AssemblyPlain
import Derived.Shelf.SortM.Plain
import Derived.Shelf.SortM.SortNone
import Derived.Shelf.SlGeneric
import Derived.Ground.SlgmProg
import Derived.Sort.Walk0
import Derived.Shelf.Strings.Search1
import Derived.Shelf.Strings.FieldsFuncGrows
set_option linter.unusedVariables false
set_option linter.unusedSimpArgs false
set_option maxHeartbeats 16000000
namespace Go.Vl
open Go.RowKit
variable {P:Program}
theorem Ji0 {o:Oper} {t kt et:TypeId} {m:Operand} {es:List (Value×AV)} {E:Env} {K:Env→Prop} {Kp:AV→Env→Prop} (ho:o.op= .range t m) (ht:P.underlying t=some (.map kt et)) (hm:E.ev m= .fm es)
 (hk:K (({ E with h:=E.h.addo (.it es [])}:Env).set o.dst (.bp (E.h.nn,E.h.nx) 0))):AOp P o E K Kp:=by
 intro ro X M w0 a w g hs next Q hn hp
 have hr:=hs.ev m
 rw [hm] at hr
 generalize hmv:a.eval m=u at hr
 cases hr with
 | fm _ mb ents hb hx hl hke hrp=>
   obtain ⟨h1,h2,_⟩:=hs.obj (x:= .it es []) (.mapIter (some mb) ents.length #[] ents.length) (fun X' g' hst hnew=> ⟨mb,ents,hnew,(hst.obj _ _ hb hx).1,(hst.obj _ _ hb hx).2,hl,fun k p e q1 q2=> ⟨(hke k p e q1 q2).1,(hke k p e q1 q2).2,(hrp k p e q1 q2).stays hst⟩⟩);refine J4 (by rw [ho];intro c h;cases h) ?_;have:(execOp a.eval o).run P w= .ok (.value (.pointer (some ⟨w.heap.size,0,none⟩))) (w.alloc (.mapIter (some mb) ents.length #[] ents.length)):=by
    unfold execOp;simp only [ho,Instr.range,hmv,Sem.run_bind,JjM ht,Result.andThen_ok,Jed hb];simp [newObj,Sem.run]
   rw [this];exact hn _ _ _ _ hk (fun i b h=> by rw [List.getElem?_append_left (List.getElem?_eq_some_iff.1 h).1];exact h) (h1.put o.dst (.bp _ _ _ h2))
theorem Jxd {Y:Nat→Nat→Prop} {g:List Nat} {h:Heap} {nm:Nat} {x:Own} {b o:Nat} (hx:excl Y g ({ h with bx:=Jbu nm x h.bx}:Heap) b o):excl Y g h b o:=by
 rcases hx with hx | ⟨p,hp,hg⟩ | hx
 ·exact .inl hx
 ·have:p.1.2∈(Jbu nm x h.bx).map (·.1.2):=List.mem_map.2 ⟨p,hp,rfl⟩;rw [Jgr] at this;obtain ⟨q,hq,he⟩:=List.mem_map.1 this;exact .inr (.inl ⟨q,hq,by rw [he];exact hg⟩)
 ·exact .inr (.inr hx)
theorem Jxe {o:Oper} {it:Operand} {i:Id} {es:List (Value×AV)} {seen:List Nat} {E:Env} {K:Env→Prop} {Kp:AV→Env→Prop} (ho:o.op= .next it false) (hit:E.ev it= .bp i 0) (hes:JaB i.1 E.h.bx=some (i.2, .it es seen))
 (hmore:∀k p,es[k]? =some p→k∉seen→K (({ E with h:= { E.h with bx:=Jbu i.1 (.it es (seen++ [k])) E.h.bx}}:Env).set o.dst (.tup [.v (.bool true), .v p.1,p.2])))
 (hdone:(∀k,k < es.length→k∈seen)→K (E.set o.dst (.tup [.v (.bool false)]))):AOp P o E K Kp:=by
 intro ro X M w0 a w g hs next Q hn hp
 obtain ⟨b,hgb,hown⟩:=hs.hok.bx _ (Ja4 hes)
 dsimp only at hgb hown
 have hiv:a.eval it= .pointer (some ⟨b,0,none⟩):=by
  have:=hs.ev it;rw [hit] at this;generalize a.eval it=u at this;cases this with
  | bp _ _ b' hg'=> rw [hgb] at hg';cases hg';rfl
 obtain ⟨mb,ents,h1,h2,h3,h4,h5⟩:=hown
 have hborn:∀x∈ents.toArray.toList,x.born < ents.length:=fun x hx=> by
  obtain ⟨k,hk,rfl⟩:=List.getElem_of_mem hx;have hk2:k < es.length:=by rw [← h4];exact hk
  rw [(h5 k _ _ (List.getElem?_eq_getElem hk2) (List.getElem?_eq_getElem hk)).2.1];exact hk
 refine J4 (by intro c h;rw [ho] at h;cases h) ?_
 rcases run_next_at (P:=P) w o.type b mb ents.length ents.length seen.toArray ents.toArray ents.length h1 h2 hborn (Nat.le_refl _) with ⟨h0,hrun⟩ | ⟨e,he,w1,hw1,hrun⟩
 ·have:(execOp a.eval o).run P w= .ok (.value (.tuple #[.bool false])) w:=by
   unfold execOp;simp only [ho,hiv,hrun,Sem.run_bind,Result.andThen_ok,Sem.run_pure]
  rw [this];refine hn _ _ _ g (hdone fun k hk=> ?_) (fun _ _ h=> h) (hs.put o.dst ?_)
  ·have hk2:k < ents.length:=by rw [h4];exact hk
   have hb:=(h5 k _ _ (List.getElem?_eq_getElem hk) (List.getElem?_eq_getElem hk2)).2.1;rcases Decidable.em (k∈seen) with h | h
   ·exact h
   ·exfalso
    have hem:(leftOf ents.toArray seen.toArray)= #[]:=Array.eq_empty_of_size_eq_zero h0;unfold leftOf at hem;rw [Array.filter_eq_empty_iff] at hem;have:=hem ents[k] Si;simp [hb] at this;exact h this
  ·refine .tup [.v (.bool false)] [.bool false] rfl fun k c u hc hu=> ?_;cases k with
   | zero=> simp at hc hu;subst hc;subst hu;exact .v _
   | succ k=> simp at hc
 ·have hem:e∈ents∧e.born∉seen:=by
   unfold leftOf at he;simp at he;exact he
  obtain ⟨k,hk,hek⟩:=List.getElem_of_mem hem.1;have hk2:k < es.length:=by rw [← h4];exact hk
  obtain ⟨q1,q2,q3⟩:=h5 k es[k] ents[k] (List.getElem?_eq_getElem hk2) (List.getElem?_eq_getElem hk);rw [hek] at q1 q2 q3;have s1:St ro X M w0 E a w1 g:=by
   rcases hw1 with rfl | rfl
   ·exact hs
   ·exact hs.drew
  have hb1:w1.heap[b]? =some (.mapIter (some mb) ents.length seen.toArray ents.length):=by rcases hw1 with rfl | rfl <;> exact h1
  have hm1:w1.heap[mb]? =some (.map ents.toArray ents.length):=by rcases hw1 with rfl | rfl <;> exact h2
  have hst:Stays w (excl X g E.h) g w1 (excl X g E.h) g:=by
   rcases hw1 with rfl | rfl
   ·exact Stays.refl _ _ _
   ·exact (Jhg w).stays (fun _ _ _ h=> h.elim) (fun _ _ _ h=> h) (fun _ _ h=> h)
  have hev:=Jfj (o':= .mapIter (some mb) ents.length (seen++ [k]).toArray ents.length) hb1 rfl (fun h=> by cases h);have hne:mb≠b:=fun h=> by rw [h] at h2;rw [h1] at h2;cases h2
  have hnew:=s1.setOwn (x:= .it es (seen++ [k])) hes hgb hev (fun hst2=> ⟨mb,ents,Jew hb1,(JeN hne).trans hm1,h3,h4,fun k' p' e' r1 r2=> ⟨(h5 k' p' e' r1 r2).1,(h5 k' p' e' r1 r2).2.1,((h5 k' p' e' r1 r2).2.2.stays hst).stays hst2⟩⟩);have:(execOp a.eval o).run P w= .ok (.value (.tuple #[.bool true,e.key,e.val])) (World.setO w1 b (.mapIter (some mb) ents.length (seen++ [k]).toArray ents.length)):=by
   unfold execOp;simp only [ho,hiv,hrun,Sem.run_bind,Result.andThen_ok,Sem.run_pure,q2,List.push_toArray];rfl
  rw [this];refine hn _ _ _ g (hmore k es[k] (List.getElem?_eq_getElem hk2) (by rw [← q2];exact hem.2)) (fun _ _ h=> h) (hnew.put o.dst ?_);have hval:=((q3.stays hst).stays (hev.stays (X:=excl X g E.h) (X':=excl X g E.h) (g:=g) (g':=g) (fun b' o' _ hbb=> by
   subst hbb;exact .inr (.inl ⟨_,Ja4 hes,hgb⟩)) (fun _ _ _ h=> h) (fun _ _ h=> h)))
  refine .tup _ [.bool true,e.key,e.val] rfl fun j c u hc hu=> ?_;rcases j with _ | _ | _ | j
  ·simp at hc hu;subst hc;subst hu;exact .v _
  ·simp at hc hu;subst hc;subst hu;rw [q1];exact .v _
  ·simp at hc hu;subst hc;subst hu;exact hval.stays (Stays.less fun b' o' h=> Jxd h)
  ·simp at hc
theorem Jxf {o:Oper} {it:Operand} {i:Id} {es:List (Value×AV)} {seen:List Nat} {k:Nat} {p:Value×AV} {E:Env} {K:Env→Prop} {Kp:AV→Env→Prop} (ho:o.op= .entry it) (hit:E.ev it= .bp i 0) (hes:JaB i.1 E.h.bx=some (i.2, .it es (seen++ [k])))
 (hp:es[k]? =some p) (hk:K (E.set o.dst (.tup [.v p.1,p.2]))):AOp P o E K Kp:=by
 intro ro X M w0 a w g hs next Q hn hpan
 obtain ⟨b,hgb,hown⟩:=hs.hok.bx _ (Ja4 hes)
 dsimp only at hgb hown
 have hiv:a.eval it= .pointer (some ⟨b,0,none⟩):=by
  have:=hs.ev it;rw [hit] at this;generalize a.eval it=u at this;cases this with
  | bp _ _ b' hg'=> rw [hgb] at hg';cases hg';rfl
 obtain ⟨mb,ents,h1,h2,h3,h4,h5⟩:=hown
 have hk2:k < es.length:=(List.getElem?_eq_some_iff.1 hp).1
 have hk3:k < ents.length:=by rw [h4];exact hk2
 obtain ⟨q1,q2,q3⟩:=h5 k p ents[k] hp (List.getElem?_eq_getElem hk3)
 have hnd:(ents.toArray.toList.map (·.born)).Nodup:=by
  have:ents.map (·.born)=List.range ents.length:=by
   refine List.ext_getElem Si fun j j1 j2=> ?_;rw [List.getElem_map,List.getElem_range];have hj:j < ents.length:=by simpa using j1
   have hj2:j < es.length:=by rw [← h4];exact hj
   exact (h5 j _ _ (List.getElem?_eq_getElem hj2) (List.getElem?_eq_getElem hj)).2.1
  show (ents.map (·.born)).Nodup;rw [this];exact List.nodup_range
 have hrun:=run_entry_at (P:=P) w b mb ents.length seen.toArray ents.toArray ents.length ents[k] (by rw [q2,List.push_toArray];exact h1) h2 Si hnd
 refine J4 (by intro c h;rw [ho] at h;cases h) ?_
 have:(execOp a.eval o).run P w= .ok (.value (.tuple #[ents[k].key,ents[k].val])) w:=by
  unfold execOp;simp only [ho,hiv,hrun,Sem.run_bind,Result.andThen_ok,Sem.run_pure]
 rw [this]
 refine hn _ _ _ g hk (fun _ _ h=> h) (hs.put o.dst ?_)
 refine .tup _ [ents[k].key,ents[k].val] rfl fun j c u hc hu=> ?_
 rcases j with _ | _ | j
 ·simp at hc hu;subst hc;subst hu;rw [q1];exact .v _
 ·simp at hc hu;subst hc;subst hu;exact q3
 ·simp at hc
theorem Jj1 {o:Oper} {it:Operand} {i:Id} {es:List (Value×AV)} {seen:List Nat} {R:List (Id×Own)} {E:Env} {K:Env→Prop} {Kp:AV→Env→Prop} (ho:o.op= .next it false) (hit:E.ev it= .bp i 0) (hR:E.h.bx=(i, .it es seen)::R)
 (hmore:∀k p,es[k]? =some p→k∉seen→K (({ E with h:= { E.h with bx:=(i, .it es (seen++ [k]))::R}}:Env).set o.dst (.tup [.v (.bool true), .v p.1,p.2])))
 (hdone:(∀k,k < es.length→k∈seen)→K (E.set o.dst (.tup [.v (.bool false)]))):AOp P o E K Kp:=
 Jxe (seen:=seen) ho hit (by rw [hR];simp [JaB]) (fun k p h1 h2=> by
  have:Jbu i.1 (.it es (seen++ [k])) E.h.bx=(i, .it es (seen++ [k]))::R:=by rw [hR];simp [Jbu]
  rw [this];exact hmore k p h1 h2) hdone
theorem Ji1 {o:Oper} {it:Operand} {i:Id} {es:List (Value×AV)} {seen:List Nat} {k:Nat} {p:Value×AV} {R:List (Id×Own)} {E:Env} {K:Env→Prop} {Kp:AV→Env→Prop} (ho:o.op= .entry it) (hit:E.ev it= .bp i 0) (hR:E.h.bx=(i, .it es (seen++ [k]))::R)
 (hp:es[k]? =some p) (hk:K (E.set o.dst (.tup [.v p.1,p.2]))):AOp P o E K Kp:=Jxf (seen:=seen) ho hit (by rw [hR];simp [JaB]) hp hk
def JeP (P:Program) (it:FuncId) (first caps:List AV) {α:Type} (e:α→List AV) (S:List α→Prop):Prop:=
 ∀(i:Id) (σ:Type) (Cb:σ→List (Id×Own)) (Cp:σ→List (Id×Nat)) (I:List α→σ→Prop) (J:List α→α→σ→Prop),(∀xs,S xs→Jq2 P i e xs Cb Cp I J)→
  ∀s0 nx nn,I [] s0→ECall P it (first++ [.yl i]++caps) ⟨Cb s0,Cp s0,nx,nn⟩ (fun _ h'=> ∃xs s',S xs∧Jvz xs I J s'∧h'.bx=Cb s'∧h'.pm=Cp s')
theorem IterSpec.set {it:FuncId} {first caps:List AV} {α:Type} {e:α→List AV} {xs:List α} (h:IterSpec P it first caps e xs):JeP P it first caps e (·=xs):=
 fun i σ Cb Cp I J hc s0 nx nn h0=> (h i σ Cb Cp I J (hc xs rfl) s0 nx nn h0).mono fun _ _ ⟨s',h1,h2,h3⟩=> ⟨xs,s',rfl,h1,h2,h3⟩
theorem JzL {gop:Operand} {ps:Array Tmp} {asg body:Code} {E:Env} {Q:AExit→Env→Prop} {it:FuncId} {first caps:List AV} {ds:List DA} {σ α:Type} {e:α→List AV} {S:List α→Prop} {first' caps':List AV}
 (Cb:σ→List (Id×Own)) (Cp:σ→List (Id×Nat)) (I:List α→σ→Prop) (J:List α→α→σ→Prop) (s0:σ) (hd:E.df=some ds) (hf:E.ev gop= .fn (.func it) first caps) (hit:JeP P it first' caps' e S) (hl1:LeL first first') (hl2:LeL caps caps')
 (hb:((E.h.addo .df).addo (.lp .ready none E.n E.t ps asg body)).bx=Cb s0) (hp:E.h.pm=Cp s0) (h0:I [] s0) (hc:∀xs,S xs→Jq2 P (E.h.nn+1,E.h.nx+1) e xs Cb Cp I J)
 (hend:∀xs s' nx nn,S xs→Jvz xs I J s'→JgS (E.h.nn+1,E.h.nx+1) { E with h:=(E.h.addo .df).addo (.lp .ready none E.n E.t ps asg body),df:=some (.col (E.h.nn,E.h.nx)::ds)} Q ⟨Cb s',Cp s',nx,nn⟩):
 AW P (.rangeFunc gop ps asg body) E Q:=by
 refine Jq1 hd hf ?_
 have h1:=hit (E.h.nn+1,E.h.nx+1) σ Cb Cp I J hc s0 (E.h.nx+2) (E.h.nn+2) h0
 have e1:(E.h.addo .df).addo (.lp .ready none E.n E.t ps asg body)=⟨Cb s0,Cp s0,E.h.nx+2,E.h.nn+2⟩:=by
  rw [← hb,← hp];rfl
 rw [← e1] at h1
 refine ((ECall.args (LeL.append (LeL.append hl1 (LeL.refl _)) hl2) h1)).mono fun r h' hq=> ?_
 obtain ⟨xs,s',hS,q1,q2,q3⟩:=hq
 obtain ⟨bx,pm,nx,nn⟩:=h'
 dsimp only at q2 q3
 subst q2;subst q3
 exact hend xs s' nx nn hS q1
theorem JnV {gop:Operand} {ps:Array Tmp} {asg body:Code} {E:Env} {Q:AExit→Env→Prop} {it:FuncId} {first caps:List AV} {ds:List DA} {σ α:Type} {e:α→List AV} {S:List α→Prop} {first' caps':List AV}
 (Cb:σ→List (Id×Own)) (Cp:σ→List (Id×Nat)) (I:List α→σ→Prop) (s0:σ) (hd:E.df=some ds) (hf:E.ev gop= .fn (.func it) first caps) (hit:JeP P it first' caps' e S) (hl1:LeL first first') (hl2:LeL caps caps')
 (hb:E.h.bx=Cb s0) (hp:E.h.pm=Cp s0) (h0:I [] s0) (hlen:∀x,(e x).length=ps.size)
 (hc:∀pre x post s nx nn,S (pre++x::post)→I pre s→AW P asg (Jd0 E.n E.t ⟨((E.h.nn+1,E.h.nx+1), .lp .ready none E.n E.t ps asg body)::((E.h.nn,E.h.nx), .df)::Cb s,Cp s,nx,nn⟩ (ps.toList.zip (e x)).reverse)
   (Jvw P (E.h.nn+1,E.h.nx+1) body (Jvy (fun s=> ((E.h.nn+1,E.h.nx+1), .lp .ready none E.n E.t ps asg body)::((E.h.nn,E.h.nx), .df)::Cb s) Cp I (fun _ _ _=> False) pre x)))
 (hend:∀xs s' nx nn,S xs→I xs s'→Q .normal { E with h:=⟨((E.h.nn+1,E.h.nx+1), .lp .exhausted none E.n E.t ps asg body)::((E.h.nn,E.h.nx), .df)::Cb s',Cp s',nx,nn⟩,df:=some (.col (E.h.nn,E.h.nx)::ds)}):
 AW P (.rangeFunc gop ps asg body) E Q:=by
 refine JzL (fun s=> ((E.h.nn+1,E.h.nx+1), .lp .ready none E.n E.t ps asg body)::((E.h.nn,E.h.nx), .df)::Cb s) Cp I (fun _ _ _=> False) s0 hd hf hit hl1 hl2 ?_ hp h0 ?_ ?_
 ·show _::_::E.h.bx=_;rw [hb];rfl
 ·intro xs hS pre x post s nx nn hx hI;subst hx;exact Jll (i:=(E.h.nn+1,E.h.nx+1)) (pd:=none) (n:=E.n) (t:=E.t) (ps:=ps) (asg:=asg) (body:=body) (by simp [JaB]) (hlen x) (hc pre x post s nx nn hS hI)
 ·intro xs s' nx nn hS h;rcases h with h | ⟨_,_,_,_,h⟩
  ·unfold JgS;simp only [JaB,Nat.beq_refl,cond_true];refine ⟨trivial,(by intro h;cases h), ?_⟩;simp only [Jbu,Nat.beq_refl,cond_true];exact hend xs s' nx nn hS h
  ·exact h.elim
theorem Jj2 {seen:List Nat} {n k:Nat} (hnd:seen.Nodup) (hlt:∀j∈seen,j < n) (hk:k < n) (hn:k∉seen):∃post,(seen++k::post).Perm (List.range n):=by
 refine ⟨(List.range n).filter fun j=> decide (j∉seen∧j≠k), ?_⟩
 have hp:∀j,j∈(List.range n).filter (fun j=> decide (j∉seen∧j≠k))↔j < n∧j∉seen∧j≠k:=fun j=> by simp
 generalize hpost:(List.range n).filter (fun j=> decide (j∉seen∧j≠k))=post at hp
 have hpn:post.Nodup:=by rw [← hpost];exact List.nodup_range.filter _
 have hnd2:(seen++k::post).Nodup:=by
  rw [List.nodup_append];refine ⟨hnd,List.nodup_cons.2 ⟨fun h=> ((hp k).1 h).2.2 rfl,hpn⟩,fun a ha b hb hab=> ?_⟩;subst hab;rcases List.mem_cons.1 hb with rfl | h
  ·exact hn ha
  ·exact ((hp a).1 h).2.1 ha
 refine (List.perm_ext_iff_of_nodup hnd2 List.nodup_range).2 fun j=> ?_
 rw [List.mem_range,List.mem_append,List.mem_cons,hp]
 constructor
 ·rintro (h | rfl | h)
  ·exact hlt j h
  ·exact hk
  ·exact h.1
 ·intro h;by_cases h1:j∈seen
  ·exact .inl h1
  ·by_cases h2:j=k
   ·exact .inr (.inl h2)
   ·exact .inr (.inr ⟨h,h1,h2⟩)
theorem Jj3 {seen:List Nat} {n:Nat} (hnd:seen.Nodup) (hlt:∀j∈seen,j < n) (hall:∀k,k < n→k∈seen):seen.Perm (List.range n):=by
 refine (List.perm_ext_iff_of_nodup hnd List.nodup_range).2 fun j=> ?_
 rw [List.mem_range]
 exact ⟨hlt j,hall j⟩
def JD (n:Nat) (f:Nat→AV):List AV:=(List.range n).flatMap fun k=> (f k).cells
def Jqt (Q:Nat→(Nat→AV)→Prop) (sz:Nat) (r:AV) (h':Heap):Prop:=
 ∃n f,Q n f∧((n=0∧h'.bx= []∧h'.pm= []∧r= .os sz 0 f none)∨∃s cap more nx' nn',n≤cap∧cap * sz≤n * sz+more∧r= .hs (0,s) 0 n cap∧h'=⟨[((0,s), .c (JD n f++List.replicate more .any))], [],nx',nn'⟩)
theorem JfE {n sz:Nat} {f:Nat→AV} (hc:∀i,i < n→(f i).cells.length=sz):(JD n f).length=n * sz∧∀i j,i < n→j < sz→(JD n f)[i * sz+j]? =(f i).cells[j]? :=by
 induction n with
 | zero=> exact ⟨by simp [JD],fun i j h=> by omega⟩
 | succ n ih=>
   obtain ⟨h1,h2⟩:=ih fun i hi=> hc i Om;have e:JD (n+1) f=JD n f++(f n).cells:=by unfold JD;rw [List.range_succ,List.flatMap_append];simp
   have hn:=hc n Om;refine ⟨by rw [e,List.length_append,h1,hn,Nat.succ_mul],fun i j hi hj=> ?_⟩;rw [e];by_cases h:i < n
   ·rw [List.getElem?_append_left,h2 i j h hj];rw [h1];have:i * sz+sz≤n * sz:=(by rw [← Nat.succ_mul];exact Nat.mul_le_mul_right _ h);omega
   ·obtain rfl:i=n:=(by omega);rw [List.getElem?_append_right (by rw [h1];omega),h1]
    congr 1;omega
theorem Ji2 {f:FuncId} {args:List AV} {nx sz:Nat} {Q:Nat→(Nat→AV)→Prop} (hz:0 < sz) (hflat:∀n f,Q n f→∀k,k < n→∀c∈(f k).cells,Flat c)
 (hc:ECall P f args ⟨[], [],nx,0⟩ fun r h'=> ∃n f oi nx' nn',Q n f∧(oi=none→n=0)∧r= .os sz n f oi∧h'=⟨[],Jam oi (n * sz),nx',nn'⟩):
 ECall P f args ⟨[], [],nx,0⟩ (Jqt Q sz):=by
 refine ⟨hc.1,fun X w g vs h1 h2 h3 h4=> ?_⟩
 refine (JgR P f).mono (hc.2 X w g vs h1 h2 h3 h4) fun e w' ⟨r,h',g',a1,a2,a3,a4,a5,a7,a8⟩=> ?_
 cases r with
 | pan x=> exact a2.elim
 | ret r=>
   obtain ⟨n,f0,oi,nx',nn',q1,q2,rfl,rfl⟩:=a2;cases oi with
   | none=>
     obtain rfl:=q2 rfl;exact ⟨.ret (.os sz 0 f0 none),⟨[], [],nx',nn'⟩,g',a1,⟨0,f0,q1, .inl ⟨rfl,rfl,rfl,rfl⟩⟩,a3,a4,a5,a7,a8⟩
   | some i=>
     obtain ⟨nm,s⟩:=i;obtain ⟨u,rfl,a1⟩:=a1;obtain ⟨b,bvs,be,hgb,hblk,hle⟩:=a4.pm ((nm,s),n * sz) (by simp [Jam]);dsimp only at hgb hle;generalize hu:u=u0 at a1;cases a1 with
     | oss _ _ _ _ b2 cap vs2 hg2 hlen hcap hcell hroom hcs hrep=>
       subst hu;dsimp only at hg2;rw [hgb] at hg2;cases hg2;have hflt:=hflat n f0 q1;obtain ⟨rl,rg⟩:=JfE hcs;have hcapsz:cap * sz≤bvs.size:=by
        rcases Nat.eq_zero_or_pos (cap * sz) with h0 | h0
        ·omega
        ·obtain ⟨⟨v,hv⟩,_⟩:=hroom (cap * sz - 1) Om;rw [J1 hblk] at hv;have:=(Array.getElem?_eq_some_iff.1 hv).1;omega
       have hnew:¬b < w.heap.size:=fun hb=> by
        have:=a8 b (n * sz) (.inr (.inr ⟨((nm,s),n * sz),by simp [Jam],hgb,Nat.le_refl _⟩)) hb;rcases this with h | ⟨p,hp,_⟩ | ⟨p,hp,_⟩
        ·exact h
        ·cases hp
        ·cases hp
       have hids:∀j,j∈Heap.ids (⟨[((0,s), .c (JD n f0++List.replicate (bvs.size - n * sz) .any))], [],nx',nn'⟩:Heap)→j=s:=fun j hj=> by simpa [Heap.ids] using hj
       refine ⟨.ret (.hs (0,s) 0 n cap),⟨[((0,s), .c (JD n f0++List.replicate (bvs.size - n * sz) .any))], [],nx',nn'⟩,g',⟨_,rfl, .hs _ _ _ _ b hgb⟩,⟨n,f0,q1, .inr ⟨s,cap,bvs.size - n * sz,nx',nn',hcap,Om,rfl,rfl⟩⟩,a3, ?_,fun b' o hx j hj=> ?_,a7,fun b' o hx hb=> ?_⟩
       ·refine ⟨fun p hp=> ?_,fun p hp=> (by cases hp),by simp [Heap.ids],a4.nx,fun b' o hx=> ?_,fun p hp=> ⟨(a4.kn p hp).1,fun o hx=> ?_⟩⟩
        ·obtain rfl:=List.mem_singleton.1 hp;refine ⟨b,hgb,bvs,be,hblk,by rw [List.length_append,rl,List.length_replicate];omega,fun k c u hk hku=> ?_⟩;rcases Nat.lt_or_ge k (n * sz) with hlt | hge
         ·rw [List.getElem?_append_left (by rw [rl];exact hlt)] at hk;have hd:k=(k / sz) * sz+k % sz:=(by rw [Nat.mul_comm];exact (Nat.div_add_mod k sz).symm);have hk1:k / sz < n:=Nat.div_lt_of_lt_mul (by rw [Nat.mul_comm];exact hlt);have hk2:k % sz < sz:=Nat.mod_lt _ hz;rw [hd,rg _ _ hk1 hk2] at hk;have hv:k < vs2.length:=(by rw [hlen];exact hlt);have hcv:=(hcell k _ (List.getElem?_eq_getElem hv)).1;rw [J1 hblk,hku] at hcv;cases hcv;exact hflt _ hk1 c (List.mem_of_getElem? hk) _ _ _ _ _ _ _ (hrep _ _ c _ hk1 hk (by rw [← hd];exact List.getElem?_eq_getElem hv))
         ·rw [List.getElem?_append_right (by rw [rl];exact hge)] at hk;obtain rfl:c= .any:=by
           have:=List.mem_of_getElem? hk;exact (List.mem_replicate.1 this).2
          exact .any _
        ·rcases hx with hx | ⟨p,hp,hg⟩ | ⟨p,hp,_⟩
         ·exact a4.bd b' o (.inl hx)
         ·obtain rfl:=List.mem_singleton.1 hp;dsimp only at hg;rw [hgb] at hg;cases hg;exact JL hblk
         ·cases hp
        ·rcases hx with hx | ⟨q,hq,hg⟩ | ⟨q,hq,_⟩
         ·exact (a4.kn p hp).2 o (.inl hx)
         ·obtain rfl:=List.mem_singleton.1 hq;exact (a4.kn p hp).2 (n * sz) (.inr (.inr ⟨((nm,s),n * sz),by simp [Jam],hg,Nat.le_refl _⟩))
         ·cases hq
       ·obtain rfl:=hids j hj;exact a5 b' o hx j (by simp [Heap.ids,Jam])
       ·rcases hx with hx | ⟨p,hp,hg⟩ | ⟨p,hp,_⟩
        ·exact hx.elim
        ·obtain rfl:=List.mem_singleton.1 hp;dsimp only at hg;rw [hgb] at hg;cases hg;exact absurd hb hnew
        ·cases hp
theorem JnW {w:World} {X:Nat→Nat→Prop} {g:List Nat} {us vs:List Value} (h3:us.length=(vs.map AV.v).length)
 (h4:∀(k:Nat) (c:AV) (u:Value),(vs.map AV.v)[k]? =some c→us[k]? =some u→Rep w X g c u):us=vs:=by
 refine List.ext_getElem (by simpa using h3) fun k hk1 hk2=> ?_
 have:=h4 k (.v vs[k]) us[k] (by simp [hk2]) (List.getElem?_eq_getElem hk1)
 generalize us[k]=a at this
 cases this
 rfl
theorem Kn.none {w:World} {X:Nat→Nat→Prop} (h:Kn w X):Kn w none2:=fun p hp=> ⟨(h p hp).1,fun _ h=> h⟩
theorem Jen {f:FuncId} {vs:List Value} {u:Value} (hcb:Jc2 P f)
 (h:∀w,Kn w none2→Calls P f vs.toArray w fun e w'=> e= .returned u∧Below w.heap.size w w'):Tells P f (vs.map .v) (.v u):=fun nx=> by
 refine ⟨hcb,fun X w g us h1 h2 h3 h4=> ?_⟩
 obtain rfl:=JnW h3 h4
 refine (JgR P f).mono (w0:=w) (g:=g) (R:=_) (h w h1.kn.none) fun e w' ⟨he,hb⟩=> ?_
 have hev:=Evo.of_below hb
 exact ⟨.ret (.v u),⟨[], [],nx,0⟩,g,⟨u,he, .v _⟩,⟨Rf,rfl,rfl⟩,fun _ _ h=> h,h1.evo0 hev,fun b o hx i hi=> (by cases hi),hev.mono fun b o _ h=> h.elim,fun b o h _=> h⟩
theorem JeQ {f:FuncId} {vs:List Value} {u:Value} (hcb:Jc2 P f)
 (h:∀w,Calls P f vs.toArray w fun e w'=> e= .returned u∧Below w.heap.size w w'):Tells P f (vs.map .v) (.v u):=Jen hcb fun w _=> h w
theorem Jie {α:Type} [Inhabited α] {f:FuncId} {enc:α→Value} {d d':Array α} {tl:List AV} {nm s cap nx nn:Nat} (hcb:Jc2 P f) (hd:d'.size=d.size)
 (h:∀(w:World) (blk:Nat),Sort.Holds enc w blk 0 d→blk < w.heap.size→Calls P f #[.slice (some ⟨blk,0,none⟩) d.size cap] w fun e w'=> e= .returned (.tuple #[])∧∃n os,w'=Sort.grow (Sort.putRow enc (Sort.ahead w n) blk 0 d') os):
 ECall P f [.hs (nm,s) 0 d.size cap] ⟨[((nm,s), .c (d.toList.map (fun x=> .v (enc x))++tl))], [],nx,nn⟩
  fun r h'=> r= .tup []∧h'=⟨[((nm,s), .c (d'.toList.map (fun x=> .v (enc x))++tl))], [],nx,nn⟩:=by
 refine ⟨hcb,fun X w g us h1 h2 h3 h4=> ?_⟩
 obtain ⟨b,hgb,vs,ety,hblk,hsz,hrep⟩:=h1.bx _ (.head _)
 dsimp only at hgb
 match us,h3,h4 with
 | [u],_,h4=>
 have hr:=h4 0 _ u rfl rfl
 generalize hu:u=u0 at hr
 cases hr with
 | hs _ _ _ _ b2 hg2=>
   subst hu;dsimp only at hg2;rw [hgb] at hg2;cases hg2;have hbl:=JL hblk;have hlen:d.size≤vs.size:=by rw [hsz];simp
   have hH:Sort.Holds enc w b 0 d:=fun j hj=> by
    refine ⟨?_,by rw [Jci hblk];simp⟩;have hj2:j < vs.size:=(by omega);have:=hrep j (.v (enc d[j]!)) vs[j] (by rw [List.getElem?_append_left (by simpa using hj)];simp [hj]) (Array.getElem?_eq_getElem hj2);generalize hv:vs[j]=v at this;cases this;rw [J1 hblk,Nat.zero_add,Array.getElem?_eq_getElem hj2,hv]
   refine (JgR P f).mono (w0:=w) (g:=g) (R:=_) (h w b hH hbl) fun e w' ⟨he,n,os,hw⟩=> ?_;have hb':w'.heap[b]? =some (.cells (Sort.putCells enc 0 d' vs) ety (0,0)):=by
    subst hw;rw [Sort.heap_grow_old _ _ (by simpa [Sort.putRow,Sort.mapBlock,Sort.ahead] using hbl)];show (w.heap.modify b _)[b]? =_;rw [Array.getElem?_modify,if_pos rfl,hblk];rfl
   have hoth:∀k,k < w.heap.size→k≠b→w'.heap[k]? =w.heap[k]? :=fun k hk hne=> by
    subst hw;rw [Sort.heap_grow_old _ _ (by simpa [Sort.putRow,Sort.mapBlock,Sort.ahead] using hk)];show (w.heap.modify b _)[k]? =_;rw [Array.getElem?_modify,if_neg (Ne.symm hne)]
   have hsize:w.heap.size≤w'.heap.size:=by
    subst hw;simp [Sort.grow,Sort.putRow,Sort.mapBlock,Sort.ahead]
   have hM:∀b0 o,¬excl none2 g ⟨[((nm,s), .c (d.toList.map (fun x=> .v (enc x))++tl))], [],nx,nn⟩ b0 o→b0≠b:=fun b0 o hn hb0=> hn (.inr (.inl ⟨_, .head _,by rw [hb0];exact hgb⟩));have hev:Evo (excl none2 g ⟨[((nm,s), .c (d.toList.map (fun x=> .v (enc x))++tl))], [],nx,nn⟩) w w':=by
    refine ⟨by subst hw;rfl,by subst hw;rfl,by subst hw;rfl,hsize,fun b0 hb0 hn=> hoth b0 hb0 (hM b0 0 (hn 0)),fun b0 o hb0 hn=> World.cell?_of_block (a:=⟨b0,o,none⟩) (hoth b0 hb0 (hM b0 o hn)),fun b0 us0 e0 fz h0=> ?_,fun b0 l h0=> ?_⟩
    ·by_cases hb0:b0=b
     ·subst hb0;rw [hblk] at h0;cases h0;exact ⟨_,hb',by simp [Sort.putCells]⟩
     ·exact ⟨us0,(hoth b0 (JL h0) hb0).trans h0,rfl⟩
    ·by_cases hb0:b0=b
     ·subst hb0;rw [hblk] at h0;cases h0
     ·exact ⟨l,(hoth b0 (JL h0) hb0).trans h0⟩
   have hstay:=hev.stays (X:=excl X g ⟨[((nm,s), .c (d.toList.map (fun x=> .v (enc x))++tl))], [],nx,nn⟩) (X':=excl X g ⟨[((nm,s), .c (d.toList.map (fun x=> .v (enc x))++tl))], [],nx,nn⟩) (g:=g) (g':=g)
    (fun b0 o _ hm=> hm.elim (fun h=> h.elim) .inr) (fun _ _ _ h=> h) (fun _ _ h=> h)
   refine ⟨.ret (.tup []),_,g,⟨_,he, .tup [] [] rfl Si⟩,⟨rfl,rfl⟩,fun _ _ h=> h, ?_,fun b0 o hx i hi=> h2 b0 o hx i hi,hev,fun b0 o h _=> by simpa [excl] using h⟩;have hids:∀b0 o,excl X g ⟨[((nm,s), .c (d'.toList.map (fun x=> .v (enc x))++tl))], [],nx,nn⟩ b0 o↔excl X g ⟨[((nm,s), .c (d.toList.map (fun x=> .v (enc x))++tl))], [],nx,nn⟩ b0 o:=fun b0 o=> by simp [excl]
   have hX:excl X g ⟨[((nm,s), .c (d'.toList.map (fun x=> .v (enc x))++tl))], [],nx,nn⟩=excl X g ⟨[((nm,s), .c (d.toList.map (fun x=> .v (enc x))++tl))], [],nx,nn⟩:=by
    funext b0 o;exact propext (hids b0 o)
   rw [hX];refine ⟨fun p hp=> ?_,fun p hp=> (by cases hp),h1.nodup,h1.nx,fun b0 o hx=> ?_, ?_⟩
   ·obtain rfl:=List.mem_singleton.1 hp;refine ⟨b,hgb,Sort.putCells enc 0 d' vs,ety,hb',by simp [Sort.putCells,hsz,hd],fun k c u hk hku=> ?_⟩;have hkv:k < vs.size:=(by have:=(Array.getElem?_eq_some_iff.1 hku).1;simpa [Sort.putCells] using this);have hval:(Sort.putCells enc 0 d' vs)[k]? =some (if 0≤k∧k < 0+d'.size then enc d'[k - 0]! else vs[k]):=(by simp [Sort.putCells,hkv]);rw [hval] at hku;by_cases hkd:k < d'.size
    ·rw [if_pos ⟨Nat.zero_le _,Om⟩] at hku;rw [List.getElem?_append_left (by simpa using hkd)] at hk;simp [hkd] at hk hku;subst hk;subst hku;exact .v _
    ·rw [if_neg Om] at hku;rw [List.getElem?_append_right (by simpa using Nat.le_of_not_lt hkd)] at hk;refine (hrep k c u ?_ (by rw [Array.getElem?_eq_getElem hkv];exact hku)).stays hstay;rw [List.getElem?_append_right (by simp;omega)];simpa [hd] using hk
   ·exact Nat.lt_of_lt_of_le (h1.bd b0 o hx) hsize
   ·exact h1.kn.stays hstay
theorem Jif {f:FuncId} {sz nx:Nat} {F:Nat→AV} (hcb:Jc2 P f)
 (h:∀(p:Option Addr) (cap:Nat) (w:World),Calls P f #[.slice p 0 cap] w fun e w'=> e= .returned (.tuple #[])∧w'=w):Tells P f [.os sz 0 F none] (.tup []):=fun nx=> by
 refine ⟨hcb,fun X w g us h1 h2 h3 h4=> ?_⟩
 match us,h3,h4 with
 | [u],_,h4=>
 have hr:=h4 0 _ u rfl rfl
 have key:∃p cap,u= .slice p 0 cap:=by
  cases hr with
  | os0 _ _ a=> exact ⟨a,0,rfl⟩
  | osn _ _ _ b off vs=> exact ⟨_,0,rfl⟩
 obtain ⟨p,cap,rfl⟩:=key
 refine (JgR P f).mono (w0:=w) (g:=g) (R:=_) (h p cap w) fun e w' ⟨he,hw⟩=> ?_
 subst hw
 exact ⟨.ret (.tup []),⟨[], [],nx,0⟩,g,⟨_,he, .tup [] [] rfl Si⟩,⟨Rf,rfl,rfl⟩,fun _ _ h=> h,h1,h2,Evo.refl _ _,fun b o h _=> h⟩
theorem JBK {gop:Operand} {ps:Array Tmp} {asg body:Code} {E:Env} {Q:AExit→Env→Prop} {it:FuncId} {first caps:List AV} {ds:List DA} {σ α:Type} {e:α→List AV} {xs:List α} {first' caps':List AV}
 (Cb:σ→List (Id×Own)) (Cp:σ→List (Id×Nat)) (I:List α→σ→Prop) (J:List α→α→σ→Prop) (s0:σ) (hd:E.df=some ds) (hf:E.ev gop= .fn (.func it) first caps) (hit:IterSpec P it first' caps' e xs) (hl1:LeL first first') (hl2:LeL caps caps')
 (hb:E.h.bx=Cb s0) (hp:E.h.pm=Cp s0) (h0:I [] s0) (hlen:∀x,(e x).length=ps.size)
 (hc:∀pre x post s nx nn,xs=pre++x::post→I pre s→AW P asg (Jd0 E.n E.t ⟨((E.h.nn+1,E.h.nx+1), .lp .ready none E.n E.t ps asg body)::((E.h.nn,E.h.nx), .df)::Cb s,Cp s,nx,nn⟩ (ps.toList.zip (e x)).reverse)
   (Jvw P (E.h.nn+1,E.h.nx+1) body (wk fun r h'=> (r= .v (.bool true)∧∃s',I (pre++ [x]) s'∧h'.bx=((E.h.nn+1,E.h.nx+1), .lp .ready none E.n E.t ps asg body)::((E.h.nn,E.h.nx), .df)::Cb s'∧h'.pm=Cp s')∨
     (r= .v (.bool false)∧∃s',J pre x s'∧h'.bx=((E.h.nn+1,E.h.nx+1), .lp .done (some .ret) E.n E.t ps asg body)::((E.h.nn,E.h.nx), .df)::Cb s'∧h'.pm=Cp s'))))
 (hend:∀s' nx nn,I xs s'→Q .normal { E with h:=⟨((E.h.nn+1,E.h.nx+1), .lp .exhausted none E.n E.t ps asg body)::((E.h.nn,E.h.nx), .df)::Cb s',Cp s',nx,nn⟩,df:=some (.col (E.h.nn,E.h.nx)::ds)})
 (hret:∀pre x post s' nx nn,xs=pre++x::post→J pre x s'→Q .ret { E with h:=⟨((E.h.nn+1,E.h.nx+1), .lp .exhausted (some .ret) E.n E.t ps asg body)::((E.h.nn,E.h.nx), .df)::Cb s',Cp s',nx,nn⟩,df:=some (.col (E.h.nn,E.h.nx)::ds)}):
 AW P (.rangeFunc gop ps asg body) E Q:=by
 refine JBJ (σ:=σ×Bool) (fun s=> ((E.h.nn+1,E.h.nx+1), .lp (bif s.2 then .done else .ready) (bif s.2 then some .ret else none) E.n E.t ps asg body)::((E.h.nn,E.h.nx), .df)::Cb s.1) (fun s=> Cp s.1) (fun pre s=> s.2=false∧I pre s.1) (fun pre x s=> s.2=true∧J pre x s.1) (s0,false) hd hf hit hl1 hl2 ?_ hp ⟨rfl,h0⟩ ?_ ?_
 ·show _::_::E.h.bx=_;rw [hb];rfl
 ·rintro pre x post ⟨s,b⟩ nx nn hx ⟨hb0,hI⟩;dsimp only at hb0 hI;subst hb0;refine (Jll (i:=(E.h.nn+1,E.h.nx+1)) (pd:=none) (n:=E.n) (t:=E.t) (ps:=ps) (asg:=asg) (body:=body) (by simp [JaB]) (hlen x) (hc pre x post s nx nn hx hI)).wk.mono fun r h' hq=> ?_;cases r with
  | pan x=> exact hq.elim
  | ret r=>
    rcases hq with ⟨hr,s',h1,h2,h3⟩ | ⟨hr,s',h1,h2,h3⟩
    ·exact ⟨(s',false), .inl ⟨hr,rfl,h1⟩,h2,h3⟩
    ·exact ⟨(s',true), .inr ⟨hr,rfl,h1⟩,h2,h3⟩
 ·rintro ⟨s',b⟩ nx nn h;rcases h with ⟨hb0,h⟩ | ⟨pre,x,post,hx,hb0,h⟩
  ·dsimp only at hb0 h;subst hb0;unfold JgS;simp only [JaB,Nat.beq_refl,cond_true,cond_false];refine ⟨trivial,(by intro h;cases h), ?_⟩;simp only [Jbu,Nat.beq_refl,cond_true];exact hend s' nx nn h
  ·dsimp only at hb0 h;subst hb0;unfold JgS;simp only [JaB,Nat.beq_refl,cond_true,cond_false];refine ⟨trivial,(by intro h;cases h), ?_⟩;simp only [Jbu,Nat.beq_refl,cond_true];exact hret pre x post s' nx nn hx h
theorem JmK {t e:TypeId} {d:TypeDesc} {n:Nat} {w:World} (ht:P.underlying t=some (.array n e)) (hd:P.underlying e=some d) (h1:P.cellsOf e=1) (b off:Nat) (hn:0 < n):
 (Instr.sliceAt t (.pointer (some ⟨b,off,none⟩)) none none none).run P w= .ok (.slice (some ⟨b,off,none⟩) n n) w:=by
 simp [Instr.sliceAt,run_underlying ht,Instr.sureAddr,Instr.sliceBounds,JT hd,h1,JaG]
theorem Jra {o:Oper} {E:Env} {t e:TypeId} {x:Operand} {n:Nat} {d:TypeDesc} {cs:List AV} (ho:o.op= .slice t x none none none) (hx:E.ev x= .rp cs)
 (ht:P.underlying t=some (.array n e)) (hd:P.underlying e=some d) (h1:P.cellsOf e=1) (hn0:0 < n) (hn:n≤cs.length) (hc:∀c∈cs,c.cells= [c]):Yields P o E (.sl 1 n (fun j=> cs.getD j .any)):=by
 refine ⟨(by rw [ho];intro c hc;cases hc),fun ρ w X g hk hr=> .inl ?_⟩
 have r1:=hr x (by rw [ho];simp [Op.operands])
 rw [hx] at r1
 generalize hu:ρ x=u at r1
 cases r1 with
 | rp _ b off vs hvs hcell hrep=>
   refine ⟨.slice (some ⟨b,off,none⟩) n n,w, ?_,Evo.refl _ _, ?_⟩
   ·unfold execOp;simp only [ho,hu,Option.map_none];exact JdU (JmK ht hd h1 b off hn0)
   ·refine .sl _ _ _ b off n (vs.take n) (by simp;omega) (Nat.le_refl _) (fun k u hk=> ?_) (fun i hi=> ?_) (fun i j c u hi hj hu=> ?_)
    ·rw [List.getElem?_take] at hk;split at hk
     ·exact hcell k u hk
     ·cases hk
    ·have hi2:i < cs.length:=(by omega);have:cs.getD i .any∈cs:=(by simp [List.getD,hi2]);rw [hc _ this];rfl
    ·have hi2:i < cs.length:=(by omega);have hm:cs.getD i .any∈cs:=(by simp [List.getD,hi2]);rw [hc _ hm] at hj;cases j with
     | zero=>
       simp only [List.getElem?_cons_zero,Option.some.injEq] at hj;subst hj;rw [List.getElem?_take] at hu;split at hu
       ·exact hrep i _ u (by simp [List.getD,hi2]) (by simpa using hu)
       ·cases hu
     | succ j=> simp at hj
theorem JoL {o:Oper} {E:Env} {K:Env→Prop} {Kp:AV→Env→Prop} {t e:TypeId} {x:Operand} {n:Nat} {d:TypeDesc} {cs:List AV} (ho:o.op= .slice t x none none none) (hx:E.ev x= .rp cs)
 (ht:P.underlying t=some (.array n e)) (hd:P.underlying e=some d) (h1:P.cellsOf e=1) (hn0:0 < n) (hn:n≤cs.length) (hc:∀c∈cs,c.cells= [c]) (hk:K (E.set o.dst (.sl 1 n (fun j=> cs.getD j .any)))):AOp P o E K Kp:=
 AOp.of_yields (Jra ho hx ht hd h1 hn0 hn hc) hk
def PureNow (P:Program) (ops:Array Oper) (o:Oper) (E:Env) (r:AV):Prop:=
 ∀E':Env,E'.h=E.h→(∀k,k∈o.looksAt ops→E'.t k=E.t k)→GY P ops o E' r
theorem PureNow.congr {ops:Array Oper} {o:Oper} {E E':Env} {r:AV} (h:PureNow P ops o E r) (hh:E'.h=E.h) (ht:∀k,k∈o.looksAt ops→E'.t k=E.t k):PureNow P ops o E' r:=
 fun E'' h1 h2=> h E'' (h1.trans hh) fun k hk=> (h2 k hk).trans (ht k hk)
def MixL3 (P:Program) (ops:Array Oper) (B:List (Id×Own)) (eff ld:Nat→Bool):List Nat→Env→(Env→Prop)→Prop
 | [],E,K=> K E
 | i::l,E,K=> ∃o,ops[i]? =some o∧(match eff i with
   | true=> ∃R,Eff P ops B o E R∧∀r h',R r h'→MixL3 P ops B eff ld l (({ E with h:=h'}:Env).set o.dst r) K
   | false=> match ld i with
     | true=> ∃r,PureNow P ops o E r∧MixL3 P ops B eff ld l (E.set o.dst r) K
     | false=> ∃r,PureAll P ops B o E r∧MixL3 P ops B eff ld l (E.set o.dst r) K)
theorem MixL3.front {ops:Array Oper} {B:List (Id×Own)} {eff ld:Nat→Bool} {K:Env→Prop} {j:Nat} {oj:Oper} (hj:ops[j]? =some oj):∀(l1 l2:List Nat) (E:Env),
 (∀i∈l1,eff i=false∧(ld i=true→eff j=false)∧∀oi,ops[i]? =some oi→oi.apart ops oj=true)→MixL3 P ops B eff ld (l1++j::l2) E K→MixL3 P ops B eff ld (j::(l1++l2)) E K
 | [],l2,E,_,h=> h
 | i::l1,l2,E,hap,h=> by
   obtain ⟨oi,h1,h2⟩:=h;obtain ⟨he,hld,ha⟩:=hap i Si;obtain ⟨a1,a2,a3⟩:=Oper.apart_spec (ha oi h1);have back:∀ {ri:AV} {E1:Env},E1.h=E.h∨ld i=false→(∀k,k∈oi.looksAt ops→E1.t k=E.t k)→(match ld i with | true=> PureNow P ops oi E ri | false=> PureAll P ops B oi E ri)→
    (match ld i with | true=> PureNow P ops oi E1 ri | false=> PureAll P ops B oi E1 ri):=fun hh ht hp=> by
    cases hli:ld i with
    | true=> simp only [hli] at hp⊢;exact hp.congr (hh.resolve_right (by rw [hli];simp)) ht
    | false=> simp only [hli] at hp⊢;exact hp.congr ht
   simp only [he] at h2;have h2':∃ri,(match ld i with | true=> PureNow P ops oi E ri | false=> PureAll P ops B oi E ri)∧MixL3 P ops B eff ld (l1++j::l2) (E.set oi.dst ri) K:=by
    cases hli:ld i with
    | true=> simp only [hli] at h2⊢;exact h2
    | false=> simp only [hli] at h2⊢;exact h2
   obtain ⟨ri,h3,h4⟩:=h2';have close:∀ {E1:Env},(match ld i with | true=> PureNow P ops oi E1 ri | false=> PureAll P ops B oi E1 ri)→MixL3 P ops B eff ld (l1++l2) (E1.set oi.dst ri) K→MixL3 P ops B eff ld (i::(l1++l2)) E1 K:=fun hp hk=> by
    refine ⟨oi,h1, ?_⟩;simp only [he];cases hli:ld i with
    | true=> simp only [hli] at hp⊢;exact ⟨ri,hp,hk⟩
    | false=> simp only [hli] at hp⊢;exact ⟨ri,hp,hk⟩
   obtain ⟨o,h5,h6⟩:=MixL3.front hj l1 l2 _ (fun i' hi'=> hap i' (List.mem_cons_of_mem _ hi')) h4;rw [hj] at h5;cases h5;refine ⟨oj,hj, ?_⟩;cases hej:eff j with
   | true=>
     have hli:ld i=false:=by
      cases h:ld i with
      | false=> rfl
      | true=> rw [hld h] at hej;cases hej
     simp only [hej] at h6⊢;obtain ⟨R,q1,q2⟩:=h6;refine ⟨R,q1.congr (by rw [Env.set_h]) fun k hk=> (Env.set_other (fun e=> a1 k e hk)).symm,fun r h' hr=> ?_⟩;have q3:=q2 r h' hr;refine close (back (.inr hli) (fun k hk=> Env.set_other (fun e=> a3 k e hk)) h3) ?_;rw [Jq4,Env.set_comm (d:=oi.dst) (d':=oj.dst) (fun k hk=> a2 k hk)] at q3;exact q3
   | false=>
     simp only [hej] at h6⊢;cases hlj:ld j with
     | true=>
       simp only [hlj] at h6⊢;obtain ⟨rj,q1,q2⟩:=h6;refine ⟨rj,q1.congr (by rw [Env.set_h]) fun k hk=> (Env.set_other (fun e=> a1 k e hk)).symm,close (back (.inl (by rw [Env.set_h])) (fun k hk=> Env.set_other (fun e=> a3 k e hk)) h3) ?_⟩;rw [Env.set_comm (d:=oi.dst) (d':=oj.dst) (fun k hk=> a2 k hk)] at q2;exact q2
     | false=>
       simp only [hlj] at h6⊢;obtain ⟨rj,q1,q2⟩:=h6;refine ⟨rj,q1.congr fun k hk=> (Env.set_other (fun e=> a1 k e hk)).symm,close (back (.inl (by rw [Env.set_h])) (fun k hk=> Env.set_other (fun e=> a3 k e hk)) h3) ?_⟩;rw [Env.set_comm (d:=oi.dst) (d':=oj.dst) (fun k hk=> a2 k hk)] at q2;exact q2
def ordM3 (ops:Array Oper) (m:Nat) (eff ld:Nat→Bool) (L:List Nat):Bool:=
 let bf:=Region.before ops
 Nat.ble m ops.size&& (Jc5 ops m&& (L.all (fun i=> Nat.blt i m)&& ((List.range m).all (fun i=> L.contains i)&& (go bf L))))
where
 go (bf:Array Nat):List Nat→Bool
  | []=> true
  | i::l=> (l.all fun j=> match ops[i]?,ops[j]? with
    | some oi,some oj=> (!Nat.beq i j)&& ((oi.after.toList.all fun e=> !Region.binds .any e|| !Nat.beq e.on j)&& ((bf.getD j 0).testBit i|| (!eff i&& (!(ld i&& eff j)&& oi.apart ops oj))))
    | _,_=> false)&& ((match ops[i]? with | some oi=> oi.after.toList.all fun e=> !Region.binds .any e|| !Nat.beq e.on i | none=> false)&& go bf l)
def Jrb (ops:Array Oper) (eff ld:Nat→Bool) (i j:Nat):Prop:=
 i≠j∧∀oi oj,ops[i]? =some oi→ops[j]? =some oj→(∀e∈oi.after,Region.binds .any e=true→e.on≠j)∧(((Region.before ops).getD j 0).testBit i=true∨(eff i=false∧(ld i=true→eff j=false)∧oi.apart ops oj=true))
theorem Jrc {ops:Array Oper} {eff ld:Nat→Bool}:∀ {L:List Nat},ordM3.go ops eff ld (Region.before ops) L=true→
 L.Pairwise (Jrb ops eff ld)∧∀i∈L,∀oi,ops[i]? =some oi→∀e∈oi.after,Region.binds .any e=true→e.on≠i
 | [],_=> ⟨.nil,by simp⟩
 | i::l,h=> by
   simp only [ordM3.go,Bool.and_eq_true] at h;obtain ⟨h1,h2,h3⟩:=h;obtain ⟨q1,q2⟩:=Jrc h3;refine ⟨List.pairwise_cons.2 ⟨fun j hj=> ?_,q1⟩,fun k hk=> ?_⟩
   ·have:=List.all_eq_true.1 h1 j hj;split at this
    ·rename_i oi oj hi hj'
     simp only [Bool.and_eq_true,Bool.or_eq_true,List.all_eq_true] at this;obtain ⟨p1,p2,p3⟩:=this;refine ⟨JfC p1,fun oi' oj' hi2 hj2=> ?_⟩;rw [hi] at hi2;rw [hj'] at hj2;cases hi2;cases hj2;refine ⟨fun e he hb=> ?_,p3.imp id fun h=> by
      simp at h;exact ⟨h.1,fun hl=> h.2.1.resolve_left (by rw [hl];simp),h.2.2⟩⟩
     rcases p2 e (Array.mem_toList_iff.2 he) with h | h
     ·simp [hb] at h
     ·exact JfC h
    ·cases this
   ·rcases List.mem_cons.1 hk with rfl | hk
    ·intro oi hi e he hb;rw [hi] at h2;have:=List.all_eq_true.1 h2 e (Array.mem_toList_iff.2 he);simp only [hb,Bool.not_true,Bool.false_or] at this;exact JfC this
    ·exact q2 k hk
theorem JzM {ops:Array Oper} {m:Nat} {B:List (Id×Own)} {eff ld:Nat→Bool} {Q:Exit→Act→World→Prop} (hk:OrdOk ops m) (hm:m≤ops.size)
 {ro:Option Nat} {X M:Nat→Nat→Prop} {w0:World} {g0:List Nat} {K:Env→Prop}
 (hq:∀E a w g,K E→(∀(i b:Nat),g0[i]? =some b→g[i]? =some b)→St ro X M w0 E a w g→wpOpsIn (Fr ro) 0 P ops Q (List.range' m (ops.size - m)) a w):
 ∀(n:Nat) (L:List Nat) (listed:Array Bool) (E:Env) (a:Act) (w:World) (g:List Nat),L.length=n→L.Pairwise (Jrb ops eff ld)→(∀i∈L,i < m)→
  (∀i∈L,∀oi,ops[i]? =some oi→∀e∈oi.after,Region.binds .any e=true→e.on≠i)→listed.size=ops.size→DC ops listed→
 (∀i,i < ops.size→(listed.getD i true=false↔i∈L∨m≤i))→MixL3 P ops B eff ld L E K→HB B E.h.bx→(∀(i b:Nat),g0[i]? =some b→g[i]? =some b)→St ro X M w0 E a w g→wpAnyIn (Fr ro) 0 P .any ops Q (n+(ops.size - m)) listed a w:=by
 intro n
 induction n with
 | zero=>
   intro L listed E a w g hl _ _ _ hsz hd hun hrun _ hg hs;have:L= []:=List.eq_nil_of_length_eq_zero hl;subst this;rw [Nat.zero_add];exact JiO hk _ m listed a w Om (Nat.le_refl _) hsz hd (fun i hi=> by simpa using hun i hi) (hq E a w g hrun hg hs)
 | succ n ih=>
   intro L listed E a w g hl hpw hlt hself hsz hd hun hrun hB hg hs;rw [Nat.add_right_comm];obtain ⟨k,L',rfl⟩:∃k L',L=k::L':=by cases L with | nil=> simp at hl | cons k L'=> exact ⟨k,L',rfl⟩
   have hkm:k < m:=hlt k Si;have hklt:k < ops.size:=by omega
   have hko:ops[k]? =some ops[k]:=Array.getElem?_eq_getElem hklt;have hkr:k∈Region.ready .any ops listed:=by
    refine JaY.2 ⟨(hun k hklt).2 Si,_,hko,fun e he hb=> ?_⟩;have hb':=hk.back k _ hko e he hb;rw [Ja0 Om];cases hl:listed.getD e.on true with
    | true=> simpa using hl
    | false=>
      rcases (hun e.on Om).1 hl with h' | h'
      ·rcases List.mem_cons.1 h' with h' | h'
       ·exact absurd h' (hself k Si _ hko e he hb)
       · exact absurd rfl (((List.pairwise_cons.1 hpw).1 _ h').2 _ _ hko (Array.getElem?_eq_getElem Om) |>.1 e he hb)
      ·omega
   refine ⟨fun h0=> (by rw [h0] at hkr;cases hkr),fun j hj=> ?_⟩;obtain ⟨h1,oj,hoj,h2⟩:=JaY.1 hj;have hjlt:=(Array.getElem?_eq_some_iff.1 hoj).1;have hjL:j∈k::L':=by
    rcases (hun j hjlt).1 h1 with h' | h'
    ·exact h'
    ·have hb:=hk.tail k j oj hoj h' Om;have:=Jb2 hd hsz hoj h2 hb;have h3:=(hun k Om).2 Si;rw [Ja0 Om] at this;simp [h3] at this
   obtain ⟨l1,l2,hl12⟩:=List.append_of_mem hjL;rw [hl12] at hrun hpw hun hlt hl hself;have hl1:∀i∈l1,Jrb ops eff ld i j:=fun i hi=> (List.pairwise_append.1 hpw).2.2 i hi j Si;obtain ⟨o,ho,hrun'⟩:=MixL3.front hoj l1 l2 E (fun i hi=> by
    obtain ⟨hne,hp⟩:=hl1 i hi;have hilt:i < ops.size:=Nat.lt_of_lt_of_le (hlt i (by simp [hi])) hm;rcases (hp _ _ (Array.getElem?_eq_getElem hilt) hoj).2 with hb | ⟨hb,hb2,hb'⟩
    ·have:=Jb2 hd hsz hoj h2 hb;have h3:=(hun i hilt).2 (by simp [hi]);rw [Ja0 Om] at this;simp [h3] at this
    ·exact ⟨hb,hb2,fun oi hoi=> by rw [Array.getElem?_eq_getElem hilt] at hoi;cases hoi;exact hb'⟩) hrun
   rw [hoj] at ho;cases ho;have hnext:∀E' a' w' g',MixL3 P ops B eff ld (l1++l2) E' K→HB B E'.h.bx→(∀(i b:Nat),g0[i]? =some b→g'[i]? =some b)→St ro X M w0 E' a' w' g'→wpAnyIn (Fr ro) 0 P .any ops Q (n+(ops.size - m)) (listed.setIfInBounds j true) a' w':=by
    intro E' a' w' g' hm' hB' hg' hs';have hsub:(l1++l2).Sublist (l1++j::l2):=List.Sublist.append Sf (List.sublist_cons_self _ _);refine ih (l1++l2) _ E' a' w' g' (by simp at hl⊢;omega) (hpw.sublist hsub) (fun i hi=> hlt i (hsub.subset hi)) (fun i hi=> hself i (hsub.subset hi)) (by simp [hsz]) (hd.set hsz hk hj) (fun i hi=> ?_) hm' hB' hg' hs';rw [JeL Om];by_cases hij:i=j
    ·subst hij;simp only [if_true]
     constructor
     ·intro h;cases h
     ·intro h;exfalso
      have h5:=List.pairwise_append.1 hpw;rcases h with h | h
      ·rcases List.mem_append.1 h with h | h
       ·exact (h5.2.2 i h i Si).1 rfl
       ·exact ((List.pairwise_cons.1 h5.2.1).1 i h).1 rfl
      ·have:=hlt i Si;omega
    ·rw [if_neg hij,hun i hi];simp [hij]
   cases hej:eff j with
   | true=>
     simp only [hej] at hrun';obtain ⟨R,⟨q0,q1⟩,q2⟩:=hrun';unfold wpOpIn;simp only [hoj,Region.wanted,q0,if_true];exact q1 E rfl (fun _ _=> rfl) ro X M w0 a w g hs _ _ (fun E' a' w' g' hE hgg hs'=> by
      obtain ⟨r,h',p1,p2,rfl⟩:=hE;exact hnext _ a' w' g' (q2 r h' p1) (by rw [Env.set_h];exact p2) (fun i b hi=> hgg i b (hg i b hi)) hs') (fun x E' a' w' g' v hk'=> hk'.elim)
   | false=>
     simp only [hej] at hrun';cases hlj:ld j with
     | true=>
       simp only [hlj] at hrun';obtain ⟨r,q1,q2⟩:=hrun';exact (q1 E rfl fun _ _=> rfl).does hoj hs fun a' w' hs'=> hnext _ a' w' g q2 (by rw [Env.set_h];exact hB) hg hs'
     | false=>
       simp only [hlj] at hrun';obtain ⟨r,q1,q2⟩:=hrun';exact (q1 E hB fun _ _=> rfl).does hoj hs fun a' w' hs'=> hnext _ a' w' g q2 (by rw [Env.set_h];exact hB) hg hs'
def aM3 (P:Program) (ops:Array Oper) (eff ld:Nat→Bool):List Nat→Env→(Env→Prop)→Prop
 | [],E,K=> K E
 | i::l,E,K=> match ops[i]? with
   | none=> False
   | some o=> match eff i with
      | true=> ∃R,Eff P ops [] o E R∧∀r h',R r h'→aM3 P ops eff ld l (({ E with h:=h'}:Env).set o.dst r) K
      | false=> match ld i with
        | true=> ∃r,PureNow P ops o E r∧Jdi r fun r=> aM3 P ops eff ld l (E.set o.dst r) K
        | false=> match o.guard with
          | some _=> False
          | none=> match JbD P o.op { E with h:=⟨[], [],0,0⟩} with
            | some (C,r)=> Jqq C (Jdi r fun r=> aM3 P ops eff ld l (E.set o.dst r) K)
            | none=> False
theorem JkR {ops:Array Oper} {eff ld:Nat→Bool} {K:Env→Prop}:∀ {L:List Nat} {E:Env},aM3 P ops eff ld L E K→MixL3 P ops [] eff ld L E K
 | [],E,h=> h
 | i::l,E,h=> by
   unfold aM3 at h;split at h
   ·exact h.elim
   ·rename_i o ho
    refine ⟨o,ho, ?_⟩;cases he:eff i with
    | true=>
      simp only [he] at h⊢;obtain ⟨R,q1,q2⟩:=h;exact ⟨R,q1,fun r h' hr=> JkR (q2 r h' hr)⟩
    | false=>
      simp only [he] at h⊢;cases hl:ld i with
      | true=>
        simp only [hl] at h⊢;obtain ⟨r,q1,q2⟩:=h;exact ⟨r,q1,JkR (JdY q2)⟩
      | false=>
        simp only [hl] at h⊢;split at h
        ·exact h.elim
        ·rename_i hg
         split at h
         ·rename_i C r hp
          obtain ⟨q1,q2⟩:=JjU h;refine ⟨r,fun E' hb ht=> ?_,JkR (JdY q2)⟩;unfold GY;simp only [hg];exact JbA (JeO (E:= { E with h:=⟨[], [],0,0⟩}) (E':=E') hb (Jcm (E:= { E with h:=⟨[], [],0,0⟩}) ht) hp) q1
         ·exact h.elim
theorem JoM {ops:Array Oper} {o:Oper} {E:Env} {C:Option Prop} {r:AV} (hg:o.guard=none) (hp:JbD P o.op E=some (C,r)) (hC:Jau C):PureNow P ops o E r:=fun E' hh ht=> by
 unfold GY
 simp only [hg]
 exact JbA (JeO (E:=E) (E':=E') (by rw [hh];exact HB.refl _) (Jcm ht) hp) hC
theorem Jcv {id:Nat} {ops:Array Oper} {E:Env} {Q:AExit→Env→Prop} (m:Nat) (eff ld:Nat→Bool) (L:List Nat) (hf:P.follows .mixedOrders=true) (hb:ordM3 ops m eff ld L=true)
 (h:aM3 P ops eff ld L E fun E'=> aK P ops (ops.toList.drop m) E' (Q .normal) (fun x E=> Q (.panic x) E)):AW P (.region id ops true) E Q:=by
 simp only [ordM3,Bool.and_eq_true,List.all_eq_true] at hb
 obtain ⟨h0,h00,h1,h2,h3⟩:=hb
 have hm:=Jes h0
 obtain ⟨h4,h5⟩:=Jrc h3
 have hlt:∀i∈L,i < m:=fun i hi=> Jc1 (h1 i hi)
 have hall:∀i,i < m→i∈L:=fun i hi=> by simpa using h2 i (List.mem_range.2 hi)
 have hnd:L.Nodup:=h4.imp fun h=> h.1
 have hlen:L.length=m:=by
  have p:L.Perm (List.range m):=(List.perm_ext_iff_of_nodup hnd List.nodup_range).2 fun i=> ⟨fun hi=> List.mem_range.2 (hlt i hi),fun hi=> hall i (List.mem_range.1 hi)⟩;simpa using p.length_eq
 unfold AW
 intro ro X M w0 a w g g0 hg hs
 refine wpIn_region_any hf ?_
 have hs':St ro X M w0 E a { w with drawn:=w.drawn+1} g:=hs.drew
 have key:=JzM (eff:=eff) (ld:=ld) (g0:=g0) (K:=fun E'=> aK P ops (ops.toList.drop m) E' (Q .normal) (fun x E=> Q (.panic x) E)) (Q:=Jfh ro X M w0 g0 Q) (P:=P) (X:=X) (M:=M) (w0:=w0) (ro:=ro) (B:= []) (Jqo h00) hm (fun E' a' w' g' hk hg' hs''=> by
  have:=JdZ (P:=P) (ops:=ops) (K:=Q .normal) (X:=X) (M:=M) (w0:=w0) (g0:=g0) (Kp:=fun x E=> Q (.panic x) E) (ro:=ro) (Q:=Jfh ro X M w0 g0 Q) (fun E a w g hk hg hs=> ⟨.normal,E,g,hk,rfl,hg,hs⟩) (fun x E a w g v hk hg hs hr=> ⟨.panic x,E,g,hk,⟨v,rfl,hr⟩,hg,hs⟩) (ops.toList.drop m) m E' a' w' g' (fun j=> .inl Si) hg' hs'' hk;simpa using this) m L (Array.replicate ops.size false) E a _ g hlen h4 hlt h5 Si (fun k o ho hl=> by
  have hk:=(Array.getElem?_eq_some_iff.1 ho).1;simp [Array.getD_eq_getD_getElem?,hk] at hl) (fun i hi=> by
  have:(Array.replicate ops.size false).getD i true=false:=by simp [Array.getD_eq_getD_getElem?,hi]
  simp only [this,true_iff];rcases Nat.lt_or_ge i m with h | h
  ·exact .inl (hall i h)
  ·exact .inr h) (JkR h) (fun _ _ _ h=> by cases h) hg hs'
 have e:m+(ops.size - m)=ops.size:=by omega
 rw [e] at key
 exact key
end Go.Vl

namespace Go.Vl
open Go.RowKit
variable {P:Program}
def JnX {ι:Type} (F:ι→Env) (J:ι→Prop) (Q:AExit→Env→Prop):AExit→Env→Prop:=fun e E'=>
 match e with
 | .normal=> ∃i,J i∧ELe E' (F i)
 | e=> Q e E'
theorem JmL {ι:Type} (F:ι→Env) (J:ι→Prop) {x y:Code} {E:Env} {Q:AExit→Env→Prop} (h:AW P x E (JnX F J Q)) (hk:∀i,J i→AW P y (F i) Q):AW P x E (Jfz P y Q):=
 h.mono fun ex E' h'=> by
  cases ex with
  | normal=> obtain ⟨i,hI,hl⟩:=h';exact AW.le hl (hk i hI)
  | exit i=> exact h'
  | goto i=> exact h'
  | ret=> exact h'
  | panic i=> exact h'
theorem Jur {ι:Type} {F:ι→Env} {J:ι→Prop} {y:Code} {Q:AExit→Env→Prop} (hk:∀i,J i→AW P y (F i) Q):∀ex E',JnX F J Q ex E'→Jfz P y Q ex E':=fun ex E' h'=> by
 cases ex with
 | normal=> obtain ⟨i,hI,hl⟩:=h';exact AW.le hl (hk i hI)
 | exit i=> exact h'
 | goto i=> exact h'
 | ret=> exact h'
 | panic i=> exact h'
theorem JoN {y:Code} {Q Q':AExit→Env→Prop} (h:∀ex E,Q ex E→Q' ex E):∀ex E,Jfz P y Q ex E→Jfz P y Q' ex E:=fun ex E h'=> by
 cases ex with
 | normal=> exact AW.mono h' h
 | exit i=> exact h _ _ h'
 | goto i=> exact h _ _ h'
 | ret=> exact h _ _ h'
 | panic i=> exact h _ _ h'
theorem JeR {ι:Type} (F:ι→Env) (J:ι→Prop) {x y1 y:Code} {E:Env} {Q:AExit→Env→Prop} (h:AW P x E (Jfz P y1 (JnX F J Q))) (hk:∀i,J i→AW P y (F i) Q):AW P x E (Jfz P y1 (Jfz P y Q)):=
 h.mono (JoN (Jur hk))
theorem Jbj {ι:Type} (F:ι→Env) (J:ι→Prop) {k:Nat} {x y:Code} {E:Env} {Q:AExit→Env→Prop} (h:AW P x E (Jd6 k (JnX F J Q))) (hk:∀i,J i→AW P y (F i) Q):AW P x E (Jd6 k (Jfz P y Q)):=by
 have key:∀ex E',JnX F J Q ex E'→Jfz P y Q ex E':=fun ex E' h'=> by
  cases ex with
  | normal=> obtain ⟨i,hI,hl⟩:=h';exact AW.le hl (hk i hI)
  | exit i=> exact h'
  | goto i=> exact h'
  | ret=> exact h'
  | panic i=> exact h'
 refine h.mono fun ex E' h'=> ?_
 cases ex with
 | exit i=>
   simp only [Jd6] at h'⊢;cases hb:Nat.beq i k with
   | true=> simp only [hb,cond_true] at h'⊢;exact key .normal _ h'
   | false=> simp only [hb,cond_false] at h'⊢;exact h'
 | normal=> exact key .normal _ h'
 | goto i=> exact h'
 | ret=> exact h'
 | panic i=> exact h'
theorem Jtu {k:Nat} {Q Q':AExit→Env→Prop} (h:∀ex E,Q ex E→Q' ex E):∀ex E,Jd6 k Q ex E→Jd6 k Q' ex E:=fun ex E h'=> by
 cases ex with
 | exit i=>
   simp only [Jd6] at h'⊢;cases hb:Nat.beq i k with
   | true=> simp only [hb,cond_true] at h'⊢;exact h _ _ h'
   | false=> simp only [hb,cond_false] at h'⊢;exact h _ _ h'
 | normal=> exact h _ _ h'
 | goto i=> exact h _ _ h'
 | ret=> exact h _ _ h'
 | panic i=> exact h _ _ h'
theorem JzN {ι:Type} (F:ι→Env) (J:ι→Prop) {k:Nat} {x y1 y:Code} {E:Env} {Q:AExit→Env→Prop} (h:AW P x E (Jfz P y1 (Jd6 k (JnX F J Q)))) (hk:∀i,J i→AW P y (F i) Q):AW P x E (Jfz P y1 (Jd6 k (Jfz P y Q))):=
 h.mono (JoN (Jtu (Jur hk)))
section
variable {α:Type} [Inhabited α]
def Jba (E:α→AV) (d:Array α) (tl:List AV):List AV:=d.toList.map E++tl
omit [Inhabited α] in
theorem JfW {E:α→AV} {d:Array α} {tl:List AV}:(Jba E d tl).length=d.size+tl.length:=by simp [Jba]
theorem Jac {E:α→AV} {d:Array α} {tl:List AV} {i:Nat} (hi:i < d.size):(Jba E d tl).getD i .any=E d[i]! :=by
 unfold Jba
 rw [List.getD,List.getElem?_append_left (by simpa using hi)]
 simp [hi]
omit [Inhabited α] in
theorem JzO {E:α→AV} {d:Array α} {tl:List AV} {i:Nat} {x:α} (hi:i < d.size):Jab (Jba E d tl) i [E x]=Jba E (d.setIfInBounds i x) tl:=by
 have key:∀(l:List α) (i:Nat),i < l.length→Jab (l.map E++tl) i [E x]=(l.set i x).map E++tl:=by
  intro l
  induction l with
  | nil=> intro i h;cases h
  | cons z l ih=>
    intro i h;cases i with
    | zero=> rfl
    | succ i=> show E z::Jab (l.map E++tl) i _=_;rw [ih i (by simpa using h)];rfl
 unfold Jba
 rw [key _ _ (by simpa using hi)]
 simp
omit [Inhabited α] in
theorem Jaw {E:α→AV} {d:Array α} {tl:List AV} {i:Nat} (hi:i < d.size):i+1≤(Jba E d tl).length:=by rw [JfW];omega
theorem JG {x:Int} {i:Nat} (h:x=(i:Int)):0≤x:=by omega
theorem JH {x:Int} {i n:Nat} (h:x=(i:Int)) (hn:i < n):x < (n:Int):=by omega
theorem JO {x:Int} {i c:Nat} (hc:c=1) (h:x=(i:Int)):0+x.toNat * c=i:=by subst hc;subst h;omega
omit [Inhabited α] in
theorem Jao {ops:Array Oper} {o:Oper} {e:Env} {t:TypeId} {p x:Operand} {E:α→AV} {nm s off j:Nat} {d:Array α} {tl:List AV} {z:α} (hg:o.guard=none) (ho:o.op= .store t p x) (hd:o.dst=none) (hp:e.ev p= .bp (nm,s) off) (hoff:off=j)
 (hx:e.ev x=E z) (h1:Jcj (E z)=true) (h2:Jdg (E z)=true) (hcs:JbM nm e.h.bx=some (s,Jba E d tl)) (ht:(P.underlying t).isSome=true) (hn:P.cellsOf t=1) (hj:j < d.size):
 Eff P ops [] o e fun _ h'=> h'= { e.h with bx:=Jeg nm (Jba E (d.setIfInBounds j z) tl) e.h.bx}:=by
 subst hoff
 have hcl:(E z).cells= [E z]:=by cases h:E z <;> first | rfl | (rw [h] at h1;simp [Jcj] at h1)
 have k:=JoJ (P:=P) (ops:=ops) (B:= []) (E:=e) (cs:=Jba E d tl) (i:=(nm,s)) hg ho hd hp hcs (by rw [hx];exact h2) (by rw [hx,hcl];simp [h1]) ht (by rw [hx,hcl,hn];rfl) (by rw [hx,hcl];exact Jaw hj) (fun _ _ _ h=> by cases h)
 rw [hx,hcl,JzO hj] at k
 exact k
theorem Jap {ops:Array Oper} {o:Oper} {e:Env} {t:TypeId} {td:TypeDesc} {p:Operand} {E:α→AV} {nm s off j:Nat} {d:Array α} {tl:List AV} (hg:o.guard=none) (ho:o.op= .load t p) (hp:e.ev p= .bp (nm,s) off) (hoff:off=j)
 (hcs:JbM nm e.h.bx=some (s,Jba E d tl)) (ht:P.underlying t=some td) (ha:agD td=false) (hj:j < d.size):PureNow P ops o e (E d[j]!):=by
 subst hoff
 refine JoM hg (C:=some (s=s∧off < (Jba E d tl).length)) ?_ ⟨rfl,by rw [JfW];omega⟩
 rw [← Jac (E:=E) (tl:=tl) hj]
 show JbD P o.op e=_
 rw [ho]
 simp only [JbD,JdG,hp,hcs,ht,ha,cond_false]
end
end Go.Vl

namespace Go.Vl
open Go.RowKit
variable {P:Program}
theorem AOp.any {o:Oper} {E:Env} {K:Env→Prop} {Kp:AV→Env→Prop} (h:AOp P o E K):AOp P o E K Kp:=fun ro X M w0 a w g hs next Q hn _=> h ro X M w0 a w g hs next Q hn fun _ _ _ _ _ _ h=> h.elim
theorem JzP {w:World} {X:Nat→Nat→Prop} {g:List Nat} {m sz:Nat} {f':Nat→AV} {news:List Value} (hpos:0 < sz) (hnl:news.length=m * sz) (hncs:∀i,i < m→(f' i).cells.length=sz)
 (hnr:∀(i j:Nat) (c:AV) (u:Value),i < m→(f' i).cells[j]? =some c→news[i * sz+j]? =some u→Rep w X g c u) (hone:JcP m f'):∀u∈news,u.oneCell'=true:=by
 intro u hu
 obtain ⟨k,hk,hku⟩:=List.getElem_of_mem hu
 have hdm:=Nat.div_add_mod k sz
 have hmod:=Nat.mod_lt k hpos
 have hdiv:k / sz < m:=by rw [Nat.div_lt_iff_lt_mul hpos];omega
 have hlt:k % sz < (f' (k / sz)).cells.length:=by rw [hncs _ hdiv];exact hmod
 have hrep:=hnr (k / sz) (k % sz) _ u hdiv (List.getElem?_eq_getElem hlt) (by
  rw [Nat.mul_comm,hdm,List.getElem?_eq_getElem hk,hku])
 exact Jgf (List.all_eq_true.1 (hone _ hdiv) _ (List.getElem_mem hlt)) hrep
theorem Jrd {w:World} {X:Nat→Nat→Prop} {g:List Nat} {m sz:Nat} {f':Nat→AV} {news:List Value} (hpos:0 < sz) (hnl:news.length=m * sz) (hncs:∀i,i < m→(f' i).cells.length=sz)
 (hnr:∀(i j:Nat) (c:AV) (u:Value),i < m→(f' i).cells[j]? =some c→news[i * sz+j]? =some u→Rep w X g c u):
 ∀(k:Nat) (c:AV) (u:Value),(JD m f')[k]? =some c→news[k]? =some u→Rep w X g c u:=by
 intro k c u hc hu
 obtain ⟨rl,rg⟩:=JfE hncs
 have hk:k < m * sz:=by rw [← hnl];exact (List.getElem?_eq_some_iff.1 hu).1
 have hdm:=Nat.div_add_mod k sz
 have hmod:=Nat.mod_lt k hpos
 have hdiv:k / sz < m:=by rw [Nat.div_lt_iff_lt_mul hpos];exact hk
 have e:k=k / sz * sz+k % sz:=by rw [Nat.mul_comm];exact hdm.symm
 rw [e,rg _ _ hdiv hmod] at hc
 exact hnr _ _ c u hdiv hc (by rw [← e];exact hu)
theorem Jgh {o:Oper} {E:Env} {K:Env→Prop} {Kp:AV→Env→Prop} {s x:Operand} {t e:TypeId} {n szx m cap:Nat} {f':Nat→AV} {i:Id} {cs:List AV}
 (ho:o.op= .call { callee:= .builtin .append,args:= #[s,x],argTypes:= #[t,t]}) (hs:E.ev s= .hs i 0 n cap)
 (hx:E.ev x= .sl szx m f'∨∃oj,E.ev x= .os szx m f' oj)
 (ht:P.underlying t=some (.slice e)) (hg:JbK P e=true) (hszx:m=0∨szx=P.cellsOf e)
 (hcs:JbM i.1 E.h.bx=some (i.2,cs)) (hcap:n≤cap) (hcl:cap * P.cellsOf e≤cs.length) (hone:JcP m f')
 (hroom0:m≠0→(n+m) * P.bytesOf e≤140737488355328) (hlen0:m≠0→n+m≤9223372036854775807)
 (hk0:m=0→K (E.set o.dst (.hs i 0 n cap)))
 (hk1:m≠0→n+m≤cap→K (({ E with h:= { E.h with bx:=Jeg i.1 (Jab cs (n * P.cellsOf e) (JD m f')) E.h.bx}}:Env).set o.dst (.hs i 0 (n+m) cap)))
 (hk2:m≠0→¬n+m≤cap→∀ncap,n+m≤ncap→K (({ E with h:=E.h.add (cs.take (n * P.cellsOf e)++JD m f'++List.replicate ((ncap - (n+m)) * P.cellsOf e) .any)}:Env).set o.dst (.hs (E.h.nn,E.h.nx) 0 (n+m) ncap))):AOp P o E K Kp:=by
 intro ro X M w0 a w g hst next Q hn hpan
 obtain ⟨inf,z,hi,hz,hzs,hsi,hpos,hby⟩:=Jib hg
 have hmem:=Jhf hcs
 obtain ⟨b,hgb,vs,ev,hb,hvs,hr⟩:=hst.hok.bx _ hmem
 dsimp only at hgb hvs hr
 have hsv:a.eval s= .slice (some ⟨b,0,none⟩) n cap:=by
  have:=hst.ev s;rw [hs] at this;generalize a.eval s=u at this;cases this with
  | hs _ _ _ _ b' hg'=> rw [hgb] at hg';cases hg';rfl
 have hxr:Rep w (excl X g E.h) g (.sl szx m f') (a.eval x):=by
  have:=hst.ev x;rcases hx with hx | ⟨oj,hx⟩
  ·rw [hx] at this;exact this
  ·rw [hx] at this;exact Jeu this
 have hexec:∀ {u:Value} {w':World},(Builtin.append_ #[t,t] o.type #[a.eval s,a.eval x]).run P w= .ok u w'→(execOp a.eval o).run P w= .ok (.value u) w':=by
  intro u w' h;unfold execOp;simp only [ho,resolve];simp [invoke,builtin,h]
 by_cases hm:m=0
 ·subst hm;have hrun:(Builtin.append_ #[t,t] o.type #[a.eval s,a.eval x]).run P w= .ok (a.eval s) w:=by
   have key:∀(xb:Option Addr) (xc:Nat),(Builtin.append_ #[t,t] o.type #[.slice (some ⟨b,0,none⟩) n cap, .slice xb 0 xc]).run P w= .ok (.slice (some ⟨b,0,none⟩) n cap) w:=by
    intro xb xc;have hfc:(Builtin.firstCells inf.size 0 (.slice xb 0 xc)).run P w= .ok #[] w:=by
     cases xb with
     | none=> simp [Builtin.firstCells]
     | some ad=> simpa using run_firstCells_some (P:=P) w inf.size 0 ad 0 xc [] Si Si
    simp [Builtin.append_,run_underlying ht,sizeOf,typeInfo,hi,Builtin.lenOf,hcap,hfc,storeCells]
   rw [hsv];generalize a.eval x=ux at hxr;cases hxr with
   | sl0 _ _ xa xc=> exact key _ _
   | sl _ _ _ b off cap vs hlen' hcap=> exact key _ _
  refine J4 (by rw [ho];intro c h;cases h) ?_;rw [hexec hrun];have:=hst.ev s;rw [hs] at this;exact hn _ _ _ g (hk0 rfl) (fun _ _ h=> h) (hst.put o.dst this)
 ·have hroom:=hroom0 hm;have hlen:=hlen0 hm;have hszx':szx=P.cellsOf e:=hszx.resolve_left hm;subst hszx';obtain ⟨ax,xcap,news,hxv,hnl,hncell,hncs,hnr⟩:=JoF hxr hm;have hnone:=JzP hpos hnl hncs hnr hone;have hnrep:=Jrd hpos hnl hncs hnr;obtain ⟨rl,rg⟩:=JfE hncs;have hvl:vs.toList.length=cs.length:=by simpa using hvs
  by_cases hfit:n+m≤cap
  ·have hnm:(n+m) * P.cellsOf e≤cap * P.cellsOf e:=Nat.mul_le_mul_right _ hfit;rw [Nat.add_mul] at hnm;have hr2:=JjH (P:=P) w t o.type e ev inf ht hi b n cap vs hb ax m xcap news (by rw [hnl,hsi]) hncell hnone hfit (by rw [hsi,hnl];omega);rw [hsi] at hr2;have hnew:=hst.setRow (cs:=Jab cs (n * P.cellsOf e) (JD m f')) (vs:=(vs.toList.take (n * P.cellsOf e)++news++vs.toList.drop (n * P.cellsOf e+news.length)).toArray) hcs hgb hb
    (by simp only [JbE,List.length_append,List.length_take,List.length_drop,Array.length_toList,rl,hnl];omega)
    (by simp only [List.size_toArray,List.length_append,List.length_take,List.length_drop,Array.length_toList,hnl];omega)
    (fun k c u hk1 hk2=> by
      simp only [List.append_assoc] at hk2;rw [JdW _ _ _ (by simp only [Array.length_toList];omega)] at hk2;rw [JbE] at hk1;rw [JdW _ _ _ (by rw [rl];omega)] at hk1;rw [hnl] at hk2;rw [rl] at hk1;split at hk1
      ·rename_i h2;rw [if_pos h2] at hk2;exact hr k c u hk1 (by simpa using hk2)
      ·rename_i h2
       rw [if_neg h2] at hk2;split at hk1
       ·rename_i h3;rw [if_pos h3] at hk2;exact hnrep _ c u hk1 hk2
       ·rename_i h3;rw [if_neg h3] at hk2;exact hr k c u hk1 (by simpa using hk2))
   refine J4 (by rw [ho];intro c h;cases h) ?_;rw [hexec (by rw [hsv,hxv];exact hr2)];exact hn _ _ _ g (hk1 hm hfit) (fun _ _ h=> h) (hnew.put o.dst (.hs _ _ _ _ b hgb))
  ·have hnc:n * P.cellsOf e≤cap * P.cellsOf e:=Nat.mul_le_mul_right _ hcap;have hol:(vs.toList.take (n * P.cellsOf e)).length=n * P.cellsOf e:=by rw [List.length_take];omega
   have hocell:∀(j:Nat) (u:Value),(vs.toList.take (n * P.cellsOf e))[j]? =some u→w.cell? ((⟨b,0,none⟩:Addr).add j)=some u:=fun j u hu=> by
    rw [JaG,Nat.zero_add,J1 hb];rw [List.getElem?_take] at hu;split at hu
    ·simpa using hu
    ·cases hu
   have hr2:=run_append_grow (P:=P) w t o.type e inf z ht hi hz ⟨b,0,none⟩ n cap (vs.toList.take (n * P.cellsOf e)) (by rw [hol,hsi]) hocell ax m xcap news (by rw [hnl,hsi]) hncell Om Om (growslice_fits Om (by rw [hby];exact hroom));have hge:=grownCap_ge w (n+m) cap e;generalize grownCap w (n+m) cap e=ncap at hr2 hge;have hst2:=hst.drew;obtain ⟨h3,h4⟩:=hst2.box (cs:=cs.take (n * P.cellsOf e)++JD m f'++List.replicate ((ncap - (n+m)) * P.cellsOf e) .any) (vs:=(vs.toList.take (n * P.cellsOf e)).toArray++news.toArray++Builtin.zeroCells z.cells (ncap - (n+m))) e
    (by simp only [Array.toList_append,List.length_append,Array.length_toList,size_zeroCells,hzs,List.length_take,List.length_replicate,rl,hnl,List.size_toArray];omega)
    (fun k c u hc hu=> by
      have hevo:Evo none2 w w.drew:=Jhg w;simp only [Array.toList_append] at hu;rw [List.append_assoc] at hc hu;by_cases h1:k < n * P.cellsOf e
      ·rw [List.getElem?_append_left (by rw [List.length_take];omega),List.getElem?_take,if_pos h1] at hc;rw [List.getElem?_append_left (by simp only [List.length_take, Array.length_toList] at *; omega)] at hu;rw [List.getElem?_take,if_pos h1] at hu;exact (hr k c u hc (by simpa using hu)).evo0 hevo
      ·rw [List.getElem?_append_right (by rw [List.length_take];omega),List.length_take,Nat.min_eq_left Om] at hc;rw [List.getElem?_append_right (by simp only [List.length_take, Array.length_toList] at *; omega)] at hu;simp only [hol] at hu;by_cases h2:k - n * P.cellsOf e < m * P.cellsOf e
       ·rw [List.getElem?_append_left (by rw [rl];exact h2)] at hc;rw [List.getElem?_append_left (by rw [hnl];exact h2)] at hu;exact (hnrep _ c u hc hu).evo0 hevo
       ·rw [List.getElem?_append_right (by rw [rl];omega)] at hc;have:=List.mem_of_getElem? hc;rw [(List.mem_replicate.1 this).2];exact .any _)
   refine J4 (by rw [ho];intro c h;cases h) ?_;rw [hexec (by rw [hsv,hxv];exact hr2)];refine hn _ _ _ _ (hk2 hm hfit ncap hge) (fun i b h=> by rw [List.getElem?_append_left (List.getElem?_eq_some_iff.1 h).1];exact h) (h3.put o.dst ?_);refine .hs _ _ _ _ w.heap.size ?_;generalize hX:excl X (g++ [w.drew.heap.size]) (E.h.add (cs.take (n * P.cellsOf e)++JD m f'++List.replicate ((ncap - (n+m)) * P.cellsOf e) .any))=X2 at h4;cases h4 with
   | bp _ _ b' hg'=> exact hg'
theorem JBL {w:World} {X:Nat→Nat→Prop} {g:List Nat} {i:Id} {b:Nat} (h:Rep w X g (.bp i 0) (.pointer (some ⟨b,0,none⟩))):g[i.2]? =some b:=by
 cases h with
 | bp _ _ b' hg'=> exact hg'
theorem Jp2 {o:Oper} {E:Env} {K:Env→Prop} {Kp:AV→Env→Prop} {s x:Operand} {t e:TypeId} {sz szx m:Nat} {f f':Nat→AV}
 (ho:o.op= .call { callee:= .builtin .append,args:= #[s,x],argTypes:= #[t,t]}) (hs:E.ev s= .os sz 0 f none)
 (hx:JqS E x szx m f')
 (ht:P.underlying t=some (.slice e)) (hg:JbK P e=true) (hszx:szx=P.cellsOf e) (hm:m≠0) (hone:JcP m f')
 (hroom:m * P.bytesOf e≤140737488355328) (hlen:m≤9223372036854775807)
 (hk2:∀ncap,m≤ncap→K (({ E with h:=E.h.add (JD m f'++List.replicate ((ncap - m) * P.cellsOf e) .any)}:Env).set o.dst (.hs (E.h.nn,E.h.nx) 0 m ncap))):AOp P o E K Kp:=by
 intro ro X M w0 a w g hst next Q hn hpan
 obtain ⟨inf,z,hi,hz,hzs,hsi,hpos,hby⟩:=Jib hg
 subst hszx
 have hexec:∀ {u:Value} {w':World},(Builtin.append_ #[t,t] o.type #[a.eval s,a.eval x]).run P w= .ok u w'→(execOp a.eval o).run P w= .ok (.value u) w':=by
  intro u w' h;unfold execOp;simp only [ho,resolve];simp [invoke,builtin,h]
 obtain ⟨ax,xcap,news,hxv,hnl,hncell,hncs,hnr⟩:=(hx ro X M w0 a w g hst).2 hm
 have hnrep:=Jrd hpos hnl hncs hnr
 obtain ⟨rl,rg⟩:=JfE hncs
 have hrun:∃ncap,m≤ncap∧(Builtin.append_ #[t,t] o.type #[a.eval s,a.eval x]).run P w= .ok (.slice (some ⟨w.heap.size,0,none⟩) m ncap) (w.drew.alloc (.cells (news.toArray++Builtin.zeroCells z.cells (ncap - m)) e)):=by
  have hsr:=hst.ev s;rw [hs] at hsr;rw [hxv];generalize a.eval s=us at hsr;have key:∀ad:Option Addr,us= .slice ad 0 0→∃ncap,m≤ncap∧(Builtin.append_ #[t,t] o.type #[us, .slice (some ax) m xcap]).run P w= .ok (.slice (some ⟨w.heap.size,0,none⟩) m ncap) (w.drew.alloc (.cells (news.toArray++Builtin.zeroCells z.cells (ncap - m)) e)):=by
   rintro ad rfl;cases ad with
   | none=> exact ⟨_,grownCap_ge w m 0 e,run_append_nil (P:=P) w t o.type e inf z ht hi hz ax m xcap news (by rw [hnl,hsi]) hncell Om Om (by rw [hby];omega)⟩
   | some ad=>
     have hr:=run_append_grow (P:=P) w t o.type e inf z ht hi hz ad 0 0 [] Si Si ax m xcap news (by rw [hnl,hsi]) hncell Om Om (growslice_fits Om (by rw [hby,Nat.zero_add];exact hroom));rw [Nat.zero_add] at hr;exact ⟨_,grownCap_ge w m 0 e,by simpa using hr⟩
  cases hsr with
  | os0 _ _ ad=> exact key ad rfl
  | osn _ _ _ b off vs=> exact key _ rfl
 obtain ⟨ncap,hnc,hr⟩:=hrun
 obtain ⟨h3,h4⟩:=hst.drew.box (cs:=JD m f'++List.replicate ((ncap - m) * P.cellsOf e) .any) (vs:=news.toArray++Builtin.zeroCells z.cells (ncap - m)) e
  (by simp only [Array.toList_append,List.length_append,Array.length_toList,size_zeroCells,hzs,List.length_replicate,rl,hnl])
  (fun k c u hc hu=> by
    simp only [Array.toList_append] at hu;by_cases h2:k < m * P.cellsOf e
    ·rw [List.getElem?_append_left (by rw [rl];exact h2)] at hc;rw [List.getElem?_append_left (by rw [hnl];exact h2)] at hu;exact (hnrep _ c u hc hu).evo0 (Jhg w)
    ·rw [List.getElem?_append_right (by rw [rl];omega)] at hc;have:=List.mem_of_getElem? hc;rw [(List.mem_replicate.1 this).2];exact .any _)
 refine J4 (by rw [ho];intro c h;cases h) ?_
 rw [hexec hr]
 exact hn _ _ _ _ (hk2 ncap hnc) (fun i b h=> by rw [List.getElem?_append_left (List.getElem?_eq_some_iff.1 h).1];exact h) (h3.put o.dst (.hs _ _ _ _ w.heap.size (JBL h4)))
theorem JfF {o:Oper} {E:Env} {K:Env→Prop} {Kp:AV→Env→Prop} {s x:Operand} {t e:TypeId} {sz szx m:Nat} {f f':Nat→AV}
 (ho:o.op= .call { callee:= .builtin .append,args:= #[s,x],argTypes:= #[t,t]}) (hs:E.ev s= .os sz 0 f none)
 (hx:E.ev x= .sl szx m f'∨∃oj,E.ev x= .os szx m f' oj)
 (ht:P.underlying t=some (.slice e)) (hg:JbK P e=true) (hszx:szx=P.cellsOf e) (hm:m≠0) (hone:JcP m f')
 (hroom:m * P.bytesOf e≤140737488355328) (hlen:m≤9223372036854775807)
 (hk2:∀ncap,m≤ncap→K (({ E with h:=E.h.add (JD m f'++List.replicate ((ncap - m) * P.cellsOf e) .any)}:Env).set o.dst (.hs (E.h.nn,E.h.nx) 0 m ncap))):AOp P o E K Kp:=
 Jp2 ho hs (JoG hx) ht hg hszx hm hone hroom hlen hk2
theorem Jtv {o:Oper} {E:Env} {t e:TypeId} {x hi:Operand} {n l cap:Nat} {i:Id} {k':IntKind} {d:TypeDesc} (ho:o.op= .slice t x none (some hi) none) (hx:E.ev x= .hs i 0 n cap)
 (hhi:E.ev hi= .v (.int k' (l:Int))) (ht:P.underlying t=some (.slice e)) (hd:P.underlying e=some d) (hl:l≤cap) (hc:0 < cap):Yields P o E (.hs i 0 l cap):=by
 refine ⟨(by rw [ho];intro c hc;cases hc),fun ρ w X g hk hr=> .inl ?_⟩
 have r1:=hr x (by rw [ho];simp [Op.operands])
 have r3:=hr hi (by rw [ho];simp [Op.operands])
 rw [hx] at r1;rw [hhi] at r3
 have e3:=JY r3
 generalize hu:ρ x=u at r1
 cases r1 with
 | hs _ _ _ _ b hgb=>
   have hN:(Instr.sliceBounds true n cap none (some (.int k' (l:Int))) none).run P w= .ok (0,l,cap) w:=by
    have e5:(0:Int)≤(l:Int):=(by omega);have e6:(l:Int)≤(cap:Int):=(by omega);simp [Instr.sliceBounds,Instr.sliceBound,asIntOf,hl]
   have hcl:¬cap=0:=by omega
   refine ⟨.slice (some ⟨b,0,none⟩) l cap,w, ?_,Evo.refl _ _, .hs _ _ _ _ b hgb⟩;unfold execOp;simp only [ho,hu,Option.map_some,e3,Option.map_none];refine JdU ?_;simp [Instr.sliceAt,Sem.run_bind,run_underlying ht,Result.andThen_ok,Instr.slice,hN,JT hd,Sem.run_pure,JaG,hcl]
theorem JzQ {o:Oper} {E:Env} {K:Env→Prop} {Kp:AV→Env→Prop} {t e:TypeId} {x hi:Operand} {n l cap:Nat} {i:Id} {k':IntKind} {d:TypeDesc} (ho:o.op= .slice t x none (some hi) none) (hx:E.ev x= .hs i 0 n cap)
 (hhi:E.ev hi= .v (.int k' (l:Int))) (ht:P.underlying t=some (.slice e)) (hd:P.underlying e=some d) (hl:l≤cap) (hc:0 < cap) (hk:K (E.set o.dst (.hs i 0 l cap))):AOp P o E K Kp:=
 AOp.of_yields (Jtv ho hx hhi ht hd hl hc) hk
theorem AVle.fn_caps {f:Fn} {cs ds:List AV} (h:LeL cs ds):AVle (.fn f [] cs) (.fn f [] ds):=by
 intro w X g u hr
 cases hr with
 | fn _ _ _ v1 v2 n1 n2 r1 r2=>
   refine .fn _ _ _ v1 v2 n1 (n2.trans h.get.1) r1 ?_;intro k c u hc hu;have hk:k < cs.length:=by rw [h.get.1];exact (List.getElem?_eq_some_iff.1 hc).1
   exact h.get.2 k _ c (List.getElem?_eq_getElem hk) hc w X g u (r2 k _ u (List.getElem?_eq_getElem hk) hu)
theorem JoO {ops:Array Oper} {o:Oper} {E E':Env} {j:Nat} {want:Bool} {x:Option Bool} (hg:o.guard=some (j,want)) (ht:∀k,k∈o.looksAt ops→E'.t k=E.t k) (h:agb (agd ops E j)=some x):agb (agd ops E' j)=some x:=by
 unfold agd at h⊢
 cases hd:(ops[j]?).bind (·.dst) with
 | none=> simp [hd,agb] at h
 | some d=> simp only [hd] at h⊢;rw [ht d (Jgq hg hd)];exact h
theorem JkS {ops:Array Oper} {B:List (Id×Own)} {o:Oper} {E:Env} {j:Nat} {want c:Bool} (hg:o.guard=some (j,want)) (hd:agb (agd ops E j)=some (some c)) (hc:(c ==want)=false):PureAll P ops B o E (.v undef):=fun E' _ ht=> by
 unfold GY
 simp only [hg]
 exact ⟨some c,JoO hg ht hd, .inr ⟨(fun h=> by rw [Option.some.inj h,beq_self_eq_true] at hc;cases hc),Tt⟩⟩
theorem Jfm {ops:Array Oper} {B:List (Id×Own)} {o:Oper} {E:Env} {j:Nat} {want c:Bool} {C:Option Prop} {r:AV} (hg:o.guard=some (j,want)) (hd:agb (agd ops E j)=some (some c)) (hc:(c ==want)=true)
 (hp:JbD P o.op { E with h:=⟨B, [],0,0⟩}=some (C,r)) (hC:Jau C):PureAll P ops B o E r:=fun E' hb ht=> by
 unfold GY
 simp only [hg]
 exact ⟨some c,JoO hg ht hd, .inl ⟨by rw [beq_iff_eq.1 hc],JbA (JeO (E:= { E with h:=⟨B, [],0,0⟩}) (E':=E') hb (Jcm (E:= { E with h:=⟨B, [],0,0⟩}) ht) hp) hC⟩⟩
end Go.Vl

namespace Go.Vl
open Go.RowKit
variable {P:Program}
section
variable {α:Type} [Inhabited α]
def Jas (E:α→List AV) (d:Array α) (tl:List AV):List AV:=d.toList.flatMap E++tl
omit [Inhabited α] in
theorem Jez {E:α→List AV} {k:Nat} (hk:∀x,(E x).length=k):∀l:List α,(l.flatMap E).length=l.length * k
 | []=> by simp
 | x::l=> by rw [List.flatMap_cons,List.length_append,hk,Jez hk l,List.length_cons,Nat.succ_mul];omega
omit [Inhabited α] in
theorem Ji3 {E:α→List AV} {k:Nat} (hk:∀x,(E x).length=k) {d:Array α} {tl:List AV}:(Jas E d tl).length=d.size * k+tl.length:=by
 unfold Jas;rw [List.length_append,Jez hk];simp
omit [Inhabited α] in
theorem JoP {E:α→List AV} {k:Nat} (hk:∀x,(E x).length=k) {tl:List AV}:∀(l:List α) (i:Nat) (h:i < l.length),((l.flatMap E++tl).drop (i * k)).take k=E l[i]
 | [],i,h=> by cases h
 | x::l,0,_=> by
   rw [List.flatMap_cons,List.append_assoc,Nat.zero_mul,List.drop_zero,List.take_append_of_le_length (by rw [hk];exact Nat.le_refl _),List.take_of_length_le (by rw [hk];exact Nat.le_refl _)];rfl
 | x::l,i+1,h=> by
   have e:(E x++(l.flatMap E++tl)).drop ((i+1) * k)=(l.flatMap E++tl).drop (i * k):=by
    rw [List.drop_append,List.drop_of_length_le (by rw [hk,Nat.succ_mul];omega),hk,Nat.succ_mul,Nat.add_sub_cancel];rfl
   rw [List.flatMap_cons,List.append_assoc,e];exact JoP hk l i (by simpa using h)
theorem Jre {E:α→List AV} {k:Nat} (hk:∀x,(E x).length=k) {d:Array α} {tl:List AV} {i:Nat} (hi:i < d.size):((Jas E d tl).drop (i * k)).take k=E d[i]! :=by
 unfold Jas
 rw [JoP hk d.toList i (by simpa using hi)]
 simp [hi]
omit [Inhabited α] in
theorem JfG {a b vs:List AV} {off:Nat}:Jab (a++b) (a.length+off) vs=a++Jab b off vs:=by
 rw [JbE,JbE,List.take_append,List.drop_append]
 have h1:a.take (a.length+off)=a:=List.take_of_length_le Om
 have h2:a.drop (a.length+off+vs.length)= []:=List.drop_of_length_le Om
 rw [h1,h2,show a.length+off - a.length=off by omega,show a.length+off+vs.length - a.length=off+vs.length by omega]
 simp
omit [Inhabited α] in
theorem Jj4 {a b vs:List AV} (h:a.length=vs.length):Jab (a++b) 0 vs=vs++b:=by
 rw [JbE,Nat.zero_add,← h,List.drop_left']
 ·simp
 ·rfl
omit [Inhabited α] in
theorem JoQ {E:α→List AV} {k:Nat} (hk:∀x,(E x).length=k) {tl:List AV} {x:α}:∀(l:List α) (i:Nat),i < l.length→Jab (l.flatMap E++tl) (i * k) (E x)=(l.set i x).flatMap E++tl
 | [],i,h=> by cases h
 | y::l,0,_=> by
   rw [List.flatMap_cons,List.append_assoc,Nat.zero_mul,Jj4 (by rw [hk,hk])];simp [List.flatMap_cons]
 | y::l,i+1,h=> by
   rw [List.flatMap_cons,List.append_assoc,Nat.succ_mul,Nat.add_comm,show k+i * k=(E y).length+i * k by rw [hk],JfG,JoQ hk l i (by simpa using h)];simp [List.flatMap_cons]
omit [Inhabited α] in
theorem Jrf {E:α→List AV} {k:Nat} (hk:∀x,(E x).length=k) {d:Array α} {tl:List AV} {i:Nat} {x:α} (hi:i < d.size):Jab (Jas E d tl) (i * k) (E x)=Jas E (d.setIfInBounds i x) tl:=by
 unfold Jas
 rw [JoQ hk _ _ (by simpa using hi)]
 simp
omit [Inhabited α] in
theorem JnY {E:α→List AV} {k:Nat} (hk:∀x,(E x).length=k) {d:Array α} {tl:List AV} {i:Nat} (hi:i < d.size):i * k+k≤(Jas E d tl).length:=by
 rw [Ji3 hk,← Nat.succ_mul]
 exact Nat.le_trans (Nat.mul_le_mul_right k hi) (Nat.le_add_right _ _)
theorem Ji4 {x:Int} {i c k:Nat} (hc:c=k) (h:x=(i:Int)):0+x.toNat * c=i * k:=by subst hc;subst h;simp
theorem Ji5 {E:α→List AV} {k:Nat} (hk:∀x,(E x).length=k) {h:Heap} {t:TypeId} {nm s off j:Nat} {d:Array α} {tl:List AV} (hcs:JbM nm h.bx=some (s,Jas E d tl)) (ht:(P.underlying t).map agD=some true) (hn:P.cellsOf t=k) (hoff:off=j * k) (hj:j < d.size):
 JdG P t h (.bp (nm,s) off)=some (some (s=s), .ag (E d[j]!)):=by
 subst hoff
 obtain ⟨td,ht,ha⟩:=Option.map_eq_some_iff.1 ht
 have hl:Nat.ble (0+k) ((Jas E d tl).drop (j * k)).length=true:=Nat.ble_eq_true_of_le (by rw [List.length_drop];have:=JnY (tl:=tl) hk hj;omega)
 unfold JdG
 simp only [hcs,ht,ha,cond_true,apart,hn,hl,List.drop_zero,Jre hk hj,Option.map_some]
theorem JeS {E:α→List AV} {k:Nat} (hk:∀x,(E x).length=k) {o:Op} {e:Env} {t:TypeId} {p:Operand} {nm s off j:Nat} {d:Array α} {tl:List AV} (ho:o= .load t p) (hp:e.ev p= .bp (nm,s) off) (hoff:off=j * k)
 (hcs:JbM nm e.h.bx=some (s,Jas E d tl)) (ht:(P.underlying t).map agD=some true) (hn:P.cellsOf t=k) (hj:j < d.size):JbD P o e=some (some (s=s), .ag (E d[j]!)):=by
 rw [ho]
 show JdG P t e.h (e.ev p)=_
 rw [hp]
 exact Ji5 hk hcs ht hn hoff hj
theorem Jtw {E:α→List AV} {k:Nat} (hk:∀x,(E x).length=k) {o:Oper} {e:Env} {t:TypeId} {p:Operand} {nm s off j:Nat} {d:Array α} {tl:List AV} (ho:o.op= .load t p) (hp:e.ev p= .bp (nm,s) off) (hoff:off=j * k)
 (hcs:JbM nm e.h.bx=some (s,Jas E d tl)) (ht:(P.underlying t).map agD=some true) (hn:P.cellsOf t=k) (hj:j < d.size):Yields P o e (.ag (E d[j]!)):=by
 refine JbA (C:=some (s=s)) ?_ rfl
 rw [ho]
 show JdG P t e.h (e.ev p)=_
 rw [hp]
 exact Ji5 hk hcs ht hn hoff hj
theorem Jrg {E:α→List AV} {k:Nat} (hk:∀x,(E x).length=k) {ops:Array Oper} {o:Oper} {e:Env} {t:TypeId} {p:Operand} {nm s off j:Nat} {d:Array α} {tl:List AV} (hg:o.guard=none) (ho:o.op= .load t p) (hp:e.ev p= .bp (nm,s) off) (hoff:off=j * k)
 (hcs:JbM nm e.h.bx=some (s,Jas E d tl)) (ht:(P.underlying t).map agD=some true) (hn:P.cellsOf t=k) (hj:j < d.size):PureNow P ops o e (.ag (E d[j]!)):=by
 refine JoM hg (C:=some (s=s)) ?_ rfl
 rw [ho]
 show JdG P t e.h (e.ev p)=_
 rw [hp]
 exact Ji5 hk hcs ht hn hoff hj
omit [Inhabited α] in
theorem Jrh {E:α→List AV} {k:Nat} (hk:∀x,(E x).length=k) {ops:Array Oper} {o:Oper} {e:Env} {t:TypeId} {p x:Operand} {nm s off j:Nat} {d:Array α} {tl:List AV} {z:α} (hg:o.guard=none) (ho:o.op= .store t p x) (hd:o.dst=none) (hp:e.ev p= .bp (nm,s) off) (hoff:off=j * k)
 (hx:e.ev x= .ag (E z)) (h1:(E z).all Jcj=true) (h2:Jdg (.ag (E z))=true) (hcs:JbM nm e.h.bx=some (s,Jas E d tl)) (ht:(P.underlying t).isSome=true) (hn:P.cellsOf t=k) (hj:j < d.size):
 Eff P ops [] o e fun _ h'=> h'= { e.h with bx:=Jeg nm (Jas E (d.setIfInBounds j z) tl) e.h.bx}:=by
 subst hoff
 have hcl:(AV.ag (E z)).cells=E z:=rfl
 have q:=JoJ (P:=P) (ops:=ops) (B:= []) (E:=e) (cs:=Jas E d tl) (i:=(nm,s)) hg ho hd hp hcs (by rw [hx];exact h2) (by rw [hx,hcl];exact h1) ht (by rw [hx,hcl,hk,hn];exact Nat.beq_refl _) (by rw [hx,hcl,hk];exact JnY hk hj) (fun _ _ _ h=> by cases h)
 rw [hx,hcl,Jrf hk hj] at q
 exact q
omit [Inhabited α] in
theorem JvB {E:α→List AV} {k:Nat} (hk:∀x,(E x).length=k) {o:Oper} {e:Env} {K:Env→Prop} {Kp:AV→Env→Prop} {t:TypeId} {p x:Operand} {nm s off j:Nat} {d:Array α} {tl:List AV} {z:α} (ho:o.op= .store t p x) (hd:o.dst=none) (hp:e.ev p= .bp (nm,s) off) (hoff:off=j * k)
 (hx:e.ev x= .ag (E z)) (h1:(E z).all Jcj=true) (h2:Jdg (.ag (E z))=true) (hcs:JbM nm e.h.bx=some (s,Jas E d tl)) (ht:(P.underlying t).isSome=true) (hn:P.cellsOf t=k) (hj:j < d.size)
 (hK:K { e with h:= { e.h with bx:=Jeg nm (Jas E (d.setIfInBounds j z) tl) e.h.bx}}):AOp P o e K Kp:=by
 subst hoff
 have hcl:(AV.ag (E z)).cells=E z:=rfl
 refine AOp.any (Jgs ho hp hcs (by rw [hx];exact h2) (by rw [hx,hcl];exact h1) ht (by rw [hx,hcl,hk,hn];exact Nat.beq_refl _) (by rw [hx,hcl,hk];exact JnY hk hj) ?_)
 rw [hx,hcl,Jrf hk hj,hd]
 exact hK
end
theorem Jj5 {o:Oper} {E:Env} {t e:TypeId} {x lo:Operand} {n l cap:Nat} {i:Id} {k':IntKind} {d:TypeDesc} (ho:o.op= .slice t x (some lo) none none) (hx:E.ev x= .hs i 0 n cap)
 (hlo:E.ev lo= .v (.int k' (l:Int))) (ht:P.underlying t=some (.slice e)) (hd:P.underlying e=some d) (hl:l≤n) (hn:n≤cap) (hc:l < cap):Yields P o E (.hs i (l * P.cellsOf e) (n - l) (cap - l)):=by
 refine ⟨(by rw [ho];intro c hc;cases hc),fun ρ w X g hk hr=> .inl ?_⟩
 have r1:=hr x (by rw [ho];simp [Op.operands])
 have r3:=hr lo (by rw [ho];simp [Op.operands])
 rw [hx] at r1;rw [hlo] at r3
 have e3:=JY r3
 generalize hu:ρ x=u at r1
 cases r1 with
 | hs _ _ _ _ b hgb=>
   have hN:(Instr.sliceBounds true n cap (some (.int k' (l:Int))) none none).run P w= .ok (l,n,cap) w:=by
    have e5:(0:Int)≤(l:Int):=(by omega);have e6:(l:Int)≤(n:Int):=(by omega);simp [Instr.sliceBounds,Instr.sliceBound,asIntOf,hl,hn]
   have hcl:¬cap=l:=by omega
   refine ⟨.slice (some ⟨b,l * P.cellsOf e,none⟩) (n - l) (cap - l),w, ?_,Evo.refl _ _, .hs _ _ _ _ b hgb⟩;unfold execOp;simp only [ho,hu,Option.map_some,e3,Option.map_none];refine JdU ?_;simp [Instr.sliceAt,Sem.run_bind,run_underlying ht,Result.andThen_ok,Instr.slice,hN,JT hd,Sem.run_pure,JaG,hcl]
theorem JvC {o:Oper} {E:Env} {K:Env→Prop} {Kp:AV→Env→Prop} {s:Operand} {t e:TypeId} {i:Id} {off n cap:Nat} {cs:List AV} {z:Value}
 (ho:o.op= .call { callee:= .builtin .clear,args:= #[s],argTypes:= #[t]}) (hd:o.dst=none) (hs:E.ev s= .hs i off n cap) (hn:n≠0)
 (ht:P.underlying t=some (.slice e)) (hz:(P.info? e).bind (·.zero)=some z) (hsz:z.cells.size=P.cellsOf e) (h1:z.cells.all (·.oneCell')=true)
 (hcs:JbM i.1 E.h.bx=some (i.2,cs)) (hle:off+n * P.cellsOf e≤cs.length)
 (hk:K { E with h:= { E.h with bx:=Jeg i.1 (Jab cs off (List.replicate (n * P.cellsOf e) .any)) E.h.bx}}):AOp P o E K Kp:=by
 intro ro X M w0 a w g hst next Q hn' hpan
 have hmem:=Jhf hcs
 obtain ⟨b,hg,vs,e',hb,hvs,hr⟩:=hst.hok.bx _ hmem
 dsimp only at hg hvs hr
 have hsv:a.eval s= .slice (some ⟨b,off,none⟩) n cap:=by
  have:=hst.ev s;rw [hs] at this;generalize a.eval s=u at this;cases this with
  | hs _ _ _ _ b' hg'=> rw [hg] at hg';cases hg';rfl
 have hnl:(Builtin.zeroCells z.cells n).toList.length=n * P.cellsOf e:=by rw [Array.length_toList,size_zeroCells,hsz]
 have hone:∀v∈(Builtin.zeroCells z.cells n).toList,v.oneCell'=true:=by
  intro v hv;rw [Builtin.zeroCells,Array.toList_map,List.mem_map] at hv;obtain ⟨j,hj,rfl⟩:=hv;have hpos:0 < z.cells.size:=by
   rcases Nat.eq_zero_or_pos z.cells.size with h0 | h0
   ·rw [h0] at hj;simp at hj
   ·exact h0
  have hm:=Nat.mod_lt j hpos;have e2:z.cells[j % z.cells.size]! =z.cells[j % z.cells.size]:=by simp [hm]
  rw [e2];exact Array.all_eq_true.1 h1 _ hm
 have hst2:=run_storeCells_at P b off e' (Builtin.zeroCells z.cells n).toList 0 vs w hb (by rw [hnl,Nat.add_zero];simpa [hvs] using hle) hone
 simp only [Nat.add_zero] at hst2
 obtain ⟨m,rfl⟩:∃m,n=m+1:=⟨n - 1,Om⟩
 have hrun:(execOp a.eval o).run P w= .ok (.value (.tuple #[])) (w.setRow b (vs.toList.take off++(Builtin.zeroCells z.cells (m+1)).toList++vs.toList.drop (off+(Builtin.zeroCells z.cells (m+1)).toList.length)).toArray):=by
  have hcl:(Builtin.clear_ #[t] o.type #[.slice (some ⟨b,off,none⟩) (m+1) cap]).run P w= .ok (.tuple #[]) (w.setRow b (vs.toList.take off++(Builtin.zeroCells z.cells (m+1)).toList++vs.toList.drop (off+(Builtin.zeroCells z.cells (m+1)).toList.length)).toArray):=by
   simp only [Builtin.clear_];simp [run_underlying ht,Jb7 hz,hst2]
  unfold execOp;simp only [ho,resolve];simp [invoke,builtin,hsv,hcl]
 have hnew:=hst.setRow (cs:=Jab cs off (List.replicate ((m+1) * P.cellsOf e) .any)) (vs:=(vs.toList.take off++(Builtin.zeroCells z.cells (m+1)).toList++vs.toList.drop (off+(Builtin.zeroCells z.cells (m+1)).toList.length)).toArray) hcs hg hb
  (by simp only [JbE,List.length_append,List.length_take,List.length_drop,List.length_replicate,hnl];simp only [Array.length_toList];omega)
  (by simp only [List.size_toArray,List.length_append,List.length_take,List.length_drop,hnl];simp only [Array.length_toList];omega)
  (fun k c u hk1 hk2=> by
    simp only [List.append_assoc] at hk2;rw [JdW _ _ _ (by rw [hnl];simpa [hvs] using hle)] at hk2;rw [JbE,JdW _ _ _ (by rw [List.length_replicate];exact hle)] at hk1;rw [hnl] at hk2;rw [List.length_replicate] at hk1;split at hk1
    ·rename_i h2;rw [if_pos h2] at hk2;exact hr k c u hk1 (by simpa using hk2)
    ·rename_i h2
     rw [if_neg h2] at hk2;split at hk1
     ·rw [(List.mem_replicate.1 (List.mem_of_getElem? hk1)).2];exact .any _
     ·rename_i h3;rw [if_neg h3] at hk2;exact hr k c u hk1 (by simpa using hk2))
 refine J4 (by rw [ho];intro c h;cases h) ?_
 rw [hrun]
 refine hn' _ _ _ g ?_ (fun _ _ h=> h) (hnew.put o.dst (.v (.tuple #[])))
 rw [hd]
 exact hk
end Go.Vl

namespace Go.Vl
open Go.RowKit
variable {P:Program}
theorem JaK {E:Env} {n:Nat} {bx:List (Id×Own)} {pm:List (Id×Nat)} {nx nn:Nat} {L:List (Nat×AV)} (bx'' bx':List (Id×Own)) (pm':List (Id×Nat)) (hn:E.n=n) (hx:E.h.nx=nx) (h0:bx''.Perm E.h.bx) (hb:bx'.Sublist bx'') (hp:pm'.Sublist E.h.pm)
 (eb:BxLe bx' bx) (ep:PmEq pm' pm) (hL:LeT E.t L):ELe E (mk n L ⟨bx,pm,nx,nn⟩ E.df):=
 (JdX (E:=E) (h':=⟨bx'',E.h.pm,E.h.nx,E.h.nn⟩) ⟨h0.map _, .refl _,rfl⟩).trans (Je (E:= { E with h:=⟨bx'',E.h.pm,E.h.nx,E.h.nn⟩}) bx' pm' hn hx hb hp eb ep hL)
variable {α:Type}
theorem JoR {E:α→List AV} {k:Nat} (hk:∀x,(E x).length=k) {l:List α} {tl:List AV} {x:α} (h:k≤tl.length):Jab (Jas E l.toArray tl) (l.length * k) (E x)=Jas E (l++ [x]).toArray (tl.drop k):=by
 unfold Jas
 have e1:l.length * k=(l.flatMap E).length:=(Jez hk l).symm
 show Jab (l.flatMap E++tl) (l.length * k) (E x)=(l++ [x]).flatMap E++tl.drop k
 rw [e1]
 have:=JfG (a:=l.flatMap E) (b:=tl) (off:=0) (vs:=E x)
 rw [Nat.add_zero] at this
 rw [this,JbE,Nat.zero_add,hk]
 simp
theorem JoS {E:α→List AV} {k:Nat} (hk:∀x,(E x).length=k) {l:List α} {tl:List AV}:(Jas E l.toArray tl).take (l.length * k)=l.flatMap E:=by
 unfold Jas
 show (l.flatMap E++tl).take (l.length * k)=_
 rw [← Jez hk l,List.take_left]
theorem Jri {E:α→List AV} {l:List α} {x:α} {tl:List AV}:l.flatMap E++E x++tl=Jas E (l++ [x]).toArray tl:=by
 unfold Jas
 simp [List.flatMap_append]
theorem Jhr [Inhabited α] {bs:List (Nat×Own)} {i:Id} {n cap k:Nat} {E:α→List AV} (hk:∀x,(E x).length=k) {e:α→AV} (he:∀x,(e x).cells=E x) {d:α} {l:List α} {tl:List AV} (hn:l.length=n) (hm:(i.2, .c (Jas E l.toArray tl))∈bs) (hcap:n≤cap):
 Frz bs (.hs i 0 n cap) (JK k e d l):=by
 subst hn
 have hle:l.length * k≤(Jas E l.toArray tl).length:=by rw [Ji3 hk];simp
 refine Frz.hs hm hcap (.inr (by rw [Nat.zero_add];exact hle)) (fun j _=> by rw [he,hk]) (fun j hj q c hc=> ⟨c, ?_,Rf⟩) (by rw [Nat.zero_add];exact hle)
 rw [he] at hc
 have hq:q < k:=by have:=(List.getElem?_eq_some_iff.1 hc).1;rwa [hk] at this
 have hg:=Jre (E:=E) (tl:=tl) hk (d:=l.toArray) (i:=j) (by simpa using hj)
 have hx:(l.toArray)[j]! =l.getD j d:=by simp [List.getD,hj]
 rw [hx] at hg
 rw [← hg,List.getElem?_take,if_pos hq,List.getElem?_drop] at hc
 rw [Nat.zero_add]
 exact hc
def JcE (x:Int×Int):Value:= .agg #[.int .i64 x.1, .int .i64 x.2]
def kA (x:Int×Int):AV:= .ag [.v (.int .i64 x.1), .v (.int .i64 x.2)]
def Ja2 (x:Int×Int):Value×AV:=(JcE x, .v (.bool true))
theorem Jxg {w:World} {X:Nat→Nat→Prop} {g:List Nat} {x:Int×Int} {u:Value} (h:Rep w X g (kA x) u):u=JcE x:=by
 cases h with
 | ag _ vs hn h=>
   match vs,hn with
   | [a,b],_=>
     have h0:=JY (h 0 _ a rfl rfl);have h1:=JY (h 1 _ b rfl rfl);subst h0 h1;rfl
theorem Jxh {w:World} {X:Nat→Nat→Prop} {g:List Nat} {x:Int×Int}:Rep w X g (kA x) (JcE x):=
 .ag [_,_] [_,_] rfl fun k c u hc hu=> by
  match k,hc,hu with
  | 0,hc,hu=> simp at hc hu;subst hc;subst hu;exact .v _
  | 1,hc,hu=> simp at hc hu;subst hc;subst hu;exact .v _
structure PairT (P:Program) (kt e:TypeId):Prop where
 arr:P.underlying kt=some (.array 2 e)
 el:P.underlying e=some (.int .i64)
 sz:P.cellsOf e=1
 ok:aeqOk P 8 kt=true
 p0:∀a:Int×Int,apart P e [.v (.int .i64 a.1), .v (.int .i64 a.2)] 0=some (.v (.int .i64 a.1))
 p1:∀a:Int×Int,apart P e [.v (.int .i64 a.1), .v (.int .i64 a.2)] 1=some (.v (.int .i64 a.2))
 eq:∀a b:Int×Int,aeq P 8 kt (kA a) (kA b)=some (a.1 ==b.1&& (a.2 ==b.2&& true))
theorem JzR (a b:Int×Int):(a.1 ==b.1&& (a.2 ==b.2&& true))=decide (a=b):=by
 rw [Bool.eq_iff_iff]
 simp [Prod.ext_iff]
theorem PairT.equal {kt e:TypeId} (h:PairT P kt e) (a b:Int×Int) (w:World):(Op.equal kt (JcE a) (JcE b)).run P w= .ok (decide (a=b)) w:=by
 rw [← JzR]
 exact JhQ 8 10000 kt (kA a) (kA b) _ _ _ w (fun _ _=> False) [] Om (h.eq a b) h.ok Jxh Jxh
theorem PairT.checkI {kt e:TypeId} (h:PairT P kt e) (a:Int) (b:Bool) (n:Nat) (w:World):(Instr.checkKey b (n+1) e (.int .i64 a)).run P w= .ok () w:=by
 unfold Instr.checkKey
 simp only [Sem.run_bind,run_underlying h.el,Result.andThen_ok,Sem.run_pure]
theorem PairT.check {kt e:TypeId} (h:PairT P kt e) (a:Int×Int) (b:Bool) (w:World):(Instr.checkKey b 10000 kt (JcE a)).run P w= .ok () w:=by
 have hsz:=JT (w:=w) h.el
 rw [h.sz] at hsz
 have hr:∀(k:Nat) (c:AV) (u:Value), [AV.v (.int .i64 a.1), .v (.int .i64 a.2)][k]? =some c→ [Value.int .i64 a.1, .int .i64 a.2][k]? =some u→Rep w (fun _ _=> False) [] c u:=fun k c u hc hu=> by
  match k,hc,hu with
  | 0,hc,hu=> simp at hc hu;subst hc;subst hu;exact .v _
  | 1,hc,hu=> simp at hc hu;subst hc;subst hu;exact .v _
 obtain ⟨u0,q0,r0⟩:=Jda (vs:= [Value.int .i64 a.1, .int .i64 a.2]) (h.p0 a) rfl hr
 obtain ⟨u1,q1,r1⟩:=Jda (vs:= [Value.int .i64 a.1, .int .i64 a.2]) (h.p1 a) rfl hr
 have:=JY r0;subst this
 have:=JY r1;subst this
 obtain ⟨n,hn⟩:∃n,10000=n+1+1:=⟨9998,rfl⟩
 rw [hn]
 unfold JcE Instr.checkKey
 simp only [Sem.run_bind,run_underlying h.arr,Result.andThen_ok]
 simp only [Std.Legacy.Range.forIn_eq_forIn_range',Std.Legacy.Range.size,Nat.sub_zero,Nat.add_sub_cancel,Nat.div_one,List.range'_succ,List.range'_zero,List.forIn_cons,List.forIn_nil]
 simp [Sem.run_bind,hsz,q0,q1,h.checkI]
theorem PairT.ask {kt e:TypeId} (h:PairT P kt e) (x:Int×Int) (w:World):∀(es:List (Int×Int)) (ents:List MapEntry) (i:Nat),ents.length=es.length→(∀(k:Nat) (p:Int×Int) (en:MapEntry),es[k]? =some p→ents[k]? =some en→en.key=JcE p)→
 (x∉es∧(Instr.findAsking kt (JcE x) ents i).run P w= .ok none w)∨∃j en,ents[j]? =some en∧es[j]? =some x∧(Instr.findAsking kt (JcE x) ents i).run P w= .ok (some (i+j,en.val)) w
 | [], [],i,_,_=> .inl ⟨by simp,by simp [Instr.findAsking]⟩
 | [],en::ents,i,hn,_=> by simp at hn
 | p::es, [],i,hn,_=> by simp at hn
 | p::es,en::ents,i,hn,hk=> by
   have h0:=hk 0 p en rfl rfl;unfold Instr.findAsking;rw [h0];simp only [Sem.run_bind,h.equal,Result.andThen_ok];by_cases hx:x=p
   ·refine .inr ⟨0,en,rfl,by simp [hx], ?_⟩;simp [hx]
   ·rcases h.ask x w es ents (i+1) (by simpa using hn) (fun k p' e' h1 h2=> hk (k+1) p' e' (by simpa using h1) (by simpa using h2)) with ⟨h1,h2⟩ | ⟨j,e',h1,h2,h3⟩
    ·refine .inl ⟨by simp [hx,h1], ?_⟩;simp [hx,h2]
    ·refine .inr ⟨j+1,e',by simpa using h1,by simpa using h2, ?_⟩;simp [hx,h3];omega
theorem PairT.find {kt e:TypeId} (h:PairT P kt e) (x:Int×Int) (w:World) (es:List (Int×Int)) (ents:List MapEntry) (hn:ents.length=es.length) (hk:∀(k:Nat) (p:Int×Int) (en:MapEntry),es[k]? =some p→ents[k]? =some en→en.key=JcE p):
 (x∉es∧(Instr.findKey kt (JcE x) ents).run P w= .ok none w)∨∃j en,ents[j]? =some en∧es[j]? =some x∧(Instr.findKey kt (JcE x) ents).run P w= .ok (some (j,en.val)) w:=by
 unfold Instr.findKey
 match es,ents,hn,hk with
 | [], [],_,_=> exact .inl ⟨by simp,by simp [Sem.run_bind,run_underlying h.arr,Instr.findNow]⟩
 | p::es,en::ents,hn,hk=>
   have e0:Instr.findNow (.array 2 e) (JcE x) (en::ents) 0=none:=by simp [Instr.findNow,Instr.sameNow]
   rcases h.ask x w (p::es) (en::ents) 0 hn hk with ⟨h1,h2⟩ | ⟨j,e',h1,h2,h3⟩
   ·exact .inl ⟨h1,by simp only [Sem.run_bind,run_underlying h.arr,Result.andThen_ok,e0,h2]⟩
   ·refine .inr ⟨j,e',h1,h2, ?_⟩;simp only [Sem.run_bind,run_underlying h.arr,Result.andThen_ok,e0,h3,Nat.zero_add]
theorem Jtx {o:Oper} {t kt e et:TypeId} {m k:Operand} {x:Int×Int} {i:Id} {es:List (Int×Int)} {E:Env} {K:Env→Prop} {Kp:AV→Env→Prop} (ho:o.op= .lookup t m k false) (ht:P.underlying t=some (.map kt et)) (hp:PairT P kt e)
 (hz:(P.info? et).bind (·.zero)=some (.bool false)) (hm:E.ev m= .om i) (hkv:E.ev k=kA x) (hes:JaB i.1 E.h.bx=some (i.2, .mp (es.map Ja2))) (hK:K (E.set o.dst (.v (.bool (decide (x∈es)))))):AOp P o E K Kp:=by
 refine AOp.of_yields (r:= .v (.bool (decide (x∈es)))) ⟨(by rw [ho];intro c hc;cases hc),fun ρ w X g hk hr=> .inl ?_⟩ hK
 have r1:=hr m (by rw [ho];simp [Op.operands])
 have r2:=hr k (by rw [ho];simp [Op.operands])
 rw [hm] at r1;rw [hkv] at r2
 have e2:=Jxg r2
 obtain ⟨b,hgb,hown⟩:=hk.bx _ (Ja4 hes)
 dsimp only at hgb hown
 obtain ⟨ents,h1,h2,h3⟩:=hown
 have hmv:ρ m= .map (some b):=by
  generalize ρ m=u at r1;cases r1 with
  | om _ b' hg'=> rw [hgb] at hg';cases hg';rfl
 rw [List.length_map] at h2
 have hkk:∀(k:Nat) (p:Int×Int) (en:MapEntry),es[k]? =some p→ents[k]? =some en→en.key=JcE p:=fun k p en q1 q2=> (h3 k (Ja2 p) en (by simp [q1]) q2).1
 have hg:=Jed (P:=P) h1
 refine ⟨.bool (decide (x∈es)),w, ?_,Evo.refl _ _, .v _⟩
 unfold execOp
 simp only [ho,hmv,e2]
 refine JdU ?_
 unfold Instr.lookup
 simp only [Sem.run_bind,run_underlying ht,Result.andThen_ok,hg,Sem.run_pure,hp.check]
 rcases hp.find x w es ents h2 hkk with ⟨hn,hf⟩ | ⟨j,en,q1,q2,hf⟩
 ·have hzz:=Jb7 (w:=w) hz;simp only [hf,Result.andThen_ok,Sem.run_pure];simp [hn,Sem.run_bind,hzz]
 ·have hv:=JY (h3 j (Ja2 x) en (by simp [q2]) q1).2.2;simp only [hf,Result.andThen_ok,Sem.run_pure];simp [hv,List.mem_of_getElem? q2]
def JdM (x:Int×Int) (es:List (Int×Int)):List (Int×Int):=if x∈es then es else es++ [x]
theorem JnZ {t kt e et:TypeId} {x:Int×Int} {es:List (Int×Int)} {w:World} {X:Nat→Nat→Prop} {g:List Nat} {b:Nat} (ht:P.underlying t=some (.map kt et)) (hp:PairT P kt e) (hb:OwnRep w X g b (.mp (es.map Ja2))):
 ∃ents':List MapEntry,(Instr.mapUpdate t (.map (some b)) (JcE x) (.bool true)).run P w= .ok () (World.setO w b (.map ents'.toArray ents'.length))∧ents'.length=((JdM x es).map Ja2).length∧
  ∀(k:Nat) (p:Value×AV) (en:MapEntry),((JdM x es).map Ja2)[k]? =some p→ents'[k]? =some en→en.key=p.1∧en.born=k∧Rep w X g p.2 en.val:=by
 obtain ⟨ents,h1,h2,h3⟩:=hb
 rw [List.length_map] at h2
 have hkk:∀(k:Nat) (p:Int×Int) (en:MapEntry),es[k]? =some p→ents[k]? =some en→en.key=JcE p:=fun k p en q1 q2=> (h3 k (Ja2 p) en (by simp [q1]) q2).1
 have hg:=Jed (P:=P) h1
 rcases hp.find x w es ents h2 hkk with ⟨hn,hf⟩ | ⟨j,e0,q1,q2,hf⟩
 ·refine ⟨ents++ [⟨JcE x, .bool true,ents.length⟩], ?_,by unfold JdM;rw [if_neg hn];simp [h2],fun k p en r1 r2=> ?_⟩
  ·unfold Instr.mapUpdate;simp only [Sem.run_bind,run_underlying ht,Result.andThen_ok,hg,hp.check,hf];rw [Jdb h1];simp
  ·unfold JdM at r1;rw [if_neg hn,List.map_append] at r1;rcases Nat.lt_or_ge k es.length with hlt | hge
   ·rw [List.getElem?_append_left (by simpa using hlt)] at r1;rw [List.getElem?_append_left Om] at r2;exact h3 k p en r1 r2
   ·rw [List.getElem?_append_right (by simpa using hge)] at r1;rw [List.getElem?_append_right Om] at r2;have:k=es.length:=by
     have:=(List.getElem?_eq_some_iff.1 r1).1;simp at this;omega
    subst this;rw [List.length_map,Nat.sub_self] at r1;rw [h2,Nat.sub_self] at r2;simp at r1 r2;subst r1;subst r2;exact ⟨rfl,rfl, .v _⟩
 ·have hj:j < ents.length:=(List.getElem?_eq_some_iff.1 q1).1;have hje:ents[j]=e0:=(List.getElem?_eq_some_iff.1 q1).2;have h0:=h3 j (Ja2 x) e0 (by simp [q2]) q1;have hv:=JY h0.2.2;have hkey:e0.key=JcE x:=h0.1;have hmem:x∈es:=List.mem_of_getElem? q2;refine ⟨ents.set j ⟨JcE x, .bool true,e0.born⟩, ?_,by unfold JdM;rw [if_pos hmem];simp [h2],fun k p en r1 r2=> ?_⟩
  ·unfold Instr.mapUpdate;simp only [Sem.run_bind,run_underlying ht,Result.andThen_ok,hg,hp.check,hf];have hks:(Instr.keyThatStays (((ents.toArray[j]?).map (·.key)).getD (JcE x)) (JcE x)).run P w= .ok (JcE x) w:=by
    have hsb:Instr.sameBits 10000 (JcE x) (JcE x)=true:=by
     obtain ⟨n,hn⟩:∃n,10000=n+1:=⟨9999,rfl⟩;rw [hn];simp [JcE,Instr.sameBits]
    simp [q1,hkey,Instr.keyThatStays,hsb]
   simp only [hks,Result.andThen_ok];rw [Jdb h1]
   congr 2
   simp only [List.length_set]
   congr 1
   apply Array.ext';simp only [Array.toList_modify,List.modify_eq_set,Option.map_eq_map];rw [List.getElem?_eq_getElem hj];simp [hje]
  ·unfold JdM at r1;rw [if_pos hmem] at r1;rw [List.getElem?_set] at r2;by_cases hjk:j=k
   ·subst hjk;simp [hj] at r2;subst r2;have e1:=h3 j p e0 r1 q1;exact ⟨hkey.symm.trans e1.1,e1.2.1,by
     have:p=Ja2 x:=(by rw [List.getElem?_map,q2] at r1;exact (Option.some.inj r1).symm);subst this;exact .v _⟩
   ·simp [hjk] at r2;exact h3 k p en r1 r2
theorem Jty {o:Oper} {t kt e et:TypeId} {m k v:Operand} {x:Int×Int} {i:Id} {es:List (Int×Int)} {E:Env} {K:Env→Prop} (ho:o.op= .mapUpdate t m k v∨o.op= .insert t m k v) (ht:P.underlying t=some (.map kt et)) (hp:PairT P kt e)
 (hm:E.ev m= .om i) (hkv:E.ev k=kA x) (hv:E.ev v= .v (.bool true)) (hes:JaB i.1 E.h.bx=some (i.2, .mp (es.map Ja2)))
 (hK:K (({ E with h:= { E.h with bx:=Jbu i.1 (.mp ((JdM x es).map Ja2)) E.h.bx}}:Env).set o.dst .any)):AOp P o E K:=by
 intro ro X M w0 a w g hs next Q hn hp'
 obtain ⟨b,hgb,hown⟩:=hs.hok.bx _ (Ja4 hes)
 dsimp only at hgb hown
 have hmv:a.eval m= .map (some b):=by
  have:=hs.ev m;rw [hm] at this;generalize a.eval m=u at this;cases this with
  | om _ b' hg'=> rw [hgb] at hg';cases hg';rfl
 have hkv':a.eval k=JcE x:=by
  have:=hs.ev k;rw [hkv] at this;exact Jxg this
 have hvv:a.eval v= .bool true:=by
  have:=hs.ev v;rw [hv] at this;exact JY this
 obtain ⟨ents',h1,h2,h3⟩:=JnZ (x:=x) ht hp hown
 obtain ⟨ents,hb0,_⟩:=hown
 have hev:=Jfj (o':= .map ents'.toArray ents'.length) hb0 rfl (fun h=> by cases h)
 have hnew:=hs.setOwn (x:= .mp ((JdM x es).map Ja2)) hes hgb hev (fun hst=> ⟨ents',Jew hb0,h2,fun k p e q1 q2=> ⟨(h3 k p e q1 q2).1,(h3 k p e q1 q2).2.1,(h3 k p e q1 q2).2.2.stays hst⟩⟩)
 refine J4 (by intro c h;rcases ho with ho | ho <;> (rw [ho] at h;cases h)) ?_
 have:(execOp a.eval o).run P w= .ok .skip (World.setO w b (.map ents'.toArray ents'.length)):=by
  unfold execOp;rcases ho with ho | ho <;> (simp only [ho,hmv,hkv',hvv,Sem.run_bind,h1,Result.andThen_ok,Sem.run_pure])
 rw [this]
 exact hn _ _ _ g hK (fun _ _ h=> h) (hnew.put o.dst (.any _))
theorem JoT {ops:Array Oper} {B:List (Id×Own)} {o:Oper} {E:Env} {j:Nat} {want c b b':Bool} {C:Option Prop} (hg:o.guard=some (j,want)) (hd:agb (agd ops E j)=some (some c)) (hc:(c ==want)=true)
 (hp:JbD P o.op { E with h:=⟨B, [],0,0⟩}=some (C, .v (.bool b))) (hC:Jau C) (hb:b=b'):PureAll P ops B o E (.v (.bool b')):=hb ▸ Jfm hg hd hc hp hC
theorem MixL.mono {ops:Array Oper} {B:List (Id×Own)} {eff:Nat→Bool} {K K':Env→Prop}:∀ {L:List Nat} {E:Env},(∀E,K E→K' E)→MixL P ops B eff L E K→MixL P ops B eff L E K'
 | [],E,hk,h=> hk E h
 | i::l,E,hk,h=> by
   obtain ⟨o,h1,h2⟩:=h;refine ⟨o,h1, ?_⟩;cases he:eff i with
   | true=>
     simp only [he] at h2⊢;obtain ⟨R,q1,q2⟩:=h2;exact ⟨R,q1,fun r h' hr=> MixL.mono hk (q2 r h' hr)⟩
   | false=>
     simp only [he] at h2⊢;obtain ⟨r,q1,q2⟩:=h2;exact ⟨r,q1,MixL.mono hk q2⟩
theorem MixL.app {ops:Array Oper} {B:List (Id×Own)} {eff:Nat→Bool} {K:Env→Prop} {L2:List Nat}:∀ {L:List Nat} {E:Env},MixL P ops B eff L E (fun E'=> MixL P ops B eff L2 E' K)→MixL P ops B eff (L++L2) E K
 | [],E,h=> h
 | i::l,E,h=> by
   obtain ⟨o,h1,h2⟩:=h;refine ⟨o,h1, ?_⟩;cases he:eff i with
   | true=>
     simp only [he] at h2⊢;obtain ⟨R,q1,q2⟩:=h2;exact ⟨R,q1,fun r h' hr=> MixL.app (q2 r h' hr)⟩
   | false=>
     simp only [he] at h2⊢;obtain ⟨r,q1,q2⟩:=h2;exact ⟨r,q1,MixL.app q2⟩
end Go.Vl

namespace Go.Vl
open Go.RowKit
variable {P:Program}
section
variable {F:Fence} {n:Nat} {b:Frame} {a:Act} {k:List Item} {cs:List Frame} {w:World} {Q:Exit→Act→World→Prop}
end
end Go.Vl

/- Regions that draw, with two effects that stand in no order, and more effects behind both. -/
namespace Go.Vl
open Go.RowKit
variable {P:Program}
theorem JzS {w:World} {X:Nat→Nat→Prop} {g:List Nat} {i:Id} {n cap b:Nat} {vs us:List Value} (hg:g[i.2]? =some b) (h3:us.length=(AV.hs i 0 n cap::vs.map AV.v).length)
 (h4:∀(k:Nat) (c:AV) (u:Value),(AV.hs i 0 n cap::vs.map AV.v)[k]? =some c→us[k]? =some u→Rep w X g c u):us= .slice (some ⟨b,0,none⟩) n cap::vs:=by
 match us,h3,h4 with
 | a::us,h3,h4=>
 have ha:=h4 0 _ a rfl rfl
 obtain rfl:us=vs:=JnW (by simpa using h3) fun k c v hc hv=> h4 (k+1) c v (by simpa using hc) (by simpa using hv)
 cases ha with
 | hs _ _ _ _ b2 hg2=>
   rw [hg] at hg2;cases hg2;rfl
theorem JoU {α:Type} [Inhabited α] {f:FuncId} {enc:α→Value} {d d':Array α} {tl:List AV} {vs:List Value} {R:AV} {res:Nat→Value} {nm s cap nx nn:Nat} (hcb:Jc2 P f) (hd:d'.size=d.size)
 (hR:∀(w:World) (X:Nat→Nat→Prop) (g:List Nat) (b:Nat),g[s]? =some b→Rep w X g R (res b))
 (h:∀(w:World) (blk:Nat),Kn w none2→Sort.Holds enc w blk 0 d→blk < w.heap.size→Calls P f (.slice (some ⟨blk,0,none⟩) d.size cap::vs).toArray w fun e w'=> e= .returned (res blk)∧∃n os,w'=Sort.grow (Sort.putRow enc (Sort.ahead w n) blk 0 d') os):
 ECall P f (.hs (nm,s) 0 d.size cap::vs.map .v) ⟨[((nm,s), .c (d.toList.map (fun x=> .v (enc x))++tl))], [],nx,nn⟩
  fun r h'=> r=R∧h'=⟨[((nm,s), .c (d'.toList.map (fun x=> .v (enc x))++tl))], [],nx,nn⟩:=by
 refine ⟨hcb,fun X w g us h1 h2 h3 h4=> ?_⟩
 obtain ⟨b,hgb,vs0,ety,hblk,hsz,hrep⟩:=h1.bx _ (.head _)
 dsimp only at hgb
 obtain rfl:=JzS hgb h3 h4
 have hbl:=JL hblk
 have hlen:d.size≤vs0.size:=by rw [hsz];simp
 have hH:Sort.Holds enc w b 0 d:=fun j hj=> by
  refine ⟨?_,by rw [Jci hblk];simp⟩;have hj2:j < vs0.size:=by omega
  have:=hrep j (.v (enc d[j]!)) vs0[j] (by rw [List.getElem?_append_left (by simpa using hj)];simp [hj]) (Array.getElem?_eq_getElem hj2);generalize hv:vs0[j]=v at this;cases this;rw [J1 hblk,Nat.zero_add,Array.getElem?_eq_getElem hj2,hv]
 refine (JgR P f).mono (w0:=w) (g:=g) (R:=_) (h w b h1.kn.none hH hbl) fun e w' ⟨he,n,os,hw⟩=> ?_
 have hb':w'.heap[b]? =some (.cells (Sort.putCells enc 0 d' vs0) ety (0,0)):=by
  subst hw;rw [Sort.heap_grow_old _ _ (by simpa [Sort.putRow,Sort.mapBlock,Sort.ahead] using hbl)];show (w.heap.modify b _)[b]? =_;rw [Array.getElem?_modify,if_pos rfl,hblk];rfl
 have hoth:∀k,k < w.heap.size→k≠b→w'.heap[k]? =w.heap[k]? :=fun k hk hne=> by
  subst hw;rw [Sort.heap_grow_old _ _ (by simpa [Sort.putRow,Sort.mapBlock,Sort.ahead] using hk)];show (w.heap.modify b _)[k]? =_;rw [Array.getElem?_modify,if_neg (Ne.symm hne)]
 have hsize:w.heap.size≤w'.heap.size:=by
  subst hw;simp [Sort.grow,Sort.putRow,Sort.mapBlock,Sort.ahead]
 have hM:∀b0 o,¬excl none2 g ⟨[((nm,s), .c (d.toList.map (fun x=> .v (enc x))++tl))], [],nx,nn⟩ b0 o→b0≠b:=fun b0 o hn hb0=> hn (.inr (.inl ⟨_, .head _,by rw [hb0];exact hgb⟩))
 have hev:Evo (excl none2 g ⟨[((nm,s), .c (d.toList.map (fun x=> .v (enc x))++tl))], [],nx,nn⟩) w w':=by
  refine ⟨by subst hw;rfl,by subst hw;rfl,by subst hw;rfl,hsize,fun b0 hb0 hn=> hoth b0 hb0 (hM b0 0 (hn 0)),fun b0 o hb0 hn=> World.cell?_of_block (a:=⟨b0,o,none⟩) (hoth b0 hb0 (hM b0 o hn)),fun b0 us0 e0 fz h0=> ?_,fun b0 l h0=> ?_⟩
  ·by_cases hb0:b0=b
   ·subst hb0;rw [hblk] at h0;cases h0;exact ⟨_,hb',by simp [Sort.putCells]⟩
   ·exact ⟨us0,(hoth b0 (JL h0) hb0).trans h0,rfl⟩
  ·by_cases hb0:b0=b
   ·subst hb0;rw [hblk] at h0;cases h0
   ·exact ⟨l,(hoth b0 (JL h0) hb0).trans h0⟩
 have hstay:=hev.stays (X:=excl X g ⟨[((nm,s), .c (d.toList.map (fun x=> .v (enc x))++tl))], [],nx,nn⟩) (X':=excl X g ⟨[((nm,s), .c (d.toList.map (fun x=> .v (enc x))++tl))], [],nx,nn⟩) (g:=g) (g':=g)
  (fun b0 o _ hm=> hm.elim (fun h=> h.elim) .inr) (fun _ _ _ h=> h) (fun _ _ h=> h)
 refine ⟨.ret R,_,g,⟨_,he,hR _ _ _ _ hgb⟩,⟨rfl,rfl⟩,fun _ _ h=> h, ?_,fun b0 o hx i hi=> h2 b0 o hx i hi,hev,fun b0 o h _=> by simpa [excl] using h⟩
 have hX:excl X g ⟨[((nm,s), .c (d'.toList.map (fun x=> .v (enc x))++tl))], [],nx,nn⟩=excl X g ⟨[((nm,s), .c (d.toList.map (fun x=> .v (enc x))++tl))], [],nx,nn⟩:=by
  funext b0 o;exact propext (by simp [excl])
 rw [hX]
 refine ⟨fun p hp=> ?_,fun p hp=> (by cases hp),h1.nodup,h1.nx,fun b0 o hx=> ?_, ?_⟩
 ·obtain rfl:=List.mem_singleton.1 hp;refine ⟨b,hgb,Sort.putCells enc 0 d' vs0,ety,hb',by simp [Sort.putCells,hsz,hd],fun k c u hk hku=> ?_⟩;have hkv:k < vs0.size:=by have:=(Array.getElem?_eq_some_iff.1 hku).1;simpa [Sort.putCells] using this
  have hval:(Sort.putCells enc 0 d' vs0)[k]? =some (if 0≤k∧k < 0+d'.size then enc d'[k - 0]! else vs0[k]):=by simp [Sort.putCells,hkv]
  rw [hval] at hku;by_cases hkd:k < d'.size
  ·rw [if_pos ⟨Nat.zero_le _,Om⟩] at hku;rw [List.getElem?_append_left (by simpa using hkd)] at hk;simp [hkd] at hk hku;subst hk;subst hku;exact .v _
  ·rw [if_neg Om] at hku;rw [List.getElem?_append_right (by simpa using Nat.le_of_not_lt hkd)] at hk;refine (hrep k c u ?_ (by rw [Array.getElem?_eq_getElem hkv];exact hku)).stays hstay;rw [List.getElem?_append_right (by simp;omega)];simpa [hd] using hk
 ·exact Nat.lt_of_lt_of_le (h1.bd b0 o hx) hsize
 ·exact h1.kn.stays hstay
theorem JvD {f:FuncId} {N n cap nm s nx nn:Nat} {cs tl az:List AV} {vs:List Value} {R:AV} {res:Nat→Value} {Φ:List AV→Prop} (hcb:Jc2 P f) (hcs:cs.length=N)
 (ha:∀(w:World) (X:Nat→Nat→Prop) (g:List Nat) (us:List Value),us.length=az.length→(∀(k:Nat) (c:AV) (u:Value),az[k]? =some c→us[k]? =some u→Rep w X g c u)→us=vs)
 (hR:∀(w:World) (X:Nat→Nat→Prop) (g:List Nat) (b:Nat),g[s]? =some b→Rep w X g R (res b))
 (h:∀(w:World) (X:Nat→Nat→Prop) (g:List Nat) (blk:Nat) (us:List Value),us.length=N→(∀(k:Nat) (c:AV) (u:Value),cs[k]? =some c→us[k]? =some u→Rep w X g c u)→Sort.Holds id w blk 0 us.toArray→blk < w.heap.size→
   Calls P f (.slice (some ⟨blk,0,none⟩) n cap::vs).toArray w fun e w'=> e= .returned (res blk)∧∃(us':List Value) (cs':List AV) (m:Nat) (os:Array Obj),us'.length=N∧cs'.length=N∧Φ cs'∧(∀(k:Nat) (c:AV) (u:Value),cs'[k]? =some c→us'[k]? =some u→Rep w X g c u)∧w'=Sort.grow (Sort.putRow id (Sort.ahead w m) blk 0 us'.toArray) os):
 ECall P f (.hs (nm,s) 0 n cap::az) ⟨[((nm,s), .c (cs++tl))], [],nx,nn⟩
  fun r h'=> r=R∧∃cs',Φ cs'∧h'=⟨[((nm,s), .c (cs'++tl))], [],nx,nn⟩:=by
 refine ⟨hcb,fun X w g us h1 h2 h3 h4=> ?_⟩
 obtain ⟨b,hgb,vs0,ety,hblk,hsz,hrep⟩:=h1.bx _ (.head _)
 dsimp only at hgb
 match us,h3,h4 with
 | a::us,h3,h4=>
 have hva:=h4 0 _ a rfl rfl
 obtain rfl:us=vs:=ha w _ g us (by simpa using h3) fun k c v hc hv=> h4 (k+1) c v (by simpa using hc) (by simpa using hv)
 cases hva with
 | hs _ _ _ _ b2 hg2=>
 dsimp only at hg2
 rw [hgb] at hg2
 cases hg2
 have hbl:=JL hblk
 have hlen:N≤vs0.size:=by rw [hsz,List.length_append];omega
 have htl:(vs0.toList.take N).length=N:=by simp;omega
 have hH:Sort.Holds id w b 0 (vs0.toList.take N).toArray:=fun j hj=> by
  refine ⟨?_,by rw [Jci hblk];simp⟩;have hjN:j < N:=by rw [List.size_toArray,htl] at hj;exact hj
  have hj2:j < vs0.size:=by omega
  rw [J1 hblk,Nat.zero_add,Array.getElem?_eq_getElem hj2];simp [hj2,hjN]
 have hr0:∀(k:Nat) (c:AV) (u:Value),cs[k]? =some c→(vs0.toList.take N)[k]? =some u→Rep w (excl X g ⟨[((nm,s), .c (cs++tl))], [],nx,nn⟩) g c u:=fun k c u hc hu=> by
  have hk:k < cs.length:=(List.getElem?_eq_some_iff.1 hc).1;rw [List.getElem?_take,if_pos Om] at hu;exact hrep k c u (by rw [List.getElem?_append_left hk];exact hc) (by simpa using hu)
 refine (JgR P f).mono (w0:=w) (g:=g) (R:=_) (h w _ g b _ htl hr0 hH hbl) fun e w' ⟨he,us',cs',n',os,hl1,hl2,hΦ,hr',hw⟩=> ?_
 have hb':w'.heap[b]? =some (.cells (Sort.putCells id 0 us'.toArray vs0) ety (0,0)):=by
  subst hw;rw [Sort.heap_grow_old _ _ (by simpa [Sort.putRow,Sort.mapBlock,Sort.ahead] using hbl)];show (w.heap.modify b _)[b]? =_;rw [Array.getElem?_modify,if_pos rfl,hblk];rfl
 have hoth:∀k,k < w.heap.size→k≠b→w'.heap[k]? =w.heap[k]? :=fun k hk hne=> by
  subst hw;rw [Sort.heap_grow_old _ _ (by simpa [Sort.putRow,Sort.mapBlock,Sort.ahead] using hk)];show (w.heap.modify b _)[k]? =_;rw [Array.getElem?_modify,if_neg (Ne.symm hne)]
 have hsize:w.heap.size≤w'.heap.size:=by
  subst hw;simp [Sort.grow,Sort.putRow,Sort.mapBlock,Sort.ahead]
 have hM:∀b0 o,¬excl none2 g ⟨[((nm,s), .c (cs++tl))], [],nx,nn⟩ b0 o→b0≠b:=fun b0 o hn hb0=> hn (.inr (.inl ⟨_, .head _,by rw [hb0];exact hgb⟩))
 have hev:Evo (excl none2 g ⟨[((nm,s), .c (cs++tl))], [],nx,nn⟩) w w':=by
  refine ⟨by subst hw;rfl,by subst hw;rfl,by subst hw;rfl,hsize,fun b0 hb0 hn=> hoth b0 hb0 (hM b0 0 (hn 0)),fun b0 o hb0 hn=> World.cell?_of_block (a:=⟨b0,o,none⟩) (hoth b0 hb0 (hM b0 o hn)),fun b0 us0 e0 fz h0=> ?_,fun b0 l h0=> ?_⟩
  ·by_cases hb0:b0=b
   ·subst hb0;rw [hblk] at h0;cases h0;exact ⟨_,hb',by simp [Sort.putCells]⟩
   ·exact ⟨us0,(hoth b0 (JL h0) hb0).trans h0,rfl⟩
  ·by_cases hb0:b0=b
   ·subst hb0;rw [hblk] at h0;cases h0
   ·exact ⟨l,(hoth b0 (JL h0) hb0).trans h0⟩
 have hstay:=hev.stays (X:=excl X g ⟨[((nm,s), .c (cs++tl))], [],nx,nn⟩) (X':=excl X g ⟨[((nm,s), .c (cs++tl))], [],nx,nn⟩) (g:=g) (g':=g)
  (fun b0 o _ hm=> hm.elim (fun h=> h.elim) .inr) (fun _ _ _ h=> h) (fun _ _ h=> h)
 refine ⟨.ret R,_,g,⟨_,he,hR _ _ _ _ hgb⟩,⟨rfl,cs',hΦ,rfl⟩,fun _ _ h=> h, ?_,fun b0 o hx i hi=> h2 b0 o hx i hi,hev,fun b0 o h _=> by simpa [excl] using h⟩
 have hX:excl X g ⟨[((nm,s), .c (cs'++tl))], [],nx,nn⟩=excl X g ⟨[((nm,s), .c (cs++tl))], [],nx,nn⟩:=by
  funext b0 o;exact propext (by simp [excl])
 rw [hX]
 refine ⟨fun p hp=> ?_,fun p hp=> (by cases hp),h1.nodup,h1.nx,fun b0 o hx=> ?_, ?_⟩
 ·obtain rfl:=List.mem_singleton.1 hp;refine ⟨b,hgb,Sort.putCells id 0 us'.toArray vs0,ety,hb',by rw [List.length_append] at hsz;simp [Sort.putCells,hsz,hl2,hcs],fun k c u hk hku=> ?_⟩;have hkv:k < vs0.size:=by have:=(Array.getElem?_eq_some_iff.1 hku).1;simpa [Sort.putCells] using this
  have hval:(Sort.putCells id 0 us'.toArray vs0)[k]? =some (if 0≤k∧k < 0+us'.toArray.size then id us'.toArray[k - 0]! else vs0[k]):=by simp [Sort.putCells,hkv]
  rw [hval] at hku;by_cases hkd:k < N
  ·rw [if_pos ⟨Nat.zero_le _,by rw [List.size_toArray];omega⟩] at hku;rw [List.getElem?_append_left Om] at hk;refine (hr' k c u hk ?_).stays hstay;have hkl:k < us'.length:=by omega
   simp [hkl] at hku;rw [List.getElem?_eq_getElem hkl,hku]
  ·rw [if_neg (by rw [List.size_toArray];omega)] at hku;rw [List.getElem?_append_right Om] at hk;refine (hrep k c u ?_ (by rw [Array.getElem?_eq_getElem hkv];exact hku)).stays hstay;rw [List.getElem?_append_right Om,hcs,← hl2];exact hk
 ·exact Nat.lt_of_lt_of_le (h1.bd b0 o hx) hsize
 ·exact h1.kn.stays hstay
structure KX where
 k:Nat
 a:AV
 u:Value
instance:Inhabited KX:=⟨⟨0, .any, .int .u32 0⟩⟩
def KX.enc (x:KX):List Value:= [.int .u32 x.k,if x.u.oneCell' then x.u else .int .u32 0]
def KX.cmp (x y:KX):Int:=Lib.compareInt x.k y.k
def JC (D:List (Nat×AV)):List AV:=D.flatMap fun x=> [.v (.int .u32 x.1),x.2]
theorem KX.one (x:KX):∀v∈x.enc,v.oneCell'=true:=fun v hv=> by
 unfold KX.enc at hv
 simp only [List.mem_cons,List.mem_nil_iff,or_false] at hv
 rcases hv with rfl | rfl
 ·rfl
 ·split
  ·assumption
  ·rfl
theorem KX.lt (x y:KX):Go.Proofs.ltOf KX.cmp x y=decide (x.k < y.k):=by
 unfold Go.Proofs.ltOf KX.cmp Lib.compareInt
 by_cases h1:(x.k:Int) < y.k
 ·simp [h1];omega
 ·by_cases h2:(y.k:Int) < x.k <;> simp [h1,h2] <;> omega
theorem KX.swo:Sort.SWO (Go.Proofs.ltOf KX.cmp) where
 irrefl x:=by rw [KX.lt];simp
 trans x y z h1 h2 := by rw [KX.lt] at *; simp at *; omega
 ntrans x y z h1 h2 := by rw [KX.lt] at *; simp at *; omega
theorem JcK (D:List (Nat×AV)):(JC D).length=D.length * 2:=Jez (E:=fun x:Nat×AV=> [.v (.int .u32 x.1),x.2]) (fun _=> rfl) D
theorem JgT:∀(D:List (Nat×AV)) (t:Nat) (h:t / 2 < D.length),(JC D)[t]? =some (if t % 2=0 then .v (.int .u32 D[t / 2].1) else D[t / 2].2)
 | [],t,h=> by simp at h
 | x::D,0,_=> rfl
 | x::D,1,_=> rfl
 | x::D,t+2,h=> by
   have h2:(t+2) / 2=t / 2+1:=by omega
   have ih:=JgT D t (by rw [h2] at h;simpa using h);show (JC D)[t]? =_;rw [ih,show (t+2) % 2=t % 2 by omega];simp only [h2,List.getElem_cons_succ]
theorem Jxi (d:Array KX) (t:Nat) (h:t < d.size * 2):(Sort.flatK KX.enc 2 d)[t]! =if t % 2=0 then .int .u32 d[t / 2]!.k else if d[t / 2]!.u.oneCell' then d[t / 2]!.u else .int .u32 0:=by
 rw [Sort.get_flatK _ _ _ _ h]
 unfold KX.enc
 rcases Nat.mod_two_eq_zero_or_one t with h0 | h0 <;> rw [h0] <;> rfl
theorem Jig {f:FuncId} {g:Nat} {D:List (Nat×AV)} {tl:List AV} {nm s cap nx nn:Nat} (hcb:Jc2 P f) (hone:∀x∈D,Jcj x.2=true)
 (h:∀(d:Array KX) (w:World) (blk:Nat),d.size=D.length→(∀j,j < D.length→d[j]!.k=(D.getD j (0, .any)).1)→Sort.HoldsK KX.enc 2 w blk 0 d→blk < w.heap.size→
   Calls P f #[.slice (some ⟨blk,0,none⟩) d.size cap, .func (.func g) #[] #[]] w fun e w'=> e= .returned (.tuple #[])∧∃d' n os,Sort.PermIn 0 d.size d d'∧Sort.SortedIn (Go.Proofs.ltOf KX.cmp) 0 d.size d'∧w'=Go.Proofs.sortWorldK KX.enc 2 w blk 0 n d' os):
 ECall P f [.hs (nm,s) 0 D.length cap, .fn (.func g) [] []] ⟨[((nm,s), .c (JC D++tl))], [],nx,nn⟩
  fun r h'=> r= .tup []∧∃cs',(∃D',D'.Perm D∧D'.Pairwise (fun a b=> a.1≤b.1)∧cs'=JC D')∧h'=⟨[((nm,s), .c (cs'++tl))], [],nx,nn⟩:=by
 refine JvD (N:=D.length * 2) (n:=D.length) (vs:= [.func (.func g) #[] #[]]) (R:= .tup []) (res:=fun _=> .tuple #[]) (Φ:=fun cs'=> ∃D',D'.Perm D∧D'.Pairwise (fun a b=> a.1≤b.1)∧cs'=JC D') hcb (JcK D) (fun w X g us h1 h2=> ?_) (fun w X g b hg=> .tup [] [] rfl Si) (fun w X g blk us hl hr hH hb=> ?_)
 ·match us,h1,h2 with
  | [u],_,h2=>
    have:=h2 0 _ u rfl rfl;cases this with
    | fn f c1 c2 v1 v2 hn1 hn2 _ _=>
      obtain rfl:v1= []:=List.length_eq_zero_iff.1 hn1;obtain rfl:v2= []:=List.length_eq_zero_iff.1 hn2;rfl
 ·
  let d:Array KX:=((List.range D.length).map fun j=> (⟨(D.getD j (0, .any)).1,(D.getD j (0, .any)).2,us.getD (j * 2+1) (.int .u32 0)⟩:KX)).toArray
  have hds:d.size=D.length:=by simp [d]
  have hdg:∀j,j < D.length→d[j]! =⟨(D.getD j (0, .any)).1,(D.getD j (0, .any)).2,us.getD (j * 2+1) (.int .u32 0)⟩:=fun j hj=> by
   simp [d,hj]
  have hrep:∀j,j < D.length→us.getD (j * 2) (.int .u32 0)= .int .u32 (D.getD j (0, .any)).1∧Rep w X g (D.getD j (0, .any)).2 (us.getD (j * 2+1) (.int .u32 0))∧(us.getD (j * 2+1) (.int .u32 0)).oneCell'=true:=fun j hj=> by
   have h0:=JgT D (j * 2) Om;have h1:=JgT D (j * 2+1) Om;rw [if_pos Om] at h0;rw [if_neg Om] at h1;have e0:j * 2 / 2=j:=by omega
   have e1:(j * 2+1) / 2=j:=by omega
   simp only [e0] at h0;simp only [e1] at h1;have eD:D.getD j (0, .any)=D[j]:=by simp [hj]
   have k0:us[j * 2]? =some (us.getD (j * 2) (.int .u32 0)):=by rw [List.getD_eq_getElem?_getD,List.getElem?_eq_getElem Om];rfl
   have k1:us[j * 2+1]? =some (us.getD (j * 2+1) (.int .u32 0)):=by rw [List.getD_eq_getElem?_getD,List.getElem?_eq_getElem Om];rfl
   have r0:=hr _ _ _ h0 k0;have r1:=hr _ _ _ h1 k1;rw [eD];refine ⟨?_,r1,Jgf (hone _ (List.getElem_mem hj)) r1⟩;generalize us.getD (j * 2) (.int .u32 0)=v at r0;cases r0;rfl
  have hflat:us.toArray=Sort.flatK KX.enc 2 d:=by
   refine Sort.ext_get! (by simp [hds,hl]) fun t ht=> ?_;have ht2:t < D.length * 2:=by simpa [hl] using ht
   rw [Jxi d t Om,hdg _ Om];obtain ⟨r1,r2,r3⟩:=hrep (t / 2) Om;have eu:us.toArray[t]! =us.getD t (.int .u32 0):=by simp [show t < us.length by omega]
   rw [eu];rcases Nat.mod_two_eq_zero_or_one t with h0 | h0
   ·rw [if_pos h0,show us.getD t (.int .u32 0)=us.getD (t / 2 * 2) (.int .u32 0) by rw [show t / 2 * 2=t by omega]];exact r1
   ·rw [if_neg Om,if_pos r3,show us.getD t (.int .u32 0)=us.getD (t / 2 * 2+1) (.int .u32 0) by rw [show t / 2 * 2+1=t by omega]]
  have hH2:Sort.HoldsK KX.enc 2 w blk 0 d:=by unfold Sort.HoldsK;rw [← hflat];exact hH
  have hc:=h d w blk hds (fun j hj=> by rw [hdg j hj]) hH2 hb;rw [hds] at hc;refine hc.mono fun e w' ⟨he,d',n',os,hp,hso,hw⟩=> ⟨he,(Sort.flatK KX.enc 2 d').toList,JC (d'.toList.map fun x=> (x.k,x.a)),n',os, ?_, ?_,⟨_, ?_, ?_,rfl⟩,fun t c u hcs hus=> ?_, ?_⟩
  ·have:=hp.1;simp [this,hds]
  ·have:=hp.1;rw [JcK];simp [this,hds]
  ·obtain ⟨p1,_,p3⟩:=hp;have e1:(d'.extract 0 D.length).toList=d'.toList:=by rw [← hds,← p1];simp
   have e2:(d.extract 0 D.length).toList=d.toList:=by rw [← hds];simp
   rw [e1,e2] at p3;have:=p3.map fun x:KX=> (x.k,x.a);refine this.trans (.of_eq ?_);refine List.ext_getElem (by simp [d]) fun j hj1 hj2=> ?_;simp [d,hj2]
  ·rw [List.pairwise_iff_getElem];intro i j hi hj hij;have hj':j < d'.size:=by simpa using hj
   have:=hso i j (Nat.zero_le _) hij (by rw [← hds,← hp.1];exact hj');rw [KX.lt] at this;have h2:=of_decide_eq_false this;simp only [List.getElem_map,Array.getElem_toList];rw [getElem!_pos d' i Om,getElem!_pos d' j hj'] at h2;omega
  ·have hs':d'.size=D.length:=by rw [hp.1,hds]
   have ht:t < d'.size * 2:=by have:=(List.getElem?_eq_some_iff.1 hus).1;simpa using this
   have hj:t / 2 < d'.size:=by omega
   obtain ⟨p1,_,p3⟩:=hp;have e1:(d'.extract 0 D.length).toList=d'.toList:=by rw [← hs'];simp
   have e2:(d.extract 0 D.length).toList=d.toList:=by rw [← hds];simp
   rw [e1,e2] at p3;have hm:d'[t / 2]∈d.toList:=p3.mem_iff.1 Si;obtain ⟨j,hj2,hdj⟩:=List.getElem_of_mem hm;have hjD:j < D.length:=by simpa [hds] using hj2
   obtain ⟨r1,r2,r3⟩:=hrep j hjD;have hx:d'[t / 2]=⟨(D.getD j (0, .any)).1,(D.getD j (0, .any)).2,us.getD (j * 2+1) (.int .u32 0)⟩:=by
    rw [← hdj,← hdg j hjD];simp [show j < d.size by omega]
   rw [JgT _ _ (by simpa using hj)] at hcs;have hu:u=(Sort.flatK KX.enc 2 d')[t]! :=by
    have:=(List.getElem?_eq_some_iff.1 hus).2;rw [← this];simp [ht]
   rw [Jxi d' t ht,getElem!_pos d' _ hj,hx] at hu;simp only [List.getElem_map,Array.getElem_toList,hx] at hcs;dsimp only at hcs hu;rcases Nat.mod_two_eq_zero_or_one t with h0 | h0
   ·rw [if_pos h0] at hcs hu;cases hcs;subst hu;exact .v _
   ·rw [if_neg Om] at hcs hu;rw [if_pos r3] at hu;cases hcs;subst hu;exact r2
  ·rw [hw];unfold Go.Proofs.sortWorldK Sort.putRowK;simp
theorem Jlm {ops:Array Oper} {B:List (Id×Own)} {o:Oper} {E:Env} {s x:Operand} {t e:TypeId} {n szx m cap:Nat} {f':Nat→AV} {i:Id} {cs:List AV} (hg:o.guard=none)
 (ho:o.op= .call { callee:= .builtin .append,args:= #[s,x],argTypes:= #[t,t]}) (hs:E.ev s= .hs i 0 n cap)
 (hx:E.ev x= .sl szx m f'∨∃oj,E.ev x= .os szx m f' oj)
 (ht:P.underlying t=some (.slice e)) (hgr:JbK P e=true) (hszx:szx=P.cellsOf e) (hm:m≠0)
 (hcs:JbM i.1 E.h.bx=some (i.2,cs)) (hcap:n≤cap) (hcl:cap * P.cellsOf e≤cs.length) (hone:JcP m f')
 (hroom:(n+m) * P.bytesOf e≤140737488355328) (hlen:n+m≤9223372036854775807)
 (hB1:HB B (Jeg i.1 (Jab cs (n * P.cellsOf e) (JD m f')) E.h.bx)) (hB2:∀l,HB B (E.h.add l).bx):
 Eff P ops B o E fun r h'=> (n+m≤cap∧r= .hs i 0 (n+m) cap∧h'= { E.h with bx:=Jeg i.1 (Jab cs (n * P.cellsOf e) (JD m f')) E.h.bx})∨
  (∃ncap,n+m≤ncap∧r= .hs (E.h.nn,E.h.nx) 0 (n+m) ncap∧h'=E.h.add (cs.take (n * P.cellsOf e)++JD m f'++List.replicate ((ncap - (n+m)) * P.cellsOf e) .any)):=by
 refine ⟨hg,fun E' hh htt=> ?_⟩
 have hev:=Jcm htt
 have es:E'.ev s=E.ev s:=hev s (by rw [ho];simp [Op.operands,Call.operands])
 have ex:E'.ev x=E.ev x:=hev x (by rw [ho];simp [Op.operands,Call.operands])
 refine Jgh ho (es.trans hs) (by rw [ex];exact hx) ht hgr (.inr hszx) (by rw [hh];exact hcs) hcap hcl hone (fun _=> hroom) (fun _=> hlen) (fun h=> absurd h hm) (fun _ hfit=> ?_) (fun _ _ ncap hge=> ?_)
 ·exact ⟨_,_, .inl ⟨hfit,rfl,by rw [hh]⟩,by rw [hh];exact hB1,rfl⟩
 ·exact ⟨_,_, .inr ⟨ncap,hge,by rw [hh],by rw [hh]⟩,by rw [hh];exact hB2 _,rfl⟩
theorem Jj6 {ops:Array Oper} {B:List (Id×Own)} {o:Oper} {E:Env} {s x:Operand} {t e:TypeId} {sz szx m:Nat} {f f':Nat→AV} (hg:o.guard=none)
 (ho:o.op= .call { callee:= .builtin .append,args:= #[s,x],argTypes:= #[t,t]}) (hs:E.ev s= .os sz 0 f none)
 (hx:E.ev x= .sl szx m f'∨∃oj,E.ev x= .os szx m f' oj)
 (ht:P.underlying t=some (.slice e)) (hgr:JbK P e=true) (hszx:szx=P.cellsOf e) (hm:m≠0) (hone:JcP m f')
 (hroom:m * P.bytesOf e≤140737488355328) (hlen:m≤9223372036854775807) (hB2:∀l,HB B (E.h.add l).bx):
 Eff P ops B o E fun r h'=> ∃ncap,m≤ncap∧r= .hs (E.h.nn,E.h.nx) 0 m ncap∧h'=E.h.add (JD m f'++List.replicate ((ncap - m) * P.cellsOf e) .any):=by
 refine ⟨hg,fun E' hh htt=> ?_⟩
 have hev:=Jcm htt
 have es:E'.ev s=E.ev s:=hev s (by rw [ho];simp [Op.operands,Call.operands])
 have ex:E'.ev x=E.ev x:=hev x (by rw [ho];simp [Op.operands,Call.operands])
 refine JfF ho (es.trans hs) (by rw [ex];exact hx) ht hgr hszx hm hone hroom hlen (fun ncap hge=> ?_)
 exact ⟨_,_,⟨ncap,hge,by rw [hh],by rw [hh]⟩,by rw [hh];exact hB2 _,rfl⟩
theorem JmM {w:World} {t e:TypeId} {n:Nat} {d:TypeDesc} (ht:P.underlying t=some (.array n e)) (hd:P.underlying e=some d) (h1:P.cellsOf e=1) (b off h:Nat) (hh:h≤n) (hn:0 < n) (k':IntKind):
 (Instr.sliceAt t (.pointer (some ⟨b,off,none⟩)) none (some (.int k' h)) none).run P w= .ok (.slice (some ⟨b,off,none⟩) h n) w:=by
 have e1:¬n=0:=by omega
 simp [Instr.sliceAt,run_underlying ht,Instr.sureAddr,Instr.sliceBounds,Instr.sliceBound,asIntOf,hh,e1,JT hd,h1,JaG]
theorem JoV {o:Oper} {E:Env} {K:Env→Prop} {Kp:AV→Env→Prop} {t e:TypeId} {x hi:Operand} {n h:Nat} {k':IntKind} {d:TypeDesc} {i:Id} {off:Nat} (ho:o.op= .slice t x none (some hi) none) (hx:E.ev x= .bp i off)
 (hhi:E.ev hi= .v (.int k' h)) (ht:P.underlying t=some (.array n e)) (hd:P.underlying e=some d) (h1:P.cellsOf e=1) (hh:h≤n) (hn:0 < n) (hk:K (E.set o.dst (.hs i off h n))):AOp P o E K Kp:=by
 refine AOp.of_yields ⟨(by rw [ho];intro c hc;cases hc),fun ρ w X g _ hr=> .inl ?_⟩ hk
 have r1:=hr x (by rw [ho];simp [Op.operands])
 have r3:=hr hi (by rw [ho];simp [Op.operands])
 rw [hx] at r1;rw [hhi] at r3
 have e3:=JY r3
 generalize hu:ρ x=u at r1
 cases r1 with
 | bp _ _ b hg=>
   refine ⟨.slice (some ⟨b,off,none⟩) h n,w, ?_,Evo.refl _ _, .hs _ _ _ _ b hg⟩;unfold execOp;simp only [ho,hu,Option.map_some,Option.map_none,e3];exact JdU (JmM ht hd h1 b off h hh hn k')
theorem Jxj {o:Oper} {E:Env} {K:Env→Prop} {Kp:AV→Env→Prop} {s d e:TypeId} {x:Operand} {i:Id} {off cap:Nat} {cs:List AV} {l:List UInt8} (ho:o.op= .convert s d x) (hx:E.ev x= .hs i off l.length cap)
 (hcs:JbM i.1 E.h.bx=some (i.2,cs)) (hl:∀j (hj:j < l.length),cs[off+j]? =some (.v (.int .u8 (l[j].toNat:Int)))) (hs:P.underlying s=some (.slice e)) (he:P.underlying e=some (.int .u8)) (hd:P.underlying d=some .string)
 (hk:K (E.set o.dst (.v (.string ⟨l.toArray⟩)))):AOp P o E K Kp:=by
 refine AOp.of_yields ⟨(by rw [ho];intro c hc;cases hc),fun ρ w X g hok hr=> .inl ?_⟩ hk
 have r1:=hr x (by rw [ho];simp [Op.operands])
 rw [hx] at r1
 obtain ⟨b,hg,vs,e',hb,hvs,hrp⟩:=hok.bx _ (Jhf hcs)
 dsimp only at hg hvs hrp
 generalize hu:ρ x=u at r1
 cases r1 with
 | hs _ _ _ _ b' hg'=>
   rw [hg] at hg';cases hg';refine ⟨.string ⟨l.toArray⟩,w, ?_,Evo.refl _ _, .v _⟩;unfold execOp;simp only [ho,hu];refine JdU (run_convert_bytes_back w s d e ⟨b,off,none⟩ cap l hs he hd fun j hj=> ?_);have hc:=hl j hj;have hlt:off+j < vs.size:=by rw [hvs];exact (List.getElem?_eq_some_iff.1 hc).1
   have:=hrp (off+j) _ vs[off+j] hc (Array.getElem?_eq_getElem hlt);generalize hv:vs[off+j]=v at this;cases this;rw [show (⟨b,off,none⟩:Addr).add j=⟨b,off+j,none⟩ from JaG _ _ _,J1 hb,Array.getElem?_eq_getElem hlt,hv]
theorem JvE {f:FuncId} {xs vs:List Value} {u:Value} (hcb:Jc2 P f)
 (h0:xs.length=0→∀(a:Option Addr) (cap:Nat) w,Kn w none2→Calls P f (Value.slice a 0 cap::vs).toArray w fun e w'=> e= .returned u∧Below w.heap.size w w')
 (h1:∀(b off cap:Nat) w,Kn w none2→(∀(j:Nat) x,xs[j]? =some x→w.cell? ⟨b,off+j,none⟩=some x)→b < w.heap.size→xs.length≤cap→0 < xs.length→Calls P f (Value.slice (some ⟨b,off,none⟩) xs.length cap::vs).toArray w fun e w'=> e= .returned u∧Below w.heap.size w w'):
 Tells P f (.sl 1 xs.length (fun k=> .v (xs.getD k undef))::vs.map .v) (.v u):=fun nx=> by
 refine ⟨hcb,fun X w g us k1 k2 k3 k4=> ?_⟩
 match us,k3,k4 with
 | a::us,k3,k4=>
 have ha:=k4 0 _ a rfl rfl
 obtain rfl:us=vs:=JnW (by simpa using k3) fun k c v hc hv=> k4 (k+1) c v (by simpa using hc) (by simpa using hv)
 have hk:=k1.kn.none
 have key:Calls P f (a::us).toArray w fun e w'=> e= .returned u∧Below w.heap.size w w':=by
  generalize hxs:(fun k=> AV.v (xs.getD k undef))=F at ha;generalize hn:xs.length=n at ha;cases ha with
  | sl0 _ _ a0 cap=> exact h0 hn a0 cap w hk
  | sl _ _ _ b off cap ws hlen hcap hcell hc hrep=>
    rcases Nat.eq_zero_or_pos n with hz | hz
    ·subst hz;exact h0 hn _ cap w hk
    ·subst hn;have hat:∀(j:Nat) x,xs[j]? =some x→w.cell? ⟨b,off+j,none⟩=some x:=fun j x hx=> by
      have hj:=(List.getElem?_eq_some_iff.1 hx).1;have hw:j < ws.length:=(by omega);have hr:=hrep j 0 (.v (xs.getD j undef)) ws[j] hj (by rw [← hxs];rfl) (by rw [Nat.mul_one,Nat.add_zero];exact List.getElem?_eq_getElem hw);have e:ws[j]=xs.getD j undef:=(by generalize ws[j]=q at hr;cases hr;rfl);rw [(hcell j _ (List.getElem?_eq_getElem hw)).1,e,List.getD_eq_getElem?_getD,hx];rfl
     have hb:b < w.heap.size:=World.block_lt_of_cell? w _ (hat 0 xs[0] (List.getElem?_eq_getElem hz));exact h1 b off cap w hk hat hb hcap hz
 refine (JgR P f).mono (w0:=w) (g:=g) (R:=_) key fun e w' ⟨he,hb⟩=> ?_
 have hev:=Evo.of_below hb
 exact ⟨.ret (.v u),⟨[], [],nx,0⟩,g,⟨u,he, .v _⟩,⟨Rf,rfl,rfl⟩,fun _ _ h=> h,k1.evo0 hev,fun b o hx i hi=> (by cases hi),hev.mono fun b o _ h=> h.elim,fun b o h _=> h⟩
inductive MT where
 | nil
 | br (e:Nat) (ps:List Nat) (t:MT) (o:MT)
def MT.path:MT→List Nat
 | nil=> []
 | br e ps t _=> e::(ps++t.path)
def MT.heads:MT→List Nat
 | nil=> []
 | br e _ _ o=> e::o.heads
def MT.ob (P:Program) (ops:Array Oper) (B:List (Id×Own)) (eff:Nat→Bool):MT→Bool→Env→(Env→Prop)→Prop
 | nil,true,E,K=> K E
 | nil,false,_,_=> True
 | br e ps t o,_,E,K=> (MixL P ops B eff [e] E fun E'=> MixL P ops B eff ps E' fun E'=> t.ob P ops B eff true E' K)∧o.ob P ops B eff false E K
def MT.obN (P:Program) (ops:Array Oper) (B:List (Id×Own)) (eff tl:Nat→Bool):MT→Bool→Env→(Env→Prop)→Prop
 | nil,true,E,K=> K E
 | nil,false,_,_=> True
 | br e ps t o,_,E,K=> (aN P ops B eff tl (e::ps) E fun E'=> t.obN P ops B eff tl true E' K)∧o.obN P ops B eff tl false E K
theorem MixL.split {ops:Array Oper} {B:List (Id×Own)} {eff:Nat→Bool} {K:Env→Prop} {e:Nat} {L:List Nat} {E:Env} (h:MixL P ops B eff (e::L) E K):MixL P ops B eff [e] E fun E'=> MixL P ops B eff L E' K:=by
 obtain ⟨o,h1,h2⟩:=h
 refine ⟨o,h1, ?_⟩
 cases he:eff e with
 | true=> simp only [he] at h2⊢;obtain ⟨R,q1,q2⟩:=h2;exact ⟨R,q1,fun r h' hr=> q2 r h' hr⟩
 | false=> simp only [he] at h2⊢;obtain ⟨r,q1,q2⟩:=h2;exact ⟨r,q1,q2⟩
theorem MT.ob_use {ops:Array Oper} {B:List (Id×Own)} {eff tl:Nat→Bool} {K:Env→Prop}:∀(t:MT) (b:Bool) (E:Env),t.obN P ops B eff tl b E K→t.ob P ops B eff b E K
 | nil,true,_,h=> h
 | nil,false,_,_=> trivial
 | br e ps t o,_,E,h=> ⟨(MixL.mono (fun _ q=> MixL.mono (fun _ q=> MT.ob_use t true _ q) q) (JfD h.1).split),MT.ob_use o false E h.2⟩
def Jqu (a S:List Nat):Bool:=Nat.beq a.length S.length&& (a.all fun i=> S.contains i)&& S.all fun i=> a.contains i
def MT.comp (eff:Nat→Bool) (bf:Array Nat) (t:MT):Bool:=t.path.all fun x=> (eff x&& t.heads.contains x)|| t.path.any fun y=> (bf.getD x 0).testBit y
def Jn0 (ops:Array Oper) (eff:Nat→Bool) (bf:Array Nat):List Nat→Bool
 | []=> true
 | i::l=> (l.all fun j=> match ops[i]?,ops[j]? with
   | some oi,some oj=> (!Nat.beq i j)&& ((oi.after.toList.all fun e=> !Region.binds .any e|| !Nat.beq e.on j)&& (eff i|| ((bf.getD j 0).testBit i|| oi.apart ops oj)))
   | _,_=> false)&& ((match ops[i]? with | some oi=> oi.after.toList.all fun e=> !Region.binds .any e|| !Nat.beq e.on i | none=> false)&& Jn0 ops eff bf l)
def JkT (ops:Array Oper) (eff:Nat→Bool) (i j:Nat):Prop:=
 i≠j∧∀oi oj,ops[i]? =some oi→ops[j]? =some oj→(∀e∈oi.after,Region.binds .any e=true→e.on≠j)∧(eff i=true∨((Region.before ops).getD j 0).testBit i=true∨oi.apart ops oj=true)
theorem Jn1 {ops:Array Oper} {eff:Nat→Bool}:∀ {L:List Nat},Jn0 ops eff (Region.before ops) L=true→
 L.Pairwise (JkT ops eff)∧∀i∈L,∀oi,ops[i]? =some oi→∀e∈oi.after,Region.binds .any e=true→e.on≠i
 | [],_=> ⟨.nil,by simp⟩
 | i::l,h=> by
   simp only [Jn0,Bool.and_eq_true] at h;obtain ⟨h1,h2,h3⟩:=h;obtain ⟨q1,q2⟩:=Jn1 h3;refine ⟨List.pairwise_cons.2 ⟨fun j hj=> ?_,q1⟩,fun k hk=> ?_⟩
   ·have:=List.all_eq_true.1 h1 j hj;split at this
    ·rename_i oi oj hi hj'
     simp only [Bool.and_eq_true,Bool.or_eq_true,List.all_eq_true] at this;obtain ⟨p1,p2,p3⟩:=this;refine ⟨JfC p1,fun oi' oj' hi2 hj2=> ?_⟩;rw [hi] at hi2;rw [hj'] at hj2;cases hi2;cases hj2;refine ⟨fun e he hb=> ?_,p3⟩;rcases p2 e (Array.mem_toList_iff.2 he) with h | h
     ·simp [hb] at h
     ·exact JfC h
    ·cases this
   ·rcases List.mem_cons.1 hk with rfl | hk
    ·intro oi hi e he hb;rw [hi] at h2;have:=List.all_eq_true.1 h2 e (Array.mem_toList_iff.2 he);simp only [hb,Bool.not_true,Bool.false_or] at this;exact JfC this
    ·exact q2 k hk
theorem Jrj {ops:Array Oper} {eff:Nat→Bool} {L:List Nat} (hpe:∀i∈L,eff i=false) (h:L.Pairwise (JkT ops eff)):L.Pairwise (Jqs ops eff):=
 h.imp_of_mem fun {a b} ha _ hp=> ⟨hp.1,fun oi oj hi hj=> ⟨(hp.2 oi oj hi hj).1,by
  rcases (hp.2 oi oj hi hj).2 with h | h | h
  ·rw [hpe a ha] at h;cases h
  ·exact .inl h
  ·exact .inr ⟨hpe a ha,h⟩⟩⟩
def MT.ck (ops:Array Oper) (eff:Nat→Bool) (bf:Array Nat):MT→List Nat→List Nat→Bool
 | nil,_,_=> true
 | br e ps t o,acc,S=> eff e&& ((ps.all fun i=> !eff i)&& (Jn0 ops eff bf (acc++e::(ps++t.path))&& (Jqu (e::(ps++t.path)) S&& (t.comp eff bf&& (t.ck ops eff bf (acc++ps) t.path&& o.ck ops eff bf acc S)))))
theorem Jxk {a S:List Nat} (h:Jqu a S=true):a.length=S.length∧∀i,i∈a↔i∈S:=by
 unfold Jqu at h
 simp only [Bool.and_eq_true,List.all_eq_true,List.contains_iff_mem] at h
 exact ⟨Nat.eq_of_beq_eq_true h.1.1,fun i=> ⟨h.1.2 i,h.2 i⟩⟩
theorem MT.alt {ops:Array Oper} {B:List (Id×Own)} {eff:Nat→Bool} {K:Env→Prop} {j:Nat} {acc S:List Nat}:∀(t:MT),j∈t.heads→t.ck ops eff (Region.before ops) acc S=true→
 ∃(ps:List Nat) (t':MT),eff j=true∧(∀i∈ps,eff i=false)∧Jn0 ops eff (Region.before ops) (acc++j::(ps++t'.path))=true∧Jqu (j::(ps++t'.path)) S=true∧t'.comp eff (Region.before ops)=true∧t'.ck ops eff (Region.before ops) (acc++ps) t'.path=true∧
  ∀b E,t.ob P ops B eff b E K→MixL P ops B eff [j] E fun E'=> MixL P ops B eff ps E' fun E'=> t'.ob P ops B eff true E' K
 | nil,h,_=> by cases h
 | br e ps t o,h,hc=> by
   simp only [MT.ck,Bool.and_eq_true] at hc;obtain ⟨c1,c2,c3,c4,c5,c6,c7⟩:=hc;by_cases hj:j=e
   ·subst hj;exact ⟨ps,t,c1,fun i hi=> by simpa using List.all_eq_true.1 c2 i hi,c3,c4,c5,c6,fun b E h=> by cases b <;> exact h.1⟩
   ·rcases List.mem_cons.1 h with h | h
    ·exact absurd h hj
    ·obtain ⟨ps',t',d1,d2,d3,d4,d5,d6,d7⟩:=MT.alt o h c7;exact ⟨ps',t',d1,d2,d3,d4,d5,d6,fun b E h=> d7 false E (by cases b <;> exact h.2)⟩
theorem JzT {ops:Array Oper} {m:Nat} {B:List (Id×Own)} {eff:Nat→Bool} {Q:Exit→Act→World→Prop} (hk:OrdOk ops m) (hm:m≤ops.size)
 {ro:Option Nat} {X M:Nat→Nat→Prop} {w0:World} {g0:List Nat} {K:Env→Prop}
 (hq:∀E a w g,K E→(∀(i b:Nat),g0[i]? =some b→g[i]? =some b)→St ro X M w0 E a w g→wpOpsIn (Fr ro) 0 P ops Q (List.range' m (ops.size - m)) a w):
 ∀(n:Nat) (pre acc:List Nat) (t:MT) (listed:Array Bool) (E:Env) (a:Act) (w:World) (g:List Nat),pre.length+t.path.length=n→pre.Sublist acc→(∀i∈pre,eff i=false)→(pre++t.path).Pairwise (JkT ops eff)→(∀i∈pre++t.path,i < m)→
  (∀i∈pre++t.path,∀oi,ops[i]? =some oi→∀e∈oi.after,Region.binds .any e=true→e.on≠i)→t.comp eff (Region.before ops)=true→t.ck ops eff (Region.before ops) acc t.path=true→listed.size=ops.size→DC ops listed→
 (∀i,i < ops.size→(listed.getD i true=false↔i∈pre++t.path∨m≤i))→
 MixL P ops B eff pre E (fun E'=> t.ob P ops B eff true E' K)→HB B E.h.bx→(∀(i b:Nat),g0[i]? =some b→g[i]? =some b)→St ro X M w0 E a w g→wpAnyIn (Fr ro) 0 P .any ops Q (n+(ops.size - m)) listed a w:=by
 intro n
 induction n with
 | zero=>
   intro pre acc t listed E a w g hl _ hpe hpw hlt hself _ _ hsz hd hun hrun hB hg hs;cases t with
   | nil=> exact JnU hk hm hq 0 pre listed E a w g (by simpa [MT.path] using hl) (Jrj hpe (by simpa [MT.path] using hpw)) (by simpa [MT.path] using hlt) (by simpa [MT.path] using hself) hsz hd (by simpa [MT.path] using hun) hrun hB hg hs
   | br e ps t o=> simp [MT.path] at hl
 | succ n ih=>
   intro pre acc t listed E a w g hl hac hpe hpw hlt hself hcomp hck hsz hd hun hrun hB hg hs;cases t with
   | nil=> exact JnU hk hm hq (n+1) pre listed E a w g (by simpa [MT.path] using hl) (Jrj hpe (by simpa [MT.path] using hpw)) (by simpa [MT.path] using hlt) (by simpa [MT.path] using hself) hsz hd (by simpa [MT.path] using hun) hrun hB hg hs
   | br e0 ps0 t0 o0=>
   generalize hT : MT.br e0 ps0 t0 o0 = T at *
   rw [Nat.add_right_comm];obtain ⟨k,L',hkL⟩:∃k L',pre++T.path=k::L':=by
    subst hT;cases pre with
    | nil=> exact ⟨_,_,rfl⟩
    | cons k l=> exact ⟨_,_,rfl⟩
   have hkmem:k∈pre++T.path:=by rw [hkL];simp
   have hkm:k < m:=hlt k hkmem;have hklt:k < ops.size:=by omega
   have hko:ops[k]? =some ops[k]:=Array.getElem?_eq_getElem hklt;have hpk:=hpw;rw [hkL] at hpk;have hkr:k∈Region.ready .any ops listed:=by
    refine JaY.2 ⟨(hun k hklt).2 (.inl hkmem),_,hko,fun e he hb=> ?_⟩;have hb':=hk.back k _ hko e he hb;rw [Ja0 Om];cases hl:listed.getD e.on true with
    | true=> simpa using hl
    | false=>
      rcases (hun e.on Om).1 hl with h' | h'
      ·rw [hkL] at h';rcases List.mem_cons.1 h' with h' | h'
       ·exact absurd h' (hself k hkmem _ hko e he hb)
       · exact absurd rfl (((List.pairwise_cons.1 hpk).1 _ h').2 _ _ hko (Array.getElem?_eq_getElem Om) |>.1 e he hb)
      ·omega
   refine ⟨fun h0=> (by rw [h0] at hkr;cases hkr),fun j hj=> ?_⟩;obtain ⟨h1,oj,hoj,h2⟩:=JaY.1 hj;have hjlt:=(Array.getElem?_eq_some_iff.1 hoj).1;have hjL:j∈pre++T.path:=by
    rcases (hun j hjlt).1 h1 with h' | h'
    ·exact h'
    ·have hb:=hk.tail k j oj hoj h' Om;have:=Jb2 hd hsz hoj h2 hb;have h3:=(hun k Om).2 (.inl hkmem);rw [Ja0 Om] at this;simp [h3] at this
   have hnb:∀i,i∈pre++T.path→((Region.before ops).getD j 0).testBit i=true→False:=fun i hi hb=> by
    have hilt:i < ops.size:=(by have:=hlt i hi;omega);have:=Jb2 hd hsz hoj h2 hb;have h3:=(hun i hilt).2 (.inl hi);rw [Ja0 Om] at this;simp [h3] at this
   have Jeg:∀(L2:List Nat),(∀i,i≠j→(i∈pre++T.path↔i∈L2))→j∉L2→j < m→∀i,i < ops.size→((listed.setIfInBounds j true).getD i true=false↔i∈L2∨m≤i):=fun L2 hL hj2 hjm i hi=> by
    rw [JeL Om];by_cases hij:i=j
    ·subst hij;simp only [if_true]
     constructor
     ·intro h;cases h
     ·intro h;exfalso
      rcases h with h | h
      ·exact hj2 h
      ·omega
    ·rw [if_neg hij,hun i hi,hL i hij]
   have hjm:=hlt j hjL;rcases List.mem_append.1 hjL with hjp | hjp
   ·obtain ⟨l1,l2,rfl⟩:=List.append_of_mem hjp;have hej:=hpe j hjp;have hpw':(l1++j::(l2++T.path)).Pairwise (JkT ops eff):=(by simpa using hpw);have hl1:∀i∈l1,JkT ops eff i j:=fun i hi=> (List.pairwise_append.1 hpw').2.2 i hi j Si;obtain ⟨o,ho,hrun'⟩:=MixL.front hoj l1 l2 E (fun i hi=> by
     have hilt:i < ops.size:=(by have:=hlt i (by simp [hi]);omega);have hb:=hpe i (by simp [hi]);rcases ((hl1 i hi).2 _ _ (Array.getElem?_eq_getElem hilt) hoj).2 with hb' | hb' | hb'
     ·rw [hb] at hb';cases hb'
     ·exact (hnb i (by simp [hi]) hb').elim
     ·exact ⟨hb,fun oi hoi=> by rw [Array.getElem?_eq_getElem hilt] at hoi;cases hoi;exact hb'⟩) hrun
    rw [hoj] at ho;cases ho;simp only [hej] at hrun';obtain ⟨r,q1,q2⟩:=hrun';have hsub:(l1++l2++T.path).Sublist (l1++j::l2++T.path):=(by simp [List.Sublist.append_left]);have hnj:j∉l1++l2++T.path:=fun h=> by
     have h5:=List.pairwise_append.1 hpw';rw [List.append_assoc] at h;rcases List.mem_append.1 h with h | h
     ·exact (h5.2.2 j h j Si).1 rfl
     ·exact ((List.pairwise_cons.1 h5.2.1).1 j h).1 rfl
    refine (q1 E hB fun _ _=> rfl).does hoj hs fun a' w' hs'=> ih (l1++l2) acc T _ _ a' w' g (by simp at hl⊢;omega) ((by simp [List.Sublist.append_left]:(l1++l2).Sublist (l1++j::l2)).trans hac) (fun i hi=> hpe i (by rcases List.mem_append.1 hi with h | h <;> simp [h])) (hpw.sublist hsub) (fun i hi=> hlt i (hsub.subset hi)) (fun i hi=> hself i (hsub.subset hi)) hcomp hck (by simp [hsz]) (hd.set hsz hk hj) (Jeg _ (fun i hij=> by simp [hij]) hnj hjm) q2 (by rw [Env.set_h];exact hB) hg hs'
   ·have hcj:=List.all_eq_true.1 hcomp j hjp;simp only [Bool.or_eq_true,Bool.and_eq_true,List.any_eq_true] at hcj;rcases hcj with ⟨_,hcj⟩ | ⟨y,hy,hby⟩
    rotate_left
    ·exact (hnb y (by simp [hy]) hby).elim
    obtain ⟨ps,t',d1,d2,d3,d4,d5,d6,d7⟩:=MT.alt (P:=P) (B:=B) (K:=K) T (List.contains_iff_mem.1 hcj) hck;obtain ⟨e1,e2⟩:=Jn1 d3;obtain ⟨s1,s2⟩:=Jxk d4;have hfull:(pre++j::(ps++t'.path)).Pairwise (JkT ops eff):=e1.sublist (hac.append Sf);have h5:=List.pairwise_append.1 hfull;have hmem:∀i,i∈pre++T.path↔i=j∨i∈(pre++ps)++t'.path:=fun i=> by
     rw [List.mem_append,← s2];simp only [List.mem_cons,List.mem_append]
     constructor
     ·rintro (h | h | h | h)
      ·exact .inr (.inl (.inl h))
      ·exact .inl h
      ·exact .inr (.inl (.inr h))
      ·exact .inr (.inr h)
     ·rintro (h | (h | h) | h)
      ·exact .inr (.inl h)
      ·exact .inl h
      ·exact .inr (.inr (.inl h))
      ·exact .inr (.inr (.inr h))
    have hnew:((pre++ps)++t'.path).Sublist (pre++j::(ps++t'.path)):=by
     rw [List.append_assoc];exact List.Sublist.append Sf (List.sublist_cons_self _ _)
    have hnj:j∉(pre++ps)++t'.path:=fun h=> by
     rw [List.append_assoc] at h;rcases List.mem_append.1 h with h | h
     ·exact (h5.2.2 j h j Si).1 rfl
     ·exact ((List.pairwise_cons.1 h5.2.1).1 j h).1 rfl
    have h6:MixL P ops B eff (j::(pre++ [])) E (fun E'=> MixL P ops B eff ps E' fun E'=> t'.ob P ops B eff true E' K):=MixL.front hoj pre [] E (fun i hi=> by
     have hilt:i < ops.size:=(by have:=hlt i (by simp [hi]);omega);have hb:=hpe i hi;rcases ((h5.2.2 i hi j Si).2 _ _ (Array.getElem?_eq_getElem hilt) hoj).2 with hb' | hb' | hb'
     ·rw [hb] at hb';cases hb'
     ·exact (hnb i (by simp [hi]) hb').elim
     ·exact ⟨hb,fun oi hoi=> by rw [Array.getElem?_eq_getElem hilt] at hoi;cases hoi;exact hb'⟩) (MixL.app (MixL.mono (fun E' h=> d7 true E' h) hrun))
    rw [List.append_nil] at h6;obtain ⟨o,ho,hrun'⟩:=h6;rw [hoj] at ho;cases ho;simp only [d1] at hrun';obtain ⟨R,⟨q0,q1⟩,q2⟩:=hrun';unfold wpOpIn;simp only [hoj,Region.wanted,q0,if_true];refine q1 E rfl (fun _ _=> rfl) ro X M w0 a w g hs _ _ (fun E' a' w' g' hE hgg hs'=> ?_) (fun x E' a' w' g' v hk'=> hk'.elim);obtain ⟨r,h',p1,p2,rfl⟩:=hE;refine ih (pre++ps) (acc++ps) t' _ _ a' w' g' ?_ (hac.append Sf) (fun i hi=> ?_) (hfull.sublist hnew) (fun i hi=> hlt i ((hmem i).2 (.inr hi))) (fun i hi=> hself i ((hmem i).2 (.inr hi))) d5 d6 (by simp [hsz]) (hd.set hsz hk hj) (Jeg _ (fun i hij=> by rw [hmem];simp [hij]) hnj hjm) (MixL.app (q2 r h' p1)) (by rw [Env.set_h];exact p2) (fun i b hi=> hgg i b (hg i b hi)) hs'
    ·simp only [List.length_cons,List.length_append] at s1 hl⊢;omega
    ·rcases List.mem_append.1 hi with h | h
     ·exact hpe i h
     ·exact d2 i h
def JDn (ops:Array Oper) (m:Nat) (eff:Nat→Bool) (pre:List Nat) (t:MT):Bool:=
 let bf:=Region.before ops
 Nat.ble m ops.size&& (Jc5 ops m&& ((pre++t.path).all (fun i=> Nat.blt i m)&& ((List.range m).all (fun i=> (pre++t.path).contains i)&& (Jn0 ops eff bf (pre++t.path)&& (pre.all (fun i=> !eff i)&& (t.comp eff bf&& t.ck ops eff bf pre t.path))))))
theorem JBM {id:Nat} {ops:Array Oper} {E:Env} {Q:AExit→Env→Prop} (m:Nat) (B:List (Id×Own)) (eff tl:Nat→Bool) (pre:List Nat) (t:MT) (hf:P.follows .mixedOrders=true) (hb:JDn ops m eff pre t=true) (hB:HB B E.h.bx)
 (h:aN P ops B eff tl pre E fun E'=> t.obN P ops B eff tl true E' fun E'=> aK P ops (ops.toList.drop m) E' (Q .normal) (fun x E=> Q (.panic x) E)):AW P (.region id ops true) E Q:=by
 simp only [JDn,Bool.and_eq_true,List.all_eq_true] at hb
 obtain ⟨h0,h00,h1,h2,h3,h4,h5,h6⟩:=hb
 have hm:=Jes h0
 obtain ⟨g4,g5⟩:=Jn1 h3
 have hlt:∀i∈pre++t.path,i < m:=fun i hi=> Jc1 (h1 i hi)
 have hall:∀i,i < m→i∈pre++t.path:=fun i hi=> by simpa using h2 i (List.mem_range.2 hi)
 have hnd:(pre++t.path).Nodup:=g4.imp fun h=> h.1
 have hlen:pre.length+t.path.length=m:=by
  have p:(pre++t.path).Perm (List.range m):=(List.perm_ext_iff_of_nodup hnd List.nodup_range).2 fun i=> ⟨fun hi=> List.mem_range.2 (hlt i hi),fun hi=> hall i (List.mem_range.1 hi)⟩;simpa using p.length_eq
 unfold AW
 intro ro X M w0 a w g g0 hg hs
 refine wpIn_region_any hf ?_
 have hs':St ro X M w0 E a { w with drawn:=w.drawn+1} g:=hs.drew
 have key:=JzT (eff:=eff) (g0:=g0) (K:=fun E'=> aK P ops (ops.toList.drop m) E' (Q .normal) (fun x E=> Q (.panic x) E)) (Q:=Jfh ro X M w0 g0 Q) (P:=P) (X:=X) (M:=M) (w0:=w0) (ro:=ro) (B:=B) (Jqo h00) hm (fun E' a' w' g' hk hg' hs''=> by
  have:=JdZ (P:=P) (ops:=ops) (K:=Q .normal) (X:=X) (M:=M) (w0:=w0) (g0:=g0) (Kp:=fun x E=> Q (.panic x) E) (ro:=ro) (Q:=Jfh ro X M w0 g0 Q) (fun E a w g hk hg hs=> ⟨.normal,E,g,hk,rfl,hg,hs⟩) (fun x E a w g v hk hg hs hr=> ⟨.panic x,E,g,hk,⟨v,rfl,hr⟩,hg,hs⟩) (ops.toList.drop m) m E' a' w' g' (fun j=> .inl Si) hg' hs'' hk;simpa using this) m pre pre t (Array.replicate ops.size false) E a _ g hlen Sf (fun i hi=> by simpa using h4 i hi) g4 hlt g5 h5 h6 Si (fun k o ho hl=> by
  have hk:=(Array.getElem?_eq_some_iff.1 ho).1;simp [Array.getD_eq_getD_getElem?,hk] at hl) (fun i hi=> by
  have:(Array.replicate ops.size false).getD i true=false:=by simp [Array.getD_eq_getD_getElem?,hi]
  simp only [this,true_iff];rcases Nat.lt_or_ge i m with h | h
  ·exact .inl (hall i h)
  ·exact .inr h) (MixL.mono (fun _ q=> MT.ob_use t true _ q) (JfD h)) hB hg hs'
 have e:m+(ops.size - m)=ops.size:=by omega
 rw [e] at key
 exact key
def KX.encM (x:KX):List Value:=KX.enc ⟨x.k % 4294967296,x.a,x.u⟩
def KX.cmpM (x y:KX):Int:=((x.k % 4294967296:Nat):Int) - (y.k % 4294967296:Nat)
theorem KX.oneM (x:KX):∀v∈x.encM,v.oneCell'=true:=KX.one _
theorem KX.ltM (x y:KX):Go.Proofs.ltOf KX.cmpM x y=decide (x.k % 4294967296 < y.k % 4294967296):=by
 unfold Go.Proofs.ltOf KX.cmpM
 refine decide_eq_decide.2 ?_
 omega
theorem KX.swoM:Sort.SWO (Go.Proofs.ltOf KX.cmpM) where
 irrefl x:=by rw [KX.ltM];simp
 trans x y z h1 h2 := by rw [KX.ltM] at *; simp at *; omega
 ntrans x y z h1 h2 := by rw [KX.ltM] at *; simp at *; omega
theorem Jxl {d:Array KX} (h:∀j,j < d.size→d[j]!.k < 4294967296):Sort.flatK KX.encM 2 d=Sort.flatK KX.enc 2 d:=by
 unfold Sort.flatK
 refine Array.map_congr_left fun t ht=> ?_
 have ht2:=Array.mem_range.1 ht
 have:=h (t / 2) Om
 unfold KX.encM
 rw [Nat.mod_eq_of_lt this]
theorem Jtz {f:FuncId} {g:Nat} {D:List (Nat×AV)} {tl:List AV} {nm s cap nx nn:Nat} (hcb:Jc2 P f) (hone:∀x∈D,Jcj x.2=true) (hk:∀x∈D,x.1 < 4294967296)
 (h:∀(d:Array KX) (w:World) (blk:Nat),d.size=D.length→Sort.HoldsK KX.encM 2 w blk 0 d→blk < w.heap.size→
   Calls P f #[.slice (some ⟨blk,0,none⟩) d.size cap, .func (.func g) #[] #[]] w fun e w'=> e= .returned (.tuple #[])∧∃d' n os,Sort.PermIn 0 d.size d d'∧Sort.SortedIn (Go.Proofs.ltOf KX.cmpM) 0 d.size d'∧w'=Go.Proofs.sortWorldK KX.encM 2 w blk 0 n d' os):
 ECall P f [.hs (nm,s) 0 D.length cap, .fn (.func g) [] []] ⟨[((nm,s), .c (JC D++tl))], [],nx,nn⟩
  fun r h'=> r= .tup []∧∃cs',(∃D',D'.Perm D∧D'.Pairwise (fun a b=> a.1≤b.1)∧cs'=JC D')∧h'=⟨[((nm,s), .c (cs'++tl))], [],nx,nn⟩:=by
 refine Jig hcb hone fun d w blk hd hdk hH hb=> ?_
 have h1:∀j,j < d.size→d[j]!.k < 4294967296:=fun j hj=> by
  rw [hdk j Om];exact hk _ (by simp [List.getD,show j < D.length by omega])
 refine (h d w blk hd (by unfold Sort.HoldsK;rw [Jxl h1];exact hH) hb).mono fun e w' ⟨he,d',n,os,hp,hs,hw⟩=> ⟨he,d',n,os,hp, ?_, ?_⟩
 all_goals
  have h2:∀j,j < d'.size→d'[j]!.k < 4294967296:=fun j hj=> by
   obtain ⟨p1,_,p3⟩:=hp;have e1:(d'.extract 0 d.size).toList=d'.toList:=by rw [← p1];simp
   have e2:(d.extract 0 d.size).toList=d.toList:=by simp
   rw [e1,e2] at p3;obtain ⟨k,hk2,e⟩:=List.getElem_of_mem (p3.mem_iff.1 (show d'[j]∈d'.toList by simp));have hk3:k < d.size:=by simpa using hk2
   rw [getElem!_pos d' j hj,← e];have:=h1 k hk3;rw [getElem!_pos d k hk3] at this;simpa using this
 ·intro i j hi hij hj;have hs2:=hs i j hi hij hj;have hsz:=hp.1;rw [KX.ltM,Nat.mod_eq_of_lt (h2 i Om),Nat.mod_eq_of_lt (h2 j Om)] at hs2;rw [KX.lt];exact hs2
 ·rw [hw];unfold Go.Proofs.sortWorldK Sort.putRowK;rw [Jxl h2]
theorem JtA {E:Env} {n:Nat} {bx:List (Id×Own)} {pm:List (Id×Nat)} {nx nn:Nat} {L:List (Nat×AV)} {i j:Id} {cs cs':List AV} (bs:List (Id×Own)) (hn:E.n=n) (hx:E.h.nx=nx) (hij:i.2=j.2)
 (hb:(bs++((i, .c cs)::bx)).Sublist E.h.bx) (hp:pm.Sublist E.h.pm) (hc:FrzL (bs.map fun p=> (p.1.2,p.2)) cs cs') (hL:FrzT (bs.map fun p=> (p.1.2,p.2)) E.t L):ELe E (mk n L ⟨(j, .c cs')::bx,pm,nx,nn⟩ E.df):=by
 subst hn;subst hx
 intro ro X M w0 a w g hs
 have hs':=Jho (E:=E) (nn:=nn) ((List.sublist_append_right bs _).trans hb) hp ro X M w0 a w g hs
 have hfz:∀p∈bs.map fun p=> (p.1.2,p.2),∃b,g[p.1]? =some b∧(∀o,¬excl X g ⟨(i, .c cs)::bx,pm,E.h.nx,nn⟩ b o)∧OwnRep w (excl X g ⟨(i, .c cs)::bx,pm,E.h.nx,nn⟩) g b p.2:=fun p hp'=> by
  obtain ⟨q,hq,rfl⟩:=List.mem_map.1 hp';obtain ⟨b,h1,h2⟩:=hs.hok.bx q (hb.subset (List.mem_append_left _ hq));have hex:∀b o,excl X g ⟨(i, .c cs)::bx,pm,E.h.nx,nn⟩ b o→excl X g E.h b o:=by
   rintro b o (h | ⟨p,hp',hg⟩ | ⟨p,hp',hg⟩)
   ·exact .inl h
   ·exact .inr (.inl ⟨p,hb.subset (List.mem_append_right _ hp'),hg⟩)
   ·exact .inr (.inr ⟨p,hp.subset hp',hg⟩)
  refine ⟨b,h1, ?_,h2.stays (Stays.less hex) rfl⟩;have hqI:q.1.2∈E.h.ids:=List.mem_append_left _ (List.mem_map.2 ⟨q,hb.subset (List.mem_append_left _ hq),rfl⟩);rintro o (hx | ⟨p,hp',hg⟩ | ⟨p,hp',hg,_⟩)
  ·exact hs.sep b o hx _ hqI h1
  ·have hnd:((bs++((i, .c cs)::bx)).map (fun p=> g[p.1.2]?)).Nodup:=by
    have h5:=hs.hok.nodup;unfold Heap.ids at h5;rw [List.map_append,List.map_map] at h5;exact ((List.nodup_append.1 h5).1).sublist (hb.map _)
   rw [List.map_append] at hnd;exact (List.nodup_append.1 hnd).2.2 _ (List.mem_map.2 ⟨q,hq,rfl⟩) _ (List.mem_map.2 ⟨p,hp',rfl⟩) (by rw [h1,hg])
  ·have h5:=hs.hok.nodup;unfold Heap.ids at h5;rw [List.map_append] at h5;exact (List.nodup_append.1 h5).2.2 _ (List.mem_map.2 ⟨q.1.2,List.mem_map.2 ⟨q,hb.subset (List.mem_append_left _ hq),rfl⟩,rfl⟩) _ (List.mem_map.2 ⟨p.1.2,List.mem_map.2 ⟨p,hp.subset hp',rfl⟩,rfl⟩) (by rw [h1,hg])
 have ids:Heap.ids ⟨(j, .c cs')::bx,pm,E.h.nx,nn⟩=Heap.ids ⟨(i, .c cs)::bx,pm,E.h.nx,nn⟩:=by unfold Heap.ids;simp [hij]
 have ex:∀Y:Nat→Nat→Prop,excl Y g ⟨(j, .c cs')::bx,pm,E.h.nx,nn⟩=excl Y g ⟨(i, .c cs)::bx,pm,E.h.nx,nn⟩:=fun Y=> by
  funext b o
  unfold excl;simp only [List.mem_cons,exists_eq_or_imp,hij]
 refine ⟨?_,fun k=> ?_,hs'.n,hs'.evo,fun b o hx=> hs'.loc b o (by rw [← ex];exact hx), ?_,fun b o hx i hi=> hs'.sep b o hx i (by rw [← ids];exact hi),hs'.top,hs'.rnd⟩
 ·show HOk w (excl X g ⟨(j, .c cs')::bx,pm,E.h.nx,nn⟩) g ⟨(j, .c cs')::bx,pm,E.h.nx,nn⟩;rw [ex];refine ⟨fun p hp=> ?_,hs'.hok.pm,by rw [ids];exact hs'.hok.nodup,hs'.hok.nx,hs'.hok.bd,hs'.hok.kn⟩;rcases List.mem_cons.1 hp with rfl | hp
  ·obtain ⟨b,k1,vs,e,k2,k3,k4⟩:=hs'.hok.bx (i, .c cs) (.head _);obtain ⟨l1,l2⟩:=hc.get;refine ⟨b,hij ▸ k1,vs,e,k2,k3.trans l1,fun k c u hk hu=> ?_⟩;have hlt:k < cs.length:=by rw [l1];exact (List.getElem?_eq_some_iff.1 hk).1
   exact l2 k _ c (List.getElem?_eq_getElem hlt) hk _ _ _ _ hfz (k4 k _ u (List.getElem?_eq_getElem hlt) hu)
  ·exact hs'.hok.bx p (List.mem_cons_of_mem _ hp)
 ·show Rep w (excl X g ⟨(j, .c cs')::bx,pm,E.h.nx,nn⟩) g _ _;rw [ex];exact hL.look k w _ g _ hfz (hs'.tm k)
 ·show DOk w (excl X g ⟨(j, .c cs')::bx,pm,E.h.nx,nn⟩) g _ _;rw [ex];exact hs'.def_
theorem JvF {c:Code} {E:Env} {Q:AExit→Env→Prop} {n:Nat} {bx:List (Id×Own)} {pm:List (Id×Nat)} {nx nn:Nat} {L:List (Nat×AV)} {df:Option (List DA)} {i j:Id} {cs cs':List AV} (bs:List (Id×Own)) (hn:E.n=n) (hx:E.h.nx=nx) (hd:E.df=df) (hij:i.2=j.2)
 (hb:E.h.bx.Perm (bs++((i, .c cs)::bx))) (hp:pm.Sublist E.h.pm) (hc:FrzL (bs.map fun p=> (p.1.2,p.2)) cs cs') (hL:FrzT (bs.map fun p=> (p.1.2,p.2)) E.t L) (h:AW P c (mk n L ⟨(j, .c cs')::bx,pm,nx,nn⟩ df) Q):AW P c E Q:=by
 subst hd
 refine AW.le (JdX (E:=E) (h':= { E.h with bx:=bs++((i, .c cs)::bx)}) ⟨(hb.map _).symm, .refl _,rfl⟩) ?_
 exact AW.le (JtA (E:= { E with h:= { E.h with bx:=bs++((i, .c cs)::bx)}}) bs hn hx hij Sf hp hc hL) h
theorem Jn2 {f:FuncId} {ars:List AV} {s:AV} (h:Tells P f ars s):PCall P f ars (fun r=> r=s):=fun nx=> by
 refine ⟨(h nx).1,fun X w g us h1 h2 h3 h4=> ?_⟩
 refine (JgR P f).mono (w0:=w) (g:=g) ((h nx).2 X w g us h1 h2 h3 h4) fun e w' ⟨r,h',g',a1,a2,a3⟩=> ?_
 cases r with
 | pan x=> exact a2.elim
 | ret r=>
   obtain ⟨u,e1,e2⟩:=a1;exact ⟨.ret s,h',g',⟨u,e1,a2.1 _ _ _ _ e2⟩,⟨rfl,a2.2⟩,a3⟩
end Go.Vl

namespace Go.Proofs.W
structure Cnd where
 arg:Int
 op:Int
 mask:Nat
 value:Nat
deriving DecidableEq
def cnd0:Cnd:=⟨0,0,0,0⟩
def Cnd.ok (c:Cnd):Prop:=c.mask < 18446744073709551616∧c.value < 18446744073709551616
def JR (c:Cnd):Bool:=decide (0≤c.arg)&& decide (c.arg≤5)&& decide (1≤c.op)&& decide (c.op≤7)&& (decide (c.op=7)|| decide (c.mask=0))
def Jih (v m:Nat):Nat:=v&&& (18446744073709551615 - m)
def isC (b:Bool):Cnd×Nat:=(cnd0,if b then 1 else 2)
def asC (c:Cnd) (op:Int) (v:Nat):Cnd×Nat:=(⟨c.arg,op,0,v⟩,0)
def Ja5 (c:Cnd) (v:Nat):Cnd×Nat:=if v=0 then isC false else if v=1 then asC c 1 0 else asC c 3 v
def JbR (c:Cnd) (v:Nat):Cnd×Nat:=if v=0 then isC true else if v=18446744073709551615 then asC c 1 v else asC c 6 v
def Jd1 (c:Cnd):Cnd×Nat:=if Jih c.value c.mask≠0 then isC false else if c.mask=0 then isC true else if c.mask=18446744073709551615 then asC c 1 c.value else (c,0)
def Jbb (c:Cnd):Cnd×Nat:=
 if c.op=3 then Ja5 c c.value
 else if c.op=6 then JbR c c.value
 else if c.op=7 then Jd1 c
 else if c.op=4 then (if c.value=18446744073709551615 then isC true else Ja5 c (c.value+1))
 else if c.op=5 then (if c.value=18446744073709551615 then isC false else JbR c (c.value+1))
 else (c,0)
def J5 (c:Cnd):Cnd×Nat:=if JR c then Jbb c else isC false
def JaD (c:Cnd) (a:Nat):Bool:=
 if c.op=1 then decide (a=c.value)
 else if c.op=2 then !decide (a=c.value)
 else if c.op=3 then decide (a < c.value)
 else if c.op=4 then decide (a≤c.value)
 else if c.op=5 then decide (a > c.value)
 else if c.op=6 then decide (a≥c.value)
 else decide (a&&& c.mask=c.value)
theorem Jag {c:Cnd}:JR c=true↔0≤c.arg∧c.arg≤5∧1≤c.op∧c.op≤7∧(c.op=7∨c.mask=0):=by
 simp [JR,and_assoc]
theorem Jus {v m:Nat} (hm:m < 2 ^ 64) (i:Nat):(Jih v m).testBit i=(v.testBit i&& (decide (i < 64)&& !m.testBit i)):=by
 unfold Jih
 rw [Nat.testBit_and,show (18446744073709551615:Nat) - m=2 ^ 64 - (m+1) by omega,Nat.testBit_two_pow_sub_succ hm]
set_option maxRecDepth 10000 in
theorem JlQ {v m:Nat} (hv:v < 2 ^ 64) (hm:m < 2 ^ 64):Jih v m=0↔v||| m=m:=by
 have hb:∀i,¬i < 64→v.testBit i=false:=fun i hi=> Nat.testBit_lt_two_pow (Nat.lt_of_lt_of_le hv (Nat.pow_le_pow_right Dc Om))
 constructor
 ·intro h;refine Nat.eq_of_testBit_eq fun i=> ?_;have h1:=Jus (v:=v) hm i;rw [h,Nat.zero_testBit] at h1;rw [Nat.testBit_or];by_cases hi:i < 64
  ·rw [decide_eq_true hi] at h1
   revert h1
   cases v.testBit i <;> cases m.testBit i <;> decide
  ·rw [hb i hi];simp
 ·intro h;refine Nat.eq_of_testBit_eq fun i=> ?_;rw [Jus hm,Nat.zero_testBit];have h1:=congrArg (·.testBit i) h;simp only [Nat.testBit_or] at h1
  revert h1
  cases v.testBit i <;> cases m.testBit i <;> simp
theorem JtB {c:Cnd} (ho:c.ok) (hr:JR c=true) {a:Nat} (ha:a < 18446744073709551616):
 ((J5 c).2=1→JaD c a=true)∧((J5 c).2=2→JaD c a=false)∧((J5 c).2=0→JR (J5 c).1=true∧(J5 c).1.arg=c.arg∧JaD (J5 c).1 a=JaD c a):=by
 obtain ⟨h1,h2,h3,h4,h5⟩:=Jag.1 hr
 obtain ⟨o1,o2⟩:=ho
 obtain ⟨arg,op,mask,value⟩:=c
 dsimp only at h1 h2 h3 h4 h5 o1 o2
 unfold J5
 rw [if_pos hr]
 have hop:op=1∨op=2∨op=3∨op=4∨op=5∨op=6∨op=7:=by omega
 rcases hop with rfl | rfl | rfl | rfl | rfl | rfl | rfl
 ·simp [Jbb,hr]
 ·simp [Jbb,hr]
 ·obtain rfl:mask=0:=by omega
  simp only [Jbb,if_true,Ja5];split
  ·simp [isC,JaD];(first | omega | rfl | exact decide_eq_decide.2 Om)
  ·split
   ·simp [asC,JaD,JR,h1,h2];(first | omega | rfl | exact decide_eq_decide.2 Om)
   ·simp [asC,JaD,JR,h1,h2];try rfl
 ·obtain rfl:mask=0:=by omega
  simp only [Jbb];simp only [show ((4:Int)=3)=False by simp,show ((4:Int)=6)=False by simp,show ((4:Int)=7)=False by simp,if_false,if_true];split
  ·simp [isC,JaD];(first | omega | rfl | exact decide_eq_decide.2 Om)
  ·simp only [Ja5];split
   ·omega
   ·split
    ·simp [asC,JaD,JR,h1,h2];(first | omega | rfl | exact decide_eq_decide.2 Om)
    ·simp [asC,JaD,JR,h1,h2];(first | omega | rfl | exact decide_eq_decide.2 Om)
 ·obtain rfl:mask=0:=by omega
  simp only [Jbb];simp only [show ((5:Int)=3)=False by simp,show ((5:Int)=6)=False by simp,show ((5:Int)=7)=False by simp,show ((5:Int)=4)=False by simp,if_false,if_true];split
  ·simp [isC,JaD];(first | omega | rfl | exact decide_eq_decide.2 Om)
  ·simp only [JbR];split
   ·omega
   ·split
    ·simp [asC,JaD,JR,h1,h2];(first | omega | rfl | exact decide_eq_decide.2 Om)
    ·simp [asC,JaD,JR,h1,h2];(first | omega | rfl | exact decide_eq_decide.2 Om)
 ·obtain rfl:mask=0:=by omega
  simp only [Jbb];simp only [show ((6:Int)=3)=False by simp,if_false,if_true,JbR];split
  ·simp [isC,JaD];(first | omega | rfl | exact decide_eq_decide.2 Om)
  ·split
   ·simp [asC,JaD,JR,h1,h2];(first | omega | rfl | exact decide_eq_decide.2 Om)
   ·simp [asC,JaD,JR,h1,h2]
 ·simp only [Jbb];simp only [show ((7:Int)=3)=False by simp,show ((7:Int)=6)=False by simp,if_false,if_true,Jd1];have hor:a&&& mask||| mask=mask:=by
   refine Nat.eq_of_testBit_eq fun i=> ?_;rw [Nat.testBit_or,Nat.testBit_and];cases a.testBit i <;> cases mask.testBit i <;> rfl
  split
  ·rename_i hz
   have hz':¬(value||| mask=mask):=fun h=> hz ((JlQ o2 o1).2 h);have:¬(a&&& mask=value):=fun h=> hz' (by rw [← h];exact hor);simp [isC,JaD,this]
  ·rename_i hz
   have hz':value||| mask=mask:=(JlQ o2 o1).1 (Decidable.not_not.1 hz);split
   ·rename_i hm
    subst hm;have:value=0:=(by simpa using hz');simp [isC,JaD,this]
   ·split
    ·rename_i hm
     subst hm;have hmask:a&&& 18446744073709551615=a:=by
      rw [show (18446744073709551615:Nat)=2 ^ 64 - 1 by decide,Nat.and_two_pow_sub_one_eq_mod];exact Nat.mod_eq_of_lt (by simpa using ha)
     simp [asC,JaD,JR,h1,h2,hmask];rfl
    ·simp [hr]
open Go.Vl
set_option maxRecDepth 100000
structure PRul where
 conds:List Cnd
 code:Nat
deriving DecidableEq
structure PEnt where
 num:Nat
 rules:List PRul
structure PSub where
 num:Nat
 code:Nat
deriving DecidableEq
structure Plan where
 dflt:Nat
 x32:Bool
 ents:Nat→List PEnt
 subs:Nat→List PSub
structure Itm where
 mark:Nat
 code:Nat
 k:Nat
 t:Nat
 f:Nat
def it0:Itm:=⟨0,0,0,0,0⟩
structure Mk where
 l:List Itm
 n:Nat
 b:List (Nat×Nat)
def Mk.le (a b:Mk):Prop:=a.l.length≤b.l.length∧a.n≤b.n
theorem Mk.le.refl (a:Mk):a.le a:=⟨Nat.le_refl _,Nat.le_refl _⟩
theorem Mk.le.trans {a b c:Mk} (h:a.le b) (g:b.le c):a.le c:=⟨Nat.le_trans h.1 g.1,Nat.le_trans h.2 g.2⟩
def Mk.fits (m:Mk):Prop:=m.l.length≤1000000000000∧m.n≤1000000000000
theorem Mk.le.fits {a b:Mk} (h:a.le b) (g:b.fits):a.fits:=⟨Nat.le_trans h.1 g.1,Nat.le_trans h.2 g.2⟩
def JE (m:Mk) (x:List Itm):Mk:=⟨m.l++x,m.n,m.b⟩
def Jz (m:Mk):Mk:=⟨m.l,m.n+1,m.b⟩
def J3 (m:Mk) (k:Nat):Mk:=JE m [⟨k,0,0,0,0⟩]
def Jcy (b:List (Nat×Nat)) (c:Nat):Option Nat:=(b.find? fun x=> x.1 ==c).map (·.2)
def JB (m:Mk) (c:Nat):Nat×Mk:=match Jcy m.b c with
 | some k=> (k,m)
 | none=> (m.n+1,⟨m.l,m.n+1,m.b++ [(c,m.n+1)]⟩)
theorem JaE (m:Mk) (x:List Itm):m.le (JE m x):=⟨by unfold JE;simp,Nat.le_refl _⟩
theorem Jit (m:Mk):m.le (Jz m):=⟨Nat.le_refl _,Nat.le_succ _⟩
theorem JcY (m:Mk) (k:Nat):m.le (J3 m k):=JaE _ _
theorem JfX (m:Mk) (c:Nat):m.le (JB m c).2:=by
 unfold JB
 cases Jcy m.b c with
 | some k=> exact Mk.le.refl m
 | none=> exact ⟨Nat.le_refl _,Nat.le_succ _⟩
structure Hlv where
 la:Nat
 ha:Nat
 lo:Nat
 hi:Nat
 ml:Nat
 mh:Nat
 w:Bool
 yes:Nat
 no:Nat
def Ja1 (h:Hlv):Hlv:=⟨h.la,h.ha,h.lo,h.hi,h.ml,h.mh,h.w,h.no,h.yes⟩
def Jcn (h:Hlv):List Itm:= [⟨0,0x20,h.la,0,0⟩,⟨0,0x15,h.lo,h.yes,h.no⟩]
def Jdv (h:Hlv):List Itm:= [⟨0,0x20,h.ha,0,0⟩,⟨0,0x15,h.hi,0,h.no⟩]
def Jbp (h:Hlv):List Itm:= [⟨0,0x20,h.la,0,0⟩,⟨0,0x35,h.lo,h.yes,h.no⟩]
def Jcz (h:Hlv):List Itm:= [⟨0,0x20,h.ha,0,0⟩,⟨0,0x25,h.hi,h.yes,0⟩,⟨0,0x15,h.hi,0,h.no⟩]
def Jdl (h:Hlv):List Itm:= [⟨0,0x20,h.la,0,0⟩,⟨0,0x54,h.ml,0,0⟩,⟨0,0x15,h.lo,h.yes,h.no⟩]
def JeT (h:Hlv):List Itm:= [⟨0,0x20,h.ha,0,0⟩,⟨0,0x54,h.mh,0,0⟩,⟨0,0x15,h.hi,0,h.no⟩]
def Jco (m:Mk) (h:Hlv) (a b:List Itm):Mk:=JE (if h.w then JE m a else m) b
theorem JBN (m:Mk) (h:Hlv) (a b:List Itm):m.le (Jco m h a b):=by
 unfold Jco
 split
 ·exact (JaE _ _).trans (JaE _ _)
 ·exact JaE _ _
def Jn3 (m:Mk) (h:Hlv) (op:Int):Mk:=
 if op=1 then Jco m h (Jdv h) (Jcn h) else if op=2 then Jco m (Ja1 h) (Jdv (Ja1 h)) (Jcn (Ja1 h)) else
 if op=3 then Jco m (Ja1 h) (Jcz (Ja1 h)) (Jbp (Ja1 h)) else if op=6 then Jco m h (Jcz h) (Jbp h) else Jco m h (JeT h) (Jdl h)
theorem Jxm (m:Mk) (h:Hlv) (op:Int):m.le (Jn3 m h op):=by
 unfold Jn3
 repeat' split
 all_goals exact JBN _ _ _ _
def hlvC (c:Cnd) (wide:Bool) (yes no:Nat):Hlv:=⟨16+8 * c.arg.toNat,20+8 * c.arg.toNat,c.value % 4294967296,c.value / 4294967296,c.mask % 4294967296,c.mask / 4294967296,wide,yes,no⟩
def Jdw (m:Mk) (c:Cnd) (wide:Bool) (yes no:Nat):Mk:=Jn3 m (hlvC c wide yes no) c.op
def J7 (wide:Bool) (next:Nat):Mk→List Cnd→Mk
 | m, []=> m
 | m,c::cs=> J7 wide next (J3 (Jdw (Jz m) c wide (m.n+1) next) (m.n+1)) cs
def Jb3 (t:Nat):Itm:=⟨0,5,0,t,0⟩
def JaV (wide:Bool) (m:Mk) (r:PRul):Mk:=
 let a:=J7 wide (m.n+1) (Jz m) r.conds
 J3 (JE (JB a r.code).2 [Jb3 (JB a r.code).1]) (m.n+1)
def Jd7 (wide:Bool) (other:Nat) (m:Mk) (l:List PRul):Mk:=JE (l.foldl (JaV wide) m) [Jb3 other]
theorem Ji6 (wide:Bool) (next:Nat):∀(cs:List Cnd) (m:Mk),m.le (J7 wide next m cs)
 | [],m=> Mk.le.refl m
 | c::cs,m=> ((((Jit m).trans (Jxm _ _ _)).trans (JcY _ _))).trans (Ji6 wide next cs _)
theorem Jut (wide:Bool) (m:Mk) (r:PRul):m.le (JaV wide m r):=((((Jit m).trans (Ji6 _ _ _ _)).trans (JfX _ _)).trans (JaE _ _)).trans (JcY _ _)
theorem Jiu {α:Type} {f:Mk→α→Mk} (h:∀(m:Mk) (x:α),m.le (f m x)):∀(l:List α) (m:Mk),m.le (l.foldl f m)
 | [],m=> Mk.le.refl m
 | x::l,m=> (h m x).trans (Jiu h l _)
theorem JzU (wide:Bool) (other:Nat) (m:Mk) (l:List PRul):m.le (Jd7 wide other m l):=(Jiu (Jut wide) l m).trans (JaE _ _)
def JbG (marks:List Nat) (other:Nat) (l:List Nat) (pl:Nat) (m:Mk):Mk:=
 if h:l.length≤1 then JE m [⟨0,0x15,l.getD 0 0,marks.getD pl 0,other⟩]
 else JbG marks other (l.drop (l.length / 2)) (pl+l.length / 2) (J3 (JbG marks other (l.take (l.length / 2)) pl (JE (Jz m) [⟨0,0x35,l.getD (l.length / 2) 0,m.n+1,0⟩])) (m.n+1))
termination_by l.length
decreasing_by
 ·simp;omega
 ·simp;omega
def JaA (marks:List Nat) (other:Nat) (l:List Nat) (m:Mk):Mk:=if l= [] then JE m [Jb3 other] else JbG marks other l 0 m
theorem Jg9 (marks:List Nat) (other:Nat):∀(N:Nat) (l:List Nat) (pl:Nat) (m:Mk),l.length≤N→m.le (JbG marks other l pl m)
 | 0,l,pl,m,h=> by rw [JbG,dif_pos Om];exact JaE _ _
 | N+1,l,pl,m,h=> by
   rw [JbG];split
   ·exact JaE _ _
   ·exact ((((Jit m).trans (JaE _ _)).trans (Jg9 marks other N _ _ _ (by simp;omega))).trans (JcY _ _)).trans (Jg9 marks other N _ _ _ (by simp;omega))
theorem JhT (marks:List Nat) (other:Nat) (l:List Nat) (m:Mk):m.le (JaA marks other l m):=by
 unfold JaA
 split
 ·exact JaE _ _
 ·exact Jg9 _ _ _ _ _ _ (Nat.le_refl _)
def Jad:Mk→List PSub→List Nat×Mk
 | m, []=> ([],m)
 | m,s::l=> ((JB m s.code).1::(Jad (JB m s.code).2 l).1,(Jad (JB m s.code).2 l).2)
def Jfc (other:Nat) (m:Mk) (l:List PSub):Mk:=
 let a:=Jad (JE m [⟨0,0x20,16,0,0⟩]) l
 JaA a.1 other (l.map (·.num)) a.2
theorem JhU:∀(l:List PSub) (m:Mk),m.le (Jad m l).2
 | [],m=> Mk.le.refl m
 | s::l,m=> (JfX m s.code).trans (JhU l _)
theorem JBO (other:Nat) (m:Mk) (l:List PSub):m.le (Jfc other m l):=((JaE _ _).trans (JhU _ _)).trans (JhT _ _ _ _)
inductive Prt where
 | ent (e:PEnt)
 | sub (n k:Nat)
def Prt.num:Prt→Nat
 | .ent e=> e.num
 | .sub n _=> n
def Jdx (P:Plan) (a other:Nat) (m:Mk):Prt→Mk
 | .ent e=> Jd7 (a !=2) other m e.rules
 | .sub _ k=> Jfc other m (P.subs k)
theorem JlR (P:Plan) (a other:Nat) (m:Mk) (x:Prt):m.le (Jdx P a other m x):=by
 cases x
 ·exact JzU _ _ _ _
 ·exact JBO _ _ _
def partsR (P:Plan) (a:Nat):List Prt:=(P.ents a).map .ent++if a=2 then [.sub 102 0, .sub 117 1] else []
def partsP (P:Plan) (a:Nat):List Prt:=(partsR P a).mergeSort fun x y=> decide (x.num≤y.num)
def JbY {β:Type} (f:Mk→β→Mk):Mk→List (Nat×β)→Mk
 | m, []=> m
 | m,x::l=> JbY f (f (J3 m x.1) x.2) l
def Jdy (P:Plan) (a other:Nat):Mk→List (Nat×Prt)→Mk:=JbY (Jdx P a other)
def Ja6 (P:Plan) (m:Mk) (a:Nat):Mk:=
 let g:=JB m P.dflt
 let l:=partsP P a
 let marks:=(List.range l.length).map fun i=> g.2.n+1+i
 Jdy P a g.1 (JaA marks g.1 (l.map Prt.num) ⟨g.2.l,g.2.n+l.length,g.2.b⟩) (marks.zip l)
theorem JmN {β:Type} {f:Mk→β→Mk} (h:∀(m:Mk) (x:β),m.le (f m x)):∀(l:List (Nat×β)) (m:Mk),m.le (JbY f m l)
 | [],m=> Mk.le.refl m
 | x::l,m=> ((JcY m x.1).trans (h _ _)).trans (JmN h l _)
theorem Juu (P:Plan) (a other:Nat) (l:List (Nat×Prt)) (m:Mk):m.le (Jdy P a other m l):=JmN (JlR P a other) l m
theorem Juv (m:Mk) (k:Nat):m.le ⟨m.l,m.n+k,m.b⟩:=⟨Nat.le_refl _,Nat.le_add_right _ _⟩
theorem JcF (P:Plan) (m:Mk) (a:Nat):m.le (Ja6 P m a):=
 (((JfX m P.dflt).trans (Juv _ _)).trans (JhT _ _ _ _)).trans (Juu _ _ _ _ _)
def JeA (P:Plan) (m:Mk):Mk:=
 let g:=JB m P.dflt
 let m1:=JE g.2 [⟨0,0x15,4294967295,g.1,0⟩]
 if P.x32 then Ja6 P (J3 (Ja6 P (JE (Jz m1) [⟨0,0x45,1073741824,m1.n+1,0⟩]) 0) (m1.n+1)) 1
 else Ja6 P (JE (JB m1 2147483648).2 [⟨0,0x45,1073741824,(JB m1 2147483648).1,0⟩]) 0
def frontM:Mk:=let g:=JB ⟨[⟨0,0x20,4,0,0⟩,⟨0,0x15,0xc000003e,1,0⟩,⟨0,0x15,0x40000003,2,0⟩,⟨0,0x15,0xc00000b7,3,0⟩,⟨0,0x15,0xc00000f3,4,0⟩],4, []⟩ 2147483648
 JE g.2 [Jb3 g.1]
def JbN (P:Plan) (m:Mk) (a:Nat):Mk:=if a=0 then JeA P (JE m [⟨0,0x20,0,0,0⟩]) else Ja6 P (JE m [⟨0,0x20,0,0,0⟩]) a
def JbZ (m:Mk) (x:Nat×Nat):Mk:=JE (J3 m x.2) [⟨0,6,x.1,0,0⟩]
def Jat (P:Plan):Mk:=JbY (JbN P) frontM [(1,0),(2,2),(3,3),(4,4)]
def JaI (P:Plan):List Itm:=(((Jat P).b.mergeSort fun x y=> decide (x.1≤y.1)).foldl JbZ (Jat P)).l
def NFm (c:Cnd):Prop:=JR c=true∧(c.op=1∨c.op=2∨c.op=3∨c.op=6∨(c.op=7∧Jih c.value c.mask=0))
theorem Jxn {c:Cnd} (h:(J5 c).2=0):NFm (J5 c).1:=by
 unfold J5 at h⊢
 by_cases hr:JR c=true
 ·rw [if_pos hr] at h⊢;obtain ⟨h1,h2,h3,h4,h5⟩:=Jag.1 hr;obtain ⟨arg,op,mask,value⟩:=c;dsimp only at h1 h2 h3 h4 h5;have hu:∀v:Nat,(Ja5 ⟨arg,op,mask,value⟩ v).2=0→NFm (Ja5 ⟨arg,op,mask,value⟩ v).1:=fun v hv=> by
   unfold Ja5 at hv⊢;split at hv
   ·cases hv
   ·rename_i q0
    rw [if_neg q0];split at hv
    ·rename_i q1
     rw [if_pos q1];exact ⟨Jag.2 ⟨h1,h2,(by decide:(1:Int)≤1),(by decide:(1:Int)≤7), .inr rfl⟩, .inl rfl⟩
    ·rename_i q1
     rw [if_neg q1];exact ⟨Jag.2 ⟨h1,h2,(by decide:(1:Int)≤3),(by decide:(3:Int)≤7), .inr rfl⟩, .inr (.inr (.inl rfl))⟩
  have ho:∀v:Nat,(JbR ⟨arg,op,mask,value⟩ v).2=0→NFm (JbR ⟨arg,op,mask,value⟩ v).1:=fun v hv=> by
   unfold JbR at hv⊢;split at hv
   ·cases hv
   ·rename_i q0
    rw [if_neg q0];split at hv
    ·rename_i q1
     rw [if_pos q1];exact ⟨Jag.2 ⟨h1,h2,(by decide:(1:Int)≤1),(by decide:(1:Int)≤7), .inr rfl⟩, .inl rfl⟩
    ·rename_i q1
     rw [if_neg q1];exact ⟨Jag.2 ⟨h1,h2,(by decide:(1:Int)≤6),(by decide:(6:Int)≤7), .inr rfl⟩, .inr (.inr (.inr (.inl rfl)))⟩
  unfold Jbb at h⊢;dsimp only at h⊢;obtain rfl | rfl | rfl | rfl | rfl | rfl | rfl:op=1∨op=2∨op=3∨op=4∨op=5∨op=6∨op=7:=by omega
  ·exact ⟨hr, .inl rfl⟩
  ·exact ⟨hr, .inr (.inl rfl)⟩
  ·exact hu _ h
  ·simp only [Int.reduceEq,if_false,if_true] at h⊢;split at h
   ·cases h
   ·rename_i q;rw [if_neg q];exact hu _ h
  ·simp only [Int.reduceEq,if_false,if_true] at h⊢;split at h
   ·cases h
   ·rename_i q;rw [if_neg q];exact ho _ h
  ·exact ho _ h
  ·simp only [Int.reduceEq,if_false,if_true] at h⊢;unfold Jd1 at h⊢;dsimp only at h⊢;split at h
   ·cases h
   ·rename_i q0
    rw [if_neg q0];split at h
    ·cases h
    ·rename_i q1
     rw [if_neg q1];split at h
     ·rename_i q2
      rw [if_pos q2];exact ⟨Jag.2 ⟨h1,h2,(by decide:(1:Int)≤1),(by decide:(1:Int)≤7), .inr rfl⟩, .inl rfl⟩
     ·rename_i q2
      rw [if_neg q2];exact ⟨hr, .inr (.inr (.inr (.inr ⟨rfl,by simpa using q0⟩)))⟩
 ·rw [if_neg hr] at h;cases h
def lowM32:Nat:=4294967295
def Jbd (c:Cnd):Cnd×Nat:=
 if c.value > lowM32 then (cnd0,if c.op=2∨c.op=3 then 1 else 2)
 else if c.op=7 then (if c.mask&&& lowM32=0 then (cnd0,1) else (⟨c.arg,c.op,c.mask&&& lowM32,c.value⟩,0))
 else (c,0)
theorem JnT {a:Nat} (h:a < 4294967296):a&&& lowM32=a:=by
 unfold lowM32
 rw [show (4294967295:Nat)=2 ^ 32 - 1 by decide,Nat.and_two_pow_sub_one_eq_mod]
 exact Nat.mod_eq_of_lt h
theorem Jrk {a m:Nat} (h:a < 4294967296):a&&& (m&&& lowM32)=a&&& m:=by
 rw [Nat.and_comm m,← Nat.and_assoc,JnT h]
theorem sub_zero {v m:Nat} (hv:v||| m=m) (h0:m&&& lowM32=0) (hl:v < 4294967296):v=0:=by
 rw [← JnT hl]
 refine Nat.eq_of_testBit_eq fun i=> ?_
 rw [Nat.testBit_and,Nat.zero_testBit]
 have h1:=congrArg (·.testBit i) hv
 have h2:=congrArg (·.testBit i) h0
 simp only [Nat.testBit_or,Nat.testBit_and,Nat.zero_testBit] at h1 h2
 revert h1 h2
 cases v.testBit i <;> cases m.testBit i <;> cases lowM32.testBit i <;> decide
theorem JoW {c:Cnd} (ho:c.ok) (hc:NFm c) {a:Nat} (ha:a < 4294967296):((Jbd c).2=1→JaD c a=true)∧((Jbd c).2=2→JaD c a=false)∧((Jbd c).2=0→JR (Jbd c).1=true∧(Jbd c).1.arg=c.arg∧JaD (Jbd c).1 a=JaD c a):=by
 obtain ⟨hr,hop⟩:=hc
 obtain ⟨h1,h2,h3,h4,h5⟩:=Jag.1 hr
 obtain ⟨o1,o2⟩:=ho
 obtain ⟨arg,op,mask,value⟩:=c
 dsimp only at *
 unfold Jbd
 dsimp only
 by_cases hv:value > lowM32
 ·rw [if_pos hv];unfold lowM32 at hv;dsimp only;have hle:a&&& mask≤a:=Nat.and_le_left;rcases hop with rfl | rfl | rfl | rfl | ⟨rfl,_⟩
  ·refine ⟨fun h=> (by simp at h),fun _=> ?_,fun h=> (by simp at h)⟩;show decide (a=value)=false;exact decide_eq_false Om
  ·refine ⟨fun _=> ?_,fun h=> (by simp at h),fun h=> (by simp at h)⟩;show (!decide (a=value))=true;rw [decide_eq_false Om];rfl
  ·refine ⟨fun _=> ?_,fun h=> (by simp at h),fun h=> (by simp at h)⟩;show decide (a < value)=true;exact decide_eq_true Om
  ·refine ⟨fun h=> (by simp at h),fun _=> ?_,fun h=> (by simp at h)⟩;show decide (a≥value)=false;exact decide_eq_false Om
  ·refine ⟨fun h=> (by simp at h),fun _=> ?_,fun h=> (by simp at h)⟩;show decide (a&&& mask=value)=false;exact decide_eq_false Om
 ·rw [if_neg hv];unfold lowM32 at hv;by_cases h7:op=7
  ·rw [if_pos h7];subst h7;have hcl:Jih value mask=0:=by
    rcases hop with h | h | h | h | ⟨_,h⟩
    ·cases h
    ·cases h
    ·cases h
    ·cases h
    ·exact h
   have hor:=(JlQ (v:=value) (m:=mask) o2 o1).1 hcl;by_cases h0:mask&&& lowM32=0
   ·rw [if_pos h0];refine ⟨fun _=> ?_,fun h=> (by cases h),fun h=> (by cases h)⟩;show decide (a&&& mask=value)=true;rw [← Jrk ha,h0,Nat.and_zero,sub_zero hor h0 Om];rfl
   ·rw [if_neg h0];refine ⟨fun h=> (by cases h),fun h=> (by cases h),fun _=> ⟨Jag.2 ⟨h1,h2,h3,h4, .inl rfl⟩,rfl, ?_⟩⟩;show decide (a&&& (mask&&& lowM32)=value)=decide (a&&& mask=value);rw [Jrk ha]
  ·rw [if_neg h7];exact ⟨fun h=> (by cases h),fun h=> (by cases h),fun _=> ⟨hr,rfl,rfl⟩⟩
structure Ins where
 code:Nat
 jt:Nat
 jf:Nat
 k:Nat
deriving DecidableEq
def ins0:Ins:=⟨0,0,0,0⟩
def Ins.ok (i:Ins):Prop:=i.code < 65536∧i.jt < 256∧i.jf < 256∧i.k < 4294967296
def JmO:List (Nat×Nat):= [(32,1),(0,2),(96,3),(128,4),(1,5),(97,6),(129,7),(2,8),(3,9),(7,10),(135,11),(132,12),(5,13),(6,14),(22,15)]
def Jqv:List (Nat×Nat):= [(4,16),(20,17),(36,18),(52,19),(68,20),(84,21),(100,22),(116,23),(164,24),(21,25),(37,26),(53,27),(69,28)]
def lk (l:List (Nat×Nat)) (c:Nat):Option Nat:=(l.find? (fun p=> p.1 ==c)).map (·.2)
def JvG (c:Nat):Nat:=c - 8 * ((c / 8) % 2)
def kof (c:Nat):Nat×Bool:=match lk JmO c with
 | some k=> (k,false)
 | none=> match lk Jqv (JvG c) with
   | some k=> (k,(c / 8) % 2 ==1)
   | none=> (0,false)
theorem Juw {l:List (Nat×Nat)} {c k:Nat} (h:lk l c=some k):(c,k)∈l:=by
 unfold lk at h
 rw [Option.map_eq_some_iff] at h
 obtain ⟨p,h1,h2⟩:=h
 have:=List.find?_some h1
 have hm:=List.mem_of_find?_eq_some h1
 simp at this
 obtain ⟨a,b⟩:=p
 dsimp only at this h2
 subst this;subst h2
 exact hm
def Ji7 (c:Nat):Nat×Bool:=
 match [32,0,96,128,1,97,129,2,3,7,135,132,5,6,22].findIdx? (fun a=> c ==a) with
 | some i=> (i+1,false)
 | none=> match [4,20,36,52,68,84,100,116,164,21,37,53,69].findIdx? (fun a=> c ==a|| c ==a+8) with
   | some i=> (i+16,c != [4,20,36,52,68,84,100,116,164,21,37,53,69].getD i 0)
   | none=> (0,false)
theorem JtC:∀c,c < 256→Ji7 c=kof c:=by decide+kernel
theorem JBP {c:Nat} (h:256≤c):kof c=(0,false):=by
 have h1:lk JmO c=none:=by
  cases hl:lk JmO c with
  | none=> rfl
  | some k=>
    have:=Juw hl;have hd:∀p∈JmO,p.1 < 256:=(by decide);have:=hd _ this;dsimp only at this;omega
 have h2:lk Jqv (JvG c)=none:=by
  cases hl:lk Jqv (JvG c) with
  | none=> rfl
  | some k=>
    have:=Juw hl;have hd:∀p∈Jqv,p.1 < 200:=(by decide);have:=hd _ this;unfold JvG at this;dsimp only at this;omega
 simp [kof,h1,h2]
theorem Jxo {c:Nat} (h:256≤c):Ji7 c=(0,false):=by
 have h1: [32,0,96,128,1,97,129,2,3,7,135,132,5,6,22].findIdx? (fun a=> c ==a)=none:=by
  rw [List.findIdx?_eq_none_iff];have hd:∀a∈ [32,0,96,128,1,97,129,2,3,7,135,132,5,6,22],a < 256:=by decide
  intro a ha;have:=hd a ha;simp;omega
 have h2: [4,20,36,52,68,84,100,116,164,21,37,53,69].findIdx? (fun a=> c ==a|| c ==a+8)=none:=by
  rw [List.findIdx?_eq_none_iff];have hd:∀a∈ [4,20,36,52,68,84,100,116,164,21,37,53,69],a < 200:=by decide
  intro a ha;have:=hd a ha;simp;omega
 simp [Ji7,h1,h2]
theorem JzV (c:Nat):Ji7 c=kof c:=by
 rcases Nat.lt_or_ge c 256 with h | h
 ·exact JtC c h
 ·rw [Jxo h,JBP h]
def wrongI (i:Ins) (rest:Nat):Nat:=
 let (kind,x):=kof i.code
 if kind=0 then 5
 else if kind=1∧(i.k % 4≠0∨64≤i.k) then 6
 else if (kind=3∨kind=6∨kind=8∨kind=9)∧16≤i.k then 7
 else if x=false∧kind=19∧i.k=0 then 8
 else if x=false∧(kind=22∨kind=23)∧31 < i.k then 9
 else if (kind=13∧rest≤i.k)∨(25≤kind∧(rest≤i.jt∨rest≤i.jf)) then 10
 else 0
def int (n:Int):AV:= .v (.int .i64 n)
def u8 (n:Int):AV:= .v (.int .u8 n)
def u16 (n:Int):AV:= .v (.int .u16 n)
def u32 (n:Int):AV:= .v (.int .u32 n)
def Ji (b:Bool):AV:= .v (.bool b)
def u64 (n:Int):AV:= .v (.int .u64 n)
theorem Jb8 {a b:Int}:(false=(a ==b))↔a≠b:=by rw [eq_comm];simp
theorem Jb9 {a b:Int}:(true=(a ==b))↔a=b:=by rw [eq_comm];simp
theorem JcA {a b:Int}:(false=(a !=b))↔a=b:=by rw [eq_comm];simp
theorem JcB {a b:Int}:(true=(a !=b))↔a≠b:=by rw [eq_comm];simp
theorem JcR {p:Prop} [Decidable p]:(false=decide p)↔¬p:=by rw [eq_comm];simp
theorem JcS {p:Prop} [Decidable p]:(true=decide p)↔p:=by rw [eq_comm];simp
def JZ (c:Cnd):AV:= .ag [int c.arg,int c.op,u64 c.mask,u64 c.value]
def Jaz (l:List Cnd):AV:=JK 4 JZ cnd0 l
theorem JfY (b:Bool):Tells Tryz.prog 168 [Ji b] (.tup [JZ (isC b).1,int (isC b).2]):=by
 refine Jc Tryz.func168 rfl rfl fun nx=> ?_
 cases b
 ·refine Z ?_;exact Jk rfl ⟨rfl,Tt⟩ Rf
 ·refine Z ?_;exact Jk rfl ⟨rfl,Tt⟩ Rf
theorem Jiv (c:Cnd) (op:Int) (v:Nat):Tells Tryz.prog 293 [JZ c,int op,u64 v] (.tup [JZ (asC c op v).1,int (asC c op v).2]):=by
 refine Jc Tryz.func293 rfl rfl fun nx=> ?_
 refine Z ?_
 exact Jk rfl ⟨rfl,Tt⟩ Rf
theorem JgU (c:Cnd):Tells Tryz.prog 156 [JZ c] (Ji (JR c)):=by
 refine Jc Tryz.func156 rfl rfl fun nx=> ?_
 (repeat' (refine Z ?_;intro c h;cases c))
 all_goals
  refine Z ?_;refine Jb rfl (JN ?_)
  (try simp only [Jb8, Jb9, JcR, JcS, JcA, JcB] at *)
  simp [JR];omega
theorem JmP (c:Cnd) (v:Nat):Tells Tryz.prog 240 [JZ c,u64 v] (.tup [JZ (Ja5 c v).1,int (Ja5 c v).2]):=by
 refine Jc Tryz.func240 rfl rfl fun nx=> ?_
 refine Z ?_
 intro c h1;cases c
 ·refine Z ?_;intro c h2;cases c
  ·refine Z ?_;refine Ja rfl rfl (Jiv c 3 v) Y3 fun nx=> ?_;refine Z ?_
   (try simp only [Jb8, Jb9, JcR, JcS, JcA, JcB] at *)
   rw [Ja5,if_neg Om,if_neg Om];exact Jk rfl ⟨rfl,Tt⟩ Rf
  ·refine Z ?_;refine Ja rfl rfl (Jiv c 1 0) Y3 fun nx=> ?_;refine Z ?_
   (try simp only [Jb8, Jb9, JcR, JcS, JcA, JcB] at *)
   rw [Ja5,if_neg Om,if_pos Om];exact Jk rfl ⟨rfl,Tt⟩ Rf
 ·refine Z ?_;refine Ja rfl rfl (JfY false) Y1 fun nx=> ?_;refine Z ?_
  (try simp only [Jb8, Jb9, JcR, JcS, JcA, JcB] at *)
  rw [Ja5,if_pos Om];exact Jk rfl ⟨rfl,Tt⟩ Rf
theorem JoX (c:Cnd) (v:Nat):Tells Tryz.prog 242 [JZ c,u64 v] (.tup [JZ (JbR c v).1,int (JbR c v).2]):=by
 refine Jc Tryz.func242 rfl rfl fun nx=> ?_
 refine Z ?_
 intro c h1;cases c
 ·refine Z ?_;intro c h2;cases c
  ·refine Z ?_;refine Ja rfl rfl (Jiv c 6 v) Y3 fun nx=> ?_;refine Z ?_
   (try simp only [Jb8, Jb9, JcR, JcS, JcA, JcB] at *)
   rw [JbR,if_neg Om,if_neg Om];exact Jk rfl ⟨rfl,Tt⟩ Rf
  ·refine Z ?_;refine Ja rfl rfl (Jiv c 1 v) Y3 fun nx=> ?_;refine Z ?_
   (try simp only [Jb8, Jb9, JcR, JcS, JcA, JcB] at *)
   rw [JbR,if_neg Om,if_pos Om];exact Jk rfl ⟨rfl,Tt⟩ Rf
 ·refine Z ?_;refine Ja rfl rfl (JfY true) Y1 fun nx=> ?_;refine Z ?_
  (try simp only [Jb8, Jb9, JcR, JcS, JcA, JcB] at *)
  rw [JbR,if_pos Om];exact Jk rfl ⟨rfl,Tt⟩ Rf
theorem JmQ {a b:Nat} (ha:a < 18446744073709551616) (hb:b < 18446744073709551616):JbC .andNot .u64 a b=((Jih a b:Nat):Int):=
 Jtp (k:= .u64) ha hb (by
  have:a&&& (2 ^ IntKind.u64.bits - 1 - b)≤a:=Nat.and_le_left;have:a&&& (2 ^ IntKind.u64.bits - 1 - b) < 18446744073709551616:=by omega
  simp [IntKind.wrap,IntKind.signed,IntKind.bits] at this⊢;omega)
theorem Jxp (c:Cnd) (ho:c.ok):Tells Tryz.prog 238 [JZ c] (.tup [JZ (Jd1 c).1,int (Jd1 c).2]):=by
 refine Jc Tryz.func238 rfl rfl fun nx=> ?_
 refine Z ?_
 intro c h1;cases c
 all_goals
  rw [JmQ ho.2 ho.1] at h1
 ·refine Z ?_;intro c h2;cases c
  ·refine Z ?_;intro c h3;cases c
   ·refine Z ?_
    (try simp only [Jb8, Jb9, JcR, JcS, JcA, JcB] at *)
    rw [Jd1,if_neg Om,if_neg Om,if_neg Om];exact Jk rfl ⟨rfl,Tt⟩ Rf
   ·refine Z ?_;refine Ja rfl rfl (Jiv c 1 c.value) Y3 fun nx=> ?_;refine Z ?_
    (try simp only [Jb8, Jb9, JcR, JcS, JcA, JcB] at *)
    rw [Jd1,if_neg Om,if_neg Om,if_pos Om];exact Jk rfl ⟨rfl,Tt⟩ Rf
  ·refine Z ?_;refine Ja rfl rfl (JfY true) Y1 fun nx=> ?_;refine Z ?_
   (try simp only [Jb8, Jb9, JcR, JcS, JcA, JcB] at *)
   rw [Jd1,if_neg Om,if_pos Om];exact Jk rfl ⟨rfl,Tt⟩ Rf
 ·refine Z ?_;refine Ja rfl rfl (JfY false) Y1 fun nx=> ?_;refine Z ?_
  (try simp only [Jb8, Jb9, JcR, JcS, JcA, JcB] at *)
  rw [Jd1,if_pos Om];exact Jk rfl ⟨rfl,Tt⟩ Rf
theorem JoY (c:Cnd):Tells Tryz.prog 237 [JZ c] (.tup [JZ c,int 0]):=by
 refine Jc Tryz.func237 rfl rfl fun nx=> ?_
 refine Z ?_
 exact Jk rfl ⟨rfl,Tt⟩ Rf
theorem JvH (c:Cnd):Tells Tryz.prog 239 [JZ c] (.tup [JZ (Ja5 c c.value).1,int (Ja5 c c.value).2]):=by
 refine Jc Tryz.func239 rfl rfl fun nx=> ?_
 refine Z ?_
 refine Ja rfl rfl (JmP c c.value) Y2 fun nx=> ?_
 refine Z ?_
 exact Jk rfl ⟨rfl,Tt⟩ Rf
theorem JvI (c:Cnd):Tells Tryz.prog 241 [JZ c] (.tup [JZ (JbR c c.value).1,int (JbR c c.value).2]):=by
 refine Jc Tryz.func241 rfl rfl fun nx=> ?_
 refine Z ?_
 refine Ja rfl rfl (JoX c c.value) Y2 fun nx=> ?_
 refine Z ?_
 exact Jk rfl ⟨rfl,Tt⟩ Rf
def JmR (c:Cnd):Cnd×Nat:=if c.value=18446744073709551615 then isC true else Ja5 c (c.value+1)
def Jj7 (c:Cnd):Cnd×Nat:=if c.value=18446744073709551615 then isC false else JbR c (c.value+1)
theorem Jrl {v:Nat} (h:v < 18446744073709551616) (h2:v≠18446744073709551615):IntKind.u64.wrap ((v:Int)+1)=((v+1:Nat):Int):=by
 simp [IntKind.wrap,IntKind.signed,IntKind.bits]
 omega
theorem Jxq {a b:Int} (h:a=b):AVle (.v (.int .u64 a)) (u64 b):=h ▸ Rf
theorem JvJ (c:Cnd) (ho:c.ok):Tells Tryz.prog 243 [JZ c] (.tup [JZ (JmR c).1,int (JmR c).2]):=by
 refine Jc Tryz.func243 rfl rfl fun nx=> ?_
 refine Z ?_
 intro c h1;cases c
 · (try simp only [Jb8, Jb9, JcR, JcS, JcA, JcB] at *)
   have h2:c.value≠18446744073709551615:=by omega
   refine Z ?_;refine Ja rfl rfl (JmP c (c.value+1)) ⟨Rf,Jxq (Jrl ho.2 h2),Tt⟩ fun nx=> ?_;refine Z ?_;rw [JmR,if_neg h2];exact Jk rfl ⟨rfl,Tt⟩ Rf
 ·refine Z ?_;refine Ja rfl rfl (JfY true) Y1 fun nx=> ?_;refine Z ?_
  (try simp only [Jb8, Jb9, JcR, JcS, JcA, JcB] at *)
  rw [JmR,if_pos Om];exact Jk rfl ⟨rfl,Tt⟩ Rf
theorem JvK (c:Cnd) (ho:c.ok):Tells Tryz.prog 244 [JZ c] (.tup [JZ (Jj7 c).1,int (Jj7 c).2]):=by
 refine Jc Tryz.func244 rfl rfl fun nx=> ?_
 refine Z ?_
 intro c h1;cases c
 · (try simp only [Jb8, Jb9, JcR, JcS, JcA, JcB] at *)
   have h2:c.value≠18446744073709551615:=by omega
   refine Z ?_;refine Ja rfl rfl (JoX c (c.value+1)) ⟨Rf,Jxq (Jrl ho.2 h2),Tt⟩ fun nx=> ?_;refine Z ?_;rw [Jj7,if_neg h2];exact Jk rfl ⟨rfl,Tt⟩ Rf
 ·refine Z ?_;refine Ja rfl rfl (JfY false) Y1 fun nx=> ?_;refine Z ?_
  (try simp only [Jb8, Jb9, JcR, JcS, JcA, JcB] at *)
  rw [Jj7,if_pos Om];exact Jk rfl ⟨rfl,Tt⟩ Rf
def fn0 (f:Nat):AV:= .fn (.func f) [] []
def Jhs:List (Value×AV):= [(.int .i64 1,fn0 237),(.int .i64 2,fn0 237),(.int .i64 7,fn0 238),(.int .i64 3,fn0 239),(.int .i64 6,fn0 241),(.int .i64 4,fn0 243),(.int .i64 5,fn0 244)]
theorem JvL:Tells Tryz.prog 169 [] (.fm Jhs):=by
 refine Jc Tryz.func169 rfl rfl fun nx=> ?_
 (repeat ((conv=>whnf);first|refine ω0 ?_|refine ω1 ?_|refine ω2 ?_|refine ω3 ?_|refine ω4 rfl ?_|refine ω5 rfl ?_|refine ω6 ?_|refine ω7 ?_|refine ⟨rfl,?_⟩|refine ⟨trivial,?_⟩|refine ⟨⟨rfl,Nat.le_of_ble_eq_true rfl⟩,?_⟩|refine ⟨⟨by kernel_rfl,by kernel_rfl⟩,?_⟩|refine ⟨by decide,?_⟩|refine JdE ?_|refine Jdd ?_))
 refine AW.le (JcJ (L:= [(0, .fm Jhs)]) (bx:= []) (pm:= []) (nn:=0) [((0,nx), .mp Jhs)] rfl rfl Sf .slnil ⟨Frz.om (.head _),Tt⟩) ?_
 refine Z ?_
 refine Jb rfl Rf
end Go.Proofs.W

namespace Go.Proofs
open Go.Shelf
shelf_lay Lays.n160 Nm 160 at Tryz as Tryz.lays160
shelf_lay Lays.n137 Nm 137 at Tryz as Tryz.lays137
end Go.Proofs
namespace Go.Proofs.W
open Go.Vl Go.Shelf
set_option maxRecDepth 100000
def lettersB:ByteArray:=⟨#[97,98,99,100,101,102,103,104,105,106,107,108,109,110,111,112,113,114,115,116,117,118,119,120,121,122]⟩
def signsB:ByteArray:=⟨#[97,98,99,100,101,102,103,104,105,106,107,108,109,110,111,112,113,114,115,116,117,118,119,120,121,122,48,49,50,51,52,53,54,55,56,57,95]⟩
theorem Jxr (s:ByteArray) (hs:s.size≤9223372036854775807):Tells Tryz.prog 157 [.v (.string s), .v (.string signsB)] (.v (.string ⟨(Lib.trimS s.data.toList signsB.data.toList).toArray⟩)):=
 JeQ (vs:= [.string s, .string signsB]) ⟨_,Tryz.func157,rfl,rfl⟩ fun w=> Any.strings_Trim_laid Tryz.lays160 Kr s signsB w hs Dc (ascii_of_all Dc)
theorem Jrm (s:ByteArray) (c:Int):Tells Tryz.prog 158 [.v (.string s), .v (.int .u8 c)] (.v (.int .i64 (Lib.indexByte s.data.toList c.toNat.toUInt8))):=
 JeQ (vs:= [.string s, .int .u8 c]) ⟨_,Tryz.func158,rfl,rfl⟩ fun w=> (Any.strings_IndexByte Tryz.lays137 s c w).mono fun e w' ⟨h1,h2⟩=> ⟨h1,by subst h2;exact ⟨rfl,rfl,rfl,Nat.le_refl _,fun _ _=> rfl⟩⟩
theorem JhV {p:UInt8→Bool}:∀ {l:List UInt8},l.dropWhile p= []↔l.all p=true
 | []=> by simp
 | x::l=> by
   rw [List.dropWhile_cons,List.all_cons];cases h:p x
   ·simp
   ·simp only [if_true,Bool.true_and];exact JhV
theorem JmS {p:UInt8→Bool}:∀ {l:List UInt8} {y:UInt8} {ys:List UInt8},l.dropWhile p=y::ys→p y=false
 | [],y,ys,h=> by simp at h
 | x::l,y,ys,h=> by
   rw [List.dropWhile_cons] at h;cases hx:p x
   ·rw [hx] at h;simp at h;rw [← h.1];exact hx
   ·rw [hx] at h;simp only [if_true] at h;exact JmS h
theorem JoZ (l cs:List UInt8):Lib.trimS l cs= []↔l.all (cs.contains ·)=true:=by
 unfold Lib.trimS Lib.trimLeftS Lib.trimRightS
 rw [JhV,List.all_reverse]
 constructor
 ·intro h;cases hq:l.reverse.dropWhile (cs.contains ·) with
  | nil=> rw [JhV,List.all_reverse] at hq;exact hq
  | cons y ys=>
    have hy:=JmS hq;rw [hq,List.all_cons,hy] at h;cases h
 ·intro h;have:l.reverse.dropWhile (cs.contains ·)= []:=by rw [JhV,List.all_reverse];exact h
  rw [this];rfl
theorem JvM (l:List UInt8) (c:UInt8):(0≤Lib.indexByte l c↔c∈l)∧-1≤Lib.indexByte l c:=by
 induction l with
 | nil=> simp [Lib.indexByte]
 | cons b l ih=>
   obtain ⟨h1,h2⟩:=ih;unfold Lib.indexByte;by_cases hb:b=c
   ·subst hb;simp
   ·have hbe:(b ==c)=false:=(by simpa using hb);rw [hbe];simp only [Bool.false_eq_true,if_false];by_cases hi:Lib.indexByte l c=-1
    ·have:¬c∈l:=fun h=> by have:=h1.2 h;omega
     rw [if_pos (by rw [hi];rfl)];simp [this,Ne.symm hb]
    ·rw [if_neg (by simpa using hi)];have hm:c∈l:=h1.1 Om;simp [hm];omega
def Ji8:List UInt8:= [100,101,102,97,117,108,116]
def JvN:List UInt8:= [120,51,50]
def JaQ (l:List UInt8):Bool:= !(l == [])&& (!(l ==Ji8)&& (!(l ==JvN)&& (decide (l.length≤30)&& (l.all (signsB.data.toList.contains ·)&& lettersB.data.toList.contains (l.headD 0)))))
theorem JvO {l:List UInt8} (h:false= !(l == [])):JaQ l=false:=by rw [JaQ,← h];rfl
theorem JvP {l:List UInt8} (h:false= !(l ==Ji8)):JaQ l=false:=by rw [JaQ,← h];simp
theorem JvQ {l:List UInt8} (h:false= !(l ==JvN)):JaQ l=false:=by rw [JaQ,← h];simp
theorem JvR {l:List UInt8} (h:¬l.length≤30):JaQ l=false:=by rw [JaQ,decide_eq_false h];simp
theorem JvS {l : List UInt8} (h : ¬ l.all (signsB.data.toList.contains ·) = true) : JaQ l = false := by rw [JaQ, Bool.not_eq_true _ |>.mp h]; simp
theorem JzW {l:List UInt8} (h1:true= !(l == [])) (h2:true= !(l ==Ji8)) (h3:true= !(l ==JvN)) (h4:l.length≤30) (h5:l.all (signsB.data.toList.contains ·)=true):JaQ l=lettersB.data.toList.contains (l.headD 0):=by
 rw [JaQ,← h1,← h2,← h3,decide_eq_true h4,h5];rfl
theorem Jrn {s:ByteArray} (h:¬s.data.toList= []):0 < s.size:=by
 rcases Nat.eq_zero_or_pos s.size with h0 | h0
 ·exfalso;apply h
  have:s.data.toList.length=0:=h0;exact List.length_eq_zero_iff.1 this
 ·exact h0
theorem Jxs (l:List UInt8):(⟨l.toArray⟩:ByteArray).toList=l:=by rw [Lib.toList_data]
theorem JmT (s:ByteArray) (hs:s.size≤9223372036854775807):Tells Tryz.prog 101 [.v (.string s)] (Ji (JaQ s.data.toList)):=by
 have hsz:s.size=s.data.toList.length:=rfl
 refine Jc Tryz.func101 rfl rfl fun nx=> ?_
 refine Z ?_
 intro c t1
 rw [Lib.toList_data,Lib.toList_data] at t1
 cases c
 ·refine Z ?_;exact Jb rfl (JN (JvO t1).symm)
 refine Z ?_
 intro c t2
 rw [Lib.toList_data,Lib.toList_data] at t2
 cases c
 ·refine Z ?_;exact Jb rfl (JN (JvP t2).symm)
 refine Z ?_
 intro c t3
 rw [Lib.toList_data,Lib.toList_data] at t3
 cases c
 ·refine Z ?_;exact Jb rfl (JN (JvQ t3).symm)
 refine Z ?_
 intro c t4;cases c
 ·refine Z ?_;exact Jb rfl (JN (JvR (by have:=Jw t4;omega)).symm)
 have h4:s.data.toList.length≤30:=by have:=Ju t4;omega
 refine Z ?_
 refine Ja rfl rfl (Jxr s hs) Y2 fun nx1=> ?_
 refine Z ?_
 intro c t5
 rw [Jxs,Lib.toList_data] at t5
 cases c
 ·have h5:¬Lib.trimS s.data.toList signsB.data.toList= []:=by simpa using t5
  rw [JoZ] at h5;refine Z ?_;exact Jb rfl (JN (JvS h5).symm)
 have h5:Lib.trimS s.data.toList signsB.data.toList= []:=by simpa using t5
 rw [JoZ] at h5
 have h0:¬s.data.toList= []:=by simpa using t1
 refine Z ?_
 refine ⟨⟨by decide,by have:=Jrn h0;show (0:Int) < (s.size:Int);omega⟩, ?_⟩
 refine Z ?_
 refine Ja rfl rfl (Jrm lettersB _) Y2 fun nx2=> ?_
 refine Z ?_
 intro c t6
 refine Z ?_
 have e1:(((s.data.getD (Int.toNat 0) 0).toNat:Int)).toNat.toUInt8=s.data.toList.headD 0:=by
  have hh:s.data.getD 0 0=s.data.toList.headD 0:=by
   have:=Jrn h0;cases hq:s.data.toList with
   | nil=> exact absurd hq h0
   | cons x xs=>
     have h2:s.data=(x::xs).toArray:=(by rw [← hq]);rw [h2];rfl
  show (((s.data.getD 0 0).toNat:Int)).toNat.toUInt8=_;rw [hh,Int.toNat_natCast];simp
 refine Jb rfl (JN (t6.trans ?_))
 rw [JzW t1 t2 t3 h4 h5,e1,Bool.eq_iff_iff,decide_eq_true_eq]
 exact (JvM _ _).1.trans Si
end Go.Proofs.W

namespace Go.Proofs.W
open Go.Vl
set_option maxRecDepth 100000
theorem NoId.fm {es:List (Value×AV)} (h:∀p∈es,NoId p.2):NoId (.fm es):=fun w X g g' u hr=> by
 cases hr with
 | fm _ b ents hb hx hn hk hr=> exact .fm es b ents hb hx hn hk fun k p e hp he=> h p (List.mem_of_getElem? hp) w X g g' _ (hr k p e hp he)
theorem JvT:NoId (.fm Jhs):=NoId.fm (by
 intro p hp
 simp only [Jhs,List.mem_cons,List.not_mem_nil,or_false] at hp
 rcases hp with rfl | rfl | rfl | rfl | rfl | rfl | rfl <;> exact NoId.fn Si Si)
theorem JzX (c:Cnd) (n:Int):NoId (.tup [JZ c,int n]):=NoId.tup (by
 intro x hx
 simp only [List.mem_cons,List.not_mem_nil,or_false] at hx
 rcases hx with rfl | rfl
 ·exact NoId.ag (by intro y hy;simp only [List.mem_cons,List.not_mem_nil,or_false] at hy;rcases hy with rfl | rfl | rfl | rfl <;> exact NoId.v _)
 ·exact NoId.v _)
theorem Jxt (c:Cnd) (ho:c.ok):Tells Tryz.prog 109 [JZ c] (.tup [JZ (J5 c).1,int (J5 c).2]):=by
 cases hr:JR c
 ·refine Jc Tryz.func109 rfl rfl fun nx=> ?_;refine Z ?_;refine Ja rfl rfl (JgU c) Y1 fun nx=> ?_;rw [hr];refine Z ?_;refine Ja rfl rfl (JfY false) Y1 fun nx=> ?_;refine Z ?_;rw [J5,hr];exact Jk rfl ⟨rfl,Tt⟩ Rf
 ·have hop:=Jag.1 hr;have key:∀f:Nat,∀q:Cnd×Nat,Jbb c=q→Jbf (.int .i64 c.op) Jhs=some (fn0 f)→Tells Tryz.prog f [JZ c] (.tup [JZ q.1,int q.2])→Tells Tryz.prog 109 [JZ c] (.tup [JZ (J5 c).1,int (J5 c).2]):=by
   intro f q hq hal hf;refine Jc Tryz.func109 rfl rfl fun nx=> ?_;refine Z ?_;refine Ja rfl rfl (JgU c) Y1 fun nx=> ?_;rw [hr];refine Z ?_
   (refine JJ 8 Kr Kr Kr ?_)
   refine Z ?_;refine Jaj (JV rfl rfl JvL trivial JvT) ?_;refine Z ?_;refine Jj (b:=fn0 f) (by
    show Jge (Jbf (.int .i64 c.op) Jhs) _ false=_;rw [hal];rfl) ?_
   refine Z ?_;refine Jaj (JV rfl rfl hf Y1 (JzX _ _)) ?_;refine Z ?_;rw [J5,if_pos hr,hq];exact Jk rfl ⟨rfl,Tt⟩ Rf
  obtain ⟨arg,op,mask,value⟩:=c;dsimp only at hop;have h7:op=1∨op=2∨op=3∨op=4∨op=5∨op=6∨op=7:=by omega
  rcases h7 with rfl | rfl | rfl | rfl | rfl | rfl | rfl
  ·exact key _ (⟨arg,1,mask,value⟩,0) rfl rfl (JoY _)
  ·exact key _ (⟨arg,2,mask,value⟩,0) rfl rfl (JoY _)
  ·exact key _ (Ja5 ⟨arg,3,mask,value⟩ value) rfl rfl (JvH _)
  ·exact key _ (JmR ⟨arg,4,mask,value⟩) rfl rfl (JvJ _ ho)
  ·exact key _ (Jj7 ⟨arg,5,mask,value⟩) rfl rfl (JvK _ ho)
  ·exact key _ (JbR ⟨arg,6,mask,value⟩ value) rfl rfl (JvI _)
  ·exact key _ (Jd1 ⟨arg,7,mask,value⟩) rfl rfl (Jxp _ ho)
theorem Jux {a b:Nat} (ha:a < 18446744073709551616) (hb:b < 18446744073709551616):JbC .and .u64 a b=((a&&& b:Nat):Int):=
 Jq3 (k:= .u64) ha hb (by
  have:a&&& b≤a:=Nat.and_le_left;simp [IntKind.wrap,IntKind.signed,IntKind.bits] at this⊢;omega)
def JA (s:ByteArray):AV:= .v (.string s)
def JvU:List AV:= [
 .ag [JA ⟨#[61,61]⟩,fn0 218],
 .ag [JA ⟨#[33,61]⟩,fn0 219],
 .ag [JA ⟨#[60]⟩,fn0 220],
 .ag [JA ⟨#[60,61]⟩,fn0 221],
 .ag [JA ⟨#[62]⟩,fn0 222],
 .ag [JA ⟨#[62,61]⟩,fn0 223],
 .ag [JA ⟨#[38]⟩,fn0 224]]
theorem JzY:Tells Tryz.prog 162 [] (.sl 2 7 (JfV JvU)):=by
 refine Jc Tryz.func162 rfl rfl fun nx=> ?_
 refine Z ?_
 refine Jb rfl (JnQ ⟨⟨⟨⟨⟨⟨⟨trivial,rfl⟩,rfl⟩,rfl⟩,rfl⟩,rfl⟩,rfl⟩,rfl⟩)
theorem Jxu (c:Cnd):NoId (JZ c):=NoId.ag (by intro y hy;simp only [List.mem_cons,List.not_mem_nil,or_false] at hy;rcases hy with rfl | rfl | rfl | rfl <;> exact NoId.v _)
theorem JzZ:NoId (.sl 2 7 (JfV JvU)):=NoId.sl (by
 intro i hi x hx
 match i,hi with
 | 0,_ | 1,_ | 2,_ | 3,_ | 4,_ | 5,_ | 6,_=> rcases List.mem_cons.1 hx with rfl | hx;exact NoId.v _;rcases List.mem_cons.1 hx with rfl | hx;exact NoId.fn Si Si;cases hx)
def Jht (n:Int):AV:= .fn (.func 297) [] [.rp [int n]]
theorem Jz0 (n:Int) (h:0≤n∧n≤100000):Tells Tryz.prog 297 [.rp [int n]] (int (n - 1)):=by
 refine Jc Tryz.func297 rfl rfl fun nx=> ?_
 refine Z ?_
 refine Jb rfl (Jf (Jq Om Om))
theorem Jro (n:Int):Tells Tryz.prog 255 [int n] (Jht n):=by
 refine Jc Tryz.func255 rfl rfl fun nx=> ?_
 (repeat ((conv=>whnf);first|refine ω0 ?_|refine ω1 ?_|refine ω2 ?_|refine ω3 ?_|refine ω4 rfl ?_|refine ω5 rfl ?_|refine ω6 ?_|refine ω7 ?_|refine ⟨rfl,?_⟩|refine ⟨trivial,?_⟩|refine ⟨⟨rfl,Nat.le_of_ble_eq_true rfl⟩,?_⟩|refine ⟨⟨by kernel_rfl,by kernel_rfl⟩,?_⟩|refine ⟨by decide,?_⟩|refine JdE ?_|refine Jdd ?_))
 refine AW.le (JcJ (L:= [(2,Jht n)]) (bx:= []) (pm:= []) (nn:=0) [((0,nx), .c [int n])] rfl rfl Sf Sf ⟨Frz.fn Tt ⟨Frz.bp (.head _) rfl,Tt⟩,Tt⟩) ?_
 refine Z ?_
 refine Jb rfl Rf
def JkU:List AV:= [
 .ag [.v (.string ⟨#[107,105,108,108]⟩), .v (.int .u32 2147483648), .v .nilFunc],
 .ag [.v (.string ⟨#[107,105,108,108,95,116,104,114,101,97,100]⟩), .v (.int .u32 0), .v .nilFunc],
 .ag [.v (.string ⟨#[116,114,97,112]⟩), .v (.int .u32 196608), .v .nilFunc],
 .ag [.v (.string ⟨#[101,114,114,110,111]⟩), .v (.int .u32 327680),Jht 4096],
 .ag [.v (.string ⟨#[110,111,116,105,102,121]⟩), .v (.int .u32 2143289344), .v .nilFunc],
 .ag [.v (.string ⟨#[116,114,97,99,101]⟩), .v (.int .u32 2146435072),Jht 65536],
 .ag [.v (.string ⟨#[108,111,103]⟩), .v (.int .u32 2147221504), .v .nilFunc],
 .ag [.v (.string ⟨#[97,108,108,111,119]⟩), .v (.int .u32 2147418112), .v .nilFunc]]
def JEk:AV:= .sl 3 8 (JfV JkU)
theorem Jrp:Tells Tryz.prog 175 [] JEk:=by
 refine Jc Tryz.func175 rfl rfl fun nx=> ?_
 refine Z ?_
 refine Ja rfl rfl (Jro 4096) Y1 fun nx=> ?_
 refine Z ?_
 refine Ja rfl rfl (Jro 65536) Y1 fun nx=> ?_
 refine Z ?_
 refine Jb rfl (JnQ ⟨⟨⟨⟨⟨⟨⟨⟨trivial,rfl⟩,rfl⟩,rfl⟩,rfl⟩,rfl⟩,rfl⟩,rfl⟩,rfl⟩)
theorem JBQ (k:Int) (h:k < 1∨8 < k):Tells Tryz.prog 117 [int k] (.tup [.ag [.v (.string ⟨#[]⟩), .v (.int .u32 0), .v .nilFunc],Ji false]):=by
 refine Jc Tryz.func117 rfl rfl fun nx=> ?_
 refine Z ?_
 refine Ja rfl rfl Jrp trivial fun nx=> ?_
 refine Z ?_
 intro c h1;cases c
 ·refine Z ?_;intro c h2;cases c
  ·simp at h1 h2;omega
  ·refine Z ?_
   (refine Jk rfl ?_ ?_;(· exact ⟨rfl,Tt⟩));exact Rf
 ·refine Z ?_
  (refine Jk rfl ?_ ?_;(· exact ⟨rfl,Tt⟩));exact Rf
theorem Jxv (k:Nat) (h:k < 8):Tells Tryz.prog 117 [int (k+1)] (.tup [JfV JkU k,Ji true]):=by
 refine Jc Tryz.func117 rfl rfl fun nx=> ?_
 refine Z ?_
 refine Ja rfl rfl Jrp trivial fun nx=> ?_
 refine Z ?_
 intro c h1;cases c
 ·refine Z ?_;rcases k with _ | _ | _ | _ | _ | _ | _ | _ | k
  iterate 8
   ·refine ⟨⟨by decide,by decide⟩, ?_⟩;refine Z ?_
    (refine Jk rfl ?_ ?_;(· exact ⟨rfl,Tt⟩));exact Rf
  ·omega
 ·simp at h1;omega
def JmU (k:Int):Int:=if k=4 then 4095 else if k=6 then 65535 else 0
def act (k n:Int):AV:= .ag [int k,int n]
def Ja7 (k n:Int):Bool:=decide (1≤k)&& decide (k≤8)&& decide (0≤n)&& decide (n≤JmU k)
theorem Jds (s:ByteArray) (c:Int):Tells Tryz.prog 153 [.ag [.v (.string s), .v (.int .u32 c), .v .nilFunc]] (int 0):=by
 refine Jc Tryz.func153 rfl rfl fun nx=> ?_
 refine Z ?_
 refine Jb rfl Rf
theorem JhW (s:ByteArray) (c n:Int) (h:0≤n∧n≤100000):Tells Tryz.prog 153 [.ag [.v (.string s), .v (.int .u32 c),Jht n]] (int (n - 1)):=by
 refine Jc Tryz.func153 rfl rfl fun nx=> ?_
 refine Z ?_
 refine Ja rfl rfl (Jz0 n h) Y1 fun nx=> ?_
 refine Z ?_
 refine Jb rfl Rf
theorem JlS (k:Nat) (h:k < 8):∃s c m,JfV JkU k= .ag [.v (.string s), .v (.int .u32 c),m]∧(m= .v .nilFunc∨∃n,m=Jht n)∧Tells Tryz.prog 153 [JfV JkU k] (int (JmU (k+1))):=by
 rcases k with _ | _ | _ | _ | _ | _ | _ | _ | k
 ·exact ⟨_,_,_,rfl, .inl rfl,Jds _ _⟩
 ·exact ⟨_,_,_,rfl, .inl rfl,Jds _ _⟩
 ·exact ⟨_,_,_,rfl, .inl rfl,Jds _ _⟩
 ·exact ⟨_,_,_,rfl, .inr ⟨_,rfl⟩,JhW _ _ 4096 Dc⟩
 ·exact ⟨_,_,_,rfl, .inl rfl,Jds _ _⟩
 ·exact ⟨_,_,_,rfl, .inr ⟨_,rfl⟩,JhW _ _ 65536 Dc⟩
 ·exact ⟨_,_,_,rfl, .inl rfl,Jds _ _⟩
 ·exact ⟨_,_,_,rfl, .inl rfl,Jds _ _⟩
 ·omega
theorem JvV {k n:Int} (h:k < 1∨8 < k):Ja7 k n=false:=by simp [Ja7];omega
theorem JDo (k n:Int) (m:AV) (s:ByteArray) (c:Int) (hm:m= .v .nilFunc∨∃n,m=Jht n) (hk:1≤k∧k≤8)
 (h26:Tells Tryz.prog 117 [int k] (.tup [.ag [.v (.string s), .v (.int .u32 c),m],Ji true])) (h27:Tells Tryz.prog 153 [.ag [.v (.string s), .v (.int .u32 c),m]] (int (JmU k))):
 Tells Tryz.prog 97 [act k n] (Ji (Ja7 k n)):=by
 refine Jc Tryz.func97 rfl rfl fun nx=> ?_
 refine Z ?_
 refine Ja rfl rfl h26 Y1 fun nx=> ?_
 rcases hm with rfl | ⟨n',rfl⟩
 all_goals
  refine Z ?_
  (refine JJ 13 Kr Kr Kr ?_)
  refine Z ?_;intro c h1;cases c
  ·refine Z ?_;refine Jb rfl (JN ?_);simp at h1;simp [Ja7];omega
  refine Z ?_;refine Jaj (JV rfl rfl h27 Y1 (NoId.v _)) ?_;refine Z ?_;intro c h2;cases c
  ·refine Z ?_;refine Jb rfl (JN ?_);simp at h1 h2;simp [Ja7];omega
  ·refine Z ?_;refine Jb rfl (JN ?_);simp at h1 h2;simp [Ja7];omega
theorem JlT (k n:Int):Tells Tryz.prog 97 [act k n] (Ji (Ja7 k n)):=by
 by_cases hk:k < 1∨8 < k
 ·refine Jc Tryz.func97 rfl rfl fun nx=> ?_;refine Z ?_;refine Ja rfl rfl (JBQ k hk) Y1 fun nx=> ?_;refine Z ?_
  (refine JJ 13 Kr Kr Kr ?_)
  refine Z ?_;refine Jb rfl (JN (JvV hk).symm)
 ·obtain ⟨j,hj,rfl⟩:∃j:Nat,j < 8∧k=(j:Int)+1:=⟨(k - 1).toNat,Om,Om⟩;obtain ⟨s,c,m,hr,ho,hm⟩:=JlS j hj;have h26:=Jxv j hj;rw [hr] at h26 hm;exact JDo _ n m s c ho Om h26 hm
abbrev A2:=Int×Int
def Jn4 (a:A2):AV:=act a.1 a.2
theorem Jhu {α:Type} {p:α→Bool} {l:List α} {i:Nat} (d:α) (hi:i < l.length) (hb:∀j,j < i→p (l.getD j d)=false) (h:p (l.getD i d)=true):l.findIdx? p=some i:=by
 rw [List.findIdx?_eq_some_iff_getElem]
 refine ⟨hi,by simpa [List.getD,hi] using h,fun j hj=> ?_⟩
 have:=hb j hj
 have hj':j < l.length:=by omega
 simpa [List.getD,hj'] using this
theorem Jfn {α:Type} {p:α→Bool} {l:List α} (d:α) (hb:∀j,j < l.length→p (l.getD j d)=false):l.findIdx? p=none:=by
 rw [List.findIdx?_eq_none_iff]
 intro x hx
 obtain ⟨j,hj,rfl⟩:=List.getElem_of_mem hx
 have:=hb j hj
 simpa [List.getD,hj] using this
def Jfo:Option Nat→Int
 | some i=> i
 | none=> -1
theorem Jgi (o:Option Nat):decide (0≤Jfo o)=o.isSome:=by cases o <;> simp [Jfo]
structure Rul where
 name:ByteArray
 act:A2
 conds:List Cnd
structure Pol where
 dflt:A2
 x32:Bool
 rules:List Rul
def Jn:Rul:=⟨⟨#[]⟩,(0,0), []⟩
def JaS (r:Rul):AV:= .ag [JA r.name,int r.act.1,int r.act.2,Jaz r.conds]
def Jak (l:List Rul):AV:=JK 4 JaS Jn l
def JcT (p:Pol):AV:= .ag [int p.dflt.1,int p.dflt.2,Ji p.x32,Jak p.rules]
theorem Jz1 (l:List Int) (p:Int→Bool) (f:Nat) (hl:l.length≤1000000000) (hp:∀i,i < l.length→Tells Tryz.prog f [int (l.getD i 0)] (Ji (p (l.getD i 0)))):
 Tells Tryz.prog 216 [JK 1 int 0 l,fn0 f] (int (Jfo (l.findIdx? p))):=by
 refine Jc Tryz.func216 rfl rfl fun nx=> ?_
 refine Z ?_
 refine Js (fun s:Nat×Nat=> mk 19 [(0,JK 1 int 0 l),(1,fn0 f),(7,int l.length),(8,int s.1)] ⟨[], [],s.2,0⟩) (fun s=> s.1≤l.length∧∀j,j < s.1→p (l.getD j 0)=false) (fun s=> l.length - s.1) ?_ ?_
 ·exact ⟨(0,nx),⟨by simp,by intro j hj;simp at hj⟩,JaM rfl rfl Y4⟩
 ·rintro ⟨i,nx⟩ ⟨h1,h2⟩;dsimp only at h1 h2;refine Z ?_;intro c h3;cases c
  ·have h3:=Jw h3;dsimp only at h3;refine Z ?_;refine Jb rfl (Jf ?_);rw [Jfn 0 (fun j hj=> h2 j Om)];rfl
  ·have h3:=Ju h3;dsimp only at h3;have hi:i < l.length:=by omega
   refine Z ?_;refine ⟨⟨Dm,Dm⟩, ?_⟩;refine Z ?_;refine Ja rfl rfl (hp i hi) Y1 fun nx'=> ?_;intro c h4;cases c
   ·refine Z ?_;refine back (i+1,nx') ⟨Dm,fun j hj=> ?_⟩ Dm (JaM rfl rfl ⟨Rf,Rf,Rf,Jf (Jx Dm),Tt⟩);dsimp only at hj;rcases Nat.lt_or_ge j i with h | h
    ·exact h2 j h
    ·obtain rfl:j=i:=(by omega);exact h4.symm
   ·refine Z ?_;refine Jb rfl (Jf ?_);rw [Jhu 0 hi h2 h4.symm];rfl
theorem Jrq (l:List Int) (p:Int→Bool) (f:Nat) (hl:l.length≤1000000000) (hp:∀i,i < l.length→Tells Tryz.prog f [int (l.getD i 0)] (Ji (p (l.getD i 0)))):
 Tells Tryz.prog 159 [JK 1 int 0 l,fn0 f] (Ji (l.any p)):=by
 refine Jc Tryz.func159 rfl rfl fun nx=> ?_
 refine Z ?_
 refine Ja rfl rfl (Jz1 l p f hl hp) Y2 fun nx'=> ?_
 refine Z ?_
 intro c h;cases c
 all_goals
  refine Z ?_;refine Jb rfl (JN ?_);rw [h,← List.findIdx?_isSome];exact Jgi _
theorem Jz2 (l:List Cnd) (p:Cnd→Bool) (f:Nat) (hl:l.length≤1000000000) (hp:∀i,i < l.length→Tells Tryz.prog f [JZ (l.getD i cnd0)] (Ji (p (l.getD i cnd0)))):
 Tells Tryz.prog 104 [JK 4 JZ cnd0 l,fn0 f] (int (Jfo (l.findIdx? p))):=by
 refine Jc Tryz.func104 rfl rfl fun nx=> ?_
 refine Z ?_
 refine Js (fun s:Nat×Nat=> mk 19 [(0,JK 4 JZ cnd0 l),(1,fn0 f),(7,int l.length),(8,int s.1)] ⟨[], [],s.2,0⟩) (fun s=> s.1≤l.length∧∀j,j < s.1→p (l.getD j cnd0)=false) (fun s=> l.length - s.1) ?_ ?_
 ·exact ⟨(0,nx),⟨by simp,by intro j hj;simp at hj⟩,JaM rfl rfl Y4⟩
 ·rintro ⟨i,nx⟩ ⟨h1,h2⟩;dsimp only at h1 h2;refine Z ?_;intro c h3;cases c
  ·have h3:=Jw h3;dsimp only at h3;refine Z ?_;refine Jb rfl (Jf ?_);rw [Jfn cnd0 (fun j hj=> h2 j Om)];rfl
  ·have h3:=Ju h3;dsimp only at h3;have hi:i < l.length:=by omega
   refine Z ?_;refine ⟨⟨Dm,Dm⟩, ?_⟩;refine Z ?_;refine Ja rfl rfl (hp i hi) Y1 fun nx'=> ?_;intro c h4;cases c
   ·refine Z ?_;refine back (i+1,nx') ⟨Dm,fun j hj=> ?_⟩ Dm (JaM rfl rfl ⟨Rf,Rf,Rf,Jf (Jx Dm),Tt⟩);dsimp only at hj;rcases Nat.lt_or_ge j i with h | h
    ·exact h2 j h
    ·obtain rfl:j=i:=(by omega);exact h4.symm
   ·refine Z ?_;refine Jb rfl (Jf ?_);rw [Jhu cnd0 hi h2 h4.symm];rfl
theorem Jrr (l:List Cnd) (p:Cnd→Bool) (f:Nat) (hl:l.length≤1000000000) (hp:∀i,i < l.length→Tells Tryz.prog f [JZ (l.getD i cnd0)] (Ji (p (l.getD i cnd0)))):
 Tells Tryz.prog 55 [JK 4 JZ cnd0 l,fn0 f] (Ji (l.any p)):=by
 refine Jc Tryz.func55 rfl rfl fun nx=> ?_
 refine Z ?_
 refine Ja rfl rfl (Jz2 l p f hl hp) Y2 fun nx'=> ?_
 refine Z ?_
 intro c h;cases c
 all_goals
  refine Z ?_;refine Jb rfl (JN ?_);rw [h,← List.findIdx?_isSome];exact Jgi _
theorem Jz3 (l:List Rul) (p:Rul→Bool) (f:Nat) (hl:l.length≤1000000000) (hp:∀i,i < l.length→Tells Tryz.prog f [JaS (l.getD i Jn)] (Ji (p (l.getD i Jn)))):
 Tells Tryz.prog 59 [JK 4 JaS Jn l,fn0 f] (int (Jfo (l.findIdx? p))):=by
 refine Jc Tryz.func59 rfl rfl fun nx=> ?_
 refine Z ?_
 refine Js (fun s:Nat×Nat=> mk 19 [(0,JK 4 JaS Jn l),(1,fn0 f),(7,int l.length),(8,int s.1)] ⟨[], [],s.2,0⟩) (fun s=> s.1≤l.length∧∀j,j < s.1→p (l.getD j Jn)=false) (fun s=> l.length - s.1) ?_ ?_
 ·exact ⟨(0,nx),⟨by simp,by intro j hj;simp at hj⟩,JaM rfl rfl Y4⟩
 ·rintro ⟨i,nx⟩ ⟨h1,h2⟩;dsimp only at h1 h2;refine Z ?_;intro c h3;cases c
  ·have h3:=Jw h3;dsimp only at h3;refine Z ?_;refine Jb rfl (Jf ?_);rw [Jfn Jn (fun j hj=> h2 j Om)];rfl
  ·have h3:=Ju h3;dsimp only at h3;have hi:i < l.length:=by omega
   refine Z ?_;refine ⟨⟨Dm,Dm⟩, ?_⟩;refine Z ?_;refine Ja rfl rfl (hp i hi) Y1 fun nx'=> ?_;intro c h4;cases c
   ·refine Z ?_;refine back (i+1,nx') ⟨Dm,fun j hj=> ?_⟩ Dm (JaM rfl rfl ⟨Rf,Rf,Rf,Jf (Jx Dm),Tt⟩);dsimp only at hj;rcases Nat.lt_or_ge j i with h | h
    ·exact h2 j h
    ·obtain rfl:j=i:=(by omega);exact h4.symm
   ·refine Z ?_;refine Jb rfl (Jf ?_);rw [Jhu Jn hi h2 h4.symm];rfl
theorem Jz4 (l:List Rul) (p:Rul→Bool) (f:Nat) (hl:l.length≤1000000000) (hp:∀i,i < l.length→Tells Tryz.prog f [JaS (l.getD i Jn)] (Ji (p (l.getD i Jn)))):
 Tells Tryz.prog 98 [JK 4 JaS Jn l,fn0 f] (Ji (l.any p)):=by
 refine Jc Tryz.func98 rfl rfl fun nx=> ?_
 refine Z ?_
 refine Ja rfl rfl (Jz3 l p f hl hp) Y2 fun nx'=> ?_
 refine Z ?_
 intro c h;cases c
 all_goals
  refine Z ?_;refine Jb rfl (JN ?_);rw [h,← List.findIdx?_isSome];exact Jgi _
def JvW (s:ByteArray):AV:= .ag [JA s,int (-1),int (-1),int (-1),int (-1),int (-1),int 0,int 0]
def Jfp (n:Int):Bool:=decide (n < -1)|| decide (n > 1073741823)
theorem Jj8 (n:Int):Tells Tryz.prog 160 [int n] (Ji (Jfp n)):=by
 refine Jc Tryz.func160 rfl rfl fun nx=> ?_
 refine Z ?_
 intro c t1;cases c
 ·refine Z ?_;intro c t2;cases c
  ·refine Z ?_;exact Jb rfl (JN (by rw [Jfp,← t1,← t2];rfl))
  ·refine Z ?_;exact Jb rfl (JN (by rw [Jfp,← t1,← t2];rfl))
 ·refine Z ?_;exact Jb rfl (JN (by rw [Jfp,← t1];rfl))
theorem JtD (s:ByteArray):Tells Tryz.prog 102 [JvW s] (Ji true):=by
 have hc:=Jrq [-1,-1,-1,-1,-1] Jfp 160 Dc (fun i _=> Jj8 _)
 rw [show [(-1:Int),-1,-1,-1,-1].any Jfp=false by decide] at hc
 refine Jc Tryz.func102 rfl rfl fun nx=> ?_
 (refine Jy ?_;refine JQ ?_;refine Jy ?_)
 refine Jbl (n:=30) (nx:=nx+1) (nn:=1) (pm:= []) (bx:= []) (L:= [(1, .rp [JA s,int (-1),int (-1),int (-1),int (-1),int (-1),int 0,int 0])]) (df:=some []) [((0,nx), .c [JA s,int (-1),int (-1),int (-1),int (-1),int (-1),int 0,int 0])] rfl rfl rfl (List.Perm.refl _) Sf ⟨Frz.bp (.head _) rfl,Tt⟩ ?_
 refine JF (fun n=> match n with | 0=> true | _=> false) 2 ?_
 refine Z ?_
 refine JoL (n:=5) (e:=3) (cs:= [int (-1),int (-1),int (-1),int (-1),int (-1),int 0,int 0]) rfl rfl Tryz.underlying70 Tryz.underlying3 Kr Dc Dc (by simp [int,AV.cells]) ?_
 refine Z ?_
 refine Ja rfl rfl hc ⟨AVle.sl_fun fun k hk=> ?_,Y1⟩ fun nx1=> ?_
 ·match k,hk with
  | 0,_ | 1,_ | 2,_ | 3,_ | 4,_=> rfl
 refine Z ?_
 exact Jb rfl Rf
def m1A:AV:= .ag [int (-1),int (-1),int (-1),int (-1),int (-1)]
theorem Jp3 (s:ByteArray) (hs:s.size≤9223372036854775807) (b:Bool) (hb:JaQ s.data.toList=b):Tells Tryz.prog 52 [.sl 8 1 (fun _=> JvW s)] (.tup [int 0,int (if b then 0 else 13)]):=by
 have hn:=JmT s hs
 rw [hb] at hn
 have hr:=JtD s
 refine Jc Tryz.func52 rfl rfl fun nx=> ?_
 refine Z ?_
 refine Js (fun y:Bool×Nat=> mk 88 [(2,int 0),(3,int 0),(14, .sl 8 1 (fun _=> JvW s)),(15,int 1),(16,int (bif y.1 then 1 else 0))] ⟨[], [],y.2,0⟩) (fun y=> y.1=true→b=true) (fun y=> if y.1 then 0 else 1) ?_ ?_
 ·exact ⟨(false,nx+1),(fun h=> by cases h),Je (pm:= []) [] [] rfl rfl (List.nil_sublist _) Sf Tt Tt Y5⟩
 ·rintro ⟨y,nx1⟩ hy;cases y
  ·refine Z ?_;refine ⟨⟨by show (0:Int)≤0;decide,by show (0:Int) < 1;decide⟩, ?_⟩;refine Z ?_;refine Ja rfl rfl hn Y1 fun nx2=> ?_;cases b
   ·refine Z ?_;exact Jb rfl Rf
   ·refine Z ?_
    (refine JJ 13 Kr Kr Kr ?_)
    refine Z ?_;refine Ja rfl rfl hr Y1 fun nx3=> ?_;refine Z ?_;refine Js (fun z:Nat×Nat=> mk 88 [(2,int 0),(3,int 0),(5,int 0),(6, .bp (0,nx1) 0),(14, .sl 8 1 (fun _=> JvW s)),(15,int 1),(16,int 0),(59,m1A),(60,int z.1)] ⟨[((0,nx1), .c [JA s,int (-1),int (-1),int (-1),int (-1),int (-1),int 0,int 0])], [],z.2,1⟩) (fun z=> z.1≤5) (fun z=> 5 - z.1) ?_ ?_
    ·exact ⟨(0,nx3),Nat.zero_le _,Je (pm:= []) _ [] rfl rfl Sf Sf ⟨rfl,OwnLe.refl _,Tt⟩ Tt Y9⟩
    ·rintro ⟨k,nx4⟩ hk;dsimp only at hk;rcases k with _ | _ | _ | _ | _ | _ | k
     iterate 5
      ·refine Z ?_;refine back (_+1,nx4) Dm Dm (Je (pm:= []) _ [] rfl rfl Sf Sf ⟨rfl,OwnLe.refl _,Tt⟩ Tt Y9)
     ·refine Z ?_;exact back (true,nx4) (fun _=> rfl) (by show 0 < 1;decide) (Je (pm:= []) [] [] rfl rfl (List.nil_sublist _) Sf Tt Tt Y5)
     ·omega
  ·have hbt:=hy rfl;rw [hbt];refine Z ?_;exact Jb rfl Rf
structure TRow where
 name:ByteArray
 a0:Int
 a1:Int
 a2:Int
 a3:Int
 a4:Int
 mux:Int
 sub:Int
def TRow.num (r:TRow):Nat→Int
 | 0=> r.a0
 | 1=> r.a1
 | 2=> r.a2
 | 3=> r.a3
 | _=> r.a4
def Jd:TRow:=⟨⟨#[]⟩,0,0,0,0,0,0,0⟩
def JbH (r:TRow):List AV:= [JA r.name,int r.a0,int r.a1,int r.a2,int r.a3,int r.a4,int r.mux,int r.sub]
def Jfd (r:TRow):AV:= .ag (JbH r)
def JS (l:List TRow):AV:=JK 8 Jfd Jd l
def JDp (r:TRow):AV:= .ag [int r.a0,int r.a1,int r.a2,int r.a3,int r.a4]
theorem JBt:PairT Tryz.prog 253 3:=⟨by kernel_rfl,by kernel_rfl,by kernel_rfl,by kernel_rfl,fun _=> rfl,fun _=> rfl,fun _ _=> rfl⟩
theorem JBR:(Tryz.prog.info? 4).bind (·.zero)=some (.bool false):=by kernel_rfl
theorem JfZ (s nx nn:Nat) (es:List (Int×Int)) (a n:Int):
 ECall Tryz.prog 103 [.om (0,s),int a,int n] ⟨[((0,s), .mp (es.map Ja2))], [],nx,1⟩ fun r h'=> ∃nx' nn',r=Ji (decide ((a,n)∈es))∧h'=⟨[((0,s), .mp ((JdM (a,n) es).map Ja2))], [],nx',nn'⟩:=by
 refine ECall.wk (Jo Tryz.func103 rfl rfl ?_)
 (refine Jy ?_;refine JQ ?_;refine Jy ?_;refine JQ ?_;refine Jy ?_)
 refine AW.le (E':=mk 18 [(0, .om (0,s)),(6,Ji false),(7, .bp (1,nx) 0)] ⟨[((1,nx), .c [int a,int n]),((0,s), .mp (es.map Ja2))], [],nx+1,2⟩) (Je (pm:= []) _ [] rfl rfl Sf Sf Bf Tt Y3) ?_
 refine Jy ?_
 refine JF (Ef [0]) 3 ?_
 refine Z ?_
 refine Jj (b:=kA (a,n)) rfl ?_
 (conv=> whnf)
 refine Jtx (x:=(a,n)) (i:=(0,s)) (es:=es) rfl Tryz.underlying204 JBt JBR rfl rfl rfl ?_
 refine Jy ?_
 refine JF (Ef [0]) 3 ?_
 refine Z ?_
 refine Jj (b:=kA (a,n)) rfl ?_
 (conv=> whnf)
 refine AOp.any (Jty (x:=(a,n)) (i:=(0,s)) (es:=es) (.inl rfl) Tryz.underlying204 JBt rfl rfl rfl rfl ?_)
 refine Z ?_
 exact Jt rfl ⟨_,⟨[((0,s), .mp ((JdM (a,n) es).map Ja2))], [],nx+1,1⟩,Rf,Jr _ _ rfl (.cons _ Sf) Sf Bf Pf,_,_,rfl,rfl⟩
def JgE (r:TRow):Bool:= [r.a0,r.a1,r.a2,r.a3,r.a4].any Jfp
def Jdt (r:TRow):Bool:= !JgE r&& (if r.mux=0 then decide (r.sub=0) else (decide (r.mux=1)|| decide (r.mux=2))&& decide (1≤r.sub)&& decide (r.sub≤255))
theorem JtE (r:TRow):Tells Tryz.prog 102 [Jfd r] (Ji (Jdt r)):=by
 have hc:=Jrq [r.a0,r.a1,r.a2,r.a3,r.a4] Jfp 160 (by show 5≤_;decide) (fun i _=> Jj8 _)
 unfold Jdt
 have hb:JgE r= [r.a0,r.a1,r.a2,r.a3,r.a4].any Jfp:=rfl
 rw [← hb] at hc
 generalize JgE r=b at hc
 obtain ⟨nm,a0,a1,a2,a3,a4,mux,sub⟩:=r
 dsimp only at hc⊢
 refine Jc Tryz.func102 rfl rfl fun nx=> ?_
 (refine Jy ?_;refine JQ ?_;refine Jy ?_)
 refine Jbl (n:=30) (nx:=nx+1) (nn:=1) (pm:= []) (bx:= []) (L:= [(1, .rp [JA nm,int a0,int a1,int a2,int a3,int a4,int mux,int sub])]) (df:=some []) [((0,nx), .c [JA nm,int a0,int a1,int a2,int a3,int a4,int mux,int sub])] rfl rfl rfl (List.Perm.refl _) Sf ⟨Frz.bp (.head _) rfl,Tt⟩ ?_
 refine JF (fun n=> match n with | 0=> true | _=> false) 2 ?_
 refine Z ?_
 refine JoL (n:=5) (e:=3) (cs:= [int a0,int a1,int a2,int a3,int a4,int mux,int sub]) rfl rfl Tryz.underlying70 Tryz.underlying3 Kr Dc (by show 5 * 1≤7;decide) (by simp [int,AV.cells]) ?_
 refine Z ?_
 refine Ja rfl rfl hc ⟨AVle.sl_fun fun k hk=> ?_,Y1⟩ fun nx1=> ?_
 ·match k,hk with
  | 0,_ | 1,_ | 2,_ | 3,_ | 4,_=> rfl
 cases b
 ·refine Z ?_;intro c g;cases c
  ·have g:¬mux=0:=fun h=> by subst h;simp at g
   rw [if_neg g];refine Z ?_;intro c t1;cases c
   ·have t1:decide (mux=1)=false:=decide_eq_false (by simpa using t1.symm);rw [t1];refine Z ?_;intro c t2;cases c
    ·have t2:decide (mux=2)=false:=decide_eq_false (by simpa using t2.symm);rw [t2];refine Z ?_;exact Jb rfl Rf
    ·have t2:decide (mux=2)=true:=decide_eq_true (by simpa using t2.symm);rw [t2];refine Z ?_;intro c t3;cases c
     ·refine Z ?_;exact Jb rfl (JN (by rw [show decide (1≤sub)=false from t3.symm];rfl))
     ·refine Z ?_;intro c t4;cases c
      all_goals
       refine Z ?_;exact Jb rfl (JN (t4.trans (by rw [show decide (1≤sub)=true from t3.symm];rfl)))
   ·have t1:decide (mux=1)=true:=decide_eq_true (by simpa using t1.symm);rw [t1];refine Z ?_;intro c t3;cases c
    ·refine Z ?_;exact Jb rfl (JN (by rw [show decide (1≤sub)=false from t3.symm];rfl))
    ·refine Z ?_;intro c t4;cases c
     all_goals
      refine Z ?_;exact Jb rfl (JN (t4.trans (by rw [show decide (1≤sub)=true from t3.symm];rfl)))
  ·have g:mux=0:=by simpa using g.symm
   rw [if_pos g];refine Z ?_;intro c h;cases c
   all_goals
    refine Z ?_;exact Jb rfl (JN (h.trans (by rw [Bool.eq_iff_iff];simp)))
 ·refine Z ?_;exact Jb rfl (JN Si)
structure Inf where
 name:ByteArray
 token:Nat
 bit:Bool
 bits:Int
def Jb0:Inf:=⟨⟨#[]⟩,0,false,0⟩
def Ji9 (i:Inf):List AV:= [JA i.name,u32 i.token,Ji i.bit,int i.bits]
def JDq (i:Inf):AV:= .ag (Ji9 i)
def infL:List Inf:= [⟨⟨#[120,56,54,95,54,52]⟩,3221225534,false,64⟩,⟨⟨#[120,51,50]⟩,3221225534,true,64⟩,⟨⟨#[105,51,56,54]⟩,1073741827,false,32⟩,⟨⟨#[97,114,109,54,52]⟩,3221225655,false,64⟩,⟨⟨#[114,105,115,99,118,54,52]⟩,3221225715,false,64⟩]
def infN:List (Nat×Inf):= [(0,infL.getD 0 Jb0),(1,infL.getD 1 Jb0),(2,infL.getD 2 Jb0),(3,infL.getD 3 Jb0),(4,infL.getD 4 Jb0)]
def JDr (p:Nat×Inf):List AV:= [int p.1,JDq p.2]
def Jxw:AV:= .ag (infL.flatMap Ji9)
theorem Jxx:IterSpec Tryz.prog 138 [] [] JDr infN:=by
 intro i σ Cb Cp I J hc s0 nx nn h0
 refine ECall.wk (Jo Tryz.func138 rfl rfl ?_)
 refine AW.le (E':=mk 22 [(0, .yl i)] ⟨Cb s0,Cp s0,nx,0⟩) (Et (bx:=Cb s0) (pm:=Cp s0) rfl rfl Bf Pf Y1) ?_
 refine Z ?_
 refine AW.le (E':=mk 22 [(0, .yl i),(11,Jxw),(12,int 0)] ⟨Cb s0,Cp s0,nx+1,0⟩) (Je (bx:=Cb s0) (pm:=Cp s0) _ _ rfl rfl (.cons _ Sf) Sf Bf Pf Y3) ?_
 refine Js (fun y:Nat×σ×Nat=> mk 22 [(0, .yl i),(11,Jxw),(12,int y.1)] ⟨Cb y.2.1,Cp y.2.1,y.2.2,0⟩) (fun y=> y.1≤5∧I (infN.take y.1) y.2.1) (fun y=> 5 - y.1) ?_ ?_
 ·exact ⟨(0,s0,nx+1),⟨Nat.zero_le _,h0⟩,Et rfl rfl Bf Pf Y3⟩
 ·rintro ⟨k,s,nx1⟩ ⟨hk,hI⟩;dsimp only at hk hI;rcases k with _ | _ | _ | _ | _ | _ | k
  ·refine Z ?_;refine Jex [((0,nx1), .c (Ji9 (infL.getD 0 Jb0)))] [] rfl rfl rfl hc (show infN=infN.take 0++(0,infL.getD 0 Jb0)::infN.drop (0+1) from rfl) hI Y2 (fun s' nx' hI'=> ?_) (fun s' nx' hJ=> ?_)
   ·refine Z ?_;exact back (0+1,s',nx') ⟨Dm,hI'⟩ Dm (Je _ _ rfl rfl (.cons _ Sf) Sf Bf Pf Y3)
   ·refine Z ?_;exact Jt rfl ⟨_,⟨Cb s',Cp s',nx',0⟩,Rf,Jr _ _ rfl (.cons _ Sf) Sf Bf Pf,s', .inr ⟨_,_,_,rfl,hJ⟩,rfl,rfl⟩
  ·refine Z ?_;refine Jex [((0,nx1), .c (Ji9 (infL.getD 1 Jb0)))] [] rfl rfl rfl hc (show infN=infN.take 1++(1,infL.getD 1 Jb0)::infN.drop (1+1) from rfl) hI Y2 (fun s' nx' hI'=> ?_) (fun s' nx' hJ=> ?_)
   ·refine Z ?_;exact back (1+1,s',nx') ⟨Dm,hI'⟩ Dm (Je _ _ rfl rfl (.cons _ Sf) Sf Bf Pf Y3)
   ·refine Z ?_;exact Jt rfl ⟨_,⟨Cb s',Cp s',nx',0⟩,Rf,Jr _ _ rfl (.cons _ Sf) Sf Bf Pf,s', .inr ⟨_,_,_,rfl,hJ⟩,rfl,rfl⟩
  ·refine Z ?_;refine Jex [((0,nx1), .c (Ji9 (infL.getD 2 Jb0)))] [] rfl rfl rfl hc (show infN=infN.take 2++(2,infL.getD 2 Jb0)::infN.drop (2+1) from rfl) hI Y2 (fun s' nx' hI'=> ?_) (fun s' nx' hJ=> ?_)
   ·refine Z ?_;exact back (2+1,s',nx') ⟨Dm,hI'⟩ Dm (Je _ _ rfl rfl (.cons _ Sf) Sf Bf Pf Y3)
   ·refine Z ?_;exact Jt rfl ⟨_,⟨Cb s',Cp s',nx',0⟩,Rf,Jr _ _ rfl (.cons _ Sf) Sf Bf Pf,s', .inr ⟨_,_,_,rfl,hJ⟩,rfl,rfl⟩
  ·refine Z ?_;refine Jex [((0,nx1), .c (Ji9 (infL.getD 3 Jb0)))] [] rfl rfl rfl hc (show infN=infN.take 3++(3,infL.getD 3 Jb0)::infN.drop (3+1) from rfl) hI Y2 (fun s' nx' hI'=> ?_) (fun s' nx' hJ=> ?_)
   ·refine Z ?_;exact back (3+1,s',nx') ⟨Dm,hI'⟩ Dm (Je _ _ rfl rfl (.cons _ Sf) Sf Bf Pf Y3)
   ·refine Z ?_;exact Jt rfl ⟨_,⟨Cb s',Cp s',nx',0⟩,Rf,Jr _ _ rfl (.cons _ Sf) Sf Bf Pf,s', .inr ⟨_,_,_,rfl,hJ⟩,rfl,rfl⟩
  ·refine Z ?_;refine Jex [((0,nx1), .c (Ji9 (infL.getD 4 Jb0)))] [] rfl rfl rfl hc (show infN=infN.take 4++(4,infL.getD 4 Jb0)::infN.drop (4+1) from rfl) hI Y2 (fun s' nx' hI'=> ?_) (fun s' nx' hJ=> ?_)
   ·refine Z ?_;exact back (4+1,s',nx') ⟨Dm,hI'⟩ Dm (Je _ _ rfl rfl (.cons _ Sf) Sf Bf Pf Y3)
   ·refine Z ?_;exact Jt rfl ⟨_,⟨Cb s',Cp s',nx',0⟩,Rf,Jr _ _ rfl (.cons _ Sf) Sf Bf Pf,s', .inr ⟨_,_,_,rfl,hJ⟩,rfl,rfl⟩
  ·refine Z ?_;exact Jt rfl ⟨_,⟨Cb s,Cp s,nx1,0⟩,Rf,HLe.refl _,s, .inl hI,rfl,rfl⟩
  ·omega
theorem Jrs:Tells Tryz.prog 77 [] (.fn (.func 138) [] []):=by
 refine Jc Tryz.func77 rfl rfl fun nx=> ?_
 refine Z ?_
 exact Jb rfl Rf
theorem Jxy {pre post:List (Nat×Inf)} {x:Nat×Inf} (h:infN=pre++x::post):(pre=infN.take 0∧x=(0,infL.getD 0 Jb0))∨(pre=infN.take 1∧x=(1,infL.getD 1 Jb0))∨(pre=infN.take 2∧x=(2,infL.getD 2 Jb0))∨(pre=infN.take 3∧x=(3,infL.getD 3 Jb0))∨(pre=infN.take 4∧x=(4,infL.getD 4 Jb0)):=by
 have hl:pre.length < 5:=by have:=congrArg List.length h;simp [infN] at this;omega
 have hp:pre=infN.take pre.length:=by rw [h];simp
 have hx:infN[pre.length]? =some x:=by rw [h];simp
 rcases (by omega:pre.length=0∨pre.length=1∨pre.length=2∨pre.length=3∨pre.length=4) with e | e | e | e | e
 all_goals rw [e] at hp hx
 ·exact .inl ⟨hp,(Option.some.inj hx).symm⟩
 ·exact .inr (.inl ⟨hp,(Option.some.inj hx).symm⟩)
 ·exact .inr (.inr (.inl ⟨hp,(Option.some.inj hx).symm⟩))
 ·exact .inr (.inr (.inr (.inl ⟨hp,(Option.some.inj hx).symm⟩)))
 ·exact .inr (.inr (.inr (.inr ⟨hp,(Option.some.inj hx).symm⟩)))
def Jeo (num:Nat):Bool:=decide (num&&& 1073741824≠0)&& decide (num≠4294967295)
def Jn5 (arch:Nat) (w:Bool) (x:Nat×Inf):Bool:=decide (x.2.token=arch)&& ((decide (x.1≠0)&& decide (x.1≠1))|| (x.2.bit ==w))
structure Rec where
 num:Nat
 arch:Nat
 ptr:Nat
 a0:Nat
 a1:Nat
 a2:Nat
 a3:Nat
 a4:Nat
 a5:Nat
def Rec.ok (r:Rec):Prop:=r.num < 4294967296∧r.arch < 4294967296∧r.ptr < 18446744073709551616∧r.a0 < 18446744073709551616∧r.a1 < 18446744073709551616∧r.a2 < 18446744073709551616∧r.a3 < 18446744073709551616∧r.a4 < 18446744073709551616∧r.a5 < 18446744073709551616
def Rec.arg (r:Rec):Nat→Nat
 | 0=> r.a0
 | 1=> r.a1
 | 2=> r.a2
 | 3=> r.a3
 | 4=> r.a4
 | _=> r.a5
def Jfq (r:Rec):List AV:= [u32 r.num,u32 r.arch,u64 r.ptr,u64 r.a0,u64 r.a1,u64 r.a2,u64 r.a3,u64 r.a4,u64 r.a5]
def Jja (r:Rec):AV:= .ag (Jfq r)
theorem JBS {a:Nat} (h:a < 5) (hn:∀z∈infN,z.1≠a):False:=by
 rcases (by omega:a=0∨a=1∨a=2∨a=3∨a=4) with rfl | rfl | rfl | rfl | rfl
 ·exact hn (0,infL.getD 0 Jb0) (by simp [infN]) rfl
 ·exact hn (1,infL.getD 1 Jb0) (by simp [infN]) rfl
 ·exact hn (2,infL.getD 2 Jb0) (by simp [infN]) rfl
 ·exact hn (3,infL.getD 3 Jb0) (by simp [infN]) rfl
 ·exact hn (4,infL.getD 4 Jb0) (by simp [infN]) rfl
theorem JEl {k a:Nat} {pre:List (Nat×Inf)} {i:Inf} (h:∀z∈pre,z.1≠a) (t:false=((k:Int) ==(a:Int))):∀z∈pre++ [(k,i)],z.1≠a:=fun z hz=> by
 rcases List.mem_append.1 hz with q | q
 ·exact h z q
 ·rw [List.mem_singleton.1 q];intro e;dsimp only at e;subst e;simp at t
theorem JDs {k a:Nat} (t:true=((k:Int) ==(a:Int))):k=a:=by
 have:(k:Int)=(a:Int):=by simpa using t.symm
 omega
theorem JvX (a:Nat) (ha:a < 5):Tells Tryz.prog 32 [int a] (.tup [JDq (infL.getD a Jb0),int 0]):=by
 refine Jc Tryz.func32 rfl rfl fun nx=> ?_
 refine Z ?_
 refine Ja rfl rfl Jrs trivial fun nx3=> ?_
 refine Z ?_
 refine AW.le (E':=mk 14 [(1, .bp (0,nx) 0),(2, .bp (1,nx+1) 0),(3, .bp (2,nx+2) 0),(6, .fn (.func 138) [] [])] ⟨[((2,nx+2), .c [int 0]),((1,nx+1), .c (Ji9 Jb0)),((0,nx), .c [int a])], [],nx3,3⟩) (Je (pm:= []) _ [] rfl rfl Sf Sf Bf Tt Y4) ?_
 refine JBK (σ:=Option Nat) (α:=Nat×Inf) (e:=JDr) (xs:=infN) (first':= []) (caps':= []) (fun y=> [((2,nx+2), .c [int 0]),((1,nx+1), .c (Ji9 (y.elim Jb0 fun k=> infL.getD k Jb0))),((0,nx), .c [int a])]) (fun _=> []) (fun pre y=> y=none∧∀z∈pre,z.1≠a) (fun pre x y=> y=some a) none rfl rfl Jxx Tt trivial rfl rfl ⟨rfl,fun z hz=> by cases hz⟩ (fun _=> rfl) ?_ ?_ ?_
 ·rintro pre x post s nx4 nn4 hx ⟨rfl,hI⟩;rcases Jxy hx with ⟨rfl,rfl⟩ | ⟨rfl,rfl⟩ | ⟨rfl,rfl⟩ | ⟨rfl,rfl⟩ | ⟨rfl,rfl⟩
  all_goals
   refine AW.le (Jho (nn:=9) Sf Sf) ?_;refine Z ?_;intro c t1;cases c
   ·refine Z ?_;exact ⟨_,⟨_,_,_,0⟩,Rf,Jr _ _ rfl (.cons _ Sf) Sf Bf Pf, .inl ⟨rfl,none,⟨rfl,JEl hI t1⟩,rfl,rfl⟩⟩
   ·have e:=JDs t1;clear t1;subst e;refine Z ?_;exact ⟨_,⟨_,_,_,0⟩,Rf,Jr _ _ rfl (.cons _ Sf) Sf Bf Pf, .inr ⟨rfl,some _,rfl,rfl,rfl⟩⟩
 ·rintro s' nx4 nn4 ⟨rfl,hI⟩;exact (JBS ha hI).elim
 ·rintro pre x post s' nx4 nn4 hx rfl;refine Z ?_;exact Jk rfl ⟨rfl,⟨rfl,Nat.le_of_ble_eq_true rfl⟩,Tt⟩ Rf
def JEL (f:Nat→Nat):AV:= .ag [u64 (f 0:Nat),u64 (f 1:Nat),u64 (f 2:Nat),u64 (f 3:Nat),u64 (f 4:Nat),u64 (f 5:Nat)]
def JbI (a:Nat) (r:Rec) (k:Nat):Nat:=if a=2 then r.arg k % 4294967296 else r.arg k
end Go.Proofs.W

namespace Go.Proofs.W
open Go.Vl
section
variable {α:Type} [Inhabited α] {lt:α→α→Bool}
theorem Juy {a j:Nat} {e:Array α} (h:a < j) (hl:lt e[j]! e[j - 1]! =true):Go.Sort.insInner lt a j e=Go.Sort.insInner lt a (j - 1) (Go.Sort.swp e j (j - 1)):=by
 cases j with
 | zero=> omega
 | succ j=>
   rw [Go.Sort.insInner];simp only [Nat.add_sub_cancel] at hl⊢;rw [if_pos (by simp [hl];omega)]
theorem Jrt {a j:Nat} {e:Array α} (hl:lt e[j]! e[j - 1]! =false):Go.Sort.insInner lt a j e=e:=by
 cases j with
 | zero=> rfl
 | succ j=>
   rw [Go.Sort.insInner];simp only [Nat.add_sub_cancel] at hl⊢;rw [if_neg (by simp [hl])]
theorem Jo0 {a j:Nat} {e:Array α} (h:¬a < j):Go.Sort.insInner lt a j e=e:=by
 cases j with
 | zero=> rfl
 | succ j=> rw [Go.Sort.insInner];simp;omega
theorem Jjb {hi F root:Nat} {d:Array α} (h:2 * root+1≥hi):Go.Sort.siftDown lt hi F root d=d:=by rw [Go.Sort.siftDown,dif_pos h]
def Jdm (lt:α→α→Bool) (hi F root:Nat) (d:Array α):Nat:=if 2 * root+2 < hi∧lt d[F+(2 * root+1)]! d[F+(2 * root+2)]! =true then 2 * root+2 else 2 * root+1
theorem Jo1 {hi F root:Nat} {d:Array α} (h:¬2 * root+1≥hi) (hl:lt d[F+root]! d[F+Jdm lt hi F root d]! =false):Go.Sort.siftDown lt hi F root d=d:=by
 rw [Go.Sort.siftDown,dif_neg h]
 unfold Jdm at hl
 by_cases hc:2 * root+2 < hi∧lt d[F+(2 * root+1)]! d[F+(2 * root+2)]! =true
 ·rw [if_pos hc] at hl;rw [if_pos (by simp only [Bool.and_eq_true,decide_eq_true_eq];exact hc),if_pos (by rw [hl];rfl)]
 ·rw [if_neg hc] at hl;rw [if_neg (by simp only [Bool.and_eq_true,decide_eq_true_eq];exact hc),if_pos (by rw [hl];rfl)]
theorem Jru {hi F root:Nat} {d:Array α} (h:¬2 * root+1≥hi) (hl:lt d[F+root]! d[F+Jdm lt hi F root d]! =true):Go.Sort.siftDown lt hi F root d=Go.Sort.siftDown lt hi F (Jdm lt hi F root d) (Go.Sort.swp d (F+root) (F+Jdm lt hi F root d)):=by
 rw [Go.Sort.siftDown,dif_neg h]
 unfold Jdm at hl⊢
 by_cases hc:2 * root+2 < hi∧lt d[F+(2 * root+1)]! d[F+(2 * root+2)]! =true
 ·rw [if_pos hc] at hl⊢;rw [if_pos (by simp only [Bool.and_eq_true,decide_eq_true_eq];exact hc),if_neg (by rw [hl];simp),dif_pos hc.1]
 ·rw [if_neg hc] at hl⊢;rw [if_neg (by simp only [Bool.and_eq_true,decide_eq_true_eq];exact hc),if_neg (by rw [hl];simp)]
theorem JbS {d:Array α} {i j:Nat}:(Go.Sort.swp d i j).size=d.size:=by simp [Go.Sort.swp]
theorem JmV {hi F:Nat}:∀(k root:Nat) (d:Array α),hi - root≤k→(Go.Sort.siftDown lt hi F root d).size=d.size:=by
 intro k
 induction k with
 | zero=> intro root d h;rw [Jjb Om]
 | succ k ih=>
   intro root d h;by_cases h1:2 * root+1≥hi
   ·rw [Jjb h1]
   ·cases hl:lt d[F+root]! d[F+Jdm lt hi F root d]! with
    | false=> rw [Jo1 h1 hl]
    | true=>
      rw [Jru h1 hl,ih _ _ ?_,JbS];unfold Jdm;split <;> omega
theorem JdN {p:α→Bool} {d:Array α} {i j:Nat} (h:¬(i≤j∧p d[i]! =true)):Go.Sort.scanUp p d j i=i:=by
 rw [Go.Sort.scanUp,if_neg (by simp only [Bool.and_eq_true,decide_eq_true_eq];exact h)]
theorem Jii {p:α→Bool} {d:Array α} {i j:Nat} (h:i≤j) (hp:p d[i]! =true):Go.Sort.scanUp p d j i=Go.Sort.scanUp p d j (i+1):=by
 rw [Go.Sort.scanUp,if_pos (by simp only [Bool.and_eq_true,decide_eq_true_eq];exact ⟨h,hp⟩)]
theorem JdO {p:α→Bool} {d:Array α} {i j:Nat} (h:¬(i≤j∧p d[j]! =true)):Go.Sort.scanDown p d i j=j:=by
 cases j with
 | zero=> rfl
 | succ j=> rw [Go.Sort.scanDown,if_neg (by simp only [Bool.and_eq_true,decide_eq_true_eq];exact h)]
theorem Jij {p:α→Bool} {d:Array α} {i j:Nat} (h1:1≤i) (h:i≤j) (hp:p d[j]! =true):Go.Sort.scanDown p d i j=Go.Sort.scanDown p d i (j - 1):=by
 cases j with
 | zero=> omega
 | succ j=> rw [Go.Sort.scanDown,if_pos (by simp only [Bool.and_eq_true,decide_eq_true_eq];exact ⟨h,hp⟩)];rfl
theorem Jj9 {d:Array α} {i b:Nat} (h:¬(i < b∧lt d[i]! d[i - 1]! =false)):Go.Sort.scanSorted lt d b i=i:=by
 rw [Go.Sort.scanSorted,if_neg (by simp only [Bool.and_eq_true,decide_eq_true_eq,Bool.not_eq_true'];exact h)]
theorem JtF {d:Array α} {i b:Nat} (h:i < b) (hp:lt d[i]! d[i - 1]! =false):Go.Sort.scanSorted lt d b i=Go.Sort.scanSorted lt d b (i+1):=by
 rw [Go.Sort.scanSorted,if_pos (by simp only [Bool.and_eq_true,decide_eq_true_eq,Bool.not_eq_true'];exact ⟨h,hp⟩)]
theorem Jz5 {d:Array α} {j:Nat} (h:lt d[j]! d[j - 1]! =false):Go.Sort.shiftDown lt j d=d:=by
 cases j with
 | zero=> rfl
 | succ j=> rw [Go.Sort.shiftDown];simp only [Nat.add_sub_cancel] at h;rw [if_pos (by rw [h];rfl)]
theorem JBT {d:Array α} {j:Nat} (h1:1≤j) (h:lt d[j]! d[j - 1]! =true):Go.Sort.shiftDown lt j d=Go.Sort.shiftDown lt (j - 1) (Go.Sort.swp d j (j - 1)):=by
 cases j with
 | zero=> omega
 | succ j=> rw [Go.Sort.shiftDown];simp only [Nat.add_sub_cancel] at h⊢;rw [if_neg (by rw [h];simp)]
theorem Jrv {d:Array α} {b j:Nat} (h:¬(j < b∧lt d[j]! d[j - 1]! =true)):Go.Sort.shiftUp lt b j d=d:=by
 rw [Go.Sort.shiftUp]
 by_cases hj:j < b
 ·rw [if_pos hj,if_pos (by cases hl:lt d[j]! d[j - 1]! with | false=> rfl | true=> exact absurd ⟨hj,hl⟩ h)]
 ·rw [if_neg hj]
theorem JBU {d:Array α} {b j:Nat} (h1:j < b) (h:lt d[j]! d[j - 1]! =true):Go.Sort.shiftUp lt b j d=Go.Sort.shiftUp lt b (j+1) (Go.Sort.swp d j (j - 1)):=by
 rw [Go.Sort.shiftUp,if_pos h1,if_neg (by rw [h];simp)]
theorem Jxz {d:Array α} {a b p i j:Nat} (hi:i=Go.Sort.scanUp (fun x=> lt x (Go.Sort.swp d a p)[a]!) (Go.Sort.swp d a p) (b - 1) (a+1)) (hj:j=Go.Sort.scanDown (fun x=> !lt x (Go.Sort.swp d a p)[a]!) (Go.Sort.swp d a p) i (b - 1)) (h:i > j):
 Go.Sort.partition lt d a b p=(j,true,Go.Sort.swp (Go.Sort.swp d a p) j a):=by
 subst hj;subst hi
 show (if _ then _ else _)=_
 rw [if_pos h]
theorem Jz6 {d:Array α} {a b p i j:Nat} (hi:i=Go.Sort.scanUp (fun x=> lt x (Go.Sort.swp d a p)[a]!) (Go.Sort.swp d a p) (b - 1) (a+1)) (hj:j=Go.Sort.scanDown (fun x=> !lt x (Go.Sort.swp d a p)[a]!) (Go.Sort.swp d a p) i (b - 1)) (h:¬i > j):
 Go.Sort.partition lt d a b p=((Go.Sort.partLoop lt a (i+1) (j - 1) (Go.Sort.swp (Go.Sort.swp d a p) i j)).1,false,Go.Sort.swp (Go.Sort.partLoop lt a (i+1) (j - 1) (Go.Sort.swp (Go.Sort.swp d a p) i j)).2 (Go.Sort.partLoop lt a (i+1) (j - 1) (Go.Sort.swp (Go.Sort.swp d a p) i j)).1 a):=by
 subst hj;subst hi
 show (if _ then _ else _)=_
 rw [if_neg h]
theorem JaU {K:Bool→Prop} {b b':Bool} (h:b=b') (hk:∀c,c=b'→K c):∀c,c=b→K c:=by subst h;exact hk
theorem JdH {x:Int} {k:Nat} (h:x=(k:Int)) (hk:k≤9000000000000000000):IntKind.i64.wrap x=(k:Int):=by rw [Jq Om Om];exact h
def J0 (lt:α→α→Bool) (l:List α):List α:=l.mergeSort (fun x y=> !lt y x)
omit [Inhabited α] in
theorem Jgj (hS:Go.Sort.SWO lt) (l:List α):(J0 lt l).Pairwise (fun x y=> lt y x=false):=by
 have tr:∀a b c:α,(!lt b a)=true→(!lt c b)=true→(!lt c a)=true:=fun a b c h1 h2=> by
  simp only [Bool.not_eq_true'] at *; exact hS.ntrans _ _ _ h2 h1
 have tq:∀a b:α,((!lt b a)|| (!lt a b))=true:=fun a b=> by
  cases h1:lt b a <;> cases h2:lt a b <;> try rfl
  have:=hS.trans _ _ _ h1 h2;rw [hS.irrefl] at this;cases this
 exact (List.pairwise_mergeSort tr tq l).imp fun h=> by simpa using h
omit [Inhabited α] in
theorem Jjc {l:List α} {x:α}:x∈J0 lt l↔x∈l:=(List.mergeSort_perm l _).mem_iff
omit [Inhabited α] in
theorem JaZ {l:List α}:(J0 lt l).length=l.length:=List.length_mergeSort _
omit [Inhabited α] in
theorem JeU (hS:Go.Sort.SWO lt) (hT:∀x y,lt x y=false→lt y x=false→x=y) {l l':List α} (h:l.Perm l'):J0 lt l=J0 lt l':=
 List.Perm.eq_of_pairwise (le:=fun x y=> lt y x=false) (fun a b _ _ h1 h2=> hT a b h2 h1) (Jgj hS l) (Jgj hS l') (((List.mergeSort_perm l _).trans h).trans (List.mergeSort_perm l' _).symm)
omit [Inhabited α] in
end
theorem JhX:∀x y:Int,Go.Sort.ltInt x y=false→Go.Sort.ltInt y x=false→x=y:=fun x y h1 h2=> by
 simp [Go.Sort.ltInt] at h1 h2;omega
end Go.Proofs.W

namespace Go.Proofs.W
open Go.Vl
set_option maxRecDepth 100000
def Jf0 (mux sub:Int) (r:TRow):Bool:=decide (r.mux=mux)&& (decide (r.sub=sub)&& decide (mux≠0))
theorem JDt {l:List TRow} {p:TRow→Bool} {i:Nat} (h:l.findIdx? p=some i):i < l.length:=(List.findIdx?_eq_some_iff_getElem.1 h).1
def Jd8 (a:Nat) (n:Int) (r:TRow):Bool:=decide (r.num a=n)
def JfH (a num:Nat):Nat:=if a=1∧num / 1073741824 % 2=1 then num - 1073741824 else num
theorem JxA {c lo d m i:Nat} (h:lo < 2 ^ i) (hm:m < 2 ^ i):(2 ^ i * c+lo)&&& (2 ^ i * d+m)=2 ^ i * (c&&& d)+(lo&&& m):=by
 apply Nat.eq_of_testBit_eq
 intro j
 have hlm:lo&&& m < 2 ^ i:=Nat.lt_of_le_of_lt Nat.and_le_left h
 rw [Nat.testBit_and,Nat.testBit_two_pow_mul_add _ h,Nat.testBit_two_pow_mul_add _ hm,Nat.testBit_two_pow_mul_add _ hlm]
 split <;> rw [Nat.testBit_and]
def Jgk (num:Nat):Nat:=if num=102 then 1 else if num=117 then 2 else 0
def JfI (l:List TRow):Option Nat→ByteArray
 | some i=> (l.getD i Jd).name
 | none=> ⟨#[]⟩
structure CallR where
 some:Bool
 abi:Int
 name:ByteArray
 muxed:Bool
def JBu:CallR:=⟨false,0,⟨#[]⟩,false⟩
def Jdp (arch num:Nat):Option Nat:=(infN.find? (Jn5 arch (Jeo num))).map (·.1)
theorem Juz {arch num a:Nat} (h:Jdp arch num=some a):a < 5:=by
 unfold Jdp at h
 obtain ⟨x,hx,rfl⟩:=Option.map_eq_some_iff.1 h
 have:=List.mem_of_find?_eq_some hx
 simp only [infN,List.mem_cons,List.not_mem_nil,or_false] at this
 rcases this with rfl | rfl | rfl | rfl | rfl <;> decide
def Jcp (a num:Nat):Nat:=if a=2 then Jgk num else 0
def ofI (l:List TRow) (r:Rec):CallR:=match Jdp r.arch r.num with
 | none=> JBu
 | some a=> if 0 < Jcp a r.num then ⟨true,a,JfI l (l.findIdx? (Jf0 (Jcp a r.num) ((r.a0 % 4294967296:Nat):Int))),true⟩
   else ⟨true,a,JfI l (l.findIdx? (Jd8 a ((JfH a r.num:Nat):Int))),false⟩
theorem JbT {a b:AV} {K:AV→Prop} (h:a=b) (hk:Jdi b K):Jdi a K:=h ▸ hk
end Go.Proofs.W

namespace Go.Proofs.W
open Go.Vl
set_option maxRecDepth 100000
def kS (s t:ByteArray):Bool:=s.toList ==t.toList
theorem JbU {s t:ByteArray}:kS s t=true↔s=t:=by
 unfold kS
 rw [beq_iff_eq,Lib.toList_data,Lib.toList_data]
 constructor
 ·intro h;obtain ⟨⟨a⟩⟩:=s;obtain ⟨⟨b⟩⟩:=t;simpa using h
 ·rintro rfl;rfl
section
variable {α:Type} {nm:α→ByteArray} {val:α→AV}
end
end Go.Proofs.W

namespace Go.Proofs.W
open Go.Vl
set_option maxRecDepth 100000
structure Ent where
 name:ByteArray
 m:Nat
 a:Nat→Nat
 b:Nat→Bool
 st:Nat
structure Gat where
 name:ByteArray
 m:Nat
 a:Nat→Nat
 b:Nat→Bool
def Jb4 (es:List (Value×AV)) (j:Nat):Value:=(es.getD j (.int .i64 0, .any)).1
theorem Jjd {es:List (Value×AV)} {k:Nat} {p:Value×AV} (h:es[k]? =some p):Jb4 es k=p.1:=by simp [Jb4,List.getD,h]
theorem Jfw (es:List (Value×AV)):(List.range es.length).map (Jb4 es)=es.map (·.1):=by
 refine List.ext_getElem Si fun j h1 h2=> ?_
 have:j < es.length:=by simpa using h1
 simp [Jb4,List.getD,this]
end Go.Proofs.W

namespace Go.Proofs
open Go.Shelf
shelf_lay_g SlLaysM.n6 Slgm 6 at Tryz 106 as Tryz.laysM6
end Go.Proofs
namespace Go.Proofs.W
open Go.Vl Go.Shelf
set_option maxRecDepth 100000
def Jbe (z:List UInt8):AV:= .v (encStr z)
def Jd2 (s:Nat) (d:Array (List UInt8)) (tl:List AV):List (Vl.Id×Own):= [((0,s), .c (Jba Jbe d tl))]
theorem Jrw (l:List (List UInt8)):l.mergeSort (fun x y=> decide (x≤y))=J0 Go.Sort.ltStr l:=by
 unfold J0
 congr 1
 funext x y
 simp only [Go.Sort.ltStr]
 by_cases h:x≤y
 ·rw [decide_eq_true h,decide_eq_false (List.not_lt.2 h)];rfl
 ·rw [decide_eq_false h,decide_eq_true (List.not_le.1 h)];rfl
theorem JxB:∀x y:List UInt8,Go.Sort.ltStr x y=false→Go.Sort.ltStr y x=false→x=y:=fun x y h1 h2=> by
 simp only [Go.Sort.ltStr,decide_eq_false_iff_not,List.not_lt] at h1 h2
 exact List.le_antisymm h2 h1
theorem JxC (d0:Array (List UInt8)) (tl:List AV) (n:Nat) (hn:d0.size=n) (hsz:n≤1000000) (s cap nx:Nat):
 ECall Tryz.prog 106 [.hs (0,s) 0 n cap] ⟨Jd2 s d0 tl, [],nx,1⟩ (fun r h'=> ∃nx' nn',h'=⟨Jd2 s (J0 Go.Sort.ltStr d0.toList).toArray tl, [],nx',nn'⟩):=by
 subst hn
 have h:=Jie (P:=Tryz.prog) (enc:=encStr) (d:=d0) (d':=(J0 Go.Sort.ltStr d0.toList).toArray) (tl:=tl) (nm:=0) (s:=s) (cap:=cap) (nx:=nx) (nn:=1) (f:=106) ⟨_,Tryz.func106,rfl,rfl⟩ (by simp [JaZ]) (fun w blk hH hb=> by
  have k:=AnyM.slices_Sort_string Tryz.laysM6 blk 0 cap d0.toList w hH hb (by simp;omega);rw [Jrw] at k;exact k)
 exact h.mono fun r h' ⟨_,h2⟩=> ⟨nx,1,h2⟩
theorem JxD (F:Nat→AV):Tells Tryz.prog 106 [.os 1 0 F none] (.tup []):=
 Jif (nx:=0) ⟨_,Tryz.func106,rfl,rfl⟩ fun p cap w=> AnyM.slices_Sort_string_none Tryz.laysM6 p cap w
end Go.Proofs.W

namespace Go.Proofs.W
open Go.Vl
set_option maxRecDepth 100000
abbrev Jcw:=List (Int×Int)
def Jbg (r:TRow) (S:Jcw):Nat→Option Jcw
 | 0=> some S
 | k+1=> match Jbg r S k with
   | none=> none
   | some S=> if r.num k=-1 then some S else if ((k:Int),r.num k)∈S then none else some (S++ [((k:Int),r.num k)])
def Jka (r:TRow) (S:Jcw):Option Jcw:=if r.mux=0 then some S else if (5+r.mux,r.sub)∈S then none else some (S++ [(5+r.mux,r.sub)])
def leB (s t:ByteArray):Bool:=Op.bytesLess s.toList t.toList|| s.toList ==t.toList
def JfJ (l:List TRow) (i:Nat) (S:Jcw):Except Int Jcw:=
 if JaQ (l.getD i Jd).name.data.toList=false then .error 13
 else if 0 < i∧leB (l.getD i Jd).name (l.getD (i - 1) Jd).name=true then .error 15
 else if Jdt (l.getD i Jd)=false then .error 16
 else if (l.getD i Jd).a2=102∨(l.getD i Jd).a2=117 then .error 17
 else match Jbg (l.getD i Jd) S 5 with
  | none=> .error 15
  | some S=> match Jka (l.getD i Jd) S with
    | none=> .error 15
    | some S=> .ok S
def Jep (l:List TRow):Nat→Except (Nat×Int) Jcw
 | 0=> .ok []
 | k+1=> match Jep l k with
   | .error e=> .error e
   | .ok S=> match JfJ l k S with
     | .error e=> .error (k,e)
     | .ok S=> .ok S
def Jcx (l:List TRow):Int×Int:=if 400 < l.length then (0,3) else match Jep l l.length with
 | .error e=> ((e.1:Int),e.2)
 | .ok _=> (0,0)
theorem JxE {l:List TRow} {k:Nat} {e:Nat×Int} (h:Jep l k= .error e):∀ {m:Nat},k≤m→Jep l m= .error e:=by
 intro m hm
 induction m with
 | zero=> obtain rfl:k=0:=by omega
          exact h
 | succ m ih=>
   rcases Nat.lt_or_ge m k with q | q
   ·rw [show m+1=k by omega];exact h
   ·unfold Jep;rw [ih q]
theorem JuA {l:List TRow} {i:Nat} {S:Jcw} {e:Int} (hl:¬400 < l.length) (hi:i < l.length) (h:Jep l i= .ok S) (he:JfJ l i S= .error e):Jcx l=((i:Int),e):=by
 have h1:Jep l (i+1)= .error (i,e):=by unfold Jep;rw [h];dsimp only;rw [he]
 unfold Jcx
 rw [if_neg hl,JxE h1 hi]
theorem JxF {l:List TRow} {S:Jcw} (hl:¬400 < l.length) (h:Jep l l.length= .ok S):Jcx l=(0,0):=by
 unfold Jcx
 rw [if_neg hl,h]
theorem Jo2 {l:List TRow} {i:Nat} {S S':Jcw} (h:Jep l i= .ok S) (he:JfJ l i S= .ok S'):Jep l (i+1)= .ok S':=by
 unfold Jep;rw [h];dsimp only;rw [he]
theorem Jgu {r:TRow} {S S':Jcw} {k:Nat} (h:Jbg r S k=some S') (hn:r.num k=-1):Jbg r S (k+1)=some S':=by
 unfold Jbg;rw [h];dsimp only;rw [if_pos hn]
theorem Jiw {r:TRow} {S S':Jcw} {k:Nat} (h:Jbg r S k=some S') (hn:¬r.num k=-1) (hm:((k:Int),r.num k)∈S'):Jbg r S (k+1)=none:=by
 unfold Jbg;rw [h];dsimp only;rw [if_neg hn,if_pos hm]
theorem Jhv {r:TRow} {S S':Jcw} {k:Nat} (h:Jbg r S k=some S') (hn:¬r.num k=-1) (hm:¬((k:Int),r.num k)∈S'):Jbg r S (k+1)=some (JdM ((k:Int),r.num k) S'):=by
 unfold Jbg JdM;rw [h];dsimp only;rw [if_neg hn,if_neg hm,if_neg hm]
theorem Jgv {r:TRow} {S:Jcw} {k:Nat} (h:Jbg r S k=none):∀ {m:Nat},k≤m→Jbg r S m=none:=by
 intro m hm
 induction m with
 | zero=> obtain rfl:k=0:=by omega
          exact h
 | succ m ih=>
   rcases Nat.lt_or_ge m k with q | q
   ·rw [show m+1=k by omega];exact h
   ·unfold Jbg;rw [ih q]
def Jc5 (l:List TRow) (i:Nat):Bool:=decide (0 < i)&& leB (l.getD i Jd).name (l.getD (i - 1) Jd).name
theorem JkV {l:List TRow} {i:Nat}:Jc5 l i=true↔0 < i∧leB (l.getD i Jd).name (l.getD (i - 1) Jd).name=true:=by unfold Jc5;simp
theorem JuB {l:List TRow} {i:Nat} {S:Jcw} (h:JaQ (l.getD i Jd).name.data.toList=false):JfJ l i S= .error 13:=if_pos h
theorem JuC {l:List TRow} {i:Nat} {S:Jcw} (h:JaQ (l.getD i Jd).name.data.toList=true) (h2:Jc5 l i=true):JfJ l i S= .error 15:=by
 unfold JfJ;rw [if_neg (by rw [h];decide),if_pos (JkV.1 h2)]
theorem Jn6 {l:List TRow} {i:Nat} {S:Jcw} (h:JaQ (l.getD i Jd).name.data.toList=true) (h2:Jc5 l i=false) (h3:Jdt (l.getD i Jd)=false):JfJ l i S= .error 16:=by
 unfold JfJ;rw [if_neg (by rw [h];decide),if_neg (by rw [← JkV,h2];decide),if_pos h3]
theorem Jn7 {l:List TRow} {i:Nat} {S:Jcw} (h:JaQ (l.getD i Jd).name.data.toList=true) (h2:Jc5 l i=false) (h3:Jdt (l.getD i Jd)=true) (h4:(l.getD i Jd).a2=102∨(l.getD i Jd).a2=117):JfJ l i S= .error 17:=by
 unfold JfJ;rw [if_neg (by rw [h];decide),if_neg (by rw [← JkV,h2];decide),if_neg (by rw [h3];decide),if_pos h4]
theorem Jo3 {l:List TRow} {i:Nat} {S:Jcw} (h:JaQ (l.getD i Jd).name.data.toList=true) (h2:Jc5 l i=false) (h3:Jdt (l.getD i Jd)=true) (h4:¬((l.getD i Jd).a2=102∨(l.getD i Jd).a2=117)):JfJ l i S=match Jbg (l.getD i Jd) S 5 with
 | none=> .error 15
 | some S=> match Jka (l.getD i Jd) S with
   | none=> .error 15
   | some S=> .ok S:=by
 unfold JfJ;rw [if_neg (by rw [h];decide),if_neg (by rw [← JkV,h2];decide),if_neg (by rw [h3];decide),if_neg h4]
theorem JmW {r:TRow} (h:Jdt r=true) (h0:¬r.mux=0):r.mux=1∨r.mux=2:=by
 unfold Jdt at h
 rw [if_neg h0] at h
 simp only [Bool.and_eq_true,Bool.or_eq_true,decide_eq_true_eq] at h
 exact h.2.1.1
theorem Jp4 (l:List TRow) (hl:l.length≤1000000) (hn:∀r∈l,r.name.size≤maxLen):Tells Tryz.prog 52 [JS l] (.tup [int (Jcx l).1,int (Jcx l).2]):=by
 refine Jc Tryz.func52 rfl rfl fun nx=> ?_
 refine Z ?_
 intro c g4;cases c
 rotate_left
 ·have g4:400 < l.length:=by have:=Ju g4;omega
  have e:Jcx l=(0,3):=by unfold Jcx;rw [if_pos g4]
  rw [e];refine Z ?_;exact Jb rfl Rf
 have g4:¬400 < l.length:=by have:=Jw g4;omega
 refine Z ?_
 refine Js (fun y:Nat×Jcw×Nat=> mk 88 [(0,JS l),(2,int 0),(3,int 0),(4, .om (0,nx)),(14,JS l),(15,int l.length),(16,int y.1)] ⟨[((0,nx), .mp (y.2.1.map Ja2))], [],y.2.2,1⟩) (fun y=> y.1≤l.length∧Jep l y.1= .ok y.2.1) (fun y=> l.length - y.1) ?_ ?_
 ·exact ⟨(0, [],nx+1),⟨Nat.zero_le _,rfl⟩,Et rfl rfl Bf Tt Y7⟩
 ·rintro ⟨i,S,nx1⟩ ⟨h1,h2⟩;dsimp only at h1 h2;refine Z ?_;intro c g;cases c
  ·have g:=Jw g;try dsimp only at g
   have hi:i=l.length:=by omega
   subst hi;rw [JxF g4 h2];refine Z ?_;exact Jb rfl Rf
  ·have g:=Ju g;try dsimp only at g
   have hi:i < l.length:=by omega
   have hmem:l.getD i Jd∈l:=by simp [List.getD,hi]
   have hnm:=JmT (l.getD i Jd).name (Nat.le_trans (hn _ hmem) Dc);have hrg:=JtE (l.getD i Jd);have herr:=fun e=> JuA (e:=e) g4 hi h2;have hnext:=fun S'=> Jo2 (S':=S') h2;refine Z ?_;refine ⟨Bd, ?_⟩;refine Z ?_;cases hb:JaQ (l.getD i Jd).name.data.toList with
   | false=>
     rw [hb] at hnm;refine Ja rfl rfl hnm Y1 fun nx2=> ?_;refine Z ?_;rw [herr 13 (JuB hb)];exact Jb rfl Rf
   | true=>
     rw [hb] at hnm;refine Ja rfl rfl hnm Y1 fun nx2=> ?_;refine Z ?_;refine JmL (fun y:Nat=> mk 88 [(0,JS l),(2,int 0),(3,int 0),(4, .om (0,nx)),(5,int i),(6, .bp (1,nx1) 0),(7,int (l.getD i Jd).a2),(14,JS l),(15,int l.length),(16,int i),(30,Ji (Jc5 l i))] ⟨[((1,nx1), .c (JbH (l.getD i Jd))),((0,nx), .mp (S.map Ja2))], [],y,2⟩) (fun _=> True) ?_ ?_
     ·by_cases h0:0 < i
      ·have hd:decide ((i:Int) > 0)=true:=decide_eq_true Om;have hi1:IntKind.i64.wrap ((i:Int) - 1)=((i - 1:Nat):Int):=by rw [Jq Om Om];omega
       (refine JJ 13 Kr Kr Kr ?_)
       refine Z ?_
       (conv=> whnf)
       refine JaU hd ?_;refine Z ?_;refine ⟨⟨JG (i:=i - 1) hi1,JH (i:=i - 1) hi1 Om⟩,Jj (b:= .rp (JbH (l.getD (i - 1) Jd))) (congrArg (fun z:Int=> AV.rp (JbH (l.getD z.toNat Jd))) hi1) ?_⟩;refine Z ?_;intro c hc;have hc2:c=Jc5 l i:=hc.trans (by unfold Jc5;rw [decide_eq_true h0,Bool.true_and];rfl);clear hc;rw [← hc2];clear hc2;cases c
       all_goals
        refine Z ?_;exact ⟨nx2,trivial,Et rfl rfl Bf Tt ⟨Rf,Rf,Rf,Rf,Rf,Rf,Rf,Rf,Rf,Rf,Rf,Tt⟩⟩
      ·have hd:decide ((i:Int) > 0)=false:=decide_eq_false Om;have hq:Jc5 l i=false:=(by unfold Jc5;rw [decide_eq_false h0];rfl);rw [hq]
       (refine JJ 13 Kr Kr Kr ?_)
       refine Z ?_
       (conv=> whnf)
       refine JaU hd ?_;refine Z ?_;exact ⟨nx2,trivial,Et rfl rfl Bf Tt ⟨Rf,Rf,Rf,Rf,Rf,Rf,Rf,Rf,Rf,Rf,Rf,Tt⟩⟩
     ·rintro nx3 -;cases hq:Jc5 l i with
      | true=>
        refine Z ?_;rw [herr 15 (JuC hb hq)];exact Jb rfl Rf
      | false=>
        refine Z ?_;refine Jj (b:=Jfd (l.getD i Jd)) rfl ?_;refine Z ?_;cases hr:Jdt (l.getD i Jd) with
        | false=>
          rw [hr] at hrg;refine Ja rfl rfl hrg Y1 fun nx4=> ?_;refine Z ?_;rw [herr 16 (Jn6 hb hq hr)];exact Jb rfl Rf
        | true=>
          rw [hr] at hrg;refine Ja rfl rfl hrg Y1 fun nx4=> ?_;refine Z ?_;intro c t1;cases c
          rotate_left
          ·have t1:(l.getD i Jd).a2=102:=(by simpa using t1.symm);refine Z ?_;rw [herr 17 (Jn7 hb hq hr (.inl t1))];exact Jb rfl Rf
          have t1:¬(l.getD i Jd).a2=102:=(by simpa using t1.symm);refine Z ?_;intro c t2;cases c
          rotate_left
          ·have t2:(l.getD i Jd).a2=117:=(by simpa using t2.symm);refine Z ?_;rw [herr 17 (Jn7 hb hq hr (.inr t2))];exact Jb rfl Rf
          have t2:¬(l.getD i Jd).a2=117:=(by simpa using t2.symm);have hrest:=Jo3 (S:=S) hb hq hr (fun h=> h.elim t1 t2);refine Z ?_;refine Jbj (fun y:Jcw×Nat=> mk 88 [(0,JS l),(2,int 0),(3,int 0),(4, .om (0,nx)),(5,int i),(6, .bp (1,nx1) 0),(14,JS l),(15,int l.length),(16,int i)] ⟨[((1,nx1), .c (JbH (l.getD i Jd))),((0,nx), .mp (y.1.map Ja2))], [],y.2,2⟩) (fun y=> Jbg (l.getD i Jd) S 5=some y.1) ?_ ?_
          ·refine Js (fun y:Nat×Jcw×Nat=> mk 88 [(0,JS l),(2,int 0),(3,int 0),(4, .om (0,nx)),(5,int i),(6, .bp (1,nx1) 0),(14,JS l),(15,int l.length),(16,int i),(59,JDp (l.getD i Jd)),(60,int y.1)] ⟨[((1,nx1), .c (JbH (l.getD i Jd))),((0,nx), .mp (y.2.1.map Ja2))], [],y.2.2,2⟩) (fun y=> y.1≤5∧Jbg (l.getD i Jd) S y.1=some y.2.1) (fun y=> 5 - y.1) ?_ ?_
           ·exact ⟨(0,S,nx4),⟨Nat.zero_le _,rfl⟩,Et rfl rfl Bf Tt ⟨Rf,Rf,Rf,Rf,Rf,Rf,Rf,Rf,Rf,Rf,Rf,Tt⟩⟩
           ·rintro ⟨k,S',nx5⟩ ⟨hk,hS⟩;dsimp only at hk hS;rcases k with _ | _ | _ | _ | _ | _ | k
            ·refine Z ?_;intro c t;cases c
             ·have t:(l.getD i Jd).num 0=-1:=(by show (l.getD i Jd).a0=-1;simpa using t.symm);refine Z ?_;exact back (0+1,S',nx5) ⟨Dm,Jgu hS t⟩ Dm (Et rfl rfl Bf Tt ⟨Rf,Rf,Rf,Rf,Rf,Rf,Rf,Rf,Rf,Rf,Rf,Tt⟩)
             ·have t:¬(l.getD i Jd).num 0=-1:=(by show ¬(l.getD i Jd).a0=-1;simpa using t.symm);refine Z ?_;refine Jg (xs:= [.om (0,nx),int ((0:Nat):Int),int ((l.getD i Jd).num 0)]) [((1,nx1), .c (JbH (l.getD i Jd)))] [] 2 rfl rfl rfl rfl Y3 (JfZ nx nx5 0 S' ((0:Nat):Int) ((l.getD i Jd).num 0)) Bf Pf rfl fun r h' hq2=> ?_;obtain ⟨nx6,nn6,rfl,rfl⟩:=hq2;by_cases hm:(((0:Nat):Int),(l.getD i Jd).num 0)∈S'
              ·have hnone:=Jgv (Jiw hS t hm) (show 0+1≤5 by decide);rw [hnone] at hrest;rw [decide_eq_true hm];refine Z ?_;rw [herr 15 hrest];exact Jb rfl Rf
              ·have hnew:=Jhv hS t hm;rw [decide_eq_false hm];refine Z ?_;exact back (0+1,JdM (((0:Nat):Int),(l.getD i Jd).num 0) S',nx6) ⟨Dm,hnew⟩ Dm (Et rfl rfl Bf Tt ⟨Rf,Rf,Rf,Rf,Rf,Rf,Rf,Rf,Rf,Rf,Rf,Tt⟩)
            ·refine Z ?_;intro c t;cases c
             ·have t:(l.getD i Jd).num 1=-1:=(by show (l.getD i Jd).a1=-1;simpa using t.symm);refine Z ?_;exact back (1+1,S',nx5) ⟨Dm,Jgu hS t⟩ Dm (Et rfl rfl Bf Tt ⟨Rf,Rf,Rf,Rf,Rf,Rf,Rf,Rf,Rf,Rf,Rf,Tt⟩)
             ·have t:¬(l.getD i Jd).num 1=-1:=(by show ¬(l.getD i Jd).a1=-1;simpa using t.symm);refine Z ?_;refine Jg (xs:= [.om (0,nx),int ((1:Nat):Int),int ((l.getD i Jd).num 1)]) [((1,nx1), .c (JbH (l.getD i Jd)))] [] 2 rfl rfl rfl rfl Y3 (JfZ nx nx5 0 S' ((1:Nat):Int) ((l.getD i Jd).num 1)) Bf Pf rfl fun r h' hq2=> ?_;obtain ⟨nx6,nn6,rfl,rfl⟩:=hq2;by_cases hm:(((1:Nat):Int),(l.getD i Jd).num 1)∈S'
              ·have hnone:=Jgv (Jiw hS t hm) (show 1+1≤5 by decide);rw [hnone] at hrest;rw [decide_eq_true hm];refine Z ?_;rw [herr 15 hrest];exact Jb rfl Rf
              ·have hnew:=Jhv hS t hm;rw [decide_eq_false hm];refine Z ?_;exact back (1+1,JdM (((1:Nat):Int),(l.getD i Jd).num 1) S',nx6) ⟨Dm,hnew⟩ Dm (Et rfl rfl Bf Tt ⟨Rf,Rf,Rf,Rf,Rf,Rf,Rf,Rf,Rf,Rf,Rf,Tt⟩)
            ·refine Z ?_;intro c t;cases c
             ·have t:(l.getD i Jd).num 2=-1:=(by show (l.getD i Jd).a2=-1;simpa using t.symm);refine Z ?_;exact back (2+1,S',nx5) ⟨Dm,Jgu hS t⟩ Dm (Et rfl rfl Bf Tt ⟨Rf,Rf,Rf,Rf,Rf,Rf,Rf,Rf,Rf,Rf,Rf,Tt⟩)
             ·have t:¬(l.getD i Jd).num 2=-1:=(by show ¬(l.getD i Jd).a2=-1;simpa using t.symm);refine Z ?_;refine Jg (xs:= [.om (0,nx),int ((2:Nat):Int),int ((l.getD i Jd).num 2)]) [((1,nx1), .c (JbH (l.getD i Jd)))] [] 2 rfl rfl rfl rfl Y3 (JfZ nx nx5 0 S' ((2:Nat):Int) ((l.getD i Jd).num 2)) Bf Pf rfl fun r h' hq2=> ?_;obtain ⟨nx6,nn6,rfl,rfl⟩:=hq2;by_cases hm:(((2:Nat):Int),(l.getD i Jd).num 2)∈S'
              ·have hnone:=Jgv (Jiw hS t hm) (show 2+1≤5 by decide);rw [hnone] at hrest;rw [decide_eq_true hm];refine Z ?_;rw [herr 15 hrest];exact Jb rfl Rf
              ·have hnew:=Jhv hS t hm;rw [decide_eq_false hm];refine Z ?_;exact back (2+1,JdM (((2:Nat):Int),(l.getD i Jd).num 2) S',nx6) ⟨Dm,hnew⟩ Dm (Et rfl rfl Bf Tt ⟨Rf,Rf,Rf,Rf,Rf,Rf,Rf,Rf,Rf,Rf,Rf,Tt⟩)
            ·refine Z ?_;intro c t;cases c
             ·have t:(l.getD i Jd).num 3=-1:=(by show (l.getD i Jd).a3=-1;simpa using t.symm);refine Z ?_;exact back (3+1,S',nx5) ⟨Dm,Jgu hS t⟩ Dm (Et rfl rfl Bf Tt ⟨Rf,Rf,Rf,Rf,Rf,Rf,Rf,Rf,Rf,Rf,Rf,Tt⟩)
             ·have t:¬(l.getD i Jd).num 3=-1:=(by show ¬(l.getD i Jd).a3=-1;simpa using t.symm);refine Z ?_;refine Jg (xs:= [.om (0,nx),int ((3:Nat):Int),int ((l.getD i Jd).num 3)]) [((1,nx1), .c (JbH (l.getD i Jd)))] [] 2 rfl rfl rfl rfl Y3 (JfZ nx nx5 0 S' ((3:Nat):Int) ((l.getD i Jd).num 3)) Bf Pf rfl fun r h' hq2=> ?_;obtain ⟨nx6,nn6,rfl,rfl⟩:=hq2;by_cases hm:(((3:Nat):Int),(l.getD i Jd).num 3)∈S'
              ·have hnone:=Jgv (Jiw hS t hm) (show 3+1≤5 by decide);rw [hnone] at hrest;rw [decide_eq_true hm];refine Z ?_;rw [herr 15 hrest];exact Jb rfl Rf
              ·have hnew:=Jhv hS t hm;rw [decide_eq_false hm];refine Z ?_;exact back (3+1,JdM (((3:Nat):Int),(l.getD i Jd).num 3) S',nx6) ⟨Dm,hnew⟩ Dm (Et rfl rfl Bf Tt ⟨Rf,Rf,Rf,Rf,Rf,Rf,Rf,Rf,Rf,Rf,Rf,Tt⟩)
            ·refine Z ?_;intro c t;cases c
             ·have t:(l.getD i Jd).num 4=-1:=(by show (l.getD i Jd).a4=-1;simpa using t.symm);refine Z ?_;exact back (4+1,S',nx5) ⟨Dm,Jgu hS t⟩ Dm (Et rfl rfl Bf Tt ⟨Rf,Rf,Rf,Rf,Rf,Rf,Rf,Rf,Rf,Rf,Rf,Tt⟩)
             ·have t:¬(l.getD i Jd).num 4=-1:=(by show ¬(l.getD i Jd).a4=-1;simpa using t.symm);refine Z ?_;refine Jg (xs:= [.om (0,nx),int ((4:Nat):Int),int ((l.getD i Jd).num 4)]) [((1,nx1), .c (JbH (l.getD i Jd)))] [] 2 rfl rfl rfl rfl Y3 (JfZ nx nx5 0 S' ((4:Nat):Int) ((l.getD i Jd).num 4)) Bf Pf rfl fun r h' hq2=> ?_;obtain ⟨nx6,nn6,rfl,rfl⟩:=hq2;by_cases hm:(((4:Nat):Int),(l.getD i Jd).num 4)∈S'
              ·have hnone:=Jgv (Jiw hS t hm) (show 4+1≤5 by decide);rw [hnone] at hrest;rw [decide_eq_true hm];refine Z ?_;rw [herr 15 hrest];exact Jb rfl Rf
              ·have hnew:=Jhv hS t hm;rw [decide_eq_false hm];refine Z ?_;exact back (4+1,JdM (((4:Nat):Int),(l.getD i Jd).num 4) S',nx6) ⟨Dm,hnew⟩ Dm (Et rfl rfl Bf Tt ⟨Rf,Rf,Rf,Rf,Rf,Rf,Rf,Rf,Rf,Rf,Rf,Tt⟩)
            ·refine Z ?_;exact ⟨(S',nx5),hS,Et rfl rfl Bf Tt Y9⟩
            ·omega
          ·rintro ⟨S5,nx5⟩ hS;dsimp only at hS;refine Z ?_;intro c t;cases c
           ·have t:(l.getD i Jd).mux=0:=(by simpa using t.symm);have hmx:Jka (l.getD i Jd) S5=some S5:=if_pos t;rw [hS] at hrest;dsimp only at hrest;rw [hmx] at hrest;have h3:=hnext S5 hrest;refine Z ?_;exact back (i+1,S5,nx5) ⟨hi,h3⟩ Dm (Je _ _ rfl rfl (.cons _ Sf) Sf Bf Tt ⟨Rf,Rf,Rf,Rf,Rf,Rf,Lw,Tt⟩)
           ·have t:¬(l.getD i Jd).mux=0:=(by simpa using t.symm);have h12:=JmW hr t;have hw:IntKind.i64.wrap (5+(l.getD i Jd).mux)=5+(l.getD i Jd).mux:=Jq Om Om;refine Z ?_;refine Jg (xs:= [.om (0,nx),int (5+(l.getD i Jd).mux),int (l.getD i Jd).sub]) [((1,nx1), .c (JbH (l.getD i Jd)))] [] 2 rfl rfl rfl rfl ⟨Rf,Jf hw,Y1⟩ (JfZ nx nx5 0 S5 (5+(l.getD i Jd).mux) (l.getD i Jd).sub) Bf Pf rfl fun r h' hq2=> ?_;obtain ⟨nx6,nn6,rfl,rfl⟩:=hq2;rw [hS] at hrest;dsimp only at hrest;by_cases hm:(5+(l.getD i Jd).mux,(l.getD i Jd).sub)∈S5
            ·have hmx:Jka (l.getD i Jd) S5=none:=(by unfold Jka;rw [if_neg t,if_pos hm]);rw [hmx] at hrest;rw [decide_eq_true hm];refine Z ?_;rw [herr 15 hrest];exact Jb rfl Rf
            ·have hmx:Jka (l.getD i Jd) S5=some (JdM (5+(l.getD i Jd).mux,(l.getD i Jd).sub) S5):=(by unfold Jka JdM;rw [if_neg t,if_neg hm,if_neg hm]);rw [hmx] at hrest;have h3:=hnext _ hrest;rw [decide_eq_false hm];refine Z ?_;exact back (i+1,JdM (5+(l.getD i Jd).mux,(l.getD i Jd).sub) S5,nx6) ⟨hi,h3⟩ Dm (Je _ _ rfl rfl (.cons _ Sf) Sf Bf Tt ⟨Rf,Rf,Rf,Rf,Rf,Rf,Lw,Tt⟩)
end Go.Proofs.W

namespace Go.Proofs
open Go.Shelf
shelf_lay Lays.n106 Nm 106 at Tryz as Tryz.lays106
end Go.Proofs
namespace Go.Proofs.W
open Go.Vl Go.Shelf
set_option maxRecDepth 100000
def Jeh (s t:ByteArray):Int:=Lib.compareBytes s.data.toList t.data.toList
theorem Jrx (s t:ByteArray):Tells Tryz.prog 71 [.v (.string s), .v (.string t)] (.v (.int .i64 (Jeh s t))):=
 JeQ (vs:= [.string s, .string t]) ⟨_,Tryz.func71,rfl,rfl⟩ fun w=> (Any.strings_Compare Tryz.lays106 s t w).mono fun e w' ⟨h1,h2⟩=> ⟨h1,by subst h2;exact ⟨rfl,rfl,rfl,Nat.le_refl _,fun _ _=> rfl⟩⟩
theorem JmX (r:TRow) (s:ByteArray):Tells Tryz.prog 70 [Jfd r,JA s] (int (Jeh r.name s)):=by
 refine Jc Tryz.func70 rfl rfl fun nx=> ?_
 refine Z ?_
 refine Ja rfl rfl (Jrx r.name s) Y2 fun nx2=> ?_
 refine Z ?_
 exact Jb rfl Rf
def Jce (l:List TRow) (s:ByteArray):Nat:=(l.takeWhile fun r=> decide (Jeh r.name s < 0)).length
theorem JBV (l:List TRow) (s:ByteArray):Jce l s≤l.length:=by
 unfold Jce
 have:=congrArg List.length (List.takeWhile_append_dropWhile (p:=fun r:TRow=> decide (Jeh r.name s < 0)) (l:=l))
 rw [List.length_append] at this
 omega
theorem Jn8 {s:ByteArray}:∀ {l:List TRow} {j:Nat},j < Jce l s→Jeh (l.getD j Jd).name s < 0
 | [],j,h=> by simp [Jce] at h
 | r::l,j,h=> by
   unfold Jce at h;rw [List.takeWhile_cons] at h;by_cases hc:Jeh r.name s < 0
   ·rw [if_pos (by simpa using hc)] at h;cases j with
    | zero=> exact hc
    | succ j=> exact Jn8 (l:=l) (j:=j) (by unfold Jce;simp at h;omega)
   ·rw [if_neg (by simpa using hc)] at h;simp at h
theorem JkW {s:ByteArray}:∀ {l:List TRow},Jce l s < l.length→¬Jeh (l.getD (Jce l s) Jd).name s < 0
 | [],h=> by simp at h
 | r::l,h=> by
   by_cases hc:Jeh r.name s < 0
   ·have e:Jce (r::l) s=Jce l s+1:=(by unfold Jce;rw [List.takeWhile_cons,if_pos (by simpa using hc)];rfl);rw [e] at h⊢;exact JkW (l:=l) (by simpa using h)
   ·have e:Jce (r::l) s=0:=(by unfold Jce;rw [List.takeWhile_cons,if_neg (by simpa using hc)];rfl);rw [e];exact hc
def Jje (l:List TRow) (s:ByteArray):Prop:=∀i j,i < j→j < l.length→Jeh (l.getD j Jd).name s < 0→Jeh (l.getD i Jd).name s < 0
theorem JBW {l:List TRow} {s:ByteArray} (hs:Jje l s) {j:Nat} (h1:Jce l s≤j) (h2:j < l.length):¬Jeh (l.getD j Jd).name s < 0:=fun h=> by
 rcases Nat.lt_or_ge (Jce l s) j with q | q
 ·exact JkW Om (hs _ j q h2 h)
 ·have e:Jce l s=j:=by omega
  exact JkW (l:=l) (s:=s) Om (by rw [e];exact h)
def Jbq (l:List TRow) (s:ByteArray):Bool:=decide (Jce l s < l.length)&& decide (Jeh (l.getD (Jce l s) Jd).name s=0)
theorem JBX {a b:Nat} (h:a+b≤4000000):IntKind.i64.wrap ((IntKind.u64.wrap (IntKind.i64.wrap ((a:Int)+(b:Int)))).fdiv (2 ^ min (Int.toNat 1) IntKind.u64.bits))=(((a+b) / 2:Nat):Int):=by
 rw [Jq (n:=(a:Int)+(b:Int)) Om Om]
 have hu:IntKind.u64.wrap ((a:Int)+(b:Int))=(a:Int)+(b:Int):=by
  show ((a:Int)+(b:Int)) % 18446744073709551616=_;omega
 rw [hu]
 have h2:(2:Int) ^ min (Int.toNat 1) IntKind.u64.bits=2:=by decide
 rw [h2,Int.fdiv_eq_ediv_of_nonneg _ Dc]
 rw [Jq Om Om]
 omega
theorem Jry (l:List TRow) (s:ByteArray) (hl:l.length≤1000000) (hs:Jje l s):
 Tells Tryz.prog 69 [JS l,JA s,fn0 70] (.tup [int (Jce l s),Ji (Jbq l s)]):=by
 have hk:=JBV l s
 have hlt:=fun j=> Jn8 (l:=l) (s:=s) (j:=j)
 have hge:=fun j=> JBW (j:=j) hs
 unfold Jbq
 generalize Jce l s=k at hk hlt hge⊢
 refine Jc Tryz.func69 rfl rfl fun nx=> ?_
 refine Z ?_
 refine Js (fun y:Nat×Nat×Nat=> mk 49 [(0,JS l),(1,JA s),(2,fn0 70),(8,int l.length),(9,int y.1),(10,int y.2.1)] ⟨[], [],y.2.2,0⟩) (fun y=> y.1≤k∧k≤y.2.1∧y.2.1≤l.length) (fun y=> y.2.1 - y.1) ?_ ?_
 ·exact ⟨(0,l.length,nx),⟨Nat.zero_le _,hk,Nat.le_refl _⟩,JaM rfl rfl Y6⟩
 ·rintro ⟨lo,hi,nx1⟩ ⟨h1,h2,h3⟩;dsimp only at h1 h2 h3;refine Z ?_;intro c g;cases c
  ·have g:=Jw g;try dsimp only at g
   have e:lo=k:=by omega
   subst e;by_cases hkl:lo < l.length
   ·have hf1:=JmX (l.getD lo Jd) s;have hd:decide ((lo:Int) < (l.length:Int))=true:=decide_eq_true Om;refine Z ?_
    (conv=> whnf)
    refine JaU hd ?_;refine Z ?_;refine ⟨Bd, ?_⟩;refine Z ?_;refine Ja rfl rfl hf1 Y2 fun nx2=> ?_;intro c t;cases c
    all_goals
     refine Z ?_;exact Jb rfl (AVle.tups (cs:= [_,_]) ⟨Rf,JN (t.trans (by rw [decide_eq_true hkl,Bool.true_and,Bool.eq_iff_iff];simp)),Tt⟩)
   ·have hd:decide ((lo:Int) < (l.length:Int))=false:=decide_eq_false Om;rw [decide_eq_false hkl,Bool.false_and];refine Z ?_
    (conv=> whnf)
    refine JaU hd ?_;refine Z ?_;exact Jb rfl Rf
  ·have g:=Ju g;try dsimp only at g
   have hm:=JBX (a:=lo) (b:=hi) Om;have hml:(lo+hi) / 2 < l.length:=by omega
   have hf1:=JmX (l.getD ((lo+hi) / 2) Jd) s;refine Z ?_;refine ⟨⟨JG (i:=(lo+hi) / 2) hm,JH (i:=(lo+hi) / 2) hm hml⟩,Jj (b:= .rp (JbH (l.getD ((lo+hi) / 2) Jd))) (congrArg (fun z:Int=> AV.rp (JbH (l.getD z.toNat Jd))) hm) ?_⟩;refine Z ?_;refine Ja rfl rfl hf1 Y2 fun nx2=> ?_;refine Z ?_;intro c gg;cases c
   ·have gg:¬Jeh (l.getD ((lo+hi) / 2) Jd).name s < 0:=Jw gg;have hkm:k≤(lo+hi) / 2:=by
     rcases Nat.lt_or_ge ((lo+hi) / 2) k with q | q
     ·exact absurd (hlt _ q) gg
     ·exact q
    refine Z ?_;exact back (lo,(lo+hi) / 2,nx2) ⟨h1,hkm,Dm⟩ Dm (JaM rfl rfl ⟨Rf,Rf,Rf,Rf,Rf,Jf hm,Tt⟩)
   ·have gg:Jeh (l.getD ((lo+hi) / 2) Jd).name s < 0:=Ju gg;have hkm:(lo+hi) / 2+1≤k:=by
     rcases Nat.lt_or_ge ((lo+hi) / 2) k with q | q
     ·exact q
     ·exact absurd gg (hge _ q hml)
    refine Z ?_;exact back ((lo+hi) / 2+1,hi,nx2) ⟨hkm,h2,h3⟩ Dm (JaM rfl rfl ⟨Rf,Rf,Rf,Rf,Jf (by rw [hm];exact Jx Om),Y1⟩)
def JmY (l:List TRow) (s:ByteArray):AV:=if Jbq l s then .tup [Jfd (l.getD (Jce l s) Jd),int (Jce l s),Ji true] else .tup [Jfd Jd,int 0,Ji false]
theorem Jhw (l:List TRow) (s:ByteArray) (hl:l.length≤1000000) (hs:Jje l s):Tells Tryz.prog 24 [JS l,JA s] (JmY l s):=by
 have hb:=Jry l s hl hs
 have hk:Jbq l s=true→Jce l s < l.length:=fun h=> by unfold Jbq at h;simp only [Bool.and_eq_true,decide_eq_true_eq] at h;exact h.1
 unfold JmY
 generalize Jce l s=k at hb hk⊢
 refine Jc Tryz.func24 rfl rfl fun nx=> ?_
 cases hf:Jbq l s with
 | true=>
   rw [hf] at hb hk;have hk:=hk rfl;rw [if_pos rfl];refine Z ?_;refine Ja rfl rfl hb Y3 fun nx2=> ?_;refine Z ?_;refine ⟨Bd, ?_⟩;refine Z ?_;exact Jk rfl ⟨rfl,Tt⟩ Rf
 | false=>
   rw [hf] at hb;rw [if_neg Dc];refine Z ?_;refine Ja rfl rfl hb Y3 fun nx2=> ?_;refine Z ?_;exact Jk rfl ⟨rfl,Tt⟩ Rf
theorem JuD:∀ {a b:List UInt8},Lib.compareBytes a b < 0↔a < b
 | [], []=> by simp [Lib.compareBytes]
 | [],b::l=> by simp [Lib.compareBytes]
 | a::l, []=> by simp [Lib.compareBytes]
 | a::l,b::m=> by
   have ih:=JuD (a:=l) (b:=m);unfold Lib.compareBytes;rw [List.cons_lt_cons_iff];split
   ·rename_i h;simp [h]
   ·rename_i h
    split
    ·rename_i h2
     constructor
     ·intro h3;exact absurd h3 Dc
     ·rintro (h3 | ⟨h3,_⟩)
      ·exact absurd h3 h
      ·subst h3;exact absurd h2 h
    ·rename_i h2
     rw [ih]
     constructor
     ·intro h3;exact .inr ⟨UInt8.le_antisymm (UInt8.not_lt.1 h2) (UInt8.not_lt.1 h),h3⟩
     ·rintro (h3 | ⟨_,h3⟩)
      ·exact absurd h3 h
      ·exact h3
theorem Jrz:∀ {a b:List UInt8},Lib.compareBytes a b=0↔a=b
 | [], []=> by simp [Lib.compareBytes]
 | [],b::l=> by simp [Lib.compareBytes]
 | a::l, []=> by simp [Lib.compareBytes]
 | a::l,b::m=> by
   have ih:=Jrz (a:=l) (b:=m);unfold Lib.compareBytes;split
   ·rename_i h
    constructor
    ·intro h3;exact absurd h3 Dc
    ·intro h3;cases h3;exact absurd h (UInt8.lt_irrefl _)
   ·rename_i h
    split
    ·rename_i h2
     constructor
     ·intro h3;exact absurd h3 Dc
     ·intro h3;cases h3;exact absurd h2 (UInt8.lt_irrefl _)
    ·rename_i h2
     rw [ih,List.cons.injEq];exact ⟨fun h3=> ⟨UInt8.le_antisymm (UInt8.not_lt.1 h2) (UInt8.not_lt.1 h),h3⟩,fun h3=> h3.2⟩
theorem JhY {s t:ByteArray} (h:s.data.toList=t.data.toList):s=t:=by
 obtain ⟨⟨l⟩⟩:=s;obtain ⟨⟨l'⟩⟩:=t
 exact congrArg (fun l=> (⟨⟨l⟩⟩:ByteArray)) h
theorem JmZ:∀x y:List UInt8,Go.Sort.ltStr x y=false→Go.Sort.ltStr y x=false→x=y:=fun x y h1 h2=> by
 simp only [Go.Sort.ltStr,decide_eq_false_iff_not,List.not_lt] at h1 h2
 exact List.le_antisymm h2 h1
theorem Jn9 {s t:ByteArray}:Jeh s t < 0↔Go.Sort.ltStr s.data.toList t.data.toList=true:=by
 unfold Jeh Go.Sort.ltStr;rw [JuD,decide_eq_true_iff]
theorem JuE {s t:ByteArray}:Jeh s t=0↔s=t:=by
 unfold Jeh;rw [Jrz]
 exact ⟨JhY,fun h=> by rw [h]⟩
theorem JDu {s t:ByteArray} (h:leB s t=false):Go.Sort.ltStr t.data.toList s.data.toList=true:=by
 unfold leB at h
 rw [Bool.or_eq_false_iff,Go.Proofs.bytesLess_eq,Lib.toList_data,Lib.toList_data] at h
 cases hl:Go.Sort.ltStr t.data.toList s.data.toList with
 | true=> rfl
 | false=>
   have e:=JmZ _ _ hl h.1;rw [e] at h;simp at h
def Joa (l:List TRow):Prop:=∀i j,i < j→j < l.length→Go.Sort.ltStr (l.getD i Jd).name.data.toList (l.getD j Jd).name.data.toList=true
theorem Jgl {l:List TRow} (h:Joa l) (s:ByteArray):Jje l s:=fun i j hij hj hc=> by
 rw [Jn9] at hc⊢
 exact Go.Sort.swo_ltStr.trans _ _ _ (h i j hij hj) hc
end Go.Proofs.W

namespace Go.Proofs.W
open Go.Vl
set_option maxRecDepth 100000
end Go.Proofs.W

namespace Go.Proofs
open Go.Shelf
end Go.Proofs
namespace Go.Proofs.W
open Go.Vl Go.Shelf
set_option maxRecDepth 100000
end Go.Proofs.W

namespace Go.Proofs.W
open Go.Vl Go.Shelf
set_option maxRecDepth 100000
open Go.Vl
def kb (k:Nat):Nat:= [2147483648,0,196608,327680,2143289344,2146435072,2147221504,2147418112].getD k 0
def km (k:Nat):Nat:=if k=3 then 4095 else if k=5 then 65535 else 0
def fits (v k:Nat):Bool:=decide (kb k≤v)&& decide (v≤kb k+km k)
theorem JDv (k:Nat) (h:k < 8):∃s m,JfV JkU k= .ag [.v (.string s), .v (.int .u32 (kb k)),m]∧Tells Tryz.prog 153 [JfV JkU k] (int (km k)):=by
 have key:=JlS k h
 rcases k with _ | _ | _ | _ | _ | _ | _ | _ | k
 ·exact ⟨_,_,rfl,Jds _ _⟩
 ·exact ⟨_,_,rfl,Jds _ _⟩
 ·exact ⟨_,_,rfl,Jds _ _⟩
 ·exact ⟨_,_,rfl,JhW _ _ 4096 Dc⟩
 ·exact ⟨_,_,rfl,Jds _ _⟩
 ·exact ⟨_,_,rfl,JhW _ _ 65536 Dc⟩
 ·exact ⟨_,_,rfl,Jds _ _⟩
 ·exact ⟨_,_,rfl,Jds _ _⟩
 ·omega
theorem JvY {k:Nat} (h:k < 8):kb k+km k < 4294967296:=by
 rcases k with _ | _ | _ | _ | _ | _ | _ | _ | k
 all_goals first | decide | omega
theorem JtG (s:ByteArray) (hs:s.size≤9223372036854775807):Tells Tryz.prog 154 [JA s] (Ji (JaQ s.data.toList)):=by
 have key:∀b,JaQ s.data.toList=b→Tells Tryz.prog 154 [JA s] (Ji b):=fun b hb=> by
  have hr:=Jp3 s hs b hb;refine Jc Tryz.func154 rfl rfl fun nx=> ?_;refine Z ?_;refine Ja rfl rfl hr ⟨?_,Tt⟩ fun nx1=> ?_
  ·refine AVle.os_sl.trans (AVle.sl_fun fun k hk=> ?_)
   match k,hk with
   | 0,_=> rfl
  cases b
  ·refine Z ?_;exact Jb rfl Rf
  ·refine Z ?_;exact Jb rfl Rf
 exact key _ rfl
theorem JrA (c:Cnd):Tells Tryz.prog 155 [JZ c] (Ji (!JR c)):=by
 have key:∀b,JR c=b→Tells Tryz.prog 155 [JZ c] (Ji (!b)):=fun b hb=> by
  have hr:=JgU c;rw [hb] at hr;refine Jc Tryz.func155 rfl rfl fun nx=> ?_;refine Z ?_;refine Ja rfl rfl hr Y1 fun nx1=> ?_;cases b
  ·refine Z ?_;exact Jb rfl Rf
  ·refine Z ?_;exact Jb rfl Rf
 exact key _ rfl
def Rul.ok (r:Rul):Prop:=r.name.size≤maxLen∧r.conds.length≤maxLen∧∀c∈r.conds,c.ok
def JaJ (r:Rul):Bool:=JaQ r.name.data.toList&& (Ja7 r.act.1 r.act.2&& (decide (r.conds.length≤6)&& !(r.conds.any fun c=> !JR c)))
theorem JtH (r:Rul) (h1:r.name.size≤9223372036854775807):Tells Tryz.prog 100 [JaS r] (Ji (JaJ r)):=by
 have hn:=JtG r.name h1
 have ha:=JlT r.act.1 r.act.2
 have hc:r.conds.length≤1000000000→Tells Tryz.prog 55 [Jaz r.conds,fn0 155] (Ji (r.conds.any fun c=> !JR c)):=fun hl=> Jrr r.conds (fun c=> !JR c) _ hl (fun i _=> JrA _)
 unfold JaJ
 generalize JaQ r.name.data.toList=b1 at hn⊢
 generalize Ja7 r.act.1 r.act.2=b2 at ha⊢
 generalize (r.conds.any fun c=> !JR c)=b3 at hc⊢
 obtain ⟨name,⟨k,n⟩,conds⟩:=r
 dsimp only at hn ha hc⊢
 refine Jc Tryz.func100 rfl rfl fun nx=> ?_
 refine Z ?_
 refine Ja rfl rfl hn Y1 fun nx1=> ?_
 cases b1
 ·refine Z ?_;exact Jb rfl Rf
 refine Z ?_
 refine Ja rfl rfl ha Y1 fun nx2=> ?_
 cases b2
 ·refine Z ?_;exact Jb rfl Rf
 refine Z ?_
 intro c t3;cases c
 ·refine Z ?_;have e3:¬conds.length≤6:=fun h=> (Jw t3:¬((conds.length:Nat):Int)≤6) Om;exact Jb rfl (JN (by show false=(true&& (true&& (decide (conds.length≤6)&& !b3)));rw [decide_eq_false e3];rfl))
 have h3:conds.length≤6:=by have t:((conds.length:Nat):Int)≤6:=Ju t3;omega
 have hc:=hc (show conds.length≤1000000000 by omega)
 refine Z ?_
 refine Ja rfl rfl hc Y2 fun nx3=> ?_
 cases b3
 ·refine Z ?_;exact Jb rfl (JN (by first | (show true=(true&& (true&& (decide (conds.length≤6)&& !false)));rw [decide_eq_true h3];rfl) | (show true=(true&& (decide (rules.length≤500)&& !false));rw [decide_eq_true h3];rfl)))
 ·refine Z ?_;exact Jb rfl (JN (by first | (show false=(true&& (true&& (decide (conds.length≤6)&& !true)));rw [decide_eq_true h3];rfl) | (show false=(true&& (decide (rules.length≤500)&& !true));rw [decide_eq_true h3];rfl)))
theorem JrB (r:Rul) (h1:r.name.size≤9223372036854775807):Tells Tryz.prog 99 [JaS r] (Ji (!JaJ r)):=by
 have key:∀b,JaJ r=b→Tells Tryz.prog 99 [JaS r] (Ji (!b)):=fun b hb=> by
  have hr:=JtH r h1;rw [hb] at hr;refine Jc Tryz.func99 rfl rfl fun nx=> ?_;refine Z ?_;refine Ja rfl rfl hr Y1 fun nx1=> ?_;cases b
  ·refine Z ?_;exact Jb rfl Rf
  ·refine Z ?_;exact Jb rfl Rf
 exact key _ rfl
def Ja8 (p:Pol):Bool:=Ja7 p.dflt.1 p.dflt.2&& (decide (p.rules.length≤500)&& !(p.rules.any fun r=> !JaJ r))
def Pol.ok (p:Pol):Prop:=p.rules.length≤maxLen∧∀r∈p.rules,r.ok
theorem Jln (p:Pol) (hp:p.ok):Tells Tryz.prog 51 [JcT p] (Ji (Ja8 p)):=by
 have ha:=JlT p.dflt.1 p.dflt.2
 have hc:p.rules.length≤1000000000→Tells Tryz.prog 98 [Jak p.rules,fn0 99] (Ji (p.rules.any fun r=> !JaJ r)):=fun hl=> Jz4 p.rules (fun r=> !JaJ r) _ hl (fun i hi=> JrB _ (by
  have:p.rules.getD i Jn∈p.rules:=by simp [List.getD,hi]
  have:=(hp.2 _ this).1;exact Nat.le_trans this Dc))
 unfold Ja8
 generalize Ja7 p.dflt.1 p.dflt.2=b2 at ha⊢
 generalize (p.rules.any fun r=> !JaJ r)=b3 at hc⊢
 clear hp
 obtain ⟨⟨k,n⟩,x,rules⟩:=p
 dsimp only at ha hc⊢
 refine Jc Tryz.func51 rfl rfl fun nx=> ?_
 refine Z ?_
 refine Ja rfl rfl ha Y1 fun nx2=> ?_
 cases b2
 ·refine Z ?_;exact Jb rfl Rf
 refine Z ?_
 intro c t3;cases c
 ·refine Z ?_;have e3:¬rules.length≤500:=fun h=> (Jw t3:¬((rules.length:Nat):Int)≤500) Om;exact Jb rfl (JN (by show false=(true&& (decide (rules.length≤500)&& !b3));rw [decide_eq_false e3];rfl))
 have h3:rules.length≤500:=by have t:((rules.length:Nat):Int)≤500:=Ju t3;omega
 have hc:=hc (show rules.length≤1000000000 by omega)
 refine Z ?_
 refine Ja rfl rfl hc Y2 fun nx3=> ?_
 cases b3
 ·refine Z ?_;exact Jb rfl (JN (by first | (show true=(true&& (true&& (decide (conds.length≤6)&& !false)));rw [decide_eq_true h3];rfl) | (show true=(true&& (decide (rules.length≤500)&& !false));rw [decide_eq_true h3];rfl)))
 ·refine Z ?_;exact Jb rfl (JN (by first | (show false=(true&& (true&& (decide (conds.length≤6)&& !true)));rw [decide_eq_true h3];rfl) | (show false=(true&& (decide (rules.length≤500)&& !true));rw [decide_eq_true h3];rfl)))
def Jfb (r:Rul):Bool:=decide (r.name.size≤60)&& decide (r.conds.length≤12)
def Jgw (p:Pol):Bool:=decide (p.rules.length≤40)&& p.rules.all Jfb
def Jay (l:List TRow) (s:ByteArray):TRow:=if Jbq l s then l.getD (Jce l s) Jd else Jd
theorem JxG (l:List TRow) (s:ByteArray) (hl:l.length≤1000000) (hs:Jje l s):Tells Tryz.prog 61 [JS l,JA s] (.tup [Ji (Jbq l s&& decide ((Jay l s).a2≥0)),Ji (decide ((Jay l s).mux > 0))]):=by
 have hf:=Jhw l s hl hs
 unfold JmY at hf
 unfold Jay
 cases hb:Jbq l s with
 | true=>
   rw [hb,if_pos rfl] at hf;rw [if_pos rfl];generalize l.getD (Jce l s) Jd=r at hf⊢;cases hd:decide (r.a2≥0) with
   | true=>
     refine Jc Tryz.func61 rfl rfl fun nx=> ?_;refine Z ?_;refine Ja rfl rfl hf Y2 fun nx2=> ?_;refine Z ?_;refine Jav 11 _ (fun _=> false) (fun _=> false) [0,1,2,3,4,5,6,7,8,9,10] Kr Kr (HB.refl _) ?_;refine Z ?_;refine ⟨_,Jfm rfl rfl rfl rfl trivial, ?_⟩;refine Z ?_;refine ⟨_,Jfm rfl rfl rfl rfl (by first | trivial | exact ⟨rfl,Nat.le_of_ble_eq_true rfl⟩ | exact ⟨by decide,by decide⟩), ?_⟩;refine Z ?_;refine ⟨_,Jfm rfl rfl rfl rfl (by first | trivial | exact ⟨rfl,Nat.le_of_ble_eq_true rfl⟩), ?_⟩;refine Z ?_;refine ⟨.v (.bool true),JoT rfl rfl rfl rfl trivial hd, ?_⟩;refine Z ?_;exact Jk rfl Tt Rf
   | false=>
     refine Jc Tryz.func61 rfl rfl fun nx=> ?_;refine Z ?_;refine Ja rfl rfl hf Y2 fun nx2=> ?_;refine Z ?_;refine Jav 11 _ (fun _=> false) (fun _=> false) [0,1,2,3,4,5,6,7,8,9,10] Kr Kr (HB.refl _) ?_;refine Z ?_;refine ⟨_,Jfm rfl rfl rfl rfl trivial, ?_⟩;refine Z ?_;refine ⟨_,Jfm rfl rfl rfl rfl (by first | trivial | exact ⟨rfl,Nat.le_of_ble_eq_true rfl⟩ | exact ⟨by decide,by decide⟩), ?_⟩;refine Z ?_;refine ⟨_,Jfm rfl rfl rfl rfl (by first | trivial | exact ⟨rfl,Nat.le_of_ble_eq_true rfl⟩), ?_⟩;refine Z ?_;refine ⟨.v (.bool false),JoT rfl rfl rfl rfl trivial hd, ?_⟩;refine Z ?_;exact Jk rfl Tt Rf
 | false=>
   rw [hb,if_neg Dc] at hf;rw [if_neg Dc];refine Jc Tryz.func61 rfl rfl fun nx=> ?_;refine Z ?_;refine Ja rfl rfl hf Y2 fun nx2=> ?_;refine Z ?_;refine Jav 11 _ (fun _=> false) (fun _=> false) [0,1,2,3,4,5,6,7,8,9,10] Kr Kr (HB.refl _) ?_;refine Z ?_;refine ⟨_,JkS rfl rfl rfl, ?_⟩;refine Z ?_;refine ⟨_,JkS rfl rfl rfl, ?_⟩;refine Z ?_;refine ⟨_,JkS rfl rfl rfl, ?_⟩;refine Z ?_;refine ⟨_,JkS rfl rfl rfl, ?_⟩;refine Z ?_;exact Jk rfl Tt Rf
structure Ct where
 name:ByteArray
 many:Nat
deriving DecidableEq
end Go.Proofs.W
