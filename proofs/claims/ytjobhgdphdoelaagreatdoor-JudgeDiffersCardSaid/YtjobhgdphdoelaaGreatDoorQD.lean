import Derived.Test.YtjobhgdphdoelaaGreatDoorQC
import Derived.Maps.RangeRun
import Derived.Sort.Row
import Derived.Sort.Grow
import Derived.Shelf.Strings.FuncGrows
import Derived.Scope
import Derived.KernelRfl
import Derived.Test.YtjobhgdphdoelaaGreatDoorProg
import Derived.Ground.NamesProg
import Derived.Shelf.Lay
import Derived.Shelf.Strings.SlTrimAscii
import Derived.Shelf.Small.Strs
set_option linter.unusedVariables false
set_option linter.unusedSimpArgs false
namespace Go.Vl
open Go.RowKit
variable {P:Program}
theorem Joz {gop:Operand} {ps:Array Tmp} {asg body:Code} {E:Env} {Q:AExit→Env→Prop} {it:FuncId} {first caps:List AV} {ds:List DA} {σ α:Type} {e:α→List AV} {xs:List α} {first' caps':List AV}
 (Cb:σ→List (Id×Own)) (Cp:σ→List (Id×Nat)) (I:List α→σ→Prop) (J:List α→α→σ→Prop) (s0:σ) (hd:E.df=some ds) (hf:E.ev gop= .fn (.func it) first caps) (hit:IterSpec P it first' caps' e xs) (hl1:LeL first first') (hl2:LeL caps caps')
 (hb:E.h.bx=Cb s0) (hp:E.h.pm=Cp s0) (h0:I [] s0) (hlen:∀x,(e x).length=ps.size)
 (hc:∀pre x post s nx nn,xs=pre++x::post→I pre s→AW P asg (Jbn E.n E.t ⟨((E.h.nn+1,E.h.nx+1), .lp .ready none E.n E.t ps asg body)::((E.h.nn,E.h.nx), .df)::Cb s,Cp s,nx,nn⟩ (ps.toList.zip (e x)).reverse)
   (JjY P (E.h.nn+1,E.h.nx+1) body (wk fun r h'=> (r= .v (.bool true)∧∃s',I (pre++ [x]) s'∧h'.bx=((E.h.nn+1,E.h.nx+1), .lp .ready none E.n E.t ps asg body)::((E.h.nn,E.h.nx), .df)::Cb s'∧h'.pm=Cp s')∨
     (r= .v (.bool false)∧∃s',J pre x s'∧h'.bx=((E.h.nn+1,E.h.nx+1), .lp .done (some .ret) E.n E.t ps asg body)::((E.h.nn,E.h.nx), .df)::Cb s'∧h'.pm=Cp s'))))
 (hend:∀s' nx nn,I xs s'→Q .normal { E with h:=⟨((E.h.nn+1,E.h.nx+1), .lp .exhausted none E.n E.t ps asg body)::((E.h.nn,E.h.nx), .df)::Cb s',Cp s',nx,nn⟩,df:=some (.col (E.h.nn,E.h.nx)::ds)})
 (hret:∀pre x post s' nx nn,xs=pre++x::post→J pre x s'→Q .ret { E with h:=⟨((E.h.nn+1,E.h.nx+1), .lp .exhausted (some .ret) E.n E.t ps asg body)::((E.h.nn,E.h.nx), .df)::Cb s',Cp s',nx,nn⟩,df:=some (.col (E.h.nn,E.h.nx)::ds)}):
 AW P (.rangeFunc gop ps asg body) E Q:=by
 refine Joy (σ:=σ×Bool) (fun s=> ((E.h.nn+1,E.h.nx+1), .lp (bif s.2 then .done else .ready) (bif s.2 then some .ret else none) E.n E.t ps asg body)::((E.h.nn,E.h.nx), .df)::Cb s.1) (fun s=> Cp s.1) (fun pre s=> s.2=false∧I pre s.1) (fun pre x s=> s.2=true∧J pre x s.1) (s0,false) hd hf hit hl1 hl2 ?_ hp ⟨rfl,h0⟩ ?_ ?_
 ·show _::_::E.h.bx=_
  rw [hb];rfl
 ·rintro pre x post ⟨s,b⟩ nx nn hx ⟨hb0,hI⟩
  dsimp only at hb0 hI
  subst hb0
  refine (Jeu (i:=(E.h.nn+1,E.h.nx+1)) (pd:=none) (n:=E.n) (t:=E.t) (ps:=ps) (asg:=asg) (body:=body) (by simp [JX]) (hlen x) (hc pre x post s nx nn hx hI)).wk.mono fun r h' hq=> ?_
  cases r with
  | pan x=> exact hq.elim
  | ret r=>
    rcases hq with ⟨hr,s',h1,h2,h3⟩ | ⟨hr,s',h1,h2,h3⟩
    ·exact ⟨(s',false), .inl ⟨hr,rfl,h1⟩,h2,h3⟩
    ·exact ⟨(s',true), .inr ⟨hr,rfl,h1⟩,h2,h3⟩
 ·rintro ⟨s',b⟩ nx nn h
  rcases h with ⟨hb0,h⟩ | ⟨pre,x,post,hx,hb0,h⟩
  ·dsimp only at hb0 h
   subst hb0
   unfold Jc5
   simp only [JX,Nat.beq_refl,cond_true,cond_false]
   refine ⟨trivial,(by intro h;cases h), ?_⟩
   simp only [Jak,Nat.beq_refl,cond_true]
   exact hend s' nx nn h
  ·dsimp only at hb0 h
   subst hb0
   unfold Jc5
   simp only [JX,Nat.beq_refl,cond_true,cond_false]
   refine ⟨trivial,(by intro h;cases h), ?_⟩
   simp only [Jak,Nat.beq_refl,cond_true]
   exact hret pre x post s' nx nn hx h
end Go.Vl

namespace Go.Vl
open Go.RowKit
variable {P:Program}
theorem Jwl {o:Oper} {t kt et:TypeId} {m:Operand} {es:List (Value×AV)} {E:Env} {K:Env→Prop} {Kp:AV→Env→Prop} (ho:o.op= .range t m) (ht:P.underlying t=some (.map kt et)) (hm:E.ev m= .fm es)
 (hk:K (({ E with h:=E.h.addo (.it es [])}:Env).set o.dst (.bp (E.h.nn,E.h.nx) 0))):AOp P o E K Kp:=by
 intro ro X M w0 a w g hs next Q hn hp
 have hr:=hs.ev m
 rw [hm] at hr
 generalize hmv:a.eval m=u at hr
 cases hr with
 | fm _ mb ents hb hx hl hke hrp=>
   obtain ⟨h1,h2,_⟩:=hs.obj (x:= .it es []) (.mapIter (some mb) ents.length #[] ents.length) (fun X' g' hst hnew=> ⟨mb,ents,hnew,(hst.obj _ _ hb hx).1,(hst.obj _ _ hb hx).2,hl,fun k p e q1 q2=> ⟨(hke k p e q1 q2).1,(hke k p e q1 q2).2,(hrp k p e q1 q2).stays hst⟩⟩)
   refine JJ (by rw [ho];intro c h;cases h) ?_
   have:(execOp a.eval o).run P w= .ok (.value (.pointer (some ⟨w.heap.size,0,none⟩))) (w.alloc (.mapIter (some mb) ents.length #[] ents.length)):=by
    unfold execOp
    simp only [ho,Instr.range,hmv,Sem.run_bind,JcN ht,Result.andThen_ok,JbM hb]
    simp [newObj,Sem.run]
   rw [this]
   exact hn _ _ _ _ hk (fun i b h=> by rw [List.getElem?_append_left (List.getElem?_eq_some_iff.1 h).1];exact h) (h1.put o.dst (.bp _ _ _ h2))
theorem JqY {Y:Nat→Nat→Prop} {g:List Nat} {h:Heap} {nm:Nat} {x:Own} {b o:Nat} (hx:excl Y g ({ h with bx:=Jak nm x h.bx}:Heap) b o):excl Y g h b o:=by
 rcases hx with hx | ⟨p,hp,hg⟩ | hx
 ·exact .inl hx
 ·have:p.1.2∈(Jak nm x h.bx).map (·.1.2):=List.mem_map.2 ⟨p,hp,rfl⟩
  rw [JdG] at this
  obtain ⟨q,hq,he⟩:=List.mem_map.1 this
  exact .inr (.inl ⟨q,hq,by rw [he];exact hg⟩)
 ·exact .inr (.inr hx)
theorem JqZ {o:Oper} {it:Operand} {i:Id} {es:List (Value×AV)} {seen:List Nat} {E:Env} {K:Env→Prop} {Kp:AV→Env→Prop} (ho:o.op= .next it false) (hit:E.ev it= .bp i 0) (hes:JX i.1 E.h.bx=some (i.2, .it es seen))
 (hmore:∀k p,es[k]? =some p→k∉seen→K (({ E with h:= { E.h with bx:=Jak i.1 (.it es (seen++ [k])) E.h.bx}}:Env).set o.dst (.tup [.v (.bool true), .v p.1,p.2])))
 (hdone:(∀k,k < es.length→k∈seen)→K (E.set o.dst (.tup [.v (.bool false)]))):AOp P o E K Kp:=by
 intro ro X M w0 a w g hs next Q hn hp
 obtain ⟨b,hgb,hown⟩:=hs.hok.bx _ (Jab hes)
 dsimp only at hgb hown
 have hiv:a.eval it= .pointer (some ⟨b,0,none⟩):=by
  have:=hs.ev it
  rw [hit] at this
  generalize a.eval it=u at this
  cases this with
  | bp _ _ b' hg'=> rw [hgb] at hg';cases hg';rfl
 obtain ⟨mb,ents,h1,h2,h3,h4,h5⟩:=hown
 have hborn:∀x∈ents.toArray.toList,x.born < ents.length:=fun x hx=> by
  obtain ⟨k,hk,rfl⟩:=List.getElem_of_mem hx
  have hk2:k < es.length:=by rw [← h4];exact hk
  rw [(h5 k _ _ (List.getElem?_eq_getElem hk2) (List.getElem?_eq_getElem hk)).2.1];exact hk
 refine JJ (by intro c h;rw [ho] at h;cases h) ?_
 rcases run_next_at (P:=P) w o.type b mb ents.length ents.length seen.toArray ents.toArray ents.length h1 h2 hborn (Nat.le_refl _) with ⟨h0,hrun⟩ | ⟨e,he,w1,hw1,hrun⟩
 ·have:(execOp a.eval o).run P w= .ok (.value (.tuple #[.bool false])) w:=by
   unfold execOp
   simp only [ho,hiv,hrun,Sem.run_bind,Result.andThen_ok,Sem.run_pure]
  rw [this]
  refine hn _ _ _ g (hdone fun k hk=> ?_) (fun _ _ h=> h) (hs.put o.dst ?_)
  ·have hk2:k < ents.length:=by rw [h4];exact hk
   have hb:=(h5 k _ _ (List.getElem?_eq_getElem hk) (List.getElem?_eq_getElem hk2)).2.1
   rcases Decidable.em (k∈seen) with h | h
   ·exact h
   ·exfalso
    have hem:(leftOf ents.toArray seen.toArray)= #[]:=Array.eq_empty_of_size_eq_zero h0
    unfold leftOf at hem
    rw [Array.filter_eq_empty_iff] at hem
    have:=hem ents[k] (by simp)
    simp [hb] at this
    exact h this
  ·refine .tup [.v (.bool false)] [.bool false] rfl fun k c u hc hu=> ?_
   cases k with
   | zero=> simp at hc hu;subst hc;subst hu;exact .v _
   | succ k=> simp at hc
 ·have hem:e∈ents∧e.born∉seen:=by
   unfold leftOf at he
   simp at he
   exact he
  obtain ⟨k,hk,hek⟩:=List.getElem_of_mem hem.1
  have hk2:k < es.length:=by rw [← h4];exact hk
  obtain ⟨q1,q2,q3⟩:=h5 k es[k] ents[k] (List.getElem?_eq_getElem hk2) (List.getElem?_eq_getElem hk)
  rw [hek] at q1 q2 q3
  have s1:St ro X M w0 E a w1 g:=by
   rcases hw1 with rfl | rfl
   ·exact hs
   ·exact hs.drew
  have hb1:w1.heap[b]? =some (.mapIter (some mb) ents.length seen.toArray ents.length):=by rcases hw1 with rfl | rfl <;> exact h1
  have hm1:w1.heap[mb]? =some (.map ents.toArray ents.length):=by rcases hw1 with rfl | rfl <;> exact h2
  have hst:Stays w (excl X g E.h) g w1 (excl X g E.h) g:=by
   rcases hw1 with rfl | rfl
   ·exact Stays.refl _ _ _
   ·exact (Jd9 w).stays (fun _ _ _ h=> h.elim) (fun _ _ _ h=> h) (fun _ _ h=> h)
  have hev:=Jcb (o':= .mapIter (some mb) ents.length (seen++ [k]).toArray ents.length) hb1 rfl (fun h=> by cases h)
  have hne:mb≠b:=fun h=> by rw [h] at h2;rw [h1] at h2;cases h2
  have hnew:=s1.setOwn (x:= .it es (seen++ [k])) hes hgb hev (fun hst2=> ⟨mb,ents,JbN hb1,(Jc4 hne).trans hm1,h3,h4,fun k' p' e' r1 r2=> ⟨(h5 k' p' e' r1 r2).1,(h5 k' p' e' r1 r2).2.1,((h5 k' p' e' r1 r2).2.2.stays hst).stays hst2⟩⟩)
  have:(execOp a.eval o).run P w= .ok (.value (.tuple #[.bool true,e.key,e.val])) (World.setO w1 b (.mapIter (some mb) ents.length (seen++ [k]).toArray ents.length)):=by
   unfold execOp
   simp only [ho,hiv,hrun,Sem.run_bind,Result.andThen_ok,Sem.run_pure,q2,List.push_toArray]
   rfl
  rw [this]
  refine hn _ _ _ g (hmore k es[k] (List.getElem?_eq_getElem hk2) (by rw [← q2];exact hem.2)) (fun _ _ h=> h) (hnew.put o.dst ?_)
  have hval:=((q3.stays hst).stays (hev.stays (X:=excl X g E.h) (X':=excl X g E.h) (g:=g) (g':=g) (fun b' o' _ hbb=> by
   subst hbb
   exact .inr (.inl ⟨_,Jab hes,hgb⟩)) (fun _ _ _ h=> h) (fun _ _ h=> h)))
  refine .tup _ [.bool true,e.key,e.val] rfl fun j c u hc hu=> ?_
  rcases j with _ | _ | _ | j
  ·simp at hc hu;subst hc;subst hu;exact .v _
  ·simp at hc hu;subst hc;subst hu;rw [q1];exact .v _
  ·simp at hc hu;subst hc;subst hu
   exact hval.stays (Stays.less fun b' o' h=> JqY h)
  ·simp at hc
theorem Jq0 {o:Oper} {it:Operand} {i:Id} {es:List (Value×AV)} {seen:List Nat} {k:Nat} {p:Value×AV} {E:Env} {K:Env→Prop} {Kp:AV→Env→Prop} (ho:o.op= .entry it) (hit:E.ev it= .bp i 0) (hes:JX i.1 E.h.bx=some (i.2, .it es (seen++ [k])))
 (hp:es[k]? =some p) (hk:K (E.set o.dst (.tup [.v p.1,p.2]))):AOp P o E K Kp:=by
 intro ro X M w0 a w g hs next Q hn hpan
 obtain ⟨b,hgb,hown⟩:=hs.hok.bx _ (Jab hes)
 dsimp only at hgb hown
 have hiv:a.eval it= .pointer (some ⟨b,0,none⟩):=by
  have:=hs.ev it
  rw [hit] at this
  generalize a.eval it=u at this
  cases this with
  | bp _ _ b' hg'=> rw [hgb] at hg';cases hg';rfl
 obtain ⟨mb,ents,h1,h2,h3,h4,h5⟩:=hown
 have hk2:k < es.length:=(List.getElem?_eq_some_iff.1 hp).1
 have hk3:k < ents.length:=by rw [h4];exact hk2
 obtain ⟨q1,q2,q3⟩:=h5 k p ents[k] hp (List.getElem?_eq_getElem hk3)
 have hnd:(ents.toArray.toList.map (·.born)).Nodup:=by
  have:ents.map (·.born)=List.range ents.length:=by
   refine List.ext_getElem (by simp) fun j j1 j2=> ?_
   rw [List.getElem_map,List.getElem_range]
   have hj:j < ents.length:=by simpa using j1
   have hj2:j < es.length:=by rw [← h4];exact hj
   exact (h5 j _ _ (List.getElem?_eq_getElem hj2) (List.getElem?_eq_getElem hj)).2.1
  show (ents.map (·.born)).Nodup
  rw [this];exact List.nodup_range
 have hrun:=run_entry_at (P:=P) w b mb ents.length seen.toArray ents.toArray ents.length ents[k] (by rw [q2,List.push_toArray];exact h1) h2 (by simp) hnd
 refine JJ (by intro c h;rw [ho] at h;cases h) ?_
 have:(execOp a.eval o).run P w= .ok (.value (.tuple #[ents[k].key,ents[k].val])) w:=by
  unfold execOp
  simp only [ho,hiv,hrun,Sem.run_bind,Result.andThen_ok,Sem.run_pure]
 rw [this]
 refine hn _ _ _ g hk (fun _ _ h=> h) (hs.put o.dst ?_)
 refine .tup _ [ents[k].key,ents[k].val] rfl fun j c u hc hu=> ?_
 rcases j with _ | _ | j
 ·simp at hc hu;subst hc;subst hu;rw [q1];exact .v _
 ·simp at hc hu;subst hc;subst hu;exact q3
 ·simp at hc
theorem JwZ {o:Oper} {it:Operand} {i:Id} {es:List (Value×AV)} {seen:List Nat} {R:List (Id×Own)} {E:Env} {K:Env→Prop} {Kp:AV→Env→Prop} (ho:o.op= .next it false) (hit:E.ev it= .bp i 0) (hR:E.h.bx=(i, .it es seen)::R)
 (hmore:∀k p,es[k]? =some p→k∉seen→K (({ E with h:= { E.h with bx:=(i, .it es (seen++ [k]))::R}}:Env).set o.dst (.tup [.v (.bool true), .v p.1,p.2])))
 (hdone:(∀k,k < es.length→k∈seen)→K (E.set o.dst (.tup [.v (.bool false)]))):AOp P o E K Kp:=
 JqZ (seen:=seen) ho hit (by rw [hR];simp [JX]) (fun k p h1 h2=> by
  have:Jak i.1 (.it es (seen++ [k])) E.h.bx=(i, .it es (seen++ [k]))::R:=by rw [hR];simp [Jak]
  rw [this];exact hmore k p h1 h2) hdone
theorem Jwm {o:Oper} {it:Operand} {i:Id} {es:List (Value×AV)} {seen:List Nat} {k:Nat} {p:Value×AV} {R:List (Id×Own)} {E:Env} {K:Env→Prop} {Kp:AV→Env→Prop} (ho:o.op= .entry it) (hit:E.ev it= .bp i 0) (hR:E.h.bx=(i, .it es (seen++ [k]))::R)
 (hp:es[k]? =some p) (hk:K (E.set o.dst (.tup [.v p.1,p.2]))):AOp P o E K Kp:=Jq0 (seen:=seen) ho hit (by rw [hR];simp [JX]) hp hk
end Go.Vl

namespace Go.Vl
open Go.RowKit
variable {P:Program}
def Jj1 (P:Program) (it:FuncId) (first caps:List AV) {α:Type} (e:α→List AV) (S:List α→Prop):Prop:=
 ∀(i:Id) (σ:Type) (Cb:σ→List (Id×Own)) (Cp:σ→List (Id×Nat)) (I:List α→σ→Prop) (J:List α→α→σ→Prop),(∀xs,S xs→Jg8 P i e xs Cb Cp I J)→
  ∀s0 nx nn,I [] s0→ECall P it (first++ [.yl i]++caps) ⟨Cb s0,Cp s0,nx,nn⟩ (fun _ h'=> ∃xs s',S xs∧Jl8 xs I J s'∧h'.bx=Cb s'∧h'.pm=Cp s')
theorem IterSpec.set {it:FuncId} {first caps:List AV} {α:Type} {e:α→List AV} {xs:List α} (h:IterSpec P it first caps e xs):Jj1 P it first caps e (·=xs):=
 fun i σ Cb Cp I J hc s0 nx nn h0=> (h i σ Cb Cp I J (hc xs rfl) s0 nx nn h0).mono fun _ _ ⟨s',h1,h2,h3⟩=> ⟨xs,s',rfl,h1,h2,h3⟩
theorem JsP {gop:Operand} {ps:Array Tmp} {asg body:Code} {E:Env} {Q:AExit→Env→Prop} {it:FuncId} {first caps:List AV} {ds:List DA} {σ α:Type} {e:α→List AV} {S:List α→Prop} {first' caps':List AV}
 (Cb:σ→List (Id×Own)) (Cp:σ→List (Id×Nat)) (I:List α→σ→Prop) (J:List α→α→σ→Prop) (s0:σ) (hd:E.df=some ds) (hf:E.ev gop= .fn (.func it) first caps) (hit:Jj1 P it first' caps' e S) (hl1:LeL first first') (hl2:LeL caps caps')
 (hb:((E.h.addo .df).addo (.lp .ready none E.n E.t ps asg body)).bx=Cb s0) (hp:E.h.pm=Cp s0) (h0:I [] s0) (hc:∀xs,S xs→Jg8 P (E.h.nn+1,E.h.nx+1) e xs Cb Cp I J)
 (hend:∀xs s' nx nn,S xs→Jl8 xs I J s'→Jc5 (E.h.nn+1,E.h.nx+1) { E with h:=(E.h.addo .df).addo (.lp .ready none E.n E.t ps asg body),df:=some (.col (E.h.nn,E.h.nx)::ds)} Q ⟨Cb s',Cp s',nx,nn⟩):
 AW P (.rangeFunc gop ps asg body) E Q:=by
 refine Jiy hd hf ?_
 have h1:=hit (E.h.nn+1,E.h.nx+1) σ Cb Cp I J hc s0 (E.h.nx+2) (E.h.nn+2) h0
 have e1:(E.h.addo .df).addo (.lp .ready none E.n E.t ps asg body)=⟨Cb s0,Cp s0,E.h.nx+2,E.h.nn+2⟩:=by
  rw [← hb,← hp];rfl
 rw [← e1] at h1
 refine ((ECall.args (LeL.append (LeL.append hl1 (LeL.refl _)) hl2) h1)).mono fun r h' hq=> ?_
 obtain ⟨xs,s',hS,q1,q2,q3⟩:=hq
 obtain ⟨bx,pm,nx,nn⟩:=h'
 dsimp only at q2 q3
 subst q2;subst q3
 exact hend xs s' nx nn hS q1
theorem JxM {gop:Operand} {ps:Array Tmp} {asg body:Code} {E:Env} {Q:AExit→Env→Prop} {it:FuncId} {first caps:List AV} {ds:List DA} {σ α:Type} {e:α→List AV} {S:List α→Prop} {first' caps':List AV}
 (Cb:σ→List (Id×Own)) (Cp:σ→List (Id×Nat)) (I:List α→σ→Prop) (s0:σ) (hd:E.df=some ds) (hf:E.ev gop= .fn (.func it) first caps) (hit:Jj1 P it first' caps' e S) (hl1:LeL first first') (hl2:LeL caps caps')
 (hb:E.h.bx=Cb s0) (hp:E.h.pm=Cp s0) (h0:I [] s0) (hlen:∀x,(e x).length=ps.size)
 (hc:∀pre x post s nx nn,S (pre++x::post)→I pre s→AW P asg (Jbn E.n E.t ⟨((E.h.nn+1,E.h.nx+1), .lp .ready none E.n E.t ps asg body)::((E.h.nn,E.h.nx), .df)::Cb s,Cp s,nx,nn⟩ (ps.toList.zip (e x)).reverse)
   (JjY P (E.h.nn+1,E.h.nx+1) body (JhN (fun s=> ((E.h.nn+1,E.h.nx+1), .lp .ready none E.n E.t ps asg body)::((E.h.nn,E.h.nx), .df)::Cb s) Cp I (fun _ _ _=> False) pre x)))
 (hend:∀xs s' nx nn,S xs→I xs s'→Q .normal { E with h:=⟨((E.h.nn+1,E.h.nx+1), .lp .exhausted none E.n E.t ps asg body)::((E.h.nn,E.h.nx), .df)::Cb s',Cp s',nx,nn⟩,df:=some (.col (E.h.nn,E.h.nx)::ds)}):
 AW P (.rangeFunc gop ps asg body) E Q:=by
 refine JsP (fun s=> ((E.h.nn+1,E.h.nx+1), .lp .ready none E.n E.t ps asg body)::((E.h.nn,E.h.nx), .df)::Cb s) Cp I (fun _ _ _=> False) s0 hd hf hit hl1 hl2 ?_ hp h0 ?_ ?_
 ·show _::_::E.h.bx=_
  rw [hb];rfl
 ·intro xs hS pre x post s nx nn hx hI
  subst hx
  exact Jeu (i:=(E.h.nn+1,E.h.nx+1)) (pd:=none) (n:=E.n) (t:=E.t) (ps:=ps) (asg:=asg) (body:=body) (by simp [JX]) (hlen x) (hc pre x post s nx nn hS hI)
 ·intro xs s' nx nn hS h
  rcases h with h | ⟨_,_,_,_,h⟩
  ·unfold Jc5
   simp only [JX,Nat.beq_refl,cond_true]
   refine ⟨trivial,(by intro h;cases h), ?_⟩
   simp only [Jak,Nat.beq_refl,cond_true]
   exact hend xs s' nx nn hS h
  ·exact h.elim
theorem Jw0 {seen:List Nat} {n k:Nat} (hnd:seen.Nodup) (hlt:∀j∈seen,j < n) (hk:k < n) (hn:k∉seen):∃post,(seen++k::post).Perm (List.range n):=by
 refine ⟨(List.range n).filter fun j=> decide (j∉seen∧j≠k), ?_⟩
 have hp:∀j,j∈(List.range n).filter (fun j=> decide (j∉seen∧j≠k))↔j < n∧j∉seen∧j≠k:=fun j=> by simp
 generalize hpost:(List.range n).filter (fun j=> decide (j∉seen∧j≠k))=post at hp
 have hpn:post.Nodup:=by rw [← hpost];exact List.nodup_range.filter _
 have hnd2:(seen++k::post).Nodup:=by
  rw [List.nodup_append]
  refine ⟨hnd,List.nodup_cons.2 ⟨fun h=> ((hp k).1 h).2.2 rfl,hpn⟩,fun a ha b hb hab=> ?_⟩
  subst hab
  rcases List.mem_cons.1 hb with rfl | h
  ·exact hn ha
  ·exact ((hp a).1 h).2.1 ha
 refine (List.perm_ext_iff_of_nodup hnd2 List.nodup_range).2 fun j=> ?_
 rw [List.mem_range,List.mem_append,List.mem_cons,hp]
 constructor
 ·rintro (h | rfl | h)
  ·exact hlt j h
  ·exact hk
  ·exact h.1
 ·intro h
  by_cases h1:j∈seen
  ·exact .inl h1
  ·by_cases h2:j=k
   ·exact .inr (.inl h2)
   ·exact .inr (.inr ⟨h,h1,h2⟩)
theorem Jw1 {seen:List Nat} {n:Nat} (hnd:seen.Nodup) (hlt:∀j∈seen,j < n) (hall:∀k,k < n→k∈seen):seen.Perm (List.range n):=by
 refine (List.perm_ext_iff_of_nodup hnd List.nodup_range).2 fun j=> ?_
 rw [List.mem_range]
 exact ⟨hlt j,hall j⟩
end Go.Vl

namespace Go.Vl
open Go.RowKit
variable {P:Program}
def J5 (n:Nat) (f:Nat→AV):List AV:=(List.range n).flatMap fun k=> (f k).cells
def Jwn (Q:Nat→(Nat→AV)→Prop) (sz:Nat) (r:AV) (h':Heap):Prop:=
 ∃n f,Q n f∧((n=0∧h'.bx= []∧h'.pm= []∧r= .os sz 0 f none)∨∃s cap more nx' nn',n≤cap∧cap * sz≤n * sz+more∧r= .hs (0,s) 0 n cap∧h'=⟨[((0,s), .c (J5 n f++List.replicate more .any))], [],nx',nn'⟩)
theorem JcY {n sz:Nat} {f:Nat→AV} (hc:∀i,i < n→(f i).cells.length=sz):(J5 n f).length=n * sz∧∀i j,i < n→j < sz→(J5 n f)[i * sz+j]? =(f i).cells[j]? :=by
 induction n with
 | zero=> exact ⟨by simp [J5],fun i j h=> by omega⟩
 | succ n ih=>
   obtain ⟨h1,h2⟩:=ih fun i hi=> hc i Om
   have e:J5 (n+1) f=J5 n f++(f n).cells:=by unfold J5;rw [List.range_succ,List.flatMap_append];simp
   have hn:=hc n Om
   refine ⟨by rw [e,List.length_append,h1,hn,Nat.succ_mul],fun i j hi hj=> ?_⟩
   rw [e]
   by_cases h:i < n
   ·rw [List.getElem?_append_left,h2 i j h hj]
    rw [h1]
    have:i * sz+sz≤n * sz:=by rw [← Nat.succ_mul];exact Nat.mul_le_mul_right _ h
    omega
   ·obtain rfl:i=n:=by omega
    rw [List.getElem?_append_right (by rw [h1];omega),h1]
    congr 1;omega
theorem Jwo {f:FuncId} {args:List AV} {nx sz:Nat} {Q:Nat→(Nat→AV)→Prop} (hz:0 < sz) (hflat:∀n f,Q n f→∀k,k < n→∀c∈(f k).cells,Flat c)
 (hc:ECall P f args ⟨[], [],nx,0⟩ fun r h'=> ∃n f oi nx' nn',Q n f∧(oi=none→n=0)∧r= .os sz n f oi∧h'=⟨[],JaH oi (n * sz),nx',nn'⟩):
 ECall P f args ⟨[], [],nx,0⟩ (Jwn Q sz):=by
 refine ⟨hc.1,fun X w g vs h1 h2 h3 h4=> ?_⟩
 refine (Jfr P f).mono (hc.2 X w g vs h1 h2 h3 h4) fun e w' ⟨r,h',g',a1,a2,a3,a4,a5,a7,a8⟩=> ?_
 cases r with
 | pan x=> exact a2.elim
 | ret r=>
   obtain ⟨n,f0,oi,nx',nn',q1,q2,rfl,rfl⟩:=a2
   cases oi with
   | none=>
     obtain rfl:=q2 rfl
     exact ⟨.ret (.os sz 0 f0 none),⟨[], [],nx',nn'⟩,g',a1,⟨0,f0,q1, .inl ⟨rfl,rfl,rfl,rfl⟩⟩,a3,a4,a5,a7,a8⟩
   | some i=>
     obtain ⟨nm,s⟩:=i
     obtain ⟨u,rfl,a1⟩:=a1
     obtain ⟨b,bvs,be,hgb,hblk,hle⟩:=a4.pm ((nm,s),n * sz) (by simp [JaH])
     dsimp only at hgb hle
     generalize hu:u=u0 at a1
     cases a1 with
     | oss _ _ _ _ b2 cap vs2 hg2 hlen hcap hcell hroom hcs hrep=>
       subst hu
       dsimp only at hg2
       rw [hgb] at hg2
       cases hg2
       have hflt:=hflat n f0 q1
       obtain ⟨rl,rg⟩:=JcY hcs
       have hcapsz:cap * sz≤bvs.size:=by
        rcases Nat.eq_zero_or_pos (cap * sz) with h0 | h0
        ·omega
        ·obtain ⟨⟨v,hv⟩,_⟩:=hroom (cap * sz - 1) Om
         rw [Jw hblk] at hv
         have:=(Array.getElem?_eq_some_iff.1 hv).1
         omega
       have hnew:¬b < w.heap.size:=fun hb=> by
        have:=a8 b (n * sz) (.inr (.inr ⟨((nm,s),n * sz),by simp [JaH],hgb,Nat.le_refl _⟩)) hb
        rcases this with h | ⟨p,hp,_⟩ | ⟨p,hp,_⟩
        ·exact h
        ·cases hp
        ·cases hp
       have hids:∀j,j∈Heap.ids (⟨[((0,s), .c (J5 n f0++List.replicate (bvs.size - n * sz) .any))], [],nx',nn'⟩:Heap)→j=s:=fun j hj=> by simpa [Heap.ids] using hj
       refine ⟨.ret (.hs (0,s) 0 n cap),⟨[((0,s), .c (J5 n f0++List.replicate (bvs.size - n * sz) .any))], [],nx',nn'⟩,g',⟨_,rfl, .hs _ _ _ _ b hgb⟩,⟨n,f0,q1, .inr ⟨s,cap,bvs.size - n * sz,nx',nn',hcap,by omega,rfl,rfl⟩⟩,a3, ?_,fun b' o hx j hj=> ?_,a7,fun b' o hx hb=> ?_⟩
       ·refine ⟨fun p hp=> ?_,fun p hp=> (by cases hp),by simp [Heap.ids],a4.nx,fun b' o hx=> ?_,fun p hp=> ⟨(a4.kn p hp).1,fun o hx=> ?_⟩⟩
        ·obtain rfl:=List.mem_singleton.1 hp
         refine ⟨b,hgb,bvs,be,hblk,by rw [List.length_append,rl,List.length_replicate];omega,fun k c u hk hku=> ?_⟩
         rcases Nat.lt_or_ge k (n * sz) with hlt | hge
         ·rw [List.getElem?_append_left (by rw [rl];exact hlt)] at hk
          have hd:k=(k / sz) * sz+k % sz:=by rw [Nat.mul_comm];exact (Nat.div_add_mod k sz).symm
          have hk1:k / sz < n:=Nat.div_lt_of_lt_mul (by rw [Nat.mul_comm];exact hlt)
          have hk2:k % sz < sz:=Nat.mod_lt _ hz
          rw [hd,rg _ _ hk1 hk2] at hk
          have hv:k < vs2.length:=by rw [hlen];exact hlt
          have hcv:=(hcell k _ (List.getElem?_eq_getElem hv)).1
          rw [Jw hblk,hku] at hcv
          cases hcv
          exact hflt _ hk1 c (List.mem_of_getElem? hk) _ _ _ _ _ _ _ (hrep _ _ c _ hk1 hk (by rw [← hd];exact List.getElem?_eq_getElem hv))
         ·rw [List.getElem?_append_right (by rw [rl];exact hge)] at hk
          obtain rfl:c= .any:=by
           have:=List.mem_of_getElem? hk
           exact (List.mem_replicate.1 this).2
          exact .any _
        ·rcases hx with hx | ⟨p,hp,hg⟩ | ⟨p,hp,_⟩
         ·exact a4.bd b' o (.inl hx)
         ·obtain rfl:=List.mem_singleton.1 hp
          dsimp only at hg
          rw [hgb] at hg;cases hg
          exact JR hblk
         ·cases hp
        ·rcases hx with hx | ⟨q,hq,hg⟩ | ⟨q,hq,_⟩
         ·exact (a4.kn p hp).2 o (.inl hx)
         ·obtain rfl:=List.mem_singleton.1 hq
          exact (a4.kn p hp).2 (n * sz) (.inr (.inr ⟨((nm,s),n * sz),by simp [JaH],hg,Nat.le_refl _⟩))
         ·cases hq
       ·obtain rfl:=hids j hj
        exact a5 b' o hx j (by simp [Heap.ids,JaH])
       ·rcases hx with hx | ⟨p,hp,hg⟩ | ⟨p,hp,_⟩
        ·exact hx.elim
        ·obtain rfl:=List.mem_singleton.1 hp
         dsimp only at hg
         rw [hgb] at hg;cases hg
         exact absurd hb hnew
        ·cases hp
end Go.Vl

namespace Go.Vl
open Go.RowKit
variable {P:Program}
theorem Jut {w:World} {X:Nat→Nat→Prop} {g:List Nat} {us vs:List Value} (h3:us.length=(vs.map AV.v).length)
 (h4:∀(k:Nat) (c:AV) (u:Value),(vs.map AV.v)[k]? =some c→us[k]? =some u→Rep w X g c u):us=vs:=by
 refine List.ext_getElem (by simpa using h3) fun k hk1 hk2=> ?_
 have:=h4 k (.v vs[k]) us[k] (by simp [hk2]) (List.getElem?_eq_getElem hk1)
 generalize us[k]=a at this
 cases this
 rfl
theorem Kn.none {w:World} {X:Nat→Nat→Prop} (h:Kn w X):Kn w none2:=fun p hp=> ⟨(h p hp).1,fun _ h=> h⟩
theorem Jfv {f:FuncId} {vs:List Value} {u:Value} (hcb:JcU P f)
 (h:∀w,Kn w none2→Calls P f vs.toArray w fun e w'=> e= .returned u∧Below w.heap.size w w'):Tells P f (vs.map .v) (.v u):=fun nx=> by
 refine ⟨hcb,fun X w g us h1 h2 h3 h4=> ?_⟩
 obtain rfl:=Jut h3 h4
 refine (Jfr P f).mono (w0:=w) (g:=g) (R:=_) (h w h1.kn.none) fun e w' ⟨he,hb⟩=> ?_
 have hev:=Evo.of_below hb
 exact ⟨.ret (.v u),⟨[], [],nx,0⟩,g,⟨u,he, .v _⟩,⟨Rf,rfl,rfl⟩,fun _ _ h=> h,h1.evo0 hev,fun b o hx i hi=> (by cases hi),hev.mono fun b o _ h=> h.elim,fun b o h _=> h⟩
theorem Jef {f:FuncId} {vs:List Value} {u:Value} (hcb:JcU P f)
 (h:∀w,Calls P f vs.toArray w fun e w'=> e= .returned u∧Below w.heap.size w w'):Tells P f (vs.map .v) (.v u):=Jfv hcb fun w _=> h w
theorem Jv8 {α:Type} [Inhabited α] {f:FuncId} {enc:α→Value} {d d':Array α} {tl:List AV} {nm s cap nx nn:Nat} (hcb:JcU P f) (hd:d'.size=d.size)
 (h:∀(w:World) (blk:Nat),Sort.Holds enc w blk 0 d→blk < w.heap.size→Calls P f #[.slice (some ⟨blk,0,none⟩) d.size cap] w fun e w'=> e= .returned (.tuple #[])∧∃n os,w'=Sort.grow (Sort.putRow enc (Sort.ahead w n) blk 0 d') os):
 ECall P f [.hs (nm,s) 0 d.size cap] ⟨[((nm,s), .c (d.toList.map (fun x=> .v (enc x))++tl))], [],nx,nn⟩
  fun r h'=> r= .tup []∧h'=⟨[((nm,s), .c (d'.toList.map (fun x=> .v (enc x))++tl))], [],nx,nn⟩:=by
 refine ⟨hcb,fun X w g us h1 h2 h3 h4=> ?_⟩
 obtain ⟨b,hgb,vs,ety,hblk,hsz,hrep⟩:=h1.bx _ (.head _)
 dsimp only at hgb
 match us,h3,h4 with
 | [u],_,h4=>
 have hr:=h4 0 _ u rfl rfl
 generalize hu:u=u0 at hr
 cases hr with
 | hs _ _ _ _ b2 hg2=>
   subst hu
   dsimp only at hg2
   rw [hgb] at hg2
   cases hg2
   have hbl:=JR hblk
   have hlen:d.size≤vs.size:=by rw [hsz];simp
   have hH:Sort.Holds enc w b 0 d:=fun j hj=> by
    refine ⟨?_,by rw [Ja9 hblk];simp⟩
    have hj2:j < vs.size:=by omega
    have:=hrep j (.v (enc d[j]!)) vs[j] (by rw [List.getElem?_append_left (by simpa using hj)];simp [hj]) (Array.getElem?_eq_getElem hj2)
    generalize hv:vs[j]=v at this
    cases this
    rw [Jw hblk,Nat.zero_add,Array.getElem?_eq_getElem hj2,hv]
   refine (Jfr P f).mono (w0:=w) (g:=g) (R:=_) (h w b hH hbl) fun e w' ⟨he,n,os,hw⟩=> ?_
   have hb':w'.heap[b]? =some (.cells (Sort.putCells enc 0 d' vs) ety (0,0)):=by
    subst hw
    rw [Sort.heap_grow_old _ _ (by simpa [Sort.putRow,Sort.mapBlock,Sort.ahead] using hbl)]
    show (w.heap.modify b _)[b]? =_
    rw [Array.getElem?_modify,if_pos rfl,hblk]
    rfl
   have hoth:∀k,k < w.heap.size→k≠b→w'.heap[k]? =w.heap[k]? :=fun k hk hne=> by
    subst hw
    rw [Sort.heap_grow_old _ _ (by simpa [Sort.putRow,Sort.mapBlock,Sort.ahead] using hk)]
    show (w.heap.modify b _)[k]? =_
    rw [Array.getElem?_modify,if_neg (Ne.symm hne)]
   have hsize:w.heap.size≤w'.heap.size:=by
    subst hw
    simp [Sort.grow,Sort.putRow,Sort.mapBlock,Sort.ahead]
   have hM:∀b0 o,¬excl none2 g ⟨[((nm,s), .c (d.toList.map (fun x=> .v (enc x))++tl))], [],nx,nn⟩ b0 o→b0≠b:=fun b0 o hn hb0=> hn (.inr (.inl ⟨_, .head _,by rw [hb0];exact hgb⟩))
   have hev:Evo (excl none2 g ⟨[((nm,s), .c (d.toList.map (fun x=> .v (enc x))++tl))], [],nx,nn⟩) w w':=by
    refine ⟨by subst hw;rfl,by subst hw;rfl,by subst hw;rfl,hsize,fun b0 hb0 hn=> hoth b0 hb0 (hM b0 0 (hn 0)),fun b0 o hb0 hn=> World.cell?_of_block (a:=⟨b0,o,none⟩) (hoth b0 hb0 (hM b0 o hn)),fun b0 us0 e0 fz h0=> ?_,fun b0 l h0=> ?_⟩
    ·by_cases hb0:b0=b
     ·subst hb0
      rw [hblk] at h0
      cases h0
      exact ⟨_,hb',by simp [Sort.putCells]⟩
     ·exact ⟨us0,(hoth b0 (JR h0) hb0).trans h0,rfl⟩
    ·by_cases hb0:b0=b
     ·subst hb0
      rw [hblk] at h0
      cases h0
     ·exact ⟨l,(hoth b0 (JR h0) hb0).trans h0⟩
   have hstay:=hev.stays (X:=excl X g ⟨[((nm,s), .c (d.toList.map (fun x=> .v (enc x))++tl))], [],nx,nn⟩) (X':=excl X g ⟨[((nm,s), .c (d.toList.map (fun x=> .v (enc x))++tl))], [],nx,nn⟩) (g:=g) (g':=g)
    (fun b0 o _ hm=> hm.elim (fun h=> h.elim) .inr) (fun _ _ _ h=> h) (fun _ _ h=> h)
   refine ⟨.ret (.tup []),_,g,⟨_,he, .tup [] [] rfl (by simp)⟩,⟨rfl,rfl⟩,fun _ _ h=> h, ?_,fun b0 o hx i hi=> h2 b0 o hx i hi,hev,fun b0 o h _=> by simpa [excl] using h⟩
   have hids:∀b0 o,excl X g ⟨[((nm,s), .c (d'.toList.map (fun x=> .v (enc x))++tl))], [],nx,nn⟩ b0 o↔excl X g ⟨[((nm,s), .c (d.toList.map (fun x=> .v (enc x))++tl))], [],nx,nn⟩ b0 o:=fun b0 o=> by simp [excl]
   have hX:excl X g ⟨[((nm,s), .c (d'.toList.map (fun x=> .v (enc x))++tl))], [],nx,nn⟩=excl X g ⟨[((nm,s), .c (d.toList.map (fun x=> .v (enc x))++tl))], [],nx,nn⟩:=by
    funext b0 o;exact propext (hids b0 o)
   rw [hX]
   refine ⟨fun p hp=> ?_,fun p hp=> (by cases hp),h1.nodup,h1.nx,fun b0 o hx=> ?_, ?_⟩
   ·obtain rfl:=List.mem_singleton.1 hp
    refine ⟨b,hgb,Sort.putCells enc 0 d' vs,ety,hb',by simp [Sort.putCells,hsz,hd],fun k c u hk hku=> ?_⟩
    have hkv:k < vs.size:=by have:=(Array.getElem?_eq_some_iff.1 hku).1;simpa [Sort.putCells] using this
    have hval:(Sort.putCells enc 0 d' vs)[k]? =some (if 0≤k∧k < 0+d'.size then enc d'[k - 0]! else vs[k]):=by simp [Sort.putCells,hkv]
    rw [hval] at hku
    by_cases hkd:k < d'.size
    ·rw [if_pos ⟨Nat.zero_le _,by omega⟩] at hku
     rw [List.getElem?_append_left (by simpa using hkd)] at hk
     simp [hkd] at hk hku
     subst hk;subst hku
     exact .v _
    ·rw [if_neg Om] at hku
     rw [List.getElem?_append_right (by simpa using Nat.le_of_not_lt hkd)] at hk
     refine (hrep k c u ?_ (by rw [Array.getElem?_eq_getElem hkv];exact hku)).stays hstay
     rw [List.getElem?_append_right (by simp;omega)]
     simpa [hd] using hk
   ·exact Nat.lt_of_lt_of_le (h1.bd b0 o hx) hsize
   ·exact h1.kn.stays hstay
theorem Jv9 {f:FuncId} {sz nx:Nat} {F:Nat→AV} (hcb:JcU P f)
 (h:∀(p:Option Addr) (cap:Nat) (w:World),Calls P f #[.slice p 0 cap] w fun e w'=> e= .returned (.tuple #[])∧w'=w):Tells P f [.os sz 0 F none] (.tup []):=fun nx=> by
 refine ⟨hcb,fun X w g us h1 h2 h3 h4=> ?_⟩
 match us,h3,h4 with
 | [u],_,h4=>
 have hr:=h4 0 _ u rfl rfl
 have key:∃p cap,u= .slice p 0 cap:=by
  cases hr with
  | os0 _ _ a=> exact ⟨a,0,rfl⟩
  | osn _ _ _ b off vs=> exact ⟨_,0,rfl⟩
 obtain ⟨p,cap,rfl⟩:=key
 refine (Jfr P f).mono (w0:=w) (g:=g) (R:=_) (h p cap w) fun e w' ⟨he,hw⟩=> ?_
 subst hw
 exact ⟨.ret (.tup []),⟨[], [],nx,0⟩,g,⟨_,he, .tup [] [] rfl (by simp)⟩,⟨Rf,rfl,rfl⟩,fun _ _ h=> h,h1,h2,Evo.refl _ _,fun b o h _=> h⟩
end Go.Vl

namespace Go.Vl
open Go.RowKit
variable {P:Program}
theorem Jjf {t e:TypeId} {d:TypeDesc} {n:Nat} {w:World} (ht:P.underlying t=some (.array n e)) (hd:P.underlying e=some d) (h1:P.cellsOf e=1) (b off:Nat) (hn:0 < n):
 (Instr.sliceAt t (.pointer (some ⟨b,off,none⟩)) none none none).run P w= .ok (.slice (some ⟨b,off,none⟩) n n) w:=by
 simp [Instr.sliceAt,run_underlying ht,Instr.sureAddr,Instr.sliceBounds,JB hd,h1,JY]
theorem Jmn {o:Oper} {E:Env} {t e:TypeId} {x:Operand} {n:Nat} {d:TypeDesc} {cs:List AV} (ho:o.op= .slice t x none none none) (hx:E.ev x= .rp cs)
 (ht:P.underlying t=some (.array n e)) (hd:P.underlying e=some d) (h1:P.cellsOf e=1) (hn0:0 < n) (hn:n≤cs.length) (hc:∀c∈cs,c.cells= [c]):Yields P o E (.sl 1 n (fun j=> cs.getD j .any)):=by
 refine ⟨(by rw [ho];intro c hc;cases hc),fun ρ w X g hk hr=> .inl ?_⟩
 have r1:=hr x (by rw [ho];simp [Op.operands])
 rw [hx] at r1
 generalize hu:ρ x=u at r1
 cases r1 with
 | rp _ b off vs hvs hcell hrep=>
   refine ⟨.slice (some ⟨b,off,none⟩) n n,w, ?_,Evo.refl _ _, ?_⟩
   ·unfold execOp
    simp only [ho,hu,Option.map_none]
    exact Ja3 (Jjf ht hd h1 b off hn0)
   ·refine .sl _ _ _ b off n (vs.take n) (by simp;omega) (Nat.le_refl _) (fun k u hk=> ?_) (fun i hi=> ?_) (fun i j c u hi hj hu=> ?_)
    ·rw [List.getElem?_take] at hk
     split at hk
     ·exact hcell k u hk
     ·cases hk
    ·have hi2:i < cs.length:=by omega
     have:cs.getD i .any∈cs:=by simp [List.getD,hi2]
     rw [hc _ this];rfl
    ·have hi2:i < cs.length:=by omega
     have hm:cs.getD i .any∈cs:=by simp [List.getD,hi2]
     rw [hc _ hm] at hj
     cases j with
     | zero=>
       simp only [List.getElem?_cons_zero,Option.some.injEq] at hj
       subst hj
       rw [List.getElem?_take] at hu
       split at hu
       ·exact hrep i _ u (by simp [List.getD,hi2]) (by simpa using hu)
       ·cases hu
     | succ j=> simp at hj
theorem JkJ {o:Oper} {E:Env} {K:Env→Prop} {Kp:AV→Env→Prop} {t e:TypeId} {x:Operand} {n:Nat} {d:TypeDesc} {cs:List AV} (ho:o.op= .slice t x none none none) (hx:E.ev x= .rp cs)
 (ht:P.underlying t=some (.array n e)) (hd:P.underlying e=some d) (h1:P.cellsOf e=1) (hn0:0 < n) (hn:n≤cs.length) (hc:∀c∈cs,c.cells= [c]) (hk:K (E.set o.dst (.sl 1 n (fun j=> cs.getD j .any)))):AOp P o E K Kp:=
 AOp.of_yields (Jmn ho hx ht hd h1 hn0 hn hc) hk
end Go.Vl

/- As VlX, with operations that look at memory of one's own which effects turn: such a look stands ahead of every effect that comes behind it. -/
namespace Go.Vl
open Go.RowKit
variable {P:Program}
def PureNow (P:Program) (ops:Array Oper) (o:Oper) (E:Env) (r:AV):Prop:=
 ∀E':Env,E'.h=E.h→(∀k,k∈o.looksAt ops→E'.t k=E.t k)→GY P ops o E' r
theorem PureNow.congr {ops:Array Oper} {o:Oper} {E E':Env} {r:AV} (h:PureNow P ops o E r) (hh:E'.h=E.h) (ht:∀k,k∈o.looksAt ops→E'.t k=E.t k):PureNow P ops o E' r:=
 fun E'' h1 h2=> h E'' (h1.trans hh) fun k hk=> (h2 k hk).trans (ht k hk)
def MixL3 (P:Program) (ops:Array Oper) (B:List (Id×Own)) (eff ld:Nat→Bool):List Nat→Env→(Env→Prop)→Prop
 | [],E,K=> K E
 | i::l,E,K=> ∃o,ops[i]? =some o∧(match eff i with
   | true=> ∃R,Eff P ops B o E R∧∀r h',R r h'→MixL3 P ops B eff ld l (({ E with h:=h'}:Env).set o.dst r) K
   | false=> match ld i with
     | true=> ∃r,PureNow P ops o E r∧MixL3 P ops B eff ld l (E.set o.dst r) K
     | false=> ∃r,PureAll P ops B o E r∧MixL3 P ops B eff ld l (E.set o.dst r) K)
theorem MixL3.front {ops:Array Oper} {B:List (Id×Own)} {eff ld:Nat→Bool} {K:Env→Prop} {j:Nat} {oj:Oper} (hj:ops[j]? =some oj):∀(l1 l2:List Nat) (E:Env),
 (∀i∈l1,eff i=false∧(ld i=true→eff j=false)∧∀oi,ops[i]? =some oi→oi.apart ops oj=true)→MixL3 P ops B eff ld (l1++j::l2) E K→MixL3 P ops B eff ld (j::(l1++l2)) E K
 | [],l2,E,_,h=> h
 | i::l1,l2,E,hap,h=> by
   obtain ⟨oi,h1,h2⟩:=h
   obtain ⟨he,hld,ha⟩:=hap i (by simp)
   obtain ⟨a1,a2,a3⟩:=Oper.apart_spec (ha oi h1)
   have back:∀ {ri:AV} {E1:Env},E1.h=E.h∨ld i=false→(∀k,k∈oi.looksAt ops→E1.t k=E.t k)→(match ld i with | true=> PureNow P ops oi E ri | false=> PureAll P ops B oi E ri)→
    (match ld i with | true=> PureNow P ops oi E1 ri | false=> PureAll P ops B oi E1 ri):=fun hh ht hp=> by
    cases hli:ld i with
    | true=> simp only [hli] at hp⊢;exact hp.congr (hh.resolve_right (by rw [hli];simp)) ht
    | false=> simp only [hli] at hp⊢;exact hp.congr ht
   simp only [he] at h2
   have h2':∃ri,(match ld i with | true=> PureNow P ops oi E ri | false=> PureAll P ops B oi E ri)∧MixL3 P ops B eff ld (l1++j::l2) (E.set oi.dst ri) K:=by
    cases hli:ld i with
    | true=> simp only [hli] at h2⊢;exact h2
    | false=> simp only [hli] at h2⊢;exact h2
   obtain ⟨ri,h3,h4⟩:=h2'
   have close:∀ {E1:Env},(match ld i with | true=> PureNow P ops oi E1 ri | false=> PureAll P ops B oi E1 ri)→MixL3 P ops B eff ld (l1++l2) (E1.set oi.dst ri) K→MixL3 P ops B eff ld (i::(l1++l2)) E1 K:=fun hp hk=> by
    refine ⟨oi,h1, ?_⟩
    simp only [he]
    cases hli:ld i with
    | true=> simp only [hli] at hp⊢;exact ⟨ri,hp,hk⟩
    | false=> simp only [hli] at hp⊢;exact ⟨ri,hp,hk⟩
   obtain ⟨o,h5,h6⟩:=MixL3.front hj l1 l2 _ (fun i' hi'=> hap i' (List.mem_cons_of_mem _ hi')) h4
   rw [hj] at h5
   cases h5
   refine ⟨oj,hj, ?_⟩
   cases hej:eff j with
   | true=>
     have hli:ld i=false:=by
      cases h:ld i with
      | false=> rfl
      | true=> rw [hld h] at hej;cases hej
     simp only [hej] at h6⊢
     obtain ⟨R,q1,q2⟩:=h6
     refine ⟨R,q1.congr (by rw [Env.set_h]) fun k hk=> (Env.set_other (fun e=> a1 k e hk)).symm,fun r h' hr=> ?_⟩
     have q3:=q2 r h' hr
     refine close (back (.inr hli) (fun k hk=> Env.set_other (fun e=> a3 k e hk)) h3) ?_
     rw [Jmb,Env.set_comm (d:=oi.dst) (d':=oj.dst) (fun k hk=> a2 k hk)] at q3
     exact q3
   | false=>
     simp only [hej] at h6⊢
     cases hlj:ld j with
     | true=>
       simp only [hlj] at h6⊢
       obtain ⟨rj,q1,q2⟩:=h6
       refine ⟨rj,q1.congr (by rw [Env.set_h]) fun k hk=> (Env.set_other (fun e=> a1 k e hk)).symm,close (back (.inl (by rw [Env.set_h])) (fun k hk=> Env.set_other (fun e=> a3 k e hk)) h3) ?_⟩
       rw [Env.set_comm (d:=oi.dst) (d':=oj.dst) (fun k hk=> a2 k hk)] at q2
       exact q2
     | false=>
       simp only [hlj] at h6⊢
       obtain ⟨rj,q1,q2⟩:=h6
       refine ⟨rj,q1.congr fun k hk=> (Env.set_other (fun e=> a1 k e hk)).symm,close (back (.inl (by rw [Env.set_h])) (fun k hk=> Env.set_other (fun e=> a3 k e hk)) h3) ?_⟩
       rw [Env.set_comm (d:=oi.dst) (d':=oj.dst) (fun k hk=> a2 k hk)] at q2
       exact q2
def ordM3 (ops:Array Oper) (m:Nat) (eff ld:Nat→Bool) (L:List Nat):Bool:=
 let bf:=Region.before ops
 Nat.ble m ops.size&& (Ja1 ops m&& (L.all (fun i=> Nat.blt i m)&& ((List.range m).all (fun i=> L.contains i)&& (go bf L))))
where
 go (bf:Array Nat):List Nat→Bool
  | []=> true
  | i::l=> (l.all fun j=> match ops[i]?,ops[j]? with
    | some oi,some oj=> (!Nat.beq i j)&& ((oi.after.toList.all fun e=> !Region.binds .any e|| !Nat.beq e.on j)&& ((bf.getD j 0).testBit i|| (!eff i&& (!(ld i&& eff j)&& oi.apart ops oj))))
    | _,_=> false)&& ((match ops[i]? with | some oi=> oi.after.toList.all fun e=> !Region.binds .any e|| !Nat.beq e.on i | none=> false)&& go bf l)
def Jmo (ops:Array Oper) (eff ld:Nat→Bool) (i j:Nat):Prop:=
 i≠j∧∀oi oj,ops[i]? =some oi→ops[j]? =some oj→(∀e∈oi.after,Region.binds .any e=true→e.on≠j)∧(((Region.before ops).getD j 0).testBit i=true∨(eff i=false∧(ld i=true→eff j=false)∧oi.apart ops oj=true))
theorem Jmp {ops:Array Oper} {eff ld:Nat→Bool}:∀ {L:List Nat},ordM3.go ops eff ld (Region.before ops) L=true→
 L.Pairwise (Jmo ops eff ld)∧∀i∈L,∀oi,ops[i]? =some oi→∀e∈oi.after,Region.binds .any e=true→e.on≠i
 | [],_=> ⟨.nil,by simp⟩
 | i::l,h=> by
   simp only [ordM3.go,Bool.and_eq_true] at h
   obtain ⟨h1,h2,h3⟩:=h
   obtain ⟨q1,q2⟩:=Jmp h3
   refine ⟨List.pairwise_cons.2 ⟨fun j hj=> ?_,q1⟩,fun k hk=> ?_⟩
   ·have:=List.all_eq_true.1 h1 j hj
    split at this
    ·rename_i oi oj hi hj'
     simp only [Bool.and_eq_true,Bool.or_eq_true,List.all_eq_true] at this
     obtain ⟨p1,p2,p3⟩:=this
     refine ⟨Jco p1,fun oi' oj' hi2 hj2=> ?_⟩
     rw [hi] at hi2;rw [hj'] at hj2
     cases hi2;cases hj2
     refine ⟨fun e he hb=> ?_,p3.imp id fun h=> by
      simp at h
      exact ⟨h.1,fun hl=> h.2.1.resolve_left (by rw [hl];simp),h.2.2⟩⟩
     rcases p2 e (Array.mem_toList_iff.2 he) with h | h
     ·simp [hb] at h
     ·exact Jco h
    ·cases this
   ·rcases List.mem_cons.1 hk with rfl | hk
    ·intro oi hi e he hb
     rw [hi] at h2
     have:=List.all_eq_true.1 h2 e (Array.mem_toList_iff.2 he)
     simp only [hb,Bool.not_true,Bool.false_or] at this
     exact Jco this
    ·exact q2 k hk
theorem JsQ {ops:Array Oper} {m:Nat} {B:List (Id×Own)} {eff ld:Nat→Bool} {Q:Exit→Act→World→Prop} (hk:OrdOk ops m) (hm:m≤ops.size)
 {ro:Option Nat} {X M:Nat→Nat→Prop} {w0:World} {g0:List Nat} {K:Env→Prop}
 (hq:∀E a w g,K E→(∀(i b:Nat),g0[i]? =some b→g[i]? =some b)→St ro X M w0 E a w g→wpOpsIn (Fr ro) 0 P ops Q (List.range' m (ops.size - m)) a w):
 ∀(n:Nat) (L:List Nat) (listed:Array Bool) (E:Env) (a:Act) (w:World) (g:List Nat),L.length=n→L.Pairwise (Jmo ops eff ld)→(∀i∈L,i < m)→
  (∀i∈L,∀oi,ops[i]? =some oi→∀e∈oi.after,Region.binds .any e=true→e.on≠i)→listed.size=ops.size→DC ops listed→
 (∀i,i < ops.size→(listed.getD i true=false↔i∈L∨m≤i))→MixL3 P ops B eff ld L E K→HB B E.h.bx→(∀(i b:Nat),g0[i]? =some b→g[i]? =some b)→St ro X M w0 E a w g→wpAnyIn (Fr ro) 0 P .any ops Q (n+(ops.size - m)) listed a w:=by
 intro n
 induction n with
 | zero=>
   intro L listed E a w g hl _ _ _ hsz hd hun hrun _ hg hs
   have:L= []:=List.eq_nil_of_length_eq_zero hl
   subst this
   rw [Nat.zero_add]
   exact Jgd hk _ m listed a w Om (Nat.le_refl _) hsz hd (fun i hi=> by simpa using hun i hi) (hq E a w g hrun hg hs)
 | succ n ih=>
   intro L listed E a w g hl hpw hlt hself hsz hd hun hrun hB hg hs
   rw [Nat.add_right_comm]
   obtain ⟨k,L',rfl⟩:∃k L',L=k::L':=by cases L with | nil=> simp at hl | cons k L'=> exact ⟨k,L',rfl⟩
   have hkm:k < m:=hlt k (by simp)
   have hklt:k < ops.size:=by omega
   have hko:ops[k]? =some ops[k]:=Array.getElem?_eq_getElem hklt
   have hkr:k∈Region.ready .any ops listed:=by
    refine JD.2 ⟨(hun k hklt).2 (by simp),_,hko,fun e he hb=> ?_⟩
    have hb':=hk.back k _ hko e he hb
    rw [JM Om]
    cases hl:listed.getD e.on true with
    | true=> simpa using hl
    | false=>
      rcases (hun e.on Om).1 hl with h' | h'
      ·rcases List.mem_cons.1 h' with h' | h'
       ·exact absurd h' (hself k (by simp) _ hko e he hb)
       · exact absurd rfl (((List.pairwise_cons.1 hpw).1 _ h').2 _ _ hko (Array.getElem?_eq_getElem Om) |>.1 e he hb)
      ·omega
   refine ⟨fun h0=> (by rw [h0] at hkr;cases hkr),fun j hj=> ?_⟩
   obtain ⟨h1,oj,hoj,h2⟩:=JD.1 hj
   have hjlt:=(Array.getElem?_eq_some_iff.1 hoj).1
   have hjL:j∈k::L':=by
    rcases (hun j hjlt).1 h1 with h' | h'
    ·exact h'
    ·have hb:=hk.tail k j oj hoj h' Om
     have:=JW hd hsz hoj h2 hb
     have h3:=(hun k Om).2 (by simp)
     rw [JM Om] at this
     simp [h3] at this
   obtain ⟨l1,l2,hl12⟩:=List.append_of_mem hjL
   rw [hl12] at hrun hpw hun hlt hl hself
   have hl1:∀i∈l1,Jmo ops eff ld i j:=fun i hi=> (List.pairwise_append.1 hpw).2.2 i hi j (by simp)
   obtain ⟨o,ho,hrun'⟩:=MixL3.front hoj l1 l2 E (fun i hi=> by
    obtain ⟨hne,hp⟩:=hl1 i hi
    have hilt:i < ops.size:=Nat.lt_of_lt_of_le (hlt i (by simp [hi])) hm
    rcases (hp _ _ (Array.getElem?_eq_getElem hilt) hoj).2 with hb | ⟨hb,hb2,hb'⟩
    ·have:=JW hd hsz hoj h2 hb
     have h3:=(hun i hilt).2 (by simp [hi])
     rw [JM Om] at this
     simp [h3] at this
    ·exact ⟨hb,hb2,fun oi hoi=> by rw [Array.getElem?_eq_getElem hilt] at hoi;cases hoi;exact hb'⟩) hrun
   rw [hoj] at ho
   cases ho
   have hnext:∀E' a' w' g',MixL3 P ops B eff ld (l1++l2) E' K→HB B E'.h.bx→(∀(i b:Nat),g0[i]? =some b→g'[i]? =some b)→St ro X M w0 E' a' w' g'→wpAnyIn (Fr ro) 0 P .any ops Q (n+(ops.size - m)) (listed.setIfInBounds j true) a' w':=by
    intro E' a' w' g' hm' hB' hg' hs'
    have hsub:(l1++l2).Sublist (l1++j::l2):=List.Sublist.append Sf (List.sublist_cons_self _ _)
    refine ih (l1++l2) _ E' a' w' g' (by simp at hl⊢;omega) (hpw.sublist hsub) (fun i hi=> hlt i (hsub.subset hi)) (fun i hi=> hself i (hsub.subset hi)) (by simp [hsz]) (hd.set hsz hk hj) (fun i hi=> ?_) hm' hB' hg' hs'
    rw [JaD Om]
    by_cases hij:i=j
    ·subst hij
     simp only [if_true]
     constructor
     ·intro h;cases h
     ·intro h
      exfalso
      have h5:=List.pairwise_append.1 hpw
      rcases h with h | h
      ·rcases List.mem_append.1 h with h | h
       ·exact (h5.2.2 i h i (by simp)).1 rfl
       ·exact ((List.pairwise_cons.1 h5.2.1).1 i h).1 rfl
      ·have:=hlt i (by simp);omega
    ·rw [if_neg hij,hun i hi]
     simp [hij]
   cases hej:eff j with
   | true=>
     simp only [hej] at hrun'
     obtain ⟨R,⟨q0,q1⟩,q2⟩:=hrun'
     unfold wpOpIn
     simp only [hoj,Region.wanted,q0,if_true]
     exact q1 E rfl (fun _ _=> rfl) ro X M w0 a w g hs _ _ (fun E' a' w' g' hE hgg hs'=> by
      obtain ⟨r,h',p1,p2,rfl⟩:=hE
      exact hnext _ a' w' g' (q2 r h' p1) (by rw [Env.set_h];exact p2) (fun i b hi=> hgg i b (hg i b hi)) hs') (fun x E' a' w' g' v hk'=> hk'.elim)
   | false=>
     simp only [hej] at hrun'
     cases hlj:ld j with
     | true=>
       simp only [hlj] at hrun'
       obtain ⟨r,q1,q2⟩:=hrun'
       exact (q1 E rfl fun _ _=> rfl).does hoj hs fun a' w' hs'=> hnext _ a' w' g q2 (by rw [Env.set_h];exact hB) hg hs'
     | false=>
       simp only [hlj] at hrun'
       obtain ⟨r,q1,q2⟩:=hrun'
       exact (q1 E hB fun _ _=> rfl).does hoj hs fun a' w' hs'=> hnext _ a' w' g q2 (by rw [Env.set_h];exact hB) hg hs'
def aM3 (P:Program) (ops:Array Oper) (eff ld:Nat→Bool):List Nat→Env→(Env→Prop)→Prop
 | [],E,K=> K E
 | i::l,E,K=> match ops[i]? with
   | none=> False
   | some o=> match eff i with
      | true=> ∃R,Eff P ops [] o E R∧∀r h',R r h'→aM3 P ops eff ld l (({ E with h:=h'}:Env).set o.dst r) K
      | false=> match ld i with
        | true=> ∃r,PureNow P ops o E r∧JcJ r fun r=> aM3 P ops eff ld l (E.set o.dst r) K
        | false=> match o.guard with
          | some _=> False
          | none=> match JaM P o.op { E with h:=⟨[], [],0,0⟩} with
            | some (C,r)=> JhL C (JcJ r fun r=> aM3 P ops eff ld l (E.set o.dst r) K)
            | none=> False
theorem JhP {ops:Array Oper} {eff ld:Nat→Bool} {K:Env→Prop}:∀ {L:List Nat} {E:Env},aM3 P ops eff ld L E K→MixL3 P ops [] eff ld L E K
 | [],E,h=> h
 | i::l,E,h=> by
   unfold aM3 at h
   split at h
   ·exact h.elim
   ·rename_i o ho
    refine ⟨o,ho, ?_⟩
    cases he:eff i with
    | true=>
      simp only [he] at h⊢
      obtain ⟨R,q1,q2⟩:=h
      exact ⟨R,q1,fun r h' hr=> JhP (q2 r h' hr)⟩
    | false=>
      simp only [he] at h⊢
      cases hl:ld i with
      | true=>
        simp only [hl] at h⊢
        obtain ⟨r,q1,q2⟩:=h
        exact ⟨r,q1,JhP (Jb8 q2)⟩
      | false=>
        simp only [hl] at h⊢
        split at h
        ·exact h.elim
        ·rename_i hg
         split at h
         ·rename_i C r hp
          obtain ⟨q1,q2⟩:=Jfs h
          refine ⟨r,fun E' hb ht=> ?_,JhP (Jb8 q2)⟩
          unfold GY
          simp only [hg]
          exact JaL (Jc6 (E:= { E with h:=⟨[], [],0,0⟩}) (E':=E') hb (JaI (E:= { E with h:=⟨[], [],0,0⟩}) ht) hp) q1
         ·exact h.elim
theorem Jhb {ops:Array Oper} {o:Oper} {E:Env} {C:Option Prop} {r:AV} (hg:o.guard=none) (hp:JaM P o.op E=some (C,r)) (hC:J3 C):PureNow P ops o E r:=fun E' hh ht=> by
 unfold GY
 simp only [hg]
 exact JaL (Jc6 (E:=E) (E':=E') (by rw [hh];exact HB.refl _) (JaI ht) hp) hC
theorem Juu {id:Nat} {ops:Array Oper} {E:Env} {Q:AExit→Env→Prop} (m:Nat) (eff ld:Nat→Bool) (L:List Nat) (hf:P.follows .mixedOrders=true) (hb:ordM3 ops m eff ld L=true)
 (h:aM3 P ops eff ld L E fun E'=> aK P ops (ops.toList.drop m) E' (Q .normal) (fun x E=> Q (.panic x) E)):AW P (.region id ops true) E Q:=by
 simp only [ordM3,Bool.and_eq_true,List.all_eq_true] at hb
 obtain ⟨h0,h00,h1,h2,h3⟩:=hb
 have hm:=Jbx h0
 obtain ⟨h4,h5⟩:=Jmp h3
 have hlt:∀i∈L,i < m:=fun i hi=> Jao (h1 i hi)
 have hall:∀i,i < m→i∈L:=fun i hi=> by simpa using h2 i (List.mem_range.2 hi)
 have hnd:L.Nodup:=h4.imp fun h=> h.1
 have hlen:L.length=m:=by
  have p:L.Perm (List.range m):=(List.perm_ext_iff_of_nodup hnd List.nodup_range).2 fun i=> ⟨fun hi=> List.mem_range.2 (hlt i hi),fun hi=> hall i (List.mem_range.1 hi)⟩
  simpa using p.length_eq
 unfold AW
 intro ro X M w0 a w g g0 hg hs
 refine wpIn_region_any hf ?_
 have hs':St ro X M w0 E a { w with drawn:=w.drawn+1} g:=hs.drew
 have key:=JsQ (eff:=eff) (ld:=ld) (g0:=g0) (K:=fun E'=> aK P ops (ops.toList.drop m) E' (Q .normal) (fun x E=> Q (.panic x) E)) (Q:=JbF ro X M w0 g0 Q) (P:=P) (X:=X) (M:=M) (w0:=w0) (ro:=ro) (B:= []) (Jgc h00) hm (fun E' a' w' g' hk hg' hs''=> by
  have:=Jbc (P:=P) (ops:=ops) (K:=Q .normal) (X:=X) (M:=M) (w0:=w0) (g0:=g0) (Kp:=fun x E=> Q (.panic x) E) (ro:=ro) (Q:=JbF ro X M w0 g0 Q) (fun E a w g hk hg hs=> ⟨.normal,E,g,hk,rfl,hg,hs⟩) (fun x E a w g v hk hg hs hr=> ⟨.panic x,E,g,hk,⟨v,rfl,hr⟩,hg,hs⟩) (ops.toList.drop m) m E' a' w' g' (fun j=> .inl (by simp)) hg' hs'' hk
  simpa using this) m L (Array.replicate ops.size false) E a _ g hlen h4 hlt h5 (by simp) (fun k o ho hl=> by
  have hk:=(Array.getElem?_eq_some_iff.1 ho).1
  simp [Array.getD_eq_getD_getElem?,hk] at hl) (fun i hi=> by
  have:(Array.replicate ops.size false).getD i true=false:=by simp [Array.getD_eq_getD_getElem?,hi]
  simp only [this,true_iff]
  rcases Nat.lt_or_ge i m with h | h
  ·exact .inl (hall i h)
  ·exact .inr h) (JhP h) (fun _ _ _ h=> by cases h) hg hs'
 have e:m+(ops.size - m)=ops.size:=by omega
 rw [e] at key
 exact key
end Go.Vl

namespace Go.Vl
open Go.RowKit
variable {P:Program}
def JiA {ι:Type} (F:ι→Env) (J:ι→Prop) (Q:AExit→Env→Prop):AExit→Env→Prop:=fun e E'=>
 match e with
 | .normal=> ∃i,J i∧ELe E' (F i)
 | e=> Q e E'
theorem JeF {ι:Type} (F:ι→Env) (J:ι→Prop) {x y:Code} {E:Env} {Q:AExit→Env→Prop} (h:AW P x E (JiA F J Q)) (hk:∀i,J i→AW P y (F i) Q):AW P x E (JcA P y Q):=
 h.mono fun ex E' h'=> by
  cases ex with
  | normal=> obtain ⟨i,hI,hl⟩:=h';exact AW.le hl (hk i hI)
  | exit i=> exact h'
  | goto i=> exact h'
  | ret=> exact h'
  | panic i=> exact h'
theorem Jj2 {ι:Type} {F:ι→Env} {J:ι→Prop} {y:Code} {Q:AExit→Env→Prop} (hk:∀i,J i→AW P y (F i) Q):∀ex E',JiA F J Q ex E'→JcA P y Q ex E':=fun ex E' h'=> by
 cases ex with
 | normal=> obtain ⟨i,hI,hl⟩:=h';exact AW.le hl (hk i hI)
 | exit i=> exact h'
 | goto i=> exact h'
 | ret=> exact h'
 | panic i=> exact h'
theorem Jfw {y:Code} {Q Q':AExit→Env→Prop} (h:∀ex E,Q ex E→Q' ex E):∀ex E,JcA P y Q ex E→JcA P y Q' ex E:=fun ex E h'=> by
 cases ex with
 | normal=> exact AW.mono h' h
 | exit i=> exact h _ _ h'
 | goto i=> exact h _ _ h'
 | ret=> exact h _ _ h'
 | panic i=> exact h _ _ h'
theorem Juv {ι:Type} (F:ι→Env) (J:ι→Prop) {x y1 y:Code} {E:Env} {Q:AExit→Env→Prop} (h:AW P x E (JcA P y1 (JiA F J Q))) (hk:∀i,J i→AW P y (F i) Q):AW P x E (JcA P y1 (JcA P y Q)):=
 h.mono (Jfw (Jj2 hk))
theorem JxN {ι:Type} (F:ι→Env) (J:ι→Prop) {x y1 y2 y:Code} {E:Env} {Q:AExit→Env→Prop} (h:AW P x E (JcA P y1 (JcA P y2 (JiA F J Q)))) (hk:∀i,J i→AW P y (F i) Q):AW P x E (JcA P y1 (JcA P y2 (JcA P y Q))):=
 h.mono (Jfw (Jfw (Jj2 hk)))
theorem JoA {ι:Type} (F:ι→Env) (J:ι→Prop) {k:Nat} {x y:Code} {E:Env} {Q:AExit→Env→Prop} (h:AW P x E (JcI k (JiA F J Q))) (hk:∀i,J i→AW P y (F i) Q):AW P x E (JcI k (JcA P y Q)):=by
 have key:∀ex E',JiA F J Q ex E'→JcA P y Q ex E':=fun ex E' h'=> by
  cases ex with
  | normal=> obtain ⟨i,hI,hl⟩:=h';exact AW.le hl (hk i hI)
  | exit i=> exact h'
  | goto i=> exact h'
  | ret=> exact h'
  | panic i=> exact h'
 refine h.mono fun ex E' h'=> ?_
 cases ex with
 | exit i=>
   simp only [JcI] at h'⊢
   cases hb:Nat.beq i k with
   | true=> simp only [hb,cond_true] at h'⊢;exact key .normal _ h'
   | false=> simp only [hb,cond_false] at h'⊢;exact h'
 | normal=> exact key .normal _ h'
 | goto i=> exact h'
 | ret=> exact h'
 | panic i=> exact h'
theorem JnD {k:Nat} {Q Q':AExit→Env→Prop} (h:∀ex E,Q ex E→Q' ex E):∀ex E,JcI k Q ex E→JcI k Q' ex E:=fun ex E h'=> by
 cases ex with
 | exit i=>
   simp only [JcI] at h'⊢
   cases hb:Nat.beq i k with
   | true=> simp only [hb,cond_true] at h'⊢;exact h _ _ h'
   | false=> simp only [hb,cond_false] at h'⊢;exact h _ _ h'
 | normal=> exact h _ _ h'
 | goto i=> exact h _ _ h'
 | ret=> exact h _ _ h'
 | panic i=> exact h _ _ h'
theorem Jxk {ι:Type} (F:ι→Env) (J:ι→Prop) {k:Nat} {x y1 y:Code} {E:Env} {Q:AExit→Env→Prop} (h:AW P x E (JcA P y1 (JcI k (JiA F J Q)))) (hk:∀i,J i→AW P y (F i) Q):AW P x E (JcA P y1 (JcI k (JcA P y Q))):=
 h.mono (Jfw (JnD (Jj2 hk)))
section
variable {α:Type} [Inhabited α]
def Jeg (E:α→AV) (d:Array α) (tl:List AV):List AV:=d.toList.map E++tl
omit [Inhabited α] in
theorem Jmq {E:α→AV} {d:Array α} {tl:List AV}:(Jeg E d tl).length=d.size+tl.length:=by simp [Jeg]
theorem JsR {E:α→AV} {d:Array α} {tl:List AV} {i:Nat} (hi:i < d.size):(Jeg E d tl).getD i .any=E d[i]! :=by
 unfold Jeg
 rw [List.getD,List.getElem?_append_left (by simpa using hi)]
 simp [hi]
omit [Inhabited α] in
theorem JsS {E:α→AV} {d:Array α} {tl:List AV} {i:Nat} {x:α} (hi:i < d.size):JN (Jeg E d tl) i [E x]=Jeg E (d.setIfInBounds i x) tl:=by
 have key:∀(l:List α) (i:Nat),i < l.length→JN (l.map E++tl) i [E x]=(l.set i x).map E++tl:=by
  intro l
  induction l with
  | nil=> intro i h;cases h
  | cons z l ih=>
    intro i h
    cases i with
    | zero=> rfl
    | succ i=> show E z::JN (l.map E++tl) i _=_;rw [ih i (by simpa using h)];rfl
 unfold Jeg
 rw [key _ _ (by simpa using hi)]
 simp
omit [Inhabited α] in
theorem Juw {E:α→AV} {d:Array α} {tl:List AV} {i:Nat} (hi:i < d.size):i+1≤(Jeg E d tl).length:=by rw [Jmq];omega
theorem Jvu {x:Int} {i:Nat} (h:x=(i:Int)):0≤x:=by omega
theorem Jvv {x:Int} {i n:Nat} (h:x=(i:Int)) (hn:i < n):x < (n:Int):=by omega
theorem JxZ {x:Int} {i c:Nat} (hc:c=1) (h:x=(i:Int)):0+x.toNat * c=i:=by subst hc;subst h;omega
omit [Inhabited α] in
theorem JxO {ops:Array Oper} {o:Oper} {e:Env} {t:TypeId} {p x:Operand} {E:α→AV} {nm s off j:Nat} {d:Array α} {tl:List AV} {z:α} (hg:o.guard=none) (ho:o.op= .store t p x) (hd:o.dst=none) (hp:e.ev p= .bp (nm,s) off) (hoff:off=j)
 (hx:e.ev x=E z) (h1:JbG (E z)=true) (h2:JbA (E z)=true) (hcs:Jam nm e.h.bx=some (s,Jeg E d tl)) (ht:(P.underlying t).isSome=true) (hn:P.cellsOf t=1) (hj:j < d.size):
 Eff P ops [] o e fun _ h'=> h'= { e.h with bx:=JbP nm (Jeg E (d.setIfInBounds j z) tl) e.h.bx}:=by
 subst hoff
 have hcl:(E z).cells= [E z]:=by cases h:E z <;> first | rfl | (rw [h] at h1;simp [JbG] at h1)
 have k:=Jfu (P:=P) (ops:=ops) (B:= []) (E:=e) (cs:=Jeg E d tl) (i:=(nm,s)) hg ho hd hp hcs (by rw [hx];exact h2) (by rw [hx,hcl];simp [h1]) ht (by rw [hx,hcl,hn];rfl) (by rw [hx,hcl];exact Juw hj) (fun _ _ _ h=> by cases h)
 rw [hx,hcl,JsS hj] at k
 exact k
theorem JxP {ops:Array Oper} {o:Oper} {e:Env} {t:TypeId} {td:TypeDesc} {p:Operand} {E:α→AV} {nm s off j:Nat} {d:Array α} {tl:List AV} (hg:o.guard=none) (ho:o.op= .load t p) (hp:e.ev p= .bp (nm,s) off) (hoff:off=j)
 (hcs:Jam nm e.h.bx=some (s,Jeg E d tl)) (ht:P.underlying t=some td) (ha:agD td=false) (hj:j < d.size):PureNow P ops o e (E d[j]!):=by
 subst hoff
 refine Jhb hg (C:=some (s=s∧off < (Jeg E d tl).length)) ?_ ⟨rfl,by rw [Jmq];omega⟩
 rw [← JsR (E:=E) (tl:=tl) hj]
 show JaM P o.op e=_
 rw [ho]
 simp only [JaM,JcB,hp,hcs,ht,ha,cond_false]
end
end Go.Vl

namespace Go.Vl
open Go.RowKit
variable {P:Program}
theorem AOp.any {o:Oper} {E:Env} {K:Env→Prop} {Kp:AV→Env→Prop} (h:AOp P o E K):AOp P o E K Kp:=fun ro X M w0 a w g hs next Q hn _=> h ro X M w0 a w g hs next Q hn fun _ _ _ _ _ _ h=> h.elim
theorem JsT {w:World} {X:Nat→Nat→Prop} {g:List Nat} {m sz:Nat} {f':Nat→AV} {news:List Value} (hpos:0 < sz) (hnl:news.length=m * sz) (hncs:∀i,i < m→(f' i).cells.length=sz)
 (hnr:∀(i j:Nat) (c:AV) (u:Value),i < m→(f' i).cells[j]? =some c→news[i * sz+j]? =some u→Rep w X g c u) (hone:Jb7 m f'):∀u∈news,u.oneCell'=true:=by
 intro u hu
 obtain ⟨k,hk,hku⟩:=List.getElem_of_mem hu
 have hdm:=Nat.div_add_mod k sz
 have hmod:=Nat.mod_lt k hpos
 have hdiv:k / sz < m:=by rw [Nat.div_lt_iff_lt_mul hpos];omega
 have hlt:k % sz < (f' (k / sz)).cells.length:=by rw [hncs _ hdiv];exact hmod
 have hrep:=hnr (k / sz) (k % sz) _ u hdiv (List.getElem?_eq_getElem hlt) (by
  rw [Nat.mul_comm,hdm,List.getElem?_eq_getElem hk,hku])
 exact Jes (List.all_eq_true.1 (hone _ hdiv) _ (List.getElem_mem hlt)) hrep
theorem Jmr {w:World} {X:Nat→Nat→Prop} {g:List Nat} {m sz:Nat} {f':Nat→AV} {news:List Value} (hpos:0 < sz) (hnl:news.length=m * sz) (hncs:∀i,i < m→(f' i).cells.length=sz)
 (hnr:∀(i j:Nat) (c:AV) (u:Value),i < m→(f' i).cells[j]? =some c→news[i * sz+j]? =some u→Rep w X g c u):
 ∀(k:Nat) (c:AV) (u:Value),(J5 m f')[k]? =some c→news[k]? =some u→Rep w X g c u:=by
 intro k c u hc hu
 obtain ⟨rl,rg⟩:=JcY hncs
 have hk:k < m * sz:=by rw [← hnl];exact (List.getElem?_eq_some_iff.1 hu).1
 have hdm:=Nat.div_add_mod k sz
 have hmod:=Nat.mod_lt k hpos
 have hdiv:k / sz < m:=by rw [Nat.div_lt_iff_lt_mul hpos];exact hk
 have e:k=k / sz * sz+k % sz:=by rw [Nat.mul_comm];exact hdm.symm
 rw [e,rg _ _ hdiv hmod] at hc
 exact hnr _ _ c u hdiv hc (by rw [← e];exact hu)
theorem JnE {o:Oper} {E:Env} {K:Env→Prop} {Kp:AV→Env→Prop} {s x:Operand} {t e:TypeId} {n szx m cap:Nat} {f':Nat→AV} {i:Id} {cs:List AV}
 (ho:o.op= .call { callee:= .builtin .append,args:= #[s,x],argTypes:= #[t,t]}) (hs:E.ev s= .hs i 0 n cap)
 (hx:E.ev x= .sl szx m f'∨∃oj,E.ev x= .os szx m f' oj)
 (ht:P.underlying t=some (.slice e)) (hg:JbB P e=true) (hszx:m=0∨szx=P.cellsOf e)
 (hcs:Jam i.1 E.h.bx=some (i.2,cs)) (hcap:n≤cap) (hcl:cap * P.cellsOf e≤cs.length) (hone:Jb7 m f')
 (hroom0:m≠0→(n+m) * P.bytesOf e≤140737488355328) (hlen0:m≠0→n+m≤9223372036854775807)
 (hk0:m=0→K (E.set o.dst (.hs i 0 n cap)))
 (hk1:m≠0→n+m≤cap→K (({ E with h:= { E.h with bx:=JbP i.1 (JN cs (n * P.cellsOf e) (J5 m f')) E.h.bx}}:Env).set o.dst (.hs i 0 (n+m) cap)))
 (hk2:m≠0→¬n+m≤cap→∀ncap,n+m≤ncap→K (({ E with h:=E.h.add (cs.take (n * P.cellsOf e)++J5 m f'++List.replicate ((ncap - (n+m)) * P.cellsOf e) .any)}:Env).set o.dst (.hs (E.h.nn,E.h.nx) 0 (n+m) ncap))):AOp P o E K Kp:=by
 intro ro X M w0 a w g hst next Q hn hpan
 obtain ⟨inf,z,hi,hz,hzs,hsi,hpos,hby⟩:=Jdh hg
 have hmem:=Jdw hcs
 obtain ⟨b,hgb,vs,ev,hb,hvs,hr⟩:=hst.hok.bx _ hmem
 dsimp only at hgb hvs hr
 have hsv:a.eval s= .slice (some ⟨b,0,none⟩) n cap:=by
  have:=hst.ev s
  rw [hs] at this
  generalize a.eval s=u at this
  cases this with
  | hs _ _ _ _ b' hg'=> rw [hgb] at hg';cases hg';rfl
 have hxr:Rep w (excl X g E.h) g (.sl szx m f') (a.eval x):=by
  have:=hst.ev x
  rcases hx with hx | ⟨oj,hx⟩
  ·rw [hx] at this;exact this
  ·rw [hx] at this;exact JcT this
 have hexec:∀ {u:Value} {w':World},(Builtin.append_ #[t,t] o.type #[a.eval s,a.eval x]).run P w= .ok u w'→(execOp a.eval o).run P w= .ok (.value u) w':=by
  intro u w' h
  unfold execOp
  simp only [ho,resolve]
  simp [invoke,builtin,h]
 by_cases hm:m=0
 ·subst hm
  have hrun:(Builtin.append_ #[t,t] o.type #[a.eval s,a.eval x]).run P w= .ok (a.eval s) w:=by
   have key:∀(xb:Option Addr) (xc:Nat),(Builtin.append_ #[t,t] o.type #[.slice (some ⟨b,0,none⟩) n cap, .slice xb 0 xc]).run P w= .ok (.slice (some ⟨b,0,none⟩) n cap) w:=by
    intro xb xc
    have hfc:(Builtin.firstCells inf.size 0 (.slice xb 0 xc)).run P w= .ok #[] w:=by
     cases xb with
     | none=> simp [Builtin.firstCells]
     | some ad=> simpa using run_firstCells_some (P:=P) w inf.size 0 ad 0 xc [] (by simp) (by simp)
    simp [Builtin.append_,run_underlying ht,sizeOf,typeInfo,hi,Builtin.lenOf,hcap,hfc,storeCells]
   rw [hsv]
   generalize a.eval x=ux at hxr
   cases hxr with
   | sl0 _ _ xa xc=> exact key _ _
   | sl _ _ _ b off cap vs hlen' hcap=> exact key _ _
  refine JJ (by rw [ho];intro c h;cases h) ?_
  rw [hexec hrun]
  have:=hst.ev s
  rw [hs] at this
  exact hn _ _ _ g (hk0 rfl) (fun _ _ h=> h) (hst.put o.dst this)
 ·have hroom:=hroom0 hm
  have hlen:=hlen0 hm
  have hszx':szx=P.cellsOf e:=hszx.resolve_left hm
  subst hszx'
  obtain ⟨ax,xcap,news,hxv,hnl,hncell,hncs,hnr⟩:=JkA hxr hm
  have hnone:=JsT hpos hnl hncs hnr hone
  have hnrep:=Jmr hpos hnl hncs hnr
  obtain ⟨rl,rg⟩:=JcY hncs
  have hvl:vs.toList.length=cs.length:=by simpa using hvs
  by_cases hfit:n+m≤cap
  ·have hnm:(n+m) * P.cellsOf e≤cap * P.cellsOf e:=Nat.mul_le_mul_right _ hfit
   rw [Nat.add_mul] at hnm
   have hr2:=JgL (P:=P) w t o.type e ev inf ht hi b n cap vs hb ax m xcap news (by rw [hnl,hsi]) hncell hnone hfit (by rw [hsi,hnl];omega)
   rw [hsi] at hr2
   have hnew:=hst.setRow (cs:=JN cs (n * P.cellsOf e) (J5 m f')) (vs:=(vs.toList.take (n * P.cellsOf e)++news++vs.toList.drop (n * P.cellsOf e+news.length)).toArray) hcs hgb hb
    (by simp only [J9,List.length_append,List.length_take,List.length_drop,Array.length_toList,rl,hnl];omega)
    (by simp only [List.size_toArray,List.length_append,List.length_take,List.length_drop,Array.length_toList,hnl];omega)
    (fun k c u hk1 hk2=> by
      simp only [List.append_assoc] at hk2
      rw [Jbb _ _ _ (by simp only [Array.length_toList];omega)] at hk2
      rw [J9] at hk1
      rw [Jbb _ _ _ (by rw [rl];omega)] at hk1
      rw [hnl] at hk2
      rw [rl] at hk1
      split at hk1
      ·rename_i h2;rw [if_pos h2] at hk2;exact hr k c u hk1 (by simpa using hk2)
      ·rename_i h2
       rw [if_neg h2] at hk2
       split at hk1
       ·rename_i h3;rw [if_pos h3] at hk2;exact hnrep _ c u hk1 hk2
       ·rename_i h3;rw [if_neg h3] at hk2;exact hr k c u hk1 (by simpa using hk2))
   refine JJ (by rw [ho];intro c h;cases h) ?_
   rw [hexec (by rw [hsv,hxv];exact hr2)]
   exact hn _ _ _ g (hk1 hm hfit) (fun _ _ h=> h) (hnew.put o.dst (.hs _ _ _ _ b hgb))
  ·have hnc:n * P.cellsOf e≤cap * P.cellsOf e:=Nat.mul_le_mul_right _ hcap
   have hol:(vs.toList.take (n * P.cellsOf e)).length=n * P.cellsOf e:=by rw [List.length_take];omega
   have hocell:∀(j:Nat) (u:Value),(vs.toList.take (n * P.cellsOf e))[j]? =some u→w.cell? ((⟨b,0,none⟩:Addr).add j)=some u:=fun j u hu=> by
    rw [JY,Nat.zero_add,Jw hb]
    rw [List.getElem?_take] at hu
    split at hu
    ·simpa using hu
    ·cases hu
   have hr2:=run_append_grow (P:=P) w t o.type e inf z ht hi hz ⟨b,0,none⟩ n cap (vs.toList.take (n * P.cellsOf e)) (by rw [hol,hsi]) hocell ax m xcap news (by rw [hnl,hsi]) hncell Om Om (growslice_fits Om (by rw [hby];exact hroom))
   have hge:=grownCap_ge w (n+m) cap e
   generalize grownCap w (n+m) cap e=ncap at hr2 hge
   have hst2:=hst.drew
   obtain ⟨h3,h4⟩:=hst2.box (cs:=cs.take (n * P.cellsOf e)++J5 m f'++List.replicate ((ncap - (n+m)) * P.cellsOf e) .any) (vs:=(vs.toList.take (n * P.cellsOf e)).toArray++news.toArray++Builtin.zeroCells z.cells (ncap - (n+m))) e
    (by simp only [Array.toList_append,List.length_append,Array.length_toList,size_zeroCells,hzs,List.length_take,List.length_replicate,rl,hnl,List.size_toArray];omega)
    (fun k c u hc hu=> by
      have hevo:Evo none2 w w.drew:=Jd9 w
      simp only [Array.toList_append] at hu
      rw [List.append_assoc] at hc hu
      by_cases h1:k < n * P.cellsOf e
      ·rw [List.getElem?_append_left (by rw [List.length_take];omega),List.getElem?_take,if_pos h1] at hc
       rw [List.getElem?_append_left (by simp only [List.length_take, Array.length_toList] at *; omega)] at hu
       rw [List.getElem?_take,if_pos h1] at hu
       exact (hr k c u hc (by simpa using hu)).evo0 hevo
      ·rw [List.getElem?_append_right (by rw [List.length_take];omega),List.length_take,Nat.min_eq_left Om] at hc
       rw [List.getElem?_append_right (by simp only [List.length_take, Array.length_toList] at *; omega)] at hu
       simp only [hol] at hu
       by_cases h2:k - n * P.cellsOf e < m * P.cellsOf e
       ·rw [List.getElem?_append_left (by rw [rl];exact h2)] at hc
        rw [List.getElem?_append_left (by rw [hnl];exact h2)] at hu
        exact (hnrep _ c u hc hu).evo0 hevo
       ·rw [List.getElem?_append_right (by rw [rl];omega)] at hc
        have:=List.mem_of_getElem? hc
        rw [(List.mem_replicate.1 this).2]
        exact .any _)
   refine JJ (by rw [ho];intro c h;cases h) ?_
   rw [hexec (by rw [hsv,hxv];exact hr2)]
   refine hn _ _ _ _ (hk2 hm hfit ncap hge) (fun i b h=> by rw [List.getElem?_append_left (List.getElem?_eq_some_iff.1 h).1];exact h) (h3.put o.dst ?_)
   refine .hs _ _ _ _ w.heap.size ?_
   generalize hX:excl X (g++ [w.drew.heap.size]) (E.h.add (cs.take (n * P.cellsOf e)++J5 m f'++List.replicate ((ncap - (n+m)) * P.cellsOf e) .any))=X2 at h4
   cases h4 with
   | bp _ _ b' hg'=> exact hg'
theorem JoB {w:World} {X:Nat→Nat→Prop} {g:List Nat} {i:Id} {b:Nat} (h:Rep w X g (.bp i 0) (.pointer (some ⟨b,0,none⟩))):g[i.2]? =some b:=by
 cases h with
 | bp _ _ b' hg'=> exact hg'
theorem JgR {o:Oper} {E:Env} {K:Env→Prop} {Kp:AV→Env→Prop} {s x:Operand} {t e:TypeId} {sz szx m:Nat} {f f':Nat→AV}
 (ho:o.op= .call { callee:= .builtin .append,args:= #[s,x],argTypes:= #[t,t]}) (hs:E.ev s= .os sz 0 f none)
 (hx:JiY E x szx m f')
 (ht:P.underlying t=some (.slice e)) (hg:JbB P e=true) (hszx:szx=P.cellsOf e) (hm:m≠0) (hone:Jb7 m f')
 (hroom:m * P.bytesOf e≤140737488355328) (hlen:m≤9223372036854775807)
 (hk2:∀ncap,m≤ncap→K (({ E with h:=E.h.add (J5 m f'++List.replicate ((ncap - m) * P.cellsOf e) .any)}:Env).set o.dst (.hs (E.h.nn,E.h.nx) 0 m ncap))):AOp P o E K Kp:=by
 intro ro X M w0 a w g hst next Q hn hpan
 obtain ⟨inf,z,hi,hz,hzs,hsi,hpos,hby⟩:=Jdh hg
 subst hszx
 have hexec:∀ {u:Value} {w':World},(Builtin.append_ #[t,t] o.type #[a.eval s,a.eval x]).run P w= .ok u w'→(execOp a.eval o).run P w= .ok (.value u) w':=by
  intro u w' h
  unfold execOp
  simp only [ho,resolve]
  simp [invoke,builtin,h]
 obtain ⟨ax,xcap,news,hxv,hnl,hncell,hncs,hnr⟩:=(hx ro X M w0 a w g hst).2 hm
 have hnrep:=Jmr hpos hnl hncs hnr
 obtain ⟨rl,rg⟩:=JcY hncs
 have hrun:∃ncap,m≤ncap∧(Builtin.append_ #[t,t] o.type #[a.eval s,a.eval x]).run P w= .ok (.slice (some ⟨w.heap.size,0,none⟩) m ncap) (w.drew.alloc (.cells (news.toArray++Builtin.zeroCells z.cells (ncap - m)) e)):=by
  have hsr:=hst.ev s
  rw [hs] at hsr
  rw [hxv]
  generalize a.eval s=us at hsr
  have key:∀ad:Option Addr,us= .slice ad 0 0→∃ncap,m≤ncap∧(Builtin.append_ #[t,t] o.type #[us, .slice (some ax) m xcap]).run P w= .ok (.slice (some ⟨w.heap.size,0,none⟩) m ncap) (w.drew.alloc (.cells (news.toArray++Builtin.zeroCells z.cells (ncap - m)) e)):=by
   rintro ad rfl
   cases ad with
   | none=> exact ⟨_,grownCap_ge w m 0 e,run_append_nil (P:=P) w t o.type e inf z ht hi hz ax m xcap news (by rw [hnl,hsi]) hncell Om Om (by rw [hby];omega)⟩
   | some ad=>
     have hr:=run_append_grow (P:=P) w t o.type e inf z ht hi hz ad 0 0 [] (by simp) (by simp) ax m xcap news (by rw [hnl,hsi]) hncell Om Om (growslice_fits Om (by rw [hby,Nat.zero_add];exact hroom))
     rw [Nat.zero_add] at hr
     exact ⟨_,grownCap_ge w m 0 e,by simpa using hr⟩
  cases hsr with
  | os0 _ _ ad=> exact key ad rfl
  | osn _ _ _ b off vs=> exact key _ rfl
 obtain ⟨ncap,hnc,hr⟩:=hrun
 obtain ⟨h3,h4⟩:=hst.drew.box (cs:=J5 m f'++List.replicate ((ncap - m) * P.cellsOf e) .any) (vs:=news.toArray++Builtin.zeroCells z.cells (ncap - m)) e
  (by simp only [Array.toList_append,List.length_append,Array.length_toList,size_zeroCells,hzs,List.length_replicate,rl,hnl])
  (fun k c u hc hu=> by
    simp only [Array.toList_append] at hu
    by_cases h2:k < m * P.cellsOf e
    ·rw [List.getElem?_append_left (by rw [rl];exact h2)] at hc
     rw [List.getElem?_append_left (by rw [hnl];exact h2)] at hu
     exact (hnrep _ c u hc hu).evo0 (Jd9 w)
    ·rw [List.getElem?_append_right (by rw [rl];omega)] at hc
     have:=List.mem_of_getElem? hc
     rw [(List.mem_replicate.1 this).2]
     exact .any _)
 refine JJ (by rw [ho];intro c h;cases h) ?_
 rw [hexec hr]
 exact hn _ _ _ _ (hk2 ncap hnc) (fun i b h=> by rw [List.getElem?_append_left (List.getElem?_eq_some_iff.1 h).1];exact h) (h3.put o.dst (.hs _ _ _ _ w.heap.size (JoB h4)))
theorem Jvw {o:Oper} {E:Env} {K:Env→Prop} {Kp:AV→Env→Prop} {s x:Operand} {t e:TypeId} {sz szx m:Nat} {f f':Nat→AV}
 (ho:o.op= .call { callee:= .builtin .append,args:= #[s,x],argTypes:= #[t,t]}) (hs:E.ev s= .os sz 0 f none)
 (hx:E.ev x= .sl szx m f'∨∃oj,E.ev x= .os szx m f' oj)
 (ht:P.underlying t=some (.slice e)) (hg:JbB P e=true) (hszx:szx=P.cellsOf e) (hm:m≠0) (hone:Jb7 m f')
 (hroom:m * P.bytesOf e≤140737488355328) (hlen:m≤9223372036854775807)
 (hk2:∀ncap,m≤ncap→K (({ E with h:=E.h.add (J5 m f'++List.replicate ((ncap - m) * P.cellsOf e) .any)}:Env).set o.dst (.hs (E.h.nn,E.h.nx) 0 m ncap))):AOp P o E K Kp:=
 JgR ho hs (JkB hx) ht hg hszx hm hone hroom hlen hk2
theorem Jll {o:Oper} {E:Env} {K:Env→Prop} {Kp:AV→Env→Prop} {s x:Operand} {t e:TypeId} {sz m:Nat} {f:Nat→AV} {tn:TypeId} {kn kq:IntKind}
 (ho:o.op= .call { callee:= .builtin .append,args:= #[s,x],argTypes:= #[t,tn]}) (hs:E.ev s= .os sz 0 f none)
 (hx:E.ev x= .v (.int kq m)) (hm:m≠0) (htn:P.underlying tn=some (.int kn)) (ht:P.underlying t=some (.slice e)) (hg:JbB P e=true)
 (hroom:m * P.bytesOf e≤140737488355328) (hlen:m≤9223372036854775807)
 (hk2:∀ncap,m≤ncap→K (({ E with h:=E.h.add (List.replicate (ncap * P.cellsOf e) .any)}:Env).set o.dst (.hs (E.h.nn,E.h.nx) 0 m ncap))):AOp P o E K Kp:=by
 intro ro X M w0 a w g hst next Q hn hpan
 obtain ⟨inf,z,hi,hz,hzs,hsi,hpos,hby⟩:=Jdh hg
 have hxv:a.eval x= .int kq m:=by
  have:=hst.ev x
  rw [hx] at this
  generalize a.eval x=u at this
  cases this;rfl
 have hexec:∀ {u:Value} {w':World},(Builtin.append_ #[t,tn] o.type #[a.eval s,a.eval x]).run P w= .ok u w'→(execOp a.eval o).run P w= .ok (.value u) w':=by
  intro u w' h
  unfold execOp
  simp only [ho,resolve]
  simp [invoke,builtin,h]
 have hrun:∃ncap,m≤ncap∧(Builtin.append_ #[t,tn] o.type #[a.eval s,a.eval x]).run P w= .ok (.slice (some ⟨w.heap.size,0,none⟩) m ncap) (w.drew.alloc (.cells (([]:List Value).toArray++Builtin.zeroCells z.cells m++Builtin.zeroCells z.cells (ncap - m)) e)):=by
  have hsr:=hst.ev s
  rw [hs] at hsr
  rw [hxv]
  generalize a.eval s=us at hsr
  have key:∀ad:Option Addr,us= .slice ad 0 0→∃ncap,m≤ncap∧(Builtin.append_ #[t,tn] o.type #[us, .int kq m]).run P w= .ok (.slice (some ⟨w.heap.size,0,none⟩) m ncap) (w.drew.alloc (.cells (([]:List Value).toArray++Builtin.zeroCells z.cells m++Builtin.zeroCells z.cells (ncap - m)) e)):=by
   rintro ad rfl
   have hr:=Go.Lib.run_append_grow_zeros (P:=P) w t tn o.type e inf z kq kn ht htn hi hz ad 0 0 [] (by cases ad with
    | none=> simp [Builtin.firstCells]
    | some a0=> simpa using run_firstCells_some (P:=P) w.drew inf.size 0 a0 0 0 [] (by simp) (by simp)) m Om Om Om Om (by rw [hby];omega) (growslice_fits Om (by rw [hby,Nat.zero_add];exact hroom))
   rw [Nat.zero_add] at hr
   exact ⟨_,grownCap_ge w m 0 e,hr⟩
  cases hsr with
  | os0 _ _ ad=> exact key ad rfl
  | osn _ _ _ b off vs=> exact key _ rfl
 obtain ⟨ncap,hnc,hr⟩:=hrun
 obtain ⟨h3,h4⟩:=hst.drew.box (cs:=List.replicate (ncap * P.cellsOf e) .any) (vs:=([]:List Value).toArray++Builtin.zeroCells z.cells m++Builtin.zeroCells z.cells (ncap - m)) e
  (by
    simp only [Array.toList_append,List.length_append,Array.length_toList,size_zeroCells,hzs,List.length_replicate,List.length_nil,Nat.zero_add,← Nat.add_mul]
    congr 1;omega)
  (fun k c u hc hu=> by
    have:=List.mem_of_getElem? hc
    rw [(List.mem_replicate.1 this).2]
    exact .any _)
 refine JJ (by rw [ho];intro c h;cases h) ?_
 rw [hexec hr]
 exact hn _ _ _ _ (hk2 ncap hnc) (fun i b h=> by rw [List.getElem?_append_left (List.getElem?_eq_some_iff.1 h).1];exact h) (h3.put o.dst (.hs _ _ _ _ w.heap.size (JoB h4)))
theorem Jie {o:Oper} {E:Env} {t e:TypeId} {x hi:Operand} {n l cap:Nat} {i:Id} {k':IntKind} {d:TypeDesc} (ho:o.op= .slice t x none (some hi) none) (hx:E.ev x= .hs i 0 n cap)
 (hhi:E.ev hi= .v (.int k' (l:Int))) (ht:P.underlying t=some (.slice e)) (hd:P.underlying e=some d) (hl:l≤cap) (hc:0 < cap):Yields P o E (.hs i 0 l cap):=by
 refine ⟨(by rw [ho];intro c hc;cases hc),fun ρ w X g hk hr=> .inl ?_⟩
 have r1:=hr x (by rw [ho];simp [Op.operands])
 have r3:=hr hi (by rw [ho];simp [Op.operands])
 rw [hx] at r1;rw [hhi] at r3
 have e3:=JE r3
 generalize hu:ρ x=u at r1
 cases r1 with
 | hs _ _ _ _ b hgb=>
   have hN:(Instr.sliceBounds true n cap none (some (.int k' (l:Int))) none).run P w= .ok (0,l,cap) w:=by
    have e5:(0:Int)≤(l:Int):=by omega
    have e6:(l:Int)≤(cap:Int):=by omega
    simp [Instr.sliceBounds,Instr.sliceBound,asIntOf,hl]
   have hcl:¬cap=0:=by omega
   refine ⟨.slice (some ⟨b,0,none⟩) l cap,w, ?_,Evo.refl _ _, .hs _ _ _ _ b hgb⟩
   unfold execOp
   simp only [ho,hu,Option.map_some,e3,Option.map_none]
   refine Ja3 ?_
   simp [Instr.sliceAt,Sem.run_bind,run_underlying ht,Result.andThen_ok,Instr.slice,hN,JB hd,Sem.run_pure,JY,hcl]
theorem JsU {o:Oper} {E:Env} {K:Env→Prop} {Kp:AV→Env→Prop} {t e:TypeId} {x hi:Operand} {n l cap:Nat} {i:Id} {k':IntKind} {d:TypeDesc} (ho:o.op= .slice t x none (some hi) none) (hx:E.ev x= .hs i 0 n cap)
 (hhi:E.ev hi= .v (.int k' (l:Int))) (ht:P.underlying t=some (.slice e)) (hd:P.underlying e=some d) (hl:l≤cap) (hc:0 < cap) (hk:K (E.set o.dst (.hs i 0 l cap))):AOp P o E K Kp:=
 AOp.of_yields (Jie ho hx hhi ht hd hl hc) hk
end Go.Vl

namespace Go.Vl
open Go.RowKit
variable {P:Program}
theorem JkK {w:World} {X:Nat→Nat→Prop} {g:List Nat} {sz:Nat} {f:Nat→AV} {u:Value} (h:Rep w X g (.os sz 0 f none) u):∃ad,u= .slice ad 0 0:=by
 cases h with
 | os0 _ _ ad=> exact ⟨ad,rfl⟩
 | osn _ _ _ b off vs=> exact ⟨_,rfl⟩
theorem JiB {o:Oper} {E:Env} {K:Env→Prop} {Kp:AV→Env→Prop} {x:Operand} {t e:TypeId} {sz:Nat} {f:Nat→AV} (ho:o.op= .call { callee:= .builtin .cap,args:= #[x],argTypes:= #[t]})
 (hx:E.ev x= .os sz 0 f none) (ht:P.underlying t=some (.slice e)) (hk:K (E.set o.dst (.v (.int .i64 0)))):AOp P o E K Kp:=by
 refine AOp.of_yields (r:= .v (.int .i64 0)) ⟨(by rw [ho];intro c hc;cases hc),fun ρ w X g hk hr=> .inl ?_⟩ hk
 have r1:=hr x (by rw [ho];simp [Op.operands,Call.operands])
 rw [hx] at r1
 obtain ⟨ad,hu⟩:=JkK r1
 refine ⟨.int .i64 0,w, ?_,Evo.refl _ _, .v _⟩
 unfold execOp
 simp only [ho,resolve]
 simp [invoke,builtin,hu,Builtin.cap_,run_underlying ht,goInt]
theorem JsV {o:Oper} {E:Env} {K:Env→Prop} {Kp:AV→Env→Prop} {t e:TypeId} {x hi:Operand} {sz:Nat} {f:Nat→AV} {k':IntKind} {d:TypeDesc} (ho:o.op= .slice t x none (some hi) none) (hx:E.ev x= .os sz 0 f none)
 (hhi:E.ev hi= .v (.int k' 0)) (ht:P.underlying t=some (.slice e)) (hd:P.underlying e=some d) (hk:K (E.set o.dst (.os sz 0 f none))):AOp P o E K Kp:=by
 refine AOp.of_yields (r:= .os sz 0 f none) ⟨(by rw [ho];intro c hc;cases hc),fun ρ w X g hk hr=> .inl ?_⟩ hk
 have r1:=hr x (by rw [ho];simp [Op.operands])
 have r3:=hr hi (by rw [ho];simp [Op.operands])
 rw [hx] at r1;rw [hhi] at r3
 have e3:=JE r3
 obtain ⟨ad,hu⟩:=JkK r1
 have hN:(Instr.sliceBounds true 0 0 none (some (.int k' 0)) none).run P w= .ok (0,0,0) w:=by
  simp [Instr.sliceBounds,Instr.sliceBound,asIntOf]
 cases ad with
 | none=>
   refine ⟨.slice none 0 0,w, ?_,Evo.refl _ _, .os0 _ _ _⟩
   unfold execOp
   simp only [ho,hu,Option.map_some,e3,Option.map_none]
   refine Ja3 ?_
   simp [Instr.sliceAt,Sem.run_bind,run_underlying ht,Result.andThen_ok,Instr.slice,hN,JB hd,Sem.run_pure,JY]
 | some ad=>
   refine ⟨.slice (some ad) 0 0,w, ?_,Evo.refl _ _, .os0 _ _ _⟩
   unfold execOp
   simp only [ho,hu,Option.map_some,e3,Option.map_none]
   refine Ja3 ?_
   simp [Instr.sliceAt,Sem.run_bind,run_underlying ht,Result.andThen_ok,Instr.slice,hN,JB hd,Sem.run_pure,JY]
end Go.Vl

namespace Go.Vl
variable {P:Program}
theorem JeG {o:Oper} {E:Env} {K:Env→Prop} {Kp:AV→Env→Prop} {fo:Operand} {args:Array Operand} {tys:Array TypeId} {f:FuncId} {first caps xs:List AV} {h1:Heap} {Q:AV→Heap→Prop} {bx1:List (Id×Own)} {pm1:List (Id×Nat)}
 (rb:List (Id×Own)) (rp:List (Id×Nat)) (nn:Nat) (ho:o.op= .call { callee:= .value fo,args:=args,argTypes:=tys}) (hf:E.ev fo= .fn (.func f) first caps) (hbx:E.h.bx=bx1++rb) (hpm:E.h.pm=rp++pm1)
 (hl:LeL (first++args.toList.map E.ev++caps) xs) (hc:ECall P f xs h1 Q) (hbl:BxLe bx1 h1.bx) (hpe:PmEq pm1 h1.pm) (hn:h1.nx=E.h.nx)
 (hk:∀r h',Q r h'→K (({ E with h:=⟨h'.bx++rb,rp++h'.pm,h'.nx,nn⟩}:Env).set o.dst r)):AOp P o E K Kp:=by
 have h2:ECall P f xs ⟨bx1,pm1,h1.nx,h1.nn⟩ Q:=hc.tell hbl hpe rfl
 have h3:=(ECall.frame (h:=E.h) h2 rb rp (by rw [hbx]) (by rw [hpm];exact List.perm_append_comm) hn).args hl
 refine Jby ho hf h3 fun r h' hq=> ?_
 obtain ⟨h1',q1,rfl⟩:=hq
 exact ⟨r,⟨h1'.bx++rb,rp++h1'.pm,h1'.nx,nn⟩,Rf,⟨.refl _,List.perm_append_comm.map _,rfl⟩,hk r h1' q1⟩
theorem AVle.fn_caps {f:Fn} {cs ds:List AV} (h:LeL cs ds):AVle (.fn f [] cs) (.fn f [] ds):=by
 intro w X g u hr
 cases hr with
 | fn _ _ _ v1 v2 n1 n2 r1 r2=>
   refine .fn _ _ _ v1 v2 n1 (n2.trans h.get.1) r1 ?_
   intro k c u hc hu
   have hk:k < cs.length:=by rw [h.get.1];exact (List.getElem?_eq_some_iff.1 hc).1
   exact h.get.2 k _ c (List.getElem?_eq_getElem hk) hc w X g u (r2 k _ u (List.getElem?_eq_getElem hk) hu)
theorem Jhc {ops:Array Oper} {o:Oper} {E E':Env} {j:Nat} {want:Bool} {x:Option Bool} (hg:o.guard=some (j,want)) (ht:∀k,k∈o.looksAt ops→E'.t k=E.t k) (h:agb (agd ops E j)=some x):agb (agd ops E' j)=some x:=by
 unfold agd at h⊢
 cases hd:(ops[j]?).bind (·.dst) with
 | none=> simp [hd,agb] at h
 | some d=> simp only [hd] at h⊢;rw [ht d (Jez hg hd)];exact h
theorem JxQ {ops:Array Oper} {B:List (Id×Own)} {o:Oper} {E:Env} {j:Nat} {want c:Bool} (hg:o.guard=some (j,want)) (hd:agb (agd ops E j)=some (some c)) (hc:(c ==want)=false):PureAll P ops B o E (.v undef):=fun E' _ ht=> by
 unfold GY
 simp only [hg]
 exact ⟨some c,Jhc hg ht hd, .inr ⟨(fun h=> by rw [Option.some.inj h,beq_self_eq_true] at hc;cases hc),trivial⟩⟩
theorem JsW {ops:Array Oper} {B:List (Id×Own)} {o:Oper} {E:Env} {j:Nat} {want c:Bool} {C:Option Prop} {r:AV} (hg:o.guard=some (j,want)) (hd:agb (agd ops E j)=some (some c)) (hc:(c ==want)=true)
 (hp:JaM P o.op { E with h:=⟨B, [],0,0⟩}=some (C,r)) (hC:J3 C):PureAll P ops B o E r:=fun E' hb ht=> by
 unfold GY
 simp only [hg]
 exact ⟨some c,Jhc hg ht hd, .inl ⟨by rw [beq_iff_eq.1 hc],JaL (Jc6 (E:= { E with h:=⟨B, [],0,0⟩}) (E':=E') hb (JaI (E:= { E with h:=⟨B, [],0,0⟩}) ht) hp) hC⟩⟩
end Go.Vl

namespace Go.Vl
open Go.RowKit
variable {P:Program}
section
variable {α:Type} [Inhabited α]
def Jbo (E:α→List AV) (d:Array α) (tl:List AV):List AV:=d.toList.flatMap E++tl
omit [Inhabited α] in
theorem Jfx {E:α→List AV} {k:Nat} (hk:∀x,(E x).length=k):∀l:List α,(l.flatMap E).length=l.length * k
 | []=> by simp
 | x::l=> by rw [List.flatMap_cons,List.length_append,hk,Jfx hk l,List.length_cons,Nat.succ_mul];omega
omit [Inhabited α] in
theorem Jms {E:α→List AV} {k:Nat} (hk:∀x,(E x).length=k) {d:Array α} {tl:List AV}:(Jbo E d tl).length=d.size * k+tl.length:=by
 unfold Jbo;rw [List.length_append,Jfx hk];simp
omit [Inhabited α] in
theorem JkL {E:α→List AV} {k:Nat} (hk:∀x,(E x).length=k) {tl:List AV}:∀(l:List α) (i:Nat) (h:i < l.length),((l.flatMap E++tl).drop (i * k)).take k=E l[i]
 | [],i,h=> by cases h
 | x::l,0,_=> by
   rw [List.flatMap_cons,List.append_assoc,Nat.zero_mul,List.drop_zero,List.take_append_of_le_length (by rw [hk];exact Nat.le_refl _),List.take_of_length_le (by rw [hk];exact Nat.le_refl _)];rfl
 | x::l,i+1,h=> by
   have e:(E x++(l.flatMap E++tl)).drop ((i+1) * k)=(l.flatMap E++tl).drop (i * k):=by
    rw [List.drop_append,List.drop_of_length_le (by rw [hk,Nat.succ_mul];omega),hk,Nat.succ_mul,Nat.add_sub_cancel];rfl
   rw [List.flatMap_cons,List.append_assoc,e]
   exact JkL hk l i (by simpa using h)
theorem Jmt {E:α→List AV} {k:Nat} (hk:∀x,(E x).length=k) {d:Array α} {tl:List AV} {i:Nat} (hi:i < d.size):((Jbo E d tl).drop (i * k)).take k=E d[i]! :=by
 unfold Jbo
 rw [JkL hk d.toList i (by simpa using hi)]
 simp [hi]
omit [Inhabited α] in
theorem Jjg {a b vs:List AV} {off:Nat}:JN (a++b) (a.length+off) vs=a++JN b off vs:=by
 rw [J9,J9,List.take_append,List.drop_append]
 have h1:a.take (a.length+off)=a:=List.take_of_length_le Om
 have h2:a.drop (a.length+off+vs.length)= []:=List.drop_of_length_le Om
 rw [h1,h2,show a.length+off - a.length=off by omega,show a.length+off+vs.length - a.length=off+vs.length by omega]
 simp
omit [Inhabited α] in
theorem Jmu {a b vs:List AV} (h:a.length=vs.length):JN (a++b) 0 vs=vs++b:=by
 rw [J9,Nat.zero_add,← h,List.drop_left']
 ·simp
 ·rfl
omit [Inhabited α] in
theorem JkM {E:α→List AV} {k:Nat} (hk:∀x,(E x).length=k) {tl:List AV} {x:α}:∀(l:List α) (i:Nat),i < l.length→JN (l.flatMap E++tl) (i * k) (E x)=(l.set i x).flatMap E++tl
 | [],i,h=> by cases h
 | y::l,0,_=> by
   rw [List.flatMap_cons,List.append_assoc,Nat.zero_mul,Jmu (by rw [hk,hk])];simp [List.flatMap_cons]
 | y::l,i+1,h=> by
   rw [List.flatMap_cons,List.append_assoc,Nat.succ_mul,Nat.add_comm,show k+i * k=(E y).length+i * k by rw [hk],Jjg,JkM hk l i (by simpa using h)]
   simp [List.flatMap_cons]
omit [Inhabited α] in
theorem Jmv {E:α→List AV} {k:Nat} (hk:∀x,(E x).length=k) {d:Array α} {tl:List AV} {i:Nat} {x:α} (hi:i < d.size):JN (Jbo E d tl) (i * k) (E x)=Jbo E (d.setIfInBounds i x) tl:=by
 unfold Jbo
 rw [JkM hk _ _ (by simpa using hi)]
 simp
omit [Inhabited α] in
theorem Jj3 {E:α→List AV} {k:Nat} (hk:∀x,(E x).length=k) {d:Array α} {tl:List AV} {i:Nat} (hi:i < d.size):i * k+k≤(Jbo E d tl).length:=by
 rw [Jms hk,← Nat.succ_mul]
 exact Nat.le_trans (Nat.mul_le_mul_right k hi) (Nat.le_add_right _ _)
theorem Jx0 {x:Int} {i c k:Nat} (hc:c=k) (h:x=(i:Int)):0+x.toNat * c=i * k:=by subst hc;subst h;simp
theorem Jgp {E:α→List AV} {k:Nat} (hk:∀x,(E x).length=k) {h:Heap} {t:TypeId} {nm s off j:Nat} {d:Array α} {tl:List AV} (hcs:Jam nm h.bx=some (s,Jbo E d tl)) (ht:(P.underlying t).map agD=some true) (hn:P.cellsOf t=k) (hoff:off=j * k) (hj:j < d.size):
 JcB P t h (.bp (nm,s) off)=some (some (s=s), .ag (E d[j]!)):=by
 subst hoff
 obtain ⟨td,ht,ha⟩:=Option.map_eq_some_iff.1 ht
 have hl:Nat.ble (0+k) ((Jbo E d tl).drop (j * k)).length=true:=Nat.ble_eq_true_of_le (by rw [List.length_drop];have:=Jj3 (tl:=tl) hk hj;omega)
 unfold JcB
 simp only [hcs,ht,ha,cond_true,apart,hn,hl,List.drop_zero,Jmt hk hj,Option.map_some]
theorem Jwp {E:α→List AV} {k:Nat} (hk:∀x,(E x).length=k) {o:Op} {e:Env} {t:TypeId} {p:Operand} {nm s off j:Nat} {d:Array α} {tl:List AV} (ho:o= .load t p) (hp:e.ev p= .bp (nm,s) off) (hoff:off=j * k)
 (hcs:Jam nm e.h.bx=some (s,Jbo E d tl)) (ht:(P.underlying t).map agD=some true) (hn:P.cellsOf t=k) (hj:j < d.size):JaM P o e=some (some (s=s), .ag (E d[j]!)):=by
 rw [ho]
 show JcB P t e.h (e.ev p)=_
 rw [hp]
 exact Jgp hk hcs ht hn hoff hj
theorem Jwa {E:α→List AV} {k:Nat} (hk:∀x,(E x).length=k) {o:Oper} {e:Env} {t:TypeId} {p:Operand} {nm s off j:Nat} {d:Array α} {tl:List AV} (ho:o.op= .load t p) (hp:e.ev p= .bp (nm,s) off) (hoff:off=j * k)
 (hcs:Jam nm e.h.bx=some (s,Jbo E d tl)) (ht:(P.underlying t).map agD=some true) (hn:P.cellsOf t=k) (hj:j < d.size):Yields P o e (.ag (E d[j]!)):=by
 refine JaL (C:=some (s=s)) ?_ rfl
 rw [ho]
 show JcB P t e.h (e.ev p)=_
 rw [hp]
 exact Jgp hk hcs ht hn hoff hj
theorem Jxl {E:α→List AV} {k:Nat} (hk:∀x,(E x).length=k) {ops:Array Oper} {o:Oper} {e:Env} {t:TypeId} {p:Operand} {nm s off j:Nat} {d:Array α} {tl:List AV} (hg:o.guard=none) (ho:o.op= .load t p) (hp:e.ev p= .bp (nm,s) off) (hoff:off=j * k)
 (hcs:Jam nm e.h.bx=some (s,Jbo E d tl)) (ht:(P.underlying t).map agD=some true) (hn:P.cellsOf t=k) (hj:j < d.size):PureNow P ops o e (.ag (E d[j]!)):=by
 refine Jhb hg (C:=some (s=s)) ?_ rfl
 rw [ho]
 show JcB P t e.h (e.ev p)=_
 rw [hp]
 exact Jgp hk hcs ht hn hoff hj
omit [Inhabited α] in
theorem Jxm {E:α→List AV} {k:Nat} (hk:∀x,(E x).length=k) {ops:Array Oper} {o:Oper} {e:Env} {t:TypeId} {p x:Operand} {nm s off j:Nat} {d:Array α} {tl:List AV} {z:α} (hg:o.guard=none) (ho:o.op= .store t p x) (hd:o.dst=none) (hp:e.ev p= .bp (nm,s) off) (hoff:off=j * k)
 (hx:e.ev x= .ag (E z)) (h1:(E z).all JbG=true) (h2:JbA (.ag (E z))=true) (hcs:Jam nm e.h.bx=some (s,Jbo E d tl)) (ht:(P.underlying t).isSome=true) (hn:P.cellsOf t=k) (hj:j < d.size):
 Eff P ops [] o e fun _ h'=> h'= { e.h with bx:=JbP nm (Jbo E (d.setIfInBounds j z) tl) e.h.bx}:=by
 subst hoff
 have hcl:(AV.ag (E z)).cells=E z:=rfl
 have q:=Jfu (P:=P) (ops:=ops) (B:= []) (E:=e) (cs:=Jbo E d tl) (i:=(nm,s)) hg ho hd hp hcs (by rw [hx];exact h2) (by rw [hx,hcl];exact h1) ht (by rw [hx,hcl,hk,hn];exact Nat.beq_refl _) (by rw [hx,hcl,hk];exact Jj3 hk hj) (fun _ _ _ h=> by cases h)
 rw [hx,hcl,Jmv hk hj] at q
 exact q
omit [Inhabited α] in
theorem Jwq {E:α→List AV} {k:Nat} (hk:∀x,(E x).length=k) {o:Oper} {e:Env} {K:Env→Prop} {Kp:AV→Env→Prop} {t:TypeId} {p x:Operand} {nm s off j:Nat} {d:Array α} {tl:List AV} {z:α} (ho:o.op= .store t p x) (hd:o.dst=none) (hp:e.ev p= .bp (nm,s) off) (hoff:off=j * k)
 (hx:e.ev x= .ag (E z)) (h1:(E z).all JbG=true) (h2:JbA (.ag (E z))=true) (hcs:Jam nm e.h.bx=some (s,Jbo E d tl)) (ht:(P.underlying t).isSome=true) (hn:P.cellsOf t=k) (hj:j < d.size)
 (hK:K { e with h:= { e.h with bx:=JbP nm (Jbo E (d.setIfInBounds j z) tl) e.h.bx}}):AOp P o e K Kp:=by
 subst hoff
 have hcl:(AV.ag (E z)).cells=E z:=rfl
 refine AOp.any (Jg1 ho hp hcs (by rw [hx];exact h2) (by rw [hx,hcl];exact h1) ht (by rw [hx,hcl,hk,hn];exact Nat.beq_refl _) (by rw [hx,hcl,hk];exact Jj3 hk hj) ?_)
 rw [hx,hcl,Jmv hk hj,hd]
 exact hK
end
theorem Jmw {o:Oper} {E:Env} {t e:TypeId} {x lo:Operand} {n l cap:Nat} {i:Id} {k':IntKind} {d:TypeDesc} (ho:o.op= .slice t x (some lo) none none) (hx:E.ev x= .hs i 0 n cap)
 (hlo:E.ev lo= .v (.int k' (l:Int))) (ht:P.underlying t=some (.slice e)) (hd:P.underlying e=some d) (hl:l≤n) (hn:n≤cap) (hc:l < cap):Yields P o E (.hs i (l * P.cellsOf e) (n - l) (cap - l)):=by
 refine ⟨(by rw [ho];intro c hc;cases hc),fun ρ w X g hk hr=> .inl ?_⟩
 have r1:=hr x (by rw [ho];simp [Op.operands])
 have r3:=hr lo (by rw [ho];simp [Op.operands])
 rw [hx] at r1;rw [hlo] at r3
 have e3:=JE r3
 generalize hu:ρ x=u at r1
 cases r1 with
 | hs _ _ _ _ b hgb=>
   have hN:(Instr.sliceBounds true n cap (some (.int k' (l:Int))) none none).run P w= .ok (l,n,cap) w:=by
    have e5:(0:Int)≤(l:Int):=by omega
    have e6:(l:Int)≤(n:Int):=by omega
    simp [Instr.sliceBounds,Instr.sliceBound,asIntOf,hl,hn]
   have hcl:¬cap=l:=by omega
   refine ⟨.slice (some ⟨b,l * P.cellsOf e,none⟩) (n - l) (cap - l),w, ?_,Evo.refl _ _, .hs _ _ _ _ b hgb⟩
   unfold execOp
   simp only [ho,hu,Option.map_some,e3,Option.map_none]
   refine Ja3 ?_
   simp [Instr.sliceAt,Sem.run_bind,run_underlying ht,Result.andThen_ok,Instr.slice,hN,JB hd,Sem.run_pure,JY,hcl]
theorem Jwr {o:Oper} {E:Env} {K:Env→Prop} {Kp:AV→Env→Prop} {s:Operand} {t e:TypeId} {i:Id} {off n cap:Nat} {cs:List AV} {z:Value}
 (ho:o.op= .call { callee:= .builtin .clear,args:= #[s],argTypes:= #[t]}) (hd:o.dst=none) (hs:E.ev s= .hs i off n cap) (hn:n≠0)
 (ht:P.underlying t=some (.slice e)) (hz:(P.info? e).bind (·.zero)=some z) (hsz:z.cells.size=P.cellsOf e) (h1:z.cells.all (·.oneCell')=true)
 (hcs:Jam i.1 E.h.bx=some (i.2,cs)) (hle:off+n * P.cellsOf e≤cs.length)
 (hk:K { E with h:= { E.h with bx:=JbP i.1 (JN cs off (List.replicate (n * P.cellsOf e) .any)) E.h.bx}}):AOp P o E K Kp:=by
 intro ro X M w0 a w g hst next Q hn' hpan
 have hmem:=Jdw hcs
 obtain ⟨b,hg,vs,e',hb,hvs,hr⟩:=hst.hok.bx _ hmem
 dsimp only at hg hvs hr
 have hsv:a.eval s= .slice (some ⟨b,off,none⟩) n cap:=by
  have:=hst.ev s
  rw [hs] at this
  generalize a.eval s=u at this
  cases this with
  | hs _ _ _ _ b' hg'=> rw [hg] at hg';cases hg';rfl
 have hnl:(Builtin.zeroCells z.cells n).toList.length=n * P.cellsOf e:=by rw [Array.length_toList,size_zeroCells,hsz]
 have hone:∀v∈(Builtin.zeroCells z.cells n).toList,v.oneCell'=true:=by
  intro v hv
  rw [Builtin.zeroCells,Array.toList_map,List.mem_map] at hv
  obtain ⟨j,hj,rfl⟩:=hv
  have hpos:0 < z.cells.size:=by
   rcases Nat.eq_zero_or_pos z.cells.size with h0 | h0
   ·rw [h0] at hj;simp at hj
   ·exact h0
  have hm:=Nat.mod_lt j hpos
  have e2:z.cells[j % z.cells.size]! =z.cells[j % z.cells.size]:=by simp [hm]
  rw [e2]
  exact Array.all_eq_true.1 h1 _ hm
 have hst2:=run_storeCells_at P b off e' (Builtin.zeroCells z.cells n).toList 0 vs w hb (by rw [hnl,Nat.add_zero];simpa [hvs] using hle) hone
 simp only [Nat.add_zero] at hst2
 obtain ⟨m,rfl⟩:∃m,n=m+1:=⟨n - 1,by omega⟩
 have hrun:(execOp a.eval o).run P w= .ok (.value (.tuple #[])) (w.setRow b (vs.toList.take off++(Builtin.zeroCells z.cells (m+1)).toList++vs.toList.drop (off+(Builtin.zeroCells z.cells (m+1)).toList.length)).toArray):=by
  have hcl:(Builtin.clear_ #[t] o.type #[.slice (some ⟨b,off,none⟩) (m+1) cap]).run P w= .ok (.tuple #[]) (w.setRow b (vs.toList.take off++(Builtin.zeroCells z.cells (m+1)).toList++vs.toList.drop (off+(Builtin.zeroCells z.cells (m+1)).toList.length)).toArray):=by
   simp only [Builtin.clear_]
   simp [run_underlying ht,JaN hz,hst2]
  unfold execOp
  simp only [ho,resolve]
  simp [invoke,builtin,hsv,hcl]
 have hnew:=hst.setRow (cs:=JN cs off (List.replicate ((m+1) * P.cellsOf e) .any)) (vs:=(vs.toList.take off++(Builtin.zeroCells z.cells (m+1)).toList++vs.toList.drop (off+(Builtin.zeroCells z.cells (m+1)).toList.length)).toArray) hcs hg hb
  (by simp only [J9,List.length_append,List.length_take,List.length_drop,List.length_replicate,hnl];simp only [Array.length_toList];omega)
  (by simp only [List.size_toArray,List.length_append,List.length_take,List.length_drop,hnl];simp only [Array.length_toList];omega)
  (fun k c u hk1 hk2=> by
    simp only [List.append_assoc] at hk2
    rw [Jbb _ _ _ (by rw [hnl];simpa [hvs] using hle)] at hk2
    rw [J9,Jbb _ _ _ (by rw [List.length_replicate];exact hle)] at hk1
    rw [hnl] at hk2
    rw [List.length_replicate] at hk1
    split at hk1
    ·rename_i h2;rw [if_pos h2] at hk2;exact hr k c u hk1 (by simpa using hk2)
    ·rename_i h2
     rw [if_neg h2] at hk2
     split at hk1
     ·rw [(List.mem_replicate.1 (List.mem_of_getElem? hk1)).2];exact .any _
     ·rename_i h3;rw [if_neg h3] at hk2;exact hr k c u hk1 (by simpa using hk2))
 refine JJ (by rw [ho];intro c h;cases h) ?_
 rw [hrun]
 refine hn' _ _ _ g ?_ (fun _ _ h=> h) (hnew.put o.dst (.v (.tuple #[])))
 rw [hd]
 exact hk
end Go.Vl

namespace Go.Vl
open Go.RowKit
variable {P:Program}
theorem Jw2 {E:Env} {n:Nat} {bx:List (Id×Own)} {pm:List (Id×Nat)} {nx nn:Nat} {L:List (Nat×AV)} (bx'' bx':List (Id×Own)) (pm':List (Id×Nat)) (hn:E.n=n) (hx:E.h.nx=nx) (h0:bx''.Perm E.h.bx) (hb:bx'.Sublist bx'') (hp:pm'.Sublist E.h.pm)
 (eb:BxLe bx' bx) (ep:PmEq pm' pm) (hL:LeT E.t L):ELe E (mk n L ⟨bx,pm,nx,nn⟩ E.df):=
 (Jgk (E:=E) (h':=⟨bx'',E.h.pm,E.h.nx,E.h.nn⟩) ⟨h0.map _, .refl _,rfl⟩).trans (Je (E:= { E with h:=⟨bx'',E.h.pm,E.h.nx,E.h.nn⟩}) bx' pm' hn hx hb hp eb ep hL)
variable {α:Type}
theorem Jw3 {E:α→List AV} {k:Nat} (hk:∀x,(E x).length=k) {l:List α} {tl:List AV} {x:α} (h:k≤tl.length):JN (Jbo E l.toArray tl) (l.length * k) (E x)=Jbo E (l++ [x]).toArray (tl.drop k):=by
 unfold Jbo
 have e1:l.length * k=(l.flatMap E).length:=(Jfx hk l).symm
 show JN (l.flatMap E++tl) (l.length * k) (E x)=(l++ [x]).flatMap E++tl.drop k
 rw [e1]
 have:=Jjg (a:=l.flatMap E) (b:=tl) (off:=0) (vs:=E x)
 rw [Nat.add_zero] at this
 rw [this,J9,Nat.zero_add,hk]
 simp
theorem Jw4 {E:α→List AV} {k:Nat} (hk:∀x,(E x).length=k) {l:List α} {tl:List AV}:(Jbo E l.toArray tl).take (l.length * k)=l.flatMap E:=by
 unfold Jbo
 show (l.flatMap E++tl).take (l.length * k)=_
 rw [← Jfx hk l,List.take_left]
theorem Jxn {E:α→List AV} {l:List α} {x:α} {tl:List AV}:l.flatMap E++E x++tl=Jbo E (l++ [x]).toArray tl:=by
 unfold Jbo
 simp [List.flatMap_append]
theorem Jxo [Inhabited α] {bs:List (Nat×Own)} {i:Id} {n cap k:Nat} {E:α→List AV} (hk:∀x,(E x).length=k) {e:α→AV} (he:∀x,(e x).cells=E x) {d:α} {l:List α} {tl:List AV} (hn:l.length=n) (hm:(i.2, .c (Jbo E l.toArray tl))∈bs) (hcap:n≤cap):
 Frz bs (.hs i 0 n cap) (Jai k e d l):=by
 subst hn
 have hle:l.length * k≤(Jbo E l.toArray tl).length:=by rw [Jms hk];simp
 refine Frz.hs hm hcap (.inr (by rw [Nat.zero_add];exact hle)) (fun j _=> by rw [he,hk]) (fun j hj q c hc=> ⟨c, ?_,Rf⟩) (by rw [Nat.zero_add];exact hle)
 rw [he] at hc
 have hq:q < k:=by have:=(List.getElem?_eq_some_iff.1 hc).1;rwa [hk] at this
 have hg:=Jmt (E:=E) (tl:=tl) hk (d:=l.toArray) (i:=j) (by simpa using hj)
 have hx:(l.toArray)[j]! =l.getD j d:=by simp [List.getD,hj]
 rw [hx] at hg
 rw [← hg,List.getElem?_take,if_pos hq,List.getElem?_drop] at hc
 rw [Nat.zero_add]
 exact hc
end Go.Vl

namespace Go.Vl
open Go.RowKit
variable {P:Program}
def Jbp (x:Int×Int):Value:= .agg #[.int .i64 x.1, .int .i64 x.2]
def kA (x:Int×Int):AV:= .ag [.v (.int .i64 x.1), .v (.int .i64 x.2)]
def Jcp (x:Int×Int):Value×AV:=(Jbp x, .v (.bool true))
theorem Jq1 {w:World} {X:Nat→Nat→Prop} {g:List Nat} {x:Int×Int} {u:Value} (h:Rep w X g (kA x) u):u=Jbp x:=by
 cases h with
 | ag _ vs hn h=>
   match vs,hn with
   | [a,b],_=>
     have h0:=JE (h 0 _ a rfl rfl)
     have h1:=JE (h 1 _ b rfl rfl)
     subst h0 h1;rfl
theorem Jq2 {w:World} {X:Nat→Nat→Prop} {g:List Nat} {x:Int×Int}:Rep w X g (kA x) (Jbp x):=
 .ag [_,_] [_,_] rfl fun k c u hc hu=> by
  match k,hc,hu with
  | 0,hc,hu=> simp at hc hu;subst hc;subst hu;exact .v _
  | 1,hc,hu=> simp at hc hu;subst hc;subst hu;exact .v _
structure PairT (P:Program) (kt e:TypeId):Prop where
 arr:P.underlying kt=some (.array 2 e)
 el:P.underlying e=some (.int .i64)
 sz:P.cellsOf e=1
 ok:aeqOk P 8 kt=true
 p0:∀a:Int×Int,apart P e [.v (.int .i64 a.1), .v (.int .i64 a.2)] 0=some (.v (.int .i64 a.1))
 p1:∀a:Int×Int,apart P e [.v (.int .i64 a.1), .v (.int .i64 a.2)] 1=some (.v (.int .i64 a.2))
 eq:∀a b:Int×Int,aeq P 8 kt (kA a) (kA b)=some (a.1 ==b.1&& (a.2 ==b.2&& true))
theorem JsX (a b:Int×Int):(a.1 ==b.1&& (a.2 ==b.2&& true))=decide (a=b):=by
 rw [Bool.eq_iff_iff]
 simp [Prod.ext_iff]
theorem PairT.equal {kt e:TypeId} (h:PairT P kt e) (a b:Int×Int) (w:World):(Op.equal kt (Jbp a) (Jbp b)).run P w= .ok (decide (a=b)) w:=by
 rw [← JsX]
 exact Jfp 8 10000 kt (kA a) (kA b) _ _ _ w (fun _ _=> False) [] Om (h.eq a b) h.ok Jq2 Jq2
theorem PairT.checkI {kt e:TypeId} (h:PairT P kt e) (a:Int) (b:Bool) (n:Nat) (w:World):(Instr.checkKey b (n+1) e (.int .i64 a)).run P w= .ok () w:=by
 unfold Instr.checkKey
 simp only [Sem.run_bind,run_underlying h.el,Result.andThen_ok,Sem.run_pure]
theorem PairT.check {kt e:TypeId} (h:PairT P kt e) (a:Int×Int) (b:Bool) (w:World):(Instr.checkKey b 10000 kt (Jbp a)).run P w= .ok () w:=by
 have hsz:=JB (w:=w) h.el
 rw [h.sz] at hsz
 have hr:∀(k:Nat) (c:AV) (u:Value), [AV.v (.int .i64 a.1), .v (.int .i64 a.2)][k]? =some c→ [Value.int .i64 a.1, .int .i64 a.2][k]? =some u→Rep w (fun _ _=> False) [] c u:=fun k c u hc hu=> by
  match k,hc,hu with
  | 0,hc,hu=> simp at hc hu;subst hc;subst hu;exact .v _
  | 1,hc,hu=> simp at hc hu;subst hc;subst hu;exact .v _
 obtain ⟨u0,q0,r0⟩:=JbL (vs:= [Value.int .i64 a.1, .int .i64 a.2]) (h.p0 a) rfl hr
 obtain ⟨u1,q1,r1⟩:=JbL (vs:= [Value.int .i64 a.1, .int .i64 a.2]) (h.p1 a) rfl hr
 have:=JE r0;subst this
 have:=JE r1;subst this
 obtain ⟨n,hn⟩:∃n,10000=n+1+1:=⟨9998,rfl⟩
 rw [hn]
 unfold Jbp Instr.checkKey
 simp only [Sem.run_bind,run_underlying h.arr,Result.andThen_ok]
 simp only [Std.Legacy.Range.forIn_eq_forIn_range',Std.Legacy.Range.size,Nat.sub_zero,Nat.add_sub_cancel,Nat.div_one,List.range'_succ,List.range'_zero,List.forIn_cons,List.forIn_nil]
 simp [Sem.run_bind,hsz,q0,q1,h.checkI]
theorem PairT.ask {kt e:TypeId} (h:PairT P kt e) (x:Int×Int) (w:World):∀(es:List (Int×Int)) (ents:List MapEntry) (i:Nat),ents.length=es.length→(∀(k:Nat) (p:Int×Int) (en:MapEntry),es[k]? =some p→ents[k]? =some en→en.key=Jbp p)→
 (x∉es∧(Instr.findAsking kt (Jbp x) ents i).run P w= .ok none w)∨∃j en,ents[j]? =some en∧es[j]? =some x∧(Instr.findAsking kt (Jbp x) ents i).run P w= .ok (some (i+j,en.val)) w
 | [], [],i,_,_=> .inl ⟨by simp,by simp [Instr.findAsking]⟩
 | [],en::ents,i,hn,_=> by simp at hn
 | p::es, [],i,hn,_=> by simp at hn
 | p::es,en::ents,i,hn,hk=> by
   have h0:=hk 0 p en rfl rfl
   unfold Instr.findAsking
   rw [h0]
   simp only [Sem.run_bind,h.equal,Result.andThen_ok]
   by_cases hx:x=p
   ·refine .inr ⟨0,en,rfl,by simp [hx], ?_⟩
    simp [hx]
   ·rcases h.ask x w es ents (i+1) (by simpa using hn) (fun k p' e' h1 h2=> hk (k+1) p' e' (by simpa using h1) (by simpa using h2)) with ⟨h1,h2⟩ | ⟨j,e',h1,h2,h3⟩
    ·refine .inl ⟨by simp [hx,h1], ?_⟩
     simp [hx,h2]
    ·refine .inr ⟨j+1,e',by simpa using h1,by simpa using h2, ?_⟩
     simp [hx,h3];omega
theorem PairT.find {kt e:TypeId} (h:PairT P kt e) (x:Int×Int) (w:World) (es:List (Int×Int)) (ents:List MapEntry) (hn:ents.length=es.length) (hk:∀(k:Nat) (p:Int×Int) (en:MapEntry),es[k]? =some p→ents[k]? =some en→en.key=Jbp p):
 (x∉es∧(Instr.findKey kt (Jbp x) ents).run P w= .ok none w)∨∃j en,ents[j]? =some en∧es[j]? =some x∧(Instr.findKey kt (Jbp x) ents).run P w= .ok (some (j,en.val)) w:=by
 unfold Instr.findKey
 match es,ents,hn,hk with
 | [], [],_,_=> exact .inl ⟨by simp,by simp [Sem.run_bind,run_underlying h.arr,Instr.findNow]⟩
 | p::es,en::ents,hn,hk=>
   have e0:Instr.findNow (.array 2 e) (Jbp x) (en::ents) 0=none:=by simp [Instr.findNow,Instr.sameNow]
   rcases h.ask x w (p::es) (en::ents) 0 hn hk with ⟨h1,h2⟩ | ⟨j,e',h1,h2,h3⟩
   ·exact .inl ⟨h1,by simp only [Sem.run_bind,run_underlying h.arr,Result.andThen_ok,e0,h2]⟩
   ·refine .inr ⟨j,e',h1,h2, ?_⟩
    simp only [Sem.run_bind,run_underlying h.arr,Result.andThen_ok,e0,h3,Nat.zero_add]
theorem JnF {o:Oper} {t kt e et:TypeId} {m k:Operand} {x:Int×Int} {i:Id} {es:List (Int×Int)} {E:Env} {K:Env→Prop} {Kp:AV→Env→Prop} (ho:o.op= .lookup t m k false) (ht:P.underlying t=some (.map kt et)) (hp:PairT P kt e)
 (hz:(P.info? et).bind (·.zero)=some (.bool false)) (hm:E.ev m= .om i) (hkv:E.ev k=kA x) (hes:JX i.1 E.h.bx=some (i.2, .mp (es.map Jcp))) (hK:K (E.set o.dst (.v (.bool (decide (x∈es)))))):AOp P o E K Kp:=by
 refine AOp.of_yields (r:= .v (.bool (decide (x∈es)))) ⟨(by rw [ho];intro c hc;cases hc),fun ρ w X g hk hr=> .inl ?_⟩ hK
 have r1:=hr m (by rw [ho];simp [Op.operands])
 have r2:=hr k (by rw [ho];simp [Op.operands])
 rw [hm] at r1;rw [hkv] at r2
 have e2:=Jq1 r2
 obtain ⟨b,hgb,hown⟩:=hk.bx _ (Jab hes)
 dsimp only at hgb hown
 obtain ⟨ents,h1,h2,h3⟩:=hown
 have hmv:ρ m= .map (some b):=by
  generalize ρ m=u at r1
  cases r1 with
  | om _ b' hg'=> rw [hgb] at hg';cases hg';rfl
 rw [List.length_map] at h2
 have hkk:∀(k:Nat) (p:Int×Int) (en:MapEntry),es[k]? =some p→ents[k]? =some en→en.key=Jbp p:=fun k p en q1 q2=> (h3 k (Jcp p) en (by simp [q1]) q2).1
 have hg:=JbM (P:=P) h1
 refine ⟨.bool (decide (x∈es)),w, ?_,Evo.refl _ _, .v _⟩
 unfold execOp
 simp only [ho,hmv,e2]
 refine Ja3 ?_
 unfold Instr.lookup
 simp only [Sem.run_bind,run_underlying ht,Result.andThen_ok,hg,Sem.run_pure,hp.check]
 rcases hp.find x w es ents h2 hkk with ⟨hn,hf⟩ | ⟨j,en,q1,q2,hf⟩
 ·have hzz:=JaN (w:=w) hz
  simp only [hf,Result.andThen_ok,Sem.run_pure]
  simp [hn,Sem.run_bind,hzz]
 ·have hv:=JE (h3 j (Jcp x) en (by simp [q2]) q1).2.2
  simp only [hf,Result.andThen_ok,Sem.run_pure]
  simp [hv,List.mem_of_getElem? q2]
def Jcq (x:Int×Int) (es:List (Int×Int)):List (Int×Int):=if x∈es then es else es++ [x]
theorem Jj4 {t kt e et:TypeId} {x:Int×Int} {es:List (Int×Int)} {w:World} {X:Nat→Nat→Prop} {g:List Nat} {b:Nat} (ht:P.underlying t=some (.map kt et)) (hp:PairT P kt e) (hb:OwnRep w X g b (.mp (es.map Jcp))):
 ∃ents':List MapEntry,(Instr.mapUpdate t (.map (some b)) (Jbp x) (.bool true)).run P w= .ok () (World.setO w b (.map ents'.toArray ents'.length))∧ents'.length=((Jcq x es).map Jcp).length∧
  ∀(k:Nat) (p:Value×AV) (en:MapEntry),((Jcq x es).map Jcp)[k]? =some p→ents'[k]? =some en→en.key=p.1∧en.born=k∧Rep w X g p.2 en.val:=by
 obtain ⟨ents,h1,h2,h3⟩:=hb
 rw [List.length_map] at h2
 have hkk:∀(k:Nat) (p:Int×Int) (en:MapEntry),es[k]? =some p→ents[k]? =some en→en.key=Jbp p:=fun k p en q1 q2=> (h3 k (Jcp p) en (by simp [q1]) q2).1
 have hg:=JbM (P:=P) h1
 rcases hp.find x w es ents h2 hkk with ⟨hn,hf⟩ | ⟨j,e0,q1,q2,hf⟩
 ·refine ⟨ents++ [⟨Jbp x, .bool true,ents.length⟩], ?_,by unfold Jcq;rw [if_neg hn];simp [h2],fun k p en r1 r2=> ?_⟩
  ·unfold Instr.mapUpdate
   simp only [Sem.run_bind,run_underlying ht,Result.andThen_ok,hg,hp.check,hf]
   rw [Jbr h1]
   simp
  ·unfold Jcq at r1
   rw [if_neg hn,List.map_append] at r1
   rcases Nat.lt_or_ge k es.length with hlt | hge
   ·rw [List.getElem?_append_left (by simpa using hlt)] at r1
    rw [List.getElem?_append_left Om] at r2
    exact h3 k p en r1 r2
   ·rw [List.getElem?_append_right (by simpa using hge)] at r1
    rw [List.getElem?_append_right Om] at r2
    have:k=es.length:=by
     have:=(List.getElem?_eq_some_iff.1 r1).1;simp at this;omega
    subst this
    rw [List.length_map,Nat.sub_self] at r1
    rw [h2,Nat.sub_self] at r2
    simp at r1 r2
    subst r1;subst r2
    exact ⟨rfl,rfl, .v _⟩
 ·have hj:j < ents.length:=(List.getElem?_eq_some_iff.1 q1).1
  have hje:ents[j]=e0:=(List.getElem?_eq_some_iff.1 q1).2
  have h0:=h3 j (Jcp x) e0 (by simp [q2]) q1
  have hv:=JE h0.2.2
  have hkey:e0.key=Jbp x:=h0.1
  have hmem:x∈es:=List.mem_of_getElem? q2
  refine ⟨ents.set j ⟨Jbp x, .bool true,e0.born⟩, ?_,by unfold Jcq;rw [if_pos hmem];simp [h2],fun k p en r1 r2=> ?_⟩
  ·unfold Instr.mapUpdate
   simp only [Sem.run_bind,run_underlying ht,Result.andThen_ok,hg,hp.check,hf]
   have hks:(Instr.keyThatStays (((ents.toArray[j]?).map (·.key)).getD (Jbp x)) (Jbp x)).run P w= .ok (Jbp x) w:=by
    have hsb:Instr.sameBits 10000 (Jbp x) (Jbp x)=true:=by
     obtain ⟨n,hn⟩:∃n,10000=n+1:=⟨9999,rfl⟩
     rw [hn];simp [Jbp,Instr.sameBits]
    simp [q1,hkey,Instr.keyThatStays,hsb]
   simp only [hks,Result.andThen_ok]
   rw [Jbr h1]
   congr 2
   simp only [List.length_set]
   congr 1
   apply Array.ext'
   simp only [Array.toList_modify,List.modify_eq_set,Option.map_eq_map]
   rw [List.getElem?_eq_getElem hj]
   simp [hje]
  ·unfold Jcq at r1
   rw [if_pos hmem] at r1
   rw [List.getElem?_set] at r2
   by_cases hjk:j=k
   ·subst hjk
    simp [hj] at r2
    subst r2
    have e1:=h3 j p e0 r1 q1
    exact ⟨hkey.symm.trans e1.1,e1.2.1,by
     have:p=Jcp x:=by rw [List.getElem?_map,q2] at r1;exact (Option.some.inj r1).symm
     subst this;exact .v _⟩
   ·simp [hjk] at r2
    exact h3 k p en r1 r2
theorem JnG {o:Oper} {t kt e et:TypeId} {m k v:Operand} {x:Int×Int} {i:Id} {es:List (Int×Int)} {E:Env} {K:Env→Prop} (ho:o.op= .mapUpdate t m k v∨o.op= .insert t m k v) (ht:P.underlying t=some (.map kt et)) (hp:PairT P kt e)
 (hm:E.ev m= .om i) (hkv:E.ev k=kA x) (hv:E.ev v= .v (.bool true)) (hes:JX i.1 E.h.bx=some (i.2, .mp (es.map Jcp)))
 (hK:K (({ E with h:= { E.h with bx:=Jak i.1 (.mp ((Jcq x es).map Jcp)) E.h.bx}}:Env).set o.dst .any)):AOp P o E K:=by
 intro ro X M w0 a w g hs next Q hn hp'
 obtain ⟨b,hgb,hown⟩:=hs.hok.bx _ (Jab hes)
 dsimp only at hgb hown
 have hmv:a.eval m= .map (some b):=by
  have:=hs.ev m
  rw [hm] at this
  generalize a.eval m=u at this
  cases this with
  | om _ b' hg'=> rw [hgb] at hg';cases hg';rfl
 have hkv':a.eval k=Jbp x:=by
  have:=hs.ev k
  rw [hkv] at this
  exact Jq1 this
 have hvv:a.eval v= .bool true:=by
  have:=hs.ev v
  rw [hv] at this
  exact JE this
 obtain ⟨ents',h1,h2,h3⟩:=Jj4 (x:=x) ht hp hown
 obtain ⟨ents,hb0,_⟩:=hown
 have hev:=Jcb (o':= .map ents'.toArray ents'.length) hb0 rfl (fun h=> by cases h)
 have hnew:=hs.setOwn (x:= .mp ((Jcq x es).map Jcp)) hes hgb hev (fun hst=> ⟨ents',JbN hb0,h2,fun k p e q1 q2=> ⟨(h3 k p e q1 q2).1,(h3 k p e q1 q2).2.1,(h3 k p e q1 q2).2.2.stays hst⟩⟩)
 refine JJ (by intro c h;rcases ho with ho | ho <;> (rw [ho] at h;cases h)) ?_
 have:(execOp a.eval o).run P w= .ok .skip (World.setO w b (.map ents'.toArray ents'.length)):=by
  unfold execOp
  rcases ho with ho | ho <;> (simp only [ho,hmv,hkv',hvv,Sem.run_bind,h1,Result.andThen_ok,Sem.run_pure])
 rw [this]
 exact hn _ _ _ g hK (fun _ _ h=> h) (hnew.put o.dst (.any _))
end Go.Vl

/- Regions that draw, with two effects that stand in no order: one of them hangs on nothing, and nothing hangs on it. -/
namespace Go.Vl
open Go.RowKit
variable {P:Program}
theorem MixL.mono {ops:Array Oper} {B:List (Id×Own)} {eff:Nat→Bool} {K K':Env→Prop}:∀ {L:List Nat} {E:Env},(∀E,K E→K' E)→MixL P ops B eff L E K→MixL P ops B eff L E K'
 | [],E,hk,h=> hk E h
 | i::l,E,hk,h=> by
   obtain ⟨o,h1,h2⟩:=h
   refine ⟨o,h1, ?_⟩
   cases he:eff i with
   | true=>
     simp only [he] at h2⊢
     obtain ⟨R,q1,q2⟩:=h2
     exact ⟨R,q1,fun r h' hr=> MixL.mono hk (q2 r h' hr)⟩
   | false=>
     simp only [he] at h2⊢
     obtain ⟨r,q1,q2⟩:=h2
     exact ⟨r,q1,MixL.mono hk q2⟩
theorem MixL.app {ops:Array Oper} {B:List (Id×Own)} {eff:Nat→Bool} {K:Env→Prop} {L2:List Nat}:∀ {L:List Nat} {E:Env},MixL P ops B eff L E (fun E'=> MixL P ops B eff L2 E' K)→MixL P ops B eff (L++L2) E K
 | [],E,h=> h
 | i::l,E,h=> by
   obtain ⟨o,h1,h2⟩:=h
   refine ⟨o,h1, ?_⟩
   cases he:eff i with
   | true=>
     simp only [he] at h2⊢
     obtain ⟨R,q1,q2⟩:=h2
     exact ⟨R,q1,fun r h' hr=> MixL.app (q2 r h' hr)⟩
   | false=>
     simp only [he] at h2⊢
     obtain ⟨r,q1,q2⟩:=h2
     exact ⟨r,q1,MixL.app q2⟩
theorem Jux {ops:Array Oper} {m:Nat} {B:List (Id×Own)} {eff:Nat→Bool} {Q:Exit→Act→World→Prop} (hk:OrdOk ops m) (hm:m≤ops.size)
 {ro:Option Nat} {X M:Nat→Nat→Prop} {w0:World} {g0:List Nat} {K:Env→Prop} {a0 c0:Nat} {rest:List Nat} (hea:eff a0=true) (hec:eff c0=true) (hac:a0≠c0) (ham:a0 < m)
 (hself0:∀oi,ops[a0]? =some oi→∀e∈oi.after,Region.binds .any e=true→e.on≠a0)
 (hna:∀i,i≠a0→i < m→∀oi,ops[i]? =some oi→∀e∈oi.after,Region.binds .any e=true→e.on≠a0)
 (hq:∀E a w g,K E→(∀(i b:Nat),g0[i]? =some b→g[i]? =some b)→St ro X M w0 E a w g→wpOpsIn (Fr ro) 0 P ops Q (List.range' m (ops.size - m)) a w):
 ∀(n:Nat) (pre:List Nat) (listed:Array Bool) (E:Env) (a:Act) (w:World) (g:List Nat),pre.length+rest.length+2=n→(pre++c0::rest).Pairwise (JcQ ops eff)→(pre++(rest++ [a0])).Pairwise (JcQ ops eff)→(∀i∈pre++c0::rest,i < m)→(a0∉pre++c0::rest)→
  (∀i∈pre++c0::rest,∀oi,ops[i]? =some oi→∀e∈oi.after,Region.binds .any e=true→e.on≠i)→listed.size=ops.size→DC ops listed→
 (∀i,i < ops.size→(listed.getD i true=false↔(i=a0∨i∈pre++c0::rest)∨m≤i))→(∀i∈pre,eff i=false)→
 MixL P ops B eff pre E (fun E'=> MixL P ops B eff (a0::c0::rest) E' K∧MixL P ops B eff (c0::(rest++ [a0])) E' K)→HB B E.h.bx→(∀(i b:Nat),g0[i]? =some b→g[i]? =some b)→St ro X M w0 E a w g→wpAnyIn (Fr ro) 0 P .any ops Q (n+(ops.size - m)) listed a w:=by
 intro n
 induction n with
 | zero=> intro pre _ _ _ _ _ hl;omega
 | succ n ih=>
   intro pre listed E a w g hl hpw hpc hlt hnm hself hsz hd hun hpe hrun hB hg hs
   rw [Nat.add_right_comm]
   obtain ⟨k,L',hkL⟩:∃k L',pre++c0::rest=k::L':=by
    cases pre with
    | nil=> exact ⟨_,_,rfl⟩
    | cons k l=> exact ⟨_,_,rfl⟩
   have hkmem:k∈pre++c0::rest:=by rw [hkL];simp
   have hkm:k < m:=hlt k hkmem
   have hka:k≠a0:=fun e=> hnm (e ▸ hkmem)
   have hklt:k < ops.size:=by omega
   have hko:ops[k]? =some ops[k]:=Array.getElem?_eq_getElem hklt
   have hpk:=hpw
   rw [hkL] at hpk
   have hkr:k∈Region.ready .any ops listed:=by
    refine JD.2 ⟨(hun k hklt).2 (.inl (.inr hkmem)),_,hko,fun e he hb=> ?_⟩
    have hb':=hk.back k _ hko e he hb
    rw [JM Om]
    cases hl:listed.getD e.on true with
    | true=> simpa using hl
    | false=>
      rcases (hun e.on Om).1 hl with (h' | h') | h'
      ·exact absurd h' (hna k hka hkm _ hko e he hb)
      ·rw [hkL] at h'
       rcases List.mem_cons.1 h' with h' | h'
       ·exact absurd h' (hself k hkmem _ hko e he hb)
       · exact absurd rfl (((List.pairwise_cons.1 hpk).1 _ h').2 _ _ hko (Array.getElem?_eq_getElem Om) |>.1 e he hb)
      ·omega
   refine ⟨fun h0=> (by rw [h0] at hkr;cases hkr),fun j hj=> ?_⟩
   obtain ⟨h1,oj,hoj,h2⟩:=JD.1 hj
   have hjlt:=(Array.getElem?_eq_some_iff.1 hoj).1
   have hjL:j=a0∨j∈pre++c0::rest:=by
    rcases (hun j hjlt).1 h1 with h' | h'
    ·exact h'
    ·have hb:=hk.tail k j oj hoj h' Om
     have:=JW hd hsz hoj h2 hb
     have h3:=(hun k Om).2 (.inl (.inr hkmem))
     rw [JM Om] at this
     simp [h3] at this
   have hnb:∀i,(i=a0∨i∈pre++c0::rest)→((Region.before ops).getD j 0).testBit i=true→False:=fun i hi hb=> by
    have hilt:i < ops.size:=by
     rcases hi with rfl | hi
     ·omega
     ·have:=hlt i hi;omega
    have:=JW hd hsz hoj h2 hb
    have h3:=(hun i hilt).2 (.inl hi)
    rw [JM Om] at this
    simp [h3] at this
   have JbP:∀(L2:List Nat),(∀i,i < ops.size→i≠j→(((i=a0∨i∈pre++c0::rest)∨m≤i)↔(i∈L2∨m≤i)))→j∉L2→j < m→∀i,i < ops.size→((listed.setIfInBounds j true).getD i true=false↔i∈L2∨m≤i):=fun L2 hL hj2 hjm i hi=> by
    rw [JaD Om]
    by_cases hij:i=j
    ·subst hij
     simp only [if_true]
     constructor
     ·intro h;cases h
     ·intro h
      exfalso
      rcases h with h | h
      ·exact hj2 h
      ·omega
    ·rw [if_neg hij,hun i hi]
     exact hL i hi hij
   have heffect:∀(L2:List Nat),L2.length=n→L2.Pairwise (JcQ ops eff)→(∀i∈L2,i < m)→(∀i∈L2,∀oi,ops[i]? =some oi→∀e∈oi.after,Region.binds .any e=true→e.on≠i)→(∀i,i < ops.size→i≠j→(((i=a0∨i∈pre++c0::rest)∨m≤i)↔(i∈L2∨m≤i)))→j∉L2→j < m→eff j=true→MixL P ops B eff (j::L2) E K→wpOpIn (Fr ro) 0 P ops Q j (wpAnyIn (Fr ro) 0 P Region.Mode.any ops Q (n+(ops.size - m)) (listed.setIfInBounds j true)) a w:=fun L2 e1 e2 e3 e4 e5 e6 e7 e8 e9=> by
    obtain ⟨o,ho,hrun'⟩:=e9
    rw [hoj] at ho
    cases ho
    simp only [e8] at hrun'
    obtain ⟨R,⟨q0,q1⟩,q2⟩:=hrun'
    unfold wpOpIn
    simp only [hoj,Region.wanted,q0,if_true]
    exact q1 E rfl (fun _ _=> rfl) ro X M w0 a w g hs _ _ (fun E' a' w' g' hE hgg hs'=> by
     obtain ⟨r,h',p1,p2,rfl⟩:=hE
     exact Je8 hk hm hq n L2 _ _ a' w' g' e1 e2 e3 e4 (by simp [hsz]) (hd.set hsz hk hj) (JbP L2 e5 e6 e7) (q2 r h' p1) (by rw [Env.set_h];exact p2) (fun i b hi=> hgg i b (hg i b hi)) hs') (fun x E' a' w' g' v hk'=> hk'.elim)
   rcases hjL with rfl | hjL
   ·have h5:=List.pairwise_append.1 hpc
    obtain h6:=MixL.front hoj pre (c0::rest) E (fun i hi=> by
     obtain ⟨_,hp⟩:=h5.2.2 i hi j (by simp)
     have hilt:i < ops.size:=by have:=hlt i (by simp [hi]);omega
     rcases (hp _ _ (Array.getElem?_eq_getElem hilt) hoj).2 with hb | ⟨hb,hb'⟩
     ·exact (hnb i (.inr (by simp [hi])) hb).elim
     ·exact ⟨hb,fun oi hoi=> by rw [Array.getElem?_eq_getElem hilt] at hoi;cases hoi;exact hb'⟩) (MixL.app (MixL.mono (fun _ h=> h.1) hrun))
    exact heffect (pre++c0::rest) (by simp;omega) hpw hlt hself (fun i _ hij=> by simp [hij]) hnm ham hea h6
   ·have hjm:=hlt j hjL
    have hja:j≠a0:=fun e=> hnm (e ▸ hjL)
    rcases List.mem_append.1 hjL with hjp | hjp
    ·obtain ⟨l1,l2,rfl⟩:=List.append_of_mem hjp
     have hej:=hpe j hjp
     have hpw':(l1++j::(l2++c0::rest)).Pairwise (JcQ ops eff):=by simpa using hpw
     have hl1:∀i∈l1,JcQ ops eff i j:=fun i hi=> (List.pairwise_append.1 hpw').2.2 i hi j (by simp)
     obtain ⟨o,ho,hrun'⟩:=MixL.front hoj l1 l2 E (fun i hi=> by
      have hilt:i < ops.size:=by have:=hlt i (by simp [hi]);omega
      rcases ((hl1 i hi).2 _ _ (Array.getElem?_eq_getElem hilt) hoj).2 with hb | ⟨hb,hb'⟩
      ·exact (hnb i (.inr (by simp [hi])) hb).elim
      ·exact ⟨hb,fun oi hoi=> by rw [Array.getElem?_eq_getElem hilt] at hoi;cases hoi;exact hb'⟩) hrun
     rw [hoj] at ho
     cases ho
     simp only [hej] at hrun'
     obtain ⟨r,q1,q2⟩:=hrun'
     have hsub:(l1++l2++c0::rest).Sublist (l1++j::l2++c0::rest):=by simp [List.Sublist.append_left]
     have hsub2:(l1++l2++(rest++ [a0])).Sublist (l1++j::l2++(rest++ [a0])):=by simp
     have hnj:j∉l1++l2++c0::rest:=fun h=> by
      have h5:=List.pairwise_append.1 hpw'
      rw [List.append_assoc] at h
      rcases List.mem_append.1 h with h | h
      ·exact (h5.2.2 j h j (by simp)).1 rfl
      ·exact ((List.pairwise_cons.1 h5.2.1).1 j h).1 rfl
     refine (q1 E hB fun _ _=> rfl).does hoj hs fun a' w' hs'=> ih (l1++l2) _ _ a' w' g (by simp at hl⊢;omega) (hpw.sublist hsub) (hpc.sublist hsub2) (fun i hi=> hlt i (hsub.subset hi)) (fun h=> hnm (hsub.subset h)) (fun i hi=> hself i (hsub.subset hi)) (by simp [hsz]) (hd.set hsz hk hj) (fun i hi=> ?_) (fun i hi=> hpe i (by rcases List.mem_append.1 hi with h | h <;> simp [h])) q2 (by rw [Env.set_h];exact hB) hg hs'
     have e:=JbP (a0::(l1++l2++c0::rest)) (fun i _ hij=> by simp [hij]) (by simp only [List.mem_cons,not_or];exact ⟨hja,hnj⟩) hjm i hi
     rw [e,List.mem_cons]
    ·rcases List.mem_cons.1 hjp with rfl | hjr
     ·have h6:=MixL.front hoj pre (rest++ [a0]) E (fun i hi=> by
       have hilt:i < ops.size:=by have:=hlt i (by simp [hi]);omega
       rcases (((List.pairwise_append.1 hpw).2.2 i hi j (by simp)).2 _ _ (Array.getElem?_eq_getElem hilt) hoj).2 with hb | ⟨hb,hb'⟩
       ·exact (hnb i (.inr (by simp [hi])) hb).elim
       ·exact ⟨hb,fun oi hoi=> by rw [Array.getElem?_eq_getElem hilt] at hoi;cases hoi;exact hb'⟩) (MixL.app (MixL.mono (fun _ h=> h.2) hrun))
      have h5:=List.pairwise_append.1 hpw
      refine heffect (pre++(rest++ [a0])) (by simp;omega) hpc (fun i hi=> ?_) (fun i hi=> ?_) (fun i _ hij=> by simp [hij,or_assoc,or_comm,or_left_comm]) (fun h=> ?_) hjm hec h6
      ·simp only [List.mem_append,List.mem_singleton] at hi
       rcases hi with hi | hi | rfl
       ·exact hlt i (by simp [hi])
       ·exact hlt i (by simp [hi])
       ·exact ham
      ·simp only [List.mem_append,List.mem_singleton] at hi
       rcases hi with hi | hi | rfl
       ·exact hself i (by simp [hi])
       ·exact hself i (by simp [hi])
       ·exact hself0
      ·simp only [List.mem_append,List.mem_singleton] at h
       rcases h with h | h | h
       ·exact (h5.2.2 j h j (by simp)).1 rfl
       ·exact ((List.pairwise_cons.1 h5.2.1).1 j h).1 rfl
       ·exact hja h
     ·exfalso
      have hp:=((List.pairwise_cons.1 (List.pairwise_append.1 hpw).2.1).1 j hjr).2 _ _ (Array.getElem?_eq_getElem (by have:=hlt c0 (by simp);omega)) hoj
      rcases hp.2 with hb | ⟨hb,_⟩
      ·exact hnb c0 (.inr (by simp)) hb
      ·rw [hec] at hb;cases hb
def Jt6 (ops:Array Oper) (m:Nat) (eff:Nat→Bool) (pre:List Nat) (a0 c0:Nat) (rest:List Nat):Bool:=
 let bf:=Region.before ops
 Nat.ble m ops.size&& (Ja1 ops m&& ((pre++c0::rest).all (fun i=> Nat.blt i m&& !Nat.beq i a0)&& ((List.range m).all (fun i=> Nat.beq i a0|| (pre++c0::rest).contains i)&& (ordM.go ops eff bf (pre++c0::rest)&& (ordM.go ops eff bf (pre++(rest++ [a0]))&&
  (eff a0&& (eff c0&& (Nat.blt a0 m&& (pre.all (fun i=> !eff i)&& ((List.range m).all (fun i=> Nat.beq i a0|| match ops[i]? with | some oi=> oi.after.toList.all fun e=> !Region.binds .any e|| !Nat.beq e.on a0 | none=> false)&& Nat.beq (pre.length+rest.length+2) m))))))))))
theorem JxR {id:Nat} {ops:Array Oper} {E:Env} {Q:AExit→Env→Prop} (m:Nat) (B:List (Id×Own)) (eff tl:Nat→Bool) (pre:List Nat) (a0 c0:Nat) (rest:List Nat) (hf:P.follows .mixedOrders=true) (hb:Jt6 ops m eff pre a0 c0 rest=true) (hB:HB B E.h.bx)
 (h:aN P ops B eff tl pre E fun E'=> aN P ops B eff tl (a0::c0::rest) E' (fun E'=> aK P ops (ops.toList.drop m) E' (Q .normal) (fun x E=> Q (.panic x) E))∧aN P ops B eff tl (c0::(rest++ [a0])) E' (fun E'=> aK P ops (ops.toList.drop m) E' (Q .normal) (fun x E=> Q (.panic x) E))):AW P (.region id ops true) E Q:=by
 simp only [Jt6,Bool.and_eq_true,List.all_eq_true] at hb
 obtain ⟨h0,h00,h1,h2,h3,h3c,hea,hec,ha,hp,hn,hl⟩:=hb
 have hm:=Jbx h0
 obtain ⟨h4,h5⟩:=Jee h3
 obtain ⟨h4c,h5c⟩:=Jee h3c
 have hlt:∀i∈pre++c0::rest,i < m:=fun i hi=> Jao (h1 i hi).1
 have hnm:a0∉pre++c0::rest:=fun hi=> Jco (h1 a0 hi).2 rfl
 have hall:∀i,i < m→i=a0∨i∈pre++c0::rest:=fun i hi=> by
  have:=h2 i (List.mem_range.2 hi)
  simpa using this
 have ham:a0 < m:=Jao ha
 have hac:a0≠c0:=fun e=> hnm (by simp [e])
 have hself0:=h5c a0 (by simp)
 have hpe:∀i∈pre,eff i=false:=fun i hi=> by simpa using hp i hi
 have hlen:pre.length+rest.length+2=m:=by simpa using hl
 have hna:∀i,i≠a0→i < m→∀oi,ops[i]? =some oi→∀e∈oi.after,Region.binds .any e=true→e.on≠a0:=fun i hne hi oi ho e he hb=> by
  have:=hn i (List.mem_range.2 hi)
  rw [ho] at this
  simp only [Bool.or_eq_true,List.all_eq_true] at this
  rcases this with h | h
  ·exact absurd (by simpa using h) hne
  ·have:=h e (Array.mem_toList_iff.2 he)
   simp only [hb,Bool.not_true,Bool.false_or] at this
   exact Jco (by simpa using this)
 unfold AW
 intro ro X M w0 a w g g0 hg hs
 refine wpIn_region_any hf ?_
 have hs':St ro X M w0 E a { w with drawn:=w.drawn+1} g:=hs.drew
 have key:=Jux (eff:=eff) (a0:=a0) (c0:=c0) (rest:=rest) (g0:=g0) (K:=fun E'=> aK P ops (ops.toList.drop m) E' (Q .normal) (fun x E=> Q (.panic x) E)) (Q:=JbF ro X M w0 g0 Q) (P:=P) (X:=X) (M:=M) (w0:=w0) (ro:=ro) (B:=B) (Jgc h00) hm hea hec hac ham hself0 hna (fun E' a' w' g' hk hg' hs''=> by
  have:=Jbc (P:=P) (ops:=ops) (K:=Q .normal) (X:=X) (M:=M) (w0:=w0) (g0:=g0) (Kp:=fun x E=> Q (.panic x) E) (ro:=ro) (Q:=JbF ro X M w0 g0 Q) (fun E a w g hk hg hs=> ⟨.normal,E,g,hk,rfl,hg,hs⟩) (fun x E a w g v hk hg hs hr=> ⟨.panic x,E,g,hk,⟨v,rfl,hr⟩,hg,hs⟩) (ops.toList.drop m) m E' a' w' g' (fun j=> .inl (by simp)) hg' hs'' hk
  simpa using this) m pre (Array.replicate ops.size false) E a _ g hlen h4 h4c hlt hnm h5 (by simp) (fun k o ho hl=> by
  have hk:=(Array.getElem?_eq_some_iff.1 ho).1
  simp [Array.getD_eq_getD_getElem?,hk] at hl) (fun i hi=> by
  have:(Array.replicate ops.size false).getD i true=false:=by simp [Array.getD_eq_getD_getElem?,hi]
  simp only [this,true_iff]
  rcases Nat.lt_or_ge i m with h | h
  ·exact .inl (hall i h)
  ·exact .inr h) hpe (MixL.mono (fun _ q=> ⟨JbS q.1,JbS q.2⟩) (JbS h)) hB hg hs'
 have e:m+(ops.size - m)=ops.size:=by omega
 rw [e] at key
 exact key
end Go.Vl

/- Regions that draw, with effects that stand in no order: what each order of them leads to is told by a tree. -/
namespace Go.Vl
open Go.RowKit
variable {P:Program}
inductive MT where
 | nil
 | br (e:Nat) (ps:List Nat) (t:MT) (o:MT)
def MT.path:MT→List Nat
 | nil=> []
 | br e ps t _=> e::(ps++t.path)
def MT.heads:MT→List Nat
 | nil=> []
 | br e _ _ o=> e::o.heads
def MT.ob (P:Program) (ops:Array Oper) (B:List (Id×Own)) (eff:Nat→Bool):MT→Bool→Env→(Env→Prop)→Prop
 | nil,true,E,K=> K E
 | nil,false,_,_=> True
 | br e ps t o,_,E,K=> (MixL P ops B eff [e] E fun E'=> MixL P ops B eff ps E' fun E'=> t.ob P ops B eff true E' K)∧o.ob P ops B eff false E K
def MT.obN (P:Program) (ops:Array Oper) (B:List (Id×Own)) (eff tl:Nat→Bool):MT→Bool→Env→(Env→Prop)→Prop
 | nil,true,E,K=> K E
 | nil,false,_,_=> True
 | br e ps t o,_,E,K=> (aN P ops B eff tl (e::ps) E fun E'=> t.obN P ops B eff tl true E' K)∧o.obN P ops B eff tl false E K
theorem MixL.split {ops:Array Oper} {B:List (Id×Own)} {eff:Nat→Bool} {K:Env→Prop} {e:Nat} {L:List Nat} {E:Env} (h:MixL P ops B eff (e::L) E K):MixL P ops B eff [e] E fun E'=> MixL P ops B eff L E' K:=by
 obtain ⟨o,h1,h2⟩:=h
 refine ⟨o,h1, ?_⟩
 cases he:eff e with
 | true=> simp only [he] at h2⊢;obtain ⟨R,q1,q2⟩:=h2;exact ⟨R,q1,fun r h' hr=> q2 r h' hr⟩
 | false=> simp only [he] at h2⊢;obtain ⟨r,q1,q2⟩:=h2;exact ⟨r,q1,q2⟩
theorem MT.ob_use {ops:Array Oper} {B:List (Id×Own)} {eff tl:Nat→Bool} {K:Env→Prop}:∀(t:MT) (b:Bool) (E:Env),t.obN P ops B eff tl b E K→t.ob P ops B eff b E K
 | nil,true,_,h=> h
 | nil,false,_,_=> trivial
 | br e ps t o,_,E,h=> ⟨(MixL.mono (fun _ q=> MixL.mono (fun _ q=> MT.ob_use t true _ q) q) (JbS h.1).split),MT.ob_use o false E h.2⟩
def JlF (a S:List Nat):Bool:=Nat.beq a.length S.length&& (a.all fun i=> S.contains i)&& S.all fun i=> a.contains i
def MT.comp (eff:Nat→Bool) (bf:Array Nat) (t:MT):Bool:=t.path.all fun x=> (eff x&& t.heads.contains x)|| t.path.any fun y=> (bf.getD x 0).testBit y
def Jj5 (ops:Array Oper) (eff:Nat→Bool) (bf:Array Nat):List Nat→Bool
 | []=> true
 | i::l=> (l.all fun j=> match ops[i]?,ops[j]? with
   | some oi,some oj=> (!Nat.beq i j)&& ((oi.after.toList.all fun e=> !Region.binds .any e|| !Nat.beq e.on j)&& (eff i|| ((bf.getD j 0).testBit i|| oi.apart ops oj)))
   | _,_=> false)&& ((match ops[i]? with | some oi=> oi.after.toList.all fun e=> !Region.binds .any e|| !Nat.beq e.on i | none=> false)&& Jj5 ops eff bf l)
def JhQ (ops:Array Oper) (eff:Nat→Bool) (i j:Nat):Prop:=
 i≠j∧∀oi oj,ops[i]? =some oi→ops[j]? =some oj→(∀e∈oi.after,Region.binds .any e=true→e.on≠j)∧(eff i=true∨((Region.before ops).getD j 0).testBit i=true∨oi.apart ops oj=true)
theorem Jj6 {ops:Array Oper} {eff:Nat→Bool}:∀ {L:List Nat},Jj5 ops eff (Region.before ops) L=true→
 L.Pairwise (JhQ ops eff)∧∀i∈L,∀oi,ops[i]? =some oi→∀e∈oi.after,Region.binds .any e=true→e.on≠i
 | [],_=> ⟨.nil,by simp⟩
 | i::l,h=> by
   simp only [Jj5,Bool.and_eq_true] at h
   obtain ⟨h1,h2,h3⟩:=h
   obtain ⟨q1,q2⟩:=Jj6 h3
   refine ⟨List.pairwise_cons.2 ⟨fun j hj=> ?_,q1⟩,fun k hk=> ?_⟩
   ·have:=List.all_eq_true.1 h1 j hj
    split at this
    ·rename_i oi oj hi hj'
     simp only [Bool.and_eq_true,Bool.or_eq_true,List.all_eq_true] at this
     obtain ⟨p1,p2,p3⟩:=this
     refine ⟨Jco p1,fun oi' oj' hi2 hj2=> ?_⟩
     rw [hi] at hi2;rw [hj'] at hj2
     cases hi2;cases hj2
     refine ⟨fun e he hb=> ?_,p3⟩
     rcases p2 e (Array.mem_toList_iff.2 he) with h | h
     ·simp [hb] at h
     ·exact Jco h
    ·cases this
   ·rcases List.mem_cons.1 hk with rfl | hk
    ·intro oi hi e he hb
     rw [hi] at h2
     have:=List.all_eq_true.1 h2 e (Array.mem_toList_iff.2 he)
     simp only [hb,Bool.not_true,Bool.false_or] at this
     exact Jco this
    ·exact q2 k hk
theorem Jmx {ops:Array Oper} {eff:Nat→Bool} {L:List Nat} (hpe:∀i∈L,eff i=false) (h:L.Pairwise (JhQ ops eff)):L.Pairwise (JcQ ops eff):=
 h.imp_of_mem fun {a b} ha _ hp=> ⟨hp.1,fun oi oj hi hj=> ⟨(hp.2 oi oj hi hj).1,by
  rcases (hp.2 oi oj hi hj).2 with h | h | h
  ·rw [hpe a ha] at h;cases h
  ·exact .inl h
  ·exact .inr ⟨hpe a ha,h⟩⟩⟩
def MT.ck (ops:Array Oper) (eff:Nat→Bool) (bf:Array Nat):MT→List Nat→List Nat→Bool
 | nil,_,_=> true
 | br e ps t o,acc,S=> eff e&& ((ps.all fun i=> !eff i)&& (Jj5 ops eff bf (acc++e::(ps++t.path))&& (JlF (e::(ps++t.path)) S&& (t.comp eff bf&& (t.ck ops eff bf (acc++ps) t.path&& o.ck ops eff bf acc S)))))
theorem Jq3 {a S:List Nat} (h:JlF a S=true):a.length=S.length∧∀i,i∈a↔i∈S:=by
 unfold JlF at h
 simp only [Bool.and_eq_true,List.all_eq_true,List.contains_iff_mem] at h
 exact ⟨Nat.eq_of_beq_eq_true h.1.1,fun i=> ⟨h.1.2 i,h.2 i⟩⟩
theorem MT.alt {ops:Array Oper} {B:List (Id×Own)} {eff:Nat→Bool} {K:Env→Prop} {j:Nat} {acc S:List Nat}:∀(t:MT),j∈t.heads→t.ck ops eff (Region.before ops) acc S=true→
 ∃(ps:List Nat) (t':MT),eff j=true∧(∀i∈ps,eff i=false)∧Jj5 ops eff (Region.before ops) (acc++j::(ps++t'.path))=true∧JlF (j::(ps++t'.path)) S=true∧t'.comp eff (Region.before ops)=true∧t'.ck ops eff (Region.before ops) (acc++ps) t'.path=true∧
  ∀b E,t.ob P ops B eff b E K→MixL P ops B eff [j] E fun E'=> MixL P ops B eff ps E' fun E'=> t'.ob P ops B eff true E' K
 | nil,h,_=> by cases h
 | br e ps t o,h,hc=> by
   simp only [MT.ck,Bool.and_eq_true] at hc
   obtain ⟨c1,c2,c3,c4,c5,c6,c7⟩:=hc
   by_cases hj:j=e
   ·subst hj
    exact ⟨ps,t,c1,fun i hi=> by simpa using List.all_eq_true.1 c2 i hi,c3,c4,c5,c6,fun b E h=> by cases b <;> exact h.1⟩
   ·rcases List.mem_cons.1 h with h | h
    ·exact absurd h hj
    ·obtain ⟨ps',t',d1,d2,d3,d4,d5,d6,d7⟩:=MT.alt o h c7
     exact ⟨ps',t',d1,d2,d3,d4,d5,d6,fun b E h=> d7 false E (by cases b <;> exact h.2)⟩
theorem JsY {ops:Array Oper} {m:Nat} {B:List (Id×Own)} {eff:Nat→Bool} {Q:Exit→Act→World→Prop} (hk:OrdOk ops m) (hm:m≤ops.size)
 {ro:Option Nat} {X M:Nat→Nat→Prop} {w0:World} {g0:List Nat} {K:Env→Prop}
 (hq:∀E a w g,K E→(∀(i b:Nat),g0[i]? =some b→g[i]? =some b)→St ro X M w0 E a w g→wpOpsIn (Fr ro) 0 P ops Q (List.range' m (ops.size - m)) a w):
 ∀(n:Nat) (pre acc:List Nat) (t:MT) (listed:Array Bool) (E:Env) (a:Act) (w:World) (g:List Nat),pre.length+t.path.length=n→pre.Sublist acc→(∀i∈pre,eff i=false)→(pre++t.path).Pairwise (JhQ ops eff)→(∀i∈pre++t.path,i < m)→
  (∀i∈pre++t.path,∀oi,ops[i]? =some oi→∀e∈oi.after,Region.binds .any e=true→e.on≠i)→t.comp eff (Region.before ops)=true→t.ck ops eff (Region.before ops) acc t.path=true→listed.size=ops.size→DC ops listed→
 (∀i,i < ops.size→(listed.getD i true=false↔i∈pre++t.path∨m≤i))→
 MixL P ops B eff pre E (fun E'=> t.ob P ops B eff true E' K)→HB B E.h.bx→(∀(i b:Nat),g0[i]? =some b→g[i]? =some b)→St ro X M w0 E a w g→wpAnyIn (Fr ro) 0 P .any ops Q (n+(ops.size - m)) listed a w:=by
 intro n
 induction n with
 | zero=>
   intro pre acc t listed E a w g hl _ hpe hpw hlt hself _ _ hsz hd hun hrun hB hg hs
   cases t with
   | nil=> exact Je8 hk hm hq 0 pre listed E a w g (by simpa [MT.path] using hl) (Jmx hpe (by simpa [MT.path] using hpw)) (by simpa [MT.path] using hlt) (by simpa [MT.path] using hself) hsz hd (by simpa [MT.path] using hun) hrun hB hg hs
   | br e ps t o=> simp [MT.path] at hl
 | succ n ih=>
   intro pre acc t listed E a w g hl hac hpe hpw hlt hself hcomp hck hsz hd hun hrun hB hg hs
   cases t with
   | nil=> exact Je8 hk hm hq (n+1) pre listed E a w g (by simpa [MT.path] using hl) (Jmx hpe (by simpa [MT.path] using hpw)) (by simpa [MT.path] using hlt) (by simpa [MT.path] using hself) hsz hd (by simpa [MT.path] using hun) hrun hB hg hs
   | br e0 ps0 t0 o0=>
   generalize hT : MT.br e0 ps0 t0 o0 = T at *
   rw [Nat.add_right_comm]
   obtain ⟨k,L',hkL⟩:∃k L',pre++T.path=k::L':=by
    subst hT
    cases pre with
    | nil=> exact ⟨_,_,rfl⟩
    | cons k l=> exact ⟨_,_,rfl⟩
   have hkmem:k∈pre++T.path:=by rw [hkL];simp
   have hkm:k < m:=hlt k hkmem
   have hklt:k < ops.size:=by omega
   have hko:ops[k]? =some ops[k]:=Array.getElem?_eq_getElem hklt
   have hpk:=hpw
   rw [hkL] at hpk
   have hkr:k∈Region.ready .any ops listed:=by
    refine JD.2 ⟨(hun k hklt).2 (.inl hkmem),_,hko,fun e he hb=> ?_⟩
    have hb':=hk.back k _ hko e he hb
    rw [JM Om]
    cases hl:listed.getD e.on true with
    | true=> simpa using hl
    | false=>
      rcases (hun e.on Om).1 hl with h' | h'
      ·rw [hkL] at h'
       rcases List.mem_cons.1 h' with h' | h'
       ·exact absurd h' (hself k hkmem _ hko e he hb)
       · exact absurd rfl (((List.pairwise_cons.1 hpk).1 _ h').2 _ _ hko (Array.getElem?_eq_getElem Om) |>.1 e he hb)
      ·omega
   refine ⟨fun h0=> (by rw [h0] at hkr;cases hkr),fun j hj=> ?_⟩
   obtain ⟨h1,oj,hoj,h2⟩:=JD.1 hj
   have hjlt:=(Array.getElem?_eq_some_iff.1 hoj).1
   have hjL:j∈pre++T.path:=by
    rcases (hun j hjlt).1 h1 with h' | h'
    ·exact h'
    ·have hb:=hk.tail k j oj hoj h' Om
     have:=JW hd hsz hoj h2 hb
     have h3:=(hun k Om).2 (.inl hkmem)
     rw [JM Om] at this
     simp [h3] at this
   have hnb:∀i,i∈pre++T.path→((Region.before ops).getD j 0).testBit i=true→False:=fun i hi hb=> by
    have hilt:i < ops.size:=by have:=hlt i hi;omega
    have:=JW hd hsz hoj h2 hb
    have h3:=(hun i hilt).2 (.inl hi)
    rw [JM Om] at this
    simp [h3] at this
   have JbP:∀(L2:List Nat),(∀i,i≠j→(i∈pre++T.path↔i∈L2))→j∉L2→j < m→∀i,i < ops.size→((listed.setIfInBounds j true).getD i true=false↔i∈L2∨m≤i):=fun L2 hL hj2 hjm i hi=> by
    rw [JaD Om]
    by_cases hij:i=j
    ·subst hij
     simp only [if_true]
     constructor
     ·intro h;cases h
     ·intro h
      exfalso
      rcases h with h | h
      ·exact hj2 h
      ·omega
    ·rw [if_neg hij,hun i hi,hL i hij]
   have hjm:=hlt j hjL
   rcases List.mem_append.1 hjL with hjp | hjp
   ·obtain ⟨l1,l2,rfl⟩:=List.append_of_mem hjp
    have hej:=hpe j hjp
    have hpw':(l1++j::(l2++T.path)).Pairwise (JhQ ops eff):=by simpa using hpw
    have hl1:∀i∈l1,JhQ ops eff i j:=fun i hi=> (List.pairwise_append.1 hpw').2.2 i hi j (by simp)
    obtain ⟨o,ho,hrun'⟩:=MixL.front hoj l1 l2 E (fun i hi=> by
     have hilt:i < ops.size:=by have:=hlt i (by simp [hi]);omega
     have hb:=hpe i (by simp [hi])
     rcases ((hl1 i hi).2 _ _ (Array.getElem?_eq_getElem hilt) hoj).2 with hb' | hb' | hb'
     ·rw [hb] at hb';cases hb'
     ·exact (hnb i (by simp [hi]) hb').elim
     ·exact ⟨hb,fun oi hoi=> by rw [Array.getElem?_eq_getElem hilt] at hoi;cases hoi;exact hb'⟩) hrun
    rw [hoj] at ho
    cases ho
    simp only [hej] at hrun'
    obtain ⟨r,q1,q2⟩:=hrun'
    have hsub:(l1++l2++T.path).Sublist (l1++j::l2++T.path):=by simp [List.Sublist.append_left]
    have hnj:j∉l1++l2++T.path:=fun h=> by
     have h5:=List.pairwise_append.1 hpw'
     rw [List.append_assoc] at h
     rcases List.mem_append.1 h with h | h
     ·exact (h5.2.2 j h j (by simp)).1 rfl
     ·exact ((List.pairwise_cons.1 h5.2.1).1 j h).1 rfl
    refine (q1 E hB fun _ _=> rfl).does hoj hs fun a' w' hs'=> ih (l1++l2) acc T _ _ a' w' g (by simp at hl⊢;omega) ((by simp [List.Sublist.append_left]:(l1++l2).Sublist (l1++j::l2)).trans hac) (fun i hi=> hpe i (by rcases List.mem_append.1 hi with h | h <;> simp [h])) (hpw.sublist hsub) (fun i hi=> hlt i (hsub.subset hi)) (fun i hi=> hself i (hsub.subset hi)) hcomp hck (by simp [hsz]) (hd.set hsz hk hj) (JbP _ (fun i hij=> by simp [hij]) hnj hjm) q2 (by rw [Env.set_h];exact hB) hg hs'
   ·have hcj:=List.all_eq_true.1 hcomp j hjp
    simp only [Bool.or_eq_true,Bool.and_eq_true,List.any_eq_true] at hcj
    rcases hcj with ⟨_,hcj⟩ | ⟨y,hy,hby⟩
    rotate_left
    ·exact (hnb y (by simp [hy]) hby).elim
    obtain ⟨ps,t',d1,d2,d3,d4,d5,d6,d7⟩:=MT.alt (P:=P) (B:=B) (K:=K) T (List.contains_iff_mem.1 hcj) hck
    obtain ⟨e1,e2⟩:=Jj6 d3
    obtain ⟨s1,s2⟩:=Jq3 d4
    have hfull:(pre++j::(ps++t'.path)).Pairwise (JhQ ops eff):=e1.sublist (hac.append Sf)
    have h5:=List.pairwise_append.1 hfull
    have hmem:∀i,i∈pre++T.path↔i=j∨i∈(pre++ps)++t'.path:=fun i=> by
     rw [List.mem_append,← s2]
     simp only [List.mem_cons,List.mem_append]
     constructor
     ·rintro (h | h | h | h)
      ·exact .inr (.inl (.inl h))
      ·exact .inl h
      ·exact .inr (.inl (.inr h))
      ·exact .inr (.inr h)
     ·rintro (h | (h | h) | h)
      ·exact .inr (.inl h)
      ·exact .inl h
      ·exact .inr (.inr (.inl h))
      ·exact .inr (.inr (.inr h))
    have hnew:((pre++ps)++t'.path).Sublist (pre++j::(ps++t'.path)):=by
     rw [List.append_assoc]
     exact List.Sublist.append Sf (List.sublist_cons_self _ _)
    have hnj:j∉(pre++ps)++t'.path:=fun h=> by
     rw [List.append_assoc] at h
     rcases List.mem_append.1 h with h | h
     ·exact (h5.2.2 j h j (by simp)).1 rfl
     ·exact ((List.pairwise_cons.1 h5.2.1).1 j h).1 rfl
    have h6:MixL P ops B eff (j::(pre++ [])) E (fun E'=> MixL P ops B eff ps E' fun E'=> t'.ob P ops B eff true E' K):=MixL.front hoj pre [] E (fun i hi=> by
     have hilt:i < ops.size:=by have:=hlt i (by simp [hi]);omega
     have hb:=hpe i hi
     rcases ((h5.2.2 i hi j (by simp)).2 _ _ (Array.getElem?_eq_getElem hilt) hoj).2 with hb' | hb' | hb'
     ·rw [hb] at hb';cases hb'
     ·exact (hnb i (by simp [hi]) hb').elim
     ·exact ⟨hb,fun oi hoi=> by rw [Array.getElem?_eq_getElem hilt] at hoi;cases hoi;exact hb'⟩) (MixL.app (MixL.mono (fun E' h=> d7 true E' h) hrun))
    rw [List.append_nil] at h6
    obtain ⟨o,ho,hrun'⟩:=h6
    rw [hoj] at ho
    cases ho
    simp only [d1] at hrun'
    obtain ⟨R,⟨q0,q1⟩,q2⟩:=hrun'
    unfold wpOpIn
    simp only [hoj,Region.wanted,q0,if_true]
    refine q1 E rfl (fun _ _=> rfl) ro X M w0 a w g hs _ _ (fun E' a' w' g' hE hgg hs'=> ?_) (fun x E' a' w' g' v hk'=> hk'.elim)
    obtain ⟨r,h',p1,p2,rfl⟩:=hE
    refine ih (pre++ps) (acc++ps) t' _ _ a' w' g' ?_ (hac.append Sf) (fun i hi=> ?_) (hfull.sublist hnew) (fun i hi=> hlt i ((hmem i).2 (.inr hi))) (fun i hi=> hself i ((hmem i).2 (.inr hi))) d5 d6 (by simp [hsz]) (hd.set hsz hk hj) (JbP _ (fun i hij=> by rw [hmem];simp [hij]) hnj hjm) (MixL.app (q2 r h' p1)) (by rw [Env.set_h];exact p2) (fun i b hi=> hgg i b (hg i b hi)) hs'
    ·simp only [List.length_cons,List.length_append] at s1 hl⊢;omega
    ·rcases List.mem_append.1 hi with h | h
     ·exact hpe i h
     ·exact d2 i h
def Jvx (ops:Array Oper) (m:Nat) (eff:Nat→Bool) (pre:List Nat) (t:MT):Bool:=
 let bf:=Region.before ops
 Nat.ble m ops.size&& (Ja1 ops m&& ((pre++t.path).all (fun i=> Nat.blt i m)&& ((List.range m).all (fun i=> (pre++t.path).contains i)&& (Jj5 ops eff bf (pre++t.path)&& (pre.all (fun i=> !eff i)&& (t.comp eff bf&& t.ck ops eff bf pre t.path))))))
theorem JxS {id:Nat} {ops:Array Oper} {E:Env} {Q:AExit→Env→Prop} (m:Nat) (B:List (Id×Own)) (eff tl:Nat→Bool) (pre:List Nat) (t:MT) (hf:P.follows .mixedOrders=true) (hb:Jvx ops m eff pre t=true) (hB:HB B E.h.bx)
 (h:aN P ops B eff tl pre E fun E'=> t.obN P ops B eff tl true E' fun E'=> aK P ops (ops.toList.drop m) E' (Q .normal) (fun x E=> Q (.panic x) E)):AW P (.region id ops true) E Q:=by
 simp only [Jvx,Bool.and_eq_true,List.all_eq_true] at hb
 obtain ⟨h0,h00,h1,h2,h3,h4,h5,h6⟩:=hb
 have hm:=Jbx h0
 obtain ⟨g4,g5⟩:=Jj6 h3
 have hlt:∀i∈pre++t.path,i < m:=fun i hi=> Jao (h1 i hi)
 have hall:∀i,i < m→i∈pre++t.path:=fun i hi=> by simpa using h2 i (List.mem_range.2 hi)
 have hnd:(pre++t.path).Nodup:=g4.imp fun h=> h.1
 have hlen:pre.length+t.path.length=m:=by
  have p:(pre++t.path).Perm (List.range m):=(List.perm_ext_iff_of_nodup hnd List.nodup_range).2 fun i=> ⟨fun hi=> List.mem_range.2 (hlt i hi),fun hi=> hall i (List.mem_range.1 hi)⟩
  simpa using p.length_eq
 unfold AW
 intro ro X M w0 a w g g0 hg hs
 refine wpIn_region_any hf ?_
 have hs':St ro X M w0 E a { w with drawn:=w.drawn+1} g:=hs.drew
 have key:=JsY (eff:=eff) (g0:=g0) (K:=fun E'=> aK P ops (ops.toList.drop m) E' (Q .normal) (fun x E=> Q (.panic x) E)) (Q:=JbF ro X M w0 g0 Q) (P:=P) (X:=X) (M:=M) (w0:=w0) (ro:=ro) (B:=B) (Jgc h00) hm (fun E' a' w' g' hk hg' hs''=> by
  have:=Jbc (P:=P) (ops:=ops) (K:=Q .normal) (X:=X) (M:=M) (w0:=w0) (g0:=g0) (Kp:=fun x E=> Q (.panic x) E) (ro:=ro) (Q:=JbF ro X M w0 g0 Q) (fun E a w g hk hg hs=> ⟨.normal,E,g,hk,rfl,hg,hs⟩) (fun x E a w g v hk hg hs hr=> ⟨.panic x,E,g,hk,⟨v,rfl,hr⟩,hg,hs⟩) (ops.toList.drop m) m E' a' w' g' (fun j=> .inl (by simp)) hg' hs'' hk
  simpa using this) m pre pre t (Array.replicate ops.size false) E a _ g hlen Sf (fun i hi=> by simpa using h4 i hi) g4 hlt g5 h5 h6 (by simp) (fun k o ho hl=> by
  have hk:=(Array.getElem?_eq_some_iff.1 ho).1
  simp [Array.getD_eq_getD_getElem?,hk] at hl) (fun i hi=> by
  have:(Array.replicate ops.size false).getD i true=false:=by simp [Array.getD_eq_getD_getElem?,hi]
  simp only [this,true_iff]
  rcases Nat.lt_or_ge i m with h | h
  ·exact .inl (hall i h)
  ·exact .inr h) (MixL.mono (fun _ q=> MT.ob_use t true _ q) (JbS h)) hB hg hs'
 have e:m+(ops.size - m)=ops.size:=by omega
 rw [e] at key
 exact key
end Go.Vl

/- Appending what stands in a box of one's own; parts of rows in boxes, as pure operations. -/
namespace Go.Vl
open Go.RowKit
variable {P:Program}
theorem JkN {E:Env} {x:Operand} {i:Id} {off m cap szx:Nat} {cs:List AV} {f':Nat→AV} (hs:E.ev x= .hs i off m cap) (hcs:m≠0→Jam i.1 E.h.bx=some (i.2,cs)) (hle:m≠0→off+m * szx≤cs.length)
 (hc:∀j,j < m→(f' j).cells.length=szx) (hf:∀j q,j < m→q < szx→(f' j).cells[q]? =cs[off+(j * szx+q)]?):JiY E x szx m f':=by
 intro ro X M w0 a w g hst
 have hsa:=hst.ev x
 rw [hs] at hsa
 generalize a.eval x=u at hsa
 cases hsa with
 | hs _ _ _ _ b' hg'=>
   refine ⟨fun h=> by subst h;exact ⟨_,_,rfl⟩,fun h=> ?_⟩
   obtain ⟨b,hg,vs,e',hb,hvs,hr⟩:=hst.hok.bx _ (Jdw (hcs h))
   dsimp only at hg hvs hr
   have hle:=hle h
   rw [hg] at hg';cases hg'
   refine ⟨⟨b',off,none⟩,cap,(vs.toList.drop off).take (m * szx),rfl,by simp only [List.length_take,List.length_drop,Array.length_toList];omega,fun j u hu=> ?_,hc,fun i' j c u hi hj hu=> ?_⟩
   ·rw [List.getElem?_take] at hu
    split at hu
    ·rw [List.getElem?_drop] at hu
     rw [JY,Jw hb]
     simpa using hu
    ·cases hu
   ·have hjl:j < szx:=by rw [← hc i' hi];exact (List.getElem?_eq_some_iff.1 hj).1
    have hlt:i' * szx+j < m * szx:=by
     have:(i'+1) * szx≤m * szx:=Nat.mul_le_mul_right _ hi
     rw [Nat.add_mul,Nat.one_mul] at this
     omega
    rw [List.getElem?_take,if_pos hlt,List.getElem?_drop] at hu
    rw [hf i' j hi hjl] at hj
    exact hr (off+(i' * szx+j)) c u hj (by simpa using hu)
theorem Jwb {ops:Array Oper} {B:List (Id×Own)} {o:Oper} {E:Env} {s x:Operand} {t e:TypeId} {sz n szx m off cap:Nat} {f f':Nat→AV} {oi:Option Id} {i:Id} {cs:List AV} (hB:HB B E.h.bx) (hg:o.guard=none)
 (ho:o.op= .call { callee:= .builtin .append,args:= #[s,x],argTypes:= #[t,t]}) (hs:E.ev s= .os sz n f oi)
 (hx:E.ev x= .hs i off m cap) (hcs:m≠0→Jam i.1 E.h.bx=some (i.2,cs)) (hle:m≠0→off+m * szx≤cs.length)
 (hc:∀j,j < m→(f' j).cells.length=szx) (hf:∀j q,j < m→q < szx→(f' j).cells[q]? =cs[off+(j * szx+q)]?)
 (ht:P.underlying t=some (.slice e)) (hgr:JbB P e=true) (hsz:(n=0∧oi=none)∨sz=P.cellsOf e) (hszx:m=0∨szx=P.cellsOf e)
 (hperm:∀i,oi=some i→JaX i.1 E.h.pm=some (i.2,n * P.cellsOf e)) (hone:Jb7 m f')
 (hroom0:m≠0→(n+m) * P.bytesOf e≤140737488355328) (hlen0:m≠0→n+m≤9223372036854775807):
 Eff P ops B o E fun r h'=> (m=0∧r= .os sz n f oi∧h'=E.h)∨(m≠0∧r= .os (P.cellsOf e) (n+m) (JbH n f f') (some (E.h.nn,E.h.nx))∧h'=E.h.grow oi ((n+m) * P.cellsOf e)):=by
 refine ⟨hg,fun E' hh htt=> ?_⟩
 have hev:=JaI htt
 have es:E'.ev s=E.ev s:=hev s (by rw [ho];simp [Op.operands,Call.operands])
 have ex:E'.ev x=E.ev x:=hev x (by rw [ho];simp [Op.operands,Call.operands])
 refine Jh5 ho (es.trans hs) (JkN (ex.trans hx) (fun h=> by rw [hh];exact hcs h) hle hc hf) ht hgr hsz hszx (by rw [hh];exact hperm) hone hroom0 hlen0 (fun hm=> ?_) (fun hm=> ?_)
 ·exact ⟨_,E'.h, .inl ⟨hm,rfl,hh⟩,by rw [hh];exact hB,rfl⟩
 ·exact ⟨_,_, .inr ⟨hm,by rw [hh],by rw [hh]⟩,by rw [hh];cases oi <;> exact hB,rfl⟩
theorem Jfi {ops:Array Oper} {B:List (Id×Own)} {o:Oper} {E:Env} {r:AV} (hg:o.guard=none) (h:∀E':Env,(∀x∈o.op.operands,E'.ev x=E.ev x)→Yields P o E' r):PureAll P ops B o E r:=fun E' _ htt=> by
 unfold GY
 simp only [hg]
 have hev:=JaI htt
 exact h E' fun x hx=> hev x hx
theorem Jw5 {ops:Array Oper} {B:List (Id×Own)} {o:Oper} {E:Env} {t e:TypeId} {x hi:Operand} {n l cap:Nat} {i:Id} {k':IntKind} {d:TypeDesc} (hg:o.guard=none) (ho:o.op= .slice t x none (some hi) none) (hx:E.ev x= .hs i 0 n cap)
 (hhi:E.ev hi= .v (.int k' (l:Int))) (ht:P.underlying t=some (.slice e)) (hd:P.underlying e=some d) (hl:l≤cap) (hc:0 < cap):PureAll P ops B o E (.hs i 0 l cap):=
 Jfi hg fun E' h=> Jie ho ((h x (by rw [ho];simp [Op.operands])).trans hx) ((h hi (by rw [ho];simp [Op.operands])).trans hhi) ht hd hl hc
theorem Jws {ops:Array Oper} {B:List (Id×Own)} {o:Oper} {E:Env} {t e:TypeId} {x lo:Operand} {n l cap:Nat} {i:Id} {k':IntKind} {d:TypeDesc} (hg:o.guard=none) (ho:o.op= .slice t x (some lo) none none) (hx:E.ev x= .hs i 0 n cap)
 (hlo:E.ev lo= .v (.int k' (l:Int))) (ht:P.underlying t=some (.slice e)) (hd:P.underlying e=some d) (hl:l≤n) (hn:n≤cap):∃off,(l < cap→off=l * P.cellsOf e)∧PureAll P ops B o E (.hs i off (n - l) (cap - l)):=by
 rcases Nat.lt_or_ge l cap with hc | hc
 ·exact ⟨_,fun _=> rfl,Jfi hg fun E' h=> Jmw ho ((h x (by rw [ho];simp [Op.operands])).trans hx) ((h lo (by rw [ho];simp [Op.operands])).trans hlo) ht hd hl hn hc⟩
 ·have el:l=cap:=by omega
  have en:n=cap:=by omega
  subst el;subst en
  refine ⟨0,fun h=> absurd h (Nat.lt_irrefl _),Jfi hg fun E' h=> ⟨(by rw [ho];intro c hc;cases hc),fun ρ w X g hk hr=> .inl ?_⟩⟩
  have r1:=hr x (by rw [ho];simp [Op.operands])
  have r3:=hr lo (by rw [ho];simp [Op.operands])
  rw [(h x (by rw [ho];simp [Op.operands])).trans hx] at r1;rw [(h lo (by rw [ho];simp [Op.operands])).trans hlo] at r3
  have e3:=JE r3
  generalize hu:ρ x=u at r1
  cases r1 with
  | hs _ _ _ _ b hgb=>
    have hN:(Instr.sliceBounds true n n (some (.int k' (n:Int))) none none).run P w= .ok (n,n,n) w:=by
     have e5:(0:Int)≤(n:Int):=by omega
     simp [Instr.sliceBounds,Instr.sliceBound,asIntOf]
    refine ⟨.slice (some ⟨b,0,none⟩) (n - n) (n - n),w, ?_,Evo.refl _ _, .hs _ _ _ _ b hgb⟩
    unfold execOp
    simp only [ho,hu,Option.map_some,e3,Option.map_none]
    refine Ja3 ?_
    simp [Instr.sliceAt,Sem.run_bind,run_underlying ht,Result.andThen_ok,Instr.slice,hN,JB hd,Sem.run_pure,JY]
end Go.Vl

namespace Go.Vl
open Go.RowKit
variable {P:Program}
theorem Jlm {o:Oper} {E:Env} {t e:TypeId} {x lo hi mx:Operand} {sz n l n':Nat} {f:Nat→AV} {k k' k'':IntKind} {d:TypeDesc} (ho:o.op= .slice t x (some lo) (some hi) (some mx)) (hx:E.ev x= .sl sz n f)
 (hlo:E.ev lo= .v (.int k l)) (hhi:E.ev hi= .v (.int k' ((l+n':Nat):Int))) (hmx:E.ev mx= .v (.int k'' ((l+n':Nat):Int))) (ht:P.underlying t=some (.slice e)) (hd:P.underlying e=some d)
 (hsz:sz=P.cellsOf e) (hl:l+n'≤n) (hpos:0 < n'):Yields P o E (.sl sz n' (fun j=> f (l+j))):=by
 refine ⟨(by rw [ho];intro c hc;cases hc),fun ρ w X g hk hr=> .inl ?_⟩
 have r1:=hr x (by rw [ho];simp [Op.operands])
 have r2:=hr lo (by rw [ho];simp [Op.operands])
 have r3:=hr hi (by rw [ho];simp [Op.operands])
 have r4:=hr mx (by rw [ho];simp [Op.operands])
 rw [hx] at r1;rw [hlo] at r2;rw [hhi] at r3;rw [hmx] at r4
 have e2:=JE r2
 have e3:=JE r3
 have e4:=JE r4
 generalize hu:ρ x=u at r1
 cases r1 with
 | sl0=> omega
 | sl _ _ _ b off cap vs hlen hcap hcell hcs hrr=>
   have hN:(Instr.sliceBounds true n cap (some (.int k l)) (some (.int k' ((l+n':Nat):Int))) (some (.int k'' ((l+n':Nat):Int)))).run P w= .ok (l,l+n',l+n') w:=by
    have e5:(0:Int)≤(l:Int)+(n':Int):=by omega
    have e6:(l:Int)+(n':Int)≤(cap:Int):=by omega
    have e7:((l:Int)+(n':Int)).toNat=l+n':=by omega
    have e8:(l:Int)≤(l:Int)+(n':Int):=by omega
    simp [Instr.sliceBounds,Instr.sliceBound,asIntOf,e5,e6,e7]
   have hcl:¬l+n'=l:=by omega
   refine ⟨.slice (some ⟨b,off+l * sz,none⟩) n' (l+n' - l),w, ?_,Evo.refl _ _,JqJ hlen hcell hcs hrr hl Om (fun _ _=> rfl)⟩
   unfold execOp
   simp only [ho,hu,Option.map_some,e2,e3,e4]
   refine Ja3 ?_
   simp only [Instr.sliceAt,Sem.run_bind,run_underlying ht,Result.andThen_ok,Instr.slice,hN,JB hd,Sem.run_pure,if_neg hcl,Option.map_some,JY,← hsz,Nat.add_sub_cancel_left]
theorem Jpc {o:Oper} {E:Env} {K:Env→Prop} {Kp:AV→Env→Prop} {t e:TypeId} {x lo hi mx:Operand} {sz n l n':Nat} {f:Nat→AV} {k k' k'':IntKind} {d:TypeDesc} (ho:o.op= .slice t x (some lo) (some hi) (some mx)) (hx:E.ev x= .sl sz n f)
 (hlo:E.ev lo= .v (.int k l)) (hhi:E.ev hi= .v (.int k' ((l+n':Nat):Int))) (hmx:E.ev mx= .v (.int k'' ((l+n':Nat):Int))) (ht:P.underlying t=some (.slice e)) (hd:P.underlying e=some d)
 (hsz:sz=P.cellsOf e) (hl:l+n'≤n) (hpos:0 < n') (hk:K (E.set o.dst (.sl sz n' (fun j=> f (l+j))))):AOp P o E K Kp:=
 AOp.of_yields (Jlm ho hx hlo hhi hmx ht hd hsz hl hpos) hk
end Go.Vl

/- Ranges over strings. -/
namespace Go.Vl
open Go.RowKit
variable {P:Program}
theorem Jpd {o:Oper} {t:TypeId} {m:Operand} {s:ByteArray} {E:Env} {K:Env→Prop} {Kp:AV→Env→Prop} (ho:o.op= .range t m) (ht:P.underlying t=some .string) (hm:E.ev m= .v (.string s))
 (hk:K (({ E with h:=E.h.addo (.si s 0)}:Env).set o.dst (.bp (E.h.nn,E.h.nx) 0))):AOp P o E K Kp:=by
 intro ro X M w0 a w g hs next Q hn hp
 have hr:=hs.ev m
 rw [hm] at hr
 generalize hmv:a.eval m=u at hr
 cases hr with
 | v _=>
   obtain ⟨h1,h2,_⟩:=hs.obj (x:= .si s 0) (.stringIter s 0) (fun X' g' hst hnew=> hnew)
   refine JJ (by rw [ho];intro c h;cases h) ?_
   have:(execOp a.eval o).run P w= .ok (.value (.pointer (some ⟨w.heap.size,0,none⟩))) (w.alloc (.stringIter s 0)):=by
    unfold execOp
    simp only [ho,Instr.range,hmv,Sem.run_bind,JcN ht,Result.andThen_ok]
    simp [newObj,Sem.run]
   rw [this]
   exact hn _ _ _ _ hk (fun i b h=> by rw [List.getElem?_append_left (List.getElem?_eq_some_iff.1 h).1];exact h) (h1.put o.dst (.bp _ _ _ h2))
theorem Jq4 {o:Oper} {it:Operand} {i:Id} {s:ByteArray} {pos:Nat} {E:Env} {K:Env→Prop} {Kp:AV→Env→Prop} (ho:o.op= .next it true) (hit:E.ev it= .bp i 0) (hes:JX i.1 E.h.bx=some (i.2, .si s pos))
 (hmore:pos < s.size→K (({ E with h:= { E.h with bx:=Jak i.1 (.si s (pos+(Utf8.decode s pos).2)) E.h.bx}}:Env).set o.dst (.tup [.v (.bool true), .v (.int .i64 pos), .v (.int .i32 (Utf8.decode s pos).1)])))
 (hdone:¬pos < s.size→K (E.set o.dst (.tup [.v (.bool false)]))):AOp P o E K Kp:=by
 intro ro X M w0 a w g hs next Q hn hp
 obtain ⟨b,hgb,hown⟩:=hs.hok.bx _ (Jab hes)
 dsimp only at hgb hown
 have hiv:a.eval it= .pointer (some ⟨b,0,none⟩):=by
  have:=hs.ev it
  rw [hit] at this
  generalize a.eval it=u at this
  cases this with
  | bp _ _ b' hg'=> rw [hgb] at hg';cases hg';rfl
 have h1:w.heap[b]? =some (.stringIter s pos):=hown
 refine JJ (by intro c h;rw [ho] at h;cases h) ?_
 by_cases hlt:pos < s.size
 ·have hev:=Jcb (o':= .stringIter s (pos+(Utf8.decode s pos).2)) h1 rfl (fun h=> by cases h)
  have hnew:=hs.setOwn (x:= .si s (pos+(Utf8.decode s pos).2)) hes hgb hev (fun _=> JbN h1)
  have:(execOp a.eval o).run P w= .ok (.value (.tuple #[.bool true, .int .i64 pos, .int .i32 (Utf8.decode s pos).1])) (World.setO w b (.stringIter s (pos+(Utf8.decode s pos).2))):=by
   unfold execOp
   simp only [ho,hiv,Instr.next,Sem.run_bind,JbM h1,Result.andThen_ok,if_pos hlt,Jbr h1,Sem.run_pure]
   rfl
  rw [this]
  refine hn _ _ _ g (hmore hlt) (fun _ _ h=> h) (hnew.put o.dst ?_)
  refine .tup _ [.bool true, .int .i64 pos, .int .i32 (Utf8.decode s pos).1] rfl fun j c u hc hu=> ?_
  rcases j with _ | _ | _ | j
  ·simp at hc hu;subst hc;subst hu;exact .v _
  ·simp at hc hu;subst hc;subst hu;exact .v _
  ·simp at hc hu;subst hc;subst hu;exact .v _
  ·simp at hc
 ·have:(execOp a.eval o).run P w= .ok (.value (.tuple #[.bool false])) w:=by
   unfold execOp
   simp only [ho,hiv,Instr.next,Sem.run_bind,JbM h1,Result.andThen_ok,if_neg hlt,Sem.run_pure]
  rw [this]
  refine hn _ _ _ g (hdone hlt) (fun _ _ h=> h) (hs.put o.dst ?_)
  refine .tup [.v (.bool false)] [.bool false] rfl fun k c u hc hu=> ?_
  cases k with
  | zero=> simp at hc hu;subst hc;subst hu;exact .v _
  | succ k=> simp at hc
theorem Jjh {o:Oper} {it:Operand} {i:Id} {s:ByteArray} {pos:Nat} {R:List (Id×Own)} {E:Env} {K:Env→Prop} {Kp:AV→Env→Prop} (ho:o.op= .next it true) (hit:E.ev it= .bp i 0) (hR:E.h.bx=(i, .si s pos)::R)
 (hmore:pos < s.size→K (({ E with h:= { E.h with bx:=(i, .si s (pos+(Utf8.decode s pos).2))::R}}:Env).set o.dst (.tup [.v (.bool true), .v (.int .i64 pos), .v (.int .i32 (Utf8.decode s pos).1)])))
 (hdone:¬pos < s.size→K (E.set o.dst (.tup [.v (.bool false)]))):AOp P o E K Kp:=
 Jq4 (pos:=pos) ho hit (by rw [hR];simp [JX]) (fun h=> by
  have:Jak i.1 (.si s (pos+(Utf8.decode s pos).2)) E.h.bx=(i, .si s (pos+(Utf8.decode s pos).2))::R:=by rw [hR];simp [Jak]
  rw [this];exact hmore h) hdone
theorem Jpe {o:Oper} {it:Operand} {i:Id} {s:ByteArray} {pos c wd:Nat} {R:List (Id×Own)} {E:Env} {K:Env→Prop} {Kp:AV→Env→Prop} (ho:o.op= .next it true) (hit:E.ev it= .bp i 0) (hR:E.h.bx=(i, .si s pos)::R) (hlt:pos < s.size) (hd:Utf8.decode s pos=(c,wd))
 (hk:K (({ E with h:= { E.h with bx:=(i, .si s (pos+wd))::R}}:Env).set o.dst (.tup [.v (.bool true), .v (.int .i64 pos), .v (.int .i32 c)]))):AOp P o E K Kp:=
 Jjh ho hit hR (fun _=> by rw [hd];exact hk) (fun h=> absurd hlt h)
theorem Jpf {o:Oper} {it:Operand} {i:Id} {s:ByteArray} {pos:Nat} {R:List (Id×Own)} {E:Env} {K:Env→Prop} {Kp:AV→Env→Prop} (ho:o.op= .next it true) (hit:E.ev it= .bp i 0) (hR:E.h.bx=(i, .si s pos)::R) (hlt:¬pos < s.size)
 (hk:K (E.set o.dst (.tup [.v (.bool false)]))):AOp P o E K Kp:=
 Jjh ho hit hR (fun h=> absurd h hlt) (fun _=> hk)
theorem Jq5 {s:ByteArray} {i:Nat} (h:(s.get! i).toNat < 128):Utf8.decode s i=((s.get! i).toNat,1):=by
 unfold Utf8.decode
 simp only [Nat.add_zero]
 rw [if_pos h]
end Go.Vl

namespace Go.Vl
open Go.RowKit
variable {P:Program}
theorem Jmy {f:FuncId} {ars:List AV} {vs xs:List Value} {t:TypeId} (hcb:JcU P f) (has:∀w X g (us:List Value),us.length=ars.length→(∀(k:Nat) (c:AV) (u:Value),ars[k]? =some c→us[k]? =some u→Rep w X g c u)→us=vs)
 (h:∀w,Kn w none2→Calls P f vs.toArray w fun e w'=> ∃A,e= .returned (.slice (some ⟨A,0,none⟩) xs.length xs.length)∧w.heap.size≤A∧w'.ownsRow w.heap.size t 1 (.slice (some ⟨A,0,none⟩) xs.length xs.length) xs.length xs∧Below w.heap.size w w'):
 Tells P f ars (.sl 1 xs.length fun k=> .v (xs.getD k undef)):=fun nx=> by
 refine ⟨hcb,fun X w g us h1 h2 h3 h4=> ?_⟩
 obtain rfl:=has _ _ _ us h3 h4
 refine (Jfr P f).mono (w0:=w) (g:=g) (R:=_) (h w h1.kn.none) fun e w' ⟨A,he,hA,hown,hb⟩=> ?_
 have hev:=Evo.of_below hb
 refine ⟨.ret (.sl 1 xs.length fun k=> .v (xs.getD k undef)),⟨[], [],nx,0⟩,g,⟨_,he, ?_⟩,⟨Rf,rfl,rfl⟩,fun _ _ h=> h,h1.evo0 hev,fun b o hx i hi=> (by cases hi),hev.mono fun b o _ h=> h.elim,fun b o h _=> h⟩
 obtain ⟨hl,hv⟩:=hown
 rcases hv with ⟨hv,_⟩ | ⟨A',cap,cur,hv,_,hblk,hn,_,hsz,htk⟩
 ·cases hv
 ·cases hv
  have hnx:∀o,¬excl X g ⟨[], [],nx,0⟩ A o:=fun o hx=> by
   have:=h1.bd _ _ hx
   omega
  refine .sl 1 xs.length _ A 0 _ xs Om (Nat.le_refl _) (fun k u hu=> ⟨?_,hnx _⟩) (fun i _=> rfl) (fun i j c u hi hc hu=> ?_)
  ·have hk:=(List.getElem?_eq_some_iff.1 hu).1
   rw [Jw hblk,Nat.zero_add]
   have:(cur.toList.take (xs.length * 1))[k]? =some u:=by rw [htk];exact hu
   rw [List.getElem?_take] at this
   split at this
   ·simpa using this
   ·cases this
  ·cases j with
   | zero=>
     simp only [AV.cells,List.getElem?_cons_zero,Option.some.injEq] at hc
     subst hc
     rw [Nat.mul_one,Nat.add_zero] at hu
     have:xs.getD i undef=u:=by rw [List.getD_eq_getElem?_getD,hu];rfl
     rw [this]
     exact .v _
   | succ j=> simp [AV.cells] at hc
theorem Jmz {w w':World} (h:Evo none2 w w'):Below w.heap.size w w':=⟨h.os,h.tape,h.output,h.size,fun b hb=> h.blk b hb fun o q=> q⟩
theorem Jln {g:FuncId} {p:Nat→Bool} (h:∀x:Nat,x≤1114111→Tells P g [.v (.int .i32 x)] (.v (.bool (p x)))) (w:World) (hw:Kn w none2):Go.Proofs.PredGrows P g #[] p w:=fun W x hx hWw=> by
 have hk:HOk W (excl none2 [] ⟨[], [],0,0⟩) [] ⟨[], [],0,0⟩:=⟨by simp,by simp,by simp [Heap.ids],rfl,fun b o hx=> (by rcases hx with hx | ⟨p,hp,_⟩ | ⟨p,hp,_⟩ <;> first | exact hx.elim | cases hp),fun p hp=> ⟨by obtain ⟨⟨e,fz,h1⟩,_⟩:=hw p hp;exact ⟨e,fz,(hWw.block _ (JR h1)).trans h1⟩,fun o hx=> (by rcases hx with hx | ⟨p,hp,_⟩ | ⟨p,hp,_⟩ <;> first | exact hx.elim | cases hp)⟩⟩
 have hc:=(h x hx 0).2 none2 W [] [.int .i32 x] hk (fun _ _ hx=> hx.elim) rfl (fun k c u hc hu=> by
  cases k with
  | zero=> simp at hc hu;subst hc;subst hu;exact .v _
  | succ k=> simp at hc)
 refine Calls.mono (show Calls P g _ W _ from hc) fun e w' ⟨r,h',g',a1,a2,_,_,_,a3,_⟩=> ?_
 cases r with
 | pan x=> exact a2.elim
 | ret r=>
   obtain ⟨u,rfl,e2⟩:=a1
   have:=a2.1 _ _ _ _ e2
   cases this
   refine ⟨rfl,Jmz (a3.mono fun b o _ hx=> ?_)⟩
   rcases hx with hx | ⟨p,hp,_⟩ | ⟨p,hp,_⟩
   ·exact hx
   ·cases hp
   ·cases hp
theorem Jwt {f:FuncId}:AVle (.fn (.func f) [] []) (.v (.func (.func f) #[] #[])):=fun w X g u hr=> by
 cases hr with
 | fn _ _ _ v1 v2 h1 h2 _ _=>
   have e1:v1= []:=List.eq_nil_of_length_eq_zero h1
   have e2:v2= []:=List.eq_nil_of_length_eq_zero h2
   subst e1;subst e2
   exact .v _
end Go.Vl

namespace Go.Vl
variable {P:Program}
theorem Jw6 {ops:Array Oper} {B:List (Id×Own)} {o:Oper} {E:Env} {j:Nat} {want c:Bool} {fo:Operand} {args:Array Operand} {tys:Array TypeId} {f:FuncId} {first caps qs:List AV} {s:AV} (hg:o.guard=some (j,want)) (hd:agb (agd ops E j)=some (some c)) (hw:(c ==want)=true)
 (ho:o.op= .call { callee:= .value fo,args:=args,argTypes:=tys}) (hf:E.ev fo= .fn (.func f) first caps)
 (hc:Tells P f qs s) (hl:LeL (first++args.toList.map E.ev++caps) qs) (hid:NoId s):PureAll P ops B o E s:=fun E' _ ht=> by
 unfold GY
 simp only [hg]
 refine ⟨some c,Jhc hg ht hd, .inl ⟨by rw [beq_iff_eq.1 hw], ?_⟩⟩
 have hev:=JaI ht
 refine JaG ho (by rw [hev fo (by rw [ho];simp [Op.operands,Call.operands])];exact hf) hc ?_ hid
 rw [JdH fun x hm=> hev x (by rw [ho];simp only [Op.operands,Call.operands];exact Array.mem_append_right _ (Array.mem_toList_iff.1 hm))]
 exact hl
theorem Jw7 {ops:Array Oper} {B:List (Id×Own)} {o:Oper} {E:Env} {j:Nat} {want c b b':Bool} {C:Option Prop} (hg:o.guard=some (j,want)) (hd:agb (agd ops E j)=some (some c)) (hc:(c ==want)=true)
 (hp:JaM P o.op { E with h:=⟨B, [],0,0⟩}=some (C, .v (.bool b))) (hC:J3 C) (hb:b=b'):PureAll P ops B o E (.v (.bool b')):=hb ▸ JsW hg hd hc hp hC
theorem Jw8 {ops:Array Oper} {B:List (Id×Own)} {o:Oper} {E:Env} {b b':Bool} {C:Option Prop} (hg:o.guard=none)
 (hp:JaM P o.op { E with h:=⟨B, [],0,0⟩}=some (C, .v (.bool b))) (hC:J3 C) (hb:b=b'):PureAll P ops B o E (.v (.bool b')):=hb ▸ JeY hg hp hC
end Go.Vl

namespace Go.Vl
open Go.RowKit
variable {P:Program}
def Jj7 (P:Program) (it:FuncId) (first caps:List AV) {α:Type} (e:α→List AV) (xs:List α) (own:List (Id×Own)):Prop:=
 ∀(i:Id) (σ:Type) (Cb:σ→List (Id×Own)) (Cp:σ→List (Id×Nat)) (I:List α→σ→Prop),Jg8 P i e xs Cb Cp I (fun _ _ _=> False)→
  ∀s0 nx nn,I [] s0→ECall P it (first++ [.yl i]++caps) ⟨own++Cb s0,Cp s0,nx,nn⟩ (fun _ h'=> ∃s',I xs s'∧h'.bx=Cb s'∧h'.pm=Cp s')
theorem JoC {gop:Operand} {ps:Array Tmp} {asg body:Code} {E:Env} {Q:AExit→Env→Prop} {it:FuncId} {first caps:List AV} {ds:List DA} {σ α:Type} {e:α→List AV} {xs:List α} {first' caps':List AV} (own:List (Id×Own))
 (Cb:σ→List (Id×Own)) (Cp:σ→List (Id×Nat)) (I:List α→σ→Prop) (s0:σ) (hd:E.df=some ds) (hf:E.ev gop= .fn (.func it) first caps) (hit:Jj7 P it first' caps' e xs own) (hl1:LeL first first') (hl2:LeL caps caps')
 (hb:E.h.bx=own++Cb s0) (hp:E.h.pm=Cp s0) (h0:I [] s0) (hlen:∀x,(e x).length=ps.size)
 (hc:∀pre x post s nx nn,xs=pre++x::post→I pre s→AW P asg (Jbn E.n E.t ⟨((E.h.nn+1,E.h.nx+1), .lp .ready none E.n E.t ps asg body)::((E.h.nn,E.h.nx), .df)::Cb s,Cp s,nx,nn⟩ (ps.toList.zip (e x)).reverse)
   (JjY P (E.h.nn+1,E.h.nx+1) body (JhN (fun s=> ((E.h.nn+1,E.h.nx+1), .lp .ready none E.n E.t ps asg body)::((E.h.nn,E.h.nx), .df)::Cb s) Cp I (fun _ _ _=> False) pre x)))
 (hend:∀s' nx nn,I xs s'→Q .normal { E with h:=⟨((E.h.nn+1,E.h.nx+1), .lp .exhausted none E.n E.t ps asg body)::((E.h.nn,E.h.nx), .df)::Cb s',Cp s',nx,nn⟩,df:=some (.col (E.h.nn,E.h.nx)::ds)}):
 AW P (.rangeFunc gop ps asg body) E Q:=by
 refine Jiy hd hf ?_
 have hcons:Jg8 P (E.h.nn+1,E.h.nx+1) e xs (fun s=> ((E.h.nn+1,E.h.nx+1), .lp .ready none E.n E.t ps asg body)::((E.h.nn,E.h.nx), .df)::Cb s) Cp I (fun _ _ _=> False):=by
  intro pre x post s nx nn hx hI
  exact Jeu (i:=(E.h.nn+1,E.h.nx+1)) (pd:=none) (n:=E.n) (t:=E.t) (ps:=ps) (asg:=asg) (body:=body) (by simp [JX]) (hlen x) (hc pre x post s nx nn hx hI)
 have h1:=hit (E.h.nn+1,E.h.nx+1) σ _ Cp I hcons s0 (E.h.nx+2) (E.h.nn+2) h0
 have hperm:(own++((E.h.nn+1,E.h.nx+1),Own.lp .ready none E.n E.t ps asg body)::((E.h.nn,E.h.nx), .df)::Cb s0).Perm (((E.h.nn+1,E.h.nx+1), .lp .ready none E.n E.t ps asg body)::((E.h.nn,E.h.nx), .df)::(own++Cb s0)):=
  List.perm_middle.trans (List.Perm.cons _ List.perm_middle)
 have e1:(E.h.addo .df).addo (.lp .ready none E.n E.t ps asg body)=⟨((E.h.nn+1,E.h.nx+1), .lp .ready none E.n E.t ps asg body)::((E.h.nn,E.h.nx), .df)::(own++Cb s0),Cp s0,E.h.nx+2,E.h.nn+2⟩:=by
  rw [← hb,← hp];rfl
 rw [e1]
 have hl:Like ⟨own++((E.h.nn+1,E.h.nx+1),Own.lp .ready none E.n E.t ps asg body)::((E.h.nn,E.h.nx), .df)::Cb s0,Cp s0,E.h.nx+2,E.h.nn+2⟩ ⟨((E.h.nn+1,E.h.nx+1), .lp .ready none E.n E.t ps asg body)::((E.h.nn,E.h.nx), .df)::(own++Cb s0),Cp s0,E.h.nx+2,E.h.nn+2⟩:=⟨hperm.symm.map _, .refl _,rfl⟩
 have h2:=ECall.like hl h1
 refine ((ECall.args (LeL.append (LeL.append hl1 (LeL.refl _)) hl2) h2)).mono fun r h' hq=> ?_
 obtain ⟨s',q1,q2,q3⟩:=hq
 obtain ⟨bx,pm,nx,nn⟩:=h'
 dsimp only at q2 q3
 subst q2;subst q3
 unfold Jc5
 simp only [JX,Nat.beq_refl,cond_true]
 refine ⟨trivial,(by intro h;cases h), ?_⟩
 simp only [Jak,Nat.beq_refl,cond_true]
 exact hend s' nx nn q1
theorem JmA {α:Type} (a b c:List α):(a++(b++c)).Perm (b++(a++c)):=by
 rw [← List.append_assoc,← List.append_assoc]
 exact List.perm_append_comm.append_right _
theorem JkO {o:Oper} {E:Env} {K:Env→Prop} {Kp:AV→Env→Prop} {fo:Operand} {args:Array Operand} {tys:Array TypeId} {f:FuncId} {first caps xs:List AV} {h1:Heap} {Q:AV→Heap→Prop} {bx1:List (Id×Own)} {pm1:List (Id×Nat)}
 (rb1 rb2:List (Id×Own)) (rp:List (Id×Nat)) (nn:Nat) (ho:o.op= .call { callee:= .value fo,args:=args,argTypes:=tys}) (hf:E.ev fo= .fn (.func f) first caps) (hbx:E.h.bx=rb1++(bx1++rb2)) (hpm:E.h.pm=rp++pm1)
 (hl:LeL (first++args.toList.map E.ev++caps) xs) (hc:ECall P f xs h1 Q) (hbl:BxLe bx1 h1.bx) (hpe:PmEq pm1 h1.pm) (hn:h1.nx=E.h.nx)
 (hk:∀r h',Q r h'→K (({ E with h:=⟨rb1++(h'.bx++rb2),rp++h'.pm,h'.nx,nn⟩}:Env).set o.dst r)):AOp P o E K Kp:=by
 have h2:ECall P f xs ⟨bx1,pm1,h1.nx,h1.nn⟩ Q:=hc.tell hbl hpe rfl
 have h3:=(ECall.frame (h:=E.h) h2 (rb1++rb2) rp (by rw [hbx];exact JmA _ _ _) (by rw [hpm];exact List.perm_append_comm) hn).args hl
 refine Jby ho hf h3 fun r h' hq=> ?_
 obtain ⟨h1',q1,rfl⟩:=hq
 exact ⟨r,⟨rb1++(h1'.bx++rb2),rp++h1'.pm,h1'.nx,nn⟩,Rf,⟨(JmA _ _ _).map _,List.perm_append_comm.map _,rfl⟩,hk r h1' q1⟩
end Go.Vl

namespace Go.Vl
open Go.RowKit
variable {P:Program}
section
variable {F:Fence} {n:Nat} {b:Frame} {a:Act} {k:List Item} {cs:List Frame} {w:World} {Q:Exit→Act→World→Prop}
theorem Jcr {c:Code}:step P (lone (b.atR a (.code (.scope c)::k)) cs w)= .next (lone (b.atR a (.code c:: .inScope c::k)) cs w):=
 step_lone_go (by simp [stepG,stepG.exec,Frame.atR])
theorem Jj8 {c:Code}:step P (lone (b.atR a (.inScope c::k)) cs w)= .next (lone (b.atR a k) cs w):=
 step_lone_go (by simp [stepG,stepG.exec,Frame.atR])
theorem JnH {c:Code} (h:c.wpIn F n P (Exit.noGoto Q) a w):(Code.scope c).wpIn F n P Q a w:=by
 intro b k cs hro hb hr
 have h0:(lone (b.atR a (.code (.scope c)::k)) cs w).fenced P F:=fenced_calm hb hr rfl
 obtain ⟨e,a₁,w₁,hq,harr⟩:=h b (.inScope c::k) cs hro hb hr
 cases e with
 | normal=> exact ⟨.normal,a₁,w₁,hq, .head h0 Jcr (StepsIn.trans harr (.one (fenced_calm hb hr rfl) Jj8))⟩
 | exit id'=>
   have hx:exitTo id' (.inScope c::k)=exitTo id' k:=by simp [exitTo]
   exact ⟨.exit id',a₁,w₁,hq,fun k' hk=> .head h0 Jcr (harr.1 k' (by rw [hx];exact hk)),
    fun hr' hk=> let ⟨k₁,h1,h2⟩:=harr.2 hr' (by rw [hx];exact hk);⟨k₁,h1, .head h0 Jcr h2⟩⟩
 | goto l=> exact hq.elim
 | ret=> exact ⟨_,a₁,w₁,hq, .of_steps (.one h0 Jcr) harr⟩
 | panic ch=> exact ⟨_,a₁,w₁,hq, .of_steps (.one h0 Jcr) harr⟩
 | outgrown=> exact ⟨_,a₁,w₁,hq, .of_steps (.one h0 Jcr) harr⟩
end
def Jvy (Q:AExit→Env→Prop):AExit→Env→Prop
 | .goto _,_=> False
 | e,E=> Q e E
theorem JmB {c:Code} {E:Env} {Q:AExit→Env→Prop} (h:AW P c E (Jvy Q)):AW P (.scope c) E Q:=by
 unfold AW
 intro r X M w0 a w g g0 hg hs
 unfold AW at h
 refine JnH (wpIn_mono (h r X M w0 a w g g0 hg hs) fun ex a' w' hq=> ?_)
 obtain ⟨ax,E',g',q,hx,hg',s⟩:=hq
 cases ax with
 | goto l=> exact q.elim
 | normal=> cases (hx:ex= .normal);exact ⟨.normal,E',g',q,rfl,hg',s⟩
 | ret=> cases (hx:ex= .ret);exact ⟨.ret,E',g',q,rfl,hg',s⟩
 | exit id=> cases (hx:ex= .exit id);exact ⟨.exit id,E',g',q,rfl,hg',s⟩
 | panic x=>
   obtain ⟨v,hv,hr⟩:=hx
   subst hv
   exact ⟨.panic x,E',g',q,⟨v,rfl,hr⟩,hg',s⟩
end Go.Vl

/- Regions that draw, with two effects that stand in no order, and more effects behind both. -/
namespace Go.Vl
open Go.RowKit
variable {P:Program}
theorem JsZ {ops:Array Oper} {m:Nat} {B:List (Id×Own)} {eff:Nat→Bool} {Q:Exit→Act→World→Prop} (hk:OrdOk ops m) (hm:m≤ops.size)
 {ro:Option Nat} {X M:Nat→Nat→Prop} {w0:World} {g0:List Nat} {K:Env→Prop} {a0 c0:Nat} {rest:List Nat} (hea:eff a0=true) (hec:eff c0=true) (hac:a0≠c0) (ham:a0 < m)
 (hself0:∀oi,ops[a0]? =some oi→∀e∈oi.after,Region.binds .any e=true→e.on≠a0)
 (hna:∀i,i∉rest→i≠a0→i < m→∀oi,ops[i]? =some oi→∀e∈oi.after,Region.binds .any e=true→e.on≠a0)
 (hq:∀E a w g,K E→(∀(i b:Nat),g0[i]? =some b→g[i]? =some b)→St ro X M w0 E a w g→wpOpsIn (Fr ro) 0 P ops Q (List.range' m (ops.size - m)) a w):
 ∀(n:Nat) (pre:List Nat) (listed:Array Bool) (E:Env) (a:Act) (w:World) (g:List Nat),pre.length+rest.length+2=n→(pre++c0::rest).Pairwise (JcQ ops eff)→(pre++a0::rest).Pairwise (JcQ ops eff)→(∀i∈pre++c0::rest,i < m)→(a0∉pre++c0::rest)→
  (∀i∈pre++c0::rest,∀oi,ops[i]? =some oi→∀e∈oi.after,Region.binds .any e=true→e.on≠i)→listed.size=ops.size→DC ops listed→
 (∀i,i < ops.size→(listed.getD i true=false↔(i=a0∨i∈pre++c0::rest)∨m≤i))→(∀i∈pre,eff i=false)→
 MixL P ops B eff pre E (fun E'=> MixL P ops B eff (a0::c0::rest) E' K∧MixL P ops B eff (c0::a0::rest) E' K)→HB B E.h.bx→(∀(i b:Nat),g0[i]? =some b→g[i]? =some b)→St ro X M w0 E a w g→wpAnyIn (Fr ro) 0 P .any ops Q (n+(ops.size - m)) listed a w:=by
 intro n
 induction n with
 | zero=> intro pre _ _ _ _ _ hl;omega
 | succ n ih=>
   intro pre listed E a w g hl hpw hpc hlt hnm hself hsz hd hun hpe hrun hB hg hs
   rw [Nat.add_right_comm]
   obtain ⟨k,L',hkL,hrL⟩:∃k L',pre++c0::rest=k::L'∧∀i∈rest,i∈L':=by
    cases pre with
    | nil=> exact ⟨_,_,rfl,fun i hi=> hi⟩
    | cons k l=> exact ⟨_,_,rfl,fun i hi=> List.mem_append_right _ (List.mem_cons_of_mem _ hi)⟩
   have hkmem:k∈pre++c0::rest:=by rw [hkL];simp
   have hkm:k < m:=hlt k hkmem
   have hka:k≠a0:=fun e=> hnm (e ▸ hkmem)
   have hklt:k < ops.size:=by omega
   have hko:ops[k]? =some ops[k]:=Array.getElem?_eq_getElem hklt
   have hpk:=hpw
   rw [hkL] at hpk
   have hkn:k∉rest:=fun h=> ((List.pairwise_cons.1 hpk).1 k (hrL k h)).1 rfl
   have hkr:k∈Region.ready .any ops listed:=by
    refine JD.2 ⟨(hun k hklt).2 (.inl (.inr hkmem)),_,hko,fun e he hb=> ?_⟩
    have hb':=hk.back k _ hko e he hb
    rw [JM Om]
    cases hl:listed.getD e.on true with
    | true=> simpa using hl
    | false=>
      rcases (hun e.on Om).1 hl with (h' | h') | h'
      ·exact absurd h' (hna k hkn hka hkm _ hko e he hb)
      ·rw [hkL] at h'
       rcases List.mem_cons.1 h' with h' | h'
       ·exact absurd h' (hself k hkmem _ hko e he hb)
       · exact absurd rfl (((List.pairwise_cons.1 hpk).1 _ h').2 _ _ hko (Array.getElem?_eq_getElem Om) |>.1 e he hb)
      ·omega
   refine ⟨fun h0=> (by rw [h0] at hkr;cases hkr),fun j hj=> ?_⟩
   obtain ⟨h1,oj,hoj,h2⟩:=JD.1 hj
   have hjlt:=(Array.getElem?_eq_some_iff.1 hoj).1
   have hjL:j=a0∨j∈pre++c0::rest:=by
    rcases (hun j hjlt).1 h1 with h' | h'
    ·exact h'
    ·have hb:=hk.tail k j oj hoj h' Om
     have:=JW hd hsz hoj h2 hb
     have h3:=(hun k Om).2 (.inl (.inr hkmem))
     rw [JM Om] at this
     simp [h3] at this
   have hnb:∀i,(i=a0∨i∈pre++c0::rest)→((Region.before ops).getD j 0).testBit i=true→False:=fun i hi hb=> by
    have hilt:i < ops.size:=by
     rcases hi with rfl | hi
     ·omega
     ·have:=hlt i hi;omega
    have:=JW hd hsz hoj h2 hb
    have h3:=(hun i hilt).2 (.inl hi)
    rw [JM Om] at this
    simp [h3] at this
   have JbP:∀(L2:List Nat),(∀i,i < ops.size→i≠j→(((i=a0∨i∈pre++c0::rest)∨m≤i)↔(i∈L2∨m≤i)))→j∉L2→j < m→∀i,i < ops.size→((listed.setIfInBounds j true).getD i true=false↔i∈L2∨m≤i):=fun L2 hL hj2 hjm i hi=> by
    rw [JaD Om]
    by_cases hij:i=j
    ·subst hij
     simp only [if_true]
     constructor
     ·intro h;cases h
     ·intro h
      exfalso
      rcases h with h | h
      ·exact hj2 h
      ·omega
    ·rw [if_neg hij,hun i hi]
     exact hL i hi hij
   have heffect:∀(L2:List Nat),L2.length=n→L2.Pairwise (JcQ ops eff)→(∀i∈L2,i < m)→(∀i∈L2,∀oi,ops[i]? =some oi→∀e∈oi.after,Region.binds .any e=true→e.on≠i)→(∀i,i < ops.size→i≠j→(((i=a0∨i∈pre++c0::rest)∨m≤i)↔(i∈L2∨m≤i)))→j∉L2→j < m→eff j=true→MixL P ops B eff (j::L2) E K→wpOpIn (Fr ro) 0 P ops Q j (wpAnyIn (Fr ro) 0 P Region.Mode.any ops Q (n+(ops.size - m)) (listed.setIfInBounds j true)) a w:=fun L2 e1 e2 e3 e4 e5 e6 e7 e8 e9=> by
    obtain ⟨o,ho,hrun'⟩:=e9
    rw [hoj] at ho
    cases ho
    simp only [e8] at hrun'
    obtain ⟨R,⟨q0,q1⟩,q2⟩:=hrun'
    unfold wpOpIn
    simp only [hoj,Region.wanted,q0,if_true]
    exact q1 E rfl (fun _ _=> rfl) ro X M w0 a w g hs _ _ (fun E' a' w' g' hE hgg hs'=> by
     obtain ⟨r,h',p1,p2,rfl⟩:=hE
     exact Je8 hk hm hq n L2 _ _ a' w' g' e1 e2 e3 e4 (by simp [hsz]) (hd.set hsz hk hj) (JbP L2 e5 e6 e7) (q2 r h' p1) (by rw [Env.set_h];exact p2) (fun i b hi=> hgg i b (hg i b hi)) hs') (fun x E' a' w' g' v hk'=> hk'.elim)
   rcases hjL with rfl | hjL
   ·have h5:=List.pairwise_append.1 hpc
    obtain h6:=MixL.front hoj pre (c0::rest) E (fun i hi=> by
     obtain ⟨_,hp⟩:=h5.2.2 i hi j (by simp)
     have hilt:i < ops.size:=by have:=hlt i (by simp [hi]);omega
     rcases (hp _ _ (Array.getElem?_eq_getElem hilt) hoj).2 with hb | ⟨hb,hb'⟩
     ·exact (hnb i (.inr (by simp [hi])) hb).elim
     ·exact ⟨hb,fun oi hoi=> by rw [Array.getElem?_eq_getElem hilt] at hoi;cases hoi;exact hb'⟩) (MixL.app (MixL.mono (fun _ h=> h.1) hrun))
    exact heffect (pre++c0::rest) (by simp;omega) hpw hlt hself (fun i _ hij=> by simp [hij]) hnm ham hea h6
   ·have hjm:=hlt j hjL
    have hja:j≠a0:=fun e=> hnm (e ▸ hjL)
    rcases List.mem_append.1 hjL with hjp | hjp
    ·obtain ⟨l1,l2,rfl⟩:=List.append_of_mem hjp
     have hej:=hpe j hjp
     have hpw':(l1++j::(l2++c0::rest)).Pairwise (JcQ ops eff):=by simpa using hpw
     have hl1:∀i∈l1,JcQ ops eff i j:=fun i hi=> (List.pairwise_append.1 hpw').2.2 i hi j (by simp)
     obtain ⟨o,ho,hrun'⟩:=MixL.front hoj l1 l2 E (fun i hi=> by
      have hilt:i < ops.size:=by have:=hlt i (by simp [hi]);omega
      rcases ((hl1 i hi).2 _ _ (Array.getElem?_eq_getElem hilt) hoj).2 with hb | ⟨hb,hb'⟩
      ·exact (hnb i (.inr (by simp [hi])) hb).elim
      ·exact ⟨hb,fun oi hoi=> by rw [Array.getElem?_eq_getElem hilt] at hoi;cases hoi;exact hb'⟩) hrun
     rw [hoj] at ho
     cases ho
     simp only [hej] at hrun'
     obtain ⟨r,q1,q2⟩:=hrun'
     have hsub:(l1++l2++c0::rest).Sublist (l1++j::l2++c0::rest):=by simp [List.Sublist.append_left]
     have hsub2:(l1++l2++a0::rest).Sublist (l1++j::l2++a0::rest):=by simp [List.Sublist.append_left]
     have hnj:j∉l1++l2++c0::rest:=fun h=> by
      have h5:=List.pairwise_append.1 hpw'
      rw [List.append_assoc] at h
      rcases List.mem_append.1 h with h | h
      ·exact (h5.2.2 j h j (by simp)).1 rfl
      ·exact ((List.pairwise_cons.1 h5.2.1).1 j h).1 rfl
     refine (q1 E hB fun _ _=> rfl).does hoj hs fun a' w' hs'=> ih (l1++l2) _ _ a' w' g (by simp at hl⊢;omega) (hpw.sublist hsub) (hpc.sublist hsub2) (fun i hi=> hlt i (hsub.subset hi)) (fun h=> hnm (hsub.subset h)) (fun i hi=> hself i (hsub.subset hi)) (by simp [hsz]) (hd.set hsz hk hj) (fun i hi=> ?_) (fun i hi=> hpe i (by rcases List.mem_append.1 hi with h | h <;> simp [h])) q2 (by rw [Env.set_h];exact hB) hg hs'
     have e:=JbP (a0::(l1++l2++c0::rest)) (fun i _ hij=> by simp [hij]) (by simp only [List.mem_cons,not_or];exact ⟨hja,hnj⟩) hjm i hi
     rw [e,List.mem_cons]
    ·rcases List.mem_cons.1 hjp with rfl | hjr
     ·have h6:=MixL.front hoj pre (a0::rest) E (fun i hi=> by
       have hilt:i < ops.size:=by have:=hlt i (by simp [hi]);omega
       rcases (((List.pairwise_append.1 hpw).2.2 i hi j (by simp)).2 _ _ (Array.getElem?_eq_getElem hilt) hoj).2 with hb | ⟨hb,hb'⟩
       ·exact (hnb i (.inr (by simp [hi])) hb).elim
       ·exact ⟨hb,fun oi hoi=> by rw [Array.getElem?_eq_getElem hilt] at hoi;cases hoi;exact hb'⟩) (MixL.app (MixL.mono (fun _ h=> h.2) hrun))
      have h5:=List.pairwise_append.1 hpw
      refine heffect (pre++a0::rest) (by simp;omega) hpc (fun i hi=> ?_) (fun i hi=> ?_) (fun i _ hij=> by simp [hij,or_assoc,or_comm,or_left_comm]) (fun h=> ?_) hjm hec h6
      ·simp only [List.mem_append,List.mem_cons] at hi
       rcases hi with hi | rfl | hi
       ·exact hlt i (by simp [hi])
       ·exact ham
       ·exact hlt i (by simp [hi])
      ·simp only [List.mem_append,List.mem_cons] at hi
       rcases hi with hi | rfl | hi
       ·exact hself i (by simp [hi])
       ·exact hself0
       ·exact hself i (by simp [hi])
      ·simp only [List.mem_append,List.mem_cons] at h
       rcases h with h | h | h
       ·exact (h5.2.2 j h j (by simp)).1 rfl
       ·exact hja h
       ·exact ((List.pairwise_cons.1 h5.2.1).1 j h).1 rfl
     ·exfalso
      have hp:=((List.pairwise_cons.1 (List.pairwise_append.1 hpw).2.1).1 j hjr).2 _ _ (Array.getElem?_eq_getElem (by have:=hlt c0 (by simp);omega)) hoj
      rcases hp.2 with hb | ⟨hb,_⟩
      ·exact hnb c0 (.inr (by simp)) hb
      ·rw [hec] at hb;cases hb
def Jt7 (ops:Array Oper) (m:Nat) (eff:Nat→Bool) (pre:List Nat) (a0 c0:Nat) (rest:List Nat):Bool:=
 let bf:=Region.before ops
 Nat.ble m ops.size&& (Ja1 ops m&& ((pre++c0::rest).all (fun i=> Nat.blt i m&& !Nat.beq i a0)&& ((List.range m).all (fun i=> Nat.beq i a0|| (pre++c0::rest).contains i)&& (ordM.go ops eff bf (pre++c0::rest)&& (ordM.go ops eff bf (pre++a0::rest)&&
  (eff a0&& (eff c0&& (Nat.blt a0 m&& (pre.all (fun i=> !eff i)&& ((List.range m).all (fun i=> Nat.beq i a0|| (rest.contains i|| match ops[i]? with | some oi=> oi.after.toList.all fun e=> !Region.binds .any e|| !Nat.beq e.on a0 | none=> false))&& Nat.beq (pre.length+rest.length+2) m))))))))))
theorem JxT {id:Nat} {ops:Array Oper} {E:Env} {Q:AExit→Env→Prop} (m:Nat) (B:List (Id×Own)) (eff tl:Nat→Bool) (pre:List Nat) (a0 c0:Nat) (rest:List Nat) (hf:P.follows .mixedOrders=true) (hb:Jt7 ops m eff pre a0 c0 rest=true) (hB:HB B E.h.bx)
 (h:aN P ops B eff tl pre E fun E'=> aN P ops B eff tl (a0::c0::rest) E' (fun E'=> aK P ops (ops.toList.drop m) E' (Q .normal) (fun x E=> Q (.panic x) E))∧aN P ops B eff tl (c0::a0::rest) E' (fun E'=> aK P ops (ops.toList.drop m) E' (Q .normal) (fun x E=> Q (.panic x) E))):AW P (.region id ops true) E Q:=by
 simp only [Jt7,Bool.and_eq_true,List.all_eq_true] at hb
 obtain ⟨h0,h00,h1,h2,h3,h3c,hea,hec,ha,hp,hn,hl⟩:=hb
 have hm:=Jbx h0
 obtain ⟨h4,h5⟩:=Jee h3
 obtain ⟨h4c,h5c⟩:=Jee h3c
 have hlt:∀i∈pre++c0::rest,i < m:=fun i hi=> Jao (h1 i hi).1
 have hnm:a0∉pre++c0::rest:=fun hi=> Jco (h1 a0 hi).2 rfl
 have hall:∀i,i < m→i=a0∨i∈pre++c0::rest:=fun i hi=> by
  have:=h2 i (List.mem_range.2 hi)
  simpa using this
 have ham:a0 < m:=Jao ha
 have hac:a0≠c0:=fun e=> hnm (by simp [e])
 have hself0:=h5c a0 (by simp)
 have hpe:∀i∈pre,eff i=false:=fun i hi=> by simpa using hp i hi
 have hlen:pre.length+rest.length+2=m:=by simpa using hl
 have hna:∀i,i∉rest→i≠a0→i < m→∀oi,ops[i]? =some oi→∀e∈oi.after,Region.binds .any e=true→e.on≠a0:=fun i hnr hne hi oi ho e he hb=> by
  have:=hn i (List.mem_range.2 hi)
  rw [ho] at this
  simp only [Bool.or_eq_true,List.all_eq_true] at this
  rcases this with h | h | h
  ·exact absurd (by simpa using h) hne
  ·exact absurd (by simpa using h) hnr
  ·have:=h e (Array.mem_toList_iff.2 he)
   simp only [hb,Bool.not_true,Bool.false_or] at this
   exact Jco (by simpa using this)
 unfold AW
 intro ro X M w0 a w g g0 hg hs
 refine wpIn_region_any hf ?_
 have hs':St ro X M w0 E a { w with drawn:=w.drawn+1} g:=hs.drew
 have key:=JsZ (eff:=eff) (a0:=a0) (c0:=c0) (rest:=rest) (g0:=g0) (K:=fun E'=> aK P ops (ops.toList.drop m) E' (Q .normal) (fun x E=> Q (.panic x) E)) (Q:=JbF ro X M w0 g0 Q) (P:=P) (X:=X) (M:=M) (w0:=w0) (ro:=ro) (B:=B) (Jgc h00) hm hea hec hac ham hself0 hna (fun E' a' w' g' hk hg' hs''=> by
  have:=Jbc (P:=P) (ops:=ops) (K:=Q .normal) (X:=X) (M:=M) (w0:=w0) (g0:=g0) (Kp:=fun x E=> Q (.panic x) E) (ro:=ro) (Q:=JbF ro X M w0 g0 Q) (fun E a w g hk hg hs=> ⟨.normal,E,g,hk,rfl,hg,hs⟩) (fun x E a w g v hk hg hs hr=> ⟨.panic x,E,g,hk,⟨v,rfl,hr⟩,hg,hs⟩) (ops.toList.drop m) m E' a' w' g' (fun j=> .inl (by simp)) hg' hs'' hk
  simpa using this) m pre (Array.replicate ops.size false) E a _ g hlen h4 h4c hlt hnm h5 (by simp) (fun k o ho hl=> by
  have hk:=(Array.getElem?_eq_some_iff.1 ho).1
  simp [Array.getD_eq_getD_getElem?,hk] at hl) (fun i hi=> by
  have:(Array.replicate ops.size false).getD i true=false:=by simp [Array.getD_eq_getD_getElem?,hi]
  simp only [this,true_iff]
  rcases Nat.lt_or_ge i m with h | h
  ·exact .inl (hall i h)
  ·exact .inr h) hpe (MixL.mono (fun _ q=> ⟨JbS q.1,JbS q.2⟩) (JbS h)) hB hg hs'
 have e:m+(ops.size - m)=ops.size:=by omega
 rw [e] at key
 exact key
end Go.Vl

namespace Go.Vl
open Go.RowKit
variable {P:Program}
theorem Jj9 {f:FuncId} {ars:List AV} {s:AV} (h:Tells P f ars s):PCall P f ars (fun r=> r=s):=fun nx=> by
 refine ⟨(h nx).1,fun X w g us h1 h2 h3 h4=> ?_⟩
 refine (Jfr P f).mono (w0:=w) (g:=g) ((h nx).2 X w g us h1 h2 h3 h4) fun e w' ⟨r,h',g',a1,a2,a3⟩=> ?_
 cases r with
 | pan x=> exact a2.elim
 | ret r=>
   obtain ⟨u,e1,e2⟩:=a1
   exact ⟨.ret s,h',g',⟨u,e1,a2.1 _ _ _ _ e2⟩,⟨rfl,a2.2⟩,a3⟩
end Go.Vl

namespace Go.Proofs.W
open Go.Vl
structure Ins where
 code:Nat
 jt:Nat
 jf:Nat
 k:Nat
deriving DecidableEq
def ins0:Ins:=⟨0,0,0,0⟩
def Ins.ok (i:Ins):Prop:=i.code < 65536∧i.jt < 256∧i.jf < 256∧i.k < 4294967296
def Jcs:List (Nat×Nat):= [(32,1),(0,2),(96,3),(128,4),(1,5),(97,6),(129,7),(2,8),(3,9),(7,10),(135,11),(132,12),(5,13),(6,14),(22,15)]
def Jc7:List (Nat×Nat):= [(4,16),(20,17),(36,18),(52,19),(68,20),(84,21),(100,22),(116,23),(164,24),(21,25),(37,26),(53,27),(69,28)]
def lk (l:List (Nat×Nat)) (c:Nat):Option Nat:=(l.find? (fun p=> p.1 ==c)).map (·.2)
def Jhd (c:Nat):Nat:=c - 8 * ((c / 8) % 2)
def kof (c:Nat):Nat×Bool:=match lk Jcs c with
 | some k=> (k,false)
 | none=> match lk Jc7 (Jhd c) with
   | some k=> (k,(c / 8) % 2 ==1)
   | none=> (0,false)
theorem Je9 {l:List (Nat×Nat)} {c k:Nat} (h:lk l c=some k):(c,k)∈l:=by
 unfold lk at h
 rw [Option.map_eq_some_iff] at h
 obtain ⟨p,h1,h2⟩:=h
 have:=List.find?_some h1
 have hm:=List.mem_of_find?_eq_some h1
 simp at this
 obtain ⟨a,b⟩:=p
 dsimp only at this h2
 subst this;subst h2
 exact hm
theorem Jf0 (c:Nat):(kof c).1≤28:=by
 unfold kof
 split
 ·rename_i k h
  have:=Je9 h
  have hd:∀p∈Jcs,p.2≤28:=by decide
  exact hd _ this
 ·split
  ·rename_i k h
   have:=Je9 h
   have hd:∀p∈Jc7,p.2≤28:=by decide
   exact hd _ this
  ·simp
def Jgq (c:Nat):Nat×Bool:=
 match [32,0,96,128,1,97,129,2,3,7,135,132,5,6,22].findIdx? (fun a=> c ==a) with
 | some i=> (i+1,false)
 | none=> match [4,20,36,52,68,84,100,116,164,21,37,53,69].findIdx? (fun a=> c ==a|| c ==a+8) with
   | some i=> (i+16,c != [4,20,36,52,68,84,100,116,164,21,37,53,69].getD i 0)
   | none=> (0,false)
theorem JnI:∀c,c < 256→Jgq c=kof c:=by decide+kernel
theorem Juy {c:Nat} (h:256≤c):kof c=(0,false):=by
 have h1:lk Jcs c=none:=by
  cases hl:lk Jcs c with
  | none=> rfl
  | some k=>
    have:=Je9 hl
    have hd:∀p∈Jcs,p.1 < 256:=by decide
    have:=hd _ this;dsimp only at this;omega
 have h2:lk Jc7 (Jhd c)=none:=by
  cases hl:lk Jc7 (Jhd c) with
  | none=> rfl
  | some k=>
    have:=Je9 hl
    have hd:∀p∈Jc7,p.1 < 200:=by decide
    have:=hd _ this;unfold Jhd at this;dsimp only at this;omega
 simp [kof,h1,h2]
theorem Jq6 {c:Nat} (h:256≤c):Jgq c=(0,false):=by
 have h1: [32,0,96,128,1,97,129,2,3,7,135,132,5,6,22].findIdx? (fun a=> c ==a)=none:=by
  rw [List.findIdx?_eq_none_iff]
  have hd:∀a∈ [32,0,96,128,1,97,129,2,3,7,135,132,5,6,22],a < 256:=by decide
  intro a ha
  have:=hd a ha
  simp;omega
 have h2: [4,20,36,52,68,84,100,116,164,21,37,53,69].findIdx? (fun a=> c ==a|| c ==a+8)=none:=by
  rw [List.findIdx?_eq_none_iff]
  have hd:∀a∈ [4,20,36,52,68,84,100,116,164,21,37,53,69],a < 200:=by decide
  intro a ha
  have:=hd a ha
  simp;omega
 simp [Jgq,h1,h2]
theorem Js0 (c:Nat):Jgq c=kof c:=by
 rcases Nat.lt_or_ge c 256 with h | h
 ·exact JnI c h
 ·rw [Jq6 h,Juy h]
def wrongI (i:Ins) (rest:Nat):Nat:=
 let (kind,x):=kof i.code
 if kind=0 then 5
 else if kind=1∧(i.k % 4≠0∨64≤i.k) then 6
 else if (kind=3∨kind=6∨kind=8∨kind=9)∧16≤i.k then 7
 else if x=false∧kind=19∧i.k=0 then 8
 else if x=false∧(kind=22∨kind=23)∧31 < i.k then 9
 else if (kind=13∧rest≤i.k)∨(25≤kind∧(rest≤i.jt∨rest≤i.jf)) then 10
 else 0
def JV (l:List Ins):Nat×Nat:=
 if l.length=0 then (0,4)
 else if 4096 < l.length then (0,3)
 else match (List.range l.length).find? (fun n=> wrongI (l.getD n ins0) (l.length - 1 - n) !=0) with
  | some n=> (n,wrongI (l.getD n ins0) (l.length - 1 - n))
  | none=> if (kof (l.getD (l.length - 1) ins0).code).1=14∨(kof (l.getD (l.length - 1) ins0).code).1=15 then (0,0) else (l.length - 1,11)
end Go.Proofs.W

namespace Go.Proofs.W
open Go.Vl
set_option maxRecDepth 100000
def int (n:Int):AV:= .v (.int .i64 n)
def u8 (n:Int):AV:= .v (.int .u8 n)
def u16 (n:Int):AV:= .v (.int .u16 n)
def u32 (n:Int):AV:= .v (.int .u32 n)
def Jg (b:Bool):AV:= .v (.bool b)
def JfP (i:Ins):AV:= .ag [u16 i.code,u8 i.jt,u8 i.jf,u32 i.k]
def Jan (l:List Ins):AV:=Jai 4 JfP ins0 l
def JiC (l:List Nat):AV:=Jai 1 (fun n:Nat=> int n) 0 l
def JlG (l:List Bool):AV:=Jai 1 Jg false l
def Jka (l:List Nat):AV:=Jai 1 (fun n:Nat=> u16 n) 0 l
def Jds (l:List (Nat×Nat)):List (Value×AV):=l.map fun p=> (.int .u16 (p.1:Nat),int (p.2:Nat))
theorem Jji (l:List (Nat×Nat)) (c:Nat):Jba (.int .u16 (c:Nat)) (Jds l)=(lk l c).map fun k=> int (k:Nat):=by
 induction l with
 | nil=> rfl
 | cons p l ih=>
   unfold Jds at ih⊢
   simp only [List.map_cons,Jba]
   unfold lk at ih⊢
   rw [List.find?_cons]
   have:JcC (.int .u16 (c:Nat)) (.int .u16 (p.1:Nat))=(p.1 ==c):=by
    simp only [JcC,Jb5,Bool.true_and]
    rw [Bool.eq_iff_iff];simp;omega
   rw [this]
   cases h:p.1 ==c
   ·simpa using ih
   ·simp
theorem Jpg:Tells Tryz.prog 91 [] (.fm (Jds Jcs)):=by
 refine Jc Tryz.func91 rfl rfl fun nx=> ?_
 (repeat ((conv=>whnf);first|refine ω0 ?_|refine ω1 ?_|refine ω2 ?_|refine ω3 ?_|refine ω4 rfl ?_|refine ω5 rfl ?_|refine ω6 ?_|refine ω7 ?_|refine ⟨rfl,?_⟩|refine ⟨trivial,?_⟩|refine ⟨⟨rfl,Nat.le_of_ble_eq_true rfl⟩,?_⟩|refine ⟨⟨by kernel_rfl,by kernel_rfl⟩,?_⟩|refine ⟨by decide,?_⟩|refine Jcd ?_|refine JbO ?_))
 refine AW.le (JaO (L:= [(0, .fm (Jds Jcs))]) (bx:= []) (pm:= []) (nn:=0) [((0,nx), .mp (Jds Jcs))] rfl rfl Sf .slnil ⟨Frz.om (.head _),trivial⟩) ?_
 refine stp ?_
 refine Ja rfl Rf
theorem Jq7:Tells Tryz.prog 92 [] (.fm (Jds Jc7)):=by
 refine Jc Tryz.func92 rfl rfl fun nx=> ?_
 (repeat ((conv=>whnf);first|refine ω0 ?_|refine ω1 ?_|refine ω2 ?_|refine ω3 ?_|refine ω4 rfl ?_|refine ω5 rfl ?_|refine ω6 ?_|refine ω7 ?_|refine ⟨rfl,?_⟩|refine ⟨trivial,?_⟩|refine ⟨⟨rfl,Nat.le_of_ble_eq_true rfl⟩,?_⟩|refine ⟨⟨by kernel_rfl,by kernel_rfl⟩,?_⟩|refine ⟨by decide,?_⟩|refine Jcd ?_|refine JbO ?_))
 refine AW.le (JaO (L:= [(0, .fm (Jds Jc7))]) (bx:= []) (pm:= []) (nn:=0) [((0,nx), .mp (Jds Jc7))] rfl rfl Sf .slnil ⟨Frz.om (.head _),trivial⟩) ?_
 refine stp ?_
 refine Ja rfl Rf
theorem JoD (c:Nat) (hc:c < 65536):Tells Tryz.prog 48 [u16 c] (.tup [int (kof c).1,Jg (kof c).2,Jg ((kof c).1 !=0)]):=by
 refine Jc Tryz.func48 rfl rfl fun nx=> ?_
 refine stp ?_
 refine Jb rfl rfl Jpg trivial fun nx=> ?_
 refine stp ?_
 have e1:=Jji Jcs c
 cases h1:lk Jcs c with
 | some k=>
   have hk:kof c=(k,false):=by simp [kof,h1]
   have hk0:(k !=0)=true:=by
    have hd:∀p∈Jcs,(p.2 !=0)=true:=by decide
    exact hd _ (Je9 h1)
   rw [h1] at e1
   refine Jh (b:= .tup [int k,Jg true]) (by
    show Jdr (Jba (.int .u16 (c:Nat)) (Jds Jcs)) _ true=_
    rw [e1];rfl) ?_
   refine stp ?_
   refine Ja rfl ?_
   rw [hk,hk0]
   exact Rf
 | none=>
   rw [h1] at e1
   refine Jh (b:= .tup [int 0,Jg false]) (by
    show Jdr (Jba (.int .u16 (c:Nat)) (Jds Jcs)) _ true=_
    rw [e1];rfl) ?_
   have hb:JU .andNot .u16 (c:Int) 8=((Jhd c:Nat):Int):=by
    have:=Jnz (a:=c) (b:=8) hc Dc
    rw [Jhd,← Jus c hc];exact this
   have hx:JU .and .u16 (c:Int) 8=((8 * ((c / 8) % 2):Nat):Int):=by
    have:=Jdy (a:=c) (b:=8) hc Dc
    rw [← Jxe c];exact this
   refine stp ?_
   refine Jb rfl rfl Jq7 trivial fun nx=> ?_
   refine stp ?_
   have e2:=Jji Jc7 (Jhd c)
   cases h2:lk Jc7 (Jhd c) with
   | some k=>
     have hk:kof c=(k,(c / 8) % 2 ==1):=by simp [kof,h1,h2]
     have hk0:(k !=0)=true:=by
      have hd:∀p∈Jc7,(p.2 !=0)=true:=by decide
      exact hd _ (Je9 h2)
     rw [h2] at e2
     refine Jh (b:= .tup [int k,Jg true]) (by
      show Jdr (Jba (.int .u16 (JU .andNot .u16 (c:Int) 8)) (Jds Jc7)) _ true=_
      rw [hb,e2];rfl) ?_
     refine stp ?_
     intro c h3;cases c
     all_goals
      refine stp ?_
      refine Ja rfl ?_
      rw [hk,hk0]
      refine AVle.of_eq ?_
      rw [show ((c / 8) % 2 ==1)=(JU .and .u16 (c:Int) 8 !=0) by
       rw [hx,Bool.eq_iff_iff];simp;omega,← h3]
      rfl
   | none=>
     have hk:kof c=(0,false):=by simp [kof,h1,h2]
     rw [h2] at e2
     refine Jh (b:= .tup [int 0,Jg false]) (by
      show Jdr (Jba (.int .u16 (JU .andNot .u16 (c:Int) 8)) (Jds Jc7)) _ true=_
      rw [hb,e2];rfl) ?_
     refine stp ?_
     refine Ja rfl ?_
     rw [hk]
     exact Rf
end Go.Proofs.W

namespace Go.Proofs.W
open Go.Vl
set_option maxRecDepth 100000
def u64 (n:Int):AV:= .v (.int .u64 n)
theorem JbD {a b:Int} (h:false=(a !=b)):a=b:=by simpa using h.symm
theorem Jbg {a b:Int} (h:true=(a !=b)):a≠b:=by simpa using h.symm
def JeH (i:Ins) (k:Nat) (x:Bool) (r:Nat):AV:= .ag [u16 i.code,u8 i.jt,u8 i.jf,u32 i.k,int k,Jg x,int r]
theorem JO {a b:Int}:(false=(a ==b))↔a≠b:=by rw [eq_comm];simp
theorem JP {a b:Int}:(true=(a ==b))↔a=b:=by rw [eq_comm];simp
theorem Jbd {a b:Int}:(false=(a !=b))↔a=b:=by rw [eq_comm];simp
theorem Jbe {a b:Int}:(true=(a !=b))↔a≠b:=by rw [eq_comm];simp
theorem JaJ {p:Prop} [Decidable p]:(false=decide p)↔¬p:=by rw [eq_comm];simp
theorem JaK {p:Prop} [Decidable p]:(true=decide p)↔p:=by rw [eq_comm];simp
theorem Jq8 (i:Ins) (k:Nat) (x:Bool) (r:Nat):Tells Tryz.prog 136 [JeH i k x r] (int (if k=0 then 5 else 0)):=by
 refine Jc Tryz.func136 rfl rfl fun nx=> ?_
 (repeat' (refine stp ?_;intro c h;cases c))
 all_goals
  refine stp ?_
  refine Ja rfl (Jd ?_)
  (try simp only [JO, JP, JaJ, JaK, Jbd, Jbe] at *)
  split <;> omega
theorem Jq9 (i:Ins) (k:Nat) (x:Bool) (r:Nat):Tells Tryz.prog 137 [JeH i k x r] (int (if k=1∧(i.k % 4≠0∨64≤i.k) then 6 else 0)):=by
 refine Jc Tryz.func137 rfl rfl fun nx=> ?_
 (repeat' (refine stp ?_;intro c h;cases c))
 all_goals
  refine stp ?_
  refine Ja rfl (Jd ?_)
  try rw [show (i.k : Int).tmod 4 = ((i.k % 4 : Nat) : Int) from rfl] at *
  (try simp only [JO, JP, JaJ, JaK, Jbd, Jbe] at *)
  split <;> omega
theorem Jph (k:Nat):Tells Tryz.prog 170 [int k] (Jg (decide (k=3∨k=6∨k=8∨k=9))):=by
 refine Jc Tryz.func170 rfl rfl fun nx=> ?_
 (repeat' (refine stp ?_;intro c h;cases c))
 all_goals
  refine stp ?_
  refine Ja rfl (Jn ?_)
  (try simp only [JO, JP, JaJ, JaK, Jbd, Jbe] at *)
  omega
theorem Jra (i:Ins) (k:Nat) (x:Bool) (r:Nat):Tells Tryz.prog 138 [JeH i k x r] (int (if (k=3∨k=6∨k=8∨k=9)∧16≤i.k then 7 else 0)):=by
 refine Jc Tryz.func138 rfl rfl fun nx=> ?_
 refine stp ?_
 refine Jb rfl rfl (Jph k) ⟨Rf,trivial⟩ fun nx=> ?_
 (repeat' (refine stp ?_;intro c h;cases c))
 all_goals
  refine stp ?_
  refine Ja rfl (Jd ?_)
  (try simp only [JO, JP, JaJ, JaK, Jbd, Jbe] at *)
  split <;> omega
theorem JnJ (i:Ins) (k:Nat) (x:Bool) (r:Nat):Tells Tryz.prog 139 [JeH i k x r]
 (int (if x=false∧k=19∧i.k=0 then 8 else if x=false∧(k=22∨k=23)∧31 < i.k then 9 else 0)):=by
 refine Jc Tryz.func139 rfl rfl fun nx=> ?_
 cases x
 all_goals
  (repeat' (refine stp ?_;intro c h;cases c))
  all_goals
   refine stp ?_
   refine Ja rfl (Jd ?_)
   (try simp only [JO, JP, JaJ, JaK, Jbd, Jbe] at *)
   simp
   try omega
theorem Jrb (i:Ins) (hi:i.ok) (k:Nat) (x:Bool) (r:Nat):Tells Tryz.prog 140 [JeH i k x r]
 (int (if (k=13∧r≤i.k)∨(25≤k∧(r≤i.jt∨r≤i.jf)) then 10 else 0)):=by
 obtain ⟨h1,h2,h3,h4⟩:=hi
 have w1:IntKind.i64.wrap (i.k:Int)=i.k:=Jq Om Om
 have w2:IntKind.i64.wrap (if (i.jf:Int) > i.jt then (i.jf:Int) else i.jt)=((max i.jt i.jf:Nat):Int):=by
  split
  ·rw [Jq Om Om];omega
  ·rw [Jq Om Om];omega
 refine Jc Tryz.func140 rfl rfl fun nx=> ?_
 (repeat' (refine stp ?_;intro c h;cases c))
 all_goals
  refine stp ?_
  refine Ja rfl (Jd ?_)
  (try simp only [JO, JP, JaJ, JaK, Jbd, Jbe] at *)
  (try rw [w1] at *)
  (try rw [w2] at *)
  split <;> omega
def Jxp (L:AV):List AV:= [.fn (.func 136) [L] [], .fn (.func 137) [L] [], .fn (.func 138) [L] [], .fn (.func 139) [L] [], .fn (.func 140) [L] []]
theorem Jpi (i:Ins) (hi:i.ok) (r:Nat):Tells Tryz.prog 89 [JeH i (kof i.code).1 (kof i.code).2 r] (int (wrongI i r)):=by
 have hk:=Jf0 i.code
 generalize hw:wrongI i r=w
 unfold wrongI at hw
 generalize kof i.code = kk at *
 obtain ⟨k,x⟩:=kk
 dsimp only at hw hk⊢
 generalize he1:(if k=0 then 5 else 0:Int)=e1
 generalize he2:(if k=1∧(i.k % 4≠0∨64≤i.k) then 6 else 0:Int)=e2
 generalize he3:(if (k=3∨k=6∨k=8∨k=9)∧16≤i.k then 7 else 0:Int)=e3
 generalize he4:(if x=false∧k=19∧i.k=0 then 8 else if x=false∧(k=22∨k=23)∧31 < i.k then 9 else 0:Int)=e4
 generalize he5:(if (k=13∧r≤i.k)∨(25≤k∧(r≤i.jt∨r≤i.jf)) then 10 else 0:Int)=e5
 have s1:=Jq8 i k x r
 have s2:=Jq9 i k x r
 have s3:=Jra i k x r
 have s4:=JnJ i k x r
 have s5:=Jrb i hi k x r
 rw [he1] at s1;rw [he2] at s2;rw [he3] at s3;rw [he4] at s4;rw [he5] at s5
 have hw':(w:Int)=if e1≠0 then e1 else if e2≠0 then e2 else if e3≠0 then e3 else if e4≠0 then e4 else e5:=by
  subst hw he1 he2 he3 he4 he5
  clear s1 s2 s3 s4 s5
  repeat' split
  all_goals first | rfl | omega
 clear hw he1 he2 he3 he4 he5
 refine Jc Tryz.func89 rfl rfl fun nx=> ?_
 refine stp ?_
 refine Jr (fun s:Nat×Nat=> mk 28 [(16, .sl 1 5 (Jcn (Jxp (JeH i k x r)))),(17,int 5),(18,int s.1)] ⟨[], [],s.2,0⟩)
  (fun s=> s.1≤5∧(0 < s.1→e1=0)∧(1 < s.1→e2=0)∧(2 < s.1→e3=0)∧(3 < s.1→e4=0)∧(4 < s.1→e5=0)) (fun s=> 5 - s.1) ?_ ?_
 ·refine ⟨(0,_),⟨by omega,by simp,by simp,by simp,by simp,by simp⟩,Jaa rfl rfl (.cons _ .slnil) .slnil ⟨?_,Rf,Rf,trivial⟩⟩
  exact JjX ⟨⟨⟨⟨⟨trivial,rfl⟩,rfl⟩,rfl⟩,rfl⟩,rfl⟩
 ·rintro ⟨j,nx'⟩ ⟨h1,h2,h3,h4,h5,h6⟩
  dsimp only at h1 h2 h3 h4 h5 h6
  rcases j with _ | _ | _ | _ | _ | _ | j
  ·refine stp ?_
   refine ⟨⟨by dsimp only;omega,by dsimp only;omega⟩, ?_⟩
   refine stp ?_
   refine Jb rfl rfl s1 ⟨Rf,trivial⟩ fun nx=> ?_
   refine stp ?_
   intro c h;cases c
   ·have h0:=JbD h
    refine stp ?_
    refine back (1,_) ⟨by dsimp only;omega,fun _=> h0,fun h=> absurd h Dm,fun h=> absurd h Dm,fun h=> absurd h Dm,fun h=> absurd h Dm⟩ Dm (Jaa rfl rfl .slnil .slnil ⟨Rf,Rf,Rf,trivial⟩)
   ·have h0:=Jbg h
    refine stp ?_
    refine Ja rfl (Jd ?_)
    rw [hw',if_pos h0]
  ·refine stp ?_
   refine ⟨⟨by dsimp only;omega,by dsimp only;omega⟩, ?_⟩
   refine stp ?_
   refine Jb rfl rfl s2 ⟨Rf,trivial⟩ fun nx=> ?_
   refine stp ?_
   intro c h;cases c
   ·have h0:=JbD h
    refine stp ?_
    refine back (2,_) ⟨by dsimp only;omega,fun _=> h2 Om,fun _=> h0,fun h=> absurd h Dm,fun h=> absurd h Dm,fun h=> absurd h Dm⟩ Dm (Jaa rfl rfl .slnil .slnil ⟨Rf,Rf,Rf,trivial⟩)
   ·have h0:=Jbg h
    refine stp ?_
    refine Ja rfl (Jd ?_)
    rw [hw',if_neg (by simp [h2 Om]),if_pos h0]
  ·refine stp ?_
   refine ⟨⟨by dsimp only;omega,by dsimp only;omega⟩, ?_⟩
   refine stp ?_
   refine Jb rfl rfl s3 ⟨Rf,trivial⟩ fun nx=> ?_
   refine stp ?_
   intro c h;cases c
   ·have h0:=JbD h
    refine stp ?_
    refine back (3,_) ⟨by dsimp only;omega,fun _=> h2 Om,fun _=> h3 Om,fun _=> h0,fun h=> absurd h Dm,fun h=> absurd h Dm⟩ Dm (Jaa rfl rfl .slnil .slnil ⟨Rf,Rf,Rf,trivial⟩)
   ·have h0:=Jbg h
    refine stp ?_
    refine Ja rfl (Jd ?_)
    rw [hw',if_neg (by simp [h2 Om]),if_neg (by simp [h3 Om]),if_pos h0]
  ·refine stp ?_
   refine ⟨⟨by dsimp only;omega,by dsimp only;omega⟩, ?_⟩
   refine stp ?_
   refine Jb rfl rfl s4 ⟨Rf,trivial⟩ fun nx=> ?_
   refine stp ?_
   intro c h;cases c
   ·have h0:=JbD h
    refine stp ?_
    refine back (4,_) ⟨by dsimp only;omega,fun _=> h2 Om,fun _=> h3 Om,fun _=> h4 Om,fun _=> h0,fun h=> absurd h Dm⟩ Dm (Jaa rfl rfl .slnil .slnil ⟨Rf,Rf,Rf,trivial⟩)
   ·have h0:=Jbg h
    refine stp ?_
    refine Ja rfl (Jd ?_)
    rw [hw',if_neg (by simp [h2 Om]),if_neg (by simp [h3 Om]),if_neg (by simp [h4 Om]),if_pos h0]
  ·refine stp ?_
   refine ⟨⟨by dsimp only;omega,by dsimp only;omega⟩, ?_⟩
   refine stp ?_
   refine Jb rfl rfl s5 ⟨Rf,trivial⟩ fun nx=> ?_
   refine stp ?_
   intro c h;cases c
   ·have h0:=JbD h
    refine stp ?_
    refine back (5,_) ⟨by dsimp only;omega,fun _=> h2 Om,fun _=> h3 Om,fun _=> h4 Om,fun _=> h5 Om,fun _=> h0⟩ Dm (Jaa rfl rfl .slnil .slnil ⟨Rf,Rf,Rf,trivial⟩)
   ·have h0:=Jbg h
    refine stp ?_
    refine Ja rfl (Jd ?_)
    rw [hw',if_neg (by simp [h2 Om]),if_neg (by simp [h3 Om]),if_neg (by simp [h4 Om]),if_neg (by simp [h5 Om])]
  ·refine stp ?_
   refine Ja rfl (Jd ?_)
   rw [hw',if_neg (by simp [h2 Om]),if_neg (by simp [h3 Om]),if_neg (by simp [h4 Om]),if_neg (by simp [h5 Om]),h6 Om]
  ·omega
end Go.Proofs.W

namespace Go.Proofs.W
open Go.Vl
set_option maxRecDepth 100000
def okL (l:List Ins):Prop:=∀i∈l,i.ok
theorem okL.get {l:List Ins} (h:okL l) {n:Nat} (hn:n < l.length):(l.getD n ins0).ok:=by
 have:l.getD n ins0∈l:=by simp [List.getD,hn]
 exact h _ this
theorem Jbu {n i:Nat} {p:Nat→Bool} (hi:i < n) (h:p i=true) (hb:∀j,j < i→p j=false):(List.range n).find? p=some i:=by
 rw [List.find?_range_eq_some]
 exact ⟨h,by simpa using hi,by simpa using hb⟩
theorem Jca {n:Nat} {p:Nat→Bool} (hb:∀j,j < n→p j=false):(List.range n).find? p=none:=by
 rw [List.find?_range_eq_none]
 simpa using hb
theorem Jkb (c:Nat) (hc:c < 65536):Tells Tryz.prog 48 [u16 c] (.tup [int (kof c).1, .any, .any]):=(JoD c hc).le (AVle.tups (cs:= [_,_,_]) ⟨Rf,AVle.any _,AVle.any _,trivial⟩)
theorem JoE (c:Nat) (hc:c < 65536):Tells Tryz.prog 48 [u16 c] (.tup [int (kof c).1,Jg (kof c).2, .any]):=(JoD c hc).le (AVle.tups (cs:= [_,_,_]) ⟨Rf,Rf,AVle.any _,trivial⟩)
theorem Jif (l:List Ins) (hok:okL l) (hl:l.length≤1000000000):Tells Tryz.prog 46 [Jan l] (.tup [int (JV l).1,int (JV l).2]):=by
 refine Jc Tryz.func46 rfl rfl fun nx=> ?_
 refine stp ?_
 intro c g1;cases c
 ·have h1:=Jm g1
  refine stp ?_
  intro c g2;cases c
  ·have h2:=Jm g2
   refine stp ?_
   refine Jr (fun s:Nat×Nat=> mk 71 [(0,Jan l),(22,Jan l),(23,int l.length),(24,int s.1)] ⟨[], [],s.2,0⟩) (fun s=> s.1≤l.length∧∀j,j < s.1→wrongI (l.getD j ins0) (l.length - 1 - j)=0) (fun s=> l.length - s.1) ?_ ?_
   ·exact ⟨(0,nx),⟨by omega,by intro j hj;omega⟩,JH rfl rfl ⟨Rf,Rf,Rf,Rf,trivial⟩⟩
   ·rintro ⟨i,nx'⟩ ⟨h3,h4⟩
    dsimp only at h3 h4
    refine stp ?_
    intro c g3;cases c
    ·have h5:=Jm g3
     refine stp ?_
     have hw:IntKind.i64.wrap ((l.length:Int) - 1)=((l.length - 1:Nat):Int):=by rw [Jq Om Om];omega
     (conv=> whnf)
     rw [hw]
     refine ⟨⟨by omega,by omega⟩, ?_⟩
     refine stp ?_
     have hlast:(Int.toNat ((l.length - 1:Nat):Int))=l.length - 1:=by omega
     refine Jb rfl rfl (Jkb (l.getD (l.length - 1) ins0).code (hok.get Om).1) ⟨Rf,trivial⟩ fun nx=> ?_
     have hnone:(List.range l.length).find? (fun n=> wrongI (l.getD n ins0) (l.length - 1 - n) !=0)=none:=Jca fun j hj=> by simpa using h4 j Om
     refine stp ?_
     intro c g4;cases c
     ·have h6:=JbD g4
      refine stp ?_
      refine Ja rfl (AVle.of_eq ?_)
      have:JV l=(0,0):=by
       unfold JV
       rw [if_neg Om,if_neg Om,hnone]
       dsimp only
       rw [if_pos Om]
      rw [this];rfl
     ·have h6:=Jbg g4
      refine stp ?_
      intro c g5;cases c
      ·have h7:=JbD g5
       refine stp ?_
       refine Ja rfl (AVle.of_eq ?_)
       have:JV l=(0,0):=by
        unfold JV
        rw [if_neg Om,if_neg Om,hnone]
        dsimp only
        rw [if_pos Om]
       rw [this];rfl
      ·have h7:=Jbg g5
       refine stp ?_
       refine Ja rfl (AVle.of_eq ?_)
       have:JV l=(l.length - 1,11):=by
        unfold JV
        rw [if_neg Om,if_neg Om,hnone]
        dsimp only
        rw [if_neg Om]
       rw [this];rfl
    ·have h5:=Jl g3
     dsimp only at h5
     have hi:i < l.length:=by omega
     refine stp ?_
     refine ⟨⟨by dsimp only;omega,by dsimp only;omega⟩, ?_⟩
     refine stp ?_
     refine Jb rfl rfl (JoE (l.getD i ins0).code (hok.get hi).1) ⟨Rf,trivial⟩ fun nx=> ?_
     have hsx:=Jpi (l.getD i ins0) (hok.get hi) (l.length - 1 - i)
     generalize hx:(kof (l.getD i ins0).code).2=x at hsx⊢
     cases x
     all_goals
      refine stp ?_
      have hw:IntKind.i64.wrap (IntKind.i64.wrap ((l.length:Int) - 1) - (i:Int))=((l.length - 1 - i:Nat):Int):=by
       rw [Jq (n:=(l.length:Int) - 1) Om Om,Jq Om Om];omega
      refine Jb rfl rfl hsx ⟨AVle.of_eq ?_,trivial⟩ fun nx=> ?_
      ·unfold JeH;rw [← hw];rfl
      refine stp ?_
      intro c g4;cases c
      ·have h6:=JbD g4
       refine stp ?_
       refine back (i+1,_) ⟨by dsimp only;omega,fun j hj=> ?_⟩ Dm (Jaa rfl rfl (.cons _ .slnil) .slnil ⟨Rf,Rf,Rf,Jd (Jk Dm),trivial⟩)
       dsimp only at hj
       rcases Nat.lt_or_ge j i with h | h
       ·exact h4 j h
       ·obtain rfl:j=i:=by omega
        omega
      ·have h6:=Jbg g4
       refine stp ?_
       refine Ja rfl (AVle.of_eq ?_)
       have:JV l=(i,wrongI (l.getD i ins0) (l.length - 1 - i)):=by
        unfold JV
        rw [if_neg Om,if_neg Om,Jbu hi (by simp only [bne_iff_ne];omega) (fun j hj=> by simpa using h4 j hj)]
       rw [this];rfl
  ·have h2:=Jl g2
   refine stp ?_
   refine Ja rfl (AVle.of_eq ?_)
   have:JV l=(0,3):=by
    unfold JV
    rw [if_neg Om,if_pos Om]
   rw [this];rfl
 ·have h1:=Jl g1
  refine stp ?_
  refine Ja rfl (AVle.of_eq ?_)
  have:JV l=(0,4):=by
   unfold JV
   rw [if_pos Om]
  rw [this];rfl
end Go.Proofs.W

namespace Go.Proofs.W
open Go.Vl
set_option maxRecDepth 100000
def JI (l:List Nat):AV:=Jai 1 (fun n:Nat=> u8 n) 0 l
def okB (b:List Nat):Prop:=∀x∈b,x < 256
def Jpj (l:List Int):AV:=Jai 1 int 0 l
def JeZ (n:Nat) (p:Nat→Bool):Int:=match (List.range n).find? p with | some i=> (i:Nat) | none=> -1
theorem Jpk {n i:Nat} {p:Nat→Bool} (hi:i < n) (h:p i=true) (hb:∀j,j < i→p j=false):JeZ n p=(i:Nat):=by
 unfold JeZ;rw [Jbu hi h hb]
theorem Jpl {n:Nat} {p:Nat→Bool} (hb:∀j,j < n→p j=false):JeZ n p=-1:=by
 unfold JeZ;rw [Jca hb]
theorem JnK (n:Nat) (p:Nat→Bool):(∃i,i < n∧p i=true∧(∀j,j < i→p j=false)∧JeZ n p=(i:Nat))∨((∀j,j < n→p j=false)∧JeZ n p=-1):=by
 cases h:(List.range n).find? p with
 | some i=>
   have h1:=List.find?_some h
   have hi:i < n:=List.mem_range.1 (List.mem_of_find?_eq_some h)
   refine .inl ⟨i,hi,h1,fun j hj=> ?_,by unfold JeZ;rw [h]⟩
   have:=List.find?_range_eq_some.1 h
   have h4:=this.2.2 j hj
   simpa using h4
 | none=>
   refine .inr ⟨fun j hj=> ?_,by unfold JeZ;rw [h]⟩
   have:=List.find?_eq_none.1 h j (List.mem_range.2 hj)
   simpa using this
theorem JnL (l:List Int) (x:Int) (hl:l.length≤1000000000):Tells Tryz.prog 169 [Jpj l,int x] (int (JeZ l.length fun i=> decide (x=l.getD i 0))):=by
 refine Jc Tryz.func169 rfl rfl fun nx=> ?_
 refine stp ?_
 refine Jr (fun i:Nat=> mk 19 [(0,Jpj l),(1,int x),(7,int l.length),(8,int i)] ⟨[], [],nx,0⟩) (fun i=> i≤l.length∧∀j,j < i→x≠l.getD j 0) (fun i=> l.length - i) ?_ ?_
 ·exact ⟨0,⟨by omega,by intro j hj;omega⟩,JH rfl rfl ⟨Rf,Rf,Rf,Rf,trivial⟩⟩
 ·rintro i ⟨h1,h2⟩
  refine stp ?_
  intro c g;cases c
  ·have g:=Jm g
   refine stp ?_
   refine Ja rfl (Jd ?_)
   rw [Jpl fun j hj=> decide_eq_false (h2 j Om)]
  ·have g:=Jl g
   refine stp ?_
   refine ⟨Bd, ?_⟩
   refine stp ?_
   intro c g2;cases c
   ·have g2:=JO.1 g2
    refine stp ?_
    refine back (i+1) ⟨by omega,fun j hj=> ?_⟩ Om (JH rfl rfl ⟨Rf,Rf,Rf,Jd (Jk Om),trivial⟩)
    rcases Nat.lt_or_ge j i with h | h
    ·exact h2 j h
    ·obtain rfl:j=i:=by omega
     exact g2
   ·have g2:=JP.1 g2
    refine stp ?_
    refine Ja rfl (Jd ?_)
    rw [Jpk (i:=i) Om (decide_eq_true g2) fun j hj=> decide_eq_false (h2 j hj)]
theorem Jlo (l:List Int) (x:Int) (hl:l.length≤1000000000):Tells Tryz.prog 134 [Jpj l,int x] (Jg (l.contains x)):=by
 refine Jc Tryz.func134 rfl rfl fun nx=> ?_
 refine stp ?_
 refine Jb rfl rfl (JnL l x hl) ⟨Rf,Rf,trivial⟩ fun nx=> ?_
 refine stp ?_
 intro c hc
 refine stp ?_
 refine Ja rfl (Jn (hc.trans ?_))
 rcases JnK l.length (fun i=> decide (x=l.getD i 0)) with ⟨i,h1,h2,h3,h4⟩ | ⟨h1,h2⟩
 ·rw [h4]
  have h2:=of_decide_eq_true h2
  have:x∈l:=by rw [h2];simp [List.getD,h1]
  simp [this]
 ·rw [h2]
  have:¬x∈l:=fun hm=> by
   obtain ⟨i,hi,he⟩:=List.getElem_of_mem hm
   have:=of_decide_eq_false (h1 i hi)
   exact this (by simp [List.getD,hi,he])
  simp [this]
def okW (w:Nat):Prop:=w=1∨w=2∨w=4∨w=8
def okI (n:Int):Prop:=-9223372036854775808≤n∧n≤9223372036854775807
def JbE (n:Nat) (at':Int) (w:Nat):Nat:=if 0≤at'∧at'+w≤n then 0 else 2
theorem Jjj (b:List Nat) (at':Int) (w:Nat) (hw:okW w) (hl:b.length≤1000000000) (ha:okI at'):Tells Tryz.prog 87 [JI b,int at',int w] (int (JbE b.length at' w)):=by
 refine Jc Tryz.func87 rfl rfl fun nx=> ?_
 refine stp ?_
 refine Jb rfl rfl (Jlo [1,2,4,8] w Dc) ⟨?_,Rf,trivial⟩ fun nx=> ?_
 ·refine AVle.os_sl.trans (AVle.sl_fun fun k hk=> ?_)
  match k,hk with
  | 0,_=> rfl
  | 1,_=> rfl
  | 2,_=> rfl
  | 3,_=> rfl
 intro c hc
 obtain rfl:c=true:=by rw [hc];rcases hw with rfl | rfl | rfl | rfl <;> rfl
 refine stp ?_
 intro c g;cases c
 ·have g:=Jm g
  refine stp ?_
  intro c g2;cases c
  ·have g2:=Jm g2
   rw [Jq (by rcases hw with rfl | rfl | rfl | rfl <;> omega) Om] at g2
   refine stp ?_
   refine Ja rfl (Jd ?_)
   unfold JbE;rw [if_pos Om];rfl
  ·have g2:=Jl g2
   rw [Jq (by rcases hw with rfl | rfl | rfl | rfl <;> omega) Om] at g2
   refine stp ?_
   refine Ja rfl (Jd ?_)
   unfold JbE;rw [if_neg Om];rfl
 ·have g:=Jl g
  refine stp ?_
  refine Ja rfl (Jd ?_)
  unfold JbE;rw [if_neg Om];rfl
def Jx (at' w:Nat) (big:Bool):List Nat:=(List.range w).map fun i=> if big then at'+i else at'+w - 1 - i
theorem Ja4 (at' w:Nat) (big:Bool):(Jx at' w big).length=w:=by simp [Jx]
theorem Jig {at' w i:Nat} {big:Bool} (h:i < w):(Jx at' w big).getD i 0=if big then at'+i else at'+w - 1 - i:=by
 simp [Jx,List.getD,List.getElem?_map,List.getElem?_range h]
theorem Jih (at':Int) (w:Int) (big:Bool):Tells Tryz.prog 88 [int at',int w,Jg big] (.fn (.func 135) [] [.rp [int w], .rp [int at'], .rp [Jg big]]):=by
 refine Jc Tryz.func88 rfl rfl fun nx=> ?_
 (repeat ((conv=>whnf);first|refine ω0 ?_|refine ω1 ?_|refine ω2 ?_|refine ω3 ?_|refine ω4 rfl ?_|refine ω5 rfl ?_|refine ω6 ?_|refine ω7 ?_|refine ⟨rfl,?_⟩|refine ⟨trivial,?_⟩|refine ⟨⟨rfl,Nat.le_of_ble_eq_true rfl⟩,?_⟩|refine ⟨⟨by kernel_rfl,by kernel_rfl⟩,?_⟩|refine ⟨by decide,?_⟩|refine Jcd ?_|refine JbO ?_))
 refine AW.le (JaO (L:= [(6, .fn (.func 135) [] [.rp [int w], .rp [int at'], .rp [Jg big]])]) (bx:= []) (pm:= []) (nn:=3) [((2,nx+2), .c [Jg big]),((1,nx+1), .c [int w]),((0,nx), .c [int at'])] rfl rfl Sf .slnil ⟨Frz.fn trivial ⟨Frz.bp (.tail _ (.head _)) rfl,Frz.bp (.tail _ (.tail _ (.head _))) rfl,Frz.bp (.head _) rfl,trivial⟩,trivial⟩) ?_
 refine stp ?_
 exact Ja rfl Rf
theorem Jii (at' w:Nat) (big:Bool) (hw:w≤8) (ha:at'≤1000000000):IterSpec Tryz.prog 135 [] [.rp [int w], .rp [int at'], .rp [Jg big]] (fun k:Nat=> [int k]) (Jx at' w big):=by
 intro i σ Cb Cp I J hc s0 nx nn h0
 refine JS Tryz.func135 rfl rfl ?_
 refine stp ?_
 refine Jr (fun x:Nat×σ×Nat=> mk 26 [(0, .yl i),(1, .rp [int w]),(2, .rp [int at']),(3, .rp [Jg big]),(7,int w),(8,int x.1)] ⟨Cb x.2.1,Cp x.2.1,x.2.2,nn⟩) (fun x=> x.1≤w∧I ((Jx at' w big).take x.1) x.2.1) (fun x=> w - x.1) ?_ ?_
 ·exact ⟨(0,s0,nx),⟨by dsimp only;omega,by simpa using h0⟩,JH rfl rfl ⟨Rf,Rf,Rf,Rf,Rf,Rf,trivial⟩⟩
 ·rintro ⟨j,s,nx'⟩ ⟨h1,h2⟩
  dsimp only at h1 h2
  refine stp ?_
  intro c g;cases c
  ·have g:=Jm g
   dsimp only at g
   refine stp ?_
   refine Jz rfl ⟨s, .inl ?_,rfl,rfl⟩
   rw [List.take_of_length_le (by rw [Ja4];omega)] at h2
   exact h2
  ·have g:=Jl g
   dsimp only at g
   have hj:j < w:=by omega
   have hsp:Jx at' w big=(Jx at' w big).take j++(Jx at' w big).getD j 0::(Jx at' w big).drop (j+1):=by
    have hlt:j < (Jx at' w big).length:=by rw [Ja4];exact hj
    simp [List.getD,hlt]
   have hst:(Jx at' w big).take (j+1)=(Jx at' w big).take j++ [(Jx at' w big).getD j 0]:=Jcy 0 (by rw [Ja4];exact hj)
   have hgt:=Jig (at':=at') (w:=w) (i:=j) (big:=big) hj
   generalize Jx at' w big = xs at *
   refine stp ?_
   cases big
   all_goals refine stp ?_
   ·simp only [Bool.false_eq_true,if_false] at hgt
    refine JbR (pre:=xs.take j) (post:=xs.drop (j+1)) (x:=xs.getD j 0) (s:=s) [] [] rfl rfl rfl hc hsp h2 ⟨Jd ?_,trivial⟩ (fun s' nx5 hI=> ?_) (fun s' nx5 hJ=> ?_)
    ·rw [hgt]
     dsimp only
     rw [Jq (n:=(at':Int)+w) Om Om,Jq (n:=(at':Int)+w - 1) Om Om,Jq Om Om]
     omega
    ·refine stp ?_
     exact back (j+1,s',nx5) ⟨by dsimp only;omega,by dsimp only;rw [hst];exact hI⟩ Dm (JH rfl rfl ⟨Rf,Rf,Rf,Rf,Rf,Jd (Jk Dm),trivial⟩)
    ·refine stp ?_
     exact Jz rfl ⟨s', .inr ⟨_,_,_,hsp,hJ⟩,rfl,rfl⟩
   ·simp only [if_true] at hgt
    refine JbR (pre:=xs.take j) (post:=xs.drop (j+1)) (x:=xs.getD j 0) (s:=s) [] [] rfl rfl rfl hc hsp h2 ⟨Jd ?_,trivial⟩ (fun s' nx5 hI=> ?_) (fun s' nx5 hJ=> ?_)
    ·rw [hgt]
     dsimp only
     rw [Jq Om Om]
     omega
    ·refine stp ?_
     exact back (j+1,s',nx5) ⟨by dsimp only;omega,by dsimp only;rw [hst];exact hI⟩ Dm (JH rfl rfl ⟨Rf,Rf,Rf,Rf,Rf,Jd (Jk Dm),trivial⟩)
    ·refine stp ?_
     exact Jz rfl ⟨s', .inr ⟨_,_,_,hsp,hJ⟩,rfl,rfl⟩
def JbI (b:List Nat) (ks:List Nat):Nat:=ks.foldl (fun n k=> n * 256+b.getD k 0) 0
theorem JkP (b ks:List Nat) (k:Nat):JbI b (ks++ [k])=JbI b ks * 256+b.getD k 0:=by simp [JbI]
theorem okB.get {b:List Nat} (h:okB b) (k:Nat):b.getD k 0 < 256:=by
 rcases Nat.lt_or_ge k b.length with hk | hk
 ·have e:b.getD k 0=b[k]:=by simp [List.getD,hk]
  rw [e];exact h _ (List.getElem_mem hk)
 ·simp [List.getD,List.getElem?_eq_none hk]
theorem JoF {b:List Nat} (h:okB b):∀(ks:List Nat) (n:Nat),ks.foldl (fun n k=> n * 256+b.getD k 0) n+1≤(n+1) * 256 ^ ks.length
 | [],n=> by simp
 | k::ks,n=> by
   have h1:=JoF h ks (n * 256+b.getD k 0)
   have h2:=h.get k
   rw [List.foldl_cons,List.length_cons,Nat.pow_succ]
   refine Nat.le_trans h1 ?_
   rw [Nat.mul_comm (256 ^ ks.length) 256,← Nat.mul_assoc]
   exact Nat.mul_le_mul_right _ Om
theorem JhR {b:List Nat} (h:okB b) (ks:List Nat):JbI b ks < 256 ^ ks.length:=by
 have:=JoF h ks 0
 simp only [Nat.zero_add,Nat.one_mul] at this
 exact this
theorem Jvz {n x:Nat} (hn:n < 72057594037927936) (hx:x < 256):JU .or .u64 (IntKind.u64.wrap ((n:Int) * 2 ^ 8)) (IntKind.u64.wrap (x:Int))=((n * 256+x:Nat):Int):=by
 have h1:IntKind.u64.wrap ((n:Int) * 2 ^ 8)=((n * 256:Nat):Int):=by
  have:((n:Int) * 2 ^ 8)=((n * 256:Nat):Int):=by push_cast;rfl
  rw [this]
  show ((n * 256:Nat):Int) % 18446744073709551616=_
  omega
 have h2:IntKind.u64.wrap (x:Int)=(x:Int):=by show (x:Int) % 18446744073709551616=_;omega
 rw [h1,h2]
 have h3:n * 256||| x=n * 256+x:=by
  have:=Nat.two_pow_add_eq_or_of_lt (i:=8) (b:=x) Om n
  rw [Nat.mul_comm] at this
  exact this.symm
 have:=JfZ (k:= .u64) (a:=n * 256) (b:=x) (by show _ < 2 ^ 64;omega) (by show _ < 2 ^ 64;omega) (by rw [h3];show ((n * 256+x:Nat):Int) % 18446744073709551616=_;omega)
 rw [h3] at this
 exact this
theorem JiD (b:List Nat) (hb:okB b) (hl:b.length≤1000000000) (at':Int) (ha:okI at') (w:Nat) (hw:okW w) (big:Bool):
 Tells Tryz.prog 45 [JI b,int at',int w,Jg big] (.tup [u64 (if JbE b.length at' w=0 then JbI b (Jx at'.toNat w big) else 0:Nat),int (JbE b.length at' w)]):=by
 have hw8:w≤8:=by rcases hw with rfl | rfl | rfl | rfl <;> omega
 refine Jc Tryz.func45 rfl rfl fun nx=> ?_
 refine stp ?_
 refine Jb rfl rfl (Jjj b at' w hw hl ha) ⟨Rf,Rf,Rf,trivial⟩ fun nx1=> ?_
 refine stp ?_
 intro c g1;cases c
 ·have g1:=JbD g1
  have hz:JbE b.length at' w=0:=by omega
  obtain ⟨n,rfl⟩:∃n:Nat,at'=n:=⟨at'.toNat,by unfold JbE at hz;split at hz <;> omega⟩
  have hn:n+w≤b.length:=by unfold JbE at hz;split at hz <;> omega
  refine stp ?_
  refine Jb rfl rfl (Jih n w big) ⟨Rf,Rf,Rf,trivial⟩ fun nx2=> ?_
  refine stp ?_
  refine AW.le (JH (L:= [(4, .bp (0,nx) 0),(11, .bp (1,nx1) 0),(23, .fn (.func 135) [] [.rp [int w], .rp [int n], .rp [Jg big]])]) rfl rfl ⟨Rf,Rf,Rf,trivial⟩) ?_
  refine Jmd (σ:=Nat) (α:=Nat) (e:=fun k:Nat=> [int k]) (xs:=Jx n w big) (first':= []) (caps':= [.rp [int w], .rp [int n], .rp [Jg big]]) (fun x:Nat=> [((1,nx1), .c [u64 x]),((0,nx), .c [JI b])]) (fun _=> [])
   (fun pre x=> x=JbI b pre) (fun _ _ _=> False) 0 rfl rfl (Jii n w big hw8 Om) trivial (LeL.refl _) rfl rfl rfl (fun _=> rfl) ?_ ?_
  ·intro pre x post s nx3 nn3 hx hs
   subst hs
   have hlen:pre.length < w:=by rw [← Ja4 n w big,hx];simp
   have hxb:x < b.length:=by
    have:x∈Jx n w big:=by rw [hx];simp
    obtain ⟨i,hi,rfl⟩:=List.mem_map.1 this
    have:=List.mem_range.1 hi
    split <;> omega
   have hacc:JbI b pre < 72057594037927936:=Nat.lt_of_lt_of_le (JhR hb pre) (Nat.le_trans (Nat.pow_le_pow_right Dc (by omega:pre.length≤7)) Dc)
   refine stp ?_
   (refine Jy 8 ?_ ?_ ?_ ?_;(· kernel_rfl);(· kernel_rfl);(· kernel_rfl))
   refine stp ?_
   refine ⟨Bd, ?_⟩
   refine stp ?_
   have hv:JU .or .u64 (IntKind.u64.wrap ((JbI b pre:Nat) * 2 ^ 8)) (IntKind.u64.wrap (b.getD x 0:Nat))=((JbI b (pre++ [x]):Nat):Int):=by rw [JkP];exact Jvz hacc (hb.get x)
   exact ⟨JbI b (pre++ [x]), .inl ⟨rfl,rfl⟩,congrArg (fun v:Int=> _::_::((1,nx1),Own.c [u64 v])::_) hv,rfl⟩
  ·intro s' nx3 nn3 hs
   subst hs
   refine stp ?_
   have hv:(if JbE b.length (n:Int) w=0 then JbI b (Jx (Int.toNat (n:Int)) w big) else 0)=JbI b (Jx n w big):=if_pos hz
   refine Ja (r:=AV.tup [u64 (JbI b (Jx n w big):Nat),int (0:Nat)]) rfl (AVle.of_eq ?_)
   rw [hv,hz]
 ·have g1:=Jbg g1
  refine stp ?_
  refine Ja rfl (AVle.of_eq ?_)
  rw [if_neg Om]
  rfl
end Go.Proofs.W

namespace Go.Proofs.W
structure Cnd where
 arg:Int
 op:Int
 mask:Nat
 value:Nat
deriving DecidableEq
def cnd0:Cnd:=⟨0,0,0,0⟩
def Cnd.ok (c:Cnd):Prop:=c.mask < 18446744073709551616∧c.value < 18446744073709551616
def Jaf (c:Cnd):Bool:=decide (0≤c.arg)&& decide (c.arg≤5)&& decide (1≤c.op)&& decide (c.op≤7)&& (decide (c.op=7)|| decide (c.mask=0))
def Jf1 (c:Cnd) (a:Nat):Bool:=
 if c.op=1 then decide (a=c.value)
 else if c.op=2 then !decide (a=c.value)
 else if c.op=3 then decide (a < c.value)
 else if c.op=4 then decide (a≤c.value)
 else if c.op=5 then decide (a > c.value)
 else if c.op=6 then decide (a≥c.value)
 else decide (a&&& c.mask=c.value)
theorem JdR {c:Cnd}:Jaf c=true↔0≤c.arg∧c.arg≤5∧1≤c.op∧c.op≤7∧(c.op=7∨c.mask=0):=by
 simp [Jaf,and_assoc]
end Go.Proofs.W

namespace Go.Proofs.W
open Go.Vl
set_option maxRecDepth 100000
def J6 (c:Cnd):AV:= .ag [int c.arg,int c.op,u64 c.mask,u64 c.value]
def JaU (l:List Cnd):AV:=Jai 4 J6 cnd0 l
theorem Jgr (c:Cnd):Tells Tryz.prog 143 [J6 c] (Jg (Jaf c)):=by
 refine Jc Tryz.func143 rfl rfl fun nx=> ?_
 (repeat' (refine stp ?_;intro c h;cases c))
 all_goals
  refine stp ?_
  refine Ja rfl (Jn ?_)
  (try simp only [JO, JP, JaJ, JaK, Jbd, Jbe] at *)
  simp [Jaf]
  omega
theorem Jf2 {a b:Int} (h:a=b):AVle (.v (.int .u64 a)) (u64 b):=h ▸ Rf
def fn0 (f:Nat):AV:= .fn (.func f) [] []
end Go.Proofs.W

namespace Go.Proofs.W
open Go.Vl
set_option maxRecDepth 100000
theorem NoId.fm {es:List (Value×AV)} (h:∀p∈es,NoId p.2):NoId (.fm es):=fun w X g g' u hr=> by
 cases hr with
 | fm _ b ents hb hx hn hk hr=> exact .fm es b ents hb hx hn hk fun k p e hp he=> h p (List.mem_of_getElem? hp) w X g g' _ (hr k p e hp he)
theorem JmC (c:Cnd):Tells Tryz.prog 35 [J6 c] (Jg (Jaf c)):=by
 refine Jc Tryz.func35 rfl rfl fun nx=> ?_
 (repeat' (refine stp ?_;intro c h;cases c))
 all_goals
  refine stp ?_
  refine Ja rfl (Jn ?_)
  (try simp only [JO, JP, JaJ, JaK, Jbd, Jbe] at *)
  simp [Jaf]
  omega
theorem JoG {a b:Nat} (ha:a < 18446744073709551616) (hb:b < 18446744073709551616):JU .and .u64 a b=((a&&& b:Nat):Int):=
 Jgn (k:= .u64) ha hb (by
  have:a&&& b≤a:=Nat.and_le_left
  simp [IntKind.wrap,IntKind.signed,IntKind.bits] at this⊢
  omega)
end Go.Proofs.W

namespace Go.Proofs.W
open Go.Vl
set_option maxRecDepth 100000
theorem Jpm (a:Nat) (c:Cnd):Tells Tryz.prog 201 [u64 a,J6 c] (Jg (decide (a=c.value))):=by
 refine Jc Tryz.func201 rfl rfl fun nx=> ?_
 refine stp ?_
 intro c h;cases c
 all_goals
  refine stp ?_
  refine Ja rfl (Jn ?_)
  (try simp only [JO, JP, JaJ, JaK, Jbd, Jbe] at *)
  first | omega | (simp;omega)
theorem Jpn (a:Nat) (c:Cnd):Tells Tryz.prog 202 [u64 a,J6 c] (Jg (!decide (a=c.value))):=by
 refine Jc Tryz.func202 rfl rfl fun nx=> ?_
 refine stp ?_
 intro c h;cases c
 all_goals
  refine stp ?_
  refine Ja rfl (Jn ?_)
  (try simp only [JO, JP, JaJ, JaK, Jbd, Jbe] at *)
  first | omega | (simp;omega)
theorem Jpo (a:Nat) (c:Cnd):Tells Tryz.prog 203 [u64 a,J6 c] (Jg (decide (a < c.value))):=by
 refine Jc Tryz.func203 rfl rfl fun nx=> ?_
 refine stp ?_
 intro c h;cases c
 all_goals
  refine stp ?_
  refine Ja rfl (Jn ?_)
  (try simp only [JO, JP, JaJ, JaK, Jbd, Jbe] at *)
  first | omega | (simp;omega)
theorem Jpp (a:Nat) (c:Cnd):Tells Tryz.prog 204 [u64 a,J6 c] (Jg (decide (a≤c.value))):=by
 refine Jc Tryz.func204 rfl rfl fun nx=> ?_
 refine stp ?_
 intro c h;cases c
 all_goals
  refine stp ?_
  refine Ja rfl (Jn ?_)
  (try simp only [JO, JP, JaJ, JaK, Jbd, Jbe] at *)
  first | omega | (simp;omega)
theorem Jpq (a:Nat) (c:Cnd):Tells Tryz.prog 205 [u64 a,J6 c] (Jg (decide (a > c.value))):=by
 refine Jc Tryz.func205 rfl rfl fun nx=> ?_
 refine stp ?_
 intro c h;cases c
 all_goals
  refine stp ?_
  refine Ja rfl (Jn ?_)
  (try simp only [JO, JP, JaJ, JaK, Jbd, Jbe] at *)
  first | omega | (simp;omega)
theorem Jpr (a:Nat) (c:Cnd):Tells Tryz.prog 206 [u64 a,J6 c] (Jg (decide (a≥c.value))):=by
 refine Jc Tryz.func206 rfl rfl fun nx=> ?_
 refine stp ?_
 intro c h;cases c
 all_goals
  refine stp ?_
  refine Ja rfl (Jn ?_)
  (try simp only [JO, JP, JaJ, JaK, Jbd, Jbe] at *)
  first | omega | (simp;omega)
theorem Jps (a:Nat) (c:Cnd) (ha:a < 18446744073709551616) (ho:c.ok):Tells Tryz.prog 207 [u64 a,J6 c] (Jg (decide (a&&& c.mask=c.value))):=by
 refine Jc Tryz.func207 rfl rfl fun nx=> ?_
 refine stp ?_
 intro c h;cases c
 all_goals
  rw [JoG ha ho.1] at h
  refine stp ?_
  refine Ja rfl (Jn ?_)
  (try simp only [JO, JP, JaJ, JaK, Jbd, Jbe] at *)
  first | omega | (simp;omega)
def Jj (s:ByteArray):AV:= .v (.string s)
def Jpt:List AV:= [
 .ag [Jj ⟨#[61,61]⟩,fn0 201],
 .ag [Jj ⟨#[33,61]⟩,fn0 202],
 .ag [Jj ⟨#[60]⟩,fn0 203],
 .ag [Jj ⟨#[60,61]⟩,fn0 204],
 .ag [Jj ⟨#[62]⟩,fn0 205],
 .ag [Jj ⟨#[62,61]⟩,fn0 206],
 .ag [Jj ⟨#[38]⟩,fn0 207]]
theorem Js1:Tells Tryz.prog 165 [] (.sl 2 7 (Jcn Jpt)):=by
 refine Jc Tryz.func165 rfl rfl fun nx=> ?_
 refine stp ?_
 refine Ja rfl (JjX ⟨⟨⟨⟨⟨⟨⟨trivial,rfl⟩,rfl⟩,rfl⟩,rfl⟩,rfl⟩,rfl⟩,rfl⟩)
def Jt8 (a0 a1 a2 a3 a4 a5:Nat):AV:= .ag [u64 a0,u64 a1,u64 a2,u64 a3,u64 a4,u64 a5]
theorem Jrc (c:Cnd):NoId (J6 c):=NoId.ag (by intro y hy;simp only [List.mem_cons,List.not_mem_nil,or_false] at hy;rcases hy with rfl | rfl | rfl | rfl <;> exact NoId.v _)
theorem Js2:NoId (.sl 2 7 (Jcn Jpt)):=NoId.sl (by
 intro i hi x hx
 match i,hi with
 | 0,_ | 1,_ | 2,_ | 3,_ | 4,_ | 5,_ | 6,_=> rcases List.mem_cons.1 hx with rfl | hx;exact NoId.v _;rcases List.mem_cons.1 hx with rfl | hx;exact NoId.fn (by simp) (by simp);cases hx)
theorem ixc {c i:Nat} (h:c=1):0+Int.toNat ((i:Nat):Int) * c=i:=by subst h;omega
theorem JcZ (c:Cnd) (a0 a1 a2 a3 a4 a5:Nat) (hr:Jaf c=true) (k f:Nat) (hk:c.op=k+1) (hk7:k < 7) (s:AV) (hf:Jcn Jpt k= .ag [s,fn0 f]) (b:Bool)
 (hb:Tells Tryz.prog f [u64 ([a0,a1,a2,a3,a4,a5].getD c.arg.toNat 0:Nat),J6 c] (Jg b)):
 Tells Tryz.prog 125 [J6 c,Jt8 a0 a1 a2 a3 a4 a5] (Jg b):=by
 obtain ⟨h1,h2,h3,h4,h5⟩:=JdR.1 hr
 obtain ⟨arg,op,mask,value⟩:=c
 dsimp only at h1 h2 h3 h4 h5 hk
 obtain ⟨i,rfl⟩:∃i:Nat,arg=i:=⟨arg.toNat,by omega⟩
 replace h2:i≤5:=by omega
 refine Jc Tryz.func125 rfl rfl fun nx=> ?_
 refine stp ?_
 (refine Jy 17 ?_ ?_ ?_ ?_;(· kernel_rfl);(· kernel_rfl);(· kernel_rfl))
 refine stp ?_
 refine Jb9 (JaG rfl rfl (Jgr _) ⟨Rf,trivial⟩ (NoId.v _)) ?_
 rw [hr]
 refine stp ?_
 refine Jb9 (JaG rfl rfl Js1 trivial Js2) ?_
 have hx:IntKind.i64.wrap (op - 1)=(k:Int):=by rw [Jq Om Om];omega
 refine stp ?_
 refine ⟨⟨by rw [hx];omega,by rw [hx];omega⟩,Jh (b:= .rp [s,fn0 f]) (by rw [hx];show AV.rp (Jcn Jpt k).cells=_;rw [hf];rfl) ?_⟩
 refine stp ?_
 refine ⟨⟨h1,by show (i:Int) < (6:Int);omega⟩,Jh (b:= .bp (1,nx+1) i) (congrArg (AV.bp (1,nx+1)) (ixc (by kernel_rfl))) ?_⟩
 (conv=> whnf)
 refine ⟨⟨rfl,by show i+1≤6;omega⟩,Jh (b:=u64 ([a0,a1,a2,a3,a4,a5].getD i 0:Nat)) (by
  match i,h2 with
  | 0,_ | 1,_ | 2,_ | 3,_ | 4,_ | 5,_=> rfl) ?_⟩
 refine stp ?_
 refine Jb9 (JaG rfl rfl hb ⟨Rf,Rf,trivial⟩ (NoId.v _)) ?_
 cases b
 ·refine stp ?_
  exact Ja rfl Rf
 ·refine stp ?_
  exact Ja rfl Rf
theorem Jpu (c:Cnd) (a0 a1 a2 a3 a4 a5:Nat) (ho:c.ok) (ha:∀i, [a0,a1,a2,a3,a4,a5].getD i 0 < 18446744073709551616):
 Tells Tryz.prog 125 [J6 c,Jt8 a0 a1 a2 a3 a4 a5] (Jg (Jaf c&& Jf1 c ([a0,a1,a2,a3,a4,a5].getD c.arg.toNat 0))):=by
 cases hr:Jaf c
 ·refine Jc Tryz.func125 rfl rfl fun nx=> ?_
  refine stp ?_
  (refine Jy 17 ?_ ?_ ?_ ?_;(· kernel_rfl);(· kernel_rfl);(· kernel_rfl))
  refine stp ?_
  refine Jb9 (JaG rfl rfl (Jgr c) ⟨Rf,trivial⟩ (NoId.v _)) ?_
  rw [hr]
  refine stp ?_
  exact Ja rfl Rf
 ·have hop:=JdR.1 hr
  rw [Bool.true_and]
  have ha':=ha c.arg.toNat
  obtain ⟨arg,op,mask,value⟩:=c
  dsimp only at hop ha'
  have h7:op=1∨op=2∨op=3∨op=4∨op=5∨op=6∨op=7:=by omega
  rcases h7 with rfl | rfl | rfl | rfl | rfl | rfl | rfl
  ·exact JcZ _ _ _ _ _ _ _ hr 0 _ rfl Dc _ rfl _ (Jpm _ _)
  ·exact JcZ _ _ _ _ _ _ _ hr 1 _ rfl Dc _ rfl _ (Jpn _ _)
  ·exact JcZ _ _ _ _ _ _ _ hr 2 _ rfl Dc _ rfl _ (Jpo _ _)
  ·exact JcZ _ _ _ _ _ _ _ hr 3 _ rfl Dc _ rfl _ (Jpp _ _)
  ·exact JcZ _ _ _ _ _ _ _ hr 4 _ rfl Dc _ rfl _ (Jpq _ _)
  ·exact JcZ _ _ _ _ _ _ _ hr 5 _ rfl Dc _ rfl _ (Jpr _ _)
  ·exact JcZ _ _ _ _ _ _ _ hr 6 _ rfl Dc _ rfl _ (Jps _ _ ha' ho)
end Go.Proofs.W

namespace Go.Proofs
open Go.Shelf
shelf_lay Lays.n160 Nm 160 at Tryz as Tryz.lays160
shelf_lay Lays.n137 Nm 137 at Tryz as Tryz.lays137
end Go.Proofs
namespace Go.Proofs.W
open Go.Vl Go.Shelf
set_option maxRecDepth 100000
def lettersB:ByteArray:=⟨#[97,98,99,100,101,102,103,104,105,106,107,108,109,110,111,112,113,114,115,116,117,118,119,120,121,122]⟩
def signsB:ByteArray:=⟨#[97,98,99,100,101,102,103,104,105,106,107,108,109,110,111,112,113,114,115,116,117,118,119,120,121,122,48,49,50,51,52,53,54,55,56,57,95]⟩
theorem Jrd (s:ByteArray) (hs:s.size≤9223372036854775807):Tells Tryz.prog 144 [.v (.string s), .v (.string signsB)] (.v (.string ⟨(Lib.trimS s.data.toList signsB.data.toList).toArray⟩)):=
 Jef (vs:= [.string s, .string signsB]) ⟨_,Tryz.func144,rfl,rfl⟩ fun w=> Any.strings_Trim_laid Tryz.lays160 (by kernel_rfl) s signsB w hs Dc (ascii_of_all Dc)
theorem JmD (s:ByteArray) (c:Int):Tells Tryz.prog 145 [.v (.string s), .v (.int .u8 c)] (.v (.int .i64 (Lib.indexByte s.data.toList c.toNat.toUInt8))):=
 Jef (vs:= [.string s, .int .u8 c]) ⟨_,Tryz.func145,rfl,rfl⟩ fun w=> (Any.strings_IndexByte Tryz.lays137 s c w).mono fun e w' ⟨h1,h2⟩=> ⟨h1,by subst h2;exact ⟨rfl,rfl,rfl,Nat.le_refl _,fun _ _=> rfl⟩⟩
theorem Jfy {p:UInt8→Bool}:∀ {l:List UInt8},l.dropWhile p= []↔l.all p=true
 | []=> by simp
 | x::l=> by
   rw [List.dropWhile_cons,List.all_cons]
   cases h:p x
   ·simp
   ·simp only [if_true,Bool.true_and];exact Jfy
theorem Jjk {p:UInt8→Bool}:∀ {l:List UInt8} {y:UInt8} {ys:List UInt8},l.dropWhile p=y::ys→p y=false
 | [],y,ys,h=> by simp at h
 | x::l,y,ys,h=> by
   rw [List.dropWhile_cons] at h
   cases hx:p x
   ·rw [hx] at h
    simp at h
    rw [← h.1];exact hx
   ·rw [hx] at h
    simp only [if_true] at h
    exact Jjk h
theorem JkQ (l cs:List UInt8):Lib.trimS l cs= []↔l.all (cs.contains ·)=true:=by
 unfold Lib.trimS Lib.trimLeftS Lib.trimRightS
 rw [Jfy,List.all_reverse]
 constructor
 ·intro h
  cases hq:l.reverse.dropWhile (cs.contains ·) with
  | nil=> rw [Jfy,List.all_reverse] at hq;exact hq
  | cons y ys=>
    have hy:=Jjk hq
    rw [hq,List.all_cons,hy] at h
    cases h
 ·intro h
  have:l.reverse.dropWhile (cs.contains ·)= []:=by rw [Jfy,List.all_reverse];exact h
  rw [this];rfl
theorem Jpv (l:List UInt8) (c:UInt8):(0≤Lib.indexByte l c↔c∈l)∧-1≤Lib.indexByte l c:=by
 induction l with
 | nil=> simp [Lib.indexByte]
 | cons b l ih=>
   obtain ⟨h1,h2⟩:=ih
   unfold Lib.indexByte
   by_cases hb:b=c
   ·subst hb;simp
   ·have hbe:(b ==c)=false:=by simpa using hb
    rw [hbe]
    simp only [Bool.false_eq_true,if_false]
    by_cases hi:Lib.indexByte l c=-1
    ·have:¬c∈l:=fun h=> by have:=h1.2 h;omega
     rw [if_pos (by rw [hi];rfl)]
     simp [this,Ne.symm hb]
    ·rw [if_neg (by simpa using hi)]
     have hm:c∈l:=h1.1 Om
     simp [hm]
     omega
def Jdz:List UInt8:= [100,101,102,97,117,108,116]
def JiE:List UInt8:= [120,51,50]
def J1 (l:List UInt8):Bool:= !(l == [])&& (!(l ==Jdz)&& (!(l ==JiE)&& (decide (l.length≤30)&& (l.all (signsB.data.toList.contains ·)&& lettersB.data.toList.contains (l.headD 0)))))
theorem Jpw {l:List UInt8} (h:false= !(l == [])):J1 l=false:=by rw [J1,← h];rfl
theorem Jpx {l:List UInt8} (h:false= !(l ==Jdz)):J1 l=false:=by rw [J1,← h];simp
theorem Jpy {l:List UInt8} (h:false= !(l ==JiE)):J1 l=false:=by rw [J1,← h];simp
theorem Jpz {l:List UInt8} (h:¬l.length≤30):J1 l=false:=by rw [J1,decide_eq_false h];simp
theorem JpA {l : List UInt8} (h : ¬ l.all (signsB.data.toList.contains ·) = true) : J1 l = false := by rw [J1, Bool.not_eq_true _ |>.mp h]; simp
theorem Js3 {l:List UInt8} (h1:true= !(l == [])) (h2:true= !(l ==Jdz)) (h3:true= !(l ==JiE)) (h4:l.length≤30) (h5:l.all (signsB.data.toList.contains ·)=true):J1 l=lettersB.data.toList.contains (l.headD 0):=by
 rw [J1,← h1,← h2,← h3,decide_eq_true h4,h5];rfl
theorem JmE {s:ByteArray} (h:¬s.data.toList= []):0 < s.size:=by
 rcases Nat.eq_zero_or_pos s.size with h0 | h0
 ·exfalso;apply h
  have:s.data.toList.length=0:=h0
  exact List.length_eq_zero_iff.1 this
 ·exact h0
theorem Jre (l:List UInt8):(⟨l.toArray⟩:ByteArray).toList=l:=by rw [Lib.toList_data]
theorem Jjl (s:ByteArray) (hs:s.size≤9223372036854775807):Tells Tryz.prog 97 [.v (.string s)] (Jg (J1 s.data.toList)):=by
 have hsz:s.size=s.data.toList.length:=rfl
 refine Jc Tryz.func97 rfl rfl fun nx=> ?_
 refine stp ?_
 intro c t1
 rw [Lib.toList_data,Lib.toList_data] at t1
 cases c
 ·refine stp ?_
  exact Ja rfl (Jn (Jpw t1).symm)
 refine stp ?_
 intro c t2
 rw [Lib.toList_data,Lib.toList_data] at t2
 cases c
 ·refine stp ?_
  exact Ja rfl (Jn (Jpx t2).symm)
 refine stp ?_
 intro c t3
 rw [Lib.toList_data,Lib.toList_data] at t3
 cases c
 ·refine stp ?_
  exact Ja rfl (Jn (Jpy t3).symm)
 refine stp ?_
 intro c t4;cases c
 ·refine stp ?_
  exact Ja rfl (Jn (Jpz (by have:=Jm t4;omega)).symm)
 have h4:s.data.toList.length≤30:=by have:=Jl t4;omega
 refine stp ?_
 refine Jb rfl rfl (Jrd s hs) ⟨Rf,Rf,trivial⟩ fun nx1=> ?_
 refine stp ?_
 intro c t5
 rw [Jre,Lib.toList_data] at t5
 cases c
 ·have h5:¬Lib.trimS s.data.toList signsB.data.toList= []:=by simpa using t5
  rw [JkQ] at h5
  refine stp ?_
  exact Ja rfl (Jn (JpA h5).symm)
 have h5:Lib.trimS s.data.toList signsB.data.toList= []:=by simpa using t5
 rw [JkQ] at h5
 have h0:¬s.data.toList= []:=by simpa using t1
 refine stp ?_
 refine ⟨⟨by decide,by have:=JmE h0;show (0:Int) < (s.size:Int);omega⟩, ?_⟩
 refine stp ?_
 refine Jb rfl rfl (JmD lettersB _) ⟨Rf,Rf,trivial⟩ fun nx2=> ?_
 refine stp ?_
 intro c t6
 refine stp ?_
 have e1:(((s.data.getD (Int.toNat 0) 0).toNat:Int)).toNat.toUInt8=s.data.toList.headD 0:=by
  have hh:s.data.getD 0 0=s.data.toList.headD 0:=by
   have:=JmE h0
   cases hq:s.data.toList with
   | nil=> exact absurd hq h0
   | cons x xs=>
     have h2:s.data=(x::xs).toArray:=by rw [← hq]
     rw [h2];rfl
  show (((s.data.getD 0 0).toNat:Int)).toNat.toUInt8=_
  rw [hh,Int.toNat_natCast]
  simp
 refine Ja rfl (Jn (t6.trans ?_))
 rw [Js3 t1 t2 t3 h4 h5,e1,Bool.eq_iff_iff,decide_eq_true_eq]
 exact (Jpv _ _).1.trans (by simp)
end Go.Proofs.W

namespace Go.Proofs.W
open Go.Vl
set_option maxRecDepth 100000
def Jdn (n:Int):AV:= .fn (.func 208) [] [.rp [int n]]
theorem Js4 (n:Int) (h:0≤n∧n≤100000):Tells Tryz.prog 208 [.rp [int n]] (int (n - 1)):=by
 refine Jc Tryz.func208 rfl rfl fun nx=> ?_
 refine stp ?_
 refine Ja rfl (Jd (Jq Om Om))
theorem JmF (n:Int):Tells Tryz.prog 166 [int n] (Jdn n):=by
 refine Jc Tryz.func166 rfl rfl fun nx=> ?_
 (repeat ((conv=>whnf);first|refine ω0 ?_|refine ω1 ?_|refine ω2 ?_|refine ω3 ?_|refine ω4 rfl ?_|refine ω5 rfl ?_|refine ω6 ?_|refine ω7 ?_|refine ⟨rfl,?_⟩|refine ⟨trivial,?_⟩|refine ⟨⟨rfl,Nat.le_of_ble_eq_true rfl⟩,?_⟩|refine ⟨⟨by kernel_rfl,by kernel_rfl⟩,?_⟩|refine ⟨by decide,?_⟩|refine Jcd ?_|refine JbO ?_))
 refine AW.le (JaO (L:= [(2,Jdn n)]) (bx:= []) (pm:= []) (nn:=0) [((0,nx), .c [int n])] rfl rfl Sf Sf ⟨Frz.fn trivial ⟨Frz.bp (.head _) rfl,trivial⟩,trivial⟩) ?_
 refine stp ?_
 refine Ja rfl Rf
def Jc8:List AV:= [
 .ag [.v (.string ⟨#[107,105,108,108]⟩), .v (.int .u32 2147483648), .v .nilFunc],
 .ag [.v (.string ⟨#[107,105,108,108,95,116,104,114,101,97,100]⟩), .v (.int .u32 0), .v .nilFunc],
 .ag [.v (.string ⟨#[116,114,97,112]⟩), .v (.int .u32 196608), .v .nilFunc],
 .ag [.v (.string ⟨#[101,114,114,110,111]⟩), .v (.int .u32 327680),Jdn 4096],
 .ag [.v (.string ⟨#[110,111,116,105,102,121]⟩), .v (.int .u32 2143289344), .v .nilFunc],
 .ag [.v (.string ⟨#[116,114,97,99,101]⟩), .v (.int .u32 2146435072),Jdn 65536],
 .ag [.v (.string ⟨#[108,111,103]⟩), .v (.int .u32 2147221504), .v .nilFunc],
 .ag [.v (.string ⟨#[97,108,108,111,119]⟩), .v (.int .u32 2147418112), .v .nilFunc]]
def Jjm:AV:= .sl 3 8 (Jcn Jc8)
theorem Jfj:Tells Tryz.prog 128 [] Jjm:=by
 refine Jc Tryz.func128 rfl rfl fun nx=> ?_
 refine stp ?_
 refine Jb rfl rfl (JmF 4096) ⟨Rf,trivial⟩ fun nx=> ?_
 refine stp ?_
 refine Jb rfl rfl (JmF 65536) ⟨Rf,trivial⟩ fun nx=> ?_
 refine stp ?_
 refine Ja rfl (JjX ⟨⟨⟨⟨⟨⟨⟨⟨trivial,rfl⟩,rfl⟩,rfl⟩,rfl⟩,rfl⟩,rfl⟩,rfl⟩,rfl⟩)
theorem JoH (k:Int) (h:k < 1∨8 < k):Tells Tryz.prog 100 [int k] (.tup [.ag [.v (.string ⟨#[]⟩), .v (.int .u32 0), .v .nilFunc],Jg false]):=by
 refine Jc Tryz.func100 rfl rfl fun nx=> ?_
 refine stp ?_
 refine Jb rfl rfl Jfj trivial fun nx=> ?_
 refine stp ?_
 intro c h1;cases c
 ·refine stp ?_
  intro c h2;cases c
  ·simp at h1 h2;omega
  ·refine stp ?_
   (refine Ji rfl ?_ ?_;(· exact ⟨rfl,trivial⟩));exact Rf
 ·refine stp ?_
  (refine Ji rfl ?_ ?_;(· exact ⟨rfl,trivial⟩));exact Rf
theorem Jhe (k:Nat) (h:k < 8):Tells Tryz.prog 100 [int (k+1)] (.tup [Jcn Jc8 k,Jg true]):=by
 refine Jc Tryz.func100 rfl rfl fun nx=> ?_
 refine stp ?_
 refine Jb rfl rfl Jfj trivial fun nx=> ?_
 refine stp ?_
 intro c h1;cases c
 ·refine stp ?_
  rcases k with _ | _ | _ | _ | _ | _ | _ | _ | k
  iterate 8
   ·refine ⟨⟨by decide,by decide⟩, ?_⟩
    refine stp ?_
    (refine Ji rfl ?_ ?_;(· exact ⟨rfl,trivial⟩));exact Rf
  ·omega
 ·simp at h1;omega
def Jev (k:Int):Int:=if k=4 then 4095 else if k=6 then 65535 else 0
theorem JpB (k:Int):Tells Tryz.prog 74 [int k] (int (Jev k)):=by
 refine Jc Tryz.func74 rfl rfl fun nx=> ?_
 refine stp ?_
 intro c hc
 cases c
 ·refine stp ?_
  intro d hd
  cases d
  ·refine stp ?_
   refine Ja rfl (Jd ?_)
   simp at hc hd;simp [Jev,hc,hd]
  ·refine stp ?_
   refine Ja rfl (Jd ?_)
   simp at hc hd;simp [Jev,hc,hd]
 ·refine stp ?_
  refine Ja rfl (Jd ?_)
  simp at hc;simp [Jev,hc]
def act (k n:Int):AV:= .ag [int k,int n]
def J2 (k n:Int):Bool:=decide (1≤k)&& decide (k≤8)&& decide (0≤n)&& decide (n≤Jev k)
end Go.Proofs.W

namespace Go.Proofs.W
open Go.Vl
set_option maxRecDepth 100000
theorem Jb2 (s:ByteArray) (c:Int):Tells Tryz.prog 130 [.ag [.v (.string s), .v (.int .u32 c), .v .nilFunc]] (int 0):=by
 refine Jc Tryz.func130 rfl rfl fun nx=> ?_
 refine stp ?_
 refine Ja rfl Rf
theorem Jfz (s:ByteArray) (c n:Int) (h:0≤n∧n≤100000):Tells Tryz.prog 130 [.ag [.v (.string s), .v (.int .u32 c),Jdn n]] (int (n - 1)):=by
 refine Jc Tryz.func130 rfl rfl fun nx=> ?_
 refine stp ?_
 refine Jb rfl rfl (Js4 n h) ⟨Rf,trivial⟩ fun nx=> ?_
 refine stp ?_
 refine Ja rfl Rf
theorem Jeh (k:Nat) (h:k < 8):∃s c m,Jcn Jc8 k= .ag [.v (.string s), .v (.int .u32 c),m]∧(m= .v .nilFunc∨∃n,m=Jdn n)∧Tells Tryz.prog 130 [Jcn Jc8 k] (int (Jev (k+1))):=by
 rcases k with _ | _ | _ | _ | _ | _ | _ | _ | k
 ·exact ⟨_,_,_,rfl, .inl rfl,Jb2 _ _⟩
 ·exact ⟨_,_,_,rfl, .inl rfl,Jb2 _ _⟩
 ·exact ⟨_,_,_,rfl, .inl rfl,Jb2 _ _⟩
 ·exact ⟨_,_,_,rfl, .inr ⟨_,rfl⟩,Jfz _ _ 4096 Dc⟩
 ·exact ⟨_,_,_,rfl, .inl rfl,Jb2 _ _⟩
 ·exact ⟨_,_,_,rfl, .inr ⟨_,rfl⟩,Jfz _ _ 65536 Dc⟩
 ·exact ⟨_,_,_,rfl, .inl rfl,Jb2 _ _⟩
 ·exact ⟨_,_,_,rfl, .inl rfl,Jb2 _ _⟩
 ·omega
theorem JpC {k n:Int} (h:k < 1∨8 < k):J2 k n=false:=by simp [J2];omega
theorem JvA (k n:Int) (m:AV) (s:ByteArray) (c:Int) (hm:m= .v .nilFunc∨∃n,m=Jdn n) (hk:1≤k∧k≤8)
 (h26:Tells Tryz.prog 100 [int k] (.tup [.ag [.v (.string s), .v (.int .u32 c),m],Jg true])) (h27:Tells Tryz.prog 130 [.ag [.v (.string s), .v (.int .u32 c),m]] (int (Jev k))):
 Tells Tryz.prog 93 [act k n] (Jg (J2 k n)):=by
 refine Jc Tryz.func93 rfl rfl fun nx=> ?_
 refine stp ?_
 refine Jb rfl rfl h26 ⟨Rf,trivial⟩ fun nx=> ?_
 rcases hm with rfl | ⟨n',rfl⟩
 all_goals
  refine stp ?_
  (refine Jy 13 ?_ ?_ ?_ ?_;(· kernel_rfl);(· kernel_rfl);(· kernel_rfl))
  refine stp ?_
  intro c h1;cases c
  ·refine stp ?_
   refine Ja rfl (Jn ?_)
   simp at h1;simp [J2];omega
  refine stp ?_
  refine Jb9 (JaG rfl rfl h27 ⟨Rf,trivial⟩ (NoId.v _)) ?_
  refine stp ?_
  intro c h2;cases c
  ·refine stp ?_
   refine Ja rfl (Jn ?_)
   simp at h1 h2;simp [J2];omega
  ·refine stp ?_
   refine Ja rfl (Jn ?_)
   simp at h1 h2;simp [J2];omega
theorem Jgs (k n:Int):Tells Tryz.prog 93 [act k n] (Jg (J2 k n)):=by
 by_cases hk:k < 1∨8 < k
 ·refine Jc Tryz.func93 rfl rfl fun nx=> ?_
  refine stp ?_
  refine Jb rfl rfl (JoH k hk) ⟨Rf,trivial⟩ fun nx=> ?_
  refine stp ?_
  (refine Jy 13 ?_ ?_ ?_ ?_;(· kernel_rfl);(· kernel_rfl);(· kernel_rfl))
  refine stp ?_
  refine Ja rfl (Jn (JpC hk).symm)
 ·obtain ⟨j,hj,rfl⟩:∃j:Nat,j < 8∧k=(j:Int)+1:=⟨(k - 1).toNat,by omega,by omega⟩
  obtain ⟨s,c,m,hr,ho,hm⟩:=Jeh j hj
  have h26:=Jhe j hj
  rw [hr] at h26 hm
  exact JvA _ n m s c ho Om h26 hm
abbrev A2:=Int×Int
def JeP (a:A2):AV:=act a.1 a.2
theorem JdS {α:Type} {p:α→Bool} {l:List α} {i:Nat} (d:α) (hi:i < l.length) (hb:∀j,j < i→p (l.getD j d)=false) (h:p (l.getD i d)=true):l.findIdx? p=some i:=by
 rw [List.findIdx?_eq_some_iff_getElem]
 refine ⟨hi,by simpa [List.getD,hi] using h,fun j hj=> ?_⟩
 have:=hb j hj
 have hj':j < l.length:=by omega
 simpa [List.getD,hj'] using this
theorem JcE {α:Type} {p:α→Bool} {l:List α} (d:α) (hb:∀j,j < l.length→p (l.getD j d)=false):l.findIdx? p=none:=by
 rw [List.findIdx?_eq_none_iff]
 intro x hx
 obtain ⟨j,hj,rfl⟩:=List.getElem_of_mem hx
 have:=hb j hj
 simpa [List.getD,hj] using this
def JaV:Option Nat→Int
 | some i=> i
 | none=> -1
theorem Jew (o:Option Nat):decide (0≤JaV o)=o.isSome:=by cases o <;> simp [JaV]
end Go.Proofs.W

namespace Go.Proofs.W
open Go.Vl
set_option maxRecDepth 100000
structure Rul where
 name:ByteArray
 act:A2
 conds:List Cnd
structure Pol where
 dflt:A2
 x32:Bool
 rules:List Rul
def Ju:Rul:=⟨⟨#[]⟩,(0,0), []⟩
def Jau (r:Rul):AV:= .ag [Jj r.name,int r.act.1,int r.act.2,JaU r.conds]
def J8 (l:List Rul):AV:=Jai 4 Jau Ju l
def Jar (p:Pol):AV:= .ag [int p.dflt.1,int p.dflt.2,Jg p.x32,J8 p.rules]
theorem Js5 (l:List Int) (p:Int→Bool) (f:Nat) (hl:l.length≤1000000000) (hp:∀i,i < l.length→Tells Tryz.prog f [int (l.getD i 0)] (Jg (p (l.getD i 0)))):
 Tells Tryz.prog 179 [Jai 1 int 0 l,fn0 f] (int (JaV (l.findIdx? p))):=by
 refine Jc Tryz.func179 rfl rfl fun nx=> ?_
 refine stp ?_
 refine Jr (fun s:Nat×Nat=> mk 19 [(0,Jai 1 int 0 l),(1,fn0 f),(7,int l.length),(8,int s.1)] ⟨[], [],s.2,0⟩) (fun s=> s.1≤l.length∧∀j,j < s.1→p (l.getD j 0)=false) (fun s=> l.length - s.1) ?_ ?_
 ·exact ⟨(0,nx),⟨by simp,by intro j hj;simp at hj⟩,JH rfl rfl ⟨Rf,Rf,Rf,Rf,trivial⟩⟩
 ·rintro ⟨i,nx⟩ ⟨h1,h2⟩
  dsimp only at h1 h2
  refine stp ?_
  intro c h3;cases c
  ·have h3:=Jm h3
   dsimp only at h3
   refine stp ?_
   refine Ja rfl (Jd ?_)
   rw [JcE 0 (fun j hj=> h2 j Om)];rfl
  ·have h3:=Jl h3
   dsimp only at h3
   have hi:i < l.length:=by omega
   refine stp ?_
   refine ⟨⟨by dsimp only;omega,by dsimp only;omega⟩, ?_⟩
   refine stp ?_
   refine Jb rfl rfl (hp i hi) ⟨Rf,trivial⟩ fun nx'=> ?_
   intro c h4;cases c
   ·refine stp ?_
    refine back (i+1,nx') ⟨by dsimp only;omega,fun j hj=> ?_⟩ Dm (JH rfl rfl ⟨Rf,Rf,Rf,Jd (Jk Dm),trivial⟩)
    dsimp only at hj
    rcases Nat.lt_or_ge j i with h | h
    ·exact h2 j h
    ·obtain rfl:j=i:=by omega
     exact h4.symm
   ·refine stp ?_
    refine Ja rfl (Jd ?_)
    rw [JdS 0 hi h2 h4.symm];rfl
theorem JmG (l:List Int) (p:Int→Bool) (f:Nat) (hl:l.length≤1000000000) (hp:∀i,i < l.length→Tells Tryz.prog f [int (l.getD i 0)] (Jg (p (l.getD i 0)))):
 Tells Tryz.prog 146 [Jai 1 int 0 l,fn0 f] (Jg (l.any p)):=by
 refine Jc Tryz.func146 rfl rfl fun nx=> ?_
 refine stp ?_
 refine Jb rfl rfl (Js5 l p f hl hp) ⟨Rf,Rf,trivial⟩ fun nx'=> ?_
 refine stp ?_
 intro c h;cases c
 all_goals
  refine stp ?_
  refine Ja rfl (Jn ?_)
  rw [h,← List.findIdx?_isSome]
  exact Jew _
theorem Js6 (l:List Cnd) (p:Cnd→Bool) (f:Nat) (hl:l.length≤1000000000) (hp:∀i,i < l.length→Tells Tryz.prog f [J6 (l.getD i cnd0)] (Jg (p (l.getD i cnd0)))):
 Tells Tryz.prog 164 [Jai 4 J6 cnd0 l,fn0 f] (int (JaV (l.findIdx? p))):=by
 refine Jc Tryz.func164 rfl rfl fun nx=> ?_
 refine stp ?_
 refine Jr (fun s:Nat×Nat=> mk 19 [(0,Jai 4 J6 cnd0 l),(1,fn0 f),(7,int l.length),(8,int s.1)] ⟨[], [],s.2,0⟩) (fun s=> s.1≤l.length∧∀j,j < s.1→p (l.getD j cnd0)=false) (fun s=> l.length - s.1) ?_ ?_
 ·exact ⟨(0,nx),⟨by simp,by intro j hj;simp at hj⟩,JH rfl rfl ⟨Rf,Rf,Rf,Rf,trivial⟩⟩
 ·rintro ⟨i,nx⟩ ⟨h1,h2⟩
  dsimp only at h1 h2
  refine stp ?_
  intro c h3;cases c
  ·have h3:=Jm h3
   dsimp only at h3
   refine stp ?_
   refine Ja rfl (Jd ?_)
   rw [JcE cnd0 (fun j hj=> h2 j Om)];rfl
  ·have h3:=Jl h3
   dsimp only at h3
   have hi:i < l.length:=by omega
   refine stp ?_
   refine ⟨⟨by dsimp only;omega,by dsimp only;omega⟩, ?_⟩
   refine stp ?_
   refine Jb rfl rfl (hp i hi) ⟨Rf,trivial⟩ fun nx'=> ?_
   intro c h4;cases c
   ·refine stp ?_
    refine back (i+1,nx') ⟨by dsimp only;omega,fun j hj=> ?_⟩ Dm (JH rfl rfl ⟨Rf,Rf,Rf,Jd (Jk Dm),trivial⟩)
    dsimp only at hj
    rcases Nat.lt_or_ge j i with h | h
    ·exact h2 j h
    ·obtain rfl:j=i:=by omega
     exact h4.symm
   ·refine stp ?_
    refine Ja rfl (Jd ?_)
    rw [JdS cnd0 hi h2 h4.symm];rfl
theorem Js7 (l:List Cnd) (p:Cnd→Bool) (f:Nat) (hl:l.length≤1000000000) (hp:∀i,i < l.length→Tells Tryz.prog f [J6 (l.getD i cnd0)] (Jg (p (l.getD i cnd0)))):
 Tells Tryz.prog 123 [Jai 4 J6 cnd0 l,fn0 f] (Jg (l.any p)):=by
 refine Jc Tryz.func123 rfl rfl fun nx=> ?_
 refine stp ?_
 refine Jb rfl rfl (Js6 l p f hl hp) ⟨Rf,Rf,trivial⟩ fun nx'=> ?_
 refine stp ?_
 intro c h;cases c
 all_goals
  refine stp ?_
  refine Ja rfl (Jn ?_)
  rw [h,← List.findIdx?_isSome]
  exact Jew _
theorem Js8 (l:List Rul) (p:Rul→Bool) (f:Nat) (hl:l.length≤1000000000) (hp:∀i,i < l.length→Tells Tryz.prog f [Jau (l.getD i Ju)] (Jg (p (l.getD i Ju)))):
 Tells Tryz.prog 64 [Jai 4 Jau Ju l,fn0 f] (int (JaV (l.findIdx? p))):=by
 refine Jc Tryz.func64 rfl rfl fun nx=> ?_
 refine stp ?_
 refine Jr (fun s:Nat×Nat=> mk 19 [(0,Jai 4 Jau Ju l),(1,fn0 f),(7,int l.length),(8,int s.1)] ⟨[], [],s.2,0⟩) (fun s=> s.1≤l.length∧∀j,j < s.1→p (l.getD j Ju)=false) (fun s=> l.length - s.1) ?_ ?_
 ·exact ⟨(0,nx),⟨by simp,by intro j hj;simp at hj⟩,JH rfl rfl ⟨Rf,Rf,Rf,Rf,trivial⟩⟩
 ·rintro ⟨i,nx⟩ ⟨h1,h2⟩
  dsimp only at h1 h2
  refine stp ?_
  intro c h3;cases c
  ·have h3:=Jm h3
   dsimp only at h3
   refine stp ?_
   refine Ja rfl (Jd ?_)
   rw [JcE Ju (fun j hj=> h2 j Om)];rfl
  ·have h3:=Jl h3
   dsimp only at h3
   have hi:i < l.length:=by omega
   refine stp ?_
   refine ⟨⟨by dsimp only;omega,by dsimp only;omega⟩, ?_⟩
   refine stp ?_
   refine Jb rfl rfl (hp i hi) ⟨Rf,trivial⟩ fun nx'=> ?_
   intro c h4;cases c
   ·refine stp ?_
    refine back (i+1,nx') ⟨by dsimp only;omega,fun j hj=> ?_⟩ Dm (JH rfl rfl ⟨Rf,Rf,Rf,Jd (Jk Dm),trivial⟩)
    dsimp only at hj
    rcases Nat.lt_or_ge j i with h | h
    ·exact h2 j h
    ·obtain rfl:j=i:=by omega
     exact h4.symm
   ·refine stp ?_
    refine Ja rfl (Jd ?_)
    rw [JdS Ju hi h2 h4.symm];rfl
theorem Js9 (l:List Rul) (p:Rul→Bool) (f:Nat) (hl:l.length≤1000000000) (hp:∀i,i < l.length→Tells Tryz.prog f [Jau (l.getD i Ju)] (Jg (p (l.getD i Ju)))):
 Tells Tryz.prog 94 [Jai 4 Jau Ju l,fn0 f] (Jg (l.any p)):=by
 refine Jc Tryz.func94 rfl rfl fun nx=> ?_
 refine stp ?_
 refine Jb rfl rfl (Js8 l p f hl hp) ⟨Rf,Rf,trivial⟩ fun nx'=> ?_
 refine stp ?_
 intro c h;cases c
 all_goals
  refine stp ?_
  refine Ja rfl (Jn ?_)
  rw [h,← List.findIdx?_isSome]
  exact Jew _
end Go.Proofs.W

namespace Go.Proofs.W
open Go.Vl
set_option maxRecDepth 100000
def JpD (s:ByteArray):AV:= .ag [Jj s,int (-1),int (-1),int (-1),int (-1),int (-1),int 0,int 0]
def Jcf (n:Int):Bool:=decide (n < -1)|| decide (n > 1073741823)
theorem Jhf (n:Int):Tells Tryz.prog 147 [int n] (Jg (Jcf n)):=by
 refine Jc Tryz.func147 rfl rfl fun nx=> ?_
 refine stp ?_
 intro c t1;cases c
 ·refine stp ?_
  intro c t2;cases c
  ·refine stp ?_
   exact Ja rfl (Jn (by rw [Jcf,← t1,← t2];rfl))
  ·refine stp ?_
   exact Ja rfl (Jn (by rw [Jcf,← t1,← t2];rfl))
 ·refine stp ?_
  exact Ja rfl (Jn (by rw [Jcf,← t1];rfl))
theorem JnM (s:ByteArray):Tells Tryz.prog 98 [JpD s] (Jg true):=by
 have hc:=JmG [-1,-1,-1,-1,-1] Jcf 147 Dc (fun i _=> Jhf _)
 rw [show [(-1:Int),-1,-1,-1,-1].any Jcf=false by decide] at hc
 refine Jc Tryz.func98 rfl rfl fun nx=> ?_
 (refine Jt ?_;refine Jv ?_;refine Jt ?_)
 refine J4 (n:=30) (nx:=nx+1) (nn:=1) (pm:= []) (bx:= []) (L:= [(1, .rp [Jj s,int (-1),int (-1),int (-1),int (-1),int (-1),int 0,int 0])]) (df:=some []) [((0,nx), .c [Jj s,int (-1),int (-1),int (-1),int (-1),int (-1),int 0,int 0])] rfl rfl rfl (List.Perm.refl _) Sf ⟨Frz.bp (.head _) rfl,trivial⟩ ?_
 refine J7 (fun n=> match n with | 0=> true | _=> false) 2 ?_
 refine stp ?_
 refine JkJ (n:=5) (e:=3) (cs:= [int (-1),int (-1),int (-1),int (-1),int (-1),int 0,int 0]) rfl rfl Tryz.underlying68 Tryz.underlying3 (by kernel_rfl) Dc Dc (by simp [int,AV.cells]) ?_
 refine stp ?_
 refine Jb rfl rfl hc ⟨AVle.sl_fun fun k hk=> ?_,Rf,trivial⟩ fun nx1=> ?_
 ·match k,hk with
  | 0,_ | 1,_ | 2,_ | 3,_ | 4,_=> rfl
 refine stp ?_
 exact Ja rfl Rf
def m1A:AV:= .ag [int (-1),int (-1),int (-1),int (-1),int (-1)]
set_option maxHeartbeats 1000000 in
theorem Jlp (s:ByteArray) (hs:s.size≤9223372036854775807) (b:Bool) (hb:J1 s.data.toList=b):Tells Tryz.prog 50 [.sl 8 1 (fun _=> JpD s)] (.tup [int 0,int (if b then 0 else 13)]):=by
 have hn:=Jjl s hs
 rw [hb] at hn
 have hr:=JnM s
 refine Jc Tryz.func50 rfl rfl fun nx=> ?_
 refine stp ?_
 refine Jr (fun y:Bool×Nat=> mk 88 [(2,int 0),(3,int 0),(14, .sl 8 1 (fun _=> JpD s)),(15,int 1),(16,int (bif y.1 then 1 else 0))] ⟨[], [],y.2,0⟩) (fun y=> y.1=true→b=true) (fun y=> if y.1 then 0 else 1) ?_ ?_
 ·exact ⟨(false,nx+1),(fun h=> by cases h),Je (pm:= []) [] [] rfl rfl (List.nil_sublist _) Sf trivial trivial ⟨Rf,Rf,Rf,Rf,Rf,trivial⟩⟩
 ·rintro ⟨y,nx1⟩ hy
  cases y
  ·refine stp ?_
   refine ⟨⟨by show (0:Int)≤0;decide,by show (0:Int) < 1;decide⟩, ?_⟩
   refine stp ?_
   refine Jb rfl rfl hn ⟨Rf,trivial⟩ fun nx2=> ?_
   cases b
   ·refine stp ?_
    exact Ja rfl Rf
   ·refine stp ?_
    (refine Jy 13 ?_ ?_ ?_ ?_;(· kernel_rfl);(· kernel_rfl);(· kernel_rfl))
    refine stp ?_
    refine Jb rfl rfl hr ⟨Rf,trivial⟩ fun nx3=> ?_
    refine stp ?_
    refine Jr (fun z:Nat×Nat=> mk 88 [(2,int 0),(3,int 0),(5,int 0),(6, .bp (0,nx1) 0),(14, .sl 8 1 (fun _=> JpD s)),(15,int 1),(16,int 0),(59,m1A),(60,int z.1)] ⟨[((0,nx1), .c [Jj s,int (-1),int (-1),int (-1),int (-1),int (-1),int 0,int 0])], [],z.2,1⟩) (fun z=> z.1≤5) (fun z=> 5 - z.1) ?_ ?_
    ·exact ⟨(0,nx3),Nat.zero_le _,Je (pm:= []) _ [] rfl rfl Sf Sf ⟨rfl,OwnLe.refl _,trivial⟩ trivial ⟨Rf,Rf,Rf,Rf,Rf,Rf,Rf,Rf,Rf,trivial⟩⟩
    ·rintro ⟨k,nx4⟩ hk
     dsimp only at hk
     rcases k with _ | _ | _ | _ | _ | _ | k
     iterate 5
      ·refine stp ?_
       refine back (_+1,nx4) Dm Dm (Je (pm:= []) _ [] rfl rfl Sf Sf ⟨rfl,OwnLe.refl _,trivial⟩ trivial ⟨Rf,Rf,Rf,Rf,Rf,Rf,Rf,Rf,Rf,trivial⟩)
     ·refine stp ?_
      exact back (true,nx4) (fun _=> rfl) (by show 0 < 1;decide) (Je (pm:= []) [] [] rfl rfl (List.nil_sublist _) Sf trivial trivial ⟨Rf,Rf,Rf,Rf,Rf,trivial⟩)
     ·omega
  ·have hbt:=hy rfl
   rw [hbt]
   refine stp ?_
   exact Ja rfl Rf
end Go.Proofs.W

namespace Go.Proofs.W
open Go.Vl
set_option maxRecDepth 100000
structure TRow where
 name:ByteArray
 a0:Int
 a1:Int
 a2:Int
 a3:Int
 a4:Int
 mux:Int
 sub:Int
def TRow.num (r:TRow):Nat→Int
 | 0=> r.a0
 | 1=> r.a1
 | 2=> r.a2
 | 3=> r.a3
 | _=> r.a4
def Jf:TRow:=⟨⟨#[]⟩,0,0,0,0,0,0,0⟩
def Jad (r:TRow):List AV:= [Jj r.name,int r.a0,int r.a1,int r.a2,int r.a3,int r.a4,int r.mux,int r.sub]
def Jo (r:TRow):AV:= .ag (Jad r)
def Js (l:List TRow):AV:=Jai 8 Jo Jf l
def JvB (r:TRow):AV:= .ag [int r.a0,int r.a1,int r.a2,int r.a3,int r.a4]
theorem Jt9:PairT Tryz.prog 244 3:=⟨by kernel_rfl,by kernel_rfl,by kernel_rfl,by kernel_rfl,fun _=> rfl,fun _=> rfl,fun _ _=> rfl⟩
theorem Juz:(Tryz.prog.info? 4).bind (·.zero)=some (.bool false):=by kernel_rfl
theorem Jei (s nx nn:Nat) (es:List (Int×Int)) (a n:Int):
 ECall Tryz.prog 99 [.om (0,s),int a,int n] ⟨[((0,s), .mp (es.map Jcp))], [],nx,1⟩ fun r h'=> ∃nx' nn',r=Jg (decide ((a,n)∈es))∧h'=⟨[((0,s), .mp ((Jcq (a,n) es).map Jcp))], [],nx',nn'⟩:=by
 refine ECall.wk (JS Tryz.func99 rfl rfl ?_)
 (refine Jt ?_;refine Jv ?_;refine Jt ?_;refine Jv ?_;refine Jt ?_)
 refine AW.le (E':=mk 18 [(0, .om (0,s)),(6,Jg false),(7, .bp (1,nx) 0)] ⟨[((1,nx), .c [int a,int n]),((0,s), .mp (es.map Jcp))], [],nx+1,2⟩) (Je (pm:= []) _ [] rfl rfl Sf Sf Bf trivial ⟨Rf,Rf,Rf,trivial⟩) ?_
 refine Jt ?_
 refine J7 (fun i=> match i with | 0=> true | _=> false) 3 ?_
 refine stp ?_
 refine Jh (b:=kA (a,n)) rfl ?_
 (conv=> whnf)
 refine JnF (x:=(a,n)) (i:=(0,s)) (es:=es) rfl Tryz.underlying196 Jt9 Juz rfl rfl rfl ?_
 refine Jt ?_
 refine J7 (fun i=> match i with | 0=> true | _=> false) 3 ?_
 refine stp ?_
 refine Jh (b:=kA (a,n)) rfl ?_
 (conv=> whnf)
 refine AOp.any (JnG (x:=(a,n)) (i:=(0,s)) (es:=es) (.inl rfl) Tryz.underlying196 Jt9 rfl rfl rfl rfl ?_)
 refine stp ?_
 exact Jz rfl ⟨_,⟨[((0,s), .mp ((Jcq (a,n) es).map Jcp))], [],nx+1,1⟩,Rf,Jp _ _ rfl (.cons _ Sf) Sf Bf Pf,_,_,rfl,rfl⟩
def Jej (r:TRow):Bool:= [r.a0,r.a1,r.a2,r.a3,r.a4].any Jcf
def Jb3 (r:TRow):Bool:= !Jej r&& (if r.mux=0 then decide (r.sub=0) else (decide (r.mux=1)|| decide (r.mux=2))&& decide (1≤r.sub)&& decide (r.sub≤255))
theorem JnN (r:TRow):Tells Tryz.prog 98 [Jo r] (Jg (Jb3 r)):=by
 have hc:=JmG [r.a0,r.a1,r.a2,r.a3,r.a4] Jcf 147 (by show 5≤_;decide) (fun i _=> Jhf _)
 unfold Jb3
 have hb:Jej r= [r.a0,r.a1,r.a2,r.a3,r.a4].any Jcf:=rfl
 rw [← hb] at hc
 generalize Jej r=b at hc
 obtain ⟨nm,a0,a1,a2,a3,a4,mux,sub⟩:=r
 dsimp only at hc⊢
 refine Jc Tryz.func98 rfl rfl fun nx=> ?_
 (refine Jt ?_;refine Jv ?_;refine Jt ?_)
 refine J4 (n:=30) (nx:=nx+1) (nn:=1) (pm:= []) (bx:= []) (L:= [(1, .rp [Jj nm,int a0,int a1,int a2,int a3,int a4,int mux,int sub])]) (df:=some []) [((0,nx), .c [Jj nm,int a0,int a1,int a2,int a3,int a4,int mux,int sub])] rfl rfl rfl (List.Perm.refl _) Sf ⟨Frz.bp (.head _) rfl,trivial⟩ ?_
 refine J7 (fun n=> match n with | 0=> true | _=> false) 2 ?_
 refine stp ?_
 refine JkJ (n:=5) (e:=3) (cs:= [int a0,int a1,int a2,int a3,int a4,int mux,int sub]) rfl rfl Tryz.underlying68 Tryz.underlying3 (by kernel_rfl) Dc (by show 5 * 1≤7;decide) (by simp [int,AV.cells]) ?_
 refine stp ?_
 refine Jb rfl rfl hc ⟨AVle.sl_fun fun k hk=> ?_,Rf,trivial⟩ fun nx1=> ?_
 ·match k,hk with
  | 0,_ | 1,_ | 2,_ | 3,_ | 4,_=> rfl
 cases b
 ·refine stp ?_
  intro c g;cases c
  ·have g:¬mux=0:=fun h=> by subst h;simp at g
   rw [if_neg g]
   refine stp ?_
   intro c t1;cases c
   ·have t1:decide (mux=1)=false:=decide_eq_false (by simpa using t1.symm)
    rw [t1]
    refine stp ?_
    intro c t2;cases c
    ·have t2:decide (mux=2)=false:=decide_eq_false (by simpa using t2.symm)
     rw [t2]
     refine stp ?_
     exact Ja rfl Rf
    ·have t2:decide (mux=2)=true:=decide_eq_true (by simpa using t2.symm)
     rw [t2]
     refine stp ?_
     intro c t3;cases c
     ·refine stp ?_
      exact Ja rfl (Jn (by rw [show decide (1≤sub)=false from t3.symm];rfl))
     ·refine stp ?_
      intro c t4;cases c
      all_goals
       refine stp ?_
       exact Ja rfl (Jn (t4.trans (by rw [show decide (1≤sub)=true from t3.symm];rfl)))
   ·have t1:decide (mux=1)=true:=decide_eq_true (by simpa using t1.symm)
    rw [t1]
    refine stp ?_
    intro c t3;cases c
    ·refine stp ?_
     exact Ja rfl (Jn (by rw [show decide (1≤sub)=false from t3.symm];rfl))
    ·refine stp ?_
     intro c t4;cases c
     all_goals
      refine stp ?_
      exact Ja rfl (Jn (t4.trans (by rw [show decide (1≤sub)=true from t3.symm];rfl)))
  ·have g:mux=0:=by simpa using g.symm
   rw [if_pos g]
   refine stp ?_
   intro c h;cases c
   all_goals
    refine stp ?_
    exact Ja rfl (Jn (h.trans (by rw [Bool.eq_iff_iff];simp)))
 ·refine stp ?_
  exact Ja rfl (Jn (by simp))
end Go.Proofs.W

namespace Go.Proofs.W
open Go.Vl
set_option maxRecDepth 100000
structure Inf where
 name:ByteArray
 token:Nat
 bit:Bool
 bits:Int
def inf0:Inf:=⟨⟨#[]⟩,0,false,0⟩
def Jde (i:Inf):List AV:= [Jj i.name,u32 i.token,Jg i.bit,int i.bits]
def JvC (i:Inf):AV:= .ag (Jde i)
def infL:List Inf:= [⟨⟨#[120,56,54,95,54,52]⟩,3221225534,false,64⟩,⟨⟨#[120,51,50]⟩,3221225534,true,64⟩,⟨⟨#[105,51,56,54]⟩,1073741827,false,32⟩,⟨⟨#[97,114,109,54,52]⟩,3221225655,false,64⟩,⟨⟨#[114,105,115,99,118,54,52]⟩,3221225715,false,64⟩]
def infN:List (Nat×Inf):= [(0,infL.getD 0 inf0),(1,infL.getD 1 inf0),(2,infL.getD 2 inf0),(3,infL.getD 3 inf0),(4,infL.getD 4 inf0)]
def Jta (p:Nat×Inf):List AV:= [int p.1,JvC p.2]
def Jrf:AV:= .ag (infL.flatMap Jde)
theorem JkR:IterSpec Tryz.prog 167 [] [] Jta infN:=by
 intro i σ Cb Cp I J hc s0 nx nn h0
 refine ECall.wk (JS Tryz.func167 rfl rfl ?_)
 refine AW.le (E':=mk 22 [(0, .yl i)] ⟨Cb s0,Cp s0,nx,0⟩) (Et (bx:=Cb s0) (pm:=Cp s0) rfl rfl Bf Pf ⟨Rf,trivial⟩) ?_
 refine stp ?_
 refine AW.le (E':=mk 22 [(0, .yl i),(11,Jrf),(12,int 0)] ⟨Cb s0,Cp s0,nx+1,0⟩) (Je (bx:=Cb s0) (pm:=Cp s0) _ _ rfl rfl (.cons _ Sf) Sf Bf Pf ⟨Rf,Rf,Rf,trivial⟩) ?_
 refine Jr (fun y:Nat×σ×Nat=> mk 22 [(0, .yl i),(11,Jrf),(12,int y.1)] ⟨Cb y.2.1,Cp y.2.1,y.2.2,0⟩) (fun y=> y.1≤5∧I (infN.take y.1) y.2.1) (fun y=> 5 - y.1) ?_ ?_
 ·exact ⟨(0,s0,nx+1),⟨Nat.zero_le _,h0⟩,Et rfl rfl Bf Pf ⟨Rf,Rf,Rf,trivial⟩⟩
 ·rintro ⟨k,s,nx1⟩ ⟨hk,hI⟩
  dsimp only at hk hI
  rcases k with _ | _ | _ | _ | _ | _ | k
  ·refine stp ?_
   refine JbR [((0,nx1), .c (Jde (infL.getD 0 inf0)))] [] rfl rfl rfl hc (show infN=infN.take 0++(0,infL.getD 0 inf0)::infN.drop (0+1) from rfl) hI ⟨Rf,Rf,trivial⟩ (fun s' nx' hI'=> ?_) (fun s' nx' hJ=> ?_)
   ·refine stp ?_
    exact back (0+1,s',nx') ⟨by dsimp only;omega,hI'⟩ Dm (Je _ _ rfl rfl (.cons _ Sf) Sf Bf Pf ⟨Rf,Rf,Rf,trivial⟩)
   ·refine stp ?_
    exact Jz rfl ⟨_,⟨Cb s',Cp s',nx',0⟩,Rf,Jp _ _ rfl (.cons _ Sf) Sf Bf Pf,s', .inr ⟨_,_,_,rfl,hJ⟩,rfl,rfl⟩
  ·refine stp ?_
   refine JbR [((0,nx1), .c (Jde (infL.getD 1 inf0)))] [] rfl rfl rfl hc (show infN=infN.take 1++(1,infL.getD 1 inf0)::infN.drop (1+1) from rfl) hI ⟨Rf,Rf,trivial⟩ (fun s' nx' hI'=> ?_) (fun s' nx' hJ=> ?_)
   ·refine stp ?_
    exact back (1+1,s',nx') ⟨by dsimp only;omega,hI'⟩ Dm (Je _ _ rfl rfl (.cons _ Sf) Sf Bf Pf ⟨Rf,Rf,Rf,trivial⟩)
   ·refine stp ?_
    exact Jz rfl ⟨_,⟨Cb s',Cp s',nx',0⟩,Rf,Jp _ _ rfl (.cons _ Sf) Sf Bf Pf,s', .inr ⟨_,_,_,rfl,hJ⟩,rfl,rfl⟩
  ·refine stp ?_
   refine JbR [((0,nx1), .c (Jde (infL.getD 2 inf0)))] [] rfl rfl rfl hc (show infN=infN.take 2++(2,infL.getD 2 inf0)::infN.drop (2+1) from rfl) hI ⟨Rf,Rf,trivial⟩ (fun s' nx' hI'=> ?_) (fun s' nx' hJ=> ?_)
   ·refine stp ?_
    exact back (2+1,s',nx') ⟨by dsimp only;omega,hI'⟩ Dm (Je _ _ rfl rfl (.cons _ Sf) Sf Bf Pf ⟨Rf,Rf,Rf,trivial⟩)
   ·refine stp ?_
    exact Jz rfl ⟨_,⟨Cb s',Cp s',nx',0⟩,Rf,Jp _ _ rfl (.cons _ Sf) Sf Bf Pf,s', .inr ⟨_,_,_,rfl,hJ⟩,rfl,rfl⟩
  ·refine stp ?_
   refine JbR [((0,nx1), .c (Jde (infL.getD 3 inf0)))] [] rfl rfl rfl hc (show infN=infN.take 3++(3,infL.getD 3 inf0)::infN.drop (3+1) from rfl) hI ⟨Rf,Rf,trivial⟩ (fun s' nx' hI'=> ?_) (fun s' nx' hJ=> ?_)
   ·refine stp ?_
    exact back (3+1,s',nx') ⟨by dsimp only;omega,hI'⟩ Dm (Je _ _ rfl rfl (.cons _ Sf) Sf Bf Pf ⟨Rf,Rf,Rf,trivial⟩)
   ·refine stp ?_
    exact Jz rfl ⟨_,⟨Cb s',Cp s',nx',0⟩,Rf,Jp _ _ rfl (.cons _ Sf) Sf Bf Pf,s', .inr ⟨_,_,_,rfl,hJ⟩,rfl,rfl⟩
  ·refine stp ?_
   refine JbR [((0,nx1), .c (Jde (infL.getD 4 inf0)))] [] rfl rfl rfl hc (show infN=infN.take 4++(4,infL.getD 4 inf0)::infN.drop (4+1) from rfl) hI ⟨Rf,Rf,trivial⟩ (fun s' nx' hI'=> ?_) (fun s' nx' hJ=> ?_)
   ·refine stp ?_
    exact back (4+1,s',nx') ⟨by dsimp only;omega,hI'⟩ Dm (Je _ _ rfl rfl (.cons _ Sf) Sf Bf Pf ⟨Rf,Rf,Rf,trivial⟩)
   ·refine stp ?_
    exact Jz rfl ⟨_,⟨Cb s',Cp s',nx',0⟩,Rf,Jp _ _ rfl (.cons _ Sf) Sf Bf Pf,s', .inr ⟨_,_,_,rfl,hJ⟩,rfl,rfl⟩
  ·refine stp ?_
   exact Jz rfl ⟨_,⟨Cb s,Cp s,nx1,0⟩,Rf,HLe.refl _,s, .inl hI,rfl,rfl⟩
  ·omega
theorem Jhg:Tells Tryz.prog 131 [] (.fn (.func 167) [] []):=by
 refine Jc Tryz.func131 rfl rfl fun nx=> ?_
 refine stp ?_
 exact Ja rfl Rf
theorem JkS {pre post:List (Nat×Inf)} {x:Nat×Inf} (h:infN=pre++x::post):(pre=infN.take 0∧x=(0,infL.getD 0 inf0))∨(pre=infN.take 1∧x=(1,infL.getD 1 inf0))∨(pre=infN.take 2∧x=(2,infL.getD 2 inf0))∨(pre=infN.take 3∧x=(3,infL.getD 3 inf0))∨(pre=infN.take 4∧x=(4,infL.getD 4 inf0)):=by
 have hl:pre.length < 5:=by have:=congrArg List.length h;simp [infN] at this;omega
 have hp:pre=infN.take pre.length:=by rw [h];simp
 have hx:infN[pre.length]? =some x:=by rw [h];simp
 rcases (by omega:pre.length=0∨pre.length=1∨pre.length=2∨pre.length=3∨pre.length=4) with e | e | e | e | e
 all_goals rw [e] at hp hx
 ·exact .inl ⟨hp,(Option.some.inj hx).symm⟩
 ·exact .inr (.inl ⟨hp,(Option.some.inj hx).symm⟩)
 ·exact .inr (.inr (.inl ⟨hp,(Option.some.inj hx).symm⟩))
 ·exact .inr (.inr (.inr (.inl ⟨hp,(Option.some.inj hx).symm⟩)))
 ·exact .inr (.inr (.inr (.inr ⟨hp,(Option.some.inj hx).symm⟩)))
def Jbv (num:Nat):Bool:=decide (num&&& 1073741824≠0)&& decide (num≠4294967295)
def Jcg (arch:Nat) (w:Bool) (x:Nat×Inf):Bool:=decide (x.2.token=arch)&& ((decide (x.1≠0)&& decide (x.1≠1))|| (x.2.bit ==w))
def JiF (arch num:Nat):AV:=match infN.find? (Jcg arch (Jbv num)) with
 | some x=> .tup [int x.1,Jg true]
 | none=> .tup [int 0,Jg false]
theorem Jtb {arch num:Nat} (h:∀y∈infN,Jcg arch (Jbv num) y=false):JiF arch num= .tup [int 0,Jg false]:=by
 unfold JiF
 rw [List.find?_eq_none.2 (fun x hx=> by rw [h x hx];decide)]
theorem Jtc {arch num:Nat} {pre post:List (Nat×Inf)} {x:Nat×Inf} (hx:infN=pre++x::post) (h:∀y∈pre,Jcg arch (Jbv num) y=false) (hs:Jcg arch (Jbv num) x=true):JiF arch num= .tup [int x.1,Jg true]:=by
 unfold JiF
 have:infN.find? (Jcg arch (Jbv num))=some x:=by
  rw [hx,List.find?_append,List.find?_eq_none.2 (fun y hy=> by rw [h y hy];decide),List.find?_cons,hs];rfl
 rw [this]
theorem Jwu {a b:Nat} (ha:a < 4294967296) (hb:b < 4294967296):JU .and .u32 (a:Int) (b:Int)=((a&&& b:Nat):Int):=
 Jgn (k:= .u32) ha hb (by
  have:a&&& b≤a:=Nat.and_le_left
  simp [IntKind.wrap,IntKind.signed,IntKind.bits] at this⊢
  omega)
theorem Jf3 {arch:Nat} {w:Bool} {x:Nat×Inf} (h:false=((x.2.token:Int) ==(arch:Int))):Jcg arch w x=false:=by
 unfold Jcg
 rw [show decide (x.2.token=arch)=false from decide_eq_false (fun e=> by rw [e] at h;simp at h)];rfl
theorem Jrg {arch:Nat} {w:Bool} {x:Nat×Inf} (t:true=((x.2.token:Int) ==(arch:Int))) (h:((decide (x.1≠0)&& decide (x.1≠1))|| (x.2.bit ==w))=false):Jcg arch w x=false:=by
 unfold Jcg;rw [h,Bool.and_false]
theorem JdI {arch:Nat} {w:Bool} {x:Nat×Inf} (t:true=((x.2.token:Int) ==(arch:Int))) (h:((decide (x.1≠0)&& decide (x.1≠1))|| (x.2.bit ==w))=true):Jcg arch w x=true:=by
 unfold Jcg
 have e:x.2.token=arch:=by have:(x.2.token:Int)=(arch:Int):=by simpa using t.symm
                           omega
 rw [h,decide_eq_true e];rfl
theorem JdA {arch:Nat} {w:Bool} {x:Nat×Inf} {pre:List (Nat×Inf)} (h:∀z∈pre,Jcg arch w z=false) (hx:Jcg arch w x=false):∀z∈pre++ [x],Jcg arch w z=false:=fun z hz=> by
 rcases List.mem_append.1 hz with q | q
 ·exact h z q
 ·rw [List.mem_singleton.1 q];exact hx
set_option maxHeartbeats 4000000 in
theorem JnO (arch num:Nat) (ha:arch < 4294967296) (hn:num < 4294967296):Tells Tryz.prog 117 [u32 arch,u32 num] (JiF arch num):=by
 refine Jc Tryz.func117 rfl rfl fun nx=> ?_
 (refine Jt ?_;refine Jv ?_;refine Jt ?_)
 refine JeF (fun y:Nat=> mk 38 [(2, .bp (0,nx) 0),(4, .bp (1,nx+1) 0),(5, .bp (2,nx+2) 0),(6, .bp (3,nx+3) 0)] ⟨[((3,nx+3), .c [Jg (Jbv num)]),((2,nx+2), .c [Jg false]),((1,nx+1), .c [int 0]),((0,nx), .c [u32 arch])], [],y,4⟩) (fun _=> True) ?_ ?_
 ·have hw:Jbv num=(decide (num&&& 1073741824≠0)&& decide (num≠4294967295)):=rfl
  refine stp ?_
  intro c hc
  have hc2:c=decide (num&&& 1073741824≠0):=by
   rw [hc]
   show (JU .and .u32 (num:Int) ((1073741824:Nat):Int) !=0)=_
   rw [Jwu hn Dc,Bool.eq_iff_iff]
   simp
  clear hc
  rw [← hc2] at hw
  clear hc2
  cases c
  ·rw [hw]
   refine stp ?_
   exact ⟨nx+4,trivial,Je (pm:= []) _ [] rfl rfl Sf Sf Bf trivial ⟨Rf,Rf,Rf,Rf,trivial⟩⟩
  ·rw [Bool.true_and] at hw
   refine stp ?_
   intro c hc
   have hc2:c=Jbv num:=by
    rw [hw,hc,Bool.eq_iff_iff]
    simp
    omega
   rw [← hc2]
   clear hc hc2 hw
   cases c
   all_goals
    refine stp ?_
    exact ⟨nx+4,trivial,Je (pm:= []) _ [] rfl rfl Sf Sf Bf trivial ⟨Rf,Rf,Rf,Rf,trivial⟩⟩
 ·rintro nx2 -
  refine stp ?_
  refine Jb rfl rfl Jhg trivial fun nx3=> ?_
  refine stp ?_
  refine AW.le (E':=mk 38 [(2, .bp (0,nx) 0),(4, .bp (1,nx+1) 0),(5, .bp (2,nx+2) 0),(6, .bp (3,nx+3) 0),(16, .fn (.func 167) [] [])] ⟨[((3,nx+3), .c [Jg (Jbv num)]),((2,nx+2), .c [Jg false]),((1,nx+1), .c [int 0]),((0,nx), .c [u32 arch])], [],nx3,4⟩) (Et rfl rfl Bf Pf ⟨Rf,Rf,Rf,Rf,Rf,trivial⟩) ?_
  generalize hw:Jbv num=w
  refine Joz (σ:=Option Nat) (α:=Nat×Inf) (e:=Jta) (xs:=infN) (first':= []) (caps':= []) (fun y=> [((3,nx+3), .c [Jg (w)]),((2,nx+2), .c [Jg y.isSome]),((1,nx+1), .c [int (y.getD 0:Nat)]),((0,nx), .c [u32 arch])]) (fun _=> []) (fun pre y=> y=none∧∀z∈pre,Jcg arch w z=false) (fun pre x y=> y=some x.1∧Jcg arch w x=true∧∀z∈pre,Jcg arch w z=false) none rfl rfl JkR trivial trivial rfl rfl ⟨rfl,fun z hz=> by cases hz⟩ (fun _=> rfl) ?_ ?_ ?_
  ·rintro pre x post s nx4 nn4 hx ⟨rfl,hI⟩
   rcases JkS hx with ⟨rfl,rfl⟩ | ⟨rfl,rfl⟩ | ⟨rfl,rfl⟩ | ⟨rfl,rfl⟩ | ⟨rfl,rfl⟩
   ·refine AW.le (Jcc (nn:=9) Sf Sf) ?_
    refine stp ?_
    intro c t1;cases c
    ·refine stp ?_
     exact ⟨_,⟨_,_,_,0⟩,Rf,Jp _ _ rfl (.cons _ Sf) Sf Bf Pf, .inl ⟨rfl,none,⟨rfl,JdA hI (Jf3 t1)⟩,rfl,rfl⟩⟩
    ·cases w
     ·refine stp ?_
      exact ⟨_,⟨_,_,_,0⟩,Rf,Jp _ _ rfl (.cons _ Sf) Sf Bf Pf, .inr ⟨rfl,some 0,⟨rfl,JdI t1 rfl,hI⟩,rfl,rfl⟩⟩
     ·refine stp ?_
      exact ⟨_,⟨_,_,_,0⟩,Rf,Jp _ _ rfl (.cons _ Sf) Sf Bf Pf, .inl ⟨rfl,none,⟨rfl,JdA hI (Jrg t1 rfl)⟩,rfl,rfl⟩⟩
   ·refine AW.le (Jcc (nn:=9) Sf Sf) ?_
    refine stp ?_
    intro c t1;cases c
    ·refine stp ?_
     exact ⟨_,⟨_,_,_,0⟩,Rf,Jp _ _ rfl (.cons _ Sf) Sf Bf Pf, .inl ⟨rfl,none,⟨rfl,JdA hI (Jf3 t1)⟩,rfl,rfl⟩⟩
    ·cases w
     ·refine stp ?_
      exact ⟨_,⟨_,_,_,0⟩,Rf,Jp _ _ rfl (.cons _ Sf) Sf Bf Pf, .inl ⟨rfl,none,⟨rfl,JdA hI (Jrg t1 rfl)⟩,rfl,rfl⟩⟩
     ·refine stp ?_
      exact ⟨_,⟨_,_,_,0⟩,Rf,Jp _ _ rfl (.cons _ Sf) Sf Bf Pf, .inr ⟨rfl,some 1,⟨rfl,JdI t1 rfl,hI⟩,rfl,rfl⟩⟩
   ·refine AW.le (Jcc (nn:=9) Sf Sf) ?_
    refine stp ?_
    intro c t1;cases c
    ·refine stp ?_
     exact ⟨_,⟨_,_,_,0⟩,Rf,Jp _ _ rfl (.cons _ Sf) Sf Bf Pf, .inl ⟨rfl,none,⟨rfl,JdA hI (Jf3 t1)⟩,rfl,rfl⟩⟩
    ·cases w
     ·refine stp ?_
      exact ⟨_,⟨_,_,_,0⟩,Rf,Jp _ _ rfl (.cons _ Sf) Sf Bf Pf, .inr ⟨rfl,some 2,⟨rfl,JdI t1 rfl,hI⟩,rfl,rfl⟩⟩
     ·refine stp ?_
      exact ⟨_,⟨_,_,_,0⟩,Rf,Jp _ _ rfl (.cons _ Sf) Sf Bf Pf, .inr ⟨rfl,some 2,⟨rfl,JdI t1 rfl,hI⟩,rfl,rfl⟩⟩
   ·refine AW.le (Jcc (nn:=9) Sf Sf) ?_
    refine stp ?_
    intro c t1;cases c
    ·refine stp ?_
     exact ⟨_,⟨_,_,_,0⟩,Rf,Jp _ _ rfl (.cons _ Sf) Sf Bf Pf, .inl ⟨rfl,none,⟨rfl,JdA hI (Jf3 t1)⟩,rfl,rfl⟩⟩
    ·cases w
     ·refine stp ?_
      exact ⟨_,⟨_,_,_,0⟩,Rf,Jp _ _ rfl (.cons _ Sf) Sf Bf Pf, .inr ⟨rfl,some 3,⟨rfl,JdI t1 rfl,hI⟩,rfl,rfl⟩⟩
     ·refine stp ?_
      exact ⟨_,⟨_,_,_,0⟩,Rf,Jp _ _ rfl (.cons _ Sf) Sf Bf Pf, .inr ⟨rfl,some 3,⟨rfl,JdI t1 rfl,hI⟩,rfl,rfl⟩⟩
   ·refine AW.le (Jcc (nn:=9) Sf Sf) ?_
    refine stp ?_
    intro c t1;cases c
    ·refine stp ?_
     exact ⟨_,⟨_,_,_,0⟩,Rf,Jp _ _ rfl (.cons _ Sf) Sf Bf Pf, .inl ⟨rfl,none,⟨rfl,JdA hI (Jf3 t1)⟩,rfl,rfl⟩⟩
    ·cases w
     ·refine stp ?_
      exact ⟨_,⟨_,_,_,0⟩,Rf,Jp _ _ rfl (.cons _ Sf) Sf Bf Pf, .inr ⟨rfl,some 4,⟨rfl,JdI t1 rfl,hI⟩,rfl,rfl⟩⟩
     ·refine stp ?_
      exact ⟨_,⟨_,_,_,0⟩,Rf,Jp _ _ rfl (.cons _ Sf) Sf Bf Pf, .inr ⟨rfl,some 4,⟨rfl,JdI t1 rfl,hI⟩,rfl,rfl⟩⟩
  ·rintro s' nx4 nn4 ⟨rfl,hI⟩
   rw [Jtb (by rw [hw];exact hI)]
   refine stp ?_
   exact Ji rfl ⟨⟨rfl,Nat.le_of_ble_eq_true rfl⟩,⟨rfl,Nat.le_of_ble_eq_true rfl⟩,trivial⟩ Rf
  ·rintro pre x post s' nx4 nn4 hx ⟨rfl,h1,h2⟩
   rw [Jtc hx (by rw [hw];exact h2) (by rw [hw];exact h1)]
   refine stp ?_
   exact Ji rfl ⟨⟨rfl,Nat.le_of_ble_eq_true rfl⟩,⟨rfl,Nat.le_of_ble_eq_true rfl⟩,trivial⟩ Rf
end Go.Proofs.W

namespace Go.Proofs.W
open Go.Vl
set_option maxRecDepth 100000
structure Rec where
 num:Nat
 arch:Nat
 ptr:Nat
 a0:Nat
 a1:Nat
 a2:Nat
 a3:Nat
 a4:Nat
 a5:Nat
def Rec.ok (r:Rec):Prop:=r.num < 4294967296∧r.arch < 4294967296∧r.ptr < 18446744073709551616∧r.a0 < 18446744073709551616∧r.a1 < 18446744073709551616∧r.a2 < 18446744073709551616∧r.a3 < 18446744073709551616∧r.a4 < 18446744073709551616∧r.a5 < 18446744073709551616
def Rec.arg (r:Rec):Nat→Nat
 | 0=> r.a0
 | 1=> r.a1
 | 2=> r.a2
 | 3=> r.a3
 | 4=> r.a4
 | _=> r.a5
def JaF:Rec:=⟨0,0,0,0,0,0,0,0,0⟩
def Jaj (r:Rec):List AV:= [u32 r.num,u32 r.arch,u64 r.ptr,u64 r.a0,u64 r.a1,u64 r.a2,u64 r.a3,u64 r.a4,u64 r.a5]
def Jag (r:Rec):AV:= .ag (Jaj r)
def JeQ (l:List Rec):AV:=Jai 9 Jag JaF l
theorem JuA {a:Nat} (h:a < 5) (hn:∀z∈infN,z.1≠a):False:=by
 rcases (by omega:a=0∨a=1∨a=2∨a=3∨a=4) with rfl | rfl | rfl | rfl | rfl
 ·exact hn (0,infL.getD 0 inf0) (by simp [infN]) rfl
 ·exact hn (1,infL.getD 1 inf0) (by simp [infN]) rfl
 ·exact hn (2,infL.getD 2 inf0) (by simp [infN]) rfl
 ·exact hn (3,infL.getD 3 inf0) (by simp [infN]) rfl
 ·exact hn (4,infL.getD 4 inf0) (by simp [infN]) rfl
theorem Jwv {k a:Nat} {pre:List (Nat×Inf)} {i:Inf} (h:∀z∈pre,z.1≠a) (t:false=((k:Int) ==(a:Int))):∀z∈pre++ [(k,i)],z.1≠a:=fun z hz=> by
 rcases List.mem_append.1 hz with q | q
 ·exact h z q
 ·rw [List.mem_singleton.1 q]
  intro e
  dsimp only at e
  subst e;simp at t
theorem JvD {k a:Nat} (t:true=((k:Int) ==(a:Int))):k=a:=by
 have:(k:Int)=(a:Int):=by simpa using t.symm
 omega
set_option maxHeartbeats 4000000 in
theorem Jjn (a:Nat) (ha:a < 5):Tells Tryz.prog 72 [int a] (.tup [JvC (infL.getD a inf0),int 0]):=by
 refine Jc Tryz.func72 rfl rfl fun nx=> ?_
 refine stp ?_
 refine Jb rfl rfl Jhg trivial fun nx3=> ?_
 refine stp ?_
 refine AW.le (E':=mk 14 [(1, .bp (0,nx) 0),(2, .bp (1,nx+1) 0),(3, .bp (2,nx+2) 0),(6, .fn (.func 167) [] [])] ⟨[((2,nx+2), .c [int 0]),((1,nx+1), .c (Jde inf0)),((0,nx), .c [int a])], [],nx3,3⟩) (Je (pm:= []) _ [] rfl rfl Sf Sf Bf trivial ⟨Rf,Rf,Rf,Rf,trivial⟩) ?_
 refine Joz (σ:=Option Nat) (α:=Nat×Inf) (e:=Jta) (xs:=infN) (first':= []) (caps':= []) (fun y=> [((2,nx+2), .c [int 0]),((1,nx+1), .c (Jde (y.elim inf0 fun k=> infL.getD k inf0))),((0,nx), .c [int a])]) (fun _=> []) (fun pre y=> y=none∧∀z∈pre,z.1≠a) (fun pre x y=> y=some a) none rfl rfl JkR trivial trivial rfl rfl ⟨rfl,fun z hz=> by cases hz⟩ (fun _=> rfl) ?_ ?_ ?_
 ·rintro pre x post s nx4 nn4 hx ⟨rfl,hI⟩
  rcases JkS hx with ⟨rfl,rfl⟩ | ⟨rfl,rfl⟩ | ⟨rfl,rfl⟩ | ⟨rfl,rfl⟩ | ⟨rfl,rfl⟩
  all_goals
   refine AW.le (Jcc (nn:=9) Sf Sf) ?_
   refine stp ?_
   intro c t1;cases c
   ·refine stp ?_
    exact ⟨_,⟨_,_,_,0⟩,Rf,Jp _ _ rfl (.cons _ Sf) Sf Bf Pf, .inl ⟨rfl,none,⟨rfl,Jwv hI t1⟩,rfl,rfl⟩⟩
   ·have e:=JvD t1
    clear t1
    subst e
    refine stp ?_
    exact ⟨_,⟨_,_,_,0⟩,Rf,Jp _ _ rfl (.cons _ Sf) Sf Bf Pf, .inr ⟨rfl,some _,rfl,rfl,rfl⟩⟩
 ·rintro s' nx4 nn4 ⟨rfl,hI⟩
  exact (JuA ha hI).elim
 ·rintro pre x post s' nx4 nn4 hx rfl
  refine stp ?_
  exact Ji rfl ⟨rfl,⟨rfl,Nat.le_of_ble_eq_true rfl⟩,trivial⟩ Rf
def Jfk (f:Nat→Nat):AV:= .ag [u64 (f 0:Nat),u64 (f 1:Nat),u64 (f 2:Nat),u64 (f 3:Nat),u64 (f 4:Nat),u64 (f 5:Nat)]
def Jap (a:Nat) (r:Rec) (k:Nat):Nat:=if a=2 then r.arg k % 4294967296 else r.arg k
theorem JhS {n:Nat} (h:n < 18446744073709551616):IntKind.u64.wrap (IntKind.u32.wrap (n:Int))=((n % 4294967296:Nat):Int):=by
 simp [IntKind.wrap,IntKind.signed,IntKind.bits];omega
theorem Jtd {a:Nat} (h:a < 5):((infL.getD a inf0).bits ==32)=decide (a=2):=by
 rcases (by omega:a=0∨a=1∨a=2∨a=3∨a=4) with rfl | rfl | rfl | rfl | rfl <;> rfl
theorem Jc9:Tryz.prog.cellsOf 36=1:=by kernel_rfl
def JdT (f:Nat→Nat):List AV:= [u64 (f 0:Nat),u64 (f 1:Nat),u64 (f 2:Nat),u64 (f 3:Nat),u64 (f 4:Nat),u64 (f 5:Nat)]
def JiG (k:Nat) (r:Rec) (j:Nat):Nat:=bif Nat.blt j k then r.arg j % 4294967296 else r.arg j
theorem Jf4 {a:Nat} {r:Rec} (e:a=2) (k:Nat):AVle (u64 (r.arg k % 4294967296:Nat)) (u64 (Jap a r k:Nat)):=by
 unfold Jap;rw [if_pos e];exact Rf
set_option maxHeartbeats 4000000 in
theorem Jhh (a:Nat) (ha:a < 5) (r:Rec) (hr:r.ok):Tells Tryz.prog 63 [int a,Jag r] (Jfk (Jap a r)):=by
 have hof:=Jjn a ha
 have hbits:=Jtd ha
 obtain ⟨-,-,-,r0,r1,r2,r3,r4,r5⟩:=hr
 refine Jc Tryz.func63 rfl rfl fun nx=> ?_
 refine stp ?_
 refine Jb rfl rfl hof ⟨Rf,trivial⟩ fun nx2=> ?_
 refine stp ?_
 intro c hc
 have hc2:c=decide (a=2):=hc.trans hbits
 clear hc
 cases c
 ·have e:¬a=2:=of_decide_eq_false hc2.symm
  have eA:Jap a r=r.arg:=by funext k;unfold Jap;rw [if_neg e]
  rw [eA]
  refine stp ?_
  exact Ji rfl ⟨rfl,trivial⟩ Rf
 ·have e:a=2:=of_decide_eq_true hc2.symm
  refine stp ?_
  refine Jr (fun y:Nat×Nat=> mk 35 [(3, .bp (0,nx) 0),(4, .bp (1,nx+1) 0),(5, .bp (2,nx+2) 0),(23,int y.1)] ⟨[((3,nx2), .c (Jde (infL.getD a inf0))),((2,nx+2), .c (JdT (JiG y.1 r))),((1,nx+1), .c (JdT fun _=> 0)),((0,nx), .c (Jaj r))], [],y.2,4⟩) (fun y=> y.1≤6) (fun y=> 6 - y.1) ?_ ?_
  ·exact ⟨(0,nx2+1),Nat.zero_le _,Je (pm:= []) _ [] rfl rfl Sf Sf ⟨rfl,OwnLe.refl _,rfl,⟨Rf,Rf,Rf,Rf,Rf,Rf,trivial⟩,rfl,⟨Rf,Rf,Rf,Rf,Rf,Rf,trivial⟩,Bf⟩ trivial ⟨Rf,Rf,Rf,Rf,trivial⟩⟩
  ·rintro ⟨k,nx3⟩ hk
   dsimp only at hk
   rcases k with _ | _ | _ | _ | _ | _ | _ | k
   ·refine stp ?_
    refine ⟨⟨Int.natCast_nonneg _,show ((0:Nat):Int) < 6 by decide⟩,Jh (b:= .bp (2,nx+2) 0) (congrArg (AV.bp (2,nx+2)) (by rw [Jc9];rfl)) ?_⟩
    refine stp ?_
    refine ⟨⟨Int.natCast_nonneg _,show ((0:Nat):Int) < 6 by decide⟩,Jh (b:= .bp (2,nx+2) 0) (congrArg (AV.bp (2,nx+2)) (by rw [Jc9];rfl)) ?_⟩
    refine stp ?_
    exact back (0+1,nx3) (show 0+1≤6 by decide) Dm (Je (bx:= [((3,nx2), .c (Jde (infL.getD a inf0))),((2,nx+2), .c (JdT (JiG (0+1) r))),((1,nx+1), .c (JdT fun _=> 0)),((0,nx), .c (Jaj r))]) (pm:= []) _ [] rfl rfl Sf Sf ⟨rfl,OwnLe.refl _,rfl,⟨Jf2 (JhS r0),Rf,Rf,Rf,Rf,Rf,trivial⟩,Bf⟩ trivial ⟨Rf,Rf,Rf,Rf,trivial⟩)
   ·refine stp ?_
    refine ⟨⟨Int.natCast_nonneg _,show ((1:Nat):Int) < 6 by decide⟩,Jh (b:= .bp (2,nx+2) 1) (congrArg (AV.bp (2,nx+2)) (by rw [Jc9];rfl)) ?_⟩
    refine stp ?_
    refine ⟨⟨Int.natCast_nonneg _,show ((1:Nat):Int) < 6 by decide⟩,Jh (b:= .bp (2,nx+2) 1) (congrArg (AV.bp (2,nx+2)) (by rw [Jc9];rfl)) ?_⟩
    refine stp ?_
    exact back (1+1,nx3) (show 1+1≤6 by decide) Dm (Je (bx:= [((3,nx2), .c (Jde (infL.getD a inf0))),((2,nx+2), .c (JdT (JiG (1+1) r))),((1,nx+1), .c (JdT fun _=> 0)),((0,nx), .c (Jaj r))]) (pm:= []) _ [] rfl rfl Sf Sf ⟨rfl,OwnLe.refl _,rfl,⟨Rf,Jf2 (JhS r1),Rf,Rf,Rf,Rf,trivial⟩,Bf⟩ trivial ⟨Rf,Rf,Rf,Rf,trivial⟩)
   ·refine stp ?_
    refine ⟨⟨Int.natCast_nonneg _,show ((2:Nat):Int) < 6 by decide⟩,Jh (b:= .bp (2,nx+2) 2) (congrArg (AV.bp (2,nx+2)) (by rw [Jc9];rfl)) ?_⟩
    refine stp ?_
    refine ⟨⟨Int.natCast_nonneg _,show ((2:Nat):Int) < 6 by decide⟩,Jh (b:= .bp (2,nx+2) 2) (congrArg (AV.bp (2,nx+2)) (by rw [Jc9];rfl)) ?_⟩
    refine stp ?_
    exact back (2+1,nx3) (show 2+1≤6 by decide) Dm (Je (bx:= [((3,nx2), .c (Jde (infL.getD a inf0))),((2,nx+2), .c (JdT (JiG (2+1) r))),((1,nx+1), .c (JdT fun _=> 0)),((0,nx), .c (Jaj r))]) (pm:= []) _ [] rfl rfl Sf Sf ⟨rfl,OwnLe.refl _,rfl,⟨Rf,Rf,Jf2 (JhS r2),Rf,Rf,Rf,trivial⟩,Bf⟩ trivial ⟨Rf,Rf,Rf,Rf,trivial⟩)
   ·refine stp ?_
    refine ⟨⟨Int.natCast_nonneg _,show ((3:Nat):Int) < 6 by decide⟩,Jh (b:= .bp (2,nx+2) 3) (congrArg (AV.bp (2,nx+2)) (by rw [Jc9];rfl)) ?_⟩
    refine stp ?_
    refine ⟨⟨Int.natCast_nonneg _,show ((3:Nat):Int) < 6 by decide⟩,Jh (b:= .bp (2,nx+2) 3) (congrArg (AV.bp (2,nx+2)) (by rw [Jc9];rfl)) ?_⟩
    refine stp ?_
    exact back (3+1,nx3) (show 3+1≤6 by decide) Dm (Je (bx:= [((3,nx2), .c (Jde (infL.getD a inf0))),((2,nx+2), .c (JdT (JiG (3+1) r))),((1,nx+1), .c (JdT fun _=> 0)),((0,nx), .c (Jaj r))]) (pm:= []) _ [] rfl rfl Sf Sf ⟨rfl,OwnLe.refl _,rfl,⟨Rf,Rf,Rf,Jf2 (JhS r3),Rf,Rf,trivial⟩,Bf⟩ trivial ⟨Rf,Rf,Rf,Rf,trivial⟩)
   ·refine stp ?_
    refine ⟨⟨Int.natCast_nonneg _,show ((4:Nat):Int) < 6 by decide⟩,Jh (b:= .bp (2,nx+2) 4) (congrArg (AV.bp (2,nx+2)) (by rw [Jc9];rfl)) ?_⟩
    refine stp ?_
    refine ⟨⟨Int.natCast_nonneg _,show ((4:Nat):Int) < 6 by decide⟩,Jh (b:= .bp (2,nx+2) 4) (congrArg (AV.bp (2,nx+2)) (by rw [Jc9];rfl)) ?_⟩
    refine stp ?_
    exact back (4+1,nx3) (show 4+1≤6 by decide) Dm (Je (bx:= [((3,nx2), .c (Jde (infL.getD a inf0))),((2,nx+2), .c (JdT (JiG (4+1) r))),((1,nx+1), .c (JdT fun _=> 0)),((0,nx), .c (Jaj r))]) (pm:= []) _ [] rfl rfl Sf Sf ⟨rfl,OwnLe.refl _,rfl,⟨Rf,Rf,Rf,Rf,Jf2 (JhS r4),Rf,trivial⟩,Bf⟩ trivial ⟨Rf,Rf,Rf,Rf,trivial⟩)
   ·refine stp ?_
    refine ⟨⟨Int.natCast_nonneg _,show ((5:Nat):Int) < 6 by decide⟩,Jh (b:= .bp (2,nx+2) 5) (congrArg (AV.bp (2,nx+2)) (by rw [Jc9];rfl)) ?_⟩
    refine stp ?_
    refine ⟨⟨Int.natCast_nonneg _,show ((5:Nat):Int) < 6 by decide⟩,Jh (b:= .bp (2,nx+2) 5) (congrArg (AV.bp (2,nx+2)) (by rw [Jc9];rfl)) ?_⟩
    refine stp ?_
    exact back (5+1,nx3) (show 5+1≤6 by decide) Dm (Je (bx:= [((3,nx2), .c (Jde (infL.getD a inf0))),((2,nx+2), .c (JdT (JiG (5+1) r))),((1,nx+1), .c (JdT fun _=> 0)),((0,nx), .c (Jaj r))]) (pm:= []) _ [] rfl rfl Sf Sf ⟨rfl,OwnLe.refl _,rfl,⟨Rf,Rf,Rf,Rf,Rf,Jf2 (JhS r5),trivial⟩,Bf⟩ trivial ⟨Rf,Rf,Rf,Rf,trivial⟩)
   ·refine stp ?_
    refine Ji rfl ⟨rfl,trivial⟩ (AVle.ags ⟨Jf4 e 0,Jf4 e 1,Jf4 e 2,Jf4 e 3,Jf4 e 4,Jf4 e 5,trivial⟩)
   ·omega
end Go.Proofs.W
