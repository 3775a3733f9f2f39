import Derived.Test.YtmipfkagmedcnaaGreatDoorXC
import Derived.Maps.RangeRun
import Derived.Sort.Row
import Derived.Sort.Grow
import Derived.Shelf.Strings.FuncGrows
import Derived.Scope
import Derived.Shelf.SlSortCmp.InsertionK
import Derived.Sort.Statements
import Derived.Laws.IdiomStrings
import Derived.KernelRfl
import Derived.Test.YtmipfkagmedcnaaGreatDoorProg
import Derived.Ground.NamesProg
import Derived.Shelf.Lay
import Derived.Shelf.Strings.SlTrimAscii
import Derived.Shelf.Small.Strs
import Derived.Sort.AssemblyPlain
import Derived.Shelf.SortM.Plain
import Derived.Shelf.SortM.SortNone
import Derived.Shelf.SlGeneric
import Derived.Ground.SlgmProg
import Derived.Sort.Walk0
import Derived.Shelf.Strings.Search1
import Derived.Shelf.Strings.FieldsFuncGrows
set_option linter.unusedVariables false
set_option linter.unusedSimpArgs false
namespace Go.Vl
open Go.RowKit
variable {P:Program}
theorem JpC {o:Oper} {t kt et:TypeId} {m:Operand} {es:List (Value×AV)} {E:Env} {K:Env→Prop} {Kp:AV→Env→Prop} (ho:o.op= .range t m) (ht:P.underlying t=some (.map kt et)) (hm:E.ev m= .fm es)
 (hk:K (({ E with h:=E.h.addo (.it es [])}:Env).set o.dst (.bp (E.h.nn,E.h.nx) 0))):AOp P o E K Kp:=by
 intro ro X M w0 a w g hs next Q hn hp
 have hr:=hs.ev m
 rw [hm] at hr
 generalize hmv:a.eval m=u at hr
 cases hr with
 | fm _ mb ents hb hx hl hke hrp=>
   obtain ⟨h1,h2,_⟩:=hs.obj (x:= .it es []) (.mapIter (some mb) ents.length #[] ents.length) (fun X' g' hst hnew=> ⟨mb,ents,hnew,(hst.obj _ _ hb hx).1,(hst.obj _ _ hb hx).2,hl,fun k p e q1 q2=> ⟨(hke k p e q1 q2).1,(hke k p e q1 q2).2,(hrp k p e q1 q2).stays hst⟩⟩)
   refine JG (by rw [ho];intro c h;cases h) ?_
   have:(execOp a.eval o).run P w= .ok (.value (.pointer (some ⟨w.heap.size,0,none⟩))) (w.alloc (.mapIter (some mb) ents.length #[] ents.length)):=by
    unfold execOp
    simp only [ho,Instr.range,hmv,Sem.run_bind,Jc0 ht,Result.andThen_ok,JbZ hb]
    simp [newObj,Sem.run]
   rw [this]
   exact hn _ _ _ _ hk (fun i b h=> by rw [List.getElem?_append_left (List.getElem?_eq_some_iff.1 h).1];exact h) (h1.put o.dst (.bp _ _ _ h2))
theorem Jrh {Y:Nat→Nat→Prop} {g:List Nat} {h:Heap} {nm:Nat} {x:Own} {b o:Nat} (hx:excl Y g ({ h with bx:=Jan nm x h.bx}:Heap) b o):excl Y g h b o:=by
 rcases hx with hx | ⟨p,hp,hg⟩ | hx
 ·exact .inl hx
 ·have:p.1.2∈(Jan nm x h.bx).map (·.1.2):=List.mem_map.2 ⟨p,hp,rfl⟩
  rw [Jd0] at this
  obtain ⟨q,hq,he⟩:=List.mem_map.1 this
  exact .inr (.inl ⟨q,hq,by rw [he];exact hg⟩)
 ·exact .inr (.inr hx)
theorem Jri {o:Oper} {it:Operand} {i:Id} {es:List (Value×AV)} {seen:List Nat} {E:Env} {K:Env→Prop} {Kp:AV→Env→Prop} (ho:o.op= .next it false) (hit:E.ev it= .bp i 0) (hes:JY i.1 E.h.bx=some (i.2, .it es seen))
 (hmore:∀k p,es[k]? =some p→k∉seen→K (({ E with h:= { E.h with bx:=Jan i.1 (.it es (seen++ [k])) E.h.bx}}:Env).set o.dst (.tup [.v (.bool true), .v p.1,p.2])))
 (hdone:(∀k,k < es.length→k∈seen)→K (E.set o.dst (.tup [.v (.bool false)]))):AOp P o E K Kp:=by
 intro ro X M w0 a w g hs next Q hn hp
 obtain ⟨b,hgb,hown⟩:=hs.hok.bx _ (Jah hes)
 dsimp only at hgb hown
 have hiv:a.eval it= .pointer (some ⟨b,0,none⟩):=by
  have:=hs.ev it
  rw [hit] at this
  generalize a.eval it=u at this
  cases this with
  | bp _ _ b' hg'=> rw [hgb] at hg';cases hg';rfl
 obtain ⟨mb,ents,h1,h2,h3,h4,h5⟩:=hown
 have hborn:∀x∈ents.toArray.toList,x.born < ents.length:=fun x hx=> by
  obtain ⟨k,hk,rfl⟩:=List.getElem_of_mem hx
  have hk2:k < es.length:=by rw [← h4];exact hk
  rw [(h5 k _ _ (List.getElem?_eq_getElem hk2) (List.getElem?_eq_getElem hk)).2.1];exact hk
 refine JG (by intro c h;rw [ho] at h;cases h) ?_
 rcases run_next_at (P:=P) w o.type b mb ents.length ents.length seen.toArray ents.toArray ents.length h1 h2 hborn (Nat.le_refl _) with ⟨h0,hrun⟩ | ⟨e,he,w1,hw1,hrun⟩
 ·have:(execOp a.eval o).run P w= .ok (.value (.tuple #[.bool false])) w:=by
   unfold execOp
   simp only [ho,hiv,hrun,Sem.run_bind,Result.andThen_ok,Sem.run_pure]
  rw [this]
  refine hn _ _ _ g (hdone fun k hk=> ?_) (fun _ _ h=> h) (hs.put o.dst ?_)
  ·have hk2:k < ents.length:=by rw [h4];exact hk
   have hb:=(h5 k _ _ (List.getElem?_eq_getElem hk) (List.getElem?_eq_getElem hk2)).2.1
   rcases Decidable.em (k∈seen) with h | h
   ·exact h
   ·exfalso
    have hem:(leftOf ents.toArray seen.toArray)= #[]:=Array.eq_empty_of_size_eq_zero h0
    unfold leftOf at hem
    rw [Array.filter_eq_empty_iff] at hem
    have:=hem ents[k] (by simp)
    simp [hb] at this
    exact h this
  ·refine .tup [.v (.bool false)] [.bool false] rfl fun k c u hc hu=> ?_
   cases k with
   | zero=> simp at hc hu;subst hc;subst hu;exact .v _
   | succ k=> simp at hc
 ·have hem:e∈ents∧e.born∉seen:=by
   unfold leftOf at he
   simp at he
   exact he
  obtain ⟨k,hk,hek⟩:=List.getElem_of_mem hem.1
  have hk2:k < es.length:=by rw [← h4];exact hk
  obtain ⟨q1,q2,q3⟩:=h5 k es[k] ents[k] (List.getElem?_eq_getElem hk2) (List.getElem?_eq_getElem hk)
  rw [hek] at q1 q2 q3
  have s1:St ro X M w0 E a w1 g:=by
   rcases hw1 with rfl | rfl
   ·exact hs
   ·exact hs.drew
  have hb1:w1.heap[b]? =some (.mapIter (some mb) ents.length seen.toArray ents.length):=by rcases hw1 with rfl | rfl <;> exact h1
  have hm1:w1.heap[mb]? =some (.map ents.toArray ents.length):=by rcases hw1 with rfl | rfl <;> exact h2
  have hst:Stays w (excl X g E.h) g w1 (excl X g E.h) g:=by
   rcases hw1 with rfl | rfl
   ·exact Stays.refl _ _ _
   ·exact (Jel w).stays (fun _ _ _ h=> h.elim) (fun _ _ _ h=> h) (fun _ _ h=> h)
  have hev:=Jcu (o':= .mapIter (some mb) ents.length (seen++ [k]).toArray ents.length) hb1 rfl (fun h=> by cases h)
  have hne:mb≠b:=fun h=> by rw [h] at h2;rw [h1] at h2;cases h2
  have hnew:=s1.setOwn (x:= .it es (seen++ [k])) hes hgb hev (fun hst2=> ⟨mb,ents,Jb0 hb1,(Jdq hne).trans hm1,h3,h4,fun k' p' e' r1 r2=> ⟨(h5 k' p' e' r1 r2).1,(h5 k' p' e' r1 r2).2.1,((h5 k' p' e' r1 r2).2.2.stays hst).stays hst2⟩⟩)
  have:(execOp a.eval o).run P w= .ok (.value (.tuple #[.bool true,e.key,e.val])) (World.setO w1 b (.mapIter (some mb) ents.length (seen++ [k]).toArray ents.length)):=by
   unfold execOp
   simp only [ho,hiv,hrun,Sem.run_bind,Result.andThen_ok,Sem.run_pure,q2,List.push_toArray]
   rfl
  rw [this]
  refine hn _ _ _ g (hmore k es[k] (List.getElem?_eq_getElem hk2) (by rw [← q2];exact hem.2)) (fun _ _ h=> h) (hnew.put o.dst ?_)
  have hval:=((q3.stays hst).stays (hev.stays (X:=excl X g E.h) (X':=excl X g E.h) (g:=g) (g':=g) (fun b' o' _ hbb=> by
   subst hbb
   exact .inr (.inl ⟨_,Jah hes,hgb⟩)) (fun _ _ _ h=> h) (fun _ _ h=> h)))
  refine .tup _ [.bool true,e.key,e.val] rfl fun j c u hc hu=> ?_
  rcases j with _ | _ | _ | j
  ·simp at hc hu;subst hc;subst hu;exact .v _
  ·simp at hc hu;subst hc;subst hu;rw [q1];exact .v _
  ·simp at hc hu;subst hc;subst hu
   exact hval.stays (Stays.less fun b' o' h=> Jrh h)
  ·simp at hc
theorem Jrj {o:Oper} {it:Operand} {i:Id} {es:List (Value×AV)} {seen:List Nat} {k:Nat} {p:Value×AV} {E:Env} {K:Env→Prop} {Kp:AV→Env→Prop} (ho:o.op= .entry it) (hit:E.ev it= .bp i 0) (hes:JY i.1 E.h.bx=some (i.2, .it es (seen++ [k])))
 (hp:es[k]? =some p) (hk:K (E.set o.dst (.tup [.v p.1,p.2]))):AOp P o E K Kp:=by
 intro ro X M w0 a w g hs next Q hn hpan
 obtain ⟨b,hgb,hown⟩:=hs.hok.bx _ (Jah hes)
 dsimp only at hgb hown
 have hiv:a.eval it= .pointer (some ⟨b,0,none⟩):=by
  have:=hs.ev it
  rw [hit] at this
  generalize a.eval it=u at this
  cases this with
  | bp _ _ b' hg'=> rw [hgb] at hg';cases hg';rfl
 obtain ⟨mb,ents,h1,h2,h3,h4,h5⟩:=hown
 have hk2:k < es.length:=(List.getElem?_eq_some_iff.1 hp).1
 have hk3:k < ents.length:=by rw [h4];exact hk2
 obtain ⟨q1,q2,q3⟩:=h5 k p ents[k] hp (List.getElem?_eq_getElem hk3)
 have hnd:(ents.toArray.toList.map (·.born)).Nodup:=by
  have:ents.map (·.born)=List.range ents.length:=by
   refine List.ext_getElem (by simp) fun j j1 j2=> ?_
   rw [List.getElem_map,List.getElem_range]
   have hj:j < ents.length:=by simpa using j1
   have hj2:j < es.length:=by rw [← h4];exact hj
   exact (h5 j _ _ (List.getElem?_eq_getElem hj2) (List.getElem?_eq_getElem hj)).2.1
  show (ents.map (·.born)).Nodup
  rw [this];exact List.nodup_range
 have hrun:=run_entry_at (P:=P) w b mb ents.length seen.toArray ents.toArray ents.length ents[k] (by rw [q2,List.push_toArray];exact h1) h2 (by simp) hnd
 refine JG (by intro c h;rw [ho] at h;cases h) ?_
 have:(execOp a.eval o).run P w= .ok (.value (.tuple #[ents[k].key,ents[k].val])) w:=by
  unfold execOp
  simp only [ho,hiv,hrun,Sem.run_bind,Result.andThen_ok,Sem.run_pure]
 rw [this]
 refine hn _ _ _ g hk (fun _ _ h=> h) (hs.put o.dst ?_)
 refine .tup _ [ents[k].key,ents[k].val] rfl fun j c u hc hu=> ?_
 rcases j with _ | _ | j
 ·simp at hc hu;subst hc;subst hu;rw [q1];exact .v _
 ·simp at hc hu;subst hc;subst hu;exact q3
 ·simp at hc
theorem Jrk {o:Oper} {it:Operand} {i:Id} {es:List (Value×AV)} {seen:List Nat} {R:List (Id×Own)} {E:Env} {K:Env→Prop} {Kp:AV→Env→Prop} (ho:o.op= .next it false) (hit:E.ev it= .bp i 0) (hR:E.h.bx=(i, .it es seen)::R)
 (hmore:∀k p,es[k]? =some p→k∉seen→K (({ E with h:= { E.h with bx:=(i, .it es (seen++ [k]))::R}}:Env).set o.dst (.tup [.v (.bool true), .v p.1,p.2])))
 (hdone:(∀k,k < es.length→k∈seen)→K (E.set o.dst (.tup [.v (.bool false)]))):AOp P o E K Kp:=
 Jri (seen:=seen) ho hit (by rw [hR];simp [JY]) (fun k p h1 h2=> by
  have:Jan i.1 (.it es (seen++ [k])) E.h.bx=(i, .it es (seen++ [k]))::R:=by rw [hR];simp [Jan]
  rw [this];exact hmore k p h1 h2) hdone
theorem JpD {o:Oper} {it:Operand} {i:Id} {es:List (Value×AV)} {seen:List Nat} {k:Nat} {p:Value×AV} {R:List (Id×Own)} {E:Env} {K:Env→Prop} {Kp:AV→Env→Prop} (ho:o.op= .entry it) (hit:E.ev it= .bp i 0) (hR:E.h.bx=(i, .it es (seen++ [k]))::R)
 (hp:es[k]? =some p) (hk:K (E.set o.dst (.tup [.v p.1,p.2]))):AOp P o E K Kp:=Jrj (seen:=seen) ho hit (by rw [hR];simp [JY]) hp hk
end Go.Vl

/- Ranges over strings. -/
namespace Go.Vl
open Go.RowKit
variable {P:Program}
theorem JpE {o:Oper} {t:TypeId} {m:Operand} {s:ByteArray} {E:Env} {K:Env→Prop} {Kp:AV→Env→Prop} (ho:o.op= .range t m) (ht:P.underlying t=some .string) (hm:E.ev m= .v (.string s))
 (hk:K (({ E with h:=E.h.addo (.si s 0)}:Env).set o.dst (.bp (E.h.nn,E.h.nx) 0))):AOp P o E K Kp:=by
 intro ro X M w0 a w g hs next Q hn hp
 have hr:=hs.ev m
 rw [hm] at hr
 generalize hmv:a.eval m=u at hr
 cases hr with
 | v _=>
   obtain ⟨h1,h2,_⟩:=hs.obj (x:= .si s 0) (.stringIter s 0) (fun X' g' hst hnew=> hnew)
   refine JG (by rw [ho];intro c h;cases h) ?_
   have:(execOp a.eval o).run P w= .ok (.value (.pointer (some ⟨w.heap.size,0,none⟩))) (w.alloc (.stringIter s 0)):=by
    unfold execOp
    simp only [ho,Instr.range,hmv,Sem.run_bind,Jc0 ht,Result.andThen_ok]
    simp [newObj,Sem.run]
   rw [this]
   exact hn _ _ _ _ hk (fun i b h=> by rw [List.getElem?_append_left (List.getElem?_eq_some_iff.1 h).1];exact h) (h1.put o.dst (.bp _ _ _ h2))
theorem Jrl {o:Oper} {it:Operand} {i:Id} {s:ByteArray} {pos:Nat} {E:Env} {K:Env→Prop} {Kp:AV→Env→Prop} (ho:o.op= .next it true) (hit:E.ev it= .bp i 0) (hes:JY i.1 E.h.bx=some (i.2, .si s pos))
 (hmore:pos < s.size→K (({ E with h:= { E.h with bx:=Jan i.1 (.si s (pos+(Utf8.decode s pos).2)) E.h.bx}}:Env).set o.dst (.tup [.v (.bool true), .v (.int .i64 pos), .v (.int .i32 (Utf8.decode s pos).1)])))
 (hdone:¬pos < s.size→K (E.set o.dst (.tup [.v (.bool false)]))):AOp P o E K Kp:=by
 intro ro X M w0 a w g hs next Q hn hp
 obtain ⟨b,hgb,hown⟩:=hs.hok.bx _ (Jah hes)
 dsimp only at hgb hown
 have hiv:a.eval it= .pointer (some ⟨b,0,none⟩):=by
  have:=hs.ev it
  rw [hit] at this
  generalize a.eval it=u at this
  cases this with
  | bp _ _ b' hg'=> rw [hgb] at hg';cases hg';rfl
 have h1:w.heap[b]? =some (.stringIter s pos):=hown
 refine JG (by intro c h;rw [ho] at h;cases h) ?_
 by_cases hlt:pos < s.size
 ·have hev:=Jcu (o':= .stringIter s (pos+(Utf8.decode s pos).2)) h1 rfl (fun h=> by cases h)
  have hnew:=hs.setOwn (x:= .si s (pos+(Utf8.decode s pos).2)) hes hgb hev (fun _=> Jb0 h1)
  have:(execOp a.eval o).run P w= .ok (.value (.tuple #[.bool true, .int .i64 pos, .int .i32 (Utf8.decode s pos).1])) (World.setO w b (.stringIter s (pos+(Utf8.decode s pos).2))):=by
   unfold execOp
   simp only [ho,hiv,Instr.next,Sem.run_bind,JbZ h1,Result.andThen_ok,if_pos hlt,Jbz h1,Sem.run_pure]
   rfl
  rw [this]
  refine hn _ _ _ g (hmore hlt) (fun _ _ h=> h) (hnew.put o.dst ?_)
  refine .tup _ [.bool true, .int .i64 pos, .int .i32 (Utf8.decode s pos).1] rfl fun j c u hc hu=> ?_
  rcases j with _ | _ | _ | j
  ·simp at hc hu;subst hc;subst hu;exact .v _
  ·simp at hc hu;subst hc;subst hu;exact .v _
  ·simp at hc hu;subst hc;subst hu;exact .v _
  ·simp at hc
 ·have:(execOp a.eval o).run P w= .ok (.value (.tuple #[.bool false])) w:=by
   unfold execOp
   simp only [ho,hiv,Instr.next,Sem.run_bind,JbZ h1,Result.andThen_ok,if_neg hlt,Sem.run_pure]
  rw [this]
  refine hn _ _ _ g (hdone hlt) (fun _ _ h=> h) (hs.put o.dst ?_)
  refine .tup [.v (.bool false)] [.bool false] rfl fun k c u hc hu=> ?_
  cases k with
  | zero=> simp at hc hu;subst hc;subst hu;exact .v _
  | succ k=> simp at hc
theorem Jjr {o:Oper} {it:Operand} {i:Id} {s:ByteArray} {pos:Nat} {R:List (Id×Own)} {E:Env} {K:Env→Prop} {Kp:AV→Env→Prop} (ho:o.op= .next it true) (hit:E.ev it= .bp i 0) (hR:E.h.bx=(i, .si s pos)::R)
 (hmore:pos < s.size→K (({ E with h:= { E.h with bx:=(i, .si s (pos+(Utf8.decode s pos).2))::R}}:Env).set o.dst (.tup [.v (.bool true), .v (.int .i64 pos), .v (.int .i32 (Utf8.decode s pos).1)])))
 (hdone:¬pos < s.size→K (E.set o.dst (.tup [.v (.bool false)]))):AOp P o E K Kp:=
 Jrl (pos:=pos) ho hit (by rw [hR];simp [JY]) (fun h=> by
  have:Jan i.1 (.si s (pos+(Utf8.decode s pos).2)) E.h.bx=(i, .si s (pos+(Utf8.decode s pos).2))::R:=by rw [hR];simp [Jan]
  rw [this];exact hmore h) hdone
theorem JpF {o:Oper} {it:Operand} {i:Id} {s:ByteArray} {pos c wd:Nat} {R:List (Id×Own)} {E:Env} {K:Env→Prop} {Kp:AV→Env→Prop} (ho:o.op= .next it true) (hit:E.ev it= .bp i 0) (hR:E.h.bx=(i, .si s pos)::R) (hlt:pos < s.size) (hd:Utf8.decode s pos=(c,wd))
 (hk:K (({ E with h:= { E.h with bx:=(i, .si s (pos+wd))::R}}:Env).set o.dst (.tup [.v (.bool true), .v (.int .i64 pos), .v (.int .i32 c)]))):AOp P o E K Kp:=
 Jjr ho hit hR (fun _=> by rw [hd];exact hk) (fun h=> absurd hlt h)
theorem JpG {o:Oper} {it:Operand} {i:Id} {s:ByteArray} {pos:Nat} {R:List (Id×Own)} {E:Env} {K:Env→Prop} {Kp:AV→Env→Prop} (ho:o.op= .next it true) (hit:E.ev it= .bp i 0) (hR:E.h.bx=(i, .si s pos)::R) (hlt:¬pos < s.size)
 (hk:K (E.set o.dst (.tup [.v (.bool false)]))):AOp P o E K Kp:=
 Jjr ho hit hR (fun h=> absurd h hlt) (fun _=> hk)
theorem Jrm {s:ByteArray} {i:Nat} (h:(s.get! i).toNat < 128):Utf8.decode s i=((s.get! i).toNat,1):=by
 unfold Utf8.decode
 simp only [Nat.add_zero]
 rw [if_pos h]
end Go.Vl

namespace Go.Vl
open Go.RowKit
variable {P:Program}
def Jgg (P:Program) (it:FuncId) (first caps:List AV) {α:Type} (e:α→List AV) (S:List α→Prop):Prop:=
 ∀(i:Id) (σ:Type) (Cb:σ→List (Id×Own)) (Cp:σ→List (Id×Nat)) (I:List α→σ→Prop) (J:List α→α→σ→Prop),(∀xs,S xs→Jhd P i e xs Cb Cp I J)→
  ∀s0 nx nn,I [] s0→ECall P it (first++ [.yl i]++caps) ⟨Cb s0,Cp s0,nx,nn⟩ (fun _ h'=> ∃xs s',S xs∧JmI xs I J s'∧h'.bx=Cb s'∧h'.pm=Cp s')
theorem IterSpec.set {it:FuncId} {first caps:List AV} {α:Type} {e:α→List AV} {xs:List α} (h:IterSpec P it first caps e xs):Jgg P it first caps e (·=xs):=
 fun i σ Cb Cp I J hc s0 nx nn h0=> (h i σ Cb Cp I J (hc xs rfl) s0 nx nn h0).mono fun _ _ ⟨s',h1,h2,h3⟩=> ⟨xs,s',rfl,h1,h2,h3⟩
theorem Js4 {gop:Operand} {ps:Array Tmp} {asg body:Code} {E:Env} {Q:AExit→Env→Prop} {it:FuncId} {first caps:List AV} {ds:List DA} {σ α:Type} {e:α→List AV} {S:List α→Prop} {first' caps':List AV}
 (Cb:σ→List (Id×Own)) (Cp:σ→List (Id×Nat)) (I:List α→σ→Prop) (J:List α→α→σ→Prop) (s0:σ) (hd:E.df=some ds) (hf:E.ev gop= .fn (.func it) first caps) (hit:Jgg P it first' caps' e S) (hl1:LeL first first') (hl2:LeL caps caps')
 (hb:((E.h.addo .df).addo (.lp .ready none E.n E.t ps asg body)).bx=Cb s0) (hp:E.h.pm=Cp s0) (h0:I [] s0) (hc:∀xs,S xs→Jhd P (E.h.nn+1,E.h.nx+1) e xs Cb Cp I J)
 (hend:∀xs s' nx nn,S xs→JmI xs I J s'→Jdr (E.h.nn+1,E.h.nx+1) { E with h:=(E.h.addo .df).addo (.lp .ready none E.n E.t ps asg body),df:=some (.col (E.h.nn,E.h.nx)::ds)} Q ⟨Cb s',Cp s',nx,nn⟩):
 AW P (.rangeFunc gop ps asg body) E Q:=by
 refine JiN hd hf ?_
 have h1:=hit (E.h.nn+1,E.h.nx+1) σ Cb Cp I J hc s0 (E.h.nx+2) (E.h.nn+2) h0
 have e1:(E.h.addo .df).addo (.lp .ready none E.n E.t ps asg body)=⟨Cb s0,Cp s0,E.h.nx+2,E.h.nn+2⟩:=by
  rw [← hb,← hp];rfl
 rw [← e1] at h1
 refine ((ECall.args (LeL.append (LeL.append hl1 (LeL.refl _)) hl2) h1)).mono fun r h' hq=> ?_
 obtain ⟨xs,s',hS,q1,q2,q3⟩:=hq
 obtain ⟨bx,pm,nx,nn⟩:=h'
 dsimp only at q2 q3
 subst q2;subst q3
 exact hend xs s' nx nn hS q1
theorem Jun {gop:Operand} {ps:Array Tmp} {asg body:Code} {E:Env} {Q:AExit→Env→Prop} {it:FuncId} {first caps:List AV} {ds:List DA} {σ α:Type} {e:α→List AV} {S:List α→Prop} {first' caps':List AV}
 (Cb:σ→List (Id×Own)) (Cp:σ→List (Id×Nat)) (I:List α→σ→Prop) (s0:σ) (hd:E.df=some ds) (hf:E.ev gop= .fn (.func it) first caps) (hit:Jgg P it first' caps' e S) (hl1:LeL first first') (hl2:LeL caps caps')
 (hb:E.h.bx=Cb s0) (hp:E.h.pm=Cp s0) (h0:I [] s0) (hlen:∀x,(e x).length=ps.size)
 (hc:∀pre x post s nx nn,S (pre++x::post)→I pre s→AW P asg (Jbw E.n E.t ⟨((E.h.nn+1,E.h.nx+1), .lp .ready none E.n E.t ps asg body)::((E.h.nn,E.h.nx), .df)::Cb s,Cp s,nx,nn⟩ (ps.toList.zip (e x)).reverse)
   (Jki P (E.h.nn+1,E.h.nx+1) body (JhU (fun s=> ((E.h.nn+1,E.h.nx+1), .lp .ready none E.n E.t ps asg body)::((E.h.nn,E.h.nx), .df)::Cb s) Cp I (fun _ _ _=> False) pre x)))
 (hend:∀xs s' nx nn,S xs→I xs s'→Q .normal { E with h:=⟨((E.h.nn+1,E.h.nx+1), .lp .exhausted none E.n E.t ps asg body)::((E.h.nn,E.h.nx), .df)::Cb s',Cp s',nx,nn⟩,df:=some (.col (E.h.nn,E.h.nx)::ds)}):
 AW P (.rangeFunc gop ps asg body) E Q:=by
 refine Js4 (fun s=> ((E.h.nn+1,E.h.nx+1), .lp .ready none E.n E.t ps asg body)::((E.h.nn,E.h.nx), .df)::Cb s) Cp I (fun _ _ _=> False) s0 hd hf hit hl1 hl2 ?_ hp h0 ?_ ?_
 ·show _::_::E.h.bx=_
  rw [hb];rfl
 ·intro xs hS pre x post s nx nn hx hI
  subst hx
  exact JeF (i:=(E.h.nn+1,E.h.nx+1)) (pd:=none) (n:=E.n) (t:=E.t) (ps:=ps) (asg:=asg) (body:=body) (by simp [JY]) (hlen x) (hc pre x post s nx nn hS hI)
 ·intro xs s' nx nn hS h
  rcases h with h | ⟨_,_,_,_,h⟩
  ·unfold Jdr
   simp only [JY,Nat.beq_refl,cond_true]
   refine ⟨trivial,(by intro h;cases h), ?_⟩
   simp only [Jan,Nat.beq_refl,cond_true]
   exact hend xs s' nx nn hS h
  ·exact h.elim
theorem Jrn {seen:List Nat} {n k:Nat} (hnd:seen.Nodup) (hlt:∀j∈seen,j < n) (hk:k < n) (hn:k∉seen):∃post,(seen++k::post).Perm (List.range n):=by
 refine ⟨(List.range n).filter fun j=> decide (j∉seen∧j≠k), ?_⟩
 have hp:∀j,j∈(List.range n).filter (fun j=> decide (j∉seen∧j≠k))↔j < n∧j∉seen∧j≠k:=fun j=> by simp
 generalize hpost:(List.range n).filter (fun j=> decide (j∉seen∧j≠k))=post at hp
 have hpn:post.Nodup:=by rw [← hpost];exact List.nodup_range.filter _
 have hnd2:(seen++k::post).Nodup:=by
  rw [List.nodup_append]
  refine ⟨hnd,List.nodup_cons.2 ⟨fun h=> ((hp k).1 h).2.2 rfl,hpn⟩,fun a ha b hb hab=> ?_⟩
  subst hab
  rcases List.mem_cons.1 hb with rfl | h
  ·exact hn ha
  ·exact ((hp a).1 h).2.1 ha
 refine (List.perm_ext_iff_of_nodup hnd2 List.nodup_range).2 fun j=> ?_
 rw [List.mem_range,List.mem_append,List.mem_cons,hp]
 constructor
 ·rintro (h | rfl | h)
  ·exact hlt j h
  ·exact hk
  ·exact h.1
 ·intro h
  by_cases h1:j∈seen
  ·exact .inl h1
  ·by_cases h2:j=k
   ·exact .inr (.inl h2)
   ·exact .inr (.inr ⟨h,h1,h2⟩)
theorem Jro {seen:List Nat} {n:Nat} (hnd:seen.Nodup) (hlt:∀j∈seen,j < n) (hall:∀k,k < n→k∈seen):seen.Perm (List.range n):=by
 refine (List.perm_ext_iff_of_nodup hnd List.nodup_range).2 fun j=> ?_
 rw [List.mem_range]
 exact ⟨hlt j,hall j⟩
end Go.Vl

namespace Go.Vl
open Go.RowKit
variable {P:Program}
def JL (n:Nat) (f:Nat→AV):List AV:=(List.range n).flatMap fun k=> (f k).cells
def Jua (Q:Nat→(Nat→AV)→Prop) (sz:Nat) (r:AV) (h':Heap):Prop:=
 ∃n f,Q n f∧((n=0∧h'.bx= []∧h'.pm= []∧r= .os sz 0 f none)∨∃s cap more nx' nn',n≤cap∧cap * sz≤n * sz+more∧r= .hs (0,s) 0 n cap∧h'=⟨[((0,s), .c (JL n f++List.replicate more .any))], [],nx',nn'⟩)
theorem Jdf {n sz:Nat} {f:Nat→AV} (hc:∀i,i < n→(f i).cells.length=sz):(JL n f).length=n * sz∧∀i j,i < n→j < sz→(JL n f)[i * sz+j]? =(f i).cells[j]? :=by
 induction n with
 | zero=> exact ⟨by simp [JL],fun i j h=> by omega⟩
 | succ n ih=>
   obtain ⟨h1,h2⟩:=ih fun i hi=> hc i Om
   have e:JL (n+1) f=JL n f++(f n).cells:=by unfold JL;rw [List.range_succ,List.flatMap_append];simp
   have hn:=hc n Om
   refine ⟨by rw [e,List.length_append,h1,hn,Nat.succ_mul],fun i j hi hj=> ?_⟩
   rw [e]
   by_cases h:i < n
   ·rw [List.getElem?_append_left,h2 i j h hj]
    rw [h1]
    have:i * sz+sz≤n * sz:=by rw [← Nat.succ_mul];exact Nat.mul_le_mul_right _ h
    omega
   ·obtain rfl:i=n:=by omega
    rw [List.getElem?_append_right (by rw [h1];omega),h1]
    congr 1;omega
theorem JpH {f:FuncId} {args:List AV} {nx sz:Nat} {Q:Nat→(Nat→AV)→Prop} (hz:0 < sz) (hflat:∀n f,Q n f→∀k,k < n→∀c∈(f k).cells,Flat c)
 (hc:ECall P f args ⟨[], [],nx,0⟩ fun r h'=> ∃n f oi nx' nn',Q n f∧(oi=none→n=0)∧r= .os sz n f oi∧h'=⟨[],Jbo oi (n * sz),nx',nn'⟩):
 ECall P f args ⟨[], [],nx,0⟩ (Jua Q sz):=by
 refine ⟨hc.1,fun X w g vs h1 h2 h3 h4=> ?_⟩
 refine (JeE P f).mono (hc.2 X w g vs h1 h2 h3 h4) fun e w' ⟨r,h',g',a1,a2,a3,a4,a5,a7,a8⟩=> ?_
 cases r with
 | pan x=> exact a2.elim
 | ret r=>
   obtain ⟨n,f0,oi,nx',nn',q1,q2,rfl,rfl⟩:=a2
   cases oi with
   | none=>
     obtain rfl:=q2 rfl
     exact ⟨.ret (.os sz 0 f0 none),⟨[], [],nx',nn'⟩,g',a1,⟨0,f0,q1, .inl ⟨rfl,rfl,rfl,rfl⟩⟩,a3,a4,a5,a7,a8⟩
   | some i=>
     obtain ⟨nm,s⟩:=i
     obtain ⟨u,rfl,a1⟩:=a1
     obtain ⟨b,bvs,be,hgb,hblk,hle⟩:=a4.pm ((nm,s),n * sz) (by simp [Jbo])
     dsimp only at hgb hle
     generalize hu:u=u0 at a1
     cases a1 with
     | oss _ _ _ _ b2 cap vs2 hg2 hlen hcap hcell hroom hcs hrep=>
       subst hu
       dsimp only at hg2
       rw [hgb] at hg2
       cases hg2
       have hflt:=hflat n f0 q1
       obtain ⟨rl,rg⟩:=Jdf hcs
       have hcapsz:cap * sz≤bvs.size:=by
        rcases Nat.eq_zero_or_pos (cap * sz) with h0 | h0
        ·omega
        ·obtain ⟨⟨v,hv⟩,_⟩:=hroom (cap * sz - 1) Om
         rw [Jw hblk] at hv
         have:=(Array.getElem?_eq_some_iff.1 hv).1
         omega
       have hnew:¬b < w.heap.size:=fun hb=> by
        have:=a8 b (n * sz) (.inr (.inr ⟨((nm,s),n * sz),by simp [Jbo],hgb,Nat.le_refl _⟩)) hb
        rcases this with h | ⟨p,hp,_⟩ | ⟨p,hp,_⟩
        ·exact h
        ·cases hp
        ·cases hp
       have hids:∀j,j∈Heap.ids (⟨[((0,s), .c (JL n f0++List.replicate (bvs.size - n * sz) .any))], [],nx',nn'⟩:Heap)→j=s:=fun j hj=> by simpa [Heap.ids] using hj
       refine ⟨.ret (.hs (0,s) 0 n cap),⟨[((0,s), .c (JL n f0++List.replicate (bvs.size - n * sz) .any))], [],nx',nn'⟩,g',⟨_,rfl, .hs _ _ _ _ b hgb⟩,⟨n,f0,q1, .inr ⟨s,cap,bvs.size - n * sz,nx',nn',hcap,by omega,rfl,rfl⟩⟩,a3, ?_,fun b' o hx j hj=> ?_,a7,fun b' o hx hb=> ?_⟩
       ·refine ⟨fun p hp=> ?_,fun p hp=> (by cases hp),by simp [Heap.ids],a4.nx,fun b' o hx=> ?_,fun p hp=> ⟨(a4.kn p hp).1,fun o hx=> ?_⟩⟩
        ·obtain rfl:=List.mem_singleton.1 hp
         refine ⟨b,hgb,bvs,be,hblk,by rw [List.length_append,rl,List.length_replicate];omega,fun k c u hk hku=> ?_⟩
         rcases Nat.lt_or_ge k (n * sz) with hlt | hge
         ·rw [List.getElem?_append_left (by rw [rl];exact hlt)] at hk
          have hd:k=(k / sz) * sz+k % sz:=by rw [Nat.mul_comm];exact (Nat.div_add_mod k sz).symm
          have hk1:k / sz < n:=Nat.div_lt_of_lt_mul (by rw [Nat.mul_comm];exact hlt)
          have hk2:k % sz < sz:=Nat.mod_lt _ hz
          rw [hd,rg _ _ hk1 hk2] at hk
          have hv:k < vs2.length:=by rw [hlen];exact hlt
          have hcv:=(hcell k _ (List.getElem?_eq_getElem hv)).1
          rw [Jw hblk,hku] at hcv
          cases hcv
          exact hflt _ hk1 c (List.mem_of_getElem? hk) _ _ _ _ _ _ _ (hrep _ _ c _ hk1 hk (by rw [← hd];exact List.getElem?_eq_getElem hv))
         ·rw [List.getElem?_append_right (by rw [rl];exact hge)] at hk
          obtain rfl:c= .any:=by
           have:=List.mem_of_getElem? hk
           exact (List.mem_replicate.1 this).2
          exact .any _
        ·rcases hx with hx | ⟨p,hp,hg⟩ | ⟨p,hp,_⟩
         ·exact a4.bd b' o (.inl hx)
         ·obtain rfl:=List.mem_singleton.1 hp
          dsimp only at hg
          rw [hgb] at hg;cases hg
          exact JC hblk
         ·cases hp
        ·rcases hx with hx | ⟨q,hq,hg⟩ | ⟨q,hq,_⟩
         ·exact (a4.kn p hp).2 o (.inl hx)
         ·obtain rfl:=List.mem_singleton.1 hq
          exact (a4.kn p hp).2 (n * sz) (.inr (.inr ⟨((nm,s),n * sz),by simp [Jbo],hg,Nat.le_refl _⟩))
         ·cases hq
       ·obtain rfl:=hids j hj
        exact a5 b' o hx j (by simp [Heap.ids,Jbo])
       ·rcases hx with hx | ⟨p,hp,hg⟩ | ⟨p,hp,_⟩
        ·exact hx.elim
        ·obtain rfl:=List.mem_singleton.1 hp
         dsimp only at hg
         rw [hgb] at hg;cases hg
         exact absurd hb hnew
        ·cases hp
end Go.Vl

namespace Go.Vl
open Go.RowKit
variable {P:Program}
theorem Jkn {w:World} {X:Nat→Nat→Prop} {g:List Nat} {us vs:List Value} (h3:us.length=(vs.map AV.v).length)
 (h4:∀(k:Nat) (c:AV) (u:Value),(vs.map AV.v)[k]? =some c→us[k]? =some u→Rep w X g c u):us=vs:=by
 refine List.ext_getElem (by simpa using h3) fun k hk1 hk2=> ?_
 have:=h4 k (.v vs[k]) us[k] (by simp [hk2]) (List.getElem?_eq_getElem hk1)
 generalize us[k]=a at this
 cases this
 rfl
theorem Kn.none {w:World} {X:Nat→Nat→Prop} (h:Kn w X):Kn w none2:=fun p hp=> ⟨(h p hp).1,fun _ h=> h⟩
theorem Jc9 {f:FuncId} {vs:List Value} {u:Value} (hcb:JbL P f)
 (h:∀w,Kn w none2→Calls P f vs.toArray w fun e w'=> e= .returned u∧Below w.heap.size w w'):Tells P f (vs.map .v) (.v u):=fun nx=> by
 refine ⟨hcb,fun X w g us h1 h2 h3 h4=> ?_⟩
 obtain rfl:=Jkn h3 h4
 refine (JeE P f).mono (w0:=w) (g:=g) (R:=_) (h w h1.kn.none) fun e w' ⟨he,hb⟩=> ?_
 have hev:=Evo.of_below hb
 exact ⟨.ret (.v u),⟨[], [],nx,0⟩,g,⟨u,he, .v _⟩,⟨Rf,rfl,rfl⟩,fun _ _ h=> h,h1.evo0 hev,fun b o hx i hi=> (by cases hi),hev.mono fun b o _ h=> h.elim,fun b o h _=> h⟩
theorem JcF {f:FuncId} {vs:List Value} {u:Value} (hcb:JbL P f)
 (h:∀w,Calls P f vs.toArray w fun e w'=> e= .returned u∧Below w.heap.size w w'):Tells P f (vs.map .v) (.v u):=Jc9 hcb fun w _=> h w
theorem Jiq {α:Type} [Inhabited α] {f:FuncId} {enc:α→Value} {d d':Array α} {tl:List AV} {nm s cap nx nn:Nat} (hcb:JbL P f) (hd:d'.size=d.size)
 (h:∀(w:World) (blk:Nat),Sort.Holds enc w blk 0 d→blk < w.heap.size→Calls P f #[.slice (some ⟨blk,0,none⟩) d.size cap] w fun e w'=> e= .returned (.tuple #[])∧∃n os,w'=Sort.grow (Sort.putRow enc (Sort.ahead w n) blk 0 d') os):
 ECall P f [.hs (nm,s) 0 d.size cap] ⟨[((nm,s), .c (d.toList.map (fun x=> .v (enc x))++tl))], [],nx,nn⟩
  fun r h'=> r= .tup []∧h'=⟨[((nm,s), .c (d'.toList.map (fun x=> .v (enc x))++tl))], [],nx,nn⟩:=by
 refine ⟨hcb,fun X w g us h1 h2 h3 h4=> ?_⟩
 obtain ⟨b,hgb,vs,ety,hblk,hsz,hrep⟩:=h1.bx _ (.head _)
 dsimp only at hgb
 match us,h3,h4 with
 | [u],_,h4=>
 have hr:=h4 0 _ u rfl rfl
 generalize hu:u=u0 at hr
 cases hr with
 | hs _ _ _ _ b2 hg2=>
   subst hu
   dsimp only at hg2
   rw [hgb] at hg2
   cases hg2
   have hbl:=JC hblk
   have hlen:d.size≤vs.size:=by rw [hsz];simp
   have hH:Sort.Holds enc w b 0 d:=fun j hj=> by
    refine ⟨?_,by rw [JaG hblk];simp⟩
    have hj2:j < vs.size:=by omega
    have:=hrep j (.v (enc d[j]!)) vs[j] (by rw [List.getElem?_append_left (by simpa using hj)];simp [hj]) (Array.getElem?_eq_getElem hj2)
    generalize hv:vs[j]=v at this
    cases this
    rw [Jw hblk,Nat.zero_add,Array.getElem?_eq_getElem hj2,hv]
   refine (JeE P f).mono (w0:=w) (g:=g) (R:=_) (h w b hH hbl) fun e w' ⟨he,n,os,hw⟩=> ?_
   have hb':w'.heap[b]? =some (.cells (Sort.putCells enc 0 d' vs) ety (0,0)):=by
    subst hw
    rw [Sort.heap_grow_old _ _ (by simpa [Sort.putRow,Sort.mapBlock,Sort.ahead] using hbl)]
    show (w.heap.modify b _)[b]? =_
    rw [Array.getElem?_modify,if_pos rfl,hblk]
    rfl
   have hoth:∀k,k < w.heap.size→k≠b→w'.heap[k]? =w.heap[k]? :=fun k hk hne=> by
    subst hw
    rw [Sort.heap_grow_old _ _ (by simpa [Sort.putRow,Sort.mapBlock,Sort.ahead] using hk)]
    show (w.heap.modify b _)[k]? =_
    rw [Array.getElem?_modify,if_neg (Ne.symm hne)]
   have hsize:w.heap.size≤w'.heap.size:=by
    subst hw
    simp [Sort.grow,Sort.putRow,Sort.mapBlock,Sort.ahead]
   have hM:∀b0 o,¬excl none2 g ⟨[((nm,s), .c (d.toList.map (fun x=> .v (enc x))++tl))], [],nx,nn⟩ b0 o→b0≠b:=fun b0 o hn hb0=> hn (.inr (.inl ⟨_, .head _,by rw [hb0];exact hgb⟩))
   have hev:Evo (excl none2 g ⟨[((nm,s), .c (d.toList.map (fun x=> .v (enc x))++tl))], [],nx,nn⟩) w w':=by
    refine ⟨by subst hw;rfl,by subst hw;rfl,by subst hw;rfl,hsize,fun b0 hb0 hn=> hoth b0 hb0 (hM b0 0 (hn 0)),fun b0 o hb0 hn=> World.cell?_of_block (a:=⟨b0,o,none⟩) (hoth b0 hb0 (hM b0 o hn)),fun b0 us0 e0 fz h0=> ?_,fun b0 l h0=> ?_⟩
    ·by_cases hb0:b0=b
     ·subst hb0
      rw [hblk] at h0
      cases h0
      exact ⟨_,hb',by simp [Sort.putCells]⟩
     ·exact ⟨us0,(hoth b0 (JC h0) hb0).trans h0,rfl⟩
    ·by_cases hb0:b0=b
     ·subst hb0
      rw [hblk] at h0
      cases h0
     ·exact ⟨l,(hoth b0 (JC h0) hb0).trans h0⟩
   have hstay:=hev.stays (X:=excl X g ⟨[((nm,s), .c (d.toList.map (fun x=> .v (enc x))++tl))], [],nx,nn⟩) (X':=excl X g ⟨[((nm,s), .c (d.toList.map (fun x=> .v (enc x))++tl))], [],nx,nn⟩) (g:=g) (g':=g)
    (fun b0 o _ hm=> hm.elim (fun h=> h.elim) .inr) (fun _ _ _ h=> h) (fun _ _ h=> h)
   refine ⟨.ret (.tup []),_,g,⟨_,he, .tup [] [] rfl (by simp)⟩,⟨rfl,rfl⟩,fun _ _ h=> h, ?_,fun b0 o hx i hi=> h2 b0 o hx i hi,hev,fun b0 o h _=> by simpa [excl] using h⟩
   have hids:∀b0 o,excl X g ⟨[((nm,s), .c (d'.toList.map (fun x=> .v (enc x))++tl))], [],nx,nn⟩ b0 o↔excl X g ⟨[((nm,s), .c (d.toList.map (fun x=> .v (enc x))++tl))], [],nx,nn⟩ b0 o:=fun b0 o=> by simp [excl]
   have hX:excl X g ⟨[((nm,s), .c (d'.toList.map (fun x=> .v (enc x))++tl))], [],nx,nn⟩=excl X g ⟨[((nm,s), .c (d.toList.map (fun x=> .v (enc x))++tl))], [],nx,nn⟩:=by
    funext b0 o;exact propext (hids b0 o)
   rw [hX]
   refine ⟨fun p hp=> ?_,fun p hp=> (by cases hp),h1.nodup,h1.nx,fun b0 o hx=> ?_, ?_⟩
   ·obtain rfl:=List.mem_singleton.1 hp
    refine ⟨b,hgb,Sort.putCells enc 0 d' vs,ety,hb',by simp [Sort.putCells,hsz,hd],fun k c u hk hku=> ?_⟩
    have hkv:k < vs.size:=by have:=(Array.getElem?_eq_some_iff.1 hku).1;simpa [Sort.putCells] using this
    have hval:(Sort.putCells enc 0 d' vs)[k]? =some (if 0≤k∧k < 0+d'.size then enc d'[k - 0]! else vs[k]):=by simp [Sort.putCells,hkv]
    rw [hval] at hku
    by_cases hkd:k < d'.size
    ·rw [if_pos ⟨Nat.zero_le _,by omega⟩] at hku
     rw [List.getElem?_append_left (by simpa using hkd)] at hk
     simp [hkd] at hk hku
     subst hk;subst hku
     exact .v _
    ·rw [if_neg Om] at hku
     rw [List.getElem?_append_right (by simpa using Nat.le_of_not_lt hkd)] at hk
     refine (hrep k c u ?_ (by rw [Array.getElem?_eq_getElem hkv];exact hku)).stays hstay
     rw [List.getElem?_append_right (by simp;omega)]
     simpa [hd] using hk
   ·exact Nat.lt_of_lt_of_le (h1.bd b0 o hx) hsize
   ·exact h1.kn.stays hstay
theorem Jir {f:FuncId} {sz nx:Nat} {F:Nat→AV} (hcb:JbL P f)
 (h:∀(p:Option Addr) (cap:Nat) (w:World),Calls P f #[.slice p 0 cap] w fun e w'=> e= .returned (.tuple #[])∧w'=w):Tells P f [.os sz 0 F none] (.tup []):=fun nx=> by
 refine ⟨hcb,fun X w g us h1 h2 h3 h4=> ?_⟩
 match us,h3,h4 with
 | [u],_,h4=>
 have hr:=h4 0 _ u rfl rfl
 have key:∃p cap,u= .slice p 0 cap:=by
  cases hr with
  | os0 _ _ a=> exact ⟨a,0,rfl⟩
  | osn _ _ _ b off vs=> exact ⟨_,0,rfl⟩
 obtain ⟨p,cap,rfl⟩:=key
 refine (JeE P f).mono (w0:=w) (g:=g) (R:=_) (h p cap w) fun e w' ⟨he,hw⟩=> ?_
 subst hw
 exact ⟨.ret (.tup []),⟨[], [],nx,0⟩,g,⟨_,he, .tup [] [] rfl (by simp)⟩,⟨Rf,rfl,rfl⟩,fun _ _ h=> h,h1,h2,Evo.refl _ _,fun b o h _=> h⟩
end Go.Vl

namespace Go.Vl
open Go.RowKit
variable {P:Program}
theorem JmV {f:FuncId} {ars:List AV} {vs xs:List Value} {t:TypeId} (hcb:JbL P f) (has:∀w X g (us:List Value),us.length=ars.length→(∀(k:Nat) (c:AV) (u:Value),ars[k]? =some c→us[k]? =some u→Rep w X g c u)→us=vs)
 (h:∀w,Kn w none2→Calls P f vs.toArray w fun e w'=> ∃A,e= .returned (.slice (some ⟨A,0,none⟩) xs.length xs.length)∧w.heap.size≤A∧w'.ownsRow w.heap.size t 1 (.slice (some ⟨A,0,none⟩) xs.length xs.length) xs.length xs∧Below w.heap.size w w'):
 Tells P f ars (.sl 1 xs.length fun k=> .v (xs.getD k undef)):=fun nx=> by
 refine ⟨hcb,fun X w g us h1 h2 h3 h4=> ?_⟩
 obtain rfl:=has _ _ _ us h3 h4
 refine (JeE P f).mono (w0:=w) (g:=g) (R:=_) (h w h1.kn.none) fun e w' ⟨A,he,hA,hown,hb⟩=> ?_
 have hev:=Evo.of_below hb
 refine ⟨.ret (.sl 1 xs.length fun k=> .v (xs.getD k undef)),⟨[], [],nx,0⟩,g,⟨_,he, ?_⟩,⟨Rf,rfl,rfl⟩,fun _ _ h=> h,h1.evo0 hev,fun b o hx i hi=> (by cases hi),hev.mono fun b o _ h=> h.elim,fun b o h _=> h⟩
 obtain ⟨hl,hv⟩:=hown
 rcases hv with ⟨hv,_⟩ | ⟨A',cap,cur,hv,_,hblk,hn,_,hsz,htk⟩
 ·cases hv
 ·cases hv
  have hnx:∀o,¬excl X g ⟨[], [],nx,0⟩ A o:=fun o hx=> by
   have:=h1.bd _ _ hx
   omega
  refine .sl 1 xs.length _ A 0 _ xs Om (Nat.le_refl _) (fun k u hu=> ⟨?_,hnx _⟩) (fun i _=> rfl) (fun i j c u hi hc hu=> ?_)
  ·have hk:=(List.getElem?_eq_some_iff.1 hu).1
   rw [Jw hblk,Nat.zero_add]
   have:(cur.toList.take (xs.length * 1))[k]? =some u:=by rw [htk];exact hu
   rw [List.getElem?_take] at this
   split at this
   ·simpa using this
   ·cases this
  ·cases j with
   | zero=>
     simp only [AV.cells,List.getElem?_cons_zero,Option.some.injEq] at hc
     subst hc
     rw [Nat.mul_one,Nat.add_zero] at hu
     have:xs.getD i undef=u:=by rw [List.getD_eq_getElem?_getD,hu];rfl
     rw [this]
     exact .v _
   | succ j=> simp [AV.cells] at hc
theorem JmW {w w':World} (h:Evo none2 w w'):Below w.heap.size w w':=⟨h.os,h.tape,h.output,h.size,fun b hb=> h.blk b hb fun o q=> q⟩
theorem Jl4 {g:FuncId} {p:Nat→Bool} (h:∀x:Nat,x≤1114111→Tells P g [.v (.int .i32 x)] (.v (.bool (p x)))) (w:World) (hw:Kn w none2):Go.Proofs.PredGrows P g #[] p w:=fun W x hx hWw=> by
 have hk:HOk W (excl none2 [] ⟨[], [],0,0⟩) [] ⟨[], [],0,0⟩:=⟨by simp,by simp,by simp [Heap.ids],rfl,fun b o hx=> (by rcases hx with hx | ⟨p,hp,_⟩ | ⟨p,hp,_⟩ <;> first | exact hx.elim | cases hp),fun p hp=> ⟨by obtain ⟨⟨e,fz,h1⟩,_⟩:=hw p hp;exact ⟨e,fz,(hWw.block _ (JC h1)).trans h1⟩,fun o hx=> (by rcases hx with hx | ⟨p,hp,_⟩ | ⟨p,hp,_⟩ <;> first | exact hx.elim | cases hp)⟩⟩
 have hc:=(h x hx 0).2 none2 W [] [.int .i32 x] hk (fun _ _ hx=> hx.elim) rfl (fun k c u hc hu=> by
  cases k with
  | zero=> simp at hc hu;subst hc;subst hu;exact .v _
  | succ k=> simp at hc)
 refine Calls.mono (show Calls P g _ W _ from hc) fun e w' ⟨r,h',g',a1,a2,_,_,_,a3,_⟩=> ?_
 cases r with
 | pan x=> exact a2.elim
 | ret r=>
   obtain ⟨u,rfl,e2⟩:=a1
   have:=a2.1 _ _ _ _ e2
   cases this
   refine ⟨rfl,JmW (a3.mono fun b o _ hx=> ?_)⟩
   rcases hx with hx | ⟨p,hp,_⟩ | ⟨p,hp,_⟩
   ·exact hx
   ·cases hp
   ·cases hp
theorem Jwh {f:FuncId}:AVle (.fn (.func f) [] []) (.v (.func (.func f) #[] #[])):=fun w X g u hr=> by
 cases hr with
 | fn _ _ _ v1 v2 h1 h2 _ _=>
   have e1:v1= []:=List.eq_nil_of_length_eq_zero h1
   have e2:v2= []:=List.eq_nil_of_length_eq_zero h2
   subst e1;subst e2
   exact .v _
end Go.Vl

namespace Go.Vl
open Go.RowKit
variable {P:Program}
theorem JxH {gop:Operand} {ps:Array Tmp} {asg body:Code} {E:Env} {Q:AExit→Env→Prop} {it:FuncId} {first caps:List AV} {ds:List DA} {σ α:Type} {e:α→List AV} {xs:List α} {first' caps':List AV}
 (Cb:σ→List (Id×Own)) (Cp:σ→List (Id×Nat)) (I:List α→σ→Prop) (J:List α→α→σ→Prop) (s0:σ) (hd:E.df=some ds) (hf:E.ev gop= .fn (.func it) first caps) (hit:IterSpec P it first' caps' e xs) (hl1:LeL first first') (hl2:LeL caps caps')
 (hb:E.h.bx=Cb s0) (hp:E.h.pm=Cp s0) (h0:I [] s0) (hlen:∀x,(e x).length=ps.size)
 (hc:∀pre x post s nx nn,xs=pre++x::post→I pre s→AW P asg (Jbw E.n E.t ⟨((E.h.nn+1,E.h.nx+1), .lp .ready none E.n E.t ps asg body)::((E.h.nn,E.h.nx), .df)::Cb s,Cp s,nx,nn⟩ (ps.toList.zip (e x)).reverse)
   (Jki P (E.h.nn+1,E.h.nx+1) body (wk fun r h'=> (r= .v (.bool true)∧∃s',I (pre++ [x]) s'∧h'.bx=((E.h.nn+1,E.h.nx+1), .lp .ready none E.n E.t ps asg body)::((E.h.nn,E.h.nx), .df)::Cb s'∧h'.pm=Cp s')∨
     (r= .v (.bool false)∧∃s',J pre x s'∧h'.bx=((E.h.nn+1,E.h.nx+1), .lp .done (some .ret) E.n E.t ps asg body)::((E.h.nn,E.h.nx), .df)::Cb s'∧h'.pm=Cp s'))))
 (hend:∀s' nx nn,I xs s'→Q .normal { E with h:=⟨((E.h.nn+1,E.h.nx+1), .lp .exhausted none E.n E.t ps asg body)::((E.h.nn,E.h.nx), .df)::Cb s',Cp s',nx,nn⟩,df:=some (.col (E.h.nn,E.h.nx)::ds)})
 (hret:∀pre x post s' nx nn,xs=pre++x::post→J pre x s'→Q .ret { E with h:=⟨((E.h.nn+1,E.h.nx+1), .lp .exhausted (some .ret) E.n E.t ps asg body)::((E.h.nn,E.h.nx), .df)::Cb s',Cp s',nx,nn⟩,df:=some (.col (E.h.nn,E.h.nx)::ds)}):
 AW P (.rangeFunc gop ps asg body) E Q:=by
 refine JoR (σ:=σ×Bool) (fun s=> ((E.h.nn+1,E.h.nx+1), .lp (bif s.2 then .done else .ready) (bif s.2 then some .ret else none) E.n E.t ps asg body)::((E.h.nn,E.h.nx), .df)::Cb s.1) (fun s=> Cp s.1) (fun pre s=> s.2=false∧I pre s.1) (fun pre x s=> s.2=true∧J pre x s.1) (s0,false) hd hf hit hl1 hl2 ?_ hp ⟨rfl,h0⟩ ?_ ?_
 ·show _::_::E.h.bx=_
  rw [hb];rfl
 ·rintro pre x post ⟨s,b⟩ nx nn hx ⟨hb0,hI⟩
  dsimp only at hb0 hI
  subst hb0
  refine (JeF (i:=(E.h.nn+1,E.h.nx+1)) (pd:=none) (n:=E.n) (t:=E.t) (ps:=ps) (asg:=asg) (body:=body) (by simp [JY]) (hlen x) (hc pre x post s nx nn hx hI)).wk.mono fun r h' hq=> ?_
  cases r with
  | pan x=> exact hq.elim
  | ret r=>
    rcases hq with ⟨hr,s',h1,h2,h3⟩ | ⟨hr,s',h1,h2,h3⟩
    ·exact ⟨(s',false), .inl ⟨hr,rfl,h1⟩,h2,h3⟩
    ·exact ⟨(s',true), .inr ⟨hr,rfl,h1⟩,h2,h3⟩
 ·rintro ⟨s',b⟩ nx nn h
  rcases h with ⟨hb0,h⟩ | ⟨pre,x,post,hx,hb0,h⟩
  ·dsimp only at hb0 h
   subst hb0
   unfold Jdr
   simp only [JY,Nat.beq_refl,cond_true,cond_false]
   refine ⟨trivial,(by intro h;cases h), ?_⟩
   simp only [Jan,Nat.beq_refl,cond_true]
   exact hend s' nx nn h
  ·dsimp only at hb0 h
   subst hb0
   unfold Jdr
   simp only [JY,Nat.beq_refl,cond_true,cond_false]
   refine ⟨trivial,(by intro h;cases h), ?_⟩
   simp only [Jan,Nat.beq_refl,cond_true]
   exact hret pre x post s' nx nn hx h
end Go.Vl

namespace Go.Vl
open Go.RowKit
variable {P:Program}
theorem Jjs {t e:TypeId} {d:TypeDesc} {n:Nat} {w:World} (ht:P.underlying t=some (.array n e)) (hd:P.underlying e=some d) (h1:P.cellsOf e=1) (b off:Nat) (hn:0 < n):
 (Instr.sliceAt t (.pointer (some ⟨b,off,none⟩)) none none none).run P w= .ok (.slice (some ⟨b,off,none⟩) n n) w:=by
 simp [Instr.sliceAt,run_underlying ht,Instr.sureAddr,Instr.sliceBounds,JD hd,h1,J2]
theorem JmX {o:Oper} {E:Env} {t e:TypeId} {x:Operand} {n:Nat} {d:TypeDesc} {cs:List AV} (ho:o.op= .slice t x none none none) (hx:E.ev x= .rp cs)
 (ht:P.underlying t=some (.array n e)) (hd:P.underlying e=some d) (h1:P.cellsOf e=1) (hn0:0 < n) (hn:n≤cs.length) (hc:∀c∈cs,c.cells= [c]):Yields P o E (.sl 1 n (fun j=> cs.getD j .any)):=by
 refine ⟨(by rw [ho];intro c hc;cases hc),fun ρ w X g hk hr=> .inl ?_⟩
 have r1:=hr x (by rw [ho];simp [Op.operands])
 rw [hx] at r1
 generalize hu:ρ x=u at r1
 cases r1 with
 | rp _ b off vs hvs hcell hrep=>
   refine ⟨.slice (some ⟨b,off,none⟩) n n,w, ?_,Evo.refl _ _, ?_⟩
   ·unfold execOp
    simp only [ho,hu,Option.map_none]
    exact Ja7 (Jjs ht hd h1 b off hn0)
   ·refine .sl _ _ _ b off n (vs.take n) (by simp;omega) (Nat.le_refl _) (fun k u hk=> ?_) (fun i hi=> ?_) (fun i j c u hi hj hu=> ?_)
    ·rw [List.getElem?_take] at hk
     split at hk
     ·exact hcell k u hk
     ·cases hk
    ·have hi2:i < cs.length:=by omega
     have:cs.getD i .any∈cs:=by simp [List.getD,hi2]
     rw [hc _ this];rfl
    ·have hi2:i < cs.length:=by omega
     have hm:cs.getD i .any∈cs:=by simp [List.getD,hi2]
     rw [hc _ hm] at hj
     cases j with
     | zero=>
       simp only [List.getElem?_cons_zero,Option.some.injEq] at hj
       subst hj
       rw [List.getElem?_take] at hu
       split at hu
       ·exact hrep i _ u (by simp [List.getD,hi2]) (by simpa using hu)
       ·cases hu
     | succ j=> simp at hj
theorem Jk9 {o:Oper} {E:Env} {K:Env→Prop} {Kp:AV→Env→Prop} {t e:TypeId} {x:Operand} {n:Nat} {d:TypeDesc} {cs:List AV} (ho:o.op= .slice t x none none none) (hx:E.ev x= .rp cs)
 (ht:P.underlying t=some (.array n e)) (hd:P.underlying e=some d) (h1:P.cellsOf e=1) (hn0:0 < n) (hn:n≤cs.length) (hc:∀c∈cs,c.cells= [c]) (hk:K (E.set o.dst (.sl 1 n (fun j=> cs.getD j .any)))):AOp P o E K Kp:=
 AOp.of_yields (JmX ho hx ht hd h1 hn0 hn hc) hk
end Go.Vl

/- As VlX, with operations that look at memory of one's own which effects turn: such a look stands ahead of every effect that comes behind it. -/
namespace Go.Vl
open Go.RowKit
variable {P:Program}
def PureNow (P:Program) (ops:Array Oper) (o:Oper) (E:Env) (r:AV):Prop:=
 ∀E':Env,E'.h=E.h→(∀k,k∈o.looksAt ops→E'.t k=E.t k)→GY P ops o E' r
theorem PureNow.congr {ops:Array Oper} {o:Oper} {E E':Env} {r:AV} (h:PureNow P ops o E r) (hh:E'.h=E.h) (ht:∀k,k∈o.looksAt ops→E'.t k=E.t k):PureNow P ops o E' r:=
 fun E'' h1 h2=> h E'' (h1.trans hh) fun k hk=> (h2 k hk).trans (ht k hk)
def MixL3 (P:Program) (ops:Array Oper) (B:List (Id×Own)) (eff ld:Nat→Bool):List Nat→Env→(Env→Prop)→Prop
 | [],E,K=> K E
 | i::l,E,K=> ∃o,ops[i]? =some o∧(match eff i with
   | true=> ∃R,Eff P ops B o E R∧∀r h',R r h'→MixL3 P ops B eff ld l (({ E with h:=h'}:Env).set o.dst r) K
   | false=> match ld i with
     | true=> ∃r,PureNow P ops o E r∧MixL3 P ops B eff ld l (E.set o.dst r) K
     | false=> ∃r,PureAll P ops B o E r∧MixL3 P ops B eff ld l (E.set o.dst r) K)
theorem MixL3.front {ops:Array Oper} {B:List (Id×Own)} {eff ld:Nat→Bool} {K:Env→Prop} {j:Nat} {oj:Oper} (hj:ops[j]? =some oj):∀(l1 l2:List Nat) (E:Env),
 (∀i∈l1,eff i=false∧(ld i=true→eff j=false)∧∀oi,ops[i]? =some oi→oi.apart ops oj=true)→MixL3 P ops B eff ld (l1++j::l2) E K→MixL3 P ops B eff ld (j::(l1++l2)) E K
 | [],l2,E,_,h=> h
 | i::l1,l2,E,hap,h=> by
   obtain ⟨oi,h1,h2⟩:=h
   obtain ⟨he,hld,ha⟩:=hap i (by simp)
   obtain ⟨a1,a2,a3⟩:=Oper.apart_spec (ha oi h1)
   have back:∀ {ri:AV} {E1:Env},E1.h=E.h∨ld i=false→(∀k,k∈oi.looksAt ops→E1.t k=E.t k)→(match ld i with | true=> PureNow P ops oi E ri | false=> PureAll P ops B oi E ri)→
    (match ld i with | true=> PureNow P ops oi E1 ri | false=> PureAll P ops B oi E1 ri):=fun hh ht hp=> by
    cases hli:ld i with
    | true=> simp only [hli] at hp⊢;exact hp.congr (hh.resolve_right (by rw [hli];simp)) ht
    | false=> simp only [hli] at hp⊢;exact hp.congr ht
   simp only [he] at h2
   have h2':∃ri,(match ld i with | true=> PureNow P ops oi E ri | false=> PureAll P ops B oi E ri)∧MixL3 P ops B eff ld (l1++j::l2) (E.set oi.dst ri) K:=by
    cases hli:ld i with
    | true=> simp only [hli] at h2⊢;exact h2
    | false=> simp only [hli] at h2⊢;exact h2
   obtain ⟨ri,h3,h4⟩:=h2'
   have close:∀ {E1:Env},(match ld i with | true=> PureNow P ops oi E1 ri | false=> PureAll P ops B oi E1 ri)→MixL3 P ops B eff ld (l1++l2) (E1.set oi.dst ri) K→MixL3 P ops B eff ld (i::(l1++l2)) E1 K:=fun hp hk=> by
    refine ⟨oi,h1, ?_⟩
    simp only [he]
    cases hli:ld i with
    | true=> simp only [hli] at hp⊢;exact ⟨ri,hp,hk⟩
    | false=> simp only [hli] at hp⊢;exact ⟨ri,hp,hk⟩
   obtain ⟨o,h5,h6⟩:=MixL3.front hj l1 l2 _ (fun i' hi'=> hap i' (List.mem_cons_of_mem _ hi')) h4
   rw [hj] at h5
   cases h5
   refine ⟨oj,hj, ?_⟩
   cases hej:eff j with
   | true=>
     have hli:ld i=false:=by
      cases h:ld i with
      | false=> rfl
      | true=> rw [hld h] at hej;cases hej
     simp only [hej] at h6⊢
     obtain ⟨R,q1,q2⟩:=h6
     refine ⟨R,q1.congr (by rw [Env.set_h]) fun k hk=> (Env.set_other (fun e=> a1 k e hk)).symm,fun r h' hr=> ?_⟩
     have q3:=q2 r h' hr
     refine close (back (.inr hli) (fun k hk=> Env.set_other (fun e=> a3 k e hk)) h3) ?_
     rw [JmL,Env.set_comm (d:=oi.dst) (d':=oj.dst) (fun k hk=> a2 k hk)] at q3
     exact q3
   | false=>
     simp only [hej] at h6⊢
     cases hlj:ld j with
     | true=>
       simp only [hlj] at h6⊢
       obtain ⟨rj,q1,q2⟩:=h6
       refine ⟨rj,q1.congr (by rw [Env.set_h]) fun k hk=> (Env.set_other (fun e=> a1 k e hk)).symm,close (back (.inl (by rw [Env.set_h])) (fun k hk=> Env.set_other (fun e=> a3 k e hk)) h3) ?_⟩
       rw [Env.set_comm (d:=oi.dst) (d':=oj.dst) (fun k hk=> a2 k hk)] at q2
       exact q2
     | false=>
       simp only [hlj] at h6⊢
       obtain ⟨rj,q1,q2⟩:=h6
       refine ⟨rj,q1.congr fun k hk=> (Env.set_other (fun e=> a1 k e hk)).symm,close (back (.inl (by rw [Env.set_h])) (fun k hk=> Env.set_other (fun e=> a3 k e hk)) h3) ?_⟩
       rw [Env.set_comm (d:=oi.dst) (d':=oj.dst) (fun k hk=> a2 k hk)] at q2
       exact q2
def ordM3 (ops:Array Oper) (m:Nat) (eff ld:Nat→Bool) (L:List Nat):Bool:=
 let bf:=Region.before ops
 Nat.ble m ops.size&& (JbK ops m&& (L.all (fun i=> Nat.blt i m)&& ((List.range m).all (fun i=> L.contains i)&& (go bf L))))
where
 go (bf:Array Nat):List Nat→Bool
  | []=> true
  | i::l=> (l.all fun j=> match ops[i]?,ops[j]? with
    | some oi,some oj=> (!Nat.beq i j)&& ((oi.after.toList.all fun e=> !Region.binds .any e|| !Nat.beq e.on j)&& ((bf.getD j 0).testBit i|| (!eff i&& (!(ld i&& eff j)&& oi.apart ops oj))))
    | _,_=> false)&& ((match ops[i]? with | some oi=> oi.after.toList.all fun e=> !Region.binds .any e|| !Nat.beq e.on i | none=> false)&& go bf l)
def JmY (ops:Array Oper) (eff ld:Nat→Bool) (i j:Nat):Prop:=
 i≠j∧∀oi oj,ops[i]? =some oi→ops[j]? =some oj→(∀e∈oi.after,Region.binds .any e=true→e.on≠j)∧(((Region.before ops).getD j 0).testBit i=true∨(eff i=false∧(ld i=true→eff j=false)∧oi.apart ops oj=true))
theorem JmZ {ops:Array Oper} {eff ld:Nat→Bool}:∀ {L:List Nat},ordM3.go ops eff ld (Region.before ops) L=true→
 L.Pairwise (JmY ops eff ld)∧∀i∈L,∀oi,ops[i]? =some oi→∀e∈oi.after,Region.binds .any e=true→e.on≠i
 | [],_=> ⟨.nil,by simp⟩
 | i::l,h=> by
   simp only [ordM3.go,Bool.and_eq_true] at h
   obtain ⟨h1,h2,h3⟩:=h
   obtain ⟨q1,q2⟩:=JmZ h3
   refine ⟨List.pairwise_cons.2 ⟨fun j hj=> ?_,q1⟩,fun k hk=> ?_⟩
   ·have:=List.all_eq_true.1 h1 j hj
    split at this
    ·rename_i oi oj hi hj'
     simp only [Bool.and_eq_true,Bool.or_eq_true,List.all_eq_true] at this
     obtain ⟨p1,p2,p3⟩:=this
     refine ⟨JdH p1,fun oi' oj' hi2 hj2=> ?_⟩
     rw [hi] at hi2;rw [hj'] at hj2
     cases hi2;cases hj2
     refine ⟨fun e he hb=> ?_,p3.imp id fun h=> by
      simp at h
      exact ⟨h.1,fun hl=> h.2.1.resolve_left (by rw [hl];simp),h.2.2⟩⟩
     rcases p2 e (Array.mem_toList_iff.2 he) with h | h
     ·simp [hb] at h
     ·exact JdH h
    ·cases this
   ·rcases List.mem_cons.1 hk with rfl | hk
    ·intro oi hi e he hb
     rw [hi] at h2
     have:=List.all_eq_true.1 h2 e (Array.mem_toList_iff.2 he)
     simp only [hb,Bool.not_true,Bool.false_or] at this
     exact JdH this
    ·exact q2 k hk
theorem Js5 {ops:Array Oper} {m:Nat} {B:List (Id×Own)} {eff ld:Nat→Bool} {Q:Exit→Act→World→Prop} (hk:OrdOk ops m) (hm:m≤ops.size)
 {ro:Option Nat} {X M:Nat→Nat→Prop} {w0:World} {g0:List Nat} {K:Env→Prop}
 (hq:∀E a w g,K E→(∀(i b:Nat),g0[i]? =some b→g[i]? =some b)→St ro X M w0 E a w g→wpOpsIn (Fr ro) 0 P ops Q (List.range' m (ops.size - m)) a w):
 ∀(n:Nat) (L:List Nat) (listed:Array Bool) (E:Env) (a:Act) (w:World) (g:List Nat),L.length=n→L.Pairwise (JmY ops eff ld)→(∀i∈L,i < m)→
  (∀i∈L,∀oi,ops[i]? =some oi→∀e∈oi.after,Region.binds .any e=true→e.on≠i)→listed.size=ops.size→DC ops listed→
 (∀i,i < ops.size→(listed.getD i true=false↔i∈L∨m≤i))→MixL3 P ops B eff ld L E K→HB B E.h.bx→(∀(i b:Nat),g0[i]? =some b→g[i]? =some b)→St ro X M w0 E a w g→wpAnyIn (Fr ro) 0 P .any ops Q (n+(ops.size - m)) listed a w:=by
 intro n
 induction n with
 | zero=>
   intro L listed E a w g hl _ _ _ hsz hd hun hrun _ hg hs
   have:L= []:=List.eq_nil_of_length_eq_zero hl
   subst this
   rw [Nat.zero_add]
   exact Jgt hk _ m listed a w Om (Nat.le_refl _) hsz hd (fun i hi=> by simpa using hun i hi) (hq E a w g hrun hg hs)
 | succ n ih=>
   intro L listed E a w g hl hpw hlt hself hsz hd hun hrun hB hg hs
   rw [Nat.add_right_comm]
   obtain ⟨k,L',rfl⟩:∃k L',L=k::L':=by cases L with | nil=> simp at hl | cons k L'=> exact ⟨k,L',rfl⟩
   have hkm:k < m:=hlt k (by simp)
   have hklt:k < ops.size:=by omega
   have hko:ops[k]? =some ops[k]:=Array.getElem?_eq_getElem hklt
   have hkr:k∈Region.ready .any ops listed:=by
    refine JJ.2 ⟨(hun k hklt).2 (by simp),_,hko,fun e he hb=> ?_⟩
    have hb':=hk.back k _ hko e he hb
    rw [JO Om]
    cases hl:listed.getD e.on true with
    | true=> simpa using hl
    | false=>
      rcases (hun e.on Om).1 hl with h' | h'
      ·rcases List.mem_cons.1 h' with h' | h'
       ·exact absurd h' (hself k (by simp) _ hko e he hb)
       · exact absurd rfl (((List.pairwise_cons.1 hpw).1 _ h').2 _ _ hko (Array.getElem?_eq_getElem Om) |>.1 e he hb)
      ·omega
   refine ⟨fun h0=> (by rw [h0] at hkr;cases hkr),fun j hj=> ?_⟩
   obtain ⟨h1,oj,hoj,h2⟩:=JJ.1 hj
   have hjlt:=(Array.getElem?_eq_some_iff.1 hoj).1
   have hjL:j∈k::L':=by
    rcases (hun j hjlt).1 h1 with h' | h'
    ·exact h'
    ·have hb:=hk.tail k j oj hoj h' Om
     have:=J3 hd hsz hoj h2 hb
     have h3:=(hun k Om).2 (by simp)
     rw [JO Om] at this
     simp [h3] at this
   obtain ⟨l1,l2,hl12⟩:=List.append_of_mem hjL
   rw [hl12] at hrun hpw hun hlt hl hself
   have hl1:∀i∈l1,JmY ops eff ld i j:=fun i hi=> (List.pairwise_append.1 hpw).2.2 i hi j (by simp)
   obtain ⟨o,ho,hrun'⟩:=MixL3.front hoj l1 l2 E (fun i hi=> by
    obtain ⟨hne,hp⟩:=hl1 i hi
    have hilt:i < ops.size:=Nat.lt_of_lt_of_le (hlt i (by simp [hi])) hm
    rcases (hp _ _ (Array.getElem?_eq_getElem hilt) hoj).2 with hb | ⟨hb,hb2,hb'⟩
    ·have:=J3 hd hsz hoj h2 hb
     have h3:=(hun i hilt).2 (by simp [hi])
     rw [JO Om] at this
     simp [h3] at this
    ·exact ⟨hb,hb2,fun oi hoi=> by rw [Array.getElem?_eq_getElem hilt] at hoi;cases hoi;exact hb'⟩) hrun
   rw [hoj] at ho
   cases ho
   have hnext:∀E' a' w' g',MixL3 P ops B eff ld (l1++l2) E' K→HB B E'.h.bx→(∀(i b:Nat),g0[i]? =some b→g'[i]? =some b)→St ro X M w0 E' a' w' g'→wpAnyIn (Fr ro) 0 P .any ops Q (n+(ops.size - m)) (listed.setIfInBounds j true) a' w':=by
    intro E' a' w' g' hm' hB' hg' hs'
    have hsub:(l1++l2).Sublist (l1++j::l2):=List.Sublist.append Sf (List.sublist_cons_self _ _)
    refine ih (l1++l2) _ E' a' w' g' (by simp at hl⊢;omega) (hpw.sublist hsub) (fun i hi=> hlt i (hsub.subset hi)) (fun i hi=> hself i (hsub.subset hi)) (by simp [hsz]) (hd.set hsz hk hj) (fun i hi=> ?_) hm' hB' hg' hs'
    rw [JaO Om]
    by_cases hij:i=j
    ·subst hij
     simp only [if_true]
     constructor
     ·intro h;cases h
     ·intro h
      exfalso
      have h5:=List.pairwise_append.1 hpw
      rcases h with h | h
      ·rcases List.mem_append.1 h with h | h
       ·exact (h5.2.2 i h i (by simp)).1 rfl
       ·exact ((List.pairwise_cons.1 h5.2.1).1 i h).1 rfl
      ·have:=hlt i (by simp);omega
    ·rw [if_neg hij,hun i hi]
     simp [hij]
   cases hej:eff j with
   | true=>
     simp only [hej] at hrun'
     obtain ⟨R,⟨q0,q1⟩,q2⟩:=hrun'
     unfold wpOpIn
     simp only [hoj,Region.wanted,q0,if_true]
     exact q1 E rfl (fun _ _=> rfl) ro X M w0 a w g hs _ _ (fun E' a' w' g' hE hgg hs'=> by
      obtain ⟨r,h',p1,p2,rfl⟩:=hE
      exact hnext _ a' w' g' (q2 r h' p1) (by rw [Env.set_h];exact p2) (fun i b hi=> hgg i b (hg i b hi)) hs') (fun x E' a' w' g' v hk'=> hk'.elim)
   | false=>
     simp only [hej] at hrun'
     cases hlj:ld j with
     | true=>
       simp only [hlj] at hrun'
       obtain ⟨r,q1,q2⟩:=hrun'
       exact (q1 E rfl fun _ _=> rfl).does hoj hs fun a' w' hs'=> hnext _ a' w' g q2 (by rw [Env.set_h];exact hB) hg hs'
     | false=>
       simp only [hlj] at hrun'
       obtain ⟨r,q1,q2⟩:=hrun'
       exact (q1 E hB fun _ _=> rfl).does hoj hs fun a' w' hs'=> hnext _ a' w' g q2 (by rw [Env.set_h];exact hB) hg hs'
def aM3 (P:Program) (ops:Array Oper) (eff ld:Nat→Bool):List Nat→Env→(Env→Prop)→Prop
 | [],E,K=> K E
 | i::l,E,K=> match ops[i]? with
   | none=> False
   | some o=> match eff i with
      | true=> ∃R,Eff P ops [] o E R∧∀r h',R r h'→aM3 P ops eff ld l (({ E with h:=h'}:Env).set o.dst r) K
      | false=> match ld i with
        | true=> ∃r,PureNow P ops o E r∧Jck r fun r=> aM3 P ops eff ld l (E.set o.dst r) K
        | false=> match o.guard with
          | some _=> False
          | none=> match Jau P o.op { E with h:=⟨[], [],0,0⟩} with
            | some (C,r)=> JhS C (Jck r fun r=> aM3 P ops eff ld l (E.set o.dst r) K)
            | none=> False
theorem JhW {ops:Array Oper} {eff ld:Nat→Bool} {K:Env→Prop}:∀ {L:List Nat} {E:Env},aM3 P ops eff ld L E K→MixL3 P ops [] eff ld L E K
 | [],E,h=> h
 | i::l,E,h=> by
   unfold aM3 at h
   split at h
   ·exact h.elim
   ·rename_i o ho
    refine ⟨o,ho, ?_⟩
    cases he:eff i with
    | true=>
      simp only [he] at h⊢
      obtain ⟨R,q1,q2⟩:=h
      exact ⟨R,q1,fun r h' hr=> JhW (q2 r h' hr)⟩
    | false=>
      simp only [he] at h⊢
      cases hl:ld i with
      | true=>
        simp only [hl] at h⊢
        obtain ⟨r,q1,q2⟩:=h
        exact ⟨r,q1,JhW (Jcl q2)⟩
      | false=>
        simp only [hl] at h⊢
        split at h
        ·exact h.elim
        ·rename_i hg
         split at h
         ·rename_i C r hp
          obtain ⟨q1,q2⟩:=JfT h
          refine ⟨r,fun E' hb ht=> ?_,JhW (Jcl q2)⟩
          unfold GY
          simp only [hg]
          exact Jbe (Jdt (E:= { E with h:=⟨[], [],0,0⟩}) (E':=E') hb (JaM (E:= { E with h:=⟨[], [],0,0⟩}) ht) hp) q1
         ·exact h.elim
theorem Jla {ops:Array Oper} {o:Oper} {E:Env} {C:Option Prop} {r:AV} (hg:o.guard=none) (hp:Jau P o.op E=some (C,r)) (hC:J4 C):PureNow P ops o E r:=fun E' hh ht=> by
 unfold GY
 simp only [hg]
 exact Jbe (Jdt (E:=E) (E':=E') (by rw [hh];exact HB.refl _) (JaM ht) hp) hC
theorem Juo {id:Nat} {ops:Array Oper} {E:Env} {Q:AExit→Env→Prop} (m:Nat) (eff ld:Nat→Bool) (L:List Nat) (hf:P.follows .mixedOrders=true) (hb:ordM3 ops m eff ld L=true)
 (h:aM3 P ops eff ld L E fun E'=> aK P ops (ops.toList.drop m) E' (Q .normal) (fun x E=> Q (.panic x) E)):AW P (.region id ops true) E Q:=by
 simp only [ordM3,Bool.and_eq_true,List.all_eq_true] at hb
 obtain ⟨h0,h00,h1,h2,h3⟩:=hb
 have hm:=Jb6 h0
 obtain ⟨h4,h5⟩:=JmZ h3
 have hlt:∀i∈L,i < m:=fun i hi=> Jax (h1 i hi)
 have hall:∀i,i < m→i∈L:=fun i hi=> by simpa using h2 i (List.mem_range.2 hi)
 have hnd:L.Nodup:=h4.imp fun h=> h.1
 have hlen:L.length=m:=by
  have p:L.Perm (List.range m):=(List.perm_ext_iff_of_nodup hnd List.nodup_range).2 fun i=> ⟨fun hi=> List.mem_range.2 (hlt i hi),fun hi=> hall i (List.mem_range.1 hi)⟩
  simpa using p.length_eq
 unfold AW
 intro ro X M w0 a w g g0 hg hs
 refine wpIn_region_any hf ?_
 have hs':St ro X M w0 E a { w with drawn:=w.drawn+1} g:=hs.drew
 have key:=Js5 (eff:=eff) (ld:=ld) (g0:=g0) (K:=fun E'=> aK P ops (ops.toList.drop m) E' (Q .normal) (fun x E=> Q (.panic x) E)) (Q:=Jcc ro X M w0 g0 Q) (P:=P) (X:=X) (M:=M) (w0:=w0) (ro:=ro) (B:= []) (JhL h00) hm (fun E' a' w' g' hk hg' hs''=> by
  have:=Jbv (P:=P) (ops:=ops) (K:=Q .normal) (X:=X) (M:=M) (w0:=w0) (g0:=g0) (Kp:=fun x E=> Q (.panic x) E) (ro:=ro) (Q:=Jcc ro X M w0 g0 Q) (fun E a w g hk hg hs=> ⟨.normal,E,g,hk,rfl,hg,hs⟩) (fun x E a w g v hk hg hs hr=> ⟨.panic x,E,g,hk,⟨v,rfl,hr⟩,hg,hs⟩) (ops.toList.drop m) m E' a' w' g' (fun j=> .inl (by simp)) hg' hs'' hk
  simpa using this) m L (Array.replicate ops.size false) E a _ g hlen h4 hlt h5 (by simp) (fun k o ho hl=> by
  have hk:=(Array.getElem?_eq_some_iff.1 ho).1
  simp [Array.getD_eq_getD_getElem?,hk] at hl) (fun i hi=> by
  have:(Array.replicate ops.size false).getD i true=false:=by simp [Array.getD_eq_getD_getElem?,hi]
  simp only [this,true_iff]
  rcases Nat.lt_or_ge i m with h | h
  ·exact .inl (hall i h)
  ·exact .inr h) (JhW h) (fun _ _ _ h=> by cases h) hg hs'
 have e:m+(ops.size - m)=ops.size:=by omega
 rw [e] at key
 exact key
end Go.Vl

namespace Go.Vl
open Go.RowKit
variable {P:Program}
def JiQ {ι:Type} (F:ι→Env) (J:ι→Prop) (Q:AExit→Env→Prop):AExit→Env→Prop:=fun e E'=>
 match e with
 | .normal=> ∃i,J i∧ELe E' (F i)
 | e=> Q e E'
theorem Jrp {ι:Type} (F:ι→Env) (J:ι→Prop) {x y:Code} {E:Env} {Q:AExit→Env→Prop} (h:AW P x E (JiQ F J Q)) (hk:∀i,J i→AW P y (F i) Q):AW P x E (JcN P y Q):=
 h.mono fun ex E' h'=> by
  cases ex with
  | normal=> obtain ⟨i,hI,hl⟩:=h';exact AW.le hl (hk i hI)
  | exit i=> exact h'
  | goto i=> exact h'
  | ret=> exact h'
  | panic i=> exact h'
theorem Jko {ι:Type} {F:ι→Env} {J:ι→Prop} {y:Code} {Q:AExit→Env→Prop} (hk:∀i,J i→AW P y (F i) Q):∀ex E',JiQ F J Q ex E'→JcN P y Q ex E':=fun ex E' h'=> by
 cases ex with
 | normal=> obtain ⟨i,hI,hl⟩:=h';exact AW.le hl (hk i hI)
 | exit i=> exact h'
 | goto i=> exact h'
 | ret=> exact h'
 | panic i=> exact h'
theorem JfV {y:Code} {Q Q':AExit→Env→Prop} (h:∀ex E,Q ex E→Q' ex E):∀ex E,JcN P y Q ex E→JcN P y Q' ex E:=fun ex E h'=> by
 cases ex with
 | normal=> exact AW.mono h' h
 | exit i=> exact h _ _ h'
 | goto i=> exact h _ _ h'
 | ret=> exact h _ _ h'
 | panic i=> exact h _ _ h'
theorem JxI {ι:Type} (F:ι→Env) (J:ι→Prop) {x y1 y:Code} {E:Env} {Q:AExit→Env→Prop} (h:AW P x E (JcN P y1 (JiQ F J Q))) (hk:∀i,J i→AW P y (F i) Q):AW P x E (JcN P y1 (JcN P y Q)):=
 h.mono (JfV (Jko hk))
theorem JxJ {ι:Type} (F:ι→Env) (J:ι→Prop) {x y1 y2 y:Code} {E:Env} {Q:AExit→Env→Prop} (h:AW P x E (JcN P y1 (JcN P y2 (JiQ F J Q)))) (hk:∀i,J i→AW P y (F i) Q):AW P x E (JcN P y1 (JcN P y2 (JcN P y Q))):=
 h.mono (JfV (JfV (Jko hk)))
theorem JcX {ι:Type} (F:ι→Env) (J:ι→Prop) {k:Nat} {x y:Code} {E:Env} {Q:AExit→Env→Prop} (h:AW P x E (JcU k (JiQ F J Q))) (hk:∀i,J i→AW P y (F i) Q):AW P x E (JcU k (JcN P y Q)):=by
 have key:∀ex E',JiQ F J Q ex E'→JcN P y Q ex E':=fun ex E' h'=> by
  cases ex with
  | normal=> obtain ⟨i,hI,hl⟩:=h';exact AW.le hl (hk i hI)
  | exit i=> exact h'
  | goto i=> exact h'
  | ret=> exact h'
  | panic i=> exact h'
 refine h.mono fun ex E' h'=> ?_
 cases ex with
 | exit i=>
   simp only [JcU] at h'⊢
   cases hb:Nat.beq i k with
   | true=> simp only [hb,cond_true] at h'⊢;exact key .normal _ h'
   | false=> simp only [hb,cond_false] at h'⊢;exact h'
 | normal=> exact key .normal _ h'
 | goto i=> exact h'
 | ret=> exact h'
 | panic i=> exact h'
theorem Joj {k:Nat} {Q Q':AExit→Env→Prop} (h:∀ex E,Q ex E→Q' ex E):∀ex E,JcU k Q ex E→JcU k Q' ex E:=fun ex E h'=> by
 cases ex with
 | exit i=>
   simp only [JcU] at h'⊢
   cases hb:Nat.beq i k with
   | true=> simp only [hb,cond_true] at h'⊢;exact h _ _ h'
   | false=> simp only [hb,cond_false] at h'⊢;exact h _ _ h'
 | normal=> exact h _ _ h'
 | goto i=> exact h _ _ h'
 | ret=> exact h _ _ h'
 | panic i=> exact h _ _ h'
theorem Jw6 {ι:Type} (F:ι→Env) (J:ι→Prop) {k:Nat} {x y1 y:Code} {E:Env} {Q:AExit→Env→Prop} (h:AW P x E (JcN P y1 (JcU k (JiQ F J Q)))) (hk:∀i,J i→AW P y (F i) Q):AW P x E (JcN P y1 (JcU k (JcN P y Q))):=
 h.mono (JfV (Joj (Jko hk)))
section
variable {α:Type} [Inhabited α]
def Jba (E:α→AV) (d:Array α) (tl:List AV):List AV:=d.toList.map E++tl
omit [Inhabited α] in
theorem JgE {E:α→AV} {d:Array α} {tl:List AV}:(Jba E d tl).length=d.size+tl.length:=by simp [Jba]
theorem Js6 {E:α→AV} {d:Array α} {tl:List AV} {i:Nat} (hi:i < d.size):(Jba E d tl).getD i .any=E d[i]! :=by
 unfold Jba
 rw [List.getD,List.getElem?_append_left (by simpa using hi)]
 simp [hi]
omit [Inhabited α] in
theorem Js7 {E:α→AV} {d:Array α} {tl:List AV} {i:Nat} {x:α} (hi:i < d.size):JX (Jba E d tl) i [E x]=Jba E (d.setIfInBounds i x) tl:=by
 have key:∀(l:List α) (i:Nat),i < l.length→JX (l.map E++tl) i [E x]=(l.set i x).map E++tl:=by
  intro l
  induction l with
  | nil=> intro i h;cases h
  | cons z l ih=>
    intro i h
    cases i with
    | zero=> rfl
    | succ i=> show E z::JX (l.map E++tl) i _=_;rw [ih i (by simpa using h)];rfl
 unfold Jba
 rw [key _ _ (by simpa using hi)]
 simp
omit [Inhabited α] in
theorem Jup {E:α→AV} {d:Array α} {tl:List AV} {i:Nat} (hi:i < d.size):i+1≤(Jba E d tl).length:=by rw [JgE];omega
theorem Jc1 {x:Int} {i:Nat} (h:x=(i:Int)):0≤x:=by omega
theorem Jdg {x:Int} {i n:Nat} (h:x=(i:Int)) (hn:i < n):x < (n:Int):=by omega
theorem JxW {x:Int} {i c:Nat} (hc:c=1) (h:x=(i:Int)):0+x.toNat * c=i:=by subst hc;subst h;omega
omit [Inhabited α] in
theorem JxK {ops:Array Oper} {o:Oper} {e:Env} {t:TypeId} {p x:Operand} {E:α→AV} {nm s off j:Nat} {d:Array α} {tl:List AV} {z:α} (hg:o.guard=none) (ho:o.op= .store t p x) (hd:o.dst=none) (hp:e.ev p= .bp (nm,s) off) (hoff:off=j)
 (hx:e.ev x=E z) (h1:JaW (E z)=true) (h2:JbQ (E z)=true) (hcs:Jav nm e.h.bx=some (s,Jba E d tl)) (ht:(P.underlying t).isSome=true) (hn:P.cellsOf t=1) (hj:j < d.size):
 Eff P ops [] o e fun _ h'=> h'= { e.h with bx:=JcC nm (Jba E (d.setIfInBounds j z) tl) e.h.bx}:=by
 subst hoff
 have hcl:(E z).cells= [E z]:=by cases h:E z <;> first | rfl | (rw [h] at h1;simp [JaW] at h1)
 have k:=Jhe (P:=P) (ops:=ops) (B:= []) (E:=e) (cs:=Jba E d tl) (i:=(nm,s)) hg ho hd hp hcs (by rw [hx];exact h2) (by rw [hx,hcl];simp [h1]) ht (by rw [hx,hcl,hn];rfl) (by rw [hx,hcl];exact Jup hj) (fun _ _ _ h=> by cases h)
 rw [hx,hcl,Js7 hj] at k
 exact k
theorem JxL {ops:Array Oper} {o:Oper} {e:Env} {t:TypeId} {td:TypeDesc} {p:Operand} {E:α→AV} {nm s off j:Nat} {d:Array α} {tl:List AV} (hg:o.guard=none) (ho:o.op= .load t p) (hp:e.ev p= .bp (nm,s) off) (hoff:off=j)
 (hcs:Jav nm e.h.bx=some (s,Jba E d tl)) (ht:P.underlying t=some td) (ha:agD td=false) (hj:j < d.size):PureNow P ops o e (E d[j]!):=by
 subst hoff
 refine Jla hg (C:=some (s=s∧off < (Jba E d tl).length)) ?_ ⟨rfl,by rw [JgE];omega⟩
 rw [← Js6 (E:=E) (tl:=tl) hj]
 show Jau P o.op e=_
 rw [ho]
 simp only [Jau,Jc7,hp,hcs,ht,ha,cond_false]
end
end Go.Vl

namespace Go.Vl
open Go.RowKit
variable {P:Program}
theorem AOp.any {o:Oper} {E:Env} {K:Env→Prop} {Kp:AV→Env→Prop} (h:AOp P o E K):AOp P o E K Kp:=fun ro X M w0 a w g hs next Q hn _=> h ro X M w0 a w g hs next Q hn fun _ _ _ _ _ _ h=> h.elim
theorem Js8 {w:World} {X:Nat→Nat→Prop} {g:List Nat} {m sz:Nat} {f':Nat→AV} {news:List Value} (hpos:0 < sz) (hnl:news.length=m * sz) (hncs:∀i,i < m→(f' i).cells.length=sz)
 (hnr:∀(i j:Nat) (c:AV) (u:Value),i < m→(f' i).cells[j]? =some c→news[i * sz+j]? =some u→Rep w X g c u) (hone:JcD m f'):∀u∈news,u.oneCell'=true:=by
 intro u hu
 obtain ⟨k,hk,hku⟩:=List.getElem_of_mem hu
 have hdm:=Nat.div_add_mod k sz
 have hmod:=Nat.mod_lt k hpos
 have hdiv:k / sz < m:=by rw [Nat.div_lt_iff_lt_mul hpos];omega
 have hlt:k % sz < (f' (k / sz)).cells.length:=by rw [hncs _ hdiv];exact hmod
 have hrep:=hnr (k / sz) (k % sz) _ u hdiv (List.getElem?_eq_getElem hlt) (by
  rw [Nat.mul_comm,hdm,List.getElem?_eq_getElem hk,hku])
 exact JdB (List.all_eq_true.1 (hone _ hdiv) _ (List.getElem_mem hlt)) hrep
theorem Jm0 {w:World} {X:Nat→Nat→Prop} {g:List Nat} {m sz:Nat} {f':Nat→AV} {news:List Value} (hpos:0 < sz) (hnl:news.length=m * sz) (hncs:∀i,i < m→(f' i).cells.length=sz)
 (hnr:∀(i j:Nat) (c:AV) (u:Value),i < m→(f' i).cells[j]? =some c→news[i * sz+j]? =some u→Rep w X g c u):
 ∀(k:Nat) (c:AV) (u:Value),(JL m f')[k]? =some c→news[k]? =some u→Rep w X g c u:=by
 intro k c u hc hu
 obtain ⟨rl,rg⟩:=Jdf hncs
 have hk:k < m * sz:=by rw [← hnl];exact (List.getElem?_eq_some_iff.1 hu).1
 have hdm:=Nat.div_add_mod k sz
 have hmod:=Nat.mod_lt k hpos
 have hdiv:k / sz < m:=by rw [Nat.div_lt_iff_lt_mul hpos];exact hk
 have e:k=k / sz * sz+k % sz:=by rw [Nat.mul_comm];exact hdm.symm
 rw [e,rg _ _ hdiv hmod] at hc
 exact hnr _ _ c u hdiv hc (by rw [← e];exact hu)
theorem JeH {o:Oper} {E:Env} {K:Env→Prop} {Kp:AV→Env→Prop} {s x:Operand} {t e:TypeId} {n szx m cap:Nat} {f':Nat→AV} {i:Id} {cs:List AV}
 (ho:o.op= .call { callee:= .builtin .append,args:= #[s,x],argTypes:= #[t,t]}) (hs:E.ev s= .hs i 0 n cap)
 (hx:E.ev x= .sl szx m f'∨∃oj,E.ev x= .os szx m f' oj)
 (ht:P.underlying t=some (.slice e)) (hg:JaY P e=true) (hszx:m=0∨szx=P.cellsOf e)
 (hcs:Jav i.1 E.h.bx=some (i.2,cs)) (hcap:n≤cap) (hcl:cap * P.cellsOf e≤cs.length) (hone:JcD m f')
 (hroom0:m≠0→(n+m) * P.bytesOf e≤140737488355328) (hlen0:m≠0→n+m≤9223372036854775807)
 (hk0:m=0→K (E.set o.dst (.hs i 0 n cap)))
 (hk1:m≠0→n+m≤cap→K (({ E with h:= { E.h with bx:=JcC i.1 (JX cs (n * P.cellsOf e) (JL m f')) E.h.bx}}:Env).set o.dst (.hs i 0 (n+m) cap)))
 (hk2:m≠0→¬n+m≤cap→∀ncap,n+m≤ncap→K (({ E with h:=E.h.add (cs.take (n * P.cellsOf e)++JL m f'++List.replicate ((ncap - (n+m)) * P.cellsOf e) .any)}:Env).set o.dst (.hs (E.h.nn,E.h.nx) 0 (n+m) ncap))):AOp P o E K Kp:=by
 intro ro X M w0 a w g hst next Q hn hpan
 obtain ⟨inf,z,hi,hz,hzs,hsi,hpos,hby⟩:=JdC hg
 have hmem:=JdR hcs
 obtain ⟨b,hgb,vs,ev,hb,hvs,hr⟩:=hst.hok.bx _ hmem
 dsimp only at hgb hvs hr
 have hsv:a.eval s= .slice (some ⟨b,0,none⟩) n cap:=by
  have:=hst.ev s
  rw [hs] at this
  generalize a.eval s=u at this
  cases this with
  | hs _ _ _ _ b' hg'=> rw [hgb] at hg';cases hg';rfl
 have hxr:Rep w (excl X g E.h) g (.sl szx m f') (a.eval x):=by
  have:=hst.ev x
  rcases hx with hx | ⟨oj,hx⟩
  ·rw [hx] at this;exact this
  ·rw [hx] at this;exact JcO this
 have hexec:∀ {u:Value} {w':World},(Builtin.append_ #[t,t] o.type #[a.eval s,a.eval x]).run P w= .ok u w'→(execOp a.eval o).run P w= .ok (.value u) w':=by
  intro u w' h
  unfold execOp
  simp only [ho,resolve]
  simp [invoke,builtin,h]
 by_cases hm:m=0
 ·subst hm
  have hrun:(Builtin.append_ #[t,t] o.type #[a.eval s,a.eval x]).run P w= .ok (a.eval s) w:=by
   have key:∀(xb:Option Addr) (xc:Nat),(Builtin.append_ #[t,t] o.type #[.slice (some ⟨b,0,none⟩) n cap, .slice xb 0 xc]).run P w= .ok (.slice (some ⟨b,0,none⟩) n cap) w:=by
    intro xb xc
    have hfc:(Builtin.firstCells inf.size 0 (.slice xb 0 xc)).run P w= .ok #[] w:=by
     cases xb with
     | none=> simp [Builtin.firstCells]
     | some ad=> simpa using run_firstCells_some (P:=P) w inf.size 0 ad 0 xc [] (by simp) (by simp)
    simp [Builtin.append_,run_underlying ht,sizeOf,typeInfo,hi,Builtin.lenOf,hcap,hfc,storeCells]
   rw [hsv]
   generalize a.eval x=ux at hxr
   cases hxr with
   | sl0 _ _ xa xc=> exact key _ _
   | sl _ _ _ b off cap vs hlen' hcap=> exact key _ _
  refine JG (by rw [ho];intro c h;cases h) ?_
  rw [hexec hrun]
  have:=hst.ev s
  rw [hs] at this
  exact hn _ _ _ g (hk0 rfl) (fun _ _ h=> h) (hst.put o.dst this)
 ·have hroom:=hroom0 hm
  have hlen:=hlen0 hm
  have hszx':szx=P.cellsOf e:=hszx.resolve_left hm
  subst hszx'
  obtain ⟨ax,xcap,news,hxv,hnl,hncell,hncs,hnr⟩:=Jg7 hxr hm
  have hnone:=Js8 hpos hnl hncs hnr hone
  have hnrep:=Jm0 hpos hnl hncs hnr
  obtain ⟨rl,rg⟩:=Jdf hncs
  have hvl:vs.toList.length=cs.length:=by simpa using hvs
  by_cases hfit:n+m≤cap
  ·have hnm:(n+m) * P.cellsOf e≤cap * P.cellsOf e:=Nat.mul_le_mul_right _ hfit
   rw [Nat.add_mul] at hnm
   have hr2:=JgV (P:=P) w t o.type e ev inf ht hi b n cap vs hb ax m xcap news (by rw [hnl,hsi]) hncell hnone hfit (by rw [hsi,hnl];omega)
   rw [hsi] at hr2
   have hnew:=hst.setRow (cs:=JX cs (n * P.cellsOf e) (JL m f')) (vs:=(vs.toList.take (n * P.cellsOf e)++news++vs.toList.drop (n * P.cellsOf e+news.length)).toArray) hcs hgb hb
    (by simp only [Jap,List.length_append,List.length_take,List.length_drop,Array.length_toList,rl,hnl];omega)
    (by simp only [List.size_toArray,List.length_append,List.length_take,List.length_drop,Array.length_toList,hnl];omega)
    (fun k c u hk1 hk2=> by
      simp only [List.append_assoc] at hk2
      rw [Jbf _ _ _ (by simp only [Array.length_toList];omega)] at hk2
      rw [Jap] at hk1
      rw [Jbf _ _ _ (by rw [rl];omega)] at hk1
      rw [hnl] at hk2
      rw [rl] at hk1
      split at hk1
      ·rename_i h2;rw [if_pos h2] at hk2;exact hr k c u hk1 (by simpa using hk2)
      ·rename_i h2
       rw [if_neg h2] at hk2
       split at hk1
       ·rename_i h3;rw [if_pos h3] at hk2;exact hnrep _ c u hk1 hk2
       ·rename_i h3;rw [if_neg h3] at hk2;exact hr k c u hk1 (by simpa using hk2))
   refine JG (by rw [ho];intro c h;cases h) ?_
   rw [hexec (by rw [hsv,hxv];exact hr2)]
   exact hn _ _ _ g (hk1 hm hfit) (fun _ _ h=> h) (hnew.put o.dst (.hs _ _ _ _ b hgb))
  ·have hnc:n * P.cellsOf e≤cap * P.cellsOf e:=Nat.mul_le_mul_right _ hcap
   have hol:(vs.toList.take (n * P.cellsOf e)).length=n * P.cellsOf e:=by rw [List.length_take];omega
   have hocell:∀(j:Nat) (u:Value),(vs.toList.take (n * P.cellsOf e))[j]? =some u→w.cell? ((⟨b,0,none⟩:Addr).add j)=some u:=fun j u hu=> by
    rw [J2,Nat.zero_add,Jw hb]
    rw [List.getElem?_take] at hu
    split at hu
    ·simpa using hu
    ·cases hu
   have hr2:=run_append_grow (P:=P) w t o.type e inf z ht hi hz ⟨b,0,none⟩ n cap (vs.toList.take (n * P.cellsOf e)) (by rw [hol,hsi]) hocell ax m xcap news (by rw [hnl,hsi]) hncell Om Om (growslice_fits Om (by rw [hby];exact hroom))
   have hge:=grownCap_ge w (n+m) cap e
   generalize grownCap w (n+m) cap e=ncap at hr2 hge
   have hst2:=hst.drew
   obtain ⟨h3,h4⟩:=hst2.box (cs:=cs.take (n * P.cellsOf e)++JL m f'++List.replicate ((ncap - (n+m)) * P.cellsOf e) .any) (vs:=(vs.toList.take (n * P.cellsOf e)).toArray++news.toArray++Builtin.zeroCells z.cells (ncap - (n+m))) e
    (by simp only [Array.toList_append,List.length_append,Array.length_toList,size_zeroCells,hzs,List.length_take,List.length_replicate,rl,hnl,List.size_toArray];omega)
    (fun k c u hc hu=> by
      have hevo:Evo none2 w w.drew:=Jel w
      simp only [Array.toList_append] at hu
      rw [List.append_assoc] at hc hu
      by_cases h1:k < n * P.cellsOf e
      ·rw [List.getElem?_append_left (by rw [List.length_take];omega),List.getElem?_take,if_pos h1] at hc
       rw [List.getElem?_append_left (by simp only [List.length_take, Array.length_toList] at *; omega)] at hu
       rw [List.getElem?_take,if_pos h1] at hu
       exact (hr k c u hc (by simpa using hu)).evo0 hevo
      ·rw [List.getElem?_append_right (by rw [List.length_take];omega),List.length_take,Nat.min_eq_left Om] at hc
       rw [List.getElem?_append_right (by simp only [List.length_take, Array.length_toList] at *; omega)] at hu
       simp only [hol] at hu
       by_cases h2:k - n * P.cellsOf e < m * P.cellsOf e
       ·rw [List.getElem?_append_left (by rw [rl];exact h2)] at hc
        rw [List.getElem?_append_left (by rw [hnl];exact h2)] at hu
        exact (hnrep _ c u hc hu).evo0 hevo
       ·rw [List.getElem?_append_right (by rw [rl];omega)] at hc
        have:=List.mem_of_getElem? hc
        rw [(List.mem_replicate.1 this).2]
        exact .any _)
   refine JG (by rw [ho];intro c h;cases h) ?_
   rw [hexec (by rw [hsv,hxv];exact hr2)]
   refine hn _ _ _ _ (hk2 hm hfit ncap hge) (fun i b h=> by rw [List.getElem?_append_left (List.getElem?_eq_some_iff.1 h).1];exact h) (h3.put o.dst ?_)
   refine .hs _ _ _ _ w.heap.size ?_
   generalize hX:excl X (g++ [w.drew.heap.size]) (E.h.add (cs.take (n * P.cellsOf e)++JL m f'++List.replicate ((ncap - (n+m)) * P.cellsOf e) .any))=X2 at h4
   cases h4 with
   | bp _ _ b' hg'=> exact hg'
theorem JoS {w:World} {X:Nat→Nat→Prop} {g:List Nat} {i:Id} {b:Nat} (h:Rep w X g (.bp i 0) (.pointer (some ⟨b,0,none⟩))):g[i.2]? =some b:=by
 cases h with
 | bp _ _ b' hg'=> exact hg'
theorem JfB {o:Oper} {E:Env} {K:Env→Prop} {Kp:AV→Env→Prop} {s x:Operand} {t e:TypeId} {sz szx m:Nat} {f f':Nat→AV}
 (ho:o.op= .call { callee:= .builtin .append,args:= #[s,x],argTypes:= #[t,t]}) (hs:E.ev s= .os sz 0 f none)
 (hx:E.ev x= .sl szx m f'∨∃oj,E.ev x= .os szx m f' oj)
 (ht:P.underlying t=some (.slice e)) (hg:JaY P e=true) (hszx:szx=P.cellsOf e) (hm:m≠0) (hone:JcD m f')
 (hroom:m * P.bytesOf e≤140737488355328) (hlen:m≤9223372036854775807)
 (hk2:∀ncap,m≤ncap→K (({ E with h:=E.h.add (JL m f'++List.replicate ((ncap - m) * P.cellsOf e) .any)}:Env).set o.dst (.hs (E.h.nn,E.h.nx) 0 m ncap))):AOp P o E K Kp:=by
 intro ro X M w0 a w g hst next Q hn hpan
 obtain ⟨inf,z,hi,hz,hzs,hsi,hpos,hby⟩:=JdC hg
 subst hszx
 have hxr:Rep w (excl X g E.h) g (.sl (P.cellsOf e) m f') (a.eval x):=by
  have:=hst.ev x
  rcases hx with hx | ⟨oj,hx⟩
  ·rw [hx] at this;exact this
  ·rw [hx] at this;exact JcO this
 have hexec:∀ {u:Value} {w':World},(Builtin.append_ #[t,t] o.type #[a.eval s,a.eval x]).run P w= .ok u w'→(execOp a.eval o).run P w= .ok (.value u) w':=by
  intro u w' h
  unfold execOp
  simp only [ho,resolve]
  simp [invoke,builtin,h]
 obtain ⟨ax,xcap,news,hxv,hnl,hncell,hncs,hnr⟩:=Jg7 hxr hm
 have hnrep:=Jm0 hpos hnl hncs hnr
 obtain ⟨rl,rg⟩:=Jdf hncs
 have hrun:∃ncap,m≤ncap∧(Builtin.append_ #[t,t] o.type #[a.eval s,a.eval x]).run P w= .ok (.slice (some ⟨w.heap.size,0,none⟩) m ncap) (w.drew.alloc (.cells (news.toArray++Builtin.zeroCells z.cells (ncap - m)) e)):=by
  have hsr:=hst.ev s
  rw [hs] at hsr
  rw [hxv]
  generalize a.eval s=us at hsr
  have key:∀ad:Option Addr,us= .slice ad 0 0→∃ncap,m≤ncap∧(Builtin.append_ #[t,t] o.type #[us, .slice (some ax) m xcap]).run P w= .ok (.slice (some ⟨w.heap.size,0,none⟩) m ncap) (w.drew.alloc (.cells (news.toArray++Builtin.zeroCells z.cells (ncap - m)) e)):=by
   rintro ad rfl
   cases ad with
   | none=> exact ⟨_,grownCap_ge w m 0 e,run_append_nil (P:=P) w t o.type e inf z ht hi hz ax m xcap news (by rw [hnl,hsi]) hncell Om Om (by rw [hby];omega)⟩
   | some ad=>
     have hr:=run_append_grow (P:=P) w t o.type e inf z ht hi hz ad 0 0 [] (by simp) (by simp) ax m xcap news (by rw [hnl,hsi]) hncell Om Om (growslice_fits Om (by rw [hby,Nat.zero_add];exact hroom))
     rw [Nat.zero_add] at hr
     exact ⟨_,grownCap_ge w m 0 e,by simpa using hr⟩
  cases hsr with
  | os0 _ _ ad=> exact key ad rfl
  | osn _ _ _ b off vs=> exact key _ rfl
 obtain ⟨ncap,hnc,hr⟩:=hrun
 obtain ⟨h3,h4⟩:=hst.drew.box (cs:=JL m f'++List.replicate ((ncap - m) * P.cellsOf e) .any) (vs:=news.toArray++Builtin.zeroCells z.cells (ncap - m)) e
  (by simp only [Array.toList_append,List.length_append,Array.length_toList,size_zeroCells,hzs,List.length_replicate,rl,hnl])
  (fun k c u hc hu=> by
    simp only [Array.toList_append] at hu
    by_cases h2:k < m * P.cellsOf e
    ·rw [List.getElem?_append_left (by rw [rl];exact h2)] at hc
     rw [List.getElem?_append_left (by rw [hnl];exact h2)] at hu
     exact (hnrep _ c u hc hu).evo0 (Jel w)
    ·rw [List.getElem?_append_right (by rw [rl];omega)] at hc
     have:=List.mem_of_getElem? hc
     rw [(List.mem_replicate.1 this).2]
     exact .any _)
 refine JG (by rw [ho];intro c h;cases h) ?_
 rw [hexec hr]
 exact hn _ _ _ _ (hk2 ncap hnc) (fun i b h=> by rw [List.getElem?_append_left (List.getElem?_eq_some_iff.1 h).1];exact h) (h3.put o.dst (.hs _ _ _ _ w.heap.size (JoS h4)))
theorem Jl5 {o:Oper} {E:Env} {K:Env→Prop} {Kp:AV→Env→Prop} {s x:Operand} {t e:TypeId} {sz m:Nat} {f:Nat→AV} {tn:TypeId} {kn kq:IntKind}
 (ho:o.op= .call { callee:= .builtin .append,args:= #[s,x],argTypes:= #[t,tn]}) (hs:E.ev s= .os sz 0 f none)
 (hx:E.ev x= .v (.int kq m)) (hm:m≠0) (htn:P.underlying tn=some (.int kn)) (ht:P.underlying t=some (.slice e)) (hg:JaY P e=true)
 (hroom:m * P.bytesOf e≤140737488355328) (hlen:m≤9223372036854775807)
 (hk2:∀ncap,m≤ncap→K (({ E with h:=E.h.add (List.replicate (ncap * P.cellsOf e) .any)}:Env).set o.dst (.hs (E.h.nn,E.h.nx) 0 m ncap))):AOp P o E K Kp:=by
 intro ro X M w0 a w g hst next Q hn hpan
 obtain ⟨inf,z,hi,hz,hzs,hsi,hpos,hby⟩:=JdC hg
 have hxv:a.eval x= .int kq m:=by
  have:=hst.ev x
  rw [hx] at this
  generalize a.eval x=u at this
  cases this;rfl
 have hexec:∀ {u:Value} {w':World},(Builtin.append_ #[t,tn] o.type #[a.eval s,a.eval x]).run P w= .ok u w'→(execOp a.eval o).run P w= .ok (.value u) w':=by
  intro u w' h
  unfold execOp
  simp only [ho,resolve]
  simp [invoke,builtin,h]
 have hrun:∃ncap,m≤ncap∧(Builtin.append_ #[t,tn] o.type #[a.eval s,a.eval x]).run P w= .ok (.slice (some ⟨w.heap.size,0,none⟩) m ncap) (w.drew.alloc (.cells (([]:List Value).toArray++Builtin.zeroCells z.cells m++Builtin.zeroCells z.cells (ncap - m)) e)):=by
  have hsr:=hst.ev s
  rw [hs] at hsr
  rw [hxv]
  generalize a.eval s=us at hsr
  have key:∀ad:Option Addr,us= .slice ad 0 0→∃ncap,m≤ncap∧(Builtin.append_ #[t,tn] o.type #[us, .int kq m]).run P w= .ok (.slice (some ⟨w.heap.size,0,none⟩) m ncap) (w.drew.alloc (.cells (([]:List Value).toArray++Builtin.zeroCells z.cells m++Builtin.zeroCells z.cells (ncap - m)) e)):=by
   rintro ad rfl
   have hr:=Go.Lib.run_append_grow_zeros (P:=P) w t tn o.type e inf z kq kn ht htn hi hz ad 0 0 [] (by cases ad with
    | none=> simp [Builtin.firstCells]
    | some a0=> simpa using run_firstCells_some (P:=P) w.drew inf.size 0 a0 0 0 [] (by simp) (by simp)) m Om Om Om Om (by rw [hby];omega) (growslice_fits Om (by rw [hby,Nat.zero_add];exact hroom))
   rw [Nat.zero_add] at hr
   exact ⟨_,grownCap_ge w m 0 e,hr⟩
  cases hsr with
  | os0 _ _ ad=> exact key ad rfl
  | osn _ _ _ b off vs=> exact key _ rfl
 obtain ⟨ncap,hnc,hr⟩:=hrun
 obtain ⟨h3,h4⟩:=hst.drew.box (cs:=List.replicate (ncap * P.cellsOf e) .any) (vs:=([]:List Value).toArray++Builtin.zeroCells z.cells m++Builtin.zeroCells z.cells (ncap - m)) e
  (by
    simp only [Array.toList_append,List.length_append,Array.length_toList,size_zeroCells,hzs,List.length_replicate,List.length_nil,Nat.zero_add,← Nat.add_mul]
    congr 1;omega)
  (fun k c u hc hu=> by
    have:=List.mem_of_getElem? hc
    rw [(List.mem_replicate.1 this).2]
    exact .any _)
 refine JG (by rw [ho];intro c h;cases h) ?_
 rw [hexec hr]
 exact hn _ _ _ _ (hk2 ncap hnc) (fun i b h=> by rw [List.getElem?_append_left (List.getElem?_eq_some_iff.1 h).1];exact h) (h3.put o.dst (.hs _ _ _ _ w.heap.size (JoS h4)))
theorem Jok {o:Oper} {E:Env} {t e:TypeId} {x hi:Operand} {n l cap:Nat} {i:Id} {k':IntKind} {d:TypeDesc} (ho:o.op= .slice t x none (some hi) none) (hx:E.ev x= .hs i 0 n cap)
 (hhi:E.ev hi= .v (.int k' (l:Int))) (ht:P.underlying t=some (.slice e)) (hd:P.underlying e=some d) (hl:l≤cap) (hc:0 < cap):Yields P o E (.hs i 0 l cap):=by
 refine ⟨(by rw [ho];intro c hc;cases hc),fun ρ w X g hk hr=> .inl ?_⟩
 have r1:=hr x (by rw [ho];simp [Op.operands])
 have r3:=hr hi (by rw [ho];simp [Op.operands])
 rw [hx] at r1;rw [hhi] at r3
 have e3:=JI r3
 generalize hu:ρ x=u at r1
 cases r1 with
 | hs _ _ _ _ b hgb=>
   have hN:(Instr.sliceBounds true n cap none (some (.int k' (l:Int))) none).run P w= .ok (0,l,cap) w:=by
    have e5:(0:Int)≤(l:Int):=by omega
    have e6:(l:Int)≤(cap:Int):=by omega
    simp [Instr.sliceBounds,Instr.sliceBound,asIntOf,hl]
   have hcl:¬cap=0:=by omega
   refine ⟨.slice (some ⟨b,0,none⟩) l cap,w, ?_,Evo.refl _ _, .hs _ _ _ _ b hgb⟩
   unfold execOp
   simp only [ho,hu,Option.map_some,e3,Option.map_none]
   refine Ja7 ?_
   simp [Instr.sliceAt,Sem.run_bind,run_underlying ht,Result.andThen_ok,Instr.slice,hN,JD hd,Sem.run_pure,J2,hcl]
theorem Jm1 {o:Oper} {E:Env} {K:Env→Prop} {Kp:AV→Env→Prop} {t e:TypeId} {x hi:Operand} {n l cap:Nat} {i:Id} {k':IntKind} {d:TypeDesc} (ho:o.op= .slice t x none (some hi) none) (hx:E.ev x= .hs i 0 n cap)
 (hhi:E.ev hi= .v (.int k' (l:Int))) (ht:P.underlying t=some (.slice e)) (hd:P.underlying e=some d) (hl:l≤cap) (hc:0 < cap) (hk:K (E.set o.dst (.hs i 0 l cap))):AOp P o E K Kp:=
 AOp.of_yields (Jok ho hx hhi ht hd hl hc) hk
end Go.Vl

namespace Go.Vl
open Go.RowKit
variable {P:Program}
theorem Jlb {w:World} {X:Nat→Nat→Prop} {g:List Nat} {sz:Nat} {f:Nat→AV} {u:Value} (h:Rep w X g (.os sz 0 f none) u):∃ad,u= .slice ad 0 0:=by
 cases h with
 | os0 _ _ ad=> exact ⟨ad,rfl⟩
 | osn _ _ _ b off vs=> exact ⟨_,rfl⟩
theorem JiR {o:Oper} {E:Env} {K:Env→Prop} {Kp:AV→Env→Prop} {x:Operand} {t e:TypeId} {sz:Nat} {f:Nat→AV} (ho:o.op= .call { callee:= .builtin .cap,args:= #[x],argTypes:= #[t]})
 (hx:E.ev x= .os sz 0 f none) (ht:P.underlying t=some (.slice e)) (hk:K (E.set o.dst (.v (.int .i64 0)))):AOp P o E K Kp:=by
 refine AOp.of_yields (r:= .v (.int .i64 0)) ⟨(by rw [ho];intro c hc;cases hc),fun ρ w X g hk hr=> .inl ?_⟩ hk
 have r1:=hr x (by rw [ho];simp [Op.operands,Call.operands])
 rw [hx] at r1
 obtain ⟨ad,hu⟩:=Jlb r1
 refine ⟨.int .i64 0,w, ?_,Evo.refl _ _, .v _⟩
 unfold execOp
 simp only [ho,resolve]
 simp [invoke,builtin,hu,Builtin.cap_,run_underlying ht,goInt]
theorem Js9 {o:Oper} {E:Env} {K:Env→Prop} {Kp:AV→Env→Prop} {t e:TypeId} {x hi:Operand} {sz:Nat} {f:Nat→AV} {k':IntKind} {d:TypeDesc} (ho:o.op= .slice t x none (some hi) none) (hx:E.ev x= .os sz 0 f none)
 (hhi:E.ev hi= .v (.int k' 0)) (ht:P.underlying t=some (.slice e)) (hd:P.underlying e=some d) (hk:K (E.set o.dst (.os sz 0 f none))):AOp P o E K Kp:=by
 refine AOp.of_yields (r:= .os sz 0 f none) ⟨(by rw [ho];intro c hc;cases hc),fun ρ w X g hk hr=> .inl ?_⟩ hk
 have r1:=hr x (by rw [ho];simp [Op.operands])
 have r3:=hr hi (by rw [ho];simp [Op.operands])
 rw [hx] at r1;rw [hhi] at r3
 have e3:=JI r3
 obtain ⟨ad,hu⟩:=Jlb r1
 have hN:(Instr.sliceBounds true 0 0 none (some (.int k' 0)) none).run P w= .ok (0,0,0) w:=by
  simp [Instr.sliceBounds,Instr.sliceBound,asIntOf]
 cases ad with
 | none=>
   refine ⟨.slice none 0 0,w, ?_,Evo.refl _ _, .os0 _ _ _⟩
   unfold execOp
   simp only [ho,hu,Option.map_some,e3,Option.map_none]
   refine Ja7 ?_
   simp [Instr.sliceAt,Sem.run_bind,run_underlying ht,Result.andThen_ok,Instr.slice,hN,JD hd,Sem.run_pure,J2]
 | some ad=>
   refine ⟨.slice (some ad) 0 0,w, ?_,Evo.refl _ _, .os0 _ _ _⟩
   unfold execOp
   simp only [ho,hu,Option.map_some,e3,Option.map_none]
   refine Ja7 ?_
   simp [Instr.sliceAt,Sem.run_bind,run_underlying ht,Result.andThen_ok,Instr.slice,hN,JD hd,Sem.run_pure,J2]
end Go.Vl

namespace Go.Vl
variable {P:Program}
theorem JfW {o:Oper} {E:Env} {K:Env→Prop} {Kp:AV→Env→Prop} {fo:Operand} {args:Array Operand} {tys:Array TypeId} {f:FuncId} {first caps xs:List AV} {h1:Heap} {Q:AV→Heap→Prop} {bx1:List (Id×Own)} {pm1:List (Id×Nat)}
 (rb:List (Id×Own)) (rp:List (Id×Nat)) (nn:Nat) (ho:o.op= .call { callee:= .value fo,args:=args,argTypes:=tys}) (hf:E.ev fo= .fn (.func f) first caps) (hbx:E.h.bx=bx1++rb) (hpm:E.h.pm=rp++pm1)
 (hl:LeL (first++args.toList.map E.ev++caps) xs) (hc:ECall P f xs h1 Q) (hbl:BxLe bx1 h1.bx) (hpe:PmEq pm1 h1.pm) (hn:h1.nx=E.h.nx)
 (hk:∀r h',Q r h'→K (({ E with h:=⟨h'.bx++rb,rp++h'.pm,h'.nx,nn⟩}:Env).set o.dst r)):AOp P o E K Kp:=by
 have h2:ECall P f xs ⟨bx1,pm1,h1.nx,h1.nn⟩ Q:=hc.tell hbl hpe rfl
 have h3:=(ECall.frame (h:=E.h) h2 rb rp (by rw [hbx]) (by rw [hpm];exact List.perm_append_comm) hn).args hl
 refine Jdc ho hf h3 fun r h' hq=> ?_
 obtain ⟨h1',q1,rfl⟩:=hq
 exact ⟨r,⟨h1'.bx++rb,rp++h1'.pm,h1'.nx,nn⟩,Rf,⟨.refl _,List.perm_append_comm.map _,rfl⟩,hk r h1' q1⟩
theorem AVle.fn_caps {f:Fn} {cs ds:List AV} (h:LeL cs ds):AVle (.fn f [] cs) (.fn f [] ds):=by
 intro w X g u hr
 cases hr with
 | fn _ _ _ v1 v2 n1 n2 r1 r2=>
   refine .fn _ _ _ v1 v2 n1 (n2.trans h.get.1) r1 ?_
   intro k c u hc hu
   have hk:k < cs.length:=by rw [h.get.1];exact (List.getElem?_eq_some_iff.1 hc).1
   exact h.get.2 k _ c (List.getElem?_eq_getElem hk) hc w X g u (r2 k _ u (List.getElem?_eq_getElem hk) hu)
theorem Jhg {ops:Array Oper} {o:Oper} {E E':Env} {j:Nat} {want:Bool} {x:Option Bool} (hg:o.guard=some (j,want)) (ht:∀k,k∈o.looksAt ops→E'.t k=E.t k) (h:agb (agd ops E j)=some x):agb (agd ops E' j)=some x:=by
 unfold agd at h⊢
 cases hd:(ops[j]?).bind (·.dst) with
 | none=> simp [hd,agb] at h
 | some d=> simp only [hd] at h⊢;rw [ht d (JeL hg hd)];exact h
theorem JhX {ops:Array Oper} {B:List (Id×Own)} {o:Oper} {E:Env} {j:Nat} {want c:Bool} (hg:o.guard=some (j,want)) (hd:agb (agd ops E j)=some (some c)) (hc:(c ==want)=false):PureAll P ops B o E (.v undef):=fun E' _ ht=> by
 unfold GY
 simp only [hg]
 exact ⟨some c,Jhg hg ht hd, .inr ⟨(fun h=> by rw [Option.some.inj h,beq_self_eq_true] at hc;cases hc),trivial⟩⟩
theorem JdT {ops:Array Oper} {B:List (Id×Own)} {o:Oper} {E:Env} {j:Nat} {want c:Bool} {C:Option Prop} {r:AV} (hg:o.guard=some (j,want)) (hd:agb (agd ops E j)=some (some c)) (hc:(c ==want)=true)
 (hp:Jau P o.op { E with h:=⟨B, [],0,0⟩}=some (C,r)) (hC:J4 C):PureAll P ops B o E r:=fun E' hb ht=> by
 unfold GY
 simp only [hg]
 exact ⟨some c,Jhg hg ht hd, .inl ⟨by rw [beq_iff_eq.1 hc],Jbe (Jdt (E:= { E with h:=⟨B, [],0,0⟩}) (E':=E') hb (JaM (E:= { E with h:=⟨B, [],0,0⟩}) ht) hp) hC⟩⟩
end Go.Vl

namespace Go.Vl
open Go.RowKit
variable {P:Program}
section
variable {α:Type} [Inhabited α]
def Jab (E:α→List AV) (d:Array α) (tl:List AV):List AV:=d.toList.flatMap E++tl
omit [Inhabited α] in
theorem Jdh {E:α→List AV} {k:Nat} (hk:∀x,(E x).length=k):∀l:List α,(l.flatMap E).length=l.length * k
 | []=> by simp
 | x::l=> by rw [List.flatMap_cons,List.length_append,hk,Jdh hk l,List.length_cons,Nat.succ_mul];omega
omit [Inhabited α] in
theorem JgF {E:α→List AV} {k:Nat} (hk:∀x,(E x).length=k) {d:Array α} {tl:List AV}:(Jab E d tl).length=d.size * k+tl.length:=by
 unfold Jab;rw [List.length_append,Jdh hk];simp
omit [Inhabited α] in
theorem Jlc {E:α→List AV} {k:Nat} (hk:∀x,(E x).length=k) {tl:List AV}:∀(l:List α) (i:Nat) (h:i < l.length),((l.flatMap E++tl).drop (i * k)).take k=E l[i]
 | [],i,h=> by cases h
 | x::l,0,_=> by
   rw [List.flatMap_cons,List.append_assoc,Nat.zero_mul,List.drop_zero,List.take_append_of_le_length (by rw [hk];exact Nat.le_refl _),List.take_of_length_le (by rw [hk];exact Nat.le_refl _)];rfl
 | x::l,i+1,h=> by
   have e:(E x++(l.flatMap E++tl)).drop ((i+1) * k)=(l.flatMap E++tl).drop (i * k):=by
    rw [List.drop_append,List.drop_of_length_le (by rw [hk,Nat.succ_mul];omega),hk,Nat.succ_mul,Nat.add_sub_cancel];rfl
   rw [List.flatMap_cons,List.append_assoc,e]
   exact Jlc hk l i (by simpa using h)
theorem Jm2 {E:α→List AV} {k:Nat} (hk:∀x,(E x).length=k) {d:Array α} {tl:List AV} {i:Nat} (hi:i < d.size):((Jab E d tl).drop (i * k)).take k=E d[i]! :=by
 unfold Jab
 rw [Jlc hk d.toList i (by simpa using hi)]
 simp [hi]
omit [Inhabited α] in
theorem Jfd {a b vs:List AV} {off:Nat}:JX (a++b) (a.length+off) vs=a++JX b off vs:=by
 rw [Jap,Jap,List.take_append,List.drop_append]
 have h1:a.take (a.length+off)=a:=List.take_of_length_le Om
 have h2:a.drop (a.length+off+vs.length)= []:=List.drop_of_length_le Om
 rw [h1,h2,show a.length+off - a.length=off by omega,show a.length+off+vs.length - a.length=off+vs.length by omega]
 simp
omit [Inhabited α] in
theorem Jhh {a b vs:List AV} (h:a.length=vs.length):JX (a++b) 0 vs=vs++b:=by
 rw [Jap,Nat.zero_add,← h,List.drop_left']
 ·simp
 ·rfl
omit [Inhabited α] in
theorem Jld {E:α→List AV} {k:Nat} (hk:∀x,(E x).length=k) {tl:List AV} {x:α}:∀(l:List α) (i:Nat),i < l.length→JX (l.flatMap E++tl) (i * k) (E x)=(l.set i x).flatMap E++tl
 | [],i,h=> by cases h
 | y::l,0,_=> by
   rw [List.flatMap_cons,List.append_assoc,Nat.zero_mul,Jhh (by rw [hk,hk])];simp [List.flatMap_cons]
 | y::l,i+1,h=> by
   rw [List.flatMap_cons,List.append_assoc,Nat.succ_mul,Nat.add_comm,show k+i * k=(E y).length+i * k by rw [hk],Jfd,Jld hk l i (by simpa using h)]
   simp [List.flatMap_cons]
omit [Inhabited α] in
theorem Jm3 {E:α→List AV} {k:Nat} (hk:∀x,(E x).length=k) {d:Array α} {tl:List AV} {i:Nat} {x:α} (hi:i < d.size):JX (Jab E d tl) (i * k) (E x)=Jab E (d.setIfInBounds i x) tl:=by
 unfold Jab
 rw [Jld hk _ _ (by simpa using hi)]
 simp
omit [Inhabited α] in
theorem Jkp {E:α→List AV} {k:Nat} (hk:∀x,(E x).length=k) {d:Array α} {tl:List AV} {i:Nat} (hi:i < d.size):i * k+k≤(Jab E d tl).length:=by
 rw [JgF hk,← Nat.succ_mul]
 exact Nat.le_trans (Nat.mul_le_mul_right k hi) (Nat.le_add_right _ _)
theorem JgG {x:Int} {i c k:Nat} (hc:c=k) (h:x=(i:Int)):0+x.toNat * c=i * k:=by subst hc;subst h;simp
theorem JgH {E:α→List AV} {k:Nat} (hk:∀x,(E x).length=k) {h:Heap} {t:TypeId} {nm s off j:Nat} {d:Array α} {tl:List AV} (hcs:Jav nm h.bx=some (s,Jab E d tl)) (ht:(P.underlying t).map agD=some true) (hn:P.cellsOf t=k) (hoff:off=j * k) (hj:j < d.size):
 Jc7 P t h (.bp (nm,s) off)=some (some (s=s), .ag (E d[j]!)):=by
 subst hoff
 obtain ⟨td,ht,ha⟩:=Option.map_eq_some_iff.1 ht
 have hl:Nat.ble (0+k) ((Jab E d tl).drop (j * k)).length=true:=Nat.ble_eq_true_of_le (by rw [List.length_drop];have:=Jkp (tl:=tl) hk hj;omega)
 unfold Jc7
 simp only [hcs,ht,ha,cond_true,apart,hn,hl,List.drop_zero,Jm2 hk hj,Option.map_some]
theorem Jdu {E:α→List AV} {k:Nat} (hk:∀x,(E x).length=k) {o:Op} {e:Env} {t:TypeId} {p:Operand} {nm s off j:Nat} {d:Array α} {tl:List AV} (ho:o= .load t p) (hp:e.ev p= .bp (nm,s) off) (hoff:off=j * k)
 (hcs:Jav nm e.h.bx=some (s,Jab E d tl)) (ht:(P.underlying t).map agD=some true) (hn:P.cellsOf t=k) (hj:j < d.size):Jau P o e=some (some (s=s), .ag (E d[j]!)):=by
 rw [ho]
 show Jc7 P t e.h (e.ev p)=_
 rw [hp]
 exact JgH hk hcs ht hn hoff hj
theorem Jol {E:α→List AV} {k:Nat} (hk:∀x,(E x).length=k) {o:Oper} {e:Env} {t:TypeId} {p:Operand} {nm s off j:Nat} {d:Array α} {tl:List AV} (ho:o.op= .load t p) (hp:e.ev p= .bp (nm,s) off) (hoff:off=j * k)
 (hcs:Jav nm e.h.bx=some (s,Jab E d tl)) (ht:(P.underlying t).map agD=some true) (hn:P.cellsOf t=k) (hj:j < d.size):Yields P o e (.ag (E d[j]!)):=by
 refine Jbe (C:=some (s=s)) ?_ rfl
 rw [ho]
 show Jc7 P t e.h (e.ev p)=_
 rw [hp]
 exact JgH hk hcs ht hn hoff hj
theorem Jm4 {E:α→List AV} {k:Nat} (hk:∀x,(E x).length=k) {ops:Array Oper} {o:Oper} {e:Env} {t:TypeId} {p:Operand} {nm s off j:Nat} {d:Array α} {tl:List AV} (hg:o.guard=none) (ho:o.op= .load t p) (hp:e.ev p= .bp (nm,s) off) (hoff:off=j * k)
 (hcs:Jav nm e.h.bx=some (s,Jab E d tl)) (ht:(P.underlying t).map agD=some true) (hn:P.cellsOf t=k) (hj:j < d.size):PureNow P ops o e (.ag (E d[j]!)):=by
 refine Jla hg (C:=some (s=s)) ?_ rfl
 rw [ho]
 show Jc7 P t e.h (e.ev p)=_
 rw [hp]
 exact JgH hk hcs ht hn hoff hj
omit [Inhabited α] in
theorem Jm5 {E:α→List AV} {k:Nat} (hk:∀x,(E x).length=k) {ops:Array Oper} {o:Oper} {e:Env} {t:TypeId} {p x:Operand} {nm s off j:Nat} {d:Array α} {tl:List AV} {z:α} (hg:o.guard=none) (ho:o.op= .store t p x) (hd:o.dst=none) (hp:e.ev p= .bp (nm,s) off) (hoff:off=j * k)
 (hx:e.ev x= .ag (E z)) (h1:(E z).all JaW=true) (h2:JbQ (.ag (E z))=true) (hcs:Jav nm e.h.bx=some (s,Jab E d tl)) (ht:(P.underlying t).isSome=true) (hn:P.cellsOf t=k) (hj:j < d.size):
 Eff P ops [] o e fun _ h'=> h'= { e.h with bx:=JcC nm (Jab E (d.setIfInBounds j z) tl) e.h.bx}:=by
 subst hoff
 have hcl:(AV.ag (E z)).cells=E z:=rfl
 have q:=Jhe (P:=P) (ops:=ops) (B:= []) (E:=e) (cs:=Jab E d tl) (i:=(nm,s)) hg ho hd hp hcs (by rw [hx];exact h2) (by rw [hx,hcl];exact h1) ht (by rw [hx,hcl,hk,hn];exact Nat.beq_refl _) (by rw [hx,hcl,hk];exact Jkp hk hj) (fun _ _ _ h=> by cases h)
 rw [hx,hcl,Jm3 hk hj] at q
 exact q
omit [Inhabited α] in
theorem JpI {E:α→List AV} {k:Nat} (hk:∀x,(E x).length=k) {o:Oper} {e:Env} {K:Env→Prop} {Kp:AV→Env→Prop} {t:TypeId} {p x:Operand} {nm s off j:Nat} {d:Array α} {tl:List AV} {z:α} (ho:o.op= .store t p x) (hd:o.dst=none) (hp:e.ev p= .bp (nm,s) off) (hoff:off=j * k)
 (hx:e.ev x= .ag (E z)) (h1:(E z).all JaW=true) (h2:JbQ (.ag (E z))=true) (hcs:Jav nm e.h.bx=some (s,Jab E d tl)) (ht:(P.underlying t).isSome=true) (hn:P.cellsOf t=k) (hj:j < d.size)
 (hK:K { e with h:= { e.h with bx:=JcC nm (Jab E (d.setIfInBounds j z) tl) e.h.bx}}):AOp P o e K Kp:=by
 subst hoff
 have hcl:(AV.ag (E z)).cells=E z:=rfl
 refine AOp.any (Jg6 ho hp hcs (by rw [hx];exact h2) (by rw [hx,hcl];exact h1) ht (by rw [hx,hcl,hk,hn];exact Nat.beq_refl _) (by rw [hx,hcl,hk];exact Jkp hk hj) ?_)
 rw [hx,hcl,Jm3 hk hj,hd]
 exact hK
end
theorem Jhi {o:Oper} {E:Env} {t e:TypeId} {x lo:Operand} {n l cap:Nat} {i:Id} {k':IntKind} {d:TypeDesc} (ho:o.op= .slice t x (some lo) none none) (hx:E.ev x= .hs i 0 n cap)
 (hlo:E.ev lo= .v (.int k' (l:Int))) (ht:P.underlying t=some (.slice e)) (hd:P.underlying e=some d) (hl:l≤n) (hn:n≤cap) (hc:l < cap):Yields P o E (.hs i (l * P.cellsOf e) (n - l) (cap - l)):=by
 refine ⟨(by rw [ho];intro c hc;cases hc),fun ρ w X g hk hr=> .inl ?_⟩
 have r1:=hr x (by rw [ho];simp [Op.operands])
 have r3:=hr lo (by rw [ho];simp [Op.operands])
 rw [hx] at r1;rw [hlo] at r3
 have e3:=JI r3
 generalize hu:ρ x=u at r1
 cases r1 with
 | hs _ _ _ _ b hgb=>
   have hN:(Instr.sliceBounds true n cap (some (.int k' (l:Int))) none none).run P w= .ok (l,n,cap) w:=by
    have e5:(0:Int)≤(l:Int):=by omega
    have e6:(l:Int)≤(n:Int):=by omega
    simp [Instr.sliceBounds,Instr.sliceBound,asIntOf,hl,hn]
   have hcl:¬cap=l:=by omega
   refine ⟨.slice (some ⟨b,l * P.cellsOf e,none⟩) (n - l) (cap - l),w, ?_,Evo.refl _ _, .hs _ _ _ _ b hgb⟩
   unfold execOp
   simp only [ho,hu,Option.map_some,e3,Option.map_none]
   refine Ja7 ?_
   simp [Instr.sliceAt,Sem.run_bind,run_underlying ht,Result.andThen_ok,Instr.slice,hN,JD hd,Sem.run_pure,J2,hcl]
theorem JpJ {o:Oper} {E:Env} {K:Env→Prop} {Kp:AV→Env→Prop} {s:Operand} {t e:TypeId} {i:Id} {off n cap:Nat} {cs:List AV} {z:Value}
 (ho:o.op= .call { callee:= .builtin .clear,args:= #[s],argTypes:= #[t]}) (hd:o.dst=none) (hs:E.ev s= .hs i off n cap) (hn:n≠0)
 (ht:P.underlying t=some (.slice e)) (hz:(P.info? e).bind (·.zero)=some z) (hsz:z.cells.size=P.cellsOf e) (h1:z.cells.all (·.oneCell')=true)
 (hcs:Jav i.1 E.h.bx=some (i.2,cs)) (hle:off+n * P.cellsOf e≤cs.length)
 (hk:K { E with h:= { E.h with bx:=JcC i.1 (JX cs off (List.replicate (n * P.cellsOf e) .any)) E.h.bx}}):AOp P o E K Kp:=by
 intro ro X M w0 a w g hst next Q hn' hpan
 have hmem:=JdR hcs
 obtain ⟨b,hg,vs,e',hb,hvs,hr⟩:=hst.hok.bx _ hmem
 dsimp only at hg hvs hr
 have hsv:a.eval s= .slice (some ⟨b,off,none⟩) n cap:=by
  have:=hst.ev s
  rw [hs] at this
  generalize a.eval s=u at this
  cases this with
  | hs _ _ _ _ b' hg'=> rw [hg] at hg';cases hg';rfl
 have hnl:(Builtin.zeroCells z.cells n).toList.length=n * P.cellsOf e:=by rw [Array.length_toList,size_zeroCells,hsz]
 have hone:∀v∈(Builtin.zeroCells z.cells n).toList,v.oneCell'=true:=by
  intro v hv
  rw [Builtin.zeroCells,Array.toList_map,List.mem_map] at hv
  obtain ⟨j,hj,rfl⟩:=hv
  have hpos:0 < z.cells.size:=by
   rcases Nat.eq_zero_or_pos z.cells.size with h0 | h0
   ·rw [h0] at hj;simp at hj
   ·exact h0
  have hm:=Nat.mod_lt j hpos
  have e2:z.cells[j % z.cells.size]! =z.cells[j % z.cells.size]:=by simp [hm]
  rw [e2]
  exact Array.all_eq_true.1 h1 _ hm
 have hst2:=run_storeCells_at P b off e' (Builtin.zeroCells z.cells n).toList 0 vs w hb (by rw [hnl,Nat.add_zero];simpa [hvs] using hle) hone
 simp only [Nat.add_zero] at hst2
 obtain ⟨m,rfl⟩:∃m,n=m+1:=⟨n - 1,by omega⟩
 have hrun:(execOp a.eval o).run P w= .ok (.value (.tuple #[])) (w.setRow b (vs.toList.take off++(Builtin.zeroCells z.cells (m+1)).toList++vs.toList.drop (off+(Builtin.zeroCells z.cells (m+1)).toList.length)).toArray):=by
  have hcl:(Builtin.clear_ #[t] o.type #[.slice (some ⟨b,off,none⟩) (m+1) cap]).run P w= .ok (.tuple #[]) (w.setRow b (vs.toList.take off++(Builtin.zeroCells z.cells (m+1)).toList++vs.toList.drop (off+(Builtin.zeroCells z.cells (m+1)).toList.length)).toArray):=by
   simp only [Builtin.clear_]
   simp [run_underlying ht,JaQ hz,hst2]
  unfold execOp
  simp only [ho,resolve]
  simp [invoke,builtin,hsv,hcl]
 have hnew:=hst.setRow (cs:=JX cs off (List.replicate ((m+1) * P.cellsOf e) .any)) (vs:=(vs.toList.take off++(Builtin.zeroCells z.cells (m+1)).toList++vs.toList.drop (off+(Builtin.zeroCells z.cells (m+1)).toList.length)).toArray) hcs hg hb
  (by simp only [Jap,List.length_append,List.length_take,List.length_drop,List.length_replicate,hnl];simp only [Array.length_toList];omega)
  (by simp only [List.size_toArray,List.length_append,List.length_take,List.length_drop,hnl];simp only [Array.length_toList];omega)
  (fun k c u hk1 hk2=> by
    simp only [List.append_assoc] at hk2
    rw [Jbf _ _ _ (by rw [hnl];simpa [hvs] using hle)] at hk2
    rw [Jap,Jbf _ _ _ (by rw [List.length_replicate];exact hle)] at hk1
    rw [hnl] at hk2
    rw [List.length_replicate] at hk1
    split at hk1
    ·rename_i h2;rw [if_pos h2] at hk2;exact hr k c u hk1 (by simpa using hk2)
    ·rename_i h2
     rw [if_neg h2] at hk2
     split at hk1
     ·rw [(List.mem_replicate.1 (List.mem_of_getElem? hk1)).2];exact .any _
     ·rename_i h3;rw [if_neg h3] at hk2;exact hr k c u hk1 (by simpa using hk2))
 refine JG (by rw [ho];intro c h;cases h) ?_
 rw [hrun]
 refine hn' _ _ _ g ?_ (fun _ _ h=> h) (hnew.put o.dst (.v (.tuple #[])))
 rw [hd]
 exact hk
end Go.Vl

namespace Go.Vl
open Go.RowKit
variable {P:Program}
theorem Jn {E:Env} {n:Nat} {bx:List (Id×Own)} {pm:List (Id×Nat)} {nx nn:Nat} {L:List (Nat×AV)} (bx'' bx':List (Id×Own)) (pm':List (Id×Nat)) (hn:E.n=n) (hx:E.h.nx=nx) (h0:bx''.Perm E.h.bx) (hb:bx'.Sublist bx'') (hp:pm'.Sublist E.h.pm)
 (eb:BxLe bx' bx) (ep:PmEq pm' pm) (hL:LeT E.t L):ELe E (mk n L ⟨bx,pm,nx,nn⟩ E.df):=
 (Jen (E:=E) (h':=⟨bx'',E.h.pm,E.h.nx,E.h.nn⟩) ⟨h0.map _, .refl _,rfl⟩).trans (Jq (E:= { E with h:=⟨bx'',E.h.pm,E.h.nx,E.h.nn⟩}) bx' pm' hn hx hb hp eb ep hL)
variable {α:Type}
theorem Jle {E:α→List AV} {k:Nat} (hk:∀x,(E x).length=k) {l:List α} {tl:List AV} {x:α} (h:k≤tl.length):JX (Jab E l.toArray tl) (l.length * k) (E x)=Jab E (l++ [x]).toArray (tl.drop k):=by
 unfold Jab
 have e1:l.length * k=(l.flatMap E).length:=(Jdh hk l).symm
 show JX (l.flatMap E++tl) (l.length * k) (E x)=(l++ [x]).flatMap E++tl.drop k
 rw [e1]
 have:=Jfd (a:=l.flatMap E) (b:=tl) (off:=0) (vs:=E x)
 rw [Nat.add_zero] at this
 rw [this,Jap,Nat.zero_add,hk]
 simp
theorem Jlf {E:α→List AV} {k:Nat} (hk:∀x,(E x).length=k) {l:List α} {tl:List AV}:(Jab E l.toArray tl).take (l.length * k)=l.flatMap E:=by
 unfold Jab
 show (l.flatMap E++tl).take (l.length * k)=_
 rw [← Jdh hk l,List.take_left]
theorem Jm6 {E:α→List AV} {l:List α} {x:α} {tl:List AV}:l.flatMap E++E x++tl=Jab E (l++ [x]).toArray tl:=by
 unfold Jab
 simp [List.flatMap_append]
theorem JgI [Inhabited α] {bs:List (Nat×Own)} {i:Id} {n cap k:Nat} {E:α→List AV} (hk:∀x,(E x).length=k) {e:α→AV} (he:∀x,(e x).cells=E x) {d:α} {l:List α} {tl:List AV} (hn:l.length=n) (hm:(i.2, .c (Jab E l.toArray tl))∈bs) (hcap:n≤cap):
 Frz bs (.hs i 0 n cap) (JF k e d l):=by
 subst hn
 have hle:l.length * k≤(Jab E l.toArray tl).length:=by rw [JgF hk];simp
 refine Frz.hs hm hcap (.inr (by rw [Nat.zero_add];exact hle)) (fun j _=> by rw [he,hk]) (fun j hj q c hc=> ⟨c, ?_,Rf⟩) (by rw [Nat.zero_add];exact hle)
 rw [he] at hc
 have hq:q < k:=by have:=(List.getElem?_eq_some_iff.1 hc).1;rwa [hk] at this
 have hg:=Jm2 (E:=E) (tl:=tl) hk (d:=l.toArray) (i:=j) (by simpa using hj)
 have hx:(l.toArray)[j]! =l.getD j d:=by simp [List.getD,hj]
 rw [hx] at hg
 rw [← hg,List.getElem?_take,if_pos hq,List.getElem?_drop] at hc
 rw [Nat.zero_add]
 exact hc
end Go.Vl

namespace Go.Vl
open Go.RowKit
variable {P:Program}
def Jbx (x:Int×Int):Value:= .agg #[.int .i64 x.1, .int .i64 x.2]
def kA (x:Int×Int):AV:= .ag [.v (.int .i64 x.1), .v (.int .i64 x.2)]
def Jai (x:Int×Int):Value×AV:=(Jbx x, .v (.bool true))
theorem Jrq {w:World} {X:Nat→Nat→Prop} {g:List Nat} {x:Int×Int} {u:Value} (h:Rep w X g (kA x) u):u=Jbx x:=by
 cases h with
 | ag _ vs hn h=>
   match vs,hn with
   | [a,b],_=>
     have h0:=JI (h 0 _ a rfl rfl)
     have h1:=JI (h 1 _ b rfl rfl)
     subst h0 h1;rfl
theorem Jrr {w:World} {X:Nat→Nat→Prop} {g:List Nat} {x:Int×Int}:Rep w X g (kA x) (Jbx x):=
 .ag [_,_] [_,_] rfl fun k c u hc hu=> by
  match k,hc,hu with
  | 0,hc,hu=> simp at hc hu;subst hc;subst hu;exact .v _
  | 1,hc,hu=> simp at hc hu;subst hc;subst hu;exact .v _
structure PairT (P:Program) (kt e:TypeId):Prop where
 arr:P.underlying kt=some (.array 2 e)
 el:P.underlying e=some (.int .i64)
 sz:P.cellsOf e=1
 ok:aeqOk P 8 kt=true
 p0:∀a:Int×Int,apart P e [.v (.int .i64 a.1), .v (.int .i64 a.2)] 0=some (.v (.int .i64 a.1))
 p1:∀a:Int×Int,apart P e [.v (.int .i64 a.1), .v (.int .i64 a.2)] 1=some (.v (.int .i64 a.2))
 eq:∀a b:Int×Int,aeq P 8 kt (kA a) (kA b)=some (a.1 ==b.1&& (a.2 ==b.2&& true))
theorem Jta (a b:Int×Int):(a.1 ==b.1&& (a.2 ==b.2&& true))=decide (a=b):=by
 rw [Bool.eq_iff_iff]
 simp [Prod.ext_iff]
theorem PairT.equal {kt e:TypeId} (h:PairT P kt e) (a b:Int×Int) (w:World):(Op.equal kt (Jbx a) (Jbx b)).run P w= .ok (decide (a=b)) w:=by
 rw [← Jta]
 exact JfR 8 10000 kt (kA a) (kA b) _ _ _ w (fun _ _=> False) [] Om (h.eq a b) h.ok Jrr Jrr
theorem PairT.checkI {kt e:TypeId} (h:PairT P kt e) (a:Int) (b:Bool) (n:Nat) (w:World):(Instr.checkKey b (n+1) e (.int .i64 a)).run P w= .ok () w:=by
 unfold Instr.checkKey
 simp only [Sem.run_bind,run_underlying h.el,Result.andThen_ok,Sem.run_pure]
theorem PairT.check {kt e:TypeId} (h:PairT P kt e) (a:Int×Int) (b:Bool) (w:World):(Instr.checkKey b 10000 kt (Jbx a)).run P w= .ok () w:=by
 have hsz:=JD (w:=w) h.el
 rw [h.sz] at hsz
 have hr:∀(k:Nat) (c:AV) (u:Value), [AV.v (.int .i64 a.1), .v (.int .i64 a.2)][k]? =some c→ [Value.int .i64 a.1, .int .i64 a.2][k]? =some u→Rep w (fun _ _=> False) [] c u:=fun k c u hc hu=> by
  match k,hc,hu with
  | 0,hc,hu=> simp at hc hu;subst hc;subst hu;exact .v _
  | 1,hc,hu=> simp at hc hu;subst hc;subst hu;exact .v _
 obtain ⟨u0,q0,r0⟩:=JbY (vs:= [Value.int .i64 a.1, .int .i64 a.2]) (h.p0 a) rfl hr
 obtain ⟨u1,q1,r1⟩:=JbY (vs:= [Value.int .i64 a.1, .int .i64 a.2]) (h.p1 a) rfl hr
 have:=JI r0;subst this
 have:=JI r1;subst this
 obtain ⟨n,hn⟩:∃n,10000=n+1+1:=⟨9998,rfl⟩
 rw [hn]
 unfold Jbx Instr.checkKey
 simp only [Sem.run_bind,run_underlying h.arr,Result.andThen_ok]
 simp only [Std.Legacy.Range.forIn_eq_forIn_range',Std.Legacy.Range.size,Nat.sub_zero,Nat.add_sub_cancel,Nat.div_one,List.range'_succ,List.range'_zero,List.forIn_cons,List.forIn_nil]
 simp [Sem.run_bind,hsz,q0,q1,h.checkI]
theorem PairT.ask {kt e:TypeId} (h:PairT P kt e) (x:Int×Int) (w:World):∀(es:List (Int×Int)) (ents:List MapEntry) (i:Nat),ents.length=es.length→(∀(k:Nat) (p:Int×Int) (en:MapEntry),es[k]? =some p→ents[k]? =some en→en.key=Jbx p)→
 (x∉es∧(Instr.findAsking kt (Jbx x) ents i).run P w= .ok none w)∨∃j en,ents[j]? =some en∧es[j]? =some x∧(Instr.findAsking kt (Jbx x) ents i).run P w= .ok (some (i+j,en.val)) w
 | [], [],i,_,_=> .inl ⟨by simp,by simp [Instr.findAsking]⟩
 | [],en::ents,i,hn,_=> by simp at hn
 | p::es, [],i,hn,_=> by simp at hn
 | p::es,en::ents,i,hn,hk=> by
   have h0:=hk 0 p en rfl rfl
   unfold Instr.findAsking
   rw [h0]
   simp only [Sem.run_bind,h.equal,Result.andThen_ok]
   by_cases hx:x=p
   ·refine .inr ⟨0,en,rfl,by simp [hx], ?_⟩
    simp [hx]
   ·rcases h.ask x w es ents (i+1) (by simpa using hn) (fun k p' e' h1 h2=> hk (k+1) p' e' (by simpa using h1) (by simpa using h2)) with ⟨h1,h2⟩ | ⟨j,e',h1,h2,h3⟩
    ·refine .inl ⟨by simp [hx,h1], ?_⟩
     simp [hx,h2]
    ·refine .inr ⟨j+1,e',by simpa using h1,by simpa using h2, ?_⟩
     simp [hx,h3];omega
theorem PairT.find {kt e:TypeId} (h:PairT P kt e) (x:Int×Int) (w:World) (es:List (Int×Int)) (ents:List MapEntry) (hn:ents.length=es.length) (hk:∀(k:Nat) (p:Int×Int) (en:MapEntry),es[k]? =some p→ents[k]? =some en→en.key=Jbx p):
 (x∉es∧(Instr.findKey kt (Jbx x) ents).run P w= .ok none w)∨∃j en,ents[j]? =some en∧es[j]? =some x∧(Instr.findKey kt (Jbx x) ents).run P w= .ok (some (j,en.val)) w:=by
 unfold Instr.findKey
 match es,ents,hn,hk with
 | [], [],_,_=> exact .inl ⟨by simp,by simp [Sem.run_bind,run_underlying h.arr,Instr.findNow]⟩
 | p::es,en::ents,hn,hk=>
   have e0:Instr.findNow (.array 2 e) (Jbx x) (en::ents) 0=none:=by simp [Instr.findNow,Instr.sameNow]
   rcases h.ask x w (p::es) (en::ents) 0 hn hk with ⟨h1,h2⟩ | ⟨j,e',h1,h2,h3⟩
   ·exact .inl ⟨h1,by simp only [Sem.run_bind,run_underlying h.arr,Result.andThen_ok,e0,h2]⟩
   ·refine .inr ⟨j,e',h1,h2, ?_⟩
    simp only [Sem.run_bind,run_underlying h.arr,Result.andThen_ok,e0,h3,Nat.zero_add]
theorem Jom {o:Oper} {t kt e et:TypeId} {m k:Operand} {x:Int×Int} {i:Id} {es:List (Int×Int)} {E:Env} {K:Env→Prop} {Kp:AV→Env→Prop} (ho:o.op= .lookup t m k false) (ht:P.underlying t=some (.map kt et)) (hp:PairT P kt e)
 (hz:(P.info? et).bind (·.zero)=some (.bool false)) (hm:E.ev m= .om i) (hkv:E.ev k=kA x) (hes:JY i.1 E.h.bx=some (i.2, .mp (es.map Jai))) (hK:K (E.set o.dst (.v (.bool (decide (x∈es)))))):AOp P o E K Kp:=by
 refine AOp.of_yields (r:= .v (.bool (decide (x∈es)))) ⟨(by rw [ho];intro c hc;cases hc),fun ρ w X g hk hr=> .inl ?_⟩ hK
 have r1:=hr m (by rw [ho];simp [Op.operands])
 have r2:=hr k (by rw [ho];simp [Op.operands])
 rw [hm] at r1;rw [hkv] at r2
 have e2:=Jrq r2
 obtain ⟨b,hgb,hown⟩:=hk.bx _ (Jah hes)
 dsimp only at hgb hown
 obtain ⟨ents,h1,h2,h3⟩:=hown
 have hmv:ρ m= .map (some b):=by
  generalize ρ m=u at r1
  cases r1 with
  | om _ b' hg'=> rw [hgb] at hg';cases hg';rfl
 rw [List.length_map] at h2
 have hkk:∀(k:Nat) (p:Int×Int) (en:MapEntry),es[k]? =some p→ents[k]? =some en→en.key=Jbx p:=fun k p en q1 q2=> (h3 k (Jai p) en (by simp [q1]) q2).1
 have hg:=JbZ (P:=P) h1
 refine ⟨.bool (decide (x∈es)),w, ?_,Evo.refl _ _, .v _⟩
 unfold execOp
 simp only [ho,hmv,e2]
 refine Ja7 ?_
 unfold Instr.lookup
 simp only [Sem.run_bind,run_underlying ht,Result.andThen_ok,hg,Sem.run_pure,hp.check]
 rcases hp.find x w es ents h2 hkk with ⟨hn,hf⟩ | ⟨j,en,q1,q2,hf⟩
 ·have hzz:=JaQ (w:=w) hz
  simp only [hf,Result.andThen_ok,Sem.run_pure]
  simp [hn,Sem.run_bind,hzz]
 ·have hv:=JI (h3 j (Jai x) en (by simp [q2]) q1).2.2
  simp only [hf,Result.andThen_ok,Sem.run_pure]
  simp [hv,List.mem_of_getElem? q2]
def JcG (x:Int×Int) (es:List (Int×Int)):List (Int×Int):=if x∈es then es else es++ [x]
theorem Jkq {t kt e et:TypeId} {x:Int×Int} {es:List (Int×Int)} {w:World} {X:Nat→Nat→Prop} {g:List Nat} {b:Nat} (ht:P.underlying t=some (.map kt et)) (hp:PairT P kt e) (hb:OwnRep w X g b (.mp (es.map Jai))):
 ∃ents':List MapEntry,(Instr.mapUpdate t (.map (some b)) (Jbx x) (.bool true)).run P w= .ok () (World.setO w b (.map ents'.toArray ents'.length))∧ents'.length=((JcG x es).map Jai).length∧
  ∀(k:Nat) (p:Value×AV) (en:MapEntry),((JcG x es).map Jai)[k]? =some p→ents'[k]? =some en→en.key=p.1∧en.born=k∧Rep w X g p.2 en.val:=by
 obtain ⟨ents,h1,h2,h3⟩:=hb
 rw [List.length_map] at h2
 have hkk:∀(k:Nat) (p:Int×Int) (en:MapEntry),es[k]? =some p→ents[k]? =some en→en.key=Jbx p:=fun k p en q1 q2=> (h3 k (Jai p) en (by simp [q1]) q2).1
 have hg:=JbZ (P:=P) h1
 rcases hp.find x w es ents h2 hkk with ⟨hn,hf⟩ | ⟨j,e0,q1,q2,hf⟩
 ·refine ⟨ents++ [⟨Jbx x, .bool true,ents.length⟩], ?_,by unfold JcG;rw [if_neg hn];simp [h2],fun k p en r1 r2=> ?_⟩
  ·unfold Instr.mapUpdate
   simp only [Sem.run_bind,run_underlying ht,Result.andThen_ok,hg,hp.check,hf]
   rw [Jbz h1]
   simp
  ·unfold JcG at r1
   rw [if_neg hn,List.map_append] at r1
   rcases Nat.lt_or_ge k es.length with hlt | hge
   ·rw [List.getElem?_append_left (by simpa using hlt)] at r1
    rw [List.getElem?_append_left Om] at r2
    exact h3 k p en r1 r2
   ·rw [List.getElem?_append_right (by simpa using hge)] at r1
    rw [List.getElem?_append_right Om] at r2
    have:k=es.length:=by
     have:=(List.getElem?_eq_some_iff.1 r1).1;simp at this;omega
    subst this
    rw [List.length_map,Nat.sub_self] at r1
    rw [h2,Nat.sub_self] at r2
    simp at r1 r2
    subst r1;subst r2
    exact ⟨rfl,rfl, .v _⟩
 ·have hj:j < ents.length:=(List.getElem?_eq_some_iff.1 q1).1
  have hje:ents[j]=e0:=(List.getElem?_eq_some_iff.1 q1).2
  have h0:=h3 j (Jai x) e0 (by simp [q2]) q1
  have hv:=JI h0.2.2
  have hkey:e0.key=Jbx x:=h0.1
  have hmem:x∈es:=List.mem_of_getElem? q2
  refine ⟨ents.set j ⟨Jbx x, .bool true,e0.born⟩, ?_,by unfold JcG;rw [if_pos hmem];simp [h2],fun k p en r1 r2=> ?_⟩
  ·unfold Instr.mapUpdate
   simp only [Sem.run_bind,run_underlying ht,Result.andThen_ok,hg,hp.check,hf]
   have hks:(Instr.keyThatStays (((ents.toArray[j]?).map (·.key)).getD (Jbx x)) (Jbx x)).run P w= .ok (Jbx x) w:=by
    have hsb:Instr.sameBits 10000 (Jbx x) (Jbx x)=true:=by
     obtain ⟨n,hn⟩:∃n,10000=n+1:=⟨9999,rfl⟩
     rw [hn];simp [Jbx,Instr.sameBits]
    simp [q1,hkey,Instr.keyThatStays,hsb]
   simp only [hks,Result.andThen_ok]
   rw [Jbz h1]
   congr 2
   simp only [List.length_set]
   congr 1
   apply Array.ext'
   simp only [Array.toList_modify,List.modify_eq_set,Option.map_eq_map]
   rw [List.getElem?_eq_getElem hj]
   simp [hje]
  ·unfold JcG at r1
   rw [if_pos hmem] at r1
   rw [List.getElem?_set] at r2
   by_cases hjk:j=k
   ·subst hjk
    simp [hj] at r2
    subst r2
    have e1:=h3 j p e0 r1 q1
    exact ⟨hkey.symm.trans e1.1,e1.2.1,by
     have:p=Jai x:=by rw [List.getElem?_map,q2] at r1;exact (Option.some.inj r1).symm
     subst this;exact .v _⟩
   ·simp [hjk] at r2
    exact h3 k p en r1 r2
theorem Jon {o:Oper} {t kt e et:TypeId} {m k v:Operand} {x:Int×Int} {i:Id} {es:List (Int×Int)} {E:Env} {K:Env→Prop} (ho:o.op= .mapUpdate t m k v∨o.op= .insert t m k v) (ht:P.underlying t=some (.map kt et)) (hp:PairT P kt e)
 (hm:E.ev m= .om i) (hkv:E.ev k=kA x) (hv:E.ev v= .v (.bool true)) (hes:JY i.1 E.h.bx=some (i.2, .mp (es.map Jai)))
 (hK:K (({ E with h:= { E.h with bx:=Jan i.1 (.mp ((JcG x es).map Jai)) E.h.bx}}:Env).set o.dst .any)):AOp P o E K:=by
 intro ro X M w0 a w g hs next Q hn hp'
 obtain ⟨b,hgb,hown⟩:=hs.hok.bx _ (Jah hes)
 dsimp only at hgb hown
 have hmv:a.eval m= .map (some b):=by
  have:=hs.ev m
  rw [hm] at this
  generalize a.eval m=u at this
  cases this with
  | om _ b' hg'=> rw [hgb] at hg';cases hg';rfl
 have hkv':a.eval k=Jbx x:=by
  have:=hs.ev k
  rw [hkv] at this
  exact Jrq this
 have hvv:a.eval v= .bool true:=by
  have:=hs.ev v
  rw [hv] at this
  exact JI this
 obtain ⟨ents',h1,h2,h3⟩:=Jkq (x:=x) ht hp hown
 obtain ⟨ents,hb0,_⟩:=hown
 have hev:=Jcu (o':= .map ents'.toArray ents'.length) hb0 rfl (fun h=> by cases h)
 have hnew:=hs.setOwn (x:= .mp ((JcG x es).map Jai)) hes hgb hev (fun hst=> ⟨ents',Jb0 hb0,h2,fun k p e q1 q2=> ⟨(h3 k p e q1 q2).1,(h3 k p e q1 q2).2.1,(h3 k p e q1 q2).2.2.stays hst⟩⟩)
 refine JG (by intro c h;rcases ho with ho | ho <;> (rw [ho] at h;cases h)) ?_
 have:(execOp a.eval o).run P w= .ok .skip (World.setO w b (.map ents'.toArray ents'.length)):=by
  unfold execOp
  rcases ho with ho | ho <;> (simp only [ho,hmv,hkv',hvv,Sem.run_bind,h1,Result.andThen_ok,Sem.run_pure])
 rw [this]
 exact hn _ _ _ g hK (fun _ _ h=> h) (hnew.put o.dst (.any _))
end Go.Vl

namespace Go.Vl
variable {P:Program}
theorem JwP {ops:Array Oper} {B:List (Id×Own)} {o:Oper} {E:Env} {j:Nat} {want c:Bool} {fo:Operand} {args:Array Operand} {tys:Array TypeId} {f:FuncId} {first caps qs:List AV} {s:AV} (hg:o.guard=some (j,want)) (hd:agb (agd ops E j)=some (some c)) (hw:(c ==want)=true)
 (ho:o.op= .call { callee:= .value fo,args:=args,argTypes:=tys}) (hf:E.ev fo= .fn (.func f) first caps)
 (hc:Tells P f qs s) (hl:LeL (first++args.toList.map E.ev++caps) qs) (hid:NoId s):PureAll P ops B o E s:=fun E' _ ht=> by
 unfold GY
 simp only [hg]
 refine ⟨some c,Jhg hg ht hd, .inl ⟨by rw [beq_iff_eq.1 hw], ?_⟩⟩
 have hev:=JaM ht
 refine JaL ho (by rw [hev fo (by rw [ho];simp [Op.operands,Call.operands])];exact hf) hc ?_ hid
 rw [Jd3 fun x hm=> hev x (by rw [ho];simp only [Op.operands,Call.operands];exact Array.mem_append_right _ (Array.mem_toList_iff.1 hm))]
 exact hl
theorem Jlg {ops:Array Oper} {B:List (Id×Own)} {o:Oper} {E:Env} {j:Nat} {want c b b':Bool} {C:Option Prop} (hg:o.guard=some (j,want)) (hd:agb (agd ops E j)=some (some c)) (hc:(c ==want)=true)
 (hp:Jau P o.op { E with h:=⟨B, [],0,0⟩}=some (C, .v (.bool b))) (hC:J4 C) (hb:b=b'):PureAll P ops B o E (.v (.bool b')):=hb ▸ JdT hg hd hc hp hC
theorem JwQ {ops:Array Oper} {B:List (Id×Own)} {o:Oper} {E:Env} {b b':Bool} {C:Option Prop} (hg:o.guard=none)
 (hp:Jau P o.op { E with h:=⟨B, [],0,0⟩}=some (C, .v (.bool b))) (hC:J4 C) (hb:b=b'):PureAll P ops B o E (.v (.bool b')):=hb ▸ Jec hg hp hC
end Go.Vl

/- Regions that draw, with two effects that stand in no order: one of them hangs on nothing, and nothing hangs on it. -/
namespace Go.Vl
open Go.RowKit
variable {P:Program}
theorem MixL.mono {ops:Array Oper} {B:List (Id×Own)} {eff:Nat→Bool} {K K':Env→Prop}:∀ {L:List Nat} {E:Env},(∀E,K E→K' E)→MixL P ops B eff L E K→MixL P ops B eff L E K'
 | [],E,hk,h=> hk E h
 | i::l,E,hk,h=> by
   obtain ⟨o,h1,h2⟩:=h
   refine ⟨o,h1, ?_⟩
   cases he:eff i with
   | true=>
     simp only [he] at h2⊢
     obtain ⟨R,q1,q2⟩:=h2
     exact ⟨R,q1,fun r h' hr=> MixL.mono hk (q2 r h' hr)⟩
   | false=>
     simp only [he] at h2⊢
     obtain ⟨r,q1,q2⟩:=h2
     exact ⟨r,q1,MixL.mono hk q2⟩
theorem MixL.app {ops:Array Oper} {B:List (Id×Own)} {eff:Nat→Bool} {K:Env→Prop} {L2:List Nat}:∀ {L:List Nat} {E:Env},MixL P ops B eff L E (fun E'=> MixL P ops B eff L2 E' K)→MixL P ops B eff (L++L2) E K
 | [],E,h=> h
 | i::l,E,h=> by
   obtain ⟨o,h1,h2⟩:=h
   refine ⟨o,h1, ?_⟩
   cases he:eff i with
   | true=>
     simp only [he] at h2⊢
     obtain ⟨R,q1,q2⟩:=h2
     exact ⟨R,q1,fun r h' hr=> MixL.app (q2 r h' hr)⟩
   | false=>
     simp only [he] at h2⊢
     obtain ⟨r,q1,q2⟩:=h2
     exact ⟨r,q1,MixL.app q2⟩
theorem Juq {ops:Array Oper} {m:Nat} {B:List (Id×Own)} {eff:Nat→Bool} {Q:Exit→Act→World→Prop} (hk:OrdOk ops m) (hm:m≤ops.size)
 {ro:Option Nat} {X M:Nat→Nat→Prop} {w0:World} {g0:List Nat} {K:Env→Prop} {a0 c0:Nat} {rest:List Nat} (hea:eff a0=true) (hec:eff c0=true) (hac:a0≠c0) (ham:a0 < m)
 (hself0:∀oi,ops[a0]? =some oi→∀e∈oi.after,Region.binds .any e=true→e.on≠a0)
 (hna:∀i,i≠a0→i < m→∀oi,ops[i]? =some oi→∀e∈oi.after,Region.binds .any e=true→e.on≠a0)
 (hq:∀E a w g,K E→(∀(i b:Nat),g0[i]? =some b→g[i]? =some b)→St ro X M w0 E a w g→wpOpsIn (Fr ro) 0 P ops Q (List.range' m (ops.size - m)) a w):
 ∀(n:Nat) (pre:List Nat) (listed:Array Bool) (E:Env) (a:Act) (w:World) (g:List Nat),pre.length+rest.length+2=n→(pre++c0::rest).Pairwise (Jds ops eff)→(pre++(rest++ [a0])).Pairwise (Jds ops eff)→(∀i∈pre++c0::rest,i < m)→(a0∉pre++c0::rest)→
  (∀i∈pre++c0::rest,∀oi,ops[i]? =some oi→∀e∈oi.after,Region.binds .any e=true→e.on≠i)→listed.size=ops.size→DC ops listed→
 (∀i,i < ops.size→(listed.getD i true=false↔(i=a0∨i∈pre++c0::rest)∨m≤i))→(∀i∈pre,eff i=false)→
 MixL P ops B eff pre E (fun E'=> MixL P ops B eff (a0::c0::rest) E' K∧MixL P ops B eff (c0::(rest++ [a0])) E' K)→HB B E.h.bx→(∀(i b:Nat),g0[i]? =some b→g[i]? =some b)→St ro X M w0 E a w g→wpAnyIn (Fr ro) 0 P .any ops Q (n+(ops.size - m)) listed a w:=by
 intro n
 induction n with
 | zero=> intro pre _ _ _ _ _ hl;omega
 | succ n ih=>
   intro pre listed E a w g hl hpw hpc hlt hnm hself hsz hd hun hpe hrun hB hg hs
   rw [Nat.add_right_comm]
   obtain ⟨k,L',hkL⟩:∃k L',pre++c0::rest=k::L':=by
    cases pre with
    | nil=> exact ⟨_,_,rfl⟩
    | cons k l=> exact ⟨_,_,rfl⟩
   have hkmem:k∈pre++c0::rest:=by rw [hkL];simp
   have hkm:k < m:=hlt k hkmem
   have hka:k≠a0:=fun e=> hnm (e ▸ hkmem)
   have hklt:k < ops.size:=by omega
   have hko:ops[k]? =some ops[k]:=Array.getElem?_eq_getElem hklt
   have hpk:=hpw
   rw [hkL] at hpk
   have hkr:k∈Region.ready .any ops listed:=by
    refine JJ.2 ⟨(hun k hklt).2 (.inl (.inr hkmem)),_,hko,fun e he hb=> ?_⟩
    have hb':=hk.back k _ hko e he hb
    rw [JO Om]
    cases hl:listed.getD e.on true with
    | true=> simpa using hl
    | false=>
      rcases (hun e.on Om).1 hl with (h' | h') | h'
      ·exact absurd h' (hna k hka hkm _ hko e he hb)
      ·rw [hkL] at h'
       rcases List.mem_cons.1 h' with h' | h'
       ·exact absurd h' (hself k hkmem _ hko e he hb)
       · exact absurd rfl (((List.pairwise_cons.1 hpk).1 _ h').2 _ _ hko (Array.getElem?_eq_getElem Om) |>.1 e he hb)
      ·omega
   refine ⟨fun h0=> (by rw [h0] at hkr;cases hkr),fun j hj=> ?_⟩
   obtain ⟨h1,oj,hoj,h2⟩:=JJ.1 hj
   have hjlt:=(Array.getElem?_eq_some_iff.1 hoj).1
   have hjL:j=a0∨j∈pre++c0::rest:=by
    rcases (hun j hjlt).1 h1 with h' | h'
    ·exact h'
    ·have hb:=hk.tail k j oj hoj h' Om
     have:=J3 hd hsz hoj h2 hb
     have h3:=(hun k Om).2 (.inl (.inr hkmem))
     rw [JO Om] at this
     simp [h3] at this
   have hnb:∀i,(i=a0∨i∈pre++c0::rest)→((Region.before ops).getD j 0).testBit i=true→False:=fun i hi hb=> by
    have hilt:i < ops.size:=by
     rcases hi with rfl | hi
     ·omega
     ·have:=hlt i hi;omega
    have:=J3 hd hsz hoj h2 hb
    have h3:=(hun i hilt).2 (.inl hi)
    rw [JO Om] at this
    simp [h3] at this
   have JcC:∀(L2:List Nat),(∀i,i < ops.size→i≠j→(((i=a0∨i∈pre++c0::rest)∨m≤i)↔(i∈L2∨m≤i)))→j∉L2→j < m→∀i,i < ops.size→((listed.setIfInBounds j true).getD i true=false↔i∈L2∨m≤i):=fun L2 hL hj2 hjm i hi=> by
    rw [JaO Om]
    by_cases hij:i=j
    ·subst hij
     simp only [if_true]
     constructor
     ·intro h;cases h
     ·intro h
      exfalso
      rcases h with h | h
      ·exact hj2 h
      ·omega
    ·rw [if_neg hij,hun i hi]
     exact hL i hi hij
   have heffect:∀(L2:List Nat),L2.length=n→L2.Pairwise (Jds ops eff)→(∀i∈L2,i < m)→(∀i∈L2,∀oi,ops[i]? =some oi→∀e∈oi.after,Region.binds .any e=true→e.on≠i)→(∀i,i < ops.size→i≠j→(((i=a0∨i∈pre++c0::rest)∨m≤i)↔(i∈L2∨m≤i)))→j∉L2→j < m→eff j=true→MixL P ops B eff (j::L2) E K→wpOpIn (Fr ro) 0 P ops Q j (wpAnyIn (Fr ro) 0 P Region.Mode.any ops Q (n+(ops.size - m)) (listed.setIfInBounds j true)) a w:=fun L2 e1 e2 e3 e4 e5 e6 e7 e8 e9=> by
    obtain ⟨o,ho,hrun'⟩:=e9
    rw [hoj] at ho
    cases ho
    simp only [e8] at hrun'
    obtain ⟨R,⟨q0,q1⟩,q2⟩:=hrun'
    unfold wpOpIn
    simp only [hoj,Region.wanted,q0,if_true]
    exact q1 E rfl (fun _ _=> rfl) ro X M w0 a w g hs _ _ (fun E' a' w' g' hE hgg hs'=> by
     obtain ⟨r,h',p1,p2,rfl⟩:=hE
     exact JhV hk hm hq n L2 _ _ a' w' g' e1 e2 e3 e4 (by simp [hsz]) (hd.set hsz hk hj) (JcC L2 e5 e6 e7) (q2 r h' p1) (by rw [Env.set_h];exact p2) (fun i b hi=> hgg i b (hg i b hi)) hs') (fun x E' a' w' g' v hk'=> hk'.elim)
   rcases hjL with rfl | hjL
   ·have h5:=List.pairwise_append.1 hpc
    obtain h6:=MixL.front hoj pre (c0::rest) E (fun i hi=> by
     obtain ⟨_,hp⟩:=h5.2.2 i hi j (by simp)
     have hilt:i < ops.size:=by have:=hlt i (by simp [hi]);omega
     rcases (hp _ _ (Array.getElem?_eq_getElem hilt) hoj).2 with hb | ⟨hb,hb'⟩
     ·exact (hnb i (.inr (by simp [hi])) hb).elim
     ·exact ⟨hb,fun oi hoi=> by rw [Array.getElem?_eq_getElem hilt] at hoi;cases hoi;exact hb'⟩) (MixL.app (MixL.mono (fun _ h=> h.1) hrun))
    exact heffect (pre++c0::rest) (by simp;omega) hpw hlt hself (fun i _ hij=> by simp [hij]) hnm ham hea h6
   ·have hjm:=hlt j hjL
    have hja:j≠a0:=fun e=> hnm (e ▸ hjL)
    rcases List.mem_append.1 hjL with hjp | hjp
    ·obtain ⟨l1,l2,rfl⟩:=List.append_of_mem hjp
     have hej:=hpe j hjp
     have hpw':(l1++j::(l2++c0::rest)).Pairwise (Jds ops eff):=by simpa using hpw
     have hl1:∀i∈l1,Jds ops eff i j:=fun i hi=> (List.pairwise_append.1 hpw').2.2 i hi j (by simp)
     obtain ⟨o,ho,hrun'⟩:=MixL.front hoj l1 l2 E (fun i hi=> by
      have hilt:i < ops.size:=by have:=hlt i (by simp [hi]);omega
      rcases ((hl1 i hi).2 _ _ (Array.getElem?_eq_getElem hilt) hoj).2 with hb | ⟨hb,hb'⟩
      ·exact (hnb i (.inr (by simp [hi])) hb).elim
      ·exact ⟨hb,fun oi hoi=> by rw [Array.getElem?_eq_getElem hilt] at hoi;cases hoi;exact hb'⟩) hrun
     rw [hoj] at ho
     cases ho
     simp only [hej] at hrun'
     obtain ⟨r,q1,q2⟩:=hrun'
     have hsub:(l1++l2++c0::rest).Sublist (l1++j::l2++c0::rest):=by simp [List.Sublist.append_left]
     have hsub2:(l1++l2++(rest++ [a0])).Sublist (l1++j::l2++(rest++ [a0])):=by simp
     have hnj:j∉l1++l2++c0::rest:=fun h=> by
      have h5:=List.pairwise_append.1 hpw'
      rw [List.append_assoc] at h
      rcases List.mem_append.1 h with h | h
      ·exact (h5.2.2 j h j (by simp)).1 rfl
      ·exact ((List.pairwise_cons.1 h5.2.1).1 j h).1 rfl
     refine (q1 E hB fun _ _=> rfl).does hoj hs fun a' w' hs'=> ih (l1++l2) _ _ a' w' g (by simp at hl⊢;omega) (hpw.sublist hsub) (hpc.sublist hsub2) (fun i hi=> hlt i (hsub.subset hi)) (fun h=> hnm (hsub.subset h)) (fun i hi=> hself i (hsub.subset hi)) (by simp [hsz]) (hd.set hsz hk hj) (fun i hi=> ?_) (fun i hi=> hpe i (by rcases List.mem_append.1 hi with h | h <;> simp [h])) q2 (by rw [Env.set_h];exact hB) hg hs'
     have e:=JcC (a0::(l1++l2++c0::rest)) (fun i _ hij=> by simp [hij]) (by simp only [List.mem_cons,not_or];exact ⟨hja,hnj⟩) hjm i hi
     rw [e,List.mem_cons]
    ·rcases List.mem_cons.1 hjp with rfl | hjr
     ·have h6:=MixL.front hoj pre (rest++ [a0]) E (fun i hi=> by
       have hilt:i < ops.size:=by have:=hlt i (by simp [hi]);omega
       rcases (((List.pairwise_append.1 hpw).2.2 i hi j (by simp)).2 _ _ (Array.getElem?_eq_getElem hilt) hoj).2 with hb | ⟨hb,hb'⟩
       ·exact (hnb i (.inr (by simp [hi])) hb).elim
       ·exact ⟨hb,fun oi hoi=> by rw [Array.getElem?_eq_getElem hilt] at hoi;cases hoi;exact hb'⟩) (MixL.app (MixL.mono (fun _ h=> h.2) hrun))
      have h5:=List.pairwise_append.1 hpw
      refine heffect (pre++(rest++ [a0])) (by simp;omega) hpc (fun i hi=> ?_) (fun i hi=> ?_) (fun i _ hij=> by simp [hij,or_assoc,or_comm,or_left_comm]) (fun h=> ?_) hjm hec h6
      ·simp only [List.mem_append,List.mem_singleton] at hi
       rcases hi with hi | hi | rfl
       ·exact hlt i (by simp [hi])
       ·exact hlt i (by simp [hi])
       ·exact ham
      ·simp only [List.mem_append,List.mem_singleton] at hi
       rcases hi with hi | hi | rfl
       ·exact hself i (by simp [hi])
       ·exact hself i (by simp [hi])
       ·exact hself0
      ·simp only [List.mem_append,List.mem_singleton] at h
       rcases h with h | h | h
       ·exact (h5.2.2 j h j (by simp)).1 rfl
       ·exact ((List.pairwise_cons.1 h5.2.1).1 j h).1 rfl
       ·exact hja h
     ·exfalso
      have hp:=((List.pairwise_cons.1 (List.pairwise_append.1 hpw).2.1).1 j hjr).2 _ _ (Array.getElem?_eq_getElem (by have:=hlt c0 (by simp);omega)) hoj
      rcases hp.2 with hb | ⟨hb,_⟩
      ·exact hnb c0 (.inr (by simp)) hb
      ·rw [hec] at hb;cases hb
def Jub (ops:Array Oper) (m:Nat) (eff:Nat→Bool) (pre:List Nat) (a0 c0:Nat) (rest:List Nat):Bool:=
 let bf:=Region.before ops
 Nat.ble m ops.size&& (JbK ops m&& ((pre++c0::rest).all (fun i=> Nat.blt i m&& !Nat.beq i a0)&& ((List.range m).all (fun i=> Nat.beq i a0|| (pre++c0::rest).contains i)&& (ordM.go ops eff bf (pre++c0::rest)&& (ordM.go ops eff bf (pre++(rest++ [a0]))&&
  (eff a0&& (eff c0&& (Nat.blt a0 m&& (pre.all (fun i=> !eff i)&& ((List.range m).all (fun i=> Nat.beq i a0|| match ops[i]? with | some oi=> oi.after.toList.all fun e=> !Region.binds .any e|| !Nat.beq e.on a0 | none=> false)&& Nat.beq (pre.length+rest.length+2) m))))))))))
theorem JxM {id:Nat} {ops:Array Oper} {E:Env} {Q:AExit→Env→Prop} (m:Nat) (B:List (Id×Own)) (eff tl:Nat→Bool) (pre:List Nat) (a0 c0:Nat) (rest:List Nat) (hf:P.follows .mixedOrders=true) (hb:Jub ops m eff pre a0 c0 rest=true) (hB:HB B E.h.bx)
 (h:aN P ops B eff tl pre E fun E'=> aN P ops B eff tl (a0::c0::rest) E' (fun E'=> aK P ops (ops.toList.drop m) E' (Q .normal) (fun x E=> Q (.panic x) E))∧aN P ops B eff tl (c0::(rest++ [a0])) E' (fun E'=> aK P ops (ops.toList.drop m) E' (Q .normal) (fun x E=> Q (.panic x) E))):AW P (.region id ops true) E Q:=by
 simp only [Jub,Bool.and_eq_true,List.all_eq_true] at hb
 obtain ⟨h0,h00,h1,h2,h3,h3c,hea,hec,ha,hp,hn,hl⟩:=hb
 have hm:=Jb6 h0
 obtain ⟨h4,h5⟩:=Jet h3
 obtain ⟨h4c,h5c⟩:=Jet h3c
 have hlt:∀i∈pre++c0::rest,i < m:=fun i hi=> Jax (h1 i hi).1
 have hnm:a0∉pre++c0::rest:=fun hi=> JdH (h1 a0 hi).2 rfl
 have hall:∀i,i < m→i=a0∨i∈pre++c0::rest:=fun i hi=> by
  have:=h2 i (List.mem_range.2 hi)
  simpa using this
 have ham:a0 < m:=Jax ha
 have hac:a0≠c0:=fun e=> hnm (by simp [e])
 have hself0:=h5c a0 (by simp)
 have hpe:∀i∈pre,eff i=false:=fun i hi=> by simpa using hp i hi
 have hlen:pre.length+rest.length+2=m:=by simpa using hl
 have hna:∀i,i≠a0→i < m→∀oi,ops[i]? =some oi→∀e∈oi.after,Region.binds .any e=true→e.on≠a0:=fun i hne hi oi ho e he hb=> by
  have:=hn i (List.mem_range.2 hi)
  rw [ho] at this
  simp only [Bool.or_eq_true,List.all_eq_true] at this
  rcases this with h | h
  ·exact absurd (by simpa using h) hne
  ·have:=h e (Array.mem_toList_iff.2 he)
   simp only [hb,Bool.not_true,Bool.false_or] at this
   exact JdH (by simpa using this)
 unfold AW
 intro ro X M w0 a w g g0 hg hs
 refine wpIn_region_any hf ?_
 have hs':St ro X M w0 E a { w with drawn:=w.drawn+1} g:=hs.drew
 have key:=Juq (eff:=eff) (a0:=a0) (c0:=c0) (rest:=rest) (g0:=g0) (K:=fun E'=> aK P ops (ops.toList.drop m) E' (Q .normal) (fun x E=> Q (.panic x) E)) (Q:=Jcc ro X M w0 g0 Q) (P:=P) (X:=X) (M:=M) (w0:=w0) (ro:=ro) (B:=B) (JhL h00) hm hea hec hac ham hself0 hna (fun E' a' w' g' hk hg' hs''=> by
  have:=Jbv (P:=P) (ops:=ops) (K:=Q .normal) (X:=X) (M:=M) (w0:=w0) (g0:=g0) (Kp:=fun x E=> Q (.panic x) E) (ro:=ro) (Q:=Jcc ro X M w0 g0 Q) (fun E a w g hk hg hs=> ⟨.normal,E,g,hk,rfl,hg,hs⟩) (fun x E a w g v hk hg hs hr=> ⟨.panic x,E,g,hk,⟨v,rfl,hr⟩,hg,hs⟩) (ops.toList.drop m) m E' a' w' g' (fun j=> .inl (by simp)) hg' hs'' hk
  simpa using this) m pre (Array.replicate ops.size false) E a _ g hlen h4 h4c hlt hnm h5 (by simp) (fun k o ho hl=> by
  have hk:=(Array.getElem?_eq_some_iff.1 ho).1
  simp [Array.getD_eq_getD_getElem?,hk] at hl) (fun i hi=> by
  have:(Array.replicate ops.size false).getD i true=false:=by simp [Array.getD_eq_getD_getElem?,hi]
  simp only [this,true_iff]
  rcases Nat.lt_or_ge i m with h | h
  ·exact .inl (hall i h)
  ·exact .inr h) hpe (MixL.mono (fun _ q=> ⟨JcE q.1,JcE q.2⟩) (JcE h)) hB hg hs'
 have e:m+(ops.size - m)=ops.size:=by omega
 rw [e] at key
 exact key
end Go.Vl

namespace Go.Vl
open Go.RowKit
variable {P:Program}
def Jkr (P:Program) (it:FuncId) (first caps:List AV) {α:Type} (e:α→List AV) (xs:List α) (own:List (Id×Own)):Prop:=
 ∀(i:Id) (σ:Type) (Cb:σ→List (Id×Own)) (Cp:σ→List (Id×Nat)) (I:List α→σ→Prop),Jhd P i e xs Cb Cp I (fun _ _ _=> False)→
  ∀s0 nx nn,I [] s0→ECall P it (first++ [.yl i]++caps) ⟨own++Cb s0,Cp s0,nx,nn⟩ (fun _ h'=> ∃s',I xs s'∧h'.bx=Cb s'∧h'.pm=Cp s')
theorem JoT {gop:Operand} {ps:Array Tmp} {asg body:Code} {E:Env} {Q:AExit→Env→Prop} {it:FuncId} {first caps:List AV} {ds:List DA} {σ α:Type} {e:α→List AV} {xs:List α} {first' caps':List AV} (own:List (Id×Own))
 (Cb:σ→List (Id×Own)) (Cp:σ→List (Id×Nat)) (I:List α→σ→Prop) (s0:σ) (hd:E.df=some ds) (hf:E.ev gop= .fn (.func it) first caps) (hit:Jkr P it first' caps' e xs own) (hl1:LeL first first') (hl2:LeL caps caps')
 (hb:E.h.bx=own++Cb s0) (hp:E.h.pm=Cp s0) (h0:I [] s0) (hlen:∀x,(e x).length=ps.size)
 (hc:∀pre x post s nx nn,xs=pre++x::post→I pre s→AW P asg (Jbw E.n E.t ⟨((E.h.nn+1,E.h.nx+1), .lp .ready none E.n E.t ps asg body)::((E.h.nn,E.h.nx), .df)::Cb s,Cp s,nx,nn⟩ (ps.toList.zip (e x)).reverse)
   (Jki P (E.h.nn+1,E.h.nx+1) body (JhU (fun s=> ((E.h.nn+1,E.h.nx+1), .lp .ready none E.n E.t ps asg body)::((E.h.nn,E.h.nx), .df)::Cb s) Cp I (fun _ _ _=> False) pre x)))
 (hend:∀s' nx nn,I xs s'→Q .normal { E with h:=⟨((E.h.nn+1,E.h.nx+1), .lp .exhausted none E.n E.t ps asg body)::((E.h.nn,E.h.nx), .df)::Cb s',Cp s',nx,nn⟩,df:=some (.col (E.h.nn,E.h.nx)::ds)}):
 AW P (.rangeFunc gop ps asg body) E Q:=by
 refine JiN hd hf ?_
 have hcons:Jhd P (E.h.nn+1,E.h.nx+1) e xs (fun s=> ((E.h.nn+1,E.h.nx+1), .lp .ready none E.n E.t ps asg body)::((E.h.nn,E.h.nx), .df)::Cb s) Cp I (fun _ _ _=> False):=by
  intro pre x post s nx nn hx hI
  exact JeF (i:=(E.h.nn+1,E.h.nx+1)) (pd:=none) (n:=E.n) (t:=E.t) (ps:=ps) (asg:=asg) (body:=body) (by simp [JY]) (hlen x) (hc pre x post s nx nn hx hI)
 have h1:=hit (E.h.nn+1,E.h.nx+1) σ _ Cp I hcons s0 (E.h.nx+2) (E.h.nn+2) h0
 have hperm:(own++((E.h.nn+1,E.h.nx+1),Own.lp .ready none E.n E.t ps asg body)::((E.h.nn,E.h.nx), .df)::Cb s0).Perm (((E.h.nn+1,E.h.nx+1), .lp .ready none E.n E.t ps asg body)::((E.h.nn,E.h.nx), .df)::(own++Cb s0)):=
  List.perm_middle.trans (List.Perm.cons _ List.perm_middle)
 have e1:(E.h.addo .df).addo (.lp .ready none E.n E.t ps asg body)=⟨((E.h.nn+1,E.h.nx+1), .lp .ready none E.n E.t ps asg body)::((E.h.nn,E.h.nx), .df)::(own++Cb s0),Cp s0,E.h.nx+2,E.h.nn+2⟩:=by
  rw [← hb,← hp];rfl
 rw [e1]
 have hl:Like ⟨own++((E.h.nn+1,E.h.nx+1),Own.lp .ready none E.n E.t ps asg body)::((E.h.nn,E.h.nx), .df)::Cb s0,Cp s0,E.h.nx+2,E.h.nn+2⟩ ⟨((E.h.nn+1,E.h.nx+1), .lp .ready none E.n E.t ps asg body)::((E.h.nn,E.h.nx), .df)::(own++Cb s0),Cp s0,E.h.nx+2,E.h.nn+2⟩:=⟨hperm.symm.map _, .refl _,rfl⟩
 have h2:=ECall.like hl h1
 refine ((ECall.args (LeL.append (LeL.append hl1 (LeL.refl _)) hl2) h2)).mono fun r h' hq=> ?_
 obtain ⟨s',q1,q2,q3⟩:=hq
 obtain ⟨bx,pm,nx,nn⟩:=h'
 dsimp only at q2 q3
 subst q2;subst q3
 unfold Jdr
 simp only [JY,Nat.beq_refl,cond_true]
 refine ⟨trivial,(by intro h;cases h), ?_⟩
 simp only [Jan,Nat.beq_refl,cond_true]
 exact hend s' nx nn q1
theorem Jm7 {α:Type} (a b c:List α):(a++(b++c)).Perm (b++(a++c)):=by
 rw [← List.append_assoc,← List.append_assoc]
 exact List.perm_append_comm.append_right _
theorem Jlh {o:Oper} {E:Env} {K:Env→Prop} {Kp:AV→Env→Prop} {fo:Operand} {args:Array Operand} {tys:Array TypeId} {f:FuncId} {first caps xs:List AV} {h1:Heap} {Q:AV→Heap→Prop} {bx1:List (Id×Own)} {pm1:List (Id×Nat)}
 (rb1 rb2:List (Id×Own)) (rp:List (Id×Nat)) (nn:Nat) (ho:o.op= .call { callee:= .value fo,args:=args,argTypes:=tys}) (hf:E.ev fo= .fn (.func f) first caps) (hbx:E.h.bx=rb1++(bx1++rb2)) (hpm:E.h.pm=rp++pm1)
 (hl:LeL (first++args.toList.map E.ev++caps) xs) (hc:ECall P f xs h1 Q) (hbl:BxLe bx1 h1.bx) (hpe:PmEq pm1 h1.pm) (hn:h1.nx=E.h.nx)
 (hk:∀r h',Q r h'→K (({ E with h:=⟨rb1++(h'.bx++rb2),rp++h'.pm,h'.nx,nn⟩}:Env).set o.dst r)):AOp P o E K Kp:=by
 have h2:ECall P f xs ⟨bx1,pm1,h1.nx,h1.nn⟩ Q:=hc.tell hbl hpe rfl
 have h3:=(ECall.frame (h:=E.h) h2 (rb1++rb2) rp (by rw [hbx];exact Jm7 _ _ _) (by rw [hpm];exact List.perm_append_comm) hn).args hl
 refine Jdc ho hf h3 fun r h' hq=> ?_
 obtain ⟨h1',q1,rfl⟩:=hq
 exact ⟨r,⟨rb1++(h1'.bx++rb2),rp++h1'.pm,h1'.nx,nn⟩,Rf,⟨(Jm7 _ _ _).map _,List.perm_append_comm.map _,rfl⟩,hk r h1' q1⟩
end Go.Vl

namespace Go.Vl
open Go.RowKit
variable {P:Program}
section
variable {F:Fence} {n:Nat} {b:Frame} {a:Act} {k:List Item} {cs:List Frame} {w:World} {Q:Exit→Act→World→Prop}
theorem JcH {c:Code}:step P (lone (b.atR a (.code (.scope c)::k)) cs w)= .next (lone (b.atR a (.code c:: .inScope c::k)) cs w):=
 step_lone_go (by simp [stepG,stepG.exec,Frame.atR])
theorem Jks {c:Code}:step P (lone (b.atR a (.inScope c::k)) cs w)= .next (lone (b.atR a k) cs w):=
 step_lone_go (by simp [stepG,stepG.exec,Frame.atR])
theorem Joo {c:Code} (h:c.wpIn F n P (Exit.noGoto Q) a w):(Code.scope c).wpIn F n P Q a w:=by
 intro b k cs hro hb hr
 have h0:(lone (b.atR a (.code (.scope c)::k)) cs w).fenced P F:=fenced_calm hb hr rfl
 obtain ⟨e,a₁,w₁,hq,harr⟩:=h b (.inScope c::k) cs hro hb hr
 cases e with
 | normal=> exact ⟨.normal,a₁,w₁,hq, .head h0 JcH (StepsIn.trans harr (.one (fenced_calm hb hr rfl) Jks))⟩
 | exit id'=>
   have hx:exitTo id' (.inScope c::k)=exitTo id' k:=by simp [exitTo]
   exact ⟨.exit id',a₁,w₁,hq,fun k' hk=> .head h0 JcH (harr.1 k' (by rw [hx];exact hk)),
    fun hr' hk=> let ⟨k₁,h1,h2⟩:=harr.2 hr' (by rw [hx];exact hk);⟨k₁,h1, .head h0 JcH h2⟩⟩
 | goto l=> exact hq.elim
 | ret=> exact ⟨_,a₁,w₁,hq, .of_steps (.one h0 JcH) harr⟩
 | panic ch=> exact ⟨_,a₁,w₁,hq, .of_steps (.one h0 JcH) harr⟩
 | outgrown=> exact ⟨_,a₁,w₁,hq, .of_steps (.one h0 JcH) harr⟩
end
def Jvt (Q:AExit→Env→Prop):AExit→Env→Prop
 | .goto _,_=> False
 | e,E=> Q e E
theorem Jw7 {c:Code} {E:Env} {Q:AExit→Env→Prop} (h:AW P c E (Jvt Q)):AW P (.scope c) E Q:=by
 unfold AW
 intro r X M w0 a w g g0 hg hs
 unfold AW at h
 refine Joo (wpIn_mono (h r X M w0 a w g g0 hg hs) fun ex a' w' hq=> ?_)
 obtain ⟨ax,E',g',q,hx,hg',s⟩:=hq
 cases ax with
 | goto l=> exact q.elim
 | normal=> cases (hx:ex= .normal);exact ⟨.normal,E',g',q,rfl,hg',s⟩
 | ret=> cases (hx:ex= .ret);exact ⟨.ret,E',g',q,rfl,hg',s⟩
 | exit id=> cases (hx:ex= .exit id);exact ⟨.exit id,E',g',q,rfl,hg',s⟩
 | panic x=>
   obtain ⟨v,hv,hr⟩:=hx
   subst hv
   exact ⟨.panic x,E',g',q,⟨v,rfl,hr⟩,hg',s⟩
end Go.Vl

/- Functions of the shelf that write a row in a box of one's own, and that are given Juk values besides. -/
namespace Go.Vl
open Go.RowKit
variable {P:Program}
theorem Jtb {w:World} {X:Nat→Nat→Prop} {g:List Nat} {i:Id} {n cap b:Nat} {vs us:List Value} (hg:g[i.2]? =some b) (h3:us.length=(AV.hs i 0 n cap::vs.map AV.v).length)
 (h4:∀(k:Nat) (c:AV) (u:Value),(AV.hs i 0 n cap::vs.map AV.v)[k]? =some c→us[k]? =some u→Rep w X g c u):us= .slice (some ⟨b,0,none⟩) n cap::vs:=by
 match us,h3,h4 with
 | a::us,h3,h4=>
 have ha:=h4 0 _ a rfl rfl
 obtain rfl:us=vs:=Jkn (by simpa using h3) fun k c v hc hv=> h4 (k+1) c v (by simpa using hc) (by simpa using hv)
 cases ha with
 | hs _ _ _ _ b2 hg2=>
   rw [hg] at hg2
   cases hg2
   rfl
theorem Jli {α:Type} [Inhabited α] {f:FuncId} {enc:α→Value} {d d':Array α} {tl:List AV} {vs:List Value} {R:AV} {res:Nat→Value} {nm s cap nx nn:Nat} (hcb:JbL P f) (hd:d'.size=d.size)
 (hR:∀(w:World) (X:Nat→Nat→Prop) (g:List Nat) (b:Nat),g[s]? =some b→Rep w X g R (res b))
 (h:∀(w:World) (blk:Nat),Kn w none2→Sort.Holds enc w blk 0 d→blk < w.heap.size→Calls P f (.slice (some ⟨blk,0,none⟩) d.size cap::vs).toArray w fun e w'=> e= .returned (res blk)∧∃n os,w'=Sort.grow (Sort.putRow enc (Sort.ahead w n) blk 0 d') os):
 ECall P f (.hs (nm,s) 0 d.size cap::vs.map .v) ⟨[((nm,s), .c (d.toList.map (fun x=> .v (enc x))++tl))], [],nx,nn⟩
  fun r h'=> r=R∧h'=⟨[((nm,s), .c (d'.toList.map (fun x=> .v (enc x))++tl))], [],nx,nn⟩:=by
 refine ⟨hcb,fun X w g us h1 h2 h3 h4=> ?_⟩
 obtain ⟨b,hgb,vs0,ety,hblk,hsz,hrep⟩:=h1.bx _ (.head _)
 dsimp only at hgb
 obtain rfl:=Jtb hgb h3 h4
 have hbl:=JC hblk
 have hlen:d.size≤vs0.size:=by rw [hsz];simp
 have hH:Sort.Holds enc w b 0 d:=fun j hj=> by
  refine ⟨?_,by rw [JaG hblk];simp⟩
  have hj2:j < vs0.size:=by omega
  have:=hrep j (.v (enc d[j]!)) vs0[j] (by rw [List.getElem?_append_left (by simpa using hj)];simp [hj]) (Array.getElem?_eq_getElem hj2)
  generalize hv:vs0[j]=v at this
  cases this
  rw [Jw hblk,Nat.zero_add,Array.getElem?_eq_getElem hj2,hv]
 refine (JeE P f).mono (w0:=w) (g:=g) (R:=_) (h w b h1.kn.none hH hbl) fun e w' ⟨he,n,os,hw⟩=> ?_
 have hb':w'.heap[b]? =some (.cells (Sort.putCells enc 0 d' vs0) ety (0,0)):=by
  subst hw
  rw [Sort.heap_grow_old _ _ (by simpa [Sort.putRow,Sort.mapBlock,Sort.ahead] using hbl)]
  show (w.heap.modify b _)[b]? =_
  rw [Array.getElem?_modify,if_pos rfl,hblk]
  rfl
 have hoth:∀k,k < w.heap.size→k≠b→w'.heap[k]? =w.heap[k]? :=fun k hk hne=> by
  subst hw
  rw [Sort.heap_grow_old _ _ (by simpa [Sort.putRow,Sort.mapBlock,Sort.ahead] using hk)]
  show (w.heap.modify b _)[k]? =_
  rw [Array.getElem?_modify,if_neg (Ne.symm hne)]
 have hsize:w.heap.size≤w'.heap.size:=by
  subst hw
  simp [Sort.grow,Sort.putRow,Sort.mapBlock,Sort.ahead]
 have hM:∀b0 o,¬excl none2 g ⟨[((nm,s), .c (d.toList.map (fun x=> .v (enc x))++tl))], [],nx,nn⟩ b0 o→b0≠b:=fun b0 o hn hb0=> hn (.inr (.inl ⟨_, .head _,by rw [hb0];exact hgb⟩))
 have hev:Evo (excl none2 g ⟨[((nm,s), .c (d.toList.map (fun x=> .v (enc x))++tl))], [],nx,nn⟩) w w':=by
  refine ⟨by subst hw;rfl,by subst hw;rfl,by subst hw;rfl,hsize,fun b0 hb0 hn=> hoth b0 hb0 (hM b0 0 (hn 0)),fun b0 o hb0 hn=> World.cell?_of_block (a:=⟨b0,o,none⟩) (hoth b0 hb0 (hM b0 o hn)),fun b0 us0 e0 fz h0=> ?_,fun b0 l h0=> ?_⟩
  ·by_cases hb0:b0=b
   ·subst hb0
    rw [hblk] at h0
    cases h0
    exact ⟨_,hb',by simp [Sort.putCells]⟩
   ·exact ⟨us0,(hoth b0 (JC h0) hb0).trans h0,rfl⟩
  ·by_cases hb0:b0=b
   ·subst hb0
    rw [hblk] at h0
    cases h0
   ·exact ⟨l,(hoth b0 (JC h0) hb0).trans h0⟩
 have hstay:=hev.stays (X:=excl X g ⟨[((nm,s), .c (d.toList.map (fun x=> .v (enc x))++tl))], [],nx,nn⟩) (X':=excl X g ⟨[((nm,s), .c (d.toList.map (fun x=> .v (enc x))++tl))], [],nx,nn⟩) (g:=g) (g':=g)
  (fun b0 o _ hm=> hm.elim (fun h=> h.elim) .inr) (fun _ _ _ h=> h) (fun _ _ h=> h)
 refine ⟨.ret R,_,g,⟨_,he,hR _ _ _ _ hgb⟩,⟨rfl,rfl⟩,fun _ _ h=> h, ?_,fun b0 o hx i hi=> h2 b0 o hx i hi,hev,fun b0 o h _=> by simpa [excl] using h⟩
 have hX:excl X g ⟨[((nm,s), .c (d'.toList.map (fun x=> .v (enc x))++tl))], [],nx,nn⟩=excl X g ⟨[((nm,s), .c (d.toList.map (fun x=> .v (enc x))++tl))], [],nx,nn⟩:=by
  funext b0 o;exact propext (by simp [excl])
 rw [hX]
 refine ⟨fun p hp=> ?_,fun p hp=> (by cases hp),h1.nodup,h1.nx,fun b0 o hx=> ?_, ?_⟩
 ·obtain rfl:=List.mem_singleton.1 hp
  refine ⟨b,hgb,Sort.putCells enc 0 d' vs0,ety,hb',by simp [Sort.putCells,hsz,hd],fun k c u hk hku=> ?_⟩
  have hkv:k < vs0.size:=by have:=(Array.getElem?_eq_some_iff.1 hku).1;simpa [Sort.putCells] using this
  have hval:(Sort.putCells enc 0 d' vs0)[k]? =some (if 0≤k∧k < 0+d'.size then enc d'[k - 0]! else vs0[k]):=by simp [Sort.putCells,hkv]
  rw [hval] at hku
  by_cases hkd:k < d'.size
  ·rw [if_pos ⟨Nat.zero_le _,by omega⟩] at hku
   rw [List.getElem?_append_left (by simpa using hkd)] at hk
   simp [hkd] at hk hku
   subst hk;subst hku
   exact .v _
  ·rw [if_neg Om] at hku
   rw [List.getElem?_append_right (by simpa using Nat.le_of_not_lt hkd)] at hk
   refine (hrep k c u ?_ (by rw [Array.getElem?_eq_getElem hkv];exact hku)).stays hstay
   rw [List.getElem?_append_right (by simp;omega)]
   simpa [hd] using hk
 ·exact Nat.lt_of_lt_of_le (h1.bd b0 o hx) hsize
 ·exact h1.kn.stays hstay
end Go.Vl

/- Rows of structs in boxes of one's own, sorted by the shelf. -/
namespace Go.Vl
open Go.RowKit
variable {P:Program}
theorem JpK {f:FuncId} {N n cap nm s nx nn:Nat} {cs tl az:List AV} {vs:List Value} {R:AV} {res:Nat→Value} {Φ:List AV→Prop} (hcb:JbL P f) (hcs:cs.length=N)
 (ha:∀(w:World) (X:Nat→Nat→Prop) (g:List Nat) (us:List Value),us.length=az.length→(∀(k:Nat) (c:AV) (u:Value),az[k]? =some c→us[k]? =some u→Rep w X g c u)→us=vs)
 (hR:∀(w:World) (X:Nat→Nat→Prop) (g:List Nat) (b:Nat),g[s]? =some b→Rep w X g R (res b))
 (h:∀(w:World) (X:Nat→Nat→Prop) (g:List Nat) (blk:Nat) (us:List Value),us.length=N→(∀(k:Nat) (c:AV) (u:Value),cs[k]? =some c→us[k]? =some u→Rep w X g c u)→Sort.Holds id w blk 0 us.toArray→blk < w.heap.size→
   Calls P f (.slice (some ⟨blk,0,none⟩) n cap::vs).toArray w fun e w'=> e= .returned (res blk)∧∃(us':List Value) (cs':List AV) (m:Nat) (os:Array Obj),us'.length=N∧cs'.length=N∧Φ cs'∧(∀(k:Nat) (c:AV) (u:Value),cs'[k]? =some c→us'[k]? =some u→Rep w X g c u)∧w'=Sort.grow (Sort.putRow id (Sort.ahead w m) blk 0 us'.toArray) os):
 ECall P f (.hs (nm,s) 0 n cap::az) ⟨[((nm,s), .c (cs++tl))], [],nx,nn⟩
  fun r h'=> r=R∧∃cs',Φ cs'∧h'=⟨[((nm,s), .c (cs'++tl))], [],nx,nn⟩:=by
 refine ⟨hcb,fun X w g us h1 h2 h3 h4=> ?_⟩
 obtain ⟨b,hgb,vs0,ety,hblk,hsz,hrep⟩:=h1.bx _ (.head _)
 dsimp only at hgb
 match us,h3,h4 with
 | a::us,h3,h4=>
 have hva:=h4 0 _ a rfl rfl
 obtain rfl:us=vs:=ha w _ g us (by simpa using h3) fun k c v hc hv=> h4 (k+1) c v (by simpa using hc) (by simpa using hv)
 cases hva with
 | hs _ _ _ _ b2 hg2=>
 dsimp only at hg2
 rw [hgb] at hg2
 cases hg2
 have hbl:=JC hblk
 have hlen:N≤vs0.size:=by rw [hsz,List.length_append];omega
 have htl:(vs0.toList.take N).length=N:=by simp;omega
 have hH:Sort.Holds id w b 0 (vs0.toList.take N).toArray:=fun j hj=> by
  refine ⟨?_,by rw [JaG hblk];simp⟩
  have hjN:j < N:=by rw [List.size_toArray,htl] at hj;exact hj
  have hj2:j < vs0.size:=by omega
  rw [Jw hblk,Nat.zero_add,Array.getElem?_eq_getElem hj2]
  simp [hj2,hjN]
 have hr0:∀(k:Nat) (c:AV) (u:Value),cs[k]? =some c→(vs0.toList.take N)[k]? =some u→Rep w (excl X g ⟨[((nm,s), .c (cs++tl))], [],nx,nn⟩) g c u:=fun k c u hc hu=> by
  have hk:k < cs.length:=(List.getElem?_eq_some_iff.1 hc).1
  rw [List.getElem?_take,if_pos Om] at hu
  exact hrep k c u (by rw [List.getElem?_append_left hk];exact hc) (by simpa using hu)
 refine (JeE P f).mono (w0:=w) (g:=g) (R:=_) (h w _ g b _ htl hr0 hH hbl) fun e w' ⟨he,us',cs',n',os,hl1,hl2,hΦ,hr',hw⟩=> ?_
 have hb':w'.heap[b]? =some (.cells (Sort.putCells id 0 us'.toArray vs0) ety (0,0)):=by
  subst hw
  rw [Sort.heap_grow_old _ _ (by simpa [Sort.putRow,Sort.mapBlock,Sort.ahead] using hbl)]
  show (w.heap.modify b _)[b]? =_
  rw [Array.getElem?_modify,if_pos rfl,hblk]
  rfl
 have hoth:∀k,k < w.heap.size→k≠b→w'.heap[k]? =w.heap[k]? :=fun k hk hne=> by
  subst hw
  rw [Sort.heap_grow_old _ _ (by simpa [Sort.putRow,Sort.mapBlock,Sort.ahead] using hk)]
  show (w.heap.modify b _)[k]? =_
  rw [Array.getElem?_modify,if_neg (Ne.symm hne)]
 have hsize:w.heap.size≤w'.heap.size:=by
  subst hw
  simp [Sort.grow,Sort.putRow,Sort.mapBlock,Sort.ahead]
 have hM:∀b0 o,¬excl none2 g ⟨[((nm,s), .c (cs++tl))], [],nx,nn⟩ b0 o→b0≠b:=fun b0 o hn hb0=> hn (.inr (.inl ⟨_, .head _,by rw [hb0];exact hgb⟩))
 have hev:Evo (excl none2 g ⟨[((nm,s), .c (cs++tl))], [],nx,nn⟩) w w':=by
  refine ⟨by subst hw;rfl,by subst hw;rfl,by subst hw;rfl,hsize,fun b0 hb0 hn=> hoth b0 hb0 (hM b0 0 (hn 0)),fun b0 o hb0 hn=> World.cell?_of_block (a:=⟨b0,o,none⟩) (hoth b0 hb0 (hM b0 o hn)),fun b0 us0 e0 fz h0=> ?_,fun b0 l h0=> ?_⟩
  ·by_cases hb0:b0=b
   ·subst hb0
    rw [hblk] at h0
    cases h0
    exact ⟨_,hb',by simp [Sort.putCells]⟩
   ·exact ⟨us0,(hoth b0 (JC h0) hb0).trans h0,rfl⟩
  ·by_cases hb0:b0=b
   ·subst hb0
    rw [hblk] at h0
    cases h0
   ·exact ⟨l,(hoth b0 (JC h0) hb0).trans h0⟩
 have hstay:=hev.stays (X:=excl X g ⟨[((nm,s), .c (cs++tl))], [],nx,nn⟩) (X':=excl X g ⟨[((nm,s), .c (cs++tl))], [],nx,nn⟩) (g:=g) (g':=g)
  (fun b0 o _ hm=> hm.elim (fun h=> h.elim) .inr) (fun _ _ _ h=> h) (fun _ _ h=> h)
 refine ⟨.ret R,_,g,⟨_,he,hR _ _ _ _ hgb⟩,⟨rfl,cs',hΦ,rfl⟩,fun _ _ h=> h, ?_,fun b0 o hx i hi=> h2 b0 o hx i hi,hev,fun b0 o h _=> by simpa [excl] using h⟩
 have hX:excl X g ⟨[((nm,s), .c (cs'++tl))], [],nx,nn⟩=excl X g ⟨[((nm,s), .c (cs++tl))], [],nx,nn⟩:=by
  funext b0 o;exact propext (by simp [excl])
 rw [hX]
 refine ⟨fun p hp=> ?_,fun p hp=> (by cases hp),h1.nodup,h1.nx,fun b0 o hx=> ?_, ?_⟩
 ·obtain rfl:=List.mem_singleton.1 hp
  refine ⟨b,hgb,Sort.putCells id 0 us'.toArray vs0,ety,hb',by rw [List.length_append] at hsz;simp [Sort.putCells,hsz,hl2,hcs],fun k c u hk hku=> ?_⟩
  have hkv:k < vs0.size:=by have:=(Array.getElem?_eq_some_iff.1 hku).1;simpa [Sort.putCells] using this
  have hval:(Sort.putCells id 0 us'.toArray vs0)[k]? =some (if 0≤k∧k < 0+us'.toArray.size then id us'.toArray[k - 0]! else vs0[k]):=by simp [Sort.putCells,hkv]
  rw [hval] at hku
  by_cases hkd:k < N
  ·rw [if_pos ⟨Nat.zero_le _,by rw [List.size_toArray];omega⟩] at hku
   rw [List.getElem?_append_left Om] at hk
   refine (hr' k c u hk ?_).stays hstay
   have hkl:k < us'.length:=by omega
   simp [hkl] at hku
   rw [List.getElem?_eq_getElem hkl,hku]
  ·rw [if_neg (by rw [List.size_toArray];omega)] at hku
   rw [List.getElem?_append_right Om] at hk
   refine (hrep k c u ?_ (by rw [Array.getElem?_eq_getElem hkv];exact hku)).stays hstay
   rw [List.getElem?_append_right Om,hcs,← hl2]
   exact hk
 ·exact Nat.lt_of_lt_of_le (h1.bd b0 o hx) hsize
 ·exact h1.kn.stays hstay
end Go.Vl

/- Rows of structs (a number, and whatever else) in boxes of one's own, sorted by their numbers by the shelf's SortFunc. -/
namespace Go.Vl
open Go.RowKit
variable {P:Program}
structure KX where
 k:Nat
 a:AV
 u:Value
instance:Inhabited KX:=⟨⟨0, .any, .int .u32 0⟩⟩
def KX.enc (x:KX):List Value:= [.int .u32 x.k,if x.u.oneCell' then x.u else .int .u32 0]
def KX.cmp (x y:KX):Int:=Lib.compareInt x.k y.k
def Jt (D:List (Nat×AV)):List AV:=D.flatMap fun x=> [.v (.int .u32 x.1),x.2]
theorem KX.one (x:KX):∀v∈x.enc,v.oneCell'=true:=fun v hv=> by
 unfold KX.enc at hv
 simp only [List.mem_cons,List.mem_nil_iff,or_false] at hv
 rcases hv with rfl | rfl
 ·rfl
 ·split
  ·assumption
  ·rfl
theorem KX.lt (x y:KX):Go.Proofs.ltOf KX.cmp x y=decide (x.k < y.k):=by
 unfold Go.Proofs.ltOf KX.cmp Lib.compareInt
 by_cases h1:(x.k:Int) < y.k
 ·simp [h1];omega
 ·by_cases h2:(y.k:Int) < x.k <;> simp [h1,h2] <;> omega
theorem KX.swo:Sort.SWO (Go.Proofs.ltOf KX.cmp) where
 irrefl x:=by rw [KX.lt];simp
 trans x y z h1 h2 := by rw [KX.lt] at *; simp at *; omega
 ntrans x y z h1 h2 := by rw [KX.lt] at *; simp at *; omega
theorem Jbg (D:List (Nat×AV)):(Jt D).length=D.length * 2:=Jdh (E:=fun x:Nat×AV=> [.v (.int .u32 x.1),x.2]) (fun _=> rfl) D
theorem Jfe:∀(D:List (Nat×AV)) (t:Nat) (h:t / 2 < D.length),(Jt D)[t]? =some (if t % 2=0 then .v (.int .u32 D[t / 2].1) else D[t / 2].2)
 | [],t,h=> by simp at h
 | x::D,0,_=> rfl
 | x::D,1,_=> rfl
 | x::D,t+2,h=> by
   have h2:(t+2) / 2=t / 2+1:=by omega
   have ih:=Jfe D t (by rw [h2] at h;simpa using h)
   show (Jt D)[t]? =_
   rw [ih,show (t+2) % 2=t % 2 by omega]
   simp only [h2,List.getElem_cons_succ]
theorem Jrs (d:Array KX) (t:Nat) (h:t < d.size * 2):(Sort.flatK KX.enc 2 d)[t]! =if t % 2=0 then .int .u32 d[t / 2]!.k else if d[t / 2]!.u.oneCell' then d[t / 2]!.u else .int .u32 0:=by
 rw [Sort.get_flatK _ _ _ _ h]
 unfold KX.enc
 rcases Nat.mod_two_eq_zero_or_one t with h0 | h0 <;> rw [h0] <;> rfl
theorem Jis {f:FuncId} {g:Nat} {D:List (Nat×AV)} {tl:List AV} {nm s cap nx nn:Nat} (hcb:JbL P f) (hone:∀x∈D,JaW x.2=true)
 (h:∀(d:Array KX) (w:World) (blk:Nat),d.size=D.length→Sort.HoldsK KX.enc 2 w blk 0 d→blk < w.heap.size→
   Calls P f #[.slice (some ⟨blk,0,none⟩) d.size cap, .func (.func g) #[] #[]] w fun e w'=> e= .returned (.tuple #[])∧∃d' n os,Sort.PermIn 0 d.size d d'∧Sort.SortedIn (Go.Proofs.ltOf KX.cmp) 0 d.size d'∧w'=Go.Proofs.sortWorldK KX.enc 2 w blk 0 n d' os):
 ECall P f [.hs (nm,s) 0 D.length cap, .fn (.func g) [] []] ⟨[((nm,s), .c (Jt D++tl))], [],nx,nn⟩
  fun r h'=> r= .tup []∧∃cs',(∃D',D'.Perm D∧D'.Pairwise (fun a b=> a.1≤b.1)∧cs'=Jt D')∧h'=⟨[((nm,s), .c (cs'++tl))], [],nx,nn⟩:=by
 refine JpK (N:=D.length * 2) (n:=D.length) (vs:= [.func (.func g) #[] #[]]) (R:= .tup []) (res:=fun _=> .tuple #[]) (Φ:=fun cs'=> ∃D',D'.Perm D∧D'.Pairwise (fun a b=> a.1≤b.1)∧cs'=Jt D') hcb (Jbg D) (fun w X g us h1 h2=> ?_) (fun w X g b hg=> .tup [] [] rfl (by simp)) (fun w X g blk us hl hr hH hb=> ?_)
 ·match us,h1,h2 with
  | [u],_,h2=>
    have:=h2 0 _ u rfl rfl
    cases this with
    | fn f c1 c2 v1 v2 hn1 hn2 _ _=>
      obtain rfl:v1= []:=List.length_eq_zero_iff.1 hn1
      obtain rfl:v2= []:=List.length_eq_zero_iff.1 hn2
      rfl
 ·
  let d:Array KX:=((List.range D.length).map fun j=> (⟨(D.getD j (0, .any)).1,(D.getD j (0, .any)).2,us.getD (j * 2+1) (.int .u32 0)⟩:KX)).toArray
  have hds:d.size=D.length:=by simp [d]
  have hdg:∀j,j < D.length→d[j]! =⟨(D.getD j (0, .any)).1,(D.getD j (0, .any)).2,us.getD (j * 2+1) (.int .u32 0)⟩:=fun j hj=> by
   simp [d,hj]
  have hrep:∀j,j < D.length→us.getD (j * 2) (.int .u32 0)= .int .u32 (D.getD j (0, .any)).1∧Rep w X g (D.getD j (0, .any)).2 (us.getD (j * 2+1) (.int .u32 0))∧(us.getD (j * 2+1) (.int .u32 0)).oneCell'=true:=fun j hj=> by
   have h0:=Jfe D (j * 2) Om
   have h1:=Jfe D (j * 2+1) Om
   rw [if_pos Om] at h0
   rw [if_neg Om] at h1
   have e0:j * 2 / 2=j:=by omega
   have e1:(j * 2+1) / 2=j:=by omega
   simp only [e0] at h0
   simp only [e1] at h1
   have eD:D.getD j (0, .any)=D[j]:=by simp [hj]
   have k0:us[j * 2]? =some (us.getD (j * 2) (.int .u32 0)):=by rw [List.getD_eq_getElem?_getD,List.getElem?_eq_getElem Om];rfl
   have k1:us[j * 2+1]? =some (us.getD (j * 2+1) (.int .u32 0)):=by rw [List.getD_eq_getElem?_getD,List.getElem?_eq_getElem Om];rfl
   have r0:=hr _ _ _ h0 k0
   have r1:=hr _ _ _ h1 k1
   rw [eD]
   refine ⟨?_,r1,JdB (hone _ (List.getElem_mem hj)) r1⟩
   generalize us.getD (j * 2) (.int .u32 0)=v at r0
   cases r0;rfl
  have hflat:us.toArray=Sort.flatK KX.enc 2 d:=by
   refine Sort.ext_get! (by simp [hds,hl]) fun t ht=> ?_
   have ht2:t < D.length * 2:=by simpa [hl] using ht
   rw [Jrs d t Om,hdg _ Om]
   obtain ⟨r1,r2,r3⟩:=hrep (t / 2) Om
   have eu:us.toArray[t]! =us.getD t (.int .u32 0):=by simp [show t < us.length by omega]
   rw [eu]
   rcases Nat.mod_two_eq_zero_or_one t with h0 | h0
   ·rw [if_pos h0,show us.getD t (.int .u32 0)=us.getD (t / 2 * 2) (.int .u32 0) by rw [show t / 2 * 2=t by omega]]
    exact r1
   ·rw [if_neg Om,if_pos r3,show us.getD t (.int .u32 0)=us.getD (t / 2 * 2+1) (.int .u32 0) by rw [show t / 2 * 2+1=t by omega]]
  have hH2:Sort.HoldsK KX.enc 2 w blk 0 d:=by unfold Sort.HoldsK;rw [← hflat];exact hH
  have hc:=h d w blk hds hH2 hb
  rw [hds] at hc
  refine hc.mono fun e w' ⟨he,d',n',os,hp,hso,hw⟩=> ⟨he,(Sort.flatK KX.enc 2 d').toList,Jt (d'.toList.map fun x=> (x.k,x.a)),n',os, ?_, ?_,⟨_, ?_, ?_,rfl⟩,fun t c u hcs hus=> ?_, ?_⟩
  ·have:=hp.1;simp [this,hds]
  ·have:=hp.1;rw [Jbg];simp [this,hds]
  ·obtain ⟨p1,_,p3⟩:=hp
   have e1:(d'.extract 0 D.length).toList=d'.toList:=by rw [← hds,← p1];simp
   have e2:(d.extract 0 D.length).toList=d.toList:=by rw [← hds];simp
   rw [e1,e2] at p3
   have:=p3.map fun x:KX=> (x.k,x.a)
   refine this.trans (.of_eq ?_)
   refine List.ext_getElem (by simp [d]) fun j hj1 hj2=> ?_
   simp [d,hj2]
  ·rw [List.pairwise_iff_getElem]
   intro i j hi hj hij
   have hj':j < d'.size:=by simpa using hj
   have:=hso i j (Nat.zero_le _) hij (by rw [← hds,← hp.1];exact hj')
   rw [KX.lt] at this
   have h2:=of_decide_eq_false this
   simp only [List.getElem_map,Array.getElem_toList]
   rw [getElem!_pos d' i Om,getElem!_pos d' j hj'] at h2
   omega
  ·have hs':d'.size=D.length:=by rw [hp.1,hds]
   have ht:t < d'.size * 2:=by have:=(List.getElem?_eq_some_iff.1 hus).1;simpa using this
   have hj:t / 2 < d'.size:=by omega
   obtain ⟨p1,_,p3⟩:=hp
   have e1:(d'.extract 0 D.length).toList=d'.toList:=by rw [← hs'];simp
   have e2:(d.extract 0 D.length).toList=d.toList:=by rw [← hds];simp
   rw [e1,e2] at p3
   have hm:d'[t / 2]∈d.toList:=p3.mem_iff.1 (by simp)
   obtain ⟨j,hj2,hdj⟩:=List.getElem_of_mem hm
   have hjD:j < D.length:=by simpa [hds] using hj2
   obtain ⟨r1,r2,r3⟩:=hrep j hjD
   have hx:d'[t / 2]=⟨(D.getD j (0, .any)).1,(D.getD j (0, .any)).2,us.getD (j * 2+1) (.int .u32 0)⟩:=by
    rw [← hdj,← hdg j hjD];simp [show j < d.size by omega]
   rw [Jfe _ _ (by simpa using hj)] at hcs
   have hu:u=(Sort.flatK KX.enc 2 d')[t]! :=by
    have:=(List.getElem?_eq_some_iff.1 hus).2
    rw [← this];simp [ht]
   rw [Jrs d' t ht,getElem!_pos d' _ hj,hx] at hu
   simp only [List.getElem_map,Array.getElem_toList,hx] at hcs
   dsimp only at hcs hu
   rcases Nat.mod_two_eq_zero_or_one t with h0 | h0
   ·rw [if_pos h0] at hcs hu
    cases hcs;subst hu;exact .v _
   ·rw [if_neg Om] at hcs hu
    rw [if_pos r3] at hu
    cases hcs;subst hu;exact r2
  ·rw [hw]
   unfold Go.Proofs.sortWorldK Sort.putRowK
   simp
end Go.Vl

/- Appending onto rows in boxes, among the effects of a region that draws. -/
namespace Go.Vl
open Go.RowKit
variable {P:Program}
theorem Jcv {ops:Array Oper} {B:List (Id×Own)} {o:Oper} {E:Env} {s x:Operand} {t e:TypeId} {n szx m cap:Nat} {f':Nat→AV} {i:Id} {cs:List AV} (hg:o.guard=none)
 (ho:o.op= .call { callee:= .builtin .append,args:= #[s,x],argTypes:= #[t,t]}) (hs:E.ev s= .hs i 0 n cap)
 (hx:E.ev x= .sl szx m f'∨∃oj,E.ev x= .os szx m f' oj)
 (ht:P.underlying t=some (.slice e)) (hgr:JaY P e=true) (hszx:szx=P.cellsOf e) (hm:m≠0)
 (hcs:Jav i.1 E.h.bx=some (i.2,cs)) (hcap:n≤cap) (hcl:cap * P.cellsOf e≤cs.length) (hone:JcD m f')
 (hroom:(n+m) * P.bytesOf e≤140737488355328) (hlen:n+m≤9223372036854775807)
 (hB1:HB B (JcC i.1 (JX cs (n * P.cellsOf e) (JL m f')) E.h.bx)) (hB2:∀l,HB B (E.h.add l).bx):
 Eff P ops B o E fun r h'=> (n+m≤cap∧r= .hs i 0 (n+m) cap∧h'= { E.h with bx:=JcC i.1 (JX cs (n * P.cellsOf e) (JL m f')) E.h.bx})∨
  (∃ncap,n+m≤ncap∧r= .hs (E.h.nn,E.h.nx) 0 (n+m) ncap∧h'=E.h.add (cs.take (n * P.cellsOf e)++JL m f'++List.replicate ((ncap - (n+m)) * P.cellsOf e) .any)):=by
 refine ⟨hg,fun E' hh htt=> ?_⟩
 have hev:=JaM htt
 have es:E'.ev s=E.ev s:=hev s (by rw [ho];simp [Op.operands,Call.operands])
 have ex:E'.ev x=E.ev x:=hev x (by rw [ho];simp [Op.operands,Call.operands])
 refine JeH ho (es.trans hs) (by rw [ex];exact hx) ht hgr (.inr hszx) (by rw [hh];exact hcs) hcap hcl hone (fun _=> hroom) (fun _=> hlen) (fun h=> absurd h hm) (fun _ hfit=> ?_) (fun _ _ ncap hge=> ?_)
 ·exact ⟨_,_, .inl ⟨hfit,rfl,by rw [hh]⟩,by rw [hh];exact hB1,rfl⟩
 ·exact ⟨_,_, .inr ⟨ncap,hge,by rw [hh],by rw [hh]⟩,by rw [hh];exact hB2 _,rfl⟩
theorem Jb7 {ops:Array Oper} {B:List (Id×Own)} {o:Oper} {E:Env} {s x:Operand} {t e:TypeId} {sz szx m:Nat} {f f':Nat→AV} (hg:o.guard=none)
 (ho:o.op= .call { callee:= .builtin .append,args:= #[s,x],argTypes:= #[t,t]}) (hs:E.ev s= .os sz 0 f none)
 (hx:E.ev x= .sl szx m f'∨∃oj,E.ev x= .os szx m f' oj)
 (ht:P.underlying t=some (.slice e)) (hgr:JaY P e=true) (hszx:szx=P.cellsOf e) (hm:m≠0) (hone:JcD m f')
 (hroom:m * P.bytesOf e≤140737488355328) (hlen:m≤9223372036854775807) (hB2:∀l,HB B (E.h.add l).bx):
 Eff P ops B o E fun r h'=> ∃ncap,m≤ncap∧r= .hs (E.h.nn,E.h.nx) 0 m ncap∧h'=E.h.add (JL m f'++List.replicate ((ncap - m) * P.cellsOf e) .any):=by
 refine ⟨hg,fun E' hh htt=> ?_⟩
 have hev:=JaM htt
 have es:E'.ev s=E.ev s:=hev s (by rw [ho];simp [Op.operands,Call.operands])
 have ex:E'.ev x=E.ev x:=hev x (by rw [ho];simp [Op.operands,Call.operands])
 refine JfB ho (es.trans hs) (by rw [ex];exact hx) ht hgr hszx hm hone hroom hlen (fun ncap hge=> ?_)
 exact ⟨_,_,⟨ncap,hge,by rw [hh],by rw [hh]⟩,by rw [hh];exact hB2 _,rfl⟩
end Go.Vl

/- The front of an array of one's own; bytes of one's own as a string. -/
namespace Go.Vl
open Go.RowKit
variable {P:Program}
theorem Jjt {w:World} {t e:TypeId} {n:Nat} {d:TypeDesc} (ht:P.underlying t=some (.array n e)) (hd:P.underlying e=some d) (h1:P.cellsOf e=1) (b off h:Nat) (hh:h≤n) (hn:0 < n) (k':IntKind):
 (Instr.sliceAt t (.pointer (some ⟨b,off,none⟩)) none (some (.int k' h)) none).run P w= .ok (.slice (some ⟨b,off,none⟩) h n) w:=by
 have e1:¬n=0:=by omega
 simp [Instr.sliceAt,run_underlying ht,Instr.sureAddr,Instr.sliceBounds,Instr.sliceBound,asIntOf,hh,e1,JD hd,h1,J2]
theorem Jlj {o:Oper} {E:Env} {K:Env→Prop} {Kp:AV→Env→Prop} {t e:TypeId} {x hi:Operand} {n h:Nat} {k':IntKind} {d:TypeDesc} {i:Id} {off:Nat} (ho:o.op= .slice t x none (some hi) none) (hx:E.ev x= .bp i off)
 (hhi:E.ev hi= .v (.int k' h)) (ht:P.underlying t=some (.array n e)) (hd:P.underlying e=some d) (h1:P.cellsOf e=1) (hh:h≤n) (hn:0 < n) (hk:K (E.set o.dst (.hs i off h n))):AOp P o E K Kp:=by
 refine AOp.of_yields ⟨(by rw [ho];intro c hc;cases hc),fun ρ w X g _ hr=> .inl ?_⟩ hk
 have r1:=hr x (by rw [ho];simp [Op.operands])
 have r3:=hr hi (by rw [ho];simp [Op.operands])
 rw [hx] at r1;rw [hhi] at r3
 have e3:=JI r3
 generalize hu:ρ x=u at r1
 cases r1 with
 | bp _ _ b hg=>
   refine ⟨.slice (some ⟨b,off,none⟩) h n,w, ?_,Evo.refl _ _, .hs _ _ _ _ b hg⟩
   unfold execOp
   simp only [ho,hu,Option.map_some,Option.map_none,e3]
   exact Ja7 (Jjt ht hd h1 b off h hh hn k')
theorem Jrt {o:Oper} {E:Env} {K:Env→Prop} {Kp:AV→Env→Prop} {s d e:TypeId} {x:Operand} {i:Id} {off cap:Nat} {cs:List AV} {l:List UInt8} (ho:o.op= .convert s d x) (hx:E.ev x= .hs i off l.length cap)
 (hcs:Jav i.1 E.h.bx=some (i.2,cs)) (hl:∀j (hj:j < l.length),cs[off+j]? =some (.v (.int .u8 (l[j].toNat:Int)))) (hs:P.underlying s=some (.slice e)) (he:P.underlying e=some (.int .u8)) (hd:P.underlying d=some .string)
 (hk:K (E.set o.dst (.v (.string ⟨l.toArray⟩)))):AOp P o E K Kp:=by
 refine AOp.of_yields ⟨(by rw [ho];intro c hc;cases hc),fun ρ w X g hok hr=> .inl ?_⟩ hk
 have r1:=hr x (by rw [ho];simp [Op.operands])
 rw [hx] at r1
 obtain ⟨b,hg,vs,e',hb,hvs,hrp⟩:=hok.bx _ (JdR hcs)
 dsimp only at hg hvs hrp
 generalize hu:ρ x=u at r1
 cases r1 with
 | hs _ _ _ _ b' hg'=>
   rw [hg] at hg';cases hg'
   refine ⟨.string ⟨l.toArray⟩,w, ?_,Evo.refl _ _, .v _⟩
   unfold execOp
   simp only [ho,hu]
   refine Ja7 (run_convert_bytes_back w s d e ⟨b,off,none⟩ cap l hs he hd fun j hj=> ?_)
   have hc:=hl j hj
   have hlt:off+j < vs.size:=by rw [hvs];exact (List.getElem?_eq_some_iff.1 hc).1
   have:=hrp (off+j) _ vs[off+j] hc (Array.getElem?_eq_getElem hlt)
   generalize hv:vs[off+j]=v at this
   cases this
   rw [show (⟨b,off,none⟩:Addr).add j=⟨b,off+j,none⟩ from J2 _ _ _,Jw hb,Array.getElem?_eq_getElem hlt,hv]
end Go.Vl

namespace Go.Vl
open Go.RowKit
variable {P:Program}
theorem JpL {f:FuncId} {xs vs:List Value} {u:Value} (hcb:JbL P f)
 (h0:xs.length=0→∀(a:Option Addr) (cap:Nat) w,Kn w none2→Calls P f (Value.slice a 0 cap::vs).toArray w fun e w'=> e= .returned u∧Below w.heap.size w w')
 (h1:∀(b off cap:Nat) w,Kn w none2→(∀(j:Nat) x,xs[j]? =some x→w.cell? ⟨b,off+j,none⟩=some x)→b < w.heap.size→xs.length≤cap→0 < xs.length→Calls P f (Value.slice (some ⟨b,off,none⟩) xs.length cap::vs).toArray w fun e w'=> e= .returned u∧Below w.heap.size w w'):
 Tells P f (.sl 1 xs.length (fun k=> .v (xs.getD k undef))::vs.map .v) (.v u):=fun nx=> by
 refine ⟨hcb,fun X w g us k1 k2 k3 k4=> ?_⟩
 match us,k3,k4 with
 | a::us,k3,k4=>
 have ha:=k4 0 _ a rfl rfl
 obtain rfl:us=vs:=Jkn (by simpa using k3) fun k c v hc hv=> k4 (k+1) c v (by simpa using hc) (by simpa using hv)
 have hk:=k1.kn.none
 have key:Calls P f (a::us).toArray w fun e w'=> e= .returned u∧Below w.heap.size w w':=by
  generalize hxs:(fun k=> AV.v (xs.getD k undef))=F at ha
  generalize hn:xs.length=n at ha
  cases ha with
  | sl0 _ _ a0 cap=> exact h0 hn a0 cap w hk
  | sl _ _ _ b off cap ws hlen hcap hcell hc hrep=>
    rcases Nat.eq_zero_or_pos n with hz | hz
    ·subst hz
     exact h0 hn _ cap w hk
    ·subst hn
     have hat:∀(j:Nat) x,xs[j]? =some x→w.cell? ⟨b,off+j,none⟩=some x:=fun j x hx=> by
      have hj:=(List.getElem?_eq_some_iff.1 hx).1
      have hw:j < ws.length:=by omega
      have hr:=hrep j 0 (.v (xs.getD j undef)) ws[j] hj (by rw [← hxs];rfl) (by rw [Nat.mul_one,Nat.add_zero];exact List.getElem?_eq_getElem hw)
      have e:ws[j]=xs.getD j undef:=by generalize ws[j]=q at hr;cases hr;rfl
      rw [(hcell j _ (List.getElem?_eq_getElem hw)).1,e,List.getD_eq_getElem?_getD,hx]
      rfl
     have hb:b < w.heap.size:=World.block_lt_of_cell? w _ (hat 0 xs[0] (List.getElem?_eq_getElem hz))
     exact h1 b off cap w hk hat hb hcap hz
 refine (JeE P f).mono (w0:=w) (g:=g) (R:=_) key fun e w' ⟨he,hb⟩=> ?_
 have hev:=Evo.of_below hb
 exact ⟨.ret (.v u),⟨[], [],nx,0⟩,g,⟨u,he, .v _⟩,⟨Rf,rfl,rfl⟩,fun _ _ h=> h,k1.evo0 hev,fun b o hx i hi=> (by cases hi),hev.mono fun b o _ h=> h.elim,fun b o h _=> h⟩
end Go.Vl

/- Regions that draw, with two effects that stand in no order, and more effects behind both. -/
namespace Go.Vl
open Go.RowKit
variable {P:Program}
theorem Jtc {ops:Array Oper} {m:Nat} {B:List (Id×Own)} {eff:Nat→Bool} {Q:Exit→Act→World→Prop} (hk:OrdOk ops m) (hm:m≤ops.size)
 {ro:Option Nat} {X M:Nat→Nat→Prop} {w0:World} {g0:List Nat} {K:Env→Prop} {a0 c0:Nat} {rest:List Nat} (hea:eff a0=true) (hec:eff c0=true) (hac:a0≠c0) (ham:a0 < m)
 (hself0:∀oi,ops[a0]? =some oi→∀e∈oi.after,Region.binds .any e=true→e.on≠a0)
 (hna:∀i,i∉rest→i≠a0→i < m→∀oi,ops[i]? =some oi→∀e∈oi.after,Region.binds .any e=true→e.on≠a0)
 (hq:∀E a w g,K E→(∀(i b:Nat),g0[i]? =some b→g[i]? =some b)→St ro X M w0 E a w g→wpOpsIn (Fr ro) 0 P ops Q (List.range' m (ops.size - m)) a w):
 ∀(n:Nat) (pre:List Nat) (listed:Array Bool) (E:Env) (a:Act) (w:World) (g:List Nat),pre.length+rest.length+2=n→(pre++c0::rest).Pairwise (Jds ops eff)→(pre++a0::rest).Pairwise (Jds ops eff)→(∀i∈pre++c0::rest,i < m)→(a0∉pre++c0::rest)→
  (∀i∈pre++c0::rest,∀oi,ops[i]? =some oi→∀e∈oi.after,Region.binds .any e=true→e.on≠i)→listed.size=ops.size→DC ops listed→
 (∀i,i < ops.size→(listed.getD i true=false↔(i=a0∨i∈pre++c0::rest)∨m≤i))→(∀i∈pre,eff i=false)→
 MixL P ops B eff pre E (fun E'=> MixL P ops B eff (a0::c0::rest) E' K∧MixL P ops B eff (c0::a0::rest) E' K)→HB B E.h.bx→(∀(i b:Nat),g0[i]? =some b→g[i]? =some b)→St ro X M w0 E a w g→wpAnyIn (Fr ro) 0 P .any ops Q (n+(ops.size - m)) listed a w:=by
 intro n
 induction n with
 | zero=> intro pre _ _ _ _ _ hl;omega
 | succ n ih=>
   intro pre listed E a w g hl hpw hpc hlt hnm hself hsz hd hun hpe hrun hB hg hs
   rw [Nat.add_right_comm]
   obtain ⟨k,L',hkL,hrL⟩:∃k L',pre++c0::rest=k::L'∧∀i∈rest,i∈L':=by
    cases pre with
    | nil=> exact ⟨_,_,rfl,fun i hi=> hi⟩
    | cons k l=> exact ⟨_,_,rfl,fun i hi=> List.mem_append_right _ (List.mem_cons_of_mem _ hi)⟩
   have hkmem:k∈pre++c0::rest:=by rw [hkL];simp
   have hkm:k < m:=hlt k hkmem
   have hka:k≠a0:=fun e=> hnm (e ▸ hkmem)
   have hklt:k < ops.size:=by omega
   have hko:ops[k]? =some ops[k]:=Array.getElem?_eq_getElem hklt
   have hpk:=hpw
   rw [hkL] at hpk
   have hkn:k∉rest:=fun h=> ((List.pairwise_cons.1 hpk).1 k (hrL k h)).1 rfl
   have hkr:k∈Region.ready .any ops listed:=by
    refine JJ.2 ⟨(hun k hklt).2 (.inl (.inr hkmem)),_,hko,fun e he hb=> ?_⟩
    have hb':=hk.back k _ hko e he hb
    rw [JO Om]
    cases hl:listed.getD e.on true with
    | true=> simpa using hl
    | false=>
      rcases (hun e.on Om).1 hl with (h' | h') | h'
      ·exact absurd h' (hna k hkn hka hkm _ hko e he hb)
      ·rw [hkL] at h'
       rcases List.mem_cons.1 h' with h' | h'
       ·exact absurd h' (hself k hkmem _ hko e he hb)
       · exact absurd rfl (((List.pairwise_cons.1 hpk).1 _ h').2 _ _ hko (Array.getElem?_eq_getElem Om) |>.1 e he hb)
      ·omega
   refine ⟨fun h0=> (by rw [h0] at hkr;cases hkr),fun j hj=> ?_⟩
   obtain ⟨h1,oj,hoj,h2⟩:=JJ.1 hj
   have hjlt:=(Array.getElem?_eq_some_iff.1 hoj).1
   have hjL:j=a0∨j∈pre++c0::rest:=by
    rcases (hun j hjlt).1 h1 with h' | h'
    ·exact h'
    ·have hb:=hk.tail k j oj hoj h' Om
     have:=J3 hd hsz hoj h2 hb
     have h3:=(hun k Om).2 (.inl (.inr hkmem))
     rw [JO Om] at this
     simp [h3] at this
   have hnb:∀i,(i=a0∨i∈pre++c0::rest)→((Region.before ops).getD j 0).testBit i=true→False:=fun i hi hb=> by
    have hilt:i < ops.size:=by
     rcases hi with rfl | hi
     ·omega
     ·have:=hlt i hi;omega
    have:=J3 hd hsz hoj h2 hb
    have h3:=(hun i hilt).2 (.inl hi)
    rw [JO Om] at this
    simp [h3] at this
   have JcC:∀(L2:List Nat),(∀i,i < ops.size→i≠j→(((i=a0∨i∈pre++c0::rest)∨m≤i)↔(i∈L2∨m≤i)))→j∉L2→j < m→∀i,i < ops.size→((listed.setIfInBounds j true).getD i true=false↔i∈L2∨m≤i):=fun L2 hL hj2 hjm i hi=> by
    rw [JaO Om]
    by_cases hij:i=j
    ·subst hij
     simp only [if_true]
     constructor
     ·intro h;cases h
     ·intro h
      exfalso
      rcases h with h | h
      ·exact hj2 h
      ·omega
    ·rw [if_neg hij,hun i hi]
     exact hL i hi hij
   have heffect:∀(L2:List Nat),L2.length=n→L2.Pairwise (Jds ops eff)→(∀i∈L2,i < m)→(∀i∈L2,∀oi,ops[i]? =some oi→∀e∈oi.after,Region.binds .any e=true→e.on≠i)→(∀i,i < ops.size→i≠j→(((i=a0∨i∈pre++c0::rest)∨m≤i)↔(i∈L2∨m≤i)))→j∉L2→j < m→eff j=true→MixL P ops B eff (j::L2) E K→wpOpIn (Fr ro) 0 P ops Q j (wpAnyIn (Fr ro) 0 P Region.Mode.any ops Q (n+(ops.size - m)) (listed.setIfInBounds j true)) a w:=fun L2 e1 e2 e3 e4 e5 e6 e7 e8 e9=> by
    obtain ⟨o,ho,hrun'⟩:=e9
    rw [hoj] at ho
    cases ho
    simp only [e8] at hrun'
    obtain ⟨R,⟨q0,q1⟩,q2⟩:=hrun'
    unfold wpOpIn
    simp only [hoj,Region.wanted,q0,if_true]
    exact q1 E rfl (fun _ _=> rfl) ro X M w0 a w g hs _ _ (fun E' a' w' g' hE hgg hs'=> by
     obtain ⟨r,h',p1,p2,rfl⟩:=hE
     exact JhV hk hm hq n L2 _ _ a' w' g' e1 e2 e3 e4 (by simp [hsz]) (hd.set hsz hk hj) (JcC L2 e5 e6 e7) (q2 r h' p1) (by rw [Env.set_h];exact p2) (fun i b hi=> hgg i b (hg i b hi)) hs') (fun x E' a' w' g' v hk'=> hk'.elim)
   rcases hjL with rfl | hjL
   ·have h5:=List.pairwise_append.1 hpc
    obtain h6:=MixL.front hoj pre (c0::rest) E (fun i hi=> by
     obtain ⟨_,hp⟩:=h5.2.2 i hi j (by simp)
     have hilt:i < ops.size:=by have:=hlt i (by simp [hi]);omega
     rcases (hp _ _ (Array.getElem?_eq_getElem hilt) hoj).2 with hb | ⟨hb,hb'⟩
     ·exact (hnb i (.inr (by simp [hi])) hb).elim
     ·exact ⟨hb,fun oi hoi=> by rw [Array.getElem?_eq_getElem hilt] at hoi;cases hoi;exact hb'⟩) (MixL.app (MixL.mono (fun _ h=> h.1) hrun))
    exact heffect (pre++c0::rest) (by simp;omega) hpw hlt hself (fun i _ hij=> by simp [hij]) hnm ham hea h6
   ·have hjm:=hlt j hjL
    have hja:j≠a0:=fun e=> hnm (e ▸ hjL)
    rcases List.mem_append.1 hjL with hjp | hjp
    ·obtain ⟨l1,l2,rfl⟩:=List.append_of_mem hjp
     have hej:=hpe j hjp
     have hpw':(l1++j::(l2++c0::rest)).Pairwise (Jds ops eff):=by simpa using hpw
     have hl1:∀i∈l1,Jds ops eff i j:=fun i hi=> (List.pairwise_append.1 hpw').2.2 i hi j (by simp)
     obtain ⟨o,ho,hrun'⟩:=MixL.front hoj l1 l2 E (fun i hi=> by
      have hilt:i < ops.size:=by have:=hlt i (by simp [hi]);omega
      rcases ((hl1 i hi).2 _ _ (Array.getElem?_eq_getElem hilt) hoj).2 with hb | ⟨hb,hb'⟩
      ·exact (hnb i (.inr (by simp [hi])) hb).elim
      ·exact ⟨hb,fun oi hoi=> by rw [Array.getElem?_eq_getElem hilt] at hoi;cases hoi;exact hb'⟩) hrun
     rw [hoj] at ho
     cases ho
     simp only [hej] at hrun'
     obtain ⟨r,q1,q2⟩:=hrun'
     have hsub:(l1++l2++c0::rest).Sublist (l1++j::l2++c0::rest):=by simp [List.Sublist.append_left]
     have hsub2:(l1++l2++a0::rest).Sublist (l1++j::l2++a0::rest):=by simp [List.Sublist.append_left]
     have hnj:j∉l1++l2++c0::rest:=fun h=> by
      have h5:=List.pairwise_append.1 hpw'
      rw [List.append_assoc] at h
      rcases List.mem_append.1 h with h | h
      ·exact (h5.2.2 j h j (by simp)).1 rfl
      ·exact ((List.pairwise_cons.1 h5.2.1).1 j h).1 rfl
     refine (q1 E hB fun _ _=> rfl).does hoj hs fun a' w' hs'=> ih (l1++l2) _ _ a' w' g (by simp at hl⊢;omega) (hpw.sublist hsub) (hpc.sublist hsub2) (fun i hi=> hlt i (hsub.subset hi)) (fun h=> hnm (hsub.subset h)) (fun i hi=> hself i (hsub.subset hi)) (by simp [hsz]) (hd.set hsz hk hj) (fun i hi=> ?_) (fun i hi=> hpe i (by rcases List.mem_append.1 hi with h | h <;> simp [h])) q2 (by rw [Env.set_h];exact hB) hg hs'
     have e:=JcC (a0::(l1++l2++c0::rest)) (fun i _ hij=> by simp [hij]) (by simp only [List.mem_cons,not_or];exact ⟨hja,hnj⟩) hjm i hi
     rw [e,List.mem_cons]
    ·rcases List.mem_cons.1 hjp with rfl | hjr
     ·have h6:=MixL.front hoj pre (a0::rest) E (fun i hi=> by
       have hilt:i < ops.size:=by have:=hlt i (by simp [hi]);omega
       rcases (((List.pairwise_append.1 hpw).2.2 i hi j (by simp)).2 _ _ (Array.getElem?_eq_getElem hilt) hoj).2 with hb | ⟨hb,hb'⟩
       ·exact (hnb i (.inr (by simp [hi])) hb).elim
       ·exact ⟨hb,fun oi hoi=> by rw [Array.getElem?_eq_getElem hilt] at hoi;cases hoi;exact hb'⟩) (MixL.app (MixL.mono (fun _ h=> h.2) hrun))
      have h5:=List.pairwise_append.1 hpw
      refine heffect (pre++a0::rest) (by simp;omega) hpc (fun i hi=> ?_) (fun i hi=> ?_) (fun i _ hij=> by simp [hij,or_assoc,or_comm,or_left_comm]) (fun h=> ?_) hjm hec h6
      ·simp only [List.mem_append,List.mem_cons] at hi
       rcases hi with hi | rfl | hi
       ·exact hlt i (by simp [hi])
       ·exact ham
       ·exact hlt i (by simp [hi])
      ·simp only [List.mem_append,List.mem_cons] at hi
       rcases hi with hi | rfl | hi
       ·exact hself i (by simp [hi])
       ·exact hself0
       ·exact hself i (by simp [hi])
      ·simp only [List.mem_append,List.mem_cons] at h
       rcases h with h | h | h
       ·exact (h5.2.2 j h j (by simp)).1 rfl
       ·exact hja h
       ·exact ((List.pairwise_cons.1 h5.2.1).1 j h).1 rfl
     ·exfalso
      have hp:=((List.pairwise_cons.1 (List.pairwise_append.1 hpw).2.1).1 j hjr).2 _ _ (Array.getElem?_eq_getElem (by have:=hlt c0 (by simp);omega)) hoj
      rcases hp.2 with hb | ⟨hb,_⟩
      ·exact hnb c0 (.inr (by simp)) hb
      ·rw [hec] at hb;cases hb
def Juc (ops:Array Oper) (m:Nat) (eff:Nat→Bool) (pre:List Nat) (a0 c0:Nat) (rest:List Nat):Bool:=
 let bf:=Region.before ops
 Nat.ble m ops.size&& (JbK ops m&& ((pre++c0::rest).all (fun i=> Nat.blt i m&& !Nat.beq i a0)&& ((List.range m).all (fun i=> Nat.beq i a0|| (pre++c0::rest).contains i)&& (ordM.go ops eff bf (pre++c0::rest)&& (ordM.go ops eff bf (pre++a0::rest)&&
  (eff a0&& (eff c0&& (Nat.blt a0 m&& (pre.all (fun i=> !eff i)&& ((List.range m).all (fun i=> Nat.beq i a0|| (rest.contains i|| match ops[i]? with | some oi=> oi.after.toList.all fun e=> !Region.binds .any e|| !Nat.beq e.on a0 | none=> false))&& Nat.beq (pre.length+rest.length+2) m))))))))))
theorem JxN {id:Nat} {ops:Array Oper} {E:Env} {Q:AExit→Env→Prop} (m:Nat) (B:List (Id×Own)) (eff tl:Nat→Bool) (pre:List Nat) (a0 c0:Nat) (rest:List Nat) (hf:P.follows .mixedOrders=true) (hb:Juc ops m eff pre a0 c0 rest=true) (hB:HB B E.h.bx)
 (h:aN P ops B eff tl pre E fun E'=> aN P ops B eff tl (a0::c0::rest) E' (fun E'=> aK P ops (ops.toList.drop m) E' (Q .normal) (fun x E=> Q (.panic x) E))∧aN P ops B eff tl (c0::a0::rest) E' (fun E'=> aK P ops (ops.toList.drop m) E' (Q .normal) (fun x E=> Q (.panic x) E))):AW P (.region id ops true) E Q:=by
 simp only [Juc,Bool.and_eq_true,List.all_eq_true] at hb
 obtain ⟨h0,h00,h1,h2,h3,h3c,hea,hec,ha,hp,hn,hl⟩:=hb
 have hm:=Jb6 h0
 obtain ⟨h4,h5⟩:=Jet h3
 obtain ⟨h4c,h5c⟩:=Jet h3c
 have hlt:∀i∈pre++c0::rest,i < m:=fun i hi=> Jax (h1 i hi).1
 have hnm:a0∉pre++c0::rest:=fun hi=> JdH (h1 a0 hi).2 rfl
 have hall:∀i,i < m→i=a0∨i∈pre++c0::rest:=fun i hi=> by
  have:=h2 i (List.mem_range.2 hi)
  simpa using this
 have ham:a0 < m:=Jax ha
 have hac:a0≠c0:=fun e=> hnm (by simp [e])
 have hself0:=h5c a0 (by simp)
 have hpe:∀i∈pre,eff i=false:=fun i hi=> by simpa using hp i hi
 have hlen:pre.length+rest.length+2=m:=by simpa using hl
 have hna:∀i,i∉rest→i≠a0→i < m→∀oi,ops[i]? =some oi→∀e∈oi.after,Region.binds .any e=true→e.on≠a0:=fun i hnr hne hi oi ho e he hb=> by
  have:=hn i (List.mem_range.2 hi)
  rw [ho] at this
  simp only [Bool.or_eq_true,List.all_eq_true] at this
  rcases this with h | h | h
  ·exact absurd (by simpa using h) hne
  ·exact absurd (by simpa using h) hnr
  ·have:=h e (Array.mem_toList_iff.2 he)
   simp only [hb,Bool.not_true,Bool.false_or] at this
   exact JdH (by simpa using this)
 unfold AW
 intro ro X M w0 a w g g0 hg hs
 refine wpIn_region_any hf ?_
 have hs':St ro X M w0 E a { w with drawn:=w.drawn+1} g:=hs.drew
 have key:=Jtc (eff:=eff) (a0:=a0) (c0:=c0) (rest:=rest) (g0:=g0) (K:=fun E'=> aK P ops (ops.toList.drop m) E' (Q .normal) (fun x E=> Q (.panic x) E)) (Q:=Jcc ro X M w0 g0 Q) (P:=P) (X:=X) (M:=M) (w0:=w0) (ro:=ro) (B:=B) (JhL h00) hm hea hec hac ham hself0 hna (fun E' a' w' g' hk hg' hs''=> by
  have:=Jbv (P:=P) (ops:=ops) (K:=Q .normal) (X:=X) (M:=M) (w0:=w0) (g0:=g0) (Kp:=fun x E=> Q (.panic x) E) (ro:=ro) (Q:=Jcc ro X M w0 g0 Q) (fun E a w g hk hg hs=> ⟨.normal,E,g,hk,rfl,hg,hs⟩) (fun x E a w g v hk hg hs hr=> ⟨.panic x,E,g,hk,⟨v,rfl,hr⟩,hg,hs⟩) (ops.toList.drop m) m E' a' w' g' (fun j=> .inl (by simp)) hg' hs'' hk
  simpa using this) m pre (Array.replicate ops.size false) E a _ g hlen h4 h4c hlt hnm h5 (by simp) (fun k o ho hl=> by
  have hk:=(Array.getElem?_eq_some_iff.1 ho).1
  simp [Array.getD_eq_getD_getElem?,hk] at hl) (fun i hi=> by
  have:(Array.replicate ops.size false).getD i true=false:=by simp [Array.getD_eq_getD_getElem?,hi]
  simp only [this,true_iff]
  rcases Nat.lt_or_ge i m with h | h
  ·exact .inl (hall i h)
  ·exact .inr h) hpe (MixL.mono (fun _ q=> ⟨JcE q.1,JcE q.2⟩) (JcE h)) hB hg hs'
 have e:m+(ops.size - m)=ops.size:=by omega
 rw [e] at key
 exact key
end Go.Vl

namespace Go.Vl
open Go.RowKit
variable {P:Program}
theorem Jkt {f:FuncId} {ars:List AV} {s:AV} (h:Tells P f ars s):PCall P f ars (fun r=> r=s):=fun nx=> by
 refine ⟨(h nx).1,fun X w g us h1 h2 h3 h4=> ?_⟩
 refine (JeE P f).mono (w0:=w) (g:=g) ((h nx).2 X w g us h1 h2 h3 h4) fun e w' ⟨r,h',g',a1,a2,a3⟩=> ?_
 cases r with
 | pan x=> exact a2.elim
 | ret r=>
   obtain ⟨u,e1,e2⟩:=a1
   exact ⟨.ret s,h',g',⟨u,e1,a2.1 _ _ _ _ e2⟩,⟨rfl,a2.2⟩,a3⟩
end Go.Vl

namespace Go.Proofs.W
structure Cnd where
 arg:Int
 op:Int
 mask:Nat
 value:Nat
deriving DecidableEq
def cnd0:Cnd:=⟨0,0,0,0⟩
def Cnd.ok (c:Cnd):Prop:=c.mask < 18446744073709551616∧c.value < 18446744073709551616
def Jad (c:Cnd):Bool:=decide (0≤c.arg)&& decide (c.arg≤5)&& decide (1≤c.op)&& decide (c.op≤7)&& (decide (c.op=7)|| decide (c.mask=0))
def Jku (v m:Nat):Nat:=v&&& (18446744073709551615 - m)
def isC (b:Bool):Cnd×Nat:=(cnd0,if b then 1 else 2)
def asC (c:Cnd) (op:Int) (v:Nat):Cnd×Nat:=(⟨c.arg,op,0,v⟩,0)
def Ja8 (c:Cnd) (v:Nat):Cnd×Nat:=if v=0 then isC false else if v=1 then asC c 1 0 else asC c 3 v
def JbI (c:Cnd) (v:Nat):Cnd×Nat:=if v=0 then isC true else if v=18446744073709551615 then asC c 1 v else asC c 6 v
def JdN (c:Cnd):Cnd×Nat:=if Jku c.value c.mask≠0 then isC false else if c.mask=0 then isC true else if c.mask=18446744073709551615 then asC c 1 c.value else (c,0)
def Jbs (c:Cnd):Cnd×Nat:=
 if c.op=3 then Ja8 c c.value
 else if c.op=6 then JbI c c.value
 else if c.op=7 then JdN c
 else if c.op=4 then (if c.value=18446744073709551615 then isC true else Ja8 c (c.value+1))
 else if c.op=5 then (if c.value=18446744073709551615 then isC false else JbI c (c.value+1))
 else (c,0)
def JaA (c:Cnd):Cnd×Nat:=if Jad c then Jbs c else isC false
def Jvu (c:Cnd) (a:Nat):Bool:=
 if c.op=1 then decide (a=c.value)
 else if c.op=2 then !decide (a=c.value)
 else if c.op=3 then decide (a < c.value)
 else if c.op=4 then decide (a≤c.value)
 else if c.op=5 then decide (a > c.value)
 else if c.op=6 then decide (a≥c.value)
 else decide (a&&& c.mask=c.value)
theorem Jco {c:Cnd}:Jad c=true↔0≤c.arg∧c.arg≤5∧1≤c.op∧c.op≤7∧(c.op=7∨c.mask=0):=by
 simp [Jad,and_assoc]
end Go.Proofs.W

namespace Go.Proofs.W
def NFm (c:Cnd):Prop:=Jad c=true∧(c.op=1∨c.op=2∨c.op=3∨c.op=6∨(c.op=7∧Jku c.value c.mask=0))
def lowM32:Nat:=4294967295
def Jcw (c:Cnd):Cnd×Nat:=
 if c.value > lowM32 then (cnd0,if c.op=2∨c.op=3 then 1 else 2)
 else if c.op=7 then (if c.mask&&& lowM32=0 then (cnd0,1) else (⟨c.arg,c.op,c.mask&&& lowM32,c.value⟩,0))
 else (c,0)
theorem Jkk {a:Nat} (h:a < 4294967296):a&&& lowM32=a:=by
 unfold lowM32
 rw [show (4294967295:Nat)=2 ^ 32 - 1 by decide,Nat.and_two_pow_sub_one_eq_mod]
 exact Nat.mod_eq_of_lt h
theorem sub_zero {v m:Nat} (hv:v||| m=m) (h0:m&&& lowM32=0) (hl:v < 4294967296):v=0:=by
 rw [← Jkk hl]
 refine Nat.eq_of_testBit_eq fun i=> ?_
 rw [Nat.testBit_and,Nat.zero_testBit]
 have h1:=congrArg (·.testBit i) hv
 have h2:=congrArg (·.testBit i) h0
 simp only [Nat.testBit_or,Nat.testBit_and,Nat.zero_testBit] at h1 h2
 revert h1 h2
 cases v.testBit i <;> cases m.testBit i <;> cases lowM32.testBit i <;> decide
end Go.Proofs.W

namespace Go.Proofs.W
open Go.Vl
structure Ins where
 code:Nat
 jt:Nat
 jf:Nat
 k:Nat
deriving DecidableEq
def Ins.ok (i:Ins):Prop:=i.code < 65536∧i.jt < 256∧i.jf < 256∧i.k < 4294967296
end Go.Proofs.W

namespace Go.Proofs.W
open Go.Vl
set_option maxRecDepth 100000
def int (n:Int):AV:= .v (.int .i64 n)
def u8 (n:Int):AV:= .v (.int .u8 n)
def u32 (n:Int):AV:= .v (.int .u32 n)
def Jb (b:Bool):AV:= .v (.bool b)
end Go.Proofs.W

namespace Go.Proofs.W
open Go.Vl
set_option maxRecDepth 100000
theorem JbS {a b:Int}:(false=(a ==b))↔a≠b:=by rw [eq_comm];simp
theorem JbT {a b:Int}:(true=(a ==b))↔a=b:=by rw [eq_comm];simp
theorem JbD {a b:Int}:(false=(a !=b))↔a=b:=by rw [eq_comm];simp
theorem JbE {a b:Int}:(true=(a !=b))↔a≠b:=by rw [eq_comm];simp
theorem JbU {p:Prop} [Decidable p]:(false=decide p)↔¬p:=by rw [eq_comm];simp
theorem JbV {p:Prop} [Decidable p]:(true=decide p)↔p:=by rw [eq_comm];simp
end Go.Proofs.W

namespace Go.Proofs.W
open Go.Vl
set_option maxRecDepth 100000
def u64 (n:Int):AV:= .v (.int .u64 n)
def JZ (c:Cnd):AV:= .ag [int c.arg,int c.op,u64 c.mask,u64 c.value]
def JaS (l:List Cnd):AV:=JF 4 JZ cnd0 l
theorem Jeu (b:Bool):Tells Tryz.prog 84 [Jb b] (.tup [JZ (isC b).1,int (isC b).2]):=by
 refine Jg Tryz.func84 rfl rfl fun nx=> ?_
 cases b
 ·refine stp ?_
  exact Jj rfl ⟨rfl,trivial⟩ Rf
 ·refine stp ?_
  exact Jj rfl ⟨rfl,trivial⟩ Rf
theorem Jgh (c:Cnd) (op:Int) (v:Nat):Tells Tryz.prog 241 [JZ c,int op,u64 v] (.tup [JZ (asC c op v).1,int (asC c op v).2]):=by
 refine Jg Tryz.func241 rfl rfl fun nx=> ?_
 refine stp ?_
 exact Jj rfl ⟨rfl,trivial⟩ Rf
theorem Jff (c:Cnd):Tells Tryz.prog 83 [JZ c] (Jb (Jad c)):=by
 refine Jg Tryz.func83 rfl rfl fun nx=> ?_
 (repeat' (refine stp ?_;intro c h;cases c))
 all_goals
  refine stp ?_
  refine Je rfl (JH ?_)
  (try simp only [JbS, JbT, JbU, JbV, JbD, JbE] at *)
  simp [Jad]
  omega
theorem Jju (c:Cnd) (v:Nat):Tells Tryz.prog 154 [JZ c,u64 v] (.tup [JZ (Ja8 c v).1,int (Ja8 c v).2]):=by
 refine Jg Tryz.func154 rfl rfl fun nx=> ?_
 refine stp ?_
 intro c h1;cases c
 ·refine stp ?_
  intro c h2;cases c
  ·refine stp ?_
   refine Jd rfl rfl (Jgh c 3 v) ⟨Rf,Rf,Rf,trivial⟩ fun nx=> ?_
   refine stp ?_
   (try simp only [JbS, JbT, JbU, JbV, JbD, JbE] at *)
   rw [Ja8,if_neg Om,if_neg Om]
   exact Jj rfl ⟨rfl,trivial⟩ Rf
  ·refine stp ?_
   refine Jd rfl rfl (Jgh c 1 0) ⟨Rf,Rf,Rf,trivial⟩ fun nx=> ?_
   refine stp ?_
   (try simp only [JbS, JbT, JbU, JbV, JbD, JbE] at *)
   rw [Ja8,if_neg Om,if_pos Om]
   exact Jj rfl ⟨rfl,trivial⟩ Rf
 ·refine stp ?_
  refine Jd rfl rfl (Jeu false) ⟨Rf,trivial⟩ fun nx=> ?_
  refine stp ?_
  (try simp only [JbS, JbT, JbU, JbV, JbD, JbE] at *)
  rw [Ja8,if_pos Om]
  exact Jj rfl ⟨rfl,trivial⟩ Rf
theorem Jlk (c:Cnd) (v:Nat):Tells Tryz.prog 156 [JZ c,u64 v] (.tup [JZ (JbI c v).1,int (JbI c v).2]):=by
 refine Jg Tryz.func156 rfl rfl fun nx=> ?_
 refine stp ?_
 intro c h1;cases c
 ·refine stp ?_
  intro c h2;cases c
  ·refine stp ?_
   refine Jd rfl rfl (Jgh c 6 v) ⟨Rf,Rf,Rf,trivial⟩ fun nx=> ?_
   refine stp ?_
   (try simp only [JbS, JbT, JbU, JbV, JbD, JbE] at *)
   rw [JbI,if_neg Om,if_neg Om]
   exact Jj rfl ⟨rfl,trivial⟩ Rf
  ·refine stp ?_
   refine Jd rfl rfl (Jgh c 1 v) ⟨Rf,Rf,Rf,trivial⟩ fun nx=> ?_
   refine stp ?_
   (try simp only [JbS, JbT, JbU, JbV, JbD, JbE] at *)
   rw [JbI,if_neg Om,if_pos Om]
   exact Jj rfl ⟨rfl,trivial⟩ Rf
 ·refine stp ?_
  refine Jd rfl rfl (Jeu true) ⟨Rf,trivial⟩ fun nx=> ?_
  refine stp ?_
  (try simp only [JbS, JbT, JbU, JbV, JbD, JbE] at *)
  rw [JbI,if_pos Om]
  exact Jj rfl ⟨rfl,trivial⟩ Rf
theorem Jjv {a b:Nat} (ha:a < 18446744073709551616) (hb:b < 18446744073709551616):Jbr .andNot .u64 a b=((Jku a b:Nat):Int):=
 Jio (k:= .u64) ha hb (by
  have:a&&& (2 ^ IntKind.u64.bits - 1 - b)≤a:=Nat.and_le_left
  have:a&&& (2 ^ IntKind.u64.bits - 1 - b) < 18446744073709551616:=by omega
  simp [IntKind.wrap,IntKind.signed,IntKind.bits] at this⊢
  omega)
theorem Jru (c:Cnd) (ho:c.ok):Tells Tryz.prog 152 [JZ c] (.tup [JZ (JdN c).1,int (JdN c).2]):=by
 refine Jg Tryz.func152 rfl rfl fun nx=> ?_
 refine stp ?_
 intro c h1;cases c
 all_goals
  rw [Jjv ho.2 ho.1] at h1
 ·refine stp ?_
  intro c h2;cases c
  ·refine stp ?_
   intro c h3;cases c
   ·refine stp ?_
    (try simp only [JbS, JbT, JbU, JbV, JbD, JbE] at *)
    rw [JdN,if_neg Om,if_neg Om,if_neg Om]
    exact Jj rfl ⟨rfl,trivial⟩ Rf
   ·refine stp ?_
    refine Jd rfl rfl (Jgh c 1 c.value) ⟨Rf,Rf,Rf,trivial⟩ fun nx=> ?_
    refine stp ?_
    (try simp only [JbS, JbT, JbU, JbV, JbD, JbE] at *)
    rw [JdN,if_neg Om,if_neg Om,if_pos Om]
    exact Jj rfl ⟨rfl,trivial⟩ Rf
  ·refine stp ?_
   refine Jd rfl rfl (Jeu true) ⟨Rf,trivial⟩ fun nx=> ?_
   refine stp ?_
   (try simp only [JbS, JbT, JbU, JbV, JbD, JbE] at *)
   rw [JdN,if_neg Om,if_pos Om]
   exact Jj rfl ⟨rfl,trivial⟩ Rf
 ·refine stp ?_
  refine Jd rfl rfl (Jeu false) ⟨Rf,trivial⟩ fun nx=> ?_
  refine stp ?_
  (try simp only [JbS, JbT, JbU, JbV, JbD, JbE] at *)
  rw [JdN,if_pos Om]
  exact Jj rfl ⟨rfl,trivial⟩ Rf
theorem Jll (c:Cnd):Tells Tryz.prog 151 [JZ c] (.tup [JZ c,int 0]):=by
 refine Jg Tryz.func151 rfl rfl fun nx=> ?_
 refine stp ?_
 exact Jj rfl ⟨rfl,trivial⟩ Rf
theorem JpM (c:Cnd):Tells Tryz.prog 153 [JZ c] (.tup [JZ (Ja8 c c.value).1,int (Ja8 c c.value).2]):=by
 refine Jg Tryz.func153 rfl rfl fun nx=> ?_
 refine stp ?_
 refine Jd rfl rfl (Jju c c.value) ⟨Rf,Rf,trivial⟩ fun nx=> ?_
 refine stp ?_
 exact Jj rfl ⟨rfl,trivial⟩ Rf
theorem JpN (c:Cnd):Tells Tryz.prog 155 [JZ c] (.tup [JZ (JbI c c.value).1,int (JbI c c.value).2]):=by
 refine Jg Tryz.func155 rfl rfl fun nx=> ?_
 refine stp ?_
 refine Jd rfl rfl (Jlk c c.value) ⟨Rf,Rf,trivial⟩ fun nx=> ?_
 refine stp ?_
 exact Jj rfl ⟨rfl,trivial⟩ Rf
def Jjw (c:Cnd):Cnd×Nat:=if c.value=18446744073709551615 then isC true else Ja8 c (c.value+1)
def Jhj (c:Cnd):Cnd×Nat:=if c.value=18446744073709551615 then isC false else JbI c (c.value+1)
theorem Jm8 {v:Nat} (h:v < 18446744073709551616) (h2:v≠18446744073709551615):IntKind.u64.wrap ((v:Int)+1)=((v+1:Nat):Int):=by
 simp [IntKind.wrap,IntKind.signed,IntKind.bits]
 omega
theorem Jrv {a b:Int} (h:a=b):AVle (.v (.int .u64 a)) (u64 b):=h ▸ Rf
theorem JpO (c:Cnd) (ho:c.ok):Tells Tryz.prog 157 [JZ c] (.tup [JZ (Jjw c).1,int (Jjw c).2]):=by
 refine Jg Tryz.func157 rfl rfl fun nx=> ?_
 refine stp ?_
 intro c h1;cases c
 · (try simp only [JbS, JbT, JbU, JbV, JbD, JbE] at *)
   have h2:c.value≠18446744073709551615:=by omega
   refine stp ?_
   refine Jd rfl rfl (Jju c (c.value+1)) ⟨Rf,Jrv (Jm8 ho.2 h2),trivial⟩ fun nx=> ?_
   refine stp ?_
   rw [Jjw,if_neg h2]
   exact Jj rfl ⟨rfl,trivial⟩ Rf
 ·refine stp ?_
  refine Jd rfl rfl (Jeu true) ⟨Rf,trivial⟩ fun nx=> ?_
  refine stp ?_
  (try simp only [JbS, JbT, JbU, JbV, JbD, JbE] at *)
  rw [Jjw,if_pos Om]
  exact Jj rfl ⟨rfl,trivial⟩ Rf
theorem JpP (c:Cnd) (ho:c.ok):Tells Tryz.prog 158 [JZ c] (.tup [JZ (Jhj c).1,int (Jhj c).2]):=by
 refine Jg Tryz.func158 rfl rfl fun nx=> ?_
 refine stp ?_
 intro c h1;cases c
 · (try simp only [JbS, JbT, JbU, JbV, JbD, JbE] at *)
   have h2:c.value≠18446744073709551615:=by omega
   refine stp ?_
   refine Jd rfl rfl (Jlk c (c.value+1)) ⟨Rf,Jrv (Jm8 ho.2 h2),trivial⟩ fun nx=> ?_
   refine stp ?_
   rw [Jhj,if_neg h2]
   exact Jj rfl ⟨rfl,trivial⟩ Rf
 ·refine stp ?_
  refine Jd rfl rfl (Jeu false) ⟨Rf,trivial⟩ fun nx=> ?_
  refine stp ?_
  (try simp only [JbS, JbT, JbU, JbV, JbD, JbE] at *)
  rw [Jhj,if_pos Om]
  exact Jj rfl ⟨rfl,trivial⟩ Rf
def fn0 (f:Nat):AV:= .fn (.func f) [] []
def JfC:List (Value×AV):= [(.int .i64 1,fn0 151),(.int .i64 2,fn0 151),(.int .i64 7,fn0 152),(.int .i64 3,fn0 153),(.int .i64 6,fn0 155),(.int .i64 4,fn0 157),(.int .i64 5,fn0 158)]
theorem JpQ:Tells Tryz.prog 85 [] (.fm JfC):=by
 refine Jg Tryz.func85 rfl rfl fun nx=> ?_
 (repeat ((conv=>whnf);first|refine ω0 ?_|refine ω1 ?_|refine ω2 ?_|refine ω3 ?_|refine ω4 rfl ?_|refine ω5 rfl ?_|refine ω6 ?_|refine ω7 ?_|refine ⟨rfl,?_⟩|refine ⟨trivial,?_⟩|refine ⟨⟨rfl,Nat.le_of_ble_eq_true rfl⟩,?_⟩|refine ⟨⟨by kernel_rfl,by kernel_rfl⟩,?_⟩|refine ⟨by decide,?_⟩|refine Jfy ?_|refine JeP ?_))
 refine AW.le (Jcm (L:= [(0, .fm JfC)]) (bx:= []) (pm:= []) (nn:=0) [((0,nx), .mp JfC)] rfl rfl Sf .slnil ⟨Frz.om (.head _),trivial⟩) ?_
 refine stp ?_
 refine Je rfl Rf
end Go.Proofs.W

namespace Go.Proofs
open Go.Shelf
shelf_lay Lays.n160 Nm 160 at Tryz as Tryz.lays160
shelf_lay Lays.n137 Nm 137 at Tryz as Tryz.lays137
end Go.Proofs
namespace Go.Proofs.W
open Go.Vl Go.Shelf
set_option maxRecDepth 100000
def lettersB:ByteArray:=⟨#[97,98,99,100,101,102,103,104,105,106,107,108,109,110,111,112,113,114,115,116,117,118,119,120,121,122]⟩
def signsB:ByteArray:=⟨#[97,98,99,100,101,102,103,104,105,106,107,108,109,110,111,112,113,114,115,116,117,118,119,120,121,122,48,49,50,51,52,53,54,55,56,57,95]⟩
theorem Jrw (s:ByteArray) (hs:s.size≤9223372036854775807):Tells Tryz.prog 255 [.v (.string s), .v (.string signsB)] (.v (.string ⟨(Lib.trimS s.data.toList signsB.data.toList).toArray⟩)):=
 JcF (vs:= [.string s, .string signsB]) ⟨_,Tryz.func255,rfl,rfl⟩ fun w=> Any.strings_Trim_laid Tryz.lays160 (by kernel_rfl) s signsB w hs Dc (ascii_of_all Dc)
theorem Jm9 (s:ByteArray) (c:Int):Tells Tryz.prog 256 [.v (.string s), .v (.int .u8 c)] (.v (.int .i64 (Lib.indexByte s.data.toList c.toNat.toUInt8))):=
 JcF (vs:= [.string s, .int .u8 c]) ⟨_,Tryz.func256,rfl,rfl⟩ fun w=> (Any.strings_IndexByte Tryz.lays137 s c w).mono fun e w' ⟨h1,h2⟩=> ⟨h1,by subst h2;exact ⟨rfl,rfl,rfl,Nat.le_refl _,fun _ _=> rfl⟩⟩
theorem JfX {p:UInt8→Bool}:∀ {l:List UInt8},l.dropWhile p= []↔l.all p=true
 | []=> by simp
 | x::l=> by
   rw [List.dropWhile_cons,List.all_cons]
   cases h:p x
   ·simp
   ·simp only [if_true,Bool.true_and];exact JfX
theorem Jjx {p:UInt8→Bool}:∀ {l:List UInt8} {y:UInt8} {ys:List UInt8},l.dropWhile p=y::ys→p y=false
 | [],y,ys,h=> by simp at h
 | x::l,y,ys,h=> by
   rw [List.dropWhile_cons] at h
   cases hx:p x
   ·rw [hx] at h
    simp at h
    rw [← h.1];exact hx
   ·rw [hx] at h
    simp only [if_true] at h
    exact Jjx h
theorem Jlm (l cs:List UInt8):Lib.trimS l cs= []↔l.all (cs.contains ·)=true:=by
 unfold Lib.trimS Lib.trimLeftS Lib.trimRightS
 rw [JfX,List.all_reverse]
 constructor
 ·intro h
  cases hq:l.reverse.dropWhile (cs.contains ·) with
  | nil=> rw [JfX,List.all_reverse] at hq;exact hq
  | cons y ys=>
    have hy:=Jjx hq
    rw [hq,List.all_cons,hy] at h
    cases h
 ·intro h
  have:l.reverse.dropWhile (cs.contains ·)= []:=by rw [JfX,List.all_reverse];exact h
  rw [this];rfl
theorem JpR (l:List UInt8) (c:UInt8):(0≤Lib.indexByte l c↔c∈l)∧-1≤Lib.indexByte l c:=by
 induction l with
 | nil=> simp [Lib.indexByte]
 | cons b l ih=>
   obtain ⟨h1,h2⟩:=ih
   unfold Lib.indexByte
   by_cases hb:b=c
   ·subst hb;simp
   ·have hbe:(b ==c)=false:=by simpa using hb
    rw [hbe]
    simp only [Bool.false_eq_true,if_false]
    by_cases hi:Lib.indexByte l c=-1
    ·have:¬c∈l:=fun h=> by have:=h1.2 h;omega
     rw [if_pos (by rw [hi];rfl)]
     simp [this,Ne.symm hb]
    ·rw [if_neg (by simpa using hi)]
     have hm:c∈l:=h1.1 Om
     simp [hm]
     omega
def JiS:List UInt8:= [100,101,102,97,117,108,116]
def Jtd:List UInt8:= [120,51,50]
def Jar (l:List UInt8):Bool:= !(l == [])&& (!(l ==JiS)&& (!(l ==Jtd)&& (decide (l.length≤30)&& (l.all (signsB.data.toList.contains ·)&& lettersB.data.toList.contains (l.headD 0)))))
theorem JpS {l:List UInt8} (h:false= !(l == [])):Jar l=false:=by rw [Jar,← h];rfl
theorem JpT {l:List UInt8} (h:false= !(l ==JiS)):Jar l=false:=by rw [Jar,← h];simp
theorem JpU {l:List UInt8} (h:false= !(l ==Jtd)):Jar l=false:=by rw [Jar,← h];simp
theorem JpV {l:List UInt8} (h:¬l.length≤30):Jar l=false:=by rw [Jar,decide_eq_false h];simp
theorem JpW {l : List UInt8} (h : ¬ l.all (signsB.data.toList.contains ·) = true) : Jar l = false := by rw [Jar, Bool.not_eq_true _ |>.mp h]; simp
theorem Jte {l:List UInt8} (h1:true= !(l == [])) (h2:true= !(l ==JiS)) (h3:true= !(l ==Jtd)) (h4:l.length≤30) (h5:l.all (signsB.data.toList.contains ·)=true):Jar l=lettersB.data.toList.contains (l.headD 0):=by
 rw [Jar,← h1,← h2,← h3,decide_eq_true h4,h5];rfl
theorem Jna {s:ByteArray} (h:¬s.data.toList= []):0 < s.size:=by
 rcases Nat.eq_zero_or_pos s.size with h0 | h0
 ·exfalso;apply h
  have:s.data.toList.length=0:=h0
  exact List.length_eq_zero_iff.1 this
 ·exact h0
theorem Jrx (l:List UInt8):(⟨l.toArray⟩:ByteArray).toList=l:=by rw [Lib.toList_data]
theorem Jjy (s:ByteArray) (hs:s.size≤9223372036854775807):Tells Tryz.prog 185 [.v (.string s)] (Jb (Jar s.data.toList)):=by
 have hsz:s.size=s.data.toList.length:=rfl
 refine Jg Tryz.func185 rfl rfl fun nx=> ?_
 refine stp ?_
 intro c t1
 rw [Lib.toList_data,Lib.toList_data] at t1
 cases c
 ·refine stp ?_
  exact Je rfl (JH (JpS t1).symm)
 refine stp ?_
 intro c t2
 rw [Lib.toList_data,Lib.toList_data] at t2
 cases c
 ·refine stp ?_
  exact Je rfl (JH (JpT t2).symm)
 refine stp ?_
 intro c t3
 rw [Lib.toList_data,Lib.toList_data] at t3
 cases c
 ·refine stp ?_
  exact Je rfl (JH (JpU t3).symm)
 refine stp ?_
 intro c t4;cases c
 ·refine stp ?_
  exact Je rfl (JH (JpV (by have:=Ju t4;omega)).symm)
 have h4:s.data.toList.length≤30:=by have:=Jv t4;omega
 refine stp ?_
 refine Jd rfl rfl (Jrw s hs) ⟨Rf,Rf,trivial⟩ fun nx1=> ?_
 refine stp ?_
 intro c t5
 rw [Jrx,Lib.toList_data] at t5
 cases c
 ·have h5:¬Lib.trimS s.data.toList signsB.data.toList= []:=by simpa using t5
  rw [Jlm] at h5
  refine stp ?_
  exact Je rfl (JH (JpW h5).symm)
 have h5:Lib.trimS s.data.toList signsB.data.toList= []:=by simpa using t5
 rw [Jlm] at h5
 have h0:¬s.data.toList= []:=by simpa using t1
 refine stp ?_
 refine ⟨⟨by decide,by have:=Jna h0;show (0:Int) < (s.size:Int);omega⟩, ?_⟩
 refine stp ?_
 refine Jd rfl rfl (Jm9 lettersB _) ⟨Rf,Rf,trivial⟩ fun nx2=> ?_
 refine stp ?_
 intro c t6
 refine stp ?_
 have e1:(((s.data.getD (Int.toNat 0) 0).toNat:Int)).toNat.toUInt8=s.data.toList.headD 0:=by
  have hh:s.data.getD 0 0=s.data.toList.headD 0:=by
   have:=Jna h0
   cases hq:s.data.toList with
   | nil=> exact absurd hq h0
   | cons x xs=>
     have h2:s.data=(x::xs).toArray:=by rw [← hq]
     rw [h2];rfl
  show (((s.data.getD 0 0).toNat:Int)).toNat.toUInt8=_
  rw [hh,Int.toNat_natCast]
  simp
 refine Je rfl (JH (t6.trans ?_))
 rw [Jte t1 t2 t3 h4 h5,e1,Bool.eq_iff_iff,decide_eq_true_eq]
 exact (JpR _ _).1.trans (by simp)
end Go.Proofs.W

namespace Go.Proofs.W
open Go.Vl
set_option maxRecDepth 100000
theorem NoId.fm {es:List (Value×AV)} (h:∀p∈es,NoId p.2):NoId (.fm es):=fun w X g g' u hr=> by
 cases hr with
 | fm _ b ents hb hx hn hk hr=> exact .fm es b ents hb hx hn hk fun k p e hp he=> h p (List.mem_of_getElem? hp) w X g g' _ (hr k p e hp he)
theorem JpX:NoId (.fm JfC):=NoId.fm (by
 intro p hp
 simp only [JfC,List.mem_cons,List.not_mem_nil,or_false] at hp
 rcases hp with rfl | rfl | rfl | rfl | rfl | rfl | rfl <;> exact NoId.fn (by simp) (by simp))
theorem Jtf (c:Cnd) (n:Int):NoId (.tup [JZ c,int n]):=NoId.tup (by
 intro x hx
 simp only [List.mem_cons,List.not_mem_nil,or_false] at hx
 rcases hx with rfl | rfl
 ·exact NoId.ag (by intro y hy;simp only [List.mem_cons,List.not_mem_nil,or_false] at hy;rcases hy with rfl | rfl | rfl | rfl <;> exact NoId.v _)
 ·exact NoId.v _)
theorem Jry (c:Cnd) (ho:c.ok):Tells Tryz.prog 35 [JZ c] (.tup [JZ (JaA c).1,int (JaA c).2]):=by
 cases hr:Jad c
 ·refine Jg Tryz.func35 rfl rfl fun nx=> ?_
  refine stp ?_
  refine Jd rfl rfl (Jff c) ⟨Rf,trivial⟩ fun nx=> ?_
  rw [hr]
  refine stp ?_
  refine Jd rfl rfl (Jeu false) ⟨Rf,trivial⟩ fun nx=> ?_
  refine stp ?_
  rw [JaA,hr]
  exact Jj rfl ⟨rfl,trivial⟩ Rf
 ·have hop:=Jco.1 hr
  have key:∀f:Nat,∀q:Cnd×Nat,Jbs c=q→Ja1 (.int .i64 c.op) JfC=some (fn0 f)→Tells Tryz.prog f [JZ c] (.tup [JZ q.1,int q.2])→Tells Tryz.prog 35 [JZ c] (.tup [JZ (JaA c).1,int (JaA c).2]):=by
   intro f q hq hal hf
   refine Jg Tryz.func35 rfl rfl fun nx=> ?_
   refine stp ?_
   refine Jd rfl rfl (Jff c) ⟨Rf,trivial⟩ fun nx=> ?_
   rw [hr]
   refine stp ?_
   (refine J1 8 ?_ ?_ ?_ ?_;(· kernel_rfl);(· kernel_rfl);(· kernel_rfl))
   refine stp ?_
   refine Jcn (JaL rfl rfl JpQ trivial JpX) ?_
   refine stp ?_
   refine JP (b:=fn0 f) (by
    show JeC (Ja1 (.int .i64 c.op) JfC) _ false=_
    rw [hal];rfl) ?_
   refine stp ?_
   refine Jcn (JaL rfl rfl hf ⟨Rf,trivial⟩ (Jtf _ _)) ?_
   refine stp ?_
   rw [JaA,if_pos hr,hq]
   exact Jj rfl ⟨rfl,trivial⟩ Rf
  obtain ⟨arg,op,mask,value⟩:=c
  dsimp only at hop
  have h7:op=1∨op=2∨op=3∨op=4∨op=5∨op=6∨op=7:=by omega
  rcases h7 with rfl | rfl | rfl | rfl | rfl | rfl | rfl
  ·exact key _ (⟨arg,1,mask,value⟩,0) rfl rfl (Jll _)
  ·exact key _ (⟨arg,2,mask,value⟩,0) rfl rfl (Jll _)
  ·exact key _ (Ja8 ⟨arg,3,mask,value⟩ value) rfl rfl (JpM _)
  ·exact key _ (Jjw ⟨arg,4,mask,value⟩) rfl rfl (JpO _ ho)
  ·exact key _ (Jhj ⟨arg,5,mask,value⟩) rfl rfl (JpP _ ho)
  ·exact key _ (JbI ⟨arg,6,mask,value⟩ value) rfl rfl (JpN _)
  ·exact key _ (JdN ⟨arg,7,mask,value⟩) rfl rfl (Jru _ ho)
theorem Jur {a b:Nat} (ha:a < 18446744073709551616) (hb:b < 18446744073709551616):Jbr .and .u64 a b=((a&&& b:Nat):Int):=
 JiP (k:= .u64) ha hb (by
  have:a&&& b≤a:=Nat.and_le_left
  simp [IntKind.wrap,IntKind.signed,IntKind.bits] at this⊢
  omega)
end Go.Proofs.W

namespace Go.Proofs.W
open Go.Vl
set_option maxRecDepth 100000
def Jf (s:ByteArray):AV:= .v (.string s)
def JpY:List AV:= [
 .ag [Jf ⟨#[61,61]⟩,fn0 159],
 .ag [Jf ⟨#[33,61]⟩,fn0 160],
 .ag [Jf ⟨#[60]⟩,fn0 161],
 .ag [Jf ⟨#[60,61]⟩,fn0 162],
 .ag [Jf ⟨#[62]⟩,fn0 163],
 .ag [Jf ⟨#[62,61]⟩,fn0 164],
 .ag [Jf ⟨#[38]⟩,fn0 165]]
theorem Jtg:Tells Tryz.prog 86 [] (.sl 2 7 (Jdz JpY)):=by
 refine Jg Tryz.func86 rfl rfl fun nx=> ?_
 refine stp ?_
 refine Je rfl (Jkh ⟨⟨⟨⟨⟨⟨⟨trivial,rfl⟩,rfl⟩,rfl⟩,rfl⟩,rfl⟩,rfl⟩,rfl⟩)
theorem Jrz (c:Cnd):NoId (JZ c):=NoId.ag (by intro y hy;simp only [List.mem_cons,List.not_mem_nil,or_false] at hy;rcases hy with rfl | rfl | rfl | rfl <;> exact NoId.v _)
theorem Jth:NoId (.sl 2 7 (Jdz JpY)):=NoId.sl (by
 intro i hi x hx
 match i,hi with
 | 0,_ | 1,_ | 2,_ | 3,_ | 4,_ | 5,_ | 6,_=> rcases List.mem_cons.1 hx with rfl | hx;exact NoId.v _;rcases List.mem_cons.1 hx with rfl | hx;exact NoId.fn (by simp) (by simp);cases hx)
end Go.Proofs.W

namespace Go.Proofs.W
open Go.Vl
set_option maxRecDepth 100000
def JeR (n:Int):AV:= .fn (.func 362) [] [.rp [int n]]
theorem Jti (n:Int) (h:0≤n∧n≤100000):Tells Tryz.prog 362 [.rp [int n]] (int (n - 1)):=by
 refine Jg Tryz.func362 rfl rfl fun nx=> ?_
 refine stp ?_
 refine Je rfl (Jk (JaX Om Om))
theorem Jnb (n:Int):Tells Tryz.prog 301 [int n] (JeR n):=by
 refine Jg Tryz.func301 rfl rfl fun nx=> ?_
 (repeat ((conv=>whnf);first|refine ω0 ?_|refine ω1 ?_|refine ω2 ?_|refine ω3 ?_|refine ω4 rfl ?_|refine ω5 rfl ?_|refine ω6 ?_|refine ω7 ?_|refine ⟨rfl,?_⟩|refine ⟨trivial,?_⟩|refine ⟨⟨rfl,Nat.le_of_ble_eq_true rfl⟩,?_⟩|refine ⟨⟨by kernel_rfl,by kernel_rfl⟩,?_⟩|refine ⟨by decide,?_⟩|refine Jfy ?_|refine JeP ?_))
 refine AW.le (Jcm (L:= [(2,JeR n)]) (bx:= []) (pm:= []) (nn:=0) [((0,nx), .c [int n])] rfl rfl Sf Sf ⟨Frz.fn trivial ⟨Frz.bp (.head _) rfl,trivial⟩,trivial⟩) ?_
 refine stp ?_
 refine Je rfl Rf
def Jfg:List AV:= [
 .ag [.v (.string ⟨#[107,105,108,108]⟩), .v (.int .u32 2147483648), .v .nilFunc],
 .ag [.v (.string ⟨#[107,105,108,108,95,116,104,114,101,97,100]⟩), .v (.int .u32 0), .v .nilFunc],
 .ag [.v (.string ⟨#[116,114,97,112]⟩), .v (.int .u32 196608), .v .nilFunc],
 .ag [.v (.string ⟨#[101,114,114,110,111]⟩), .v (.int .u32 327680),JeR 4096],
 .ag [.v (.string ⟨#[110,111,116,105,102,121]⟩), .v (.int .u32 2143289344), .v .nilFunc],
 .ag [.v (.string ⟨#[116,114,97,99,101]⟩), .v (.int .u32 2146435072),JeR 65536],
 .ag [.v (.string ⟨#[108,111,103]⟩), .v (.int .u32 2147221504), .v .nilFunc],
 .ag [.v (.string ⟨#[97,108,108,111,119]⟩), .v (.int .u32 2147418112), .v .nilFunc]]
def JpZ:AV:= .sl 3 8 (Jdz Jfg)
theorem JiT:Tells Tryz.prog 246 [] JpZ:=by
 refine Jg Tryz.func246 rfl rfl fun nx=> ?_
 refine stp ?_
 refine Jd rfl rfl (Jnb 4096) ⟨Rf,trivial⟩ fun nx=> ?_
 refine stp ?_
 refine Jd rfl rfl (Jnb 65536) ⟨Rf,trivial⟩ fun nx=> ?_
 refine stp ?_
 refine Je rfl (Jkh ⟨⟨⟨⟨⟨⟨⟨⟨trivial,rfl⟩,rfl⟩,rfl⟩,rfl⟩,rfl⟩,rfl⟩,rfl⟩,rfl⟩)
theorem Jus (k:Int) (h:k < 1∨8 < k):Tells Tryz.prog 172 [int k] (.tup [.ag [.v (.string ⟨#[]⟩), .v (.int .u32 0), .v .nilFunc],Jb false]):=by
 refine Jg Tryz.func172 rfl rfl fun nx=> ?_
 refine stp ?_
 refine Jd rfl rfl JiT trivial fun nx=> ?_
 refine stp ?_
 intro c h1;cases c
 ·refine stp ?_
  intro c h2;cases c
  ·simp at h1 h2;omega
  ·refine stp ?_
   (refine Jj rfl ?_ ?_;(· exact ⟨rfl,trivial⟩));exact Rf
 ·refine stp ?_
  (refine Jj rfl ?_ ?_;(· exact ⟨rfl,trivial⟩));exact Rf
theorem Jnc (k:Nat) (h:k < 8):Tells Tryz.prog 172 [int (k+1)] (.tup [Jdz Jfg k,Jb true]):=by
 refine Jg Tryz.func172 rfl rfl fun nx=> ?_
 refine stp ?_
 refine Jd rfl rfl JiT trivial fun nx=> ?_
 refine stp ?_
 intro c h1;cases c
 ·refine stp ?_
  rcases k with _ | _ | _ | _ | _ | _ | _ | _ | k
  iterate 8
   ·refine ⟨⟨by decide,by decide⟩, ?_⟩
    refine stp ?_
    (refine Jj rfl ?_ ?_;(· exact ⟨rfl,trivial⟩));exact Rf
  ·omega
 ·simp at h1;omega
def Jjz (k:Int):Int:=if k=4 then 4095 else if k=6 then 65535 else 0
def act (k n:Int):AV:= .ag [int k,int n]
def Ja9 (k n:Int):Bool:=decide (1≤k)&& decide (k≤8)&& decide (0≤n)&& decide (n≤Jjz k)
end Go.Proofs.W

namespace Go.Proofs.W
open Go.Vl
set_option maxRecDepth 100000
theorem Jce (s:ByteArray) (c:Int):Tells Tryz.prog 242 [.ag [.v (.string s), .v (.int .u32 c), .v .nilFunc]] (int 0):=by
 refine Jg Tryz.func242 rfl rfl fun nx=> ?_
 refine stp ?_
 refine Je rfl Rf
theorem JfY (s:ByteArray) (c n:Int) (h:0≤n∧n≤100000):Tells Tryz.prog 242 [.ag [.v (.string s), .v (.int .u32 c),JeR n]] (int (n - 1)):=by
 refine Jg Tryz.func242 rfl rfl fun nx=> ?_
 refine stp ?_
 refine Jd rfl rfl (Jti n h) ⟨Rf,trivial⟩ fun nx=> ?_
 refine stp ?_
 refine Je rfl Rf
theorem JgJ (k:Nat) (h:k < 8):∃s c m,Jdz Jfg k= .ag [.v (.string s), .v (.int .u32 c),m]∧(m= .v .nilFunc∨∃n,m=JeR n)∧Tells Tryz.prog 242 [Jdz Jfg k] (int (Jjz (k+1))):=by
 rcases k with _ | _ | _ | _ | _ | _ | _ | _ | k
 ·exact ⟨_,_,_,rfl, .inl rfl,Jce _ _⟩
 ·exact ⟨_,_,_,rfl, .inl rfl,Jce _ _⟩
 ·exact ⟨_,_,_,rfl, .inl rfl,Jce _ _⟩
 ·exact ⟨_,_,_,rfl, .inr ⟨_,rfl⟩,JfY _ _ 4096 Dc⟩
 ·exact ⟨_,_,_,rfl, .inl rfl,Jce _ _⟩
 ·exact ⟨_,_,_,rfl, .inr ⟨_,rfl⟩,JfY _ _ 65536 Dc⟩
 ·exact ⟨_,_,_,rfl, .inl rfl,Jce _ _⟩
 ·exact ⟨_,_,_,rfl, .inl rfl,Jce _ _⟩
 ·omega
theorem Jp0 {k n:Int} (h:k < 1∨8 < k):Ja9 k n=false:=by simp [Ja9];omega
theorem Jvv (k n:Int) (m:AV) (s:ByteArray) (c:Int) (hm:m= .v .nilFunc∨∃n,m=JeR n) (hk:1≤k∧k≤8)
 (h26:Tells Tryz.prog 172 [int k] (.tup [.ag [.v (.string s), .v (.int .u32 c),m],Jb true])) (h27:Tells Tryz.prog 242 [.ag [.v (.string s), .v (.int .u32 c),m]] (int (Jjz k))):
 Tells Tryz.prog 167 [act k n] (Jb (Ja9 k n)):=by
 refine Jg Tryz.func167 rfl rfl fun nx=> ?_
 refine stp ?_
 refine Jd rfl rfl h26 ⟨Rf,trivial⟩ fun nx=> ?_
 rcases hm with rfl | ⟨n',rfl⟩
 all_goals
  refine stp ?_
  (refine J1 13 ?_ ?_ ?_ ?_;(· kernel_rfl);(· kernel_rfl);(· kernel_rfl))
  refine stp ?_
  intro c h1;cases c
  ·refine stp ?_
   refine Je rfl (JH ?_)
   simp at h1;simp [Ja9];omega
  refine stp ?_
  refine Jcn (JaL rfl rfl h27 ⟨Rf,trivial⟩ (NoId.v _)) ?_
  refine stp ?_
  intro c h2;cases c
  ·refine stp ?_
   refine Je rfl (JH ?_)
   simp at h1 h2;simp [Ja9];omega
  ·refine stp ?_
   refine Je rfl (JH ?_)
   simp at h1 h2;simp [Ja9];omega
theorem JiU (k n:Int):Tells Tryz.prog 167 [act k n] (Jb (Ja9 k n)):=by
 by_cases hk:k < 1∨8 < k
 ·refine Jg Tryz.func167 rfl rfl fun nx=> ?_
  refine stp ?_
  refine Jd rfl rfl (Jus k hk) ⟨Rf,trivial⟩ fun nx=> ?_
  refine stp ?_
  (refine J1 13 ?_ ?_ ?_ ?_;(· kernel_rfl);(· kernel_rfl);(· kernel_rfl))
  refine stp ?_
  refine Je rfl (JH (Jp0 hk).symm)
 ·obtain ⟨j,hj,rfl⟩:∃j:Nat,j < 8∧k=(j:Int)+1:=⟨(k - 1).toNat,by omega,by omega⟩
  obtain ⟨s,c,m,hr,ho,hm⟩:=JgJ j hj
  have h26:=Jnc j hj
  rw [hr] at h26 hm
  exact Jvv _ n m s c ho Om h26 hm
abbrev A2:=Int×Int
def Jtj (a:A2):AV:=act a.1 a.2
theorem Jhk {α:Type} {p:α→Bool} {l:List α} {i:Nat} (d:α) (hi:i < l.length) (hb:∀j,j < i→p (l.getD j d)=false) (h:p (l.getD i d)=true):l.findIdx? p=some i:=by
 rw [List.findIdx?_eq_some_iff_getElem]
 refine ⟨hi,by simpa [List.getD,hi] using h,fun j hj=> ?_⟩
 have:=hb j hj
 have hj':j < l.length:=by omega
 simpa [List.getD,hj'] using this
theorem JfD {α:Type} {p:α→Bool} {l:List α} (d:α) (hb:∀j,j < l.length→p (l.getD j d)=false):l.findIdx? p=none:=by
 rw [List.findIdx?_eq_none_iff]
 intro x hx
 obtain ⟨j,hj,rfl⟩:=List.getElem_of_mem hx
 have:=hb j hj
 simpa [List.getD,hj] using this
def Jhl:Option Nat→Int
 | some i=> i
 | none=> -1
theorem JeI (o:Option Nat):decide (0≤Jhl o)=o.isSome:=by cases o <;> simp [Jhl]
end Go.Proofs.W

namespace Go.Proofs.W
open Go.Vl
set_option maxRecDepth 100000
structure Rul where
 name:ByteArray
 act:A2
 conds:List Cnd
structure Pol where
 dflt:A2
 x32:Bool
 rules:List Rul
def Jl:Rul:=⟨⟨#[]⟩,(0,0), []⟩
def Jaf (r:Rul):AV:= .ag [Jf r.name,int r.act.1,int r.act.2,JaS r.conds]
def Ji (l:List Rul):AV:=JF 4 Jaf Jl l
def JbN (p:Pol):AV:= .ag [int p.dflt.1,int p.dflt.2,Jb p.x32,Ji p.rules]
theorem Jtk (l:List Int) (p:Int→Bool) (f:Nat) (hl:l.length≤1000000000) (hp:∀i,i < l.length→Tells Tryz.prog f [int (l.getD i 0)] (Jb (p (l.getD i 0)))):
 Tells Tryz.prog 317 [JF 1 int 0 l,fn0 f] (int (Jhl (l.findIdx? p))):=by
 refine Jg Tryz.func317 rfl rfl fun nx=> ?_
 refine stp ?_
 refine Jy (fun s:Nat×Nat=> mk 19 [(0,JF 1 int 0 l),(1,fn0 f),(7,int l.length),(8,int s.1)] ⟨[], [],s.2,0⟩) (fun s=> s.1≤l.length∧∀j,j < s.1→p (l.getD j 0)=false) (fun s=> l.length - s.1) ?_ ?_
 ·exact ⟨(0,nx),⟨by simp,by intro j hj;simp at hj⟩,JaI rfl rfl ⟨Rf,Rf,Rf,Rf,trivial⟩⟩
 ·rintro ⟨i,nx⟩ ⟨h1,h2⟩
  dsimp only at h1 h2
  refine stp ?_
  intro c h3;cases c
  ·have h3:=Ju h3
   dsimp only at h3
   refine stp ?_
   refine Je rfl (Jk ?_)
   rw [JfD 0 (fun j hj=> h2 j Om)];rfl
  ·have h3:=Jv h3
   dsimp only at h3
   have hi:i < l.length:=by omega
   refine stp ?_
   refine ⟨⟨by dsimp only;omega,by dsimp only;omega⟩, ?_⟩
   refine stp ?_
   refine Jd rfl rfl (hp i hi) ⟨Rf,trivial⟩ fun nx'=> ?_
   intro c h4;cases c
   ·refine stp ?_
    refine back (i+1,nx') ⟨by dsimp only;omega,fun j hj=> ?_⟩ Dm (JaI rfl rfl ⟨Rf,Rf,Rf,Jk (J7 Dm),trivial⟩)
    dsimp only at hj
    rcases Nat.lt_or_ge j i with h | h
    ·exact h2 j h
    ·obtain rfl:j=i:=by omega
     exact h4.symm
   ·refine stp ?_
    refine Je rfl (Jk ?_)
    rw [Jhk 0 hi h2 h4.symm];rfl
theorem Jnd (l:List Int) (p:Int→Bool) (f:Nat) (hl:l.length≤1000000000) (hp:∀i,i < l.length→Tells Tryz.prog f [int (l.getD i 0)] (Jb (p (l.getD i 0)))):
 Tells Tryz.prog 257 [JF 1 int 0 l,fn0 f] (Jb (l.any p)):=by
 refine Jg Tryz.func257 rfl rfl fun nx=> ?_
 refine stp ?_
 refine Jd rfl rfl (Jtk l p f hl hp) ⟨Rf,Rf,trivial⟩ fun nx'=> ?_
 refine stp ?_
 intro c h;cases c
 all_goals
  refine stp ?_
  refine Je rfl (JH ?_)
  rw [h,← List.findIdx?_isSome]
  exact JeI _
theorem Jtl (l:List Cnd) (p:Cnd→Bool) (f:Nat) (hl:l.length≤1000000000) (hp:∀i,i < l.length→Tells Tryz.prog f [JZ (l.getD i cnd0)] (Jb (p (l.getD i cnd0)))):
 Tells Tryz.prog 188 [JF 4 JZ cnd0 l,fn0 f] (int (Jhl (l.findIdx? p))):=by
 refine Jg Tryz.func188 rfl rfl fun nx=> ?_
 refine stp ?_
 refine Jy (fun s:Nat×Nat=> mk 19 [(0,JF 4 JZ cnd0 l),(1,fn0 f),(7,int l.length),(8,int s.1)] ⟨[], [],s.2,0⟩) (fun s=> s.1≤l.length∧∀j,j < s.1→p (l.getD j cnd0)=false) (fun s=> l.length - s.1) ?_ ?_
 ·exact ⟨(0,nx),⟨by simp,by intro j hj;simp at hj⟩,JaI rfl rfl ⟨Rf,Rf,Rf,Rf,trivial⟩⟩
 ·rintro ⟨i,nx⟩ ⟨h1,h2⟩
  dsimp only at h1 h2
  refine stp ?_
  intro c h3;cases c
  ·have h3:=Ju h3
   dsimp only at h3
   refine stp ?_
   refine Je rfl (Jk ?_)
   rw [JfD cnd0 (fun j hj=> h2 j Om)];rfl
  ·have h3:=Jv h3
   dsimp only at h3
   have hi:i < l.length:=by omega
   refine stp ?_
   refine ⟨⟨by dsimp only;omega,by dsimp only;omega⟩, ?_⟩
   refine stp ?_
   refine Jd rfl rfl (hp i hi) ⟨Rf,trivial⟩ fun nx'=> ?_
   intro c h4;cases c
   ·refine stp ?_
    refine back (i+1,nx') ⟨by dsimp only;omega,fun j hj=> ?_⟩ Dm (JaI rfl rfl ⟨Rf,Rf,Rf,Jk (J7 Dm),trivial⟩)
    dsimp only at hj
    rcases Nat.lt_or_ge j i with h | h
    ·exact h2 j h
    ·obtain rfl:j=i:=by omega
     exact h4.symm
   ·refine stp ?_
    refine Je rfl (Jk ?_)
    rw [Jhk cnd0 hi h2 h4.symm];rfl
theorem Jne (l:List Cnd) (p:Cnd→Bool) (f:Nat) (hl:l.length≤1000000000) (hp:∀i,i < l.length→Tells Tryz.prog f [JZ (l.getD i cnd0)] (Jb (p (l.getD i cnd0)))):
 Tells Tryz.prog 102 [JF 4 JZ cnd0 l,fn0 f] (Jb (l.any p)):=by
 refine Jg Tryz.func102 rfl rfl fun nx=> ?_
 refine stp ?_
 refine Jd rfl rfl (Jtl l p f hl hp) ⟨Rf,Rf,trivial⟩ fun nx'=> ?_
 refine stp ?_
 intro c h;cases c
 all_goals
  refine stp ?_
  refine Je rfl (JH ?_)
  rw [h,← List.findIdx?_isSome]
  exact JeI _
theorem Jtm (l:List Rul) (p:Rul→Bool) (f:Nat) (hl:l.length≤1000000000) (hp:∀i,i < l.length→Tells Tryz.prog f [Jaf (l.getD i Jl)] (Jb (p (l.getD i Jl)))):
 Tells Tryz.prog 106 [JF 4 Jaf Jl l,fn0 f] (int (Jhl (l.findIdx? p))):=by
 refine Jg Tryz.func106 rfl rfl fun nx=> ?_
 refine stp ?_
 refine Jy (fun s:Nat×Nat=> mk 19 [(0,JF 4 Jaf Jl l),(1,fn0 f),(7,int l.length),(8,int s.1)] ⟨[], [],s.2,0⟩) (fun s=> s.1≤l.length∧∀j,j < s.1→p (l.getD j Jl)=false) (fun s=> l.length - s.1) ?_ ?_
 ·exact ⟨(0,nx),⟨by simp,by intro j hj;simp at hj⟩,JaI rfl rfl ⟨Rf,Rf,Rf,Rf,trivial⟩⟩
 ·rintro ⟨i,nx⟩ ⟨h1,h2⟩
  dsimp only at h1 h2
  refine stp ?_
  intro c h3;cases c
  ·have h3:=Ju h3
   dsimp only at h3
   refine stp ?_
   refine Je rfl (Jk ?_)
   rw [JfD Jl (fun j hj=> h2 j Om)];rfl
  ·have h3:=Jv h3
   dsimp only at h3
   have hi:i < l.length:=by omega
   refine stp ?_
   refine ⟨⟨by dsimp only;omega,by dsimp only;omega⟩, ?_⟩
   refine stp ?_
   refine Jd rfl rfl (hp i hi) ⟨Rf,trivial⟩ fun nx'=> ?_
   intro c h4;cases c
   ·refine stp ?_
    refine back (i+1,nx') ⟨by dsimp only;omega,fun j hj=> ?_⟩ Dm (JaI rfl rfl ⟨Rf,Rf,Rf,Jk (J7 Dm),trivial⟩)
    dsimp only at hj
    rcases Nat.lt_or_ge j i with h | h
    ·exact h2 j h
    ·obtain rfl:j=i:=by omega
     exact h4.symm
   ·refine stp ?_
    refine Je rfl (Jk ?_)
    rw [Jhk Jl hi h2 h4.symm];rfl
theorem Jtn (l:List Rul) (p:Rul→Bool) (f:Nat) (hl:l.length≤1000000000) (hp:∀i,i < l.length→Tells Tryz.prog f [Jaf (l.getD i Jl)] (Jb (p (l.getD i Jl)))):
 Tells Tryz.prog 168 [JF 4 Jaf Jl l,fn0 f] (Jb (l.any p)):=by
 refine Jg Tryz.func168 rfl rfl fun nx=> ?_
 refine stp ?_
 refine Jd rfl rfl (Jtm l p f hl hp) ⟨Rf,Rf,trivial⟩ fun nx'=> ?_
 refine stp ?_
 intro c h;cases c
 all_goals
  refine stp ?_
  refine Je rfl (JH ?_)
  rw [h,← List.findIdx?_isSome]
  exact JeI _
end Go.Proofs.W

namespace Go.Proofs.W
open Go.Vl
set_option maxRecDepth 100000
def Jp1 (s:ByteArray):AV:= .ag [Jf s,int (-1),int (-1),int (-1),int (-1),int (-1),int 0,int 0]
def JdU (n:Int):Bool:=decide (n < -1)|| decide (n > 1073741823)
theorem Jhm (n:Int):Tells Tryz.prog 258 [int n] (Jb (JdU n)):=by
 refine Jg Tryz.func258 rfl rfl fun nx=> ?_
 refine stp ?_
 intro c t1;cases c
 ·refine stp ?_
  intro c t2;cases c
  ·refine stp ?_
   exact Je rfl (JH (by rw [JdU,← t1,← t2];rfl))
  ·refine stp ?_
   exact Je rfl (JH (by rw [JdU,← t1,← t2];rfl))
 ·refine stp ?_
  exact Je rfl (JH (by rw [JdU,← t1];rfl))
theorem Jop (s:ByteArray):Tells Tryz.prog 186 [Jp1 s] (Jb true):=by
 have hc:=Jnd [-1,-1,-1,-1,-1] JdU 258 Dc (fun i _=> Jhm _)
 rw [show [(-1:Int),-1,-1,-1,-1].any JdU=false by decide] at hc
 refine Jg Tryz.func186 rfl rfl fun nx=> ?_
 (refine JU ?_;refine Jaq ?_;refine JU ?_)
 refine JbC (n:=30) (nx:=nx+1) (nn:=1) (pm:= []) (bx:= []) (L:= [(1, .rp [Jf s,int (-1),int (-1),int (-1),int (-1),int (-1),int 0,int 0])]) (df:=some []) [((0,nx), .c [Jf s,int (-1),int (-1),int (-1),int (-1),int (-1),int 0,int 0])] rfl rfl rfl (List.Perm.refl _) Sf ⟨Frz.bp (.head _) rfl,trivial⟩ ?_
 refine JQ (fun n=> match n with | 0=> true | _=> false) 2 ?_
 refine stp ?_
 refine Jk9 (n:=5) (e:=3) (cs:= [int (-1),int (-1),int (-1),int (-1),int (-1),int 0,int 0]) rfl rfl Tryz.underlying73 Tryz.underlying3 (by kernel_rfl) Dc Dc (by simp [int,AV.cells]) ?_
 refine stp ?_
 refine Jd rfl rfl hc ⟨AVle.sl_fun fun k hk=> ?_,Rf,trivial⟩ fun nx1=> ?_
 ·match k,hk with
  | 0,_ | 1,_ | 2,_ | 3,_ | 4,_=> rfl
 refine stp ?_
 exact Je rfl Rf
def m1A:AV:= .ag [int (-1),int (-1),int (-1),int (-1),int (-1)]
set_option maxHeartbeats 1000000 in
theorem Jl6 (s:ByteArray) (hs:s.size≤9223372036854775807) (b:Bool) (hb:Jar s.data.toList=b):Tells Tryz.prog 99 [.sl 8 1 (fun _=> Jp1 s)] (.tup [int 0,int (if b then 0 else 13)]):=by
 have hn:=Jjy s hs
 rw [hb] at hn
 have hr:=Jop s
 refine Jg Tryz.func99 rfl rfl fun nx=> ?_
 refine stp ?_
 refine Jy (fun y:Bool×Nat=> mk 88 [(2,int 0),(3,int 0),(14, .sl 8 1 (fun _=> Jp1 s)),(15,int 1),(16,int (bif y.1 then 1 else 0))] ⟨[], [],y.2,0⟩) (fun y=> y.1=true→b=true) (fun y=> if y.1 then 0 else 1) ?_ ?_
 ·exact ⟨(false,nx+1),(fun h=> by cases h),Jq (pm:= []) [] [] rfl rfl (List.nil_sublist _) Sf trivial trivial ⟨Rf,Rf,Rf,Rf,Rf,trivial⟩⟩
 ·rintro ⟨y,nx1⟩ hy
  cases y
  ·refine stp ?_
   refine ⟨⟨by show (0:Int)≤0;decide,by show (0:Int) < 1;decide⟩, ?_⟩
   refine stp ?_
   refine Jd rfl rfl hn ⟨Rf,trivial⟩ fun nx2=> ?_
   cases b
   ·refine stp ?_
    exact Je rfl Rf
   ·refine stp ?_
    (refine J1 13 ?_ ?_ ?_ ?_;(· kernel_rfl);(· kernel_rfl);(· kernel_rfl))
    refine stp ?_
    refine Jd rfl rfl hr ⟨Rf,trivial⟩ fun nx3=> ?_
    refine stp ?_
    refine Jy (fun z:Nat×Nat=> mk 88 [(2,int 0),(3,int 0),(5,int 0),(6, .bp (0,nx1) 0),(14, .sl 8 1 (fun _=> Jp1 s)),(15,int 1),(16,int 0),(59,m1A),(60,int z.1)] ⟨[((0,nx1), .c [Jf s,int (-1),int (-1),int (-1),int (-1),int (-1),int 0,int 0])], [],z.2,1⟩) (fun z=> z.1≤5) (fun z=> 5 - z.1) ?_ ?_
    ·exact ⟨(0,nx3),Nat.zero_le _,Jq (pm:= []) _ [] rfl rfl Sf Sf ⟨rfl,OwnLe.refl _,trivial⟩ trivial ⟨Rf,Rf,Rf,Rf,Rf,Rf,Rf,Rf,Rf,trivial⟩⟩
    ·rintro ⟨k,nx4⟩ hk
     dsimp only at hk
     rcases k with _ | _ | _ | _ | _ | _ | k
     iterate 5
      ·refine stp ?_
       refine back (_+1,nx4) Dm Dm (Jq (pm:= []) _ [] rfl rfl Sf Sf ⟨rfl,OwnLe.refl _,trivial⟩ trivial ⟨Rf,Rf,Rf,Rf,Rf,Rf,Rf,Rf,Rf,trivial⟩)
     ·refine stp ?_
      exact back (true,nx4) (fun _=> rfl) (by show 0 < 1;decide) (Jq (pm:= []) [] [] rfl rfl (List.nil_sublist _) Sf trivial trivial ⟨Rf,Rf,Rf,Rf,Rf,trivial⟩)
     ·omega
  ·have hbt:=hy rfl
   rw [hbt]
   refine stp ?_
   exact Je rfl Rf
end Go.Proofs.W

namespace Go.Proofs.W
open Go.Vl
set_option maxRecDepth 100000
structure TRow where
 name:ByteArray
 a0:Int
 a1:Int
 a2:Int
 a3:Int
 a4:Int
 mux:Int
 sub:Int
def TRow.num (r:TRow):Nat→Int
 | 0=> r.a0
 | 1=> r.a1
 | 2=> r.a2
 | 3=> r.a3
 | _=> r.a4
def Jh:TRow:=⟨⟨#[]⟩,0,0,0,0,0,0,0⟩
def Jcp (r:TRow):List AV:= [Jf r.name,int r.a0,int r.a1,int r.a2,int r.a3,int r.a4,int r.mux,int r.sub]
def Jp (r:TRow):AV:= .ag (Jcp r)
def JN (l:List TRow):AV:=JF 8 Jp Jh l
def Jvw (r:TRow):AV:= .ag [int r.a0,int r.a1,int r.a2,int r.a3,int r.a4]
theorem Jud:PairT Tryz.prog 351 3:=⟨by kernel_rfl,by kernel_rfl,by kernel_rfl,by kernel_rfl,fun _=> rfl,fun _=> rfl,fun _ _=> rfl⟩
theorem Jut:(Tryz.prog.info? 4).bind (·.zero)=some (.bool false):=by kernel_rfl
theorem Jev (s nx nn:Nat) (es:List (Int×Int)) (a n:Int):
 ECall Tryz.prog 187 [.om (0,s),int a,int n] ⟨[((0,s), .mp (es.map Jai))], [],nx,1⟩ fun r h'=> ∃nx' nn',r=Jb (decide ((a,n)∈es))∧h'=⟨[((0,s), .mp ((JcG (a,n) es).map Jai))], [],nx',nn'⟩:=by
 refine ECall.wk (JT Tryz.func187 rfl rfl ?_)
 (refine JU ?_;refine Jaq ?_;refine JU ?_;refine Jaq ?_;refine JU ?_)
 refine AW.le (E':=mk 18 [(0, .om (0,s)),(6,Jb false),(7, .bp (1,nx) 0)] ⟨[((1,nx), .c [int a,int n]),((0,s), .mp (es.map Jai))], [],nx+1,2⟩) (Jq (pm:= []) _ [] rfl rfl Sf Sf Bf trivial ⟨Rf,Rf,Rf,trivial⟩) ?_
 refine JU ?_
 refine JQ (fun i=> match i with | 0=> true | _=> false) 3 ?_
 refine stp ?_
 refine JP (b:=kA (a,n)) rfl ?_
 (conv=> whnf)
 refine Jom (x:=(a,n)) (i:=(0,s)) (es:=es) rfl Tryz.underlying288 Jud Jut rfl rfl rfl ?_
 refine JU ?_
 refine JQ (fun i=> match i with | 0=> true | _=> false) 3 ?_
 refine stp ?_
 refine JP (b:=kA (a,n)) rfl ?_
 (conv=> whnf)
 refine AOp.any (Jon (x:=(a,n)) (i:=(0,s)) (es:=es) (.inl rfl) Tryz.underlying288 Jud rfl rfl rfl rfl ?_)
 refine stp ?_
 exact Jac rfl ⟨_,⟨[((0,s), .mp ((JcG (a,n) es).map Jai))], [],nx+1,1⟩,Rf,Jaz _ _ rfl (.cons _ Sf) Sf Bf Pf,_,_,rfl,rfl⟩
def Je6 (r:TRow):Bool:= [r.a0,r.a1,r.a2,r.a3,r.a4].any JdU
def Jcf (r:TRow):Bool:= !Je6 r&& (if r.mux=0 then decide (r.sub=0) else (decide (r.mux=1)|| decide (r.mux=2))&& decide (1≤r.sub)&& decide (r.sub≤255))
theorem Joq (r:TRow):Tells Tryz.prog 186 [Jp r] (Jb (Jcf r)):=by
 have hc:=Jnd [r.a0,r.a1,r.a2,r.a3,r.a4] JdU 258 (by show 5≤_;decide) (fun i _=> Jhm _)
 unfold Jcf
 have hb:Je6 r= [r.a0,r.a1,r.a2,r.a3,r.a4].any JdU:=rfl
 rw [← hb] at hc
 generalize Je6 r=b at hc
 obtain ⟨nm,a0,a1,a2,a3,a4,mux,sub⟩:=r
 dsimp only at hc⊢
 refine Jg Tryz.func186 rfl rfl fun nx=> ?_
 (refine JU ?_;refine Jaq ?_;refine JU ?_)
 refine JbC (n:=30) (nx:=nx+1) (nn:=1) (pm:= []) (bx:= []) (L:= [(1, .rp [Jf nm,int a0,int a1,int a2,int a3,int a4,int mux,int sub])]) (df:=some []) [((0,nx), .c [Jf nm,int a0,int a1,int a2,int a3,int a4,int mux,int sub])] rfl rfl rfl (List.Perm.refl _) Sf ⟨Frz.bp (.head _) rfl,trivial⟩ ?_
 refine JQ (fun n=> match n with | 0=> true | _=> false) 2 ?_
 refine stp ?_
 refine Jk9 (n:=5) (e:=3) (cs:= [int a0,int a1,int a2,int a3,int a4,int mux,int sub]) rfl rfl Tryz.underlying73 Tryz.underlying3 (by kernel_rfl) Dc (by show 5 * 1≤7;decide) (by simp [int,AV.cells]) ?_
 refine stp ?_
 refine Jd rfl rfl hc ⟨AVle.sl_fun fun k hk=> ?_,Rf,trivial⟩ fun nx1=> ?_
 ·match k,hk with
  | 0,_ | 1,_ | 2,_ | 3,_ | 4,_=> rfl
 cases b
 ·refine stp ?_
  intro c g;cases c
  ·have g:¬mux=0:=fun h=> by subst h;simp at g
   rw [if_neg g]
   refine stp ?_
   intro c t1;cases c
   ·have t1:decide (mux=1)=false:=decide_eq_false (by simpa using t1.symm)
    rw [t1]
    refine stp ?_
    intro c t2;cases c
    ·have t2:decide (mux=2)=false:=decide_eq_false (by simpa using t2.symm)
     rw [t2]
     refine stp ?_
     exact Je rfl Rf
    ·have t2:decide (mux=2)=true:=decide_eq_true (by simpa using t2.symm)
     rw [t2]
     refine stp ?_
     intro c t3;cases c
     ·refine stp ?_
      exact Je rfl (JH (by rw [show decide (1≤sub)=false from t3.symm];rfl))
     ·refine stp ?_
      intro c t4;cases c
      all_goals
       refine stp ?_
       exact Je rfl (JH (t4.trans (by rw [show decide (1≤sub)=true from t3.symm];rfl)))
   ·have t1:decide (mux=1)=true:=decide_eq_true (by simpa using t1.symm)
    rw [t1]
    refine stp ?_
    intro c t3;cases c
    ·refine stp ?_
     exact Je rfl (JH (by rw [show decide (1≤sub)=false from t3.symm];rfl))
    ·refine stp ?_
     intro c t4;cases c
     all_goals
      refine stp ?_
      exact Je rfl (JH (t4.trans (by rw [show decide (1≤sub)=true from t3.symm];rfl)))
  ·have g:mux=0:=by simpa using g.symm
   rw [if_pos g]
   refine stp ?_
   intro c h;cases c
   all_goals
    refine stp ?_
    exact Je rfl (JH (h.trans (by rw [Bool.eq_iff_iff];simp)))
 ·refine stp ?_
  exact Je rfl (JH (by simp))
end Go.Proofs.W

namespace Go.Proofs.W
open Go.Vl
set_option maxRecDepth 100000
structure Inf where
 name:ByteArray
 token:Nat
 bit:Bool
 bits:Int
def Jnf:Inf:=⟨⟨#[]⟩,0,false,0⟩
def infL:List Inf:= [⟨⟨#[120,56,54,95,54,52]⟩,3221225534,false,64⟩,⟨⟨#[120,51,50]⟩,3221225534,true,64⟩,⟨⟨#[105,51,56,54]⟩,1073741827,false,32⟩,⟨⟨#[97,114,109,54,52]⟩,3221225655,false,64⟩,⟨⟨#[114,105,115,99,118,54,52]⟩,3221225715,false,64⟩]
def infN:List (Nat×Inf):= [(0,infL.getD 0 Jnf),(1,infL.getD 1 Jnf),(2,infL.getD 2 Jnf),(3,infL.getD 3 Jnf),(4,infL.getD 4 Jnf)]
def Jwi (num:Nat):Bool:=decide (num&&& 1073741824≠0)&& decide (num≠4294967295)
def Jw8 (arch:Nat) (w:Bool) (x:Nat×Inf):Bool:=decide (x.2.token=arch)&& ((decide (x.1≠0)&& decide (x.1≠1))|| (x.2.bit ==w))
end Go.Proofs.W

namespace Go.Proofs.W
open Go.Vl
set_option maxRecDepth 100000
structure Rec where
 num:Nat
 arch:Nat
 ptr:Nat
 a0:Nat
 a1:Nat
 a2:Nat
 a3:Nat
 a4:Nat
 a5:Nat
def Rec.ok (r:Rec):Prop:=r.num < 4294967296∧r.arch < 4294967296∧r.ptr < 18446744073709551616∧r.a0 < 18446744073709551616∧r.a1 < 18446744073709551616∧r.a2 < 18446744073709551616∧r.a3 < 18446744073709551616∧r.a4 < 18446744073709551616∧r.a5 < 18446744073709551616
def Rec.arg (r:Rec):Nat→Nat
 | 0=> r.a0
 | 1=> r.a1
 | 2=> r.a2
 | 3=> r.a3
 | 4=> r.a4
 | _=> r.a5
def Jw9 (a:Nat) (r:Rec) (k:Nat):Nat:=if a=2 then r.arg k % 4294967296 else r.arg k
end Go.Proofs.W

namespace Go.Proofs.W
open Go.Vl
section
variable {α:Type} [Inhabited α] {lt:α→α→Bool}
theorem Juu {a j:Nat} {e:Array α} (h:a < j) (hl:lt e[j]! e[j - 1]! =true):Go.Sort.insInner lt a j e=Go.Sort.insInner lt a (j - 1) (Go.Sort.swp e j (j - 1)):=by
 cases j with
 | zero=> omega
 | succ j=>
   rw [Go.Sort.insInner]
   simp only [Nat.add_sub_cancel] at hl⊢
   rw [if_pos (by simp [hl];omega)]
theorem Jto {a j:Nat} {e:Array α} (hl:lt e[j]! e[j - 1]! =false):Go.Sort.insInner lt a j e=e:=by
 cases j with
 | zero=> rfl
 | succ j=>
   rw [Go.Sort.insInner]
   simp only [Nat.add_sub_cancel] at hl⊢
   rw [if_neg (by simp [hl])]
theorem JrA {a j:Nat} {e:Array α} (h:¬a < j):Go.Sort.insInner lt a j e=e:=by
 cases j with
 | zero=> rfl
 | succ j=> rw [Go.Sort.insInner];simp;omega
theorem JeS {K:Bool→Prop} {b b':Bool} (h:b=b') (hk:∀c,c=b'→K c):∀c,c=b→K c:=by subst h;exact hk
def Jak (lt:α→α→Bool) (l:List α):List α:=l.mergeSort (fun x y=> !lt y x)
omit [Inhabited α] in
theorem JeJ (hS:Go.Sort.SWO lt) (l:List α):(Jak lt l).Pairwise (fun x y=> lt y x=false):=by
 have tr:∀a b c:α,(!lt b a)=true→(!lt c b)=true→(!lt c a)=true:=fun a b c h1 h2=> by
  simp only [Bool.not_eq_true'] at *; exact hS.ntrans _ _ _ h2 h1
 have tq:∀a b:α,((!lt b a)|| (!lt a b))=true:=fun a b=> by
  cases h1:lt b a <;> cases h2:lt a b <;> try rfl
  have:=hS.trans _ _ _ h1 h2
  rw [hS.irrefl] at this;cases this
 exact (List.pairwise_mergeSort tr tq l).imp fun h=> by simpa using h
omit [Inhabited α] in
theorem JjA {l:List α} {x:α}:x∈Jak lt l↔x∈l:=(List.mergeSort_perm l _).mem_iff
omit [Inhabited α] in
theorem Jbn {l:List α}:(Jak lt l).length=l.length:=List.length_mergeSort _
omit [Inhabited α] in
theorem Jkv (hS:Go.Sort.SWO lt) (hT:∀x y,lt x y=false→lt y x=false→x=y) {l l':List α} (h:l.Perm l'):Jak lt l=Jak lt l':=
 List.Perm.eq_of_pairwise (le:=fun x y=> lt y x=false) (fun a b _ _ h1 h2=> hT a b h2 h1) (JeJ hS l) (JeJ hS l') (((List.mergeSort_perm l _).trans h).trans (List.mergeSort_perm l' _).symm)
omit [Inhabited α] in
end
end Go.Proofs.W

namespace Go.Proofs.W
open Go.Vl
set_option maxRecDepth 100000
def Jxa (mux sub:Int) (r:TRow):Bool:=decide (r.mux=mux)&& (decide (r.sub=sub)&& decide (mux≠0))
def Jvx (a:Nat) (n:Int) (r:TRow):Bool:=decide (r.num a=n)
end Go.Proofs.W

namespace Go.Proofs.W
open Go.Vl
set_option maxRecDepth 100000
def Jxb (a num:Nat):Nat:=if a=1∧num / 1073741824 % 2=1 then num - 1073741824 else num
def Jwj (num:Nat):Nat:=if num=102 then 1 else if num=117 then 2 else 0
def Jue (l:List TRow):Option Nat→ByteArray
 | some i=> (l.getD i Jh).name
 | none=> ⟨#[]⟩
end Go.Proofs.W

namespace Go.Proofs.W
open Go.Vl
set_option maxRecDepth 100000
structure CallR where
 some:Bool
 abi:Int
 name:ByteArray
 muxed:Bool
def Jwk:CallR:=⟨false,0,⟨#[]⟩,false⟩
def Jxc (arch num:Nat):Option Nat:=(infN.find? (Jw8 arch (Jwi num))).map (·.1)
def Juf (a num:Nat):Nat:=if a=2 then Jwj num else 0
def ofI (l:List TRow) (r:Rec):CallR:=match Jxc r.arch r.num with
 | none=> Jwk
 | some a=> if 0 < Juf a r.num then ⟨true,a,Jue l (l.findIdx? (Jxa (Juf a r.num) ((r.a0 % 4294967296:Nat):Int))),true⟩
   else ⟨true,a,Jue l (l.findIdx? (Jvx a ((Jxb a r.num:Nat):Int))),false⟩
end Go.Proofs.W

namespace Go.Proofs.W
open Go.Vl
set_option maxRecDepth 100000
end Go.Proofs.W

namespace Go.Proofs.W
open Go.Vl
set_option maxRecDepth 100000
def kS (s t:ByteArray):Bool:=s.toList ==t.toList
theorem Jbh {s t:ByteArray}:kS s t=true↔s=t:=by
 unfold kS
 rw [beq_iff_eq,Lib.toList_data,Lib.toList_data]
 constructor
 ·intro h
  obtain ⟨⟨a⟩⟩:=s
  obtain ⟨⟨b⟩⟩:=t
  simpa using h
 ·rintro rfl;rfl
section
variable {α:Type} {nm:α→ByteArray} {val:α→AV}
end
end Go.Proofs.W

namespace Go.Proofs.W
open Go.Vl
set_option maxRecDepth 100000
structure Ent where
 name:ByteArray
 m:Nat
 a:Nat→Nat
 b:Nat→Bool
 st:Nat
structure Gat where
 name:ByteArray
 m:Nat
 a:Nat→Nat
 b:Nat→Bool
end Go.Proofs.W

namespace Go.Proofs.W
open Go.Vl
set_option maxRecDepth 100000
end Go.Proofs.W

namespace Go.Proofs.W
open Go.Vl
set_option maxRecDepth 100000
def Jed (es:List (Value×AV)) (j:Nat):Value:=(es.getD j (.int .i64 0, .any)).1
theorem Jp2 {es:List (Value×AV)} {k:Nat} {p:Value×AV} (h:es[k]? =some p):Jed es k=p.1:=by simp [Jed,List.getD,h]
theorem Jln (es:List (Value×AV)):(List.range es.length).map (Jed es)=es.map (·.1):=by
 refine List.ext_getElem (by simp) fun j h1 h2=> ?_
 have:j < es.length:=by simpa using h1
 simp [Jed,List.getD,this]
end Go.Proofs.W

namespace Go.Proofs
open Go.Shelf
shelf_lay_g SlLaysM.n6 Slgm 6 at Tryz 189 as Tryz.laysM6
end Go.Proofs
namespace Go.Proofs.W
open Go.Vl Go.Shelf
set_option maxRecDepth 100000
def JaD (z:List UInt8):AV:= .v (encStr z)
def JcQ (s:Nat) (d:Array (List UInt8)) (tl:List AV):List (Vl.Id×Own):= [((0,s), .c (Jba JaD d tl))]
theorem Jng (l:List (List UInt8)):l.mergeSort (fun x y=> decide (x≤y))=Jak Go.Sort.ltStr l:=by
 unfold Jak
 congr 1
 funext x y
 simp only [Go.Sort.ltStr]
 by_cases h:x≤y
 ·rw [decide_eq_true h,decide_eq_false (List.not_lt.2 h)];rfl
 ·rw [decide_eq_false h,decide_eq_true (List.not_le.1 h)];rfl
theorem JrB:∀x y:List UInt8,Go.Sort.ltStr x y=false→Go.Sort.ltStr y x=false→x=y:=fun x y h1 h2=> by
 simp only [Go.Sort.ltStr,decide_eq_false_iff_not,List.not_lt] at h1 h2
 exact List.le_antisymm h2 h1
theorem JrC (d0:Array (List UInt8)) (tl:List AV) (n:Nat) (hn:d0.size=n) (hsz:n≤1000000) (s cap nx:Nat):
 ECall Tryz.prog 189 [.hs (0,s) 0 n cap] ⟨JcQ s d0 tl, [],nx,1⟩ (fun r h'=> ∃nx' nn',h'=⟨JcQ s (Jak Go.Sort.ltStr d0.toList).toArray tl, [],nx',nn'⟩):=by
 subst hn
 have h:=Jiq (P:=Tryz.prog) (enc:=encStr) (d:=d0) (d':=(Jak Go.Sort.ltStr d0.toList).toArray) (tl:=tl) (nm:=0) (s:=s) (cap:=cap) (nx:=nx) (nn:=1) (f:=189) ⟨_,Tryz.func189,rfl,rfl⟩ (by simp [Jbn]) (fun w blk hH hb=> by
  have k:=AnyM.slices_Sort_string Tryz.laysM6 blk 0 cap d0.toList w hH hb (by simp;omega)
  rw [Jng] at k
  exact k)
 exact h.mono fun r h' ⟨_,h2⟩=> ⟨nx,1,h2⟩
theorem JrD (F:Nat→AV):Tells Tryz.prog 189 [.os 1 0 F none] (.tup []):=
 Jir (nx:=0) ⟨_,Tryz.func189,rfl,rfl⟩ fun p cap w=> AnyM.slices_Sort_string_none Tryz.laysM6 p cap w
end Go.Proofs.W

namespace Go.Proofs.W
open Go.Vl
set_option maxRecDepth 100000
abbrev Jbq:=List (Int×Int)
def JaE (r:TRow) (S:Jbq):Nat→Option Jbq
 | 0=> some S
 | k+1=> match JaE r S k with
   | none=> none
   | some S=> if r.num k=-1 then some S else if ((k:Int),r.num k)∈S then none else some (S++ [((k:Int),r.num k)])
def Jhn (r:TRow) (S:Jbq):Option Jbq:=if r.mux=0 then some S else if (5+r.mux,r.sub)∈S then none else some (S++ [(5+r.mux,r.sub)])
def leB (s t:ByteArray):Bool:=Op.bytesLess s.toList t.toList|| s.toList ==t.toList
def Jee (l:List TRow) (i:Nat) (S:Jbq):Except Int Jbq:=
 if Jar (l.getD i Jh).name.data.toList=false then .error 13
 else if 0 < i∧leB (l.getD i Jh).name (l.getD (i - 1) Jh).name=true then .error 15
 else if Jcf (l.getD i Jh)=false then .error 16
 else if (l.getD i Jh).a2=102∨(l.getD i Jh).a2=117 then .error 17
 else match JaE (l.getD i Jh) S 5 with
  | none=> .error 15
  | some S=> match Jhn (l.getD i Jh) S with
    | none=> .error 15
    | some S=> .ok S
def Jda (l:List TRow):Nat→Except (Nat×Int) Jbq
 | 0=> .ok []
 | k+1=> match Jda l k with
   | .error e=> .error e
   | .ok S=> match Jee l k S with
     | .error e=> .error (k,e)
     | .ok S=> .ok S
def JbO (l:List TRow):Int×Int:=if 400 < l.length then (0,3) else match Jda l l.length with
 | .error e=> ((e.1:Int),e.2)
 | .ok _=> (0,0)
theorem JrE {l:List TRow} {k:Nat} {e:Nat×Int} (h:Jda l k= .error e):∀ {m:Nat},k≤m→Jda l m= .error e:=by
 intro m hm
 induction m with
 | zero=> obtain rfl:k=0:=by omega
          exact h
 | succ m ih=>
   rcases Nat.lt_or_ge m k with q | q
   ·rw [show m+1=k by omega];exact h
   ·unfold Jda;rw [ih q]
theorem JoU {l:List TRow} {i:Nat} {S:Jbq} {e:Int} (hl:¬400 < l.length) (hi:i < l.length) (h:Jda l i= .ok S) (he:Jee l i S= .error e):JbO l=((i:Int),e):=by
 have h1:Jda l (i+1)= .error (i,e):=by unfold Jda;rw [h];dsimp only;rw [he]
 unfold JbO
 rw [if_neg hl,JrE h1 hi]
theorem JrF {l:List TRow} {S:Jbq} (hl:¬400 < l.length) (h:Jda l l.length= .ok S):JbO l=(0,0):=by
 unfold JbO
 rw [if_neg hl,h]
theorem Jlo {l:List TRow} {i:Nat} {S S':Jbq} (h:Jda l i= .ok S) (he:Jee l i S= .ok S'):Jda l (i+1)= .ok S':=by
 unfold Jda;rw [h];dsimp only;rw [he]
theorem JeT {r:TRow} {S S':Jbq} {k:Nat} (h:JaE r S k=some S') (hn:r.num k=-1):JaE r S (k+1)=some S':=by
 unfold JaE;rw [h];dsimp only;rw [if_pos hn]
theorem Jgi {r:TRow} {S S':Jbq} {k:Nat} (h:JaE r S k=some S') (hn:¬r.num k=-1) (hm:((k:Int),r.num k)∈S'):JaE r S (k+1)=none:=by
 unfold JaE;rw [h];dsimp only;rw [if_neg hn,if_pos hm]
theorem JfE {r:TRow} {S S':Jbq} {k:Nat} (h:JaE r S k=some S') (hn:¬r.num k=-1) (hm:¬((k:Int),r.num k)∈S'):JaE r S (k+1)=some (JcG ((k:Int),r.num k) S'):=by
 unfold JaE JcG;rw [h];dsimp only;rw [if_neg hn,if_neg hm,if_neg hm]
theorem JeU {r:TRow} {S:Jbq} {k:Nat} (h:JaE r S k=none):∀ {m:Nat},k≤m→JaE r S m=none:=by
 intro m hm
 induction m with
 | zero=> obtain rfl:k=0:=by omega
          exact h
 | succ m ih=>
   rcases Nat.lt_or_ge m k with q | q
   ·rw [show m+1=k by omega];exact h
   ·unfold JaE;rw [ih q]
def JbK (l:List TRow) (i:Nat):Bool:=decide (0 < i)&& leB (l.getD i Jh).name (l.getD (i - 1) Jh).name
theorem JhY {l:List TRow} {i:Nat}:JbK l i=true↔0 < i∧leB (l.getD i Jh).name (l.getD (i - 1) Jh).name=true:=by unfold JbK;simp
theorem JoV {l:List TRow} {i:Nat} {S:Jbq} (h:Jar (l.getD i Jh).name.data.toList=false):Jee l i S= .error 13:=if_pos h
theorem JoW {l:List TRow} {i:Nat} {S:Jbq} (h:Jar (l.getD i Jh).name.data.toList=true) (h2:JbK l i=true):Jee l i S= .error 15:=by
 unfold Jee;rw [if_neg (by rw [h];decide),if_pos (JhY.1 h2)]
theorem Jkw {l:List TRow} {i:Nat} {S:Jbq} (h:Jar (l.getD i Jh).name.data.toList=true) (h2:JbK l i=false) (h3:Jcf (l.getD i Jh)=false):Jee l i S= .error 16:=by
 unfold Jee;rw [if_neg (by rw [h];decide),if_neg (by rw [← JhY,h2];decide),if_pos h3]
theorem Jkx {l:List TRow} {i:Nat} {S:Jbq} (h:Jar (l.getD i Jh).name.data.toList=true) (h2:JbK l i=false) (h3:Jcf (l.getD i Jh)=true) (h4:(l.getD i Jh).a2=102∨(l.getD i Jh).a2=117):Jee l i S= .error 17:=by
 unfold Jee;rw [if_neg (by rw [h];decide),if_neg (by rw [← JhY,h2];decide),if_neg (by rw [h3];decide),if_pos h4]
theorem Jlp {l:List TRow} {i:Nat} {S:Jbq} (h:Jar (l.getD i Jh).name.data.toList=true) (h2:JbK l i=false) (h3:Jcf (l.getD i Jh)=true) (h4:¬((l.getD i Jh).a2=102∨(l.getD i Jh).a2=117)):Jee l i S=match JaE (l.getD i Jh) S 5 with
 | none=> .error 15
 | some S=> match Jhn (l.getD i Jh) S with
   | none=> .error 15
   | some S=> .ok S:=by
 unfold Jee;rw [if_neg (by rw [h];decide),if_neg (by rw [← JhY,h2];decide),if_neg (by rw [h3];decide),if_neg h4]
theorem JjB {r:TRow} (h:Jcf r=true) (h0:¬r.mux=0):r.mux=1∨r.mux=2:=by
 unfold Jcf at h
 rw [if_neg h0] at h
 simp only [Bool.and_eq_true,Bool.or_eq_true,decide_eq_true_eq] at h
 exact h.2.1.1
set_option maxHeartbeats 4000000 in
theorem Jl7 (l:List TRow) (hl:l.length≤1000000) (hn:∀r∈l,r.name.size≤maxLen):Tells Tryz.prog 99 [JN l] (.tup [int (JbO l).1,int (JbO l).2]):=by
 refine Jg Tryz.func99 rfl rfl fun nx=> ?_
 refine stp ?_
 intro c g4;cases c
 rotate_left
 ·have g4:400 < l.length:=by have:=Jv g4;omega
  have e:JbO l=(0,3):=by unfold JbO;rw [if_pos g4]
  rw [e]
  refine stp ?_
  exact Je rfl Rf
 have g4:¬400 < l.length:=by have:=Ju g4;omega
 refine stp ?_
 refine Jy (fun y:Nat×Jbq×Nat=> mk 88 [(0,JN l),(2,int 0),(3,int 0),(4, .om (0,nx)),(14,JN l),(15,int l.length),(16,int y.1)] ⟨[((0,nx), .mp (y.2.1.map Jai))], [],y.2.2,1⟩) (fun y=> y.1≤l.length∧Jda l y.1= .ok y.2.1) (fun y=> l.length - y.1) ?_ ?_
 ·exact ⟨(0, [],nx+1),⟨Nat.zero_le _,rfl⟩,Et rfl rfl Bf trivial ⟨Rf,Rf,Rf,Rf,Rf,Rf,Rf,trivial⟩⟩
 ·rintro ⟨i,S,nx1⟩ ⟨h1,h2⟩
  dsimp only at h1 h2
  refine stp ?_
  intro c g;cases c
  ·have g:=Ju g
   try dsimp only at g
   have hi:i=l.length:=by omega
   subst hi
   rw [JrF g4 h2]
   refine stp ?_
   exact Je rfl Rf
  ·have g:=Jv g
   try dsimp only at g
   have hi:i < l.length:=by omega
   have hmem:l.getD i Jh∈l:=by simp [List.getD,hi]
   have hnm:=Jjy (l.getD i Jh).name (Nat.le_trans (hn _ hmem) Dc)
   have hrg:=Joq (l.getD i Jh)
   have herr:=fun e=> JoU (e:=e) g4 hi h2
   have hnext:=fun S'=> Jlo (S':=S') h2
   refine stp ?_
   refine ⟨Bd, ?_⟩
   refine stp ?_
   cases hb:Jar (l.getD i Jh).name.data.toList with
   | false=>
     rw [hb] at hnm
     refine Jd rfl rfl hnm ⟨Rf,trivial⟩ fun nx2=> ?_
     refine stp ?_
     rw [herr 13 (JoV hb)]
     exact Je rfl Rf
   | true=>
     rw [hb] at hnm
     refine Jd rfl rfl hnm ⟨Rf,trivial⟩ fun nx2=> ?_
     refine stp ?_
     refine Jrp (fun y:Nat=> mk 88 [(0,JN l),(2,int 0),(3,int 0),(4, .om (0,nx)),(5,int i),(6, .bp (1,nx1) 0),(7,int (l.getD i Jh).a2),(14,JN l),(15,int l.length),(16,int i),(30,Jb (JbK l i))] ⟨[((1,nx1), .c (Jcp (l.getD i Jh))),((0,nx), .mp (S.map Jai))], [],y,2⟩) (fun _=> True) ?_ ?_
     ·by_cases h0:0 < i
      ·have hd:decide ((i:Int) > 0)=true:=decide_eq_true Om
       have hi1:IntKind.i64.wrap ((i:Int) - 1)=((i - 1:Nat):Int):=by rw [JaX Om Om];omega
       (refine J1 13 ?_ ?_ ?_ ?_;(· kernel_rfl);(· kernel_rfl);(· kernel_rfl))
       refine stp ?_
       (conv=> whnf)
       refine JeS hd ?_
       refine stp ?_
       refine ⟨⟨Jc1 (i:=i - 1) hi1,Jdg (i:=i - 1) hi1 Om⟩,JP (b:= .rp (Jcp (l.getD (i - 1) Jh))) (congrArg (fun z:Int=> AV.rp (Jcp (l.getD z.toNat Jh))) hi1) ?_⟩
       refine stp ?_
       intro c hc
       have hc2:c=JbK l i:=hc.trans (by unfold JbK;rw [decide_eq_true h0,Bool.true_and];rfl)
       clear hc
       rw [← hc2]
       clear hc2
       cases c
       all_goals
        refine stp ?_
        exact ⟨nx2,trivial,Et rfl rfl Bf trivial ⟨Rf,Rf,Rf,Rf,Rf,Rf,Rf,Rf,Rf,Rf,Rf,trivial⟩⟩
      ·have hd:decide ((i:Int) > 0)=false:=decide_eq_false Om
       have hq:JbK l i=false:=by unfold JbK;rw [decide_eq_false h0];rfl
       rw [hq]
       (refine J1 13 ?_ ?_ ?_ ?_;(· kernel_rfl);(· kernel_rfl);(· kernel_rfl))
       refine stp ?_
       (conv=> whnf)
       refine JeS hd ?_
       refine stp ?_
       exact ⟨nx2,trivial,Et rfl rfl Bf trivial ⟨Rf,Rf,Rf,Rf,Rf,Rf,Rf,Rf,Rf,Rf,Rf,trivial⟩⟩
     ·rintro nx3 -
      cases hq:JbK l i with
      | true=>
        refine stp ?_
        rw [herr 15 (JoW hb hq)]
        exact Je rfl Rf
      | false=>
        refine stp ?_
        refine JP (b:=Jp (l.getD i Jh)) rfl ?_
        refine stp ?_
        cases hr:Jcf (l.getD i Jh) with
        | false=>
          rw [hr] at hrg
          refine Jd rfl rfl hrg ⟨Rf,trivial⟩ fun nx4=> ?_
          refine stp ?_
          rw [herr 16 (Jkw hb hq hr)]
          exact Je rfl Rf
        | true=>
          rw [hr] at hrg
          refine Jd rfl rfl hrg ⟨Rf,trivial⟩ fun nx4=> ?_
          refine stp ?_
          intro c t1;cases c
          rotate_left
          ·have t1:(l.getD i Jh).a2=102:=by simpa using t1.symm
           refine stp ?_
           rw [herr 17 (Jkx hb hq hr (.inl t1))]
           exact Je rfl Rf
          have t1:¬(l.getD i Jh).a2=102:=by simpa using t1.symm
          refine stp ?_
          intro c t2;cases c
          rotate_left
          ·have t2:(l.getD i Jh).a2=117:=by simpa using t2.symm
           refine stp ?_
           rw [herr 17 (Jkx hb hq hr (.inr t2))]
           exact Je rfl Rf
          have t2:¬(l.getD i Jh).a2=117:=by simpa using t2.symm
          have hrest:=Jlp (S:=S) hb hq hr (fun h=> h.elim t1 t2)
          refine stp ?_
          refine JcX (fun y:Jbq×Nat=> mk 88 [(0,JN l),(2,int 0),(3,int 0),(4, .om (0,nx)),(5,int i),(6, .bp (1,nx1) 0),(14,JN l),(15,int l.length),(16,int i)] ⟨[((1,nx1), .c (Jcp (l.getD i Jh))),((0,nx), .mp (y.1.map Jai))], [],y.2,2⟩) (fun y=> JaE (l.getD i Jh) S 5=some y.1) ?_ ?_
          ·refine Jy (fun y:Nat×Jbq×Nat=> mk 88 [(0,JN l),(2,int 0),(3,int 0),(4, .om (0,nx)),(5,int i),(6, .bp (1,nx1) 0),(14,JN l),(15,int l.length),(16,int i),(59,Jvw (l.getD i Jh)),(60,int y.1)] ⟨[((1,nx1), .c (Jcp (l.getD i Jh))),((0,nx), .mp (y.2.1.map Jai))], [],y.2.2,2⟩) (fun y=> y.1≤5∧JaE (l.getD i Jh) S y.1=some y.2.1) (fun y=> 5 - y.1) ?_ ?_
           ·exact ⟨(0,S,nx4),⟨Nat.zero_le _,rfl⟩,Et rfl rfl Bf trivial ⟨Rf,Rf,Rf,Rf,Rf,Rf,Rf,Rf,Rf,Rf,Rf,trivial⟩⟩
           ·rintro ⟨k,S',nx5⟩ ⟨hk,hS⟩
            dsimp only at hk hS
            rcases k with _ | _ | _ | _ | _ | _ | k
            ·refine stp ?_
             intro c t;cases c
             ·have t:(l.getD i Jh).num 0=-1:=by show (l.getD i Jh).a0=-1;simpa using t.symm
              refine stp ?_
              exact back (0+1,S',nx5) ⟨by dsimp only;omega,JeT hS t⟩ Dm (Et rfl rfl Bf trivial ⟨Rf,Rf,Rf,Rf,Rf,Rf,Rf,Rf,Rf,Rf,Rf,trivial⟩)
             ·have t:¬(l.getD i Jh).num 0=-1:=by show ¬(l.getD i Jh).a0=-1;simpa using t.symm
              refine stp ?_
              refine JS (xs:= [.om (0,nx),int ((0:Nat):Int),int ((l.getD i Jh).num 0)]) [((1,nx1), .c (Jcp (l.getD i Jh)))] [] 2 rfl rfl rfl rfl ⟨Rf,Rf,Rf,trivial⟩ (Jev nx nx5 0 S' ((0:Nat):Int) ((l.getD i Jh).num 0)) Bf Pf rfl fun r h' hq2=> ?_
              obtain ⟨nx6,nn6,rfl,rfl⟩:=hq2
              by_cases hm:(((0:Nat):Int),(l.getD i Jh).num 0)∈S'
              ·have hnone:=JeU (Jgi hS t hm) (show 0+1≤5 by decide)
               rw [hnone] at hrest
               rw [decide_eq_true hm]
               refine stp ?_
               rw [herr 15 hrest]
               exact Je rfl Rf
              ·have hnew:=JfE hS t hm
               rw [decide_eq_false hm]
               refine stp ?_
               exact back (0+1,JcG (((0:Nat):Int),(l.getD i Jh).num 0) S',nx6) ⟨by dsimp only;omega,hnew⟩ Dm (Et rfl rfl Bf trivial ⟨Rf,Rf,Rf,Rf,Rf,Rf,Rf,Rf,Rf,Rf,Rf,trivial⟩)
            ·refine stp ?_
             intro c t;cases c
             ·have t:(l.getD i Jh).num 1=-1:=by show (l.getD i Jh).a1=-1;simpa using t.symm
              refine stp ?_
              exact back (1+1,S',nx5) ⟨by dsimp only;omega,JeT hS t⟩ Dm (Et rfl rfl Bf trivial ⟨Rf,Rf,Rf,Rf,Rf,Rf,Rf,Rf,Rf,Rf,Rf,trivial⟩)
             ·have t:¬(l.getD i Jh).num 1=-1:=by show ¬(l.getD i Jh).a1=-1;simpa using t.symm
              refine stp ?_
              refine JS (xs:= [.om (0,nx),int ((1:Nat):Int),int ((l.getD i Jh).num 1)]) [((1,nx1), .c (Jcp (l.getD i Jh)))] [] 2 rfl rfl rfl rfl ⟨Rf,Rf,Rf,trivial⟩ (Jev nx nx5 0 S' ((1:Nat):Int) ((l.getD i Jh).num 1)) Bf Pf rfl fun r h' hq2=> ?_
              obtain ⟨nx6,nn6,rfl,rfl⟩:=hq2
              by_cases hm:(((1:Nat):Int),(l.getD i Jh).num 1)∈S'
              ·have hnone:=JeU (Jgi hS t hm) (show 1+1≤5 by decide)
               rw [hnone] at hrest
               rw [decide_eq_true hm]
               refine stp ?_
               rw [herr 15 hrest]
               exact Je rfl Rf
              ·have hnew:=JfE hS t hm
               rw [decide_eq_false hm]
               refine stp ?_
               exact back (1+1,JcG (((1:Nat):Int),(l.getD i Jh).num 1) S',nx6) ⟨by dsimp only;omega,hnew⟩ Dm (Et rfl rfl Bf trivial ⟨Rf,Rf,Rf,Rf,Rf,Rf,Rf,Rf,Rf,Rf,Rf,trivial⟩)
            ·refine stp ?_
             intro c t;cases c
             ·have t:(l.getD i Jh).num 2=-1:=by show (l.getD i Jh).a2=-1;simpa using t.symm
              refine stp ?_
              exact back (2+1,S',nx5) ⟨by dsimp only;omega,JeT hS t⟩ Dm (Et rfl rfl Bf trivial ⟨Rf,Rf,Rf,Rf,Rf,Rf,Rf,Rf,Rf,Rf,Rf,trivial⟩)
             ·have t:¬(l.getD i Jh).num 2=-1:=by show ¬(l.getD i Jh).a2=-1;simpa using t.symm
              refine stp ?_
              refine JS (xs:= [.om (0,nx),int ((2:Nat):Int),int ((l.getD i Jh).num 2)]) [((1,nx1), .c (Jcp (l.getD i Jh)))] [] 2 rfl rfl rfl rfl ⟨Rf,Rf,Rf,trivial⟩ (Jev nx nx5 0 S' ((2:Nat):Int) ((l.getD i Jh).num 2)) Bf Pf rfl fun r h' hq2=> ?_
              obtain ⟨nx6,nn6,rfl,rfl⟩:=hq2
              by_cases hm:(((2:Nat):Int),(l.getD i Jh).num 2)∈S'
              ·have hnone:=JeU (Jgi hS t hm) (show 2+1≤5 by decide)
               rw [hnone] at hrest
               rw [decide_eq_true hm]
               refine stp ?_
               rw [herr 15 hrest]
               exact Je rfl Rf
              ·have hnew:=JfE hS t hm
               rw [decide_eq_false hm]
               refine stp ?_
               exact back (2+1,JcG (((2:Nat):Int),(l.getD i Jh).num 2) S',nx6) ⟨by dsimp only;omega,hnew⟩ Dm (Et rfl rfl Bf trivial ⟨Rf,Rf,Rf,Rf,Rf,Rf,Rf,Rf,Rf,Rf,Rf,trivial⟩)
            ·refine stp ?_
             intro c t;cases c
             ·have t:(l.getD i Jh).num 3=-1:=by show (l.getD i Jh).a3=-1;simpa using t.symm
              refine stp ?_
              exact back (3+1,S',nx5) ⟨by dsimp only;omega,JeT hS t⟩ Dm (Et rfl rfl Bf trivial ⟨Rf,Rf,Rf,Rf,Rf,Rf,Rf,Rf,Rf,Rf,Rf,trivial⟩)
             ·have t:¬(l.getD i Jh).num 3=-1:=by show ¬(l.getD i Jh).a3=-1;simpa using t.symm
              refine stp ?_
              refine JS (xs:= [.om (0,nx),int ((3:Nat):Int),int ((l.getD i Jh).num 3)]) [((1,nx1), .c (Jcp (l.getD i Jh)))] [] 2 rfl rfl rfl rfl ⟨Rf,Rf,Rf,trivial⟩ (Jev nx nx5 0 S' ((3:Nat):Int) ((l.getD i Jh).num 3)) Bf Pf rfl fun r h' hq2=> ?_
              obtain ⟨nx6,nn6,rfl,rfl⟩:=hq2
              by_cases hm:(((3:Nat):Int),(l.getD i Jh).num 3)∈S'
              ·have hnone:=JeU (Jgi hS t hm) (show 3+1≤5 by decide)
               rw [hnone] at hrest
               rw [decide_eq_true hm]
               refine stp ?_
               rw [herr 15 hrest]
               exact Je rfl Rf
              ·have hnew:=JfE hS t hm
               rw [decide_eq_false hm]
               refine stp ?_
               exact back (3+1,JcG (((3:Nat):Int),(l.getD i Jh).num 3) S',nx6) ⟨by dsimp only;omega,hnew⟩ Dm (Et rfl rfl Bf trivial ⟨Rf,Rf,Rf,Rf,Rf,Rf,Rf,Rf,Rf,Rf,Rf,trivial⟩)
            ·refine stp ?_
             intro c t;cases c
             ·have t:(l.getD i Jh).num 4=-1:=by show (l.getD i Jh).a4=-1;simpa using t.symm
              refine stp ?_
              exact back (4+1,S',nx5) ⟨by dsimp only;omega,JeT hS t⟩ Dm (Et rfl rfl Bf trivial ⟨Rf,Rf,Rf,Rf,Rf,Rf,Rf,Rf,Rf,Rf,Rf,trivial⟩)
             ·have t:¬(l.getD i Jh).num 4=-1:=by show ¬(l.getD i Jh).a4=-1;simpa using t.symm
              refine stp ?_
              refine JS (xs:= [.om (0,nx),int ((4:Nat):Int),int ((l.getD i Jh).num 4)]) [((1,nx1), .c (Jcp (l.getD i Jh)))] [] 2 rfl rfl rfl rfl ⟨Rf,Rf,Rf,trivial⟩ (Jev nx nx5 0 S' ((4:Nat):Int) ((l.getD i Jh).num 4)) Bf Pf rfl fun r h' hq2=> ?_
              obtain ⟨nx6,nn6,rfl,rfl⟩:=hq2
              by_cases hm:(((4:Nat):Int),(l.getD i Jh).num 4)∈S'
              ·have hnone:=JeU (Jgi hS t hm) (show 4+1≤5 by decide)
               rw [hnone] at hrest
               rw [decide_eq_true hm]
               refine stp ?_
               rw [herr 15 hrest]
               exact Je rfl Rf
              ·have hnew:=JfE hS t hm
               rw [decide_eq_false hm]
               refine stp ?_
               exact back (4+1,JcG (((4:Nat):Int),(l.getD i Jh).num 4) S',nx6) ⟨by dsimp only;omega,hnew⟩ Dm (Et rfl rfl Bf trivial ⟨Rf,Rf,Rf,Rf,Rf,Rf,Rf,Rf,Rf,Rf,Rf,trivial⟩)
            ·refine stp ?_
             exact ⟨(S',nx5),hS,Et rfl rfl Bf trivial ⟨Rf,Rf,Rf,Rf,Rf,Rf,Rf,Rf,Rf,trivial⟩⟩
            ·omega
          ·rintro ⟨S5,nx5⟩ hS
           dsimp only at hS
           refine stp ?_
           intro c t;cases c
           ·have t:(l.getD i Jh).mux=0:=by simpa using t.symm
            have hmx:Jhn (l.getD i Jh) S5=some S5:=if_pos t
            rw [hS] at hrest
            dsimp only at hrest
            rw [hmx] at hrest
            have h3:=hnext S5 hrest
            refine stp ?_
            exact back (i+1,S5,nx5) ⟨hi,h3⟩ Dm (Jq _ _ rfl rfl (.cons _ Sf) Sf Bf trivial ⟨Rf,Rf,Rf,Rf,Rf,Rf,Lw,trivial⟩)
           ·have t:¬(l.getD i Jh).mux=0:=by simpa using t.symm
            have h12:=JjB hr t
            have hw:IntKind.i64.wrap (5+(l.getD i Jh).mux)=5+(l.getD i Jh).mux:=JaX Om Om
            refine stp ?_
            refine JS (xs:= [.om (0,nx),int (5+(l.getD i Jh).mux),int (l.getD i Jh).sub]) [((1,nx1), .c (Jcp (l.getD i Jh)))] [] 2 rfl rfl rfl rfl ⟨Rf,Jk hw,Rf,trivial⟩ (Jev nx nx5 0 S5 (5+(l.getD i Jh).mux) (l.getD i Jh).sub) Bf Pf rfl fun r h' hq2=> ?_
            obtain ⟨nx6,nn6,rfl,rfl⟩:=hq2
            rw [hS] at hrest
            dsimp only at hrest
            by_cases hm:(5+(l.getD i Jh).mux,(l.getD i Jh).sub)∈S5
            ·have hmx:Jhn (l.getD i Jh) S5=none:=by unfold Jhn;rw [if_neg t,if_pos hm]
             rw [hmx] at hrest
             rw [decide_eq_true hm]
             refine stp ?_
             rw [herr 15 hrest]
             exact Je rfl Rf
            ·have hmx:Jhn (l.getD i Jh) S5=some (JcG (5+(l.getD i Jh).mux,(l.getD i Jh).sub) S5):=by unfold Jhn JcG;rw [if_neg t,if_neg hm,if_neg hm]
             rw [hmx] at hrest
             have h3:=hnext _ hrest
             rw [decide_eq_false hm]
             refine stp ?_
             exact back (i+1,JcG (5+(l.getD i Jh).mux,(l.getD i Jh).sub) S5,nx6) ⟨hi,h3⟩ Dm (Jq _ _ rfl rfl (.cons _ Sf) Sf Bf trivial ⟨Rf,Rf,Rf,Rf,Rf,Rf,Lw,trivial⟩)
end Go.Proofs.W

namespace Go.Proofs
open Go.Shelf
shelf_lay Lays.n106 Nm 106 at Tryz as Tryz.lays106
end Go.Proofs
namespace Go.Proofs.W
open Go.Vl Go.Shelf
set_option maxRecDepth 100000
def Jc2 (s t:ByteArray):Int:=Lib.compareBytes s.data.toList t.data.toList
theorem Jnh (s t:ByteArray):Tells Tryz.prog 118 [.v (.string s), .v (.string t)] (.v (.int .i64 (Jc2 s t))):=
 JcF (vs:= [.string s, .string t]) ⟨_,Tryz.func118,rfl,rfl⟩ fun w=> (Any.strings_Compare Tryz.lays106 s t w).mono fun e w' ⟨h1,h2⟩=> ⟨h1,by subst h2;exact ⟨rfl,rfl,rfl,Nat.le_refl _,fun _ _=> rfl⟩⟩
theorem JjC (r:TRow) (s:ByteArray):Tells Tryz.prog 117 [Jp r,Jf s] (int (Jc2 r.name s)):=by
 refine Jg Tryz.func117 rfl rfl fun nx=> ?_
 refine stp ?_
 refine Jd rfl rfl (Jnh r.name s) ⟨Rf,Rf,trivial⟩ fun nx2=> ?_
 refine stp ?_
 exact Je rfl Rf
def Jbb (l:List TRow) (s:ByteArray):Nat:=(l.takeWhile fun r=> decide (Jc2 r.name s < 0)).length
theorem Juv (l:List TRow) (s:ByteArray):Jbb l s≤l.length:=by
 unfold Jbb
 have:=congrArg List.length (List.takeWhile_append_dropWhile (p:=fun r:TRow=> decide (Jc2 r.name s < 0)) (l:=l))
 rw [List.length_append] at this
 omega
theorem Jky {s:ByteArray}:∀ {l:List TRow} {j:Nat},j < Jbb l s→Jc2 (l.getD j Jh).name s < 0
 | [],j,h=> by simp [Jbb] at h
 | r::l,j,h=> by
   unfold Jbb at h
   rw [List.takeWhile_cons] at h
   by_cases hc:Jc2 r.name s < 0
   ·rw [if_pos (by simpa using hc)] at h
    cases j with
    | zero=> exact hc
    | succ j=> exact Jky (l:=l) (j:=j) (by unfold Jbb;simp at h;omega)
   ·rw [if_neg (by simpa using hc)] at h;simp at h
theorem JhZ {s:ByteArray}:∀ {l:List TRow},Jbb l s < l.length→¬Jc2 (l.getD (Jbb l s) Jh).name s < 0
 | [],h=> by simp at h
 | r::l,h=> by
   by_cases hc:Jc2 r.name s < 0
   ·have e:Jbb (r::l) s=Jbb l s+1:=by unfold Jbb;rw [List.takeWhile_cons,if_pos (by simpa using hc)];rfl
    rw [e] at h⊢
    exact JhZ (l:=l) (by simpa using h)
   ·have e:Jbb (r::l) s=0:=by unfold Jbb;rw [List.takeWhile_cons,if_neg (by simpa using hc)];rfl
    rw [e];exact hc
def JgK (l:List TRow) (s:ByteArray):Prop:=∀i j,i < j→j < l.length→Jc2 (l.getD j Jh).name s < 0→Jc2 (l.getD i Jh).name s < 0
theorem Juw {l:List TRow} {s:ByteArray} (hs:JgK l s) {j:Nat} (h1:Jbb l s≤j) (h2:j < l.length):¬Jc2 (l.getD j Jh).name s < 0:=fun h=> by
 rcases Nat.lt_or_ge (Jbb l s) j with q | q
 ·exact JhZ Om (hs _ j q h2 h)
 ·have e:Jbb l s=j:=by omega
  exact JhZ (l:=l) (s:=s) Om (by rw [e];exact h)
def JaJ (l:List TRow) (s:ByteArray):Bool:=decide (Jbb l s < l.length)&& decide (Jc2 (l.getD (Jbb l s) Jh).name s=0)
theorem Jux {a b:Nat} (h:a+b≤4000000):IntKind.i64.wrap ((IntKind.u64.wrap (IntKind.i64.wrap ((a:Int)+(b:Int)))).fdiv (2 ^ min (Int.toNat 1) IntKind.u64.bits))=(((a+b) / 2:Nat):Int):=by
 rw [JaX (n:=(a:Int)+(b:Int)) Om Om]
 have hu:IntKind.u64.wrap ((a:Int)+(b:Int))=(a:Int)+(b:Int):=by
  show ((a:Int)+(b:Int)) % 18446744073709551616=_
  omega
 rw [hu]
 have h2:(2:Int) ^ min (Int.toNat 1) IntKind.u64.bits=2:=by decide
 rw [h2,Int.fdiv_eq_ediv_of_nonneg _ Dc]
 rw [JaX Om Om]
 omega
set_option maxHeartbeats 2000000 in
theorem Jni (l:List TRow) (s:ByteArray) (hl:l.length≤1000000) (hs:JgK l s):
 Tells Tryz.prog 116 [JN l,Jf s,fn0 117] (.tup [int (Jbb l s),Jb (JaJ l s)]):=by
 have hk:=Juv l s
 have hlt:=fun j=> Jky (l:=l) (s:=s) (j:=j)
 have hge:=fun j=> Juw (j:=j) hs
 unfold JaJ
 generalize Jbb l s=k at hk hlt hge⊢
 refine Jg Tryz.func116 rfl rfl fun nx=> ?_
 refine stp ?_
 refine Jy (fun y:Nat×Nat×Nat=> mk 49 [(0,JN l),(1,Jf s),(2,fn0 117),(8,int l.length),(9,int y.1),(10,int y.2.1)] ⟨[], [],y.2.2,0⟩) (fun y=> y.1≤k∧k≤y.2.1∧y.2.1≤l.length) (fun y=> y.2.1 - y.1) ?_ ?_
 ·exact ⟨(0,l.length,nx),⟨Nat.zero_le _,hk,Nat.le_refl _⟩,JaI rfl rfl ⟨Rf,Rf,Rf,Rf,Rf,Rf,trivial⟩⟩
 ·rintro ⟨lo,hi,nx1⟩ ⟨h1,h2,h3⟩
  dsimp only at h1 h2 h3
  refine stp ?_
  intro c g;cases c
  ·have g:=Ju g
   try dsimp only at g
   have e:lo=k:=by omega
   subst e
   by_cases hkl:lo < l.length
   ·have hf1:=JjC (l.getD lo Jh) s
    have hd:decide ((lo:Int) < (l.length:Int))=true:=decide_eq_true Om
    refine stp ?_
    (conv=> whnf)
    refine JeS hd ?_
    refine stp ?_
    refine ⟨Bd, ?_⟩
    refine stp ?_
    refine Jd rfl rfl hf1 ⟨Rf,Rf,trivial⟩ fun nx2=> ?_
    intro c t;cases c
    all_goals
     refine stp ?_
     exact Je rfl (AVle.tups (cs:= [_,_]) ⟨Rf,JH (t.trans (by rw [decide_eq_true hkl,Bool.true_and,Bool.eq_iff_iff];simp)),trivial⟩)
   ·have hd:decide ((lo:Int) < (l.length:Int))=false:=decide_eq_false Om
    rw [decide_eq_false hkl,Bool.false_and]
    refine stp ?_
    (conv=> whnf)
    refine JeS hd ?_
    refine stp ?_
    exact Je rfl Rf
  ·have g:=Jv g
   try dsimp only at g
   have hm:=Jux (a:=lo) (b:=hi) Om
   have hml:(lo+hi) / 2 < l.length:=by omega
   have hf1:=JjC (l.getD ((lo+hi) / 2) Jh) s
   refine stp ?_
   refine ⟨⟨Jc1 (i:=(lo+hi) / 2) hm,Jdg (i:=(lo+hi) / 2) hm hml⟩,JP (b:= .rp (Jcp (l.getD ((lo+hi) / 2) Jh))) (congrArg (fun z:Int=> AV.rp (Jcp (l.getD z.toNat Jh))) hm) ?_⟩
   refine stp ?_
   refine Jd rfl rfl hf1 ⟨Rf,Rf,trivial⟩ fun nx2=> ?_
   refine stp ?_
   intro c gg;cases c
   ·have gg:¬Jc2 (l.getD ((lo+hi) / 2) Jh).name s < 0:=Ju gg
    have hkm:k≤(lo+hi) / 2:=by
     rcases Nat.lt_or_ge ((lo+hi) / 2) k with q | q
     ·exact absurd (hlt _ q) gg
     ·exact q
    refine stp ?_
    exact back (lo,(lo+hi) / 2,nx2) ⟨h1,hkm,by dsimp only;omega⟩ Dm (JaI rfl rfl ⟨Rf,Rf,Rf,Rf,Rf,Jk hm,trivial⟩)
   ·have gg:Jc2 (l.getD ((lo+hi) / 2) Jh).name s < 0:=Jv gg
    have hkm:(lo+hi) / 2+1≤k:=by
     rcases Nat.lt_or_ge ((lo+hi) / 2) k with q | q
     ·exact q
     ·exact absurd gg (hge _ q hml)
    refine stp ?_
    exact back ((lo+hi) / 2+1,hi,nx2) ⟨hkm,h2,h3⟩ Dm (JaI rfl rfl ⟨Rf,Rf,Rf,Rf,Jk (by rw [hm];exact J7 Om),Rf,trivial⟩)
def JjD (l:List TRow) (s:ByteArray):AV:=if JaJ l s then .tup [Jp (l.getD (Jbb l s) Jh),int (Jbb l s),Jb true] else .tup [Jp Jh,int 0,Jb false]
theorem JfF (l:List TRow) (s:ByteArray) (hl:l.length≤1000000) (hs:JgK l s):Tells Tryz.prog 50 [JN l,Jf s] (JjD l s):=by
 have hb:=Jni l s hl hs
 have hk:JaJ l s=true→Jbb l s < l.length:=fun h=> by unfold JaJ at h;simp only [Bool.and_eq_true,decide_eq_true_eq] at h;exact h.1
 unfold JjD
 generalize Jbb l s=k at hb hk⊢
 refine Jg Tryz.func50 rfl rfl fun nx=> ?_
 cases hf:JaJ l s with
 | true=>
   rw [hf] at hb hk
   have hk:=hk rfl
   rw [if_pos rfl]
   refine stp ?_
   refine Jd rfl rfl hb ⟨Rf,Rf,Rf,trivial⟩ fun nx2=> ?_
   refine stp ?_
   refine ⟨Bd, ?_⟩
   refine stp ?_
   exact Jj rfl ⟨rfl,trivial⟩ Rf
 | false=>
   rw [hf] at hb
   rw [if_neg Dc]
   refine stp ?_
   refine Jd rfl rfl hb ⟨Rf,Rf,Rf,trivial⟩ fun nx2=> ?_
   refine stp ?_
   exact Jj rfl ⟨rfl,trivial⟩ Rf
theorem JoX:∀ {a b:List UInt8},Lib.compareBytes a b < 0↔a < b
 | [], []=> by simp [Lib.compareBytes]
 | [],b::l=> by simp [Lib.compareBytes]
 | a::l, []=> by simp [Lib.compareBytes]
 | a::l,b::m=> by
   have ih:=JoX (a:=l) (b:=m)
   unfold Lib.compareBytes
   rw [List.cons_lt_cons_iff]
   split
   ·rename_i h;simp [h]
   ·rename_i h
    split
    ·rename_i h2
     constructor
     ·intro h3;exact absurd h3 Dc
     ·rintro (h3 | ⟨h3,_⟩)
      ·exact absurd h3 h
      ·subst h3;exact absurd h2 h
    ·rename_i h2
     rw [ih]
     constructor
     ·intro h3;exact .inr ⟨UInt8.le_antisymm (UInt8.not_lt.1 h2) (UInt8.not_lt.1 h),h3⟩
     ·rintro (h3 | ⟨_,h3⟩)
      ·exact absurd h3 h
      ·exact h3
theorem Jnj:∀ {a b:List UInt8},Lib.compareBytes a b=0↔a=b
 | [], []=> by simp [Lib.compareBytes]
 | [],b::l=> by simp [Lib.compareBytes]
 | a::l, []=> by simp [Lib.compareBytes]
 | a::l,b::m=> by
   have ih:=Jnj (a:=l) (b:=m)
   unfold Lib.compareBytes
   split
   ·rename_i h
    constructor
    ·intro h3;exact absurd h3 Dc
    ·intro h3;cases h3;exact absurd h (UInt8.lt_irrefl _)
   ·rename_i h
    split
    ·rename_i h2
     constructor
     ·intro h3;exact absurd h3 Dc
     ·intro h3;cases h3;exact absurd h2 (UInt8.lt_irrefl _)
    ·rename_i h2
     rw [ih,List.cons.injEq]
     exact ⟨fun h3=> ⟨UInt8.le_antisymm (UInt8.not_lt.1 h2) (UInt8.not_lt.1 h),h3⟩,fun h3=> h3.2⟩
theorem JfZ {s t:ByteArray} (h:s.data.toList=t.data.toList):s=t:=by
 obtain ⟨⟨l⟩⟩:=s;obtain ⟨⟨l'⟩⟩:=t
 exact congrArg (fun l=> (⟨⟨l⟩⟩:ByteArray)) h
theorem JjE:∀x y:List UInt8,Go.Sort.ltStr x y=false→Go.Sort.ltStr y x=false→x=y:=fun x y h1 h2=> by
 simp only [Go.Sort.ltStr,decide_eq_false_iff_not,List.not_lt] at h1 h2
 exact List.le_antisymm h2 h1
theorem Jkz {s t:ByteArray}:Jc2 s t < 0↔Go.Sort.ltStr s.data.toList t.data.toList=true:=by
 unfold Jc2 Go.Sort.ltStr;rw [JoX,decide_eq_true_iff]
theorem JoY {s t:ByteArray}:Jc2 s t=0↔s=t:=by
 unfold Jc2;rw [Jnj]
 exact ⟨JfZ,fun h=> by rw [h]⟩
theorem Jvy {s t:ByteArray} (h:leB s t=false):Go.Sort.ltStr t.data.toList s.data.toList=true:=by
 unfold leB at h
 rw [Bool.or_eq_false_iff,Go.Proofs.bytesLess_eq,Lib.toList_data,Lib.toList_data] at h
 cases hl:Go.Sort.ltStr t.data.toList s.data.toList with
 | true=> rfl
 | false=>
   have e:=JjE _ _ hl h.1
   rw [e] at h;simp at h
def JkA (l:List TRow):Prop:=∀i j,i < j→j < l.length→Go.Sort.ltStr (l.getD i Jh).name.data.toList (l.getD j Jh).name.data.toList=true
theorem JeK {l:List TRow} (h:JkA l) (s:ByteArray):JgK l s:=fun i j hij hj hc=> by
 rw [Jkz] at hc⊢
 exact Go.Sort.swo_ltStr.trans _ _ _ (h i j hij hj) hc
end Go.Proofs.W

namespace Go.Proofs.W
open Go.Vl
set_option maxRecDepth 100000
end Go.Proofs.W

namespace Go.Proofs
open Go.Shelf
shelf_lay Lays.n217 Nm 217 at Tryz as Tryz.lays217
shelf_lay Lays.n229 Nm 229 at Tryz as Tryz.lays229
end Go.Proofs
namespace Go.Proofs.W
open Go.Vl Go.Shelf
set_option maxRecDepth 100000
def i32 (n:Int):AV:= .v (.int .i32 n)
def JdI (x:Nat):Bool:=decide (x=32)|| decide (x=9)|| decide (x=13)
theorem JjF (x:Nat):Tells Tryz.prog 178 [i32 x] (Jb (JdI x)):=by
 have hb:JdI x=(((x:Int) ==32)|| (((x:Int) ==9)|| ((x:Int) ==13))):=by
  unfold JdI
  rw [show ((x:Int) ==32)=decide (x=32) by rw [Bool.eq_iff_iff];simp;omega,show ((x:Int) ==9)=decide (x=9) by rw [Bool.eq_iff_iff];simp;omega,show ((x:Int) ==13)=decide (x=13) by rw [Bool.eq_iff_iff];simp;omega,Bool.or_assoc]
 refine Jg Tryz.func178 rfl rfl fun nx=> ?_
 refine stp ?_
 intro c hc
 have hc2:c=((x:Int) ==32):=hc
 clear hc
 rw [← hc2] at hb
 clear hc2
 cases c
 ·refine stp ?_
  intro c hc
  have hc2:c=((x:Int) ==9):=hc
  clear hc
  rw [← hc2,Bool.false_or] at hb
  clear hc2
  cases c
  ·refine stp ?_
   intro c hc
   have hc2:c=((x:Int) ==13):=hc
   clear hc
   rw [← hc2,Bool.false_or] at hb
   refine stp ?_
   exact Je rfl (JH (by exact hb.symm))
  ·refine stp ?_
   exact Je rfl (JH (by exact hb.symm))
 ·refine stp ?_
  exact Je rfl (JH (by exact hb.symm))
def Jnk (s:ByteArray):Prop:=∀i,i < s.size→(s.get! i).toNat < 128∧(JdI (s.get! i).toNat=true∨(32≤(s.get! i).toNat∧(s.get! i).toNat≤126))
set_option maxHeartbeats 2000000 in
theorem JjG (s:ByteArray) (hs:Jnk s) (hl:s.size≤1000000):Tells Tryz.prog 176 [Jf s] (Jb true):=by
 refine Jg Tryz.func176 rfl rfl fun nx=> ?_
 refine stp ?_
 refine JpE rfl Tryz.underlying9 rfl ?_
 refine stp ?_
 refine Jy (fun y:Nat×Nat=> mk 21 [(0,Jf s),(6, .bp (0,nx) 0)] ⟨[((0,nx), .si s y.1)], [],y.2,1⟩) (fun y=> y.1≤s.size) (fun y=> s.size - y.1) ?_ ?_
 ·exact ⟨(0,nx+1),Nat.zero_le _,Et (pm:= []) (bx:= [((0,nx), .si s 0)]) rfl rfl Bf trivial ⟨Rf,Rf,trivial⟩⟩
 ·rintro ⟨i,nx1⟩ h1
  dsimp only at h1
  refine stp ?_
  by_cases hi:i < s.size
  ·obtain ⟨q1,q2⟩:=hs i hi
   have hd:=Jrm q1
   have hbl:=JjF (s.get! i).toNat
   generalize (s.get! i).toNat=x at q1 q2 hd hbl
   refine JpF rfl rfl rfl hi hd ?_
   refine stp ?_
   refine Jd rfl rfl hbl ⟨Rf,trivial⟩ fun nx2=> ?_
   cases hb:JdI x with
   | true=>
     refine stp ?_
     exact back (i+1,nx2) hi Dm (Et (pm:= []) (bx:= [((0,nx), .si s (i+1))]) rfl rfl Bf trivial ⟨Rf,Rf,trivial⟩)
   | false=>
     rw [hb] at q2
     have h32:32≤x∧x≤126:=q2.resolve_left Dc
     refine stp ?_
     (intro c hc;obtain rfl:c=false:=hc.trans (by first | exact decide_eq_false Om | (simp;omega));refine stp ?_)
     (intro c hc;obtain rfl:c=false:=hc.trans (by first | exact decide_eq_false Om | (simp;omega));refine stp ?_)
     exact back (i+1,nx2) hi Dm (Et (pm:= []) (bx:= [((0,nx), .si s (i+1))]) rfl rfl Bf trivial ⟨Rf,Rf,trivial⟩)
  ·refine JpG rfl rfl rfl hi ?_
   refine stp ?_
   exact Je rfl Rf
end Go.Proofs.W

namespace Go.Proofs.W
open Go.Vl Go.Shelf
set_option maxRecDepth 100000
theorem JrG (s:ByteArray) (c:Int):Tells Tryz.prog 316 [.v (.string s), .v (.int .u8 c)] (.v (.int .i64 (Lib.indexByte s.data.toList c.toNat.toUInt8))):=
 JcF (vs:= [.string s, .int .u8 c]) ⟨_,Tryz.func316,rfl,rfl⟩ fun w=> (Any.stringslite_IndexByte Tryz.lays217 s c w).mono fun e w' ⟨h1,h2⟩=> ⟨h1,by subst h2;exact ⟨rfl,rfl,rfl,Nat.le_refl _,fun _ _=> rfl⟩⟩
theorem Jit (s:ByteArray) (hs:s.size≤1000000):Tells Tryz.prog 177 [Jf s, .fn (.func 178) [] []] (.sl 1 (Lib.goFieldsP JdI s).length fun k=> .v (((Lib.goFieldsP JdI s).map Value.string).getD k undef)):=by
 have h:=JmV (P:=Tryz.prog) (f:=177) (ars:= [Jf s, .fn (.func 178) [] []]) (vs:= [.string s, .func (.func 178) #[] #[]]) (xs:=(Lib.goFieldsP JdI s).map Value.string) (t:=9) ⟨_,Tryz.func177,rfl,rfl⟩ (fun w X g us h1 h2=> by
  match us,h1 with
  | [a,b],_=>
    have ha:=h2 0 _ a rfl rfl
    have hb:=Jwh _ _ _ _ (h2 1 _ b rfl rfl)
    generalize a=a' at ha
    generalize b=b' at hb
    cases ha
    cases hb
    rfl) (fun w hk=> by
  rw [List.length_map]
  exact Any.strings_FieldsFunc_grows Tryz.lays229 178 #[] (fun args w=> enters_of Tryz.func178 (by kernel_rfl) rfl args w) JdI s w Om (Jl4 (fun x _=> JjF x) w hk) (by kernel_rfl) (by kernel_rfl))
 rw [List.length_map] at h
 exact h
set_option maxHeartbeats 1000000 in
theorem Jlq (s:ByteArray) (b:UInt8) (hne:((⟨#[b]⟩:ByteArray).toList ==s.toList)=false):Tells Tryz.prog 371 [Jf s,Jf ⟨#[b]⟩] (int (Lib.indexByte s.data.toList b)):=by
 have hi:=JrG s (b.toNat:Int)
 have hbb:((b.toNat:Int).toNat.toUInt8)=b:=by simp
 rw [hbb] at hi
 refine Jg Tryz.func371 rfl rfl fun nx=> ?_
 refine stp ?_
 intro c hc
 obtain rfl:c=false:=hc.trans hne
 refine stp ?_
 (conv=> whnf)
 refine ⟨⟨by decide,(show (0:Int) < 1 by decide)⟩, ?_⟩
 refine stp ?_
 refine Jd rfl rfl hi ⟨Rf,Rf,trivial⟩ fun nx2=> ?_
 refine stp ?_
 exact Je rfl Rf
set_option maxHeartbeats 1000000 in
theorem Jlr (s:ByteArray) (b:UInt8) (hne:((⟨#[b]⟩:ByteArray).toList ==s.toList)=false) (h:Lib.indexByte s.data.toList b=-1):Tells Tryz.prog 251 [Jf s,Jf ⟨#[b]⟩] (.tup [Jf s,Jf ⟨#[]⟩,Jb false]):=by
 have hi:=Jlq s b hne
 rw [h] at hi
 have hc:Tells Tryz.prog 305 [Jf s,Jf ⟨#[b]⟩] (.tup [Jf s,Jf ⟨#[]⟩,Jb false]):=by
  refine Jg Tryz.func305 rfl rfl fun nx=> ?_
  refine stp ?_
  refine Jd rfl rfl hi ⟨Rf,Rf,trivial⟩ fun nx2=> ?_
  refine stp ?_
  exact Jj rfl trivial Rf
 refine Jg Tryz.func251 rfl rfl fun nx=> ?_
 refine stp ?_
 refine Jd rfl rfl hc ⟨Rf,Rf,trivial⟩ fun nx2=> ?_
 refine stp ?_
 exact Jj rfl trivial Rf
theorem JjH (s:ByteArray) (b:UInt8) (hne:((⟨#[b]⟩:ByteArray).toList ==s.toList)=false):Tells Tryz.prog 370 [Jf s,Jf ⟨#[b]⟩] (int (Lib.indexByte s.data.toList b)):=by
 have hi:=Jlq s b hne
 refine Jg Tryz.func370 rfl rfl fun nx=> ?_
 refine stp ?_
 refine Jd rfl rfl hi ⟨Rf,Rf,trivial⟩ fun nx2=> ?_
 refine stp ?_
 exact Je rfl Rf
end Go.Proofs.W

namespace Go.Proofs.W
open Go.Vl Go.Shelf
set_option maxRecDepth 100000
def JaT:ByteArray:=⟨#[100,101,102,97,117,108,116,32,107,105,108,108]⟩
def lineB:ByteArray:=⟨#[114,101,97,100,32,97,108,108,111,119]⟩
def textAB:ByteArray:=⟨#[100,101,102,97,117,108,116,32,107,105,108,108,10,114,101,97,100,32,97,108,108,111,119]⟩
theorem Jp3 (s:ByteArray):Tells Tryz.prog 175 [Jf s] (.fn (.func 249) [] [.rp [Jf s]]):=by
 refine Jg Tryz.func175 rfl rfl fun nx=> ?_
 (repeat ((conv=>whnf);first|refine ω0 ?_|refine ω1 ?_|refine ω2 ?_|refine ω3 ?_|refine ω4 rfl ?_|refine ω5 rfl ?_|refine ω6 ?_|refine ω7 ?_|refine ⟨rfl,?_⟩|refine ⟨trivial,?_⟩|refine ⟨⟨rfl,Nat.le_of_ble_eq_true rfl⟩,?_⟩|refine ⟨⟨by kernel_rfl,by kernel_rfl⟩,?_⟩|refine ⟨by decide,?_⟩|refine Jfy ?_|refine JeP ?_))
 refine AW.le (Jcm (L:= [(2, .fn (.func 249) [] [.rp [Jf s]])]) (bx:= []) (pm:= []) (nn:=1) [((0,nx), .c [Jf s])] rfl rfl Sf .slnil ⟨Frz.fn trivial ⟨Frz.bp (.head _) rfl,trivial⟩,trivial⟩) ?_
 refine stp ?_
 exact Je rfl Rf
def JbR (a:Nat) (s sep:ByteArray):List (Vl.Id×Own):= [((12,a+2), .c [int 0]),((11,a+1), .c [Jf sep]),((10,a), .c [Jf s])]
def Jnl (a:Nat):AV:= .fn (.func 368) [] [.bp (11,a+1) 0, .bp (10,a) 0, .bp (12,a+2) 0]
theorem Jor (s sep:ByteArray) (nx:Nat):ECall Tryz.prog 304 [Jf s,Jf sep,int 0] ⟨[], [],nx,10⟩ fun r h'=> r=Jnl nx∧h'=⟨JbR nx s sep, [],nx+3,13⟩:=by
 refine JT Tryz.func304 rfl rfl ?_
 refine stp ?_
 exact Jac rfl ⟨rfl,rfl⟩
theorem Jl8 (s sep:ByteArray) (nx:Nat):ECall Tryz.prog 250 [Jf s,Jf sep] ⟨[], [],nx,10⟩ fun r h'=> r=Jnl nx∧h'=⟨JbR nx s sep, [],nx+3,13⟩:=by
 refine JT Tryz.func250 rfl rfl ?_
 refine stp ?_
 refine JfW (xs:= [Jf s,Jf sep,int 0]) [] [] 13 rfl rfl rfl rfl ⟨Rf,Rf,Rf,trivial⟩ (Jor s sep nx) Bf Pf rfl fun r h' hq=> ?_
 obtain ⟨rfl,rfl⟩:=hq
 refine stp ?_
 exact Jac rfl ⟨rfl,rfl⟩
def Jxd:Nat→ByteArray
 | 0=> textAB
 | _=> lineB
set_option maxHeartbeats 2000000 in
theorem Jp4 (a:Nat):Jkr Tryz.prog 368 [] [.bp (11,a+1) 0, .bp (10,a) 0, .bp (12,a+2) 0] (fun s:ByteArray=> [Jf s]) [JaT,lineB] (JbR a textAB ⟨#[10]⟩):=by
 intro i σ Cb Cp I hc s0 nx nn h0
 refine ECall.wk (JT Tryz.func368 rfl rfl ?_)
 have hi0:=JjH textAB 10 (by rw [Lib.toList_data,Lib.toList_data];decide)
 have hi1:=JjH lineB 10 (by rw [Lib.toList_data,Lib.toList_data];decide)
 rw [show Lib.indexByte textAB.data.toList 10=12 by decide] at hi0
 rw [show Lib.indexByte lineB.data.toList 10=-1 by decide] at hi1
 refine stp ?_
 refine Jy (fun y:Nat×σ×Nat=> mk 52 [(0, .yl i),(1, .bp (11,a+1) 0),(2, .bp (10,a) 0),(3, .bp (12,a+2) 0)] ⟨JbR a (Jxd y.1) ⟨#[10]⟩++Cb y.2.1,Cp y.2.1,y.2.2,nn⟩) (fun y=> y.1≤1∧I ([JaT].take y.1) y.2.1) (fun y=> 1 - y.1) ?_ ?_
 ·exact ⟨(0,s0,nx),⟨Nat.zero_le _,h0⟩,Et rfl rfl Bf Pf ⟨Rf,Rf,Rf,Rf,trivial⟩⟩
 ·rintro ⟨k,s,nx1⟩ ⟨k1,hI⟩
  dsimp only at k1 hI
  obtain rfl | rfl:k=0∨k=1:=by omega
  ·refine stp ?_
   refine Jd rfl rfl hi0 ⟨Rf,Rf,trivial⟩ fun nx2=> ?_
   refine stp ?_
   (conv=> whnf)
   refine ⟨⟨by decide,(by decide:(12:Int)≤23)⟩,JP (b:=Jf JaT) (by kernel_rfl) ?_⟩
   refine stp ?_
   refine JgD (pre:= []) (x:=JaT) (post:= [lineB]) (s:=s) (JbR a textAB ⟨#[10]⟩) [] rfl rfl rfl hc rfl hI ⟨Rf,trivial⟩ (fun s' nx' hI'=> ?_) (fun s' nx' hJ=> hJ.elim)
   refine stp ?_
   exact back (1,s',nx') ⟨Nat.le_refl _,hI'⟩ Dm (Et (bx:=JbR a lineB ⟨#[10]⟩++Cb s') rfl rfl ⟨rfl,OwnLe.refl _,rfl,OwnLe.refl _,rfl,⟨AVle.of_eq (by kernel_rfl),trivial⟩,Bf⟩ Pf ⟨Rf,Rf,Rf,Rf,trivial⟩)
  ·refine stp ?_
   refine Jd rfl rfl hi1 ⟨Rf,Rf,trivial⟩ fun nx2=> ?_
   refine stp ?_
   refine JgD (pre:= [JaT]) (x:=lineB) (post:= []) (s:=s) (JbR a lineB ⟨#[10]⟩) [] rfl rfl rfl hc rfl hI ⟨Rf,trivial⟩ (fun s' nx' hI'=> ?_) (fun s' nx' hJ=> hJ.elim)
   refine stp ?_
   refine Jac rfl ⟨_,⟨Cb s',Cp s',nx',0⟩,Rf, ?_,s',hI',rfl,rfl⟩
   exact Jaz _ _ rfl (List.sublist_append_right _ _) Sf Bf Pf
end Go.Proofs.W
