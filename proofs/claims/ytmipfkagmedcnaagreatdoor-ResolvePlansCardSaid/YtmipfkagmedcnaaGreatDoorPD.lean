import Derived.Test.YtmipfkagmedcnaaGreatDoorPC
import Derived.Maps.RangeRun
import Derived.Sort.Row
import Derived.Sort.Grow
import Derived.Shelf.Strings.FuncGrows
import Derived.Scope
import Derived.Laws.IdiomStrings
import Derived.Shelf.SlSortCmp.InsertionK
import Derived.Sort.Statements
import Derived.KernelRfl
import Derived.Test.YtmipfkagmedcnaaGreatDoorProg
import Derived.Ground.NamesProg
import Derived.Shelf.Lay
import Derived.Shelf.Strings.SlTrimAscii
import Derived.Shelf.Small.Strs
import Derived.Sort.AssemblyPlain
import Derived.Shelf.SortM.Plain
import Derived.Shelf.SortM.SortNone
import Derived.Shelf.SlGeneric
import Derived.Ground.SlgmProg
import Derived.Sort.Walk0
import Derived.Shelf.Strings.Search1
import Derived.Shelf.Strings.FieldsFuncGrows
set_option linter.unusedVariables false
set_option linter.unusedSimpArgs false
namespace Go.Vl
open Go.RowKit
variable {P:Program}
theorem Jq4 {o:Oper} {t kt et:TypeId} {m:Operand} {es:List (Value×AV)} {E:Env} {K:Env→Prop} {Kp:AV→Env→Prop} (ho:o.op= .range t m) (ht:P.underlying t=some (.map kt et)) (hm:E.ev m= .fm es)
 (hk:K (({ E with h:=E.h.addo (.it es [])}:Env).set o.dst (.bp (E.h.nn,E.h.nx) 0))):AOp P o E K Kp:=by
 intro ro X M w0 a w g hs next Q hn hp
 have hr:=hs.ev m
 rw [hm] at hr
 generalize hmv:a.eval m=u at hr
 cases hr with
 | fm _ mb ents hb hx hl hke hrp=>
   obtain ⟨h1,h2,_⟩:=hs.obj (x:= .it es []) (.mapIter (some mb) ents.length #[] ents.length) (fun X' g' hst hnew=> ⟨mb,ents,hnew,(hst.obj _ _ hb hx).1,(hst.obj _ _ hb hx).2,hl,fun k p e q1 q2=> ⟨(hke k p e q1 q2).1,(hke k p e q1 q2).2,(hrp k p e q1 q2).stays hst⟩⟩)
   refine JT (by rw [ho];intro c h;cases h) ?_
   have:(execOp a.eval o).run P w= .ok (.value (.pointer (some ⟨w.heap.size,0,none⟩))) (w.alloc (.mapIter (some mb) ents.length #[] ents.length)):=by
    unfold execOp
    simp only [ho,Instr.range,hmv,Sem.run_bind,JeN ht,Result.andThen_ok,Jch hb]
    simp [newObj,Sem.run]
   rw [this]
   exact hn _ _ _ _ hk (fun i b h=> by rw [List.getElem?_append_left (List.getElem?_eq_some_iff.1 h).1];exact h) (h1.put o.dst (.bp _ _ _ h2))
theorem JsR {Y:Nat→Nat→Prop} {g:List Nat} {h:Heap} {nm:Nat} {x:Own} {b o:Nat} (hx:excl Y g ({ h with bx:=JaV nm x h.bx}:Heap) b o):excl Y g h b o:=by
 rcases hx with hx | ⟨p,hp,hg⟩ | hx
 ·exact .inl hx
 ·have:p.1.2∈(JaV nm x h.bx).map (·.1.2):=List.mem_map.2 ⟨p,hp,rfl⟩
  rw [Jfk] at this
  obtain ⟨q,hq,he⟩:=List.mem_map.1 this
  exact .inr (.inl ⟨q,hq,by rw [he];exact hg⟩)
 ·exact .inr (.inr hx)
theorem JsS {o:Oper} {it:Operand} {i:Id} {es:List (Value×AV)} {seen:List Nat} {E:Env} {K:Env→Prop} {Kp:AV→Env→Prop} (ho:o.op= .next it false) (hit:E.ev it= .bp i 0) (hes:Jay i.1 E.h.bx=some (i.2, .it es seen))
 (hmore:∀k p,es[k]? =some p→k∉seen→K (({ E with h:= { E.h with bx:=JaV i.1 (.it es (seen++ [k])) E.h.bx}}:Env).set o.dst (.tup [.v (.bool true), .v p.1,p.2])))
 (hdone:(∀k,k < es.length→k∈seen)→K (E.set o.dst (.tup [.v (.bool false)]))):AOp P o E K Kp:=by
 intro ro X M w0 a w g hs next Q hn hp
 obtain ⟨b,hgb,hown⟩:=hs.hok.bx _ (JaM hes)
 dsimp only at hgb hown
 have hiv:a.eval it= .pointer (some ⟨b,0,none⟩):=by
  have:=hs.ev it
  rw [hit] at this
  generalize a.eval it=u at this
  cases this with
  | bp _ _ b' hg'=> rw [hgb] at hg';cases hg';rfl
 obtain ⟨mb,ents,h1,h2,h3,h4,h5⟩:=hown
 have hborn:∀x∈ents.toArray.toList,x.born < ents.length:=fun x hx=> by
  obtain ⟨k,hk,rfl⟩:=List.getElem_of_mem hx
  have hk2:k < es.length:=by rw [← h4];exact hk
  rw [(h5 k _ _ (List.getElem?_eq_getElem hk2) (List.getElem?_eq_getElem hk)).2.1];exact hk
 refine JT (by intro c h;rw [ho] at h;cases h) ?_
 rcases run_next_at (P:=P) w o.type b mb ents.length ents.length seen.toArray ents.toArray ents.length h1 h2 hborn (Nat.le_refl _) with ⟨h0,hrun⟩ | ⟨e,he,w1,hw1,hrun⟩
 ·have:(execOp a.eval o).run P w= .ok (.value (.tuple #[.bool false])) w:=by
   unfold execOp
   simp only [ho,hiv,hrun,Sem.run_bind,Result.andThen_ok,Sem.run_pure]
  rw [this]
  refine hn _ _ _ g (hdone fun k hk=> ?_) (fun _ _ h=> h) (hs.put o.dst ?_)
  ·have hk2:k < ents.length:=by rw [h4];exact hk
   have hb:=(h5 k _ _ (List.getElem?_eq_getElem hk) (List.getElem?_eq_getElem hk2)).2.1
   rcases Decidable.em (k∈seen) with h | h
   ·exact h
   ·exfalso
    have hem:(leftOf ents.toArray seen.toArray)= #[]:=Array.eq_empty_of_size_eq_zero h0
    unfold leftOf at hem
    rw [Array.filter_eq_empty_iff] at hem
    have:=hem ents[k] (by simp)
    simp [hb] at this
    exact h this
  ·refine .tup [.v (.bool false)] [.bool false] rfl fun k c u hc hu=> ?_
   cases k with
   | zero=> simp at hc hu;subst hc;subst hu;exact .v _
   | succ k=> simp at hc
 ·have hem:e∈ents∧e.born∉seen:=by
   unfold leftOf at he
   simp at he
   exact he
  obtain ⟨k,hk,hek⟩:=List.getElem_of_mem hem.1
  have hk2:k < es.length:=by rw [← h4];exact hk
  obtain ⟨q1,q2,q3⟩:=h5 k es[k] ents[k] (List.getElem?_eq_getElem hk2) (List.getElem?_eq_getElem hk)
  rw [hek] at q1 q2 q3
  have s1:St ro X M w0 E a w1 g:=by
   rcases hw1 with rfl | rfl
   ·exact hs
   ·exact hs.drew
  have hb1:w1.heap[b]? =some (.mapIter (some mb) ents.length seen.toArray ents.length):=by rcases hw1 with rfl | rfl <;> exact h1
  have hm1:w1.heap[mb]? =some (.map ents.toArray ents.length):=by rcases hw1 with rfl | rfl <;> exact h2
  have hst:Stays w (excl X g E.h) g w1 (excl X g E.h) g:=by
   rcases hw1 with rfl | rfl
   ·exact Stays.refl _ _ _
   ·exact (Jf0 w).stays (fun _ _ _ h=> h.elim) (fun _ _ _ h=> h) (fun _ _ h=> h)
  have hev:=Jdq (o':= .mapIter (some mb) ents.length (seen++ [k]).toArray ents.length) hb1 rfl (fun h=> by cases h)
  have hne:mb≠b:=fun h=> by rw [h] at h2;rw [h1] at h2;cases h2
  have hnew:=s1.setOwn (x:= .it es (seen++ [k])) hes hgb hev (fun hst2=> ⟨mb,ents,Jc2 hb1,(JdH hne).trans hm1,h3,h4,fun k' p' e' r1 r2=> ⟨(h5 k' p' e' r1 r2).1,(h5 k' p' e' r1 r2).2.1,((h5 k' p' e' r1 r2).2.2.stays hst).stays hst2⟩⟩)
  have:(execOp a.eval o).run P w= .ok (.value (.tuple #[.bool true,e.key,e.val])) (World.setO w1 b (.mapIter (some mb) ents.length (seen++ [k]).toArray ents.length)):=by
   unfold execOp
   simp only [ho,hiv,hrun,Sem.run_bind,Result.andThen_ok,Sem.run_pure,q2,List.push_toArray]
   rfl
  rw [this]
  refine hn _ _ _ g (hmore k es[k] (List.getElem?_eq_getElem hk2) (by rw [← q2];exact hem.2)) (fun _ _ h=> h) (hnew.put o.dst ?_)
  have hval:=((q3.stays hst).stays (hev.stays (X:=excl X g E.h) (X':=excl X g E.h) (g:=g) (g':=g) (fun b' o' _ hbb=> by
   subst hbb
   exact .inr (.inl ⟨_,JaM hes,hgb⟩)) (fun _ _ _ h=> h) (fun _ _ h=> h)))
  refine .tup _ [.bool true,e.key,e.val] rfl fun j c u hc hu=> ?_
  rcases j with _ | _ | _ | j
  ·simp at hc hu;subst hc;subst hu;exact .v _
  ·simp at hc hu;subst hc;subst hu;rw [q1];exact .v _
  ·simp at hc hu;subst hc;subst hu
   exact hval.stays (Stays.less fun b' o' h=> JsR h)
  ·simp at hc
theorem JsT {o:Oper} {it:Operand} {i:Id} {es:List (Value×AV)} {seen:List Nat} {k:Nat} {p:Value×AV} {E:Env} {K:Env→Prop} {Kp:AV→Env→Prop} (ho:o.op= .entry it) (hit:E.ev it= .bp i 0) (hes:Jay i.1 E.h.bx=some (i.2, .it es (seen++ [k])))
 (hp:es[k]? =some p) (hk:K (E.set o.dst (.tup [.v p.1,p.2]))):AOp P o E K Kp:=by
 intro ro X M w0 a w g hs next Q hn hpan
 obtain ⟨b,hgb,hown⟩:=hs.hok.bx _ (JaM hes)
 dsimp only at hgb hown
 have hiv:a.eval it= .pointer (some ⟨b,0,none⟩):=by
  have:=hs.ev it
  rw [hit] at this
  generalize a.eval it=u at this
  cases this with
  | bp _ _ b' hg'=> rw [hgb] at hg';cases hg';rfl
 obtain ⟨mb,ents,h1,h2,h3,h4,h5⟩:=hown
 have hk2:k < es.length:=(List.getElem?_eq_some_iff.1 hp).1
 have hk3:k < ents.length:=by rw [h4];exact hk2
 obtain ⟨q1,q2,q3⟩:=h5 k p ents[k] hp (List.getElem?_eq_getElem hk3)
 have hnd:(ents.toArray.toList.map (·.born)).Nodup:=by
  have:ents.map (·.born)=List.range ents.length:=by
   refine List.ext_getElem (by simp) fun j j1 j2=> ?_
   rw [List.getElem_map,List.getElem_range]
   have hj:j < ents.length:=by simpa using j1
   have hj2:j < es.length:=by rw [← h4];exact hj
   exact (h5 j _ _ (List.getElem?_eq_getElem hj2) (List.getElem?_eq_getElem hj)).2.1
  show (ents.map (·.born)).Nodup
  rw [this];exact List.nodup_range
 have hrun:=run_entry_at (P:=P) w b mb ents.length seen.toArray ents.toArray ents.length ents[k] (by rw [q2,List.push_toArray];exact h1) h2 (by simp) hnd
 refine JT (by intro c h;rw [ho] at h;cases h) ?_
 have:(execOp a.eval o).run P w= .ok (.value (.tuple #[ents[k].key,ents[k].val])) w:=by
  unfold execOp
  simp only [ho,hiv,hrun,Sem.run_bind,Result.andThen_ok,Sem.run_pure]
 rw [this]
 refine hn _ _ _ g hk (fun _ _ h=> h) (hs.put o.dst ?_)
 refine .tup _ [ents[k].key,ents[k].val] rfl fun j c u hc hu=> ?_
 rcases j with _ | _ | j
 ·simp at hc hu;subst hc;subst hu;rw [q1];exact .v _
 ·simp at hc hu;subst hc;subst hu;exact q3
 ·simp at hc
theorem JsU {o:Oper} {it:Operand} {i:Id} {es:List (Value×AV)} {seen:List Nat} {R:List (Id×Own)} {E:Env} {K:Env→Prop} {Kp:AV→Env→Prop} (ho:o.op= .next it false) (hit:E.ev it= .bp i 0) (hR:E.h.bx=(i, .it es seen)::R)
 (hmore:∀k p,es[k]? =some p→k∉seen→K (({ E with h:= { E.h with bx:=(i, .it es (seen++ [k]))::R}}:Env).set o.dst (.tup [.v (.bool true), .v p.1,p.2])))
 (hdone:(∀k,k < es.length→k∈seen)→K (E.set o.dst (.tup [.v (.bool false)]))):AOp P o E K Kp:=
 JsS (seen:=seen) ho hit (by rw [hR];simp [Jay]) (fun k p h1 h2=> by
  have:JaV i.1 (.it es (seen++ [k])) E.h.bx=(i, .it es (seen++ [k]))::R:=by rw [hR];simp [JaV]
  rw [this];exact hmore k p h1 h2) hdone
theorem Jq5 {o:Oper} {it:Operand} {i:Id} {es:List (Value×AV)} {seen:List Nat} {k:Nat} {p:Value×AV} {R:List (Id×Own)} {E:Env} {K:Env→Prop} {Kp:AV→Env→Prop} (ho:o.op= .entry it) (hit:E.ev it= .bp i 0) (hR:E.h.bx=(i, .it es (seen++ [k]))::R)
 (hp:es[k]? =some p) (hk:K (E.set o.dst (.tup [.v p.1,p.2]))):AOp P o E K Kp:=JsT (seen:=seen) ho hit (by rw [hR];simp [Jay]) hp hk
end Go.Vl

/- Ranges over strings. -/
namespace Go.Vl
open Go.RowKit
variable {P:Program}
theorem Jq6 {o:Oper} {t:TypeId} {m:Operand} {s:ByteArray} {E:Env} {K:Env→Prop} {Kp:AV→Env→Prop} (ho:o.op= .range t m) (ht:P.underlying t=some .string) (hm:E.ev m= .v (.string s))
 (hk:K (({ E with h:=E.h.addo (.si s 0)}:Env).set o.dst (.bp (E.h.nn,E.h.nx) 0))):AOp P o E K Kp:=by
 intro ro X M w0 a w g hs next Q hn hp
 have hr:=hs.ev m
 rw [hm] at hr
 generalize hmv:a.eval m=u at hr
 cases hr with
 | v _=>
   obtain ⟨h1,h2,_⟩:=hs.obj (x:= .si s 0) (.stringIter s 0) (fun X' g' hst hnew=> hnew)
   refine JT (by rw [ho];intro c h;cases h) ?_
   have:(execOp a.eval o).run P w= .ok (.value (.pointer (some ⟨w.heap.size,0,none⟩))) (w.alloc (.stringIter s 0)):=by
    unfold execOp
    simp only [ho,Instr.range,hmv,Sem.run_bind,JeN ht,Result.andThen_ok]
    simp [newObj,Sem.run]
   rw [this]
   exact hn _ _ _ _ hk (fun i b h=> by rw [List.getElem?_append_left (List.getElem?_eq_some_iff.1 h).1];exact h) (h1.put o.dst (.bp _ _ _ h2))
theorem JsV {o:Oper} {it:Operand} {i:Id} {s:ByteArray} {pos:Nat} {E:Env} {K:Env→Prop} {Kp:AV→Env→Prop} (ho:o.op= .next it true) (hit:E.ev it= .bp i 0) (hes:Jay i.1 E.h.bx=some (i.2, .si s pos))
 (hmore:pos < s.size→K (({ E with h:= { E.h with bx:=JaV i.1 (.si s (pos+(Utf8.decode s pos).2)) E.h.bx}}:Env).set o.dst (.tup [.v (.bool true), .v (.int .i64 pos), .v (.int .i32 (Utf8.decode s pos).1)])))
 (hdone:¬pos < s.size→K (E.set o.dst (.tup [.v (.bool false)]))):AOp P o E K Kp:=by
 intro ro X M w0 a w g hs next Q hn hp
 obtain ⟨b,hgb,hown⟩:=hs.hok.bx _ (JaM hes)
 dsimp only at hgb hown
 have hiv:a.eval it= .pointer (some ⟨b,0,none⟩):=by
  have:=hs.ev it
  rw [hit] at this
  generalize a.eval it=u at this
  cases this with
  | bp _ _ b' hg'=> rw [hgb] at hg';cases hg';rfl
 have h1:w.heap[b]? =some (.stringIter s pos):=hown
 refine JT (by intro c h;rw [ho] at h;cases h) ?_
 by_cases hlt:pos < s.size
 ·have hev:=Jdq (o':= .stringIter s (pos+(Utf8.decode s pos).2)) h1 rfl (fun h=> by cases h)
  have hnew:=hs.setOwn (x:= .si s (pos+(Utf8.decode s pos).2)) hes hgb hev (fun _=> Jc2 h1)
  have:(execOp a.eval o).run P w= .ok (.value (.tuple #[.bool true, .int .i64 pos, .int .i32 (Utf8.decode s pos).1])) (World.setO w b (.stringIter s (pos+(Utf8.decode s pos).2))):=by
   unfold execOp
   simp only [ho,hiv,Instr.next,Sem.run_bind,Jch h1,Result.andThen_ok,if_pos hlt,JbV h1,Sem.run_pure]
   rfl
  rw [this]
  refine hn _ _ _ g (hmore hlt) (fun _ _ h=> h) (hnew.put o.dst ?_)
  refine .tup _ [.bool true, .int .i64 pos, .int .i32 (Utf8.decode s pos).1] rfl fun j c u hc hu=> ?_
  rcases j with _ | _ | _ | j
  ·simp at hc hu;subst hc;subst hu;exact .v _
  ·simp at hc hu;subst hc;subst hu;exact .v _
  ·simp at hc hu;subst hc;subst hu;exact .v _
  ·simp at hc
 ·have:(execOp a.eval o).run P w= .ok (.value (.tuple #[.bool false])) w:=by
   unfold execOp
   simp only [ho,hiv,Instr.next,Sem.run_bind,Jch h1,Result.andThen_ok,if_neg hlt,Sem.run_pure]
  rw [this]
  refine hn _ _ _ g (hdone hlt) (fun _ _ h=> h) (hs.put o.dst ?_)
  refine .tup [.v (.bool false)] [.bool false] rfl fun k c u hc hu=> ?_
  cases k with
  | zero=> simp at hc hu;subst hc;subst hu;exact .v _
  | succ k=> simp at hc
theorem Jkb {o:Oper} {it:Operand} {i:Id} {s:ByteArray} {pos:Nat} {R:List (Id×Own)} {E:Env} {K:Env→Prop} {Kp:AV→Env→Prop} (ho:o.op= .next it true) (hit:E.ev it= .bp i 0) (hR:E.h.bx=(i, .si s pos)::R)
 (hmore:pos < s.size→K (({ E with h:= { E.h with bx:=(i, .si s (pos+(Utf8.decode s pos).2))::R}}:Env).set o.dst (.tup [.v (.bool true), .v (.int .i64 pos), .v (.int .i32 (Utf8.decode s pos).1)])))
 (hdone:¬pos < s.size→K (E.set o.dst (.tup [.v (.bool false)]))):AOp P o E K Kp:=
 JsV (pos:=pos) ho hit (by rw [hR];simp [Jay]) (fun h=> by
  have:JaV i.1 (.si s (pos+(Utf8.decode s pos).2)) E.h.bx=(i, .si s (pos+(Utf8.decode s pos).2))::R:=by rw [hR];simp [JaV]
  rw [this];exact hmore h) hdone
theorem Jq7 {o:Oper} {it:Operand} {i:Id} {s:ByteArray} {pos c wd:Nat} {R:List (Id×Own)} {E:Env} {K:Env→Prop} {Kp:AV→Env→Prop} (ho:o.op= .next it true) (hit:E.ev it= .bp i 0) (hR:E.h.bx=(i, .si s pos)::R) (hlt:pos < s.size) (hd:Utf8.decode s pos=(c,wd))
 (hk:K (({ E with h:= { E.h with bx:=(i, .si s (pos+wd))::R}}:Env).set o.dst (.tup [.v (.bool true), .v (.int .i64 pos), .v (.int .i32 c)]))):AOp P o E K Kp:=
 Jkb ho hit hR (fun _=> by rw [hd];exact hk) (fun h=> absurd hlt h)
theorem Jq8 {o:Oper} {it:Operand} {i:Id} {s:ByteArray} {pos:Nat} {R:List (Id×Own)} {E:Env} {K:Env→Prop} {Kp:AV→Env→Prop} (ho:o.op= .next it true) (hit:E.ev it= .bp i 0) (hR:E.h.bx=(i, .si s pos)::R) (hlt:¬pos < s.size)
 (hk:K (E.set o.dst (.tup [.v (.bool false)]))):AOp P o E K Kp:=
 Jkb ho hit hR (fun h=> absurd h hlt) (fun _=> hk)
theorem JsW {s:ByteArray} {i:Nat} (h:(s.get! i).toNat < 128):Utf8.decode s i=((s.get! i).toNat,1):=by
 unfold Utf8.decode
 simp only [Nat.add_zero]
 rw [if_pos h]
end Go.Vl

namespace Go.Vl
open Go.RowKit
variable {P:Program}
def JgV (P:Program) (it:FuncId) (first caps:List AV) {α:Type} (e:α→List AV) (S:List α→Prop):Prop:=
 ∀(i:Id) (σ:Type) (Cb:σ→List (Id×Own)) (Cp:σ→List (Id×Nat)) (I:List α→σ→Prop) (J:List α→α→σ→Prop),(∀xs,S xs→Jld P i e xs Cb Cp I J)→
  ∀s0 nx nn,I [] s0→ECall P it (first++ [.yl i]++caps) ⟨Cb s0,Cp s0,nx,nn⟩ (fun _ h'=> ∃xs s',S xs∧JuO xs I J s'∧h'.bx=Cb s'∧h'.pm=Cp s')
theorem IterSpec.set {it:FuncId} {first caps:List AV} {α:Type} {e:α→List AV} {xs:List α} (h:IterSpec P it first caps e xs):JgV P it first caps e (·=xs):=
 fun i σ Cb Cp I J hc s0 nx nn h0=> (h i σ Cb Cp I J (hc xs rfl) s0 nx nn h0).mono fun _ _ ⟨s',h1,h2,h3⟩=> ⟨xs,s',rfl,h1,h2,h3⟩
theorem JuQ {gop:Operand} {ps:Array Tmp} {asg body:Code} {E:Env} {Q:AExit→Env→Prop} {it:FuncId} {first caps:List AV} {ds:List DA} {σ α:Type} {e:α→List AV} {S:List α→Prop} {first' caps':List AV}
 (Cb:σ→List (Id×Own)) (Cp:σ→List (Id×Nat)) (I:List α→σ→Prop) (J:List α→α→σ→Prop) (s0:σ) (hd:E.df=some ds) (hf:E.ev gop= .fn (.func it) first caps) (hit:JgV P it first' caps' e S) (hl1:LeL first first') (hl2:LeL caps caps')
 (hb:((E.h.addo .df).addo (.lp .ready none E.n E.t ps asg body)).bx=Cb s0) (hp:E.h.pm=Cp s0) (h0:I [] s0) (hc:∀xs,S xs→Jld P (E.h.nn+1,E.h.nx+1) e xs Cb Cp I J)
 (hend:∀xs s' nx nn,S xs→JuO xs I J s'→Jhh (E.h.nn+1,E.h.nx+1) { E with h:=(E.h.addo .df).addo (.lp .ready none E.n E.t ps asg body),df:=some (.col (E.h.nn,E.h.nx)::ds)} Q ⟨Cb s',Cp s',nx,nn⟩):
 AW P (.rangeFunc gop ps asg body) E Q:=by
 refine JnO hd hf ?_
 have h1:=hit (E.h.nn+1,E.h.nx+1) σ Cb Cp I J hc s0 (E.h.nx+2) (E.h.nn+2) h0
 have e1:(E.h.addo .df).addo (.lp .ready none E.n E.t ps asg body)=⟨Cb s0,Cp s0,E.h.nx+2,E.h.nn+2⟩:=by
  rw [← hb,← hp];rfl
 rw [← e1] at h1
 refine ((ECall.args (LeL.append (LeL.append hl1 (LeL.refl _)) hl2) h1)).mono fun r h' hq=> ?_
 obtain ⟨xs,s',hS,q1,q2,q3⟩:=hq
 obtain ⟨bx,pm,nx,nn⟩:=h'
 dsimp only at q2 q3
 subst q2;subst q3
 exact hend xs s' nx nn hS q1
theorem Jwk {gop:Operand} {ps:Array Tmp} {asg body:Code} {E:Env} {Q:AExit→Env→Prop} {it:FuncId} {first caps:List AV} {ds:List DA} {σ α:Type} {e:α→List AV} {S:List α→Prop} {first' caps':List AV}
 (Cb:σ→List (Id×Own)) (Cp:σ→List (Id×Nat)) (I:List α→σ→Prop) (s0:σ) (hd:E.df=some ds) (hf:E.ev gop= .fn (.func it) first caps) (hit:JgV P it first' caps' e S) (hl1:LeL first first') (hl2:LeL caps caps')
 (hb:E.h.bx=Cb s0) (hp:E.h.pm=Cp s0) (h0:I [] s0) (hlen:∀x,(e x).length=ps.size)
 (hc:∀pre x post s nx nn,S (pre++x::post)→I pre s→AW P asg (Jc6 E.n E.t ⟨((E.h.nn+1,E.h.nx+1), .lp .ready none E.n E.t ps asg body)::((E.h.nn,E.h.nx), .df)::Cb s,Cp s,nx,nn⟩ (ps.toList.zip (e x)).reverse)
   (Jq0 P (E.h.nn+1,E.h.nx+1) body (Jnj (fun s=> ((E.h.nn+1,E.h.nx+1), .lp .ready none E.n E.t ps asg body)::((E.h.nn,E.h.nx), .df)::Cb s) Cp I (fun _ _ _=> False) pre x)))
 (hend:∀xs s' nx nn,S xs→I xs s'→Q .normal { E with h:=⟨((E.h.nn+1,E.h.nx+1), .lp .exhausted none E.n E.t ps asg body)::((E.h.nn,E.h.nx), .df)::Cb s',Cp s',nx,nn⟩,df:=some (.col (E.h.nn,E.h.nx)::ds)}):
 AW P (.rangeFunc gop ps asg body) E Q:=by
 refine JuQ (fun s=> ((E.h.nn+1,E.h.nx+1), .lp .ready none E.n E.t ps asg body)::((E.h.nn,E.h.nx), .df)::Cb s) Cp I (fun _ _ _=> False) s0 hd hf hit hl1 hl2 ?_ hp h0 ?_ ?_
 ·show _::_::E.h.bx=_
  rw [hb];rfl
 ·intro xs hS pre x post s nx nn hx hI
  subst hx
  exact Ji7 (i:=(E.h.nn+1,E.h.nx+1)) (pd:=none) (n:=E.n) (t:=E.t) (ps:=ps) (asg:=asg) (body:=body) (by simp [Jay]) (hlen x) (hc pre x post s nx nn hS hI)
 ·intro xs s' nx nn hS h
  rcases h with h | ⟨_,_,_,_,h⟩
  ·unfold Jhh
   simp only [Jay,Nat.beq_refl,cond_true]
   refine ⟨trivial,(by intro h;cases h), ?_⟩
   simp only [JaV,Nat.beq_refl,cond_true]
   exact hend xs s' nx nn hS h
  ·exact h.elim
theorem JsX {seen:List Nat} {n k:Nat} (hnd:seen.Nodup) (hlt:∀j∈seen,j < n) (hk:k < n) (hn:k∉seen):∃post,(seen++k::post).Perm (List.range n):=by
 refine ⟨(List.range n).filter fun j=> decide (j∉seen∧j≠k), ?_⟩
 have hp:∀j,j∈(List.range n).filter (fun j=> decide (j∉seen∧j≠k))↔j < n∧j∉seen∧j≠k:=fun j=> by simp
 generalize hpost:(List.range n).filter (fun j=> decide (j∉seen∧j≠k))=post at hp
 have hpn:post.Nodup:=by rw [← hpost];exact List.nodup_range.filter _
 have hnd2:(seen++k::post).Nodup:=by
  rw [List.nodup_append]
  refine ⟨hnd,List.nodup_cons.2 ⟨fun h=> ((hp k).1 h).2.2 rfl,hpn⟩,fun a ha b hb hab=> ?_⟩
  subst hab
  rcases List.mem_cons.1 hb with rfl | h
  ·exact hn ha
  ·exact ((hp a).1 h).2.1 ha
 refine (List.perm_ext_iff_of_nodup hnd2 List.nodup_range).2 fun j=> ?_
 rw [List.mem_range,List.mem_append,List.mem_cons,hp]
 constructor
 ·rintro (h | rfl | h)
  ·exact hlt j h
  ·exact hk
  ·exact h.1
 ·intro h
  by_cases h1:j∈seen
  ·exact .inl h1
  ·by_cases h2:j=k
   ·exact .inr (.inl h2)
   ·exact .inr (.inr ⟨h,h1,h2⟩)
theorem JsY {seen:List Nat} {n:Nat} (hnd:seen.Nodup) (hlt:∀j∈seen,j < n) (hall:∀k,k < n→k∈seen):seen.Perm (List.range n):=by
 refine (List.perm_ext_iff_of_nodup hnd List.nodup_range).2 fun j=> ?_
 rw [List.mem_range]
 exact ⟨hlt j,hall j⟩
end Go.Vl

namespace Go.Vl
open Go.RowKit
variable {P:Program}
def JQ (n:Nat) (f:Nat→AV):List AV:=(List.range n).flatMap fun k=> (f k).cells
def Jv7 (Q:Nat→(Nat→AV)→Prop) (sz:Nat) (r:AV) (h':Heap):Prop:=
 ∃n f,Q n f∧((n=0∧h'.bx= []∧h'.pm= []∧r= .os sz 0 f none)∨∃s cap more nx' nn',n≤cap∧cap * sz≤n * sz+more∧r= .hs (0,s) 0 n cap∧h'=⟨[((0,s), .c (JQ n f++List.replicate more .any))], [],nx',nn'⟩)
theorem Jds {n sz:Nat} {f:Nat→AV} (hc:∀i,i < n→(f i).cells.length=sz):(JQ n f).length=n * sz∧∀i j,i < n→j < sz→(JQ n f)[i * sz+j]? =(f i).cells[j]? :=by
 induction n with
 | zero=> exact ⟨by simp [JQ],fun i j h=> by omega⟩
 | succ n ih=>
   obtain ⟨h1,h2⟩:=ih fun i hi=> hc i Om
   have e:JQ (n+1) f=JQ n f++(f n).cells:=by unfold JQ;rw [List.range_succ,List.flatMap_append];simp
   have hn:=hc n Om
   refine ⟨by rw [e,List.length_append,h1,hn,Nat.succ_mul],fun i j hi hj=> ?_⟩
   rw [e]
   by_cases h:i < n
   ·rw [List.getElem?_append_left,h2 i j h hj]
    rw [h1]
    have:i * sz+sz≤n * sz:=by rw [← Nat.succ_mul];exact Nat.mul_le_mul_right _ h
    omega
   ·obtain rfl:i=n:=by omega
    rw [List.getElem?_append_right (by rw [h1];omega),h1]
    congr 1;omega
theorem Jq9 {f:FuncId} {args:List AV} {nx sz:Nat} {Q:Nat→(Nat→AV)→Prop} (hz:0 < sz) (hflat:∀n f,Q n f→∀k,k < n→∀c∈(f k).cells,Flat c)
 (hc:ECall P f args ⟨[], [],nx,0⟩ fun r h'=> ∃n f oi nx' nn',Q n f∧(oi=none→n=0)∧r= .os sz n f oi∧h'=⟨[],Jad oi (n * sz),nx',nn'⟩):
 ECall P f args ⟨[], [],nx,0⟩ (Jv7 Q sz):=by
 refine ⟨hc.1,fun X w g vs h1 h2 h3 h4=> ?_⟩
 refine (Jfa P f).mono (hc.2 X w g vs h1 h2 h3 h4) fun e w' ⟨r,h',g',a1,a2,a3,a4,a5,a7,a8⟩=> ?_
 cases r with
 | pan x=> exact a2.elim
 | ret r=>
   obtain ⟨n,f0,oi,nx',nn',q1,q2,rfl,rfl⟩:=a2
   cases oi with
   | none=>
     obtain rfl:=q2 rfl
     exact ⟨.ret (.os sz 0 f0 none),⟨[], [],nx',nn'⟩,g',a1,⟨0,f0,q1, .inl ⟨rfl,rfl,rfl,rfl⟩⟩,a3,a4,a5,a7,a8⟩
   | some i=>
     obtain ⟨nm,s⟩:=i
     obtain ⟨u,rfl,a1⟩:=a1
     obtain ⟨b,bvs,be,hgb,hblk,hle⟩:=a4.pm ((nm,s),n * sz) (by simp [Jad])
     dsimp only at hgb hle
     generalize hu:u=u0 at a1
     cases a1 with
     | oss _ _ _ _ b2 cap vs2 hg2 hlen hcap hcell hroom hcs hrep=>
       subst hu
       dsimp only at hg2
       rw [hgb] at hg2
       cases hg2
       have hflt:=hflat n f0 q1
       obtain ⟨rl,rg⟩:=Jds hcs
       have hcapsz:cap * sz≤bvs.size:=by
        rcases Nat.eq_zero_or_pos (cap * sz) with h0 | h0
        ·omega
        ·obtain ⟨⟨v,hv⟩,_⟩:=hroom (cap * sz - 1) Om
         rw [JY hblk] at hv
         have:=(Array.getElem?_eq_some_iff.1 hv).1
         omega
       have hnew:¬b < w.heap.size:=fun hb=> by
        have:=a8 b (n * sz) (.inr (.inr ⟨((nm,s),n * sz),by simp [Jad],hgb,Nat.le_refl _⟩)) hb
        rcases this with h | ⟨p,hp,_⟩ | ⟨p,hp,_⟩
        ·exact h
        ·cases hp
        ·cases hp
       have hids:∀j,j∈Heap.ids (⟨[((0,s), .c (JQ n f0++List.replicate (bvs.size - n * sz) .any))], [],nx',nn'⟩:Heap)→j=s:=fun j hj=> by simpa [Heap.ids] using hj
       refine ⟨.ret (.hs (0,s) 0 n cap),⟨[((0,s), .c (JQ n f0++List.replicate (bvs.size - n * sz) .any))], [],nx',nn'⟩,g',⟨_,rfl, .hs _ _ _ _ b hgb⟩,⟨n,f0,q1, .inr ⟨s,cap,bvs.size - n * sz,nx',nn',hcap,by omega,rfl,rfl⟩⟩,a3, ?_,fun b' o hx j hj=> ?_,a7,fun b' o hx hb=> ?_⟩
       ·refine ⟨fun p hp=> ?_,fun p hp=> (by cases hp),by simp [Heap.ids],a4.nx,fun b' o hx=> ?_,fun p hp=> ⟨(a4.kn p hp).1,fun o hx=> ?_⟩⟩
        ·obtain rfl:=List.mem_singleton.1 hp
         refine ⟨b,hgb,bvs,be,hblk,by rw [List.length_append,rl,List.length_replicate];omega,fun k c u hk hku=> ?_⟩
         rcases Nat.lt_or_ge k (n * sz) with hlt | hge
         ·rw [List.getElem?_append_left (by rw [rl];exact hlt)] at hk
          have hd:k=(k / sz) * sz+k % sz:=by rw [Nat.mul_comm];exact (Nat.div_add_mod k sz).symm
          have hk1:k / sz < n:=Nat.div_lt_of_lt_mul (by rw [Nat.mul_comm];exact hlt)
          have hk2:k % sz < sz:=Nat.mod_lt _ hz
          rw [hd,rg _ _ hk1 hk2] at hk
          have hv:k < vs2.length:=by rw [hlen];exact hlt
          have hcv:=(hcell k _ (List.getElem?_eq_getElem hv)).1
          rw [JY hblk,hku] at hcv
          cases hcv
          exact hflt _ hk1 c (List.mem_of_getElem? hk) _ _ _ _ _ _ _ (hrep _ _ c _ hk1 hk (by rw [← hd];exact List.getElem?_eq_getElem hv))
         ·rw [List.getElem?_append_right (by rw [rl];exact hge)] at hk
          obtain rfl:c= .any:=by
           have:=List.mem_of_getElem? hk
           exact (List.mem_replicate.1 this).2
          exact .any _
        ·rcases hx with hx | ⟨p,hp,hg⟩ | ⟨p,hp,_⟩
         ·exact a4.bd b' o (.inl hx)
         ·obtain rfl:=List.mem_singleton.1 hp
          dsimp only at hg
          rw [hgb] at hg;cases hg
          exact JH hblk
         ·cases hp
        ·rcases hx with hx | ⟨q,hq,hg⟩ | ⟨q,hq,_⟩
         ·exact (a4.kn p hp).2 o (.inl hx)
         ·obtain rfl:=List.mem_singleton.1 hq
          exact (a4.kn p hp).2 (n * sz) (.inr (.inr ⟨((nm,s),n * sz),by simp [Jad],hg,Nat.le_refl _⟩))
         ·cases hq
       ·obtain rfl:=hids j hj
        exact a5 b' o hx j (by simp [Heap.ids,Jad])
       ·rcases hx with hx | ⟨p,hp,hg⟩ | ⟨p,hp,_⟩
        ·exact hx.elim
        ·obtain rfl:=List.mem_singleton.1 hp
         dsimp only at hg
         rw [hgb] at hg;cases hg
         exact absurd hb hnew
        ·cases hp
end Go.Vl

namespace Go.Vl
open Go.RowKit
variable {P:Program}
theorem Jle {w:World} {X:Nat→Nat→Prop} {g:List Nat} {us vs:List Value} (h3:us.length=(vs.map AV.v).length)
 (h4:∀(k:Nat) (c:AV) (u:Value),(vs.map AV.v)[k]? =some c→us[k]? =some u→Rep w X g c u):us=vs:=by
 refine List.ext_getElem (by simpa using h3) fun k hk1 hk2=> ?_
 have:=h4 k (.v vs[k]) us[k] (by simp [hk2]) (List.getElem?_eq_getElem hk1)
 generalize us[k]=a at this
 cases this
 rfl
theorem Kn.none {w:World} {X:Nat→Nat→Prop} (h:Kn w X):Kn w none2:=fun p hp=> ⟨(h p hp).1,fun _ h=> h⟩
theorem Jdk {f:FuncId} {vs:List Value} {u:Value} (hcb:Jb4 P f)
 (h:∀w,Kn w none2→Calls P f vs.toArray w fun e w'=> e= .returned u∧Below w.heap.size w w'):Tells P f (vs.map .v) (.v u):=fun nx=> by
 refine ⟨hcb,fun X w g us h1 h2 h3 h4=> ?_⟩
 obtain rfl:=Jle h3 h4
 refine (Jfa P f).mono (w0:=w) (g:=g) (R:=_) (h w h1.kn.none) fun e w' ⟨he,hb⟩=> ?_
 have hev:=Evo.of_below hb
 exact ⟨.ret (.v u),⟨[], [],nx,0⟩,g,⟨u,he, .v _⟩,⟨Rf,rfl,rfl⟩,fun _ _ h=> h,h1.evo0 hev,fun b o hx i hi=> (by cases hi),hev.mono fun b o _ h=> h.elim,fun b o h _=> h⟩
theorem JcV {f:FuncId} {vs:List Value} {u:Value} (hcb:Jb4 P f)
 (h:∀w,Calls P f vs.toArray w fun e w'=> e= .returned u∧Below w.heap.size w w'):Tells P f (vs.map .v) (.v u):=Jdk hcb fun w _=> h w
theorem Ji8 {α:Type} [Inhabited α] {f:FuncId} {enc:α→Value} {d d':Array α} {tl:List AV} {nm s cap nx nn:Nat} (hcb:Jb4 P f) (hd:d'.size=d.size)
 (h:∀(w:World) (blk:Nat),Sort.Holds enc w blk 0 d→blk < w.heap.size→Calls P f #[.slice (some ⟨blk,0,none⟩) d.size cap] w fun e w'=> e= .returned (.tuple #[])∧∃n os,w'=Sort.grow (Sort.putRow enc (Sort.ahead w n) blk 0 d') os):
 ECall P f [.hs (nm,s) 0 d.size cap] ⟨[((nm,s), .c (d.toList.map (fun x=> .v (enc x))++tl))], [],nx,nn⟩
  fun r h'=> r= .tup []∧h'=⟨[((nm,s), .c (d'.toList.map (fun x=> .v (enc x))++tl))], [],nx,nn⟩:=by
 refine ⟨hcb,fun X w g us h1 h2 h3 h4=> ?_⟩
 obtain ⟨b,hgb,vs,ety,hblk,hsz,hrep⟩:=h1.bx _ (.head _)
 dsimp only at hgb
 match us,h3,h4 with
 | [u],_,h4=>
 have hr:=h4 0 _ u rfl rfl
 generalize hu:u=u0 at hr
 cases hr with
 | hs _ _ _ _ b2 hg2=>
   subst hu
   dsimp only at hg2
   rw [hgb] at hg2
   cases hg2
   have hbl:=JH hblk
   have hlen:d.size≤vs.size:=by rw [hsz];simp
   have hH:Sort.Holds enc w b 0 d:=fun j hj=> by
    refine ⟨?_,by rw [Jbw hblk];simp⟩
    have hj2:j < vs.size:=by omega
    have:=hrep j (.v (enc d[j]!)) vs[j] (by rw [List.getElem?_append_left (by simpa using hj)];simp [hj]) (Array.getElem?_eq_getElem hj2)
    generalize hv:vs[j]=v at this
    cases this
    rw [JY hblk,Nat.zero_add,Array.getElem?_eq_getElem hj2,hv]
   refine (Jfa P f).mono (w0:=w) (g:=g) (R:=_) (h w b hH hbl) fun e w' ⟨he,n,os,hw⟩=> ?_
   have hb':w'.heap[b]? =some (.cells (Sort.putCells enc 0 d' vs) ety (0,0)):=by
    subst hw
    rw [Sort.heap_grow_old _ _ (by simpa [Sort.putRow,Sort.mapBlock,Sort.ahead] using hbl)]
    show (w.heap.modify b _)[b]? =_
    rw [Array.getElem?_modify,if_pos rfl,hblk]
    rfl
   have hoth:∀k,k < w.heap.size→k≠b→w'.heap[k]? =w.heap[k]? :=fun k hk hne=> by
    subst hw
    rw [Sort.heap_grow_old _ _ (by simpa [Sort.putRow,Sort.mapBlock,Sort.ahead] using hk)]
    show (w.heap.modify b _)[k]? =_
    rw [Array.getElem?_modify,if_neg (Ne.symm hne)]
   have hsize:w.heap.size≤w'.heap.size:=by
    subst hw
    simp [Sort.grow,Sort.putRow,Sort.mapBlock,Sort.ahead]
   have hM:∀b0 o,¬excl none2 g ⟨[((nm,s), .c (d.toList.map (fun x=> .v (enc x))++tl))], [],nx,nn⟩ b0 o→b0≠b:=fun b0 o hn hb0=> hn (.inr (.inl ⟨_, .head _,by rw [hb0];exact hgb⟩))
   have hev:Evo (excl none2 g ⟨[((nm,s), .c (d.toList.map (fun x=> .v (enc x))++tl))], [],nx,nn⟩) w w':=by
    refine ⟨by subst hw;rfl,by subst hw;rfl,by subst hw;rfl,hsize,fun b0 hb0 hn=> hoth b0 hb0 (hM b0 0 (hn 0)),fun b0 o hb0 hn=> World.cell?_of_block (a:=⟨b0,o,none⟩) (hoth b0 hb0 (hM b0 o hn)),fun b0 us0 e0 fz h0=> ?_,fun b0 l h0=> ?_⟩
    ·by_cases hb0:b0=b
     ·subst hb0
      rw [hblk] at h0
      cases h0
      exact ⟨_,hb',by simp [Sort.putCells]⟩
     ·exact ⟨us0,(hoth b0 (JH h0) hb0).trans h0,rfl⟩
    ·by_cases hb0:b0=b
     ·subst hb0
      rw [hblk] at h0
      cases h0
     ·exact ⟨l,(hoth b0 (JH h0) hb0).trans h0⟩
   have hstay:=hev.stays (X:=excl X g ⟨[((nm,s), .c (d.toList.map (fun x=> .v (enc x))++tl))], [],nx,nn⟩) (X':=excl X g ⟨[((nm,s), .c (d.toList.map (fun x=> .v (enc x))++tl))], [],nx,nn⟩) (g:=g) (g':=g)
    (fun b0 o _ hm=> hm.elim (fun h=> h.elim) .inr) (fun _ _ _ h=> h) (fun _ _ h=> h)
   refine ⟨.ret (.tup []),_,g,⟨_,he, .tup [] [] rfl (by simp)⟩,⟨rfl,rfl⟩,fun _ _ h=> h, ?_,fun b0 o hx i hi=> h2 b0 o hx i hi,hev,fun b0 o h _=> by simpa [excl] using h⟩
   have hids:∀b0 o,excl X g ⟨[((nm,s), .c (d'.toList.map (fun x=> .v (enc x))++tl))], [],nx,nn⟩ b0 o↔excl X g ⟨[((nm,s), .c (d.toList.map (fun x=> .v (enc x))++tl))], [],nx,nn⟩ b0 o:=fun b0 o=> by simp [excl]
   have hX:excl X g ⟨[((nm,s), .c (d'.toList.map (fun x=> .v (enc x))++tl))], [],nx,nn⟩=excl X g ⟨[((nm,s), .c (d.toList.map (fun x=> .v (enc x))++tl))], [],nx,nn⟩:=by
    funext b0 o;exact propext (hids b0 o)
   rw [hX]
   refine ⟨fun p hp=> ?_,fun p hp=> (by cases hp),h1.nodup,h1.nx,fun b0 o hx=> ?_, ?_⟩
   ·obtain rfl:=List.mem_singleton.1 hp
    refine ⟨b,hgb,Sort.putCells enc 0 d' vs,ety,hb',by simp [Sort.putCells,hsz,hd],fun k c u hk hku=> ?_⟩
    have hkv:k < vs.size:=by have:=(Array.getElem?_eq_some_iff.1 hku).1;simpa [Sort.putCells] using this
    have hval:(Sort.putCells enc 0 d' vs)[k]? =some (if 0≤k∧k < 0+d'.size then enc d'[k - 0]! else vs[k]):=by simp [Sort.putCells,hkv]
    rw [hval] at hku
    by_cases hkd:k < d'.size
    ·rw [if_pos ⟨Nat.zero_le _,by omega⟩] at hku
     rw [List.getElem?_append_left (by simpa using hkd)] at hk
     simp [hkd] at hk hku
     subst hk;subst hku
     exact .v _
    ·rw [if_neg Om] at hku
     rw [List.getElem?_append_right (by simpa using Nat.le_of_not_lt hkd)] at hk
     refine (hrep k c u ?_ (by rw [Array.getElem?_eq_getElem hkv];exact hku)).stays hstay
     rw [List.getElem?_append_right (by simp;omega)]
     simpa [hd] using hk
   ·exact Nat.lt_of_lt_of_le (h1.bd b0 o hx) hsize
   ·exact h1.kn.stays hstay
theorem Ji9 {f:FuncId} {sz nx:Nat} {F:Nat→AV} (hcb:Jb4 P f)
 (h:∀(p:Option Addr) (cap:Nat) (w:World),Calls P f #[.slice p 0 cap] w fun e w'=> e= .returned (.tuple #[])∧w'=w):Tells P f [.os sz 0 F none] (.tup []):=fun nx=> by
 refine ⟨hcb,fun X w g us h1 h2 h3 h4=> ?_⟩
 match us,h3,h4 with
 | [u],_,h4=>
 have hr:=h4 0 _ u rfl rfl
 have key:∃p cap,u= .slice p 0 cap:=by
  cases hr with
  | os0 _ _ a=> exact ⟨a,0,rfl⟩
  | osn _ _ _ b off vs=> exact ⟨_,0,rfl⟩
 obtain ⟨p,cap,rfl⟩:=key
 refine (Jfa P f).mono (w0:=w) (g:=g) (R:=_) (h p cap w) fun e w' ⟨he,hw⟩=> ?_
 subst hw
 exact ⟨.ret (.tup []),⟨[], [],nx,0⟩,g,⟨_,he, .tup [] [] rfl (by simp)⟩,⟨Rf,rfl,rfl⟩,fun _ _ h=> h,h1,h2,Evo.refl _ _,fun b o h _=> h⟩
end Go.Vl

namespace Go.Vl
open Go.RowKit
variable {P:Program}
theorem JnW {f:FuncId} {ars:List AV} {vs xs:List Value} {t:TypeId} (hcb:Jb4 P f) (has:∀w X g (us:List Value),us.length=ars.length→(∀(k:Nat) (c:AV) (u:Value),ars[k]? =some c→us[k]? =some u→Rep w X g c u)→us=vs)
 (h:∀w,Kn w none2→Calls P f vs.toArray w fun e w'=> ∃A,e= .returned (.slice (some ⟨A,0,none⟩) xs.length xs.length)∧w.heap.size≤A∧w'.ownsRow w.heap.size t 1 (.slice (some ⟨A,0,none⟩) xs.length xs.length) xs.length xs∧Below w.heap.size w w'):
 Tells P f ars (.sl 1 xs.length fun k=> .v (xs.getD k undef)):=fun nx=> by
 refine ⟨hcb,fun X w g us h1 h2 h3 h4=> ?_⟩
 obtain rfl:=has _ _ _ us h3 h4
 refine (Jfa P f).mono (w0:=w) (g:=g) (R:=_) (h w h1.kn.none) fun e w' ⟨A,he,hA,hown,hb⟩=> ?_
 have hev:=Evo.of_below hb
 refine ⟨.ret (.sl 1 xs.length fun k=> .v (xs.getD k undef)),⟨[], [],nx,0⟩,g,⟨_,he, ?_⟩,⟨Rf,rfl,rfl⟩,fun _ _ h=> h,h1.evo0 hev,fun b o hx i hi=> (by cases hi),hev.mono fun b o _ h=> h.elim,fun b o h _=> h⟩
 obtain ⟨hl,hv⟩:=hown
 rcases hv with ⟨hv,_⟩ | ⟨A',cap,cur,hv,_,hblk,hn,_,hsz,htk⟩
 ·cases hv
 ·cases hv
  have hnx:∀o,¬excl X g ⟨[], [],nx,0⟩ A o:=fun o hx=> by
   have:=h1.bd _ _ hx
   omega
  refine .sl 1 xs.length _ A 0 _ xs Om (Nat.le_refl _) (fun k u hu=> ⟨?_,hnx _⟩) (fun i _=> rfl) (fun i j c u hi hc hu=> ?_)
  ·have hk:=(List.getElem?_eq_some_iff.1 hu).1
   rw [JY hblk,Nat.zero_add]
   have:(cur.toList.take (xs.length * 1))[k]? =some u:=by rw [htk];exact hu
   rw [List.getElem?_take] at this
   split at this
   ·simpa using this
   ·cases this
  ·cases j with
   | zero=>
     simp only [AV.cells,List.getElem?_cons_zero,Option.some.injEq] at hc
     subst hc
     rw [Nat.mul_one,Nat.add_zero] at hu
     have:xs.getD i undef=u:=by rw [List.getD_eq_getElem?_getD,hu];rfl
     rw [this]
     exact .v _
   | succ j=> simp [AV.cells] at hc
theorem JnX {w w':World} (h:Evo none2 w w'):Below w.heap.size w w':=⟨h.os,h.tape,h.output,h.size,fun b hb=> h.blk b hb fun o q=> q⟩
theorem Jm1 {g:FuncId} {p:Nat→Bool} (h:∀x:Nat,x≤1114111→Tells P g [.v (.int .i32 x)] (.v (.bool (p x)))) (w:World) (hw:Kn w none2):Go.Proofs.PredGrows P g #[] p w:=fun W x hx hWw=> by
 have hk:HOk W (excl none2 [] ⟨[], [],0,0⟩) [] ⟨[], [],0,0⟩:=⟨by simp,by simp,by simp [Heap.ids],rfl,fun b o hx=> (by rcases hx with hx | ⟨p,hp,_⟩ | ⟨p,hp,_⟩ <;> first | exact hx.elim | cases hp),fun p hp=> ⟨by obtain ⟨⟨e,fz,h1⟩,_⟩:=hw p hp;exact ⟨e,fz,(hWw.block _ (JH h1)).trans h1⟩,fun o hx=> (by rcases hx with hx | ⟨p,hp,_⟩ | ⟨p,hp,_⟩ <;> first | exact hx.elim | cases hp)⟩⟩
 have hc:=(h x hx 0).2 none2 W [] [.int .i32 x] hk (fun _ _ hx=> hx.elim) rfl (fun k c u hc hu=> by
  cases k with
  | zero=> simp at hc hu;subst hc;subst hu;exact .v _
  | succ k=> simp at hc)
 refine Calls.mono (show Calls P g _ W _ from hc) fun e w' ⟨r,h',g',a1,a2,_,_,_,a3,_⟩=> ?_
 cases r with
 | pan x=> exact a2.elim
 | ret r=>
   obtain ⟨u,rfl,e2⟩:=a1
   have:=a2.1 _ _ _ _ e2
   cases this
   refine ⟨rfl,JnX (a3.mono fun b o _ hx=> ?_)⟩
   rcases hx with hx | ⟨p,hp,_⟩ | ⟨p,hp,_⟩
   ·exact hx
   ·cases hp
   ·cases hp
theorem Jyc {f:FuncId}:AVle (.fn (.func f) [] []) (.v (.func (.func f) #[] #[])):=fun w X g u hr=> by
 cases hr with
 | fn _ _ _ v1 v2 h1 h2 _ _=>
   have e1:v1= []:=List.eq_nil_of_length_eq_zero h1
   have e2:v2= []:=List.eq_nil_of_length_eq_zero h2
   subst e1;subst e2
   exact .v _
end Go.Vl

namespace Go.Vl
open Go.RowKit
variable {P:Program}
end Go.Vl

namespace Go.Vl
open Go.RowKit
variable {P:Program}
theorem Jkc {t e:TypeId} {d:TypeDesc} {n:Nat} {w:World} (ht:P.underlying t=some (.array n e)) (hd:P.underlying e=some d) (h1:P.cellsOf e=1) (b off:Nat) (hn:0 < n):
 (Instr.sliceAt t (.pointer (some ⟨b,off,none⟩)) none none none).run P w= .ok (.slice (some ⟨b,off,none⟩) n n) w:=by
 simp [Instr.sliceAt,run_underlying ht,Instr.sureAddr,Instr.sliceBounds,JK hd,h1,Jaw]
theorem JnY {o:Oper} {E:Env} {t e:TypeId} {x:Operand} {n:Nat} {d:TypeDesc} {cs:List AV} (ho:o.op= .slice t x none none none) (hx:E.ev x= .rp cs)
 (ht:P.underlying t=some (.array n e)) (hd:P.underlying e=some d) (h1:P.cellsOf e=1) (hn0:0 < n) (hn:n≤cs.length) (hc:∀c∈cs,c.cells= [c]):Yields P o E (.sl 1 n (fun j=> cs.getD j .any)):=by
 refine ⟨(by rw [ho];intro c hc;cases hc),fun ρ w X g hk hr=> .inl ?_⟩
 have r1:=hr x (by rw [ho];simp [Op.operands])
 rw [hx] at r1
 generalize hu:ρ x=u at r1
 cases r1 with
 | rp _ b off vs hvs hcell hrep=>
   refine ⟨.slice (some ⟨b,off,none⟩) n n,w, ?_,Evo.refl _ _, ?_⟩
   ·unfold execOp
    simp only [ho,hu,Option.map_none]
    exact Jci (Jkc ht hd h1 b off hn0)
   ·refine .sl _ _ _ b off n (vs.take n) (by simp;omega) (Nat.le_refl _) (fun k u hk=> ?_) (fun i hi=> ?_) (fun i j c u hi hj hu=> ?_)
    ·rw [List.getElem?_take] at hk
     split at hk
     ·exact hcell k u hk
     ·cases hk
    ·have hi2:i < cs.length:=by omega
     have:cs.getD i .any∈cs:=by simp [List.getD,hi2]
     rw [hc _ this];rfl
    ·have hi2:i < cs.length:=by omega
     have hm:cs.getD i .any∈cs:=by simp [List.getD,hi2]
     rw [hc _ hm] at hj
     cases j with
     | zero=>
       simp only [List.getElem?_cons_zero,Option.some.injEq] at hj
       subst hj
       rw [List.getElem?_take] at hu
       split at hu
       ·exact hrep i _ u (by simp [List.getD,hi2]) (by simpa using hu)
       ·cases hu
     | succ j=> simp at hj
theorem JlT {o:Oper} {E:Env} {K:Env→Prop} {Kp:AV→Env→Prop} {t e:TypeId} {x:Operand} {n:Nat} {d:TypeDesc} {cs:List AV} (ho:o.op= .slice t x none none none) (hx:E.ev x= .rp cs)
 (ht:P.underlying t=some (.array n e)) (hd:P.underlying e=some d) (h1:P.cellsOf e=1) (hn0:0 < n) (hn:n≤cs.length) (hc:∀c∈cs,c.cells= [c]) (hk:K (E.set o.dst (.sl 1 n (fun j=> cs.getD j .any)))):AOp P o E K Kp:=
 AOp.of_yields (JnY ho hx ht hd h1 hn0 hn hc) hk
end Go.Vl

/- As VlX, with operations that look at memory of one's own which effects turn: such a look stands ahead of every effect that comes behind it. -/
namespace Go.Vl
open Go.RowKit
variable {P:Program}
def PureNow (P:Program) (ops:Array Oper) (o:Oper) (E:Env) (r:AV):Prop:=
 ∀E':Env,E'.h=E.h→(∀k,k∈o.looksAt ops→E'.t k=E.t k)→GY P ops o E' r
theorem PureNow.congr {ops:Array Oper} {o:Oper} {E E':Env} {r:AV} (h:PureNow P ops o E r) (hh:E'.h=E.h) (ht:∀k,k∈o.looksAt ops→E'.t k=E.t k):PureNow P ops o E' r:=
 fun E'' h1 h2=> h E'' (h1.trans hh) fun k hk=> (h2 k hk).trans (ht k hk)
def MixL3 (P:Program) (ops:Array Oper) (B:List (Id×Own)) (eff ld:Nat→Bool):List Nat→Env→(Env→Prop)→Prop
 | [],E,K=> K E
 | i::l,E,K=> ∃o,ops[i]? =some o∧(match eff i with
   | true=> ∃R,Eff P ops B o E R∧∀r h',R r h'→MixL3 P ops B eff ld l (({ E with h:=h'}:Env).set o.dst r) K
   | false=> match ld i with
     | true=> ∃r,PureNow P ops o E r∧MixL3 P ops B eff ld l (E.set o.dst r) K
     | false=> ∃r,PureAll P ops B o E r∧MixL3 P ops B eff ld l (E.set o.dst r) K)
theorem MixL3.front {ops:Array Oper} {B:List (Id×Own)} {eff ld:Nat→Bool} {K:Env→Prop} {j:Nat} {oj:Oper} (hj:ops[j]? =some oj):∀(l1 l2:List Nat) (E:Env),
 (∀i∈l1,eff i=false∧(ld i=true→eff j=false)∧∀oi,ops[i]? =some oi→oi.apart ops oj=true)→MixL3 P ops B eff ld (l1++j::l2) E K→MixL3 P ops B eff ld (j::(l1++l2)) E K
 | [],l2,E,_,h=> h
 | i::l1,l2,E,hap,h=> by
   obtain ⟨oi,h1,h2⟩:=h
   obtain ⟨he,hld,ha⟩:=hap i (by simp)
   obtain ⟨a1,a2,a3⟩:=Oper.apart_spec (ha oi h1)
   have back:∀ {ri:AV} {E1:Env},E1.h=E.h∨ld i=false→(∀k,k∈oi.looksAt ops→E1.t k=E.t k)→(match ld i with | true=> PureNow P ops oi E ri | false=> PureAll P ops B oi E ri)→
    (match ld i with | true=> PureNow P ops oi E1 ri | false=> PureAll P ops B oi E1 ri):=fun hh ht hp=> by
    cases hli:ld i with
    | true=> simp only [hli] at hp⊢;exact hp.congr (hh.resolve_right (by rw [hli];simp)) ht
    | false=> simp only [hli] at hp⊢;exact hp.congr ht
   simp only [he] at h2
   have h2':∃ri,(match ld i with | true=> PureNow P ops oi E ri | false=> PureAll P ops B oi E ri)∧MixL3 P ops B eff ld (l1++j::l2) (E.set oi.dst ri) K:=by
    cases hli:ld i with
    | true=> simp only [hli] at h2⊢;exact h2
    | false=> simp only [hli] at h2⊢;exact h2
   obtain ⟨ri,h3,h4⟩:=h2'
   have close:∀ {E1:Env},(match ld i with | true=> PureNow P ops oi E1 ri | false=> PureAll P ops B oi E1 ri)→MixL3 P ops B eff ld (l1++l2) (E1.set oi.dst ri) K→MixL3 P ops B eff ld (i::(l1++l2)) E1 K:=fun hp hk=> by
    refine ⟨oi,h1, ?_⟩
    simp only [he]
    cases hli:ld i with
    | true=> simp only [hli] at hp⊢;exact ⟨ri,hp,hk⟩
    | false=> simp only [hli] at hp⊢;exact ⟨ri,hp,hk⟩
   obtain ⟨o,h5,h6⟩:=MixL3.front hj l1 l2 _ (fun i' hi'=> hap i' (List.mem_cons_of_mem _ hi')) h4
   rw [hj] at h5
   cases h5
   refine ⟨oj,hj, ?_⟩
   cases hej:eff j with
   | true=>
     have hli:ld i=false:=by
      cases h:ld i with
      | false=> rfl
      | true=> rw [hld h] at hej;cases hej
     simp only [hej] at h6⊢
     obtain ⟨R,q1,q2⟩:=h6
     refine ⟨R,q1.congr (by rw [Env.set_h]) fun k hk=> (Env.set_other (fun e=> a1 k e hk)).symm,fun r h' hr=> ?_⟩
     have q3:=q2 r h' hr
     refine close (back (.inr hli) (fun k hk=> Env.set_other (fun e=> a3 k e hk)) h3) ?_
     rw [JnQ,Env.set_comm (d:=oi.dst) (d':=oj.dst) (fun k hk=> a2 k hk)] at q3
     exact q3
   | false=>
     simp only [hej] at h6⊢
     cases hlj:ld j with
     | true=>
       simp only [hlj] at h6⊢
       obtain ⟨rj,q1,q2⟩:=h6
       refine ⟨rj,q1.congr (by rw [Env.set_h]) fun k hk=> (Env.set_other (fun e=> a1 k e hk)).symm,close (back (.inl (by rw [Env.set_h])) (fun k hk=> Env.set_other (fun e=> a3 k e hk)) h3) ?_⟩
       rw [Env.set_comm (d:=oi.dst) (d':=oj.dst) (fun k hk=> a2 k hk)] at q2
       exact q2
     | false=>
       simp only [hlj] at h6⊢
       obtain ⟨rj,q1,q2⟩:=h6
       refine ⟨rj,q1.congr fun k hk=> (Env.set_other (fun e=> a1 k e hk)).symm,close (back (.inl (by rw [Env.set_h])) (fun k hk=> Env.set_other (fun e=> a3 k e hk)) h3) ?_⟩
       rw [Env.set_comm (d:=oi.dst) (d':=oj.dst) (fun k hk=> a2 k hk)] at q2
       exact q2
def ordM3 (ops:Array Oper) (m:Nat) (eff ld:Nat→Bool) (L:List Nat):Bool:=
 let bf:=Region.before ops
 Nat.ble m ops.size&& (Jbx ops m&& (L.all (fun i=> Nat.blt i m)&& ((List.range m).all (fun i=> L.contains i)&& (go bf L))))
where
 go (bf:Array Nat):List Nat→Bool
  | []=> true
  | i::l=> (l.all fun j=> match ops[i]?,ops[j]? with
    | some oi,some oj=> (!Nat.beq i j)&& ((oi.after.toList.all fun e=> !Region.binds .any e|| !Nat.beq e.on j)&& ((bf.getD j 0).testBit i|| (!eff i&& (!(ld i&& eff j)&& oi.apart ops oj))))
    | _,_=> false)&& ((match ops[i]? with | some oi=> oi.after.toList.all fun e=> !Region.binds .any e|| !Nat.beq e.on i | none=> false)&& go bf l)
def JnZ (ops:Array Oper) (eff ld:Nat→Bool) (i j:Nat):Prop:=
 i≠j∧∀oi oj,ops[i]? =some oi→ops[j]? =some oj→(∀e∈oi.after,Region.binds .any e=true→e.on≠j)∧(((Region.before ops).getD j 0).testBit i=true∨(eff i=false∧(ld i=true→eff j=false)∧oi.apart ops oj=true))
theorem Jn0 {ops:Array Oper} {eff ld:Nat→Bool}:∀ {L:List Nat},ordM3.go ops eff ld (Region.before ops) L=true→
 L.Pairwise (JnZ ops eff ld)∧∀i∈L,∀oi,ops[i]? =some oi→∀e∈oi.after,Region.binds .any e=true→e.on≠i
 | [],_=> ⟨.nil,by simp⟩
 | i::l,h=> by
   simp only [ordM3.go,Bool.and_eq_true] at h
   obtain ⟨h1,h2,h3⟩:=h
   obtain ⟨q1,q2⟩:=Jn0 h3
   refine ⟨List.pairwise_cons.2 ⟨fun j hj=> ?_,q1⟩,fun k hk=> ?_⟩
   ·have:=List.all_eq_true.1 h1 j hj
    split at this
    ·rename_i oi oj hi hj'
     simp only [Bool.and_eq_true,Bool.or_eq_true,List.all_eq_true] at this
     obtain ⟨p1,p2,p3⟩:=this
     refine ⟨JgU p1,fun oi' oj' hi2 hj2=> ?_⟩
     rw [hi] at hi2;rw [hj'] at hj2
     cases hi2;cases hj2
     refine ⟨fun e he hb=> ?_,p3.imp id fun h=> by
      simp at h
      exact ⟨h.1,fun hl=> h.2.1.resolve_left (by rw [hl];simp),h.2.2⟩⟩
     rcases p2 e (Array.mem_toList_iff.2 he) with h | h
     ·simp [hb] at h
     ·exact JgU h
    ·cases this
   ·rcases List.mem_cons.1 hk with rfl | hk
    ·intro oi hi e he hb
     rw [hi] at h2
     have:=List.all_eq_true.1 h2 e (Array.mem_toList_iff.2 he)
     simp only [hb,Bool.not_true,Bool.false_or] at this
     exact JgU this
    ·exact q2 k hk
theorem JuR {ops:Array Oper} {m:Nat} {B:List (Id×Own)} {eff ld:Nat→Bool} {Q:Exit→Act→World→Prop} (hk:OrdOk ops m) (hm:m≤ops.size)
 {ro:Option Nat} {X M:Nat→Nat→Prop} {w0:World} {g0:List Nat} {K:Env→Prop}
 (hq:∀E a w g,K E→(∀(i b:Nat),g0[i]? =some b→g[i]? =some b)→St ro X M w0 E a w g→wpOpsIn (Fr ro) 0 P ops Q (List.range' m (ops.size - m)) a w):
 ∀(n:Nat) (L:List Nat) (listed:Array Bool) (E:Env) (a:Act) (w:World) (g:List Nat),L.length=n→L.Pairwise (JnZ ops eff ld)→(∀i∈L,i < m)→
  (∀i∈L,∀oi,ops[i]? =some oi→∀e∈oi.after,Region.binds .any e=true→e.on≠i)→listed.size=ops.size→DC ops listed→
 (∀i,i < ops.size→(listed.getD i true=false↔i∈L∨m≤i))→MixL3 P ops B eff ld L E K→HB B E.h.bx→(∀(i b:Nat),g0[i]? =some b→g[i]? =some b)→St ro X M w0 E a w g→wpAnyIn (Fr ro) 0 P .any ops Q (n+(ops.size - m)) listed a w:=by
 intro n
 induction n with
 | zero=>
   intro L listed E a w g hl _ _ _ hsz hd hun hrun _ hg hs
   have:L= []:=List.eq_nil_of_length_eq_zero hl
   subst this
   rw [Nat.zero_add]
   exact Jg9 hk _ m listed a w Om (Nat.le_refl _) hsz hd (fun i hi=> by simpa using hun i hi) (hq E a w g hrun hg hs)
 | succ n ih=>
   intro L listed E a w g hl hpw hlt hself hsz hd hun hrun hB hg hs
   rw [Nat.add_right_comm]
   obtain ⟨k,L',rfl⟩:∃k L',L=k::L':=by cases L with | nil=> simp at hl | cons k L'=> exact ⟨k,L',rfl⟩
   have hkm:k < m:=hlt k (by simp)
   have hklt:k < ops.size:=by omega
   have hko:ops[k]? =some ops[k]:=Array.getElem?_eq_getElem hklt
   have hkr:k∈Region.ready .any ops listed:=by
    refine Ja6.2 ⟨(hun k hklt).2 (by simp),_,hko,fun e he hb=> ?_⟩
    have hb':=hk.back k _ hko e he hb
    rw [Jbd Om]
    cases hl:listed.getD e.on true with
    | true=> simpa using hl
    | false=>
      rcases (hun e.on Om).1 hl with h' | h'
      ·rcases List.mem_cons.1 h' with h' | h'
       ·exact absurd h' (hself k (by simp) _ hko e he hb)
       · exact absurd rfl (((List.pairwise_cons.1 hpw).1 _ h').2 _ _ hko (Array.getElem?_eq_getElem Om) |>.1 e he hb)
      ·omega
   refine ⟨fun h0=> (by rw [h0] at hkr;cases hkr),fun j hj=> ?_⟩
   obtain ⟨h1,oj,hoj,h2⟩:=Ja6.1 hj
   have hjlt:=(Array.getElem?_eq_some_iff.1 hoj).1
   have hjL:j∈k::L':=by
    rcases (hun j hjlt).1 h1 with h' | h'
    ·exact h'
    ·have hb:=hk.tail k j oj hoj h' Om
     have:=Jb3 hd hsz hoj h2 hb
     have h3:=(hun k Om).2 (by simp)
     rw [Jbd Om] at this
     simp [h3] at this
   obtain ⟨l1,l2,hl12⟩:=List.append_of_mem hjL
   rw [hl12] at hrun hpw hun hlt hl hself
   have hl1:∀i∈l1,JnZ ops eff ld i j:=fun i hi=> (List.pairwise_append.1 hpw).2.2 i hi j (by simp)
   obtain ⟨o,ho,hrun'⟩:=MixL3.front hoj l1 l2 E (fun i hi=> by
    obtain ⟨hne,hp⟩:=hl1 i hi
    have hilt:i < ops.size:=Nat.lt_of_lt_of_le (hlt i (by simp [hi])) hm
    rcases (hp _ _ (Array.getElem?_eq_getElem hilt) hoj).2 with hb | ⟨hb,hb2,hb'⟩
    ·have:=Jb3 hd hsz hoj h2 hb
     have h3:=(hun i hilt).2 (by simp [hi])
     rw [Jbd Om] at this
     simp [h3] at this
    ·exact ⟨hb,hb2,fun oi hoi=> by rw [Array.getElem?_eq_getElem hilt] at hoi;cases hoi;exact hb'⟩) hrun
   rw [hoj] at ho
   cases ho
   have hnext:∀E' a' w' g',MixL3 P ops B eff ld (l1++l2) E' K→HB B E'.h.bx→(∀(i b:Nat),g0[i]? =some b→g'[i]? =some b)→St ro X M w0 E' a' w' g'→wpAnyIn (Fr ro) 0 P .any ops Q (n+(ops.size - m)) (listed.setIfInBounds j true) a' w':=by
    intro E' a' w' g' hm' hB' hg' hs'
    have hsub:(l1++l2).Sublist (l1++j::l2):=List.Sublist.append Sf (List.sublist_cons_self _ _)
    refine ih (l1++l2) _ E' a' w' g' (by simp at hl⊢;omega) (hpw.sublist hsub) (fun i hi=> hlt i (hsub.subset hi)) (fun i hi=> hself i (hsub.subset hi)) (by simp [hsz]) (hd.set hsz hk hj) (fun i hi=> ?_) hm' hB' hg' hs'
    rw [Jer Om]
    by_cases hij:i=j
    ·subst hij
     simp only [if_true]
     constructor
     ·intro h;cases h
     ·intro h
      exfalso
      have h5:=List.pairwise_append.1 hpw
      rcases h with h | h
      ·rcases List.mem_append.1 h with h | h
       ·exact (h5.2.2 i h i (by simp)).1 rfl
       ·exact ((List.pairwise_cons.1 h5.2.1).1 i h).1 rfl
      ·have:=hlt i (by simp);omega
    ·rw [if_neg hij,hun i hi]
     simp [hij]
   cases hej:eff j with
   | true=>
     simp only [hej] at hrun'
     obtain ⟨R,⟨q0,q1⟩,q2⟩:=hrun'
     unfold wpOpIn
     simp only [hoj,Region.wanted,q0,if_true]
     exact q1 E rfl (fun _ _=> rfl) ro X M w0 a w g hs _ _ (fun E' a' w' g' hE hgg hs'=> by
      obtain ⟨r,h',p1,p2,rfl⟩:=hE
      exact hnext _ a' w' g' (q2 r h' p1) (by rw [Env.set_h];exact p2) (fun i b hi=> hgg i b (hg i b hi)) hs') (fun x E' a' w' g' v hk'=> hk'.elim)
   | false=>
     simp only [hej] at hrun'
     cases hlj:ld j with
     | true=>
       simp only [hlj] at hrun'
       obtain ⟨r,q1,q2⟩:=hrun'
       exact (q1 E rfl fun _ _=> rfl).does hoj hs fun a' w' hs'=> hnext _ a' w' g q2 (by rw [Env.set_h];exact hB) hg hs'
     | false=>
       simp only [hlj] at hrun'
       obtain ⟨r,q1,q2⟩:=hrun'
       exact (q1 E hB fun _ _=> rfl).does hoj hs fun a' w' hs'=> hnext _ a' w' g q2 (by rw [Env.set_h];exact hB) hg hs'
def aM3 (P:Program) (ops:Array Oper) (eff ld:Nat→Bool):List Nat→Env→(Env→Prop)→Prop
 | [],E,K=> K E
 | i::l,E,K=> match ops[i]? with
   | none=> False
   | some o=> match eff i with
      | true=> ∃R,Eff P ops [] o E R∧∀r h',R r h'→aM3 P ops eff ld l (({ E with h:=h'}:Env).set o.dst r) K
      | false=> match ld i with
        | true=> ∃r,PureNow P ops o E r∧JcU r fun r=> aM3 P ops eff ld l (E.set o.dst r) K
        | false=> match o.guard with
          | some _=> False
          | none=> match Jbj P o.op { E with h:=⟨[], [],0,0⟩} with
            | some (C,r)=> Jnh C (JcU r fun r=> aM3 P ops eff ld l (E.set o.dst r) K)
            | none=> False
theorem JiA {ops:Array Oper} {eff ld:Nat→Bool} {K:Env→Prop}:∀ {L:List Nat} {E:Env},aM3 P ops eff ld L E K→MixL3 P ops [] eff ld L E K
 | [],E,h=> h
 | i::l,E,h=> by
   unfold aM3 at h
   split at h
   ·exact h.elim
   ·rename_i o ho
    refine ⟨o,ho, ?_⟩
    cases he:eff i with
    | true=>
      simp only [he] at h⊢
      obtain ⟨R,q1,q2⟩:=h
      exact ⟨R,q1,fun r h' hr=> JiA (q2 r h' hr)⟩
    | false=>
      simp only [he] at h⊢
      cases hl:ld i with
      | true=>
        simp only [hl] at h⊢
        obtain ⟨r,q1,q2⟩:=h
        exact ⟨r,q1,JiA (Jc5 q2)⟩
      | false=>
        simp only [hl] at h⊢
        split at h
        ·exact h.elim
        ·rename_i hg
         split at h
         ·rename_i C r hp
          obtain ⟨q1,q2⟩:=JhX h
          refine ⟨r,fun E' hb ht=> ?_,JiA (Jc5 q2)⟩
          unfold GY
          simp only [hg]
          exact JbW (Jew (E:= { E with h:=⟨[], [],0,0⟩}) (E':=E') hb (Jb6 (E:= { E with h:=⟨[], [],0,0⟩}) ht) hp) q1
         ·exact h.elim
theorem JsZ {ops:Array Oper} {o:Oper} {E:Env} {C:Option Prop} {r:AV} (hg:o.guard=none) (hp:Jbj P o.op E=some (C,r)) (hC:Jas C):PureNow P ops o E r:=fun E' hh ht=> by
 unfold GY
 simp only [hg]
 exact JbW (Jew (E:=E) (E':=E') (by rw [hh];exact HB.refl _) (Jb6 ht) hp) hC
theorem Jwl {id:Nat} {ops:Array Oper} {E:Env} {Q:AExit→Env→Prop} (m:Nat) (eff ld:Nat→Bool) (L:List Nat) (hf:P.follows .mixedOrders=true) (hb:ordM3 ops m eff ld L=true)
 (h:aM3 P ops eff ld L E fun E'=> aK P ops (ops.toList.drop m) E' (Q .normal) (fun x E=> Q (.panic x) E)):AW P (.region id ops true) E Q:=by
 simp only [ordM3,Bool.and_eq_true,List.all_eq_true] at hb
 obtain ⟨h0,h00,h1,h2,h3⟩:=hb
 have hm:=Jd8 h0
 obtain ⟨h4,h5⟩:=Jn0 h3
 have hlt:∀i∈L,i < m:=fun i hi=> Jcn (h1 i hi)
 have hall:∀i,i < m→i∈L:=fun i hi=> by simpa using h2 i (List.mem_range.2 hi)
 have hnd:L.Nodup:=h4.imp fun h=> h.1
 have hlen:L.length=m:=by
  have p:L.Perm (List.range m):=(List.perm_ext_iff_of_nodup hnd List.nodup_range).2 fun i=> ⟨fun hi=> List.mem_range.2 (hlt i hi),fun hi=> hall i (List.mem_range.1 hi)⟩
  simpa using p.length_eq
 unfold AW
 intro ro X M w0 a w g g0 hg hs
 refine wpIn_region_any hf ?_
 have hs':St ro X M w0 E a { w with drawn:=w.drawn+1} g:=hs.drew
 have key:=JuR (eff:=eff) (ld:=ld) (g0:=g0) (K:=fun E'=> aK P ops (ops.toList.drop m) E' (Q .normal) (fun x E=> Q (.panic x) E)) (Q:=JeO ro X M w0 g0 Q) (P:=P) (X:=X) (M:=M) (w0:=w0) (ro:=ro) (B:= []) (JqT h00) hm (fun E' a' w' g' hk hg' hs''=> by
  have:=Jdr (P:=P) (ops:=ops) (K:=Q .normal) (X:=X) (M:=M) (w0:=w0) (g0:=g0) (Kp:=fun x E=> Q (.panic x) E) (ro:=ro) (Q:=JeO ro X M w0 g0 Q) (fun E a w g hk hg hs=> ⟨.normal,E,g,hk,rfl,hg,hs⟩) (fun x E a w g v hk hg hs hr=> ⟨.panic x,E,g,hk,⟨v,rfl,hr⟩,hg,hs⟩) (ops.toList.drop m) m E' a' w' g' (fun j=> .inl (by simp)) hg' hs'' hk
  simpa using this) m L (Array.replicate ops.size false) E a _ g hlen h4 hlt h5 (by simp) (fun k o ho hl=> by
  have hk:=(Array.getElem?_eq_some_iff.1 ho).1
  simp [Array.getD_eq_getD_getElem?,hk] at hl) (fun i hi=> by
  have:(Array.replicate ops.size false).getD i true=false:=by simp [Array.getD_eq_getD_getElem?,hi]
  simp only [this,true_iff]
  rcases Nat.lt_or_ge i m with h | h
  ·exact .inl (hall i h)
  ·exact .inr h) (JiA h) (fun _ _ _ h=> by cases h) hg hs'
 have e:m+(ops.size - m)=ops.size:=by omega
 rw [e] at key
 exact key
end Go.Vl

namespace Go.Vl
open Go.RowKit
variable {P:Program}
def Jn1 {ι:Type} (F:ι→Env) (J:ι→Prop) (Q:AExit→Env→Prop):AExit→Env→Prop:=fun e E'=>
 match e with
 | .normal=> ∃i,J i∧ELe E' (F i)
 | e=> Q e E'
theorem JgW {ι:Type} (F:ι→Env) (J:ι→Prop) {x y:Code} {E:Env} {Q:AExit→Env→Prop} (h:AW P x E (Jn1 F J Q)) (hk:∀i,J i→AW P y (F i) Q):AW P x E (JfX P y Q):=
 h.mono fun ex E' h'=> by
  cases ex with
  | normal=> obtain ⟨i,hI,hl⟩:=h';exact AW.le hl (hk i hI)
  | exit i=> exact h'
  | goto i=> exact h'
  | ret=> exact h'
  | panic i=> exact h'
theorem Jwm {ι:Type} {F:ι→Env} {J:ι→Prop} {y:Code} {Q:AExit→Env→Prop} (hk:∀i,J i→AW P y (F i) Q):∀ex E',Jn1 F J Q ex E'→JfX P y Q ex E':=fun ex E' h'=> by
 cases ex with
 | normal=> obtain ⟨i,hI,hl⟩:=h';exact AW.le hl (hk i hI)
 | exit i=> exact h'
 | goto i=> exact h'
 | ret=> exact h'
 | panic i=> exact h'
theorem Js0 {y:Code} {Q Q':AExit→Env→Prop} (h:∀ex E,Q ex E→Q' ex E):∀ex E,JfX P y Q ex E→JfX P y Q' ex E:=fun ex E h'=> by
 cases ex with
 | normal=> exact AW.mono h' h
 | exit i=> exact h _ _ h'
 | goto i=> exact h _ _ h'
 | ret=> exact h _ _ h'
 | panic i=> exact h _ _ h'
theorem Jwn {ι:Type} (F:ι→Env) (J:ι→Prop) {x y1 y:Code} {E:Env} {Q:AExit→Env→Prop} (h:AW P x E (JfX P y1 (Jn1 F J Q))) (hk:∀i,J i→AW P y (F i) Q):AW P x E (JfX P y1 (JfX P y Q)):=
 h.mono (Js0 (Jwm hk))
theorem Jan {ι:Type} (F:ι→Env) (J:ι→Prop) {k:Nat} {x y:Code} {E:Env} {Q:AExit→Env→Prop} (h:AW P x E (JfY k (Jn1 F J Q))) (hk:∀i,J i→AW P y (F i) Q):AW P x E (JfY k (JfX P y Q)):=by
 have key:∀ex E',Jn1 F J Q ex E'→JfX P y Q ex E':=fun ex E' h'=> by
  cases ex with
  | normal=> obtain ⟨i,hI,hl⟩:=h';exact AW.le hl (hk i hI)
  | exit i=> exact h'
  | goto i=> exact h'
  | ret=> exact h'
  | panic i=> exact h'
 refine h.mono fun ex E' h'=> ?_
 cases ex with
 | exit i=>
   simp only [JfY] at h'⊢
   cases hb:Nat.beq i k with
   | true=> simp only [hb,cond_true] at h'⊢;exact key .normal _ h'
   | false=> simp only [hb,cond_false] at h'⊢;exact h'
 | normal=> exact key .normal _ h'
 | goto i=> exact h'
 | ret=> exact h'
 | panic i=> exact h'
section
variable {α:Type} [Inhabited α]
def Jc7 (E:α→AV) (d:Array α) (tl:List AV):List AV:=d.toList.map E++tl
omit [Inhabited α] in
theorem Jn2 {E:α→AV} {d:Array α} {tl:List AV}:(Jc7 E d tl).length=d.size+tl.length:=by simp [Jc7]
theorem Jbs {x:Int} {i:Nat} (h:x=(i:Int)):0≤x:=by omega
theorem JbJ {x:Int} {i n:Nat} (h:x=(i:Int)) (hn:i < n):x < (n:Int):=by omega
end
end Go.Vl

namespace Go.Vl
open Go.RowKit
variable {P:Program}
theorem AOp.any {o:Oper} {E:Env} {K:Env→Prop} {Kp:AV→Env→Prop} (h:AOp P o E K):AOp P o E K Kp:=fun ro X M w0 a w g hs next Q hn _=> h ro X M w0 a w g hs next Q hn fun _ _ _ _ _ _ h=> h.elim
theorem JuS {w:World} {X:Nat→Nat→Prop} {g:List Nat} {m sz:Nat} {f':Nat→AV} {news:List Value} (hpos:0 < sz) (hnl:news.length=m * sz) (hncs:∀i,i < m→(f' i).cells.length=sz)
 (hnr:∀(i j:Nat) (c:AV) (u:Value),i < m→(f' i).cells[j]? =some c→news[i * sz+j]? =some u→Rep w X g c u) (hone:JcT m f'):∀u∈news,u.oneCell'=true:=by
 intro u hu
 obtain ⟨k,hk,hku⟩:=List.getElem_of_mem hu
 have hdm:=Nat.div_add_mod k sz
 have hmod:=Nat.mod_lt k hpos
 have hdiv:k / sz < m:=by rw [Nat.div_lt_iff_lt_mul hpos];omega
 have hlt:k % sz < (f' (k / sz)).cells.length:=by rw [hncs _ hdiv];exact hmod
 have hrep:=hnr (k / sz) (k % sz) _ u hdiv (List.getElem?_eq_getElem hlt) (by
  rw [Nat.mul_comm,hdm,List.getElem?_eq_getElem hk,hku])
 exact Je8 (List.all_eq_true.1 (hone _ hdiv) _ (List.getElem_mem hlt)) hrep
theorem Jn3 {w:World} {X:Nat→Nat→Prop} {g:List Nat} {m sz:Nat} {f':Nat→AV} {news:List Value} (hpos:0 < sz) (hnl:news.length=m * sz) (hncs:∀i,i < m→(f' i).cells.length=sz)
 (hnr:∀(i j:Nat) (c:AV) (u:Value),i < m→(f' i).cells[j]? =some c→news[i * sz+j]? =some u→Rep w X g c u):
 ∀(k:Nat) (c:AV) (u:Value),(JQ m f')[k]? =some c→news[k]? =some u→Rep w X g c u:=by
 intro k c u hc hu
 obtain ⟨rl,rg⟩:=Jds hncs
 have hk:k < m * sz:=by rw [← hnl];exact (List.getElem?_eq_some_iff.1 hu).1
 have hdm:=Nat.div_add_mod k sz
 have hmod:=Nat.mod_lt k hpos
 have hdiv:k / sz < m:=by rw [Nat.div_lt_iff_lt_mul hpos];exact hk
 have e:k=k / sz * sz+k % sz:=by rw [Nat.mul_comm];exact hdm.symm
 rw [e,rg _ _ hdiv hmod] at hc
 exact hnr _ _ c u hdiv hc (by rw [← e];exact hu)
theorem Jfd {o:Oper} {E:Env} {K:Env→Prop} {Kp:AV→Env→Prop} {s x:Operand} {t e:TypeId} {n szx m cap:Nat} {f':Nat→AV} {i:Id} {cs:List AV}
 (ho:o.op= .call { callee:= .builtin .append,args:= #[s,x],argTypes:= #[t,t]}) (hs:E.ev s= .hs i 0 n cap)
 (hx:E.ev x= .sl szx m f'∨∃oj,E.ev x= .os szx m f' oj)
 (ht:P.underlying t=some (.slice e)) (hg:Jba P e=true) (hszx:m=0∨szx=P.cellsOf e)
 (hcs:JbH i.1 E.h.bx=some (i.2,cs)) (hcap:n≤cap) (hcl:cap * P.cellsOf e≤cs.length) (hone:JcT m f')
 (hroom0:m≠0→(n+m) * P.bytesOf e≤140737488355328) (hlen0:m≠0→n+m≤9223372036854775807)
 (hk0:m=0→K (E.set o.dst (.hs i 0 n cap)))
 (hk1:m≠0→n+m≤cap→K (({ E with h:= { E.h with bx:=Jet i.1 (Jat cs (n * P.cellsOf e) (JQ m f')) E.h.bx}}:Env).set o.dst (.hs i 0 (n+m) cap)))
 (hk2:m≠0→¬n+m≤cap→∀ncap,n+m≤ncap→K (({ E with h:=E.h.add (cs.take (n * P.cellsOf e)++JQ m f'++List.replicate ((ncap - (n+m)) * P.cellsOf e) .any)}:Env).set o.dst (.hs (E.h.nn,E.h.nx) 0 (n+m) ncap))):AOp P o E K Kp:=by
 intro ro X M w0 a w g hst next Q hn hpan
 obtain ⟨inf,z,hi,hz,hzs,hsi,hpos,hby⟩:=Je9 hg
 have hmem:=JfZ hcs
 obtain ⟨b,hgb,vs,ev,hb,hvs,hr⟩:=hst.hok.bx _ hmem
 dsimp only at hgb hvs hr
 have hsv:a.eval s= .slice (some ⟨b,0,none⟩) n cap:=by
  have:=hst.ev s
  rw [hs] at this
  generalize a.eval s=u at this
  cases this with
  | hs _ _ _ _ b' hg'=> rw [hgb] at hg';cases hg';rfl
 have hxr:Rep w (excl X g E.h) g (.sl szx m f') (a.eval x):=by
  have:=hst.ev x
  rcases hx with hx | ⟨oj,hx⟩
  ·rw [hx] at this;exact this
  ·rw [hx] at this;exact Jc4 this
 have hexec:∀ {u:Value} {w':World},(Builtin.append_ #[t,t] o.type #[a.eval s,a.eval x]).run P w= .ok u w'→(execOp a.eval o).run P w= .ok (.value u) w':=by
  intro u w' h
  unfold execOp
  simp only [ho,resolve]
  simp [invoke,builtin,h]
 by_cases hm:m=0
 ·subst hm
  have hrun:(Builtin.append_ #[t,t] o.type #[a.eval s,a.eval x]).run P w= .ok (a.eval s) w:=by
   have key:∀(xb:Option Addr) (xc:Nat),(Builtin.append_ #[t,t] o.type #[.slice (some ⟨b,0,none⟩) n cap, .slice xb 0 xc]).run P w= .ok (.slice (some ⟨b,0,none⟩) n cap) w:=by
    intro xb xc
    have hfc:(Builtin.firstCells inf.size 0 (.slice xb 0 xc)).run P w= .ok #[] w:=by
     cases xb with
     | none=> simp [Builtin.firstCells]
     | some ad=> simpa using run_firstCells_some (P:=P) w inf.size 0 ad 0 xc [] (by simp) (by simp)
    simp [Builtin.append_,run_underlying ht,sizeOf,typeInfo,hi,Builtin.lenOf,hcap,hfc,storeCells]
   rw [hsv]
   generalize a.eval x=ux at hxr
   cases hxr with
   | sl0 _ _ xa xc=> exact key _ _
   | sl _ _ _ b off cap vs hlen' hcap=> exact key _ _
  refine JT (by rw [ho];intro c h;cases h) ?_
  rw [hexec hrun]
  have:=hst.ev s
  rw [hs] at this
  exact hn _ _ _ g (hk0 rfl) (fun _ _ h=> h) (hst.put o.dst this)
 ·have hroom:=hroom0 hm
  have hlen:=hlen0 hm
  have hszx':szx=P.cellsOf e:=hszx.resolve_left hm
  subst hszx'
  obtain ⟨ax,xcap,news,hxv,hnl,hncell,hncs,hnr⟩:=JhU hxr hm
  have hnone:=JuS hpos hnl hncs hnr hone
  have hnrep:=Jn3 hpos hnl hncs hnr
  obtain ⟨rl,rg⟩:=Jds hncs
  have hvl:vs.toList.length=cs.length:=by simpa using hvs
  by_cases hfit:n+m≤cap
  ·have hnm:(n+m) * P.cellsOf e≤cap * P.cellsOf e:=Nat.mul_le_mul_right _ hfit
   rw [Nat.add_mul] at hnm
   have hr2:=JhJ (P:=P) w t o.type e ev inf ht hi b n cap vs hb ax m xcap news (by rw [hnl,hsi]) hncell hnone hfit (by rw [hsi,hnl];omega)
   rw [hsi] at hr2
   have hnew:=hst.setRow (cs:=Jat cs (n * P.cellsOf e) (JQ m f')) (vs:=(vs.toList.take (n * P.cellsOf e)++news++vs.toList.drop (n * P.cellsOf e+news.length)).toArray) hcs hgb hb
    (by simp only [JaQ,List.length_append,List.length_take,List.length_drop,Array.length_toList,rl,hnl];omega)
    (by simp only [List.size_toArray,List.length_append,List.length_take,List.length_drop,Array.length_toList,hnl];omega)
    (fun k c u hk1 hk2=> by
      simp only [List.append_assoc] at hk2
      rw [JcG _ _ _ (by simp only [Array.length_toList];omega)] at hk2
      rw [JaQ] at hk1
      rw [JcG _ _ _ (by rw [rl];omega)] at hk1
      rw [hnl] at hk2
      rw [rl] at hk1
      split at hk1
      ·rename_i h2;rw [if_pos h2] at hk2;exact hr k c u hk1 (by simpa using hk2)
      ·rename_i h2
       rw [if_neg h2] at hk2
       split at hk1
       ·rename_i h3;rw [if_pos h3] at hk2;exact hnrep _ c u hk1 hk2
       ·rename_i h3;rw [if_neg h3] at hk2;exact hr k c u hk1 (by simpa using hk2))
   refine JT (by rw [ho];intro c h;cases h) ?_
   rw [hexec (by rw [hsv,hxv];exact hr2)]
   exact hn _ _ _ g (hk1 hm hfit) (fun _ _ h=> h) (hnew.put o.dst (.hs _ _ _ _ b hgb))
  ·have hnc:n * P.cellsOf e≤cap * P.cellsOf e:=Nat.mul_le_mul_right _ hcap
   have hol:(vs.toList.take (n * P.cellsOf e)).length=n * P.cellsOf e:=by rw [List.length_take];omega
   have hocell:∀(j:Nat) (u:Value),(vs.toList.take (n * P.cellsOf e))[j]? =some u→w.cell? ((⟨b,0,none⟩:Addr).add j)=some u:=fun j u hu=> by
    rw [Jaw,Nat.zero_add,JY hb]
    rw [List.getElem?_take] at hu
    split at hu
    ·simpa using hu
    ·cases hu
   have hr2:=run_append_grow (P:=P) w t o.type e inf z ht hi hz ⟨b,0,none⟩ n cap (vs.toList.take (n * P.cellsOf e)) (by rw [hol,hsi]) hocell ax m xcap news (by rw [hnl,hsi]) hncell Om Om (growslice_fits Om (by rw [hby];exact hroom))
   have hge:=grownCap_ge w (n+m) cap e
   generalize grownCap w (n+m) cap e=ncap at hr2 hge
   have hst2:=hst.drew
   obtain ⟨h3,h4⟩:=hst2.box (cs:=cs.take (n * P.cellsOf e)++JQ m f'++List.replicate ((ncap - (n+m)) * P.cellsOf e) .any) (vs:=(vs.toList.take (n * P.cellsOf e)).toArray++news.toArray++Builtin.zeroCells z.cells (ncap - (n+m))) e
    (by simp only [Array.toList_append,List.length_append,Array.length_toList,size_zeroCells,hzs,List.length_take,List.length_replicate,rl,hnl,List.size_toArray];omega)
    (fun k c u hc hu=> by
      have hevo:Evo none2 w w.drew:=Jf0 w
      simp only [Array.toList_append] at hu
      rw [List.append_assoc] at hc hu
      by_cases h1:k < n * P.cellsOf e
      ·rw [List.getElem?_append_left (by rw [List.length_take];omega),List.getElem?_take,if_pos h1] at hc
       rw [List.getElem?_append_left (by simp only [List.length_take, Array.length_toList] at *; omega)] at hu
       rw [List.getElem?_take,if_pos h1] at hu
       exact (hr k c u hc (by simpa using hu)).evo0 hevo
      ·rw [List.getElem?_append_right (by rw [List.length_take];omega),List.length_take,Nat.min_eq_left Om] at hc
       rw [List.getElem?_append_right (by simp only [List.length_take, Array.length_toList] at *; omega)] at hu
       simp only [hol] at hu
       by_cases h2:k - n * P.cellsOf e < m * P.cellsOf e
       ·rw [List.getElem?_append_left (by rw [rl];exact h2)] at hc
        rw [List.getElem?_append_left (by rw [hnl];exact h2)] at hu
        exact (hnrep _ c u hc hu).evo0 hevo
       ·rw [List.getElem?_append_right (by rw [rl];omega)] at hc
        have:=List.mem_of_getElem? hc
        rw [(List.mem_replicate.1 this).2]
        exact .any _)
   refine JT (by rw [ho];intro c h;cases h) ?_
   rw [hexec (by rw [hsv,hxv];exact hr2)]
   refine hn _ _ _ _ (hk2 hm hfit ncap hge) (fun i b h=> by rw [List.getElem?_append_left (List.getElem?_eq_some_iff.1 h).1];exact h) (h3.put o.dst ?_)
   refine .hs _ _ _ _ w.heap.size ?_
   generalize hX:excl X (g++ [w.drew.heap.size]) (E.h.add (cs.take (n * P.cellsOf e)++JQ m f'++List.replicate ((ncap - (n+m)) * P.cellsOf e) .any))=X2 at h4
   cases h4 with
   | bp _ _ b' hg'=> exact hg'
theorem Jqb {w:World} {X:Nat→Nat→Prop} {g:List Nat} {i:Id} {b:Nat} (h:Rep w X g (.bp i 0) (.pointer (some ⟨b,0,none⟩))):g[i.2]? =some b:=by
 cases h with
 | bp _ _ b' hg'=> exact hg'
theorem Jga {o:Oper} {E:Env} {K:Env→Prop} {Kp:AV→Env→Prop} {s x:Operand} {t e:TypeId} {sz szx m:Nat} {f f':Nat→AV}
 (ho:o.op= .call { callee:= .builtin .append,args:= #[s,x],argTypes:= #[t,t]}) (hs:E.ev s= .os sz 0 f none)
 (hx:E.ev x= .sl szx m f'∨∃oj,E.ev x= .os szx m f' oj)
 (ht:P.underlying t=some (.slice e)) (hg:Jba P e=true) (hszx:szx=P.cellsOf e) (hm:m≠0) (hone:JcT m f')
 (hroom:m * P.bytesOf e≤140737488355328) (hlen:m≤9223372036854775807)
 (hk2:∀ncap,m≤ncap→K (({ E with h:=E.h.add (JQ m f'++List.replicate ((ncap - m) * P.cellsOf e) .any)}:Env).set o.dst (.hs (E.h.nn,E.h.nx) 0 m ncap))):AOp P o E K Kp:=by
 intro ro X M w0 a w g hst next Q hn hpan
 obtain ⟨inf,z,hi,hz,hzs,hsi,hpos,hby⟩:=Je9 hg
 subst hszx
 have hxr:Rep w (excl X g E.h) g (.sl (P.cellsOf e) m f') (a.eval x):=by
  have:=hst.ev x
  rcases hx with hx | ⟨oj,hx⟩
  ·rw [hx] at this;exact this
  ·rw [hx] at this;exact Jc4 this
 have hexec:∀ {u:Value} {w':World},(Builtin.append_ #[t,t] o.type #[a.eval s,a.eval x]).run P w= .ok u w'→(execOp a.eval o).run P w= .ok (.value u) w':=by
  intro u w' h
  unfold execOp
  simp only [ho,resolve]
  simp [invoke,builtin,h]
 obtain ⟨ax,xcap,news,hxv,hnl,hncell,hncs,hnr⟩:=JhU hxr hm
 have hnrep:=Jn3 hpos hnl hncs hnr
 obtain ⟨rl,rg⟩:=Jds hncs
 have hrun:∃ncap,m≤ncap∧(Builtin.append_ #[t,t] o.type #[a.eval s,a.eval x]).run P w= .ok (.slice (some ⟨w.heap.size,0,none⟩) m ncap) (w.drew.alloc (.cells (news.toArray++Builtin.zeroCells z.cells (ncap - m)) e)):=by
  have hsr:=hst.ev s
  rw [hs] at hsr
  rw [hxv]
  generalize a.eval s=us at hsr
  have key:∀ad:Option Addr,us= .slice ad 0 0→∃ncap,m≤ncap∧(Builtin.append_ #[t,t] o.type #[us, .slice (some ax) m xcap]).run P w= .ok (.slice (some ⟨w.heap.size,0,none⟩) m ncap) (w.drew.alloc (.cells (news.toArray++Builtin.zeroCells z.cells (ncap - m)) e)):=by
   rintro ad rfl
   cases ad with
   | none=> exact ⟨_,grownCap_ge w m 0 e,run_append_nil (P:=P) w t o.type e inf z ht hi hz ax m xcap news (by rw [hnl,hsi]) hncell Om Om (by rw [hby];omega)⟩
   | some ad=>
     have hr:=run_append_grow (P:=P) w t o.type e inf z ht hi hz ad 0 0 [] (by simp) (by simp) ax m xcap news (by rw [hnl,hsi]) hncell Om Om (growslice_fits Om (by rw [hby,Nat.zero_add];exact hroom))
     rw [Nat.zero_add] at hr
     exact ⟨_,grownCap_ge w m 0 e,by simpa using hr⟩
  cases hsr with
  | os0 _ _ ad=> exact key ad rfl
  | osn _ _ _ b off vs=> exact key _ rfl
 obtain ⟨ncap,hnc,hr⟩:=hrun
 obtain ⟨h3,h4⟩:=hst.drew.box (cs:=JQ m f'++List.replicate ((ncap - m) * P.cellsOf e) .any) (vs:=news.toArray++Builtin.zeroCells z.cells (ncap - m)) e
  (by simp only [Array.toList_append,List.length_append,Array.length_toList,size_zeroCells,hzs,List.length_replicate,rl,hnl])
  (fun k c u hc hu=> by
    simp only [Array.toList_append] at hu
    by_cases h2:k < m * P.cellsOf e
    ·rw [List.getElem?_append_left (by rw [rl];exact h2)] at hc
     rw [List.getElem?_append_left (by rw [hnl];exact h2)] at hu
     exact (hnrep _ c u hc hu).evo0 (Jf0 w)
    ·rw [List.getElem?_append_right (by rw [rl];omega)] at hc
     have:=List.mem_of_getElem? hc
     rw [(List.mem_replicate.1 this).2]
     exact .any _)
 refine JT (by rw [ho];intro c h;cases h) ?_
 rw [hexec hr]
 exact hn _ _ _ _ (hk2 ncap hnc) (fun i b h=> by rw [List.getElem?_append_left (List.getElem?_eq_some_iff.1 h).1];exact h) (h3.put o.dst (.hs _ _ _ _ w.heap.size (Jqb h4)))
theorem Jm2 {o:Oper} {E:Env} {K:Env→Prop} {Kp:AV→Env→Prop} {s x:Operand} {t e:TypeId} {sz m:Nat} {f:Nat→AV} {tn:TypeId} {kn kq:IntKind}
 (ho:o.op= .call { callee:= .builtin .append,args:= #[s,x],argTypes:= #[t,tn]}) (hs:E.ev s= .os sz 0 f none)
 (hx:E.ev x= .v (.int kq m)) (hm:m≠0) (htn:P.underlying tn=some (.int kn)) (ht:P.underlying t=some (.slice e)) (hg:Jba P e=true)
 (hroom:m * P.bytesOf e≤140737488355328) (hlen:m≤9223372036854775807)
 (hk2:∀ncap,m≤ncap→K (({ E with h:=E.h.add (List.replicate (ncap * P.cellsOf e) .any)}:Env).set o.dst (.hs (E.h.nn,E.h.nx) 0 m ncap))):AOp P o E K Kp:=by
 intro ro X M w0 a w g hst next Q hn hpan
 obtain ⟨inf,z,hi,hz,hzs,hsi,hpos,hby⟩:=Je9 hg
 have hxv:a.eval x= .int kq m:=by
  have:=hst.ev x
  rw [hx] at this
  generalize a.eval x=u at this
  cases this;rfl
 have hexec:∀ {u:Value} {w':World},(Builtin.append_ #[t,tn] o.type #[a.eval s,a.eval x]).run P w= .ok u w'→(execOp a.eval o).run P w= .ok (.value u) w':=by
  intro u w' h
  unfold execOp
  simp only [ho,resolve]
  simp [invoke,builtin,h]
 have hrun:∃ncap,m≤ncap∧(Builtin.append_ #[t,tn] o.type #[a.eval s,a.eval x]).run P w= .ok (.slice (some ⟨w.heap.size,0,none⟩) m ncap) (w.drew.alloc (.cells (([]:List Value).toArray++Builtin.zeroCells z.cells m++Builtin.zeroCells z.cells (ncap - m)) e)):=by
  have hsr:=hst.ev s
  rw [hs] at hsr
  rw [hxv]
  generalize a.eval s=us at hsr
  have key:∀ad:Option Addr,us= .slice ad 0 0→∃ncap,m≤ncap∧(Builtin.append_ #[t,tn] o.type #[us, .int kq m]).run P w= .ok (.slice (some ⟨w.heap.size,0,none⟩) m ncap) (w.drew.alloc (.cells (([]:List Value).toArray++Builtin.zeroCells z.cells m++Builtin.zeroCells z.cells (ncap - m)) e)):=by
   rintro ad rfl
   have hr:=Go.Lib.run_append_grow_zeros (P:=P) w t tn o.type e inf z kq kn ht htn hi hz ad 0 0 [] (by cases ad with
    | none=> simp [Builtin.firstCells]
    | some a0=> simpa using run_firstCells_some (P:=P) w.drew inf.size 0 a0 0 0 [] (by simp) (by simp)) m Om Om Om Om (by rw [hby];omega) (growslice_fits Om (by rw [hby,Nat.zero_add];exact hroom))
   rw [Nat.zero_add] at hr
   exact ⟨_,grownCap_ge w m 0 e,hr⟩
  cases hsr with
  | os0 _ _ ad=> exact key ad rfl
  | osn _ _ _ b off vs=> exact key _ rfl
 obtain ⟨ncap,hnc,hr⟩:=hrun
 obtain ⟨h3,h4⟩:=hst.drew.box (cs:=List.replicate (ncap * P.cellsOf e) .any) (vs:=([]:List Value).toArray++Builtin.zeroCells z.cells m++Builtin.zeroCells z.cells (ncap - m)) e
  (by
    simp only [Array.toList_append,List.length_append,Array.length_toList,size_zeroCells,hzs,List.length_replicate,List.length_nil,Nat.zero_add,← Nat.add_mul]
    congr 1;omega)
  (fun k c u hc hu=> by
    have:=List.mem_of_getElem? hc
    rw [(List.mem_replicate.1 this).2]
    exact .any _)
 refine JT (by rw [ho];intro c h;cases h) ?_
 rw [hexec hr]
 exact hn _ _ _ _ (hk2 ncap hnc) (fun i b h=> by rw [List.getElem?_append_left (List.getElem?_eq_some_iff.1 h).1];exact h) (h3.put o.dst (.hs _ _ _ _ w.heap.size (Jqb h4)))
theorem Jpz {o:Oper} {E:Env} {t e:TypeId} {x hi:Operand} {n l cap:Nat} {i:Id} {k':IntKind} {d:TypeDesc} (ho:o.op= .slice t x none (some hi) none) (hx:E.ev x= .hs i 0 n cap)
 (hhi:E.ev hi= .v (.int k' (l:Int))) (ht:P.underlying t=some (.slice e)) (hd:P.underlying e=some d) (hl:l≤cap) (hc:0 < cap):Yields P o E (.hs i 0 l cap):=by
 refine ⟨(by rw [ho];intro c hc;cases hc),fun ρ w X g hk hr=> .inl ?_⟩
 have r1:=hr x (by rw [ho];simp [Op.operands])
 have r3:=hr hi (by rw [ho];simp [Op.operands])
 rw [hx] at r1;rw [hhi] at r3
 have e3:=JV r3
 generalize hu:ρ x=u at r1
 cases r1 with
 | hs _ _ _ _ b hgb=>
   have hN:(Instr.sliceBounds true n cap none (some (.int k' (l:Int))) none).run P w= .ok (0,l,cap) w:=by
    have e5:(0:Int)≤(l:Int):=by omega
    have e6:(l:Int)≤(cap:Int):=by omega
    simp [Instr.sliceBounds,Instr.sliceBound,asIntOf,hl]
   have hcl:¬cap=0:=by omega
   refine ⟨.slice (some ⟨b,0,none⟩) l cap,w, ?_,Evo.refl _ _, .hs _ _ _ _ b hgb⟩
   unfold execOp
   simp only [ho,hu,Option.map_some,e3,Option.map_none]
   refine Jci ?_
   simp [Instr.sliceAt,Sem.run_bind,run_underlying ht,Result.andThen_ok,Instr.slice,hN,JK hd,Sem.run_pure,Jaw,hcl]
theorem Jn4 {o:Oper} {E:Env} {K:Env→Prop} {Kp:AV→Env→Prop} {t e:TypeId} {x hi:Operand} {n l cap:Nat} {i:Id} {k':IntKind} {d:TypeDesc} (ho:o.op= .slice t x none (some hi) none) (hx:E.ev x= .hs i 0 n cap)
 (hhi:E.ev hi= .v (.int k' (l:Int))) (ht:P.underlying t=some (.slice e)) (hd:P.underlying e=some d) (hl:l≤cap) (hc:0 < cap) (hk:K (E.set o.dst (.hs i 0 l cap))):AOp P o E K Kp:=
 AOp.of_yields (Jpz ho hx hhi ht hd hl hc) hk
end Go.Vl

namespace Go.Vl
open Go.RowKit
variable {P:Program}
theorem JlU {w:World} {X:Nat→Nat→Prop} {g:List Nat} {sz:Nat} {f:Nat→AV} {u:Value} (h:Rep w X g (.os sz 0 f none) u):∃ad,u= .slice ad 0 0:=by
 cases h with
 | os0 _ _ ad=> exact ⟨ad,rfl⟩
 | osn _ _ _ b off vs=> exact ⟨_,rfl⟩
theorem Jjy {o:Oper} {E:Env} {K:Env→Prop} {Kp:AV→Env→Prop} {x:Operand} {t e:TypeId} {sz:Nat} {f:Nat→AV} (ho:o.op= .call { callee:= .builtin .cap,args:= #[x],argTypes:= #[t]})
 (hx:E.ev x= .os sz 0 f none) (ht:P.underlying t=some (.slice e)) (hk:K (E.set o.dst (.v (.int .i64 0)))):AOp P o E K Kp:=by
 refine AOp.of_yields (r:= .v (.int .i64 0)) ⟨(by rw [ho];intro c hc;cases hc),fun ρ w X g hk hr=> .inl ?_⟩ hk
 have r1:=hr x (by rw [ho];simp [Op.operands,Call.operands])
 rw [hx] at r1
 obtain ⟨ad,hu⟩:=JlU r1
 refine ⟨.int .i64 0,w, ?_,Evo.refl _ _, .v _⟩
 unfold execOp
 simp only [ho,resolve]
 simp [invoke,builtin,hu,Builtin.cap_,run_underlying ht,goInt]
theorem JuT {o:Oper} {E:Env} {K:Env→Prop} {Kp:AV→Env→Prop} {t e:TypeId} {x hi:Operand} {sz:Nat} {f:Nat→AV} {k':IntKind} {d:TypeDesc} (ho:o.op= .slice t x none (some hi) none) (hx:E.ev x= .os sz 0 f none)
 (hhi:E.ev hi= .v (.int k' 0)) (ht:P.underlying t=some (.slice e)) (hd:P.underlying e=some d) (hk:K (E.set o.dst (.os sz 0 f none))):AOp P o E K Kp:=by
 refine AOp.of_yields (r:= .os sz 0 f none) ⟨(by rw [ho];intro c hc;cases hc),fun ρ w X g hk hr=> .inl ?_⟩ hk
 have r1:=hr x (by rw [ho];simp [Op.operands])
 have r3:=hr hi (by rw [ho];simp [Op.operands])
 rw [hx] at r1;rw [hhi] at r3
 have e3:=JV r3
 obtain ⟨ad,hu⟩:=JlU r1
 have hN:(Instr.sliceBounds true 0 0 none (some (.int k' 0)) none).run P w= .ok (0,0,0) w:=by
  simp [Instr.sliceBounds,Instr.sliceBound,asIntOf]
 cases ad with
 | none=>
   refine ⟨.slice none 0 0,w, ?_,Evo.refl _ _, .os0 _ _ _⟩
   unfold execOp
   simp only [ho,hu,Option.map_some,e3,Option.map_none]
   refine Jci ?_
   simp [Instr.sliceAt,Sem.run_bind,run_underlying ht,Result.andThen_ok,Instr.slice,hN,JK hd,Sem.run_pure,Jaw]
 | some ad=>
   refine ⟨.slice (some ad) 0 0,w, ?_,Evo.refl _ _, .os0 _ _ _⟩
   unfold execOp
   simp only [ho,hu,Option.map_some,e3,Option.map_none]
   refine Jci ?_
   simp [Instr.sliceAt,Sem.run_bind,run_underlying ht,Result.andThen_ok,Instr.slice,hN,JK hd,Sem.run_pure,Jaw]
end Go.Vl

namespace Go.Vl
variable {P:Program}
theorem Jgs {o:Oper} {E:Env} {K:Env→Prop} {Kp:AV→Env→Prop} {fo:Operand} {args:Array Operand} {tys:Array TypeId} {f:FuncId} {first caps xs:List AV} {h1:Heap} {Q:AV→Heap→Prop} {bx1:List (Id×Own)} {pm1:List (Id×Nat)}
 (rb:List (Id×Own)) (rp:List (Id×Nat)) (nn:Nat) (ho:o.op= .call { callee:= .value fo,args:=args,argTypes:=tys}) (hf:E.ev fo= .fn (.func f) first caps) (hbx:E.h.bx=bx1++rb) (hpm:E.h.pm=rp++pm1)
 (hl:LeL (first++args.toList.map E.ev++caps) xs) (hc:ECall P f xs h1 Q) (hbl:BxLe bx1 h1.bx) (hpe:PmEq pm1 h1.pm) (hn:h1.nx=E.h.nx)
 (hk:∀r h',Q r h'→K (({ E with h:=⟨h'.bx++rb,rp++h'.pm,h'.nx,nn⟩}:Env).set o.dst r)):AOp P o E K Kp:=by
 have h2:ECall P f xs ⟨bx1,pm1,h1.nx,h1.nn⟩ Q:=hc.tell hbl hpe rfl
 have h3:=(ECall.frame (h:=E.h) h2 rb rp (by rw [hbx]) (by rw [hpm];exact List.perm_append_comm) hn).args hl
 refine JeQ ho hf h3 fun r h' hq=> ?_
 obtain ⟨h1',q1,rfl⟩:=hq
 exact ⟨r,⟨h1'.bx++rb,rp++h1'.pm,h1'.nx,nn⟩,Rf,⟨.refl _,List.perm_append_comm.map _,rfl⟩,hk r h1' q1⟩
theorem AVle.fn_caps {f:Fn} {cs ds:List AV} (h:LeL cs ds):AVle (.fn f [] cs) (.fn f [] ds):=by
 intro w X g u hr
 cases hr with
 | fn _ _ _ v1 v2 n1 n2 r1 r2=>
   refine .fn _ _ _ v1 v2 n1 (n2.trans h.get.1) r1 ?_
   intro k c u hc hu
   have hk:k < cs.length:=by rw [h.get.1];exact (List.getElem?_eq_some_iff.1 hc).1
   exact h.get.2 k _ c (List.getElem?_eq_getElem hk) hc w X g u (r2 k _ u (List.getElem?_eq_getElem hk) hu)
theorem Jh4 {ops:Array Oper} {o:Oper} {E E':Env} {j:Nat} {want:Bool} {x:Option Bool} (hg:o.guard=some (j,want)) (ht:∀k,k∈o.looksAt ops→E'.t k=E.t k) (h:agb (agd ops E j)=some x):agb (agd ops E' j)=some x:=by
 unfold agd at h⊢
 cases hd:(ops[j]?).bind (·.dst) with
 | none=> simp [hd,agb] at h
 | some d=> simp only [hd] at h⊢;rw [ht d (Jfj hg hd)];exact h
theorem JX {ops:Array Oper} {B:List (Id×Own)} {o:Oper} {E:Env} {j:Nat} {want c:Bool} (hg:o.guard=some (j,want)) (hd:agb (agd ops E j)=some (some c)) (hc:(c ==want)=false):PureAll P ops B o E (.v undef):=fun E' _ ht=> by
 unfold GY
 simp only [hg]
 exact ⟨some c,Jh4 hg ht hd, .inr ⟨(fun h=> by rw [Option.some.inj h,beq_self_eq_true] at hc;cases hc),trivial⟩⟩
theorem JJ {ops:Array Oper} {B:List (Id×Own)} {o:Oper} {E:Env} {j:Nat} {want c:Bool} {C:Option Prop} {r:AV} (hg:o.guard=some (j,want)) (hd:agb (agd ops E j)=some (some c)) (hc:(c ==want)=true)
 (hp:Jbj P o.op { E with h:=⟨B, [],0,0⟩}=some (C,r)) (hC:Jas C):PureAll P ops B o E r:=fun E' hb ht=> by
 unfold GY
 simp only [hg]
 exact ⟨some c,Jh4 hg ht hd, .inl ⟨by rw [beq_iff_eq.1 hc],JbW (Jew (E:= { E with h:=⟨B, [],0,0⟩}) (E':=E') hb (Jb6 (E:= { E with h:=⟨B, [],0,0⟩}) ht) hp) hC⟩⟩
end Go.Vl

namespace Go.Vl
open Go.RowKit
variable {P:Program}
section
variable {α:Type} [Inhabited α]
def Jax (E:α→List AV) (d:Array α) (tl:List AV):List AV:=d.toList.flatMap E++tl
omit [Inhabited α] in
theorem Jdt {E:α→List AV} {k:Nat} (hk:∀x,(E x).length=k):∀l:List α,(l.flatMap E).length=l.length * k
 | []=> by simp
 | x::l=> by rw [List.flatMap_cons,List.length_append,hk,Jdt hk l,List.length_cons,Nat.succ_mul];omega
omit [Inhabited α] in
theorem Jhj {E:α→List AV} {k:Nat} (hk:∀x,(E x).length=k) {d:Array α} {tl:List AV}:(Jax E d tl).length=d.size * k+tl.length:=by
 unfold Jax;rw [List.length_append,Jdt hk];simp
omit [Inhabited α] in
theorem JlV {E:α→List AV} {k:Nat} (hk:∀x,(E x).length=k) {tl:List AV}:∀(l:List α) (i:Nat) (h:i < l.length),((l.flatMap E++tl).drop (i * k)).take k=E l[i]
 | [],i,h=> by cases h
 | x::l,0,_=> by
   rw [List.flatMap_cons,List.append_assoc,Nat.zero_mul,List.drop_zero,List.take_append_of_le_length (by rw [hk];exact Nat.le_refl _),List.take_of_length_le (by rw [hk];exact Nat.le_refl _)];rfl
 | x::l,i+1,h=> by
   have e:(E x++(l.flatMap E++tl)).drop ((i+1) * k)=(l.flatMap E++tl).drop (i * k):=by
    rw [List.drop_append,List.drop_of_length_le (by rw [hk,Nat.succ_mul];omega),hk,Nat.succ_mul,Nat.add_sub_cancel];rfl
   rw [List.flatMap_cons,List.append_assoc,e]
   exact JlV hk l i (by simpa using h)
theorem Jn5 {E:α→List AV} {k:Nat} (hk:∀x,(E x).length=k) {d:Array α} {tl:List AV} {i:Nat} (hi:i < d.size):((Jax E d tl).drop (i * k)).take k=E d[i]! :=by
 unfold Jax
 rw [JlV hk d.toList i (by simpa using hi)]
 simp [hi]
omit [Inhabited α] in
theorem JfE {a b vs:List AV} {off:Nat}:Jat (a++b) (a.length+off) vs=a++Jat b off vs:=by
 rw [JaQ,JaQ,List.take_append,List.drop_append]
 have h1:a.take (a.length+off)=a:=List.take_of_length_le Om
 have h2:a.drop (a.length+off+vs.length)= []:=List.drop_of_length_le Om
 rw [h1,h2,show a.length+off - a.length=off by omega,show a.length+off+vs.length - a.length=off+vs.length by omega]
 simp
omit [Inhabited α] in
theorem Jh5 {a b vs:List AV} (h:a.length=vs.length):Jat (a++b) 0 vs=vs++b:=by
 rw [JaQ,Nat.zero_add,← h,List.drop_left']
 ·simp
 ·rfl
omit [Inhabited α] in
theorem JlW {E:α→List AV} {k:Nat} (hk:∀x,(E x).length=k) {tl:List AV} {x:α}:∀(l:List α) (i:Nat),i < l.length→Jat (l.flatMap E++tl) (i * k) (E x)=(l.set i x).flatMap E++tl
 | [],i,h=> by cases h
 | y::l,0,_=> by
   rw [List.flatMap_cons,List.append_assoc,Nat.zero_mul,Jh5 (by rw [hk,hk])];simp [List.flatMap_cons]
 | y::l,i+1,h=> by
   rw [List.flatMap_cons,List.append_assoc,Nat.succ_mul,Nat.add_comm,show k+i * k=(E y).length+i * k by rw [hk],JfE,JlW hk l i (by simpa using h)]
   simp [List.flatMap_cons]
omit [Inhabited α] in
theorem Jn6 {E:α→List AV} {k:Nat} (hk:∀x,(E x).length=k) {d:Array α} {tl:List AV} {i:Nat} {x:α} (hi:i < d.size):Jat (Jax E d tl) (i * k) (E x)=Jax E (d.setIfInBounds i x) tl:=by
 unfold Jax
 rw [JlW hk _ _ (by simpa using hi)]
 simp
omit [Inhabited α] in
theorem Jlf {E:α→List AV} {k:Nat} (hk:∀x,(E x).length=k) {d:Array α} {tl:List AV} {i:Nat} (hi:i < d.size):i * k+k≤(Jax E d tl).length:=by
 rw [Jhj hk,← Nat.succ_mul]
 exact Nat.le_trans (Nat.mul_le_mul_right k hi) (Nat.le_add_right _ _)
theorem Jhk {x:Int} {i c k:Nat} (hc:c=k) (h:x=(i:Int)):0+x.toNat * c=i * k:=by subst hc;subst h;simp
theorem Jhl {E:α→List AV} {k:Nat} (hk:∀x,(E x).length=k) {h:Heap} {t:TypeId} {nm s off j:Nat} {d:Array α} {tl:List AV} (hcs:JbH nm h.bx=some (s,Jax E d tl)) (ht:(P.underlying t).map agD=some true) (hn:P.cellsOf t=k) (hoff:off=j * k) (hj:j < d.size):
 JdE P t h (.bp (nm,s) off)=some (some (s=s), .ag (E d[j]!)):=by
 subst hoff
 obtain ⟨td,ht,ha⟩:=Option.map_eq_some_iff.1 ht
 have hl:Nat.ble (0+k) ((Jax E d tl).drop (j * k)).length=true:=Nat.ble_eq_true_of_le (by rw [List.length_drop];have:=Jlf (tl:=tl) hk hj;omega)
 unfold JdE
 simp only [hcs,ht,ha,cond_true,apart,hn,hl,List.drop_zero,Jn5 hk hj,Option.map_some]
theorem JdI {E:α→List AV} {k:Nat} (hk:∀x,(E x).length=k) {o:Op} {e:Env} {t:TypeId} {p:Operand} {nm s off j:Nat} {d:Array α} {tl:List AV} (ho:o= .load t p) (hp:e.ev p= .bp (nm,s) off) (hoff:off=j * k)
 (hcs:JbH nm e.h.bx=some (s,Jax E d tl)) (ht:(P.underlying t).map agD=some true) (hn:P.cellsOf t=k) (hj:j < d.size):Jbj P o e=some (some (s=s), .ag (E d[j]!)):=by
 rw [ho]
 show JdE P t e.h (e.ev p)=_
 rw [hp]
 exact Jhl hk hcs ht hn hoff hj
theorem JpA {E:α→List AV} {k:Nat} (hk:∀x,(E x).length=k) {o:Oper} {e:Env} {t:TypeId} {p:Operand} {nm s off j:Nat} {d:Array α} {tl:List AV} (ho:o.op= .load t p) (hp:e.ev p= .bp (nm,s) off) (hoff:off=j * k)
 (hcs:JbH nm e.h.bx=some (s,Jax E d tl)) (ht:(P.underlying t).map agD=some true) (hn:P.cellsOf t=k) (hj:j < d.size):Yields P o e (.ag (E d[j]!)):=by
 refine JbW (C:=some (s=s)) ?_ rfl
 rw [ho]
 show JdE P t e.h (e.ev p)=_
 rw [hp]
 exact Jhl hk hcs ht hn hoff hj
theorem Jn7 {E:α→List AV} {k:Nat} (hk:∀x,(E x).length=k) {ops:Array Oper} {o:Oper} {e:Env} {t:TypeId} {p:Operand} {nm s off j:Nat} {d:Array α} {tl:List AV} (hg:o.guard=none) (ho:o.op= .load t p) (hp:e.ev p= .bp (nm,s) off) (hoff:off=j * k)
 (hcs:JbH nm e.h.bx=some (s,Jax E d tl)) (ht:(P.underlying t).map agD=some true) (hn:P.cellsOf t=k) (hj:j < d.size):PureNow P ops o e (.ag (E d[j]!)):=by
 refine JsZ hg (C:=some (s=s)) ?_ rfl
 rw [ho]
 show JdE P t e.h (e.ev p)=_
 rw [hp]
 exact Jhl hk hcs ht hn hoff hj
omit [Inhabited α] in
theorem Jn8 {E:α→List AV} {k:Nat} (hk:∀x,(E x).length=k) {ops:Array Oper} {o:Oper} {e:Env} {t:TypeId} {p x:Operand} {nm s off j:Nat} {d:Array α} {tl:List AV} {z:α} (hg:o.guard=none) (ho:o.op= .store t p x) (hd:o.dst=none) (hp:e.ev p= .bp (nm,s) off) (hoff:off=j * k)
 (hx:e.ev x= .ag (E z)) (h1:(E z).all Jcc=true) (h2:JcF (.ag (E z))=true) (hcs:JbH nm e.h.bx=some (s,Jax E d tl)) (ht:(P.underlying t).isSome=true) (hn:P.cellsOf t=k) (hj:j < d.size):
 Eff P ops [] o e fun _ h'=> h'= { e.h with bx:=Jet nm (Jax E (d.setIfInBounds j z) tl) e.h.bx}:=by
 subst hoff
 have hcl:(AV.ag (E z)).cells=E z:=rfl
 have q:=JlS (P:=P) (ops:=ops) (B:= []) (E:=e) (cs:=Jax E d tl) (i:=(nm,s)) hg ho hd hp hcs (by rw [hx];exact h2) (by rw [hx,hcl];exact h1) ht (by rw [hx,hcl,hk,hn];exact Nat.beq_refl _) (by rw [hx,hcl,hk];exact Jlf hk hj) (fun _ _ _ h=> by cases h)
 rw [hx,hcl,Jn6 hk hj] at q
 exact q
omit [Inhabited α] in
theorem Jra {E:α→List AV} {k:Nat} (hk:∀x,(E x).length=k) {o:Oper} {e:Env} {K:Env→Prop} {Kp:AV→Env→Prop} {t:TypeId} {p x:Operand} {nm s off j:Nat} {d:Array α} {tl:List AV} {z:α} (ho:o.op= .store t p x) (hd:o.dst=none) (hp:e.ev p= .bp (nm,s) off) (hoff:off=j * k)
 (hx:e.ev x= .ag (E z)) (h1:(E z).all Jcc=true) (h2:JcF (.ag (E z))=true) (hcs:JbH nm e.h.bx=some (s,Jax E d tl)) (ht:(P.underlying t).isSome=true) (hn:P.cellsOf t=k) (hj:j < d.size)
 (hK:K { e with h:= { e.h with bx:=Jet nm (Jax E (d.setIfInBounds j z) tl) e.h.bx}}):AOp P o e K Kp:=by
 subst hoff
 have hcl:(AV.ag (E z)).cells=E z:=rfl
 refine AOp.any (JhT ho hp hcs (by rw [hx];exact h2) (by rw [hx,hcl];exact h1) ht (by rw [hx,hcl,hk,hn];exact Nat.beq_refl _) (by rw [hx,hcl,hk];exact Jlf hk hj) ?_)
 rw [hx,hcl,Jn6 hk hj,hd]
 exact hK
end
theorem Jh6 {o:Oper} {E:Env} {t e:TypeId} {x lo:Operand} {n l cap:Nat} {i:Id} {k':IntKind} {d:TypeDesc} (ho:o.op= .slice t x (some lo) none none) (hx:E.ev x= .hs i 0 n cap)
 (hlo:E.ev lo= .v (.int k' (l:Int))) (ht:P.underlying t=some (.slice e)) (hd:P.underlying e=some d) (hl:l≤n) (hn:n≤cap) (hc:l < cap):Yields P o E (.hs i (l * P.cellsOf e) (n - l) (cap - l)):=by
 refine ⟨(by rw [ho];intro c hc;cases hc),fun ρ w X g hk hr=> .inl ?_⟩
 have r1:=hr x (by rw [ho];simp [Op.operands])
 have r3:=hr lo (by rw [ho];simp [Op.operands])
 rw [hx] at r1;rw [hlo] at r3
 have e3:=JV r3
 generalize hu:ρ x=u at r1
 cases r1 with
 | hs _ _ _ _ b hgb=>
   have hN:(Instr.sliceBounds true n cap (some (.int k' (l:Int))) none none).run P w= .ok (l,n,cap) w:=by
    have e5:(0:Int)≤(l:Int):=by omega
    have e6:(l:Int)≤(n:Int):=by omega
    simp [Instr.sliceBounds,Instr.sliceBound,asIntOf,hl,hn]
   have hcl:¬cap=l:=by omega
   refine ⟨.slice (some ⟨b,l * P.cellsOf e,none⟩) (n - l) (cap - l),w, ?_,Evo.refl _ _, .hs _ _ _ _ b hgb⟩
   unfold execOp
   simp only [ho,hu,Option.map_some,e3,Option.map_none]
   refine Jci ?_
   simp [Instr.sliceAt,Sem.run_bind,run_underlying ht,Result.andThen_ok,Instr.slice,hN,JK hd,Sem.run_pure,Jaw,hcl]
theorem Jrb {o:Oper} {E:Env} {K:Env→Prop} {Kp:AV→Env→Prop} {s:Operand} {t e:TypeId} {i:Id} {off n cap:Nat} {cs:List AV} {z:Value}
 (ho:o.op= .call { callee:= .builtin .clear,args:= #[s],argTypes:= #[t]}) (hd:o.dst=none) (hs:E.ev s= .hs i off n cap) (hn:n≠0)
 (ht:P.underlying t=some (.slice e)) (hz:(P.info? e).bind (·.zero)=some z) (hsz:z.cells.size=P.cellsOf e) (h1:z.cells.all (·.oneCell')=true)
 (hcs:JbH i.1 E.h.bx=some (i.2,cs)) (hle:off+n * P.cellsOf e≤cs.length)
 (hk:K { E with h:= { E.h with bx:=Jet i.1 (Jat cs off (List.replicate (n * P.cellsOf e) .any)) E.h.bx}}):AOp P o E K Kp:=by
 intro ro X M w0 a w g hst next Q hn' hpan
 have hmem:=JfZ hcs
 obtain ⟨b,hg,vs,e',hb,hvs,hr⟩:=hst.hok.bx _ hmem
 dsimp only at hg hvs hr
 have hsv:a.eval s= .slice (some ⟨b,off,none⟩) n cap:=by
  have:=hst.ev s
  rw [hs] at this
  generalize a.eval s=u at this
  cases this with
  | hs _ _ _ _ b' hg'=> rw [hg] at hg';cases hg';rfl
 have hnl:(Builtin.zeroCells z.cells n).toList.length=n * P.cellsOf e:=by rw [Array.length_toList,size_zeroCells,hsz]
 have hone:∀v∈(Builtin.zeroCells z.cells n).toList,v.oneCell'=true:=by
  intro v hv
  rw [Builtin.zeroCells,Array.toList_map,List.mem_map] at hv
  obtain ⟨j,hj,rfl⟩:=hv
  have hpos:0 < z.cells.size:=by
   rcases Nat.eq_zero_or_pos z.cells.size with h0 | h0
   ·rw [h0] at hj;simp at hj
   ·exact h0
  have hm:=Nat.mod_lt j hpos
  have e2:z.cells[j % z.cells.size]! =z.cells[j % z.cells.size]:=by simp [hm]
  rw [e2]
  exact Array.all_eq_true.1 h1 _ hm
 have hst2:=run_storeCells_at P b off e' (Builtin.zeroCells z.cells n).toList 0 vs w hb (by rw [hnl,Nat.add_zero];simpa [hvs] using hle) hone
 simp only [Nat.add_zero] at hst2
 obtain ⟨m,rfl⟩:∃m,n=m+1:=⟨n - 1,by omega⟩
 have hrun:(execOp a.eval o).run P w= .ok (.value (.tuple #[])) (w.setRow b (vs.toList.take off++(Builtin.zeroCells z.cells (m+1)).toList++vs.toList.drop (off+(Builtin.zeroCells z.cells (m+1)).toList.length)).toArray):=by
  have hcl:(Builtin.clear_ #[t] o.type #[.slice (some ⟨b,off,none⟩) (m+1) cap]).run P w= .ok (.tuple #[]) (w.setRow b (vs.toList.take off++(Builtin.zeroCells z.cells (m+1)).toList++vs.toList.drop (off+(Builtin.zeroCells z.cells (m+1)).toList.length)).toArray):=by
   simp only [Builtin.clear_]
   simp [run_underlying ht,Jbo hz,hst2]
  unfold execOp
  simp only [ho,resolve]
  simp [invoke,builtin,hsv,hcl]
 have hnew:=hst.setRow (cs:=Jat cs off (List.replicate ((m+1) * P.cellsOf e) .any)) (vs:=(vs.toList.take off++(Builtin.zeroCells z.cells (m+1)).toList++vs.toList.drop (off+(Builtin.zeroCells z.cells (m+1)).toList.length)).toArray) hcs hg hb
  (by simp only [JaQ,List.length_append,List.length_take,List.length_drop,List.length_replicate,hnl];simp only [Array.length_toList];omega)
  (by simp only [List.size_toArray,List.length_append,List.length_take,List.length_drop,hnl];simp only [Array.length_toList];omega)
  (fun k c u hk1 hk2=> by
    simp only [List.append_assoc] at hk2
    rw [JcG _ _ _ (by rw [hnl];simpa [hvs] using hle)] at hk2
    rw [JaQ,JcG _ _ _ (by rw [List.length_replicate];exact hle)] at hk1
    rw [hnl] at hk2
    rw [List.length_replicate] at hk1
    split at hk1
    ·rename_i h2;rw [if_pos h2] at hk2;exact hr k c u hk1 (by simpa using hk2)
    ·rename_i h2
     rw [if_neg h2] at hk2
     split at hk1
     ·rw [(List.mem_replicate.1 (List.mem_of_getElem? hk1)).2];exact .any _
     ·rename_i h3;rw [if_neg h3] at hk2;exact hr k c u hk1 (by simpa using hk2))
 refine JT (by rw [ho];intro c h;cases h) ?_
 rw [hrun]
 refine hn' _ _ _ g ?_ (fun _ _ h=> h) (hnew.put o.dst (.v (.tuple #[])))
 rw [hd]
 exact hk
end Go.Vl

namespace Go.Vl
open Go.RowKit
variable {P:Program}
theorem Jr {E:Env} {n:Nat} {bx:List (Id×Own)} {pm:List (Id×Nat)} {nx nn:Nat} {L:List (Nat×AV)} (bx'' bx':List (Id×Own)) (pm':List (Id×Nat)) (hn:E.n=n) (hx:E.h.nx=nx) (h0:bx''.Perm E.h.bx) (hb:bx'.Sublist bx'') (hp:pm'.Sublist E.h.pm)
 (eb:BxLe bx' bx) (ep:PmEq pm' pm) (hL:LeT E.t L):ELe E (mk n L ⟨bx,pm,nx,nn⟩ E.df):=
 (Jf2 (E:=E) (h':=⟨bx'',E.h.pm,E.h.nx,E.h.nn⟩) ⟨h0.map _, .refl _,rfl⟩).trans (Jk (E:= { E with h:=⟨bx'',E.h.pm,E.h.nx,E.h.nn⟩}) bx' pm' hn hx hb hp eb ep hL)
variable {α:Type}
theorem JlX {E:α→List AV} {k:Nat} (hk:∀x,(E x).length=k) {l:List α} {tl:List AV} {x:α} (h:k≤tl.length):Jat (Jax E l.toArray tl) (l.length * k) (E x)=Jax E (l++ [x]).toArray (tl.drop k):=by
 unfold Jax
 have e1:l.length * k=(l.flatMap E).length:=(Jdt hk l).symm
 show Jat (l.flatMap E++tl) (l.length * k) (E x)=(l++ [x]).flatMap E++tl.drop k
 rw [e1]
 have:=JfE (a:=l.flatMap E) (b:=tl) (off:=0) (vs:=E x)
 rw [Nat.add_zero] at this
 rw [this,JaQ,Nat.zero_add,hk]
 simp
theorem JlY {E:α→List AV} {k:Nat} (hk:∀x,(E x).length=k) {l:List α} {tl:List AV}:(Jax E l.toArray tl).take (l.length * k)=l.flatMap E:=by
 unfold Jax
 show (l.flatMap E++tl).take (l.length * k)=_
 rw [← Jdt hk l,List.take_left]
theorem Jn9 {E:α→List AV} {l:List α} {x:α} {tl:List AV}:l.flatMap E++E x++tl=Jax E (l++ [x]).toArray tl:=by
 unfold Jax
 simp [List.flatMap_append]
theorem Jhm [Inhabited α] {bs:List (Nat×Own)} {i:Id} {n cap k:Nat} {E:α→List AV} (hk:∀x,(E x).length=k) {e:α→AV} (he:∀x,(e x).cells=E x) {d:α} {l:List α} {tl:List AV} (hn:l.length=n) (hm:(i.2, .c (Jax E l.toArray tl))∈bs) (hcap:n≤cap):
 Frz bs (.hs i 0 n cap) (JN k e d l):=by
 subst hn
 have hle:l.length * k≤(Jax E l.toArray tl).length:=by rw [Jhj hk];simp
 refine Frz.hs hm hcap (.inr (by rw [Nat.zero_add];exact hle)) (fun j _=> by rw [he,hk]) (fun j hj q c hc=> ⟨c, ?_,Rf⟩) (by rw [Nat.zero_add];exact hle)
 rw [he] at hc
 have hq:q < k:=by have:=(List.getElem?_eq_some_iff.1 hc).1;rwa [hk] at this
 have hg:=Jn5 (E:=E) (tl:=tl) hk (d:=l.toArray) (i:=j) (by simpa using hj)
 have hx:(l.toArray)[j]! =l.getD j d:=by simp [List.getD,hj]
 rw [hx] at hg
 rw [← hg,List.getElem?_take,if_pos hq,List.getElem?_drop] at hc
 rw [Nat.zero_add]
 exact hc
end Go.Vl

namespace Go.Vl
open Go.RowKit
variable {P:Program}
def JbP (x:Int×Int):Value:= .agg #[.int .i64 x.1, .int .i64 x.2]
def kA (x:Int×Int):AV:= .ag [.v (.int .i64 x.1), .v (.int .i64 x.2)]
def Jaf (x:Int×Int):Value×AV:=(JbP x, .v (.bool true))
theorem Js1 {w:World} {X:Nat→Nat→Prop} {g:List Nat} {x:Int×Int} {u:Value} (h:Rep w X g (kA x) u):u=JbP x:=by
 cases h with
 | ag _ vs hn h=>
   match vs,hn with
   | [a,b],_=>
     have h0:=JV (h 0 _ a rfl rfl)
     have h1:=JV (h 1 _ b rfl rfl)
     subst h0 h1;rfl
theorem Js2 {w:World} {X:Nat→Nat→Prop} {g:List Nat} {x:Int×Int}:Rep w X g (kA x) (JbP x):=
 .ag [_,_] [_,_] rfl fun k c u hc hu=> by
  match k,hc,hu with
  | 0,hc,hu=> simp at hc hu;subst hc;subst hu;exact .v _
  | 1,hc,hu=> simp at hc hu;subst hc;subst hu;exact .v _
structure PairT (P:Program) (kt e:TypeId):Prop where
 arr:P.underlying kt=some (.array 2 e)
 el:P.underlying e=some (.int .i64)
 sz:P.cellsOf e=1
 ok:aeqOk P 8 kt=true
 p0:∀a:Int×Int,apart P e [.v (.int .i64 a.1), .v (.int .i64 a.2)] 0=some (.v (.int .i64 a.1))
 p1:∀a:Int×Int,apart P e [.v (.int .i64 a.1), .v (.int .i64 a.2)] 1=some (.v (.int .i64 a.2))
 eq:∀a b:Int×Int,aeq P 8 kt (kA a) (kA b)=some (a.1 ==b.1&& (a.2 ==b.2&& true))
theorem JuU (a b:Int×Int):(a.1 ==b.1&& (a.2 ==b.2&& true))=decide (a=b):=by
 rw [Bool.eq_iff_iff]
 simp [Prod.ext_iff]
theorem PairT.equal {kt e:TypeId} (h:PairT P kt e) (a b:Int×Int) (w:World):(Op.equal kt (JbP a) (JbP b)).run P w= .ok (decide (a=b)) w:=by
 rw [← JuU]
 exact Jgq 8 10000 kt (kA a) (kA b) _ _ _ w (fun _ _=> False) [] Om (h.eq a b) h.ok Js2 Js2
theorem PairT.checkI {kt e:TypeId} (h:PairT P kt e) (a:Int) (b:Bool) (n:Nat) (w:World):(Instr.checkKey b (n+1) e (.int .i64 a)).run P w= .ok () w:=by
 unfold Instr.checkKey
 simp only [Sem.run_bind,run_underlying h.el,Result.andThen_ok,Sem.run_pure]
theorem PairT.check {kt e:TypeId} (h:PairT P kt e) (a:Int×Int) (b:Bool) (w:World):(Instr.checkKey b 10000 kt (JbP a)).run P w= .ok () w:=by
 have hsz:=JK (w:=w) h.el
 rw [h.sz] at hsz
 have hr:∀(k:Nat) (c:AV) (u:Value), [AV.v (.int .i64 a.1), .v (.int .i64 a.2)][k]? =some c→ [Value.int .i64 a.1, .int .i64 a.2][k]? =some u→Rep w (fun _ _=> False) [] c u:=fun k c u hc hu=> by
  match k,hc,hu with
  | 0,hc,hu=> simp at hc hu;subst hc;subst hu;exact .v _
  | 1,hc,hu=> simp at hc hu;subst hc;subst hu;exact .v _
 obtain ⟨u0,q0,r0⟩:=Jcg (vs:= [Value.int .i64 a.1, .int .i64 a.2]) (h.p0 a) rfl hr
 obtain ⟨u1,q1,r1⟩:=Jcg (vs:= [Value.int .i64 a.1, .int .i64 a.2]) (h.p1 a) rfl hr
 have:=JV r0;subst this
 have:=JV r1;subst this
 obtain ⟨n,hn⟩:∃n,10000=n+1+1:=⟨9998,rfl⟩
 rw [hn]
 unfold JbP Instr.checkKey
 simp only [Sem.run_bind,run_underlying h.arr,Result.andThen_ok]
 simp only [Std.Legacy.Range.forIn_eq_forIn_range',Std.Legacy.Range.size,Nat.sub_zero,Nat.add_sub_cancel,Nat.div_one,List.range'_succ,List.range'_zero,List.forIn_cons,List.forIn_nil]
 simp [Sem.run_bind,hsz,q0,q1,h.checkI]
theorem PairT.ask {kt e:TypeId} (h:PairT P kt e) (x:Int×Int) (w:World):∀(es:List (Int×Int)) (ents:List MapEntry) (i:Nat),ents.length=es.length→(∀(k:Nat) (p:Int×Int) (en:MapEntry),es[k]? =some p→ents[k]? =some en→en.key=JbP p)→
 (x∉es∧(Instr.findAsking kt (JbP x) ents i).run P w= .ok none w)∨∃j en,ents[j]? =some en∧es[j]? =some x∧(Instr.findAsking kt (JbP x) ents i).run P w= .ok (some (i+j,en.val)) w
 | [], [],i,_,_=> .inl ⟨by simp,by simp [Instr.findAsking]⟩
 | [],en::ents,i,hn,_=> by simp at hn
 | p::es, [],i,hn,_=> by simp at hn
 | p::es,en::ents,i,hn,hk=> by
   have h0:=hk 0 p en rfl rfl
   unfold Instr.findAsking
   rw [h0]
   simp only [Sem.run_bind,h.equal,Result.andThen_ok]
   by_cases hx:x=p
   ·refine .inr ⟨0,en,rfl,by simp [hx], ?_⟩
    simp [hx]
   ·rcases h.ask x w es ents (i+1) (by simpa using hn) (fun k p' e' h1 h2=> hk (k+1) p' e' (by simpa using h1) (by simpa using h2)) with ⟨h1,h2⟩ | ⟨j,e',h1,h2,h3⟩
    ·refine .inl ⟨by simp [hx,h1], ?_⟩
     simp [hx,h2]
    ·refine .inr ⟨j+1,e',by simpa using h1,by simpa using h2, ?_⟩
     simp [hx,h3];omega
theorem PairT.find {kt e:TypeId} (h:PairT P kt e) (x:Int×Int) (w:World) (es:List (Int×Int)) (ents:List MapEntry) (hn:ents.length=es.length) (hk:∀(k:Nat) (p:Int×Int) (en:MapEntry),es[k]? =some p→ents[k]? =some en→en.key=JbP p):
 (x∉es∧(Instr.findKey kt (JbP x) ents).run P w= .ok none w)∨∃j en,ents[j]? =some en∧es[j]? =some x∧(Instr.findKey kt (JbP x) ents).run P w= .ok (some (j,en.val)) w:=by
 unfold Instr.findKey
 match es,ents,hn,hk with
 | [], [],_,_=> exact .inl ⟨by simp,by simp [Sem.run_bind,run_underlying h.arr,Instr.findNow]⟩
 | p::es,en::ents,hn,hk=>
   have e0:Instr.findNow (.array 2 e) (JbP x) (en::ents) 0=none:=by simp [Instr.findNow,Instr.sameNow]
   rcases h.ask x w (p::es) (en::ents) 0 hn hk with ⟨h1,h2⟩ | ⟨j,e',h1,h2,h3⟩
   ·exact .inl ⟨h1,by simp only [Sem.run_bind,run_underlying h.arr,Result.andThen_ok,e0,h2]⟩
   ·refine .inr ⟨j,e',h1,h2, ?_⟩
    simp only [Sem.run_bind,run_underlying h.arr,Result.andThen_ok,e0,h3,Nat.zero_add]
theorem JpB {o:Oper} {t kt e et:TypeId} {m k:Operand} {x:Int×Int} {i:Id} {es:List (Int×Int)} {E:Env} {K:Env→Prop} {Kp:AV→Env→Prop} (ho:o.op= .lookup t m k false) (ht:P.underlying t=some (.map kt et)) (hp:PairT P kt e)
 (hz:(P.info? et).bind (·.zero)=some (.bool false)) (hm:E.ev m= .om i) (hkv:E.ev k=kA x) (hes:Jay i.1 E.h.bx=some (i.2, .mp (es.map Jaf))) (hK:K (E.set o.dst (.v (.bool (decide (x∈es)))))):AOp P o E K Kp:=by
 refine AOp.of_yields (r:= .v (.bool (decide (x∈es)))) ⟨(by rw [ho];intro c hc;cases hc),fun ρ w X g hk hr=> .inl ?_⟩ hK
 have r1:=hr m (by rw [ho];simp [Op.operands])
 have r2:=hr k (by rw [ho];simp [Op.operands])
 rw [hm] at r1;rw [hkv] at r2
 have e2:=Js1 r2
 obtain ⟨b,hgb,hown⟩:=hk.bx _ (JaM hes)
 dsimp only at hgb hown
 obtain ⟨ents,h1,h2,h3⟩:=hown
 have hmv:ρ m= .map (some b):=by
  generalize ρ m=u at r1
  cases r1 with
  | om _ b' hg'=> rw [hgb] at hg';cases hg';rfl
 rw [List.length_map] at h2
 have hkk:∀(k:Nat) (p:Int×Int) (en:MapEntry),es[k]? =some p→ents[k]? =some en→en.key=JbP p:=fun k p en q1 q2=> (h3 k (Jaf p) en (by simp [q1]) q2).1
 have hg:=Jch (P:=P) h1
 refine ⟨.bool (decide (x∈es)),w, ?_,Evo.refl _ _, .v _⟩
 unfold execOp
 simp only [ho,hmv,e2]
 refine Jci ?_
 unfold Instr.lookup
 simp only [Sem.run_bind,run_underlying ht,Result.andThen_ok,hg,Sem.run_pure,hp.check]
 rcases hp.find x w es ents h2 hkk with ⟨hn,hf⟩ | ⟨j,en,q1,q2,hf⟩
 ·have hzz:=Jbo (w:=w) hz
  simp only [hf,Result.andThen_ok,Sem.run_pure]
  simp [hn,Sem.run_bind,hzz]
 ·have hv:=JV (h3 j (Jaf x) en (by simp [q2]) q1).2.2
  simp only [hf,Result.andThen_ok,Sem.run_pure]
  simp [hv,List.mem_of_getElem? q2]
def JcW (x:Int×Int) (es:List (Int×Int)):List (Int×Int):=if x∈es then es else es++ [x]
theorem Jlg {t kt e et:TypeId} {x:Int×Int} {es:List (Int×Int)} {w:World} {X:Nat→Nat→Prop} {g:List Nat} {b:Nat} (ht:P.underlying t=some (.map kt et)) (hp:PairT P kt e) (hb:OwnRep w X g b (.mp (es.map Jaf))):
 ∃ents':List MapEntry,(Instr.mapUpdate t (.map (some b)) (JbP x) (.bool true)).run P w= .ok () (World.setO w b (.map ents'.toArray ents'.length))∧ents'.length=((JcW x es).map Jaf).length∧
  ∀(k:Nat) (p:Value×AV) (en:MapEntry),((JcW x es).map Jaf)[k]? =some p→ents'[k]? =some en→en.key=p.1∧en.born=k∧Rep w X g p.2 en.val:=by
 obtain ⟨ents,h1,h2,h3⟩:=hb
 rw [List.length_map] at h2
 have hkk:∀(k:Nat) (p:Int×Int) (en:MapEntry),es[k]? =some p→ents[k]? =some en→en.key=JbP p:=fun k p en q1 q2=> (h3 k (Jaf p) en (by simp [q1]) q2).1
 have hg:=Jch (P:=P) h1
 rcases hp.find x w es ents h2 hkk with ⟨hn,hf⟩ | ⟨j,e0,q1,q2,hf⟩
 ·refine ⟨ents++ [⟨JbP x, .bool true,ents.length⟩], ?_,by unfold JcW;rw [if_neg hn];simp [h2],fun k p en r1 r2=> ?_⟩
  ·unfold Instr.mapUpdate
   simp only [Sem.run_bind,run_underlying ht,Result.andThen_ok,hg,hp.check,hf]
   rw [JbV h1]
   simp
  ·unfold JcW at r1
   rw [if_neg hn,List.map_append] at r1
   rcases Nat.lt_or_ge k es.length with hlt | hge
   ·rw [List.getElem?_append_left (by simpa using hlt)] at r1
    rw [List.getElem?_append_left Om] at r2
    exact h3 k p en r1 r2
   ·rw [List.getElem?_append_right (by simpa using hge)] at r1
    rw [List.getElem?_append_right Om] at r2
    have:k=es.length:=by
     have:=(List.getElem?_eq_some_iff.1 r1).1;simp at this;omega
    subst this
    rw [List.length_map,Nat.sub_self] at r1
    rw [h2,Nat.sub_self] at r2
    simp at r1 r2
    subst r1;subst r2
    exact ⟨rfl,rfl, .v _⟩
 ·have hj:j < ents.length:=(List.getElem?_eq_some_iff.1 q1).1
  have hje:ents[j]=e0:=(List.getElem?_eq_some_iff.1 q1).2
  have h0:=h3 j (Jaf x) e0 (by simp [q2]) q1
  have hv:=JV h0.2.2
  have hkey:e0.key=JbP x:=h0.1
  have hmem:x∈es:=List.mem_of_getElem? q2
  refine ⟨ents.set j ⟨JbP x, .bool true,e0.born⟩, ?_,by unfold JcW;rw [if_pos hmem];simp [h2],fun k p en r1 r2=> ?_⟩
  ·unfold Instr.mapUpdate
   simp only [Sem.run_bind,run_underlying ht,Result.andThen_ok,hg,hp.check,hf]
   have hks:(Instr.keyThatStays (((ents.toArray[j]?).map (·.key)).getD (JbP x)) (JbP x)).run P w= .ok (JbP x) w:=by
    have hsb:Instr.sameBits 10000 (JbP x) (JbP x)=true:=by
     obtain ⟨n,hn⟩:∃n,10000=n+1:=⟨9999,rfl⟩
     rw [hn];simp [JbP,Instr.sameBits]
    simp [q1,hkey,Instr.keyThatStays,hsb]
   simp only [hks,Result.andThen_ok]
   rw [JbV h1]
   congr 2
   simp only [List.length_set]
   congr 1
   apply Array.ext'
   simp only [Array.toList_modify,List.modify_eq_set,Option.map_eq_map]
   rw [List.getElem?_eq_getElem hj]
   simp [hje]
  ·unfold JcW at r1
   rw [if_pos hmem] at r1
   rw [List.getElem?_set] at r2
   by_cases hjk:j=k
   ·subst hjk
    simp [hj] at r2
    subst r2
    have e1:=h3 j p e0 r1 q1
    exact ⟨hkey.symm.trans e1.1,e1.2.1,by
     have:p=Jaf x:=by rw [List.getElem?_map,q2] at r1;exact (Option.some.inj r1).symm
     subst this;exact .v _⟩
   ·simp [hjk] at r2
    exact h3 k p en r1 r2
theorem JpC {o:Oper} {t kt e et:TypeId} {m k v:Operand} {x:Int×Int} {i:Id} {es:List (Int×Int)} {E:Env} {K:Env→Prop} (ho:o.op= .mapUpdate t m k v∨o.op= .insert t m k v) (ht:P.underlying t=some (.map kt et)) (hp:PairT P kt e)
 (hm:E.ev m= .om i) (hkv:E.ev k=kA x) (hv:E.ev v= .v (.bool true)) (hes:Jay i.1 E.h.bx=some (i.2, .mp (es.map Jaf)))
 (hK:K (({ E with h:= { E.h with bx:=JaV i.1 (.mp ((JcW x es).map Jaf)) E.h.bx}}:Env).set o.dst .any)):AOp P o E K:=by
 intro ro X M w0 a w g hs next Q hn hp'
 obtain ⟨b,hgb,hown⟩:=hs.hok.bx _ (JaM hes)
 dsimp only at hgb hown
 have hmv:a.eval m= .map (some b):=by
  have:=hs.ev m
  rw [hm] at this
  generalize a.eval m=u at this
  cases this with
  | om _ b' hg'=> rw [hgb] at hg';cases hg';rfl
 have hkv':a.eval k=JbP x:=by
  have:=hs.ev k
  rw [hkv] at this
  exact Js1 this
 have hvv:a.eval v= .bool true:=by
  have:=hs.ev v
  rw [hv] at this
  exact JV this
 obtain ⟨ents',h1,h2,h3⟩:=Jlg (x:=x) ht hp hown
 obtain ⟨ents,hb0,_⟩:=hown
 have hev:=Jdq (o':= .map ents'.toArray ents'.length) hb0 rfl (fun h=> by cases h)
 have hnew:=hs.setOwn (x:= .mp ((JcW x es).map Jaf)) hes hgb hev (fun hst=> ⟨ents',Jc2 hb0,h2,fun k p e q1 q2=> ⟨(h3 k p e q1 q2).1,(h3 k p e q1 q2).2.1,(h3 k p e q1 q2).2.2.stays hst⟩⟩)
 refine JT (by intro c h;rcases ho with ho | ho <;> (rw [ho] at h;cases h)) ?_
 have:(execOp a.eval o).run P w= .ok .skip (World.setO w b (.map ents'.toArray ents'.length)):=by
  unfold execOp
  rcases ho with ho | ho <;> (simp only [ho,hmv,hkv',hvv,Sem.run_bind,h1,Result.andThen_ok,Sem.run_pure])
 rw [this]
 exact hn _ _ _ g hK (fun _ _ h=> h) (hnew.put o.dst (.any _))
end Go.Vl

namespace Go.Vl
variable {P:Program}
theorem Jgt {ops:Array Oper} {B:List (Id×Own)} {o:Oper} {E:Env} {j:Nat} {want c:Bool} {fo:Operand} {args:Array Operand} {tys:Array TypeId} {f:FuncId} {first caps qs:List AV} {s:AV} (hg:o.guard=some (j,want)) (hd:agb (agd ops E j)=some (some c)) (hw:(c ==want)=true)
 (ho:o.op= .call { callee:= .value fo,args:=args,argTypes:=tys}) (hf:E.ev fo= .fn (.func f) first caps)
 (hc:Tells P f qs s) (hl:LeL (first++args.toList.map E.ev++caps) qs) (hid:NoId s):PureAll P ops B o E s:=fun E' _ ht=> by
 unfold GY
 simp only [hg]
 refine ⟨some c,Jh4 hg ht hd, .inl ⟨by rw [beq_iff_eq.1 hw], ?_⟩⟩
 have hev:=Jb6 ht
 refine Jz ho (by rw [hev fo (by rw [ho];simp [Op.operands,Call.operands])];exact hf) hc ?_ hid
 rw [Jfm fun x hm=> hev x (by rw [ho];simp only [Op.operands,Call.operands];exact Array.mem_append_right _ (Array.mem_toList_iff.1 hm))]
 exact hl
theorem Jem {ops:Array Oper} {B:List (Id×Own)} {o:Oper} {E:Env} {j:Nat} {want c b b':Bool} {C:Option Prop} (hg:o.guard=some (j,want)) (hd:agb (agd ops E j)=some (some c)) (hc:(c ==want)=true)
 (hp:Jbj P o.op { E with h:=⟨B, [],0,0⟩}=some (C, .v (.bool b))) (hC:Jas C) (hb:b=b'):PureAll P ops B o E (.v (.bool b')):=hb ▸ JJ hg hd hc hp hC
theorem Jen {ops:Array Oper} {B:List (Id×Own)} {o:Oper} {E:Env} {b b':Bool} {C:Option Prop} (hg:o.guard=none)
 (hp:Jbj P o.op { E with h:=⟨B, [],0,0⟩}=some (C, .v (.bool b))) (hC:Jas C) (hb:b=b'):PureAll P ops B o E (.v (.bool b')):=hb ▸ JfD hg hp hC
end Go.Vl

/- Regions that draw, with two effects that stand in no order: one of them hangs on nothing, and nothing hangs on it. -/
namespace Go.Vl
open Go.RowKit
variable {P:Program}
theorem MixL.mono {ops:Array Oper} {B:List (Id×Own)} {eff:Nat→Bool} {K K':Env→Prop}:∀ {L:List Nat} {E:Env},(∀E,K E→K' E)→MixL P ops B eff L E K→MixL P ops B eff L E K'
 | [],E,hk,h=> hk E h
 | i::l,E,hk,h=> by
   obtain ⟨o,h1,h2⟩:=h
   refine ⟨o,h1, ?_⟩
   cases he:eff i with
   | true=>
     simp only [he] at h2⊢
     obtain ⟨R,q1,q2⟩:=h2
     exact ⟨R,q1,fun r h' hr=> MixL.mono hk (q2 r h' hr)⟩
   | false=>
     simp only [he] at h2⊢
     obtain ⟨r,q1,q2⟩:=h2
     exact ⟨r,q1,MixL.mono hk q2⟩
end Go.Vl

namespace Go.Vl
open Go.RowKit
variable {P:Program}
def Jlh (P:Program) (it:FuncId) (first caps:List AV) {α:Type} (e:α→List AV) (xs:List α) (own:List (Id×Own)):Prop:=
 ∀(i:Id) (σ:Type) (Cb:σ→List (Id×Own)) (Cp:σ→List (Id×Nat)) (I:List α→σ→Prop),Jld P i e xs Cb Cp I (fun _ _ _=> False)→
  ∀s0 nx nn,I [] s0→ECall P it (first++ [.yl i]++caps) ⟨own++Cb s0,Cp s0,nx,nn⟩ (fun _ h'=> ∃s',I xs s'∧h'.bx=Cb s'∧h'.pm=Cp s')
theorem Jqc {gop:Operand} {ps:Array Tmp} {asg body:Code} {E:Env} {Q:AExit→Env→Prop} {it:FuncId} {first caps:List AV} {ds:List DA} {σ α:Type} {e:α→List AV} {xs:List α} {first' caps':List AV} (own:List (Id×Own))
 (Cb:σ→List (Id×Own)) (Cp:σ→List (Id×Nat)) (I:List α→σ→Prop) (s0:σ) (hd:E.df=some ds) (hf:E.ev gop= .fn (.func it) first caps) (hit:Jlh P it first' caps' e xs own) (hl1:LeL first first') (hl2:LeL caps caps')
 (hb:E.h.bx=own++Cb s0) (hp:E.h.pm=Cp s0) (h0:I [] s0) (hlen:∀x,(e x).length=ps.size)
 (hc:∀pre x post s nx nn,xs=pre++x::post→I pre s→AW P asg (Jc6 E.n E.t ⟨((E.h.nn+1,E.h.nx+1), .lp .ready none E.n E.t ps asg body)::((E.h.nn,E.h.nx), .df)::Cb s,Cp s,nx,nn⟩ (ps.toList.zip (e x)).reverse)
   (Jq0 P (E.h.nn+1,E.h.nx+1) body (Jnj (fun s=> ((E.h.nn+1,E.h.nx+1), .lp .ready none E.n E.t ps asg body)::((E.h.nn,E.h.nx), .df)::Cb s) Cp I (fun _ _ _=> False) pre x)))
 (hend:∀s' nx nn,I xs s'→Q .normal { E with h:=⟨((E.h.nn+1,E.h.nx+1), .lp .exhausted none E.n E.t ps asg body)::((E.h.nn,E.h.nx), .df)::Cb s',Cp s',nx,nn⟩,df:=some (.col (E.h.nn,E.h.nx)::ds)}):
 AW P (.rangeFunc gop ps asg body) E Q:=by
 refine JnO hd hf ?_
 have hcons:Jld P (E.h.nn+1,E.h.nx+1) e xs (fun s=> ((E.h.nn+1,E.h.nx+1), .lp .ready none E.n E.t ps asg body)::((E.h.nn,E.h.nx), .df)::Cb s) Cp I (fun _ _ _=> False):=by
  intro pre x post s nx nn hx hI
  exact Ji7 (i:=(E.h.nn+1,E.h.nx+1)) (pd:=none) (n:=E.n) (t:=E.t) (ps:=ps) (asg:=asg) (body:=body) (by simp [Jay]) (hlen x) (hc pre x post s nx nn hx hI)
 have h1:=hit (E.h.nn+1,E.h.nx+1) σ _ Cp I hcons s0 (E.h.nx+2) (E.h.nn+2) h0
 have hperm:(own++((E.h.nn+1,E.h.nx+1),Own.lp .ready none E.n E.t ps asg body)::((E.h.nn,E.h.nx), .df)::Cb s0).Perm (((E.h.nn+1,E.h.nx+1), .lp .ready none E.n E.t ps asg body)::((E.h.nn,E.h.nx), .df)::(own++Cb s0)):=
  List.perm_middle.trans (List.Perm.cons _ List.perm_middle)
 have e1:(E.h.addo .df).addo (.lp .ready none E.n E.t ps asg body)=⟨((E.h.nn+1,E.h.nx+1), .lp .ready none E.n E.t ps asg body)::((E.h.nn,E.h.nx), .df)::(own++Cb s0),Cp s0,E.h.nx+2,E.h.nn+2⟩:=by
  rw [← hb,← hp];rfl
 rw [e1]
 have hl:Like ⟨own++((E.h.nn+1,E.h.nx+1),Own.lp .ready none E.n E.t ps asg body)::((E.h.nn,E.h.nx), .df)::Cb s0,Cp s0,E.h.nx+2,E.h.nn+2⟩ ⟨((E.h.nn+1,E.h.nx+1), .lp .ready none E.n E.t ps asg body)::((E.h.nn,E.h.nx), .df)::(own++Cb s0),Cp s0,E.h.nx+2,E.h.nn+2⟩:=⟨hperm.symm.map _, .refl _,rfl⟩
 have h2:=ECall.like hl h1
 refine ((ECall.args (LeL.append (LeL.append hl1 (LeL.refl _)) hl2) h2)).mono fun r h' hq=> ?_
 obtain ⟨s',q1,q2,q3⟩:=hq
 obtain ⟨bx,pm,nx,nn⟩:=h'
 dsimp only at q2 q3
 subst q2;subst q3
 unfold Jhh
 simp only [Jay,Nat.beq_refl,cond_true]
 refine ⟨trivial,(by intro h;cases h), ?_⟩
 simp only [JaV,Nat.beq_refl,cond_true]
 exact hend s' nx nn q1
theorem Joa {α:Type} (a b c:List α):(a++(b++c)).Perm (b++(a++c)):=by
 rw [← List.append_assoc,← List.append_assoc]
 exact List.perm_append_comm.append_right _
theorem JlZ {o:Oper} {E:Env} {K:Env→Prop} {Kp:AV→Env→Prop} {fo:Operand} {args:Array Operand} {tys:Array TypeId} {f:FuncId} {first caps xs:List AV} {h1:Heap} {Q:AV→Heap→Prop} {bx1:List (Id×Own)} {pm1:List (Id×Nat)}
 (rb1 rb2:List (Id×Own)) (rp:List (Id×Nat)) (nn:Nat) (ho:o.op= .call { callee:= .value fo,args:=args,argTypes:=tys}) (hf:E.ev fo= .fn (.func f) first caps) (hbx:E.h.bx=rb1++(bx1++rb2)) (hpm:E.h.pm=rp++pm1)
 (hl:LeL (first++args.toList.map E.ev++caps) xs) (hc:ECall P f xs h1 Q) (hbl:BxLe bx1 h1.bx) (hpe:PmEq pm1 h1.pm) (hn:h1.nx=E.h.nx)
 (hk:∀r h',Q r h'→K (({ E with h:=⟨rb1++(h'.bx++rb2),rp++h'.pm,h'.nx,nn⟩}:Env).set o.dst r)):AOp P o E K Kp:=by
 have h2:ECall P f xs ⟨bx1,pm1,h1.nx,h1.nn⟩ Q:=hc.tell hbl hpe rfl
 have h3:=(ECall.frame (h:=E.h) h2 (rb1++rb2) rp (by rw [hbx];exact Joa _ _ _) (by rw [hpm];exact List.perm_append_comm) hn).args hl
 refine JeQ ho hf h3 fun r h' hq=> ?_
 obtain ⟨h1',q1,rfl⟩:=hq
 exact ⟨r,⟨rb1++(h1'.bx++rb2),rp++h1'.pm,h1'.nx,nn⟩,Rf,⟨(Joa _ _ _).map _,List.perm_append_comm.map _,rfl⟩,hk r h1' q1⟩
end Go.Vl

namespace Go.Vl
open Go.RowKit
variable {P:Program}
section
variable {F:Fence} {n:Nat} {b:Frame} {a:Act} {k:List Item} {cs:List Frame} {w:World} {Q:Exit→Act→World→Prop}
end
end Go.Vl

/- Regions that draw, with two effects that stand in no order, and more effects behind both. -/
namespace Go.Vl
open Go.RowKit
variable {P:Program}
end Go.Vl

/- Functions of the shelf that write a row in a box of one's own, and that are given Jwg values besides. -/
namespace Go.Vl
open Go.RowKit
variable {P:Program}
theorem JuV {w:World} {X:Nat→Nat→Prop} {g:List Nat} {i:Id} {n cap b:Nat} {vs us:List Value} (hg:g[i.2]? =some b) (h3:us.length=(AV.hs i 0 n cap::vs.map AV.v).length)
 (h4:∀(k:Nat) (c:AV) (u:Value),(AV.hs i 0 n cap::vs.map AV.v)[k]? =some c→us[k]? =some u→Rep w X g c u):us= .slice (some ⟨b,0,none⟩) n cap::vs:=by
 match us,h3,h4 with
 | a::us,h3,h4=>
 have ha:=h4 0 _ a rfl rfl
 obtain rfl:us=vs:=Jle (by simpa using h3) fun k c v hc hv=> h4 (k+1) c v (by simpa using hc) (by simpa using hv)
 cases ha with
 | hs _ _ _ _ b2 hg2=>
   rw [hg] at hg2
   cases hg2
   rfl
theorem Jl0 {α:Type} [Inhabited α] {f:FuncId} {enc:α→Value} {d d':Array α} {tl:List AV} {vs:List Value} {R:AV} {res:Nat→Value} {nm s cap nx nn:Nat} (hcb:Jb4 P f) (hd:d'.size=d.size)
 (hR:∀(w:World) (X:Nat→Nat→Prop) (g:List Nat) (b:Nat),g[s]? =some b→Rep w X g R (res b))
 (h:∀(w:World) (blk:Nat),Kn w none2→Sort.Holds enc w blk 0 d→blk < w.heap.size→Calls P f (.slice (some ⟨blk,0,none⟩) d.size cap::vs).toArray w fun e w'=> e= .returned (res blk)∧∃n os,w'=Sort.grow (Sort.putRow enc (Sort.ahead w n) blk 0 d') os):
 ECall P f (.hs (nm,s) 0 d.size cap::vs.map .v) ⟨[((nm,s), .c (d.toList.map (fun x=> .v (enc x))++tl))], [],nx,nn⟩
  fun r h'=> r=R∧h'=⟨[((nm,s), .c (d'.toList.map (fun x=> .v (enc x))++tl))], [],nx,nn⟩:=by
 refine ⟨hcb,fun X w g us h1 h2 h3 h4=> ?_⟩
 obtain ⟨b,hgb,vs0,ety,hblk,hsz,hrep⟩:=h1.bx _ (.head _)
 dsimp only at hgb
 obtain rfl:=JuV hgb h3 h4
 have hbl:=JH hblk
 have hlen:d.size≤vs0.size:=by rw [hsz];simp
 have hH:Sort.Holds enc w b 0 d:=fun j hj=> by
  refine ⟨?_,by rw [Jbw hblk];simp⟩
  have hj2:j < vs0.size:=by omega
  have:=hrep j (.v (enc d[j]!)) vs0[j] (by rw [List.getElem?_append_left (by simpa using hj)];simp [hj]) (Array.getElem?_eq_getElem hj2)
  generalize hv:vs0[j]=v at this
  cases this
  rw [JY hblk,Nat.zero_add,Array.getElem?_eq_getElem hj2,hv]
 refine (Jfa P f).mono (w0:=w) (g:=g) (R:=_) (h w b h1.kn.none hH hbl) fun e w' ⟨he,n,os,hw⟩=> ?_
 have hb':w'.heap[b]? =some (.cells (Sort.putCells enc 0 d' vs0) ety (0,0)):=by
  subst hw
  rw [Sort.heap_grow_old _ _ (by simpa [Sort.putRow,Sort.mapBlock,Sort.ahead] using hbl)]
  show (w.heap.modify b _)[b]? =_
  rw [Array.getElem?_modify,if_pos rfl,hblk]
  rfl
 have hoth:∀k,k < w.heap.size→k≠b→w'.heap[k]? =w.heap[k]? :=fun k hk hne=> by
  subst hw
  rw [Sort.heap_grow_old _ _ (by simpa [Sort.putRow,Sort.mapBlock,Sort.ahead] using hk)]
  show (w.heap.modify b _)[k]? =_
  rw [Array.getElem?_modify,if_neg (Ne.symm hne)]
 have hsize:w.heap.size≤w'.heap.size:=by
  subst hw
  simp [Sort.grow,Sort.putRow,Sort.mapBlock,Sort.ahead]
 have hM:∀b0 o,¬excl none2 g ⟨[((nm,s), .c (d.toList.map (fun x=> .v (enc x))++tl))], [],nx,nn⟩ b0 o→b0≠b:=fun b0 o hn hb0=> hn (.inr (.inl ⟨_, .head _,by rw [hb0];exact hgb⟩))
 have hev:Evo (excl none2 g ⟨[((nm,s), .c (d.toList.map (fun x=> .v (enc x))++tl))], [],nx,nn⟩) w w':=by
  refine ⟨by subst hw;rfl,by subst hw;rfl,by subst hw;rfl,hsize,fun b0 hb0 hn=> hoth b0 hb0 (hM b0 0 (hn 0)),fun b0 o hb0 hn=> World.cell?_of_block (a:=⟨b0,o,none⟩) (hoth b0 hb0 (hM b0 o hn)),fun b0 us0 e0 fz h0=> ?_,fun b0 l h0=> ?_⟩
  ·by_cases hb0:b0=b
   ·subst hb0
    rw [hblk] at h0
    cases h0
    exact ⟨_,hb',by simp [Sort.putCells]⟩
   ·exact ⟨us0,(hoth b0 (JH h0) hb0).trans h0,rfl⟩
  ·by_cases hb0:b0=b
   ·subst hb0
    rw [hblk] at h0
    cases h0
   ·exact ⟨l,(hoth b0 (JH h0) hb0).trans h0⟩
 have hstay:=hev.stays (X:=excl X g ⟨[((nm,s), .c (d.toList.map (fun x=> .v (enc x))++tl))], [],nx,nn⟩) (X':=excl X g ⟨[((nm,s), .c (d.toList.map (fun x=> .v (enc x))++tl))], [],nx,nn⟩) (g:=g) (g':=g)
  (fun b0 o _ hm=> hm.elim (fun h=> h.elim) .inr) (fun _ _ _ h=> h) (fun _ _ h=> h)
 refine ⟨.ret R,_,g,⟨_,he,hR _ _ _ _ hgb⟩,⟨rfl,rfl⟩,fun _ _ h=> h, ?_,fun b0 o hx i hi=> h2 b0 o hx i hi,hev,fun b0 o h _=> by simpa [excl] using h⟩
 have hX:excl X g ⟨[((nm,s), .c (d'.toList.map (fun x=> .v (enc x))++tl))], [],nx,nn⟩=excl X g ⟨[((nm,s), .c (d.toList.map (fun x=> .v (enc x))++tl))], [],nx,nn⟩:=by
  funext b0 o;exact propext (by simp [excl])
 rw [hX]
 refine ⟨fun p hp=> ?_,fun p hp=> (by cases hp),h1.nodup,h1.nx,fun b0 o hx=> ?_, ?_⟩
 ·obtain rfl:=List.mem_singleton.1 hp
  refine ⟨b,hgb,Sort.putCells enc 0 d' vs0,ety,hb',by simp [Sort.putCells,hsz,hd],fun k c u hk hku=> ?_⟩
  have hkv:k < vs0.size:=by have:=(Array.getElem?_eq_some_iff.1 hku).1;simpa [Sort.putCells] using this
  have hval:(Sort.putCells enc 0 d' vs0)[k]? =some (if 0≤k∧k < 0+d'.size then enc d'[k - 0]! else vs0[k]):=by simp [Sort.putCells,hkv]
  rw [hval] at hku
  by_cases hkd:k < d'.size
  ·rw [if_pos ⟨Nat.zero_le _,by omega⟩] at hku
   rw [List.getElem?_append_left (by simpa using hkd)] at hk
   simp [hkd] at hk hku
   subst hk;subst hku
   exact .v _
  ·rw [if_neg Om] at hku
   rw [List.getElem?_append_right (by simpa using Nat.le_of_not_lt hkd)] at hk
   refine (hrep k c u ?_ (by rw [Array.getElem?_eq_getElem hkv];exact hku)).stays hstay
   rw [List.getElem?_append_right (by simp;omega)]
   simpa [hd] using hk
 ·exact Nat.lt_of_lt_of_le (h1.bd b0 o hx) hsize
 ·exact h1.kn.stays hstay
end Go.Vl

/- The front of an array of one's own; bytes of one's own as a string. -/
namespace Go.Vl
open Go.RowKit
variable {P:Program}
theorem Jkd {w:World} {t e:TypeId} {n:Nat} {d:TypeDesc} (ht:P.underlying t=some (.array n e)) (hd:P.underlying e=some d) (h1:P.cellsOf e=1) (b off h:Nat) (hh:h≤n) (hn:0 < n) (k':IntKind):
 (Instr.sliceAt t (.pointer (some ⟨b,off,none⟩)) none (some (.int k' h)) none).run P w= .ok (.slice (some ⟨b,off,none⟩) h n) w:=by
 have e1:¬n=0:=by omega
 simp [Instr.sliceAt,run_underlying ht,Instr.sureAddr,Instr.sliceBounds,Instr.sliceBound,asIntOf,hh,e1,JK hd,h1,Jaw]
theorem Jl1 {o:Oper} {E:Env} {K:Env→Prop} {Kp:AV→Env→Prop} {t e:TypeId} {x hi:Operand} {n h:Nat} {k':IntKind} {d:TypeDesc} {i:Id} {off:Nat} (ho:o.op= .slice t x none (some hi) none) (hx:E.ev x= .bp i off)
 (hhi:E.ev hi= .v (.int k' h)) (ht:P.underlying t=some (.array n e)) (hd:P.underlying e=some d) (h1:P.cellsOf e=1) (hh:h≤n) (hn:0 < n) (hk:K (E.set o.dst (.hs i off h n))):AOp P o E K Kp:=by
 refine AOp.of_yields ⟨(by rw [ho];intro c hc;cases hc),fun ρ w X g _ hr=> .inl ?_⟩ hk
 have r1:=hr x (by rw [ho];simp [Op.operands])
 have r3:=hr hi (by rw [ho];simp [Op.operands])
 rw [hx] at r1;rw [hhi] at r3
 have e3:=JV r3
 generalize hu:ρ x=u at r1
 cases r1 with
 | bp _ _ b hg=>
   refine ⟨.slice (some ⟨b,off,none⟩) h n,w, ?_,Evo.refl _ _, .hs _ _ _ _ b hg⟩
   unfold execOp
   simp only [ho,hu,Option.map_some,Option.map_none,e3]
   exact Jci (Jkd ht hd h1 b off h hh hn k')
theorem Js3 {o:Oper} {E:Env} {K:Env→Prop} {Kp:AV→Env→Prop} {s d e:TypeId} {x:Operand} {i:Id} {off cap:Nat} {cs:List AV} {l:List UInt8} (ho:o.op= .convert s d x) (hx:E.ev x= .hs i off l.length cap)
 (hcs:JbH i.1 E.h.bx=some (i.2,cs)) (hl:∀j (hj:j < l.length),cs[off+j]? =some (.v (.int .u8 (l[j].toNat:Int)))) (hs:P.underlying s=some (.slice e)) (he:P.underlying e=some (.int .u8)) (hd:P.underlying d=some .string)
 (hk:K (E.set o.dst (.v (.string ⟨l.toArray⟩)))):AOp P o E K Kp:=by
 refine AOp.of_yields ⟨(by rw [ho];intro c hc;cases hc),fun ρ w X g hok hr=> .inl ?_⟩ hk
 have r1:=hr x (by rw [ho];simp [Op.operands])
 rw [hx] at r1
 obtain ⟨b,hg,vs,e',hb,hvs,hrp⟩:=hok.bx _ (JfZ hcs)
 dsimp only at hg hvs hrp
 generalize hu:ρ x=u at r1
 cases r1 with
 | hs _ _ _ _ b' hg'=>
   rw [hg] at hg';cases hg'
   refine ⟨.string ⟨l.toArray⟩,w, ?_,Evo.refl _ _, .v _⟩
   unfold execOp
   simp only [ho,hu]
   refine Jci (run_convert_bytes_back w s d e ⟨b,off,none⟩ cap l hs he hd fun j hj=> ?_)
   have hc:=hl j hj
   have hlt:off+j < vs.size:=by rw [hvs];exact (List.getElem?_eq_some_iff.1 hc).1
   have:=hrp (off+j) _ vs[off+j] hc (Array.getElem?_eq_getElem hlt)
   generalize hv:vs[off+j]=v at this
   cases this
   rw [show (⟨b,off,none⟩:Addr).add j=⟨b,off+j,none⟩ from Jaw _ _ _,JY hb,Array.getElem?_eq_getElem hlt,hv]
end Go.Vl

namespace Go.Vl
open Go.RowKit
variable {P:Program}
theorem Jrc {f:FuncId} {xs vs:List Value} {u:Value} (hcb:Jb4 P f)
 (h0:xs.length=0→∀(a:Option Addr) (cap:Nat) w,Kn w none2→Calls P f (Value.slice a 0 cap::vs).toArray w fun e w'=> e= .returned u∧Below w.heap.size w w')
 (h1:∀(b off cap:Nat) w,Kn w none2→(∀(j:Nat) x,xs[j]? =some x→w.cell? ⟨b,off+j,none⟩=some x)→b < w.heap.size→xs.length≤cap→0 < xs.length→Calls P f (Value.slice (some ⟨b,off,none⟩) xs.length cap::vs).toArray w fun e w'=> e= .returned u∧Below w.heap.size w w'):
 Tells P f (.sl 1 xs.length (fun k=> .v (xs.getD k undef))::vs.map .v) (.v u):=fun nx=> by
 refine ⟨hcb,fun X w g us k1 k2 k3 k4=> ?_⟩
 match us,k3,k4 with
 | a::us,k3,k4=>
 have ha:=k4 0 _ a rfl rfl
 obtain rfl:us=vs:=Jle (by simpa using k3) fun k c v hc hv=> k4 (k+1) c v (by simpa using hc) (by simpa using hv)
 have hk:=k1.kn.none
 have key:Calls P f (a::us).toArray w fun e w'=> e= .returned u∧Below w.heap.size w w':=by
  generalize hxs:(fun k=> AV.v (xs.getD k undef))=F at ha
  generalize hn:xs.length=n at ha
  cases ha with
  | sl0 _ _ a0 cap=> exact h0 hn a0 cap w hk
  | sl _ _ _ b off cap ws hlen hcap hcell hc hrep=>
    rcases Nat.eq_zero_or_pos n with hz | hz
    ·subst hz
     exact h0 hn _ cap w hk
    ·subst hn
     have hat:∀(j:Nat) x,xs[j]? =some x→w.cell? ⟨b,off+j,none⟩=some x:=fun j x hx=> by
      have hj:=(List.getElem?_eq_some_iff.1 hx).1
      have hw:j < ws.length:=by omega
      have hr:=hrep j 0 (.v (xs.getD j undef)) ws[j] hj (by rw [← hxs];rfl) (by rw [Nat.mul_one,Nat.add_zero];exact List.getElem?_eq_getElem hw)
      have e:ws[j]=xs.getD j undef:=by generalize ws[j]=q at hr;cases hr;rfl
      rw [(hcell j _ (List.getElem?_eq_getElem hw)).1,e,List.getD_eq_getElem?_getD,hx]
      rfl
     have hb:b < w.heap.size:=World.block_lt_of_cell? w _ (hat 0 xs[0] (List.getElem?_eq_getElem hz))
     exact h1 b off cap w hk hat hb hcap hz
 refine (Jfa P f).mono (w0:=w) (g:=g) (R:=_) key fun e w' ⟨he,hb⟩=> ?_
 have hev:=Evo.of_below hb
 exact ⟨.ret (.v u),⟨[], [],nx,0⟩,g,⟨u,he, .v _⟩,⟨Rf,rfl,rfl⟩,fun _ _ h=> h,k1.evo0 hev,fun b o hx i hi=> (by cases hi),hev.mono fun b o _ h=> h.elim,fun b o h _=> h⟩
end Go.Vl

/- Rows of structs in boxes of one's own, sorted by the shelf. -/
namespace Go.Vl
open Go.RowKit
variable {P:Program}
theorem Jrd {f:FuncId} {N n cap nm s nx nn:Nat} {cs tl az:List AV} {vs:List Value} {R:AV} {res:Nat→Value} {Φ:List AV→Prop} (hcb:Jb4 P f) (hcs:cs.length=N)
 (ha:∀(w:World) (X:Nat→Nat→Prop) (g:List Nat) (us:List Value),us.length=az.length→(∀(k:Nat) (c:AV) (u:Value),az[k]? =some c→us[k]? =some u→Rep w X g c u)→us=vs)
 (hR:∀(w:World) (X:Nat→Nat→Prop) (g:List Nat) (b:Nat),g[s]? =some b→Rep w X g R (res b))
 (h:∀(w:World) (X:Nat→Nat→Prop) (g:List Nat) (blk:Nat) (us:List Value),us.length=N→(∀(k:Nat) (c:AV) (u:Value),cs[k]? =some c→us[k]? =some u→Rep w X g c u)→Sort.Holds id w blk 0 us.toArray→blk < w.heap.size→
   Calls P f (.slice (some ⟨blk,0,none⟩) n cap::vs).toArray w fun e w'=> e= .returned (res blk)∧∃(us':List Value) (cs':List AV) (m:Nat) (os:Array Obj),us'.length=N∧cs'.length=N∧Φ cs'∧(∀(k:Nat) (c:AV) (u:Value),cs'[k]? =some c→us'[k]? =some u→Rep w X g c u)∧w'=Sort.grow (Sort.putRow id (Sort.ahead w m) blk 0 us'.toArray) os):
 ECall P f (.hs (nm,s) 0 n cap::az) ⟨[((nm,s), .c (cs++tl))], [],nx,nn⟩
  fun r h'=> r=R∧∃cs',Φ cs'∧h'=⟨[((nm,s), .c (cs'++tl))], [],nx,nn⟩:=by
 refine ⟨hcb,fun X w g us h1 h2 h3 h4=> ?_⟩
 obtain ⟨b,hgb,vs0,ety,hblk,hsz,hrep⟩:=h1.bx _ (.head _)
 dsimp only at hgb
 match us,h3,h4 with
 | a::us,h3,h4=>
 have hva:=h4 0 _ a rfl rfl
 obtain rfl:us=vs:=ha w _ g us (by simpa using h3) fun k c v hc hv=> h4 (k+1) c v (by simpa using hc) (by simpa using hv)
 cases hva with
 | hs _ _ _ _ b2 hg2=>
 dsimp only at hg2
 rw [hgb] at hg2
 cases hg2
 have hbl:=JH hblk
 have hlen:N≤vs0.size:=by rw [hsz,List.length_append];omega
 have htl:(vs0.toList.take N).length=N:=by simp;omega
 have hH:Sort.Holds id w b 0 (vs0.toList.take N).toArray:=fun j hj=> by
  refine ⟨?_,by rw [Jbw hblk];simp⟩
  have hjN:j < N:=by rw [List.size_toArray,htl] at hj;exact hj
  have hj2:j < vs0.size:=by omega
  rw [JY hblk,Nat.zero_add,Array.getElem?_eq_getElem hj2]
  simp [hj2,hjN]
 have hr0:∀(k:Nat) (c:AV) (u:Value),cs[k]? =some c→(vs0.toList.take N)[k]? =some u→Rep w (excl X g ⟨[((nm,s), .c (cs++tl))], [],nx,nn⟩) g c u:=fun k c u hc hu=> by
  have hk:k < cs.length:=(List.getElem?_eq_some_iff.1 hc).1
  rw [List.getElem?_take,if_pos Om] at hu
  exact hrep k c u (by rw [List.getElem?_append_left hk];exact hc) (by simpa using hu)
 refine (Jfa P f).mono (w0:=w) (g:=g) (R:=_) (h w _ g b _ htl hr0 hH hbl) fun e w' ⟨he,us',cs',n',os,hl1,hl2,hΦ,hr',hw⟩=> ?_
 have hb':w'.heap[b]? =some (.cells (Sort.putCells id 0 us'.toArray vs0) ety (0,0)):=by
  subst hw
  rw [Sort.heap_grow_old _ _ (by simpa [Sort.putRow,Sort.mapBlock,Sort.ahead] using hbl)]
  show (w.heap.modify b _)[b]? =_
  rw [Array.getElem?_modify,if_pos rfl,hblk]
  rfl
 have hoth:∀k,k < w.heap.size→k≠b→w'.heap[k]? =w.heap[k]? :=fun k hk hne=> by
  subst hw
  rw [Sort.heap_grow_old _ _ (by simpa [Sort.putRow,Sort.mapBlock,Sort.ahead] using hk)]
  show (w.heap.modify b _)[k]? =_
  rw [Array.getElem?_modify,if_neg (Ne.symm hne)]
 have hsize:w.heap.size≤w'.heap.size:=by
  subst hw
  simp [Sort.grow,Sort.putRow,Sort.mapBlock,Sort.ahead]
 have hM:∀b0 o,¬excl none2 g ⟨[((nm,s), .c (cs++tl))], [],nx,nn⟩ b0 o→b0≠b:=fun b0 o hn hb0=> hn (.inr (.inl ⟨_, .head _,by rw [hb0];exact hgb⟩))
 have hev:Evo (excl none2 g ⟨[((nm,s), .c (cs++tl))], [],nx,nn⟩) w w':=by
  refine ⟨by subst hw;rfl,by subst hw;rfl,by subst hw;rfl,hsize,fun b0 hb0 hn=> hoth b0 hb0 (hM b0 0 (hn 0)),fun b0 o hb0 hn=> World.cell?_of_block (a:=⟨b0,o,none⟩) (hoth b0 hb0 (hM b0 o hn)),fun b0 us0 e0 fz h0=> ?_,fun b0 l h0=> ?_⟩
  ·by_cases hb0:b0=b
   ·subst hb0
    rw [hblk] at h0
    cases h0
    exact ⟨_,hb',by simp [Sort.putCells]⟩
   ·exact ⟨us0,(hoth b0 (JH h0) hb0).trans h0,rfl⟩
  ·by_cases hb0:b0=b
   ·subst hb0
    rw [hblk] at h0
    cases h0
   ·exact ⟨l,(hoth b0 (JH h0) hb0).trans h0⟩
 have hstay:=hev.stays (X:=excl X g ⟨[((nm,s), .c (cs++tl))], [],nx,nn⟩) (X':=excl X g ⟨[((nm,s), .c (cs++tl))], [],nx,nn⟩) (g:=g) (g':=g)
  (fun b0 o _ hm=> hm.elim (fun h=> h.elim) .inr) (fun _ _ _ h=> h) (fun _ _ h=> h)
 refine ⟨.ret R,_,g,⟨_,he,hR _ _ _ _ hgb⟩,⟨rfl,cs',hΦ,rfl⟩,fun _ _ h=> h, ?_,fun b0 o hx i hi=> h2 b0 o hx i hi,hev,fun b0 o h _=> by simpa [excl] using h⟩
 have hX:excl X g ⟨[((nm,s), .c (cs'++tl))], [],nx,nn⟩=excl X g ⟨[((nm,s), .c (cs++tl))], [],nx,nn⟩:=by
  funext b0 o;exact propext (by simp [excl])
 rw [hX]
 refine ⟨fun p hp=> ?_,fun p hp=> (by cases hp),h1.nodup,h1.nx,fun b0 o hx=> ?_, ?_⟩
 ·obtain rfl:=List.mem_singleton.1 hp
  refine ⟨b,hgb,Sort.putCells id 0 us'.toArray vs0,ety,hb',by rw [List.length_append] at hsz;simp [Sort.putCells,hsz,hl2,hcs],fun k c u hk hku=> ?_⟩
  have hkv:k < vs0.size:=by have:=(Array.getElem?_eq_some_iff.1 hku).1;simpa [Sort.putCells] using this
  have hval:(Sort.putCells id 0 us'.toArray vs0)[k]? =some (if 0≤k∧k < 0+us'.toArray.size then id us'.toArray[k - 0]! else vs0[k]):=by simp [Sort.putCells,hkv]
  rw [hval] at hku
  by_cases hkd:k < N
  ·rw [if_pos ⟨Nat.zero_le _,by rw [List.size_toArray];omega⟩] at hku
   rw [List.getElem?_append_left Om] at hk
   refine (hr' k c u hk ?_).stays hstay
   have hkl:k < us'.length:=by omega
   simp [hkl] at hku
   rw [List.getElem?_eq_getElem hkl,hku]
  ·rw [if_neg (by rw [List.size_toArray];omega)] at hku
   rw [List.getElem?_append_right Om] at hk
   refine (hrep k c u ?_ (by rw [Array.getElem?_eq_getElem hkv];exact hku)).stays hstay
   rw [List.getElem?_append_right Om,hcs,← hl2]
   exact hk
 ·exact Nat.lt_of_lt_of_le (h1.bd b0 o hx) hsize
 ·exact h1.kn.stays hstay
end Go.Vl

/- Rows of structs (a number, and whatever else) in boxes of one's own, sorted by their numbers by the shelf's SortFunc. -/
namespace Go.Vl
open Go.RowKit
variable {P:Program}
structure KX where
 k:Nat
 a:AV
 u:Value
instance:Inhabited KX:=⟨⟨0, .any, .int .u32 0⟩⟩
def KX.enc (x:KX):List Value:= [.int .u32 x.k,if x.u.oneCell' then x.u else .int .u32 0]
def KX.cmp (x y:KX):Int:=Lib.compareInt x.k y.k
def JA (D:List (Nat×AV)):List AV:=D.flatMap fun x=> [.v (.int .u32 x.1),x.2]
theorem KX.one (x:KX):∀v∈x.enc,v.oneCell'=true:=fun v hv=> by
 unfold KX.enc at hv
 simp only [List.mem_cons,List.mem_nil_iff,or_false] at hv
 rcases hv with rfl | rfl
 ·rfl
 ·split
  ·assumption
  ·rfl
theorem KX.lt (x y:KX):Go.Proofs.ltOf KX.cmp x y=decide (x.k < y.k):=by
 unfold Go.Proofs.ltOf KX.cmp Lib.compareInt
 by_cases h1:(x.k:Int) < y.k
 ·simp [h1];omega
 ·by_cases h2:(y.k:Int) < x.k <;> simp [h1,h2] <;> omega
theorem KX.swo:Sort.SWO (Go.Proofs.ltOf KX.cmp) where
 irrefl x:=by rw [KX.lt];simp
 trans x y z h1 h2 := by rw [KX.lt] at *; simp at *; omega
 ntrans x y z h1 h2 := by rw [KX.lt] at *; simp at *; omega
theorem JbA (D:List (Nat×AV)):(JA D).length=D.length * 2:=Jdt (E:=fun x:Nat×AV=> [.v (.int .u32 x.1),x.2]) (fun _=> rfl) D
theorem JfF:∀(D:List (Nat×AV)) (t:Nat) (h:t / 2 < D.length),(JA D)[t]? =some (if t % 2=0 then .v (.int .u32 D[t / 2].1) else D[t / 2].2)
 | [],t,h=> by simp at h
 | x::D,0,_=> rfl
 | x::D,1,_=> rfl
 | x::D,t+2,h=> by
   have h2:(t+2) / 2=t / 2+1:=by omega
   have ih:=JfF D t (by rw [h2] at h;simpa using h)
   show (JA D)[t]? =_
   rw [ih,show (t+2) % 2=t % 2 by omega]
   simp only [h2,List.getElem_cons_succ]
theorem Js4 (d:Array KX) (t:Nat) (h:t < d.size * 2):(Sort.flatK KX.enc 2 d)[t]! =if t % 2=0 then .int .u32 d[t / 2]!.k else if d[t / 2]!.u.oneCell' then d[t / 2]!.u else .int .u32 0:=by
 rw [Sort.get_flatK _ _ _ _ h]
 unfold KX.enc
 rcases Nat.mod_two_eq_zero_or_one t with h0 | h0 <;> rw [h0] <;> rfl
theorem Jja {f:FuncId} {g:Nat} {D:List (Nat×AV)} {tl:List AV} {nm s cap nx nn:Nat} (hcb:Jb4 P f) (hone:∀x∈D,Jcc x.2=true)
 (h:∀(d:Array KX) (w:World) (blk:Nat),d.size=D.length→Sort.HoldsK KX.enc 2 w blk 0 d→blk < w.heap.size→
   Calls P f #[.slice (some ⟨blk,0,none⟩) d.size cap, .func (.func g) #[] #[]] w fun e w'=> e= .returned (.tuple #[])∧∃d' n os,Sort.PermIn 0 d.size d d'∧Sort.SortedIn (Go.Proofs.ltOf KX.cmp) 0 d.size d'∧w'=Go.Proofs.sortWorldK KX.enc 2 w blk 0 n d' os):
 ECall P f [.hs (nm,s) 0 D.length cap, .fn (.func g) [] []] ⟨[((nm,s), .c (JA D++tl))], [],nx,nn⟩
  fun r h'=> r= .tup []∧∃cs',(∃D',D'.Perm D∧D'.Pairwise (fun a b=> a.1≤b.1)∧cs'=JA D')∧h'=⟨[((nm,s), .c (cs'++tl))], [],nx,nn⟩:=by
 refine Jrd (N:=D.length * 2) (n:=D.length) (vs:= [.func (.func g) #[] #[]]) (R:= .tup []) (res:=fun _=> .tuple #[]) (Φ:=fun cs'=> ∃D',D'.Perm D∧D'.Pairwise (fun a b=> a.1≤b.1)∧cs'=JA D') hcb (JbA D) (fun w X g us h1 h2=> ?_) (fun w X g b hg=> .tup [] [] rfl (by simp)) (fun w X g blk us hl hr hH hb=> ?_)
 ·match us,h1,h2 with
  | [u],_,h2=>
    have:=h2 0 _ u rfl rfl
    cases this with
    | fn f c1 c2 v1 v2 hn1 hn2 _ _=>
      obtain rfl:v1= []:=List.length_eq_zero_iff.1 hn1
      obtain rfl:v2= []:=List.length_eq_zero_iff.1 hn2
      rfl
 ·
  let d:Array KX:=((List.range D.length).map fun j=> (⟨(D.getD j (0, .any)).1,(D.getD j (0, .any)).2,us.getD (j * 2+1) (.int .u32 0)⟩:KX)).toArray
  have hds:d.size=D.length:=by simp [d]
  have hdg:∀j,j < D.length→d[j]! =⟨(D.getD j (0, .any)).1,(D.getD j (0, .any)).2,us.getD (j * 2+1) (.int .u32 0)⟩:=fun j hj=> by
   simp [d,hj]
  have hrep:∀j,j < D.length→us.getD (j * 2) (.int .u32 0)= .int .u32 (D.getD j (0, .any)).1∧Rep w X g (D.getD j (0, .any)).2 (us.getD (j * 2+1) (.int .u32 0))∧(us.getD (j * 2+1) (.int .u32 0)).oneCell'=true:=fun j hj=> by
   have h0:=JfF D (j * 2) Om
   have h1:=JfF D (j * 2+1) Om
   rw [if_pos Om] at h0
   rw [if_neg Om] at h1
   have e0:j * 2 / 2=j:=by omega
   have e1:(j * 2+1) / 2=j:=by omega
   simp only [e0] at h0
   simp only [e1] at h1
   have eD:D.getD j (0, .any)=D[j]:=by simp [hj]
   have k0:us[j * 2]? =some (us.getD (j * 2) (.int .u32 0)):=by rw [List.getD_eq_getElem?_getD,List.getElem?_eq_getElem Om];rfl
   have k1:us[j * 2+1]? =some (us.getD (j * 2+1) (.int .u32 0)):=by rw [List.getD_eq_getElem?_getD,List.getElem?_eq_getElem Om];rfl
   have r0:=hr _ _ _ h0 k0
   have r1:=hr _ _ _ h1 k1
   rw [eD]
   refine ⟨?_,r1,Je8 (hone _ (List.getElem_mem hj)) r1⟩
   generalize us.getD (j * 2) (.int .u32 0)=v at r0
   cases r0;rfl
  have hflat:us.toArray=Sort.flatK KX.enc 2 d:=by
   refine Sort.ext_get! (by simp [hds,hl]) fun t ht=> ?_
   have ht2:t < D.length * 2:=by simpa [hl] using ht
   rw [Js4 d t Om,hdg _ Om]
   obtain ⟨r1,r2,r3⟩:=hrep (t / 2) Om
   have eu:us.toArray[t]! =us.getD t (.int .u32 0):=by simp [show t < us.length by omega]
   rw [eu]
   rcases Nat.mod_two_eq_zero_or_one t with h0 | h0
   ·rw [if_pos h0,show us.getD t (.int .u32 0)=us.getD (t / 2 * 2) (.int .u32 0) by rw [show t / 2 * 2=t by omega]]
    exact r1
   ·rw [if_neg Om,if_pos r3,show us.getD t (.int .u32 0)=us.getD (t / 2 * 2+1) (.int .u32 0) by rw [show t / 2 * 2+1=t by omega]]
  have hH2:Sort.HoldsK KX.enc 2 w blk 0 d:=by unfold Sort.HoldsK;rw [← hflat];exact hH
  have hc:=h d w blk hds hH2 hb
  rw [hds] at hc
  refine hc.mono fun e w' ⟨he,d',n',os,hp,hso,hw⟩=> ⟨he,(Sort.flatK KX.enc 2 d').toList,JA (d'.toList.map fun x=> (x.k,x.a)),n',os, ?_, ?_,⟨_, ?_, ?_,rfl⟩,fun t c u hcs hus=> ?_, ?_⟩
  ·have:=hp.1;simp [this,hds]
  ·have:=hp.1;rw [JbA];simp [this,hds]
  ·obtain ⟨p1,_,p3⟩:=hp
   have e1:(d'.extract 0 D.length).toList=d'.toList:=by rw [← hds,← p1];simp
   have e2:(d.extract 0 D.length).toList=d.toList:=by rw [← hds];simp
   rw [e1,e2] at p3
   have:=p3.map fun x:KX=> (x.k,x.a)
   refine this.trans (.of_eq ?_)
   refine List.ext_getElem (by simp [d]) fun j hj1 hj2=> ?_
   simp [d,hj2]
  ·rw [List.pairwise_iff_getElem]
   intro i j hi hj hij
   have hj':j < d'.size:=by simpa using hj
   have:=hso i j (Nat.zero_le _) hij (by rw [← hds,← hp.1];exact hj')
   rw [KX.lt] at this
   have h2:=of_decide_eq_false this
   simp only [List.getElem_map,Array.getElem_toList]
   rw [getElem!_pos d' i Om,getElem!_pos d' j hj'] at h2
   omega
  ·have hs':d'.size=D.length:=by rw [hp.1,hds]
   have ht:t < d'.size * 2:=by have:=(List.getElem?_eq_some_iff.1 hus).1;simpa using this
   have hj:t / 2 < d'.size:=by omega
   obtain ⟨p1,_,p3⟩:=hp
   have e1:(d'.extract 0 D.length).toList=d'.toList:=by rw [← hs'];simp
   have e2:(d.extract 0 D.length).toList=d.toList:=by rw [← hds];simp
   rw [e1,e2] at p3
   have hm:d'[t / 2]∈d.toList:=p3.mem_iff.1 (by simp)
   obtain ⟨j,hj2,hdj⟩:=List.getElem_of_mem hm
   have hjD:j < D.length:=by simpa [hds] using hj2
   obtain ⟨r1,r2,r3⟩:=hrep j hjD
   have hx:d'[t / 2]=⟨(D.getD j (0, .any)).1,(D.getD j (0, .any)).2,us.getD (j * 2+1) (.int .u32 0)⟩:=by
    rw [← hdj,← hdg j hjD];simp [show j < d.size by omega]
   rw [JfF _ _ (by simpa using hj)] at hcs
   have hu:u=(Sort.flatK KX.enc 2 d')[t]! :=by
    have:=(List.getElem?_eq_some_iff.1 hus).2
    rw [← this];simp [ht]
   rw [Js4 d' t ht,getElem!_pos d' _ hj,hx] at hu
   simp only [List.getElem_map,Array.getElem_toList,hx] at hcs
   dsimp only at hcs hu
   rcases Nat.mod_two_eq_zero_or_one t with h0 | h0
   ·rw [if_pos h0] at hcs hu
    cases hcs;subst hu;exact .v _
   ·rw [if_neg Om] at hcs hu
    rw [if_pos r3] at hu
    cases hcs;subst hu;exact r2
  ·rw [hw]
   unfold Go.Proofs.sortWorldK Sort.putRowK
   simp
end Go.Vl

/- Appending onto rows in boxes, among the effects of a region that draws. -/
namespace Go.Vl
open Go.RowKit
variable {P:Program}
theorem JcN {ops:Array Oper} {B:List (Id×Own)} {o:Oper} {E:Env} {s x:Operand} {t e:TypeId} {n szx m cap:Nat} {f':Nat→AV} {i:Id} {cs:List AV} (hg:o.guard=none)
 (ho:o.op= .call { callee:= .builtin .append,args:= #[s,x],argTypes:= #[t,t]}) (hs:E.ev s= .hs i 0 n cap)
 (hx:E.ev x= .sl szx m f'∨∃oj,E.ev x= .os szx m f' oj)
 (ht:P.underlying t=some (.slice e)) (hgr:Jba P e=true) (hszx:szx=P.cellsOf e) (hm:m≠0)
 (hcs:JbH i.1 E.h.bx=some (i.2,cs)) (hcap:n≤cap) (hcl:cap * P.cellsOf e≤cs.length) (hone:JcT m f')
 (hroom:(n+m) * P.bytesOf e≤140737488355328) (hlen:n+m≤9223372036854775807)
 (hB1:HB B (Jet i.1 (Jat cs (n * P.cellsOf e) (JQ m f')) E.h.bx)) (hB2:∀l,HB B (E.h.add l).bx):
 Eff P ops B o E fun r h'=> (n+m≤cap∧r= .hs i 0 (n+m) cap∧h'= { E.h with bx:=Jet i.1 (Jat cs (n * P.cellsOf e) (JQ m f')) E.h.bx})∨
  (∃ncap,n+m≤ncap∧r= .hs (E.h.nn,E.h.nx) 0 (n+m) ncap∧h'=E.h.add (cs.take (n * P.cellsOf e)++JQ m f'++List.replicate ((ncap - (n+m)) * P.cellsOf e) .any)):=by
 refine ⟨hg,fun E' hh htt=> ?_⟩
 have hev:=Jb6 htt
 have es:E'.ev s=E.ev s:=hev s (by rw [ho];simp [Op.operands,Call.operands])
 have ex:E'.ev x=E.ev x:=hev x (by rw [ho];simp [Op.operands,Call.operands])
 refine Jfd ho (es.trans hs) (by rw [ex];exact hx) ht hgr (.inr hszx) (by rw [hh];exact hcs) hcap hcl hone (fun _=> hroom) (fun _=> hlen) (fun h=> absurd h hm) (fun _ hfit=> ?_) (fun _ _ ncap hge=> ?_)
 ·exact ⟨_,_, .inl ⟨hfit,rfl,by rw [hh]⟩,by rw [hh];exact hB1,rfl⟩
 ·exact ⟨_,_, .inr ⟨ncap,hge,by rw [hh],by rw [hh]⟩,by rw [hh];exact hB2 _,rfl⟩
theorem Jco {ops:Array Oper} {B:List (Id×Own)} {o:Oper} {E:Env} {s x:Operand} {t e:TypeId} {sz szx m:Nat} {f f':Nat→AV} (hg:o.guard=none)
 (ho:o.op= .call { callee:= .builtin .append,args:= #[s,x],argTypes:= #[t,t]}) (hs:E.ev s= .os sz 0 f none)
 (hx:E.ev x= .sl szx m f'∨∃oj,E.ev x= .os szx m f' oj)
 (ht:P.underlying t=some (.slice e)) (hgr:Jba P e=true) (hszx:szx=P.cellsOf e) (hm:m≠0) (hone:JcT m f')
 (hroom:m * P.bytesOf e≤140737488355328) (hlen:m≤9223372036854775807) (hB2:∀l,HB B (E.h.add l).bx):
 Eff P ops B o E fun r h'=> ∃ncap,m≤ncap∧r= .hs (E.h.nn,E.h.nx) 0 m ncap∧h'=E.h.add (JQ m f'++List.replicate ((ncap - m) * P.cellsOf e) .any):=by
 refine ⟨hg,fun E' hh htt=> ?_⟩
 have hev:=Jb6 htt
 have es:E'.ev s=E.ev s:=hev s (by rw [ho];simp [Op.operands,Call.operands])
 have ex:E'.ev x=E.ev x:=hev x (by rw [ho];simp [Op.operands,Call.operands])
 refine Jga ho (es.trans hs) (by rw [ex];exact hx) ht hgr hszx hm hone hroom hlen (fun ncap hge=> ?_)
 exact ⟨_,_,⟨ncap,hge,by rw [hh],by rw [hh]⟩,by rw [hh];exact hB2 _,rfl⟩
end Go.Vl

namespace Go.Vl
open Go.RowKit
variable {P:Program}
theorem Jli {f:FuncId} {ars:List AV} {s:AV} (h:Tells P f ars s):PCall P f ars (fun r=> r=s):=fun nx=> by
 refine ⟨(h nx).1,fun X w g us h1 h2 h3 h4=> ?_⟩
 refine (Jfa P f).mono (w0:=w) (g:=g) ((h nx).2 X w g us h1 h2 h3 h4) fun e w' ⟨r,h',g',a1,a2,a3⟩=> ?_
 cases r with
 | pan x=> exact a2.elim
 | ret r=>
   obtain ⟨u,e1,e2⟩:=a1
   exact ⟨.ret s,h',g',⟨u,e1,a2.1 _ _ _ _ e2⟩,⟨rfl,a2.2⟩,a3⟩
end Go.Vl

namespace Go.Proofs.W
structure Cnd where
 arg:Int
 op:Int
 mask:Nat
 value:Nat
deriving DecidableEq
def cnd0:Cnd:=⟨0,0,0,0⟩
def Cnd.ok (c:Cnd):Prop:=c.mask < 18446744073709551616∧c.value < 18446744073709551616
def JU (c:Cnd):Bool:=decide (0≤c.arg)&& decide (c.arg≤5)&& decide (1≤c.op)&& decide (c.op≤7)&& (decide (c.op=7)|| decide (c.mask=0))
def Jhn (v m:Nat):Nat:=v&&& (18446744073709551615 - m)
def isC (b:Bool):Cnd×Nat:=(cnd0,if b then 1 else 2)
def asC (c:Cnd) (op:Int) (v:Nat):Cnd×Nat:=(⟨c.arg,op,0,v⟩,0)
def Jbb (c:Cnd) (v:Nat):Cnd×Nat:=if v=0 then isC false else if v=1 then asC c 1 0 else asC c 3 v
def JbL (c:Cnd) (v:Nat):Cnd×Nat:=if v=0 then isC true else if v=18446744073709551615 then asC c 1 v else asC c 6 v
def JdJ (c:Cnd):Cnd×Nat:=if Jhn c.value c.mask≠0 then isC false else if c.mask=0 then isC true else if c.mask=18446744073709551615 then asC c 1 c.value else (c,0)
def Ja2 (c:Cnd):Cnd×Nat:=
 if c.op=3 then Jbb c c.value
 else if c.op=6 then JbL c c.value
 else if c.op=7 then JdJ c
 else if c.op=4 then (if c.value=18446744073709551615 then isC true else Jbb c (c.value+1))
 else if c.op=5 then (if c.value=18446744073709551615 then isC false else JbL c (c.value+1))
 else (c,0)
def JaE (c:Cnd):Cnd×Nat:=if JU c then Ja2 c else isC false
def Js5 (c:Cnd) (a:Nat):Bool:=
 if c.op=1 then decide (a=c.value)
 else if c.op=2 then !decide (a=c.value)
 else if c.op=3 then decide (a < c.value)
 else if c.op=4 then decide (a≤c.value)
 else if c.op=5 then decide (a > c.value)
 else if c.op=6 then decide (a≥c.value)
 else decide (a&&& c.mask=c.value)
theorem JbX {c:Cnd}:JU c=true↔0≤c.arg∧c.arg≤5∧1≤c.op∧c.op≤7∧(c.op=7∨c.mask=0):=by
 simp [JU,and_assoc]
theorem Jqd {v m:Nat} (hm:m < 2 ^ 64) (i:Nat):(Jhn v m).testBit i=(v.testBit i&& (decide (i < 64)&& !m.testBit i)):=by
 unfold Jhn
 rw [Nat.testBit_and,show (18446744073709551615:Nat) - m=2 ^ 64 - (m+1) by omega,Nat.testBit_two_pow_sub_succ hm]
set_option maxRecDepth 10000 in
theorem Job {v m:Nat} (hv:v < 2 ^ 64) (hm:m < 2 ^ 64):Jhn v m=0↔v||| m=m:=by
 have hb:∀i,¬i < 64→v.testBit i=false:=fun i hi=> Nat.testBit_lt_two_pow (Nat.lt_of_lt_of_le hv (Nat.pow_le_pow_right Dc Om))
 constructor
 ·intro h
  refine Nat.eq_of_testBit_eq fun i=> ?_
  have h1:=Jqd (v:=v) hm i
  rw [h,Nat.zero_testBit] at h1
  rw [Nat.testBit_or]
  by_cases hi:i < 64
  ·rw [decide_eq_true hi] at h1
   revert h1
   cases v.testBit i <;> cases m.testBit i <;> decide
  ·rw [hb i hi];simp
 ·intro h
  refine Nat.eq_of_testBit_eq fun i=> ?_
  rw [Jqd hm,Nat.zero_testBit]
  have h1:=congrArg (·.testBit i) h
  simp only [Nat.testBit_or] at h1
  revert h1
  cases v.testBit i <;> cases m.testBit i <;> simp
def Jam (c:Cnd):Cnd×Nat:=
 if c.op=4∧c.value=18446744073709551615 then (cnd0,1)
 else if c.op=5∧c.value=18446744073709551615 then (cnd0,2)
 else
  let c:=if c.op=4∨c.op=5 then ⟨c.arg,c.op * 3 - 9,c.mask,c.value+1⟩ else c
  if c.op=3∧c.value=0∨c.op=7∧c.value||| c.mask≠c.mask then (cnd0,2)
  else if c.op=6∧c.value=0∨c.op=7∧c.mask=0 then (cnd0,1)
  else if c.op=3∧c.value=1 then (⟨c.arg,1,c.mask,0⟩,0)
  else if c.op=6∧c.value=18446744073709551615 then (⟨c.arg,1,c.mask,c.value⟩,0)
  else if c.op=7∧c.mask=18446744073709551615 then (⟨c.arg,1,0,c.value⟩,0)
  else (c,0)
theorem Jwo {c:Cnd} (ho:c.ok) (hr:JU c=true):Jam c=JaE c:=by
 obtain ⟨h1,h2,h3,h4,h5⟩:=JbX.1 hr
 obtain ⟨o1,o2⟩:=ho
 obtain ⟨arg,op,mask,value⟩:=c
 dsimp only at h1 h2 h3 h4 h5 o1 o2
 unfold JaE
 rw [if_pos hr]
 have hop:op=1∨op=2∨op=3∨op=4∨op=5∨op=6∨op=7:=by omega
 have hz:=Job o2 o1
 rcases hop with rfl | rfl | rfl | rfl | rfl | rfl | rfl
 ·simp [Ja2,Jam]
 ·simp [Ja2,Jam]
 ·obtain rfl:mask=0:=by omega
  simp [Ja2,Jam,Jbb,isC,asC]
  repeat' split
  all_goals simp_all
 ·obtain rfl:mask=0:=by omega
  simp [Ja2,Jam,Jbb,isC,asC]
  repeat' split
  all_goals simp_all
 ·obtain rfl:mask=0:=by omega
  simp [Ja2,Jam,JbL,isC,asC]
  repeat' split
  all_goals simp_all
  all_goals omega
 ·obtain rfl:mask=0:=by omega
  simp [Ja2,Jam,JbL,isC,asC]
  repeat' split
  all_goals simp_all
 ·simp [Ja2,Jam,JdJ,isC,asC,hz]
  repeat' split
  all_goals simp_all
end Go.Proofs.W

namespace Go.Proofs.W
def NFm (c:Cnd):Prop:=JU c=true∧(c.op=1∨c.op=2∨c.op=3∨c.op=6∨(c.op=7∧Jhn c.value c.mask=0))
def lowM32:Nat:=4294967295
def JbQ (c:Cnd):Cnd×Nat:=
 if c.value > lowM32 then (cnd0,if c.op=2∨c.op=3 then 1 else 2)
 else if c.op=7 then (if c.mask&&& lowM32=0 then (cnd0,1) else (⟨c.arg,c.op,c.mask&&& lowM32,c.value⟩,0))
 else (c,0)
theorem Jp8 {a:Nat} (h:a < 4294967296):a&&& lowM32=a:=by
 unfold lowM32
 rw [show (4294967295:Nat)=2 ^ 32 - 1 by decide,Nat.and_two_pow_sub_one_eq_mod]
 exact Nat.mod_eq_of_lt h
theorem sub_zero {v m:Nat} (hv:v||| m=m) (h0:m&&& lowM32=0) (hl:v < 4294967296):v=0:=by
 rw [← Jp8 hl]
 refine Nat.eq_of_testBit_eq fun i=> ?_
 rw [Nat.testBit_and,Nat.zero_testBit]
 have h1:=congrArg (·.testBit i) hv
 have h2:=congrArg (·.testBit i) h0
 simp only [Nat.testBit_or,Nat.testBit_and,Nat.zero_testBit] at h1 h2
 revert h1 h2
 cases v.testBit i <;> cases m.testBit i <;> cases lowM32.testBit i <;> decide
end Go.Proofs.W

namespace Go.Proofs.W
open Go.Vl
structure Ins where
 code:Nat
 jt:Nat
 jf:Nat
 k:Nat
deriving DecidableEq
def Ins.ok (i:Ins):Prop:=i.code < 65536∧i.jt < 256∧i.jf < 256∧i.k < 4294967296
end Go.Proofs.W

namespace Go.Proofs.W
open Go.Vl
set_option maxRecDepth 100000
def int (n:Int):AV:= .v (.int .i64 n)
def u8 (n:Int):AV:= .v (.int .u8 n)
def u32 (n:Int):AV:= .v (.int .u32 n)
def Jb (b:Bool):AV:= .v (.bool b)
end Go.Proofs.W

namespace Go.Proofs.W
open Go.Vl
set_option maxRecDepth 100000
theorem J3 {a b:Int}:(false=(a ==b))↔a≠b:=by rw [eq_comm];simp
theorem J4 {a b:Int}:(true=(a ==b))↔a=b:=by rw [eq_comm];simp
theorem Jaa {a b:Int}:(false=(a !=b))↔a=b:=by rw [eq_comm];simp
theorem Jab {a b:Int}:(true=(a !=b))↔a≠b:=by rw [eq_comm];simp
theorem Jah {p:Prop} [Decidable p]:(false=decide p)↔¬p:=by rw [eq_comm];simp
theorem Jai {p:Prop} [Decidable p]:(true=decide p)↔p:=by rw [eq_comm];simp
end Go.Proofs.W

namespace Go.Proofs.W
open Go.Vl
set_option maxRecDepth 100000
def u64 (n:Int):AV:= .v (.int .u64 n)
def JD (c:Cnd):AV:= .ag [int c.arg,int c.op,u64 c.mask,u64 c.value]
def JW (l:List Cnd):AV:=JN 4 JD cnd0 l
theorem JeT (b:Bool):Tells Tryz.prog 84 [Jb b] (.tup [JD (isC b).1,int (isC b).2]):=by
 refine Jf Tryz.func84 rfl rfl fun nx=> ?_
 cases b
 ·refine stp ?_
  exact Jh rfl ⟨rfl,trivial⟩ Rf
 ·refine stp ?_
  exact Jh rfl ⟨rfl,trivial⟩ Rf
theorem JgX (c:Cnd) (op:Int) (v:Nat):Tells Tryz.prog 241 [JD c,int op,u64 v] (.tup [JD (asC c op v).1,int (asC c op v).2]):=by
 refine Jf Tryz.func241 rfl rfl fun nx=> ?_
 refine stp ?_
 exact Jh rfl ⟨rfl,trivial⟩ Rf
theorem JfG (c:Cnd):Tells Tryz.prog 83 [JD c] (Jb (JU c)):=by
 refine Jf Tryz.func83 rfl rfl fun nx=> ?_
 (repeat' (refine stp ?_;intro c h;cases c))
 all_goals
  refine stp ?_
  refine Jd rfl (Jt ?_)
  (try simp only [J3, J4, Jah, Jai, Jaa, Jab] at *)
  simp [JU]
  omega
theorem Jke (c:Cnd) (v:Nat):Tells Tryz.prog 154 [JD c,u64 v] (.tup [JD (Jbb c v).1,int (Jbb c v).2]):=by
 refine Jf Tryz.func154 rfl rfl fun nx=> ?_
 refine stp ?_
 intro c h1;cases c
 ·refine stp ?_
  intro c h2;cases c
  ·refine stp ?_
   refine Je rfl rfl (JgX c 3 v) ⟨Rf,Rf,Rf,trivial⟩ fun nx=> ?_
   refine stp ?_
   (try simp only [J3, J4, Jah, Jai, Jaa, Jab] at *)
   rw [Jbb,if_neg Om,if_neg Om]
   exact Jh rfl ⟨rfl,trivial⟩ Rf
  ·refine stp ?_
   refine Je rfl rfl (JgX c 1 0) ⟨Rf,Rf,Rf,trivial⟩ fun nx=> ?_
   refine stp ?_
   (try simp only [J3, J4, Jah, Jai, Jaa, Jab] at *)
   rw [Jbb,if_neg Om,if_pos Om]
   exact Jh rfl ⟨rfl,trivial⟩ Rf
 ·refine stp ?_
  refine Je rfl rfl (JeT false) ⟨Rf,trivial⟩ fun nx=> ?_
  refine stp ?_
  (try simp only [J3, J4, Jah, Jai, Jaa, Jab] at *)
  rw [Jbb,if_pos Om]
  exact Jh rfl ⟨rfl,trivial⟩ Rf
theorem Jl2 (c:Cnd) (v:Nat):Tells Tryz.prog 156 [JD c,u64 v] (.tup [JD (JbL c v).1,int (JbL c v).2]):=by
 refine Jf Tryz.func156 rfl rfl fun nx=> ?_
 refine stp ?_
 intro c h1;cases c
 ·refine stp ?_
  intro c h2;cases c
  ·refine stp ?_
   refine Je rfl rfl (JgX c 6 v) ⟨Rf,Rf,Rf,trivial⟩ fun nx=> ?_
   refine stp ?_
   (try simp only [J3, J4, Jah, Jai, Jaa, Jab] at *)
   rw [JbL,if_neg Om,if_neg Om]
   exact Jh rfl ⟨rfl,trivial⟩ Rf
  ·refine stp ?_
   refine Je rfl rfl (JgX c 1 v) ⟨Rf,Rf,Rf,trivial⟩ fun nx=> ?_
   refine stp ?_
   (try simp only [J3, J4, Jah, Jai, Jaa, Jab] at *)
   rw [JbL,if_neg Om,if_pos Om]
   exact Jh rfl ⟨rfl,trivial⟩ Rf
 ·refine stp ?_
  refine Je rfl rfl (JeT true) ⟨Rf,trivial⟩ fun nx=> ?_
  refine stp ?_
  (try simp only [J3, J4, Jah, Jai, Jaa, Jab] at *)
  rw [JbL,if_pos Om]
  exact Jh rfl ⟨rfl,trivial⟩ Rf
theorem Jkf {a b:Nat} (ha:a < 18446744073709551616) (hb:b < 18446744073709551616):Jcb .andNot .u64 a b=((Jhn a b:Nat):Int):=
 Jpw (k:= .u64) ha hb (by
  have:a&&& (2 ^ IntKind.u64.bits - 1 - b)≤a:=Nat.and_le_left
  have:a&&& (2 ^ IntKind.u64.bits - 1 - b) < 18446744073709551616:=by omega
  simp [IntKind.wrap,IntKind.signed,IntKind.bits] at this⊢
  omega)
theorem Js6 (c:Cnd) (ho:c.ok):Tells Tryz.prog 152 [JD c] (.tup [JD (JdJ c).1,int (JdJ c).2]):=by
 refine Jf Tryz.func152 rfl rfl fun nx=> ?_
 refine stp ?_
 intro c h1;cases c
 all_goals
  rw [Jkf ho.2 ho.1] at h1
 ·refine stp ?_
  intro c h2;cases c
  ·refine stp ?_
   intro c h3;cases c
   ·refine stp ?_
    (try simp only [J3, J4, Jah, Jai, Jaa, Jab] at *)
    rw [JdJ,if_neg Om,if_neg Om,if_neg Om]
    exact Jh rfl ⟨rfl,trivial⟩ Rf
   ·refine stp ?_
    refine Je rfl rfl (JgX c 1 c.value) ⟨Rf,Rf,Rf,trivial⟩ fun nx=> ?_
    refine stp ?_
    (try simp only [J3, J4, Jah, Jai, Jaa, Jab] at *)
    rw [JdJ,if_neg Om,if_neg Om,if_pos Om]
    exact Jh rfl ⟨rfl,trivial⟩ Rf
  ·refine stp ?_
   refine Je rfl rfl (JeT true) ⟨Rf,trivial⟩ fun nx=> ?_
   refine stp ?_
   (try simp only [J3, J4, Jah, Jai, Jaa, Jab] at *)
   rw [JdJ,if_neg Om,if_pos Om]
   exact Jh rfl ⟨rfl,trivial⟩ Rf
 ·refine stp ?_
  refine Je rfl rfl (JeT false) ⟨Rf,trivial⟩ fun nx=> ?_
  refine stp ?_
  (try simp only [J3, J4, Jah, Jai, Jaa, Jab] at *)
  rw [JdJ,if_pos Om]
  exact Jh rfl ⟨rfl,trivial⟩ Rf
theorem Jl3 (c:Cnd):Tells Tryz.prog 151 [JD c] (.tup [JD c,int 0]):=by
 refine Jf Tryz.func151 rfl rfl fun nx=> ?_
 refine stp ?_
 exact Jh rfl ⟨rfl,trivial⟩ Rf
theorem Jre (c:Cnd):Tells Tryz.prog 153 [JD c] (.tup [JD (Jbb c c.value).1,int (Jbb c c.value).2]):=by
 refine Jf Tryz.func153 rfl rfl fun nx=> ?_
 refine stp ?_
 refine Je rfl rfl (Jke c c.value) ⟨Rf,Rf,trivial⟩ fun nx=> ?_
 refine stp ?_
 exact Jh rfl ⟨rfl,trivial⟩ Rf
theorem Jrf (c:Cnd):Tells Tryz.prog 155 [JD c] (.tup [JD (JbL c c.value).1,int (JbL c c.value).2]):=by
 refine Jf Tryz.func155 rfl rfl fun nx=> ?_
 refine stp ?_
 refine Je rfl rfl (Jl2 c c.value) ⟨Rf,Rf,trivial⟩ fun nx=> ?_
 refine stp ?_
 exact Jh rfl ⟨rfl,trivial⟩ Rf
def Jkg (c:Cnd):Cnd×Nat:=if c.value=18446744073709551615 then isC true else Jbb c (c.value+1)
def Jh7 (c:Cnd):Cnd×Nat:=if c.value=18446744073709551615 then isC false else JbL c (c.value+1)
theorem Jho {v:Nat} (h:v < 18446744073709551616) (h2:v≠18446744073709551615):IntKind.u64.wrap ((v:Int)+1)=((v+1:Nat):Int):=by
 simp [IntKind.wrap,IntKind.signed,IntKind.bits]
 omega
theorem Jkh {a b:Int} (h:a=b):AVle (.v (.int .u64 a)) (u64 b):=h ▸ Rf
theorem Jrg (c:Cnd) (ho:c.ok):Tells Tryz.prog 157 [JD c] (.tup [JD (Jkg c).1,int (Jkg c).2]):=by
 refine Jf Tryz.func157 rfl rfl fun nx=> ?_
 refine stp ?_
 intro c h1;cases c
 · (try simp only [J3, J4, Jah, Jai, Jaa, Jab] at *)
   have h2:c.value≠18446744073709551615:=by omega
   refine stp ?_
   refine Je rfl rfl (Jke c (c.value+1)) ⟨Rf,Jkh (Jho ho.2 h2),trivial⟩ fun nx=> ?_
   refine stp ?_
   rw [Jkg,if_neg h2]
   exact Jh rfl ⟨rfl,trivial⟩ Rf
 ·refine stp ?_
  refine Je rfl rfl (JeT true) ⟨Rf,trivial⟩ fun nx=> ?_
  refine stp ?_
  (try simp only [J3, J4, Jah, Jai, Jaa, Jab] at *)
  rw [Jkg,if_pos Om]
  exact Jh rfl ⟨rfl,trivial⟩ Rf
theorem Jrh (c:Cnd) (ho:c.ok):Tells Tryz.prog 158 [JD c] (.tup [JD (Jh7 c).1,int (Jh7 c).2]):=by
 refine Jf Tryz.func158 rfl rfl fun nx=> ?_
 refine stp ?_
 intro c h1;cases c
 · (try simp only [J3, J4, Jah, Jai, Jaa, Jab] at *)
   have h2:c.value≠18446744073709551615:=by omega
   refine stp ?_
   refine Je rfl rfl (Jl2 c (c.value+1)) ⟨Rf,Jkh (Jho ho.2 h2),trivial⟩ fun nx=> ?_
   refine stp ?_
   rw [Jh7,if_neg h2]
   exact Jh rfl ⟨rfl,trivial⟩ Rf
 ·refine stp ?_
  refine Je rfl rfl (JeT false) ⟨Rf,trivial⟩ fun nx=> ?_
  refine stp ?_
  (try simp only [J3, J4, Jah, Jai, Jaa, Jab] at *)
  rw [Jh7,if_pos Om]
  exact Jh rfl ⟨rfl,trivial⟩ Rf
def fn0 (f:Nat):AV:= .fn (.func f) [] []
def Jgb:List (Value×AV):= [(.int .i64 1,fn0 151),(.int .i64 2,fn0 151),(.int .i64 7,fn0 152),(.int .i64 3,fn0 153),(.int .i64 6,fn0 155),(.int .i64 4,fn0 157),(.int .i64 5,fn0 158)]
theorem Jri:Tells Tryz.prog 85 [] (.fm Jgb):=by
 refine Jf Tryz.func85 rfl rfl fun nx=> ?_
 (repeat ((conv=>whnf);first|refine ω0 ?_|refine ω1 ?_|refine ω2 ?_|refine ω3 ?_|refine ω4 rfl ?_|refine ω5 rfl ?_|refine ω6 ?_|refine ω7 ?_|refine ⟨rfl,?_⟩|refine ⟨trivial,?_⟩|refine ⟨⟨rfl,Nat.le_of_ble_eq_true rfl⟩,?_⟩|refine ⟨⟨by kernel_rfl,by kernel_rfl⟩,?_⟩|refine ⟨by decide,?_⟩|refine Jf8 ?_|refine Jfl ?_))
 refine AW.le (JcI (L:= [(0, .fm Jgb)]) (bx:= []) (pm:= []) (nn:=0) [((0,nx), .mp Jgb)] rfl rfl Sf .slnil ⟨Frz.om (.head _),trivial⟩) ?_
 refine stp ?_
 refine Jd rfl Rf
end Go.Proofs.W

namespace Go.Proofs
open Go.Shelf
shelf_lay Lays.n160 Nm 160 at Tryz as Tryz.lays160
shelf_lay Lays.n137 Nm 137 at Tryz as Tryz.lays137
end Go.Proofs
namespace Go.Proofs.W
open Go.Vl Go.Shelf
set_option maxRecDepth 100000
def lettersB:ByteArray:=⟨#[97,98,99,100,101,102,103,104,105,106,107,108,109,110,111,112,113,114,115,116,117,118,119,120,121,122]⟩
def signsB:ByteArray:=⟨#[97,98,99,100,101,102,103,104,105,106,107,108,109,110,111,112,113,114,115,116,117,118,119,120,121,122,48,49,50,51,52,53,54,55,56,57,95]⟩
theorem Js7 (s:ByteArray) (hs:s.size≤9223372036854775807):Tells Tryz.prog 255 [.v (.string s), .v (.string signsB)] (.v (.string ⟨(Lib.trimS s.data.toList signsB.data.toList).toArray⟩)):=
 JcV (vs:= [.string s, .string signsB]) ⟨_,Tryz.func255,rfl,rfl⟩ fun w=> Any.strings_Trim_laid Tryz.lays160 (by kernel_rfl) s signsB w hs Dc (ascii_of_all Dc)
theorem Joc (s:ByteArray) (c:Int):Tells Tryz.prog 256 [.v (.string s), .v (.int .u8 c)] (.v (.int .i64 (Lib.indexByte s.data.toList c.toNat.toUInt8))):=
 JcV (vs:= [.string s, .int .u8 c]) ⟨_,Tryz.func256,rfl,rfl⟩ fun w=> (Any.strings_IndexByte Tryz.lays137 s c w).mono fun e w' ⟨h1,h2⟩=> ⟨h1,by subst h2;exact ⟨rfl,rfl,rfl,Nat.le_refl _,fun _ _=> rfl⟩⟩
theorem Jgu {p:UInt8→Bool}:∀ {l:List UInt8},l.dropWhile p= []↔l.all p=true
 | []=> by simp
 | x::l=> by
   rw [List.dropWhile_cons,List.all_cons]
   cases h:p x
   ·simp
   ·simp only [if_true,Bool.true_and];exact Jgu
theorem Jki {p:UInt8→Bool}:∀ {l:List UInt8} {y:UInt8} {ys:List UInt8},l.dropWhile p=y::ys→p y=false
 | [],y,ys,h=> by simp at h
 | x::l,y,ys,h=> by
   rw [List.dropWhile_cons] at h
   cases hx:p x
   ·rw [hx] at h
    simp at h
    rw [← h.1];exact hx
   ·rw [hx] at h
    simp only [if_true] at h
    exact Jki h
theorem Jl4 (l cs:List UInt8):Lib.trimS l cs= []↔l.all (cs.contains ·)=true:=by
 unfold Lib.trimS Lib.trimLeftS Lib.trimRightS
 rw [Jgu,List.all_reverse]
 constructor
 ·intro h
  cases hq:l.reverse.dropWhile (cs.contains ·) with
  | nil=> rw [Jgu,List.all_reverse] at hq;exact hq
  | cons y ys=>
    have hy:=Jki hq
    rw [hq,List.all_cons,hy] at h
    cases h
 ·intro h
  have:l.reverse.dropWhile (cs.contains ·)= []:=by rw [Jgu,List.all_reverse];exact h
  rw [this];rfl
theorem Jrj (l:List UInt8) (c:UInt8):(0≤Lib.indexByte l c↔c∈l)∧-1≤Lib.indexByte l c:=by
 induction l with
 | nil=> simp [Lib.indexByte]
 | cons b l ih=>
   obtain ⟨h1,h2⟩:=ih
   unfold Lib.indexByte
   by_cases hb:b=c
   ·subst hb;simp
   ·have hbe:(b ==c)=false:=by simpa using hb
    rw [hbe]
    simp only [Bool.false_eq_true,if_false]
    by_cases hi:Lib.indexByte l c=-1
    ·have:¬c∈l:=fun h=> by have:=h1.2 h;omega
     rw [if_pos (by rw [hi];rfl)]
     simp [this,Ne.symm hb]
    ·rw [if_neg (by simpa using hi)]
     have hm:c∈l:=h1.1 Om
     simp [hm]
     omega
def Jea:List UInt8:= [100,101,102,97,117,108,116]
def Jjz:List UInt8:= [120,51,50]
def Jag (l:List UInt8):Bool:= !(l == [])&& (!(l ==Jea)&& (!(l ==Jjz)&& (decide (l.length≤30)&& (l.all (signsB.data.toList.contains ·)&& lettersB.data.toList.contains (l.headD 0)))))
theorem Jrk {l:List UInt8} (h:false= !(l == [])):Jag l=false:=by rw [Jag,← h];rfl
theorem Jrl {l:List UInt8} (h:false= !(l ==Jea)):Jag l=false:=by rw [Jag,← h];simp
theorem Jrm {l:List UInt8} (h:false= !(l ==Jjz)):Jag l=false:=by rw [Jag,← h];simp
theorem Jrn {l:List UInt8} (h:¬l.length≤30):Jag l=false:=by rw [Jag,decide_eq_false h];simp
theorem Jro {l : List UInt8} (h : ¬ l.all (signsB.data.toList.contains ·) = true) : Jag l = false := by rw [Jag, Bool.not_eq_true _ |>.mp h]; simp
theorem JuW {l:List UInt8} (h1:true= !(l == [])) (h2:true= !(l ==Jea)) (h3:true= !(l ==Jjz)) (h4:l.length≤30) (h5:l.all (signsB.data.toList.contains ·)=true):Jag l=lettersB.data.toList.contains (l.headD 0):=by
 rw [Jag,← h1,← h2,← h3,decide_eq_true h4,h5];rfl
theorem Jod {s:ByteArray} (h:¬s.data.toList= []):0 < s.size:=by
 rcases Nat.eq_zero_or_pos s.size with h0 | h0
 ·exfalso;apply h
  have:s.data.toList.length=0:=h0
  exact List.length_eq_zero_iff.1 this
 ·exact h0
theorem Js8 (l:List UInt8):(⟨l.toArray⟩:ByteArray).toList=l:=by rw [Lib.toList_data]
theorem Jkj (s:ByteArray) (hs:s.size≤9223372036854775807):Tells Tryz.prog 185 [.v (.string s)] (Jb (Jag s.data.toList)):=by
 have hsz:s.size=s.data.toList.length:=rfl
 refine Jf Tryz.func185 rfl rfl fun nx=> ?_
 refine stp ?_
 intro c t1
 rw [Lib.toList_data,Lib.toList_data] at t1
 cases c
 ·refine stp ?_
  exact Jd rfl (Jt (Jrk t1).symm)
 refine stp ?_
 intro c t2
 rw [Lib.toList_data,Lib.toList_data] at t2
 cases c
 ·refine stp ?_
  exact Jd rfl (Jt (Jrl t2).symm)
 refine stp ?_
 intro c t3
 rw [Lib.toList_data,Lib.toList_data] at t3
 cases c
 ·refine stp ?_
  exact Jd rfl (Jt (Jrm t3).symm)
 refine stp ?_
 intro c t4;cases c
 ·refine stp ?_
  exact Jd rfl (Jt (Jrn (by have:=Jm t4;omega)).symm)
 have h4:s.data.toList.length≤30:=by have:=Jn t4;omega
 refine stp ?_
 refine Je rfl rfl (Js7 s hs) ⟨Rf,Rf,trivial⟩ fun nx1=> ?_
 refine stp ?_
 intro c t5
 rw [Js8,Lib.toList_data] at t5
 cases c
 ·have h5:¬Lib.trimS s.data.toList signsB.data.toList= []:=by simpa using t5
  rw [Jl4] at h5
  refine stp ?_
  exact Jd rfl (Jt (Jro h5).symm)
 have h5:Lib.trimS s.data.toList signsB.data.toList= []:=by simpa using t5
 rw [Jl4] at h5
 have h0:¬s.data.toList= []:=by simpa using t1
 refine stp ?_
 refine ⟨⟨by decide,by have:=Jod h0;show (0:Int) < (s.size:Int);omega⟩, ?_⟩
 refine stp ?_
 refine Je rfl rfl (Joc lettersB _) ⟨Rf,Rf,trivial⟩ fun nx2=> ?_
 refine stp ?_
 intro c t6
 refine stp ?_
 have e1:(((s.data.getD (Int.toNat 0) 0).toNat:Int)).toNat.toUInt8=s.data.toList.headD 0:=by
  have hh:s.data.getD 0 0=s.data.toList.headD 0:=by
   have:=Jod h0
   cases hq:s.data.toList with
   | nil=> exact absurd hq h0
   | cons x xs=>
     have h2:s.data=(x::xs).toArray:=by rw [← hq]
     rw [h2];rfl
  show (((s.data.getD 0 0).toNat:Int)).toNat.toUInt8=_
  rw [hh,Int.toNat_natCast]
  simp
 refine Jd rfl (Jt (t6.trans ?_))
 rw [JuW t1 t2 t3 h4 h5,e1,Bool.eq_iff_iff,decide_eq_true_eq]
 exact (Jrj _ _).1.trans (by simp)
end Go.Proofs.W

namespace Go.Proofs.W
open Go.Vl
set_option maxRecDepth 100000
theorem NoId.fm {es:List (Value×AV)} (h:∀p∈es,NoId p.2):NoId (.fm es):=fun w X g g' u hr=> by
 cases hr with
 | fm _ b ents hb hx hn hk hr=> exact .fm es b ents hb hx hn hk fun k p e hp he=> h p (List.mem_of_getElem? hp) w X g g' _ (hr k p e hp he)
theorem Jrp:NoId (.fm Jgb):=NoId.fm (by
 intro p hp
 simp only [Jgb,List.mem_cons,List.not_mem_nil,or_false] at hp
 rcases hp with rfl | rfl | rfl | rfl | rfl | rfl | rfl <;> exact NoId.fn (by simp) (by simp))
theorem JuX (c:Cnd) (n:Int):NoId (.tup [JD c,int n]):=NoId.tup (by
 intro x hx
 simp only [List.mem_cons,List.not_mem_nil,or_false] at hx
 rcases hx with rfl | rfl
 ·exact NoId.ag (by intro y hy;simp only [List.mem_cons,List.not_mem_nil,or_false] at hy;rcases hy with rfl | rfl | rfl | rfl <;> exact NoId.v _)
 ·exact NoId.v _)
theorem Js9 (c:Cnd) (ho:c.ok):Tells Tryz.prog 35 [JD c] (.tup [JD (JaE c).1,int (JaE c).2]):=by
 cases hr:JU c
 ·refine Jf Tryz.func35 rfl rfl fun nx=> ?_
  refine stp ?_
  refine Je rfl rfl (JfG c) ⟨Rf,trivial⟩ fun nx=> ?_
  rw [hr]
  refine stp ?_
  refine Je rfl rfl (JeT false) ⟨Rf,trivial⟩ fun nx=> ?_
  refine stp ?_
  rw [JaE,hr]
  exact Jh rfl ⟨rfl,trivial⟩ Rf
 ·have hop:=JbX.1 hr
  have key:∀f:Nat,∀q:Cnd×Nat,Ja2 c=q→Jbi (.int .i64 c.op) Jgb=some (fn0 f)→Tells Tryz.prog f [JD c] (.tup [JD q.1,int q.2])→Tells Tryz.prog 35 [JD c] (.tup [JD (JaE c).1,int (JaE c).2]):=by
   intro f q hq hal hf
   refine Jf Tryz.func35 rfl rfl fun nx=> ?_
   refine stp ?_
   refine Je rfl rfl (JfG c) ⟨Rf,trivial⟩ fun nx=> ?_
   rw [hr]
   refine stp ?_
   (refine Ju 8 ?_ ?_ ?_ ?_;(· kernel_rfl);(· kernel_rfl);(· kernel_rfl))
   refine stp ?_
   refine JP (Jz rfl rfl Jri trivial Jrp) ?_
   refine stp ?_
   refine Jj (b:=fn0 f) (by
    show Je7 (Jbi (.int .i64 c.op) Jgb) _ false=_
    rw [hal];rfl) ?_
   refine stp ?_
   refine JP (Jz rfl rfl hf ⟨Rf,trivial⟩ (JuX _ _)) ?_
   refine stp ?_
   rw [JaE,if_pos hr,hq]
   exact Jh rfl ⟨rfl,trivial⟩ Rf
  obtain ⟨arg,op,mask,value⟩:=c
  dsimp only at hop
  have h7:op=1∨op=2∨op=3∨op=4∨op=5∨op=6∨op=7:=by omega
  rcases h7 with rfl | rfl | rfl | rfl | rfl | rfl | rfl
  ·exact key _ (⟨arg,1,mask,value⟩,0) rfl rfl (Jl3 _)
  ·exact key _ (⟨arg,2,mask,value⟩,0) rfl rfl (Jl3 _)
  ·exact key _ (Jbb ⟨arg,3,mask,value⟩ value) rfl rfl (Jre _)
  ·exact key _ (Jkg ⟨arg,4,mask,value⟩) rfl rfl (Jrg _ ho)
  ·exact key _ (Jh7 ⟨arg,5,mask,value⟩) rfl rfl (Jrh _ ho)
  ·exact key _ (JbL ⟨arg,6,mask,value⟩ value) rfl rfl (Jrf _)
  ·exact key _ (JdJ ⟨arg,7,mask,value⟩) rfl rfl (Js6 _ ho)
theorem Joe (c:Cnd):Tells Tryz.prog 235 [JD c] (Jb (JU c)):=by
 refine Jf Tryz.func235 rfl rfl fun nx=> ?_
 (repeat' (refine stp ?_;intro c h;cases c))
 all_goals
  refine stp ?_
  refine Jd rfl (Jt ?_)
  (try simp only [J3, J4, Jah, Jai, Jaa, Jab] at *)
  simp [JU]
  omega
theorem Jta {a b:Nat} (ha:a < 18446744073709551616) (hb:b < 18446744073709551616):Jcb .or .u64 a b=((a||| b:Nat):Int):=
 Jp9 (k:= .u64) ha hb (by
  have:a||| b < 2 ^ 64:=Nat.or_lt_two_pow ha hb
  simp [IntKind.wrap,IntKind.signed,IntKind.bits] at this⊢
  omega)
theorem Jwp {a b:Nat} (ha:a < 18446744073709551616) (hb:b < 18446744073709551616):Jcb .and .u64 a b=((a&&& b:Nat):Int):=
 JuP (k:= .u64) ha hb (by
  have:a&&& b≤a:=Nat.and_le_left
  simp [IntKind.wrap,IntKind.signed,IntKind.bits] at this⊢
  omega)
end Go.Proofs.W

namespace Go.Proofs.W
open Go.Vl
set_option maxRecDepth 100000
def Jg (s:ByteArray):AV:= .v (.string s)
def Jrq:List AV:= [
 .ag [Jg ⟨#[61,61]⟩,fn0 159],
 .ag [Jg ⟨#[33,61]⟩,fn0 160],
 .ag [Jg ⟨#[60]⟩,fn0 161],
 .ag [Jg ⟨#[60,61]⟩,fn0 162],
 .ag [Jg ⟨#[62]⟩,fn0 163],
 .ag [Jg ⟨#[62,61]⟩,fn0 164],
 .ag [Jg ⟨#[38]⟩,fn0 165]]
theorem JuY:Tells Tryz.prog 86 [] (.sl 2 7 (JdS Jrq)):=by
 refine Jf Tryz.func86 rfl rfl fun nx=> ?_
 refine stp ?_
 refine Jd rfl (Jla ⟨⟨⟨⟨⟨⟨⟨trivial,rfl⟩,rfl⟩,rfl⟩,rfl⟩,rfl⟩,rfl⟩,rfl⟩)
theorem Jl5 (c:Cnd):NoId (JD c):=NoId.ag (by intro y hy;simp only [List.mem_cons,List.not_mem_nil,or_false] at hy;rcases hy with rfl | rfl | rfl | rfl <;> exact NoId.v _)
theorem JuZ:NoId (.sl 2 7 (JdS Jrq)):=NoId.sl (by
 intro i hi x hx
 match i,hi with
 | 0,_ | 1,_ | 2,_ | 3,_ | 4,_ | 5,_ | 6,_=> rcases List.mem_cons.1 hx with rfl | hx;exact NoId.v _;rcases List.mem_cons.1 hx with rfl | hx;exact NoId.fn (by simp) (by simp);cases hx)
end Go.Proofs.W

namespace Go.Proofs.W
open Go.Vl
set_option maxRecDepth 100000
def Jfn (n:Int):AV:= .fn (.func 362) [] [.rp [int n]]
theorem Ju0 (n:Int) (h:0≤n∧n≤100000):Tells Tryz.prog 362 [.rp [int n]] (int (n - 1)):=by
 refine Jf Tryz.func362 rfl rfl fun nx=> ?_
 refine stp ?_
 refine Jd rfl (Jl (Jac Om Om))
theorem Jof (n:Int):Tells Tryz.prog 301 [int n] (Jfn n):=by
 refine Jf Tryz.func301 rfl rfl fun nx=> ?_
 (repeat ((conv=>whnf);first|refine ω0 ?_|refine ω1 ?_|refine ω2 ?_|refine ω3 ?_|refine ω4 rfl ?_|refine ω5 rfl ?_|refine ω6 ?_|refine ω7 ?_|refine ⟨rfl,?_⟩|refine ⟨trivial,?_⟩|refine ⟨⟨rfl,Nat.le_of_ble_eq_true rfl⟩,?_⟩|refine ⟨⟨by kernel_rfl,by kernel_rfl⟩,?_⟩|refine ⟨by decide,?_⟩|refine Jf8 ?_|refine Jfl ?_))
 refine AW.le (JcI (L:= [(2,Jfn n)]) (bx:= []) (pm:= []) (nn:=0) [((0,nx), .c [int n])] rfl rfl Sf Sf ⟨Frz.fn trivial ⟨Frz.bp (.head _) rfl,trivial⟩,trivial⟩) ?_
 refine stp ?_
 refine Jd rfl Rf
def JfH:List AV:= [
 .ag [.v (.string ⟨#[107,105,108,108]⟩), .v (.int .u32 2147483648), .v .nilFunc],
 .ag [.v (.string ⟨#[107,105,108,108,95,116,104,114,101,97,100]⟩), .v (.int .u32 0), .v .nilFunc],
 .ag [.v (.string ⟨#[116,114,97,112]⟩), .v (.int .u32 196608), .v .nilFunc],
 .ag [.v (.string ⟨#[101,114,114,110,111]⟩), .v (.int .u32 327680),Jfn 4096],
 .ag [.v (.string ⟨#[110,111,116,105,102,121]⟩), .v (.int .u32 2143289344), .v .nilFunc],
 .ag [.v (.string ⟨#[116,114,97,99,101]⟩), .v (.int .u32 2146435072),Jfn 65536],
 .ag [.v (.string ⟨#[108,111,103]⟩), .v (.int .u32 2147221504), .v .nilFunc],
 .ag [.v (.string ⟨#[97,108,108,111,119]⟩), .v (.int .u32 2147418112), .v .nilFunc]]
def Jrr:AV:= .sl 3 8 (JdS JfH)
theorem JjA:Tells Tryz.prog 246 [] Jrr:=by
 refine Jf Tryz.func246 rfl rfl fun nx=> ?_
 refine stp ?_
 refine Je rfl rfl (Jof 4096) ⟨Rf,trivial⟩ fun nx=> ?_
 refine stp ?_
 refine Je rfl rfl (Jof 65536) ⟨Rf,trivial⟩ fun nx=> ?_
 refine stp ?_
 refine Jd rfl (Jla ⟨⟨⟨⟨⟨⟨⟨⟨trivial,rfl⟩,rfl⟩,rfl⟩,rfl⟩,rfl⟩,rfl⟩,rfl⟩,rfl⟩)
theorem Jwq (k:Int) (h:k < 1∨8 < k):Tells Tryz.prog 172 [int k] (.tup [.ag [.v (.string ⟨#[]⟩), .v (.int .u32 0), .v .nilFunc],Jb false]):=by
 refine Jf Tryz.func172 rfl rfl fun nx=> ?_
 refine stp ?_
 refine Je rfl rfl JjA trivial fun nx=> ?_
 refine stp ?_
 intro c h1;cases c
 ·refine stp ?_
  intro c h2;cases c
  ·simp at h1 h2;omega
  ·refine stp ?_
   (refine Jh rfl ?_ ?_;(· exact ⟨rfl,trivial⟩));exact Rf
 ·refine stp ?_
  (refine Jh rfl ?_ ?_;(· exact ⟨rfl,trivial⟩));exact Rf
theorem Jog (k:Nat) (h:k < 8):Tells Tryz.prog 172 [int (k+1)] (.tup [JdS JfH k,Jb true]):=by
 refine Jf Tryz.func172 rfl rfl fun nx=> ?_
 refine stp ?_
 refine Je rfl rfl JjA trivial fun nx=> ?_
 refine stp ?_
 intro c h1;cases c
 ·refine stp ?_
  rcases k with _ | _ | _ | _ | _ | _ | _ | _ | k
  iterate 8
   ·refine ⟨⟨by decide,by decide⟩, ?_⟩
    refine stp ?_
    (refine Jh rfl ?_ ?_;(· exact ⟨rfl,trivial⟩));exact Rf
  ·omega
 ·simp at h1;omega
def JfI (k:Int):Int:=if k=4 then 4095 else if k=6 then 65535 else 0
theorem Jrs (k:Int):Tells Tryz.prog 298 [int k] (int (JfI k)):=by
 refine Jf Tryz.func298 rfl rfl fun nx=> ?_
 refine stp ?_
 intro c hc
 cases c
 ·refine stp ?_
  intro d hd
  cases d
  ·refine stp ?_
   refine Jd rfl (Jl ?_)
   simp at hc hd;simp [JfI,hc,hd]
  ·refine stp ?_
   refine Jd rfl (Jl ?_)
   simp at hc hd;simp [JfI,hc,hd]
 ·refine stp ?_
  refine Jd rfl (Jl ?_)
  simp at hc;simp [JfI,hc]
def act (k n:Int):AV:= .ag [int k,int n]
def JaA (k n:Int):Bool:=decide (1≤k)&& decide (k≤8)&& decide (0≤n)&& decide (n≤JfI k)
end Go.Proofs.W

namespace Go.Proofs.W
open Go.Vl
set_option maxRecDepth 100000
theorem JcB (s:ByteArray) (c:Int):Tells Tryz.prog 242 [.ag [.v (.string s), .v (.int .u32 c), .v .nilFunc]] (int 0):=by
 refine Jf Tryz.func242 rfl rfl fun nx=> ?_
 refine stp ?_
 refine Jd rfl Rf
theorem Jgv (s:ByteArray) (c n:Int) (h:0≤n∧n≤100000):Tells Tryz.prog 242 [.ag [.v (.string s), .v (.int .u32 c),Jfn n]] (int (n - 1)):=by
 refine Jf Tryz.func242 rfl rfl fun nx=> ?_
 refine stp ?_
 refine Je rfl rfl (Ju0 n h) ⟨Rf,trivial⟩ fun nx=> ?_
 refine stp ?_
 refine Jd rfl Rf
theorem Jhp (k:Nat) (h:k < 8):∃s c m,JdS JfH k= .ag [.v (.string s), .v (.int .u32 c),m]∧(m= .v .nilFunc∨∃n,m=Jfn n)∧Tells Tryz.prog 242 [JdS JfH k] (int (JfI (k+1))):=by
 rcases k with _ | _ | _ | _ | _ | _ | _ | _ | k
 ·exact ⟨_,_,_,rfl, .inl rfl,JcB _ _⟩
 ·exact ⟨_,_,_,rfl, .inl rfl,JcB _ _⟩
 ·exact ⟨_,_,_,rfl, .inl rfl,JcB _ _⟩
 ·exact ⟨_,_,_,rfl, .inr ⟨_,rfl⟩,Jgv _ _ 4096 Dc⟩
 ·exact ⟨_,_,_,rfl, .inl rfl,JcB _ _⟩
 ·exact ⟨_,_,_,rfl, .inr ⟨_,rfl⟩,Jgv _ _ 65536 Dc⟩
 ·exact ⟨_,_,_,rfl, .inl rfl,JcB _ _⟩
 ·exact ⟨_,_,_,rfl, .inl rfl,JcB _ _⟩
 ·omega
theorem Jrt {k n:Int} (h:k < 1∨8 < k):JaA k n=false:=by simp [JaA];omega
theorem Jxz (k n:Int) (m:AV) (s:ByteArray) (c:Int) (hm:m= .v .nilFunc∨∃n,m=Jfn n) (hk:1≤k∧k≤8)
 (h26:Tells Tryz.prog 172 [int k] (.tup [.ag [.v (.string s), .v (.int .u32 c),m],Jb true])) (h27:Tells Tryz.prog 242 [.ag [.v (.string s), .v (.int .u32 c),m]] (int (JfI k))):
 Tells Tryz.prog 167 [act k n] (Jb (JaA k n)):=by
 refine Jf Tryz.func167 rfl rfl fun nx=> ?_
 refine stp ?_
 refine Je rfl rfl h26 ⟨Rf,trivial⟩ fun nx=> ?_
 rcases hm with rfl | ⟨n',rfl⟩
 all_goals
  refine stp ?_
  (refine Ju 13 ?_ ?_ ?_ ?_;(· kernel_rfl);(· kernel_rfl);(· kernel_rfl))
  refine stp ?_
  intro c h1;cases c
  ·refine stp ?_
   refine Jd rfl (Jt ?_)
   simp at h1;simp [JaA];omega
  refine stp ?_
  refine JP (Jz rfl rfl h27 ⟨Rf,trivial⟩ (NoId.v _)) ?_
  refine stp ?_
  intro c h2;cases c
  ·refine stp ?_
   refine Jd rfl (Jt ?_)
   simp at h1 h2;simp [JaA];omega
  ·refine stp ?_
   refine Jd rfl (Jt ?_)
   simp at h1 h2;simp [JaA];omega
theorem JjB (k n:Int):Tells Tryz.prog 167 [act k n] (Jb (JaA k n)):=by
 by_cases hk:k < 1∨8 < k
 ·refine Jf Tryz.func167 rfl rfl fun nx=> ?_
  refine stp ?_
  refine Je rfl rfl (Jwq k hk) ⟨Rf,trivial⟩ fun nx=> ?_
  refine stp ?_
  (refine Ju 13 ?_ ?_ ?_ ?_;(· kernel_rfl);(· kernel_rfl);(· kernel_rfl))
  refine stp ?_
  refine Jd rfl (Jt (Jrt hk).symm)
 ·obtain ⟨j,hj,rfl⟩:∃j:Nat,j < 8∧k=(j:Int)+1:=⟨(k - 1).toNat,by omega,by omega⟩
  obtain ⟨s,c,m,hr,ho,hm⟩:=Jhp j hj
  have h26:=Jog j hj
  rw [hr] at h26 hm
  exact Jxz _ n m s c ho Om h26 hm
abbrev A2:=Int×Int
def Joh (a:A2):AV:=act a.1 a.2
theorem JgY {α:Type} {p:α→Bool} {l:List α} {i:Nat} (d:α) (hi:i < l.length) (hb:∀j,j < i→p (l.getD j d)=false) (h:p (l.getD i d)=true):l.findIdx? p=some i:=by
 rw [List.findIdx?_eq_some_iff_getElem]
 refine ⟨hi,by simpa [List.getD,hi] using h,fun j hj=> ?_⟩
 have:=hb j hj
 have hj':j < l.length:=by omega
 simpa [List.getD,hj'] using this
theorem JeU {α:Type} {p:α→Bool} {l:List α} (d:α) (hb:∀j,j < l.length→p (l.getD j d)=false):l.findIdx? p=none:=by
 rw [List.findIdx?_eq_none_iff]
 intro x hx
 obtain ⟨j,hj,rfl⟩:=List.getElem_of_mem hx
 have:=hb j hj
 simpa [List.getD,hj] using this
def JgK:Option Nat→Int
 | some i=> i
 | none=> -1
theorem Jfe (o:Option Nat):decide (0≤JgK o)=o.isSome:=by cases o <;> simp [JgK]
end Go.Proofs.W

namespace Go.Proofs.W
open Go.Vl
set_option maxRecDepth 100000
structure Rul where
 name:ByteArray
 act:A2
 conds:List Cnd
structure Pol where
 dflt:A2
 x32:Bool
 rules:List Rul
def rul0:Rul:=⟨⟨#[]⟩,(0,0), []⟩
def Jaj (r:Rul):AV:= .ag [Jg r.name,int r.act.1,int r.act.2,JW r.conds]
def Ji (l:List Rul):AV:=JN 4 Jaj rul0 l
def JaL (p:Pol):AV:= .ag [int p.dflt.1,int p.dflt.2,Jb p.x32,Ji p.rules]
theorem Ju1 (l:List Int) (p:Int→Bool) (f:Nat) (hl:l.length≤1000000000) (hp:∀i,i < l.length→Tells Tryz.prog f [int (l.getD i 0)] (Jb (p (l.getD i 0)))):
 Tells Tryz.prog 317 [JN 1 int 0 l,fn0 f] (int (JgK (l.findIdx? p))):=by
 refine Jf Tryz.func317 rfl rfl fun nx=> ?_
 refine stp ?_
 refine Jo (fun s:Nat×Nat=> mk 19 [(0,JN 1 int 0 l),(1,fn0 f),(7,int l.length),(8,int s.1)] ⟨[], [],s.2,0⟩) (fun s=> s.1≤l.length∧∀j,j < s.1→p (l.getD j 0)=false) (fun s=> l.length - s.1) ?_ ?_
 ·exact ⟨(0,nx),⟨by simp,by intro j hj;simp at hj⟩,J5 rfl rfl ⟨Rf,Rf,Rf,Rf,trivial⟩⟩
 ·rintro ⟨i,nx⟩ ⟨h1,h2⟩
  dsimp only at h1 h2
  refine stp ?_
  intro c h3;cases c
  ·have h3:=Jm h3
   dsimp only at h3
   refine stp ?_
   refine Jd rfl (Jl ?_)
   rw [JeU 0 (fun j hj=> h2 j Om)];rfl
  ·have h3:=Jn h3
   dsimp only at h3
   have hi:i < l.length:=by omega
   refine stp ?_
   refine ⟨⟨by dsimp only;omega,by dsimp only;omega⟩, ?_⟩
   refine stp ?_
   refine Je rfl rfl (hp i hi) ⟨Rf,trivial⟩ fun nx'=> ?_
   intro c h4;cases c
   ·refine stp ?_
    refine back (i+1,nx') ⟨by dsimp only;omega,fun j hj=> ?_⟩ Dm (J5 rfl rfl ⟨Rf,Rf,Rf,Jl (JF Dm),trivial⟩)
    dsimp only at hj
    rcases Nat.lt_or_ge j i with h | h
    ·exact h2 j h
    ·obtain rfl:j=i:=by omega
     exact h4.symm
   ·refine stp ?_
    refine Jd rfl (Jl ?_)
    rw [JgY 0 hi h2 h4.symm];rfl
theorem Joi (l:List Int) (p:Int→Bool) (f:Nat) (hl:l.length≤1000000000) (hp:∀i,i < l.length→Tells Tryz.prog f [int (l.getD i 0)] (Jb (p (l.getD i 0)))):
 Tells Tryz.prog 257 [JN 1 int 0 l,fn0 f] (Jb (l.any p)):=by
 refine Jf Tryz.func257 rfl rfl fun nx=> ?_
 refine stp ?_
 refine Je rfl rfl (Ju1 l p f hl hp) ⟨Rf,Rf,trivial⟩ fun nx'=> ?_
 refine stp ?_
 intro c h;cases c
 all_goals
  refine stp ?_
  refine Jd rfl (Jt ?_)
  rw [h,← List.findIdx?_isSome]
  exact Jfe _
theorem Ju2 (l:List Cnd) (p:Cnd→Bool) (f:Nat) (hl:l.length≤1000000000) (hp:∀i,i < l.length→Tells Tryz.prog f [JD (l.getD i cnd0)] (Jb (p (l.getD i cnd0)))):
 Tells Tryz.prog 188 [JN 4 JD cnd0 l,fn0 f] (int (JgK (l.findIdx? p))):=by
 refine Jf Tryz.func188 rfl rfl fun nx=> ?_
 refine stp ?_
 refine Jo (fun s:Nat×Nat=> mk 19 [(0,JN 4 JD cnd0 l),(1,fn0 f),(7,int l.length),(8,int s.1)] ⟨[], [],s.2,0⟩) (fun s=> s.1≤l.length∧∀j,j < s.1→p (l.getD j cnd0)=false) (fun s=> l.length - s.1) ?_ ?_
 ·exact ⟨(0,nx),⟨by simp,by intro j hj;simp at hj⟩,J5 rfl rfl ⟨Rf,Rf,Rf,Rf,trivial⟩⟩
 ·rintro ⟨i,nx⟩ ⟨h1,h2⟩
  dsimp only at h1 h2
  refine stp ?_
  intro c h3;cases c
  ·have h3:=Jm h3
   dsimp only at h3
   refine stp ?_
   refine Jd rfl (Jl ?_)
   rw [JeU cnd0 (fun j hj=> h2 j Om)];rfl
  ·have h3:=Jn h3
   dsimp only at h3
   have hi:i < l.length:=by omega
   refine stp ?_
   refine ⟨⟨by dsimp only;omega,by dsimp only;omega⟩, ?_⟩
   refine stp ?_
   refine Je rfl rfl (hp i hi) ⟨Rf,trivial⟩ fun nx'=> ?_
   intro c h4;cases c
   ·refine stp ?_
    refine back (i+1,nx') ⟨by dsimp only;omega,fun j hj=> ?_⟩ Dm (J5 rfl rfl ⟨Rf,Rf,Rf,Jl (JF Dm),trivial⟩)
    dsimp only at hj
    rcases Nat.lt_or_ge j i with h | h
    ·exact h2 j h
    ·obtain rfl:j=i:=by omega
     exact h4.symm
   ·refine stp ?_
    refine Jd rfl (Jl ?_)
    rw [JgY cnd0 hi h2 h4.symm];rfl
theorem Joj (l:List Cnd) (p:Cnd→Bool) (f:Nat) (hl:l.length≤1000000000) (hp:∀i,i < l.length→Tells Tryz.prog f [JD (l.getD i cnd0)] (Jb (p (l.getD i cnd0)))):
 Tells Tryz.prog 102 [JN 4 JD cnd0 l,fn0 f] (Jb (l.any p)):=by
 refine Jf Tryz.func102 rfl rfl fun nx=> ?_
 refine stp ?_
 refine Je rfl rfl (Ju2 l p f hl hp) ⟨Rf,Rf,trivial⟩ fun nx'=> ?_
 refine stp ?_
 intro c h;cases c
 all_goals
  refine stp ?_
  refine Jd rfl (Jt ?_)
  rw [h,← List.findIdx?_isSome]
  exact Jfe _
theorem Ju3 (l:List Rul) (p:Rul→Bool) (f:Nat) (hl:l.length≤1000000000) (hp:∀i,i < l.length→Tells Tryz.prog f [Jaj (l.getD i rul0)] (Jb (p (l.getD i rul0)))):
 Tells Tryz.prog 106 [JN 4 Jaj rul0 l,fn0 f] (int (JgK (l.findIdx? p))):=by
 refine Jf Tryz.func106 rfl rfl fun nx=> ?_
 refine stp ?_
 refine Jo (fun s:Nat×Nat=> mk 19 [(0,JN 4 Jaj rul0 l),(1,fn0 f),(7,int l.length),(8,int s.1)] ⟨[], [],s.2,0⟩) (fun s=> s.1≤l.length∧∀j,j < s.1→p (l.getD j rul0)=false) (fun s=> l.length - s.1) ?_ ?_
 ·exact ⟨(0,nx),⟨by simp,by intro j hj;simp at hj⟩,J5 rfl rfl ⟨Rf,Rf,Rf,Rf,trivial⟩⟩
 ·rintro ⟨i,nx⟩ ⟨h1,h2⟩
  dsimp only at h1 h2
  refine stp ?_
  intro c h3;cases c
  ·have h3:=Jm h3
   dsimp only at h3
   refine stp ?_
   refine Jd rfl (Jl ?_)
   rw [JeU rul0 (fun j hj=> h2 j Om)];rfl
  ·have h3:=Jn h3
   dsimp only at h3
   have hi:i < l.length:=by omega
   refine stp ?_
   refine ⟨⟨by dsimp only;omega,by dsimp only;omega⟩, ?_⟩
   refine stp ?_
   refine Je rfl rfl (hp i hi) ⟨Rf,trivial⟩ fun nx'=> ?_
   intro c h4;cases c
   ·refine stp ?_
    refine back (i+1,nx') ⟨by dsimp only;omega,fun j hj=> ?_⟩ Dm (J5 rfl rfl ⟨Rf,Rf,Rf,Jl (JF Dm),trivial⟩)
    dsimp only at hj
    rcases Nat.lt_or_ge j i with h | h
    ·exact h2 j h
    ·obtain rfl:j=i:=by omega
     exact h4.symm
   ·refine stp ?_
    refine Jd rfl (Jl ?_)
    rw [JgY rul0 hi h2 h4.symm];rfl
theorem Ju4 (l:List Rul) (p:Rul→Bool) (f:Nat) (hl:l.length≤1000000000) (hp:∀i,i < l.length→Tells Tryz.prog f [Jaj (l.getD i rul0)] (Jb (p (l.getD i rul0)))):
 Tells Tryz.prog 168 [JN 4 Jaj rul0 l,fn0 f] (Jb (l.any p)):=by
 refine Jf Tryz.func168 rfl rfl fun nx=> ?_
 refine stp ?_
 refine Je rfl rfl (Ju3 l p f hl hp) ⟨Rf,Rf,trivial⟩ fun nx'=> ?_
 refine stp ?_
 intro c h;cases c
 all_goals
  refine stp ?_
  refine Jd rfl (Jt ?_)
  rw [h,← List.findIdx?_isSome]
  exact Jfe _
end Go.Proofs.W

namespace Go.Proofs.W
open Go.Vl
set_option maxRecDepth 100000
def Jru (s:ByteArray):AV:= .ag [Jg s,int (-1),int (-1),int (-1),int (-1),int (-1),int 0,int 0]
def Jcz (n:Int):Bool:=decide (n < -1)|| decide (n > 1073741823)
theorem Jh8 (n:Int):Tells Tryz.prog 258 [int n] (Jb (Jcz n)):=by
 refine Jf Tryz.func258 rfl rfl fun nx=> ?_
 refine stp ?_
 intro c t1;cases c
 ·refine stp ?_
  intro c t2;cases c
  ·refine stp ?_
   exact Jd rfl (Jt (by rw [Jcz,← t1,← t2];rfl))
  ·refine stp ?_
   exact Jd rfl (Jt (by rw [Jcz,← t1,← t2];rfl))
 ·refine stp ?_
  exact Jd rfl (Jt (by rw [Jcz,← t1];rfl))
theorem JpD (s:ByteArray):Tells Tryz.prog 186 [Jru s] (Jb true):=by
 have hc:=Joi [-1,-1,-1,-1,-1] Jcz 258 Dc (fun i _=> Jh8 _)
 rw [show [(-1:Int),-1,-1,-1,-1].any Jcz=false by decide] at hc
 refine Jf Tryz.func186 rfl rfl fun nx=> ?_
 (refine JB ?_;refine JE ?_;refine JB ?_)
 refine Jbq (n:=30) (nx:=nx+1) (nn:=1) (pm:= []) (bx:= []) (L:= [(1, .rp [Jg s,int (-1),int (-1),int (-1),int (-1),int (-1),int 0,int 0])]) (df:=some []) [((0,nx), .c [Jg s,int (-1),int (-1),int (-1),int (-1),int (-1),int 0,int 0])] rfl rfl rfl (List.Perm.refl _) Sf ⟨Frz.bp (.head _) rfl,trivial⟩ ?_
 refine JO (fun n=> match n with | 0=> true | _=> false) 2 ?_
 refine stp ?_
 refine JlT (n:=5) (e:=3) (cs:= [int (-1),int (-1),int (-1),int (-1),int (-1),int 0,int 0]) rfl rfl Tryz.underlying73 Tryz.underlying3 (by kernel_rfl) Dc Dc (by simp [int,AV.cells]) ?_
 refine stp ?_
 refine Je rfl rfl hc ⟨AVle.sl_fun fun k hk=> ?_,Rf,trivial⟩ fun nx1=> ?_
 ·match k,hk with
  | 0,_ | 1,_ | 2,_ | 3,_ | 4,_=> rfl
 refine stp ?_
 exact Jd rfl Rf
def m1A:AV:= .ag [int (-1),int (-1),int (-1),int (-1),int (-1)]
set_option maxHeartbeats 1000000 in
theorem Jm3 (s:ByteArray) (hs:s.size≤9223372036854775807) (b:Bool) (hb:Jag s.data.toList=b):Tells Tryz.prog 99 [.sl 8 1 (fun _=> Jru s)] (.tup [int 0,int (if b then 0 else 13)]):=by
 have hn:=Jkj s hs
 rw [hb] at hn
 have hr:=JpD s
 refine Jf Tryz.func99 rfl rfl fun nx=> ?_
 refine stp ?_
 refine Jo (fun y:Bool×Nat=> mk 88 [(2,int 0),(3,int 0),(14, .sl 8 1 (fun _=> Jru s)),(15,int 1),(16,int (bif y.1 then 1 else 0))] ⟨[], [],y.2,0⟩) (fun y=> y.1=true→b=true) (fun y=> if y.1 then 0 else 1) ?_ ?_
 ·exact ⟨(false,nx+1),(fun h=> by cases h),Jk (pm:= []) [] [] rfl rfl (List.nil_sublist _) Sf trivial trivial ⟨Rf,Rf,Rf,Rf,Rf,trivial⟩⟩
 ·rintro ⟨y,nx1⟩ hy
  cases y
  ·refine stp ?_
   refine ⟨⟨by show (0:Int)≤0;decide,by show (0:Int) < 1;decide⟩, ?_⟩
   refine stp ?_
   refine Je rfl rfl hn ⟨Rf,trivial⟩ fun nx2=> ?_
   cases b
   ·refine stp ?_
    exact Jd rfl Rf
   ·refine stp ?_
    (refine Ju 13 ?_ ?_ ?_ ?_;(· kernel_rfl);(· kernel_rfl);(· kernel_rfl))
    refine stp ?_
    refine Je rfl rfl hr ⟨Rf,trivial⟩ fun nx3=> ?_
    refine stp ?_
    refine Jo (fun z:Nat×Nat=> mk 88 [(2,int 0),(3,int 0),(5,int 0),(6, .bp (0,nx1) 0),(14, .sl 8 1 (fun _=> Jru s)),(15,int 1),(16,int 0),(59,m1A),(60,int z.1)] ⟨[((0,nx1), .c [Jg s,int (-1),int (-1),int (-1),int (-1),int (-1),int 0,int 0])], [],z.2,1⟩) (fun z=> z.1≤5) (fun z=> 5 - z.1) ?_ ?_
    ·exact ⟨(0,nx3),Nat.zero_le _,Jk (pm:= []) _ [] rfl rfl Sf Sf ⟨rfl,OwnLe.refl _,trivial⟩ trivial ⟨Rf,Rf,Rf,Rf,Rf,Rf,Rf,Rf,Rf,trivial⟩⟩
    ·rintro ⟨k,nx4⟩ hk
     dsimp only at hk
     rcases k with _ | _ | _ | _ | _ | _ | k
     iterate 5
      ·refine stp ?_
       refine back (_+1,nx4) Dm Dm (Jk (pm:= []) _ [] rfl rfl Sf Sf ⟨rfl,OwnLe.refl _,trivial⟩ trivial ⟨Rf,Rf,Rf,Rf,Rf,Rf,Rf,Rf,Rf,trivial⟩)
     ·refine stp ?_
      exact back (true,nx4) (fun _=> rfl) (by show 0 < 1;decide) (Jk (pm:= []) [] [] rfl rfl (List.nil_sublist _) Sf trivial trivial ⟨Rf,Rf,Rf,Rf,Rf,trivial⟩)
     ·omega
  ·have hbt:=hy rfl
   rw [hbt]
   refine stp ?_
   exact Jd rfl Rf
end Go.Proofs.W

namespace Go.Proofs.W
open Go.Vl
set_option maxRecDepth 100000
structure TRow where
 name:ByteArray
 a0:Int
 a1:Int
 a2:Int
 a3:Int
 a4:Int
 mux:Int
 sub:Int
def TRow.num (r:TRow):Nat→Int
 | 0=> r.a0
 | 1=> r.a1
 | 2=> r.a2
 | 3=> r.a3
 | _=> r.a4
def trow0:TRow:=⟨⟨#[]⟩,0,0,0,0,0,0,0⟩
def Ja3 (r:TRow):List AV:= [Jg r.name,int r.a0,int r.a1,int r.a2,int r.a3,int r.a4,int r.mux,int r.sub]
def Jq (r:TRow):AV:= .ag (Ja3 r)
def Jv (l:List TRow):AV:=JN 8 Jq trow0 l
def JxA (r:TRow):AV:= .ag [int r.a0,int r.a1,int r.a2,int r.a3,int r.a4]
theorem Jv8:PairT Tryz.prog 351 3:=⟨by kernel_rfl,by kernel_rfl,by kernel_rfl,by kernel_rfl,fun _=> rfl,fun _=> rfl,fun _ _=> rfl⟩
theorem Jwr:(Tryz.prog.info? 4).bind (·.zero)=some (.bool false):=by kernel_rfl
theorem JeV (s nx nn:Nat) (es:List (Int×Int)) (a n:Int):
 ECall Tryz.prog 187 [.om (0,s),int a,int n] ⟨[((0,s), .mp (es.map Jaf))], [],nx,1⟩ fun r h'=> ∃nx' nn',r=Jb (decide ((a,n)∈es))∧h'=⟨[((0,s), .mp ((JcW (a,n) es).map Jaf))], [],nx',nn'⟩:=by
 refine ECall.wk (J2 Tryz.func187 rfl rfl ?_)
 (refine JB ?_;refine JE ?_;refine JB ?_;refine JE ?_;refine JB ?_)
 refine AW.le (E':=mk 18 [(0, .om (0,s)),(6,Jb false),(7, .bp (1,nx) 0)] ⟨[((1,nx), .c [int a,int n]),((0,s), .mp (es.map Jaf))], [],nx+1,2⟩) (Jk (pm:= []) _ [] rfl rfl Sf Sf Bf trivial ⟨Rf,Rf,Rf,trivial⟩) ?_
 refine JB ?_
 refine JO (fun i=> match i with | 0=> true | _=> false) 3 ?_
 refine stp ?_
 refine Jj (b:=kA (a,n)) rfl ?_
 (conv=> whnf)
 refine JpB (x:=(a,n)) (i:=(0,s)) (es:=es) rfl Tryz.underlying288 Jv8 Jwr rfl rfl rfl ?_
 refine JB ?_
 refine JO (fun i=> match i with | 0=> true | _=> false) 3 ?_
 refine stp ?_
 refine Jj (b:=kA (a,n)) rfl ?_
 (conv=> whnf)
 refine AOp.any (JpC (x:=(a,n)) (i:=(0,s)) (es:=es) (.inl rfl) Tryz.underlying288 Jv8 rfl rfl rfl rfl ?_)
 refine stp ?_
 exact JaG rfl ⟨_,⟨[((0,s), .mp ((JcW (a,n) es).map Jaf))], [],nx+1,1⟩,Rf,JaR _ _ rfl (.cons _ Sf) Sf Bf Pf,_,_,rfl,rfl⟩
def Jey (r:TRow):Bool:= [r.a0,r.a1,r.a2,r.a3,r.a4].any Jcz
def JcC (r:TRow):Bool:= !Jey r&& (if r.mux=0 then decide (r.sub=0) else (decide (r.mux=1)|| decide (r.mux=2))&& decide (1≤r.sub)&& decide (r.sub≤255))
theorem JpE (r:TRow):Tells Tryz.prog 186 [Jq r] (Jb (JcC r)):=by
 have hc:=Joi [r.a0,r.a1,r.a2,r.a3,r.a4] Jcz 258 (by show 5≤_;decide) (fun i _=> Jh8 _)
 unfold JcC
 have hb:Jey r= [r.a0,r.a1,r.a2,r.a3,r.a4].any Jcz:=rfl
 rw [← hb] at hc
 generalize Jey r=b at hc
 obtain ⟨nm,a0,a1,a2,a3,a4,mux,sub⟩:=r
 dsimp only at hc⊢
 refine Jf Tryz.func186 rfl rfl fun nx=> ?_
 (refine JB ?_;refine JE ?_;refine JB ?_)
 refine Jbq (n:=30) (nx:=nx+1) (nn:=1) (pm:= []) (bx:= []) (L:= [(1, .rp [Jg nm,int a0,int a1,int a2,int a3,int a4,int mux,int sub])]) (df:=some []) [((0,nx), .c [Jg nm,int a0,int a1,int a2,int a3,int a4,int mux,int sub])] rfl rfl rfl (List.Perm.refl _) Sf ⟨Frz.bp (.head _) rfl,trivial⟩ ?_
 refine JO (fun n=> match n with | 0=> true | _=> false) 2 ?_
 refine stp ?_
 refine JlT (n:=5) (e:=3) (cs:= [int a0,int a1,int a2,int a3,int a4,int mux,int sub]) rfl rfl Tryz.underlying73 Tryz.underlying3 (by kernel_rfl) Dc (by show 5 * 1≤7;decide) (by simp [int,AV.cells]) ?_
 refine stp ?_
 refine Je rfl rfl hc ⟨AVle.sl_fun fun k hk=> ?_,Rf,trivial⟩ fun nx1=> ?_
 ·match k,hk with
  | 0,_ | 1,_ | 2,_ | 3,_ | 4,_=> rfl
 cases b
 ·refine stp ?_
  intro c g;cases c
  ·have g:¬mux=0:=fun h=> by subst h;simp at g
   rw [if_neg g]
   refine stp ?_
   intro c t1;cases c
   ·have t1:decide (mux=1)=false:=decide_eq_false (by simpa using t1.symm)
    rw [t1]
    refine stp ?_
    intro c t2;cases c
    ·have t2:decide (mux=2)=false:=decide_eq_false (by simpa using t2.symm)
     rw [t2]
     refine stp ?_
     exact Jd rfl Rf
    ·have t2:decide (mux=2)=true:=decide_eq_true (by simpa using t2.symm)
     rw [t2]
     refine stp ?_
     intro c t3;cases c
     ·refine stp ?_
      exact Jd rfl (Jt (by rw [show decide (1≤sub)=false from t3.symm];rfl))
     ·refine stp ?_
      intro c t4;cases c
      all_goals
       refine stp ?_
       exact Jd rfl (Jt (t4.trans (by rw [show decide (1≤sub)=true from t3.symm];rfl)))
   ·have t1:decide (mux=1)=true:=decide_eq_true (by simpa using t1.symm)
    rw [t1]
    refine stp ?_
    intro c t3;cases c
    ·refine stp ?_
     exact Jd rfl (Jt (by rw [show decide (1≤sub)=false from t3.symm];rfl))
    ·refine stp ?_
     intro c t4;cases c
     all_goals
      refine stp ?_
      exact Jd rfl (Jt (t4.trans (by rw [show decide (1≤sub)=true from t3.symm];rfl)))
  ·have g:mux=0:=by simpa using g.symm
   rw [if_pos g]
   refine stp ?_
   intro c h;cases c
   all_goals
    refine stp ?_
    exact Jd rfl (Jt (h.trans (by rw [Bool.eq_iff_iff];simp)))
 ·refine stp ?_
  exact Jd rfl (Jt (by simp))
end Go.Proofs.W

namespace Go.Proofs.W
open Go.Vl
set_option maxRecDepth 100000
structure Inf where
 name:ByteArray
 token:Nat
 bit:Bool
 bits:Int
def Jok:Inf:=⟨⟨#[]⟩,0,false,0⟩
def infL:List Inf:= [⟨⟨#[120,56,54,95,54,52]⟩,3221225534,false,64⟩,⟨⟨#[120,51,50]⟩,3221225534,true,64⟩,⟨⟨#[105,51,56,54]⟩,1073741827,false,32⟩,⟨⟨#[97,114,109,54,52]⟩,3221225655,false,64⟩,⟨⟨#[114,105,115,99,118,54,52]⟩,3221225715,false,64⟩]
def infN:List (Nat×Inf):= [(0,infL.getD 0 Jok),(1,infL.getD 1 Jok),(2,infL.getD 2 Jok),(3,infL.getD 3 Jok),(4,infL.getD 4 Jok)]
def Jyd (num:Nat):Bool:=decide (num&&& 1073741824≠0)&& decide (num≠4294967295)
def JyB (arch:Nat) (w:Bool) (x:Nat×Inf):Bool:=decide (x.2.token=arch)&& ((decide (x.1≠0)&& decide (x.1≠1))|| (x.2.bit ==w))
end Go.Proofs.W

namespace Go.Proofs.W
open Go.Vl
set_option maxRecDepth 100000
structure Rec where
 num:Nat
 arch:Nat
 ptr:Nat
 a0:Nat
 a1:Nat
 a2:Nat
 a3:Nat
 a4:Nat
 a5:Nat
def Rec.ok (r:Rec):Prop:=r.num < 4294967296∧r.arch < 4294967296∧r.ptr < 18446744073709551616∧r.a0 < 18446744073709551616∧r.a1 < 18446744073709551616∧r.a2 < 18446744073709551616∧r.a3 < 18446744073709551616∧r.a4 < 18446744073709551616∧r.a5 < 18446744073709551616
def Rec.arg (r:Rec):Nat→Nat
 | 0=> r.a0
 | 1=> r.a1
 | 2=> r.a2
 | 3=> r.a3
 | 4=> r.a4
 | _=> r.a5
def JyC (a:Nat) (r:Rec) (k:Nat):Nat:=if a=2 then r.arg k % 4294967296 else r.arg k
end Go.Proofs.W

namespace Go.Proofs.W
open Go.Vl
section
variable {α:Type} [Inhabited α] {lt:α→α→Bool}
theorem Jws {a j:Nat} {e:Array α} (h:a < j) (hl:lt e[j]! e[j - 1]! =true):Go.Sort.insInner lt a j e=Go.Sort.insInner lt a (j - 1) (Go.Sort.swp e j (j - 1)):=by
 cases j with
 | zero=> omega
 | succ j=>
   rw [Go.Sort.insInner]
   simp only [Nat.add_sub_cancel] at hl⊢
   rw [if_pos (by simp [hl];omega)]
theorem Ju5 {a j:Nat} {e:Array α} (hl:lt e[j]! e[j - 1]! =false):Go.Sort.insInner lt a j e=e:=by
 cases j with
 | zero=> rfl
 | succ j=>
   rw [Go.Sort.insInner]
   simp only [Nat.add_sub_cancel] at hl⊢
   rw [if_neg (by simp [hl])]
theorem Jtb {a j:Nat} {e:Array α} (h:¬a < j):Go.Sort.insInner lt a j e=e:=by
 cases j with
 | zero=> rfl
 | succ j=> rw [Go.Sort.insInner];simp;omega
theorem JaN {K:Bool→Prop} {b b':Bool} (h:b=b') (hk:∀c,c=b'→K c):∀c,c=b→K c:=by subst h;exact hk
def JaH (lt:α→α→Bool) (l:List α):List α:=l.mergeSort (fun x y=> !lt y x)
omit [Inhabited α] in
theorem Jff (hS:Go.Sort.SWO lt) (l:List α):(JaH lt l).Pairwise (fun x y=> lt y x=false):=by
 have tr:∀a b c:α,(!lt b a)=true→(!lt c b)=true→(!lt c a)=true:=fun a b c h1 h2=> by
  simp only [Bool.not_eq_true'] at *; exact hS.ntrans _ _ _ h2 h1
 have tq:∀a b:α,((!lt b a)|| (!lt a b))=true:=fun a b=> by
  cases h1:lt b a <;> cases h2:lt a b <;> try rfl
  have:=hS.trans _ _ _ h1 h2
  rw [hS.irrefl] at this;cases this
 exact (List.pairwise_mergeSort tr tq l).imp fun h=> by simpa using h
omit [Inhabited α] in
theorem Jhq {l:List α} {x:α}:x∈JaH lt l↔x∈l:=(List.mergeSort_perm l _).mem_iff
omit [Inhabited α] in
theorem JbG {l:List α}:(JaH lt l).length=l.length:=List.length_mergeSort _
omit [Inhabited α] in
theorem Jlj (hS:Go.Sort.SWO lt) (hT:∀x y,lt x y=false→lt y x=false→x=y) {l l':List α} (h:l.Perm l'):JaH lt l=JaH lt l':=
 List.Perm.eq_of_pairwise (le:=fun x y=> lt y x=false) (fun a b _ _ h1 h2=> hT a b h2 h1) (Jff hS l) (Jff hS l') (((List.mergeSort_perm l _).trans h).trans (List.mergeSort_perm l' _).symm)
omit [Inhabited α] in
end
end Go.Proofs.W

namespace Go.Proofs.W
open Go.Vl
set_option maxRecDepth 100000
def JyD (mux sub:Int) (r:TRow):Bool:=decide (r.mux=mux)&& (decide (r.sub=sub)&& decide (mux≠0))
def JxB (a:Nat) (n:Int) (r:TRow):Bool:=decide (r.num a=n)
end Go.Proofs.W

namespace Go.Proofs.W
open Go.Vl
set_option maxRecDepth 100000
def JyE (a num:Nat):Nat:=if a=1∧num / 1073741824 % 2=1 then num - 1073741824 else num
def Jye (num:Nat):Nat:=if num=102 then 1 else if num=117 then 2 else 0
def Jv9 (l:List TRow):Option Nat→ByteArray
 | some i=> (l.getD i trow0).name
 | none=> ⟨#[]⟩
end Go.Proofs.W

namespace Go.Proofs.W
open Go.Vl
set_option maxRecDepth 100000
structure CallR where
 some:Bool
 abi:Int
 name:ByteArray
 muxed:Bool
def Jyf:CallR:=⟨false,0,⟨#[]⟩,false⟩
def JyF (arch num:Nat):Option Nat:=(infN.find? (JyB arch (Jyd num))).map (·.1)
def Jwa (a num:Nat):Nat:=if a=2 then Jye num else 0
def ofI (l:List TRow) (r:Rec):CallR:=match JyF r.arch r.num with
 | none=> Jyf
 | some a=> if 0 < Jwa a r.num then ⟨true,a,Jv9 l (l.findIdx? (JyD (Jwa a r.num) ((r.a0 % 4294967296:Nat):Int))),true⟩
   else ⟨true,a,Jv9 l (l.findIdx? (JxB a ((JyE a r.num:Nat):Int))),false⟩
end Go.Proofs.W

namespace Go.Proofs.W
open Go.Vl
set_option maxRecDepth 100000
end Go.Proofs.W

namespace Go.Proofs.W
open Go.Vl
set_option maxRecDepth 100000
def kS (s t:ByteArray):Bool:=s.toList ==t.toList
theorem Ja4 {s t:ByteArray}:kS s t=true↔s=t:=by
 unfold kS
 rw [beq_iff_eq,Lib.toList_data,Lib.toList_data]
 constructor
 ·intro h
  obtain ⟨⟨a⟩⟩:=s
  obtain ⟨⟨b⟩⟩:=t
  simpa using h
 ·rintro rfl;rfl
section
variable {α:Type} {nm:α→ByteArray} {val:α→AV}
end
end Go.Proofs.W

namespace Go.Proofs.W
open Go.Vl
set_option maxRecDepth 100000
structure Ent where
 name:ByteArray
 m:Nat
 a:Nat→Nat
 b:Nat→Bool
 st:Nat
structure Gat where
 name:ByteArray
 m:Nat
 a:Nat→Nat
 b:Nat→Bool
end Go.Proofs.W

namespace Go.Proofs.W
open Go.Vl
set_option maxRecDepth 100000
end Go.Proofs.W

namespace Go.Proofs.W
open Go.Vl
set_option maxRecDepth 100000
def Jez (es:List (Value×AV)) (j:Nat):Value:=(es.getD j (.int .i64 0, .any)).1
theorem Jrv {es:List (Value×AV)} {k:Nat} {p:Value×AV} (h:es[k]? =some p):Jez es k=p.1:=by simp [Jez,List.getD,h]
theorem Jl6 (es:List (Value×AV)):(List.range es.length).map (Jez es)=es.map (·.1):=by
 refine List.ext_getElem (by simp) fun j h1 h2=> ?_
 have:j < es.length:=by simpa using h1
 simp [Jez,List.getD,this]
end Go.Proofs.W

namespace Go.Proofs
open Go.Shelf
shelf_lay_g SlLaysM.n6 Slgm 6 at Tryz 189 as Tryz.laysM6
end Go.Proofs
namespace Go.Proofs.W
open Go.Vl Go.Shelf
set_option maxRecDepth 100000
def JaT (z:List UInt8):AV:= .v (encStr z)
def Jc8 (s:Nat) (d:Array (List UInt8)) (tl:List AV):List (Vl.Id×Own):= [((0,s), .c (Jc7 JaT d tl))]
theorem Jol (l:List (List UInt8)):l.mergeSort (fun x y=> decide (x≤y))=JaH Go.Sort.ltStr l:=by
 unfold JaH
 congr 1
 funext x y
 simp only [Go.Sort.ltStr]
 by_cases h:x≤y
 ·rw [decide_eq_true h,decide_eq_false (List.not_lt.2 h)];rfl
 ·rw [decide_eq_false h,decide_eq_true (List.not_le.1 h)];rfl
theorem Jtc:∀x y:List UInt8,Go.Sort.ltStr x y=false→Go.Sort.ltStr y x=false→x=y:=fun x y h1 h2=> by
 simp only [Go.Sort.ltStr,decide_eq_false_iff_not,List.not_lt] at h1 h2
 exact List.le_antisymm h2 h1
theorem Jtd (d0:Array (List UInt8)) (tl:List AV) (n:Nat) (hn:d0.size=n) (hsz:n≤1000000) (s cap nx:Nat):
 ECall Tryz.prog 189 [.hs (0,s) 0 n cap] ⟨Jc8 s d0 tl, [],nx,1⟩ (fun r h'=> ∃nx' nn',h'=⟨Jc8 s (JaH Go.Sort.ltStr d0.toList).toArray tl, [],nx',nn'⟩):=by
 subst hn
 have h:=Ji8 (P:=Tryz.prog) (enc:=encStr) (d:=d0) (d':=(JaH Go.Sort.ltStr d0.toList).toArray) (tl:=tl) (nm:=0) (s:=s) (cap:=cap) (nx:=nx) (nn:=1) (f:=189) ⟨_,Tryz.func189,rfl,rfl⟩ (by simp [JbG]) (fun w blk hH hb=> by
  have k:=AnyM.slices_Sort_string Tryz.laysM6 blk 0 cap d0.toList w hH hb (by simp;omega)
  rw [Jol] at k
  exact k)
 exact h.mono fun r h' ⟨_,h2⟩=> ⟨nx,1,h2⟩
theorem Jte (F:Nat→AV):Tells Tryz.prog 189 [.os 1 0 F none] (.tup []):=
 Ji9 (nx:=0) ⟨_,Tryz.func189,rfl,rfl⟩ fun p cap w=> AnyM.slices_Sort_string_none Tryz.laysM6 p cap w
end Go.Proofs.W

namespace Go.Proofs.W
open Go.Vl
set_option maxRecDepth 100000
abbrev JbK:=List (Int×Int)
def JaW (r:TRow) (S:JbK):Nat→Option JbK
 | 0=> some S
 | k+1=> match JaW r S k with
   | none=> none
   | some S=> if r.num k=-1 then some S else if ((k:Int),r.num k)∈S then none else some (S++ [((k:Int),r.num k)])
def Jh9 (r:TRow) (S:JbK):Option JbK:=if r.mux=0 then some S else if (5+r.mux,r.sub)∈S then none else some (S++ [(5+r.mux,r.sub)])
def leB (s t:ByteArray):Bool:=Op.bytesLess s.toList t.toList|| s.toList ==t.toList
def JeA (l:List TRow) (i:Nat) (S:JbK):Except Int JbK:=
 if Jag (l.getD i trow0).name.data.toList=false then .error 13
 else if 0 < i∧leB (l.getD i trow0).name (l.getD (i - 1) trow0).name=true then .error 15
 else if JcC (l.getD i trow0)=false then .error 16
 else if (l.getD i trow0).a2=102∨(l.getD i trow0).a2=117 then .error 17
 else match JaW (l.getD i trow0) S 5 with
  | none=> .error 15
  | some S=> match Jh9 (l.getD i trow0) S with
    | none=> .error 15
    | some S=> .ok S
def Jdl (l:List TRow):Nat→Except (Nat×Int) JbK
 | 0=> .ok []
 | k+1=> match Jdl l k with
   | .error e=> .error e
   | .ok S=> match JeA l k S with
     | .error e=> .error (k,e)
     | .ok S=> .ok S
def JbR (l:List TRow):Int×Int:=if 400 < l.length then (0,3) else match Jdl l l.length with
 | .error e=> ((e.1:Int),e.2)
 | .ok _=> (0,0)
theorem Jtf {l:List TRow} {k:Nat} {e:Nat×Int} (h:Jdl l k= .error e):∀ {m:Nat},k≤m→Jdl l m= .error e:=by
 intro m hm
 induction m with
 | zero=> obtain rfl:k=0:=by omega
          exact h
 | succ m ih=>
   rcases Nat.lt_or_ge m k with q | q
   ·rw [show m+1=k by omega];exact h
   ·unfold Jdl;rw [ih q]
theorem Jqe {l:List TRow} {i:Nat} {S:JbK} {e:Int} (hl:¬400 < l.length) (hi:i < l.length) (h:Jdl l i= .ok S) (he:JeA l i S= .error e):JbR l=((i:Int),e):=by
 have h1:Jdl l (i+1)= .error (i,e):=by unfold Jdl;rw [h];dsimp only;rw [he]
 unfold JbR
 rw [if_neg hl,Jtf h1 hi]
theorem Jtg {l:List TRow} {S:JbK} (hl:¬400 < l.length) (h:Jdl l l.length= .ok S):JbR l=(0,0):=by
 unfold JbR
 rw [if_neg hl,h]
theorem Jl7 {l:List TRow} {i:Nat} {S S':JbK} (h:Jdl l i= .ok S) (he:JeA l i S= .ok S'):Jdl l (i+1)= .ok S':=by
 unfold Jdl;rw [h];dsimp only;rw [he]
theorem Jfo {r:TRow} {S S':JbK} {k:Nat} (h:JaW r S k=some S') (hn:r.num k=-1):JaW r S (k+1)=some S':=by
 unfold JaW;rw [h];dsimp only;rw [if_pos hn]
theorem JgZ {r:TRow} {S S':JbK} {k:Nat} (h:JaW r S k=some S') (hn:¬r.num k=-1) (hm:((k:Int),r.num k)∈S'):JaW r S (k+1)=none:=by
 unfold JaW;rw [h];dsimp only;rw [if_neg hn,if_pos hm]
theorem Jgc {r:TRow} {S S':JbK} {k:Nat} (h:JaW r S k=some S') (hn:¬r.num k=-1) (hm:¬((k:Int),r.num k)∈S'):JaW r S (k+1)=some (JcW ((k:Int),r.num k) S'):=by
 unfold JaW JcW;rw [h];dsimp only;rw [if_neg hn,if_neg hm,if_neg hm]
theorem Jfp {r:TRow} {S:JbK} {k:Nat} (h:JaW r S k=none):∀ {m:Nat},k≤m→JaW r S m=none:=by
 intro m hm
 induction m with
 | zero=> obtain rfl:k=0:=by omega
          exact h
 | succ m ih=>
   rcases Nat.lt_or_ge m k with q | q
   ·rw [show m+1=k by omega];exact h
   ·unfold JaW;rw [ih q]
def Jbx (l:List TRow) (i:Nat):Bool:=decide (0 < i)&& leB (l.getD i trow0).name (l.getD (i - 1) trow0).name
theorem JiB {l:List TRow} {i:Nat}:Jbx l i=true↔0 < i∧leB (l.getD i trow0).name (l.getD (i - 1) trow0).name=true:=by unfold Jbx;simp
theorem Jqf {l:List TRow} {i:Nat} {S:JbK} (h:Jag (l.getD i trow0).name.data.toList=false):JeA l i S= .error 13:=if_pos h
theorem Jqg {l:List TRow} {i:Nat} {S:JbK} (h:Jag (l.getD i trow0).name.data.toList=true) (h2:Jbx l i=true):JeA l i S= .error 15:=by
 unfold JeA;rw [if_neg (by rw [h];decide),if_pos (JiB.1 h2)]
theorem Jlk {l:List TRow} {i:Nat} {S:JbK} (h:Jag (l.getD i trow0).name.data.toList=true) (h2:Jbx l i=false) (h3:JcC (l.getD i trow0)=false):JeA l i S= .error 16:=by
 unfold JeA;rw [if_neg (by rw [h];decide),if_neg (by rw [← JiB,h2];decide),if_pos h3]
theorem Jll {l:List TRow} {i:Nat} {S:JbK} (h:Jag (l.getD i trow0).name.data.toList=true) (h2:Jbx l i=false) (h3:JcC (l.getD i trow0)=true) (h4:(l.getD i trow0).a2=102∨(l.getD i trow0).a2=117):JeA l i S= .error 17:=by
 unfold JeA;rw [if_neg (by rw [h];decide),if_neg (by rw [← JiB,h2];decide),if_neg (by rw [h3];decide),if_pos h4]
theorem Jl8 {l:List TRow} {i:Nat} {S:JbK} (h:Jag (l.getD i trow0).name.data.toList=true) (h2:Jbx l i=false) (h3:JcC (l.getD i trow0)=true) (h4:¬((l.getD i trow0).a2=102∨(l.getD i trow0).a2=117)):JeA l i S=match JaW (l.getD i trow0) S 5 with
 | none=> .error 15
 | some S=> match Jh9 (l.getD i trow0) S with
   | none=> .error 15
   | some S=> .ok S:=by
 unfold JeA;rw [if_neg (by rw [h];decide),if_neg (by rw [← JiB,h2];decide),if_neg (by rw [h3];decide),if_neg h4]
theorem Jkk {r:TRow} (h:JcC r=true) (h0:¬r.mux=0):r.mux=1∨r.mux=2:=by
 unfold JcC at h
 rw [if_neg h0] at h
 simp only [Bool.and_eq_true,Bool.or_eq_true,decide_eq_true_eq] at h
 exact h.2.1.1
set_option maxHeartbeats 4000000 in
theorem Jm4 (l:List TRow) (hl:l.length≤1000000) (hn:∀r∈l,r.name.size≤maxLen):Tells Tryz.prog 99 [Jv l] (.tup [int (JbR l).1,int (JbR l).2]):=by
 refine Jf Tryz.func99 rfl rfl fun nx=> ?_
 refine stp ?_
 intro c g4;cases c
 rotate_left
 ·have g4:400 < l.length:=by have:=Jn g4;omega
  have e:JbR l=(0,3):=by unfold JbR;rw [if_pos g4]
  rw [e]
  refine stp ?_
  exact Jd rfl Rf
 have g4:¬400 < l.length:=by have:=Jm g4;omega
 refine stp ?_
 refine Jo (fun y:Nat×JbK×Nat=> mk 88 [(0,Jv l),(2,int 0),(3,int 0),(4, .om (0,nx)),(14,Jv l),(15,int l.length),(16,int y.1)] ⟨[((0,nx), .mp (y.2.1.map Jaf))], [],y.2.2,1⟩) (fun y=> y.1≤l.length∧Jdl l y.1= .ok y.2.1) (fun y=> l.length - y.1) ?_ ?_
 ·exact ⟨(0, [],nx+1),⟨Nat.zero_le _,rfl⟩,Et rfl rfl Bf trivial ⟨Rf,Rf,Rf,Rf,Rf,Rf,Rf,trivial⟩⟩
 ·rintro ⟨i,S,nx1⟩ ⟨h1,h2⟩
  dsimp only at h1 h2
  refine stp ?_
  intro c g;cases c
  ·have g:=Jm g
   try dsimp only at g
   have hi:i=l.length:=by omega
   subst hi
   rw [Jtg g4 h2]
   refine stp ?_
   exact Jd rfl Rf
  ·have g:=Jn g
   try dsimp only at g
   have hi:i < l.length:=by omega
   have hmem:l.getD i trow0∈l:=by simp [List.getD,hi]
   have hnm:=Jkj (l.getD i trow0).name (Nat.le_trans (hn _ hmem) Dc)
   have hrg:=JpE (l.getD i trow0)
   have herr:=fun e=> Jqe (e:=e) g4 hi h2
   have hnext:=fun S'=> Jl7 (S':=S') h2
   refine stp ?_
   refine ⟨Bd, ?_⟩
   refine stp ?_
   cases hb:Jag (l.getD i trow0).name.data.toList with
   | false=>
     rw [hb] at hnm
     refine Je rfl rfl hnm ⟨Rf,trivial⟩ fun nx2=> ?_
     refine stp ?_
     rw [herr 13 (Jqf hb)]
     exact Jd rfl Rf
   | true=>
     rw [hb] at hnm
     refine Je rfl rfl hnm ⟨Rf,trivial⟩ fun nx2=> ?_
     refine stp ?_
     refine JgW (fun y:Nat=> mk 88 [(0,Jv l),(2,int 0),(3,int 0),(4, .om (0,nx)),(5,int i),(6, .bp (1,nx1) 0),(7,int (l.getD i trow0).a2),(14,Jv l),(15,int l.length),(16,int i),(30,Jb (Jbx l i))] ⟨[((1,nx1), .c (Ja3 (l.getD i trow0))),((0,nx), .mp (S.map Jaf))], [],y,2⟩) (fun _=> True) ?_ ?_
     ·by_cases h0:0 < i
      ·have hd:decide ((i:Int) > 0)=true:=decide_eq_true Om
       have hi1:IntKind.i64.wrap ((i:Int) - 1)=((i - 1:Nat):Int):=by rw [Jac Om Om];omega
       (refine Ju 13 ?_ ?_ ?_ ?_;(· kernel_rfl);(· kernel_rfl);(· kernel_rfl))
       refine stp ?_
       (conv=> whnf)
       refine JaN hd ?_
       refine stp ?_
       refine ⟨⟨Jbs (i:=i - 1) hi1,JbJ (i:=i - 1) hi1 Om⟩,Jj (b:= .rp (Ja3 (l.getD (i - 1) trow0))) (congrArg (fun z:Int=> AV.rp (Ja3 (l.getD z.toNat trow0))) hi1) ?_⟩
       refine stp ?_
       intro c hc
       have hc2:c=Jbx l i:=hc.trans (by unfold Jbx;rw [decide_eq_true h0,Bool.true_and];rfl)
       clear hc
       rw [← hc2]
       clear hc2
       cases c
       all_goals
        refine stp ?_
        exact ⟨nx2,trivial,Et rfl rfl Bf trivial ⟨Rf,Rf,Rf,Rf,Rf,Rf,Rf,Rf,Rf,Rf,Rf,trivial⟩⟩
      ·have hd:decide ((i:Int) > 0)=false:=decide_eq_false Om
       have hq:Jbx l i=false:=by unfold Jbx;rw [decide_eq_false h0];rfl
       rw [hq]
       (refine Ju 13 ?_ ?_ ?_ ?_;(· kernel_rfl);(· kernel_rfl);(· kernel_rfl))
       refine stp ?_
       (conv=> whnf)
       refine JaN hd ?_
       refine stp ?_
       exact ⟨nx2,trivial,Et rfl rfl Bf trivial ⟨Rf,Rf,Rf,Rf,Rf,Rf,Rf,Rf,Rf,Rf,Rf,trivial⟩⟩
     ·rintro nx3 -
      cases hq:Jbx l i with
      | true=>
        refine stp ?_
        rw [herr 15 (Jqg hb hq)]
        exact Jd rfl Rf
      | false=>
        refine stp ?_
        refine Jj (b:=Jq (l.getD i trow0)) rfl ?_
        refine stp ?_
        cases hr:JcC (l.getD i trow0) with
        | false=>
          rw [hr] at hrg
          refine Je rfl rfl hrg ⟨Rf,trivial⟩ fun nx4=> ?_
          refine stp ?_
          rw [herr 16 (Jlk hb hq hr)]
          exact Jd rfl Rf
        | true=>
          rw [hr] at hrg
          refine Je rfl rfl hrg ⟨Rf,trivial⟩ fun nx4=> ?_
          refine stp ?_
          intro c t1;cases c
          rotate_left
          ·have t1:(l.getD i trow0).a2=102:=by simpa using t1.symm
           refine stp ?_
           rw [herr 17 (Jll hb hq hr (.inl t1))]
           exact Jd rfl Rf
          have t1:¬(l.getD i trow0).a2=102:=by simpa using t1.symm
          refine stp ?_
          intro c t2;cases c
          rotate_left
          ·have t2:(l.getD i trow0).a2=117:=by simpa using t2.symm
           refine stp ?_
           rw [herr 17 (Jll hb hq hr (.inr t2))]
           exact Jd rfl Rf
          have t2:¬(l.getD i trow0).a2=117:=by simpa using t2.symm
          have hrest:=Jl8 (S:=S) hb hq hr (fun h=> h.elim t1 t2)
          refine stp ?_
          refine Jan (fun y:JbK×Nat=> mk 88 [(0,Jv l),(2,int 0),(3,int 0),(4, .om (0,nx)),(5,int i),(6, .bp (1,nx1) 0),(14,Jv l),(15,int l.length),(16,int i)] ⟨[((1,nx1), .c (Ja3 (l.getD i trow0))),((0,nx), .mp (y.1.map Jaf))], [],y.2,2⟩) (fun y=> JaW (l.getD i trow0) S 5=some y.1) ?_ ?_
          ·refine Jo (fun y:Nat×JbK×Nat=> mk 88 [(0,Jv l),(2,int 0),(3,int 0),(4, .om (0,nx)),(5,int i),(6, .bp (1,nx1) 0),(14,Jv l),(15,int l.length),(16,int i),(59,JxA (l.getD i trow0)),(60,int y.1)] ⟨[((1,nx1), .c (Ja3 (l.getD i trow0))),((0,nx), .mp (y.2.1.map Jaf))], [],y.2.2,2⟩) (fun y=> y.1≤5∧JaW (l.getD i trow0) S y.1=some y.2.1) (fun y=> 5 - y.1) ?_ ?_
           ·exact ⟨(0,S,nx4),⟨Nat.zero_le _,rfl⟩,Et rfl rfl Bf trivial ⟨Rf,Rf,Rf,Rf,Rf,Rf,Rf,Rf,Rf,Rf,Rf,trivial⟩⟩
           ·rintro ⟨k,S',nx5⟩ ⟨hk,hS⟩
            dsimp only at hk hS
            rcases k with _ | _ | _ | _ | _ | _ | k
            ·refine stp ?_
             intro c t;cases c
             ·have t:(l.getD i trow0).num 0=-1:=by show (l.getD i trow0).a0=-1;simpa using t.symm
              refine stp ?_
              exact back (0+1,S',nx5) ⟨by dsimp only;omega,Jfo hS t⟩ Dm (Et rfl rfl Bf trivial ⟨Rf,Rf,Rf,Rf,Rf,Rf,Rf,Rf,Rf,Rf,Rf,trivial⟩)
             ·have t:¬(l.getD i trow0).num 0=-1:=by show ¬(l.getD i trow0).a0=-1;simpa using t.symm
              refine stp ?_
              refine J1 (xs:= [.om (0,nx),int ((0:Nat):Int),int ((l.getD i trow0).num 0)]) [((1,nx1), .c (Ja3 (l.getD i trow0)))] [] 2 rfl rfl rfl rfl ⟨Rf,Rf,Rf,trivial⟩ (JeV nx nx5 0 S' ((0:Nat):Int) ((l.getD i trow0).num 0)) Bf Pf rfl fun r h' hq2=> ?_
              obtain ⟨nx6,nn6,rfl,rfl⟩:=hq2
              by_cases hm:(((0:Nat):Int),(l.getD i trow0).num 0)∈S'
              ·have hnone:=Jfp (JgZ hS t hm) (show 0+1≤5 by decide)
               rw [hnone] at hrest
               rw [decide_eq_true hm]
               refine stp ?_
               rw [herr 15 hrest]
               exact Jd rfl Rf
              ·have hnew:=Jgc hS t hm
               rw [decide_eq_false hm]
               refine stp ?_
               exact back (0+1,JcW (((0:Nat):Int),(l.getD i trow0).num 0) S',nx6) ⟨by dsimp only;omega,hnew⟩ Dm (Et rfl rfl Bf trivial ⟨Rf,Rf,Rf,Rf,Rf,Rf,Rf,Rf,Rf,Rf,Rf,trivial⟩)
            ·refine stp ?_
             intro c t;cases c
             ·have t:(l.getD i trow0).num 1=-1:=by show (l.getD i trow0).a1=-1;simpa using t.symm
              refine stp ?_
              exact back (1+1,S',nx5) ⟨by dsimp only;omega,Jfo hS t⟩ Dm (Et rfl rfl Bf trivial ⟨Rf,Rf,Rf,Rf,Rf,Rf,Rf,Rf,Rf,Rf,Rf,trivial⟩)
             ·have t:¬(l.getD i trow0).num 1=-1:=by show ¬(l.getD i trow0).a1=-1;simpa using t.symm
              refine stp ?_
              refine J1 (xs:= [.om (0,nx),int ((1:Nat):Int),int ((l.getD i trow0).num 1)]) [((1,nx1), .c (Ja3 (l.getD i trow0)))] [] 2 rfl rfl rfl rfl ⟨Rf,Rf,Rf,trivial⟩ (JeV nx nx5 0 S' ((1:Nat):Int) ((l.getD i trow0).num 1)) Bf Pf rfl fun r h' hq2=> ?_
              obtain ⟨nx6,nn6,rfl,rfl⟩:=hq2
              by_cases hm:(((1:Nat):Int),(l.getD i trow0).num 1)∈S'
              ·have hnone:=Jfp (JgZ hS t hm) (show 1+1≤5 by decide)
               rw [hnone] at hrest
               rw [decide_eq_true hm]
               refine stp ?_
               rw [herr 15 hrest]
               exact Jd rfl Rf
              ·have hnew:=Jgc hS t hm
               rw [decide_eq_false hm]
               refine stp ?_
               exact back (1+1,JcW (((1:Nat):Int),(l.getD i trow0).num 1) S',nx6) ⟨by dsimp only;omega,hnew⟩ Dm (Et rfl rfl Bf trivial ⟨Rf,Rf,Rf,Rf,Rf,Rf,Rf,Rf,Rf,Rf,Rf,trivial⟩)
            ·refine stp ?_
             intro c t;cases c
             ·have t:(l.getD i trow0).num 2=-1:=by show (l.getD i trow0).a2=-1;simpa using t.symm
              refine stp ?_
              exact back (2+1,S',nx5) ⟨by dsimp only;omega,Jfo hS t⟩ Dm (Et rfl rfl Bf trivial ⟨Rf,Rf,Rf,Rf,Rf,Rf,Rf,Rf,Rf,Rf,Rf,trivial⟩)
             ·have t:¬(l.getD i trow0).num 2=-1:=by show ¬(l.getD i trow0).a2=-1;simpa using t.symm
              refine stp ?_
              refine J1 (xs:= [.om (0,nx),int ((2:Nat):Int),int ((l.getD i trow0).num 2)]) [((1,nx1), .c (Ja3 (l.getD i trow0)))] [] 2 rfl rfl rfl rfl ⟨Rf,Rf,Rf,trivial⟩ (JeV nx nx5 0 S' ((2:Nat):Int) ((l.getD i trow0).num 2)) Bf Pf rfl fun r h' hq2=> ?_
              obtain ⟨nx6,nn6,rfl,rfl⟩:=hq2
              by_cases hm:(((2:Nat):Int),(l.getD i trow0).num 2)∈S'
              ·have hnone:=Jfp (JgZ hS t hm) (show 2+1≤5 by decide)
               rw [hnone] at hrest
               rw [decide_eq_true hm]
               refine stp ?_
               rw [herr 15 hrest]
               exact Jd rfl Rf
              ·have hnew:=Jgc hS t hm
               rw [decide_eq_false hm]
               refine stp ?_
               exact back (2+1,JcW (((2:Nat):Int),(l.getD i trow0).num 2) S',nx6) ⟨by dsimp only;omega,hnew⟩ Dm (Et rfl rfl Bf trivial ⟨Rf,Rf,Rf,Rf,Rf,Rf,Rf,Rf,Rf,Rf,Rf,trivial⟩)
            ·refine stp ?_
             intro c t;cases c
             ·have t:(l.getD i trow0).num 3=-1:=by show (l.getD i trow0).a3=-1;simpa using t.symm
              refine stp ?_
              exact back (3+1,S',nx5) ⟨by dsimp only;omega,Jfo hS t⟩ Dm (Et rfl rfl Bf trivial ⟨Rf,Rf,Rf,Rf,Rf,Rf,Rf,Rf,Rf,Rf,Rf,trivial⟩)
             ·have t:¬(l.getD i trow0).num 3=-1:=by show ¬(l.getD i trow0).a3=-1;simpa using t.symm
              refine stp ?_
              refine J1 (xs:= [.om (0,nx),int ((3:Nat):Int),int ((l.getD i trow0).num 3)]) [((1,nx1), .c (Ja3 (l.getD i trow0)))] [] 2 rfl rfl rfl rfl ⟨Rf,Rf,Rf,trivial⟩ (JeV nx nx5 0 S' ((3:Nat):Int) ((l.getD i trow0).num 3)) Bf Pf rfl fun r h' hq2=> ?_
              obtain ⟨nx6,nn6,rfl,rfl⟩:=hq2
              by_cases hm:(((3:Nat):Int),(l.getD i trow0).num 3)∈S'
              ·have hnone:=Jfp (JgZ hS t hm) (show 3+1≤5 by decide)
               rw [hnone] at hrest
               rw [decide_eq_true hm]
               refine stp ?_
               rw [herr 15 hrest]
               exact Jd rfl Rf
              ·have hnew:=Jgc hS t hm
               rw [decide_eq_false hm]
               refine stp ?_
               exact back (3+1,JcW (((3:Nat):Int),(l.getD i trow0).num 3) S',nx6) ⟨by dsimp only;omega,hnew⟩ Dm (Et rfl rfl Bf trivial ⟨Rf,Rf,Rf,Rf,Rf,Rf,Rf,Rf,Rf,Rf,Rf,trivial⟩)
            ·refine stp ?_
             intro c t;cases c
             ·have t:(l.getD i trow0).num 4=-1:=by show (l.getD i trow0).a4=-1;simpa using t.symm
              refine stp ?_
              exact back (4+1,S',nx5) ⟨by dsimp only;omega,Jfo hS t⟩ Dm (Et rfl rfl Bf trivial ⟨Rf,Rf,Rf,Rf,Rf,Rf,Rf,Rf,Rf,Rf,Rf,trivial⟩)
             ·have t:¬(l.getD i trow0).num 4=-1:=by show ¬(l.getD i trow0).a4=-1;simpa using t.symm
              refine stp ?_
              refine J1 (xs:= [.om (0,nx),int ((4:Nat):Int),int ((l.getD i trow0).num 4)]) [((1,nx1), .c (Ja3 (l.getD i trow0)))] [] 2 rfl rfl rfl rfl ⟨Rf,Rf,Rf,trivial⟩ (JeV nx nx5 0 S' ((4:Nat):Int) ((l.getD i trow0).num 4)) Bf Pf rfl fun r h' hq2=> ?_
              obtain ⟨nx6,nn6,rfl,rfl⟩:=hq2
              by_cases hm:(((4:Nat):Int),(l.getD i trow0).num 4)∈S'
              ·have hnone:=Jfp (JgZ hS t hm) (show 4+1≤5 by decide)
               rw [hnone] at hrest
               rw [decide_eq_true hm]
               refine stp ?_
               rw [herr 15 hrest]
               exact Jd rfl Rf
              ·have hnew:=Jgc hS t hm
               rw [decide_eq_false hm]
               refine stp ?_
               exact back (4+1,JcW (((4:Nat):Int),(l.getD i trow0).num 4) S',nx6) ⟨by dsimp only;omega,hnew⟩ Dm (Et rfl rfl Bf trivial ⟨Rf,Rf,Rf,Rf,Rf,Rf,Rf,Rf,Rf,Rf,Rf,trivial⟩)
            ·refine stp ?_
             exact ⟨(S',nx5),hS,Et rfl rfl Bf trivial ⟨Rf,Rf,Rf,Rf,Rf,Rf,Rf,Rf,Rf,trivial⟩⟩
            ·omega
          ·rintro ⟨S5,nx5⟩ hS
           dsimp only at hS
           refine stp ?_
           intro c t;cases c
           ·have t:(l.getD i trow0).mux=0:=by simpa using t.symm
            have hmx:Jh9 (l.getD i trow0) S5=some S5:=if_pos t
            rw [hS] at hrest
            dsimp only at hrest
            rw [hmx] at hrest
            have h3:=hnext S5 hrest
            refine stp ?_
            exact back (i+1,S5,nx5) ⟨hi,h3⟩ Dm (Jk _ _ rfl rfl (.cons _ Sf) Sf Bf trivial ⟨Rf,Rf,Rf,Rf,Rf,Rf,Lw,trivial⟩)
           ·have t:¬(l.getD i trow0).mux=0:=by simpa using t.symm
            have h12:=Jkk hr t
            have hw:IntKind.i64.wrap (5+(l.getD i trow0).mux)=5+(l.getD i trow0).mux:=Jac Om Om
            refine stp ?_
            refine J1 (xs:= [.om (0,nx),int (5+(l.getD i trow0).mux),int (l.getD i trow0).sub]) [((1,nx1), .c (Ja3 (l.getD i trow0)))] [] 2 rfl rfl rfl rfl ⟨Rf,Jl hw,Rf,trivial⟩ (JeV nx nx5 0 S5 (5+(l.getD i trow0).mux) (l.getD i trow0).sub) Bf Pf rfl fun r h' hq2=> ?_
            obtain ⟨nx6,nn6,rfl,rfl⟩:=hq2
            rw [hS] at hrest
            dsimp only at hrest
            by_cases hm:(5+(l.getD i trow0).mux,(l.getD i trow0).sub)∈S5
            ·have hmx:Jh9 (l.getD i trow0) S5=none:=by unfold Jh9;rw [if_neg t,if_pos hm]
             rw [hmx] at hrest
             rw [decide_eq_true hm]
             refine stp ?_
             rw [herr 15 hrest]
             exact Jd rfl Rf
            ·have hmx:Jh9 (l.getD i trow0) S5=some (JcW (5+(l.getD i trow0).mux,(l.getD i trow0).sub) S5):=by unfold Jh9 JcW;rw [if_neg t,if_neg hm,if_neg hm]
             rw [hmx] at hrest
             have h3:=hnext _ hrest
             rw [decide_eq_false hm]
             refine stp ?_
             exact back (i+1,JcW (5+(l.getD i trow0).mux,(l.getD i trow0).sub) S5,nx6) ⟨hi,h3⟩ Dm (Jk _ _ rfl rfl (.cons _ Sf) Sf Bf trivial ⟨Rf,Rf,Rf,Rf,Rf,Rf,Lw,trivial⟩)
end Go.Proofs.W

namespace Go.Proofs
open Go.Shelf
shelf_lay Lays.n106 Nm 106 at Tryz as Tryz.lays106
end Go.Proofs
namespace Go.Proofs.W
open Go.Vl Go.Shelf
set_option maxRecDepth 100000
def Jc9 (s t:ByteArray):Int:=Lib.compareBytes s.data.toList t.data.toList
theorem Jom (s t:ByteArray):Tells Tryz.prog 118 [.v (.string s), .v (.string t)] (.v (.int .i64 (Jc9 s t))):=
 JcV (vs:= [.string s, .string t]) ⟨_,Tryz.func118,rfl,rfl⟩ fun w=> (Any.strings_Compare Tryz.lays106 s t w).mono fun e w' ⟨h1,h2⟩=> ⟨h1,by subst h2;exact ⟨rfl,rfl,rfl,Nat.le_refl _,fun _ _=> rfl⟩⟩
theorem Jkl (r:TRow) (s:ByteArray):Tells Tryz.prog 117 [Jq r,Jg s] (int (Jc9 r.name s)):=by
 refine Jf Tryz.func117 rfl rfl fun nx=> ?_
 refine stp ?_
 refine Je rfl rfl (Jom r.name s) ⟨Rf,Rf,trivial⟩ fun nx2=> ?_
 refine stp ?_
 exact Jd rfl Rf
def Ja5 (l:List TRow) (s:ByteArray):Nat:=(l.takeWhile fun r=> decide (Jc9 r.name s < 0)).length
theorem Jwt (l:List TRow) (s:ByteArray):Ja5 l s≤l.length:=by
 unfold Ja5
 have:=congrArg List.length (List.takeWhile_append_dropWhile (p:=fun r:TRow=> decide (Jc9 r.name s < 0)) (l:=l))
 rw [List.length_append] at this
 omega
theorem JiC {s:ByteArray}:∀ {l:List TRow} {j:Nat},j < Ja5 l s→Jc9 (l.getD j trow0).name s < 0
 | [],j,h=> by simp [Ja5] at h
 | r::l,j,h=> by
   unfold Ja5 at h
   rw [List.takeWhile_cons] at h
   by_cases hc:Jc9 r.name s < 0
   ·rw [if_pos (by simpa using hc)] at h
    cases j with
    | zero=> exact hc
    | succ j=> exact JiC (l:=l) (j:=j) (by unfold Ja5;simp at h;omega)
   ·rw [if_neg (by simpa using hc)] at h;simp at h
theorem Jg0 {s:ByteArray}:∀ {l:List TRow},Ja5 l s < l.length→¬Jc9 (l.getD (Ja5 l s) trow0).name s < 0
 | [],h=> by simp at h
 | r::l,h=> by
   by_cases hc:Jc9 r.name s < 0
   ·have e:Ja5 (r::l) s=Ja5 l s+1:=by unfold Ja5;rw [List.takeWhile_cons,if_pos (by simpa using hc)];rfl
    rw [e] at h⊢
    exact Jg0 (l:=l) (by simpa using h)
   ·have e:Ja5 (r::l) s=0:=by unfold Ja5;rw [List.takeWhile_cons,if_neg (by simpa using hc)];rfl
    rw [e];exact hc
def Jhr (l:List TRow) (s:ByteArray):Prop:=∀i j,i < j→j < l.length→Jc9 (l.getD j trow0).name s < 0→Jc9 (l.getD i trow0).name s < 0
theorem Jwu {l:List TRow} {s:ByteArray} (hs:Jhr l s) {j:Nat} (h1:Ja5 l s≤j) (h2:j < l.length):¬Jc9 (l.getD j trow0).name s < 0:=fun h=> by
 rcases Nat.lt_or_ge (Ja5 l s) j with q | q
 ·exact Jg0 Om (hs _ j q h2 h)
 ·have e:Ja5 l s=j:=by omega
  exact Jg0 (l:=l) (s:=s) Om (by rw [e];exact h)
def JaD (l:List TRow) (s:ByteArray):Bool:=decide (Ja5 l s < l.length)&& decide (Jc9 (l.getD (Ja5 l s) trow0).name s=0)
theorem Jwv {a b:Nat} (h:a+b≤4000000):IntKind.i64.wrap ((IntKind.u64.wrap (IntKind.i64.wrap ((a:Int)+(b:Int)))).fdiv (2 ^ min (Int.toNat 1) IntKind.u64.bits))=(((a+b) / 2:Nat):Int):=by
 rw [Jac (n:=(a:Int)+(b:Int)) Om Om]
 have hu:IntKind.u64.wrap ((a:Int)+(b:Int))=(a:Int)+(b:Int):=by
  show ((a:Int)+(b:Int)) % 18446744073709551616=_
  omega
 rw [hu]
 have h2:(2:Int) ^ min (Int.toNat 1) IntKind.u64.bits=2:=by decide
 rw [h2,Int.fdiv_eq_ediv_of_nonneg _ Dc]
 rw [Jac Om Om]
 omega
set_option maxHeartbeats 2000000 in
theorem Jon (l:List TRow) (s:ByteArray) (hl:l.length≤1000000) (hs:Jhr l s):
 Tells Tryz.prog 116 [Jv l,Jg s,fn0 117] (.tup [int (Ja5 l s),Jb (JaD l s)]):=by
 have hk:=Jwt l s
 have hlt:=fun j=> JiC (l:=l) (s:=s) (j:=j)
 have hge:=fun j=> Jwu (j:=j) hs
 unfold JaD
 generalize Ja5 l s=k at hk hlt hge⊢
 refine Jf Tryz.func116 rfl rfl fun nx=> ?_
 refine stp ?_
 refine Jo (fun y:Nat×Nat×Nat=> mk 49 [(0,Jv l),(1,Jg s),(2,fn0 117),(8,int l.length),(9,int y.1),(10,int y.2.1)] ⟨[], [],y.2.2,0⟩) (fun y=> y.1≤k∧k≤y.2.1∧y.2.1≤l.length) (fun y=> y.2.1 - y.1) ?_ ?_
 ·exact ⟨(0,l.length,nx),⟨Nat.zero_le _,hk,Nat.le_refl _⟩,J5 rfl rfl ⟨Rf,Rf,Rf,Rf,Rf,Rf,trivial⟩⟩
 ·rintro ⟨lo,hi,nx1⟩ ⟨h1,h2,h3⟩
  dsimp only at h1 h2 h3
  refine stp ?_
  intro c g;cases c
  ·have g:=Jm g
   try dsimp only at g
   have e:lo=k:=by omega
   subst e
   by_cases hkl:lo < l.length
   ·have hf1:=Jkl (l.getD lo trow0) s
    have hd:decide ((lo:Int) < (l.length:Int))=true:=decide_eq_true Om
    refine stp ?_
    (conv=> whnf)
    refine JaN hd ?_
    refine stp ?_
    refine ⟨Bd, ?_⟩
    refine stp ?_
    refine Je rfl rfl hf1 ⟨Rf,Rf,trivial⟩ fun nx2=> ?_
    intro c t;cases c
    all_goals
     refine stp ?_
     exact Jd rfl (AVle.tups (cs:= [_,_]) ⟨Rf,Jt (t.trans (by rw [decide_eq_true hkl,Bool.true_and,Bool.eq_iff_iff];simp)),trivial⟩)
   ·have hd:decide ((lo:Int) < (l.length:Int))=false:=decide_eq_false Om
    rw [decide_eq_false hkl,Bool.false_and]
    refine stp ?_
    (conv=> whnf)
    refine JaN hd ?_
    refine stp ?_
    exact Jd rfl Rf
  ·have g:=Jn g
   try dsimp only at g
   have hm:=Jwv (a:=lo) (b:=hi) Om
   have hml:(lo+hi) / 2 < l.length:=by omega
   have hf1:=Jkl (l.getD ((lo+hi) / 2) trow0) s
   refine stp ?_
   refine ⟨⟨Jbs (i:=(lo+hi) / 2) hm,JbJ (i:=(lo+hi) / 2) hm hml⟩,Jj (b:= .rp (Ja3 (l.getD ((lo+hi) / 2) trow0))) (congrArg (fun z:Int=> AV.rp (Ja3 (l.getD z.toNat trow0))) hm) ?_⟩
   refine stp ?_
   refine Je rfl rfl hf1 ⟨Rf,Rf,trivial⟩ fun nx2=> ?_
   refine stp ?_
   intro c gg;cases c
   ·have gg:¬Jc9 (l.getD ((lo+hi) / 2) trow0).name s < 0:=Jm gg
    have hkm:k≤(lo+hi) / 2:=by
     rcases Nat.lt_or_ge ((lo+hi) / 2) k with q | q
     ·exact absurd (hlt _ q) gg
     ·exact q
    refine stp ?_
    exact back (lo,(lo+hi) / 2,nx2) ⟨h1,hkm,by dsimp only;omega⟩ Dm (J5 rfl rfl ⟨Rf,Rf,Rf,Rf,Rf,Jl hm,trivial⟩)
   ·have gg:Jc9 (l.getD ((lo+hi) / 2) trow0).name s < 0:=Jn gg
    have hkm:(lo+hi) / 2+1≤k:=by
     rcases Nat.lt_or_ge ((lo+hi) / 2) k with q | q
     ·exact q
     ·exact absurd gg (hge _ q hml)
    refine stp ?_
    exact back ((lo+hi) / 2+1,hi,nx2) ⟨hkm,h2,h3⟩ Dm (J5 rfl rfl ⟨Rf,Rf,Rf,Rf,Jl (by rw [hm];exact JF Om),Rf,trivial⟩)
def Jkm (l:List TRow) (s:ByteArray):AV:=if JaD l s then .tup [Jq (l.getD (Ja5 l s) trow0),int (Ja5 l s),Jb true] else .tup [Jq trow0,int 0,Jb false]
theorem Jgd (l:List TRow) (s:ByteArray) (hl:l.length≤1000000) (hs:Jhr l s):Tells Tryz.prog 50 [Jv l,Jg s] (Jkm l s):=by
 have hb:=Jon l s hl hs
 have hk:JaD l s=true→Ja5 l s < l.length:=fun h=> by unfold JaD at h;simp only [Bool.and_eq_true,decide_eq_true_eq] at h;exact h.1
 unfold Jkm
 generalize Ja5 l s=k at hb hk⊢
 refine Jf Tryz.func50 rfl rfl fun nx=> ?_
 cases hf:JaD l s with
 | true=>
   rw [hf] at hb hk
   have hk:=hk rfl
   rw [if_pos rfl]
   refine stp ?_
   refine Je rfl rfl hb ⟨Rf,Rf,Rf,trivial⟩ fun nx2=> ?_
   refine stp ?_
   refine ⟨Bd, ?_⟩
   refine stp ?_
   exact Jh rfl ⟨rfl,trivial⟩ Rf
 | false=>
   rw [hf] at hb
   rw [if_neg Dc]
   refine stp ?_
   refine Je rfl rfl hb ⟨Rf,Rf,Rf,trivial⟩ fun nx2=> ?_
   refine stp ?_
   exact Jh rfl ⟨rfl,trivial⟩ Rf
theorem Jqh:∀ {a b:List UInt8},Lib.compareBytes a b < 0↔a < b
 | [], []=> by simp [Lib.compareBytes]
 | [],b::l=> by simp [Lib.compareBytes]
 | a::l, []=> by simp [Lib.compareBytes]
 | a::l,b::m=> by
   have ih:=Jqh (a:=l) (b:=m)
   unfold Lib.compareBytes
   rw [List.cons_lt_cons_iff]
   split
   ·rename_i h;simp [h]
   ·rename_i h
    split
    ·rename_i h2
     constructor
     ·intro h3;exact absurd h3 Dc
     ·rintro (h3 | ⟨h3,_⟩)
      ·exact absurd h3 h
      ·subst h3;exact absurd h2 h
    ·rename_i h2
     rw [ih]
     constructor
     ·intro h3;exact .inr ⟨UInt8.le_antisymm (UInt8.not_lt.1 h2) (UInt8.not_lt.1 h),h3⟩
     ·rintro (h3 | ⟨_,h3⟩)
      ·exact absurd h3 h
      ·exact h3
theorem Joo:∀ {a b:List UInt8},Lib.compareBytes a b=0↔a=b
 | [], []=> by simp [Lib.compareBytes]
 | [],b::l=> by simp [Lib.compareBytes]
 | a::l, []=> by simp [Lib.compareBytes]
 | a::l,b::m=> by
   have ih:=Joo (a:=l) (b:=m)
   unfold Lib.compareBytes
   split
   ·rename_i h
    constructor
    ·intro h3;exact absurd h3 Dc
    ·intro h3;cases h3;exact absurd h (UInt8.lt_irrefl _)
   ·rename_i h
    split
    ·rename_i h2
     constructor
     ·intro h3;exact absurd h3 Dc
     ·intro h3;cases h3;exact absurd h2 (UInt8.lt_irrefl _)
    ·rename_i h2
     rw [ih,List.cons.injEq]
     exact ⟨fun h3=> ⟨UInt8.le_antisymm (UInt8.not_lt.1 h2) (UInt8.not_lt.1 h),h3⟩,fun h3=> h3.2⟩
theorem Jgw {s t:ByteArray} (h:s.data.toList=t.data.toList):s=t:=by
 obtain ⟨⟨l⟩⟩:=s;obtain ⟨⟨l'⟩⟩:=t
 exact congrArg (fun l=> (⟨⟨l⟩⟩:ByteArray)) h
theorem Jkn:∀x y:List UInt8,Go.Sort.ltStr x y=false→Go.Sort.ltStr y x=false→x=y:=fun x y h1 h2=> by
 simp only [Go.Sort.ltStr,decide_eq_false_iff_not,List.not_lt] at h1 h2
 exact List.le_antisymm h2 h1
theorem JiD {s t:ByteArray}:Jc9 s t < 0↔Go.Sort.ltStr s.data.toList t.data.toList=true:=by
 unfold Jc9 Go.Sort.ltStr;rw [Jqh,decide_eq_true_iff]
theorem JiE {s t:ByteArray}:Jc9 s t=0↔s=t:=by
 unfold Jc9;rw [Joo]
 exact ⟨Jgw,fun h=> by rw [h]⟩
theorem Jth {s t:ByteArray} (h:leB s t=false):Go.Sort.ltStr t.data.toList s.data.toList=true:=by
 unfold leB at h
 rw [Bool.or_eq_false_iff,Go.Proofs.bytesLess_eq,Lib.toList_data,Lib.toList_data] at h
 cases hl:Go.Sort.ltStr t.data.toList s.data.toList with
 | true=> rfl
 | false=>
   have e:=Jkn _ _ hl h.1
   rw [e] at h;simp at h
def JiF (l:List TRow):Prop:=∀i j,i < j→j < l.length→Go.Sort.ltStr (l.getD i trow0).name.data.toList (l.getD j trow0).name.data.toList=true
theorem Jfg {l:List TRow} (h:JiF l) (s:ByteArray):Jhr l s:=fun i j hij hj hc=> by
 rw [JiD] at hc⊢
 exact Go.Sort.swo_ltStr.trans _ _ _ (h i j hij hj) hc
end Go.Proofs.W

namespace Go.Proofs.W
open Go.Vl
set_option maxRecDepth 100000
end Go.Proofs.W

namespace Go.Proofs
open Go.Shelf
shelf_lay Lays.n217 Nm 217 at Tryz as Tryz.lays217
shelf_lay Lays.n229 Nm 229 at Tryz as Tryz.lays229
end Go.Proofs
namespace Go.Proofs.W
open Go.Vl Go.Shelf
set_option maxRecDepth 100000
def i32 (n:Int):AV:= .v (.int .i32 n)
def JdX (x:Nat):Bool:=decide (x=32)|| decide (x=9)|| decide (x=13)
theorem Jko (x:Nat):Tells Tryz.prog 178 [i32 x] (Jb (JdX x)):=by
 have hb:JdX x=(((x:Int) ==32)|| (((x:Int) ==9)|| ((x:Int) ==13))):=by
  unfold JdX
  rw [show ((x:Int) ==32)=decide (x=32) by rw [Bool.eq_iff_iff];simp;omega,show ((x:Int) ==9)=decide (x=9) by rw [Bool.eq_iff_iff];simp;omega,show ((x:Int) ==13)=decide (x=13) by rw [Bool.eq_iff_iff];simp;omega,Bool.or_assoc]
 refine Jf Tryz.func178 rfl rfl fun nx=> ?_
 refine stp ?_
 intro c hc
 have hc2:c=((x:Int) ==32):=hc
 clear hc
 rw [← hc2] at hb
 clear hc2
 cases c
 ·refine stp ?_
  intro c hc
  have hc2:c=((x:Int) ==9):=hc
  clear hc
  rw [← hc2,Bool.false_or] at hb
  clear hc2
  cases c
  ·refine stp ?_
   intro c hc
   have hc2:c=((x:Int) ==13):=hc
   clear hc
   rw [← hc2,Bool.false_or] at hb
   refine stp ?_
   exact Jd rfl (Jt (by exact hb.symm))
  ·refine stp ?_
   exact Jd rfl (Jt (by exact hb.symm))
 ·refine stp ?_
  exact Jd rfl (Jt (by exact hb.symm))
def Jop (s:ByteArray):Prop:=∀i,i < s.size→(s.get! i).toNat < 128∧(JdX (s.get! i).toNat=true∨(32≤(s.get! i).toNat∧(s.get! i).toNat≤126))
set_option maxHeartbeats 2000000 in
theorem Jkp (s:ByteArray) (hs:Jop s) (hl:s.size≤1000000):Tells Tryz.prog 176 [Jg s] (Jb true):=by
 refine Jf Tryz.func176 rfl rfl fun nx=> ?_
 refine stp ?_
 refine Jq6 rfl Tryz.underlying9 rfl ?_
 refine stp ?_
 refine Jo (fun y:Nat×Nat=> mk 21 [(0,Jg s),(6, .bp (0,nx) 0)] ⟨[((0,nx), .si s y.1)], [],y.2,1⟩) (fun y=> y.1≤s.size) (fun y=> s.size - y.1) ?_ ?_
 ·exact ⟨(0,nx+1),Nat.zero_le _,Et (pm:= []) (bx:= [((0,nx), .si s 0)]) rfl rfl Bf trivial ⟨Rf,Rf,trivial⟩⟩
 ·rintro ⟨i,nx1⟩ h1
  dsimp only at h1
  refine stp ?_
  by_cases hi:i < s.size
  ·obtain ⟨q1,q2⟩:=hs i hi
   have hd:=JsW q1
   have hbl:=Jko (s.get! i).toNat
   generalize (s.get! i).toNat=x at q1 q2 hd hbl
   refine Jq7 rfl rfl rfl hi hd ?_
   refine stp ?_
   refine Je rfl rfl hbl ⟨Rf,trivial⟩ fun nx2=> ?_
   cases hb:JdX x with
   | true=>
     refine stp ?_
     exact back (i+1,nx2) hi Dm (Et (pm:= []) (bx:= [((0,nx), .si s (i+1))]) rfl rfl Bf trivial ⟨Rf,Rf,trivial⟩)
   | false=>
     rw [hb] at q2
     have h32:32≤x∧x≤126:=q2.resolve_left Dc
     refine stp ?_
     (intro c hc;obtain rfl:c=false:=hc.trans (by first | exact decide_eq_false Om | (simp;omega));refine stp ?_)
     (intro c hc;obtain rfl:c=false:=hc.trans (by first | exact decide_eq_false Om | (simp;omega));refine stp ?_)
     exact back (i+1,nx2) hi Dm (Et (pm:= []) (bx:= [((0,nx), .si s (i+1))]) rfl rfl Bf trivial ⟨Rf,Rf,trivial⟩)
  ·refine Jq8 rfl rfl rfl hi ?_
   refine stp ?_
   exact Jd rfl Rf
end Go.Proofs.W

namespace Go.Proofs.W
open Go.Vl Go.Shelf
set_option maxRecDepth 100000
theorem Jti (s:ByteArray) (c:Int):Tells Tryz.prog 316 [.v (.string s), .v (.int .u8 c)] (.v (.int .i64 (Lib.indexByte s.data.toList c.toNat.toUInt8))):=
 JcV (vs:= [.string s, .int .u8 c]) ⟨_,Tryz.func316,rfl,rfl⟩ fun w=> (Any.stringslite_IndexByte Tryz.lays217 s c w).mono fun e w' ⟨h1,h2⟩=> ⟨h1,by subst h2;exact ⟨rfl,rfl,rfl,Nat.le_refl _,fun _ _=> rfl⟩⟩
theorem Jjb (s:ByteArray) (hs:s.size≤1000000):Tells Tryz.prog 177 [Jg s, .fn (.func 178) [] []] (.sl 1 (Lib.goFieldsP JdX s).length fun k=> .v (((Lib.goFieldsP JdX s).map Value.string).getD k undef)):=by
 have h:=JnW (P:=Tryz.prog) (f:=177) (ars:= [Jg s, .fn (.func 178) [] []]) (vs:= [.string s, .func (.func 178) #[] #[]]) (xs:=(Lib.goFieldsP JdX s).map Value.string) (t:=9) ⟨_,Tryz.func177,rfl,rfl⟩ (fun w X g us h1 h2=> by
  match us,h1 with
  | [a,b],_=>
    have ha:=h2 0 _ a rfl rfl
    have hb:=Jyc _ _ _ _ (h2 1 _ b rfl rfl)
    generalize a=a' at ha
    generalize b=b' at hb
    cases ha
    cases hb
    rfl) (fun w hk=> by
  rw [List.length_map]
  exact Any.strings_FieldsFunc_grows Tryz.lays229 178 #[] (fun args w=> enters_of Tryz.func178 (by kernel_rfl) rfl args w) JdX s w Om (Jm1 (fun x _=> Jko x) w hk) (by kernel_rfl) (by kernel_rfl))
 rw [List.length_map] at h
 exact h
set_option maxHeartbeats 1000000 in
theorem Jl9 (s:ByteArray) (b:UInt8) (hne:((⟨#[b]⟩:ByteArray).toList ==s.toList)=false):Tells Tryz.prog 371 [Jg s,Jg ⟨#[b]⟩] (int (Lib.indexByte s.data.toList b)):=by
 have hi:=Jti s (b.toNat:Int)
 have hbb:((b.toNat:Int).toNat.toUInt8)=b:=by simp
 rw [hbb] at hi
 refine Jf Tryz.func371 rfl rfl fun nx=> ?_
 refine stp ?_
 intro c hc
 obtain rfl:c=false:=hc.trans hne
 refine stp ?_
 (conv=> whnf)
 refine ⟨⟨by decide,(show (0:Int) < 1 by decide)⟩, ?_⟩
 refine stp ?_
 refine Je rfl rfl hi ⟨Rf,Rf,trivial⟩ fun nx2=> ?_
 refine stp ?_
 exact Jd rfl Rf
set_option maxHeartbeats 1000000 in
theorem Jma (s:ByteArray) (b:UInt8) (hne:((⟨#[b]⟩:ByteArray).toList ==s.toList)=false) (h:Lib.indexByte s.data.toList b=-1):Tells Tryz.prog 251 [Jg s,Jg ⟨#[b]⟩] (.tup [Jg s,Jg ⟨#[]⟩,Jb false]):=by
 have hi:=Jl9 s b hne
 rw [h] at hi
 have hc:Tells Tryz.prog 305 [Jg s,Jg ⟨#[b]⟩] (.tup [Jg s,Jg ⟨#[]⟩,Jb false]):=by
  refine Jf Tryz.func305 rfl rfl fun nx=> ?_
  refine stp ?_
  refine Je rfl rfl hi ⟨Rf,Rf,trivial⟩ fun nx2=> ?_
  refine stp ?_
  exact Jh rfl trivial Rf
 refine Jf Tryz.func251 rfl rfl fun nx=> ?_
 refine stp ?_
 refine Je rfl rfl hc ⟨Rf,Rf,trivial⟩ fun nx2=> ?_
 refine stp ?_
 exact Jh rfl trivial Rf
theorem Jkq (s:ByteArray) (b:UInt8) (hne:((⟨#[b]⟩:ByteArray).toList ==s.toList)=false):Tells Tryz.prog 370 [Jg s,Jg ⟨#[b]⟩] (int (Lib.indexByte s.data.toList b)):=by
 have hi:=Jl9 s b hne
 refine Jf Tryz.func370 rfl rfl fun nx=> ?_
 refine stp ?_
 refine Je rfl rfl hi ⟨Rf,Rf,trivial⟩ fun nx2=> ?_
 refine stp ?_
 exact Jd rfl Rf
end Go.Proofs.W

namespace Go.Proofs.W
open Go.Vl Go.Shelf
set_option maxRecDepth 100000
def Ja9:ByteArray:=⟨#[100,101,102,97,117,108,116,32,107,105,108,108]⟩
def lineB:ByteArray:=⟨#[114,101,97,100,32,97,108,108,111,119]⟩
def textAB:ByteArray:=⟨#[100,101,102,97,117,108,116,32,107,105,108,108,10,114,101,97,100,32,97,108,108,111,119]⟩
theorem Jrw (s:ByteArray):Tells Tryz.prog 175 [Jg s] (.fn (.func 249) [] [.rp [Jg s]]):=by
 refine Jf Tryz.func175 rfl rfl fun nx=> ?_
 (repeat ((conv=>whnf);first|refine ω0 ?_|refine ω1 ?_|refine ω2 ?_|refine ω3 ?_|refine ω4 rfl ?_|refine ω5 rfl ?_|refine ω6 ?_|refine ω7 ?_|refine ⟨rfl,?_⟩|refine ⟨trivial,?_⟩|refine ⟨⟨rfl,Nat.le_of_ble_eq_true rfl⟩,?_⟩|refine ⟨⟨by kernel_rfl,by kernel_rfl⟩,?_⟩|refine ⟨by decide,?_⟩|refine Jf8 ?_|refine Jfl ?_))
 refine AW.le (JcI (L:= [(2, .fn (.func 249) [] [.rp [Jg s]])]) (bx:= []) (pm:= []) (nn:=1) [((0,nx), .c [Jg s])] rfl rfl Sf .slnil ⟨Frz.fn trivial ⟨Frz.bp (.head _) rfl,trivial⟩,trivial⟩) ?_
 refine stp ?_
 exact Jd rfl Rf
def JcH (a:Nat) (s sep:ByteArray):List (Vl.Id×Own):= [((12,a+2), .c [int 0]),((11,a+1), .c [Jg sep]),((10,a), .c [Jg s])]
def Joq (a:Nat):AV:= .fn (.func 368) [] [.bp (11,a+1) 0, .bp (10,a) 0, .bp (12,a+2) 0]
theorem JpF (s sep:ByteArray) (nx:Nat):ECall Tryz.prog 304 [Jg s,Jg sep,int 0] ⟨[], [],nx,10⟩ fun r h'=> r=Joq nx∧h'=⟨JcH nx s sep, [],nx+3,13⟩:=by
 refine J2 Tryz.func304 rfl rfl ?_
 refine stp ?_
 exact JaG rfl ⟨rfl,rfl⟩
theorem Jm5 (s sep:ByteArray) (nx:Nat):ECall Tryz.prog 250 [Jg s,Jg sep] ⟨[], [],nx,10⟩ fun r h'=> r=Joq nx∧h'=⟨JcH nx s sep, [],nx+3,13⟩:=by
 refine J2 Tryz.func250 rfl rfl ?_
 refine stp ?_
 refine Jgs (xs:= [Jg s,Jg sep,int 0]) [] [] 13 rfl rfl rfl rfl ⟨Rf,Rf,Rf,trivial⟩ (JpF s sep nx) Bf Pf rfl fun r h' hq=> ?_
 obtain ⟨rfl,rfl⟩:=hq
 refine stp ?_
 exact JaG rfl ⟨rfl,rfl⟩
def JyG:Nat→ByteArray
 | 0=> textAB
 | _=> lineB
set_option maxHeartbeats 2000000 in
theorem Jrx (a:Nat):Jlh Tryz.prog 368 [] [.bp (11,a+1) 0, .bp (10,a) 0, .bp (12,a+2) 0] (fun s:ByteArray=> [Jg s]) [Ja9,lineB] (JcH a textAB ⟨#[10]⟩):=by
 intro i σ Cb Cp I hc s0 nx nn h0
 refine ECall.wk (J2 Tryz.func368 rfl rfl ?_)
 have hi0:=Jkq textAB 10 (by rw [Lib.toList_data,Lib.toList_data];decide)
 have hi1:=Jkq lineB 10 (by rw [Lib.toList_data,Lib.toList_data];decide)
 rw [show Lib.indexByte textAB.data.toList 10=12 by decide] at hi0
 rw [show Lib.indexByte lineB.data.toList 10=-1 by decide] at hi1
 refine stp ?_
 refine Jo (fun y:Nat×σ×Nat=> mk 52 [(0, .yl i),(1, .bp (11,a+1) 0),(2, .bp (10,a) 0),(3, .bp (12,a+2) 0)] ⟨JcH a (JyG y.1) ⟨#[10]⟩++Cb y.2.1,Cp y.2.1,y.2.2,nn⟩) (fun y=> y.1≤1∧I ([Ja9].take y.1) y.2.1) (fun y=> 1 - y.1) ?_ ?_
 ·exact ⟨(0,s0,nx),⟨Nat.zero_le _,h0⟩,Et rfl rfl Bf Pf ⟨Rf,Rf,Rf,Rf,trivial⟩⟩
 ·rintro ⟨k,s,nx1⟩ ⟨k1,hI⟩
  dsimp only at k1 hI
  obtain rfl | rfl:k=0∨k=1:=by omega
  ·refine stp ?_
   refine Je rfl rfl hi0 ⟨Rf,Rf,trivial⟩ fun nx2=> ?_
   refine stp ?_
   (conv=> whnf)
   refine ⟨⟨by decide,(by decide:(12:Int)≤23)⟩,Jj (b:=Jg Ja9) (by kernel_rfl) ?_⟩
   refine stp ?_
   refine Jhi (pre:= []) (x:=Ja9) (post:= [lineB]) (s:=s) (JcH a textAB ⟨#[10]⟩) [] rfl rfl rfl hc rfl hI ⟨Rf,trivial⟩ (fun s' nx' hI'=> ?_) (fun s' nx' hJ=> hJ.elim)
   refine stp ?_
   exact back (1,s',nx') ⟨Nat.le_refl _,hI'⟩ Dm (Et (bx:=JcH a lineB ⟨#[10]⟩++Cb s') rfl rfl ⟨rfl,OwnLe.refl _,rfl,OwnLe.refl _,rfl,⟨AVle.of_eq (by kernel_rfl),trivial⟩,Bf⟩ Pf ⟨Rf,Rf,Rf,Rf,trivial⟩)
  ·refine stp ?_
   refine Je rfl rfl hi1 ⟨Rf,Rf,trivial⟩ fun nx2=> ?_
   refine stp ?_
   refine Jhi (pre:= [Ja9]) (x:=lineB) (post:= []) (s:=s) (JcH a lineB ⟨#[10]⟩) [] rfl rfl rfl hc rfl hI ⟨Rf,trivial⟩ (fun s' nx' hI'=> ?_) (fun s' nx' hJ=> hJ.elim)
   refine stp ?_
   refine JaG rfl ⟨_,⟨Cb s',Cp s',nx',0⟩,Rf, ?_,s',hI',rfl,rfl⟩
   exact JaR _ _ rfl (List.sublist_append_right _ _) Sf Bf Pf
end Go.Proofs.W

namespace Go.Proofs.W
open Go.Vl Go.Shelf
set_option maxRecDepth 100000
def Jwb (p:ByteArray×Nat):List AV:= [int p.2,Jg p.1]
theorem Jgx {pre post:List ByteArray} {x:ByteArray} (h: [Ja9,lineB]=pre++x::post):(pre= []∧x=Ja9∧post= [lineB])∨(pre= [Ja9]∧x=lineB∧post= []):=by
 match pre,h with
 | [],h=> cases h;exact .inl ⟨rfl,rfl,rfl⟩
 | [_],h=> cases h;exact .inr ⟨rfl,rfl,rfl⟩
 | _::_::pre,h=> simp at h
theorem JyH:Tells Tryz.prog 251 [Jg Ja9,Jg ⟨#[35]⟩] (.tup [Jg Ja9,Jg ⟨#[]⟩,Jb false]):=Jma Ja9 35 (by rw [Lib.toList_data,Lib.toList_data];decide) Dc
theorem JyI:Tells Tryz.prog 251 [Jg lineB,Jg ⟨#[35]⟩] (.tup [Jg lineB,Jg ⟨#[]⟩,Jb false]):=Jma lineB 35 (by rw [Lib.toList_data,Lib.toList_data];decide) Dc
set_option maxHeartbeats 4000000 in
theorem Jry:Jlh Tryz.prog 249 [] [.rp [Jg textAB]] Jwb [(Ja9,1),(lineB,2)] []:=by
 intro i σ Cb Cp I hc s0 nx nn h0
 refine ECall.wk (J2 Tryz.func249 rfl rfl ?_)
 refine AW.le (E':=mk 21 [(0, .yl i),(1, .rp [Jg textAB])] ⟨Cb s0,Cp s0,nx,0⟩ (some [])) (Et rfl rfl Bf Pf ⟨Rf,Rf,trivial⟩) ?_
 refine stp ?_
 refine Jgs (xs:= [Jg textAB,Jg ⟨#[10]⟩]) (bx1:= []) (pm1:= []) (((1,nx+1), .c [int 0])::((0,nx), .c [.yl i])::Cb s0) (Cp s0) 13 rfl rfl rfl (List.append_nil _).symm ⟨Rf,Rf,trivial⟩ (Jm5 textAB ⟨#[10]⟩ (nx+2)) Bf Pf rfl fun r h' hq=> ?_
 obtain ⟨rfl,rfl⟩:=hq
 refine JB ?_
 refine AW.le (E':=mk 21 [(2, .bp (0,nx) 0),(3, .bp (1,nx+1) 0),(6,Joq (nx+2))] ⟨JcH (nx+2) textAB ⟨#[10]⟩++(((1,nx+1), .c [int 0])::((0,nx), .c [.yl i])::Cb s0),Cp s0,nx+5,13⟩ (some [])) (Et rfl rfl Bf (by rw [List.append_nil];exact Pf) ⟨Rf,Rf,Rf,trivial⟩) ?_
 refine JB ?_
 refine Jqc (σ:=σ×Nat) (e:=fun s:ByteArray=> [Jg s]) (xs:= [Ja9,lineB]) (first':= []) (caps':= [.bp (11,nx+2+1) 0, .bp (10,nx+2) 0, .bp (12,nx+2+2) 0]) (JcH (nx+2) textAB ⟨#[10]⟩) (fun y=> ((1,nx+1), .c [int y.2])::((0,nx), .c [.yl i])::Cb y.1) (fun y=> Cp y.1) (fun pre y=> y.2=pre.length∧I (pre.zipIdx 1) y.1) (s0,0) rfl rfl (Jrx (nx+2)) (LeL.refl _) (LeL.refl _) rfl rfl ⟨rfl,h0⟩ (fun _=> rfl) ?_ ?_
 ·rintro pre x post ⟨s,n⟩ nx3 nn3 hx ⟨hn,hI⟩
  dsimp only at hn hI
  have hcut:Tells Tryz.prog 251 [Jg x,Jg ⟨#[35]⟩] (.tup [Jg x,Jg ⟨#[]⟩,Jb false]):=by
   rcases Jgx hx with ⟨_,rfl,_⟩ | ⟨_,rfl,_⟩
   ·exact JyH
   ·exact JyI
  have hlen:pre.length≤1:=by rcases Jgx hx with ⟨rfl,_⟩ | ⟨rfl,_⟩ <;> decide
  have hX: [(Ja9,1),(lineB,2)]=pre.zipIdx 1++(x,n+1)::post.zipIdx (pre.length+2):=by
   rw [hn]
   rcases Jgx hx with ⟨rfl,rfl,rfl⟩ | ⟨rfl,rfl,rfl⟩ <;> rfl
  have hI2:(pre++ [x]).zipIdx 1=pre.zipIdx 1++ [(x,n+1)]:=by
   rw [hn]
   rcases Jgx hx with ⟨rfl,rfl,rfl⟩ | ⟨rfl,rfl,rfl⟩ <;> rfl
  refine JB ?_
  refine JE ?_
  refine stp ?_
  refine Je rfl rfl hcut ⟨Rf,Rf,trivial⟩ fun nx4=> ?_
  refine stp ?_
  refine Jhi (pre:=pre.zipIdx 1) (x:=(x,n+1)) (post:=post.zipIdx (pre.length+2)) (s:=s) [_,_,_,_] [] rfl rfl rfl hc hX hI ⟨Jl (JF Om),Rf,trivial⟩ (fun s' nx' hI'=> ?_) (fun s' nx' hJ=> hJ.elim)
  refine stp ?_
  refine ⟨(s',n+1), .inl ⟨rfl,by simp [hn],by rw [hI2];exact hI'⟩, ?_,rfl⟩
  have e:IntKind.i64.wrap ((n:Int)+1)=((n+1:Nat):Int):=JF Om
  show _=_::_::((1,nx+1),Own.c [int ((n+1:Nat):Int)])::((0,nx),Own.c [.yl i])::Cb s'
  rw [← e]
  rfl
 ·rintro ⟨s',n⟩ nx3 nn3 ⟨hn,hI⟩
  dsimp only at hn hI
  refine stp ?_
  refine JaG rfl ⟨_,⟨Cb s',Cp s',nx3,0⟩,Rf, ?_,s',hI,rfl,rfl⟩
  exact JaR _ _ rfl (.cons _ (.cons _ (.cons _ Sf))) Sf Bf Pf
end Go.Proofs.W

namespace Go.Proofs.W
open Go.Vl Go.Shelf
set_option maxRecDepth 100000
def Jcp:ByteArray:=⟨#[100,101,102,97,117,108,116]⟩
def JdK:ByteArray:=⟨#[107,105,108,108]⟩
def JcP:ByteArray:=⟨#[114,101,97,100]⟩
def JcX:ByteArray:=⟨#[97,108,108,111,119]⟩
def JS (l:List ByteArray):AV:= .sl 1 l.length fun k=> .v ((l.map Value.string).getD k undef)
def Jnk (p:Nat×List ByteArray):AV:= .ag [int p.1,JS p.2]
def Jtj (L:List (Nat×List ByteArray)):AV:= .sl 2 L.length fun k=> Jnk (L.getD k (0, []))
def JeW (s:ByteArray):List ByteArray:=Lib.goFieldsP JdX s
theorem Jlm:JeW Ja9= [Jcp,JdK]:=by decide+kernel
theorem Jln:JeW lineB= [JcP,JcX]:=by decide+kernel
theorem JxC:Jop Ja9:=by
 intro i hi
 have hi:i < 12:=hi
 rcases (by omega:i=0∨i=1∨i=2∨i=3∨i=4∨i=5∨i=6∨i=7∨i=8∨i=9∨i=10∨i=11) with rfl | rfl | rfl | rfl | rfl | rfl | rfl | rfl | rfl | rfl | rfl | rfl <;> decide
theorem JxD:Jop lineB:=by
 intro i hi
 have hi:i < 10:=hi
 rcases (by omega:i=0∨i=1∨i=2∨i=3∨i=4∨i=5∨i=6∨i=7∨i=8∨i=9) with rfl | rfl | rfl | rfl | rfl | rfl | rfl | rfl | rfl | rfl <;> decide
def Ju6 (L:List (ByteArray×Nat)):List (Nat×List ByteArray):=L.map fun p=> (p.2,JeW p.1)
def Ju7 (L:List (ByteArray×Nat)) (k:Nat):AV:=Jnk ((Ju6 L).getD k (0, []))
theorem Jkr:Tryz.prog.bytesOf 211=32:=by kernel_rfl
theorem Jrz {pre post:List (ByteArray×Nat)} {x:ByteArray×Nat} (h: [(Ja9,1),(lineB,2)]=pre++x::post):(pre= []∧x=(Ja9,1))∨(pre= [(Ja9,1)]∧x=(lineB,2)):=by
 match pre,h with
 | [],h=> cases h;exact .inl ⟨rfl,rfl⟩
 | [_],h=> cases h;exact .inr ⟨rfl,rfl⟩
 | _::_::pre,h=> simp at h
set_option maxHeartbeats 4000000 in
theorem Jm6:Tells Tryz.prog 97 [Jg textAB] (.tup [Jtj (Ju6 [(Ja9,1),(lineB,2)]),int 0,int 0]):=by
 refine Jf Tryz.func97 rfl rfl fun nx=> ?_
 refine stp ?_
 refine Je rfl rfl (Jrw textAB) ⟨Rf,trivial⟩ fun nx2=> ?_
 refine JB ?_
 refine AW.le (E':=mk 32 [(2, .bp (0,nx) 0),(3, .bp (1,nx+1) 0),(4, .bp (2,nx+2) 0),(5, .bp (3,nx+3) 0),(13, .fn (.func 249) [] [.rp [Jg textAB]])] ⟨[((3,nx+3), .c [.os 2 0 (Ju7 []) none]),((2,nx+2), .c [int 0]),((1,nx+1), .c [int 0]),((0,nx), .c [.os 0 0 (fun _=> .any) none])], [],nx2,4⟩ (some [])) (Et rfl rfl ⟨rfl,⟨AVle.os_nil,trivial⟩,Bf⟩ trivial ⟨Rf,Rf,Rf,Rf,Rf,trivial⟩) ?_
 refine JB ?_
 refine Jqc (σ:=Nat×(Nat→AV)×Option Vl.Id) (e:=Jwb) (xs:= [(Ja9,1),(lineB,2)]) (first':= []) (caps':= [.rp [Jg textAB]]) [] (fun y=> [((3,nx+3), .c [.os 2 y.1 y.2.1 y.2.2]),((2,nx+2), .c [int 0]),((1,nx+1), .c [int 0]),((0,nx), .c [.os 0 0 (fun _=> .any) none])]) (fun y=> Jad y.2.2 (y.1 * 2)) (fun pre y=> y.1=pre.length∧(∀k,k < y.1→y.2.1 k=Ju7 pre k)∧(y.2.2=none→pre= [])) (0,Ju7 [],none) rfl rfl Jry (LeL.refl _) (LeL.refl _) rfl rfl ⟨rfl,fun _ _=> rfl,fun _=> rfl⟩ (fun _=> rfl) ?_ ?_
 ·rintro pre x post ⟨L,f,oi⟩ nx3 nn3 hx ⟨hL,hf0,ho⟩
  dsimp only at hL hf0 ho
  subst hL
  rcases Jrz hx with ⟨rfl,rfl⟩ | ⟨rfl,rfl⟩
  ·have hp:=Jkp Ja9 JxC Dc
   have hf:Tells Tryz.prog 177 [Jg Ja9, .fn (.func 178) [] []] (JS [Jcp,JdK]):=by rw [← Jlm];exact Jjb Ja9 Dc
   refine JB ?_
   refine JE ?_
   refine stp ?_
   refine Je rfl rfl hp ⟨Rf,trivial⟩ fun nx4=> ?_
   refine stp ?_
   refine Je rfl rfl hf ⟨Rf,Rf,trivial⟩ fun nx5=> ?_
   refine JB ?_
   refine JE ?_
   refine JB ?_
   refine JO (fun n=> match n with | 0=> true | _=> false) 6 ?_
   refine stp ?_
   refine Jfc (e:=211) (c:=2) (pm:= []) (n:=0) (oi:=oi) (sz:=2) (f:=f) rfl rfl (.inr ⟨_,rfl⟩) (by kernel_rfl) (by kernel_rfl) (by kernel_rfl) (.inr rfl) (by kernel_rfl) (List.append_nil _).symm (Jy rfl) (by rw [Jkr];decide) Dc ?_
   refine stp ?_
   refine ⟨(0+1,_,some (nn3,nx5)), .inl ⟨rfl,rfl,fun k hk=> ?_,fun h=> by cases h⟩,rfl,rfl⟩
   obtain rfl:k=0:=Nat.lt_one_iff.1 hk
   show _=Jnk (1,JeW Ja9)
   rw [Jlm];rfl
  ·have hp:=Jkp lineB JxD Dc
   have hf:Tells Tryz.prog 177 [Jg lineB, .fn (.func 178) [] []] (JS [JcP,JcX]):=by rw [← Jln];exact Jjb lineB Dc
   refine JB ?_
   refine JE ?_
   refine stp ?_
   refine Je rfl rfl hp ⟨Rf,trivial⟩ fun nx4=> ?_
   refine stp ?_
   refine Je rfl rfl hf ⟨Rf,Rf,trivial⟩ fun nx5=> ?_
   refine JB ?_
   refine JE ?_
   refine JB ?_
   refine JO (fun n=> match n with | 0=> true | _=> false) 6 ?_
   refine stp ?_
   refine Jfc (e:=211) (c:=2) (pm:= []) (n:=1) (oi:=oi) (sz:=2) (f:=f) rfl rfl (.inr ⟨_,rfl⟩) (by kernel_rfl) (by kernel_rfl) (by kernel_rfl) (.inr rfl) (by kernel_rfl) (List.append_nil _).symm (Jy rfl) (by rw [Jkr];decide) Dc ?_
   refine stp ?_
   refine ⟨(1+1,_,some (nn3,nx5)), .inl ⟨rfl,rfl,fun k hk=> ?_,fun h=> by cases h⟩,rfl,rfl⟩
   refine Jb5 (fun k hk=> ?_) ?_ k hk
   ·obtain rfl:k=0:=Nat.lt_one_iff.1 hk
    exact hf0 0 Dc
   ·show _=Jnk (2,JeW lineB)
    rw [Jln];rfl
 ·rintro ⟨L,f,oi⟩ nx3 nn3 ⟨hL,hf0,ho⟩
  dsimp only at hL hf0 ho
  subst hL
  refine stp ?_
  exact Jh rfl ⟨⟨rfl,Nat.zero_lt_one⟩,⟨rfl,Nat.zero_lt_one⟩,⟨rfl,Nat.zero_lt_one⟩,trivial⟩ (AVle.tups (cs:= [_,_,_]) ⟨(AVle.os_fun hf0).trans AVle.os_sl,Rf,Rf,trivial⟩)
end Go.Proofs.W

namespace Go.Proofs.W
open Go.Vl
set_option maxRecDepth 100000
def kb (k:Nat):Nat:= [2147483648,0,196608,327680,2143289344,2146435072,2147221504,2147418112].getD k 0
def km (k:Nat):Nat:=if k=3 then 4095 else if k=5 then 65535 else 0
theorem JxE (k:Nat) (h:k < 8):∃s m,JdS JfH k= .ag [.v (.string s), .v (.int .u32 (kb k)),m]∧Tells Tryz.prog 242 [JdS JfH k] (int (km k)):=by
 have key:=Jhp k h
 rcases k with _ | _ | _ | _ | _ | _ | _ | _ | k
 ·exact ⟨_,_,rfl,JcB _ _⟩
 ·exact ⟨_,_,rfl,JcB _ _⟩
 ·exact ⟨_,_,rfl,JcB _ _⟩
 ·exact ⟨_,_,rfl,Jgv _ _ 4096 Dc⟩
 ·exact ⟨_,_,rfl,JcB _ _⟩
 ·exact ⟨_,_,rfl,Jgv _ _ 65536 Dc⟩
 ·exact ⟨_,_,rfl,JcB _ _⟩
 ·exact ⟨_,_,rfl,JcB _ _⟩
 ·omega
theorem JrA {k:Nat} (h:k < 8):kb k+km k < 4294967296:=by
 rcases k with _ | _ | _ | _ | _ | _ | _ | _ | k
 all_goals first | decide | omega
end Go.Proofs.W

namespace Go.Proofs.W
open Go.Vl
set_option maxRecDepth 100000
def Jwc (w:ByteArray):AV:= .fn (.func 373) [] [.rp [JS [w]]]
def JxF (j:Nat):ByteArray:=match JdS JfH j with
 | .ag (.v (.string s)::_)=> s
 | _=> ⟨#[]⟩
def eqW (w:ByteArray) (j:Nat):Bool:=(JxF j).toList ==w.toList
def JiG (w:ByteArray):Option Nat:=(List.range 8).find? (eqW w)
theorem JrB (w s:ByteArray) (c:Int) (m:AV) (hm:m= .v .nilFunc∨∃n,m=Jfn n):Tells Tryz.prog 373 [.ag [.v (.string s), .v (.int .u32 c),m], .rp [JS [w]]] (Jb (s.toList ==w.toList)):=by
 refine Jf Tryz.func373 rfl rfl fun nx=> ?_
 rcases hm with rfl | ⟨n,rfl⟩
 all_goals
  refine stp ?_
  (refine Ju 7 ?_ ?_ ?_ ?_;(· kernel_rfl);(· kernel_rfl);(· kernel_rfl))
  refine stp ?_
  refine ⟨⟨by decide,(show (0:Int) < 1 by decide)⟩, ?_⟩
  refine stp ?_
  intro c hc
  subst hc
  refine stp ?_
  exact Jd rfl Rf
set_option maxHeartbeats 1000000 in
theorem Jtk (w:ByteArray):Tells Tryz.prog 372 [Jrr,Jwc w] (int (JgK (JiG w))):=by
 refine Jf Tryz.func372 rfl rfl fun nx=> ?_
 refine stp ?_
 refine Jo (fun s:Nat×Nat=> mk 19 [(0,Jrr),(1,Jwc w),(7,int 8),(8,int s.1)] ⟨[], [],s.2,0⟩) (fun s=> s.1≤8∧∀j,j < s.1→eqW w j=false) (fun s=> 8 - s.1) ?_ ?_
 ·exact ⟨(0,nx),⟨by simp,by intro j hj;simp at hj⟩,J5 rfl rfl ⟨Rf,Rf,Rf,Rf,trivial⟩⟩
 ·rintro ⟨i,nx⟩ ⟨h1,h2⟩
  dsimp only at h1 h2
  by_cases hi:i < 8
  ·obtain ⟨s,c0,m,hr1,h4,_⟩:=Jhp i hi
   have hT:=JrB w s c0 m h4
   have hes:(s.toList ==w.toList)=eqW w i:=by unfold eqW JxF;rw [hr1]
   rw [hes] at hT
   rcases h4 with rfl | ⟨n',rfl⟩
   all_goals
    refine stp ?_
    intro c h3;cases c
    ·exact absurd (Jm h3) Dm
    refine stp ?_
    refine ⟨⟨by dsimp only;omega,by dsimp only;omega⟩,Jj (b:= .rp [.v (.string s), .v (.int .u32 c0),_]) (by show AV.rp (JdS JfH i).cells=_;rw [hr1];rfl) ?_⟩
    refine stp ?_
    refine Je rfl rfl hT ⟨Rf,Rf,trivial⟩ fun nx'=> ?_
    intro c h4;cases c
    ·refine stp ?_
     refine back (i+1,nx') ⟨by dsimp only;omega,fun j hj=> ?_⟩ Dm (J5 rfl rfl ⟨Rf,Rf,Rf,Jl (JF Dm),trivial⟩)
     dsimp only at hj
     rcases Nat.lt_or_ge j i with h | h
     ·exact h2 j h
     ·obtain rfl:j=i:=by omega
      exact h4.symm
    ·refine stp ?_
     refine Jd rfl (Jl ?_)
     have:JiG w=some i:=by
      unfold JiG
      rw [List.find?_range_eq_some]
      exact ⟨h4.symm,by simp;omega,fun j hj=> by rw [h2 j hj];rfl⟩
     rw [this];rfl
  ·obtain rfl:i=8:=by omega
   refine stp ?_
   refine Jd rfl (Jl ?_)
   have:JiG w=none:=by
    unfold JiG
    rw [List.find?_range_eq_none]
    intro j hj
    rw [h2 j hj];rfl
   rw [this];rfl
set_option maxHeartbeats 1000000 in
theorem Jmb (w s:ByteArray) (k:Nat) (c:Int) (hw:JiG w=some k) (hk:k < 8) (hr:JdS JfH k= .ag [.v (.string s), .v (.int .u32 c), .v .nilFunc]):Tells Tryz.prog 306 [JS [w]] (.tup [act (k+1:Nat) 0,int 1,int 0]):=by
 have hx:=Jtk w
 rw [hw] at hx
 have ho:=Jog k hk
 rw [hr] at ho
 refine Jf Tryz.func306 rfl rfl fun nx=> ?_
 (refine JB ?_;refine JE ?_;refine JB ?_)
 refine Jbq (n:=60) (nx:=nx+2) (nn:=2) (pm:= []) (bx:= [((1,nx+1), .c [int 0,int 0])]) (L:= [(1, .rp [JS [w]]),(2, .bp (1,nx+1) 0),(3,int 0),(4,int 0)]) (df:=some []) [((0,nx), .c [JS [w]])] rfl rfl rfl (List.Perm.swap _ _ _) Sf ⟨Frz.bp (.head _) rfl,Frz.refl _,Frz.refl _,Frz.refl _,trivial⟩ ?_
 refine stp ?_
 refine Je rfl rfl JjA trivial fun nx1=> ?_
 refine stp ?_
 refine Je rfl rfl hx ⟨Rf,Rf,trivial⟩ fun nx2=> ?_
 refine stp ?_
 refine Je rfl rfl ho ⟨Jl (by show IntKind.i64.wrap (1+(k:Int))=_;rw [Jac Om Om];omega),trivial⟩ fun nx3=> ?_
 refine stp ?_
 exact Jh rfl ⟨rfl,trivial⟩ (AVle.tups (cs:= [_,_,_]) ⟨AVle.ags (cs:= [_,_]) ⟨Jl (by show IntKind.i64.wrap (1+(k:Int))=_;rw [Jac Om Om];omega),Rf,trivial⟩,Rf,Rf,trivial⟩)
theorem Jtl:Tells Tryz.prog 306 [JS [JdK]] (.tup [act 1 0,int 1,int 0]):=Jmb JdK _ 0 _ (by decide+kernel) Dc rfl
theorem JrC:Tells Tryz.prog 306 [JS [JcX]] (.tup [act 8 0,int 1,int 0]):=Jmb JcX _ 7 _ (by decide+kernel) Dc rfl
end Go.Proofs.W

namespace Go.Proofs.W
open Go.Vl
set_option maxRecDepth 100000
theorem Jjc (s:ByteArray) (hs:s.size≤9223372036854775807):Tells Tryz.prog 243 [Jg s] (Jb (Jag s.data.toList)):=by
 have key:∀b,Jag s.data.toList=b→Tells Tryz.prog 243 [Jg s] (Jb b):=fun b hb=> by
  have hr:=Jm3 s hs b hb
  refine Jf Tryz.func243 rfl rfl fun nx=> ?_
  refine stp ?_
  refine Je rfl rfl hr ⟨?_,trivial⟩ fun nx1=> ?_
  ·refine AVle.os_sl.trans (AVle.sl_fun fun k hk=> ?_)
   match k,hk with
   | 0,_=> rfl
  cases b
  ·refine stp ?_
   exact Jd rfl Rf
  ·refine stp ?_
   exact Jd rfl Rf
 exact key _ rfl
theorem Jor (c:Cnd):Tells Tryz.prog 244 [JD c] (Jb (!JU c)):=by
 have key:∀b,JU c=b→Tells Tryz.prog 244 [JD c] (Jb (!b)):=fun b hb=> by
  have hr:=JfG c
  rw [hb] at hr
  refine Jf Tryz.func244 rfl rfl fun nx=> ?_
  refine stp ?_
  refine Je rfl rfl hr ⟨Rf,trivial⟩ fun nx1=> ?_
  cases b
  ·refine stp ?_
   exact Jd rfl Rf
  ·refine stp ?_
   exact Jd rfl Rf
 exact key _ rfl
def Rul.ok (r:Rul):Prop:=r.name.size≤maxLen∧r.conds.length≤maxLen∧∀c∈r.conds,c.ok
def J6 (r:Rul):Bool:=Jag r.name.data.toList&& (JaA r.act.1 r.act.2&& (decide (r.conds.length≤6)&& !(r.conds.any fun c=> !JU c)))
theorem JpG (r:Rul) (h1:r.name.size≤9223372036854775807):Tells Tryz.prog 170 [Jaj r] (Jb (J6 r)):=by
 have hn:=Jjc r.name h1
 have ha:=JjB r.act.1 r.act.2
 have hc:r.conds.length≤1000000000→Tells Tryz.prog 102 [JW r.conds,fn0 244] (Jb (r.conds.any fun c=> !JU c)):=fun hl=> Joj r.conds (fun c=> !JU c) _ hl (fun i _=> Jor _)
 unfold J6
 generalize Jag r.name.data.toList=b1 at hn⊢
 generalize JaA r.act.1 r.act.2=b2 at ha⊢
 generalize (r.conds.any fun c=> !JU c)=b3 at hc⊢
 obtain ⟨name,⟨k,n⟩,conds⟩:=r
 dsimp only at hn ha hc⊢
 refine Jf Tryz.func170 rfl rfl fun nx=> ?_
 refine stp ?_
 refine Je rfl rfl hn ⟨Rf,trivial⟩ fun nx1=> ?_
 cases b1
 ·refine stp ?_
  exact Jd rfl Rf
 refine stp ?_
 refine Je rfl rfl ha ⟨Rf,trivial⟩ fun nx2=> ?_
 cases b2
 ·refine stp ?_
  exact Jd rfl Rf
 refine stp ?_
 intro c t3;cases c
 ·refine stp ?_
  have e3:¬conds.length≤6:=fun h=> (Jm t3:¬((conds.length:Nat):Int)≤6) Om
  exact Jd rfl (Jt (by show false=(true&& (true&& (decide (conds.length≤6)&& !b3)));rw [decide_eq_false e3];rfl))
 have h3:conds.length≤6:=by have t:((conds.length:Nat):Int)≤6:=Jn t3;omega
 have hc:=hc (show conds.length≤1000000000 by omega)
 refine stp ?_
 refine Je rfl rfl hc ⟨Rf,Rf,trivial⟩ fun nx3=> ?_
 cases b3
 ·refine stp ?_
  exact Jd rfl (Jt (by first | (show true=(true&& (true&& (decide (conds.length≤6)&& !false)));rw [decide_eq_true h3];rfl) | (show true=(true&& (decide (rules.length≤500)&& !false));rw [decide_eq_true h3];rfl)))
 ·refine stp ?_
  exact Jd rfl (Jt (by first | (show false=(true&& (true&& (decide (conds.length≤6)&& !true)));rw [decide_eq_true h3];rfl) | (show false=(true&& (decide (rules.length≤500)&& !true));rw [decide_eq_true h3];rfl)))
theorem Jos (r:Rul) (h1:r.name.size≤9223372036854775807):Tells Tryz.prog 169 [Jaj r] (Jb (!J6 r)):=by
 have key:∀b,J6 r=b→Tells Tryz.prog 169 [Jaj r] (Jb (!b)):=fun b hb=> by
  have hr:=JpG r h1
  rw [hb] at hr
  refine Jf Tryz.func169 rfl rfl fun nx=> ?_
  refine stp ?_
  refine Je rfl rfl hr ⟨Rf,trivial⟩ fun nx1=> ?_
  cases b
  ·refine stp ?_
   exact Jd rfl Rf
  ·refine stp ?_
   exact Jd rfl Rf
 exact key _ rfl
def JaB (p:Pol):Bool:=JaA p.dflt.1 p.dflt.2&& (decide (p.rules.length≤500)&& !(p.rules.any fun r=> !J6 r))
def Pol.ok (p:Pol):Prop:=p.rules.length≤maxLen∧∀r∈p.rules,r.ok
theorem Jjd (p:Pol) (hp:p.ok):Tells Tryz.prog 91 [JaL p] (Jb (JaB p)):=by
 have ha:=JjB p.dflt.1 p.dflt.2
 have hc:p.rules.length≤1000000000→Tells Tryz.prog 168 [Ji p.rules,fn0 169] (Jb (p.rules.any fun r=> !J6 r)):=fun hl=> Ju4 p.rules (fun r=> !J6 r) _ hl (fun i hi=> Jos _ (by
  have:p.rules.getD i rul0∈p.rules:=by simp [List.getD,hi]
  have:=(hp.2 _ this).1
  exact Nat.le_trans this Dc))
 unfold JaB
 generalize JaA p.dflt.1 p.dflt.2=b2 at ha⊢
 generalize (p.rules.any fun r=> !J6 r)=b3 at hc⊢
 clear hp
 obtain ⟨⟨k,n⟩,x,rules⟩:=p
 dsimp only at ha hc⊢
 refine Jf Tryz.func91 rfl rfl fun nx=> ?_
 refine stp ?_
 refine Je rfl rfl ha ⟨Rf,trivial⟩ fun nx2=> ?_
 cases b2
 ·refine stp ?_
  exact Jd rfl Rf
 refine stp ?_
 intro c t3;cases c
 ·refine stp ?_
  have e3:¬rules.length≤500:=fun h=> (Jm t3:¬((rules.length:Nat):Int)≤500) Om
  exact Jd rfl (Jt (by show false=(true&& (decide (rules.length≤500)&& !b3));rw [decide_eq_false e3];rfl))
 have h3:rules.length≤500:=by have t:((rules.length:Nat):Int)≤500:=Jn t3;omega
 have hc:=hc (show rules.length≤1000000000 by omega)
 refine stp ?_
 refine Je rfl rfl hc ⟨Rf,Rf,trivial⟩ fun nx3=> ?_
 cases b3
 ·refine stp ?_
  exact Jd rfl (Jt (by first | (show true=(true&& (true&& (decide (conds.length≤6)&& !false)));rw [decide_eq_true h3];rfl) | (show true=(true&& (decide (rules.length≤500)&& !false));rw [decide_eq_true h3];rfl)))
 ·refine stp ?_
  exact Jd rfl (Jt (by first | (show false=(true&& (true&& (decide (conds.length≤6)&& !true)));rw [decide_eq_true h3];rfl) | (show false=(true&& (decide (rules.length≤500)&& !true));rw [decide_eq_true h3];rfl)))
def JdY (r:Rul):Bool:=decide (r.name.size≤60)&& decide (r.conds.length≤12)
def Jfq (p:Pol):Bool:=decide (p.rules.length≤40)&& p.rules.all JdY
end Go.Proofs.W

namespace Go.Proofs.W
open Go.Vl
set_option maxRecDepth 100000
def Jbt (s:Nat) (a b c ru wd:AV) (n:Int):List (Vl.Id×Own):= [((0,s), .c [a,b,c,ru,wd,int n])]
theorem Jfr (e:Int):Tells Tryz.prog 252 [Jb true,int e] (.tup []):=by
 refine Jf Tryz.func252 rfl rfl fun nx=> ?_
 refine stp ?_
 exact Jd rfl Rf
theorem Jtm:Tells Tryz.prog 307 [int 0] (.tup []):=by
 refine Jf Tryz.func307 rfl rfl fun nx=> ?_
 refine stp ?_
 refine Je rfl rfl (Jfr 0) ⟨Rf,Rf,trivial⟩ fun nx2=> ?_
 refine stp ?_
 exact Jd rfl Rf
theorem Jmc (x:ByteArray) (l:List ByteArray):(AV.sl 1 ((x::l).length - Int.toNat 1) fun k=> (fun k=> AV.v ((List.map Value.string (x::l)).getD k undef)) (Int.toNat 1+k))=JS l:=by
 unfold JS
 rw [show (x::l).length - Int.toNat 1=l.length by simp]
 congr 1
 funext k
 show AV.v ((List.map Value.string (x::l)).getD (1+k) undef)=_
 rw [Nat.add_comm];rfl
theorem Jmd (s:Nat) (a b c ru:AV) (w1 w2:ByteArray) (n:Int) (nx:Nat):ECall Tryz.prog 180 [.bp (0,s) 0] ⟨Jbt s a b c ru (JS [w1,w2]) n, [],nx,1⟩ fun r h'=> r=Jg w1∧h'=⟨Jbt s a b c ru (JS [w2]) n, [],nx,1⟩:=by
 refine J2 Tryz.func180 rfl rfl ?_
 refine stp ?_
 refine ⟨⟨by decide,(show (0:Int) < 2 by decide)⟩, ?_⟩
 refine stp ?_
 refine ⟨⟨by decide,(show (1:Int)≤2 by decide)⟩,Jj (b:=JS [w2]) (Jmc w1 [w2]) ?_⟩
 refine stp ?_
 exact JaG rfl ⟨rfl,rfl⟩
theorem Jje (s:Nat) (a b c ru:AV) (w:ByteArray) (k:Int) (n:Int) (nx:Nat) (hr:Tells Tryz.prog 306 [JS [w]] (.tup [act k 0,int 1,int 0])):ECall Tryz.prog 253 [.bp (0,s) 0] ⟨Jbt s a b c ru (JS [w]) n, [],nx,1⟩ fun r h'=> r=act k 0∧∃nx',h'=⟨Jbt s a b c ru (JS []) n, [],nx',1⟩:=by
 refine ECall.wk (J2 Tryz.func253 rfl rfl ?_)
 refine stp ?_
 refine Je rfl rfl hr ⟨Rf,trivial⟩ fun nx2=> ?_
 refine stp ?_
 refine Je rfl rfl Jtm ⟨Rf,trivial⟩ fun nx3=> ?_
 refine stp ?_
 refine ⟨⟨by decide,(show (1:Int)≤1 by decide)⟩,Jj (b:=JS []) (Jmc w []) ?_⟩
 refine stp ?_
 refine JeS rfl ⟨rfl,trivial⟩ ⟨act k 0,⟨Jbt s a b c ru (JS []) n, [],nx3,1⟩,Rf, ?_,rfl,nx3,rfl⟩
 exact JaR (Jbt s a b c ru (JS []) n) [] rfl (.cons _ (.cons _ Sf)) Sf Bf Pf
theorem JrD (s:Nat) (a b c ru:AV) (w:ByteArray) (k:Int) (nx:Nat) (hr:Tells Tryz.prog 306 [JS [w]] (.tup [act k 0,int 1,int 0])):ECall Tryz.prog 181 [.bp (0,s) 0] ⟨Jbt s a b c ru (JS [w]) 0, [],nx,1⟩ fun r h'=> r= .tup []∧∃nx',h'=⟨Jbt s (int k) (int 0) c ru (JS []) 0, [],nx',1⟩:=by
 refine ECall.wk (J2 Tryz.func181 rfl rfl ?_)
 refine stp ?_
 refine Je rfl rfl (Jfr 13) ⟨Rf,Rf,trivial⟩ fun nx2=> ?_
 refine stp ?_
 refine Jgs (xs:= [.bp (0,s) 0]) (bx1:=Jbt s a b c ru (JS [w]) 0) (pm1:= []) [] [] 1 rfl rfl rfl rfl ⟨Rf,trivial⟩ (Jje s a b c ru w k 0 nx2 hr) Bf Pf rfl fun r h' hq=> ?_
 obtain ⟨rfl,nx3,rfl⟩:=hq
 refine stp ?_
 refine Je rfl rfl (Jfr 13) ⟨Rf,Rf,trivial⟩ fun nx4=> ?_
 refine stp ?_
 refine JeS rfl trivial ⟨.tup [],⟨Jbt s (int k) (int 0) c ru (JS []) 0, [],nx4,1⟩,Rf, ?_,rfl,nx4,rfl⟩
 exact JaR (Jbt s (int k) (int 0) c ru (JS []) 0) [] rfl Sf Sf Bf Pf
end Go.Proofs.W

namespace Go.Proofs.W
open Go.Vl
set_option maxRecDepth 100000
def Jbu:AV:= .os 0 0 (fun _=> .any) none
theorem JpH:Tryz.prog.bytesOf 123=56:=by kernel_rfl
set_option maxHeartbeats 4000000 in
theorem Jtn (s:Nat) (a b c:AV) (nm w:ByteArray) (k:Int) (nx:Nat) (hn:Jag nm.data.toList=true) (hs:nm.size≤1000) (hr:Tells Tryz.prog 306 [JS [w]] (.tup [act k 0,int 1,int 0])):
 ECall Tryz.prog 184 [.bp (0,s) 0,Jg nm] ⟨Jbt s a b c Jbu (JS [w]) 1, [],nx,1⟩ fun r h'=> r= .tup []∧∃st nx',h'=⟨Jbt s a b c (.os 4 1 (fun _=> Jaj ⟨nm,(k,0), []⟩) (some (0,st))) (JS []) 1, [((0,st),4)],nx',1⟩:=by
 have hnm:=Jjc nm Om
 rw [hn] at hnm
 refine ECall.wk (J2 Tryz.func184 rfl rfl ?_)
 refine stp ?_
 refine Je rfl rfl hnm ⟨Rf,trivial⟩ fun nx2=> ?_
 refine stp ?_
 refine Je rfl rfl (Jfr 13) ⟨Rf,Rf,trivial⟩ fun nx3=> ?_
 refine stp ?_
 refine Je rfl rfl (Jfr 3) ⟨Rf,Rf,trivial⟩ fun nx4=> ?_
 refine stp ?_
 refine Jgs (xs:= [.bp (0,s) 0]) (bx1:=Jbt s a b c Jbu (JS [w]) 1) (pm1:= []) [] [] 1 rfl rfl rfl rfl ⟨Rf,trivial⟩ (Jje s a b c Jbu w k 1 nx4 hr) Bf Pf rfl fun r h' hq=> ?_
 obtain ⟨rfl,nx5,rfl⟩:=hq
 refine stp ?_
 refine Jo (fun y:Nat=> mk 67 [(0, .bp (0,s) 0),(1,Jg nm),(4, .bp (1,nx5) 0)] ⟨((1,nx5), .c [Jg nm,int k,int 0,JW []])::Jbt s a b c Jbu (JS []) 1, [],y,2⟩) (fun _=> True) (fun _=> 0) ?_ ?_
 ·exact ⟨nx5+1,trivial,Et (pm:= []) (bx:=((1,nx5), .c [Jg nm,int k,int 0,JW []])::Jbt s a b c Jbu (JS []) 1) rfl rfl ⟨rfl,⟨Rf,Rf,Rf,AVle.os_sl0,trivial⟩,Bf⟩ trivial ⟨Rf,Rf,Rf,trivial⟩⟩
 ·rintro nx6 -
  refine stp ?_
  refine JZ 9 (((1,nx5), .c [Jg nm,int k,int 0,JW []])::Jbt s a b c Jbu (JS []) 1) (fun i=> match i with | 8=> true | _=> false) (fun _=> false) [0,1,2,3,4,5,6,7,8] (by kernel_rfl) (by kernel_rfl) (HB.refl _) ?_
  refine stp ?_
  refine ⟨_,Jbe (e:=123) (c:=4) (pm:= []) (n:=0) (oi:=none) (sz:=0) (f:=fun _=> .any) (HB.refl _) rfl rfl rfl (.inr ⟨_,rfl⟩) (by kernel_rfl) (by kernel_rfl) (by kernel_rfl) (.inl ⟨rfl,rfl⟩) (by kernel_rfl) rfl (Jy rfl) (by rw [JpH];decide) Dc,fun r h' hr=> ?_⟩
  obtain ⟨rfl,rfl⟩:=hr
  refine stp ?_
  refine JeS rfl trivial ⟨.tup [],⟨Jbt s a b c (.os 4 1 (fun _=> Jaj ⟨nm,(k,0), []⟩) (some (0,nx6))) (JS []) 1, [((0,nx6),4)],nx6+1,1⟩,Rf, ?_,rfl,nx6,nx6+1,rfl⟩
  exact JaR (Jbt s a b c (.os 4 1 (Jby 0 (fun _=> .any) _) (some (2,nx6))) (JS []) 1) [((2,nx6),4)] rfl (.cons _ Sf) Sf ⟨rfl,⟨Rf,Rf,Rf,(AVle.os_fun (fun i hi=> by obtain rfl:i=0:=Nat.lt_one_iff.1 hi;rfl)).trans (AVle.os_nm rfl),Rf,Rf,trivial⟩,trivial⟩ ⟨rfl,rfl,trivial⟩
end Go.Proofs.W

namespace Go.Proofs.W
open Go.Vl
set_option maxRecDepth 100000
def Jnl (s:Nat) (a b c ru wd:AV) (n:Int):List (Vl.Id×Own):= [((1,s), .c [a,b,c,ru,wd,int n])]
theorem Jme {l l':List (Value×AV)} {K:List (Value×AV)→Prop} (h:l=l') (hk:JgS l' K):JgS l K:=h ▸ hk
def doF (s:Nat):AV:= .fn (.func 181) [.bp (0,s) 0] []
def doX (s:Nat):AV:= .fn (.func 182) [.bp (0,s) 0] []
def doM (s:Nat):List (Value×AV):= [(.string Jcp,doF s),(.string ⟨#[120,51,50]⟩,doX s)]
theorem Jto (x:AV) (h:Heap):DCall Tryz.prog 179 [x] .returning h fun u h'=> u= .returning∧h'=h:=by
 refine JmZ Tryz.func179 rfl rfl rfl rfl rfl rfl ?_
 refine stp ?_
 refine JnT rfl (.inr rfl) rfl rfl ?_
 refine stp ?_
 exact JaG rfl ⟨rfl,rfl⟩
def Jks (s s1 s2 s3 s4:Nat) (nm:ByteArray):List (Vl.Id×Own):= [((4,s4), .mp (doM s)),((3,s3), .c [Jg nm]),((2,s2), .c [int 0]),((1,s1), .c [.bp (0,s) 0])]
theorem JrE (s s1 s2 s3 s4 nx:Nat) (a b c:AV) (nm w:ByteArray) (k:Int) (hn:Jag nm.data.toList=true) (hs:nm.size≤1000) (hr:Tells Tryz.prog 306 [JS [w]] (.tup [act k 0,int 1,int 0])):
 ECall Tryz.prog 183 [.bp (1,s1) 0, .bp (3,s3) 0] ⟨Jks s s1 s2 s3 s4 nm++Jbt s a b c Jbu (JS [w]) 1, [],nx,5⟩ fun r h'=> r= .tup []∧∃st nx',h'=⟨Jks s s1 s2 s3 s4 nm++Jbt s a b c (.os 4 1 (fun _=> Jaj ⟨nm,(k,0), []⟩) (some (0,st))) (JS []) 1, [((0,st),4)],nx',5⟩:=by
 refine J2 Tryz.func183 rfl rfl ?_
 refine stp ?_
 refine J1 (xs:= [.bp (0,s) 0,Jg nm]) (bx1:=Jbt s a b c Jbu (JS [w]) 1) (pm1:= []) (Jks s s1 s2 s3 s4 nm) [] 5 rfl rfl rfl rfl ⟨Rf,Rf,trivial⟩ (Jtn s a b c nm w k nx hn hs hr) Bf Pf rfl fun r h' hq=> ?_
 obtain ⟨rfl,st,nx2,rfl⟩:=hq
 refine stp ?_
 exact JaG rfl ⟨rfl,st,nx2,rfl⟩
set_option maxHeartbeats 4000000 in
theorem JrF (s:Nat) (nx:Nat):ECall Tryz.prog 98 [.bp (0,s) 0,JS [Jcp,JdK]] ⟨Jbt s (int 0) (int 0) (Jb false) Jbu Jbu 0, [],nx,1⟩ fun r h'=> r=int 0∧∃nx',h'=⟨Jnl s (int 1) (int 0) (Jb false) Jbu (JS []) 1, [],nx',1⟩:=by
 refine ECall.wk (J2 Tryz.func98 rfl rfl ?_)
 refine stp ?_
 refine JlR rfl rfl rfl ?_
 refine stp ?_
 refine J1 (xs:= [.bp (0,s) 0]) (bx1:=Jbt s (int 0) (int 0) (Jb false) Jbu (JS [Jcp,JdK]) 0) (pm1:= []) [((2,nx+1), .c [int 0]),((1,nx), .c [.bp (0,s) 0])] [] 3 rfl rfl rfl rfl ⟨Rf,trivial⟩ (Jmd s (int 0) (int 0) (Jb false) Jbu Jcp JdK 0 (nx+2)) Bf Pf rfl fun r h' hq=> ?_
 obtain ⟨rfl,rfl⟩:=hq
 refine stp ?_
 refine Jme (l':=doM s) (by kernel_rfl) ?_
 refine stp ?_
 refine Jj (b:= .fn (.func 181) [.bp (0,s) 0] []) (by kernel_rfl) ?_
 refine stp ?_
 refine J1 (xs:= [.bp (0,s) 0]) (bx1:=Jbt s (int 0) (int 0) (Jb false) Jbu (JS [JdK]) 0) (pm1:= []) [((4,nx+3), .mp (doM s)),((3,nx+2), .c [Jg Jcp]),((2,nx+1), .c [int 0]),((1,nx), .c [.bp (0,s) 0])] [] 5 rfl rfl rfl rfl ⟨Rf,trivial⟩ (JrD s (int 0) (int 0) (Jb false) Jbu JdK 1 (nx+4) Jtl) Bf Pf rfl fun r h' hq=> ?_
 obtain ⟨rfl,nx2,rfl⟩:=hq
 refine stp ?_
 refine DCall.mono (Jto _ _) fun u h' hq=> ?_
 obtain ⟨rfl,rfl⟩:=hq
 refine JeS rfl ⟨⟨rfl,Nat.zero_lt_one⟩,trivial⟩ ⟨int 0,⟨Jnl s (int 1) (int 0) (Jb false) Jbu (JS []) 1, [],nx2,1⟩,Rf, ?_,rfl,nx2,rfl⟩
 exact JaR (Jbt s (int 1) (int 0) (Jb false) Jbu (JS []) 1) [] rfl (.cons _ (.cons _ (.cons _ (.cons _ Sf)))) Sf ⟨rfl,OwnLe.refl _,trivial⟩ Pf
set_option maxHeartbeats 4000000 in
theorem Jtp (s:Nat) (nx:Nat):ECall Tryz.prog 98 [.bp (0,s) 0,JS [JcP,JcX]] ⟨Jbt s (int 1) (int 0) (Jb false) Jbu (JS []) 1, [],nx,1⟩ fun r h'=> r=int 0∧∃st nx',h'=⟨Jnl s (int 1) (int 0) (Jb false) (.os 4 1 (fun _=> Jaj ⟨JcP,(8,0), []⟩) (some (0,st))) (JS []) 2, [((0,st),4)],nx',1⟩:=by
 refine ECall.wk (J2 Tryz.func98 rfl rfl ?_)
 refine stp ?_
 refine JlR rfl rfl rfl ?_
 refine stp ?_
 refine J1 (xs:= [.bp (0,s) 0]) (bx1:=Jbt s (int 1) (int 0) (Jb false) Jbu (JS [JcP,JcX]) 1) (pm1:= []) [((2,nx+1), .c [int 0]),((1,nx), .c [.bp (0,s) 0])] [] 3 rfl rfl rfl rfl ⟨Rf,trivial⟩ (Jmd s (int 1) (int 0) (Jb false) Jbu JcP JcX 1 (nx+2)) Bf Pf rfl fun r h' hq=> ?_
 obtain ⟨rfl,rfl⟩:=hq
 refine stp ?_
 refine Jme (l':=doM s) (by kernel_rfl) ?_
 refine stp ?_
 refine Jj (b:= .v .nilFunc) (by kernel_rfl) ?_
 refine stp ?_
 refine J1 (xs:= [.bp (1,nx) 0, .bp (3,nx+2) 0]) (bx1:=Jks s nx (nx+1) (nx+2) (nx+3) JcP++Jbt s (int 1) (int 0) (Jb false) Jbu (JS [JcX]) 1) (pm1:= []) [] [] 5 rfl rfl rfl rfl ⟨Rf,Rf,trivial⟩ (JrE s nx (nx+1) (nx+2) (nx+3) (nx+4) (int 1) (int 0) (Jb false) JcP JcX 8 (by decide+kernel) Dc JrC) Bf Pf rfl fun r h' hq=> ?_
 obtain ⟨rfl,st,nx2,rfl⟩:=hq
 refine stp ?_
 refine DCall.mono (Jto _ _) fun u h' hq=> ?_
 obtain ⟨rfl,rfl⟩:=hq
 refine JeS rfl ⟨⟨rfl,Nat.zero_lt_one⟩,trivial⟩ ⟨int 0,⟨Jnl s (int 1) (int 0) (Jb false) (.os 4 1 (fun _=> Jaj ⟨JcP,(8,0), []⟩) (some (0,st))) (JS []) 2, [((0,st),4)],nx2,1⟩,Rf, ?_,rfl,st,nx2,rfl⟩
 exact JaR (Jbt s (int 1) (int 0) (Jb false) (.os 4 1 (fun _=> Jaj ⟨JcP,(8,0), []⟩) (some (0,st))) (JS []) 2) [((0,st),4)] rfl (.cons _ (.cons _ (.cons _ (.cons _ Sf)))) Sf ⟨rfl,OwnLe.refl _,trivial⟩ Pf
end Go.Proofs.W

namespace Go.Proofs.W
open Go.Vl
set_option maxRecDepth 100000
def pAw:Pol:=⟨(1,0),false, [⟨JcP,(8,0), []⟩]⟩
def LL:List (Nat×List ByteArray):= [(1, [Jcp,JdK]),(2, [JcP,JcX])]
theorem Jyg:Ju6 [(Ja9,1),(lineB,2)]=LL:=by
 show [(1,JeW Ja9),(2,JeW lineB)]=_
 rw [Jlm,Jln];rfl
def Jlo (k st:Nat):List AV:=match k with
 | 0=> [int 0,int 0,Jb false,Jbu,Jbu,int 0]
 | 1=> [int 1,int 0,Jb false,Jbu,JS [],int 1]
 | _=> [int 1,int 0,Jb false, .os 4 1 (fun _=> Jaj ⟨JcP,(8,0), []⟩) (some (0,st)),JS [],int 2]
def Ju8 (k st:Nat):List (Vl.Id×Nat):=match k with
 | 2=> [((0,st),4)]
 | _=> []
set_option maxHeartbeats 4000000 in
theorem JrG:Tells Tryz.prog 42 [Jg textAB] (.tup [JaL pAw,int 0,int 0]):=by
 have hl:=Jm6
 rw [Jyg] at hl
 refine Jf Tryz.func42 rfl rfl fun nx=> ?_
 refine stp ?_
 refine Je rfl rfl hl ⟨Rf,trivial⟩ fun nx2=> ?_
 refine stp ?_
 refine Jo (fun y:Nat×Nat×Nat=> mk 52 [(2, .bp (0,nx) 0),(3,int 0),(4,int 0),(8, .bp (1,nx2) 0),(31,Jtj LL),(32,int 2),(33,int y.1)] ⟨[((1,nx2), .c (Jlo y.1 y.2.1)),((0,nx), .c [int 0,int 0,Jb false,Jbu])],Ju8 y.1 y.2.1,y.2.2,2⟩) (fun y=> y.1≤2) (fun y=> 2 - y.1) ?_ ?_
 ·exact ⟨(0,0,nx2+1),Nat.zero_le _,Et (pm:= []) (bx:= [((1,nx2), .c (Jlo 0 0)),((0,nx), .c [int 0,int 0,Jb false,Jbu])]) rfl rfl Bf trivial ⟨Rf,Rf,Rf,Rf,Rf,Rf,Rf,trivial⟩⟩
 ·rintro ⟨k,st,nx3⟩ h1
  dsimp only at h1
  obtain rfl | rfl | rfl:k=0∨k=1∨k=2:=by omega
  ·refine stp ?_
   refine ⟨⟨(by decide:(0:Int)≤0),(by decide:(0:Int) < 2)⟩,Jj (b:= .rp [int 1,JS [Jcp,JdK]]) rfl ?_⟩
   refine stp ?_
   refine JlZ (xs:= [.bp (0,nx2) 0,JS [Jcp,JdK]]) (bx1:= [((1,nx2), .c (Jlo 0 st))]) (pm1:= []) [((2,nx3), .c [int 1,JS [Jcp,JdK]])] [((0,nx), .c [int 0,int 0,Jb false,Jbu])] [] 3 rfl rfl rfl rfl ⟨AVle.bp_nm rfl,Rf,trivial⟩ (JrF nx2 (nx3+1)) ⟨rfl,OwnLe.refl _,trivial⟩ Pf rfl fun r h' hq=> ?_
   obtain ⟨rfl,nx4,rfl⟩:=hq
   refine stp ?_
   exact back (1,0,nx4) Dm Dm (Jk (pm:=Ju8 1 0) (bx:= [((1,nx2), .c (Jlo 1 0)),((0,nx), .c [int 0,int 0,Jb false,Jbu])]) _ _ rfl rfl (.cons _ Sf) Sf Bf Pf ⟨Rf,Rf,Rf,Rf,Rf,Rf,Rf,trivial⟩)
  ·refine stp ?_
   refine ⟨⟨(by decide:(0:Int)≤1),(by decide:(1:Int) < 2)⟩,Jj (b:= .rp [int 2,JS [JcP,JcX]]) rfl ?_⟩
   refine stp ?_
   refine JlZ (xs:= [.bp (0,nx2) 0,JS [JcP,JcX]]) (bx1:= [((1,nx2), .c (Jlo 1 st))]) (pm1:= []) [((2,nx3), .c [int 2,JS [JcP,JcX]])] [((0,nx), .c [int 0,int 0,Jb false,Jbu])] [] 3 rfl rfl rfl rfl ⟨AVle.bp_nm rfl,Rf,trivial⟩ (Jtp nx2 (nx3+1)) ⟨rfl,OwnLe.refl _,trivial⟩ Pf rfl fun r h' hq=> ?_
   obtain ⟨rfl,st',nx4,rfl⟩:=hq
   refine stp ?_
   exact back (2,st',nx4) Dm Dm (Jk (pm:=Ju8 2 st') (bx:= [((1,nx2), .c (Jlo 2 st')),((0,nx), .c [int 0,int 0,Jb false,Jbu])]) _ _ rfl rfl (.cons _ Sf) Sf Bf Pf ⟨Rf,Rf,Rf,Rf,Rf,Rf,Rf,trivial⟩)
  ·refine stp ?_
   exact Jh rfl ⟨rfl,trivial⟩ (AVle.tups (cs:= [_,_,_]) ⟨AVle.ags (cs:= [_,_,_,_]) ⟨Rf,Rf,Rf,(AVle.os_fun (fun i hi=> by obtain rfl:i=0:=Nat.lt_one_iff.1 hi;rfl)).trans AVle.os_sl,trivial⟩,Rf,Rf,trivial⟩)
end Go.Proofs.W
