import Derived.Test.YtmipfkagmedcnaaGreatDoorJC
import Derived.Maps.RangeRun
import Derived.Sort.Row
import Derived.Sort.Grow
import Derived.Shelf.Strings.FuncGrows
import Derived.Scope
import Derived.Shelf.SlSortCmp.InsertionK
import Derived.Sort.Statements
import Derived.Laws.IdiomStrings
import Derived.KernelRfl
import Derived.Test.YtmipfkagmedcnaaGreatDoorProg
import Derived.Ground.NamesProg
import Derived.Shelf.Lay
import Derived.Shelf.Strings.SlTrimAscii
import Derived.Shelf.Small.Strs
import Derived.Sort.AssemblyPlain
import Derived.Shelf.SortM.Plain
import Derived.Shelf.SortM.SortNone
import Derived.Shelf.SlGeneric
import Derived.Ground.SlgmProg
import Derived.Sort.Walk0
import Derived.Shelf.Strings.Search1
import Derived.Shelf.Strings.FieldsFuncGrows
set_option linter.unusedVariables false
set_option linter.unusedSimpArgs false
namespace Go.Vl
open Go.RowKit
variable {P:Program}
theorem Jrl {o:Oper} {t kt et:TypeId} {m:Operand} {es:List (Value×AV)} {E:Env} {K:Env→Prop} {Kp:AV→Env→Prop} (ho:o.op= .range t m) (ht:P.underlying t=some (.map kt et)) (hm:E.ev m= .fm es)
 (hk:K (({ E with h:=E.h.addo (.it es [])}:Env).set o.dst (.bp (E.h.nn,E.h.nx) 0))):AOp P o E K Kp:=by
 intro ro X M w0 a w g hs next Q hn hp
 have hr:=hs.ev m
 rw [hm] at hr
 generalize hmv:a.eval m=u at hr
 cases hr with
 | fm _ mb ents hb hx hl hke hrp=>
   obtain ⟨h1,h2,_⟩:=hs.obj (x:= .it es []) (.mapIter (some mb) ents.length #[] ents.length) (fun X' g' hst hnew=> ⟨mb,ents,hnew,(hst.obj _ _ hb hx).1,(hst.obj _ _ hb hx).2,hl,fun k p e q1 q2=> ⟨(hke k p e q1 q2).1,(hke k p e q1 q2).2,(hrp k p e q1 q2).stays hst⟩⟩)
   refine JR (by rw [ho];intro c h;cases h) ?_
   have:(execOp a.eval o).run P w= .ok (.value (.pointer (some ⟨w.heap.size,0,none⟩))) (w.alloc (.mapIter (some mb) ents.length #[] ents.length)):=by
    unfold execOp
    simp only [ho,Instr.range,hmv,Sem.run_bind,JeO ht,Result.andThen_ok,Jch hb]
    simp [newObj,Sem.run]
   rw [this]
   exact hn _ _ _ _ hk (fun i b h=> by rw [List.getElem?_append_left (List.getElem?_eq_some_iff.1 h).1];exact h) (h1.put o.dst (.bp _ _ _ h2))
theorem Jtf {Y:Nat→Nat→Prop} {g:List Nat} {h:Heap} {nm:Nat} {x:Own} {b o:Nat} (hx:excl Y g ({ h with bx:=JaG nm x h.bx}:Heap) b o):excl Y g h b o:=by
 rcases hx with hx | ⟨p,hp,hg⟩ | hx
 ·exact .inl hx
 ·have:p.1.2∈(JaG nm x h.bx).map (·.1.2):=List.mem_map.2 ⟨p,hp,rfl⟩
  rw [Jfl] at this
  obtain ⟨q,hq,he⟩:=List.mem_map.1 this
  exact .inr (.inl ⟨q,hq,by rw [he];exact hg⟩)
 ·exact .inr (.inr hx)
theorem Jtg {o:Oper} {it:Operand} {i:Id} {es:List (Value×AV)} {seen:List Nat} {E:Env} {K:Env→Prop} {Kp:AV→Env→Prop} (ho:o.op= .next it false) (hit:E.ev it= .bp i 0) (hes:Jad i.1 E.h.bx=some (i.2, .it es seen))
 (hmore:∀k p,es[k]? =some p→k∉seen→K (({ E with h:= { E.h with bx:=JaG i.1 (.it es (seen++ [k])) E.h.bx}}:Env).set o.dst (.tup [.v (.bool true), .v p.1,p.2])))
 (hdone:(∀k,k < es.length→k∈seen)→K (E.set o.dst (.tup [.v (.bool false)]))):AOp P o E K Kp:=by
 intro ro X M w0 a w g hs next Q hn hp
 obtain ⟨b,hgb,hown⟩:=hs.hok.bx _ (JaE hes)
 dsimp only at hgb hown
 have hiv:a.eval it= .pointer (some ⟨b,0,none⟩):=by
  have:=hs.ev it
  rw [hit] at this
  generalize a.eval it=u at this
  cases this with
  | bp _ _ b' hg'=> rw [hgb] at hg';cases hg';rfl
 obtain ⟨mb,ents,h1,h2,h3,h4,h5⟩:=hown
 have hborn:∀x∈ents.toArray.toList,x.born < ents.length:=fun x hx=> by
  obtain ⟨k,hk,rfl⟩:=List.getElem_of_mem hx
  have hk2:k < es.length:=by rw [← h4];exact hk
  rw [(h5 k _ _ (List.getElem?_eq_getElem hk2) (List.getElem?_eq_getElem hk)).2.1];exact hk
 refine JR (by intro c h;rw [ho] at h;cases h) ?_
 rcases run_next_at (P:=P) w o.type b mb ents.length ents.length seen.toArray ents.toArray ents.length h1 h2 hborn (Nat.le_refl _) with ⟨h0,hrun⟩ | ⟨e,he,w1,hw1,hrun⟩
 ·have:(execOp a.eval o).run P w= .ok (.value (.tuple #[.bool false])) w:=by
   unfold execOp
   simp only [ho,hiv,hrun,Sem.run_bind,Result.andThen_ok,Sem.run_pure]
  rw [this]
  refine hn _ _ _ g (hdone fun k hk=> ?_) (fun _ _ h=> h) (hs.put o.dst ?_)
  ·have hk2:k < ents.length:=by rw [h4];exact hk
   have hb:=(h5 k _ _ (List.getElem?_eq_getElem hk) (List.getElem?_eq_getElem hk2)).2.1
   rcases Decidable.em (k∈seen) with h | h
   ·exact h
   ·exfalso
    have hem:(leftOf ents.toArray seen.toArray)= #[]:=Array.eq_empty_of_size_eq_zero h0
    unfold leftOf at hem
    rw [Array.filter_eq_empty_iff] at hem
    have:=hem ents[k] (by simp)
    simp [hb] at this
    exact h this
  ·refine .tup [.v (.bool false)] [.bool false] rfl fun k c u hc hu=> ?_
   cases k with
   | zero=> simp at hc hu;subst hc;subst hu;exact .v _
   | succ k=> simp at hc
 ·have hem:e∈ents∧e.born∉seen:=by
   unfold leftOf at he
   simp at he
   exact he
  obtain ⟨k,hk,hek⟩:=List.getElem_of_mem hem.1
  have hk2:k < es.length:=by rw [← h4];exact hk
  obtain ⟨q1,q2,q3⟩:=h5 k es[k] ents[k] (List.getElem?_eq_getElem hk2) (List.getElem?_eq_getElem hk)
  rw [hek] at q1 q2 q3
  have s1:St ro X M w0 E a w1 g:=by
   rcases hw1 with rfl | rfl
   ·exact hs
   ·exact hs.drew
  have hb1:w1.heap[b]? =some (.mapIter (some mb) ents.length seen.toArray ents.length):=by rcases hw1 with rfl | rfl <;> exact h1
  have hm1:w1.heap[mb]? =some (.map ents.toArray ents.length):=by rcases hw1 with rfl | rfl <;> exact h2
  have hst:Stays w (excl X g E.h) g w1 (excl X g E.h) g:=by
   rcases hw1 with rfl | rfl
   ·exact Stays.refl _ _ _
   ·exact (Jf6 w).stays (fun _ _ _ h=> h.elim) (fun _ _ _ h=> h) (fun _ _ h=> h)
  have hev:=JdB (o':= .mapIter (some mb) ents.length (seen++ [k]).toArray ents.length) hb1 rfl (fun h=> by cases h)
  have hne:mb≠b:=fun h=> by rw [h] at h2;rw [h1] at h2;cases h2
  have hnew:=s1.setOwn (x:= .it es (seen++ [k])) hes hgb hev (fun hst2=> ⟨mb,ents,Jc7 hb1,(JdS hne).trans hm1,h3,h4,fun k' p' e' r1 r2=> ⟨(h5 k' p' e' r1 r2).1,(h5 k' p' e' r1 r2).2.1,((h5 k' p' e' r1 r2).2.2.stays hst).stays hst2⟩⟩)
  have:(execOp a.eval o).run P w= .ok (.value (.tuple #[.bool true,e.key,e.val])) (World.setO w1 b (.mapIter (some mb) ents.length (seen++ [k]).toArray ents.length)):=by
   unfold execOp
   simp only [ho,hiv,hrun,Sem.run_bind,Result.andThen_ok,Sem.run_pure,q2,List.push_toArray]
   rfl
  rw [this]
  refine hn _ _ _ g (hmore k es[k] (List.getElem?_eq_getElem hk2) (by rw [← q2];exact hem.2)) (fun _ _ h=> h) (hnew.put o.dst ?_)
  have hval:=((q3.stays hst).stays (hev.stays (X:=excl X g E.h) (X':=excl X g E.h) (g:=g) (g':=g) (fun b' o' _ hbb=> by
   subst hbb
   exact .inr (.inl ⟨_,JaE hes,hgb⟩)) (fun _ _ _ h=> h) (fun _ _ h=> h)))
  refine .tup _ [.bool true,e.key,e.val] rfl fun j c u hc hu=> ?_
  rcases j with _ | _ | _ | j
  ·simp at hc hu;subst hc;subst hu;exact .v _
  ·simp at hc hu;subst hc;subst hu;rw [q1];exact .v _
  ·simp at hc hu;subst hc;subst hu
   exact hval.stays (Stays.less fun b' o' h=> Jtf h)
  ·simp at hc
theorem Jth {o:Oper} {it:Operand} {i:Id} {es:List (Value×AV)} {seen:List Nat} {k:Nat} {p:Value×AV} {E:Env} {K:Env→Prop} {Kp:AV→Env→Prop} (ho:o.op= .entry it) (hit:E.ev it= .bp i 0) (hes:Jad i.1 E.h.bx=some (i.2, .it es (seen++ [k])))
 (hp:es[k]? =some p) (hk:K (E.set o.dst (.tup [.v p.1,p.2]))):AOp P o E K Kp:=by
 intro ro X M w0 a w g hs next Q hn hpan
 obtain ⟨b,hgb,hown⟩:=hs.hok.bx _ (JaE hes)
 dsimp only at hgb hown
 have hiv:a.eval it= .pointer (some ⟨b,0,none⟩):=by
  have:=hs.ev it
  rw [hit] at this
  generalize a.eval it=u at this
  cases this with
  | bp _ _ b' hg'=> rw [hgb] at hg';cases hg';rfl
 obtain ⟨mb,ents,h1,h2,h3,h4,h5⟩:=hown
 have hk2:k < es.length:=(List.getElem?_eq_some_iff.1 hp).1
 have hk3:k < ents.length:=by rw [h4];exact hk2
 obtain ⟨q1,q2,q3⟩:=h5 k p ents[k] hp (List.getElem?_eq_getElem hk3)
 have hnd:(ents.toArray.toList.map (·.born)).Nodup:=by
  have:ents.map (·.born)=List.range ents.length:=by
   refine List.ext_getElem (by simp) fun j j1 j2=> ?_
   rw [List.getElem_map,List.getElem_range]
   have hj:j < ents.length:=by simpa using j1
   have hj2:j < es.length:=by rw [← h4];exact hj
   exact (h5 j _ _ (List.getElem?_eq_getElem hj2) (List.getElem?_eq_getElem hj)).2.1
  show (ents.map (·.born)).Nodup
  rw [this];exact List.nodup_range
 have hrun:=run_entry_at (P:=P) w b mb ents.length seen.toArray ents.toArray ents.length ents[k] (by rw [q2,List.push_toArray];exact h1) h2 (by simp) hnd
 refine JR (by intro c h;rw [ho] at h;cases h) ?_
 have:(execOp a.eval o).run P w= .ok (.value (.tuple #[ents[k].key,ents[k].val])) w:=by
  unfold execOp
  simp only [ho,hiv,hrun,Sem.run_bind,Result.andThen_ok,Sem.run_pure]
 rw [this]
 refine hn _ _ _ g hk (fun _ _ h=> h) (hs.put o.dst ?_)
 refine .tup _ [ents[k].key,ents[k].val] rfl fun j c u hc hu=> ?_
 rcases j with _ | _ | j
 ·simp at hc hu;subst hc;subst hu;rw [q1];exact .v _
 ·simp at hc hu;subst hc;subst hu;exact q3
 ·simp at hc
theorem Jti {o:Oper} {it:Operand} {i:Id} {es:List (Value×AV)} {seen:List Nat} {R:List (Id×Own)} {E:Env} {K:Env→Prop} {Kp:AV→Env→Prop} (ho:o.op= .next it false) (hit:E.ev it= .bp i 0) (hR:E.h.bx=(i, .it es seen)::R)
 (hmore:∀k p,es[k]? =some p→k∉seen→K (({ E with h:= { E.h with bx:=(i, .it es (seen++ [k]))::R}}:Env).set o.dst (.tup [.v (.bool true), .v p.1,p.2])))
 (hdone:(∀k,k < es.length→k∈seen)→K (E.set o.dst (.tup [.v (.bool false)]))):AOp P o E K Kp:=
 Jtg (seen:=seen) ho hit (by rw [hR];simp [Jad]) (fun k p h1 h2=> by
  have:JaG i.1 (.it es (seen++ [k])) E.h.bx=(i, .it es (seen++ [k]))::R:=by rw [hR];simp [JaG]
  rw [this];exact hmore k p h1 h2) hdone
theorem Jrm {o:Oper} {it:Operand} {i:Id} {es:List (Value×AV)} {seen:List Nat} {k:Nat} {p:Value×AV} {R:List (Id×Own)} {E:Env} {K:Env→Prop} {Kp:AV→Env→Prop} (ho:o.op= .entry it) (hit:E.ev it= .bp i 0) (hR:E.h.bx=(i, .it es (seen++ [k]))::R)
 (hp:es[k]? =some p) (hk:K (E.set o.dst (.tup [.v p.1,p.2]))):AOp P o E K Kp:=Jth (seen:=seen) ho hit (by rw [hR];simp [Jad]) hp hk
end Go.Vl

/- Ranges over strings. -/
namespace Go.Vl
open Go.RowKit
variable {P:Program}
theorem Jrn {o:Oper} {t:TypeId} {m:Operand} {s:ByteArray} {E:Env} {K:Env→Prop} {Kp:AV→Env→Prop} (ho:o.op= .range t m) (ht:P.underlying t=some .string) (hm:E.ev m= .v (.string s))
 (hk:K (({ E with h:=E.h.addo (.si s 0)}:Env).set o.dst (.bp (E.h.nn,E.h.nx) 0))):AOp P o E K Kp:=by
 intro ro X M w0 a w g hs next Q hn hp
 have hr:=hs.ev m
 rw [hm] at hr
 generalize hmv:a.eval m=u at hr
 cases hr with
 | v _=>
   obtain ⟨h1,h2,_⟩:=hs.obj (x:= .si s 0) (.stringIter s 0) (fun X' g' hst hnew=> hnew)
   refine JR (by rw [ho];intro c h;cases h) ?_
   have:(execOp a.eval o).run P w= .ok (.value (.pointer (some ⟨w.heap.size,0,none⟩))) (w.alloc (.stringIter s 0)):=by
    unfold execOp
    simp only [ho,Instr.range,hmv,Sem.run_bind,JeO ht,Result.andThen_ok]
    simp [newObj,Sem.run]
   rw [this]
   exact hn _ _ _ _ hk (fun i b h=> by rw [List.getElem?_append_left (List.getElem?_eq_some_iff.1 h).1];exact h) (h1.put o.dst (.bp _ _ _ h2))
theorem Jtj {o:Oper} {it:Operand} {i:Id} {s:ByteArray} {pos:Nat} {E:Env} {K:Env→Prop} {Kp:AV→Env→Prop} (ho:o.op= .next it true) (hit:E.ev it= .bp i 0) (hes:Jad i.1 E.h.bx=some (i.2, .si s pos))
 (hmore:pos < s.size→K (({ E with h:= { E.h with bx:=JaG i.1 (.si s (pos+(Utf8.decode s pos).2)) E.h.bx}}:Env).set o.dst (.tup [.v (.bool true), .v (.int .i64 pos), .v (.int .i32 (Utf8.decode s pos).1)])))
 (hdone:¬pos < s.size→K (E.set o.dst (.tup [.v (.bool false)]))):AOp P o E K Kp:=by
 intro ro X M w0 a w g hs next Q hn hp
 obtain ⟨b,hgb,hown⟩:=hs.hok.bx _ (JaE hes)
 dsimp only at hgb hown
 have hiv:a.eval it= .pointer (some ⟨b,0,none⟩):=by
  have:=hs.ev it
  rw [hit] at this
  generalize a.eval it=u at this
  cases this with
  | bp _ _ b' hg'=> rw [hgb] at hg';cases hg';rfl
 have h1:w.heap[b]? =some (.stringIter s pos):=hown
 refine JR (by intro c h;rw [ho] at h;cases h) ?_
 by_cases hlt:pos < s.size
 ·have hev:=JdB (o':= .stringIter s (pos+(Utf8.decode s pos).2)) h1 rfl (fun h=> by cases h)
  have hnew:=hs.setOwn (x:= .si s (pos+(Utf8.decode s pos).2)) hes hgb hev (fun _=> Jc7 h1)
  have:(execOp a.eval o).run P w= .ok (.value (.tuple #[.bool true, .int .i64 pos, .int .i32 (Utf8.decode s pos).1])) (World.setO w b (.stringIter s (pos+(Utf8.decode s pos).2))):=by
   unfold execOp
   simp only [ho,hiv,Instr.next,Sem.run_bind,Jch h1,Result.andThen_ok,if_pos hlt,JbU h1,Sem.run_pure]
   rfl
  rw [this]
  refine hn _ _ _ g (hmore hlt) (fun _ _ h=> h) (hnew.put o.dst ?_)
  refine .tup _ [.bool true, .int .i64 pos, .int .i32 (Utf8.decode s pos).1] rfl fun j c u hc hu=> ?_
  rcases j with _ | _ | _ | j
  ·simp at hc hu;subst hc;subst hu;exact .v _
  ·simp at hc hu;subst hc;subst hu;exact .v _
  ·simp at hc hu;subst hc;subst hu;exact .v _
  ·simp at hc
 ·have:(execOp a.eval o).run P w= .ok (.value (.tuple #[.bool false])) w:=by
   unfold execOp
   simp only [ho,hiv,Instr.next,Sem.run_bind,Jch h1,Result.andThen_ok,if_neg hlt,Sem.run_pure]
  rw [this]
  refine hn _ _ _ g (hdone hlt) (fun _ _ h=> h) (hs.put o.dst ?_)
  refine .tup [.v (.bool false)] [.bool false] rfl fun k c u hc hu=> ?_
  cases k with
  | zero=> simp at hc hu;subst hc;subst hu;exact .v _
  | succ k=> simp at hc
theorem Jki {o:Oper} {it:Operand} {i:Id} {s:ByteArray} {pos:Nat} {R:List (Id×Own)} {E:Env} {K:Env→Prop} {Kp:AV→Env→Prop} (ho:o.op= .next it true) (hit:E.ev it= .bp i 0) (hR:E.h.bx=(i, .si s pos)::R)
 (hmore:pos < s.size→K (({ E with h:= { E.h with bx:=(i, .si s (pos+(Utf8.decode s pos).2))::R}}:Env).set o.dst (.tup [.v (.bool true), .v (.int .i64 pos), .v (.int .i32 (Utf8.decode s pos).1)])))
 (hdone:¬pos < s.size→K (E.set o.dst (.tup [.v (.bool false)]))):AOp P o E K Kp:=
 Jtj (pos:=pos) ho hit (by rw [hR];simp [Jad]) (fun h=> by
  have:JaG i.1 (.si s (pos+(Utf8.decode s pos).2)) E.h.bx=(i, .si s (pos+(Utf8.decode s pos).2))::R:=by rw [hR];simp [JaG]
  rw [this];exact hmore h) hdone
theorem Jro {o:Oper} {it:Operand} {i:Id} {s:ByteArray} {pos c wd:Nat} {R:List (Id×Own)} {E:Env} {K:Env→Prop} {Kp:AV→Env→Prop} (ho:o.op= .next it true) (hit:E.ev it= .bp i 0) (hR:E.h.bx=(i, .si s pos)::R) (hlt:pos < s.size) (hd:Utf8.decode s pos=(c,wd))
 (hk:K (({ E with h:= { E.h with bx:=(i, .si s (pos+wd))::R}}:Env).set o.dst (.tup [.v (.bool true), .v (.int .i64 pos), .v (.int .i32 c)]))):AOp P o E K Kp:=
 Jki ho hit hR (fun _=> by rw [hd];exact hk) (fun h=> absurd hlt h)
theorem Jrp {o:Oper} {it:Operand} {i:Id} {s:ByteArray} {pos:Nat} {R:List (Id×Own)} {E:Env} {K:Env→Prop} {Kp:AV→Env→Prop} (ho:o.op= .next it true) (hit:E.ev it= .bp i 0) (hR:E.h.bx=(i, .si s pos)::R) (hlt:¬pos < s.size)
 (hk:K (E.set o.dst (.tup [.v (.bool false)]))):AOp P o E K Kp:=
 Jki ho hit hR (fun h=> absurd h hlt) (fun _=> hk)
theorem Jtk {s:ByteArray} {i:Nat} (h:(s.get! i).toNat < 128):Utf8.decode s i=((s.get! i).toNat,1):=by
 unfold Utf8.decode
 simp only [Nat.add_zero]
 rw [if_pos h]
end Go.Vl

namespace Go.Vl
open Go.RowKit
variable {P:Program}
def Jg1 (P:Program) (it:FuncId) (first caps:List AV) {α:Type} (e:α→List AV) (S:List α→Prop):Prop:=
 ∀(i:Id) (σ:Type) (Cb:σ→List (Id×Own)) (Cp:σ→List (Id×Nat)) (I:List α→σ→Prop) (J:List α→α→σ→Prop),(∀xs,S xs→JjD P i e xs Cb Cp I J)→
  ∀s0 nx nn,I [] s0→ECall P it (first++ [.yl i]++caps) ⟨Cb s0,Cp s0,nx,nn⟩ (fun _ h'=> ∃xs s',S xs∧Jri xs I J s'∧h'.bx=Cb s'∧h'.pm=Cp s')
theorem IterSpec.set {it:FuncId} {first caps:List AV} {α:Type} {e:α→List AV} {xs:List α} (h:IterSpec P it first caps e xs):Jg1 P it first caps e (·=xs):=
 fun i σ Cb Cp I J hc s0 nx nn h0=> (h i σ Cb Cp I J (hc xs rfl) s0 nx nn h0).mono fun _ _ ⟨s',h1,h2,h3⟩=> ⟨xs,s',rfl,h1,h2,h3⟩
theorem Jvj {gop:Operand} {ps:Array Tmp} {asg body:Code} {E:Env} {Q:AExit→Env→Prop} {it:FuncId} {first caps:List AV} {ds:List DA} {σ α:Type} {e:α→List AV} {S:List α→Prop} {first' caps':List AV}
 (Cb:σ→List (Id×Own)) (Cp:σ→List (Id×Nat)) (I:List α→σ→Prop) (J:List α→α→σ→Prop) (s0:σ) (hd:E.df=some ds) (hf:E.ev gop= .fn (.func it) first caps) (hit:Jg1 P it first' caps' e S) (hl1:LeL first first') (hl2:LeL caps caps')
 (hb:((E.h.addo .df).addo (.lp .ready none E.n E.t ps asg body)).bx=Cb s0) (hp:E.h.pm=Cp s0) (h0:I [] s0) (hc:∀xs,S xs→JjD P (E.h.nn+1,E.h.nx+1) e xs Cb Cp I J)
 (hend:∀xs s' nx nn,S xs→Jri xs I J s'→Jfd (E.h.nn+1,E.h.nx+1) { E with h:=(E.h.addo .df).addo (.lp .ready none E.n E.t ps asg body),df:=some (.col (E.h.nn,E.h.nx)::ds)} Q ⟨Cb s',Cp s',nx,nn⟩):
 AW P (.rangeFunc gop ps asg body) E Q:=by
 refine JjB hd hf ?_
 have h1:=hit (E.h.nn+1,E.h.nx+1) σ Cb Cp I J hc s0 (E.h.nx+2) (E.h.nn+2) h0
 have e1:(E.h.addo .df).addo (.lp .ready none E.n E.t ps asg body)=⟨Cb s0,Cp s0,E.h.nx+2,E.h.nn+2⟩:=by
  rw [← hb,← hp];rfl
 rw [← e1] at h1
 refine ((ECall.args (LeL.append (LeL.append hl1 (LeL.refl _)) hl2) h1)).mono fun r h' hq=> ?_
 obtain ⟨xs,s',hS,q1,q2,q3⟩:=hq
 obtain ⟨bx,pm,nx,nn⟩:=h'
 dsimp only at q2 q3
 subst q2;subst q3
 exact hend xs s' nx nn hS q1
theorem JwQ {gop:Operand} {ps:Array Tmp} {asg body:Code} {E:Env} {Q:AExit→Env→Prop} {it:FuncId} {first caps:List AV} {ds:List DA} {σ α:Type} {e:α→List AV} {S:List α→Prop} {first' caps':List AV}
 (Cb:σ→List (Id×Own)) (Cp:σ→List (Id×Nat)) (I:List α→σ→Prop) (s0:σ) (hd:E.df=some ds) (hf:E.ev gop= .fn (.func it) first caps) (hit:Jg1 P it first' caps' e S) (hl1:LeL first first') (hl2:LeL caps caps')
 (hb:E.h.bx=Cb s0) (hp:E.h.pm=Cp s0) (h0:I [] s0) (hlen:∀x,(e x).length=ps.size)
 (hc:∀pre x post s nx nn,S (pre++x::post)→I pre s→AW P asg (JcQ E.n E.t ⟨((E.h.nn+1,E.h.nx+1), .lp .ready none E.n E.t ps asg body)::((E.h.nn,E.h.nx), .df)::Cb s,Cp s,nx,nn⟩ (ps.toList.zip (e x)).reverse)
   (Jn6 P (E.h.nn+1,E.h.nx+1) body (JnB (fun s=> ((E.h.nn+1,E.h.nx+1), .lp .ready none E.n E.t ps asg body)::((E.h.nn,E.h.nx), .df)::Cb s) Cp I (fun _ _ _=> False) pre x)))
 (hend:∀xs s' nx nn,S xs→I xs s'→Q .normal { E with h:=⟨((E.h.nn+1,E.h.nx+1), .lp .exhausted none E.n E.t ps asg body)::((E.h.nn,E.h.nx), .df)::Cb s',Cp s',nx,nn⟩,df:=some (.col (E.h.nn,E.h.nx)::ds)}):
 AW P (.rangeFunc gop ps asg body) E Q:=by
 refine Jvj (fun s=> ((E.h.nn+1,E.h.nx+1), .lp .ready none E.n E.t ps asg body)::((E.h.nn,E.h.nx), .df)::Cb s) Cp I (fun _ _ _=> False) s0 hd hf hit hl1 hl2 ?_ hp h0 ?_ ?_
 ·show _::_::E.h.bx=_
  rw [hb];rfl
 ·intro xs hS pre x post s nx nn hx hI
  subst hx
  exact JgO (i:=(E.h.nn+1,E.h.nx+1)) (pd:=none) (n:=E.n) (t:=E.t) (ps:=ps) (asg:=asg) (body:=body) (by simp [Jad]) (hlen x) (hc pre x post s nx nn hS hI)
 ·intro xs s' nx nn hS h
  rcases h with h | ⟨_,_,_,_,h⟩
  ·unfold Jfd
   simp only [Jad,Nat.beq_refl,cond_true]
   refine ⟨trivial,(by intro h;cases h), ?_⟩
   simp only [JaG,Nat.beq_refl,cond_true]
   exact hend xs s' nx nn hS h
  ·exact h.elim
theorem Jtl {seen:List Nat} {n k:Nat} (hnd:seen.Nodup) (hlt:∀j∈seen,j < n) (hk:k < n) (hn:k∉seen):∃post,(seen++k::post).Perm (List.range n):=by
 refine ⟨(List.range n).filter fun j=> decide (j∉seen∧j≠k), ?_⟩
 have hp:∀j,j∈(List.range n).filter (fun j=> decide (j∉seen∧j≠k))↔j < n∧j∉seen∧j≠k:=fun j=> by simp
 generalize hpost:(List.range n).filter (fun j=> decide (j∉seen∧j≠k))=post at hp
 have hpn:post.Nodup:=by rw [← hpost];exact List.nodup_range.filter _
 have hnd2:(seen++k::post).Nodup:=by
  rw [List.nodup_append]
  refine ⟨hnd,List.nodup_cons.2 ⟨fun h=> ((hp k).1 h).2.2 rfl,hpn⟩,fun a ha b hb hab=> ?_⟩
  subst hab
  rcases List.mem_cons.1 hb with rfl | h
  ·exact hn ha
  ·exact ((hp a).1 h).2.1 ha
 refine (List.perm_ext_iff_of_nodup hnd2 List.nodup_range).2 fun j=> ?_
 rw [List.mem_range,List.mem_append,List.mem_cons,hp]
 constructor
 ·rintro (h | rfl | h)
  ·exact hlt j h
  ·exact hk
  ·exact h.1
 ·intro h
  by_cases h1:j∈seen
  ·exact .inl h1
  ·by_cases h2:j=k
   ·exact .inr (.inl h2)
   ·exact .inr (.inr ⟨h,h1,h2⟩)
theorem Jtm {seen:List Nat} {n:Nat} (hnd:seen.Nodup) (hlt:∀j∈seen,j < n) (hall:∀k,k < n→k∈seen):seen.Perm (List.range n):=by
 refine (List.perm_ext_iff_of_nodup hnd List.nodup_range).2 fun j=> ?_
 rw [List.mem_range]
 exact ⟨hlt j,hall j⟩
end Go.Vl

namespace Go.Vl
open Go.RowKit
variable {P:Program}
def JO (n:Nat) (f:Nat→AV):List AV:=(List.range n).flatMap fun k=> (f k).cells
def Jwz (Q:Nat→(Nat→AV)→Prop) (sz:Nat) (r:AV) (h':Heap):Prop:=
 ∃n f,Q n f∧((n=0∧h'.bx= []∧h'.pm= []∧r= .os sz 0 f none)∨∃s cap more nx' nn',n≤cap∧cap * sz≤n * sz+more∧r= .hs (0,s) 0 n cap∧h'=⟨[((0,s), .c (JO n f++List.replicate more .any))], [],nx',nn'⟩)
theorem JdD {n sz:Nat} {f:Nat→AV} (hc:∀i,i < n→(f i).cells.length=sz):(JO n f).length=n * sz∧∀i j,i < n→j < sz→(JO n f)[i * sz+j]? =(f i).cells[j]? :=by
 induction n with
 | zero=> exact ⟨by simp [JO],fun i j h=> by omega⟩
 | succ n ih=>
   obtain ⟨h1,h2⟩:=ih fun i hi=> hc i Om
   have e:JO (n+1) f=JO n f++(f n).cells:=by unfold JO;rw [List.range_succ,List.flatMap_append];simp
   have hn:=hc n Om
   refine ⟨by rw [e,List.length_append,h1,hn,Nat.succ_mul],fun i j hi hj=> ?_⟩
   rw [e]
   by_cases h:i < n
   ·rw [List.getElem?_append_left,h2 i j h hj]
    rw [h1]
    have:i * sz+sz≤n * sz:=by rw [← Nat.succ_mul];exact Nat.mul_le_mul_right _ h
    omega
   ·obtain rfl:i=n:=by omega
    rw [List.getElem?_append_right (by rw [h1];omega),h1]
    congr 1;omega
theorem Jrq {f:FuncId} {args:List AV} {nx sz:Nat} {Q:Nat→(Nat→AV)→Prop} (hz:0 < sz) (hflat:∀n f,Q n f→∀k,k < n→∀c∈(f k).cells,Flat c)
 (hc:ECall P f args ⟨[], [],nx,0⟩ fun r h'=> ∃n f oi nx' nn',Q n f∧(oi=none→n=0)∧r= .os sz n f oi∧h'=⟨[],JbH oi (n * sz),nx',nn'⟩):
 ECall P f args ⟨[], [],nx,0⟩ (Jwz Q sz):=by
 refine ⟨hc.1,fun X w g vs h1 h2 h3 h4=> ?_⟩
 refine (Jfb P f).mono (hc.2 X w g vs h1 h2 h3 h4) fun e w' ⟨r,h',g',a1,a2,a3,a4,a5,a7,a8⟩=> ?_
 cases r with
 | pan x=> exact a2.elim
 | ret r=>
   obtain ⟨n,f0,oi,nx',nn',q1,q2,rfl,rfl⟩:=a2
   cases oi with
   | none=>
     obtain rfl:=q2 rfl
     exact ⟨.ret (.os sz 0 f0 none),⟨[], [],nx',nn'⟩,g',a1,⟨0,f0,q1, .inl ⟨rfl,rfl,rfl,rfl⟩⟩,a3,a4,a5,a7,a8⟩
   | some i=>
     obtain ⟨nm,s⟩:=i
     obtain ⟨u,rfl,a1⟩:=a1
     obtain ⟨b,bvs,be,hgb,hblk,hle⟩:=a4.pm ((nm,s),n * sz) (by simp [JbH])
     dsimp only at hgb hle
     generalize hu:u=u0 at a1
     cases a1 with
     | oss _ _ _ _ b2 cap vs2 hg2 hlen hcap hcell hroom hcs hrep=>
       subst hu
       dsimp only at hg2
       rw [hgb] at hg2
       cases hg2
       have hflt:=hflat n f0 q1
       obtain ⟨rl,rg⟩:=JdD hcs
       have hcapsz:cap * sz≤bvs.size:=by
        rcases Nat.eq_zero_or_pos (cap * sz) with h0 | h0
        ·omega
        ·obtain ⟨⟨v,hv⟩,_⟩:=hroom (cap * sz - 1) Om
         rw [JX hblk] at hv
         have:=(Array.getElem?_eq_some_iff.1 hv).1
         omega
       have hnew:¬b < w.heap.size:=fun hb=> by
        have:=a8 b (n * sz) (.inr (.inr ⟨((nm,s),n * sz),by simp [JbH],hgb,Nat.le_refl _⟩)) hb
        rcases this with h | ⟨p,hp,_⟩ | ⟨p,hp,_⟩
        ·exact h
        ·cases hp
        ·cases hp
       have hids:∀j,j∈Heap.ids (⟨[((0,s), .c (JO n f0++List.replicate (bvs.size - n * sz) .any))], [],nx',nn'⟩:Heap)→j=s:=fun j hj=> by simpa [Heap.ids] using hj
       refine ⟨.ret (.hs (0,s) 0 n cap),⟨[((0,s), .c (JO n f0++List.replicate (bvs.size - n * sz) .any))], [],nx',nn'⟩,g',⟨_,rfl, .hs _ _ _ _ b hgb⟩,⟨n,f0,q1, .inr ⟨s,cap,bvs.size - n * sz,nx',nn',hcap,by omega,rfl,rfl⟩⟩,a3, ?_,fun b' o hx j hj=> ?_,a7,fun b' o hx hb=> ?_⟩
       ·refine ⟨fun p hp=> ?_,fun p hp=> (by cases hp),by simp [Heap.ids],a4.nx,fun b' o hx=> ?_,fun p hp=> ⟨(a4.kn p hp).1,fun o hx=> ?_⟩⟩
        ·obtain rfl:=List.mem_singleton.1 hp
         refine ⟨b,hgb,bvs,be,hblk,by rw [List.length_append,rl,List.length_replicate];omega,fun k c u hk hku=> ?_⟩
         rcases Nat.lt_or_ge k (n * sz) with hlt | hge
         ·rw [List.getElem?_append_left (by rw [rl];exact hlt)] at hk
          have hd:k=(k / sz) * sz+k % sz:=by rw [Nat.mul_comm];exact (Nat.div_add_mod k sz).symm
          have hk1:k / sz < n:=Nat.div_lt_of_lt_mul (by rw [Nat.mul_comm];exact hlt)
          have hk2:k % sz < sz:=Nat.mod_lt _ hz
          rw [hd,rg _ _ hk1 hk2] at hk
          have hv:k < vs2.length:=by rw [hlen];exact hlt
          have hcv:=(hcell k _ (List.getElem?_eq_getElem hv)).1
          rw [JX hblk,hku] at hcv
          cases hcv
          exact hflt _ hk1 c (List.mem_of_getElem? hk) _ _ _ _ _ _ _ (hrep _ _ c _ hk1 hk (by rw [← hd];exact List.getElem?_eq_getElem hv))
         ·rw [List.getElem?_append_right (by rw [rl];exact hge)] at hk
          obtain rfl:c= .any:=by
           have:=List.mem_of_getElem? hk
           exact (List.mem_replicate.1 this).2
          exact .any _
        ·rcases hx with hx | ⟨p,hp,hg⟩ | ⟨p,hp,_⟩
         ·exact a4.bd b' o (.inl hx)
         ·obtain rfl:=List.mem_singleton.1 hp
          dsimp only at hg
          rw [hgb] at hg;cases hg
          exact JF hblk
         ·cases hp
        ·rcases hx with hx | ⟨q,hq,hg⟩ | ⟨q,hq,_⟩
         ·exact (a4.kn p hp).2 o (.inl hx)
         ·obtain rfl:=List.mem_singleton.1 hq
          exact (a4.kn p hp).2 (n * sz) (.inr (.inr ⟨((nm,s),n * sz),by simp [JbH],hg,Nat.le_refl _⟩))
         ·cases hq
       ·obtain rfl:=hids j hj
        exact a5 b' o hx j (by simp [Heap.ids,JbH])
       ·rcases hx with hx | ⟨p,hp,hg⟩ | ⟨p,hp,_⟩
        ·exact hx.elim
        ·obtain rfl:=List.mem_singleton.1 hp
         dsimp only at hg
         rw [hgb] at hg;cases hg
         exact absurd hb hnew
        ·cases hp
end Go.Vl

namespace Go.Vl
open Go.RowKit
variable {P:Program}
theorem Jlm {w:World} {X:Nat→Nat→Prop} {g:List Nat} {us vs:List Value} (h3:us.length=(vs.map AV.v).length)
 (h4:∀(k:Nat) (c:AV) (u:Value),(vs.map AV.v)[k]? =some c→us[k]? =some u→Rep w X g c u):us=vs:=by
 refine List.ext_getElem (by simpa using h3) fun k hk1 hk2=> ?_
 have:=h4 k (.v vs[k]) us[k] (by simp [hk2]) (List.getElem?_eq_getElem hk1)
 generalize us[k]=a at this
 cases this
 rfl
theorem Kn.none {w:World} {X:Nat→Nat→Prop} (h:Kn w X):Kn w none2:=fun p hp=> ⟨(h p hp).1,fun _ h=> h⟩
theorem Jdx {f:FuncId} {vs:List Value} {u:Value} (hcb:Jb7 P f)
 (h:∀w,Kn w none2→Calls P f vs.toArray w fun e w'=> e= .returned u∧Below w.heap.size w w'):Tells P f (vs.map .v) (.v u):=fun nx=> by
 refine ⟨hcb,fun X w g us h1 h2 h3 h4=> ?_⟩
 obtain rfl:=Jlm h3 h4
 refine (Jfb P f).mono (w0:=w) (g:=g) (R:=_) (h w h1.kn.none) fun e w' ⟨he,hb⟩=> ?_
 have hev:=Evo.of_below hb
 exact ⟨.ret (.v u),⟨[], [],nx,0⟩,g,⟨u,he, .v _⟩,⟨Rf,rfl,rfl⟩,fun _ _ h=> h,h1.evo0 hev,fun b o hx i hi=> (by cases hi),hev.mono fun b o _ h=> h.elim,fun b o h _=> h⟩
theorem JcX {f:FuncId} {vs:List Value} {u:Value} (hcb:Jb7 P f)
 (h:∀w,Calls P f vs.toArray w fun e w'=> e= .returned u∧Below w.heap.size w w'):Tells P f (vs.map .v) (.v u):=Jdx hcb fun w _=> h w
theorem Jjb {α:Type} [Inhabited α] {f:FuncId} {enc:α→Value} {d d':Array α} {tl:List AV} {nm s cap nx nn:Nat} (hcb:Jb7 P f) (hd:d'.size=d.size)
 (h:∀(w:World) (blk:Nat),Sort.Holds enc w blk 0 d→blk < w.heap.size→Calls P f #[.slice (some ⟨blk,0,none⟩) d.size cap] w fun e w'=> e= .returned (.tuple #[])∧∃n os,w'=Sort.grow (Sort.putRow enc (Sort.ahead w n) blk 0 d') os):
 ECall P f [.hs (nm,s) 0 d.size cap] ⟨[((nm,s), .c (d.toList.map (fun x=> .v (enc x))++tl))], [],nx,nn⟩
  fun r h'=> r= .tup []∧h'=⟨[((nm,s), .c (d'.toList.map (fun x=> .v (enc x))++tl))], [],nx,nn⟩:=by
 refine ⟨hcb,fun X w g us h1 h2 h3 h4=> ?_⟩
 obtain ⟨b,hgb,vs,ety,hblk,hsz,hrep⟩:=h1.bx _ (.head _)
 dsimp only at hgb
 match us,h3,h4 with
 | [u],_,h4=>
 have hr:=h4 0 _ u rfl rfl
 generalize hu:u=u0 at hr
 cases hr with
 | hs _ _ _ _ b2 hg2=>
   subst hu
   dsimp only at hg2
   rw [hgb] at hg2
   cases hg2
   have hbl:=JF hblk
   have hlen:d.size≤vs.size:=by rw [hsz];simp
   have hH:Sort.Holds enc w b 0 d:=fun j hj=> by
    refine ⟨?_,by rw [Jbw hblk];simp⟩
    have hj2:j < vs.size:=by omega
    have:=hrep j (.v (enc d[j]!)) vs[j] (by rw [List.getElem?_append_left (by simpa using hj)];simp [hj]) (Array.getElem?_eq_getElem hj2)
    generalize hv:vs[j]=v at this
    cases this
    rw [JX hblk,Nat.zero_add,Array.getElem?_eq_getElem hj2,hv]
   refine (Jfb P f).mono (w0:=w) (g:=g) (R:=_) (h w b hH hbl) fun e w' ⟨he,n,os,hw⟩=> ?_
   have hb':w'.heap[b]? =some (.cells (Sort.putCells enc 0 d' vs) ety (0,0)):=by
    subst hw
    rw [Sort.heap_grow_old _ _ (by simpa [Sort.putRow,Sort.mapBlock,Sort.ahead] using hbl)]
    show (w.heap.modify b _)[b]? =_
    rw [Array.getElem?_modify,if_pos rfl,hblk]
    rfl
   have hoth:∀k,k < w.heap.size→k≠b→w'.heap[k]? =w.heap[k]? :=fun k hk hne=> by
    subst hw
    rw [Sort.heap_grow_old _ _ (by simpa [Sort.putRow,Sort.mapBlock,Sort.ahead] using hk)]
    show (w.heap.modify b _)[k]? =_
    rw [Array.getElem?_modify,if_neg (Ne.symm hne)]
   have hsize:w.heap.size≤w'.heap.size:=by
    subst hw
    simp [Sort.grow,Sort.putRow,Sort.mapBlock,Sort.ahead]
   have hM:∀b0 o,¬excl none2 g ⟨[((nm,s), .c (d.toList.map (fun x=> .v (enc x))++tl))], [],nx,nn⟩ b0 o→b0≠b:=fun b0 o hn hb0=> hn (.inr (.inl ⟨_, .head _,by rw [hb0];exact hgb⟩))
   have hev:Evo (excl none2 g ⟨[((nm,s), .c (d.toList.map (fun x=> .v (enc x))++tl))], [],nx,nn⟩) w w':=by
    refine ⟨by subst hw;rfl,by subst hw;rfl,by subst hw;rfl,hsize,fun b0 hb0 hn=> hoth b0 hb0 (hM b0 0 (hn 0)),fun b0 o hb0 hn=> World.cell?_of_block (a:=⟨b0,o,none⟩) (hoth b0 hb0 (hM b0 o hn)),fun b0 us0 e0 fz h0=> ?_,fun b0 l h0=> ?_⟩
    ·by_cases hb0:b0=b
     ·subst hb0
      rw [hblk] at h0
      cases h0
      exact ⟨_,hb',by simp [Sort.putCells]⟩
     ·exact ⟨us0,(hoth b0 (JF h0) hb0).trans h0,rfl⟩
    ·by_cases hb0:b0=b
     ·subst hb0
      rw [hblk] at h0
      cases h0
     ·exact ⟨l,(hoth b0 (JF h0) hb0).trans h0⟩
   have hstay:=hev.stays (X:=excl X g ⟨[((nm,s), .c (d.toList.map (fun x=> .v (enc x))++tl))], [],nx,nn⟩) (X':=excl X g ⟨[((nm,s), .c (d.toList.map (fun x=> .v (enc x))++tl))], [],nx,nn⟩) (g:=g) (g':=g)
    (fun b0 o _ hm=> hm.elim (fun h=> h.elim) .inr) (fun _ _ _ h=> h) (fun _ _ h=> h)
   refine ⟨.ret (.tup []),_,g,⟨_,he, .tup [] [] rfl (by simp)⟩,⟨rfl,rfl⟩,fun _ _ h=> h, ?_,fun b0 o hx i hi=> h2 b0 o hx i hi,hev,fun b0 o h _=> by simpa [excl] using h⟩
   have hids:∀b0 o,excl X g ⟨[((nm,s), .c (d'.toList.map (fun x=> .v (enc x))++tl))], [],nx,nn⟩ b0 o↔excl X g ⟨[((nm,s), .c (d.toList.map (fun x=> .v (enc x))++tl))], [],nx,nn⟩ b0 o:=fun b0 o=> by simp [excl]
   have hX:excl X g ⟨[((nm,s), .c (d'.toList.map (fun x=> .v (enc x))++tl))], [],nx,nn⟩=excl X g ⟨[((nm,s), .c (d.toList.map (fun x=> .v (enc x))++tl))], [],nx,nn⟩:=by
    funext b0 o;exact propext (hids b0 o)
   rw [hX]
   refine ⟨fun p hp=> ?_,fun p hp=> (by cases hp),h1.nodup,h1.nx,fun b0 o hx=> ?_, ?_⟩
   ·obtain rfl:=List.mem_singleton.1 hp
    refine ⟨b,hgb,Sort.putCells enc 0 d' vs,ety,hb',by simp [Sort.putCells,hsz,hd],fun k c u hk hku=> ?_⟩
    have hkv:k < vs.size:=by have:=(Array.getElem?_eq_some_iff.1 hku).1;simpa [Sort.putCells] using this
    have hval:(Sort.putCells enc 0 d' vs)[k]? =some (if 0≤k∧k < 0+d'.size then enc d'[k - 0]! else vs[k]):=by simp [Sort.putCells,hkv]
    rw [hval] at hku
    by_cases hkd:k < d'.size
    ·rw [if_pos ⟨Nat.zero_le _,by omega⟩] at hku
     rw [List.getElem?_append_left (by simpa using hkd)] at hk
     simp [hkd] at hk hku
     subst hk;subst hku
     exact .v _
    ·rw [if_neg Om] at hku
     rw [List.getElem?_append_right (by simpa using Nat.le_of_not_lt hkd)] at hk
     refine (hrep k c u ?_ (by rw [Array.getElem?_eq_getElem hkv];exact hku)).stays hstay
     rw [List.getElem?_append_right (by simp;omega)]
     simpa [hd] using hk
   ·exact Nat.lt_of_lt_of_le (h1.bd b0 o hx) hsize
   ·exact h1.kn.stays hstay
theorem Jjc {f:FuncId} {sz nx:Nat} {F:Nat→AV} (hcb:Jb7 P f)
 (h:∀(p:Option Addr) (cap:Nat) (w:World),Calls P f #[.slice p 0 cap] w fun e w'=> e= .returned (.tuple #[])∧w'=w):Tells P f [.os sz 0 F none] (.tup []):=fun nx=> by
 refine ⟨hcb,fun X w g us h1 h2 h3 h4=> ?_⟩
 match us,h3,h4 with
 | [u],_,h4=>
 have hr:=h4 0 _ u rfl rfl
 have key:∃p cap,u= .slice p 0 cap:=by
  cases hr with
  | os0 _ _ a=> exact ⟨a,0,rfl⟩
  | osn _ _ _ b off vs=> exact ⟨_,0,rfl⟩
 obtain ⟨p,cap,rfl⟩:=key
 refine (Jfb P f).mono (w0:=w) (g:=g) (R:=_) (h p cap w) fun e w' ⟨he,hw⟩=> ?_
 subst hw
 exact ⟨.ret (.tup []),⟨[], [],nx,0⟩,g,⟨_,he, .tup [] [] rfl (by simp)⟩,⟨Rf,rfl,rfl⟩,fun _ _ h=> h,h1,h2,Evo.refl _ _,fun b o h _=> h⟩
end Go.Vl

namespace Go.Vl
open Go.RowKit
variable {P:Program}
theorem Jog {f:FuncId} {ars:List AV} {vs xs:List Value} {t:TypeId} (hcb:Jb7 P f) (has:∀w X g (us:List Value),us.length=ars.length→(∀(k:Nat) (c:AV) (u:Value),ars[k]? =some c→us[k]? =some u→Rep w X g c u)→us=vs)
 (h:∀w,Kn w none2→Calls P f vs.toArray w fun e w'=> ∃A,e= .returned (.slice (some ⟨A,0,none⟩) xs.length xs.length)∧w.heap.size≤A∧w'.ownsRow w.heap.size t 1 (.slice (some ⟨A,0,none⟩) xs.length xs.length) xs.length xs∧Below w.heap.size w w'):
 Tells P f ars (.sl 1 xs.length fun k=> .v (xs.getD k undef)):=fun nx=> by
 refine ⟨hcb,fun X w g us h1 h2 h3 h4=> ?_⟩
 obtain rfl:=has _ _ _ us h3 h4
 refine (Jfb P f).mono (w0:=w) (g:=g) (R:=_) (h w h1.kn.none) fun e w' ⟨A,he,hA,hown,hb⟩=> ?_
 have hev:=Evo.of_below hb
 refine ⟨.ret (.sl 1 xs.length fun k=> .v (xs.getD k undef)),⟨[], [],nx,0⟩,g,⟨_,he, ?_⟩,⟨Rf,rfl,rfl⟩,fun _ _ h=> h,h1.evo0 hev,fun b o hx i hi=> (by cases hi),hev.mono fun b o _ h=> h.elim,fun b o h _=> h⟩
 obtain ⟨hl,hv⟩:=hown
 rcases hv with ⟨hv,_⟩ | ⟨A',cap,cur,hv,_,hblk,hn,_,hsz,htk⟩
 ·cases hv
 ·cases hv
  have hnx:∀o,¬excl X g ⟨[], [],nx,0⟩ A o:=fun o hx=> by
   have:=h1.bd _ _ hx
   omega
  refine .sl 1 xs.length _ A 0 _ xs Om (Nat.le_refl _) (fun k u hu=> ⟨?_,hnx _⟩) (fun i _=> rfl) (fun i j c u hi hc hu=> ?_)
  ·have hk:=(List.getElem?_eq_some_iff.1 hu).1
   rw [JX hblk,Nat.zero_add]
   have:(cur.toList.take (xs.length * 1))[k]? =some u:=by rw [htk];exact hu
   rw [List.getElem?_take] at this
   split at this
   ·simpa using this
   ·cases this
  ·cases j with
   | zero=>
     simp only [AV.cells,List.getElem?_cons_zero,Option.some.injEq] at hc
     subst hc
     rw [Nat.mul_one,Nat.add_zero] at hu
     have:xs.getD i undef=u:=by rw [List.getD_eq_getElem?_getD,hu];rfl
     rw [this]
     exact .v _
   | succ j=> simp [AV.cells] at hc
theorem Joh {w w':World} (h:Evo none2 w w'):Below w.heap.size w w':=⟨h.os,h.tape,h.output,h.size,fun b hb=> h.blk b hb fun o q=> q⟩
theorem Jnf {g:FuncId} {p:Nat→Bool} (h:∀x:Nat,x≤1114111→Tells P g [.v (.int .i32 x)] (.v (.bool (p x)))) (w:World) (hw:Kn w none2):Go.Proofs.PredGrows P g #[] p w:=fun W x hx hWw=> by
 have hk:HOk W (excl none2 [] ⟨[], [],0,0⟩) [] ⟨[], [],0,0⟩:=⟨by simp,by simp,by simp [Heap.ids],rfl,fun b o hx=> (by rcases hx with hx | ⟨p,hp,_⟩ | ⟨p,hp,_⟩ <;> first | exact hx.elim | cases hp),fun p hp=> ⟨by obtain ⟨⟨e,fz,h1⟩,_⟩:=hw p hp;exact ⟨e,fz,(hWw.block _ (JF h1)).trans h1⟩,fun o hx=> (by rcases hx with hx | ⟨p,hp,_⟩ | ⟨p,hp,_⟩ <;> first | exact hx.elim | cases hp)⟩⟩
 have hc:=(h x hx 0).2 none2 W [] [.int .i32 x] hk (fun _ _ hx=> hx.elim) rfl (fun k c u hc hu=> by
  cases k with
  | zero=> simp at hc hu;subst hc;subst hu;exact .v _
  | succ k=> simp at hc)
 refine Calls.mono (show Calls P g _ W _ from hc) fun e w' ⟨r,h',g',a1,a2,_,_,_,a3,_⟩=> ?_
 cases r with
 | pan x=> exact a2.elim
 | ret r=>
   obtain ⟨u,rfl,e2⟩:=a1
   have:=a2.1 _ _ _ _ e2
   cases this
   refine ⟨rfl,Joh (a3.mono fun b o _ hx=> ?_)⟩
   rcases hx with hx | ⟨p,hp,_⟩ | ⟨p,hp,_⟩
   ·exact hx
   ·cases hp
   ·cases hp
theorem JyF {f:FuncId}:AVle (.fn (.func f) [] []) (.v (.func (.func f) #[] #[])):=fun w X g u hr=> by
 cases hr with
 | fn _ _ _ v1 v2 h1 h2 _ _=>
   have e1:v1= []:=List.eq_nil_of_length_eq_zero h1
   have e2:v2= []:=List.eq_nil_of_length_eq_zero h2
   subst e1;subst e2
   exact .v _
end Go.Vl

namespace Go.Vl
open Go.RowKit
variable {P:Program}
theorem Jqw {gop:Operand} {ps:Array Tmp} {asg body:Code} {E:Env} {Q:AExit→Env→Prop} {it:FuncId} {first caps:List AV} {ds:List DA} {σ α:Type} {e:α→List AV} {xs:List α} {first' caps':List AV}
 (Cb:σ→List (Id×Own)) (Cp:σ→List (Id×Nat)) (I:List α→σ→Prop) (J:List α→α→σ→Prop) (s0:σ) (hd:E.df=some ds) (hf:E.ev gop= .fn (.func it) first caps) (hit:IterSpec P it first' caps' e xs) (hl1:LeL first first') (hl2:LeL caps caps')
 (hb:E.h.bx=Cb s0) (hp:E.h.pm=Cp s0) (h0:I [] s0) (hlen:∀x,(e x).length=ps.size)
 (hc:∀pre x post s nx nn,xs=pre++x::post→I pre s→AW P asg (JcQ E.n E.t ⟨((E.h.nn+1,E.h.nx+1), .lp .ready none E.n E.t ps asg body)::((E.h.nn,E.h.nx), .df)::Cb s,Cp s,nx,nn⟩ (ps.toList.zip (e x)).reverse)
   (Jn6 P (E.h.nn+1,E.h.nx+1) body (wk fun r h'=> (r= .v (.bool true)∧∃s',I (pre++ [x]) s'∧h'.bx=((E.h.nn+1,E.h.nx+1), .lp .ready none E.n E.t ps asg body)::((E.h.nn,E.h.nx), .df)::Cb s'∧h'.pm=Cp s')∨
     (r= .v (.bool false)∧∃s',J pre x s'∧h'.bx=((E.h.nn+1,E.h.nx+1), .lp .done (some .ret) E.n E.t ps asg body)::((E.h.nn,E.h.nx), .df)::Cb s'∧h'.pm=Cp s'))))
 (hend:∀s' nx nn,I xs s'→Q .normal { E with h:=⟨((E.h.nn+1,E.h.nx+1), .lp .exhausted none E.n E.t ps asg body)::((E.h.nn,E.h.nx), .df)::Cb s',Cp s',nx,nn⟩,df:=some (.col (E.h.nn,E.h.nx)::ds)})
 (hret:∀pre x post s' nx nn,xs=pre++x::post→J pre x s'→Q .ret { E with h:=⟨((E.h.nn+1,E.h.nx+1), .lp .exhausted (some .ret) E.n E.t ps asg body)::((E.h.nn,E.h.nx), .df)::Cb s',Cp s',nx,nn⟩,df:=some (.col (E.h.nn,E.h.nx)::ds)}):
 AW P (.rangeFunc gop ps asg body) E Q:=by
 refine JwN (σ:=σ×Bool) (fun s=> ((E.h.nn+1,E.h.nx+1), .lp (bif s.2 then .done else .ready) (bif s.2 then some .ret else none) E.n E.t ps asg body)::((E.h.nn,E.h.nx), .df)::Cb s.1) (fun s=> Cp s.1) (fun pre s=> s.2=false∧I pre s.1) (fun pre x s=> s.2=true∧J pre x s.1) (s0,false) hd hf hit hl1 hl2 ?_ hp ⟨rfl,h0⟩ ?_ ?_
 ·show _::_::E.h.bx=_
  rw [hb];rfl
 ·rintro pre x post ⟨s,b⟩ nx nn hx ⟨hb0,hI⟩
  dsimp only at hb0 hI
  subst hb0
  refine (JgO (i:=(E.h.nn+1,E.h.nx+1)) (pd:=none) (n:=E.n) (t:=E.t) (ps:=ps) (asg:=asg) (body:=body) (by simp [Jad]) (hlen x) (hc pre x post s nx nn hx hI)).wk.mono fun r h' hq=> ?_
  cases r with
  | pan x=> exact hq.elim
  | ret r=>
    rcases hq with ⟨hr,s',h1,h2,h3⟩ | ⟨hr,s',h1,h2,h3⟩
    ·exact ⟨(s',false), .inl ⟨hr,rfl,h1⟩,h2,h3⟩
    ·exact ⟨(s',true), .inr ⟨hr,rfl,h1⟩,h2,h3⟩
 ·rintro ⟨s',b⟩ nx nn h
  rcases h with ⟨hb0,h⟩ | ⟨pre,x,post,hx,hb0,h⟩
  ·dsimp only at hb0 h
   subst hb0
   unfold Jfd
   simp only [Jad,Nat.beq_refl,cond_true,cond_false]
   refine ⟨trivial,(by intro h;cases h), ?_⟩
   simp only [JaG,Nat.beq_refl,cond_true]
   exact hend s' nx nn h
  ·dsimp only at hb0 h
   subst hb0
   unfold Jfd
   simp only [Jad,Nat.beq_refl,cond_true,cond_false]
   refine ⟨trivial,(by intro h;cases h), ?_⟩
   simp only [JaG,Nat.beq_refl,cond_true]
   exact hret pre x post s' nx nn hx h
end Go.Vl

namespace Go.Vl
open Go.RowKit
variable {P:Program}
theorem Jkj {t e:TypeId} {d:TypeDesc} {n:Nat} {w:World} (ht:P.underlying t=some (.array n e)) (hd:P.underlying e=some d) (h1:P.cellsOf e=1) (b off:Nat) (hn:0 < n):
 (Instr.sliceAt t (.pointer (some ⟨b,off,none⟩)) none none none).run P w= .ok (.slice (some ⟨b,off,none⟩) n n) w:=by
 simp [Instr.sliceAt,run_underlying ht,Instr.sureAddr,Instr.sliceBounds,JL hd,h1,Jak]
theorem Joi {o:Oper} {E:Env} {t e:TypeId} {x:Operand} {n:Nat} {d:TypeDesc} {cs:List AV} (ho:o.op= .slice t x none none none) (hx:E.ev x= .rp cs)
 (ht:P.underlying t=some (.array n e)) (hd:P.underlying e=some d) (h1:P.cellsOf e=1) (hn0:0 < n) (hn:n≤cs.length) (hc:∀c∈cs,c.cells= [c]):Yields P o E (.sl 1 n (fun j=> cs.getD j .any)):=by
 refine ⟨(by rw [ho];intro c hc;cases hc),fun ρ w X g hk hr=> .inl ?_⟩
 have r1:=hr x (by rw [ho];simp [Op.operands])
 rw [hx] at r1
 generalize hu:ρ x=u at r1
 cases r1 with
 | rp _ b off vs hvs hcell hrep=>
   refine ⟨.slice (some ⟨b,off,none⟩) n n,w, ?_,Evo.refl _ _, ?_⟩
   ·unfold execOp
    simp only [ho,hu,Option.map_none]
    exact Jci (Jkj ht hd h1 b off hn0)
   ·refine .sl _ _ _ b off n (vs.take n) (by simp;omega) (Nat.le_refl _) (fun k u hk=> ?_) (fun i hi=> ?_) (fun i j c u hi hj hu=> ?_)
    ·rw [List.getElem?_take] at hk
     split at hk
     ·exact hcell k u hk
     ·cases hk
    ·have hi2:i < cs.length:=by omega
     have:cs.getD i .any∈cs:=by simp [List.getD,hi2]
     rw [hc _ this];rfl
    ·have hi2:i < cs.length:=by omega
     have hm:cs.getD i .any∈cs:=by simp [List.getD,hi2]
     rw [hc _ hm] at hj
     cases j with
     | zero=>
       simp only [List.getElem?_cons_zero,Option.some.injEq] at hj
       subst hj
       rw [List.getElem?_take] at hu
       split at hu
       ·exact hrep i _ u (by simp [List.getD,hi2]) (by simpa using hu)
       ·cases hu
     | succ j=> simp at hj
theorem Jl9 {o:Oper} {E:Env} {K:Env→Prop} {Kp:AV→Env→Prop} {t e:TypeId} {x:Operand} {n:Nat} {d:TypeDesc} {cs:List AV} (ho:o.op= .slice t x none none none) (hx:E.ev x= .rp cs)
 (ht:P.underlying t=some (.array n e)) (hd:P.underlying e=some d) (h1:P.cellsOf e=1) (hn0:0 < n) (hn:n≤cs.length) (hc:∀c∈cs,c.cells= [c]) (hk:K (E.set o.dst (.sl 1 n (fun j=> cs.getD j .any)))):AOp P o E K Kp:=
 AOp.of_yields (Joi ho hx ht hd h1 hn0 hn hc) hk
end Go.Vl

/- As VlX, with operations that look at memory of one's own which effects turn: such a look stands ahead of every effect that comes behind it. -/
namespace Go.Vl
open Go.RowKit
variable {P:Program}
def PureNow (P:Program) (ops:Array Oper) (o:Oper) (E:Env) (r:AV):Prop:=
 ∀E':Env,E'.h=E.h→(∀k,k∈o.looksAt ops→E'.t k=E.t k)→GY P ops o E' r
theorem PureNow.congr {ops:Array Oper} {o:Oper} {E E':Env} {r:AV} (h:PureNow P ops o E r) (hh:E'.h=E.h) (ht:∀k,k∈o.looksAt ops→E'.t k=E.t k):PureNow P ops o E' r:=
 fun E'' h1 h2=> h E'' (h1.trans hh) fun k hk=> (h2 k hk).trans (ht k hk)
def MixL3 (P:Program) (ops:Array Oper) (B:List (Id×Own)) (eff ld:Nat→Bool):List Nat→Env→(Env→Prop)→Prop
 | [],E,K=> K E
 | i::l,E,K=> ∃o,ops[i]? =some o∧(match eff i with
   | true=> ∃R,Eff P ops B o E R∧∀r h',R r h'→MixL3 P ops B eff ld l (({ E with h:=h'}:Env).set o.dst r) K
   | false=> match ld i with
     | true=> ∃r,PureNow P ops o E r∧MixL3 P ops B eff ld l (E.set o.dst r) K
     | false=> ∃r,PureAll P ops B o E r∧MixL3 P ops B eff ld l (E.set o.dst r) K)
theorem MixL3.front {ops:Array Oper} {B:List (Id×Own)} {eff ld:Nat→Bool} {K:Env→Prop} {j:Nat} {oj:Oper} (hj:ops[j]? =some oj):∀(l1 l2:List Nat) (E:Env),
 (∀i∈l1,eff i=false∧(ld i=true→eff j=false)∧∀oi,ops[i]? =some oi→oi.apart ops oj=true)→MixL3 P ops B eff ld (l1++j::l2) E K→MixL3 P ops B eff ld (j::(l1++l2)) E K
 | [],l2,E,_,h=> h
 | i::l1,l2,E,hap,h=> by
   obtain ⟨oi,h1,h2⟩:=h
   obtain ⟨he,hld,ha⟩:=hap i (by simp)
   obtain ⟨a1,a2,a3⟩:=Oper.apart_spec (ha oi h1)
   have back:∀ {ri:AV} {E1:Env},E1.h=E.h∨ld i=false→(∀k,k∈oi.looksAt ops→E1.t k=E.t k)→(match ld i with | true=> PureNow P ops oi E ri | false=> PureAll P ops B oi E ri)→
    (match ld i with | true=> PureNow P ops oi E1 ri | false=> PureAll P ops B oi E1 ri):=fun hh ht hp=> by
    cases hli:ld i with
    | true=> simp only [hli] at hp⊢;exact hp.congr (hh.resolve_right (by rw [hli];simp)) ht
    | false=> simp only [hli] at hp⊢;exact hp.congr ht
   simp only [he] at h2
   have h2':∃ri,(match ld i with | true=> PureNow P ops oi E ri | false=> PureAll P ops B oi E ri)∧MixL3 P ops B eff ld (l1++j::l2) (E.set oi.dst ri) K:=by
    cases hli:ld i with
    | true=> simp only [hli] at h2⊢;exact h2
    | false=> simp only [hli] at h2⊢;exact h2
   obtain ⟨ri,h3,h4⟩:=h2'
   have close:∀ {E1:Env},(match ld i with | true=> PureNow P ops oi E1 ri | false=> PureAll P ops B oi E1 ri)→MixL3 P ops B eff ld (l1++l2) (E1.set oi.dst ri) K→MixL3 P ops B eff ld (i::(l1++l2)) E1 K:=fun hp hk=> by
    refine ⟨oi,h1, ?_⟩
    simp only [he]
    cases hli:ld i with
    | true=> simp only [hli] at hp⊢;exact ⟨ri,hp,hk⟩
    | false=> simp only [hli] at hp⊢;exact ⟨ri,hp,hk⟩
   obtain ⟨o,h5,h6⟩:=MixL3.front hj l1 l2 _ (fun i' hi'=> hap i' (List.mem_cons_of_mem _ hi')) h4
   rw [hj] at h5
   cases h5
   refine ⟨oj,hj, ?_⟩
   cases hej:eff j with
   | true=>
     have hli:ld i=false:=by
      cases h:ld i with
      | false=> rfl
      | true=> rw [hld h] at hej;cases hej
     simp only [hej] at h6⊢
     obtain ⟨R,q1,q2⟩:=h6
     refine ⟨R,q1.congr (by rw [Env.set_h]) fun k hk=> (Env.set_other (fun e=> a1 k e hk)).symm,fun r h' hr=> ?_⟩
     have q3:=q2 r h' hr
     refine close (back (.inr hli) (fun k hk=> Env.set_other (fun e=> a3 k e hk)) h3) ?_
     rw [Joa,Env.set_comm (d:=oi.dst) (d':=oj.dst) (fun k hk=> a2 k hk)] at q3
     exact q3
   | false=>
     simp only [hej] at h6⊢
     cases hlj:ld j with
     | true=>
       simp only [hlj] at h6⊢
       obtain ⟨rj,q1,q2⟩:=h6
       refine ⟨rj,q1.congr (by rw [Env.set_h]) fun k hk=> (Env.set_other (fun e=> a1 k e hk)).symm,close (back (.inl (by rw [Env.set_h])) (fun k hk=> Env.set_other (fun e=> a3 k e hk)) h3) ?_⟩
       rw [Env.set_comm (d:=oi.dst) (d':=oj.dst) (fun k hk=> a2 k hk)] at q2
       exact q2
     | false=>
       simp only [hlj] at h6⊢
       obtain ⟨rj,q1,q2⟩:=h6
       refine ⟨rj,q1.congr fun k hk=> (Env.set_other (fun e=> a1 k e hk)).symm,close (back (.inl (by rw [Env.set_h])) (fun k hk=> Env.set_other (fun e=> a3 k e hk)) h3) ?_⟩
       rw [Env.set_comm (d:=oi.dst) (d':=oj.dst) (fun k hk=> a2 k hk)] at q2
       exact q2
def ordM3 (ops:Array Oper) (m:Nat) (eff ld:Nat→Bool) (L:List Nat):Bool:=
 let bf:=Region.before ops
 Nat.ble m ops.size&& (Jcp ops m&& (L.all (fun i=> Nat.blt i m)&& ((List.range m).all (fun i=> L.contains i)&& (go bf L))))
where
 go (bf:Array Nat):List Nat→Bool
  | []=> true
  | i::l=> (l.all fun j=> match ops[i]?,ops[j]? with
    | some oi,some oj=> (!Nat.beq i j)&& ((oi.after.toList.all fun e=> !Region.binds .any e|| !Nat.beq e.on j)&& ((bf.getD j 0).testBit i|| (!eff i&& (!(ld i&& eff j)&& oi.apart ops oj))))
    | _,_=> false)&& ((match ops[i]? with | some oi=> oi.after.toList.all fun e=> !Region.binds .any e|| !Nat.beq e.on i | none=> false)&& go bf l)
def Joj (ops:Array Oper) (eff ld:Nat→Bool) (i j:Nat):Prop:=
 i≠j∧∀oi oj,ops[i]? =some oi→ops[j]? =some oj→(∀e∈oi.after,Region.binds .any e=true→e.on≠j)∧(((Region.before ops).getD j 0).testBit i=true∨(eff i=false∧(ld i=true→eff j=false)∧oi.apart ops oj=true))
theorem Jok {ops:Array Oper} {eff ld:Nat→Bool}:∀ {L:List Nat},ordM3.go ops eff ld (Region.before ops) L=true→
 L.Pairwise (Joj ops eff ld)∧∀i∈L,∀oi,ops[i]? =some oi→∀e∈oi.after,Region.binds .any e=true→e.on≠i
 | [],_=> ⟨.nil,by simp⟩
 | i::l,h=> by
   simp only [ordM3.go,Bool.and_eq_true] at h
   obtain ⟨h1,h2,h3⟩:=h
   obtain ⟨q1,q2⟩:=Jok h3
   refine ⟨List.pairwise_cons.2 ⟨fun j hj=> ?_,q1⟩,fun k hk=> ?_⟩
   ·have:=List.all_eq_true.1 h1 j hj
    split at this
    ·rename_i oi oj hi hj'
     simp only [Bool.and_eq_true,Bool.or_eq_true,List.all_eq_true] at this
     obtain ⟨p1,p2,p3⟩:=this
     refine ⟨Jg0 p1,fun oi' oj' hi2 hj2=> ?_⟩
     rw [hi] at hi2;rw [hj'] at hj2
     cases hi2;cases hj2
     refine ⟨fun e he hb=> ?_,p3.imp id fun h=> by
      simp at h
      exact ⟨h.1,fun hl=> h.2.1.resolve_left (by rw [hl];simp),h.2.2⟩⟩
     rcases p2 e (Array.mem_toList_iff.2 he) with h | h
     ·simp [hb] at h
     ·exact Jg0 h
    ·cases this
   ·rcases List.mem_cons.1 hk with rfl | hk
    ·intro oi hi e he hb
     rw [hi] at h2
     have:=List.all_eq_true.1 h2 e (Array.mem_toList_iff.2 he)
     simp only [hb,Bool.not_true,Bool.false_or] at this
     exact Jg0 this
    ·exact q2 k hk
theorem Jvk {ops:Array Oper} {m:Nat} {B:List (Id×Own)} {eff ld:Nat→Bool} {Q:Exit→Act→World→Prop} (hk:OrdOk ops m) (hm:m≤ops.size)
 {ro:Option Nat} {X M:Nat→Nat→Prop} {w0:World} {g0:List Nat} {K:Env→Prop}
 (hq:∀E a w g,K E→(∀(i b:Nat),g0[i]? =some b→g[i]? =some b)→St ro X M w0 E a w g→wpOpsIn (Fr ro) 0 P ops Q (List.range' m (ops.size - m)) a w):
 ∀(n:Nat) (L:List Nat) (listed:Array Bool) (E:Env) (a:Act) (w:World) (g:List Nat),L.length=n→L.Pairwise (Joj ops eff ld)→(∀i∈L,i < m)→
  (∀i∈L,∀oi,ops[i]? =some oi→∀e∈oi.after,Region.binds .any e=true→e.on≠i)→listed.size=ops.size→DC ops listed→
 (∀i,i < ops.size→(listed.getD i true=false↔i∈L∨m≤i))→MixL3 P ops B eff ld L E K→HB B E.h.bx→(∀(i b:Nat),g0[i]? =some b→g[i]? =some b)→St ro X M w0 E a w g→wpAnyIn (Fr ro) 0 P .any ops Q (n+(ops.size - m)) listed a w:=by
 intro n
 induction n with
 | zero=>
   intro L listed E a w g hl _ _ _ hsz hd hun hrun _ hg hs
   have:L= []:=List.eq_nil_of_length_eq_zero hl
   subst this
   rw [Nat.zero_add]
   exact Jhg hk _ m listed a w Om (Nat.le_refl _) hsz hd (fun i hi=> by simpa using hun i hi) (hq E a w g hrun hg hs)
 | succ n ih=>
   intro L listed E a w g hl hpw hlt hself hsz hd hun hrun hB hg hs
   rw [Nat.add_right_comm]
   obtain ⟨k,L',rfl⟩:∃k L',L=k::L':=by cases L with | nil=> simp at hl | cons k L'=> exact ⟨k,L',rfl⟩
   have hkm:k < m:=hlt k (by simp)
   have hklt:k < ops.size:=by omega
   have hko:ops[k]? =some ops[k]:=Array.getElem?_eq_getElem hklt
   have hkr:k∈Region.ready .any ops listed:=by
    refine Ja5.2 ⟨(hun k hklt).2 (by simp),_,hko,fun e he hb=> ?_⟩
    have hb':=hk.back k _ hko e he hb
    rw [Jbd Om]
    cases hl:listed.getD e.on true with
    | true=> simpa using hl
    | false=>
      rcases (hun e.on Om).1 hl with h' | h'
      ·rcases List.mem_cons.1 h' with h' | h'
       ·exact absurd h' (hself k (by simp) _ hko e he hb)
       · exact absurd rfl (((List.pairwise_cons.1 hpw).1 _ h').2 _ _ hko (Array.getElem?_eq_getElem Om) |>.1 e he hb)
      ·omega
   refine ⟨fun h0=> (by rw [h0] at hkr;cases hkr),fun j hj=> ?_⟩
   obtain ⟨h1,oj,hoj,h2⟩:=Ja5.1 hj
   have hjlt:=(Array.getElem?_eq_some_iff.1 hoj).1
   have hjL:j∈k::L':=by
    rcases (hun j hjlt).1 h1 with h' | h'
    ·exact h'
    ·have hb:=hk.tail k j oj hoj h' Om
     have:=Jb6 hd hsz hoj h2 hb
     have h3:=(hun k Om).2 (by simp)
     rw [Jbd Om] at this
     simp [h3] at this
   obtain ⟨l1,l2,hl12⟩:=List.append_of_mem hjL
   rw [hl12] at hrun hpw hun hlt hl hself
   have hl1:∀i∈l1,Joj ops eff ld i j:=fun i hi=> (List.pairwise_append.1 hpw).2.2 i hi j (by simp)
   obtain ⟨o,ho,hrun'⟩:=MixL3.front hoj l1 l2 E (fun i hi=> by
    obtain ⟨hne,hp⟩:=hl1 i hi
    have hilt:i < ops.size:=Nat.lt_of_lt_of_le (hlt i (by simp [hi])) hm
    rcases (hp _ _ (Array.getElem?_eq_getElem hilt) hoj).2 with hb | ⟨hb,hb2,hb'⟩
    ·have:=Jb6 hd hsz hoj h2 hb
     have h3:=(hun i hilt).2 (by simp [hi])
     rw [Jbd Om] at this
     simp [h3] at this
    ·exact ⟨hb,hb2,fun oi hoi=> by rw [Array.getElem?_eq_getElem hilt] at hoi;cases hoi;exact hb'⟩) hrun
   rw [hoj] at ho
   cases ho
   have hnext:∀E' a' w' g',MixL3 P ops B eff ld (l1++l2) E' K→HB B E'.h.bx→(∀(i b:Nat),g0[i]? =some b→g'[i]? =some b)→St ro X M w0 E' a' w' g'→wpAnyIn (Fr ro) 0 P .any ops Q (n+(ops.size - m)) (listed.setIfInBounds j true) a' w':=by
    intro E' a' w' g' hm' hB' hg' hs'
    have hsub:(l1++l2).Sublist (l1++j::l2):=List.Sublist.append Sf (List.sublist_cons_self _ _)
    refine ih (l1++l2) _ E' a' w' g' (by simp at hl⊢;omega) (hpw.sublist hsub) (fun i hi=> hlt i (hsub.subset hi)) (fun i hi=> hself i (hsub.subset hi)) (by simp [hsz]) (hd.set hsz hk hj) (fun i hi=> ?_) hm' hB' hg' hs'
    rw [Jey Om]
    by_cases hij:i=j
    ·subst hij
     simp only [if_true]
     constructor
     ·intro h;cases h
     ·intro h
      exfalso
      have h5:=List.pairwise_append.1 hpw
      rcases h with h | h
      ·rcases List.mem_append.1 h with h | h
       ·exact (h5.2.2 i h i (by simp)).1 rfl
       ·exact ((List.pairwise_cons.1 h5.2.1).1 i h).1 rfl
      ·have:=hlt i (by simp);omega
    ·rw [if_neg hij,hun i hi]
     simp [hij]
   cases hej:eff j with
   | true=>
     simp only [hej] at hrun'
     obtain ⟨R,⟨q0,q1⟩,q2⟩:=hrun'
     unfold wpOpIn
     simp only [hoj,Region.wanted,q0,if_true]
     exact q1 E rfl (fun _ _=> rfl) ro X M w0 a w g hs _ _ (fun E' a' w' g' hE hgg hs'=> by
      obtain ⟨r,h',p1,p2,rfl⟩:=hE
      exact hnext _ a' w' g' (q2 r h' p1) (by rw [Env.set_h];exact p2) (fun i b hi=> hgg i b (hg i b hi)) hs') (fun x E' a' w' g' v hk'=> hk'.elim)
   | false=>
     simp only [hej] at hrun'
     cases hlj:ld j with
     | true=>
       simp only [hlj] at hrun'
       obtain ⟨r,q1,q2⟩:=hrun'
       exact (q1 E rfl fun _ _=> rfl).does hoj hs fun a' w' hs'=> hnext _ a' w' g q2 (by rw [Env.set_h];exact hB) hg hs'
     | false=>
       simp only [hlj] at hrun'
       obtain ⟨r,q1,q2⟩:=hrun'
       exact (q1 E hB fun _ _=> rfl).does hoj hs fun a' w' hs'=> hnext _ a' w' g q2 (by rw [Env.set_h];exact hB) hg hs'
def aM3 (P:Program) (ops:Array Oper) (eff ld:Nat→Bool):List Nat→Env→(Env→Prop)→Prop
 | [],E,K=> K E
 | i::l,E,K=> match ops[i]? with
   | none=> False
   | some o=> match eff i with
      | true=> ∃R,Eff P ops [] o E R∧∀r h',R r h'→aM3 P ops eff ld l (({ E with h:=h'}:Env).set o.dst r) K
      | false=> match ld i with
        | true=> ∃r,PureNow P ops o E r∧Jcr r fun r=> aM3 P ops eff ld l (E.set o.dst r) K
        | false=> match o.guard with
          | some _=> False
          | none=> match Jbp P o.op { E with h:=⟨[], [],0,0⟩} with
            | some (C,r)=> Jnz C (Jcr r fun r=> aM3 P ops eff ld l (E.set o.dst r) K)
            | none=> False
theorem JiG {ops:Array Oper} {eff ld:Nat→Bool} {K:Env→Prop}:∀ {L:List Nat} {E:Env},aM3 P ops eff ld L E K→MixL3 P ops [] eff ld L E K
 | [],E,h=> h
 | i::l,E,h=> by
   unfold aM3 at h
   split at h
   ·exact h.elim
   ·rename_i o ho
    refine ⟨o,ho, ?_⟩
    cases he:eff i with
    | true=>
      simp only [he] at h⊢
      obtain ⟨R,q1,q2⟩:=h
      exact ⟨R,q1,fun r h' hr=> JiG (q2 r h' hr)⟩
    | false=>
      simp only [he] at h⊢
      cases hl:ld i with
      | true=>
        simp only [hl] at h⊢
        obtain ⟨r,q1,q2⟩:=h
        exact ⟨r,q1,JiG (Jdb q2)⟩
      | false=>
        simp only [hl] at h⊢
        split at h
        ·exact h.elim
        ·rename_i hg
         split at h
         ·rename_i C r hp
          obtain ⟨q1,q2⟩:=JhY h
          refine ⟨r,fun E' hb ht=> ?_,JiG (Jdb q2)⟩
          unfold GY
          simp only [hg]
          exact JbV (JeC (E:= { E with h:=⟨[], [],0,0⟩}) (E':=E') hb (Jcs (E:= { E with h:=⟨[], [],0,0⟩}) ht) hp) q1
         ·exact h.elim
theorem Jtn {ops:Array Oper} {o:Oper} {E:Env} {C:Option Prop} {r:AV} (hg:o.guard=none) (hp:Jbp P o.op E=some (C,r)) (hC:Jao C):PureNow P ops o E r:=fun E' hh ht=> by
 unfold GY
 simp only [hg]
 exact JbV (JeC (E:=E) (E':=E') (by rw [hh];exact HB.refl _) (Jcs ht) hp) hC
theorem JwR {id:Nat} {ops:Array Oper} {E:Env} {Q:AExit→Env→Prop} (m:Nat) (eff ld:Nat→Bool) (L:List Nat) (hf:P.follows .mixedOrders=true) (hb:ordM3 ops m eff ld L=true)
 (h:aM3 P ops eff ld L E fun E'=> aK P ops (ops.toList.drop m) E' (Q .normal) (fun x E=> Q (.panic x) E)):AW P (.region id ops true) E Q:=by
 simp only [ordM3,Bool.and_eq_true,List.all_eq_true] at hb
 obtain ⟨h0,h00,h1,h2,h3⟩:=hb
 have hm:=Jei h0
 obtain ⟨h4,h5⟩:=Jok h3
 have hlt:∀i∈L,i < m:=fun i hi=> Jcq (h1 i hi)
 have hall:∀i,i < m→i∈L:=fun i hi=> by simpa using h2 i (List.mem_range.2 hi)
 have hnd:L.Nodup:=h4.imp fun h=> h.1
 have hlen:L.length=m:=by
  have p:L.Perm (List.range m):=(List.perm_ext_iff_of_nodup hnd List.nodup_range).2 fun i=> ⟨fun hi=> List.mem_range.2 (hlt i hi),fun hi=> hall i (List.mem_range.1 hi)⟩
  simpa using p.length_eq
 unfold AW
 intro ro X M w0 a w g g0 hg hs
 refine wpIn_region_any hf ?_
 have hs':St ro X M w0 E a { w with drawn:=w.drawn+1} g:=hs.drew
 have key:=Jvk (eff:=eff) (ld:=ld) (g0:=g0) (K:=fun E'=> aK P ops (ops.toList.drop m) E' (Q .normal) (fun x E=> Q (.panic x) E)) (Q:=JeP ro X M w0 g0 Q) (P:=P) (X:=X) (M:=M) (w0:=w0) (ro:=ro) (B:= []) (Jrc h00) hm (fun E' a' w' g' hk hg' hs''=> by
  have:=JdC (P:=P) (ops:=ops) (K:=Q .normal) (X:=X) (M:=M) (w0:=w0) (g0:=g0) (Kp:=fun x E=> Q (.panic x) E) (ro:=ro) (Q:=JeP ro X M w0 g0 Q) (fun E a w g hk hg hs=> ⟨.normal,E,g,hk,rfl,hg,hs⟩) (fun x E a w g v hk hg hs hr=> ⟨.panic x,E,g,hk,⟨v,rfl,hr⟩,hg,hs⟩) (ops.toList.drop m) m E' a' w' g' (fun j=> .inl (by simp)) hg' hs'' hk
  simpa using this) m L (Array.replicate ops.size false) E a _ g hlen h4 hlt h5 (by simp) (fun k o ho hl=> by
  have hk:=(Array.getElem?_eq_some_iff.1 ho).1
  simp [Array.getD_eq_getD_getElem?,hk] at hl) (fun i hi=> by
  have:(Array.replicate ops.size false).getD i true=false:=by simp [Array.getD_eq_getD_getElem?,hi]
  simp only [this,true_iff]
  rcases Nat.lt_or_ge i m with h | h
  ·exact .inl (hall i h)
  ·exact .inr h) (JiG h) (fun _ _ _ h=> by cases h) hg hs'
 have e:m+(ops.size - m)=ops.size:=by omega
 rw [e] at key
 exact key
end Go.Vl

namespace Go.Vl
open Go.RowKit
variable {P:Program}
def Jvl {ι:Type} (F:ι→Env) (J:ι→Prop) (Q:AExit→Env→Prop):AExit→Env→Prop:=fun e E'=>
 match e with
 | .normal=> ∃i,J i∧ELe E' (F i)
 | e=> Q e E'
theorem Jkk {ι:Type} (F:ι→Env) (J:ι→Prop) {x y:Code} {E:Env} {Q:AExit→Env→Prop} (h:AW P x E (Jvl F J Q)) (hk:∀i,J i→AW P y (F i) Q):AW P x E (JnJ P y Q):=
 h.mono fun ex E' h'=> by
  cases ex with
  | normal=> obtain ⟨i,hI,hl⟩:=h';exact AW.le hl (hk i hI)
  | exit i=> exact h'
  | goto i=> exact h'
  | ret=> exact h'
  | panic i=> exact h'
theorem JdT {ι:Type} (F:ι→Env) (J:ι→Prop) {k:Nat} {x y:Code} {E:Env} {Q:AExit→Env→Prop} (h:AW P x E (Jf4 k (Jvl F J Q))) (hk:∀i,J i→AW P y (F i) Q):AW P x E (Jf4 k (JnJ P y Q)):=by
 have key:∀ex E',Jvl F J Q ex E'→JnJ P y Q ex E':=fun ex E' h'=> by
  cases ex with
  | normal=> obtain ⟨i,hI,hl⟩:=h';exact AW.le hl (hk i hI)
  | exit i=> exact h'
  | goto i=> exact h'
  | ret=> exact h'
  | panic i=> exact h'
 refine h.mono fun ex E' h'=> ?_
 cases ex with
 | exit i=>
   simp only [Jf4] at h'⊢
   cases hb:Nat.beq i k with
   | true=> simp only [hb,cond_true] at h'⊢;exact key .normal _ h'
   | false=> simp only [hb,cond_false] at h'⊢;exact h'
 | normal=> exact key .normal _ h'
 | goto i=> exact h'
 | ret=> exact h'
 | panic i=> exact h'
section
variable {α:Type} [Inhabited α]
def Jde (E:α→AV) (d:Array α) (tl:List AV):List AV:=d.toList.map E++tl
omit [Inhabited α] in
theorem Jol {E:α→AV} {d:Array α} {tl:List AV}:(Jde E d tl).length=d.size+tl.length:=by simp [Jde]
theorem Jdp {x:Int} {i:Nat} (h:x=(i:Int)):0≤x:=by omega
theorem JdE {x:Int} {i n:Nat} (h:x=(i:Int)) (hn:i < n):x < (n:Int):=by omega
end
end Go.Vl

namespace Go.Vl
open Go.RowKit
variable {P:Program}
theorem AOp.any {o:Oper} {E:Env} {K:Env→Prop} {Kp:AV→Env→Prop} (h:AOp P o E K):AOp P o E K Kp:=fun ro X M w0 a w g hs next Q hn _=> h ro X M w0 a w g hs next Q hn fun _ _ _ _ _ _ h=> h.elim
theorem Jvm {w:World} {X:Nat→Nat→Prop} {g:List Nat} {m sz:Nat} {f':Nat→AV} {news:List Value} (hpos:0 < sz) (hnl:news.length=m * sz) (hncs:∀i,i < m→(f' i).cells.length=sz)
 (hnr:∀(i j:Nat) (c:AV) (u:Value),i < m→(f' i).cells[j]? =some c→news[i * sz+j]? =some u→Rep w X g c u) (hone:JcW m f'):∀u∈news,u.oneCell'=true:=by
 intro u hu
 obtain ⟨k,hk,hku⟩:=List.getElem_of_mem hu
 have hdm:=Nat.div_add_mod k sz
 have hmod:=Nat.mod_lt k hpos
 have hdiv:k / sz < m:=by rw [Nat.div_lt_iff_lt_mul hpos];omega
 have hlt:k % sz < (f' (k / sz)).cells.length:=by rw [hncs _ hdiv];exact hmod
 have hrep:=hnr (k / sz) (k % sz) _ u hdiv (List.getElem?_eq_getElem hlt) (by
  rw [Nat.mul_comm,hdm,List.getElem?_eq_getElem hk,hku])
 exact Je9 (List.all_eq_true.1 (hone _ hdiv) _ (List.getElem_mem hlt)) hrep
theorem Jom {w:World} {X:Nat→Nat→Prop} {g:List Nat} {m sz:Nat} {f':Nat→AV} {news:List Value} (hpos:0 < sz) (hnl:news.length=m * sz) (hncs:∀i,i < m→(f' i).cells.length=sz)
 (hnr:∀(i j:Nat) (c:AV) (u:Value),i < m→(f' i).cells[j]? =some c→news[i * sz+j]? =some u→Rep w X g c u):
 ∀(k:Nat) (c:AV) (u:Value),(JO m f')[k]? =some c→news[k]? =some u→Rep w X g c u:=by
 intro k c u hc hu
 obtain ⟨rl,rg⟩:=JdD hncs
 have hk:k < m * sz:=by rw [← hnl];exact (List.getElem?_eq_some_iff.1 hu).1
 have hdm:=Nat.div_add_mod k sz
 have hmod:=Nat.mod_lt k hpos
 have hdiv:k / sz < m:=by rw [Nat.div_lt_iff_lt_mul hpos];exact hk
 have e:k=k / sz * sz+k % sz:=by rw [Nat.mul_comm];exact hdm.symm
 rw [e,rg _ _ hdiv hmod] at hc
 exact hnr _ _ c u hdiv hc (by rw [← e];exact hu)
theorem Jff {o:Oper} {E:Env} {K:Env→Prop} {Kp:AV→Env→Prop} {s x:Operand} {t e:TypeId} {n szx m cap:Nat} {f':Nat→AV} {i:Id} {cs:List AV}
 (ho:o.op= .call { callee:= .builtin .append,args:= #[s,x],argTypes:= #[t,t]}) (hs:E.ev s= .hs i 0 n cap)
 (hx:E.ev x= .sl szx m f'∨∃oj,E.ev x= .os szx m f' oj)
 (ht:P.underlying t=some (.slice e)) (hg:Jbm P e=true) (hszx:m=0∨szx=P.cellsOf e)
 (hcs:JbG i.1 E.h.bx=some (i.2,cs)) (hcap:n≤cap) (hcl:cap * P.cellsOf e≤cs.length) (hone:JcW m f')
 (hroom0:m≠0→(n+m) * P.bytesOf e≤140737488355328) (hlen0:m≠0→n+m≤9223372036854775807)
 (hk0:m=0→K (E.set o.dst (.hs i 0 n cap)))
 (hk1:m≠0→n+m≤cap→K (({ E with h:= { E.h with bx:=JgK i.1 (Jas cs (n * P.cellsOf e) (JO m f')) E.h.bx}}:Env).set o.dst (.hs i 0 (n+m) cap)))
 (hk2:m≠0→¬n+m≤cap→∀ncap,n+m≤ncap→K (({ E with h:=E.h.add (cs.take (n * P.cellsOf e)++JO m f'++List.replicate ((ncap - (n+m)) * P.cellsOf e) .any)}:Env).set o.dst (.hs (E.h.nn,E.h.nx) 0 (n+m) ncap))):AOp P o E K Kp:=by
 intro ro X M w0 a w g hst next Q hn hpan
 obtain ⟨inf,z,hi,hz,hzs,hsi,hpos,hby⟩:=Jfa hg
 have hmem:=Jf5 hcs
 obtain ⟨b,hgb,vs,ev,hb,hvs,hr⟩:=hst.hok.bx _ hmem
 dsimp only at hgb hvs hr
 have hsv:a.eval s= .slice (some ⟨b,0,none⟩) n cap:=by
  have:=hst.ev s
  rw [hs] at this
  generalize a.eval s=u at this
  cases this with
  | hs _ _ _ _ b' hg'=> rw [hgb] at hg';cases hg';rfl
 have hxr:Rep w (excl X g E.h) g (.sl szx m f') (a.eval x):=by
  have:=hst.ev x
  rcases hx with hx | ⟨oj,hx⟩
  ·rw [hx] at this;exact this
  ·rw [hx] at this;exact Jc9 this
 have hexec:∀ {u:Value} {w':World},(Builtin.append_ #[t,t] o.type #[a.eval s,a.eval x]).run P w= .ok u w'→(execOp a.eval o).run P w= .ok (.value u) w':=by
  intro u w' h
  unfold execOp
  simp only [ho,resolve]
  simp [invoke,builtin,h]
 by_cases hm:m=0
 ·subst hm
  have hrun:(Builtin.append_ #[t,t] o.type #[a.eval s,a.eval x]).run P w= .ok (a.eval s) w:=by
   have key:∀(xb:Option Addr) (xc:Nat),(Builtin.append_ #[t,t] o.type #[.slice (some ⟨b,0,none⟩) n cap, .slice xb 0 xc]).run P w= .ok (.slice (some ⟨b,0,none⟩) n cap) w:=by
    intro xb xc
    have hfc:(Builtin.firstCells inf.size 0 (.slice xb 0 xc)).run P w= .ok #[] w:=by
     cases xb with
     | none=> simp [Builtin.firstCells]
     | some ad=> simpa using run_firstCells_some (P:=P) w inf.size 0 ad 0 xc [] (by simp) (by simp)
    simp [Builtin.append_,run_underlying ht,sizeOf,typeInfo,hi,Builtin.lenOf,hcap,hfc,storeCells]
   rw [hsv]
   generalize a.eval x=ux at hxr
   cases hxr with
   | sl0 _ _ xa xc=> exact key _ _
   | sl _ _ _ b off cap vs hlen' hcap=> exact key _ _
  refine JR (by rw [ho];intro c h;cases h) ?_
  rw [hexec hrun]
  have:=hst.ev s
  rw [hs] at this
  exact hn _ _ _ g (hk0 rfl) (fun _ _ h=> h) (hst.put o.dst this)
 ·have hroom:=hroom0 hm
  have hlen:=hlen0 hm
  have hszx':szx=P.cellsOf e:=hszx.resolve_left hm
  subst hszx'
  obtain ⟨ax,xcap,news,hxv,hnl,hncell,hncs,hnr⟩:=JhV hxr hm
  have hnone:=Jvm hpos hnl hncs hnr hone
  have hnrep:=Jom hpos hnl hncs hnr
  obtain ⟨rl,rg⟩:=JdD hncs
  have hvl:vs.toList.length=cs.length:=by simpa using hvs
  by_cases hfit:n+m≤cap
  ·have hnm:(n+m) * P.cellsOf e≤cap * P.cellsOf e:=Nat.mul_le_mul_right _ hfit
   rw [Nat.add_mul] at hnm
   have hr2:=JhJ (P:=P) w t o.type e ev inf ht hi b n cap vs hb ax m xcap news (by rw [hnl,hsi]) hncell hnone hfit (by rw [hsi,hnl];omega)
   rw [hsi] at hr2
   have hnew:=hst.setRow (cs:=Jas cs (n * P.cellsOf e) (JO m f')) (vs:=(vs.toList.take (n * P.cellsOf e)++news++vs.toList.drop (n * P.cellsOf e+news.length)).toArray) hcs hgb hb
    (by simp only [JaV,List.length_append,List.length_take,List.length_drop,Array.length_toList,rl,hnl];omega)
    (by simp only [List.size_toArray,List.length_append,List.length_take,List.length_drop,Array.length_toList,hnl];omega)
    (fun k c u hk1 hk2=> by
      simp only [List.append_assoc] at hk2
      rw [Jda _ _ _ (by simp only [Array.length_toList];omega)] at hk2
      rw [JaV] at hk1
      rw [Jda _ _ _ (by rw [rl];omega)] at hk1
      rw [hnl] at hk2
      rw [rl] at hk1
      split at hk1
      ·rename_i h2;rw [if_pos h2] at hk2;exact hr k c u hk1 (by simpa using hk2)
      ·rename_i h2
       rw [if_neg h2] at hk2
       split at hk1
       ·rename_i h3;rw [if_pos h3] at hk2;exact hnrep _ c u hk1 hk2
       ·rename_i h3;rw [if_neg h3] at hk2;exact hr k c u hk1 (by simpa using hk2))
   refine JR (by rw [ho];intro c h;cases h) ?_
   rw [hexec (by rw [hsv,hxv];exact hr2)]
   exact hn _ _ _ g (hk1 hm hfit) (fun _ _ h=> h) (hnew.put o.dst (.hs _ _ _ _ b hgb))
  ·have hnc:n * P.cellsOf e≤cap * P.cellsOf e:=Nat.mul_le_mul_right _ hcap
   have hol:(vs.toList.take (n * P.cellsOf e)).length=n * P.cellsOf e:=by rw [List.length_take];omega
   have hocell:∀(j:Nat) (u:Value),(vs.toList.take (n * P.cellsOf e))[j]? =some u→w.cell? ((⟨b,0,none⟩:Addr).add j)=some u:=fun j u hu=> by
    rw [Jak,Nat.zero_add,JX hb]
    rw [List.getElem?_take] at hu
    split at hu
    ·simpa using hu
    ·cases hu
   have hr2:=run_append_grow (P:=P) w t o.type e inf z ht hi hz ⟨b,0,none⟩ n cap (vs.toList.take (n * P.cellsOf e)) (by rw [hol,hsi]) hocell ax m xcap news (by rw [hnl,hsi]) hncell Om Om (growslice_fits Om (by rw [hby];exact hroom))
   have hge:=grownCap_ge w (n+m) cap e
   generalize grownCap w (n+m) cap e=ncap at hr2 hge
   have hst2:=hst.drew
   obtain ⟨h3,h4⟩:=hst2.box (cs:=cs.take (n * P.cellsOf e)++JO m f'++List.replicate ((ncap - (n+m)) * P.cellsOf e) .any) (vs:=(vs.toList.take (n * P.cellsOf e)).toArray++news.toArray++Builtin.zeroCells z.cells (ncap - (n+m))) e
    (by simp only [Array.toList_append,List.length_append,Array.length_toList,size_zeroCells,hzs,List.length_take,List.length_replicate,rl,hnl,List.size_toArray];omega)
    (fun k c u hc hu=> by
      have hevo:Evo none2 w w.drew:=Jf6 w
      simp only [Array.toList_append] at hu
      rw [List.append_assoc] at hc hu
      by_cases h1:k < n * P.cellsOf e
      ·rw [List.getElem?_append_left (by rw [List.length_take];omega),List.getElem?_take,if_pos h1] at hc
       rw [List.getElem?_append_left (by simp only [List.length_take, Array.length_toList] at *; omega)] at hu
       rw [List.getElem?_take,if_pos h1] at hu
       exact (hr k c u hc (by simpa using hu)).evo0 hevo
      ·rw [List.getElem?_append_right (by rw [List.length_take];omega),List.length_take,Nat.min_eq_left Om] at hc
       rw [List.getElem?_append_right (by simp only [List.length_take, Array.length_toList] at *; omega)] at hu
       simp only [hol] at hu
       by_cases h2:k - n * P.cellsOf e < m * P.cellsOf e
       ·rw [List.getElem?_append_left (by rw [rl];exact h2)] at hc
        rw [List.getElem?_append_left (by rw [hnl];exact h2)] at hu
        exact (hnrep _ c u hc hu).evo0 hevo
       ·rw [List.getElem?_append_right (by rw [rl];omega)] at hc
        have:=List.mem_of_getElem? hc
        rw [(List.mem_replicate.1 this).2]
        exact .any _)
   refine JR (by rw [ho];intro c h;cases h) ?_
   rw [hexec (by rw [hsv,hxv];exact hr2)]
   refine hn _ _ _ _ (hk2 hm hfit ncap hge) (fun i b h=> by rw [List.getElem?_append_left (List.getElem?_eq_some_iff.1 h).1];exact h) (h3.put o.dst ?_)
   refine .hs _ _ _ _ w.heap.size ?_
   generalize hX:excl X (g++ [w.drew.heap.size]) (E.h.add (cs.take (n * P.cellsOf e)++JO m f'++List.replicate ((ncap - (n+m)) * P.cellsOf e) .any))=X2 at h4
   cases h4 with
   | bp _ _ b' hg'=> exact hg'
theorem Jqx {w:World} {X:Nat→Nat→Prop} {g:List Nat} {i:Id} {b:Nat} (h:Rep w X g (.bp i 0) (.pointer (some ⟨b,0,none⟩))):g[i.2]? =some b:=by
 cases h with
 | bp _ _ b' hg'=> exact hg'
theorem Jgg {o:Oper} {E:Env} {K:Env→Prop} {Kp:AV→Env→Prop} {s x:Operand} {t e:TypeId} {sz szx m:Nat} {f f':Nat→AV}
 (ho:o.op= .call { callee:= .builtin .append,args:= #[s,x],argTypes:= #[t,t]}) (hs:E.ev s= .os sz 0 f none)
 (hx:E.ev x= .sl szx m f'∨∃oj,E.ev x= .os szx m f' oj)
 (ht:P.underlying t=some (.slice e)) (hg:Jbm P e=true) (hszx:szx=P.cellsOf e) (hm:m≠0) (hone:JcW m f')
 (hroom:m * P.bytesOf e≤140737488355328) (hlen:m≤9223372036854775807)
 (hk2:∀ncap,m≤ncap→K (({ E with h:=E.h.add (JO m f'++List.replicate ((ncap - m) * P.cellsOf e) .any)}:Env).set o.dst (.hs (E.h.nn,E.h.nx) 0 m ncap))):AOp P o E K Kp:=by
 intro ro X M w0 a w g hst next Q hn hpan
 obtain ⟨inf,z,hi,hz,hzs,hsi,hpos,hby⟩:=Jfa hg
 subst hszx
 have hxr:Rep w (excl X g E.h) g (.sl (P.cellsOf e) m f') (a.eval x):=by
  have:=hst.ev x
  rcases hx with hx | ⟨oj,hx⟩
  ·rw [hx] at this;exact this
  ·rw [hx] at this;exact Jc9 this
 have hexec:∀ {u:Value} {w':World},(Builtin.append_ #[t,t] o.type #[a.eval s,a.eval x]).run P w= .ok u w'→(execOp a.eval o).run P w= .ok (.value u) w':=by
  intro u w' h
  unfold execOp
  simp only [ho,resolve]
  simp [invoke,builtin,h]
 obtain ⟨ax,xcap,news,hxv,hnl,hncell,hncs,hnr⟩:=JhV hxr hm
 have hnrep:=Jom hpos hnl hncs hnr
 obtain ⟨rl,rg⟩:=JdD hncs
 have hrun:∃ncap,m≤ncap∧(Builtin.append_ #[t,t] o.type #[a.eval s,a.eval x]).run P w= .ok (.slice (some ⟨w.heap.size,0,none⟩) m ncap) (w.drew.alloc (.cells (news.toArray++Builtin.zeroCells z.cells (ncap - m)) e)):=by
  have hsr:=hst.ev s
  rw [hs] at hsr
  rw [hxv]
  generalize a.eval s=us at hsr
  have key:∀ad:Option Addr,us= .slice ad 0 0→∃ncap,m≤ncap∧(Builtin.append_ #[t,t] o.type #[us, .slice (some ax) m xcap]).run P w= .ok (.slice (some ⟨w.heap.size,0,none⟩) m ncap) (w.drew.alloc (.cells (news.toArray++Builtin.zeroCells z.cells (ncap - m)) e)):=by
   rintro ad rfl
   cases ad with
   | none=> exact ⟨_,grownCap_ge w m 0 e,run_append_nil (P:=P) w t o.type e inf z ht hi hz ax m xcap news (by rw [hnl,hsi]) hncell Om Om (by rw [hby];omega)⟩
   | some ad=>
     have hr:=run_append_grow (P:=P) w t o.type e inf z ht hi hz ad 0 0 [] (by simp) (by simp) ax m xcap news (by rw [hnl,hsi]) hncell Om Om (growslice_fits Om (by rw [hby,Nat.zero_add];exact hroom))
     rw [Nat.zero_add] at hr
     exact ⟨_,grownCap_ge w m 0 e,by simpa using hr⟩
  cases hsr with
  | os0 _ _ ad=> exact key ad rfl
  | osn _ _ _ b off vs=> exact key _ rfl
 obtain ⟨ncap,hnc,hr⟩:=hrun
 obtain ⟨h3,h4⟩:=hst.drew.box (cs:=JO m f'++List.replicate ((ncap - m) * P.cellsOf e) .any) (vs:=news.toArray++Builtin.zeroCells z.cells (ncap - m)) e
  (by simp only [Array.toList_append,List.length_append,Array.length_toList,size_zeroCells,hzs,List.length_replicate,rl,hnl])
  (fun k c u hc hu=> by
    simp only [Array.toList_append] at hu
    by_cases h2:k < m * P.cellsOf e
    ·rw [List.getElem?_append_left (by rw [rl];exact h2)] at hc
     rw [List.getElem?_append_left (by rw [hnl];exact h2)] at hu
     exact (hnrep _ c u hc hu).evo0 (Jf6 w)
    ·rw [List.getElem?_append_right (by rw [rl];omega)] at hc
     have:=List.mem_of_getElem? hc
     rw [(List.mem_replicate.1 this).2]
     exact .any _)
 refine JR (by rw [ho];intro c h;cases h) ?_
 rw [hexec hr]
 exact hn _ _ _ _ (hk2 ncap hnc) (fun i b h=> by rw [List.getElem?_append_left (List.getElem?_eq_some_iff.1 h).1];exact h) (h3.put o.dst (.hs _ _ _ _ w.heap.size (Jqx h4)))
theorem Jng {o:Oper} {E:Env} {K:Env→Prop} {Kp:AV→Env→Prop} {s x:Operand} {t e:TypeId} {sz m:Nat} {f:Nat→AV} {tn:TypeId} {kn kq:IntKind}
 (ho:o.op= .call { callee:= .builtin .append,args:= #[s,x],argTypes:= #[t,tn]}) (hs:E.ev s= .os sz 0 f none)
 (hx:E.ev x= .v (.int kq m)) (hm:m≠0) (htn:P.underlying tn=some (.int kn)) (ht:P.underlying t=some (.slice e)) (hg:Jbm P e=true)
 (hroom:m * P.bytesOf e≤140737488355328) (hlen:m≤9223372036854775807)
 (hk2:∀ncap,m≤ncap→K (({ E with h:=E.h.add (List.replicate (ncap * P.cellsOf e) .any)}:Env).set o.dst (.hs (E.h.nn,E.h.nx) 0 m ncap))):AOp P o E K Kp:=by
 intro ro X M w0 a w g hst next Q hn hpan
 obtain ⟨inf,z,hi,hz,hzs,hsi,hpos,hby⟩:=Jfa hg
 have hxv:a.eval x= .int kq m:=by
  have:=hst.ev x
  rw [hx] at this
  generalize a.eval x=u at this
  cases this;rfl
 have hexec:∀ {u:Value} {w':World},(Builtin.append_ #[t,tn] o.type #[a.eval s,a.eval x]).run P w= .ok u w'→(execOp a.eval o).run P w= .ok (.value u) w':=by
  intro u w' h
  unfold execOp
  simp only [ho,resolve]
  simp [invoke,builtin,h]
 have hrun:∃ncap,m≤ncap∧(Builtin.append_ #[t,tn] o.type #[a.eval s,a.eval x]).run P w= .ok (.slice (some ⟨w.heap.size,0,none⟩) m ncap) (w.drew.alloc (.cells (([]:List Value).toArray++Builtin.zeroCells z.cells m++Builtin.zeroCells z.cells (ncap - m)) e)):=by
  have hsr:=hst.ev s
  rw [hs] at hsr
  rw [hxv]
  generalize a.eval s=us at hsr
  have key:∀ad:Option Addr,us= .slice ad 0 0→∃ncap,m≤ncap∧(Builtin.append_ #[t,tn] o.type #[us, .int kq m]).run P w= .ok (.slice (some ⟨w.heap.size,0,none⟩) m ncap) (w.drew.alloc (.cells (([]:List Value).toArray++Builtin.zeroCells z.cells m++Builtin.zeroCells z.cells (ncap - m)) e)):=by
   rintro ad rfl
   have hr:=Go.Lib.run_append_grow_zeros (P:=P) w t tn o.type e inf z kq kn ht htn hi hz ad 0 0 [] (by cases ad with
    | none=> simp [Builtin.firstCells]
    | some a0=> simpa using run_firstCells_some (P:=P) w.drew inf.size 0 a0 0 0 [] (by simp) (by simp)) m Om Om Om Om (by rw [hby];omega) (growslice_fits Om (by rw [hby,Nat.zero_add];exact hroom))
   rw [Nat.zero_add] at hr
   exact ⟨_,grownCap_ge w m 0 e,hr⟩
  cases hsr with
  | os0 _ _ ad=> exact key ad rfl
  | osn _ _ _ b off vs=> exact key _ rfl
 obtain ⟨ncap,hnc,hr⟩:=hrun
 obtain ⟨h3,h4⟩:=hst.drew.box (cs:=List.replicate (ncap * P.cellsOf e) .any) (vs:=([]:List Value).toArray++Builtin.zeroCells z.cells m++Builtin.zeroCells z.cells (ncap - m)) e
  (by
    simp only [Array.toList_append,List.length_append,Array.length_toList,size_zeroCells,hzs,List.length_replicate,List.length_nil,Nat.zero_add,← Nat.add_mul]
    congr 1;omega)
  (fun k c u hc hu=> by
    have:=List.mem_of_getElem? hc
    rw [(List.mem_replicate.1 this).2]
    exact .any _)
 refine JR (by rw [ho];intro c h;cases h) ?_
 rw [hexec hr]
 exact hn _ _ _ _ (hk2 ncap hnc) (fun i b h=> by rw [List.getElem?_append_left (List.getElem?_eq_some_iff.1 h).1];exact h) (h3.put o.dst (.hs _ _ _ _ w.heap.size (Jqx h4)))
theorem JpW {o:Oper} {E:Env} {t e:TypeId} {x hi:Operand} {n l cap:Nat} {i:Id} {k':IntKind} {d:TypeDesc} (ho:o.op= .slice t x none (some hi) none) (hx:E.ev x= .hs i 0 n cap)
 (hhi:E.ev hi= .v (.int k' (l:Int))) (ht:P.underlying t=some (.slice e)) (hd:P.underlying e=some d) (hl:l≤cap) (hc:0 < cap):Yields P o E (.hs i 0 l cap):=by
 refine ⟨(by rw [ho];intro c hc;cases hc),fun ρ w X g hk hr=> .inl ?_⟩
 have r1:=hr x (by rw [ho];simp [Op.operands])
 have r3:=hr hi (by rw [ho];simp [Op.operands])
 rw [hx] at r1;rw [hhi] at r3
 have e3:=JS r3
 generalize hu:ρ x=u at r1
 cases r1 with
 | hs _ _ _ _ b hgb=>
   have hN:(Instr.sliceBounds true n cap none (some (.int k' (l:Int))) none).run P w= .ok (0,l,cap) w:=by
    have e5:(0:Int)≤(l:Int):=by omega
    have e6:(l:Int)≤(cap:Int):=by omega
    simp [Instr.sliceBounds,Instr.sliceBound,asIntOf,hl]
   have hcl:¬cap=0:=by omega
   refine ⟨.slice (some ⟨b,0,none⟩) l cap,w, ?_,Evo.refl _ _, .hs _ _ _ _ b hgb⟩
   unfold execOp
   simp only [ho,hu,Option.map_some,e3,Option.map_none]
   refine Jci ?_
   simp [Instr.sliceAt,Sem.run_bind,run_underlying ht,Result.andThen_ok,Instr.slice,hN,JL hd,Sem.run_pure,Jak,hcl]
theorem Jon {o:Oper} {E:Env} {K:Env→Prop} {Kp:AV→Env→Prop} {t e:TypeId} {x hi:Operand} {n l cap:Nat} {i:Id} {k':IntKind} {d:TypeDesc} (ho:o.op= .slice t x none (some hi) none) (hx:E.ev x= .hs i 0 n cap)
 (hhi:E.ev hi= .v (.int k' (l:Int))) (ht:P.underlying t=some (.slice e)) (hd:P.underlying e=some d) (hl:l≤cap) (hc:0 < cap) (hk:K (E.set o.dst (.hs i 0 l cap))):AOp P o E K Kp:=
 AOp.of_yields (JpW ho hx hhi ht hd hl hc) hk
end Go.Vl

namespace Go.Vl
open Go.RowKit
variable {P:Program}
theorem Jma {w:World} {X:Nat→Nat→Prop} {g:List Nat} {sz:Nat} {f:Nat→AV} {u:Value} (h:Rep w X g (.os sz 0 f none) u):∃ad,u= .slice ad 0 0:=by
 cases h with
 | os0 _ _ ad=> exact ⟨ad,rfl⟩
 | osn _ _ _ b off vs=> exact ⟨_,rfl⟩
theorem JjE {o:Oper} {E:Env} {K:Env→Prop} {Kp:AV→Env→Prop} {x:Operand} {t e:TypeId} {sz:Nat} {f:Nat→AV} (ho:o.op= .call { callee:= .builtin .cap,args:= #[x],argTypes:= #[t]})
 (hx:E.ev x= .os sz 0 f none) (ht:P.underlying t=some (.slice e)) (hk:K (E.set o.dst (.v (.int .i64 0)))):AOp P o E K Kp:=by
 refine AOp.of_yields (r:= .v (.int .i64 0)) ⟨(by rw [ho];intro c hc;cases hc),fun ρ w X g hk hr=> .inl ?_⟩ hk
 have r1:=hr x (by rw [ho];simp [Op.operands,Call.operands])
 rw [hx] at r1
 obtain ⟨ad,hu⟩:=Jma r1
 refine ⟨.int .i64 0,w, ?_,Evo.refl _ _, .v _⟩
 unfold execOp
 simp only [ho,resolve]
 simp [invoke,builtin,hu,Builtin.cap_,run_underlying ht,goInt]
theorem Jvn {o:Oper} {E:Env} {K:Env→Prop} {Kp:AV→Env→Prop} {t e:TypeId} {x hi:Operand} {sz:Nat} {f:Nat→AV} {k':IntKind} {d:TypeDesc} (ho:o.op= .slice t x none (some hi) none) (hx:E.ev x= .os sz 0 f none)
 (hhi:E.ev hi= .v (.int k' 0)) (ht:P.underlying t=some (.slice e)) (hd:P.underlying e=some d) (hk:K (E.set o.dst (.os sz 0 f none))):AOp P o E K Kp:=by
 refine AOp.of_yields (r:= .os sz 0 f none) ⟨(by rw [ho];intro c hc;cases hc),fun ρ w X g hk hr=> .inl ?_⟩ hk
 have r1:=hr x (by rw [ho];simp [Op.operands])
 have r3:=hr hi (by rw [ho];simp [Op.operands])
 rw [hx] at r1;rw [hhi] at r3
 have e3:=JS r3
 obtain ⟨ad,hu⟩:=Jma r1
 have hN:(Instr.sliceBounds true 0 0 none (some (.int k' 0)) none).run P w= .ok (0,0,0) w:=by
  simp [Instr.sliceBounds,Instr.sliceBound,asIntOf]
 cases ad with
 | none=>
   refine ⟨.slice none 0 0,w, ?_,Evo.refl _ _, .os0 _ _ _⟩
   unfold execOp
   simp only [ho,hu,Option.map_some,e3,Option.map_none]
   refine Jci ?_
   simp [Instr.sliceAt,Sem.run_bind,run_underlying ht,Result.andThen_ok,Instr.slice,hN,JL hd,Sem.run_pure,Jak]
 | some ad=>
   refine ⟨.slice (some ad) 0 0,w, ?_,Evo.refl _ _, .os0 _ _ _⟩
   unfold execOp
   simp only [ho,hu,Option.map_some,e3,Option.map_none]
   refine Jci ?_
   simp [Instr.sliceAt,Sem.run_bind,run_underlying ht,Result.andThen_ok,Instr.slice,hN,JL hd,Sem.run_pure,Jak]
end Go.Vl

namespace Go.Vl
variable {P:Program}
theorem Jgz {o:Oper} {E:Env} {K:Env→Prop} {Kp:AV→Env→Prop} {fo:Operand} {args:Array Operand} {tys:Array TypeId} {f:FuncId} {first caps xs:List AV} {h1:Heap} {Q:AV→Heap→Prop} {bx1:List (Id×Own)} {pm1:List (Id×Nat)}
 (rb:List (Id×Own)) (rp:List (Id×Nat)) (nn:Nat) (ho:o.op= .call { callee:= .value fo,args:=args,argTypes:=tys}) (hf:E.ev fo= .fn (.func f) first caps) (hbx:E.h.bx=bx1++rb) (hpm:E.h.pm=rp++pm1)
 (hl:LeL (first++args.toList.map E.ev++caps) xs) (hc:ECall P f xs h1 Q) (hbl:BxLe bx1 h1.bx) (hpe:PmEq pm1 h1.pm) (hn:h1.nx=E.h.nx)
 (hk:∀r h',Q r h'→K (({ E with h:=⟨h'.bx++rb,rp++h'.pm,h'.nx,nn⟩}:Env).set o.dst r)):AOp P o E K Kp:=by
 have h2:ECall P f xs ⟨bx1,pm1,h1.nx,h1.nn⟩ Q:=hc.tell hbl hpe rfl
 have h3:=(ECall.frame (h:=E.h) h2 rb rp (by rw [hbx]) (by rw [hpm];exact List.perm_append_comm) hn).args hl
 refine JeS ho hf h3 fun r h' hq=> ?_
 obtain ⟨h1',q1,rfl⟩:=hq
 exact ⟨r,⟨h1'.bx++rb,rp++h1'.pm,h1'.nx,nn⟩,Rf,⟨.refl _,List.perm_append_comm.map _,rfl⟩,hk r h1' q1⟩
theorem AVle.fn_caps {f:Fn} {cs ds:List AV} (h:LeL cs ds):AVle (.fn f [] cs) (.fn f [] ds):=by
 intro w X g u hr
 cases hr with
 | fn _ _ _ v1 v2 n1 n2 r1 r2=>
   refine .fn _ _ _ v1 v2 n1 (n2.trans h.get.1) r1 ?_
   intro k c u hc hu
   have hk:k < cs.length:=by rw [h.get.1];exact (List.getElem?_eq_some_iff.1 hc).1
   exact h.get.2 k _ c (List.getElem?_eq_getElem hk) hc w X g u (r2 k _ u (List.getElem?_eq_getElem hk) hu)
theorem Jmb {ops:Array Oper} {o:Oper} {E E':Env} {j:Nat} {want:Bool} {x:Option Bool} (hg:o.guard=some (j,want)) (ht:∀k,k∈o.looksAt ops→E'.t k=E.t k) (h:agb (agd ops E j)=some x):agb (agd ops E' j)=some x:=by
 unfold agd at h⊢
 cases hd:(ops[j]?).bind (·.dst) with
 | none=> simp [hd,agb] at h
 | some d=> simp only [hd] at h⊢;rw [ht d (Jfk hg hd)];exact h
theorem JiH {ops:Array Oper} {B:List (Id×Own)} {o:Oper} {E:Env} {j:Nat} {want c:Bool} (hg:o.guard=some (j,want)) (hd:agb (agd ops E j)=some (some c)) (hc:(c ==want)=false):PureAll P ops B o E (.v undef):=fun E' _ ht=> by
 unfold GY
 simp only [hg]
 exact ⟨some c,Jmb hg ht hd, .inr ⟨(fun h=> by rw [Option.some.inj h,beq_self_eq_true] at hc;cases hc),trivial⟩⟩
theorem Jek {ops:Array Oper} {B:List (Id×Own)} {o:Oper} {E:Env} {j:Nat} {want c:Bool} {C:Option Prop} {r:AV} (hg:o.guard=some (j,want)) (hd:agb (agd ops E j)=some (some c)) (hc:(c ==want)=true)
 (hp:Jbp P o.op { E with h:=⟨B, [],0,0⟩}=some (C,r)) (hC:Jao C):PureAll P ops B o E r:=fun E' hb ht=> by
 unfold GY
 simp only [hg]
 exact ⟨some c,Jmb hg ht hd, .inl ⟨by rw [beq_iff_eq.1 hc],JbV (JeC (E:= { E with h:=⟨B, [],0,0⟩}) (E':=E') hb (Jcs (E:= { E with h:=⟨B, [],0,0⟩}) ht) hp) hC⟩⟩
end Go.Vl

namespace Go.Vl
open Go.RowKit
variable {P:Program}
section
variable {α:Type} [Inhabited α]
def Jal (E:α→List AV) (d:Array α) (tl:List AV):List AV:=d.toList.flatMap E++tl
omit [Inhabited α] in
theorem JdF {E:α→List AV} {k:Nat} (hk:∀x,(E x).length=k):∀l:List α,(l.flatMap E).length=l.length * k
 | []=> by simp
 | x::l=> by rw [List.flatMap_cons,List.length_append,hk,JdF hk l,List.length_cons,Nat.succ_mul];omega
omit [Inhabited α] in
theorem Jhp {E:α→List AV} {k:Nat} (hk:∀x,(E x).length=k) {d:Array α} {tl:List AV}:(Jal E d tl).length=d.size * k+tl.length:=by
 unfold Jal;rw [List.length_append,JdF hk];simp
omit [Inhabited α] in
theorem Jmc {E:α→List AV} {k:Nat} (hk:∀x,(E x).length=k) {tl:List AV}:∀(l:List α) (i:Nat) (h:i < l.length),((l.flatMap E++tl).drop (i * k)).take k=E l[i]
 | [],i,h=> by cases h
 | x::l,0,_=> by
   rw [List.flatMap_cons,List.append_assoc,Nat.zero_mul,List.drop_zero,List.take_append_of_le_length (by rw [hk];exact Nat.le_refl _),List.take_of_length_le (by rw [hk];exact Nat.le_refl _)];rfl
 | x::l,i+1,h=> by
   have e:(E x++(l.flatMap E++tl)).drop ((i+1) * k)=(l.flatMap E++tl).drop (i * k):=by
    rw [List.drop_append,List.drop_of_length_le (by rw [hk,Nat.succ_mul];omega),hk,Nat.succ_mul,Nat.add_sub_cancel];rfl
   rw [List.flatMap_cons,List.append_assoc,e]
   exact Jmc hk l i (by simpa using h)
theorem Joo {E:α→List AV} {k:Nat} (hk:∀x,(E x).length=k) {d:Array α} {tl:List AV} {i:Nat} (hi:i < d.size):((Jal E d tl).drop (i * k)).take k=E d[i]! :=by
 unfold Jal
 rw [Jmc hk d.toList i (by simpa using hi)]
 simp [hi]
omit [Inhabited α] in
theorem JfM {a b vs:List AV} {off:Nat}:Jas (a++b) (a.length+off) vs=a++Jas b off vs:=by
 rw [JaV,JaV,List.take_append,List.drop_append]
 have h1:a.take (a.length+off)=a:=List.take_of_length_le Om
 have h2:a.drop (a.length+off+vs.length)= []:=List.drop_of_length_le Om
 rw [h1,h2,show a.length+off - a.length=off by omega,show a.length+off+vs.length - a.length=off+vs.length by omega]
 simp
omit [Inhabited α] in
theorem Jh5 {a b vs:List AV} (h:a.length=vs.length):Jas (a++b) 0 vs=vs++b:=by
 rw [JaV,Nat.zero_add,← h,List.drop_left']
 ·simp
 ·rfl
omit [Inhabited α] in
theorem Jmd {E:α→List AV} {k:Nat} (hk:∀x,(E x).length=k) {tl:List AV} {x:α}:∀(l:List α) (i:Nat),i < l.length→Jas (l.flatMap E++tl) (i * k) (E x)=(l.set i x).flatMap E++tl
 | [],i,h=> by cases h
 | y::l,0,_=> by
   rw [List.flatMap_cons,List.append_assoc,Nat.zero_mul,Jh5 (by rw [hk,hk])];simp [List.flatMap_cons]
 | y::l,i+1,h=> by
   rw [List.flatMap_cons,List.append_assoc,Nat.succ_mul,Nat.add_comm,show k+i * k=(E y).length+i * k by rw [hk],JfM,Jmd hk l i (by simpa using h)]
   simp [List.flatMap_cons]
omit [Inhabited α] in
theorem Jop {E:α→List AV} {k:Nat} (hk:∀x,(E x).length=k) {d:Array α} {tl:List AV} {i:Nat} {x:α} (hi:i < d.size):Jas (Jal E d tl) (i * k) (E x)=Jal E (d.setIfInBounds i x) tl:=by
 unfold Jal
 rw [Jmd hk _ _ (by simpa using hi)]
 simp
omit [Inhabited α] in
theorem Jln {E:α→List AV} {k:Nat} (hk:∀x,(E x).length=k) {d:Array α} {tl:List AV} {i:Nat} (hi:i < d.size):i * k+k≤(Jal E d tl).length:=by
 rw [Jhp hk,← Nat.succ_mul]
 exact Nat.le_trans (Nat.mul_le_mul_right k hi) (Nat.le_add_right _ _)
theorem Jhq {x:Int} {i c k:Nat} (hc:c=k) (h:x=(i:Int)):0+x.toNat * c=i * k:=by subst hc;subst h;simp
theorem Jhr {E:α→List AV} {k:Nat} (hk:∀x,(E x).length=k) {h:Heap} {t:TypeId} {nm s off j:Nat} {d:Array α} {tl:List AV} (hcs:JbG nm h.bx=some (s,Jal E d tl)) (ht:(P.underlying t).map agD=some true) (hn:P.cellsOf t=k) (hoff:off=j * k) (hj:j < d.size):
 JdP P t h (.bp (nm,s) off)=some (some (s=s), .ag (E d[j]!)):=by
 subst hoff
 obtain ⟨td,ht,ha⟩:=Option.map_eq_some_iff.1 ht
 have hl:Nat.ble (0+k) ((Jal E d tl).drop (j * k)).length=true:=Nat.ble_eq_true_of_le (by rw [List.length_drop];have:=Jln (tl:=tl) hk hj;omega)
 unfold JdP
 simp only [hcs,ht,ha,cond_true,apart,hn,hl,List.drop_zero,Joo hk hj,Option.map_some]
theorem JdU {E:α→List AV} {k:Nat} (hk:∀x,(E x).length=k) {o:Op} {e:Env} {t:TypeId} {p:Operand} {nm s off j:Nat} {d:Array α} {tl:List AV} (ho:o= .load t p) (hp:e.ev p= .bp (nm,s) off) (hoff:off=j * k)
 (hcs:JbG nm e.h.bx=some (s,Jal E d tl)) (ht:(P.underlying t).map agD=some true) (hn:P.cellsOf t=k) (hj:j < d.size):Jbp P o e=some (some (s=s), .ag (E d[j]!)):=by
 rw [ho]
 show JdP P t e.h (e.ev p)=_
 rw [hp]
 exact Jhr hk hcs ht hn hoff hj
theorem JpX {E:α→List AV} {k:Nat} (hk:∀x,(E x).length=k) {o:Oper} {e:Env} {t:TypeId} {p:Operand} {nm s off j:Nat} {d:Array α} {tl:List AV} (ho:o.op= .load t p) (hp:e.ev p= .bp (nm,s) off) (hoff:off=j * k)
 (hcs:JbG nm e.h.bx=some (s,Jal E d tl)) (ht:(P.underlying t).map agD=some true) (hn:P.cellsOf t=k) (hj:j < d.size):Yields P o e (.ag (E d[j]!)):=by
 refine JbV (C:=some (s=s)) ?_ rfl
 rw [ho]
 show JdP P t e.h (e.ev p)=_
 rw [hp]
 exact Jhr hk hcs ht hn hoff hj
theorem Joq {E:α→List AV} {k:Nat} (hk:∀x,(E x).length=k) {ops:Array Oper} {o:Oper} {e:Env} {t:TypeId} {p:Operand} {nm s off j:Nat} {d:Array α} {tl:List AV} (hg:o.guard=none) (ho:o.op= .load t p) (hp:e.ev p= .bp (nm,s) off) (hoff:off=j * k)
 (hcs:JbG nm e.h.bx=some (s,Jal E d tl)) (ht:(P.underlying t).map agD=some true) (hn:P.cellsOf t=k) (hj:j < d.size):PureNow P ops o e (.ag (E d[j]!)):=by
 refine Jtn hg (C:=some (s=s)) ?_ rfl
 rw [ho]
 show JdP P t e.h (e.ev p)=_
 rw [hp]
 exact Jhr hk hcs ht hn hoff hj
omit [Inhabited α] in
theorem Jor {E:α→List AV} {k:Nat} (hk:∀x,(E x).length=k) {ops:Array Oper} {o:Oper} {e:Env} {t:TypeId} {p x:Operand} {nm s off j:Nat} {d:Array α} {tl:List AV} {z:α} (hg:o.guard=none) (ho:o.op= .store t p x) (hd:o.dst=none) (hp:e.ev p= .bp (nm,s) off) (hoff:off=j * k)
 (hx:e.ev x= .ag (E z)) (h1:(E z).all Jcb=true) (h2:JcG (.ag (E z))=true) (hcs:JbG nm e.h.bx=some (s,Jal E d tl)) (ht:(P.underlying t).isSome=true) (hn:P.cellsOf t=k) (hj:j < d.size):
 Eff P ops [] o e fun _ h'=> h'= { e.h with bx:=JgK nm (Jal E (d.setIfInBounds j z) tl) e.h.bx}:=by
 subst hoff
 have hcl:(AV.ag (E z)).cells=E z:=rfl
 have q:=Jl8 (P:=P) (ops:=ops) (B:= []) (E:=e) (cs:=Jal E d tl) (i:=(nm,s)) hg ho hd hp hcs (by rw [hx];exact h2) (by rw [hx,hcl];exact h1) ht (by rw [hx,hcl,hk,hn];exact Nat.beq_refl _) (by rw [hx,hcl,hk];exact Jln hk hj) (fun _ _ _ h=> by cases h)
 rw [hx,hcl,Jop hk hj] at q
 exact q
omit [Inhabited α] in
theorem Jrr {E:α→List AV} {k:Nat} (hk:∀x,(E x).length=k) {o:Oper} {e:Env} {K:Env→Prop} {Kp:AV→Env→Prop} {t:TypeId} {p x:Operand} {nm s off j:Nat} {d:Array α} {tl:List AV} {z:α} (ho:o.op= .store t p x) (hd:o.dst=none) (hp:e.ev p= .bp (nm,s) off) (hoff:off=j * k)
 (hx:e.ev x= .ag (E z)) (h1:(E z).all Jcb=true) (h2:JcG (.ag (E z))=true) (hcs:JbG nm e.h.bx=some (s,Jal E d tl)) (ht:(P.underlying t).isSome=true) (hn:P.cellsOf t=k) (hj:j < d.size)
 (hK:K { e with h:= { e.h with bx:=JgK nm (Jal E (d.setIfInBounds j z) tl) e.h.bx}}):AOp P o e K Kp:=by
 subst hoff
 have hcl:(AV.ag (E z)).cells=E z:=rfl
 refine AOp.any (JhU ho hp hcs (by rw [hx];exact h2) (by rw [hx,hcl];exact h1) ht (by rw [hx,hcl,hk,hn];exact Nat.beq_refl _) (by rw [hx,hcl,hk];exact Jln hk hj) ?_)
 rw [hx,hcl,Jop hk hj,hd]
 exact hK
end
theorem Jh6 {o:Oper} {E:Env} {t e:TypeId} {x lo:Operand} {n l cap:Nat} {i:Id} {k':IntKind} {d:TypeDesc} (ho:o.op= .slice t x (some lo) none none) (hx:E.ev x= .hs i 0 n cap)
 (hlo:E.ev lo= .v (.int k' (l:Int))) (ht:P.underlying t=some (.slice e)) (hd:P.underlying e=some d) (hl:l≤n) (hn:n≤cap) (hc:l < cap):Yields P o E (.hs i (l * P.cellsOf e) (n - l) (cap - l)):=by
 refine ⟨(by rw [ho];intro c hc;cases hc),fun ρ w X g hk hr=> .inl ?_⟩
 have r1:=hr x (by rw [ho];simp [Op.operands])
 have r3:=hr lo (by rw [ho];simp [Op.operands])
 rw [hx] at r1;rw [hlo] at r3
 have e3:=JS r3
 generalize hu:ρ x=u at r1
 cases r1 with
 | hs _ _ _ _ b hgb=>
   have hN:(Instr.sliceBounds true n cap (some (.int k' (l:Int))) none none).run P w= .ok (l,n,cap) w:=by
    have e5:(0:Int)≤(l:Int):=by omega
    have e6:(l:Int)≤(n:Int):=by omega
    simp [Instr.sliceBounds,Instr.sliceBound,asIntOf,hl,hn]
   have hcl:¬cap=l:=by omega
   refine ⟨.slice (some ⟨b,l * P.cellsOf e,none⟩) (n - l) (cap - l),w, ?_,Evo.refl _ _, .hs _ _ _ _ b hgb⟩
   unfold execOp
   simp only [ho,hu,Option.map_some,e3,Option.map_none]
   refine Jci ?_
   simp [Instr.sliceAt,Sem.run_bind,run_underlying ht,Result.andThen_ok,Instr.slice,hN,JL hd,Sem.run_pure,Jak,hcl]
theorem Jrs {o:Oper} {E:Env} {K:Env→Prop} {Kp:AV→Env→Prop} {s:Operand} {t e:TypeId} {i:Id} {off n cap:Nat} {cs:List AV} {z:Value}
 (ho:o.op= .call { callee:= .builtin .clear,args:= #[s],argTypes:= #[t]}) (hd:o.dst=none) (hs:E.ev s= .hs i off n cap) (hn:n≠0)
 (ht:P.underlying t=some (.slice e)) (hz:(P.info? e).bind (·.zero)=some z) (hsz:z.cells.size=P.cellsOf e) (h1:z.cells.all (·.oneCell')=true)
 (hcs:JbG i.1 E.h.bx=some (i.2,cs)) (hle:off+n * P.cellsOf e≤cs.length)
 (hk:K { E with h:= { E.h with bx:=JgK i.1 (Jas cs off (List.replicate (n * P.cellsOf e) .any)) E.h.bx}}):AOp P o E K Kp:=by
 intro ro X M w0 a w g hst next Q hn' hpan
 have hmem:=Jf5 hcs
 obtain ⟨b,hg,vs,e',hb,hvs,hr⟩:=hst.hok.bx _ hmem
 dsimp only at hg hvs hr
 have hsv:a.eval s= .slice (some ⟨b,off,none⟩) n cap:=by
  have:=hst.ev s
  rw [hs] at this
  generalize a.eval s=u at this
  cases this with
  | hs _ _ _ _ b' hg'=> rw [hg] at hg';cases hg';rfl
 have hnl:(Builtin.zeroCells z.cells n).toList.length=n * P.cellsOf e:=by rw [Array.length_toList,size_zeroCells,hsz]
 have hone:∀v∈(Builtin.zeroCells z.cells n).toList,v.oneCell'=true:=by
  intro v hv
  rw [Builtin.zeroCells,Array.toList_map,List.mem_map] at hv
  obtain ⟨j,hj,rfl⟩:=hv
  have hpos:0 < z.cells.size:=by
   rcases Nat.eq_zero_or_pos z.cells.size with h0 | h0
   ·rw [h0] at hj;simp at hj
   ·exact h0
  have hm:=Nat.mod_lt j hpos
  have e2:z.cells[j % z.cells.size]! =z.cells[j % z.cells.size]:=by simp [hm]
  rw [e2]
  exact Array.all_eq_true.1 h1 _ hm
 have hst2:=run_storeCells_at P b off e' (Builtin.zeroCells z.cells n).toList 0 vs w hb (by rw [hnl,Nat.add_zero];simpa [hvs] using hle) hone
 simp only [Nat.add_zero] at hst2
 obtain ⟨m,rfl⟩:∃m,n=m+1:=⟨n - 1,by omega⟩
 have hrun:(execOp a.eval o).run P w= .ok (.value (.tuple #[])) (w.setRow b (vs.toList.take off++(Builtin.zeroCells z.cells (m+1)).toList++vs.toList.drop (off+(Builtin.zeroCells z.cells (m+1)).toList.length)).toArray):=by
  have hcl:(Builtin.clear_ #[t] o.type #[.slice (some ⟨b,off,none⟩) (m+1) cap]).run P w= .ok (.tuple #[]) (w.setRow b (vs.toList.take off++(Builtin.zeroCells z.cells (m+1)).toList++vs.toList.drop (off+(Builtin.zeroCells z.cells (m+1)).toList.length)).toArray):=by
   simp only [Builtin.clear_]
   simp [run_underlying ht,Jbl hz,hst2]
  unfold execOp
  simp only [ho,resolve]
  simp [invoke,builtin,hsv,hcl]
 have hnew:=hst.setRow (cs:=Jas cs off (List.replicate ((m+1) * P.cellsOf e) .any)) (vs:=(vs.toList.take off++(Builtin.zeroCells z.cells (m+1)).toList++vs.toList.drop (off+(Builtin.zeroCells z.cells (m+1)).toList.length)).toArray) hcs hg hb
  (by simp only [JaV,List.length_append,List.length_take,List.length_drop,List.length_replicate,hnl];simp only [Array.length_toList];omega)
  (by simp only [List.size_toArray,List.length_append,List.length_take,List.length_drop,hnl];simp only [Array.length_toList];omega)
  (fun k c u hk1 hk2=> by
    simp only [List.append_assoc] at hk2
    rw [Jda _ _ _ (by rw [hnl];simpa [hvs] using hle)] at hk2
    rw [JaV,Jda _ _ _ (by rw [List.length_replicate];exact hle)] at hk1
    rw [hnl] at hk2
    rw [List.length_replicate] at hk1
    split at hk1
    ·rename_i h2;rw [if_pos h2] at hk2;exact hr k c u hk1 (by simpa using hk2)
    ·rename_i h2
     rw [if_neg h2] at hk2
     split at hk1
     ·rw [(List.mem_replicate.1 (List.mem_of_getElem? hk1)).2];exact .any _
     ·rename_i h3;rw [if_neg h3] at hk2;exact hr k c u hk1 (by simpa using hk2))
 refine JR (by rw [ho];intro c h;cases h) ?_
 rw [hrun]
 refine hn' _ _ _ g ?_ (fun _ _ h=> h) (hnew.put o.dst (.v (.tuple #[])))
 rw [hd]
 exact hk
end Go.Vl

namespace Go.Vl
open Go.RowKit
variable {P:Program}
theorem Jo {E:Env} {n:Nat} {bx:List (Id×Own)} {pm:List (Id×Nat)} {nx nn:Nat} {L:List (Nat×AV)} (bx'' bx':List (Id×Own)) (pm':List (Id×Nat)) (hn:E.n=n) (hx:E.h.nx=nx) (h0:bx''.Perm E.h.bx) (hb:bx'.Sublist bx'') (hp:pm'.Sublist E.h.pm)
 (eb:BxLe bx' bx) (ep:PmEq pm' pm) (hL:LeT E.t L):ELe E (mk n L ⟨bx,pm,nx,nn⟩ E.df):=
 (Jf8 (E:=E) (h':=⟨bx'',E.h.pm,E.h.nx,E.h.nn⟩) ⟨h0.map _, .refl _,rfl⟩).trans (Jm (E:= { E with h:=⟨bx'',E.h.pm,E.h.nx,E.h.nn⟩}) bx' pm' hn hx hb hp eb ep hL)
variable {α:Type}
theorem Jme {E:α→List AV} {k:Nat} (hk:∀x,(E x).length=k) {l:List α} {tl:List AV} {x:α} (h:k≤tl.length):Jas (Jal E l.toArray tl) (l.length * k) (E x)=Jal E (l++ [x]).toArray (tl.drop k):=by
 unfold Jal
 have e1:l.length * k=(l.flatMap E).length:=(JdF hk l).symm
 show Jas (l.flatMap E++tl) (l.length * k) (E x)=(l++ [x]).flatMap E++tl.drop k
 rw [e1]
 have:=JfM (a:=l.flatMap E) (b:=tl) (off:=0) (vs:=E x)
 rw [Nat.add_zero] at this
 rw [this,JaV,Nat.zero_add,hk]
 simp
theorem Jmf {E:α→List AV} {k:Nat} (hk:∀x,(E x).length=k) {l:List α} {tl:List AV}:(Jal E l.toArray tl).take (l.length * k)=l.flatMap E:=by
 unfold Jal
 show (l.flatMap E++tl).take (l.length * k)=_
 rw [← JdF hk l,List.take_left]
theorem Jos {E:α→List AV} {l:List α} {x:α} {tl:List AV}:l.flatMap E++E x++tl=Jal E (l++ [x]).toArray tl:=by
 unfold Jal
 simp [List.flatMap_append]
theorem Jhs [Inhabited α] {bs:List (Nat×Own)} {i:Id} {n cap k:Nat} {E:α→List AV} (hk:∀x,(E x).length=k) {e:α→AV} (he:∀x,(e x).cells=E x) {d:α} {l:List α} {tl:List AV} (hn:l.length=n) (hm:(i.2, .c (Jal E l.toArray tl))∈bs) (hcap:n≤cap):
 Frz bs (.hs i 0 n cap) (JT k e d l):=by
 subst hn
 have hle:l.length * k≤(Jal E l.toArray tl).length:=by rw [Jhp hk];simp
 refine Frz.hs hm hcap (.inr (by rw [Nat.zero_add];exact hle)) (fun j _=> by rw [he,hk]) (fun j hj q c hc=> ⟨c, ?_,Rf⟩) (by rw [Nat.zero_add];exact hle)
 rw [he] at hc
 have hq:q < k:=by have:=(List.getElem?_eq_some_iff.1 hc).1;rwa [hk] at this
 have hg:=Joo (E:=E) (tl:=tl) hk (d:=l.toArray) (i:=j) (by simpa using hj)
 have hx:(l.toArray)[j]! =l.getD j d:=by simp [List.getD,hj]
 rw [hx] at hg
 rw [← hg,List.getElem?_take,if_pos hq,List.getElem?_drop] at hc
 rw [Nat.zero_add]
 exact hc
end Go.Vl

namespace Go.Vl
open Go.RowKit
variable {P:Program}
def JbQ (x:Int×Int):Value:= .agg #[.int .i64 x.1, .int .i64 x.2]
def kA (x:Int×Int):AV:= .ag [.v (.int .i64 x.1), .v (.int .i64 x.2)]
def JaD (x:Int×Int):Value×AV:=(JbQ x, .v (.bool true))
theorem Jto {w:World} {X:Nat→Nat→Prop} {g:List Nat} {x:Int×Int} {u:Value} (h:Rep w X g (kA x) u):u=JbQ x:=by
 cases h with
 | ag _ vs hn h=>
   match vs,hn with
   | [a,b],_=>
     have h0:=JS (h 0 _ a rfl rfl)
     have h1:=JS (h 1 _ b rfl rfl)
     subst h0 h1;rfl
theorem Jtp {w:World} {X:Nat→Nat→Prop} {g:List Nat} {x:Int×Int}:Rep w X g (kA x) (JbQ x):=
 .ag [_,_] [_,_] rfl fun k c u hc hu=> by
  match k,hc,hu with
  | 0,hc,hu=> simp at hc hu;subst hc;subst hu;exact .v _
  | 1,hc,hu=> simp at hc hu;subst hc;subst hu;exact .v _
structure PairT (P:Program) (kt e:TypeId):Prop where
 arr:P.underlying kt=some (.array 2 e)
 el:P.underlying e=some (.int .i64)
 sz:P.cellsOf e=1
 ok:aeqOk P 8 kt=true
 p0:∀a:Int×Int,apart P e [.v (.int .i64 a.1), .v (.int .i64 a.2)] 0=some (.v (.int .i64 a.1))
 p1:∀a:Int×Int,apart P e [.v (.int .i64 a.1), .v (.int .i64 a.2)] 1=some (.v (.int .i64 a.2))
 eq:∀a b:Int×Int,aeq P 8 kt (kA a) (kA b)=some (a.1 ==b.1&& (a.2 ==b.2&& true))
theorem Jvo (a b:Int×Int):(a.1 ==b.1&& (a.2 ==b.2&& true))=decide (a=b):=by
 rw [Bool.eq_iff_iff]
 simp [Prod.ext_iff]
theorem PairT.equal {kt e:TypeId} (h:PairT P kt e) (a b:Int×Int) (w:World):(Op.equal kt (JbQ a) (JbQ b)).run P w= .ok (decide (a=b)) w:=by
 rw [← Jvo]
 exact Jgw 8 10000 kt (kA a) (kA b) _ _ _ w (fun _ _=> False) [] Om (h.eq a b) h.ok Jtp Jtp
theorem PairT.checkI {kt e:TypeId} (h:PairT P kt e) (a:Int) (b:Bool) (n:Nat) (w:World):(Instr.checkKey b (n+1) e (.int .i64 a)).run P w= .ok () w:=by
 unfold Instr.checkKey
 simp only [Sem.run_bind,run_underlying h.el,Result.andThen_ok,Sem.run_pure]
theorem PairT.check {kt e:TypeId} (h:PairT P kt e) (a:Int×Int) (b:Bool) (w:World):(Instr.checkKey b 10000 kt (JbQ a)).run P w= .ok () w:=by
 have hsz:=JL (w:=w) h.el
 rw [h.sz] at hsz
 have hr:∀(k:Nat) (c:AV) (u:Value), [AV.v (.int .i64 a.1), .v (.int .i64 a.2)][k]? =some c→ [Value.int .i64 a.1, .int .i64 a.2][k]? =some u→Rep w (fun _ _=> False) [] c u:=fun k c u hc hu=> by
  match k,hc,hu with
  | 0,hc,hu=> simp at hc hu;subst hc;subst hu;exact .v _
  | 1,hc,hu=> simp at hc hu;subst hc;subst hu;exact .v _
 obtain ⟨u0,q0,r0⟩:=Jcg (vs:= [Value.int .i64 a.1, .int .i64 a.2]) (h.p0 a) rfl hr
 obtain ⟨u1,q1,r1⟩:=Jcg (vs:= [Value.int .i64 a.1, .int .i64 a.2]) (h.p1 a) rfl hr
 have:=JS r0;subst this
 have:=JS r1;subst this
 obtain ⟨n,hn⟩:∃n,10000=n+1+1:=⟨9998,rfl⟩
 rw [hn]
 unfold JbQ Instr.checkKey
 simp only [Sem.run_bind,run_underlying h.arr,Result.andThen_ok]
 simp only [Std.Legacy.Range.forIn_eq_forIn_range',Std.Legacy.Range.size,Nat.sub_zero,Nat.add_sub_cancel,Nat.div_one,List.range'_succ,List.range'_zero,List.forIn_cons,List.forIn_nil]
 simp [Sem.run_bind,hsz,q0,q1,h.checkI]
theorem PairT.ask {kt e:TypeId} (h:PairT P kt e) (x:Int×Int) (w:World):∀(es:List (Int×Int)) (ents:List MapEntry) (i:Nat),ents.length=es.length→(∀(k:Nat) (p:Int×Int) (en:MapEntry),es[k]? =some p→ents[k]? =some en→en.key=JbQ p)→
 (x∉es∧(Instr.findAsking kt (JbQ x) ents i).run P w= .ok none w)∨∃j en,ents[j]? =some en∧es[j]? =some x∧(Instr.findAsking kt (JbQ x) ents i).run P w= .ok (some (i+j,en.val)) w
 | [], [],i,_,_=> .inl ⟨by simp,by simp [Instr.findAsking]⟩
 | [],en::ents,i,hn,_=> by simp at hn
 | p::es, [],i,hn,_=> by simp at hn
 | p::es,en::ents,i,hn,hk=> by
   have h0:=hk 0 p en rfl rfl
   unfold Instr.findAsking
   rw [h0]
   simp only [Sem.run_bind,h.equal,Result.andThen_ok]
   by_cases hx:x=p
   ·refine .inr ⟨0,en,rfl,by simp [hx], ?_⟩
    simp [hx]
   ·rcases h.ask x w es ents (i+1) (by simpa using hn) (fun k p' e' h1 h2=> hk (k+1) p' e' (by simpa using h1) (by simpa using h2)) with ⟨h1,h2⟩ | ⟨j,e',h1,h2,h3⟩
    ·refine .inl ⟨by simp [hx,h1], ?_⟩
     simp [hx,h2]
    ·refine .inr ⟨j+1,e',by simpa using h1,by simpa using h2, ?_⟩
     simp [hx,h3];omega
theorem PairT.find {kt e:TypeId} (h:PairT P kt e) (x:Int×Int) (w:World) (es:List (Int×Int)) (ents:List MapEntry) (hn:ents.length=es.length) (hk:∀(k:Nat) (p:Int×Int) (en:MapEntry),es[k]? =some p→ents[k]? =some en→en.key=JbQ p):
 (x∉es∧(Instr.findKey kt (JbQ x) ents).run P w= .ok none w)∨∃j en,ents[j]? =some en∧es[j]? =some x∧(Instr.findKey kt (JbQ x) ents).run P w= .ok (some (j,en.val)) w:=by
 unfold Instr.findKey
 match es,ents,hn,hk with
 | [], [],_,_=> exact .inl ⟨by simp,by simp [Sem.run_bind,run_underlying h.arr,Instr.findNow]⟩
 | p::es,en::ents,hn,hk=>
   have e0:Instr.findNow (.array 2 e) (JbQ x) (en::ents) 0=none:=by simp [Instr.findNow,Instr.sameNow]
   rcases h.ask x w (p::es) (en::ents) 0 hn hk with ⟨h1,h2⟩ | ⟨j,e',h1,h2,h3⟩
   ·exact .inl ⟨h1,by simp only [Sem.run_bind,run_underlying h.arr,Result.andThen_ok,e0,h2]⟩
   ·refine .inr ⟨j,e',h1,h2, ?_⟩
    simp only [Sem.run_bind,run_underlying h.arr,Result.andThen_ok,e0,h3,Nat.zero_add]
theorem JpY {o:Oper} {t kt e et:TypeId} {m k:Operand} {x:Int×Int} {i:Id} {es:List (Int×Int)} {E:Env} {K:Env→Prop} {Kp:AV→Env→Prop} (ho:o.op= .lookup t m k false) (ht:P.underlying t=some (.map kt et)) (hp:PairT P kt e)
 (hz:(P.info? et).bind (·.zero)=some (.bool false)) (hm:E.ev m= .om i) (hkv:E.ev k=kA x) (hes:Jad i.1 E.h.bx=some (i.2, .mp (es.map JaD))) (hK:K (E.set o.dst (.v (.bool (decide (x∈es)))))):AOp P o E K Kp:=by
 refine AOp.of_yields (r:= .v (.bool (decide (x∈es)))) ⟨(by rw [ho];intro c hc;cases hc),fun ρ w X g hk hr=> .inl ?_⟩ hK
 have r1:=hr m (by rw [ho];simp [Op.operands])
 have r2:=hr k (by rw [ho];simp [Op.operands])
 rw [hm] at r1;rw [hkv] at r2
 have e2:=Jto r2
 obtain ⟨b,hgb,hown⟩:=hk.bx _ (JaE hes)
 dsimp only at hgb hown
 obtain ⟨ents,h1,h2,h3⟩:=hown
 have hmv:ρ m= .map (some b):=by
  generalize ρ m=u at r1
  cases r1 with
  | om _ b' hg'=> rw [hgb] at hg';cases hg';rfl
 rw [List.length_map] at h2
 have hkk:∀(k:Nat) (p:Int×Int) (en:MapEntry),es[k]? =some p→ents[k]? =some en→en.key=JbQ p:=fun k p en q1 q2=> (h3 k (JaD p) en (by simp [q1]) q2).1
 have hg:=Jch (P:=P) h1
 refine ⟨.bool (decide (x∈es)),w, ?_,Evo.refl _ _, .v _⟩
 unfold execOp
 simp only [ho,hmv,e2]
 refine Jci ?_
 unfold Instr.lookup
 simp only [Sem.run_bind,run_underlying ht,Result.andThen_ok,hg,Sem.run_pure,hp.check]
 rcases hp.find x w es ents h2 hkk with ⟨hn,hf⟩ | ⟨j,en,q1,q2,hf⟩
 ·have hzz:=Jbl (w:=w) hz
  simp only [hf,Result.andThen_ok,Sem.run_pure]
  simp [hn,Sem.run_bind,hzz]
 ·have hv:=JS (h3 j (JaD x) en (by simp [q2]) q1).2.2
  simp only [hf,Result.andThen_ok,Sem.run_pure]
  simp [hv,List.mem_of_getElem? q2]
def JcY (x:Int×Int) (es:List (Int×Int)):List (Int×Int):=if x∈es then es else es++ [x]
theorem Jlo {t kt e et:TypeId} {x:Int×Int} {es:List (Int×Int)} {w:World} {X:Nat→Nat→Prop} {g:List Nat} {b:Nat} (ht:P.underlying t=some (.map kt et)) (hp:PairT P kt e) (hb:OwnRep w X g b (.mp (es.map JaD))):
 ∃ents':List MapEntry,(Instr.mapUpdate t (.map (some b)) (JbQ x) (.bool true)).run P w= .ok () (World.setO w b (.map ents'.toArray ents'.length))∧ents'.length=((JcY x es).map JaD).length∧
  ∀(k:Nat) (p:Value×AV) (en:MapEntry),((JcY x es).map JaD)[k]? =some p→ents'[k]? =some en→en.key=p.1∧en.born=k∧Rep w X g p.2 en.val:=by
 obtain ⟨ents,h1,h2,h3⟩:=hb
 rw [List.length_map] at h2
 have hkk:∀(k:Nat) (p:Int×Int) (en:MapEntry),es[k]? =some p→ents[k]? =some en→en.key=JbQ p:=fun k p en q1 q2=> (h3 k (JaD p) en (by simp [q1]) q2).1
 have hg:=Jch (P:=P) h1
 rcases hp.find x w es ents h2 hkk with ⟨hn,hf⟩ | ⟨j,e0,q1,q2,hf⟩
 ·refine ⟨ents++ [⟨JbQ x, .bool true,ents.length⟩], ?_,by unfold JcY;rw [if_neg hn];simp [h2],fun k p en r1 r2=> ?_⟩
  ·unfold Instr.mapUpdate
   simp only [Sem.run_bind,run_underlying ht,Result.andThen_ok,hg,hp.check,hf]
   rw [JbU h1]
   simp
  ·unfold JcY at r1
   rw [if_neg hn,List.map_append] at r1
   rcases Nat.lt_or_ge k es.length with hlt | hge
   ·rw [List.getElem?_append_left (by simpa using hlt)] at r1
    rw [List.getElem?_append_left Om] at r2
    exact h3 k p en r1 r2
   ·rw [List.getElem?_append_right (by simpa using hge)] at r1
    rw [List.getElem?_append_right Om] at r2
    have:k=es.length:=by
     have:=(List.getElem?_eq_some_iff.1 r1).1;simp at this;omega
    subst this
    rw [List.length_map,Nat.sub_self] at r1
    rw [h2,Nat.sub_self] at r2
    simp at r1 r2
    subst r1;subst r2
    exact ⟨rfl,rfl, .v _⟩
 ·have hj:j < ents.length:=(List.getElem?_eq_some_iff.1 q1).1
  have hje:ents[j]=e0:=(List.getElem?_eq_some_iff.1 q1).2
  have h0:=h3 j (JaD x) e0 (by simp [q2]) q1
  have hv:=JS h0.2.2
  have hkey:e0.key=JbQ x:=h0.1
  have hmem:x∈es:=List.mem_of_getElem? q2
  refine ⟨ents.set j ⟨JbQ x, .bool true,e0.born⟩, ?_,by unfold JcY;rw [if_pos hmem];simp [h2],fun k p en r1 r2=> ?_⟩
  ·unfold Instr.mapUpdate
   simp only [Sem.run_bind,run_underlying ht,Result.andThen_ok,hg,hp.check,hf]
   have hks:(Instr.keyThatStays (((ents.toArray[j]?).map (·.key)).getD (JbQ x)) (JbQ x)).run P w= .ok (JbQ x) w:=by
    have hsb:Instr.sameBits 10000 (JbQ x) (JbQ x)=true:=by
     obtain ⟨n,hn⟩:∃n,10000=n+1:=⟨9999,rfl⟩
     rw [hn];simp [JbQ,Instr.sameBits]
    simp [q1,hkey,Instr.keyThatStays,hsb]
   simp only [hks,Result.andThen_ok]
   rw [JbU h1]
   congr 2
   simp only [List.length_set]
   congr 1
   apply Array.ext'
   simp only [Array.toList_modify,List.modify_eq_set,Option.map_eq_map]
   rw [List.getElem?_eq_getElem hj]
   simp [hje]
  ·unfold JcY at r1
   rw [if_pos hmem] at r1
   rw [List.getElem?_set] at r2
   by_cases hjk:j=k
   ·subst hjk
    simp [hj] at r2
    subst r2
    have e1:=h3 j p e0 r1 q1
    exact ⟨hkey.symm.trans e1.1,e1.2.1,by
     have:p=JaD x:=by rw [List.getElem?_map,q2] at r1;exact (Option.some.inj r1).symm
     subst this;exact .v _⟩
   ·simp [hjk] at r2
    exact h3 k p en r1 r2
theorem JpZ {o:Oper} {t kt e et:TypeId} {m k v:Operand} {x:Int×Int} {i:Id} {es:List (Int×Int)} {E:Env} {K:Env→Prop} (ho:o.op= .mapUpdate t m k v∨o.op= .insert t m k v) (ht:P.underlying t=some (.map kt et)) (hp:PairT P kt e)
 (hm:E.ev m= .om i) (hkv:E.ev k=kA x) (hv:E.ev v= .v (.bool true)) (hes:Jad i.1 E.h.bx=some (i.2, .mp (es.map JaD)))
 (hK:K (({ E with h:= { E.h with bx:=JaG i.1 (.mp ((JcY x es).map JaD)) E.h.bx}}:Env).set o.dst .any)):AOp P o E K:=by
 intro ro X M w0 a w g hs next Q hn hp'
 obtain ⟨b,hgb,hown⟩:=hs.hok.bx _ (JaE hes)
 dsimp only at hgb hown
 have hmv:a.eval m= .map (some b):=by
  have:=hs.ev m
  rw [hm] at this
  generalize a.eval m=u at this
  cases this with
  | om _ b' hg'=> rw [hgb] at hg';cases hg';rfl
 have hkv':a.eval k=JbQ x:=by
  have:=hs.ev k
  rw [hkv] at this
  exact Jto this
 have hvv:a.eval v= .bool true:=by
  have:=hs.ev v
  rw [hv] at this
  exact JS this
 obtain ⟨ents',h1,h2,h3⟩:=Jlo (x:=x) ht hp hown
 obtain ⟨ents,hb0,_⟩:=hown
 have hev:=JdB (o':= .map ents'.toArray ents'.length) hb0 rfl (fun h=> by cases h)
 have hnew:=hs.setOwn (x:= .mp ((JcY x es).map JaD)) hes hgb hev (fun hst=> ⟨ents',Jc7 hb0,h2,fun k p e q1 q2=> ⟨(h3 k p e q1 q2).1,(h3 k p e q1 q2).2.1,(h3 k p e q1 q2).2.2.stays hst⟩⟩)
 refine JR (by intro c h;rcases ho with ho | ho <;> (rw [ho] at h;cases h)) ?_
 have:(execOp a.eval o).run P w= .ok .skip (World.setO w b (.map ents'.toArray ents'.length)):=by
  unfold execOp
  rcases ho with ho | ho <;> (simp only [ho,hmv,hkv',hvv,Sem.run_bind,h1,Result.andThen_ok,Sem.run_pure])
 rw [this]
 exact hn _ _ _ g hK (fun _ _ h=> h) (hnew.put o.dst (.any _))
end Go.Vl

namespace Go.Vl
variable {P:Program}
theorem Jmg {ops:Array Oper} {B:List (Id×Own)} {o:Oper} {E:Env} {j:Nat} {want c b b':Bool} {C:Option Prop} (hg:o.guard=some (j,want)) (hd:agb (agd ops E j)=some (some c)) (hc:(c ==want)=true)
 (hp:Jbp P o.op { E with h:=⟨B, [],0,0⟩}=some (C, .v (.bool b))) (hC:Jao C) (hb:b=b'):PureAll P ops B o E (.v (.bool b')):=hb ▸ Jek hg hd hc hp hC
end Go.Vl

/- Regions that draw, with two effects that stand in no order: one of them hangs on nothing, and nothing hangs on it. -/
namespace Go.Vl
open Go.RowKit
variable {P:Program}
theorem MixL.mono {ops:Array Oper} {B:List (Id×Own)} {eff:Nat→Bool} {K K':Env→Prop}:∀ {L:List Nat} {E:Env},(∀E,K E→K' E)→MixL P ops B eff L E K→MixL P ops B eff L E K'
 | [],E,hk,h=> hk E h
 | i::l,E,hk,h=> by
   obtain ⟨o,h1,h2⟩:=h
   refine ⟨o,h1, ?_⟩
   cases he:eff i with
   | true=>
     simp only [he] at h2⊢
     obtain ⟨R,q1,q2⟩:=h2
     exact ⟨R,q1,fun r h' hr=> MixL.mono hk (q2 r h' hr)⟩
   | false=>
     simp only [he] at h2⊢
     obtain ⟨r,q1,q2⟩:=h2
     exact ⟨r,q1,MixL.mono hk q2⟩
end Go.Vl

namespace Go.Vl
open Go.RowKit
variable {P:Program}
def Jlp (P:Program) (it:FuncId) (first caps:List AV) {α:Type} (e:α→List AV) (xs:List α) (own:List (Id×Own)):Prop:=
 ∀(i:Id) (σ:Type) (Cb:σ→List (Id×Own)) (Cp:σ→List (Id×Nat)) (I:List α→σ→Prop),JjD P i e xs Cb Cp I (fun _ _ _=> False)→
  ∀s0 nx nn,I [] s0→ECall P it (first++ [.yl i]++caps) ⟨own++Cb s0,Cp s0,nx,nn⟩ (fun _ h'=> ∃s',I xs s'∧h'.bx=Cb s'∧h'.pm=Cp s')
theorem Jqy {gop:Operand} {ps:Array Tmp} {asg body:Code} {E:Env} {Q:AExit→Env→Prop} {it:FuncId} {first caps:List AV} {ds:List DA} {σ α:Type} {e:α→List AV} {xs:List α} {first' caps':List AV} (own:List (Id×Own))
 (Cb:σ→List (Id×Own)) (Cp:σ→List (Id×Nat)) (I:List α→σ→Prop) (s0:σ) (hd:E.df=some ds) (hf:E.ev gop= .fn (.func it) first caps) (hit:Jlp P it first' caps' e xs own) (hl1:LeL first first') (hl2:LeL caps caps')
 (hb:E.h.bx=own++Cb s0) (hp:E.h.pm=Cp s0) (h0:I [] s0) (hlen:∀x,(e x).length=ps.size)
 (hc:∀pre x post s nx nn,xs=pre++x::post→I pre s→AW P asg (JcQ E.n E.t ⟨((E.h.nn+1,E.h.nx+1), .lp .ready none E.n E.t ps asg body)::((E.h.nn,E.h.nx), .df)::Cb s,Cp s,nx,nn⟩ (ps.toList.zip (e x)).reverse)
   (Jn6 P (E.h.nn+1,E.h.nx+1) body (JnB (fun s=> ((E.h.nn+1,E.h.nx+1), .lp .ready none E.n E.t ps asg body)::((E.h.nn,E.h.nx), .df)::Cb s) Cp I (fun _ _ _=> False) pre x)))
 (hend:∀s' nx nn,I xs s'→Q .normal { E with h:=⟨((E.h.nn+1,E.h.nx+1), .lp .exhausted none E.n E.t ps asg body)::((E.h.nn,E.h.nx), .df)::Cb s',Cp s',nx,nn⟩,df:=some (.col (E.h.nn,E.h.nx)::ds)}):
 AW P (.rangeFunc gop ps asg body) E Q:=by
 refine JjB hd hf ?_
 have hcons:JjD P (E.h.nn+1,E.h.nx+1) e xs (fun s=> ((E.h.nn+1,E.h.nx+1), .lp .ready none E.n E.t ps asg body)::((E.h.nn,E.h.nx), .df)::Cb s) Cp I (fun _ _ _=> False):=by
  intro pre x post s nx nn hx hI
  exact JgO (i:=(E.h.nn+1,E.h.nx+1)) (pd:=none) (n:=E.n) (t:=E.t) (ps:=ps) (asg:=asg) (body:=body) (by simp [Jad]) (hlen x) (hc pre x post s nx nn hx hI)
 have h1:=hit (E.h.nn+1,E.h.nx+1) σ _ Cp I hcons s0 (E.h.nx+2) (E.h.nn+2) h0
 have hperm:(own++((E.h.nn+1,E.h.nx+1),Own.lp .ready none E.n E.t ps asg body)::((E.h.nn,E.h.nx), .df)::Cb s0).Perm (((E.h.nn+1,E.h.nx+1), .lp .ready none E.n E.t ps asg body)::((E.h.nn,E.h.nx), .df)::(own++Cb s0)):=
  List.perm_middle.trans (List.Perm.cons _ List.perm_middle)
 have e1:(E.h.addo .df).addo (.lp .ready none E.n E.t ps asg body)=⟨((E.h.nn+1,E.h.nx+1), .lp .ready none E.n E.t ps asg body)::((E.h.nn,E.h.nx), .df)::(own++Cb s0),Cp s0,E.h.nx+2,E.h.nn+2⟩:=by
  rw [← hb,← hp];rfl
 rw [e1]
 have hl:Like ⟨own++((E.h.nn+1,E.h.nx+1),Own.lp .ready none E.n E.t ps asg body)::((E.h.nn,E.h.nx), .df)::Cb s0,Cp s0,E.h.nx+2,E.h.nn+2⟩ ⟨((E.h.nn+1,E.h.nx+1), .lp .ready none E.n E.t ps asg body)::((E.h.nn,E.h.nx), .df)::(own++Cb s0),Cp s0,E.h.nx+2,E.h.nn+2⟩:=⟨hperm.symm.map _, .refl _,rfl⟩
 have h2:=ECall.like hl h1
 refine ((ECall.args (LeL.append (LeL.append hl1 (LeL.refl _)) hl2) h2)).mono fun r h' hq=> ?_
 obtain ⟨s',q1,q2,q3⟩:=hq
 obtain ⟨bx,pm,nx,nn⟩:=h'
 dsimp only at q2 q3
 subst q2;subst q3
 unfold Jfd
 simp only [Jad,Nat.beq_refl,cond_true]
 refine ⟨trivial,(by intro h;cases h), ?_⟩
 simp only [JaG,Nat.beq_refl,cond_true]
 exact hend s' nx nn q1
theorem Jot {α:Type} (a b c:List α):(a++(b++c)).Perm (b++(a++c)):=by
 rw [← List.append_assoc,← List.append_assoc]
 exact List.perm_append_comm.append_right _
theorem Jmh {o:Oper} {E:Env} {K:Env→Prop} {Kp:AV→Env→Prop} {fo:Operand} {args:Array Operand} {tys:Array TypeId} {f:FuncId} {first caps xs:List AV} {h1:Heap} {Q:AV→Heap→Prop} {bx1:List (Id×Own)} {pm1:List (Id×Nat)}
 (rb1 rb2:List (Id×Own)) (rp:List (Id×Nat)) (nn:Nat) (ho:o.op= .call { callee:= .value fo,args:=args,argTypes:=tys}) (hf:E.ev fo= .fn (.func f) first caps) (hbx:E.h.bx=rb1++(bx1++rb2)) (hpm:E.h.pm=rp++pm1)
 (hl:LeL (first++args.toList.map E.ev++caps) xs) (hc:ECall P f xs h1 Q) (hbl:BxLe bx1 h1.bx) (hpe:PmEq pm1 h1.pm) (hn:h1.nx=E.h.nx)
 (hk:∀r h',Q r h'→K (({ E with h:=⟨rb1++(h'.bx++rb2),rp++h'.pm,h'.nx,nn⟩}:Env).set o.dst r)):AOp P o E K Kp:=by
 have h2:ECall P f xs ⟨bx1,pm1,h1.nx,h1.nn⟩ Q:=hc.tell hbl hpe rfl
 have h3:=(ECall.frame (h:=E.h) h2 (rb1++rb2) rp (by rw [hbx];exact Jot _ _ _) (by rw [hpm];exact List.perm_append_comm) hn).args hl
 refine JeS ho hf h3 fun r h' hq=> ?_
 obtain ⟨h1',q1,rfl⟩:=hq
 exact ⟨r,⟨rb1++(h1'.bx++rb2),rp++h1'.pm,h1'.nx,nn⟩,Rf,⟨(Jot _ _ _).map _,List.perm_append_comm.map _,rfl⟩,hk r h1' q1⟩
end Go.Vl

namespace Go.Vl
open Go.RowKit
variable {P:Program}
section
variable {F:Fence} {n:Nat} {b:Frame} {a:Act} {k:List Item} {cs:List Frame} {w:World} {Q:Exit→Act→World→Prop}
end
end Go.Vl

/- Functions of the shelf that write a row in a box of one's own, and that are given JwK values besides. -/
namespace Go.Vl
open Go.RowKit
variable {P:Program}
theorem Jvp {w:World} {X:Nat→Nat→Prop} {g:List Nat} {i:Id} {n cap b:Nat} {vs us:List Value} (hg:g[i.2]? =some b) (h3:us.length=(AV.hs i 0 n cap::vs.map AV.v).length)
 (h4:∀(k:Nat) (c:AV) (u:Value),(AV.hs i 0 n cap::vs.map AV.v)[k]? =some c→us[k]? =some u→Rep w X g c u):us= .slice (some ⟨b,0,none⟩) n cap::vs:=by
 match us,h3,h4 with
 | a::us,h3,h4=>
 have ha:=h4 0 _ a rfl rfl
 obtain rfl:us=vs:=Jlm (by simpa using h3) fun k c v hc hv=> h4 (k+1) c v (by simpa using hc) (by simpa using hv)
 cases ha with
 | hs _ _ _ _ b2 hg2=>
   rw [hg] at hg2
   cases hg2
   rfl
theorem Jmi {α:Type} [Inhabited α] {f:FuncId} {enc:α→Value} {d d':Array α} {tl:List AV} {vs:List Value} {R:AV} {res:Nat→Value} {nm s cap nx nn:Nat} (hcb:Jb7 P f) (hd:d'.size=d.size)
 (hR:∀(w:World) (X:Nat→Nat→Prop) (g:List Nat) (b:Nat),g[s]? =some b→Rep w X g R (res b))
 (h:∀(w:World) (blk:Nat),Kn w none2→Sort.Holds enc w blk 0 d→blk < w.heap.size→Calls P f (.slice (some ⟨blk,0,none⟩) d.size cap::vs).toArray w fun e w'=> e= .returned (res blk)∧∃n os,w'=Sort.grow (Sort.putRow enc (Sort.ahead w n) blk 0 d') os):
 ECall P f (.hs (nm,s) 0 d.size cap::vs.map .v) ⟨[((nm,s), .c (d.toList.map (fun x=> .v (enc x))++tl))], [],nx,nn⟩
  fun r h'=> r=R∧h'=⟨[((nm,s), .c (d'.toList.map (fun x=> .v (enc x))++tl))], [],nx,nn⟩:=by
 refine ⟨hcb,fun X w g us h1 h2 h3 h4=> ?_⟩
 obtain ⟨b,hgb,vs0,ety,hblk,hsz,hrep⟩:=h1.bx _ (.head _)
 dsimp only at hgb
 obtain rfl:=Jvp hgb h3 h4
 have hbl:=JF hblk
 have hlen:d.size≤vs0.size:=by rw [hsz];simp
 have hH:Sort.Holds enc w b 0 d:=fun j hj=> by
  refine ⟨?_,by rw [Jbw hblk];simp⟩
  have hj2:j < vs0.size:=by omega
  have:=hrep j (.v (enc d[j]!)) vs0[j] (by rw [List.getElem?_append_left (by simpa using hj)];simp [hj]) (Array.getElem?_eq_getElem hj2)
  generalize hv:vs0[j]=v at this
  cases this
  rw [JX hblk,Nat.zero_add,Array.getElem?_eq_getElem hj2,hv]
 refine (Jfb P f).mono (w0:=w) (g:=g) (R:=_) (h w b h1.kn.none hH hbl) fun e w' ⟨he,n,os,hw⟩=> ?_
 have hb':w'.heap[b]? =some (.cells (Sort.putCells enc 0 d' vs0) ety (0,0)):=by
  subst hw
  rw [Sort.heap_grow_old _ _ (by simpa [Sort.putRow,Sort.mapBlock,Sort.ahead] using hbl)]
  show (w.heap.modify b _)[b]? =_
  rw [Array.getElem?_modify,if_pos rfl,hblk]
  rfl
 have hoth:∀k,k < w.heap.size→k≠b→w'.heap[k]? =w.heap[k]? :=fun k hk hne=> by
  subst hw
  rw [Sort.heap_grow_old _ _ (by simpa [Sort.putRow,Sort.mapBlock,Sort.ahead] using hk)]
  show (w.heap.modify b _)[k]? =_
  rw [Array.getElem?_modify,if_neg (Ne.symm hne)]
 have hsize:w.heap.size≤w'.heap.size:=by
  subst hw
  simp [Sort.grow,Sort.putRow,Sort.mapBlock,Sort.ahead]
 have hM:∀b0 o,¬excl none2 g ⟨[((nm,s), .c (d.toList.map (fun x=> .v (enc x))++tl))], [],nx,nn⟩ b0 o→b0≠b:=fun b0 o hn hb0=> hn (.inr (.inl ⟨_, .head _,by rw [hb0];exact hgb⟩))
 have hev:Evo (excl none2 g ⟨[((nm,s), .c (d.toList.map (fun x=> .v (enc x))++tl))], [],nx,nn⟩) w w':=by
  refine ⟨by subst hw;rfl,by subst hw;rfl,by subst hw;rfl,hsize,fun b0 hb0 hn=> hoth b0 hb0 (hM b0 0 (hn 0)),fun b0 o hb0 hn=> World.cell?_of_block (a:=⟨b0,o,none⟩) (hoth b0 hb0 (hM b0 o hn)),fun b0 us0 e0 fz h0=> ?_,fun b0 l h0=> ?_⟩
  ·by_cases hb0:b0=b
   ·subst hb0
    rw [hblk] at h0
    cases h0
    exact ⟨_,hb',by simp [Sort.putCells]⟩
   ·exact ⟨us0,(hoth b0 (JF h0) hb0).trans h0,rfl⟩
  ·by_cases hb0:b0=b
   ·subst hb0
    rw [hblk] at h0
    cases h0
   ·exact ⟨l,(hoth b0 (JF h0) hb0).trans h0⟩
 have hstay:=hev.stays (X:=excl X g ⟨[((nm,s), .c (d.toList.map (fun x=> .v (enc x))++tl))], [],nx,nn⟩) (X':=excl X g ⟨[((nm,s), .c (d.toList.map (fun x=> .v (enc x))++tl))], [],nx,nn⟩) (g:=g) (g':=g)
  (fun b0 o _ hm=> hm.elim (fun h=> h.elim) .inr) (fun _ _ _ h=> h) (fun _ _ h=> h)
 refine ⟨.ret R,_,g,⟨_,he,hR _ _ _ _ hgb⟩,⟨rfl,rfl⟩,fun _ _ h=> h, ?_,fun b0 o hx i hi=> h2 b0 o hx i hi,hev,fun b0 o h _=> by simpa [excl] using h⟩
 have hX:excl X g ⟨[((nm,s), .c (d'.toList.map (fun x=> .v (enc x))++tl))], [],nx,nn⟩=excl X g ⟨[((nm,s), .c (d.toList.map (fun x=> .v (enc x))++tl))], [],nx,nn⟩:=by
  funext b0 o;exact propext (by simp [excl])
 rw [hX]
 refine ⟨fun p hp=> ?_,fun p hp=> (by cases hp),h1.nodup,h1.nx,fun b0 o hx=> ?_, ?_⟩
 ·obtain rfl:=List.mem_singleton.1 hp
  refine ⟨b,hgb,Sort.putCells enc 0 d' vs0,ety,hb',by simp [Sort.putCells,hsz,hd],fun k c u hk hku=> ?_⟩
  have hkv:k < vs0.size:=by have:=(Array.getElem?_eq_some_iff.1 hku).1;simpa [Sort.putCells] using this
  have hval:(Sort.putCells enc 0 d' vs0)[k]? =some (if 0≤k∧k < 0+d'.size then enc d'[k - 0]! else vs0[k]):=by simp [Sort.putCells,hkv]
  rw [hval] at hku
  by_cases hkd:k < d'.size
  ·rw [if_pos ⟨Nat.zero_le _,by omega⟩] at hku
   rw [List.getElem?_append_left (by simpa using hkd)] at hk
   simp [hkd] at hk hku
   subst hk;subst hku
   exact .v _
  ·rw [if_neg Om] at hku
   rw [List.getElem?_append_right (by simpa using Nat.le_of_not_lt hkd)] at hk
   refine (hrep k c u ?_ (by rw [Array.getElem?_eq_getElem hkv];exact hku)).stays hstay
   rw [List.getElem?_append_right (by simp;omega)]
   simpa [hd] using hk
 ·exact Nat.lt_of_lt_of_le (h1.bd b0 o hx) hsize
 ·exact h1.kn.stays hstay
end Go.Vl

/- Rows of structs in boxes of one's own, sorted by the shelf. -/
namespace Go.Vl
open Go.RowKit
variable {P:Program}
theorem Jrt {f:FuncId} {N n cap nm s nx nn:Nat} {cs tl az:List AV} {vs:List Value} {R:AV} {res:Nat→Value} {Φ:List AV→Prop} (hcb:Jb7 P f) (hcs:cs.length=N)
 (ha:∀(w:World) (X:Nat→Nat→Prop) (g:List Nat) (us:List Value),us.length=az.length→(∀(k:Nat) (c:AV) (u:Value),az[k]? =some c→us[k]? =some u→Rep w X g c u)→us=vs)
 (hR:∀(w:World) (X:Nat→Nat→Prop) (g:List Nat) (b:Nat),g[s]? =some b→Rep w X g R (res b))
 (h:∀(w:World) (X:Nat→Nat→Prop) (g:List Nat) (blk:Nat) (us:List Value),us.length=N→(∀(k:Nat) (c:AV) (u:Value),cs[k]? =some c→us[k]? =some u→Rep w X g c u)→Sort.Holds id w blk 0 us.toArray→blk < w.heap.size→
   Calls P f (.slice (some ⟨blk,0,none⟩) n cap::vs).toArray w fun e w'=> e= .returned (res blk)∧∃(us':List Value) (cs':List AV) (m:Nat) (os:Array Obj),us'.length=N∧cs'.length=N∧Φ cs'∧(∀(k:Nat) (c:AV) (u:Value),cs'[k]? =some c→us'[k]? =some u→Rep w X g c u)∧w'=Sort.grow (Sort.putRow id (Sort.ahead w m) blk 0 us'.toArray) os):
 ECall P f (.hs (nm,s) 0 n cap::az) ⟨[((nm,s), .c (cs++tl))], [],nx,nn⟩
  fun r h'=> r=R∧∃cs',Φ cs'∧h'=⟨[((nm,s), .c (cs'++tl))], [],nx,nn⟩:=by
 refine ⟨hcb,fun X w g us h1 h2 h3 h4=> ?_⟩
 obtain ⟨b,hgb,vs0,ety,hblk,hsz,hrep⟩:=h1.bx _ (.head _)
 dsimp only at hgb
 match us,h3,h4 with
 | a::us,h3,h4=>
 have hva:=h4 0 _ a rfl rfl
 obtain rfl:us=vs:=ha w _ g us (by simpa using h3) fun k c v hc hv=> h4 (k+1) c v (by simpa using hc) (by simpa using hv)
 cases hva with
 | hs _ _ _ _ b2 hg2=>
 dsimp only at hg2
 rw [hgb] at hg2
 cases hg2
 have hbl:=JF hblk
 have hlen:N≤vs0.size:=by rw [hsz,List.length_append];omega
 have htl:(vs0.toList.take N).length=N:=by simp;omega
 have hH:Sort.Holds id w b 0 (vs0.toList.take N).toArray:=fun j hj=> by
  refine ⟨?_,by rw [Jbw hblk];simp⟩
  have hjN:j < N:=by rw [List.size_toArray,htl] at hj;exact hj
  have hj2:j < vs0.size:=by omega
  rw [JX hblk,Nat.zero_add,Array.getElem?_eq_getElem hj2]
  simp [hj2,hjN]
 have hr0:∀(k:Nat) (c:AV) (u:Value),cs[k]? =some c→(vs0.toList.take N)[k]? =some u→Rep w (excl X g ⟨[((nm,s), .c (cs++tl))], [],nx,nn⟩) g c u:=fun k c u hc hu=> by
  have hk:k < cs.length:=(List.getElem?_eq_some_iff.1 hc).1
  rw [List.getElem?_take,if_pos Om] at hu
  exact hrep k c u (by rw [List.getElem?_append_left hk];exact hc) (by simpa using hu)
 refine (Jfb P f).mono (w0:=w) (g:=g) (R:=_) (h w _ g b _ htl hr0 hH hbl) fun e w' ⟨he,us',cs',n',os,hl1,hl2,hΦ,hr',hw⟩=> ?_
 have hb':w'.heap[b]? =some (.cells (Sort.putCells id 0 us'.toArray vs0) ety (0,0)):=by
  subst hw
  rw [Sort.heap_grow_old _ _ (by simpa [Sort.putRow,Sort.mapBlock,Sort.ahead] using hbl)]
  show (w.heap.modify b _)[b]? =_
  rw [Array.getElem?_modify,if_pos rfl,hblk]
  rfl
 have hoth:∀k,k < w.heap.size→k≠b→w'.heap[k]? =w.heap[k]? :=fun k hk hne=> by
  subst hw
  rw [Sort.heap_grow_old _ _ (by simpa [Sort.putRow,Sort.mapBlock,Sort.ahead] using hk)]
  show (w.heap.modify b _)[k]? =_
  rw [Array.getElem?_modify,if_neg (Ne.symm hne)]
 have hsize:w.heap.size≤w'.heap.size:=by
  subst hw
  simp [Sort.grow,Sort.putRow,Sort.mapBlock,Sort.ahead]
 have hM:∀b0 o,¬excl none2 g ⟨[((nm,s), .c (cs++tl))], [],nx,nn⟩ b0 o→b0≠b:=fun b0 o hn hb0=> hn (.inr (.inl ⟨_, .head _,by rw [hb0];exact hgb⟩))
 have hev:Evo (excl none2 g ⟨[((nm,s), .c (cs++tl))], [],nx,nn⟩) w w':=by
  refine ⟨by subst hw;rfl,by subst hw;rfl,by subst hw;rfl,hsize,fun b0 hb0 hn=> hoth b0 hb0 (hM b0 0 (hn 0)),fun b0 o hb0 hn=> World.cell?_of_block (a:=⟨b0,o,none⟩) (hoth b0 hb0 (hM b0 o hn)),fun b0 us0 e0 fz h0=> ?_,fun b0 l h0=> ?_⟩
  ·by_cases hb0:b0=b
   ·subst hb0
    rw [hblk] at h0
    cases h0
    exact ⟨_,hb',by simp [Sort.putCells]⟩
   ·exact ⟨us0,(hoth b0 (JF h0) hb0).trans h0,rfl⟩
  ·by_cases hb0:b0=b
   ·subst hb0
    rw [hblk] at h0
    cases h0
   ·exact ⟨l,(hoth b0 (JF h0) hb0).trans h0⟩
 have hstay:=hev.stays (X:=excl X g ⟨[((nm,s), .c (cs++tl))], [],nx,nn⟩) (X':=excl X g ⟨[((nm,s), .c (cs++tl))], [],nx,nn⟩) (g:=g) (g':=g)
  (fun b0 o _ hm=> hm.elim (fun h=> h.elim) .inr) (fun _ _ _ h=> h) (fun _ _ h=> h)
 refine ⟨.ret R,_,g,⟨_,he,hR _ _ _ _ hgb⟩,⟨rfl,cs',hΦ,rfl⟩,fun _ _ h=> h, ?_,fun b0 o hx i hi=> h2 b0 o hx i hi,hev,fun b0 o h _=> by simpa [excl] using h⟩
 have hX:excl X g ⟨[((nm,s), .c (cs'++tl))], [],nx,nn⟩=excl X g ⟨[((nm,s), .c (cs++tl))], [],nx,nn⟩:=by
  funext b0 o;exact propext (by simp [excl])
 rw [hX]
 refine ⟨fun p hp=> ?_,fun p hp=> (by cases hp),h1.nodup,h1.nx,fun b0 o hx=> ?_, ?_⟩
 ·obtain rfl:=List.mem_singleton.1 hp
  refine ⟨b,hgb,Sort.putCells id 0 us'.toArray vs0,ety,hb',by rw [List.length_append] at hsz;simp [Sort.putCells,hsz,hl2,hcs],fun k c u hk hku=> ?_⟩
  have hkv:k < vs0.size:=by have:=(Array.getElem?_eq_some_iff.1 hku).1;simpa [Sort.putCells] using this
  have hval:(Sort.putCells id 0 us'.toArray vs0)[k]? =some (if 0≤k∧k < 0+us'.toArray.size then id us'.toArray[k - 0]! else vs0[k]):=by simp [Sort.putCells,hkv]
  rw [hval] at hku
  by_cases hkd:k < N
  ·rw [if_pos ⟨Nat.zero_le _,by rw [List.size_toArray];omega⟩] at hku
   rw [List.getElem?_append_left Om] at hk
   refine (hr' k c u hk ?_).stays hstay
   have hkl:k < us'.length:=by omega
   simp [hkl] at hku
   rw [List.getElem?_eq_getElem hkl,hku]
  ·rw [if_neg (by rw [List.size_toArray];omega)] at hku
   rw [List.getElem?_append_right Om] at hk
   refine (hrep k c u ?_ (by rw [Array.getElem?_eq_getElem hkv];exact hku)).stays hstay
   rw [List.getElem?_append_right Om,hcs,← hl2]
   exact hk
 ·exact Nat.lt_of_lt_of_le (h1.bd b0 o hx) hsize
 ·exact h1.kn.stays hstay
end Go.Vl

/- Rows of structs (a number, and whatever else) in boxes of one's own, sorted by their numbers by the shelf's SortFunc. -/
namespace Go.Vl
open Go.RowKit
variable {P:Program}
structure KX where
 k:Nat
 a:AV
 u:Value
instance:Inhabited KX:=⟨⟨0, .any, .int .u32 0⟩⟩
def KX.enc (x:KX):List Value:= [.int .u32 x.k,if x.u.oneCell' then x.u else .int .u32 0]
def KX.cmp (x y:KX):Int:=Lib.compareInt x.k y.k
def Jy (D:List (Nat×AV)):List AV:=D.flatMap fun x=> [.v (.int .u32 x.1),x.2]
theorem KX.one (x:KX):∀v∈x.enc,v.oneCell'=true:=fun v hv=> by
 unfold KX.enc at hv
 simp only [List.mem_cons,List.mem_nil_iff,or_false] at hv
 rcases hv with rfl | rfl
 ·rfl
 ·split
  ·assumption
  ·rfl
theorem KX.lt (x y:KX):Go.Proofs.ltOf KX.cmp x y=decide (x.k < y.k):=by
 unfold Go.Proofs.ltOf KX.cmp Lib.compareInt
 by_cases h1:(x.k:Int) < y.k
 ·simp [h1];omega
 ·by_cases h2:(y.k:Int) < x.k <;> simp [h1,h2] <;> omega
theorem KX.swo:Sort.SWO (Go.Proofs.ltOf KX.cmp) where
 irrefl x:=by rw [KX.lt];simp
 trans x y z h1 h2 := by rw [KX.lt] at *; simp at *; omega
 ntrans x y z h1 h2 := by rw [KX.lt] at *; simp at *; omega
theorem Jby (D:List (Nat×AV)):(Jy D).length=D.length * 2:=JdF (E:=fun x:Nat×AV=> [.v (.int .u32 x.1),x.2]) (fun _=> rfl) D
theorem JfN:∀(D:List (Nat×AV)) (t:Nat) (h:t / 2 < D.length),(Jy D)[t]? =some (if t % 2=0 then .v (.int .u32 D[t / 2].1) else D[t / 2].2)
 | [],t,h=> by simp at h
 | x::D,0,_=> rfl
 | x::D,1,_=> rfl
 | x::D,t+2,h=> by
   have h2:(t+2) / 2=t / 2+1:=by omega
   have ih:=JfN D t (by rw [h2] at h;simpa using h)
   show (Jy D)[t]? =_
   rw [ih,show (t+2) % 2=t % 2 by omega]
   simp only [h2,List.getElem_cons_succ]
theorem Jtq (d:Array KX) (t:Nat) (h:t < d.size * 2):(Sort.flatK KX.enc 2 d)[t]! =if t % 2=0 then .int .u32 d[t / 2]!.k else if d[t / 2]!.u.oneCell' then d[t / 2]!.u else .int .u32 0:=by
 rw [Sort.get_flatK _ _ _ _ h]
 unfold KX.enc
 rcases Nat.mod_two_eq_zero_or_one t with h0 | h0 <;> rw [h0] <;> rfl
theorem Jjd {f:FuncId} {g:Nat} {D:List (Nat×AV)} {tl:List AV} {nm s cap nx nn:Nat} (hcb:Jb7 P f) (hone:∀x∈D,Jcb x.2=true)
 (h:∀(d:Array KX) (w:World) (blk:Nat),d.size=D.length→Sort.HoldsK KX.enc 2 w blk 0 d→blk < w.heap.size→
   Calls P f #[.slice (some ⟨blk,0,none⟩) d.size cap, .func (.func g) #[] #[]] w fun e w'=> e= .returned (.tuple #[])∧∃d' n os,Sort.PermIn 0 d.size d d'∧Sort.SortedIn (Go.Proofs.ltOf KX.cmp) 0 d.size d'∧w'=Go.Proofs.sortWorldK KX.enc 2 w blk 0 n d' os):
 ECall P f [.hs (nm,s) 0 D.length cap, .fn (.func g) [] []] ⟨[((nm,s), .c (Jy D++tl))], [],nx,nn⟩
  fun r h'=> r= .tup []∧∃cs',(∃D',D'.Perm D∧D'.Pairwise (fun a b=> a.1≤b.1)∧cs'=Jy D')∧h'=⟨[((nm,s), .c (cs'++tl))], [],nx,nn⟩:=by
 refine Jrt (N:=D.length * 2) (n:=D.length) (vs:= [.func (.func g) #[] #[]]) (R:= .tup []) (res:=fun _=> .tuple #[]) (Φ:=fun cs'=> ∃D',D'.Perm D∧D'.Pairwise (fun a b=> a.1≤b.1)∧cs'=Jy D') hcb (Jby D) (fun w X g us h1 h2=> ?_) (fun w X g b hg=> .tup [] [] rfl (by simp)) (fun w X g blk us hl hr hH hb=> ?_)
 ·match us,h1,h2 with
  | [u],_,h2=>
    have:=h2 0 _ u rfl rfl
    cases this with
    | fn f c1 c2 v1 v2 hn1 hn2 _ _=>
      obtain rfl:v1= []:=List.length_eq_zero_iff.1 hn1
      obtain rfl:v2= []:=List.length_eq_zero_iff.1 hn2
      rfl
 ·
  let d:Array KX:=((List.range D.length).map fun j=> (⟨(D.getD j (0, .any)).1,(D.getD j (0, .any)).2,us.getD (j * 2+1) (.int .u32 0)⟩:KX)).toArray
  have hds:d.size=D.length:=by simp [d]
  have hdg:∀j,j < D.length→d[j]! =⟨(D.getD j (0, .any)).1,(D.getD j (0, .any)).2,us.getD (j * 2+1) (.int .u32 0)⟩:=fun j hj=> by
   simp [d,hj]
  have hrep:∀j,j < D.length→us.getD (j * 2) (.int .u32 0)= .int .u32 (D.getD j (0, .any)).1∧Rep w X g (D.getD j (0, .any)).2 (us.getD (j * 2+1) (.int .u32 0))∧(us.getD (j * 2+1) (.int .u32 0)).oneCell'=true:=fun j hj=> by
   have h0:=JfN D (j * 2) Om
   have h1:=JfN D (j * 2+1) Om
   rw [if_pos Om] at h0
   rw [if_neg Om] at h1
   have e0:j * 2 / 2=j:=by omega
   have e1:(j * 2+1) / 2=j:=by omega
   simp only [e0] at h0
   simp only [e1] at h1
   have eD:D.getD j (0, .any)=D[j]:=by simp [hj]
   have k0:us[j * 2]? =some (us.getD (j * 2) (.int .u32 0)):=by rw [List.getD_eq_getElem?_getD,List.getElem?_eq_getElem Om];rfl
   have k1:us[j * 2+1]? =some (us.getD (j * 2+1) (.int .u32 0)):=by rw [List.getD_eq_getElem?_getD,List.getElem?_eq_getElem Om];rfl
   have r0:=hr _ _ _ h0 k0
   have r1:=hr _ _ _ h1 k1
   rw [eD]
   refine ⟨?_,r1,Je9 (hone _ (List.getElem_mem hj)) r1⟩
   generalize us.getD (j * 2) (.int .u32 0)=v at r0
   cases r0;rfl
  have hflat:us.toArray=Sort.flatK KX.enc 2 d:=by
   refine Sort.ext_get! (by simp [hds,hl]) fun t ht=> ?_
   have ht2:t < D.length * 2:=by simpa [hl] using ht
   rw [Jtq d t Om,hdg _ Om]
   obtain ⟨r1,r2,r3⟩:=hrep (t / 2) Om
   have eu:us.toArray[t]! =us.getD t (.int .u32 0):=by simp [show t < us.length by omega]
   rw [eu]
   rcases Nat.mod_two_eq_zero_or_one t with h0 | h0
   ·rw [if_pos h0,show us.getD t (.int .u32 0)=us.getD (t / 2 * 2) (.int .u32 0) by rw [show t / 2 * 2=t by omega]]
    exact r1
   ·rw [if_neg Om,if_pos r3,show us.getD t (.int .u32 0)=us.getD (t / 2 * 2+1) (.int .u32 0) by rw [show t / 2 * 2+1=t by omega]]
  have hH2:Sort.HoldsK KX.enc 2 w blk 0 d:=by unfold Sort.HoldsK;rw [← hflat];exact hH
  have hc:=h d w blk hds hH2 hb
  rw [hds] at hc
  refine hc.mono fun e w' ⟨he,d',n',os,hp,hso,hw⟩=> ⟨he,(Sort.flatK KX.enc 2 d').toList,Jy (d'.toList.map fun x=> (x.k,x.a)),n',os, ?_, ?_,⟨_, ?_, ?_,rfl⟩,fun t c u hcs hus=> ?_, ?_⟩
  ·have:=hp.1;simp [this,hds]
  ·have:=hp.1;rw [Jby];simp [this,hds]
  ·obtain ⟨p1,_,p3⟩:=hp
   have e1:(d'.extract 0 D.length).toList=d'.toList:=by rw [← hds,← p1];simp
   have e2:(d.extract 0 D.length).toList=d.toList:=by rw [← hds];simp
   rw [e1,e2] at p3
   have:=p3.map fun x:KX=> (x.k,x.a)
   refine this.trans (.of_eq ?_)
   refine List.ext_getElem (by simp [d]) fun j hj1 hj2=> ?_
   simp [d,hj2]
  ·rw [List.pairwise_iff_getElem]
   intro i j hi hj hij
   have hj':j < d'.size:=by simpa using hj
   have:=hso i j (Nat.zero_le _) hij (by rw [← hds,← hp.1];exact hj')
   rw [KX.lt] at this
   have h2:=of_decide_eq_false this
   simp only [List.getElem_map,Array.getElem_toList]
   rw [getElem!_pos d' i Om,getElem!_pos d' j hj'] at h2
   omega
  ·have hs':d'.size=D.length:=by rw [hp.1,hds]
   have ht:t < d'.size * 2:=by have:=(List.getElem?_eq_some_iff.1 hus).1;simpa using this
   have hj:t / 2 < d'.size:=by omega
   obtain ⟨p1,_,p3⟩:=hp
   have e1:(d'.extract 0 D.length).toList=d'.toList:=by rw [← hs'];simp
   have e2:(d.extract 0 D.length).toList=d.toList:=by rw [← hds];simp
   rw [e1,e2] at p3
   have hm:d'[t / 2]∈d.toList:=p3.mem_iff.1 (by simp)
   obtain ⟨j,hj2,hdj⟩:=List.getElem_of_mem hm
   have hjD:j < D.length:=by simpa [hds] using hj2
   obtain ⟨r1,r2,r3⟩:=hrep j hjD
   have hx:d'[t / 2]=⟨(D.getD j (0, .any)).1,(D.getD j (0, .any)).2,us.getD (j * 2+1) (.int .u32 0)⟩:=by
    rw [← hdj,← hdg j hjD];simp [show j < d.size by omega]
   rw [JfN _ _ (by simpa using hj)] at hcs
   have hu:u=(Sort.flatK KX.enc 2 d')[t]! :=by
    have:=(List.getElem?_eq_some_iff.1 hus).2
    rw [← this];simp [ht]
   rw [Jtq d' t ht,getElem!_pos d' _ hj,hx] at hu
   simp only [List.getElem_map,Array.getElem_toList,hx] at hcs
   dsimp only at hcs hu
   rcases Nat.mod_two_eq_zero_or_one t with h0 | h0
   ·rw [if_pos h0] at hcs hu
    cases hcs;subst hu;exact .v _
   ·rw [if_neg Om] at hcs hu
    rw [if_pos r3] at hu
    cases hcs;subst hu;exact r2
  ·rw [hw]
   unfold Go.Proofs.sortWorldK Sort.putRowK
   simp
end Go.Vl

/- Appending onto rows in boxes, among the effects of a region that draws. -/
namespace Go.Vl
open Go.RowKit
variable {P:Program}
theorem JcR {ops:Array Oper} {B:List (Id×Own)} {o:Oper} {E:Env} {s x:Operand} {t e:TypeId} {n szx m cap:Nat} {f':Nat→AV} {i:Id} {cs:List AV} (hg:o.guard=none)
 (ho:o.op= .call { callee:= .builtin .append,args:= #[s,x],argTypes:= #[t,t]}) (hs:E.ev s= .hs i 0 n cap)
 (hx:E.ev x= .sl szx m f'∨∃oj,E.ev x= .os szx m f' oj)
 (ht:P.underlying t=some (.slice e)) (hgr:Jbm P e=true) (hszx:szx=P.cellsOf e) (hm:m≠0)
 (hcs:JbG i.1 E.h.bx=some (i.2,cs)) (hcap:n≤cap) (hcl:cap * P.cellsOf e≤cs.length) (hone:JcW m f')
 (hroom:(n+m) * P.bytesOf e≤140737488355328) (hlen:n+m≤9223372036854775807)
 (hB1:HB B (JgK i.1 (Jas cs (n * P.cellsOf e) (JO m f')) E.h.bx)) (hB2:∀l,HB B (E.h.add l).bx):
 Eff P ops B o E fun r h'=> (n+m≤cap∧r= .hs i 0 (n+m) cap∧h'= { E.h with bx:=JgK i.1 (Jas cs (n * P.cellsOf e) (JO m f')) E.h.bx})∨
  (∃ncap,n+m≤ncap∧r= .hs (E.h.nn,E.h.nx) 0 (n+m) ncap∧h'=E.h.add (cs.take (n * P.cellsOf e)++JO m f'++List.replicate ((ncap - (n+m)) * P.cellsOf e) .any)):=by
 refine ⟨hg,fun E' hh htt=> ?_⟩
 have hev:=Jcs htt
 have es:E'.ev s=E.ev s:=hev s (by rw [ho];simp [Op.operands,Call.operands])
 have ex:E'.ev x=E.ev x:=hev x (by rw [ho];simp [Op.operands,Call.operands])
 refine Jff ho (es.trans hs) (by rw [ex];exact hx) ht hgr (.inr hszx) (by rw [hh];exact hcs) hcap hcl hone (fun _=> hroom) (fun _=> hlen) (fun h=> absurd h hm) (fun _ hfit=> ?_) (fun _ _ ncap hge=> ?_)
 ·exact ⟨_,_, .inl ⟨hfit,rfl,by rw [hh]⟩,by rw [hh];exact hB1,rfl⟩
 ·exact ⟨_,_, .inr ⟨ncap,hge,by rw [hh],by rw [hh]⟩,by rw [hh];exact hB2 _,rfl⟩
theorem Jct {ops:Array Oper} {B:List (Id×Own)} {o:Oper} {E:Env} {s x:Operand} {t e:TypeId} {sz szx m:Nat} {f f':Nat→AV} (hg:o.guard=none)
 (ho:o.op= .call { callee:= .builtin .append,args:= #[s,x],argTypes:= #[t,t]}) (hs:E.ev s= .os sz 0 f none)
 (hx:E.ev x= .sl szx m f'∨∃oj,E.ev x= .os szx m f' oj)
 (ht:P.underlying t=some (.slice e)) (hgr:Jbm P e=true) (hszx:szx=P.cellsOf e) (hm:m≠0) (hone:JcW m f')
 (hroom:m * P.bytesOf e≤140737488355328) (hlen:m≤9223372036854775807) (hB2:∀l,HB B (E.h.add l).bx):
 Eff P ops B o E fun r h'=> ∃ncap,m≤ncap∧r= .hs (E.h.nn,E.h.nx) 0 m ncap∧h'=E.h.add (JO m f'++List.replicate ((ncap - m) * P.cellsOf e) .any):=by
 refine ⟨hg,fun E' hh htt=> ?_⟩
 have hev:=Jcs htt
 have es:E'.ev s=E.ev s:=hev s (by rw [ho];simp [Op.operands,Call.operands])
 have ex:E'.ev x=E.ev x:=hev x (by rw [ho];simp [Op.operands,Call.operands])
 refine Jgg ho (es.trans hs) (by rw [ex];exact hx) ht hgr hszx hm hone hroom hlen (fun ncap hge=> ?_)
 exact ⟨_,_,⟨ncap,hge,by rw [hh],by rw [hh]⟩,by rw [hh];exact hB2 _,rfl⟩
end Go.Vl

/- The front of an array of one's own; bytes of one's own as a string. -/
namespace Go.Vl
open Go.RowKit
variable {P:Program}
theorem Jkl {w:World} {t e:TypeId} {n:Nat} {d:TypeDesc} (ht:P.underlying t=some (.array n e)) (hd:P.underlying e=some d) (h1:P.cellsOf e=1) (b off h:Nat) (hh:h≤n) (hn:0 < n) (k':IntKind):
 (Instr.sliceAt t (.pointer (some ⟨b,off,none⟩)) none (some (.int k' h)) none).run P w= .ok (.slice (some ⟨b,off,none⟩) h n) w:=by
 have e1:¬n=0:=by omega
 simp [Instr.sliceAt,run_underlying ht,Instr.sureAddr,Instr.sliceBounds,Instr.sliceBound,asIntOf,hh,e1,JL hd,h1,Jak]
theorem Jmj {o:Oper} {E:Env} {K:Env→Prop} {Kp:AV→Env→Prop} {t e:TypeId} {x hi:Operand} {n h:Nat} {k':IntKind} {d:TypeDesc} {i:Id} {off:Nat} (ho:o.op= .slice t x none (some hi) none) (hx:E.ev x= .bp i off)
 (hhi:E.ev hi= .v (.int k' h)) (ht:P.underlying t=some (.array n e)) (hd:P.underlying e=some d) (h1:P.cellsOf e=1) (hh:h≤n) (hn:0 < n) (hk:K (E.set o.dst (.hs i off h n))):AOp P o E K Kp:=by
 refine AOp.of_yields ⟨(by rw [ho];intro c hc;cases hc),fun ρ w X g _ hr=> .inl ?_⟩ hk
 have r1:=hr x (by rw [ho];simp [Op.operands])
 have r3:=hr hi (by rw [ho];simp [Op.operands])
 rw [hx] at r1;rw [hhi] at r3
 have e3:=JS r3
 generalize hu:ρ x=u at r1
 cases r1 with
 | bp _ _ b hg=>
   refine ⟨.slice (some ⟨b,off,none⟩) h n,w, ?_,Evo.refl _ _, .hs _ _ _ _ b hg⟩
   unfold execOp
   simp only [ho,hu,Option.map_some,Option.map_none,e3]
   exact Jci (Jkl ht hd h1 b off h hh hn k')
theorem Jtr {o:Oper} {E:Env} {K:Env→Prop} {Kp:AV→Env→Prop} {s d e:TypeId} {x:Operand} {i:Id} {off cap:Nat} {cs:List AV} {l:List UInt8} (ho:o.op= .convert s d x) (hx:E.ev x= .hs i off l.length cap)
 (hcs:JbG i.1 E.h.bx=some (i.2,cs)) (hl:∀j (hj:j < l.length),cs[off+j]? =some (.v (.int .u8 (l[j].toNat:Int)))) (hs:P.underlying s=some (.slice e)) (he:P.underlying e=some (.int .u8)) (hd:P.underlying d=some .string)
 (hk:K (E.set o.dst (.v (.string ⟨l.toArray⟩)))):AOp P o E K Kp:=by
 refine AOp.of_yields ⟨(by rw [ho];intro c hc;cases hc),fun ρ w X g hok hr=> .inl ?_⟩ hk
 have r1:=hr x (by rw [ho];simp [Op.operands])
 rw [hx] at r1
 obtain ⟨b,hg,vs,e',hb,hvs,hrp⟩:=hok.bx _ (Jf5 hcs)
 dsimp only at hg hvs hrp
 generalize hu:ρ x=u at r1
 cases r1 with
 | hs _ _ _ _ b' hg'=>
   rw [hg] at hg';cases hg'
   refine ⟨.string ⟨l.toArray⟩,w, ?_,Evo.refl _ _, .v _⟩
   unfold execOp
   simp only [ho,hu]
   refine Jci (run_convert_bytes_back w s d e ⟨b,off,none⟩ cap l hs he hd fun j hj=> ?_)
   have hc:=hl j hj
   have hlt:off+j < vs.size:=by rw [hvs];exact (List.getElem?_eq_some_iff.1 hc).1
   have:=hrp (off+j) _ vs[off+j] hc (Array.getElem?_eq_getElem hlt)
   generalize hv:vs[off+j]=v at this
   cases this
   rw [show (⟨b,off,none⟩:Addr).add j=⟨b,off+j,none⟩ from Jak _ _ _,JX hb,Array.getElem?_eq_getElem hlt,hv]
end Go.Vl

namespace Go.Vl
open Go.RowKit
variable {P:Program}
theorem Jru {f:FuncId} {xs vs:List Value} {u:Value} (hcb:Jb7 P f)
 (h0:xs.length=0→∀(a:Option Addr) (cap:Nat) w,Kn w none2→Calls P f (Value.slice a 0 cap::vs).toArray w fun e w'=> e= .returned u∧Below w.heap.size w w')
 (h1:∀(b off cap:Nat) w,Kn w none2→(∀(j:Nat) x,xs[j]? =some x→w.cell? ⟨b,off+j,none⟩=some x)→b < w.heap.size→xs.length≤cap→0 < xs.length→Calls P f (Value.slice (some ⟨b,off,none⟩) xs.length cap::vs).toArray w fun e w'=> e= .returned u∧Below w.heap.size w w'):
 Tells P f (.sl 1 xs.length (fun k=> .v (xs.getD k undef))::vs.map .v) (.v u):=fun nx=> by
 refine ⟨hcb,fun X w g us k1 k2 k3 k4=> ?_⟩
 match us,k3,k4 with
 | a::us,k3,k4=>
 have ha:=k4 0 _ a rfl rfl
 obtain rfl:us=vs:=Jlm (by simpa using k3) fun k c v hc hv=> k4 (k+1) c v (by simpa using hc) (by simpa using hv)
 have hk:=k1.kn.none
 have key:Calls P f (a::us).toArray w fun e w'=> e= .returned u∧Below w.heap.size w w':=by
  generalize hxs:(fun k=> AV.v (xs.getD k undef))=F at ha
  generalize hn:xs.length=n at ha
  cases ha with
  | sl0 _ _ a0 cap=> exact h0 hn a0 cap w hk
  | sl _ _ _ b off cap ws hlen hcap hcell hc hrep=>
    rcases Nat.eq_zero_or_pos n with hz | hz
    ·subst hz
     exact h0 hn _ cap w hk
    ·subst hn
     have hat:∀(j:Nat) x,xs[j]? =some x→w.cell? ⟨b,off+j,none⟩=some x:=fun j x hx=> by
      have hj:=(List.getElem?_eq_some_iff.1 hx).1
      have hw:j < ws.length:=by omega
      have hr:=hrep j 0 (.v (xs.getD j undef)) ws[j] hj (by rw [← hxs];rfl) (by rw [Nat.mul_one,Nat.add_zero];exact List.getElem?_eq_getElem hw)
      have e:ws[j]=xs.getD j undef:=by generalize ws[j]=q at hr;cases hr;rfl
      rw [(hcell j _ (List.getElem?_eq_getElem hw)).1,e,List.getD_eq_getElem?_getD,hx]
      rfl
     have hb:b < w.heap.size:=World.block_lt_of_cell? w _ (hat 0 xs[0] (List.getElem?_eq_getElem hz))
     exact h1 b off cap w hk hat hb hcap hz
 refine (Jfb P f).mono (w0:=w) (g:=g) (R:=_) key fun e w' ⟨he,hb⟩=> ?_
 have hev:=Evo.of_below hb
 exact ⟨.ret (.v u),⟨[], [],nx,0⟩,g,⟨u,he, .v _⟩,⟨Rf,rfl,rfl⟩,fun _ _ h=> h,k1.evo0 hev,fun b o hx i hi=> (by cases hi),hev.mono fun b o _ h=> h.elim,fun b o h _=> h⟩
end Go.Vl

/- Regions that draw, with two effects that stand in no order, and more effects behind both. -/
namespace Go.Vl
open Go.RowKit
variable {P:Program}
end Go.Vl

namespace Go.Vl
open Go.RowKit
variable {P:Program}
theorem Jlq {f:FuncId} {ars:List AV} {s:AV} (h:Tells P f ars s):PCall P f ars (fun r=> r=s):=fun nx=> by
 refine ⟨(h nx).1,fun X w g us h1 h2 h3 h4=> ?_⟩
 refine (Jfb P f).mono (w0:=w) (g:=g) ((h nx).2 X w g us h1 h2 h3 h4) fun e w' ⟨r,h',g',a1,a2,a3⟩=> ?_
 cases r with
 | pan x=> exact a2.elim
 | ret r=>
   obtain ⟨u,e1,e2⟩:=a1
   exact ⟨.ret s,h',g',⟨u,e1,a2.1 _ _ _ _ e2⟩,⟨rfl,a2.2⟩,a3⟩
end Go.Vl

namespace Go.Proofs.W
structure Cnd where
 arg:Int
 op:Int
 mask:Nat
 value:Nat
deriving DecidableEq
def cnd0:Cnd:=⟨0,0,0,0⟩
def Cnd.ok (c:Cnd):Prop:=c.mask < 18446744073709551616∧c.value < 18446744073709551616
def JK (c:Cnd):Bool:=decide (0≤c.arg)&& decide (c.arg≤5)&& decide (1≤c.op)&& decide (c.op≤7)&& (decide (c.op=7)|| decide (c.mask=0))
def JgP (v m:Nat):Nat:=v&&& (18446744073709551615 - m)
def isC (b:Bool):Cnd×Nat:=(cnd0,if b then 1 else 2)
def asC (c:Cnd) (op:Int) (v:Nat):Cnd×Nat:=(⟨c.arg,op,0,v⟩,0)
def JaH (c:Cnd) (v:Nat):Cnd×Nat:=if v=0 then isC false else if v=1 then asC c 1 0 else asC c 3 v
def Jba (c:Cnd) (v:Nat):Cnd×Nat:=if v=0 then isC true else if v=18446744073709551615 then asC c 1 v else asC c 6 v
def Jdf (c:Cnd):Cnd×Nat:=if JgP c.value c.mask≠0 then isC false else if c.mask=0 then isC true else if c.mask=18446744073709551615 then asC c 1 c.value else (c,0)
def JaL (c:Cnd):Cnd×Nat:=
 if c.op=3 then JaH c c.value
 else if c.op=6 then Jba c c.value
 else if c.op=7 then Jdf c
 else if c.op=4 then (if c.value=18446744073709551615 then isC true else JaH c (c.value+1))
 else if c.op=5 then (if c.value=18446744073709551615 then isC false else Jba c (c.value+1))
 else (c,0)
def J3 (c:Cnd):Cnd×Nat:=if JK c then JaL c else isC false
def JaC (c:Cnd) (a:Nat):Bool:=
 if c.op=1 then decide (a=c.value)
 else if c.op=2 then !decide (a=c.value)
 else if c.op=3 then decide (a < c.value)
 else if c.op=4 then decide (a≤c.value)
 else if c.op=5 then decide (a > c.value)
 else if c.op=6 then decide (a≥c.value)
 else decide (a&&& c.mask=c.value)
theorem J8 {c:Cnd}:JK c=true↔0≤c.arg∧c.arg≤5∧1≤c.op∧c.op≤7∧(c.op=7∨c.mask=0):=by
 simp [JK,and_assoc]
theorem Jqz {v m:Nat} (hm:m < 2 ^ 64) (i:Nat):(JgP v m).testBit i=(v.testBit i&& (decide (i < 64)&& !m.testBit i)):=by
 unfold JgP
 rw [Nat.testBit_and,show (18446744073709551615:Nat) - m=2 ^ 64 - (m+1) by omega,Nat.testBit_two_pow_sub_succ hm]
set_option maxRecDepth 10000 in
theorem JjF {v m:Nat} (hv:v < 2 ^ 64) (hm:m < 2 ^ 64):JgP v m=0↔v||| m=m:=by
 have hb:∀i,¬i < 64→v.testBit i=false:=fun i hi=> Nat.testBit_lt_two_pow (Nat.lt_of_lt_of_le hv (Nat.pow_le_pow_right Dc Om))
 constructor
 ·intro h
  refine Nat.eq_of_testBit_eq fun i=> ?_
  have h1:=Jqz (v:=v) hm i
  rw [h,Nat.zero_testBit] at h1
  rw [Nat.testBit_or]
  by_cases hi:i < 64
  ·rw [decide_eq_true hi] at h1
   revert h1
   cases v.testBit i <;> cases m.testBit i <;> decide
  ·rw [hb i hi];simp
 ·intro h
  refine Nat.eq_of_testBit_eq fun i=> ?_
  rw [Jqz hm,Nat.zero_testBit]
  have h1:=congrArg (·.testBit i) h
  simp only [Nat.testBit_or] at h1
  revert h1
  cases v.testBit i <;> cases m.testBit i <;> simp
theorem Jp0 {c:Cnd} (ho:c.ok) (hr:JK c=true) {a:Nat} (ha:a < 18446744073709551616):
 ((J3 c).2=1→JaC c a=true)∧((J3 c).2=2→JaC c a=false)∧((J3 c).2=0→JK (J3 c).1=true∧(J3 c).1.arg=c.arg∧JaC (J3 c).1 a=JaC c a):=by
 obtain ⟨h1,h2,h3,h4,h5⟩:=J8.1 hr
 obtain ⟨o1,o2⟩:=ho
 obtain ⟨arg,op,mask,value⟩:=c
 dsimp only at h1 h2 h3 h4 h5 o1 o2
 unfold J3
 rw [if_pos hr]
 have hop:op=1∨op=2∨op=3∨op=4∨op=5∨op=6∨op=7:=by omega
 rcases hop with rfl | rfl | rfl | rfl | rfl | rfl | rfl
 ·simp [JaL,hr]
 ·simp [JaL,hr]
 ·obtain rfl:mask=0:=by omega
  simp only [JaL,if_true,JaH]
  split
  ·simp [isC,JaC];(first | omega | rfl | exact decide_eq_decide.2 Om)
  ·split
   ·simp [asC,JaC,JK,h1,h2];(first | omega | rfl | exact decide_eq_decide.2 Om)
   ·simp [asC,JaC,JK,h1,h2];try rfl
 ·obtain rfl:mask=0:=by omega
  simp only [JaL]
  simp only [show ((4:Int)=3)=False by simp,show ((4:Int)=6)=False by simp,show ((4:Int)=7)=False by simp,if_false,if_true]
  split
  ·simp [isC,JaC];(first | omega | rfl | exact decide_eq_decide.2 Om)
  ·simp only [JaH]
   split
   ·omega
   ·split
    ·simp [asC,JaC,JK,h1,h2];(first | omega | rfl | exact decide_eq_decide.2 Om)
    ·simp [asC,JaC,JK,h1,h2];(first | omega | rfl | exact decide_eq_decide.2 Om)
 ·obtain rfl:mask=0:=by omega
  simp only [JaL]
  simp only [show ((5:Int)=3)=False by simp,show ((5:Int)=6)=False by simp,show ((5:Int)=7)=False by simp,show ((5:Int)=4)=False by simp,if_false,if_true]
  split
  ·simp [isC,JaC];(first | omega | rfl | exact decide_eq_decide.2 Om)
  ·simp only [Jba]
   split
   ·omega
   ·split
    ·simp [asC,JaC,JK,h1,h2];(first | omega | rfl | exact decide_eq_decide.2 Om)
    ·simp [asC,JaC,JK,h1,h2];(first | omega | rfl | exact decide_eq_decide.2 Om)
 ·obtain rfl:mask=0:=by omega
  simp only [JaL]
  simp only [show ((6:Int)=3)=False by simp,if_false,if_true,Jba]
  split
  ·simp [isC,JaC];(first | omega | rfl | exact decide_eq_decide.2 Om)
  ·split
   ·simp [asC,JaC,JK,h1,h2];(first | omega | rfl | exact decide_eq_decide.2 Om)
   ·simp [asC,JaC,JK,h1,h2]
 ·simp only [JaL]
  simp only [show ((7:Int)=3)=False by simp,show ((7:Int)=6)=False by simp,if_false,if_true,Jdf]
  have hor:a&&& mask||| mask=mask:=by
   refine Nat.eq_of_testBit_eq fun i=> ?_
   rw [Nat.testBit_or,Nat.testBit_and]
   cases a.testBit i <;> cases mask.testBit i <;> rfl
  split
  ·rename_i hz
   have hz':¬(value||| mask=mask):=fun h=> hz ((JjF o2 o1).2 h)
   have:¬(a&&& mask=value):=fun h=> hz' (by rw [← h];exact hor)
   simp [isC,JaC,this]
  ·rename_i hz
   have hz':value||| mask=mask:=(JjF o2 o1).1 (Decidable.not_not.1 hz)
   split
   ·rename_i hm
    subst hm
    have:value=0:=by simpa using hz'
    simp [isC,JaC,this]
   ·split
    ·rename_i hm
     subst hm
     have hmask:a&&& 18446744073709551615=a:=by
      rw [show (18446744073709551615:Nat)=2 ^ 64 - 1 by decide,Nat.and_two_pow_sub_one_eq_mod]
      exact Nat.mod_eq_of_lt (by simpa using ha)
     simp [asC,JaC,JK,h1,h2,hmask];rfl
    ·simp [hr]
end Go.Proofs.W

namespace Go.Proofs.W
def NFm (c:Cnd):Prop:=JK c=true∧(c.op=1∨c.op=2∨c.op=3∨c.op=6∨(c.op=7∧JgP c.value c.mask=0))
theorem Jts {c:Cnd} (h:(J3 c).2=0):NFm (J3 c).1:=by
 unfold J3 at h⊢
 by_cases hr:JK c=true
 ·rw [if_pos hr] at h⊢
  obtain ⟨h1,h2,h3,h4,h5⟩:=J8.1 hr
  obtain ⟨arg,op,mask,value⟩:=c
  dsimp only at h1 h2 h3 h4 h5
  have hu:∀v:Nat,(JaH ⟨arg,op,mask,value⟩ v).2=0→NFm (JaH ⟨arg,op,mask,value⟩ v).1:=fun v hv=> by
   unfold JaH at hv⊢
   split at hv
   ·cases hv
   ·rename_i q0
    rw [if_neg q0]
    split at hv
    ·rename_i q1
     rw [if_pos q1]
     exact ⟨J8.2 ⟨h1,h2,(by decide:(1:Int)≤1),(by decide:(1:Int)≤7), .inr rfl⟩, .inl rfl⟩
    ·rename_i q1
     rw [if_neg q1]
     exact ⟨J8.2 ⟨h1,h2,(by decide:(1:Int)≤3),(by decide:(3:Int)≤7), .inr rfl⟩, .inr (.inr (.inl rfl))⟩
  have ho:∀v:Nat,(Jba ⟨arg,op,mask,value⟩ v).2=0→NFm (Jba ⟨arg,op,mask,value⟩ v).1:=fun v hv=> by
   unfold Jba at hv⊢
   split at hv
   ·cases hv
   ·rename_i q0
    rw [if_neg q0]
    split at hv
    ·rename_i q1
     rw [if_pos q1]
     exact ⟨J8.2 ⟨h1,h2,(by decide:(1:Int)≤1),(by decide:(1:Int)≤7), .inr rfl⟩, .inl rfl⟩
    ·rename_i q1
     rw [if_neg q1]
     exact ⟨J8.2 ⟨h1,h2,(by decide:(1:Int)≤6),(by decide:(6:Int)≤7), .inr rfl⟩, .inr (.inr (.inr (.inl rfl)))⟩
  unfold JaL at h⊢
  dsimp only at h⊢
  obtain rfl | rfl | rfl | rfl | rfl | rfl | rfl:op=1∨op=2∨op=3∨op=4∨op=5∨op=6∨op=7:=by omega
  ·exact ⟨hr, .inl rfl⟩
  ·exact ⟨hr, .inr (.inl rfl)⟩
  ·exact hu _ h
  ·simp only [Int.reduceEq,if_false,if_true] at h⊢
   split at h
   ·cases h
   ·rename_i q;rw [if_neg q];exact hu _ h
  ·simp only [Int.reduceEq,if_false,if_true] at h⊢
   split at h
   ·cases h
   ·rename_i q;rw [if_neg q];exact ho _ h
  ·exact ho _ h
  ·simp only [Int.reduceEq,if_false,if_true] at h⊢
   unfold Jdf at h⊢
   dsimp only at h⊢
   split at h
   ·cases h
   ·rename_i q0
    rw [if_neg q0]
    split at h
    ·cases h
    ·rename_i q1
     rw [if_neg q1]
     split at h
     ·rename_i q2
      rw [if_pos q2]
      exact ⟨J8.2 ⟨h1,h2,(by decide:(1:Int)≤1),(by decide:(1:Int)≤7), .inr rfl⟩, .inl rfl⟩
     ·rename_i q2
      rw [if_neg q2]
      exact ⟨hr, .inr (.inr (.inr (.inr ⟨rfl,by simpa using q0⟩)))⟩
 ·rw [if_neg hr] at h
  cases h
def lowM32:Nat:=4294967295
def Ja3 (c:Cnd):Cnd×Nat:=
 if c.value > lowM32 then (cnd0,if c.op=2∨c.op=3 then 1 else 2)
 else if c.op=7 then (if c.mask&&& lowM32=0 then (cnd0,1) else (⟨c.arg,c.op,c.mask&&& lowM32,c.value⟩,0))
 else (c,0)
theorem Jll {a:Nat} (h:a < 4294967296):a&&& lowM32=a:=by
 unfold lowM32
 rw [show (4294967295:Nat)=2 ^ 32 - 1 by decide,Nat.and_two_pow_sub_one_eq_mod]
 exact Nat.mod_eq_of_lt h
theorem Jou {a m:Nat} (h:a < 4294967296):a&&& (m&&& lowM32)=a&&& m:=by
 rw [Nat.and_comm m,← Nat.and_assoc,Jll h]
theorem sub_zero {v m:Nat} (hv:v||| m=m) (h0:m&&& lowM32=0) (hl:v < 4294967296):v=0:=by
 rw [← Jll hl]
 refine Nat.eq_of_testBit_eq fun i=> ?_
 rw [Nat.testBit_and,Nat.zero_testBit]
 have h1:=congrArg (·.testBit i) hv
 have h2:=congrArg (·.testBit i) h0
 simp only [Nat.testBit_or,Nat.testBit_and,Nat.zero_testBit] at h1 h2
 revert h1 h2
 cases v.testBit i <;> cases m.testBit i <;> cases lowM32.testBit i <;> decide
theorem Jtt {c:Cnd} (ho:c.ok) (hc:NFm c) {a:Nat} (ha:a < 4294967296):((Ja3 c).2=1→JaC c a=true)∧((Ja3 c).2=2→JaC c a=false)∧((Ja3 c).2=0→JK (Ja3 c).1=true∧(Ja3 c).1.arg=c.arg∧JaC (Ja3 c).1 a=JaC c a):=by
 obtain ⟨hr,hop⟩:=hc
 obtain ⟨h1,h2,h3,h4,h5⟩:=J8.1 hr
 obtain ⟨o1,o2⟩:=ho
 obtain ⟨arg,op,mask,value⟩:=c
 dsimp only at *
 unfold Ja3
 dsimp only
 by_cases hv:value > lowM32
 ·rw [if_pos hv]
  unfold lowM32 at hv
  dsimp only
  have hle:a&&& mask≤a:=Nat.and_le_left
  rcases hop with rfl | rfl | rfl | rfl | ⟨rfl,_⟩
  ·refine ⟨fun h=> (by simp at h),fun _=> ?_,fun h=> (by simp at h)⟩
   show decide (a=value)=false
   exact decide_eq_false Om
  ·refine ⟨fun _=> ?_,fun h=> (by simp at h),fun h=> (by simp at h)⟩
   show (!decide (a=value))=true
   rw [decide_eq_false Om];rfl
  ·refine ⟨fun _=> ?_,fun h=> (by simp at h),fun h=> (by simp at h)⟩
   show decide (a < value)=true
   exact decide_eq_true Om
  ·refine ⟨fun h=> (by simp at h),fun _=> ?_,fun h=> (by simp at h)⟩
   show decide (a≥value)=false
   exact decide_eq_false Om
  ·refine ⟨fun h=> (by simp at h),fun _=> ?_,fun h=> (by simp at h)⟩
   show decide (a&&& mask=value)=false
   exact decide_eq_false Om
 ·rw [if_neg hv]
  unfold lowM32 at hv
  by_cases h7:op=7
  ·rw [if_pos h7]
   subst h7
   have hcl:JgP value mask=0:=by
    rcases hop with h | h | h | h | ⟨_,h⟩
    ·cases h
    ·cases h
    ·cases h
    ·cases h
    ·exact h
   have hor:=(JjF (v:=value) (m:=mask) o2 o1).1 hcl
   by_cases h0:mask&&& lowM32=0
   ·rw [if_pos h0]
    refine ⟨fun _=> ?_,fun h=> (by cases h),fun h=> (by cases h)⟩
    show decide (a&&& mask=value)=true
    rw [← Jou ha,h0,Nat.and_zero,sub_zero hor h0 Om]
    rfl
   ·rw [if_neg h0]
    refine ⟨fun h=> (by cases h),fun h=> (by cases h),fun _=> ⟨J8.2 ⟨h1,h2,h3,h4, .inl rfl⟩,rfl, ?_⟩⟩
    show decide (a&&& (mask&&& lowM32)=value)=decide (a&&& mask=value)
    rw [Jou ha]
  ·rw [if_neg h7]
   exact ⟨fun h=> (by cases h),fun h=> (by cases h),fun _=> ⟨hr,rfl,rfl⟩⟩
end Go.Proofs.W

namespace Go.Proofs.W
open Go.Vl
structure Ins where
 code:Nat
 jt:Nat
 jf:Nat
 k:Nat
deriving DecidableEq
def Ins.ok (i:Ins):Prop:=i.code < 65536∧i.jt < 256∧i.jf < 256∧i.k < 4294967296
end Go.Proofs.W

namespace Go.Proofs.W
open Go.Vl
set_option maxRecDepth 100000
def int (n:Int):AV:= .v (.int .i64 n)
def u8 (n:Int):AV:= .v (.int .u8 n)
def u32 (n:Int):AV:= .v (.int .u32 n)
def Jb (b:Bool):AV:= .v (.bool b)
end Go.Proofs.W

namespace Go.Proofs.W
open Go.Vl
set_option maxRecDepth 100000
theorem JaX {a b:Int}:(false=(a ==b))↔a≠b:=by rw [eq_comm];simp
theorem JaY {a b:Int}:(true=(a ==b))↔a=b:=by rw [eq_comm];simp
theorem JaN {a b:Int}:(false=(a !=b))↔a=b:=by rw [eq_comm];simp
theorem JaO {a b:Int}:(true=(a !=b))↔a≠b:=by rw [eq_comm];simp
theorem JaZ {p:Prop} [Decidable p]:(false=decide p)↔¬p:=by rw [eq_comm];simp
theorem Ja0 {p:Prop} [Decidable p]:(true=decide p)↔p:=by rw [eq_comm];simp
end Go.Proofs.W

namespace Go.Proofs.W
open Go.Vl
set_option maxRecDepth 100000
def u64 (n:Int):AV:= .v (.int .u64 n)
def JG (c:Cnd):AV:= .ag [int c.arg,int c.op,u64 c.mask,u64 c.value]
def Jam (l:List Cnd):AV:=JT 4 JG cnd0 l
theorem JeV (b:Bool):Tells Tryz.prog 84 [Jb b] (.tup [JG (isC b).1,int (isC b).2]):=by
 refine Jf Tryz.func84 rfl rfl fun nx=> ?_
 cases b
 ·refine stp ?_
  exact Jj rfl ⟨rfl,trivial⟩ Rf
 ·refine stp ?_
  exact Jj rfl ⟨rfl,trivial⟩ Rf
theorem Jg2 (c:Cnd) (op:Int) (v:Nat):Tells Tryz.prog 241 [JG c,int op,u64 v] (.tup [JG (asC c op v).1,int (asC c op v).2]):=by
 refine Jf Tryz.func241 rfl rfl fun nx=> ?_
 refine stp ?_
 exact Jj rfl ⟨rfl,trivial⟩ Rf
theorem JdV (c:Cnd):Tells Tryz.prog 83 [JG c] (Jb (JK c)):=by
 refine Jf Tryz.func83 rfl rfl fun nx=> ?_
 (repeat' (refine stp ?_;intro c h;cases c))
 all_goals
  refine stp ?_
  refine Jd rfl (JB ?_)
  (try simp only [JaX, JaY, JaZ, Ja0, JaN, JaO] at *)
  simp [JK]
  omega
theorem Jkm (c:Cnd) (v:Nat):Tells Tryz.prog 154 [JG c,u64 v] (.tup [JG (JaH c v).1,int (JaH c v).2]):=by
 refine Jf Tryz.func154 rfl rfl fun nx=> ?_
 refine stp ?_
 intro c h1;cases c
 ·refine stp ?_
  intro c h2;cases c
  ·refine stp ?_
   refine Je rfl rfl (Jg2 c 3 v) ⟨Rf,Rf,Rf,trivial⟩ fun nx=> ?_
   refine stp ?_
   (try simp only [JaX, JaY, JaZ, Ja0, JaN, JaO] at *)
   rw [JaH,if_neg Om,if_neg Om]
   exact Jj rfl ⟨rfl,trivial⟩ Rf
  ·refine stp ?_
   refine Je rfl rfl (Jg2 c 1 0) ⟨Rf,Rf,Rf,trivial⟩ fun nx=> ?_
   refine stp ?_
   (try simp only [JaX, JaY, JaZ, Ja0, JaN, JaO] at *)
   rw [JaH,if_neg Om,if_pos Om]
   exact Jj rfl ⟨rfl,trivial⟩ Rf
 ·refine stp ?_
  refine Je rfl rfl (JeV false) ⟨Rf,trivial⟩ fun nx=> ?_
  refine stp ?_
  (try simp only [JaX, JaY, JaZ, Ja0, JaN, JaO] at *)
  rw [JaH,if_pos Om]
  exact Jj rfl ⟨rfl,trivial⟩ Rf
theorem Jmk (c:Cnd) (v:Nat):Tells Tryz.prog 156 [JG c,u64 v] (.tup [JG (Jba c v).1,int (Jba c v).2]):=by
 refine Jf Tryz.func156 rfl rfl fun nx=> ?_
 refine stp ?_
 intro c h1;cases c
 ·refine stp ?_
  intro c h2;cases c
  ·refine stp ?_
   refine Je rfl rfl (Jg2 c 6 v) ⟨Rf,Rf,Rf,trivial⟩ fun nx=> ?_
   refine stp ?_
   (try simp only [JaX, JaY, JaZ, Ja0, JaN, JaO] at *)
   rw [Jba,if_neg Om,if_neg Om]
   exact Jj rfl ⟨rfl,trivial⟩ Rf
  ·refine stp ?_
   refine Je rfl rfl (Jg2 c 1 v) ⟨Rf,Rf,Rf,trivial⟩ fun nx=> ?_
   refine stp ?_
   (try simp only [JaX, JaY, JaZ, Ja0, JaN, JaO] at *)
   rw [Jba,if_neg Om,if_pos Om]
   exact Jj rfl ⟨rfl,trivial⟩ Rf
 ·refine stp ?_
  refine Je rfl rfl (JeV true) ⟨Rf,trivial⟩ fun nx=> ?_
  refine stp ?_
  (try simp only [JaX, JaY, JaZ, Ja0, JaN, JaO] at *)
  rw [Jba,if_pos Om]
  exact Jj rfl ⟨rfl,trivial⟩ Rf
theorem Jkn {a b:Nat} (ha:a < 18446744073709551616) (hb:b < 18446744073709551616):Jca .andNot .u64 a b=((JgP a b:Nat):Int):=
 JpS (k:= .u64) ha hb (by
  have:a&&& (2 ^ IntKind.u64.bits - 1 - b)≤a:=Nat.and_le_left
  have:a&&& (2 ^ IntKind.u64.bits - 1 - b) < 18446744073709551616:=by omega
  simp [IntKind.wrap,IntKind.signed,IntKind.bits] at this⊢
  omega)
theorem Jtu (c:Cnd) (ho:c.ok):Tells Tryz.prog 152 [JG c] (.tup [JG (Jdf c).1,int (Jdf c).2]):=by
 refine Jf Tryz.func152 rfl rfl fun nx=> ?_
 refine stp ?_
 intro c h1;cases c
 all_goals
  rw [Jkn ho.2 ho.1] at h1
 ·refine stp ?_
  intro c h2;cases c
  ·refine stp ?_
   intro c h3;cases c
   ·refine stp ?_
    (try simp only [JaX, JaY, JaZ, Ja0, JaN, JaO] at *)
    rw [Jdf,if_neg Om,if_neg Om,if_neg Om]
    exact Jj rfl ⟨rfl,trivial⟩ Rf
   ·refine stp ?_
    refine Je rfl rfl (Jg2 c 1 c.value) ⟨Rf,Rf,Rf,trivial⟩ fun nx=> ?_
    refine stp ?_
    (try simp only [JaX, JaY, JaZ, Ja0, JaN, JaO] at *)
    rw [Jdf,if_neg Om,if_neg Om,if_pos Om]
    exact Jj rfl ⟨rfl,trivial⟩ Rf
  ·refine stp ?_
   refine Je rfl rfl (JeV true) ⟨Rf,trivial⟩ fun nx=> ?_
   refine stp ?_
   (try simp only [JaX, JaY, JaZ, Ja0, JaN, JaO] at *)
   rw [Jdf,if_neg Om,if_pos Om]
   exact Jj rfl ⟨rfl,trivial⟩ Rf
 ·refine stp ?_
  refine Je rfl rfl (JeV false) ⟨Rf,trivial⟩ fun nx=> ?_
  refine stp ?_
  (try simp only [JaX, JaY, JaZ, Ja0, JaN, JaO] at *)
  rw [Jdf,if_pos Om]
  exact Jj rfl ⟨rfl,trivial⟩ Rf
theorem Jml (c:Cnd):Tells Tryz.prog 151 [JG c] (.tup [JG c,int 0]):=by
 refine Jf Tryz.func151 rfl rfl fun nx=> ?_
 refine stp ?_
 exact Jj rfl ⟨rfl,trivial⟩ Rf
theorem Jrv (c:Cnd):Tells Tryz.prog 153 [JG c] (.tup [JG (JaH c c.value).1,int (JaH c c.value).2]):=by
 refine Jf Tryz.func153 rfl rfl fun nx=> ?_
 refine stp ?_
 refine Je rfl rfl (Jkm c c.value) ⟨Rf,Rf,trivial⟩ fun nx=> ?_
 refine stp ?_
 exact Jj rfl ⟨rfl,trivial⟩ Rf
theorem Jrw (c:Cnd):Tells Tryz.prog 155 [JG c] (.tup [JG (Jba c c.value).1,int (Jba c c.value).2]):=by
 refine Jf Tryz.func155 rfl rfl fun nx=> ?_
 refine stp ?_
 refine Je rfl rfl (Jmk c c.value) ⟨Rf,Rf,trivial⟩ fun nx=> ?_
 refine stp ?_
 exact Jj rfl ⟨rfl,trivial⟩ Rf
def Jko (c:Cnd):Cnd×Nat:=if c.value=18446744073709551615 then isC true else JaH c (c.value+1)
def Jh7 (c:Cnd):Cnd×Nat:=if c.value=18446744073709551615 then isC false else Jba c (c.value+1)
theorem Jov {v:Nat} (h:v < 18446744073709551616) (h2:v≠18446744073709551615):IntKind.u64.wrap ((v:Int)+1)=((v+1:Nat):Int):=by
 simp [IntKind.wrap,IntKind.signed,IntKind.bits]
 omega
theorem Jfn {a b:Int} (h:a=b):AVle (.v (.int .u64 a)) (u64 b):=h ▸ Rf
theorem Jrx (c:Cnd) (ho:c.ok):Tells Tryz.prog 157 [JG c] (.tup [JG (Jko c).1,int (Jko c).2]):=by
 refine Jf Tryz.func157 rfl rfl fun nx=> ?_
 refine stp ?_
 intro c h1;cases c
 · (try simp only [JaX, JaY, JaZ, Ja0, JaN, JaO] at *)
   have h2:c.value≠18446744073709551615:=by omega
   refine stp ?_
   refine Je rfl rfl (Jkm c (c.value+1)) ⟨Rf,Jfn (Jov ho.2 h2),trivial⟩ fun nx=> ?_
   refine stp ?_
   rw [Jko,if_neg h2]
   exact Jj rfl ⟨rfl,trivial⟩ Rf
 ·refine stp ?_
  refine Je rfl rfl (JeV true) ⟨Rf,trivial⟩ fun nx=> ?_
  refine stp ?_
  (try simp only [JaX, JaY, JaZ, Ja0, JaN, JaO] at *)
  rw [Jko,if_pos Om]
  exact Jj rfl ⟨rfl,trivial⟩ Rf
theorem Jry (c:Cnd) (ho:c.ok):Tells Tryz.prog 158 [JG c] (.tup [JG (Jh7 c).1,int (Jh7 c).2]):=by
 refine Jf Tryz.func158 rfl rfl fun nx=> ?_
 refine stp ?_
 intro c h1;cases c
 · (try simp only [JaX, JaY, JaZ, Ja0, JaN, JaO] at *)
   have h2:c.value≠18446744073709551615:=by omega
   refine stp ?_
   refine Je rfl rfl (Jmk c (c.value+1)) ⟨Rf,Jfn (Jov ho.2 h2),trivial⟩ fun nx=> ?_
   refine stp ?_
   rw [Jh7,if_neg h2]
   exact Jj rfl ⟨rfl,trivial⟩ Rf
 ·refine stp ?_
  refine Je rfl rfl (JeV false) ⟨Rf,trivial⟩ fun nx=> ?_
  refine stp ?_
  (try simp only [JaX, JaY, JaZ, Ja0, JaN, JaO] at *)
  rw [Jh7,if_pos Om]
  exact Jj rfl ⟨rfl,trivial⟩ Rf
def fn0 (f:Nat):AV:= .fn (.func f) [] []
def Jgh:List (Value×AV):= [(.int .i64 1,fn0 151),(.int .i64 2,fn0 151),(.int .i64 7,fn0 152),(.int .i64 3,fn0 153),(.int .i64 6,fn0 155),(.int .i64 4,fn0 157),(.int .i64 5,fn0 158)]
theorem Jrz:Tells Tryz.prog 85 [] (.fm Jgh):=by
 refine Jf Tryz.func85 rfl rfl fun nx=> ?_
 (repeat ((conv=>whnf);first|refine ω0 ?_|refine ω1 ?_|refine ω2 ?_|refine ω3 ?_|refine ω4 rfl ?_|refine ω5 rfl ?_|refine ω6 ?_|refine ω7 ?_|refine ⟨rfl,?_⟩|refine ⟨trivial,?_⟩|refine ⟨⟨rfl,Nat.le_of_ble_eq_true rfl⟩,?_⟩|refine ⟨⟨by kernel_rfl,by kernel_rfl⟩,?_⟩|refine ⟨by decide,?_⟩|refine Jge ?_|refine Jfm ?_))
 refine AW.le (JcJ (L:= [(0, .fm Jgh)]) (bx:= []) (pm:= []) (nn:=0) [((0,nx), .mp Jgh)] rfl rfl Sf .slnil ⟨Frz.om (.head _),trivial⟩) ?_
 refine stp ?_
 refine Jd rfl Rf
end Go.Proofs.W

namespace Go.Proofs
open Go.Shelf
shelf_lay Lays.n160 Nm 160 at Tryz as Tryz.lays160
shelf_lay Lays.n137 Nm 137 at Tryz as Tryz.lays137
end Go.Proofs
namespace Go.Proofs.W
open Go.Vl Go.Shelf
set_option maxRecDepth 100000
def lettersB:ByteArray:=⟨#[97,98,99,100,101,102,103,104,105,106,107,108,109,110,111,112,113,114,115,116,117,118,119,120,121,122]⟩
def signsB:ByteArray:=⟨#[97,98,99,100,101,102,103,104,105,106,107,108,109,110,111,112,113,114,115,116,117,118,119,120,121,122,48,49,50,51,52,53,54,55,56,57,95]⟩
theorem Jtv (s:ByteArray) (hs:s.size≤9223372036854775807):Tells Tryz.prog 255 [.v (.string s), .v (.string signsB)] (.v (.string ⟨(Lib.trimS s.data.toList signsB.data.toList).toArray⟩)):=
 JcX (vs:= [.string s, .string signsB]) ⟨_,Tryz.func255,rfl,rfl⟩ fun w=> Any.strings_Trim_laid Tryz.lays160 (by kernel_rfl) s signsB w hs Dc (ascii_of_all Dc)
theorem Jow (s:ByteArray) (c:Int):Tells Tryz.prog 256 [.v (.string s), .v (.int .u8 c)] (.v (.int .i64 (Lib.indexByte s.data.toList c.toNat.toUInt8))):=
 JcX (vs:= [.string s, .int .u8 c]) ⟨_,Tryz.func256,rfl,rfl⟩ fun w=> (Any.strings_IndexByte Tryz.lays137 s c w).mono fun e w' ⟨h1,h2⟩=> ⟨h1,by subst h2;exact ⟨rfl,rfl,rfl,Nat.le_refl _,fun _ _=> rfl⟩⟩
theorem JgA {p:UInt8→Bool}:∀ {l:List UInt8},l.dropWhile p= []↔l.all p=true
 | []=> by simp
 | x::l=> by
   rw [List.dropWhile_cons,List.all_cons]
   cases h:p x
   ·simp
   ·simp only [if_true,Bool.true_and];exact JgA
theorem Jkp {p:UInt8→Bool}:∀ {l:List UInt8} {y:UInt8} {ys:List UInt8},l.dropWhile p=y::ys→p y=false
 | [],y,ys,h=> by simp at h
 | x::l,y,ys,h=> by
   rw [List.dropWhile_cons] at h
   cases hx:p x
   ·rw [hx] at h
    simp at h
    rw [← h.1];exact hx
   ·rw [hx] at h
    simp only [if_true] at h
    exact Jkp h
theorem Jmm (l cs:List UInt8):Lib.trimS l cs= []↔l.all (cs.contains ·)=true:=by
 unfold Lib.trimS Lib.trimLeftS Lib.trimRightS
 rw [JgA,List.all_reverse]
 constructor
 ·intro h
  cases hq:l.reverse.dropWhile (cs.contains ·) with
  | nil=> rw [JgA,List.all_reverse] at hq;exact hq
  | cons y ys=>
    have hy:=Jkp hq
    rw [hq,List.all_cons,hy] at h
    cases h
 ·intro h
  have:l.reverse.dropWhile (cs.contains ·)= []:=by rw [JgA,List.all_reverse];exact h
  rw [this];rfl
theorem JrA (l:List UInt8) (c:UInt8):(0≤Lib.indexByte l c↔c∈l)∧-1≤Lib.indexByte l c:=by
 induction l with
 | nil=> simp [Lib.indexByte]
 | cons b l ih=>
   obtain ⟨h1,h2⟩:=ih
   unfold Lib.indexByte
   by_cases hb:b=c
   ·subst hb;simp
   ·have hbe:(b ==c)=false:=by simpa using hb
    rw [hbe]
    simp only [Bool.false_eq_true,if_false]
    by_cases hi:Lib.indexByte l c=-1
    ·have:¬c∈l:=fun h=> by have:=h1.2 h;omega
     rw [if_pos (by rw [hi];rfl)]
     simp [this,Ne.symm hb]
    ·rw [if_neg (by simpa using hi)]
     have hm:c∈l:=h1.1 Om
     simp [hm]
     omega
def Jht:List UInt8:= [100,101,102,97,117,108,116]
def JrB:List UInt8:= [120,51,50]
def Jay (l:List UInt8):Bool:= !(l == [])&& (!(l ==Jht)&& (!(l ==JrB)&& (decide (l.length≤30)&& (l.all (signsB.data.toList.contains ·)&& lettersB.data.toList.contains (l.headD 0)))))
theorem JrC {l:List UInt8} (h:false= !(l == [])):Jay l=false:=by rw [Jay,← h];rfl
theorem JrD {l:List UInt8} (h:false= !(l ==Jht)):Jay l=false:=by rw [Jay,← h];simp
theorem JrE {l:List UInt8} (h:false= !(l ==JrB)):Jay l=false:=by rw [Jay,← h];simp
theorem JrF {l:List UInt8} (h:¬l.length≤30):Jay l=false:=by rw [Jay,decide_eq_false h];simp
theorem JrG {l : List UInt8} (h : ¬ l.all (signsB.data.toList.contains ·) = true) : Jay l = false := by rw [Jay, Bool.not_eq_true _ |>.mp h]; simp
theorem Jvq {l:List UInt8} (h1:true= !(l == [])) (h2:true= !(l ==Jht)) (h3:true= !(l ==JrB)) (h4:l.length≤30) (h5:l.all (signsB.data.toList.contains ·)=true):Jay l=lettersB.data.toList.contains (l.headD 0):=by
 rw [Jay,← h1,← h2,← h3,decide_eq_true h4,h5];rfl
theorem Jox {s:ByteArray} (h:¬s.data.toList= []):0 < s.size:=by
 rcases Nat.eq_zero_or_pos s.size with h0 | h0
 ·exfalso;apply h
  have:s.data.toList.length=0:=h0
  exact List.length_eq_zero_iff.1 this
 ·exact h0
theorem Jtw (l:List UInt8):(⟨l.toArray⟩:ByteArray).toList=l:=by rw [Lib.toList_data]
theorem Jkq (s:ByteArray) (hs:s.size≤9223372036854775807):Tells Tryz.prog 185 [.v (.string s)] (Jb (Jay s.data.toList)):=by
 have hsz:s.size=s.data.toList.length:=rfl
 refine Jf Tryz.func185 rfl rfl fun nx=> ?_
 refine stp ?_
 intro c t1
 rw [Lib.toList_data,Lib.toList_data] at t1
 cases c
 ·refine stp ?_
  exact Jd rfl (JB (JrC t1).symm)
 refine stp ?_
 intro c t2
 rw [Lib.toList_data,Lib.toList_data] at t2
 cases c
 ·refine stp ?_
  exact Jd rfl (JB (JrD t2).symm)
 refine stp ?_
 intro c t3
 rw [Lib.toList_data,Lib.toList_data] at t3
 cases c
 ·refine stp ?_
  exact Jd rfl (JB (JrE t3).symm)
 refine stp ?_
 intro c t4;cases c
 ·refine stp ?_
  exact Jd rfl (JB (JrF (by have:=Jt t4;omega)).symm)
 have h4:s.data.toList.length≤30:=by have:=Ju t4;omega
 refine stp ?_
 refine Je rfl rfl (Jtv s hs) ⟨Rf,Rf,trivial⟩ fun nx1=> ?_
 refine stp ?_
 intro c t5
 rw [Jtw,Lib.toList_data] at t5
 cases c
 ·have h5:¬Lib.trimS s.data.toList signsB.data.toList= []:=by simpa using t5
  rw [Jmm] at h5
  refine stp ?_
  exact Jd rfl (JB (JrG h5).symm)
 have h5:Lib.trimS s.data.toList signsB.data.toList= []:=by simpa using t5
 rw [Jmm] at h5
 have h0:¬s.data.toList= []:=by simpa using t1
 refine stp ?_
 refine ⟨⟨by decide,by have:=Jox h0;show (0:Int) < (s.size:Int);omega⟩, ?_⟩
 refine stp ?_
 refine Je rfl rfl (Jow lettersB _) ⟨Rf,Rf,trivial⟩ fun nx2=> ?_
 refine stp ?_
 intro c t6
 refine stp ?_
 have e1:(((s.data.getD (Int.toNat 0) 0).toNat:Int)).toNat.toUInt8=s.data.toList.headD 0:=by
  have hh:s.data.getD 0 0=s.data.toList.headD 0:=by
   have:=Jox h0
   cases hq:s.data.toList with
   | nil=> exact absurd hq h0
   | cons x xs=>
     have h2:s.data=(x::xs).toArray:=by rw [← hq]
     rw [h2];rfl
  show (((s.data.getD 0 0).toNat:Int)).toNat.toUInt8=_
  rw [hh,Int.toNat_natCast]
  simp
 refine Jd rfl (JB (t6.trans ?_))
 rw [Jvq t1 t2 t3 h4 h5,e1,Bool.eq_iff_iff,decide_eq_true_eq]
 exact (JrA _ _).1.trans (by simp)
end Go.Proofs.W

namespace Go.Proofs.W
open Go.Vl
set_option maxRecDepth 100000
theorem NoId.fm {es:List (Value×AV)} (h:∀p∈es,NoId p.2):NoId (.fm es):=fun w X g g' u hr=> by
 cases hr with
 | fm _ b ents hb hx hn hk hr=> exact .fm es b ents hb hx hn hk fun k p e hp he=> h p (List.mem_of_getElem? hp) w X g g' _ (hr k p e hp he)
theorem JrH:NoId (.fm Jgh):=NoId.fm (by
 intro p hp
 simp only [Jgh,List.mem_cons,List.not_mem_nil,or_false] at hp
 rcases hp with rfl | rfl | rfl | rfl | rfl | rfl | rfl <;> exact NoId.fn (by simp) (by simp))
theorem Jvr (c:Cnd) (n:Int):NoId (.tup [JG c,int n]):=NoId.tup (by
 intro x hx
 simp only [List.mem_cons,List.not_mem_nil,or_false] at hx
 rcases hx with rfl | rfl
 ·exact NoId.ag (by intro y hy;simp only [List.mem_cons,List.not_mem_nil,or_false] at hy;rcases hy with rfl | rfl | rfl | rfl <;> exact NoId.v _)
 ·exact NoId.v _)
theorem Jtx (c:Cnd) (ho:c.ok):Tells Tryz.prog 35 [JG c] (.tup [JG (J3 c).1,int (J3 c).2]):=by
 cases hr:JK c
 ·refine Jf Tryz.func35 rfl rfl fun nx=> ?_
  refine stp ?_
  refine Je rfl rfl (JdV c) ⟨Rf,trivial⟩ fun nx=> ?_
  rw [hr]
  refine stp ?_
  refine Je rfl rfl (JeV false) ⟨Rf,trivial⟩ fun nx=> ?_
  refine stp ?_
  rw [J3,hr]
  exact Jj rfl ⟨rfl,trivial⟩ Rf
 ·have hop:=J8.1 hr
  have key:∀f:Nat,∀q:Cnd×Nat,JaL c=q→Jbg (.int .i64 c.op) Jgh=some (fn0 f)→Tells Tryz.prog f [JG c] (.tup [JG q.1,int q.2])→Tells Tryz.prog 35 [JG c] (.tup [JG (J3 c).1,int (J3 c).2]):=by
   intro f q hq hal hf
   refine Jf Tryz.func35 rfl rfl fun nx=> ?_
   refine stp ?_
   refine Je rfl rfl (JdV c) ⟨Rf,trivial⟩ fun nx=> ?_
   rw [hr]
   refine stp ?_
   (refine JY 8 ?_ ?_ ?_ ?_;(· kernel_rfl);(· kernel_rfl);(· kernel_rfl))
   refine stp ?_
   refine Jan (JV rfl rfl Jrz trivial JrH) ?_
   refine stp ?_
   refine Jr (b:=fn0 f) (by
    show Je8 (Jbg (.int .i64 c.op) Jgh) _ false=_
    rw [hal];rfl) ?_
   refine stp ?_
   refine Jan (JV rfl rfl hf ⟨Rf,trivial⟩ (Jvr _ _)) ?_
   refine stp ?_
   rw [J3,if_pos hr,hq]
   exact Jj rfl ⟨rfl,trivial⟩ Rf
  obtain ⟨arg,op,mask,value⟩:=c
  dsimp only at hop
  have h7:op=1∨op=2∨op=3∨op=4∨op=5∨op=6∨op=7:=by omega
  rcases h7 with rfl | rfl | rfl | rfl | rfl | rfl | rfl
  ·exact key _ (⟨arg,1,mask,value⟩,0) rfl rfl (Jml _)
  ·exact key _ (⟨arg,2,mask,value⟩,0) rfl rfl (Jml _)
  ·exact key _ (JaH ⟨arg,3,mask,value⟩ value) rfl rfl (Jrv _)
  ·exact key _ (Jko ⟨arg,4,mask,value⟩) rfl rfl (Jrx _ ho)
  ·exact key _ (Jh7 ⟨arg,5,mask,value⟩) rfl rfl (Jry _ ho)
  ·exact key _ (Jba ⟨arg,6,mask,value⟩ value) rfl rfl (Jrw _)
  ·exact key _ (Jdf ⟨arg,7,mask,value⟩) rfl rfl (Jtu _ ho)
theorem Jlr {a b:Nat} (ha:a < 18446744073709551616) (hb:b < 18446744073709551616):Jca .and .u64 a b=((a&&& b:Nat):Int):=
 Jn8 (k:= .u64) ha hb (by
  have:a&&& b≤a:=Nat.and_le_left
  simp [IntKind.wrap,IntKind.signed,IntKind.bits] at this⊢
  omega)
end Go.Proofs.W

namespace Go.Proofs.W
open Go.Vl
set_option maxRecDepth 100000
theorem JrI (a:Nat) (c:Cnd):Tells Tryz.prog 159 [u64 a,JG c] (Jb (decide (a=c.value))):=by
 refine Jf Tryz.func159 rfl rfl fun nx=> ?_
 refine stp ?_
 intro c h;cases c
 all_goals
  refine stp ?_
  refine Jd rfl (JB ?_)
  (try simp only [JaX, JaY, JaZ, Ja0, JaN, JaO] at *)
  first | omega | (simp;omega)
theorem JrJ (a:Nat) (c:Cnd):Tells Tryz.prog 160 [u64 a,JG c] (Jb (!decide (a=c.value))):=by
 refine Jf Tryz.func160 rfl rfl fun nx=> ?_
 refine stp ?_
 intro c h;cases c
 all_goals
  refine stp ?_
  refine Jd rfl (JB ?_)
  (try simp only [JaX, JaY, JaZ, Ja0, JaN, JaO] at *)
  first | omega | (simp;omega)
theorem JrK (a:Nat) (c:Cnd):Tells Tryz.prog 161 [u64 a,JG c] (Jb (decide (a < c.value))):=by
 refine Jf Tryz.func161 rfl rfl fun nx=> ?_
 refine stp ?_
 intro c h;cases c
 all_goals
  refine stp ?_
  refine Jd rfl (JB ?_)
  (try simp only [JaX, JaY, JaZ, Ja0, JaN, JaO] at *)
  first | omega | (simp;omega)
theorem JrL (a:Nat) (c:Cnd):Tells Tryz.prog 162 [u64 a,JG c] (Jb (decide (a≤c.value))):=by
 refine Jf Tryz.func162 rfl rfl fun nx=> ?_
 refine stp ?_
 intro c h;cases c
 all_goals
  refine stp ?_
  refine Jd rfl (JB ?_)
  (try simp only [JaX, JaY, JaZ, Ja0, JaN, JaO] at *)
  first | omega | (simp;omega)
theorem JrM (a:Nat) (c:Cnd):Tells Tryz.prog 163 [u64 a,JG c] (Jb (decide (a > c.value))):=by
 refine Jf Tryz.func163 rfl rfl fun nx=> ?_
 refine stp ?_
 intro c h;cases c
 all_goals
  refine stp ?_
  refine Jd rfl (JB ?_)
  (try simp only [JaX, JaY, JaZ, Ja0, JaN, JaO] at *)
  first | omega | (simp;omega)
theorem JrN (a:Nat) (c:Cnd):Tells Tryz.prog 164 [u64 a,JG c] (Jb (decide (a≥c.value))):=by
 refine Jf Tryz.func164 rfl rfl fun nx=> ?_
 refine stp ?_
 intro c h;cases c
 all_goals
  refine stp ?_
  refine Jd rfl (JB ?_)
  (try simp only [JaX, JaY, JaZ, Ja0, JaN, JaO] at *)
  first | omega | (simp;omega)
theorem JrO (a:Nat) (c:Cnd) (ha:a < 18446744073709551616) (ho:c.ok):Tells Tryz.prog 165 [u64 a,JG c] (Jb (decide (a&&& c.mask=c.value))):=by
 refine Jf Tryz.func165 rfl rfl fun nx=> ?_
 refine stp ?_
 intro c h;cases c
 all_goals
  rw [Jlr ha ho.1] at h
  refine stp ?_
  refine Jd rfl (JB ?_)
  (try simp only [JaX, JaY, JaZ, Ja0, JaN, JaO] at *)
  first | omega | (simp;omega)
def Jh (s:ByteArray):AV:= .v (.string s)
def Jls:List AV:= [
 .ag [Jh ⟨#[61,61]⟩,fn0 159],
 .ag [Jh ⟨#[33,61]⟩,fn0 160],
 .ag [Jh ⟨#[60]⟩,fn0 161],
 .ag [Jh ⟨#[60,61]⟩,fn0 162],
 .ag [Jh ⟨#[62]⟩,fn0 163],
 .ag [Jh ⟨#[62,61]⟩,fn0 164],
 .ag [Jh ⟨#[38]⟩,fn0 165]]
theorem Joy:Tells Tryz.prog 86 [] (.sl 2 7 (Jdo Jls)):=by
 refine Jf Tryz.func86 rfl rfl fun nx=> ?_
 refine stp ?_
 refine Jd rfl (Jli ⟨⟨⟨⟨⟨⟨⟨trivial,rfl⟩,rfl⟩,rfl⟩,rfl⟩,rfl⟩,rfl⟩,rfl⟩)
def JwA (a0 a1 a2 a3 a4 a5:Nat):AV:= .ag [u64 a0,u64 a1,u64 a2,u64 a3,u64 a4,u64 a5]
theorem Jty (c:Cnd):NoId (JG c):=NoId.ag (by intro y hy;simp only [List.mem_cons,List.not_mem_nil,or_false] at hy;rcases hy with rfl | rfl | rfl | rfl <;> exact NoId.v _)
theorem Joz:NoId (.sl 2 7 (Jdo Jls)):=NoId.sl (by
 intro i hi x hx
 match i,hi with
 | 0,_ | 1,_ | 2,_ | 3,_ | 4,_ | 5,_ | 6,_=> rcases List.mem_cons.1 hx with rfl | hx;exact NoId.v _;rcases List.mem_cons.1 hx with rfl | hx;exact NoId.fn (by simp) (by simp);cases hx)
theorem ixc {c i:Nat} (h:c=1):0+Int.toNat ((i:Nat):Int) * c=i:=by subst h;omega
theorem JdG (c:Cnd) (a0 a1 a2 a3 a4 a5:Nat) (hr:JK c=true) (k f:Nat) (hk:c.op=k+1) (hk7:k < 7) (s:AV) (hf:Jdo Jls k= .ag [s,fn0 f]) (b:Bool)
 (hb:Tells Tryz.prog f [u64 ([a0,a1,a2,a3,a4,a5].getD c.arg.toNat 0:Nat),JG c] (Jb b)):
 Tells Tryz.prog 39 [JG c,JwA a0 a1 a2 a3 a4 a5] (Jb b):=by
 obtain ⟨h1,h2,h3,h4,h5⟩:=J8.1 hr
 obtain ⟨arg,op,mask,value⟩:=c
 dsimp only at h1 h2 h3 h4 h5 hk
 obtain ⟨i,rfl⟩:∃i:Nat,arg=i:=⟨arg.toNat,by omega⟩
 replace h2:i≤5:=by omega
 refine Jf Tryz.func39 rfl rfl fun nx=> ?_
 refine stp ?_
 (refine JY 17 ?_ ?_ ?_ ?_;(· kernel_rfl);(· kernel_rfl);(· kernel_rfl))
 refine stp ?_
 refine Jan (JV rfl rfl (JdV _) ⟨Rf,trivial⟩ (NoId.v _)) ?_
 rw [hr]
 refine stp ?_
 refine Jan (JV rfl rfl Joy trivial Joz) ?_
 have hx:IntKind.i64.wrap (op - 1)=(k:Int):=by rw [Jai Om Om];omega
 refine stp ?_
 refine ⟨⟨by rw [hx];omega,by rw [hx];omega⟩,Jr (b:= .rp [s,fn0 f]) (by rw [hx];show AV.rp (Jdo Jls k).cells=_;rw [hf];rfl) ?_⟩
 refine stp ?_
 refine ⟨⟨h1,by show (i:Int) < (6:Int);omega⟩,Jr (b:= .bp (1,nx+1) i) (congrArg (AV.bp (1,nx+1)) (ixc (by kernel_rfl))) ?_⟩
 (conv=> whnf)
 refine ⟨⟨rfl,by show i+1≤6;omega⟩,Jr (b:=u64 ([a0,a1,a2,a3,a4,a5].getD i 0:Nat)) (by
  match i,h2 with
  | 0,_ | 1,_ | 2,_ | 3,_ | 4,_ | 5,_=> rfl) ?_⟩
 refine stp ?_
 refine Jan (JV rfl rfl hb ⟨Rf,Rf,trivial⟩ (NoId.v _)) ?_
 cases b
 ·refine stp ?_
  exact Jd rfl Rf
 ·refine stp ?_
  exact Jd rfl Rf
theorem JrP (c:Cnd) (a0 a1 a2 a3 a4 a5:Nat) (ho:c.ok) (ha:∀i, [a0,a1,a2,a3,a4,a5].getD i 0 < 18446744073709551616):
 Tells Tryz.prog 39 [JG c,JwA a0 a1 a2 a3 a4 a5] (Jb (JK c&& JaC c ([a0,a1,a2,a3,a4,a5].getD c.arg.toNat 0))):=by
 cases hr:JK c
 ·refine Jf Tryz.func39 rfl rfl fun nx=> ?_
  refine stp ?_
  (refine JY 17 ?_ ?_ ?_ ?_;(· kernel_rfl);(· kernel_rfl);(· kernel_rfl))
  refine stp ?_
  refine Jan (JV rfl rfl (JdV c) ⟨Rf,trivial⟩ (NoId.v _)) ?_
  rw [hr]
  refine stp ?_
  exact Jd rfl Rf
 ·have hop:=J8.1 hr
  rw [Bool.true_and]
  have ha':=ha c.arg.toNat
  obtain ⟨arg,op,mask,value⟩:=c
  dsimp only at hop ha'
  have h7:op=1∨op=2∨op=3∨op=4∨op=5∨op=6∨op=7:=by omega
  rcases h7 with rfl | rfl | rfl | rfl | rfl | rfl | rfl
  ·exact JdG _ _ _ _ _ _ _ hr 0 _ rfl Dc _ rfl _ (JrI _ _)
  ·exact JdG _ _ _ _ _ _ _ hr 1 _ rfl Dc _ rfl _ (JrJ _ _)
  ·exact JdG _ _ _ _ _ _ _ hr 2 _ rfl Dc _ rfl _ (JrK _ _)
  ·exact JdG _ _ _ _ _ _ _ hr 3 _ rfl Dc _ rfl _ (JrL _ _)
  ·exact JdG _ _ _ _ _ _ _ hr 4 _ rfl Dc _ rfl _ (JrM _ _)
  ·exact JdG _ _ _ _ _ _ _ hr 5 _ rfl Dc _ rfl _ (JrN _ _)
  ·exact JdG _ _ _ _ _ _ _ hr 6 _ rfl Dc _ rfl _ (JrO _ _ ha' ho)
end Go.Proofs.W

namespace Go.Proofs.W
open Go.Vl
set_option maxRecDepth 100000
def Jfo (n:Int):AV:= .fn (.func 362) [] [.rp [int n]]
theorem Jvs (n:Int) (h:0≤n∧n≤100000):Tells Tryz.prog 362 [.rp [int n]] (int (n - 1)):=by
 refine Jf Tryz.func362 rfl rfl fun nx=> ?_
 refine stp ?_
 refine Jd rfl (Jk (Jai Om Om))
theorem JoA (n:Int):Tells Tryz.prog 301 [int n] (Jfo n):=by
 refine Jf Tryz.func301 rfl rfl fun nx=> ?_
 (repeat ((conv=>whnf);first|refine ω0 ?_|refine ω1 ?_|refine ω2 ?_|refine ω3 ?_|refine ω4 rfl ?_|refine ω5 rfl ?_|refine ω6 ?_|refine ω7 ?_|refine ⟨rfl,?_⟩|refine ⟨trivial,?_⟩|refine ⟨⟨rfl,Nat.le_of_ble_eq_true rfl⟩,?_⟩|refine ⟨⟨by kernel_rfl,by kernel_rfl⟩,?_⟩|refine ⟨by decide,?_⟩|refine Jge ?_|refine Jfm ?_))
 refine AW.le (JcJ (L:= [(2,Jfo n)]) (bx:= []) (pm:= []) (nn:=0) [((0,nx), .c [int n])] rfl rfl Sf Sf ⟨Frz.fn trivial ⟨Frz.bp (.head _) rfl,trivial⟩,trivial⟩) ?_
 refine stp ?_
 refine Jd rfl Rf
def JfO:List AV:= [
 .ag [.v (.string ⟨#[107,105,108,108]⟩), .v (.int .u32 2147483648), .v .nilFunc],
 .ag [.v (.string ⟨#[107,105,108,108,95,116,104,114,101,97,100]⟩), .v (.int .u32 0), .v .nilFunc],
 .ag [.v (.string ⟨#[116,114,97,112]⟩), .v (.int .u32 196608), .v .nilFunc],
 .ag [.v (.string ⟨#[101,114,114,110,111]⟩), .v (.int .u32 327680),Jfo 4096],
 .ag [.v (.string ⟨#[110,111,116,105,102,121]⟩), .v (.int .u32 2143289344), .v .nilFunc],
 .ag [.v (.string ⟨#[116,114,97,99,101]⟩), .v (.int .u32 2146435072),Jfo 65536],
 .ag [.v (.string ⟨#[108,111,103]⟩), .v (.int .u32 2147221504), .v .nilFunc],
 .ag [.v (.string ⟨#[97,108,108,111,119]⟩), .v (.int .u32 2147418112), .v .nilFunc]]
def JrQ:AV:= .sl 3 8 (Jdo JfO)
theorem JjG:Tells Tryz.prog 246 [] JrQ:=by
 refine Jf Tryz.func246 rfl rfl fun nx=> ?_
 refine stp ?_
 refine Je rfl rfl (JoA 4096) ⟨Rf,trivial⟩ fun nx=> ?_
 refine stp ?_
 refine Je rfl rfl (JoA 65536) ⟨Rf,trivial⟩ fun nx=> ?_
 refine stp ?_
 refine Jd rfl (Jli ⟨⟨⟨⟨⟨⟨⟨⟨trivial,rfl⟩,rfl⟩,rfl⟩,rfl⟩,rfl⟩,rfl⟩,rfl⟩,rfl⟩)
theorem JwS (k:Int) (h:k < 1∨8 < k):Tells Tryz.prog 172 [int k] (.tup [.ag [.v (.string ⟨#[]⟩), .v (.int .u32 0), .v .nilFunc],Jb false]):=by
 refine Jf Tryz.func172 rfl rfl fun nx=> ?_
 refine stp ?_
 refine Je rfl rfl JjG trivial fun nx=> ?_
 refine stp ?_
 intro c h1;cases c
 ·refine stp ?_
  intro c h2;cases c
  ·simp at h1 h2;omega
  ·refine stp ?_
   (refine Jj rfl ?_ ?_;(· exact ⟨rfl,trivial⟩));exact Rf
 ·refine stp ?_
  (refine Jj rfl ?_ ?_;(· exact ⟨rfl,trivial⟩));exact Rf
theorem JoB (k:Nat) (h:k < 8):Tells Tryz.prog 172 [int (k+1)] (.tup [Jdo JfO k,Jb true]):=by
 refine Jf Tryz.func172 rfl rfl fun nx=> ?_
 refine stp ?_
 refine Je rfl rfl JjG trivial fun nx=> ?_
 refine stp ?_
 intro c h1;cases c
 ·refine stp ?_
  rcases k with _ | _ | _ | _ | _ | _ | _ | _ | k
  iterate 8
   ·refine ⟨⟨by decide,by decide⟩, ?_⟩
    refine stp ?_
    (refine Jj rfl ?_ ?_;(· exact ⟨rfl,trivial⟩));exact Rf
  ·omega
 ·simp at h1;omega
def Jkr (k:Int):Int:=if k=4 then 4095 else if k=6 then 65535 else 0
def act (k n:Int):AV:= .ag [int k,int n]
def JaI (k n:Int):Bool:=decide (1≤k)&& decide (k≤8)&& decide (0≤n)&& decide (n≤Jkr k)
end Go.Proofs.W

namespace Go.Proofs.W
open Go.Vl
set_option maxRecDepth 100000
theorem JcC (s:ByteArray) (c:Int):Tells Tryz.prog 242 [.ag [.v (.string s), .v (.int .u32 c), .v .nilFunc]] (int 0):=by
 refine Jf Tryz.func242 rfl rfl fun nx=> ?_
 refine stp ?_
 refine Jd rfl Rf
theorem JgB (s:ByteArray) (c n:Int) (h:0≤n∧n≤100000):Tells Tryz.prog 242 [.ag [.v (.string s), .v (.int .u32 c),Jfo n]] (int (n - 1)):=by
 refine Jf Tryz.func242 rfl rfl fun nx=> ?_
 refine stp ?_
 refine Je rfl rfl (Jvs n h) ⟨Rf,trivial⟩ fun nx=> ?_
 refine stp ?_
 refine Jd rfl Rf
theorem Jhu (k:Nat) (h:k < 8):∃s c m,Jdo JfO k= .ag [.v (.string s), .v (.int .u32 c),m]∧(m= .v .nilFunc∨∃n,m=Jfo n)∧Tells Tryz.prog 242 [Jdo JfO k] (int (Jkr (k+1))):=by
 rcases k with _ | _ | _ | _ | _ | _ | _ | _ | k
 ·exact ⟨_,_,_,rfl, .inl rfl,JcC _ _⟩
 ·exact ⟨_,_,_,rfl, .inl rfl,JcC _ _⟩
 ·exact ⟨_,_,_,rfl, .inl rfl,JcC _ _⟩
 ·exact ⟨_,_,_,rfl, .inr ⟨_,rfl⟩,JgB _ _ 4096 Dc⟩
 ·exact ⟨_,_,_,rfl, .inl rfl,JcC _ _⟩
 ·exact ⟨_,_,_,rfl, .inr ⟨_,rfl⟩,JgB _ _ 65536 Dc⟩
 ·exact ⟨_,_,_,rfl, .inl rfl,JcC _ _⟩
 ·exact ⟨_,_,_,rfl, .inl rfl,JcC _ _⟩
 ·omega
theorem JrR {k n:Int} (h:k < 1∨8 < k):JaI k n=false:=by simp [JaI];omega
theorem Jx0 (k n:Int) (m:AV) (s:ByteArray) (c:Int) (hm:m= .v .nilFunc∨∃n,m=Jfo n) (hk:1≤k∧k≤8)
 (h26:Tells Tryz.prog 172 [int k] (.tup [.ag [.v (.string s), .v (.int .u32 c),m],Jb true])) (h27:Tells Tryz.prog 242 [.ag [.v (.string s), .v (.int .u32 c),m]] (int (Jkr k))):
 Tells Tryz.prog 167 [act k n] (Jb (JaI k n)):=by
 refine Jf Tryz.func167 rfl rfl fun nx=> ?_
 refine stp ?_
 refine Je rfl rfl h26 ⟨Rf,trivial⟩ fun nx=> ?_
 rcases hm with rfl | ⟨n',rfl⟩
 all_goals
  refine stp ?_
  (refine JY 13 ?_ ?_ ?_ ?_;(· kernel_rfl);(· kernel_rfl);(· kernel_rfl))
  refine stp ?_
  intro c h1;cases c
  ·refine stp ?_
   refine Jd rfl (JB ?_)
   simp at h1;simp [JaI];omega
  refine stp ?_
  refine Jan (JV rfl rfl h27 ⟨Rf,trivial⟩ (NoId.v _)) ?_
  refine stp ?_
  intro c h2;cases c
  ·refine stp ?_
   refine Jd rfl (JB ?_)
   simp at h1 h2;simp [JaI];omega
  ·refine stp ?_
   refine Jd rfl (JB ?_)
   simp at h1 h2;simp [JaI];omega
theorem JjH (k n:Int):Tells Tryz.prog 167 [act k n] (Jb (JaI k n)):=by
 by_cases hk:k < 1∨8 < k
 ·refine Jf Tryz.func167 rfl rfl fun nx=> ?_
  refine stp ?_
  refine Je rfl rfl (JwS k hk) ⟨Rf,trivial⟩ fun nx=> ?_
  refine stp ?_
  (refine JY 13 ?_ ?_ ?_ ?_;(· kernel_rfl);(· kernel_rfl);(· kernel_rfl))
  refine stp ?_
  refine Jd rfl (JB (JrR hk).symm)
 ·obtain ⟨j,hj,rfl⟩:∃j:Nat,j < 8∧k=(j:Int)+1:=⟨(k - 1).toNat,by omega,by omega⟩
  obtain ⟨s,c,m,hr,ho,hm⟩:=Jhu j hj
  have h26:=JoB j hj
  rw [hr] at h26 hm
  exact Jx0 _ n m s c ho Om h26 hm
abbrev A2:=Int×Int
def Jlt (a:A2):AV:=act a.1 a.2
theorem Jfp {α:Type} {p:α→Bool} {l:List α} {i:Nat} (d:α) (hi:i < l.length) (hb:∀j,j < i→p (l.getD j d)=false) (h:p (l.getD i d)=true):l.findIdx? p=some i:=by
 rw [List.findIdx?_eq_some_iff_getElem]
 refine ⟨hi,by simpa [List.getD,hi] using h,fun j hj=> ?_⟩
 have:=hb j hj
 have hj':j < l.length:=by omega
 simpa [List.getD,hj'] using this
theorem JdH {α:Type} {p:α→Bool} {l:List α} (d:α) (hb:∀j,j < l.length→p (l.getD j d)=false):l.findIdx? p=none:=by
 rw [List.findIdx?_eq_none_iff]
 intro x hx
 obtain ⟨j,hj,rfl⟩:=List.getElem_of_mem hx
 have:=hb j hj
 simpa [List.getD,hj] using this
def JdI:Option Nat→Int
 | some i=> i
 | none=> -1
theorem Jd6 (o:Option Nat):decide (0≤JdI o)=o.isSome:=by cases o <;> simp [JdI]
end Go.Proofs.W

namespace Go.Proofs.W
open Go.Vl
set_option maxRecDepth 100000
structure Rul where
 name:ByteArray
 act:A2
 conds:List Cnd
structure Pol where
 dflt:A2
 x32:Bool
 rules:List Rul
def Jl:Rul:=⟨⟨#[]⟩,(0,0), []⟩
def Jap (r:Rul):AV:= .ag [Jh r.name,int r.act.1,int r.act.2,Jam r.conds]
def Ji (l:List Rul):AV:=JT 4 Jap Jl l
def JbR (p:Pol):AV:= .ag [int p.dflt.1,int p.dflt.2,Jb p.x32,Ji p.rules]
theorem Jvt (l:List Int) (p:Int→Bool) (f:Nat) (hl:l.length≤1000000000) (hp:∀i,i < l.length→Tells Tryz.prog f [int (l.getD i 0)] (Jb (p (l.getD i 0)))):
 Tells Tryz.prog 317 [JT 1 int 0 l,fn0 f] (int (JdI (l.findIdx? p))):=by
 refine Jf Tryz.func317 rfl rfl fun nx=> ?_
 refine stp ?_
 refine Jx (fun s:Nat×Nat=> mk 19 [(0,JT 1 int 0 l),(1,fn0 f),(7,int l.length),(8,int s.1)] ⟨[], [],s.2,0⟩) (fun s=> s.1≤l.length∧∀j,j < s.1→p (l.getD j 0)=false) (fun s=> l.length - s.1) ?_ ?_
 ·exact ⟨(0,nx),⟨by simp,by intro j hj;simp at hj⟩,Jaz rfl rfl ⟨Rf,Rf,Rf,Rf,trivial⟩⟩
 ·rintro ⟨i,nx⟩ ⟨h1,h2⟩
  dsimp only at h1 h2
  refine stp ?_
  intro c h3;cases c
  ·have h3:=Jt h3
   dsimp only at h3
   refine stp ?_
   refine Jd rfl (Jk ?_)
   rw [JdH 0 (fun j hj=> h2 j Om)];rfl
  ·have h3:=Ju h3
   dsimp only at h3
   have hi:i < l.length:=by omega
   refine stp ?_
   refine ⟨⟨by dsimp only;omega,by dsimp only;omega⟩, ?_⟩
   refine stp ?_
   refine Je rfl rfl (hp i hi) ⟨Rf,trivial⟩ fun nx'=> ?_
   intro c h4;cases c
   ·refine stp ?_
    refine back (i+1,nx') ⟨by dsimp only;omega,fun j hj=> ?_⟩ Dm (Jaz rfl rfl ⟨Rf,Rf,Rf,Jk (J4 Dm),trivial⟩)
    dsimp only at hj
    rcases Nat.lt_or_ge j i with h | h
    ·exact h2 j h
    ·obtain rfl:j=i:=by omega
     exact h4.symm
   ·refine stp ?_
    refine Jd rfl (Jk ?_)
    rw [Jfp 0 hi h2 h4.symm];rfl
theorem JoC (l:List Int) (p:Int→Bool) (f:Nat) (hl:l.length≤1000000000) (hp:∀i,i < l.length→Tells Tryz.prog f [int (l.getD i 0)] (Jb (p (l.getD i 0)))):
 Tells Tryz.prog 257 [JT 1 int 0 l,fn0 f] (Jb (l.any p)):=by
 refine Jf Tryz.func257 rfl rfl fun nx=> ?_
 refine stp ?_
 refine Je rfl rfl (Jvt l p f hl hp) ⟨Rf,Rf,trivial⟩ fun nx'=> ?_
 refine stp ?_
 intro c h;cases c
 all_goals
  refine stp ?_
  refine Jd rfl (JB ?_)
  rw [h,← List.findIdx?_isSome]
  exact Jd6 _
theorem Jvu (l:List Cnd) (p:Cnd→Bool) (f:Nat) (hl:l.length≤1000000000) (hp:∀i,i < l.length→Tells Tryz.prog f [JG (l.getD i cnd0)] (Jb (p (l.getD i cnd0)))):
 Tells Tryz.prog 188 [JT 4 JG cnd0 l,fn0 f] (int (JdI (l.findIdx? p))):=by
 refine Jf Tryz.func188 rfl rfl fun nx=> ?_
 refine stp ?_
 refine Jx (fun s:Nat×Nat=> mk 19 [(0,JT 4 JG cnd0 l),(1,fn0 f),(7,int l.length),(8,int s.1)] ⟨[], [],s.2,0⟩) (fun s=> s.1≤l.length∧∀j,j < s.1→p (l.getD j cnd0)=false) (fun s=> l.length - s.1) ?_ ?_
 ·exact ⟨(0,nx),⟨by simp,by intro j hj;simp at hj⟩,Jaz rfl rfl ⟨Rf,Rf,Rf,Rf,trivial⟩⟩
 ·rintro ⟨i,nx⟩ ⟨h1,h2⟩
  dsimp only at h1 h2
  refine stp ?_
  intro c h3;cases c
  ·have h3:=Jt h3
   dsimp only at h3
   refine stp ?_
   refine Jd rfl (Jk ?_)
   rw [JdH cnd0 (fun j hj=> h2 j Om)];rfl
  ·have h3:=Ju h3
   dsimp only at h3
   have hi:i < l.length:=by omega
   refine stp ?_
   refine ⟨⟨by dsimp only;omega,by dsimp only;omega⟩, ?_⟩
   refine stp ?_
   refine Je rfl rfl (hp i hi) ⟨Rf,trivial⟩ fun nx'=> ?_
   intro c h4;cases c
   ·refine stp ?_
    refine back (i+1,nx') ⟨by dsimp only;omega,fun j hj=> ?_⟩ Dm (Jaz rfl rfl ⟨Rf,Rf,Rf,Jk (J4 Dm),trivial⟩)
    dsimp only at hj
    rcases Nat.lt_or_ge j i with h | h
    ·exact h2 j h
    ·obtain rfl:j=i:=by omega
     exact h4.symm
   ·refine stp ?_
    refine Jd rfl (Jk ?_)
    rw [Jfp cnd0 hi h2 h4.symm];rfl
theorem JoD (l:List Cnd) (p:Cnd→Bool) (f:Nat) (hl:l.length≤1000000000) (hp:∀i,i < l.length→Tells Tryz.prog f [JG (l.getD i cnd0)] (Jb (p (l.getD i cnd0)))):
 Tells Tryz.prog 102 [JT 4 JG cnd0 l,fn0 f] (Jb (l.any p)):=by
 refine Jf Tryz.func102 rfl rfl fun nx=> ?_
 refine stp ?_
 refine Je rfl rfl (Jvu l p f hl hp) ⟨Rf,Rf,trivial⟩ fun nx'=> ?_
 refine stp ?_
 intro c h;cases c
 all_goals
  refine stp ?_
  refine Jd rfl (JB ?_)
  rw [h,← List.findIdx?_isSome]
  exact Jd6 _
theorem Jvv (l:List Rul) (p:Rul→Bool) (f:Nat) (hl:l.length≤1000000000) (hp:∀i,i < l.length→Tells Tryz.prog f [Jap (l.getD i Jl)] (Jb (p (l.getD i Jl)))):
 Tells Tryz.prog 106 [JT 4 Jap Jl l,fn0 f] (int (JdI (l.findIdx? p))):=by
 refine Jf Tryz.func106 rfl rfl fun nx=> ?_
 refine stp ?_
 refine Jx (fun s:Nat×Nat=> mk 19 [(0,JT 4 Jap Jl l),(1,fn0 f),(7,int l.length),(8,int s.1)] ⟨[], [],s.2,0⟩) (fun s=> s.1≤l.length∧∀j,j < s.1→p (l.getD j Jl)=false) (fun s=> l.length - s.1) ?_ ?_
 ·exact ⟨(0,nx),⟨by simp,by intro j hj;simp at hj⟩,Jaz rfl rfl ⟨Rf,Rf,Rf,Rf,trivial⟩⟩
 ·rintro ⟨i,nx⟩ ⟨h1,h2⟩
  dsimp only at h1 h2
  refine stp ?_
  intro c h3;cases c
  ·have h3:=Jt h3
   dsimp only at h3
   refine stp ?_
   refine Jd rfl (Jk ?_)
   rw [JdH Jl (fun j hj=> h2 j Om)];rfl
  ·have h3:=Ju h3
   dsimp only at h3
   have hi:i < l.length:=by omega
   refine stp ?_
   refine ⟨⟨by dsimp only;omega,by dsimp only;omega⟩, ?_⟩
   refine stp ?_
   refine Je rfl rfl (hp i hi) ⟨Rf,trivial⟩ fun nx'=> ?_
   intro c h4;cases c
   ·refine stp ?_
    refine back (i+1,nx') ⟨by dsimp only;omega,fun j hj=> ?_⟩ Dm (Jaz rfl rfl ⟨Rf,Rf,Rf,Jk (J4 Dm),trivial⟩)
    dsimp only at hj
    rcases Nat.lt_or_ge j i with h | h
    ·exact h2 j h
    ·obtain rfl:j=i:=by omega
     exact h4.symm
   ·refine stp ?_
    refine Jd rfl (Jk ?_)
    rw [Jfp Jl hi h2 h4.symm];rfl
theorem Jvw (l:List Rul) (p:Rul→Bool) (f:Nat) (hl:l.length≤1000000000) (hp:∀i,i < l.length→Tells Tryz.prog f [Jap (l.getD i Jl)] (Jb (p (l.getD i Jl)))):
 Tells Tryz.prog 168 [JT 4 Jap Jl l,fn0 f] (Jb (l.any p)):=by
 refine Jf Tryz.func168 rfl rfl fun nx=> ?_
 refine stp ?_
 refine Je rfl rfl (Jvv l p f hl hp) ⟨Rf,Rf,trivial⟩ fun nx'=> ?_
 refine stp ?_
 intro c h;cases c
 all_goals
  refine stp ?_
  refine Jd rfl (JB ?_)
  rw [h,← List.findIdx?_isSome]
  exact Jd6 _
end Go.Proofs.W

namespace Go.Proofs.W
open Go.Vl
set_option maxRecDepth 100000
def JrS (s:ByteArray):AV:= .ag [Jh s,int (-1),int (-1),int (-1),int (-1),int (-1),int 0,int 0]
def Jel (n:Int):Bool:=decide (n < -1)|| decide (n > 1073741823)
theorem Jh8 (n:Int):Tells Tryz.prog 258 [int n] (Jb (Jel n)):=by
 refine Jf Tryz.func258 rfl rfl fun nx=> ?_
 refine stp ?_
 intro c t1;cases c
 ·refine stp ?_
  intro c t2;cases c
  ·refine stp ?_
   exact Jd rfl (JB (by rw [Jel,← t1,← t2];rfl))
  ·refine stp ?_
   exact Jd rfl (JB (by rw [Jel,← t1,← t2];rfl))
 ·refine stp ?_
  exact Jd rfl (JB (by rw [Jel,← t1];rfl))
theorem Jp1 (s:ByteArray):Tells Tryz.prog 186 [JrS s] (Jb true):=by
 have hc:=JoC [-1,-1,-1,-1,-1] Jel 258 Dc (fun i _=> Jh8 _)
 rw [show [(-1:Int),-1,-1,-1,-1].any Jel=false by decide] at hc
 refine Jf Tryz.func186 rfl rfl fun nx=> ?_
 (refine JW ?_;refine Jae ?_;refine JW ?_)
 refine JbD (n:=30) (nx:=nx+1) (nn:=1) (pm:= []) (bx:= []) (L:= [(1, .rp [Jh s,int (-1),int (-1),int (-1),int (-1),int (-1),int 0,int 0])]) (df:=some []) [((0,nx), .c [Jh s,int (-1),int (-1),int (-1),int (-1),int (-1),int 0,int 0])] rfl rfl rfl (List.Perm.refl _) Sf ⟨Frz.bp (.head _) rfl,trivial⟩ ?_
 refine JU (fun n=> match n with | 0=> true | _=> false) 2 ?_
 refine stp ?_
 refine Jl9 (n:=5) (e:=3) (cs:= [int (-1),int (-1),int (-1),int (-1),int (-1),int 0,int 0]) rfl rfl Tryz.underlying73 Tryz.underlying3 (by kernel_rfl) Dc Dc (by simp [int,AV.cells]) ?_
 refine stp ?_
 refine Je rfl rfl hc ⟨AVle.sl_fun fun k hk=> ?_,Rf,trivial⟩ fun nx1=> ?_
 ·match k,hk with
  | 0,_ | 1,_ | 2,_ | 3,_ | 4,_=> rfl
 refine stp ?_
 exact Jd rfl Rf
def m1A:AV:= .ag [int (-1),int (-1),int (-1),int (-1),int (-1)]
set_option maxHeartbeats 1000000 in
theorem Jnh (s:ByteArray) (hs:s.size≤9223372036854775807) (b:Bool) (hb:Jay s.data.toList=b):Tells Tryz.prog 99 [.sl 8 1 (fun _=> JrS s)] (.tup [int 0,int (if b then 0 else 13)]):=by
 have hn:=Jkq s hs
 rw [hb] at hn
 have hr:=Jp1 s
 refine Jf Tryz.func99 rfl rfl fun nx=> ?_
 refine stp ?_
 refine Jx (fun y:Bool×Nat=> mk 88 [(2,int 0),(3,int 0),(14, .sl 8 1 (fun _=> JrS s)),(15,int 1),(16,int (bif y.1 then 1 else 0))] ⟨[], [],y.2,0⟩) (fun y=> y.1=true→b=true) (fun y=> if y.1 then 0 else 1) ?_ ?_
 ·exact ⟨(false,nx+1),(fun h=> by cases h),Jm (pm:= []) [] [] rfl rfl (List.nil_sublist _) Sf trivial trivial ⟨Rf,Rf,Rf,Rf,Rf,trivial⟩⟩
 ·rintro ⟨y,nx1⟩ hy
  cases y
  ·refine stp ?_
   refine ⟨⟨by show (0:Int)≤0;decide,by show (0:Int) < 1;decide⟩, ?_⟩
   refine stp ?_
   refine Je rfl rfl hn ⟨Rf,trivial⟩ fun nx2=> ?_
   cases b
   ·refine stp ?_
    exact Jd rfl Rf
   ·refine stp ?_
    (refine JY 13 ?_ ?_ ?_ ?_;(· kernel_rfl);(· kernel_rfl);(· kernel_rfl))
    refine stp ?_
    refine Je rfl rfl hr ⟨Rf,trivial⟩ fun nx3=> ?_
    refine stp ?_
    refine Jx (fun z:Nat×Nat=> mk 88 [(2,int 0),(3,int 0),(5,int 0),(6, .bp (0,nx1) 0),(14, .sl 8 1 (fun _=> JrS s)),(15,int 1),(16,int 0),(59,m1A),(60,int z.1)] ⟨[((0,nx1), .c [Jh s,int (-1),int (-1),int (-1),int (-1),int (-1),int 0,int 0])], [],z.2,1⟩) (fun z=> z.1≤5) (fun z=> 5 - z.1) ?_ ?_
    ·exact ⟨(0,nx3),Nat.zero_le _,Jm (pm:= []) _ [] rfl rfl Sf Sf ⟨rfl,OwnLe.refl _,trivial⟩ trivial ⟨Rf,Rf,Rf,Rf,Rf,Rf,Rf,Rf,Rf,trivial⟩⟩
    ·rintro ⟨k,nx4⟩ hk
     dsimp only at hk
     rcases k with _ | _ | _ | _ | _ | _ | k
     iterate 5
      ·refine stp ?_
       refine back (_+1,nx4) Dm Dm (Jm (pm:= []) _ [] rfl rfl Sf Sf ⟨rfl,OwnLe.refl _,trivial⟩ trivial ⟨Rf,Rf,Rf,Rf,Rf,Rf,Rf,Rf,Rf,trivial⟩)
     ·refine stp ?_
      exact back (true,nx4) (fun _=> rfl) (by show 0 < 1;decide) (Jm (pm:= []) [] [] rfl rfl (List.nil_sublist _) Sf trivial trivial ⟨Rf,Rf,Rf,Rf,Rf,trivial⟩)
     ·omega
  ·have hbt:=hy rfl
   rw [hbt]
   refine stp ?_
   exact Jd rfl Rf
end Go.Proofs.W

namespace Go.Proofs.W
open Go.Vl
set_option maxRecDepth 100000
structure TRow where
 name:ByteArray
 a0:Int
 a1:Int
 a2:Int
 a3:Int
 a4:Int
 mux:Int
 sub:Int
def TRow.num (r:TRow):Nat→Int
 | 0=> r.a0
 | 1=> r.a1
 | 2=> r.a2
 | 3=> r.a3
 | _=> r.a4
def Jg:TRow:=⟨⟨#[]⟩,0,0,0,0,0,0,0⟩
def Ja1 (r:TRow):List AV:= [Jh r.name,int r.a0,int r.a1,int r.a2,int r.a3,int r.a4,int r.mux,int r.sub]
def Js (r:TRow):AV:= .ag (Ja1 r)
def JJ (l:List TRow):AV:=JT 8 Js Jg l
def Jx1 (r:TRow):AV:= .ag [int r.a0,int r.a1,int r.a2,int r.a3,int r.a4]
theorem JwB:PairT Tryz.prog 351 3:=⟨by kernel_rfl,by kernel_rfl,by kernel_rfl,by kernel_rfl,fun _=> rfl,fun _=> rfl,fun _ _=> rfl⟩
theorem JwT:(Tryz.prog.info? 4).bind (·.zero)=some (.bool false):=by kernel_rfl
theorem JeW (s nx nn:Nat) (es:List (Int×Int)) (a n:Int):
 ECall Tryz.prog 187 [.om (0,s),int a,int n] ⟨[((0,s), .mp (es.map JaD))], [],nx,1⟩ fun r h'=> ∃nx' nn',r=Jb (decide ((a,n)∈es))∧h'=⟨[((0,s), .mp ((JcY (a,n) es).map JaD))], [],nx',nn'⟩:=by
 refine ECall.wk (J0 Tryz.func187 rfl rfl ?_)
 (refine JW ?_;refine Jae ?_;refine JW ?_;refine Jae ?_;refine JW ?_)
 refine AW.le (E':=mk 18 [(0, .om (0,s)),(6,Jb false),(7, .bp (1,nx) 0)] ⟨[((1,nx), .c [int a,int n]),((0,s), .mp (es.map JaD))], [],nx+1,2⟩) (Jm (pm:= []) _ [] rfl rfl Sf Sf Bf trivial ⟨Rf,Rf,Rf,trivial⟩) ?_
 refine JW ?_
 refine JU (fun i=> match i with | 0=> true | _=> false) 3 ?_
 refine stp ?_
 refine Jr (b:=kA (a,n)) rfl ?_
 (conv=> whnf)
 refine JpY (x:=(a,n)) (i:=(0,s)) (es:=es) rfl Tryz.underlying288 JwB JwT rfl rfl rfl ?_
 refine JW ?_
 refine JU (fun i=> match i with | 0=> true | _=> false) 3 ?_
 refine stp ?_
 refine Jr (b:=kA (a,n)) rfl ?_
 (conv=> whnf)
 refine AOp.any (JpZ (x:=(a,n)) (i:=(0,s)) (es:=es) (.inl rfl) Tryz.underlying288 JwB rfl rfl rfl rfl ?_)
 refine stp ?_
 exact Jac rfl ⟨_,⟨[((0,s), .mp ((JcY (a,n) es).map JaD))], [],nx+1,1⟩,Rf,JM _ _ rfl (.cons _ Sf) Sf Bf Pf,_,_,rfl,rfl⟩
def JfC (r:TRow):Bool:= [r.a0,r.a1,r.a2,r.a3,r.a4].any Jel
def JcD (r:TRow):Bool:= !JfC r&& (if r.mux=0 then decide (r.sub=0) else (decide (r.mux=1)|| decide (r.mux=2))&& decide (1≤r.sub)&& decide (r.sub≤255))
theorem Jp2 (r:TRow):Tells Tryz.prog 186 [Js r] (Jb (JcD r)):=by
 have hc:=JoC [r.a0,r.a1,r.a2,r.a3,r.a4] Jel 258 (by show 5≤_;decide) (fun i _=> Jh8 _)
 unfold JcD
 have hb:JfC r= [r.a0,r.a1,r.a2,r.a3,r.a4].any Jel:=rfl
 rw [← hb] at hc
 generalize JfC r=b at hc
 obtain ⟨nm,a0,a1,a2,a3,a4,mux,sub⟩:=r
 dsimp only at hc⊢
 refine Jf Tryz.func186 rfl rfl fun nx=> ?_
 (refine JW ?_;refine Jae ?_;refine JW ?_)
 refine JbD (n:=30) (nx:=nx+1) (nn:=1) (pm:= []) (bx:= []) (L:= [(1, .rp [Jh nm,int a0,int a1,int a2,int a3,int a4,int mux,int sub])]) (df:=some []) [((0,nx), .c [Jh nm,int a0,int a1,int a2,int a3,int a4,int mux,int sub])] rfl rfl rfl (List.Perm.refl _) Sf ⟨Frz.bp (.head _) rfl,trivial⟩ ?_
 refine JU (fun n=> match n with | 0=> true | _=> false) 2 ?_
 refine stp ?_
 refine Jl9 (n:=5) (e:=3) (cs:= [int a0,int a1,int a2,int a3,int a4,int mux,int sub]) rfl rfl Tryz.underlying73 Tryz.underlying3 (by kernel_rfl) Dc (by show 5 * 1≤7;decide) (by simp [int,AV.cells]) ?_
 refine stp ?_
 refine Je rfl rfl hc ⟨AVle.sl_fun fun k hk=> ?_,Rf,trivial⟩ fun nx1=> ?_
 ·match k,hk with
  | 0,_ | 1,_ | 2,_ | 3,_ | 4,_=> rfl
 cases b
 ·refine stp ?_
  intro c g;cases c
  ·have g:¬mux=0:=fun h=> by subst h;simp at g
   rw [if_neg g]
   refine stp ?_
   intro c t1;cases c
   ·have t1:decide (mux=1)=false:=decide_eq_false (by simpa using t1.symm)
    rw [t1]
    refine stp ?_
    intro c t2;cases c
    ·have t2:decide (mux=2)=false:=decide_eq_false (by simpa using t2.symm)
     rw [t2]
     refine stp ?_
     exact Jd rfl Rf
    ·have t2:decide (mux=2)=true:=decide_eq_true (by simpa using t2.symm)
     rw [t2]
     refine stp ?_
     intro c t3;cases c
     ·refine stp ?_
      exact Jd rfl (JB (by rw [show decide (1≤sub)=false from t3.symm];rfl))
     ·refine stp ?_
      intro c t4;cases c
      all_goals
       refine stp ?_
       exact Jd rfl (JB (t4.trans (by rw [show decide (1≤sub)=true from t3.symm];rfl)))
   ·have t1:decide (mux=1)=true:=decide_eq_true (by simpa using t1.symm)
    rw [t1]
    refine stp ?_
    intro c t3;cases c
    ·refine stp ?_
     exact Jd rfl (JB (by rw [show decide (1≤sub)=false from t3.symm];rfl))
    ·refine stp ?_
     intro c t4;cases c
     all_goals
      refine stp ?_
      exact Jd rfl (JB (t4.trans (by rw [show decide (1≤sub)=true from t3.symm];rfl)))
  ·have g:mux=0:=by simpa using g.symm
   rw [if_pos g]
   refine stp ?_
   intro c h;cases c
   all_goals
    refine stp ?_
    exact Jd rfl (JB (h.trans (by rw [Bool.eq_iff_iff];simp)))
 ·refine stp ?_
  exact Jd rfl (JB (by simp))
end Go.Proofs.W

namespace Go.Proofs.W
open Go.Vl
set_option maxRecDepth 100000
structure Inf where
 name:ByteArray
 token:Nat
 bit:Bool
 bits:Int
def JaS:Inf:=⟨⟨#[]⟩,0,false,0⟩
def Jd1 (i:Inf):List AV:= [Jh i.name,u32 i.token,Jb i.bit,int i.bits]
def Jx2 (i:Inf):AV:= .ag (Jd1 i)
def infL:List Inf:= [⟨⟨#[120,56,54,95,54,52]⟩,3221225534,false,64⟩,⟨⟨#[120,51,50]⟩,3221225534,true,64⟩,⟨⟨#[105,51,56,54]⟩,1073741827,false,32⟩,⟨⟨#[97,114,109,54,52]⟩,3221225655,false,64⟩,⟨⟨#[114,105,115,99,118,54,52]⟩,3221225715,false,64⟩]
def infN:List (Nat×Inf):= [(0,infL.getD 0 JaS),(1,infL.getD 1 JaS),(2,infL.getD 2 JaS),(3,infL.getD 3 JaS),(4,infL.getD 4 JaS)]
def Jvx (p:Nat×Inf):List AV:= [int p.1,Jx2 p.2]
def Jtz:AV:= .ag (infL.flatMap Jd1)
theorem Jmn:IterSpec Tryz.prog 218 [] [] Jvx infN:=by
 intro i σ Cb Cp I J hc s0 nx nn h0
 refine ECall.wk (J0 Tryz.func218 rfl rfl ?_)
 refine AW.le (E':=mk 22 [(0, .yl i)] ⟨Cb s0,Cp s0,nx,0⟩) (Et (bx:=Cb s0) (pm:=Cp s0) rfl rfl Bf Pf ⟨Rf,trivial⟩) ?_
 refine stp ?_
 refine AW.le (E':=mk 22 [(0, .yl i),(11,Jtz),(12,int 0)] ⟨Cb s0,Cp s0,nx+1,0⟩) (Jm (bx:=Cb s0) (pm:=Cp s0) _ _ rfl rfl (.cons _ Sf) Sf Bf Pf ⟨Rf,Rf,Rf,trivial⟩) ?_
 refine Jx (fun y:Nat×σ×Nat=> mk 22 [(0, .yl i),(11,Jtz),(12,int y.1)] ⟨Cb y.2.1,Cp y.2.1,y.2.2,0⟩) (fun y=> y.1≤5∧I (infN.take y.1) y.2.1) (fun y=> 5 - y.1) ?_ ?_
 ·exact ⟨(0,s0,nx+1),⟨Nat.zero_le _,h0⟩,Et rfl rfl Bf Pf ⟨Rf,Rf,Rf,trivial⟩⟩
 ·rintro ⟨k,s,nx1⟩ ⟨hk,hI⟩
  dsimp only at hk hI
  rcases k with _ | _ | _ | _ | _ | _ | k
  ·refine stp ?_
   refine Jdd [((0,nx1), .c (Jd1 (infL.getD 0 JaS)))] [] rfl rfl rfl hc (show infN=infN.take 0++(0,infL.getD 0 JaS)::infN.drop (0+1) from rfl) hI ⟨Rf,Rf,trivial⟩ (fun s' nx' hI'=> ?_) (fun s' nx' hJ=> ?_)
   ·refine stp ?_
    exact back (0+1,s',nx') ⟨by dsimp only;omega,hI'⟩ Dm (Jm _ _ rfl rfl (.cons _ Sf) Sf Bf Pf ⟨Rf,Rf,Rf,trivial⟩)
   ·refine stp ?_
    exact Jac rfl ⟨_,⟨Cb s',Cp s',nx',0⟩,Rf,JM _ _ rfl (.cons _ Sf) Sf Bf Pf,s', .inr ⟨_,_,_,rfl,hJ⟩,rfl,rfl⟩
  ·refine stp ?_
   refine Jdd [((0,nx1), .c (Jd1 (infL.getD 1 JaS)))] [] rfl rfl rfl hc (show infN=infN.take 1++(1,infL.getD 1 JaS)::infN.drop (1+1) from rfl) hI ⟨Rf,Rf,trivial⟩ (fun s' nx' hI'=> ?_) (fun s' nx' hJ=> ?_)
   ·refine stp ?_
    exact back (1+1,s',nx') ⟨by dsimp only;omega,hI'⟩ Dm (Jm _ _ rfl rfl (.cons _ Sf) Sf Bf Pf ⟨Rf,Rf,Rf,trivial⟩)
   ·refine stp ?_
    exact Jac rfl ⟨_,⟨Cb s',Cp s',nx',0⟩,Rf,JM _ _ rfl (.cons _ Sf) Sf Bf Pf,s', .inr ⟨_,_,_,rfl,hJ⟩,rfl,rfl⟩
  ·refine stp ?_
   refine Jdd [((0,nx1), .c (Jd1 (infL.getD 2 JaS)))] [] rfl rfl rfl hc (show infN=infN.take 2++(2,infL.getD 2 JaS)::infN.drop (2+1) from rfl) hI ⟨Rf,Rf,trivial⟩ (fun s' nx' hI'=> ?_) (fun s' nx' hJ=> ?_)
   ·refine stp ?_
    exact back (2+1,s',nx') ⟨by dsimp only;omega,hI'⟩ Dm (Jm _ _ rfl rfl (.cons _ Sf) Sf Bf Pf ⟨Rf,Rf,Rf,trivial⟩)
   ·refine stp ?_
    exact Jac rfl ⟨_,⟨Cb s',Cp s',nx',0⟩,Rf,JM _ _ rfl (.cons _ Sf) Sf Bf Pf,s', .inr ⟨_,_,_,rfl,hJ⟩,rfl,rfl⟩
  ·refine stp ?_
   refine Jdd [((0,nx1), .c (Jd1 (infL.getD 3 JaS)))] [] rfl rfl rfl hc (show infN=infN.take 3++(3,infL.getD 3 JaS)::infN.drop (3+1) from rfl) hI ⟨Rf,Rf,trivial⟩ (fun s' nx' hI'=> ?_) (fun s' nx' hJ=> ?_)
   ·refine stp ?_
    exact back (3+1,s',nx') ⟨by dsimp only;omega,hI'⟩ Dm (Jm _ _ rfl rfl (.cons _ Sf) Sf Bf Pf ⟨Rf,Rf,Rf,trivial⟩)
   ·refine stp ?_
    exact Jac rfl ⟨_,⟨Cb s',Cp s',nx',0⟩,Rf,JM _ _ rfl (.cons _ Sf) Sf Bf Pf,s', .inr ⟨_,_,_,rfl,hJ⟩,rfl,rfl⟩
  ·refine stp ?_
   refine Jdd [((0,nx1), .c (Jd1 (infL.getD 4 JaS)))] [] rfl rfl rfl hc (show infN=infN.take 4++(4,infL.getD 4 JaS)::infN.drop (4+1) from rfl) hI ⟨Rf,Rf,trivial⟩ (fun s' nx' hI'=> ?_) (fun s' nx' hJ=> ?_)
   ·refine stp ?_
    exact back (4+1,s',nx') ⟨by dsimp only;omega,hI'⟩ Dm (Jm _ _ rfl rfl (.cons _ Sf) Sf Bf Pf ⟨Rf,Rf,Rf,trivial⟩)
   ·refine stp ?_
    exact Jac rfl ⟨_,⟨Cb s',Cp s',nx',0⟩,Rf,JM _ _ rfl (.cons _ Sf) Sf Bf Pf,s', .inr ⟨_,_,_,rfl,hJ⟩,rfl,rfl⟩
  ·refine stp ?_
   exact Jac rfl ⟨_,⟨Cb s,Cp s,nx1,0⟩,Rf,HLe.refl _,s, .inl hI,rfl,rfl⟩
  ·omega
theorem Jh9:Tells Tryz.prog 124 [] (.fn (.func 218) [] []):=by
 refine Jf Tryz.func124 rfl rfl fun nx=> ?_
 refine stp ?_
 exact Jd rfl Rf
theorem Jmo {pre post:List (Nat×Inf)} {x:Nat×Inf} (h:infN=pre++x::post):(pre=infN.take 0∧x=(0,infL.getD 0 JaS))∨(pre=infN.take 1∧x=(1,infL.getD 1 JaS))∨(pre=infN.take 2∧x=(2,infL.getD 2 JaS))∨(pre=infN.take 3∧x=(3,infL.getD 3 JaS))∨(pre=infN.take 4∧x=(4,infL.getD 4 JaS)):=by
 have hl:pre.length < 5:=by have:=congrArg List.length h;simp [infN] at this;omega
 have hp:pre=infN.take pre.length:=by rw [h];simp
 have hx:infN[pre.length]? =some x:=by rw [h];simp
 rcases (by omega:pre.length=0∨pre.length=1∨pre.length=2∨pre.length=3∨pre.length=4) with e | e | e | e | e
 all_goals rw [e] at hp hx
 ·exact .inl ⟨hp,(Option.some.inj hx).symm⟩
 ·exact .inr (.inl ⟨hp,(Option.some.inj hx).symm⟩)
 ·exact .inr (.inr (.inl ⟨hp,(Option.some.inj hx).symm⟩))
 ·exact .inr (.inr (.inr (.inl ⟨hp,(Option.some.inj hx).symm⟩)))
 ·exact .inr (.inr (.inr (.inr ⟨hp,(Option.some.inj hx).symm⟩)))
def JbM (num:Nat):Bool:=decide (num&&& 1073741824≠0)&& decide (num≠4294967295)
def Jcu (arch:Nat) (w:Bool) (x:Nat×Inf):Bool:=decide (x.2.token=arch)&& ((decide (x.1≠0)&& decide (x.1≠1))|| (x.2.bit ==w))
def JjI (arch num:Nat):AV:=match infN.find? (Jcu arch (JbM num)) with
 | some x=> .tup [int x.1,Jb true]
 | none=> .tup [int 0,Jb false]
theorem Jvy {arch num:Nat} (h:∀y∈infN,Jcu arch (JbM num) y=false):JjI arch num= .tup [int 0,Jb false]:=by
 unfold JjI
 rw [List.find?_eq_none.2 (fun x hx=> by rw [h x hx];decide)]
theorem Jvz {arch num:Nat} {pre post:List (Nat×Inf)} {x:Nat×Inf} (hx:infN=pre++x::post) (h:∀y∈pre,Jcu arch (JbM num) y=false) (hs:Jcu arch (JbM num) x=true):JjI arch num= .tup [int x.1,Jb true]:=by
 unfold JjI
 have:infN.find? (Jcu arch (JbM num))=some x:=by
  rw [hx,List.find?_append,List.find?_eq_none.2 (fun y hy=> by rw [h y hy];decide),List.find?_cons,hs];rfl
 rw [this]
theorem JyG {a b:Nat} (ha:a < 4294967296) (hb:b < 4294967296):Jca .and .u32 (a:Int) (b:Int)=((a&&& b:Nat):Int):=
 Jn8 (k:= .u32) ha hb (by
  have:a&&& b≤a:=Nat.and_le_left
  simp [IntKind.wrap,IntKind.signed,IntKind.bits] at this⊢
  omega)
theorem Jg3 {arch:Nat} {w:Bool} {x:Nat×Inf} (h:false=((x.2.token:Int) ==(arch:Int))):Jcu arch w x=false:=by
 unfold Jcu
 rw [show decide (x.2.token=arch)=false from decide_eq_false (fun e=> by rw [e] at h;simp at h)];rfl
theorem JtA {arch:Nat} {w:Bool} {x:Nat×Inf} (t:true=((x.2.token:Int) ==(arch:Int))) (h:((decide (x.1≠0)&& decide (x.1≠1))|| (x.2.bit ==w))=false):Jcu arch w x=false:=by
 unfold Jcu;rw [h,Bool.and_false]
theorem Jev {arch:Nat} {w:Bool} {x:Nat×Inf} (t:true=((x.2.token:Int) ==(arch:Int))) (h:((decide (x.1≠0)&& decide (x.1≠1))|| (x.2.bit ==w))=true):Jcu arch w x=true:=by
 unfold Jcu
 have e:x.2.token=arch:=by have:(x.2.token:Int)=(arch:Int):=by simpa using t.symm
                           omega
 rw [h,decide_eq_true e];rfl
theorem Jem {arch:Nat} {w:Bool} {x:Nat×Inf} {pre:List (Nat×Inf)} (h:∀z∈pre,Jcu arch w z=false) (hx:Jcu arch w x=false):∀z∈pre++ [x],Jcu arch w z=false:=fun z hz=> by
 rcases List.mem_append.1 hz with q | q
 ·exact h z q
 ·rw [List.mem_singleton.1 q];exact hx
set_option maxHeartbeats 4000000 in
theorem Jp3 (arch num:Nat) (ha:arch < 4294967296) (hn:num < 4294967296):Tells Tryz.prog 87 [u32 arch,u32 num] (JjI arch num):=by
 refine Jf Tryz.func87 rfl rfl fun nx=> ?_
 (refine JW ?_;refine Jae ?_;refine JW ?_)
 refine Jkk (fun y:Nat=> mk 38 [(2, .bp (0,nx) 0),(4, .bp (1,nx+1) 0),(5, .bp (2,nx+2) 0),(6, .bp (3,nx+3) 0)] ⟨[((3,nx+3), .c [Jb (JbM num)]),((2,nx+2), .c [Jb false]),((1,nx+1), .c [int 0]),((0,nx), .c [u32 arch])], [],y,4⟩) (fun _=> True) ?_ ?_
 ·have hw:JbM num=(decide (num&&& 1073741824≠0)&& decide (num≠4294967295)):=rfl
  refine stp ?_
  intro c hc
  have hc2:c=decide (num&&& 1073741824≠0):=by
   rw [hc]
   show (Jca .and .u32 (num:Int) ((1073741824:Nat):Int) !=0)=_
   rw [JyG hn Dc,Bool.eq_iff_iff]
   simp
  clear hc
  rw [← hc2] at hw
  clear hc2
  cases c
  ·rw [hw]
   refine stp ?_
   exact ⟨nx+4,trivial,Jm (pm:= []) _ [] rfl rfl Sf Sf Bf trivial ⟨Rf,Rf,Rf,Rf,trivial⟩⟩
  ·rw [Bool.true_and] at hw
   refine stp ?_
   intro c hc
   have hc2:c=JbM num:=by
    rw [hw,hc,Bool.eq_iff_iff]
    simp
    omega
   rw [← hc2]
   clear hc hc2 hw
   cases c
   all_goals
    refine stp ?_
    exact ⟨nx+4,trivial,Jm (pm:= []) _ [] rfl rfl Sf Sf Bf trivial ⟨Rf,Rf,Rf,Rf,trivial⟩⟩
 ·rintro nx2 -
  refine stp ?_
  refine Je rfl rfl Jh9 trivial fun nx3=> ?_
  refine stp ?_
  refine AW.le (E':=mk 38 [(2, .bp (0,nx) 0),(4, .bp (1,nx+1) 0),(5, .bp (2,nx+2) 0),(6, .bp (3,nx+3) 0),(16, .fn (.func 218) [] [])] ⟨[((3,nx+3), .c [Jb (JbM num)]),((2,nx+2), .c [Jb false]),((1,nx+1), .c [int 0]),((0,nx), .c [u32 arch])], [],nx3,4⟩) (Et rfl rfl Bf Pf ⟨Rf,Rf,Rf,Rf,Rf,trivial⟩) ?_
  generalize hw:JbM num=w
  refine Jqw (σ:=Option Nat) (α:=Nat×Inf) (e:=Jvx) (xs:=infN) (first':= []) (caps':= []) (fun y=> [((3,nx+3), .c [Jb (w)]),((2,nx+2), .c [Jb y.isSome]),((1,nx+1), .c [int (y.getD 0:Nat)]),((0,nx), .c [u32 arch])]) (fun _=> []) (fun pre y=> y=none∧∀z∈pre,Jcu arch w z=false) (fun pre x y=> y=some x.1∧Jcu arch w x=true∧∀z∈pre,Jcu arch w z=false) none rfl rfl Jmn trivial trivial rfl rfl ⟨rfl,fun z hz=> by cases hz⟩ (fun _=> rfl) ?_ ?_ ?_
  ·rintro pre x post s nx4 nn4 hx ⟨rfl,hI⟩
   rcases Jmo hx with ⟨rfl,rfl⟩ | ⟨rfl,rfl⟩ | ⟨rfl,rfl⟩ | ⟨rfl,rfl⟩ | ⟨rfl,rfl⟩
   ·refine AW.le (Jdc (nn:=9) Sf Sf) ?_
    refine stp ?_
    intro c t1;cases c
    ·refine stp ?_
     exact ⟨_,⟨_,_,_,0⟩,Rf,JM _ _ rfl (.cons _ Sf) Sf Bf Pf, .inl ⟨rfl,none,⟨rfl,Jem hI (Jg3 t1)⟩,rfl,rfl⟩⟩
    ·cases w
     ·refine stp ?_
      exact ⟨_,⟨_,_,_,0⟩,Rf,JM _ _ rfl (.cons _ Sf) Sf Bf Pf, .inr ⟨rfl,some 0,⟨rfl,Jev t1 rfl,hI⟩,rfl,rfl⟩⟩
     ·refine stp ?_
      exact ⟨_,⟨_,_,_,0⟩,Rf,JM _ _ rfl (.cons _ Sf) Sf Bf Pf, .inl ⟨rfl,none,⟨rfl,Jem hI (JtA t1 rfl)⟩,rfl,rfl⟩⟩
   ·refine AW.le (Jdc (nn:=9) Sf Sf) ?_
    refine stp ?_
    intro c t1;cases c
    ·refine stp ?_
     exact ⟨_,⟨_,_,_,0⟩,Rf,JM _ _ rfl (.cons _ Sf) Sf Bf Pf, .inl ⟨rfl,none,⟨rfl,Jem hI (Jg3 t1)⟩,rfl,rfl⟩⟩
    ·cases w
     ·refine stp ?_
      exact ⟨_,⟨_,_,_,0⟩,Rf,JM _ _ rfl (.cons _ Sf) Sf Bf Pf, .inl ⟨rfl,none,⟨rfl,Jem hI (JtA t1 rfl)⟩,rfl,rfl⟩⟩
     ·refine stp ?_
      exact ⟨_,⟨_,_,_,0⟩,Rf,JM _ _ rfl (.cons _ Sf) Sf Bf Pf, .inr ⟨rfl,some 1,⟨rfl,Jev t1 rfl,hI⟩,rfl,rfl⟩⟩
   ·refine AW.le (Jdc (nn:=9) Sf Sf) ?_
    refine stp ?_
    intro c t1;cases c
    ·refine stp ?_
     exact ⟨_,⟨_,_,_,0⟩,Rf,JM _ _ rfl (.cons _ Sf) Sf Bf Pf, .inl ⟨rfl,none,⟨rfl,Jem hI (Jg3 t1)⟩,rfl,rfl⟩⟩
    ·cases w
     ·refine stp ?_
      exact ⟨_,⟨_,_,_,0⟩,Rf,JM _ _ rfl (.cons _ Sf) Sf Bf Pf, .inr ⟨rfl,some 2,⟨rfl,Jev t1 rfl,hI⟩,rfl,rfl⟩⟩
     ·refine stp ?_
      exact ⟨_,⟨_,_,_,0⟩,Rf,JM _ _ rfl (.cons _ Sf) Sf Bf Pf, .inr ⟨rfl,some 2,⟨rfl,Jev t1 rfl,hI⟩,rfl,rfl⟩⟩
   ·refine AW.le (Jdc (nn:=9) Sf Sf) ?_
    refine stp ?_
    intro c t1;cases c
    ·refine stp ?_
     exact ⟨_,⟨_,_,_,0⟩,Rf,JM _ _ rfl (.cons _ Sf) Sf Bf Pf, .inl ⟨rfl,none,⟨rfl,Jem hI (Jg3 t1)⟩,rfl,rfl⟩⟩
    ·cases w
     ·refine stp ?_
      exact ⟨_,⟨_,_,_,0⟩,Rf,JM _ _ rfl (.cons _ Sf) Sf Bf Pf, .inr ⟨rfl,some 3,⟨rfl,Jev t1 rfl,hI⟩,rfl,rfl⟩⟩
     ·refine stp ?_
      exact ⟨_,⟨_,_,_,0⟩,Rf,JM _ _ rfl (.cons _ Sf) Sf Bf Pf, .inr ⟨rfl,some 3,⟨rfl,Jev t1 rfl,hI⟩,rfl,rfl⟩⟩
   ·refine AW.le (Jdc (nn:=9) Sf Sf) ?_
    refine stp ?_
    intro c t1;cases c
    ·refine stp ?_
     exact ⟨_,⟨_,_,_,0⟩,Rf,JM _ _ rfl (.cons _ Sf) Sf Bf Pf, .inl ⟨rfl,none,⟨rfl,Jem hI (Jg3 t1)⟩,rfl,rfl⟩⟩
    ·cases w
     ·refine stp ?_
      exact ⟨_,⟨_,_,_,0⟩,Rf,JM _ _ rfl (.cons _ Sf) Sf Bf Pf, .inr ⟨rfl,some 4,⟨rfl,Jev t1 rfl,hI⟩,rfl,rfl⟩⟩
     ·refine stp ?_
      exact ⟨_,⟨_,_,_,0⟩,Rf,JM _ _ rfl (.cons _ Sf) Sf Bf Pf, .inr ⟨rfl,some 4,⟨rfl,Jev t1 rfl,hI⟩,rfl,rfl⟩⟩
  ·rintro s' nx4 nn4 ⟨rfl,hI⟩
   rw [Jvy (by rw [hw];exact hI)]
   refine stp ?_
   exact Jj rfl ⟨⟨rfl,Nat.le_of_ble_eq_true rfl⟩,⟨rfl,Nat.le_of_ble_eq_true rfl⟩,trivial⟩ Rf
  ·rintro pre x post s' nx4 nn4 hx ⟨rfl,h1,h2⟩
   rw [Jvz hx (by rw [hw];exact h2) (by rw [hw];exact h1)]
   refine stp ?_
   exact Jj rfl ⟨⟨rfl,Nat.le_of_ble_eq_true rfl⟩,⟨rfl,Nat.le_of_ble_eq_true rfl⟩,trivial⟩ Rf
end Go.Proofs.W

namespace Go.Proofs.W
open Go.Vl
set_option maxRecDepth 100000
structure Rec where
 num:Nat
 arch:Nat
 ptr:Nat
 a0:Nat
 a1:Nat
 a2:Nat
 a3:Nat
 a4:Nat
 a5:Nat
def Rec.ok (r:Rec):Prop:=r.num < 4294967296∧r.arch < 4294967296∧r.ptr < 18446744073709551616∧r.a0 < 18446744073709551616∧r.a1 < 18446744073709551616∧r.a2 < 18446744073709551616∧r.a3 < 18446744073709551616∧r.a4 < 18446744073709551616∧r.a5 < 18446744073709551616
def Rec.arg (r:Rec):Nat→Nat
 | 0=> r.a0
 | 1=> r.a1
 | 2=> r.a2
 | 3=> r.a3
 | 4=> r.a4
 | _=> r.a5
def J9 (r:Rec):List AV:= [u32 r.num,u32 r.arch,u64 r.ptr,u64 r.a0,u64 r.a1,u64 r.a2,u64 r.a3,u64 r.a4,u64 r.a5]
def Jgi (r:Rec):AV:= .ag (J9 r)
theorem JwU {a:Nat} (h:a < 5) (hn:∀z∈infN,z.1≠a):False:=by
 rcases (by omega:a=0∨a=1∨a=2∨a=3∨a=4) with rfl | rfl | rfl | rfl | rfl
 ·exact hn (0,infL.getD 0 JaS) (by simp [infN]) rfl
 ·exact hn (1,infL.getD 1 JaS) (by simp [infN]) rfl
 ·exact hn (2,infL.getD 2 JaS) (by simp [infN]) rfl
 ·exact hn (3,infL.getD 3 JaS) (by simp [infN]) rfl
 ·exact hn (4,infL.getD 4 JaS) (by simp [infN]) rfl
theorem JyH {k a:Nat} {pre:List (Nat×Inf)} {i:Inf} (h:∀z∈pre,z.1≠a) (t:false=((k:Int) ==(a:Int))):∀z∈pre++ [(k,i)],z.1≠a:=fun z hz=> by
 rcases List.mem_append.1 hz with q | q
 ·exact h z q
 ·rw [List.mem_singleton.1 q]
  intro e
  dsimp only at e
  subst e;simp at t
theorem Jx3 {k a:Nat} (t:true=((k:Int) ==(a:Int))):k=a:=by
 have:(k:Int)=(a:Int):=by simpa using t.symm
 omega
set_option maxHeartbeats 4000000 in
theorem JrT (a:Nat) (ha:a < 5):Tells Tryz.prog 58 [int a] (.tup [Jx2 (infL.getD a JaS),int 0]):=by
 refine Jf Tryz.func58 rfl rfl fun nx=> ?_
 refine stp ?_
 refine Je rfl rfl Jh9 trivial fun nx3=> ?_
 refine stp ?_
 refine AW.le (E':=mk 14 [(1, .bp (0,nx) 0),(2, .bp (1,nx+1) 0),(3, .bp (2,nx+2) 0),(6, .fn (.func 218) [] [])] ⟨[((2,nx+2), .c [int 0]),((1,nx+1), .c (Jd1 JaS)),((0,nx), .c [int a])], [],nx3,3⟩) (Jm (pm:= []) _ [] rfl rfl Sf Sf Bf trivial ⟨Rf,Rf,Rf,Rf,trivial⟩) ?_
 refine Jqw (σ:=Option Nat) (α:=Nat×Inf) (e:=Jvx) (xs:=infN) (first':= []) (caps':= []) (fun y=> [((2,nx+2), .c [int 0]),((1,nx+1), .c (Jd1 (y.elim JaS fun k=> infL.getD k JaS))),((0,nx), .c [int a])]) (fun _=> []) (fun pre y=> y=none∧∀z∈pre,z.1≠a) (fun pre x y=> y=some a) none rfl rfl Jmn trivial trivial rfl rfl ⟨rfl,fun z hz=> by cases hz⟩ (fun _=> rfl) ?_ ?_ ?_
 ·rintro pre x post s nx4 nn4 hx ⟨rfl,hI⟩
  rcases Jmo hx with ⟨rfl,rfl⟩ | ⟨rfl,rfl⟩ | ⟨rfl,rfl⟩ | ⟨rfl,rfl⟩ | ⟨rfl,rfl⟩
  all_goals
   refine AW.le (Jdc (nn:=9) Sf Sf) ?_
   refine stp ?_
   intro c t1;cases c
   ·refine stp ?_
    exact ⟨_,⟨_,_,_,0⟩,Rf,JM _ _ rfl (.cons _ Sf) Sf Bf Pf, .inl ⟨rfl,none,⟨rfl,JyH hI t1⟩,rfl,rfl⟩⟩
   ·have e:=Jx3 t1
    clear t1
    subst e
    refine stp ?_
    exact ⟨_,⟨_,_,_,0⟩,Rf,JM _ _ rfl (.cons _ Sf) Sf Bf Pf, .inr ⟨rfl,some _,rfl,rfl,rfl⟩⟩
 ·rintro s' nx4 nn4 ⟨rfl,hI⟩
  exact (JwU ha hI).elim
 ·rintro pre x post s' nx4 nn4 hx rfl
  refine stp ?_
  exact Jj rfl ⟨rfl,⟨rfl,Nat.le_of_ble_eq_true rfl⟩,trivial⟩ Rf
def JrU (f:Nat→Nat):AV:= .ag [u64 (f 0:Nat),u64 (f 1:Nat),u64 (f 2:Nat),u64 (f 3:Nat),u64 (f 4:Nat),u64 (f 5:Nat)]
def JA (a:Nat) (r:Rec) (k:Nat):Nat:=if a=2 then r.arg k % 4294967296 else r.arg k
theorem JiI {n:Nat} (h:n < 18446744073709551616):IntKind.u64.wrap (IntKind.u32.wrap (n:Int))=((n % 4294967296:Nat):Int):=by
 simp [IntKind.wrap,IntKind.signed,IntKind.bits];omega
theorem JvA {a:Nat} (h:a < 5):((infL.getD a JaS).bits ==32)=decide (a=2):=by
 rcases (by omega:a=0∨a=1∨a=2∨a=3∨a=4) with rfl | rfl | rfl | rfl | rfl <;> rfl
theorem Jee:Tryz.prog.cellsOf 29=1:=by kernel_rfl
def Jar (f:Nat→Nat):List AV:= [u64 (f 0:Nat),u64 (f 1:Nat),u64 (f 2:Nat),u64 (f 3:Nat),u64 (f 4:Nat),u64 (f 5:Nat)]
def JjJ (k:Nat) (r:Rec) (j:Nat):Nat:=bif Nat.blt j k then r.arg j % 4294967296 else r.arg j
theorem Jg4 {a:Nat} {r:Rec} (e:a=2) (k:Nat):AVle (u64 (r.arg k % 4294967296:Nat)) (u64 (JA a r k:Nat)):=by
 unfold JA;rw [if_pos e];exact Rf
set_option maxHeartbeats 4000000 in
theorem JoE (a:Nat) (ha:a < 5) (r:Rec) (hr:r.ok):Tells Tryz.prog 89 [int a,Jgi r] (JrU (JA a r)):=by
 have hof:=JrT a ha
 have hbits:=JvA ha
 obtain ⟨-,-,-,r0,r1,r2,r3,r4,r5⟩:=hr
 refine Jf Tryz.func89 rfl rfl fun nx=> ?_
 refine stp ?_
 refine Je rfl rfl hof ⟨Rf,trivial⟩ fun nx2=> ?_
 refine stp ?_
 intro c hc
 have hc2:c=decide (a=2):=hc.trans hbits
 clear hc
 cases c
 ·have e:¬a=2:=of_decide_eq_false hc2.symm
  have eA:JA a r=r.arg:=by funext k;unfold JA;rw [if_neg e]
  rw [eA]
  refine stp ?_
  exact Jj rfl ⟨rfl,trivial⟩ Rf
 ·have e:a=2:=of_decide_eq_true hc2.symm
  refine stp ?_
  refine Jx (fun y:Nat×Nat=> mk 35 [(3, .bp (0,nx) 0),(4, .bp (1,nx+1) 0),(5, .bp (2,nx+2) 0),(23,int y.1)] ⟨[((3,nx2), .c (Jd1 (infL.getD a JaS))),((2,nx+2), .c (Jar (JjJ y.1 r))),((1,nx+1), .c (Jar fun _=> 0)),((0,nx), .c (J9 r))], [],y.2,4⟩) (fun y=> y.1≤6) (fun y=> 6 - y.1) ?_ ?_
  ·exact ⟨(0,nx2+1),Nat.zero_le _,Jm (pm:= []) _ [] rfl rfl Sf Sf ⟨rfl,OwnLe.refl _,rfl,⟨Rf,Rf,Rf,Rf,Rf,Rf,trivial⟩,rfl,⟨Rf,Rf,Rf,Rf,Rf,Rf,trivial⟩,Bf⟩ trivial ⟨Rf,Rf,Rf,Rf,trivial⟩⟩
  ·rintro ⟨k,nx3⟩ hk
   dsimp only at hk
   rcases k with _ | _ | _ | _ | _ | _ | _ | k
   ·refine stp ?_
    refine ⟨⟨Int.natCast_nonneg _,show ((0:Nat):Int) < 6 by decide⟩,Jr (b:= .bp (2,nx+2) 0) (congrArg (AV.bp (2,nx+2)) (by rw [Jee];rfl)) ?_⟩
    refine stp ?_
    refine ⟨⟨Int.natCast_nonneg _,show ((0:Nat):Int) < 6 by decide⟩,Jr (b:= .bp (2,nx+2) 0) (congrArg (AV.bp (2,nx+2)) (by rw [Jee];rfl)) ?_⟩
    refine stp ?_
    exact back (0+1,nx3) (show 0+1≤6 by decide) Dm (Jm (bx:= [((3,nx2), .c (Jd1 (infL.getD a JaS))),((2,nx+2), .c (Jar (JjJ (0+1) r))),((1,nx+1), .c (Jar fun _=> 0)),((0,nx), .c (J9 r))]) (pm:= []) _ [] rfl rfl Sf Sf ⟨rfl,OwnLe.refl _,rfl,⟨Jfn (JiI r0),Rf,Rf,Rf,Rf,Rf,trivial⟩,Bf⟩ trivial ⟨Rf,Rf,Rf,Rf,trivial⟩)
   ·refine stp ?_
    refine ⟨⟨Int.natCast_nonneg _,show ((1:Nat):Int) < 6 by decide⟩,Jr (b:= .bp (2,nx+2) 1) (congrArg (AV.bp (2,nx+2)) (by rw [Jee];rfl)) ?_⟩
    refine stp ?_
    refine ⟨⟨Int.natCast_nonneg _,show ((1:Nat):Int) < 6 by decide⟩,Jr (b:= .bp (2,nx+2) 1) (congrArg (AV.bp (2,nx+2)) (by rw [Jee];rfl)) ?_⟩
    refine stp ?_
    exact back (1+1,nx3) (show 1+1≤6 by decide) Dm (Jm (bx:= [((3,nx2), .c (Jd1 (infL.getD a JaS))),((2,nx+2), .c (Jar (JjJ (1+1) r))),((1,nx+1), .c (Jar fun _=> 0)),((0,nx), .c (J9 r))]) (pm:= []) _ [] rfl rfl Sf Sf ⟨rfl,OwnLe.refl _,rfl,⟨Rf,Jfn (JiI r1),Rf,Rf,Rf,Rf,trivial⟩,Bf⟩ trivial ⟨Rf,Rf,Rf,Rf,trivial⟩)
   ·refine stp ?_
    refine ⟨⟨Int.natCast_nonneg _,show ((2:Nat):Int) < 6 by decide⟩,Jr (b:= .bp (2,nx+2) 2) (congrArg (AV.bp (2,nx+2)) (by rw [Jee];rfl)) ?_⟩
    refine stp ?_
    refine ⟨⟨Int.natCast_nonneg _,show ((2:Nat):Int) < 6 by decide⟩,Jr (b:= .bp (2,nx+2) 2) (congrArg (AV.bp (2,nx+2)) (by rw [Jee];rfl)) ?_⟩
    refine stp ?_
    exact back (2+1,nx3) (show 2+1≤6 by decide) Dm (Jm (bx:= [((3,nx2), .c (Jd1 (infL.getD a JaS))),((2,nx+2), .c (Jar (JjJ (2+1) r))),((1,nx+1), .c (Jar fun _=> 0)),((0,nx), .c (J9 r))]) (pm:= []) _ [] rfl rfl Sf Sf ⟨rfl,OwnLe.refl _,rfl,⟨Rf,Rf,Jfn (JiI r2),Rf,Rf,Rf,trivial⟩,Bf⟩ trivial ⟨Rf,Rf,Rf,Rf,trivial⟩)
   ·refine stp ?_
    refine ⟨⟨Int.natCast_nonneg _,show ((3:Nat):Int) < 6 by decide⟩,Jr (b:= .bp (2,nx+2) 3) (congrArg (AV.bp (2,nx+2)) (by rw [Jee];rfl)) ?_⟩
    refine stp ?_
    refine ⟨⟨Int.natCast_nonneg _,show ((3:Nat):Int) < 6 by decide⟩,Jr (b:= .bp (2,nx+2) 3) (congrArg (AV.bp (2,nx+2)) (by rw [Jee];rfl)) ?_⟩
    refine stp ?_
    exact back (3+1,nx3) (show 3+1≤6 by decide) Dm (Jm (bx:= [((3,nx2), .c (Jd1 (infL.getD a JaS))),((2,nx+2), .c (Jar (JjJ (3+1) r))),((1,nx+1), .c (Jar fun _=> 0)),((0,nx), .c (J9 r))]) (pm:= []) _ [] rfl rfl Sf Sf ⟨rfl,OwnLe.refl _,rfl,⟨Rf,Rf,Rf,Jfn (JiI r3),Rf,Rf,trivial⟩,Bf⟩ trivial ⟨Rf,Rf,Rf,Rf,trivial⟩)
   ·refine stp ?_
    refine ⟨⟨Int.natCast_nonneg _,show ((4:Nat):Int) < 6 by decide⟩,Jr (b:= .bp (2,nx+2) 4) (congrArg (AV.bp (2,nx+2)) (by rw [Jee];rfl)) ?_⟩
    refine stp ?_
    refine ⟨⟨Int.natCast_nonneg _,show ((4:Nat):Int) < 6 by decide⟩,Jr (b:= .bp (2,nx+2) 4) (congrArg (AV.bp (2,nx+2)) (by rw [Jee];rfl)) ?_⟩
    refine stp ?_
    exact back (4+1,nx3) (show 4+1≤6 by decide) Dm (Jm (bx:= [((3,nx2), .c (Jd1 (infL.getD a JaS))),((2,nx+2), .c (Jar (JjJ (4+1) r))),((1,nx+1), .c (Jar fun _=> 0)),((0,nx), .c (J9 r))]) (pm:= []) _ [] rfl rfl Sf Sf ⟨rfl,OwnLe.refl _,rfl,⟨Rf,Rf,Rf,Rf,Jfn (JiI r4),Rf,trivial⟩,Bf⟩ trivial ⟨Rf,Rf,Rf,Rf,trivial⟩)
   ·refine stp ?_
    refine ⟨⟨Int.natCast_nonneg _,show ((5:Nat):Int) < 6 by decide⟩,Jr (b:= .bp (2,nx+2) 5) (congrArg (AV.bp (2,nx+2)) (by rw [Jee];rfl)) ?_⟩
    refine stp ?_
    refine ⟨⟨Int.natCast_nonneg _,show ((5:Nat):Int) < 6 by decide⟩,Jr (b:= .bp (2,nx+2) 5) (congrArg (AV.bp (2,nx+2)) (by rw [Jee];rfl)) ?_⟩
    refine stp ?_
    exact back (5+1,nx3) (show 5+1≤6 by decide) Dm (Jm (bx:= [((3,nx2), .c (Jd1 (infL.getD a JaS))),((2,nx+2), .c (Jar (JjJ (5+1) r))),((1,nx+1), .c (Jar fun _=> 0)),((0,nx), .c (J9 r))]) (pm:= []) _ [] rfl rfl Sf Sf ⟨rfl,OwnLe.refl _,rfl,⟨Rf,Rf,Rf,Rf,Rf,Jfn (JiI r5),trivial⟩,Bf⟩ trivial ⟨Rf,Rf,Rf,Rf,trivial⟩)
   ·refine stp ?_
    refine Jj rfl ⟨rfl,trivial⟩ (AVle.ags ⟨Jg4 e 0,Jg4 e 1,Jg4 e 2,Jg4 e 3,Jg4 e 4,Jg4 e 5,trivial⟩)
   ·omega
end Go.Proofs.W

namespace Go.Proofs.W
open Go.Vl
section
variable {α:Type} [Inhabited α] {lt:α→α→Bool}
theorem JwV {a j:Nat} {e:Array α} (h:a < j) (hl:lt e[j]! e[j - 1]! =true):Go.Sort.insInner lt a j e=Go.Sort.insInner lt a (j - 1) (Go.Sort.swp e j (j - 1)):=by
 cases j with
 | zero=> omega
 | succ j=>
   rw [Go.Sort.insInner]
   simp only [Nat.add_sub_cancel] at hl⊢
   rw [if_pos (by simp [hl];omega)]
theorem JvB {a j:Nat} {e:Array α} (hl:lt e[j]! e[j - 1]! =false):Go.Sort.insInner lt a j e=e:=by
 cases j with
 | zero=> rfl
 | succ j=>
   rw [Go.Sort.insInner]
   simp only [Nat.add_sub_cancel] at hl⊢
   rw [if_neg (by simp [hl])]
theorem JtB {a j:Nat} {e:Array α} (h:¬a < j):Go.Sort.insInner lt a j e=e:=by
 cases j with
 | zero=> rfl
 | succ j=> rw [Go.Sort.insInner];simp;omega
theorem Jfq {K:Bool→Prop} {b b':Bool} (h:b=b') (hk:∀c,c=b'→K c):∀c,c=b→K c:=by subst h;exact hk
def JaA (lt:α→α→Bool) (l:List α):List α:=l.mergeSort (fun x y=> !lt y x)
omit [Inhabited α] in
theorem Jfg (hS:Go.Sort.SWO lt) (l:List α):(JaA lt l).Pairwise (fun x y=> lt y x=false):=by
 have tr:∀a b c:α,(!lt b a)=true→(!lt c b)=true→(!lt c a)=true:=fun a b c h1 h2=> by
  simp only [Bool.not_eq_true'] at *; exact hS.ntrans _ _ _ h2 h1
 have tq:∀a b:α,((!lt b a)|| (!lt a b))=true:=fun a b=> by
  cases h1:lt b a <;> cases h2:lt a b <;> try rfl
  have:=hS.trans _ _ _ h1 h2
  rw [hS.irrefl] at this;cases this
 exact (List.pairwise_mergeSort tr tq l).imp fun h=> by simpa using h
omit [Inhabited α] in
theorem Jhv {l:List α} {x:α}:x∈JaA lt l↔x∈l:=(List.mergeSort_perm l _).mem_iff
omit [Inhabited α] in
theorem JbE {l:List α}:(JaA lt l).length=l.length:=List.length_mergeSort _
omit [Inhabited α] in
theorem Jlu (hS:Go.Sort.SWO lt) (hT:∀x y,lt x y=false→lt y x=false→x=y) {l l':List α} (h:l.Perm l'):JaA lt l=JaA lt l':=
 List.Perm.eq_of_pairwise (le:=fun x y=> lt y x=false) (fun a b _ _ h1 h2=> hT a b h2 h1) (Jfg hS l) (Jfg hS l') (((List.mergeSort_perm l _).trans h).trans (List.mergeSort_perm l' _).symm)
omit [Inhabited α] in
end
end Go.Proofs.W

namespace Go.Proofs.W
open Go.Vl
set_option maxRecDepth 100000
def JeX (mux sub:Int) (r:TRow):Bool:=decide (r.mux=mux)&& (decide (r.sub=sub)&& decide (mux≠0))
theorem Jx4 {l:List TRow} {p:TRow→Bool} {i:Nat} (h:l.findIdx? p=some i):i < l.length:=(List.findIdx?_eq_some_iff_getElem.1 h).1
def Jdl (a:Nat) (n:Int) (r:TRow):Bool:=decide (r.num a=n)
end Go.Proofs.W

namespace Go.Proofs.W
open Go.Vl
set_option maxRecDepth 100000
def JeD (a num:Nat):Nat:=if a=1∧num / 1073741824 % 2=1 then num - 1073741824 else num
theorem JtC {c lo d m i:Nat} (h:lo < 2 ^ i) (hm:m < 2 ^ i):(2 ^ i * c+lo)&&& (2 ^ i * d+m)=2 ^ i * (c&&& d)+(lo&&& m):=by
 apply Nat.eq_of_testBit_eq
 intro j
 have hlm:lo&&& m < 2 ^ i:=Nat.lt_of_le_of_lt Nat.and_le_left h
 rw [Nat.testBit_and,Nat.testBit_two_pow_mul_add _ h,Nat.testBit_two_pow_mul_add _ hm,Nat.testBit_two_pow_mul_add _ hlm]
 split <;> rw [Nat.testBit_and]
def JeE (num:Nat):Nat:=if num=102 then 1 else if num=117 then 2 else 0
theorem JoF (num:Nat):Tells Tryz.prog 88 [u32 num] (int (JeE num)):=by
 refine Jf Tryz.func88 rfl rfl fun nx=> ?_
 refine stp ?_
 intro c t;cases c
 ·have e:¬num=102:=fun e=> by subst e;simp at t
  refine stp ?_
  intro c t2;cases c
  ·have e2:¬num=117:=fun e=> by subst e;simp at t2
   have e3:JeE num=0:=by unfold JeE;rw [if_neg e,if_neg e2]
   rw [e3]
   refine stp ?_
   exact Jd rfl Rf
  ·have e2:num=117:=by have:(num:Int)=117:=by simpa using t2.symm
                       omega
   subst e2
   refine stp ?_
   exact Jd rfl Rf
 ·have e2:num=102:=by have:(num:Int)=102:=by simpa using t.symm
                      omega
  subst e2
  refine stp ?_
  exact Jd rfl Rf
def JeF (l:List TRow):Option Nat→ByteArray
 | some i=> (l.getD i Jg).name
 | none=> ⟨#[]⟩
end Go.Proofs.W

namespace Go.Proofs.W
open Go.Vl
set_option maxRecDepth 100000
structure CallR where
 some:Bool
 abi:Int
 name:ByteArray
 muxed:Bool
def JwC:CallR:=⟨false,0,⟨#[]⟩,false⟩
def Jcv (arch num:Nat):Option Nat:=(infN.find? (Jcu arch (JbM num))).map (·.1)
theorem JwW (arch num:Nat):JjI arch num=match Jcv arch num with
 | some a=> .tup [int a,Jb true]
 | none=> .tup [int 0,Jb false]:=by
 unfold JjI Jcv
 cases infN.find? (Jcu arch (JbM num)) <;> rfl
theorem Jlv {arch num a:Nat} (h:Jcv arch num=some a):a < 5:=by
 unfold Jcv at h
 obtain ⟨x,hx,rfl⟩:=Option.map_eq_some_iff.1 h
 have:=List.mem_of_find?_eq_some hx
 simp only [infN,List.mem_cons,List.not_mem_nil,or_false] at this
 rcases this with rfl | rfl | rfl | rfl | rfl <;> decide
def JcS (a num:Nat):Nat:=if a=2 then JeE num else 0
def ofI (l:List TRow) (r:Rec):CallR:=match Jcv r.arch r.num with
 | none=> JwC
 | some a=> if 0 < JcS a r.num then ⟨true,a,JeF l (l.findIdx? (JeX (JcS a r.num) ((r.a0 % 4294967296:Nat):Int))),true⟩
   else ⟨true,a,JeF l (l.findIdx? (Jdl a ((JeD a r.num:Nat):Int))),false⟩
end Go.Proofs.W

namespace Go.Proofs.W
open Go.Vl
set_option maxRecDepth 100000
theorem Jbb {a b:AV} {K:AV→Prop} (h:a=b) (hk:Jcr b K):Jcr a K:=h ▸ hk
end Go.Proofs.W

namespace Go.Proofs.W
open Go.Vl
set_option maxRecDepth 100000
def kS (s t:ByteArray):Bool:=s.toList ==t.toList
theorem Ja4 {s t:ByteArray}:kS s t=true↔s=t:=by
 unfold kS
 rw [beq_iff_eq,Lib.toList_data,Lib.toList_data]
 constructor
 ·intro h
  obtain ⟨⟨a⟩⟩:=s
  obtain ⟨⟨b⟩⟩:=t
  simpa using h
 ·rintro rfl;rfl
section
variable {α:Type} {nm:α→ByteArray} {val:α→AV}
end
end Go.Proofs.W

namespace Go.Proofs.W
open Go.Vl
set_option maxRecDepth 100000
structure Ent where
 name:ByteArray
 m:Nat
 a:Nat→Nat
 b:Nat→Bool
 st:Nat
structure Gat where
 name:ByteArray
 m:Nat
 a:Nat→Nat
 b:Nat→Bool
end Go.Proofs.W

namespace Go.Proofs.W
open Go.Vl
set_option maxRecDepth 100000
end Go.Proofs.W

namespace Go.Proofs.W
open Go.Vl
set_option maxRecDepth 100000
def JeG (es:List (Value×AV)) (j:Nat):Value:=(es.getD j (.int .i64 0, .any)).1
theorem JrV {es:List (Value×AV)} {k:Nat} {p:Value×AV} (h:es[k]? =some p):JeG es k=p.1:=by simp [JeG,List.getD,h]
theorem Jmp (es:List (Value×AV)):(List.range es.length).map (JeG es)=es.map (·.1):=by
 refine List.ext_getElem (by simp) fun j h1 h2=> ?_
 have:j < es.length:=by simpa using h1
 simp [JeG,List.getD,this]
end Go.Proofs.W

namespace Go.Proofs
open Go.Shelf
shelf_lay_g SlLaysM.n6 Slgm 6 at Tryz 189 as Tryz.laysM6
end Go.Proofs
namespace Go.Proofs.W
open Go.Vl Go.Shelf
set_option maxRecDepth 100000
def JaP (z:List UInt8):AV:= .v (encStr z)
def Jdg (s:Nat) (d:Array (List UInt8)) (tl:List AV):List (Vl.Id×Own):= [((0,s), .c (Jde JaP d tl))]
theorem JoG (l:List (List UInt8)):l.mergeSort (fun x y=> decide (x≤y))=JaA Go.Sort.ltStr l:=by
 unfold JaA
 congr 1
 funext x y
 simp only [Go.Sort.ltStr]
 by_cases h:x≤y
 ·rw [decide_eq_true h,decide_eq_false (List.not_lt.2 h)];rfl
 ·rw [decide_eq_false h,decide_eq_true (List.not_le.1 h)];rfl
theorem JtD:∀x y:List UInt8,Go.Sort.ltStr x y=false→Go.Sort.ltStr y x=false→x=y:=fun x y h1 h2=> by
 simp only [Go.Sort.ltStr,decide_eq_false_iff_not,List.not_lt] at h1 h2
 exact List.le_antisymm h2 h1
theorem JtE (d0:Array (List UInt8)) (tl:List AV) (n:Nat) (hn:d0.size=n) (hsz:n≤1000000) (s cap nx:Nat):
 ECall Tryz.prog 189 [.hs (0,s) 0 n cap] ⟨Jdg s d0 tl, [],nx,1⟩ (fun r h'=> ∃nx' nn',h'=⟨Jdg s (JaA Go.Sort.ltStr d0.toList).toArray tl, [],nx',nn'⟩):=by
 subst hn
 have h:=Jjb (P:=Tryz.prog) (enc:=encStr) (d:=d0) (d':=(JaA Go.Sort.ltStr d0.toList).toArray) (tl:=tl) (nm:=0) (s:=s) (cap:=cap) (nx:=nx) (nn:=1) (f:=189) ⟨_,Tryz.func189,rfl,rfl⟩ (by simp [JbE]) (fun w blk hH hb=> by
  have k:=AnyM.slices_Sort_string Tryz.laysM6 blk 0 cap d0.toList w hH hb (by simp;omega)
  rw [JoG] at k
  exact k)
 exact h.mono fun r h' ⟨_,h2⟩=> ⟨nx,1,h2⟩
theorem JtF (F:Nat→AV):Tells Tryz.prog 189 [.os 1 0 F none] (.tup []):=
 Jjc (nx:=0) ⟨_,Tryz.func189,rfl,rfl⟩ fun p cap w=> AnyM.slices_Sort_string_none Tryz.laysM6 p cap w
end Go.Proofs.W

namespace Go.Proofs.W
open Go.Vl
set_option maxRecDepth 100000
abbrev JbJ:=List (Int×Int)
def JaQ (r:TRow) (S:JbJ):Nat→Option JbJ
 | 0=> some S
 | k+1=> match JaQ r S k with
   | none=> none
   | some S=> if r.num k=-1 then some S else if ((k:Int),r.num k)∈S then none else some (S++ [((k:Int),r.num k)])
def Jia (r:TRow) (S:JbJ):Option JbJ:=if r.mux=0 then some S else if (5+r.mux,r.sub)∈S then none else some (S++ [(5+r.mux,r.sub)])
def leB (s t:ByteArray):Bool:=Op.bytesLess s.toList t.toList|| s.toList ==t.toList
def JeH (l:List TRow) (i:Nat) (S:JbJ):Except Int JbJ:=
 if Jay (l.getD i Jg).name.data.toList=false then .error 13
 else if 0 < i∧leB (l.getD i Jg).name (l.getD (i - 1) Jg).name=true then .error 15
 else if JcD (l.getD i Jg)=false then .error 16
 else if (l.getD i Jg).a2=102∨(l.getD i Jg).a2=117 then .error 17
 else match JaQ (l.getD i Jg) S 5 with
  | none=> .error 15
  | some S=> match Jia (l.getD i Jg) S with
    | none=> .error 15
    | some S=> .ok S
def Jdy (l:List TRow):Nat→Except (Nat×Int) JbJ
 | 0=> .ok []
 | k+1=> match Jdy l k with
   | .error e=> .error e
   | .ok S=> match JeH l k S with
     | .error e=> .error (k,e)
     | .ok S=> .ok S
def JbK (l:List TRow):Int×Int:=if 400 < l.length then (0,3) else match Jdy l l.length with
 | .error e=> ((e.1:Int),e.2)
 | .ok _=> (0,0)
theorem JtG {l:List TRow} {k:Nat} {e:Nat×Int} (h:Jdy l k= .error e):∀ {m:Nat},k≤m→Jdy l m= .error e:=by
 intro m hm
 induction m with
 | zero=> obtain rfl:k=0:=by omega
          exact h
 | succ m ih=>
   rcases Nat.lt_or_ge m k with q | q
   ·rw [show m+1=k by omega];exact h
   ·unfold Jdy;rw [ih q]
theorem JqA {l:List TRow} {i:Nat} {S:JbJ} {e:Int} (hl:¬400 < l.length) (hi:i < l.length) (h:Jdy l i= .ok S) (he:JeH l i S= .error e):JbK l=((i:Int),e):=by
 have h1:Jdy l (i+1)= .error (i,e):=by unfold Jdy;rw [h];dsimp only;rw [he]
 unfold JbK
 rw [if_neg hl,JtG h1 hi]
theorem JtH {l:List TRow} {S:JbJ} (hl:¬400 < l.length) (h:Jdy l l.length= .ok S):JbK l=(0,0):=by
 unfold JbK
 rw [if_neg hl,h]
theorem Jmq {l:List TRow} {i:Nat} {S S':JbJ} (h:Jdy l i= .ok S) (he:JeH l i S= .ok S'):Jdy l (i+1)= .ok S':=by
 unfold Jdy;rw [h];dsimp only;rw [he]
theorem Jfr {r:TRow} {S S':JbJ} {k:Nat} (h:JaQ r S k=some S') (hn:r.num k=-1):JaQ r S (k+1)=some S':=by
 unfold JaQ;rw [h];dsimp only;rw [if_pos hn]
theorem Jg5 {r:TRow} {S S':JbJ} {k:Nat} (h:JaQ r S k=some S') (hn:¬r.num k=-1) (hm:((k:Int),r.num k)∈S'):JaQ r S (k+1)=none:=by
 unfold JaQ;rw [h];dsimp only;rw [if_neg hn,if_pos hm]
theorem Jgj {r:TRow} {S S':JbJ} {k:Nat} (h:JaQ r S k=some S') (hn:¬r.num k=-1) (hm:¬((k:Int),r.num k)∈S'):JaQ r S (k+1)=some (JcY ((k:Int),r.num k) S'):=by
 unfold JaQ JcY;rw [h];dsimp only;rw [if_neg hn,if_neg hm,if_neg hm]
theorem Jfs {r:TRow} {S:JbJ} {k:Nat} (h:JaQ r S k=none):∀ {m:Nat},k≤m→JaQ r S m=none:=by
 intro m hm
 induction m with
 | zero=> obtain rfl:k=0:=by omega
          exact h
 | succ m ih=>
   rcases Nat.lt_or_ge m k with q | q
   ·rw [show m+1=k by omega];exact h
   ·unfold JaQ;rw [ih q]
def Jcp (l:List TRow) (i:Nat):Bool:=decide (0 < i)&& leB (l.getD i Jg).name (l.getD (i - 1) Jg).name
theorem JiJ {l:List TRow} {i:Nat}:Jcp l i=true↔0 < i∧leB (l.getD i Jg).name (l.getD (i - 1) Jg).name=true:=by unfold Jcp;simp
theorem JqB {l:List TRow} {i:Nat} {S:JbJ} (h:Jay (l.getD i Jg).name.data.toList=false):JeH l i S= .error 13:=if_pos h
theorem JqC {l:List TRow} {i:Nat} {S:JbJ} (h:Jay (l.getD i Jg).name.data.toList=true) (h2:Jcp l i=true):JeH l i S= .error 15:=by
 unfold JeH;rw [if_neg (by rw [h];decide),if_pos (JiJ.1 h2)]
theorem Jlw {l:List TRow} {i:Nat} {S:JbJ} (h:Jay (l.getD i Jg).name.data.toList=true) (h2:Jcp l i=false) (h3:JcD (l.getD i Jg)=false):JeH l i S= .error 16:=by
 unfold JeH;rw [if_neg (by rw [h];decide),if_neg (by rw [← JiJ,h2];decide),if_pos h3]
theorem Jlx {l:List TRow} {i:Nat} {S:JbJ} (h:Jay (l.getD i Jg).name.data.toList=true) (h2:Jcp l i=false) (h3:JcD (l.getD i Jg)=true) (h4:(l.getD i Jg).a2=102∨(l.getD i Jg).a2=117):JeH l i S= .error 17:=by
 unfold JeH;rw [if_neg (by rw [h];decide),if_neg (by rw [← JiJ,h2];decide),if_neg (by rw [h3];decide),if_pos h4]
theorem Jmr {l:List TRow} {i:Nat} {S:JbJ} (h:Jay (l.getD i Jg).name.data.toList=true) (h2:Jcp l i=false) (h3:JcD (l.getD i Jg)=true) (h4:¬((l.getD i Jg).a2=102∨(l.getD i Jg).a2=117)):JeH l i S=match JaQ (l.getD i Jg) S 5 with
 | none=> .error 15
 | some S=> match Jia (l.getD i Jg) S with
   | none=> .error 15
   | some S=> .ok S:=by
 unfold JeH;rw [if_neg (by rw [h];decide),if_neg (by rw [← JiJ,h2];decide),if_neg (by rw [h3];decide),if_neg h4]
theorem Jks {r:TRow} (h:JcD r=true) (h0:¬r.mux=0):r.mux=1∨r.mux=2:=by
 unfold JcD at h
 rw [if_neg h0] at h
 simp only [Bool.and_eq_true,Bool.or_eq_true,decide_eq_true_eq] at h
 exact h.2.1.1
set_option maxHeartbeats 4000000 in
theorem Jni (l:List TRow) (hl:l.length≤1000000) (hn:∀r∈l,r.name.size≤maxLen):Tells Tryz.prog 99 [JJ l] (.tup [int (JbK l).1,int (JbK l).2]):=by
 refine Jf Tryz.func99 rfl rfl fun nx=> ?_
 refine stp ?_
 intro c g4;cases c
 rotate_left
 ·have g4:400 < l.length:=by have:=Ju g4;omega
  have e:JbK l=(0,3):=by unfold JbK;rw [if_pos g4]
  rw [e]
  refine stp ?_
  exact Jd rfl Rf
 have g4:¬400 < l.length:=by have:=Jt g4;omega
 refine stp ?_
 refine Jx (fun y:Nat×JbJ×Nat=> mk 88 [(0,JJ l),(2,int 0),(3,int 0),(4, .om (0,nx)),(14,JJ l),(15,int l.length),(16,int y.1)] ⟨[((0,nx), .mp (y.2.1.map JaD))], [],y.2.2,1⟩) (fun y=> y.1≤l.length∧Jdy l y.1= .ok y.2.1) (fun y=> l.length - y.1) ?_ ?_
 ·exact ⟨(0, [],nx+1),⟨Nat.zero_le _,rfl⟩,Et rfl rfl Bf trivial ⟨Rf,Rf,Rf,Rf,Rf,Rf,Rf,trivial⟩⟩
 ·rintro ⟨i,S,nx1⟩ ⟨h1,h2⟩
  dsimp only at h1 h2
  refine stp ?_
  intro c g;cases c
  ·have g:=Jt g
   try dsimp only at g
   have hi:i=l.length:=by omega
   subst hi
   rw [JtH g4 h2]
   refine stp ?_
   exact Jd rfl Rf
  ·have g:=Ju g
   try dsimp only at g
   have hi:i < l.length:=by omega
   have hmem:l.getD i Jg∈l:=by simp [List.getD,hi]
   have hnm:=Jkq (l.getD i Jg).name (Nat.le_trans (hn _ hmem) Dc)
   have hrg:=Jp2 (l.getD i Jg)
   have herr:=fun e=> JqA (e:=e) g4 hi h2
   have hnext:=fun S'=> Jmq (S':=S') h2
   refine stp ?_
   refine ⟨Bd, ?_⟩
   refine stp ?_
   cases hb:Jay (l.getD i Jg).name.data.toList with
   | false=>
     rw [hb] at hnm
     refine Je rfl rfl hnm ⟨Rf,trivial⟩ fun nx2=> ?_
     refine stp ?_
     rw [herr 13 (JqB hb)]
     exact Jd rfl Rf
   | true=>
     rw [hb] at hnm
     refine Je rfl rfl hnm ⟨Rf,trivial⟩ fun nx2=> ?_
     refine stp ?_
     refine Jkk (fun y:Nat=> mk 88 [(0,JJ l),(2,int 0),(3,int 0),(4, .om (0,nx)),(5,int i),(6, .bp (1,nx1) 0),(7,int (l.getD i Jg).a2),(14,JJ l),(15,int l.length),(16,int i),(30,Jb (Jcp l i))] ⟨[((1,nx1), .c (Ja1 (l.getD i Jg))),((0,nx), .mp (S.map JaD))], [],y,2⟩) (fun _=> True) ?_ ?_
     ·by_cases h0:0 < i
      ·have hd:decide ((i:Int) > 0)=true:=decide_eq_true Om
       have hi1:IntKind.i64.wrap ((i:Int) - 1)=((i - 1:Nat):Int):=by rw [Jai Om Om];omega
       (refine JY 13 ?_ ?_ ?_ ?_;(· kernel_rfl);(· kernel_rfl);(· kernel_rfl))
       refine stp ?_
       (conv=> whnf)
       refine Jfq hd ?_
       refine stp ?_
       refine ⟨⟨Jdp (i:=i - 1) hi1,JdE (i:=i - 1) hi1 Om⟩,Jr (b:= .rp (Ja1 (l.getD (i - 1) Jg))) (congrArg (fun z:Int=> AV.rp (Ja1 (l.getD z.toNat Jg))) hi1) ?_⟩
       refine stp ?_
       intro c hc
       have hc2:c=Jcp l i:=hc.trans (by unfold Jcp;rw [decide_eq_true h0,Bool.true_and];rfl)
       clear hc
       rw [← hc2]
       clear hc2
       cases c
       all_goals
        refine stp ?_
        exact ⟨nx2,trivial,Et rfl rfl Bf trivial ⟨Rf,Rf,Rf,Rf,Rf,Rf,Rf,Rf,Rf,Rf,Rf,trivial⟩⟩
      ·have hd:decide ((i:Int) > 0)=false:=decide_eq_false Om
       have hq:Jcp l i=false:=by unfold Jcp;rw [decide_eq_false h0];rfl
       rw [hq]
       (refine JY 13 ?_ ?_ ?_ ?_;(· kernel_rfl);(· kernel_rfl);(· kernel_rfl))
       refine stp ?_
       (conv=> whnf)
       refine Jfq hd ?_
       refine stp ?_
       exact ⟨nx2,trivial,Et rfl rfl Bf trivial ⟨Rf,Rf,Rf,Rf,Rf,Rf,Rf,Rf,Rf,Rf,Rf,trivial⟩⟩
     ·rintro nx3 -
      cases hq:Jcp l i with
      | true=>
        refine stp ?_
        rw [herr 15 (JqC hb hq)]
        exact Jd rfl Rf
      | false=>
        refine stp ?_
        refine Jr (b:=Js (l.getD i Jg)) rfl ?_
        refine stp ?_
        cases hr:JcD (l.getD i Jg) with
        | false=>
          rw [hr] at hrg
          refine Je rfl rfl hrg ⟨Rf,trivial⟩ fun nx4=> ?_
          refine stp ?_
          rw [herr 16 (Jlw hb hq hr)]
          exact Jd rfl Rf
        | true=>
          rw [hr] at hrg
          refine Je rfl rfl hrg ⟨Rf,trivial⟩ fun nx4=> ?_
          refine stp ?_
          intro c t1;cases c
          rotate_left
          ·have t1:(l.getD i Jg).a2=102:=by simpa using t1.symm
           refine stp ?_
           rw [herr 17 (Jlx hb hq hr (.inl t1))]
           exact Jd rfl Rf
          have t1:¬(l.getD i Jg).a2=102:=by simpa using t1.symm
          refine stp ?_
          intro c t2;cases c
          rotate_left
          ·have t2:(l.getD i Jg).a2=117:=by simpa using t2.symm
           refine stp ?_
           rw [herr 17 (Jlx hb hq hr (.inr t2))]
           exact Jd rfl Rf
          have t2:¬(l.getD i Jg).a2=117:=by simpa using t2.symm
          have hrest:=Jmr (S:=S) hb hq hr (fun h=> h.elim t1 t2)
          refine stp ?_
          refine JdT (fun y:JbJ×Nat=> mk 88 [(0,JJ l),(2,int 0),(3,int 0),(4, .om (0,nx)),(5,int i),(6, .bp (1,nx1) 0),(14,JJ l),(15,int l.length),(16,int i)] ⟨[((1,nx1), .c (Ja1 (l.getD i Jg))),((0,nx), .mp (y.1.map JaD))], [],y.2,2⟩) (fun y=> JaQ (l.getD i Jg) S 5=some y.1) ?_ ?_
          ·refine Jx (fun y:Nat×JbJ×Nat=> mk 88 [(0,JJ l),(2,int 0),(3,int 0),(4, .om (0,nx)),(5,int i),(6, .bp (1,nx1) 0),(14,JJ l),(15,int l.length),(16,int i),(59,Jx1 (l.getD i Jg)),(60,int y.1)] ⟨[((1,nx1), .c (Ja1 (l.getD i Jg))),((0,nx), .mp (y.2.1.map JaD))], [],y.2.2,2⟩) (fun y=> y.1≤5∧JaQ (l.getD i Jg) S y.1=some y.2.1) (fun y=> 5 - y.1) ?_ ?_
           ·exact ⟨(0,S,nx4),⟨Nat.zero_le _,rfl⟩,Et rfl rfl Bf trivial ⟨Rf,Rf,Rf,Rf,Rf,Rf,Rf,Rf,Rf,Rf,Rf,trivial⟩⟩
           ·rintro ⟨k,S',nx5⟩ ⟨hk,hS⟩
            dsimp only at hk hS
            rcases k with _ | _ | _ | _ | _ | _ | k
            ·refine stp ?_
             intro c t;cases c
             ·have t:(l.getD i Jg).num 0=-1:=by show (l.getD i Jg).a0=-1;simpa using t.symm
              refine stp ?_
              exact back (0+1,S',nx5) ⟨by dsimp only;omega,Jfr hS t⟩ Dm (Et rfl rfl Bf trivial ⟨Rf,Rf,Rf,Rf,Rf,Rf,Rf,Rf,Rf,Rf,Rf,trivial⟩)
             ·have t:¬(l.getD i Jg).num 0=-1:=by show ¬(l.getD i Jg).a0=-1;simpa using t.symm
              refine stp ?_
              refine J2 (xs:= [.om (0,nx),int ((0:Nat):Int),int ((l.getD i Jg).num 0)]) [((1,nx1), .c (Ja1 (l.getD i Jg)))] [] 2 rfl rfl rfl rfl ⟨Rf,Rf,Rf,trivial⟩ (JeW nx nx5 0 S' ((0:Nat):Int) ((l.getD i Jg).num 0)) Bf Pf rfl fun r h' hq2=> ?_
              obtain ⟨nx6,nn6,rfl,rfl⟩:=hq2
              by_cases hm:(((0:Nat):Int),(l.getD i Jg).num 0)∈S'
              ·have hnone:=Jfs (Jg5 hS t hm) (show 0+1≤5 by decide)
               rw [hnone] at hrest
               rw [decide_eq_true hm]
               refine stp ?_
               rw [herr 15 hrest]
               exact Jd rfl Rf
              ·have hnew:=Jgj hS t hm
               rw [decide_eq_false hm]
               refine stp ?_
               exact back (0+1,JcY (((0:Nat):Int),(l.getD i Jg).num 0) S',nx6) ⟨by dsimp only;omega,hnew⟩ Dm (Et rfl rfl Bf trivial ⟨Rf,Rf,Rf,Rf,Rf,Rf,Rf,Rf,Rf,Rf,Rf,trivial⟩)
            ·refine stp ?_
             intro c t;cases c
             ·have t:(l.getD i Jg).num 1=-1:=by show (l.getD i Jg).a1=-1;simpa using t.symm
              refine stp ?_
              exact back (1+1,S',nx5) ⟨by dsimp only;omega,Jfr hS t⟩ Dm (Et rfl rfl Bf trivial ⟨Rf,Rf,Rf,Rf,Rf,Rf,Rf,Rf,Rf,Rf,Rf,trivial⟩)
             ·have t:¬(l.getD i Jg).num 1=-1:=by show ¬(l.getD i Jg).a1=-1;simpa using t.symm
              refine stp ?_
              refine J2 (xs:= [.om (0,nx),int ((1:Nat):Int),int ((l.getD i Jg).num 1)]) [((1,nx1), .c (Ja1 (l.getD i Jg)))] [] 2 rfl rfl rfl rfl ⟨Rf,Rf,Rf,trivial⟩ (JeW nx nx5 0 S' ((1:Nat):Int) ((l.getD i Jg).num 1)) Bf Pf rfl fun r h' hq2=> ?_
              obtain ⟨nx6,nn6,rfl,rfl⟩:=hq2
              by_cases hm:(((1:Nat):Int),(l.getD i Jg).num 1)∈S'
              ·have hnone:=Jfs (Jg5 hS t hm) (show 1+1≤5 by decide)
               rw [hnone] at hrest
               rw [decide_eq_true hm]
               refine stp ?_
               rw [herr 15 hrest]
               exact Jd rfl Rf
              ·have hnew:=Jgj hS t hm
               rw [decide_eq_false hm]
               refine stp ?_
               exact back (1+1,JcY (((1:Nat):Int),(l.getD i Jg).num 1) S',nx6) ⟨by dsimp only;omega,hnew⟩ Dm (Et rfl rfl Bf trivial ⟨Rf,Rf,Rf,Rf,Rf,Rf,Rf,Rf,Rf,Rf,Rf,trivial⟩)
            ·refine stp ?_
             intro c t;cases c
             ·have t:(l.getD i Jg).num 2=-1:=by show (l.getD i Jg).a2=-1;simpa using t.symm
              refine stp ?_
              exact back (2+1,S',nx5) ⟨by dsimp only;omega,Jfr hS t⟩ Dm (Et rfl rfl Bf trivial ⟨Rf,Rf,Rf,Rf,Rf,Rf,Rf,Rf,Rf,Rf,Rf,trivial⟩)
             ·have t:¬(l.getD i Jg).num 2=-1:=by show ¬(l.getD i Jg).a2=-1;simpa using t.symm
              refine stp ?_
              refine J2 (xs:= [.om (0,nx),int ((2:Nat):Int),int ((l.getD i Jg).num 2)]) [((1,nx1), .c (Ja1 (l.getD i Jg)))] [] 2 rfl rfl rfl rfl ⟨Rf,Rf,Rf,trivial⟩ (JeW nx nx5 0 S' ((2:Nat):Int) ((l.getD i Jg).num 2)) Bf Pf rfl fun r h' hq2=> ?_
              obtain ⟨nx6,nn6,rfl,rfl⟩:=hq2
              by_cases hm:(((2:Nat):Int),(l.getD i Jg).num 2)∈S'
              ·have hnone:=Jfs (Jg5 hS t hm) (show 2+1≤5 by decide)
               rw [hnone] at hrest
               rw [decide_eq_true hm]
               refine stp ?_
               rw [herr 15 hrest]
               exact Jd rfl Rf
              ·have hnew:=Jgj hS t hm
               rw [decide_eq_false hm]
               refine stp ?_
               exact back (2+1,JcY (((2:Nat):Int),(l.getD i Jg).num 2) S',nx6) ⟨by dsimp only;omega,hnew⟩ Dm (Et rfl rfl Bf trivial ⟨Rf,Rf,Rf,Rf,Rf,Rf,Rf,Rf,Rf,Rf,Rf,trivial⟩)
            ·refine stp ?_
             intro c t;cases c
             ·have t:(l.getD i Jg).num 3=-1:=by show (l.getD i Jg).a3=-1;simpa using t.symm
              refine stp ?_
              exact back (3+1,S',nx5) ⟨by dsimp only;omega,Jfr hS t⟩ Dm (Et rfl rfl Bf trivial ⟨Rf,Rf,Rf,Rf,Rf,Rf,Rf,Rf,Rf,Rf,Rf,trivial⟩)
             ·have t:¬(l.getD i Jg).num 3=-1:=by show ¬(l.getD i Jg).a3=-1;simpa using t.symm
              refine stp ?_
              refine J2 (xs:= [.om (0,nx),int ((3:Nat):Int),int ((l.getD i Jg).num 3)]) [((1,nx1), .c (Ja1 (l.getD i Jg)))] [] 2 rfl rfl rfl rfl ⟨Rf,Rf,Rf,trivial⟩ (JeW nx nx5 0 S' ((3:Nat):Int) ((l.getD i Jg).num 3)) Bf Pf rfl fun r h' hq2=> ?_
              obtain ⟨nx6,nn6,rfl,rfl⟩:=hq2
              by_cases hm:(((3:Nat):Int),(l.getD i Jg).num 3)∈S'
              ·have hnone:=Jfs (Jg5 hS t hm) (show 3+1≤5 by decide)
               rw [hnone] at hrest
               rw [decide_eq_true hm]
               refine stp ?_
               rw [herr 15 hrest]
               exact Jd rfl Rf
              ·have hnew:=Jgj hS t hm
               rw [decide_eq_false hm]
               refine stp ?_
               exact back (3+1,JcY (((3:Nat):Int),(l.getD i Jg).num 3) S',nx6) ⟨by dsimp only;omega,hnew⟩ Dm (Et rfl rfl Bf trivial ⟨Rf,Rf,Rf,Rf,Rf,Rf,Rf,Rf,Rf,Rf,Rf,trivial⟩)
            ·refine stp ?_
             intro c t;cases c
             ·have t:(l.getD i Jg).num 4=-1:=by show (l.getD i Jg).a4=-1;simpa using t.symm
              refine stp ?_
              exact back (4+1,S',nx5) ⟨by dsimp only;omega,Jfr hS t⟩ Dm (Et rfl rfl Bf trivial ⟨Rf,Rf,Rf,Rf,Rf,Rf,Rf,Rf,Rf,Rf,Rf,trivial⟩)
             ·have t:¬(l.getD i Jg).num 4=-1:=by show ¬(l.getD i Jg).a4=-1;simpa using t.symm
              refine stp ?_
              refine J2 (xs:= [.om (0,nx),int ((4:Nat):Int),int ((l.getD i Jg).num 4)]) [((1,nx1), .c (Ja1 (l.getD i Jg)))] [] 2 rfl rfl rfl rfl ⟨Rf,Rf,Rf,trivial⟩ (JeW nx nx5 0 S' ((4:Nat):Int) ((l.getD i Jg).num 4)) Bf Pf rfl fun r h' hq2=> ?_
              obtain ⟨nx6,nn6,rfl,rfl⟩:=hq2
              by_cases hm:(((4:Nat):Int),(l.getD i Jg).num 4)∈S'
              ·have hnone:=Jfs (Jg5 hS t hm) (show 4+1≤5 by decide)
               rw [hnone] at hrest
               rw [decide_eq_true hm]
               refine stp ?_
               rw [herr 15 hrest]
               exact Jd rfl Rf
              ·have hnew:=Jgj hS t hm
               rw [decide_eq_false hm]
               refine stp ?_
               exact back (4+1,JcY (((4:Nat):Int),(l.getD i Jg).num 4) S',nx6) ⟨by dsimp only;omega,hnew⟩ Dm (Et rfl rfl Bf trivial ⟨Rf,Rf,Rf,Rf,Rf,Rf,Rf,Rf,Rf,Rf,Rf,trivial⟩)
            ·refine stp ?_
             exact ⟨(S',nx5),hS,Et rfl rfl Bf trivial ⟨Rf,Rf,Rf,Rf,Rf,Rf,Rf,Rf,Rf,trivial⟩⟩
            ·omega
          ·rintro ⟨S5,nx5⟩ hS
           dsimp only at hS
           refine stp ?_
           intro c t;cases c
           ·have t:(l.getD i Jg).mux=0:=by simpa using t.symm
            have hmx:Jia (l.getD i Jg) S5=some S5:=if_pos t
            rw [hS] at hrest
            dsimp only at hrest
            rw [hmx] at hrest
            have h3:=hnext S5 hrest
            refine stp ?_
            exact back (i+1,S5,nx5) ⟨hi,h3⟩ Dm (Jm _ _ rfl rfl (.cons _ Sf) Sf Bf trivial ⟨Rf,Rf,Rf,Rf,Rf,Rf,Lw,trivial⟩)
           ·have t:¬(l.getD i Jg).mux=0:=by simpa using t.symm
            have h12:=Jks hr t
            have hw:IntKind.i64.wrap (5+(l.getD i Jg).mux)=5+(l.getD i Jg).mux:=Jai Om Om
            refine stp ?_
            refine J2 (xs:= [.om (0,nx),int (5+(l.getD i Jg).mux),int (l.getD i Jg).sub]) [((1,nx1), .c (Ja1 (l.getD i Jg)))] [] 2 rfl rfl rfl rfl ⟨Rf,Jk hw,Rf,trivial⟩ (JeW nx nx5 0 S5 (5+(l.getD i Jg).mux) (l.getD i Jg).sub) Bf Pf rfl fun r h' hq2=> ?_
            obtain ⟨nx6,nn6,rfl,rfl⟩:=hq2
            rw [hS] at hrest
            dsimp only at hrest
            by_cases hm:(5+(l.getD i Jg).mux,(l.getD i Jg).sub)∈S5
            ·have hmx:Jia (l.getD i Jg) S5=none:=by unfold Jia;rw [if_neg t,if_pos hm]
             rw [hmx] at hrest
             rw [decide_eq_true hm]
             refine stp ?_
             rw [herr 15 hrest]
             exact Jd rfl Rf
            ·have hmx:Jia (l.getD i Jg) S5=some (JcY (5+(l.getD i Jg).mux,(l.getD i Jg).sub) S5):=by unfold Jia JcY;rw [if_neg t,if_neg hm,if_neg hm]
             rw [hmx] at hrest
             have h3:=hnext _ hrest
             rw [decide_eq_false hm]
             refine stp ?_
             exact back (i+1,JcY (5+(l.getD i Jg).mux,(l.getD i Jg).sub) S5,nx6) ⟨hi,h3⟩ Dm (Jm _ _ rfl rfl (.cons _ Sf) Sf Bf trivial ⟨Rf,Rf,Rf,Rf,Rf,Rf,Lw,trivial⟩)
end Go.Proofs.W

namespace Go.Proofs
open Go.Shelf
shelf_lay Lays.n106 Nm 106 at Tryz as Tryz.lays106
end Go.Proofs
namespace Go.Proofs.W
open Go.Vl Go.Shelf
set_option maxRecDepth 100000
def Jdq (s t:ByteArray):Int:=Lib.compareBytes s.data.toList t.data.toList
theorem JoH (s t:ByteArray):Tells Tryz.prog 118 [.v (.string s), .v (.string t)] (.v (.int .i64 (Jdq s t))):=
 JcX (vs:= [.string s, .string t]) ⟨_,Tryz.func118,rfl,rfl⟩ fun w=> (Any.strings_Compare Tryz.lays106 s t w).mono fun e w' ⟨h1,h2⟩=> ⟨h1,by subst h2;exact ⟨rfl,rfl,rfl,Nat.le_refl _,fun _ _=> rfl⟩⟩
theorem Jkt (r:TRow) (s:ByteArray):Tells Tryz.prog 117 [Js r,Jh s] (int (Jdq r.name s)):=by
 refine Jf Tryz.func117 rfl rfl fun nx=> ?_
 refine stp ?_
 refine Je rfl rfl (JoH r.name s) ⟨Rf,Rf,trivial⟩ fun nx2=> ?_
 refine stp ?_
 exact Jd rfl Rf
def Jbr (l:List TRow) (s:ByteArray):Nat:=(l.takeWhile fun r=> decide (Jdq r.name s < 0)).length
theorem JwX (l:List TRow) (s:ByteArray):Jbr l s≤l.length:=by
 unfold Jbr
 have:=congrArg List.length (List.takeWhile_append_dropWhile (p:=fun r:TRow=> decide (Jdq r.name s < 0)) (l:=l))
 rw [List.length_append] at this
 omega
theorem Jly {s:ByteArray}:∀ {l:List TRow} {j:Nat},j < Jbr l s→Jdq (l.getD j Jg).name s < 0
 | [],j,h=> by simp [Jbr] at h
 | r::l,j,h=> by
   unfold Jbr at h
   rw [List.takeWhile_cons] at h
   by_cases hc:Jdq r.name s < 0
   ·rw [if_pos (by simpa using hc)] at h
    cases j with
    | zero=> exact hc
    | succ j=> exact Jly (l:=l) (j:=j) (by unfold Jbr;simp at h;omega)
   ·rw [if_neg (by simpa using hc)] at h;simp at h
theorem JiK {s:ByteArray}:∀ {l:List TRow},Jbr l s < l.length→¬Jdq (l.getD (Jbr l s) Jg).name s < 0
 | [],h=> by simp at h
 | r::l,h=> by
   by_cases hc:Jdq r.name s < 0
   ·have e:Jbr (r::l) s=Jbr l s+1:=by unfold Jbr;rw [List.takeWhile_cons,if_pos (by simpa using hc)];rfl
    rw [e] at h⊢
    exact JiK (l:=l) (by simpa using h)
   ·have e:Jbr (r::l) s=0:=by unfold Jbr;rw [List.takeWhile_cons,if_neg (by simpa using hc)];rfl
    rw [e];exact hc
def Jhw (l:List TRow) (s:ByteArray):Prop:=∀i j,i < j→j < l.length→Jdq (l.getD j Jg).name s < 0→Jdq (l.getD i Jg).name s < 0
theorem JwY {l:List TRow} {s:ByteArray} (hs:Jhw l s) {j:Nat} (h1:Jbr l s≤j) (h2:j < l.length):¬Jdq (l.getD j Jg).name s < 0:=fun h=> by
 rcases Nat.lt_or_ge (Jbr l s) j with q | q
 ·exact JiK Om (hs _ j q h2 h)
 ·have e:Jbr l s=j:=by omega
  exact JiK (l:=l) (s:=s) Om (by rw [e];exact h)
def Ja2 (l:List TRow) (s:ByteArray):Bool:=decide (Jbr l s < l.length)&& decide (Jdq (l.getD (Jbr l s) Jg).name s=0)
theorem JwZ {a b:Nat} (h:a+b≤4000000):IntKind.i64.wrap ((IntKind.u64.wrap (IntKind.i64.wrap ((a:Int)+(b:Int)))).fdiv (2 ^ min (Int.toNat 1) IntKind.u64.bits))=(((a+b) / 2:Nat):Int):=by
 rw [Jai (n:=(a:Int)+(b:Int)) Om Om]
 have hu:IntKind.u64.wrap ((a:Int)+(b:Int))=(a:Int)+(b:Int):=by
  show ((a:Int)+(b:Int)) % 18446744073709551616=_
  omega
 rw [hu]
 have h2:(2:Int) ^ min (Int.toNat 1) IntKind.u64.bits=2:=by decide
 rw [h2,Int.fdiv_eq_ediv_of_nonneg _ Dc]
 rw [Jai Om Om]
 omega
set_option maxHeartbeats 2000000 in
theorem JoI (l:List TRow) (s:ByteArray) (hl:l.length≤1000000) (hs:Jhw l s):
 Tells Tryz.prog 116 [JJ l,Jh s,fn0 117] (.tup [int (Jbr l s),Jb (Ja2 l s)]):=by
 have hk:=JwX l s
 have hlt:=fun j=> Jly (l:=l) (s:=s) (j:=j)
 have hge:=fun j=> JwY (j:=j) hs
 unfold Ja2
 generalize Jbr l s=k at hk hlt hge⊢
 refine Jf Tryz.func116 rfl rfl fun nx=> ?_
 refine stp ?_
 refine Jx (fun y:Nat×Nat×Nat=> mk 49 [(0,JJ l),(1,Jh s),(2,fn0 117),(8,int l.length),(9,int y.1),(10,int y.2.1)] ⟨[], [],y.2.2,0⟩) (fun y=> y.1≤k∧k≤y.2.1∧y.2.1≤l.length) (fun y=> y.2.1 - y.1) ?_ ?_
 ·exact ⟨(0,l.length,nx),⟨Nat.zero_le _,hk,Nat.le_refl _⟩,Jaz rfl rfl ⟨Rf,Rf,Rf,Rf,Rf,Rf,trivial⟩⟩
 ·rintro ⟨lo,hi,nx1⟩ ⟨h1,h2,h3⟩
  dsimp only at h1 h2 h3
  refine stp ?_
  intro c g;cases c
  ·have g:=Jt g
   try dsimp only at g
   have e:lo=k:=by omega
   subst e
   by_cases hkl:lo < l.length
   ·have hf1:=Jkt (l.getD lo Jg) s
    have hd:decide ((lo:Int) < (l.length:Int))=true:=decide_eq_true Om
    refine stp ?_
    (conv=> whnf)
    refine Jfq hd ?_
    refine stp ?_
    refine ⟨Bd, ?_⟩
    refine stp ?_
    refine Je rfl rfl hf1 ⟨Rf,Rf,trivial⟩ fun nx2=> ?_
    intro c t;cases c
    all_goals
     refine stp ?_
     exact Jd rfl (AVle.tups (cs:= [_,_]) ⟨Rf,JB (t.trans (by rw [decide_eq_true hkl,Bool.true_and,Bool.eq_iff_iff];simp)),trivial⟩)
   ·have hd:decide ((lo:Int) < (l.length:Int))=false:=decide_eq_false Om
    rw [decide_eq_false hkl,Bool.false_and]
    refine stp ?_
    (conv=> whnf)
    refine Jfq hd ?_
    refine stp ?_
    exact Jd rfl Rf
  ·have g:=Ju g
   try dsimp only at g
   have hm:=JwZ (a:=lo) (b:=hi) Om
   have hml:(lo+hi) / 2 < l.length:=by omega
   have hf1:=Jkt (l.getD ((lo+hi) / 2) Jg) s
   refine stp ?_
   refine ⟨⟨Jdp (i:=(lo+hi) / 2) hm,JdE (i:=(lo+hi) / 2) hm hml⟩,Jr (b:= .rp (Ja1 (l.getD ((lo+hi) / 2) Jg))) (congrArg (fun z:Int=> AV.rp (Ja1 (l.getD z.toNat Jg))) hm) ?_⟩
   refine stp ?_
   refine Je rfl rfl hf1 ⟨Rf,Rf,trivial⟩ fun nx2=> ?_
   refine stp ?_
   intro c gg;cases c
   ·have gg:¬Jdq (l.getD ((lo+hi) / 2) Jg).name s < 0:=Jt gg
    have hkm:k≤(lo+hi) / 2:=by
     rcases Nat.lt_or_ge ((lo+hi) / 2) k with q | q
     ·exact absurd (hlt _ q) gg
     ·exact q
    refine stp ?_
    exact back (lo,(lo+hi) / 2,nx2) ⟨h1,hkm,by dsimp only;omega⟩ Dm (Jaz rfl rfl ⟨Rf,Rf,Rf,Rf,Rf,Jk hm,trivial⟩)
   ·have gg:Jdq (l.getD ((lo+hi) / 2) Jg).name s < 0:=Ju gg
    have hkm:(lo+hi) / 2+1≤k:=by
     rcases Nat.lt_or_ge ((lo+hi) / 2) k with q | q
     ·exact q
     ·exact absurd gg (hge _ q hml)
    refine stp ?_
    exact back ((lo+hi) / 2+1,hi,nx2) ⟨hkm,h2,h3⟩ Dm (Jaz rfl rfl ⟨Rf,Rf,Rf,Rf,Jk (by rw [hm];exact J4 Om),Rf,trivial⟩)
def Jku (l:List TRow) (s:ByteArray):AV:=if Ja2 l s then .tup [Js (l.getD (Jbr l s) Jg),int (Jbr l s),Jb true] else .tup [Js Jg,int 0,Jb false]
theorem Jgk (l:List TRow) (s:ByteArray) (hl:l.length≤1000000) (hs:Jhw l s):Tells Tryz.prog 50 [JJ l,Jh s] (Jku l s):=by
 have hb:=JoI l s hl hs
 have hk:Ja2 l s=true→Jbr l s < l.length:=fun h=> by unfold Ja2 at h;simp only [Bool.and_eq_true,decide_eq_true_eq] at h;exact h.1
 unfold Jku
 generalize Jbr l s=k at hb hk⊢
 refine Jf Tryz.func50 rfl rfl fun nx=> ?_
 cases hf:Ja2 l s with
 | true=>
   rw [hf] at hb hk
   have hk:=hk rfl
   rw [if_pos rfl]
   refine stp ?_
   refine Je rfl rfl hb ⟨Rf,Rf,Rf,trivial⟩ fun nx2=> ?_
   refine stp ?_
   refine ⟨Bd, ?_⟩
   refine stp ?_
   exact Jj rfl ⟨rfl,trivial⟩ Rf
 | false=>
   rw [hf] at hb
   rw [if_neg Dc]
   refine stp ?_
   refine Je rfl rfl hb ⟨Rf,Rf,Rf,trivial⟩ fun nx2=> ?_
   refine stp ?_
   exact Jj rfl ⟨rfl,trivial⟩ Rf
theorem JqD:∀ {a b:List UInt8},Lib.compareBytes a b < 0↔a < b
 | [], []=> by simp [Lib.compareBytes]
 | [],b::l=> by simp [Lib.compareBytes]
 | a::l, []=> by simp [Lib.compareBytes]
 | a::l,b::m=> by
   have ih:=JqD (a:=l) (b:=m)
   unfold Lib.compareBytes
   rw [List.cons_lt_cons_iff]
   split
   ·rename_i h;simp [h]
   ·rename_i h
    split
    ·rename_i h2
     constructor
     ·intro h3;exact absurd h3 Dc
     ·rintro (h3 | ⟨h3,_⟩)
      ·exact absurd h3 h
      ·subst h3;exact absurd h2 h
    ·rename_i h2
     rw [ih]
     constructor
     ·intro h3;exact .inr ⟨UInt8.le_antisymm (UInt8.not_lt.1 h2) (UInt8.not_lt.1 h),h3⟩
     ·rintro (h3 | ⟨_,h3⟩)
      ·exact absurd h3 h
      ·exact h3
theorem JoJ:∀ {a b:List UInt8},Lib.compareBytes a b=0↔a=b
 | [], []=> by simp [Lib.compareBytes]
 | [],b::l=> by simp [Lib.compareBytes]
 | a::l, []=> by simp [Lib.compareBytes]
 | a::l,b::m=> by
   have ih:=JoJ (a:=l) (b:=m)
   unfold Lib.compareBytes
   split
   ·rename_i h
    constructor
    ·intro h3;exact absurd h3 Dc
    ·intro h3;cases h3;exact absurd h (UInt8.lt_irrefl _)
   ·rename_i h
    split
    ·rename_i h2
     constructor
     ·intro h3;exact absurd h3 Dc
     ·intro h3;cases h3;exact absurd h2 (UInt8.lt_irrefl _)
    ·rename_i h2
     rw [ih,List.cons.injEq]
     exact ⟨fun h3=> ⟨UInt8.le_antisymm (UInt8.not_lt.1 h2) (UInt8.not_lt.1 h),h3⟩,fun h3=> h3.2⟩
theorem JgC {s t:ByteArray} (h:s.data.toList=t.data.toList):s=t:=by
 obtain ⟨⟨l⟩⟩:=s;obtain ⟨⟨l'⟩⟩:=t
 exact congrArg (fun l=> (⟨⟨l⟩⟩:ByteArray)) h
theorem Jkv:∀x y:List UInt8,Go.Sort.ltStr x y=false→Go.Sort.ltStr y x=false→x=y:=fun x y h1 h2=> by
 simp only [Go.Sort.ltStr,decide_eq_false_iff_not,List.not_lt] at h1 h2
 exact List.le_antisymm h2 h1
theorem Jlz {s t:ByteArray}:Jdq s t < 0↔Go.Sort.ltStr s.data.toList t.data.toList=true:=by
 unfold Jdq Go.Sort.ltStr;rw [JqD,decide_eq_true_iff]
theorem JqE {s t:ByteArray}:Jdq s t=0↔s=t:=by
 unfold Jdq;rw [JoJ]
 exact ⟨JgC,fun h=> by rw [h]⟩
theorem Jx5 {s t:ByteArray} (h:leB s t=false):Go.Sort.ltStr t.data.toList s.data.toList=true:=by
 unfold leB at h
 rw [Bool.or_eq_false_iff,Go.Proofs.bytesLess_eq,Lib.toList_data,Lib.toList_data] at h
 cases hl:Go.Sort.ltStr t.data.toList s.data.toList with
 | true=> rfl
 | false=>
   have e:=Jkv _ _ hl h.1
   rw [e] at h;simp at h
def JlA (l:List TRow):Prop:=∀i j,i < j→j < l.length→Go.Sort.ltStr (l.getD i Jg).name.data.toList (l.getD j Jg).name.data.toList=true
theorem Jfh {l:List TRow} (h:JlA l) (s:ByteArray):Jhw l s:=fun i j hij hj hc=> by
 rw [Jlz] at hc⊢
 exact Go.Sort.swo_ltStr.trans _ _ _ (h i j hij hj) hc
end Go.Proofs.W

namespace Go.Proofs.W
open Go.Vl
set_option maxRecDepth 100000
end Go.Proofs.W

namespace Go.Proofs
open Go.Shelf
shelf_lay Lays.n217 Nm 217 at Tryz as Tryz.lays217
shelf_lay Lays.n229 Nm 229 at Tryz as Tryz.lays229
end Go.Proofs
namespace Go.Proofs.W
open Go.Vl Go.Shelf
set_option maxRecDepth 100000
def i32 (n:Int):AV:= .v (.int .i32 n)
def Jd7 (x:Nat):Bool:=decide (x=32)|| decide (x=9)|| decide (x=13)
theorem Jkw (x:Nat):Tells Tryz.prog 178 [i32 x] (Jb (Jd7 x)):=by
 have hb:Jd7 x=(((x:Int) ==32)|| (((x:Int) ==9)|| ((x:Int) ==13))):=by
  unfold Jd7
  rw [show ((x:Int) ==32)=decide (x=32) by rw [Bool.eq_iff_iff];simp;omega,show ((x:Int) ==9)=decide (x=9) by rw [Bool.eq_iff_iff];simp;omega,show ((x:Int) ==13)=decide (x=13) by rw [Bool.eq_iff_iff];simp;omega,Bool.or_assoc]
 refine Jf Tryz.func178 rfl rfl fun nx=> ?_
 refine stp ?_
 intro c hc
 have hc2:c=((x:Int) ==32):=hc
 clear hc
 rw [← hc2] at hb
 clear hc2
 cases c
 ·refine stp ?_
  intro c hc
  have hc2:c=((x:Int) ==9):=hc
  clear hc
  rw [← hc2,Bool.false_or] at hb
  clear hc2
  cases c
  ·refine stp ?_
   intro c hc
   have hc2:c=((x:Int) ==13):=hc
   clear hc
   rw [← hc2,Bool.false_or] at hb
   refine stp ?_
   exact Jd rfl (JB (by exact hb.symm))
  ·refine stp ?_
   exact Jd rfl (JB (by exact hb.symm))
 ·refine stp ?_
  exact Jd rfl (JB (by exact hb.symm))
def JoK (s:ByteArray):Prop:=∀i,i < s.size→(s.get! i).toNat < 128∧(Jd7 (s.get! i).toNat=true∨(32≤(s.get! i).toNat∧(s.get! i).toNat≤126))
set_option maxHeartbeats 2000000 in
theorem Jkx (s:ByteArray) (hs:JoK s) (hl:s.size≤1000000):Tells Tryz.prog 176 [Jh s] (Jb true):=by
 refine Jf Tryz.func176 rfl rfl fun nx=> ?_
 refine stp ?_
 refine Jrn rfl Tryz.underlying9 rfl ?_
 refine stp ?_
 refine Jx (fun y:Nat×Nat=> mk 21 [(0,Jh s),(6, .bp (0,nx) 0)] ⟨[((0,nx), .si s y.1)], [],y.2,1⟩) (fun y=> y.1≤s.size) (fun y=> s.size - y.1) ?_ ?_
 ·exact ⟨(0,nx+1),Nat.zero_le _,Et (pm:= []) (bx:= [((0,nx), .si s 0)]) rfl rfl Bf trivial ⟨Rf,Rf,trivial⟩⟩
 ·rintro ⟨i,nx1⟩ h1
  dsimp only at h1
  refine stp ?_
  by_cases hi:i < s.size
  ·obtain ⟨q1,q2⟩:=hs i hi
   have hd:=Jtk q1
   have hbl:=Jkw (s.get! i).toNat
   generalize (s.get! i).toNat=x at q1 q2 hd hbl
   refine Jro rfl rfl rfl hi hd ?_
   refine stp ?_
   refine Je rfl rfl hbl ⟨Rf,trivial⟩ fun nx2=> ?_
   cases hb:Jd7 x with
   | true=>
     refine stp ?_
     exact back (i+1,nx2) hi Dm (Et (pm:= []) (bx:= [((0,nx), .si s (i+1))]) rfl rfl Bf trivial ⟨Rf,Rf,trivial⟩)
   | false=>
     rw [hb] at q2
     have h32:32≤x∧x≤126:=q2.resolve_left Dc
     refine stp ?_
     (intro c hc;obtain rfl:c=false:=hc.trans (by first | exact decide_eq_false Om | (simp;omega));refine stp ?_)
     (intro c hc;obtain rfl:c=false:=hc.trans (by first | exact decide_eq_false Om | (simp;omega));refine stp ?_)
     exact back (i+1,nx2) hi Dm (Et (pm:= []) (bx:= [((0,nx), .si s (i+1))]) rfl rfl Bf trivial ⟨Rf,Rf,trivial⟩)
  ·refine Jrp rfl rfl rfl hi ?_
   refine stp ?_
   exact Jd rfl Rf
end Go.Proofs.W

namespace Go.Proofs.W
open Go.Vl Go.Shelf
set_option maxRecDepth 100000
theorem JtI (s:ByteArray) (c:Int):Tells Tryz.prog 316 [.v (.string s), .v (.int .u8 c)] (.v (.int .i64 (Lib.indexByte s.data.toList c.toNat.toUInt8))):=
 JcX (vs:= [.string s, .int .u8 c]) ⟨_,Tryz.func316,rfl,rfl⟩ fun w=> (Any.stringslite_IndexByte Tryz.lays217 s c w).mono fun e w' ⟨h1,h2⟩=> ⟨h1,by subst h2;exact ⟨rfl,rfl,rfl,Nat.le_refl _,fun _ _=> rfl⟩⟩
theorem Jje (s:ByteArray) (hs:s.size≤1000000):Tells Tryz.prog 177 [Jh s, .fn (.func 178) [] []] (.sl 1 (Lib.goFieldsP Jd7 s).length fun k=> .v (((Lib.goFieldsP Jd7 s).map Value.string).getD k undef)):=by
 have h:=Jog (P:=Tryz.prog) (f:=177) (ars:= [Jh s, .fn (.func 178) [] []]) (vs:= [.string s, .func (.func 178) #[] #[]]) (xs:=(Lib.goFieldsP Jd7 s).map Value.string) (t:=9) ⟨_,Tryz.func177,rfl,rfl⟩ (fun w X g us h1 h2=> by
  match us,h1 with
  | [a,b],_=>
    have ha:=h2 0 _ a rfl rfl
    have hb:=JyF _ _ _ _ (h2 1 _ b rfl rfl)
    generalize a=a' at ha
    generalize b=b' at hb
    cases ha
    cases hb
    rfl) (fun w hk=> by
  rw [List.length_map]
  exact Any.strings_FieldsFunc_grows Tryz.lays229 178 #[] (fun args w=> enters_of Tryz.func178 (by kernel_rfl) rfl args w) Jd7 s w Om (Jnf (fun x _=> Jkw x) w hk) (by kernel_rfl) (by kernel_rfl))
 rw [List.length_map] at h
 exact h
set_option maxHeartbeats 1000000 in
theorem Jms (s:ByteArray) (b:UInt8) (hne:((⟨#[b]⟩:ByteArray).toList ==s.toList)=false):Tells Tryz.prog 371 [Jh s,Jh ⟨#[b]⟩] (int (Lib.indexByte s.data.toList b)):=by
 have hi:=JtI s (b.toNat:Int)
 have hbb:((b.toNat:Int).toNat.toUInt8)=b:=by simp
 rw [hbb] at hi
 refine Jf Tryz.func371 rfl rfl fun nx=> ?_
 refine stp ?_
 intro c hc
 obtain rfl:c=false:=hc.trans hne
 refine stp ?_
 (conv=> whnf)
 refine ⟨⟨by decide,(show (0:Int) < 1 by decide)⟩, ?_⟩
 refine stp ?_
 refine Je rfl rfl hi ⟨Rf,Rf,trivial⟩ fun nx2=> ?_
 refine stp ?_
 exact Jd rfl Rf
set_option maxHeartbeats 1000000 in
theorem Jmt (s:ByteArray) (b:UInt8) (hne:((⟨#[b]⟩:ByteArray).toList ==s.toList)=false) (h:Lib.indexByte s.data.toList b=-1):Tells Tryz.prog 251 [Jh s,Jh ⟨#[b]⟩] (.tup [Jh s,Jh ⟨#[]⟩,Jb false]):=by
 have hi:=Jms s b hne
 rw [h] at hi
 have hc:Tells Tryz.prog 305 [Jh s,Jh ⟨#[b]⟩] (.tup [Jh s,Jh ⟨#[]⟩,Jb false]):=by
  refine Jf Tryz.func305 rfl rfl fun nx=> ?_
  refine stp ?_
  refine Je rfl rfl hi ⟨Rf,Rf,trivial⟩ fun nx2=> ?_
  refine stp ?_
  exact Jj rfl trivial Rf
 refine Jf Tryz.func251 rfl rfl fun nx=> ?_
 refine stp ?_
 refine Je rfl rfl hc ⟨Rf,Rf,trivial⟩ fun nx2=> ?_
 refine stp ?_
 exact Jj rfl trivial Rf
theorem Jky (s:ByteArray) (b:UInt8) (hne:((⟨#[b]⟩:ByteArray).toList ==s.toList)=false):Tells Tryz.prog 370 [Jh s,Jh ⟨#[b]⟩] (int (Lib.indexByte s.data.toList b)):=by
 have hi:=Jms s b hne
 refine Jf Tryz.func370 rfl rfl fun nx=> ?_
 refine stp ?_
 refine Je rfl rfl hi ⟨Rf,Rf,trivial⟩ fun nx2=> ?_
 refine stp ?_
 exact Jd rfl Rf
end Go.Proofs.W

namespace Go.Proofs.W
open Go.Vl Go.Shelf
set_option maxRecDepth 100000
def Ja7:ByteArray:=⟨#[100,101,102,97,117,108,116,32,107,105,108,108]⟩
def lineB:ByteArray:=⟨#[114,101,97,100,32,97,108,108,111,119]⟩
def textAB:ByteArray:=⟨#[100,101,102,97,117,108,116,32,107,105,108,108,10,114,101,97,100,32,97,108,108,111,119]⟩
theorem JrW (s:ByteArray):Tells Tryz.prog 175 [Jh s] (.fn (.func 249) [] [.rp [Jh s]]):=by
 refine Jf Tryz.func175 rfl rfl fun nx=> ?_
 (repeat ((conv=>whnf);first|refine ω0 ?_|refine ω1 ?_|refine ω2 ?_|refine ω3 ?_|refine ω4 rfl ?_|refine ω5 rfl ?_|refine ω6 ?_|refine ω7 ?_|refine ⟨rfl,?_⟩|refine ⟨trivial,?_⟩|refine ⟨⟨rfl,Nat.le_of_ble_eq_true rfl⟩,?_⟩|refine ⟨⟨by kernel_rfl,by kernel_rfl⟩,?_⟩|refine ⟨by decide,?_⟩|refine Jge ?_|refine Jfm ?_))
 refine AW.le (JcJ (L:= [(2, .fn (.func 249) [] [.rp [Jh s]])]) (bx:= []) (pm:= []) (nn:=1) [((0,nx), .c [Jh s])] rfl rfl Sf .slnil ⟨Frz.fn trivial ⟨Frz.bp (.head _) rfl,trivial⟩,trivial⟩) ?_
 refine stp ?_
 exact Jd rfl Rf
def JcI (a:Nat) (s sep:ByteArray):List (Vl.Id×Own):= [((12,a+2), .c [int 0]),((11,a+1), .c [Jh sep]),((10,a), .c [Jh s])]
def JoL (a:Nat):AV:= .fn (.func 368) [] [.bp (11,a+1) 0, .bp (10,a) 0, .bp (12,a+2) 0]
theorem Jp4 (s sep:ByteArray) (nx:Nat):ECall Tryz.prog 304 [Jh s,Jh sep,int 0] ⟨[], [],nx,10⟩ fun r h'=> r=JoL nx∧h'=⟨JcI nx s sep, [],nx+3,13⟩:=by
 refine J0 Tryz.func304 rfl rfl ?_
 refine stp ?_
 exact Jac rfl ⟨rfl,rfl⟩
theorem Jnj (s sep:ByteArray) (nx:Nat):ECall Tryz.prog 250 [Jh s,Jh sep] ⟨[], [],nx,10⟩ fun r h'=> r=JoL nx∧h'=⟨JcI nx s sep, [],nx+3,13⟩:=by
 refine J0 Tryz.func250 rfl rfl ?_
 refine stp ?_
 refine Jgz (xs:= [Jh s,Jh sep,int 0]) [] [] 13 rfl rfl rfl rfl ⟨Rf,Rf,Rf,trivial⟩ (Jp4 s sep nx) Bf Pf rfl fun r h' hq=> ?_
 obtain ⟨rfl,rfl⟩:=hq
 refine stp ?_
 exact Jac rfl ⟨rfl,rfl⟩
def Jy7:Nat→ByteArray
 | 0=> textAB
 | _=> lineB
set_option maxHeartbeats 2000000 in
theorem JrX (a:Nat):Jlp Tryz.prog 368 [] [.bp (11,a+1) 0, .bp (10,a) 0, .bp (12,a+2) 0] (fun s:ByteArray=> [Jh s]) [Ja7,lineB] (JcI a textAB ⟨#[10]⟩):=by
 intro i σ Cb Cp I hc s0 nx nn h0
 refine ECall.wk (J0 Tryz.func368 rfl rfl ?_)
 have hi0:=Jky textAB 10 (by rw [Lib.toList_data,Lib.toList_data];decide)
 have hi1:=Jky lineB 10 (by rw [Lib.toList_data,Lib.toList_data];decide)
 rw [show Lib.indexByte textAB.data.toList 10=12 by decide] at hi0
 rw [show Lib.indexByte lineB.data.toList 10=-1 by decide] at hi1
 refine stp ?_
 refine Jx (fun y:Nat×σ×Nat=> mk 52 [(0, .yl i),(1, .bp (11,a+1) 0),(2, .bp (10,a) 0),(3, .bp (12,a+2) 0)] ⟨JcI a (Jy7 y.1) ⟨#[10]⟩++Cb y.2.1,Cp y.2.1,y.2.2,nn⟩) (fun y=> y.1≤1∧I ([Ja7].take y.1) y.2.1) (fun y=> 1 - y.1) ?_ ?_
 ·exact ⟨(0,s0,nx),⟨Nat.zero_le _,h0⟩,Et rfl rfl Bf Pf ⟨Rf,Rf,Rf,Rf,trivial⟩⟩
 ·rintro ⟨k,s,nx1⟩ ⟨k1,hI⟩
  dsimp only at k1 hI
  obtain rfl | rfl:k=0∨k=1:=by omega
  ·refine stp ?_
   refine Je rfl rfl hi0 ⟨Rf,Rf,trivial⟩ fun nx2=> ?_
   refine stp ?_
   (conv=> whnf)
   refine ⟨⟨by decide,(by decide:(12:Int)≤23)⟩,Jr (b:=Jh Ja7) (by kernel_rfl) ?_⟩
   refine stp ?_
   refine Jdd (pre:= []) (x:=Ja7) (post:= [lineB]) (s:=s) (JcI a textAB ⟨#[10]⟩) [] rfl rfl rfl hc rfl hI ⟨Rf,trivial⟩ (fun s' nx' hI'=> ?_) (fun s' nx' hJ=> hJ.elim)
   refine stp ?_
   exact back (1,s',nx') ⟨Nat.le_refl _,hI'⟩ Dm (Et (bx:=JcI a lineB ⟨#[10]⟩++Cb s') rfl rfl ⟨rfl,OwnLe.refl _,rfl,OwnLe.refl _,rfl,⟨AVle.of_eq (by kernel_rfl),trivial⟩,Bf⟩ Pf ⟨Rf,Rf,Rf,Rf,trivial⟩)
  ·refine stp ?_
   refine Je rfl rfl hi1 ⟨Rf,Rf,trivial⟩ fun nx2=> ?_
   refine stp ?_
   refine Jdd (pre:= [Ja7]) (x:=lineB) (post:= []) (s:=s) (JcI a lineB ⟨#[10]⟩) [] rfl rfl rfl hc rfl hI ⟨Rf,trivial⟩ (fun s' nx' hI'=> ?_) (fun s' nx' hJ=> hJ.elim)
   refine stp ?_
   refine Jac rfl ⟨_,⟨Cb s',Cp s',nx',0⟩,Rf, ?_,s',hI',rfl,rfl⟩
   exact JM _ _ rfl (List.sublist_append_right _ _) Sf Bf Pf
end Go.Proofs.W
