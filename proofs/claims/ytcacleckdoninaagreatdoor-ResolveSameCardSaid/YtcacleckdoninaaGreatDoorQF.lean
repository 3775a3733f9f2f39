import Derived.Test.YtcacleckdoninaaGreatDoorQE
import Derived.Test.YtcacleckdoninaaGreatDoorQD
import Derived.Test.YtcacleckdoninaaGreatDoorQC
import Derived.Shelf.Strconv.Atoi
import Derived.Lib.AtoiErrMem
import Derived.Lib.ItoaMem
import Derived.Sort.WalkA
import Derived.Shelf.Strings.OnBuilder
import Derived.Shelf.Pu.ParseUintPublic10
import Derived.Ground.MpProg
import Derived.Shelf.SlSortCmp.WholeK
import Derived.Shelf.Small.Bits
import Derived.Shelf.Lay
import Derived.Ground.SlsfProg
import Derived.Ground.SlgcProg
import Derived.Ground.NamesProg
import Derived.Lib.Walk
import Derived.Shelf.SlicesG.CompactS
import Derived.Ground.SlgnProg
set_option linter.unusedVariables false
set_option linter.unusedSimpArgs false
set_option maxHeartbeats 16000000
namespace Go.Proofs.W
open Go.Vl
set_option maxRecDepth 100000
def JbJ (x:Nat→Nat) (l:List Rul):Option A2:=(l.find? (Jb5 x)).map (·.act)
theorem Jr7 {x:Nat→Nat} (hx:∀i,x i < 18446744073709551616) {c:Cnd} (ho:c.ok):((JN c).2=1→hB x c=true)∧((JN c).2=2→hB x c=false)∧((JN c).2=0→hB x (JN c).1=hB x c):=by
 unfold hB
 by_cases hr:rightC c=true
 ·have h:=JqX ho hr (Jvr hx c.arg.toNat);rw [hr,Bool.true_and];refine ⟨h.1,h.2.1,fun h0=> ?_⟩;obtain ⟨k1,k2,k3⟩:=h.2.2 h0;rw [k1,k2,k3,Bool.true_and]
 ·have h2:(JN c).2=2:=by unfold JN;rw [if_neg hr];rfl
  rw [h2,Bool.eq_false_iff.2 hr,Bool.false_and];exact ⟨fun h=> (by cases h),fun _=> rfl,fun h=> (by cases h)⟩
theorem JxL {x:Nat→Nat} (hx:∀i,x i < 18446744073709551616) {r:Rul} (hc:∀c∈r.conds,c.ok) (h:Jav r=none):Jb5 x r=false:=by
 unfold Jav at h
 by_cases ha:r.conds.any JbE=true
 ·obtain ⟨c,h1,h2⟩:=List.any_eq_true.1 ha;unfold JbE at h2;unfold Jb5;rw [List.all_eq_false];exact ⟨c,h1,by rw [(Jr7 hx (hc c h1)).2.1 (of_decide_eq_true h2)];decide⟩
 ·rw [if_neg ha] at h;cases h
theorem JpO {x:Nat→Nat} (hx:∀i,x i < 18446744073709551616):∀(l:List Cnd),(∀c∈l,c.ok)→l.any JbE=false→(Jbk l).all (hB x)=l.all (hB x)
 | [],_,_=> rfl
 | c::l,hc,hn=> by
   have ih:=JpO hx l (fun d hd=> hc d (List.mem_cons_of_mem _ hd)) (by simp at hn⊢;exact hn.2);have hcn:JbE c=false:=by simp at hn;simpa using hn.1
   unfold Jbk at ih⊢;have h:=Jr7 hx (hc c List.mem_cons_self);rcases JjK c with h0 | h0 | h0
   ·rw [List.filterMap_cons,Jpz h0,List.all_cons,List.all_cons,ih,h.2.2 h0]
   ·rw [List.filterMap_cons,Jk8 Om,List.all_cons,ih,h.1 h0,Bool.true_and]
   ·unfold JbE at hcn;rw [h0] at hcn;cases hcn
theorem JxM {x:Nat→Nat} (hx:∀i,x i < 18446744073709551616) {r n:Rul} (hc:∀c∈r.conds,c.ok) (h:Jav r=some n):Jb5 x n=Jb5 x r∧n.act=r.act∧n.name=r.name:=by
 unfold Jav at h
 by_cases ha:r.conds.any JbE=true
 ·rw [if_pos ha] at h;cases h
 ·rw [if_neg ha] at h;obtain rfl:=Option.some.inj h;refine ⟨?_,rfl,rfl⟩;unfold Jb5;rw [← JpO hx r.conds hc (Bool.eq_false_iff.2 ha),Bool.eq_iff_iff,List.all_eq_true,List.all_eq_true];exact ⟨fun k c hc => k c ((Jcf _).2 c |>.2 hc), fun k c hc => k c ((Jcf _).2 c |>.1 hc)⟩
theorem Jkg {x:Nat→Nat} (l m:List Rul):JbJ x (l++m)=(JbJ x l).or (JbJ x m):=by
 unfold JbJ
 rw [List.find?_append]
 cases l.find? (Jb5 x) <;> rfl
theorem Jgk {x:Nat→Nat} (r:Rul):JbJ x [r]=if Jb5 x r then some r.act else none:=by
 unfold JbJ
 rw [List.find?_cons]
 cases Jb5 x r <;> rfl
theorem Jzg {x:Nat→Nat} {l:List Rul} {m:Rul} (h:m∈l) (hl:Jb5 x m=true):∃a,JbJ x l=some a:=by
 unfold JbJ
 cases hf:l.find? (Jb5 x) with
 | none=> exact absurd hl (by simpa using List.find?_eq_none.1 hf m h)
 | some r=> exact ⟨r.act,rfl⟩
theorem JxN {x:Nat→Nat} (hx:∀i,x i < 18446744073709551616) {l:List Rul} {r:Rul} (hc:∀c∈r.conds,c.ok):JbJ x (JcP l r)=(JbJ x l).or (JbJ x [r]):=by
 unfold JcP
 cases hn:Jav r with
 | none=>
   dsimp only;rw [Jgk,JxL hx hc hn];cases JbJ x l <;> rfl
 | some n=>
   dsimp only;obtain ⟨h1,h2,h3⟩:=JxM hx hc hn;by_cases hh:Jc8 l n=true
   ·rw [if_pos hh,Jgk];unfold Jc8 at hh;obtain ⟨m,hm,hd⟩:=List.any_eq_true.1 hh;cases hr:Jb5 x r with
    | false=> cases JbJ x l <;> rfl
    | true=>
      have hlm:Jb5 x m=true:=by
       unfold JiC at hd;rw [Bool.or_eq_true,decide_eq_true_iff,decide_eq_true_iff] at hd;rcases hd with hd | hd
       ·unfold Jb5;rw [hd];rfl
       ·rw [← h1] at hr;unfold Jb5 at hr⊢;rw [hd];exact hr
      obtain ⟨a,ha⟩:=Jzg hm hlm;rw [ha];rfl
   ·rw [if_neg hh,Jkg,Jgk,Jgk,h1,h2]
theorem Jnh {x:Nat→Nat} (hx:∀i,x i < 18446744073709551616):∀(rs l:List Rul),(∀r∈rs,∀c∈r.conds,c.ok)→JbJ x (rs.foldl JcP l)=(JbJ x l).or (JbJ x rs)
 | [],l,_=> by rw [List.foldl_nil];cases JbJ x l <;> rfl
 | r::rs,l,h=> by
   rw [List.foldl_cons,Jnh hx rs _ fun q hq=> h q (List.mem_cons_of_mem _ hq),JxN hx (h r List.mem_cons_self),Option.or_assoc,← Jkg];rfl
theorem JpP {x:Nat→Nat} {d:A2}:∀(k:Nat) (l:List Rul),l.length≤k→(JbJ x (Jcp d l)).getD d=(JbJ x l).getD d
 | 0,l,h=> by rw [List.length_eq_zero_iff.1 (by omega:l.length=0)];rfl
 | k+1,l,h=> by
   rcases JgT l with rfl | ⟨l',r,rfl⟩
   ·rfl
   ·rw [Jm6];split
    ·rename_i hd
     rw [List.length_append,List.length_singleton] at h;rw [JpP k l' Om,Jkg,Jgk];cases JbJ x l' with
     | some a=> rfl
     | none=> cases Jb5 x r <;> simp [hd]
    ·rfl
theorem JjP {q:Rul→Bool} {x:Nat→Nat}:∀l:List Rul,l.find? (fun r=> q r&& Jb5 x r)=(l.filter q).find? (Jb5 x)
 | []=> rfl
 | r::l=> by
   rw [List.find?_cons,List.filter_cons,JjP l];cases hq:q r with
   | false=> rw [Bool.false_and];rfl
   | true=> rw [Bool.true_and,if_pos rfl,List.find?_cons]
theorem JvY (s t:ByteArray):kS s t=JU t s:=by
 rw [Bool.eq_iff_iff,JaG,JbS]
 exact ⟨Eq.symm,Eq.symm⟩
theorem JpQ (p:Pol) (nm:ByteArray) (x:Nat→Nat):JeF p nm x=(JbJ x (p.rules.filter fun r=> JU nm r.name)).getD p.dflt:=by
 unfold JeF JbJ
 rw [show (fun r:Rul=> kS r.name nm&& Jb5 x r)=fun r=> JU nm r.name&& Jb5 x r from funext fun r=> by rw [JvY],JjP]
 cases (p.rules.filter fun r=> JU nm r.name).find? (Jb5 x) <;> rfl
theorem Jr8 (p:Pol) (hp:∀r∈p.rules,∀c∈r.conds,c.ok) (nm:ByteArray) {x:Nat→Nat} (hx:∀i,x i < 18446744073709551616):JeF p nm x=(JbJ x (gOf nm p.rules)).getD p.dflt:=by
 rw [JpQ,JfP,Jnh hx _ _ fun r hr=> hp r (List.mem_filter.1 hr).1]
 rfl
theorem Jni {r n:Rul} (h:Jav r=some n) (hc:∀c∈r.conds,c.ok):∀c∈n.conds,c.ok:=(Jd1 h).2.2 hc
theorem JxO {p:Pol} (hp:∀r∈p.rules,∀c∈r.conds,c.ok):∀r∈(Je p).rules,∀c∈r.conds,c.ok:=fun n hn=> by
 obtain ⟨r,hr,h⟩:=Jjh (d:=p.dflt) (rs:=p.rules) hn
 exact Jni h (hp r hr)
theorem JpR (p:Pol) (hp:∀r∈p.rules,∀c∈r.conds,c.ok) (nm:ByteArray) {x:Nat→Nat} (hx:∀i,x i < 18446744073709551616):JeF (Je p) nm x=JeF p nm x:=by
 rw [Jr8 _ (JxO hp) nm hx,Jr8 p hp nm hx]
 show (JbJ x (gOf nm (JfB p.dflt (J4 p.rules) (JcO (J4 p.rules))))).getD p.dflt=_
 rw [Jzc,JpP _ _ (Nat.le_refl _)]
theorem Jnj {p:Pol} {nm:ByteArray} (x:Nat→Nat) (h:∀r∈p.rules,kS r.name nm=true→r.conds= []):Jc7 p nm=JeF p nm x:=by
 unfold Jc7 JeF
 rw [show p.rules.find? (fun r=> kS r.name nm&& Jb5 x r)=p.rules.find? (fun r=> kS r.name nm) from Jng fun r hr=> by
  cases hk:kS r.name nm with
  | false=> rfl
  | true=> unfold Jb5;rw [h r hr hk];rfl]
 cases hf:p.rules.find? (fun r=> kS r.name nm) with
 | none=> rfl
 | some r=>
   dsimp only;rw [h r (List.mem_of_find?_eq_some hf) (by simpa using List.find?_some hf)];rfl
theorem JtM {p:Pol} (hp:∀r∈p.rules,∀c∈r.conds,c.ok) {nm:ByteArray} (h:∀r∈p.rules,kS r.name nm=true→r.conds= []):Jc7 (Je p) nm=Jc7 p nm:=by
 rw [Jnj (fun _=> 0) h,Jnj (p:=Je p) (fun _=> 0),JpR p hp nm fun _=> by decide]
 intro n hn hk
 obtain ⟨r,hr,hnr⟩:=Jjh (d:=p.dflt) (rs:=p.rules) hn
 have h1:=Jbp hnr
 rw [h1.2.1] at hk
 have h2:=h r hr hk
 rw [h2] at h1
 exact List.length_eq_zero_iff.1 (Nat.le_zero.1 h1.1)
theorem JfS {l:List TRow} (hok:(JbO l).2=0) {a:Nat} (ha:a < l.length):Jak l (l.getD a Jd).name=l.getD a Jd:=by
 have hs:=JfM hok
 have hm:=Jfa hs (l.getD a Jd).name
 have h1:¬Jbn l (l.getD a Jd).name < a:=fun q=> by
  have:=Ji9 (l:=l) (s:=(l.getD a Jd).name) Om;exact this (Jl6.2 (hs _ _ q ha))
 have h2:¬a < Jbn l (l.getD a Jd).name:=fun q=> by
  have:=Jl5 q;rw [Jl6] at this;exact Jjb _ this
 have e:Jbn l (l.getD a Jd).name=a:=by omega
 unfold Jak Jap
 rw [e,decide_eq_true ha,decide_eq_true (JrS.2 rfl)]
 rfl
theorem Jln {a d:Nat} {x:Bool} {row:TRow} {rs:List PRul} (h1:¬row.num a < 0) (h2:¬(a=1∧x=false)) (h3:Jbf a rs d≠ []):JaH a d x row rs= [⟨JbZ a (row.num a),Jbf a rs d⟩]:=if_neg fun h=> h.elim h1 fun h=> h.elim h2 h3
theorem code_kill18:JJ (1,0)=2147483648:=by decide
theorem JtN {x:Nat→Nat} (L:List Rul):Jae x (L.map JA)=(JbJ x L).map JJ:=by
 unfold Jae JbJ
 rw [List.find?_map,Option.map_map,Option.map_map]
 rfl
theorem Jnk (o:Option A2) (d:A2):JJ (o.getD d)=(o.map JJ).getD (JJ d):=by cases o <;> rfl
theorem JpS {p:Pol} (hp:∀r∈p.rules,∀c∈r.conds,c.ok):∀n∈(Je p).rules,(JA n).ok:=fun n hn c hc=> by
 obtain ⟨r,hr,hN⟩:=JeY hn
 have hc:c∈n.conds:=hc
 refine ⟨Jni hN (hp r hr) c hc, ?_⟩
 unfold Jav at hN
 split at hN
 ·cases hN
 ·obtain rfl:=Option.some.inj hN;have h:=((Jcf _).2 c).1 hc;unfold Jbk at h;obtain ⟨c0,_,h1⟩:=List.mem_filterMap.1 h;rcases JjK c0 with h2 | h2 | h2
  ·rw [Jpz h2] at h1;obtain rfl:=Option.some.inj h1;exact Jvn h2
  ·rw [Jk8 Om] at h1;cases h1
  ·rw [Jk8 Om] at h1;cases h1
theorem Jlo {α:Type} {l:List α} {F:α→Option Nat} {o:Option Nat} (h1:∀e∈l,F e=none∨F e=o) (h2:o≠none→∃e∈l,F e=o):l.findSome? F=o:=by
 cases hf:l.findSome? F with
 | none=>
   cases o with
   | none=> rfl
   | some v=>
     obtain ⟨e,he,hv⟩:=h2 Si;rw [List.findSome?_eq_none_iff.1 hf e he] at hv;exact hv
 | some v=>
   obtain ⟨e,he,hv⟩:=List.exists_of_findSome?_eq_some hf;rcases h1 e he with h | h
   ·rw [h] at hv;cases hv
   ·rw [← h,hv]
theorem Jzh {arch num:Nat} (h:JfA arch num=some 1):num / 1073741824 % 2=1:=by
 unfold JfA at h
 cases hf:infN.find? (JcG arch (JcH num)) with
 | none=> rw [hf] at h;cases h
 | some x=>
   rw [hf] at h;have h1:x.1=1:=Option.some.inj h;have hs:=List.find?_some hf;have hm:=List.mem_of_find?_eq_some hf;unfold infN at hm;simp only [List.mem_cons,List.not_mem_nil,or_false] at hm;rcases hm with rfl | rfl | rfl | rfl | rfl
   ·cases h1
   ·cases hw:JcH num with
    | true=>
      rw [Jxk] at hw;simp only [Bool.and_eq_true,decide_eq_true_eq] at hw;exact hw.2
    | false=>
      rw [hw] at hs;unfold JcG at hs;rw [Bool.and_eq_true] at hs;exact absurd hs.2 Dc
   ·cases h1
   ·cases h1
   ·cases h1
theorem JiK {arch num a:Nat} {n:Int} (h:JfA arch num=some a) (h0:0≤n) (h1:n < 1073741824):JbZ a n=num↔n=((Jiv a num:Nat):Int):=by
 rw [JeH h0 h1]
 unfold Jiv
 by_cases ha:a=1
 ·subst ha;have hb:=Jzh h;rw [if_pos rfl,if_pos ⟨rfl,hb⟩];omega
 ·rw [if_neg ha,if_neg fun q=> ha q.1];omega
theorem Jnl {l:List TRow} (ht:(JbO l).2=0) {i:Nat} (hi:i < l.length):(l.getD i Jd).name.size≠0:=fun h=> by
 have:=(JeT ((JdL ht).2 i hi)).1
 have e:(l.getD i Jd).name.data.toList= []:=by
  apply List.eq_nil_of_length_eq_zero;rw [Array.length_toList];exact h
 rw [e] at this
 exact absurd this Dc
theorem JeZ {p:Pol} {g:ByteArray×List Rul} (hg:g∈Jv (Je p).rules):g.2=(Je p).rules.filter fun r=> kS r.name g.1:=((Jcg (Jb8 p)).rows g hg).1
theorem JtO (p:Pol) (nm:ByteArray) (x:Nat→Nat):JeF p nm x=(JbJ x (p.rules.filter fun r=> kS r.name nm)).getD p.dflt:=by
 rw [JpQ,show (fun r:Rul=> JU nm r.name)=fun r=> kS r.name nm from funext fun r=> (JvY r.name nm).symm]
def JbA (x:Nat→Nat) (num:Nat) (e:PEnt):Option Nat:=if e.num=num then Jae x e.rules else none
theorem JiL {p:Pol} {l:List TRow} {a:Nat} {e:PEnt} (h:e∈(J0 p l).ents a):∃g∈Jv (Je p).rules,e∈JaH a (JJ p.dflt) p.x32 (Jak l g.1) (g.2.map JA):=by
 have h1:=(JfQ (Jbg (Je p) l (Jv (Je p).rules) a)).mem_iff.1 h
 unfold Jbg at h1
 obtain ⟨g,hg,h2⟩:=List.mem_flatMap.1 h1
 exact ⟨g,hg,h2⟩
theorem Jnm {p:Pol} {l:List TRow} {a:Nat} {e:PEnt} {g:ByteArray×List Rul} (hg:g∈Jv (Je p).rules) (h:e∈JaH a (JJ p.dflt) p.x32 (Jak l g.1) (g.2.map JA)):e∈(J0 p l).ents a:=
 (JfQ (Jbg (Je p) l (Jv (Je p).rules) a)).mem_iff.2 (by unfold Jbg;exact List.mem_flatMap.2 ⟨g,hg,h⟩)
theorem JiM {p:Pol} {l:List TRow} {m:Nat} {e:PSub} (h:e∈(J0 p l).subs m):∃g∈Jv (Je p).rules,e∈JbB m (Jak l g.1) (g.2.map JA):=by
 have h1:=(JfR (Jb7 l (Jv (Je p).rules) m)).mem_iff.1 h
 unfold Jb7 at h1
 obtain ⟨g,hg,h2⟩:=List.mem_flatMap.1 h1
 exact ⟨g,hg,h2⟩
theorem Jnn {p:Pol} {l:List TRow} {m:Nat} {e:PSub} {g:ByteArray×List Rul} (hg:g∈Jv (Je p).rules) (h:e∈JbB m (Jak l g.1) (g.2.map JA)):e∈(J0 p l).subs m:=
 (JfR (Jb7 l (Jv (Je p).rules) m)).mem_iff.2 (by unfold Jb7;exact List.mem_flatMap.2 ⟨g,hg,h⟩)
theorem JpT {l:List TRow} {q:TRow→Bool} (h:l.findIdx? q=none) {j:Nat} (hj:j < l.length):q (l.getD j Jd)=false:=by
 have:=List.findIdx?_eq_none_iff.1 h (l.getD j Jd) (by simp [List.getD,hj])
 simpa using this
theorem Jr9 {l:List TRow} {q:TRow→Bool} {i:Nat} (h:l.findIdx? q=some i):i < l.length∧q (l.getD i Jd)=true:=by
 obtain ⟨hi,hb,_⟩:=List.findIdx?_eq_some_iff_getElem.1 h
 exact ⟨hi,by rw [show l.getD i Jd=l[i] by simp [List.getD,hi]];exact hb⟩
theorem JxP {r:Rec} {a:Nat} (h:a=2) (i:Nat):Jq a r i < 4294967296:=by
 unfold Jq;rw [if_pos h];exact Nat.mod_lt _ Dc
theorem JpU {p:Pol} {l:List TRow} {a:Nat} (hv:(JT p l).2=0) (hc:∀r∈p.rules,∀c∈r.conds,c.ok) (ha:a < 5) {r:Rec} (hs:JfA r.arch r.num=some a) (hx:¬(a=1∧p.x32=false)) (hr:r.ok):
 (((J0 p l).ents a).findSome? (JbA (Jq a r) r.num)).getD (JJ p.dflt)=JJ (if (Jgy l (l.findIdx? (Jg9 a ((Jiv a r.num:Nat):Int)))).size=0 then p.dflt else JeF p (Jgy l (l.findIdx? (Jg9 a ((Jiv a r.num:Nat):Int)))) (Jq a r)):=by
 have ht:=(Jac.1 hv).2.1
 have hG:=Jcz (p:=p) (JbN hv)
 cases hf:l.findIdx? (Jg9 a ((Jiv a r.num:Nat):Int)) with
 | none=>
   rw [Jlo (o:=none) (fun e he=> .inl ?_) (fun h=> absurd rfl h)]
   ·rfl
   ·obtain ⟨g,hg,h2⟩:=JiL he;obtain ⟨j,hj,r1,_⟩:=hG g hg;obtain ⟨k1,k2⟩:=JgC h2;rw [r1] at k1 k2;refine if_neg fun q=> ?_;have:=JpT hf hj;unfold Jg9 at this;exact of_decide_eq_false this ((JiK hs Om (JcU ht hj).1).1 (k2.symm.trans q))
 | some i=>
   obtain ⟨hi,hb⟩:=Jr9 hf;have hb:(l.getD i Jd).num a=((Jiv a r.num:Nat):Int):=of_decide_eq_true hb;have hsz:=Jnl ht hi;have hro:=JfS ht hi;show _=JJ (if (l.getD i Jd).name.size=0 then _ else JeF p (l.getD i Jd).name (Jq a r));rw [if_neg hsz,← JpR p hc _ (JfY hr a),JtO,Jnk,← JtN];have hok:∀q∈((Je p).rules.filter fun r=> kS r.name (l.getD i Jd).name).map JA,q.ok:=fun q hq=> by
    obtain ⟨n,hn,rfl⟩:=List.mem_map.1 hq;exact JpS hc n (List.mem_filter.1 hn).1
   show _=(Jae (Jq a r) _).getD (JJ p.dflt);rw [← Jq7 (a:=a) (d:=JJ p.dflt) (fun h=> JxP h) _ hok];refine congrArg (fun o:Option Nat=> o.getD (JJ p.dflt)) (Jlo (fun e he=> ?_) fun h=> ?_)
   ·obtain ⟨g,hg,h2⟩:=JiL he;obtain ⟨j,hj,r1,n1⟩:=hG g hg;obtain ⟨k1,k2⟩:=JgC h2;rw [r1] at k1 k2;by_cases q:e.num=r.num
    ·right
     have hn:=(JiK hs Om (JcU ht hj).1).1 (k2.symm.trans q);have:=Jmc ht ha hi hj Om Om;subst this;unfold JaH at h2;split at h2
     ·cases h2
     ·rw [List.mem_singleton.1 h2] at q⊢;rw [JeZ hg,← n1] at q⊢;exact if_pos q
    ·exact .inl (if_neg q)
   ·have hne:((Je p).rules.filter fun r=> kS r.name (l.getD i Jd).name)≠ []:=fun q=> h (by rw [q];unfold Jbf;rfl);have hse:Jbf a (((Je p).rules.filter fun r=> kS r.name (l.getD i Jd).name).map JA) (JJ p.dflt)≠ []:=fun q=> h (by rw [q];rfl);obtain ⟨n,hn⟩:=List.exists_mem_of_ne_nil _ hne;obtain ⟨hn1,hn2⟩:=List.mem_filter.1 hn;obtain ⟨g,hg,hgn⟩:=(Jcg (Jb8 p)).all n hn1;have hg1:g.1=(l.getD i Jd).name:=hgn.trans (JaG.1 hn2);have hg2:=JeZ hg;rw [hg1] at hg2;have hE:JaH a (JJ p.dflt) p.x32 (Jak l g.1) (g.2.map JA)= [⟨JbZ a ((Jak l g.1).num a),Jbf a (g.2.map JA) (JJ p.dflt)⟩]:=
     Jln (by rw [hg1,hro];omega) hx (by rw [hg2];exact hse)
    refine ⟨_,Jnm hg (by rw [hE];exact .head _), ?_⟩;unfold JbA;dsimp only;rw [if_pos (by rw [hg1,hro];exact (JiK hs Om (JcU ht hi).1).2 hb),hg2]
theorem JxQ {p:Pol} {l:List TRow} {k:Nat} (hv:(JT p l).2=0) (hc:∀r∈p.rules,∀c∈r.conds,c.ok) (hm:∀r∈p.rules,Jcj l r=false) (hk:0 < k) (m:Nat):
 (((J0 p l).subs (k - 1)).findSome? (fun s=> if s.num=m then some s.code else none)).getD (JJ p.dflt)=JJ (if (Jgy l (l.findIdx? (Jiu k (m:Nat)))).size=0 then p.dflt else Jc7 p (Jgy l (l.findIdx? (Jiu k (m:Nat))))):=by
 have ht:=(Jac.1 hv).2.1
 have hG:=Jcz (p:=p) (JbN hv)
 cases hf:l.findIdx? (Jiu k (m:Nat)) with
 | none=>
   rw [Jlo (o:=none) (fun e he=> .inl ?_) (fun h=> absurd rfl h)]
   ·rfl
   ·obtain ⟨g,hg,h2⟩:=JiM he;obtain ⟨j,hj,r1,_⟩:=hG g hg;obtain ⟨k1,k2⟩:=JgD h2;rw [r1] at k1 k2;refine if_neg fun q=> ?_;have:=JpT hf hj;have h3:=Jda ht hj;have:Jiu k (m:Nat) (l.getD j Jd)=true:=by
     unfold Jiu;rw [decide_eq_true Om,decide_eq_true Om,decide_eq_true Om];rfl
    simp_all
 | some i=>
   obtain ⟨hi,hb⟩:=Jr9 hf;unfold Jiu at hb;simp only [Bool.and_eq_true,decide_eq_true_eq] at hb;have hsz:=Jnl ht hi;have hro:=JfS ht hi;show _=JJ (if (l.getD i Jd).name.size=0 then _ else Jc7 p (l.getD i Jd).name);have hno:∀r∈p.rules,kS r.name (l.getD i Jd).name=true→r.conds= []:=fun r hr hn=> by
    have:=hm r hr;unfold Jcj at this;rw [JaG.1 hn,hro,decide_eq_true Om,Bool.true_and] at this;exact List.eq_nil_of_length_eq_zero (by have:=of_decide_eq_false this;omega)
   rw [if_neg hsz,← JtM hc hno];have hbl:Jc7 (Je p) (l.getD i Jd).name=(((Je p).rules.filter fun r=> kS r.name (l.getD i Jd).name).head?.map (·.act)).getD p.dflt:=by
    unfold Jc7;rw [List.head?_filter];cases hq:(Je p).rules.find? (fun r=> kS r.name (l.getD i Jd).name) with
    | none=> rfl
    | some n=>
      have hn1:=List.mem_of_find?_eq_some hq;have hn2:=List.find?_some hq;obtain ⟨r,hr,hN⟩:=JeY hn1;have h5:=hno r hr (by rw [← (Jbp hN).2.1];exact hn2);have h6:=(Jbp hN).1;rw [h5] at h6;show (if n.conds.length=0 then _ else _)=_;rw [if_pos (by simpa using h6)];rfl
   rw [hbl,Jnk];refine congrArg (fun o:Option Nat=> o.getD (JJ p.dflt)) (Jlo (fun e he=> ?_) fun h=> ?_)
   ·obtain ⟨g,hg,h2⟩:=JiM he;obtain ⟨j,hj,r1,n1⟩:=hG g hg;obtain ⟨k1,k2⟩:=JgD h2;rw [r1] at k1 k2;by_cases q:e.num=m
    ·right
     have h3:=Jda ht hj;have h4:=Jda ht hi;have:=Jmd ht hi hj Om Om Om;subst this;unfold JbB at h2;split at h2
     ·rw [List.mem_singleton.1 h2] at q⊢;refine (if_pos q).trans ?_;have hr:=(Jcg (Jb8 p)).rows g hg;rw [← n1] at hr;rw [← hr.1];obtain ⟨n,L,e⟩:=List.exists_cons_of_ne_nil hr.2;rw [e];rfl
     ·cases h2
    ·exact .inl (if_neg q)
   ·have hne:((Je p).rules.filter fun r=> kS r.name (l.getD i Jd).name)≠ []:=fun q=> h (by rw [q];rfl);obtain ⟨n,hn⟩:=List.exists_mem_of_ne_nil _ hne;obtain ⟨hn1,hn2⟩:=List.mem_filter.1 hn;obtain ⟨g,hg,hgn⟩:=(Jcg (Jb8 p)).all n hn1;have hg1:g.1=(l.getD i Jd).name:=hgn.trans (JaG.1 hn2);have hg2:=JeZ hg;rw [hg1] at hg2;have h4:=Jda ht hi;have hE:JbB (k - 1) (Jak l g.1) (g.2.map JA)= [⟨(Jak l g.1).sub.toNat,((g.2.map JA).getD 0 ⟨[],0⟩).code⟩]:=if_pos (by rw [hg1,hro];omega);refine ⟨_,Jnn hg (by rw [hE];exact .head _), ?_⟩;dsimp only;rw [if_pos (by rw [hg1,hro];omega),hg2];obtain ⟨n,L,e⟩:=List.exists_cons_of_ne_nil hne;rw [e];rfl
def byP (P:Plan) (r:Rec):Nat:=match JfA r.arch r.num with
 | none=> 2147483648
 | some a=> if a=1∧P.x32=false then 2147483648
   else if 0 < Jd4 a r.num then ((P.subs (Jd4 a r.num - 1)).findSome? fun s=> if s.num=r.a0 % 4294967296 then some s.code else none).getD P.dflt
   else ((P.ents a).findSome? (JbA (Jq a r) r.num)).getD P.dflt
theorem JpV {p:Pol} {l:List TRow} {r:Rec} (hv:(JT p l).2=0) (hc:∀r∈p.rules,∀c∈r.conds,c.ok) (hm:∀r∈p.rules,Jcj l r=false) (hr:r.ok):byP (J0 p l) r=JJ (JeV p l r):=by
 cases hs:JfA r.arch r.num with
 | none=>
   have ho:ofI l r=Jyy:=by unfold ofI;rw [hs]
   unfold byP JeV;rw [ho,hs];exact code_kill18.symm
 | some a=>
   have hb:¬(a=1∧p.x32=false)→((!true|| (decide (((a:Nat):Int)=1)&& !p.x32))=true)=False:=fun hx=> by
    cases hx2:p.x32 with
    | true=> simp
    | false=>
      have:a≠1:=fun h=> hx ⟨h,hx2⟩;have:¬((a:Nat):Int)=1:=(by omega);rw [decide_eq_false this];simp
   by_cases hk:0 < Jd4 a r.num
   ·have ho:ofI l r=⟨true,a,Jgy l (l.findIdx? (Jiu (Jd4 a r.num) ((r.a0 % 4294967296:Nat):Int))),true⟩:=(by unfold ofI;rw [hs];exact if_pos hk);have ha:¬(a=1∧p.x32=false):=fun h=> by
     rw [h.1] at hk;unfold Jd4 at hk;rw [if_neg Dc] at hk;omega
    unfold byP JeV;rw [ho,hs];dsimp only;rw [if_neg (show ¬(a=1∧(J0 p l).x32=false) from ha),if_pos hk,if_neg (by rw [hb ha];exact id)];refine (JxQ hv hc hm hk _).trans (congrArg JJ ?_);split
    ·rfl
    ·rfl
   ·have ho:ofI l r=⟨true,a,Jgy l (l.findIdx? (Jg9 a ((Jiv a r.num:Nat):Int))),false⟩:=(by unfold ofI;rw [hs];exact if_neg hk);unfold byP JeV;rw [ho,hs];dsimp only;by_cases hx:a=1∧p.x32=false
    ·rw [if_pos (show a=1∧(J0 p l).x32=false from hx)];obtain ⟨rfl,hx⟩:=hx;rw [if_pos (by rw [hx];rfl)];exact code_kill18.symm
    ·rw [if_neg (show ¬(a=1∧(J0 p l).x32=false) from hx),if_neg hk,if_neg (by rw [hb hx];exact id)];exact JpU hv hc (JrN hs) hs hx hr
def Jb0 (nm:ByteArray) (l:List Rul):List Rul:=l.filter (fun r=> kS r.name nm)++l.filter (fun r=> !kS r.name nm)
def frontP (nm:ByteArray) (p:Pol):Pol:=⟨p.dflt,p.x32,Jb0 nm p.rules⟩
theorem Jch {nm:ByteArray} {l:List Rul} {r:Rul}:r∈Jb0 nm l↔r∈l:=by
 unfold Jb0
 rw [List.mem_append,List.mem_filter,List.mem_filter]
 cases kS r.name nm <;> simp
theorem JtP (nm:ByteArray) (l:List Rul):(Jb0 nm l).Perm l:=List.filter_append_perm _ l
theorem JiN (nm:ByteArray) (l:List Rul):(Jb0 nm l).length=l.length:=(JtP nm l).length_eq
theorem Jlp (nm:ByteArray) (l:List Rul) (x:ByteArray) (P:Rul→Bool) (hP:∀r,P r=true→r.name=x):(Jb0 nm l).find? P=l.find? P:=by
 have key:∀(F:Rul→Bool) (l:List Rul),(∀r,P r=true→F r=true)→(l.filter F).find? P=l.find? P:=fun F l hF=> by
  induction l with
  | nil=> rfl
  | cons r l ih=>
    cases h:F r with
    | true=> rw [List.filter_cons_of_pos h,List.find?_cons,List.find?_cons,ih]
    | false=>
      have h2:P r=false:=by
       cases hp:P r
       ·rfl
       ·rw [hF r hp] at h;cases h
      rw [List.filter_cons_of_neg (by rw [h];decide),List.find?_cons,h2,ih]
 have none:∀(F:Rul→Bool) (l:List Rul),(∀r,P r=true→F r=false)→(l.filter F).find? P=none:=fun F l hF=> by
  rw [List.find?_eq_none];intro r hr hp;rw [List.mem_filter] at hr;rw [hF r hp] at hr;cases hr.2
 unfold Jb0
 rw [List.find?_append]
 cases hx:kS x nm with
 | true=>
   rw [key _ l (fun r hr=> by rw [hP r hr];exact hx),none _ l (fun r hr=> by rw [hP r hr,hx];rfl)];cases l.find? P <;> rfl
 | false=>
   rw [none _ l (fun r hr=> by rw [hP r hr];exact hx),key _ l (fun r hr=> by rw [hP r hr,hx];rfl)];rfl
theorem JpW (nm:ByteArray) (p:Pol) (l:List TRow) (r:Rec):JeV (frontP nm p) l r=JeV p l r:=by
 have h1:∀x,Jc7 (frontP nm p) x=Jc7 p x:=fun x=> by
  unfold Jc7 frontP;dsimp only;rw [Jlp nm p.rules x _ (fun r h=> JaG.1 h)]
 have h2:∀x f,JeF (frontP nm p) x f=JeF p x f:=fun x f=> by
  unfold JeF frontP;dsimp only;rw [Jlp nm p.rules x _ (fun r h=> JaG.1 (by rw [Bool.and_eq_true] at h;exact h.1))]
 unfold JeV
 rw [h1,h2]
 rfl
def Jgl (a b:Rul):Prop:=JeE b a=false
theorem Jmg {l:List TRow} {rs:List Rul} {i:Nat}:JbQ l rs i=0↔Jap l (rs.getD i Jg).name=true∧(rs.getD i Jg).conds.any Jdw=false∧(rs.take i).any (JeE (rs.getD i Jg))=false:=by
 unfold JbQ
 cases Jap l (rs.getD i Jg).name
 ·simp
 ·cases (rs.getD i Jg).conds.any Jdw
  ·cases (rs.take i).any (JeE (rs.getD i Jg)) <;> simp
  ·simp
theorem Jlq {l:List TRow} {rs:List Rul}:(∀i,i < rs.length→JbQ l rs i=0)↔(∀r∈rs,Jap l r.name=true∧r.conds.any Jdw=false)∧rs.Pairwise Jgl:=by
 have g:∀i (hi:i < rs.length),rs.getD i Jg=rs[i]:=fun i hi=> by simp [List.getD,hi]
 rw [List.pairwise_iff_getElem]
 constructor
 ·intro h;refine ⟨fun r hr=> ?_,fun i j hi hj hij=> ?_⟩
  ·obtain ⟨i,hi,rfl⟩:=List.getElem_of_mem hr;have:=Jmg.1 (h i hi);rw [g i hi] at this;exact ⟨this.1,this.2.1⟩
  ·have:=(Jmg.1 (h j hj)).2.2;rw [g j hj,List.any_eq_false] at this;have hm:rs[i]∈rs.take j:=by
    rw [List.mem_take_iff_getElem];exact ⟨i,Om,rfl⟩
   simpa [Jgl] using this _ hm
 ·rintro ⟨h1,h2⟩ i hi;refine Jmg.2 ?_;rw [g i hi];refine ⟨(h1 _ (List.getElem_mem hi)).1,(h1 _ (List.getElem_mem hi)).2, ?_⟩;rw [List.any_eq_false];intro x hx;obtain ⟨j,hj,rfl⟩:=List.mem_take_iff_getElem.1 hx;simpa [Jgl] using h2 j i Om hi Om
theorem JtQ {nm:ByteArray}:∀ {l:List Rul},(Jb0 nm l).Pairwise Jgl↔l.Pairwise Jgl:=by
 intro l
 have hne:∀a b:Rul,kS a.name nm≠kS b.name nm→Jgl a b:=fun a b h=> by
  unfold Jgl JeE;rw [show kS a.name b.name=false from by
   cases hk:kS a.name b.name
   ·rfl
   ·exact absurd (by rw [JaG.1 hk]) h]
  rfl
 unfold Jb0
 rw [List.pairwise_append]
 constructor
 ·rintro ⟨h1,h2,-⟩
  induction l with
  | nil=> exact .nil
  | cons r l ih=>
    cases hr:kS r.name nm with
    | true=>
      rw [List.filter_cons_of_pos (p:=fun r:Rul=> kS r.name nm) hr,List.pairwise_cons] at h1;rw [List.filter_cons_of_neg (p:=fun r:Rul=> !kS r.name nm) (by rw [hr];decide)] at h2;refine List.pairwise_cons.2 ⟨fun b hb=> ?_,ih h1.2 h2⟩;cases hk:kS b.name nm with
      | true=> exact h1.1 b (List.mem_filter.2 ⟨hb,hk⟩)
      | false=> exact hne r b (by rw [hr,hk];decide)
    | false=>
      rw [List.filter_cons_of_neg (p:=fun r:Rul=> kS r.name nm) (by rw [hr];decide)] at h1;rw [List.filter_cons_of_pos (p:=fun r:Rul=> !kS r.name nm) (by rw [hr];rfl),List.pairwise_cons] at h2;refine List.pairwise_cons.2 ⟨fun b hb=> ?_,ih h1 h2.2⟩;cases hk:kS b.name nm with
      | false=> exact h2.1 b (List.mem_filter.2 ⟨hb,by rw [hk];rfl⟩)
      | true=> exact hne r b (by rw [hr,hk];decide)
 ·intro h;refine ⟨h.sublist List.filter_sublist,h.sublist List.filter_sublist,fun a ha b hb=> ?_⟩;rw [List.mem_filter] at ha hb;exact hne a b (by rw [ha.2,show kS b.name nm=false by simpa using hb.2];decide)
theorem Jrh (nm:ByteArray) (p:Pol):Jaq (frontP nm p)=Jaq p:=by
 unfold Jaq frontP
 dsimp only
 rw [JiN]
 congr 3
 rw [Bool.eq_iff_iff,List.any_eq_true,List.any_eq_true]
 exact ⟨fun ⟨r,h1,h2⟩=> ⟨r,Jch.1 h1,h2⟩,fun ⟨r,h1,h2⟩=> ⟨r,Jch.2 h1,h2⟩⟩
theorem Jri (nm:ByteArray) (p:Pol) (l:List TRow):(JT (frontP nm p) l).2=0↔(JT p l).2=0:=by
 rw [Jac,Jac,Jrh,Jlq,Jlq]
 show _∧_∧(∀r∈Jb0 nm p.rules,_)∧_↔_
 rw [show (frontP nm p).rules=Jb0 nm p.rules from rfl,JtQ]
 have:(∀r∈Jb0 nm p.rules,Jap l r.name=true∧r.conds.any Jdw=false)↔∀r∈p.rules,Jap l r.name=true∧r.conds.any Jdw=false:=⟨fun h r hr=> h r (Jch.2 hr),fun h r hr=> h r (Jch.1 hr)⟩
 rw [this]
def okE (p:Pol) (l:List TRow):Prop:=(JT p l).2=0∧∀r∈p.rules,Jcj l r=false
theorem JhS (nm:ByteArray) (p:Pol) (l:List TRow):okE (frontP nm p) l↔okE p l:=by
 unfold okE
 rw [Jri]
 exact ⟨fun h=> ⟨h.1,fun r hr=> h.2 r (Jch.2 hr)⟩,fun h=> ⟨h.1,fun r hr=> h.2 r (Jch.1 hr)⟩⟩
theorem JxR (nm:ByteArray) {p:Pol} {l:List TRow} {r:Rec} (h:okE p l) (hc:∀r∈p.rules,∀c∈r.conds,c.ok) (hr:r.ok):byP (J0 (frontP nm p) l) r=byP (J0 p l) r:=by
 have h2:=(JhS nm p l).2 h
 rw [JpV h.1 hc h.2 hr,JpV h2.1 (fun r hr=> hc r (Jch.1 hr)) h2.2 hr,JpW]
open Go.Vl Go.Shelf
def bs (l:List UInt8):ByteArray:=⟨l.toArray⟩
theorem Jaj (l:List UInt8):(bs l).size=l.length:=rfl
theorem Jzi (l:List UInt8):(bs l).data.toList=l:=rfl
theorem Jgm (a b:List UInt8):bs (a++b)=bs a++bs b:=by apply ByteArray.ext;simp [bs]
theorem JpX {l:List UInt8} {i:Nat} (h:i < l.length):(bs l).get! i=l[i]:=by
 show l.toArray[i]! =_
 rw [getElem!_pos l.toArray i (by simpa using h)];simp
theorem JdP (l:List UInt8) (a b:Nat):(bs l).extract a b=bs ((l.take b).drop a):=by
 apply ByteArray.ext;simp [bs,List.extract_eq_take_drop,List.drop_take]
def spl:List UInt8→Option (List UInt8)→List (List UInt8)
 | [],none=> []
 | [],some w=> [w]
 | c::r,none=> if JbD c.toNat then spl r none else spl r (some [c])
 | c::r,some w=> if JbD c.toNat then w::spl r none else spl r (some (w++ [c]))
theorem Jno {l:List UInt8} {a k:Nat} (h:k < l.length) (ha:a≤k):(l.take (k+1)).drop a=(l.take k).drop a++ [l[k]]:=by
 rw [List.take_add_one,List.getElem?_eq_getElem h,Option.toList_some,List.drop_append_of_le_length (by simp;omega)]
theorem Jfq (l:List UInt8) (ha:∀b∈l,b.toNat < 128):∀(f k:Nat) (st:Option Nat) (acc:List (Nat×Nat)),k+f=l.length→(∀a,st=some a→a≤k)→
 (Lib.closeSpans (bs l) (Lib.spansFromP JbD (bs l) f k st acc)).map (fun x=> (bs l).extract x.1 x.2)=acc.map (fun x=> (bs l).extract x.1 x.2)++(spl (l.drop k) (st.map fun a=> (l.take k).drop a)).map bs
 | 0,k,st,acc,hk,hs=> by
   rw [List.drop_eq_nil_of_le Om];cases st with
   | none=> simp [Lib.spansFromP,Lib.closeSpans,spl]
   | some a=>
     have e:(bs l).extract a (bs l).size=bs ((l.take k).drop a):=(by rw [JdP,Jaj,show k=l.length by omega]);simp only [Lib.spansFromP,Lib.closeSpans,Option.map_some,spl,List.map_append,List.map_cons,List.map_nil];rw [e]
 | f+1,k,st,acc,hk,hs=> by
   have hlt:k < l.length:=by omega
   have hd:Utf8.decode (bs l) k=(l[k].toNat,1):=by
    have h:=JmN (s:=bs l) (i:=k) (by rw [JpX hlt];exact ha _ (List.getElem_mem hlt));rw [JpX hlt] at h;exact h
   unfold Lib.spansFromP;rw [if_pos (by rw [Jaj];exact hlt),hd,List.drop_eq_getElem_cons hlt];cases hb:JbD l[k].toNat with
   | true=>
     cases st with
     | none=>
       simp only [if_true,Option.map_none,spl,hb];exact Jfq l ha f (k+1) none acc Om (fun _ h=> by cases h)
     | some a=>
       simp only [if_true,Option.map_some,spl,hb];rw [Jfq l ha f (k+1) none _ Om (fun _ h=> by cases h),List.map_append,List.map_cons,List.map_nil,JdP,List.append_assoc];rfl
   | false=>
     cases st with
     | none=>
       simp only [Option.map_none,spl,hb];have h:=Jfq l ha f (k+1) (some k) acc Om (fun a h=> by cases h;omega);rw [Option.map_some,Jno hlt (Nat.le_refl k),List.drop_take_self,List.nil_append] at h;exact h
     | some a=>
       have hak:=hs a rfl;simp only [Option.map_some,spl,hb];have h:=Jfq l ha f (k+1) (some a) acc Om (fun a h=> by cases h;omega);rw [Option.map_some,Jno hlt hak] at h;exact h
theorem JtR (l:List UInt8) (ha:∀b∈l,b.toNat < 128):Lib.goFieldsP JbD (bs l)=(spl l none).map bs:=by
 have h:=Jfq l ha l.length 0 none [] Om (fun _ h=> by cases h)
 exact h
def JdU (w:List UInt8):Prop:=w≠ []∧∀b∈w,33≤b.toNat∧b.toNat≤126∧b≠35
theorem JpY {b:UInt8} (h:33≤b.toNat):JbD b.toNat=false:=by unfold JbD;simp;omega
theorem JvZ:∀(w r v:List UInt8),(∀b∈w,33≤b.toNat)→spl (w++r) (some v)=spl r (some (v++w))
 | [],r,v,_=> by simp
 | c::w,r,v,h=> by
   rw [List.cons_append,spl,JpY (h c (List.mem_cons_self ..))];simp only [Bool.false_eq_true,if_false];rw [JvZ w r (v++ [c]) (fun b hb=> h b (List.mem_cons_of_mem _ hb)),List.append_assoc];rfl
theorem JpZ {w r:List UInt8} (h:JdU w):spl (w++r) none=spl r (some w):=by
 obtain ⟨h1,h2⟩:=h
 cases w with
 | nil=> exact absurd rfl h1
 | cons c w=>
   rw [List.cons_append,spl,JpY (h2 c (List.mem_cons_self ..)).1];simp only [Bool.false_eq_true,if_false];rw [JvZ w r [c] (fun b hb=> (h2 b (List.mem_cons_of_mem _ hb)).1)];rfl
def JO:List (List UInt8)→List UInt8
 | []=> []
 | [w]=> w
 | w::v::r=> w++32::JO (v::r)
theorem Jfr:∀ {a b:List (List UInt8)},a≠ []→b≠ []→JO (a++b)=JO a++32::JO b
 | [],b,h,_=> absurd rfl h
 | [w],b,_,h=> by
   cases b with
   | nil=> exact absurd rfl h
   | cons v r=> rfl
 | w::v::r,b,_,h=> by
   rw [List.cons_append,List.cons_append,JO,JO];rw [← List.cons_append,Jfr (List.cons_ne_nil _ _) h,List.append_assoc];rfl
theorem Jp0:∀ {ws:List (List UInt8)},(∀w∈ws,JdU w)→spl (JO ws) none=ws
 | [],_=> rfl
 | [w],h=> by
   have:=JpZ (r:= []) (h w (List.mem_cons_self ..));rw [List.append_nil] at this;exact this
 | w::v::r,h=> by
   rw [JO,JpZ (h w (List.mem_cons_self ..)),spl];simp only [show JbD (32:UInt8).toNat=true from rfl,if_true];rw [Jp0 (fun x hx=> h x (List.mem_cons_of_mem _ hx))]
theorem JgE:∀ {ws:List (List UInt8)} {b:UInt8},(∀w∈ws,JdU w)→b∈JO ws→(b=32∨(33≤b.toNat∧b.toNat≤126∧b≠35))
 | [],b,_,h=> by cases h
 | [w],b,h,hb=> .inr ((h w (List.mem_cons_self ..)).2 b hb)
 | w::v::r,b,h,hb=> by
   rcases List.mem_append.1 hb with h1 | h1
   ·exact .inr ((h w (List.mem_cons_self ..)).2 b h1)
   ·rcases List.mem_cons.1 h1 with h2 | h2
    ·exact .inl h2
    ·exact JgE (fun x hx=> h x (List.mem_cons_of_mem _ hx)) h2
def J8:List (List UInt8)→List UInt8
 | []=> []
 | [w]=> w
 | w::v::r=> w++10::J8 (v::r)
theorem Jlr:∀L:List (List UInt8),J8 (L++ [[]])=L.flatMap fun l=> l++ [10]
 | []=> rfl
 | [w]=> by simp [J8]
 | w::v::r=> by
   have h:=Jlr (v::r);rw [List.cons_append,List.cons_append,J8];rw [← List.cons_append,h];simp
theorem Jnp {l:List UInt8} {c:UInt8}:c∉l→Lib.indexByte l c=-1:=by
 induction l with
 | nil=> intro _;rfl
 | cons b l ih=>
   intro h;have h1:¬b=c:=fun e=> h (e ▸ List.mem_cons_self ..);have h2:=ih (fun q=> h (List.mem_cons_of_mem _ q));simp [Lib.indexByte,h1,h2]
theorem Jsa {c:UInt8} (r:List UInt8):∀ {l:List UInt8},c∉l→Lib.indexByte (l++c::r) c=l.length
 | [],_=> by simp [Lib.indexByte]
 | b::l,h=> by
   have h1:¬b=c:=fun e=> h (e ▸ List.mem_cons_self ..);have h2:=Jsa r (l:=l) (fun q=> h (List.mem_cons_of_mem _ q));simp only [List.cons_append,Lib.indexByte,h1,if_false,h2];simp [h1,show ¬((l.length:Int)=-1) by omega]
theorem Jg2 {a b:ByteArray} (h:a=b):AVle (strA a) (strA b):=h ▸ Rf
theorem Jjl:∀(k n:Nat),n < 10 ^ (k+1)→(Lib.decDigits n).length≤k+1
 | 0,n,h=> by rw [Lib.decDigits,dif_pos Om];exact Nat.le_refl _
 | k+1,n,h=> by
   rw [Lib.decDigits];split
   ·exact Nat.succ_le_succ (Nat.zero_le _)
   ·rw [List.length_append,List.length_singleton];have:=Jjl k (n / 10) (by rw [Nat.pow_succ] at h;omega);omega
theorem JcA {n:Nat} (h:n≤18446744073709551615):(Jay n).size≤20:=Jjl 19 n Om
theorem JgF {a b:AV} {K:AV→Prop} (h:a=b) (hk:Jci b K):Jci a K:=h ▸ hk
def digs:ByteArray:= { data:= #[48,49,50,51,52,53,54,55,56,57]}
def kwL:List ByteArray:= [⟨#[107,105,108,108]⟩,⟨#[107,105,108,108,95,116,104,114,101,97,100]⟩,⟨#[116,114,97,112]⟩,⟨#[101,114,114,110,111]⟩,⟨#[110,111,116,105,102,121]⟩,⟨#[116,114,97,99,101]⟩,⟨#[108,111,103]⟩,⟨#[97,108,108,111,119]⟩]
def spB:ByteArray:=⟨#[32]⟩
def JxS (a:A2):ByteArray:=if a.1=4∨a.1=6 then kwL.getD (a.1.toNat - 1) spB++spB++Jay a.2.toNat else kwL.getD (a.1.toNat - 1) spB
theorem JAa {a b:ByteArray} (h:b.size≤20) (k:a.size≤1000000):((a.size+b.size:Nat):Int)≤9223372036854775807:=by omega
theorem Jp1 (k n:Nat) (hk:k < 8) (hn:n≤km k):Tells Tryz.prog 33 [act (k+1:Nat) n] (strA (JxS ((k+1:Nat),n))):=by
 have hR:=JhD ((k+1:Nat):Int) (n:Int)
 have hkm:((km k:Nat):Int)=Jdj ((k+1:Nat):Int):=by
  clear hR hn;rcases k with _ | _ | _ | _ | _ | _ | _ | _ | k
  all_goals first | decide | omega
 rw [show right9 ((k+1:Nat):Int) (n:Int)=true by unfold right9;rw [← hkm];simp;omega] at hR
 have ho:=Jir k hk
 have h5:=JAC hk
 have hit:=JmS n Om
 have hsz:=JcA (n:=n) Om
 rcases k with _ | _ | _ | _ | _ | _ | _ | _ | k
 all_goals
  refine Jc Tryz.func33 rfl rfl fun nx=> ?_;refine Z ?_;refine Ja rfl rfl hR Y1 fun nx2=> ?_;refine Z ?_;refine Ja rfl rfl ho Y1 fun nx3=> ?_;refine Z ?_
  first
  | exact Jb rfl Rf
  | (exfalso;omega)
  | skip
 all_goals
  refine Jaf 7 _ (fun _=> false) (Ef [5]) [0,1,2,3,4,5,6] Kr Kr (HB.refl _) ?_;refine Z ?_;refine ⟨_,Jao rfl rfl rfl hit Y1 (NoId.v _), ?_⟩;refine Z ?_;refine ⟨JAa hsz Dc, ?_⟩;refine Z ?_;exact Jb rfl Rf
def kwT (k:Nat):Bts:=(kwL.getD k spB).data.toList
def J5 (a:A2):List Bts:=if a.1=4∨a.1=6 then [kwT (a.1.toNat - 1),Lib.decDigits a.2.toNat] else [kwT (a.1.toNat - 1)]
theorem JAb (a:A2):JxS a=bs (JO (J5 a)):=by
 unfold JxS J5
 split
 ·apply ByteArray.ext;simp [bs,JO,kwT,Jay,spB]
 ·rfl
def JbC (c:Cnd):List Bts:=(97::Lib.decDigits c.arg.toNat)::opT (c.op.toNat - 1)::(if c.op=7 then [Lib.decDigits c.mask, [61,61],Lib.decDigits c.value] else [Lib.decDigits c.value])
theorem Jzj (c:Cnd):JP c=JO (JbC c):=by
 unfold JP JbC
 split <;> simp [JO]
def ifW:Bts:= [105,102]
def JA1:Bts:= [97,110,100]
def Jd6 (first:Bool):Bts:=bif first then ifW else JA1
def Jbl:Bool→List Cnd→List Bts
 | _, []=> []
 | b,c::cs=> Jd6 b::(JbC c++Jbl false cs)
def Jbo (r:Rul):List Bts:=r.name.data.toList::(J5 r.act++Jbl true r.conds)
def Jca:Bts:= [100,101,102,97,117,108,116]
def Jeg:Bts:= [120,51,50]
def onW:Bts:= [111,110]
def Jck (p:Pol):List (List Bts):=(Jca::J5 p.dflt)::((if p.x32 then [[Jeg,onW]] else [])++p.rules.map Jbo)
def JR (L:List (List Bts)):Bts:=L.flatMap fun l=> JO l++ [10]
theorem Jsb (L:List (List Bts)):JR L=J8 (L.map JO++ [[]]):=by
 rw [Jlr,JR,List.flatMap_map]
theorem JxT (c:Cnd):JbC c≠ []:=List.cons_ne_nil _ _
theorem Jmh (a:A2):J5 a≠ []:=by unfold J5;split <;> exact List.cons_ne_nil _ _
def JbU:Bool→List Cnd→Bts
 | _, []=> []
 | b,c::cs=> 32::(Jd6 b++32::(JP c++JbU false cs))
theorem Jnq (a:List Bts) (ha:a≠ []):∀(b:Bool) (cs:List Cnd),JO (a++Jbl b cs)=JO a++JbU b cs
 | _, []=> by rw [Jbl,JbU,List.append_nil,List.append_nil]
 | b,c::cs=> by
   have h:=Jnq (JbC c) (JxT c) false cs;have e:JO (Jd6 b::(JbC c++Jbl false cs))=Jd6 b++32::JO (JbC c++Jbl false cs):=Jfr (a:= [Jd6 b]) (List.cons_ne_nil _ _) (by simp [JbC]);rw [Jbl,JbU,Jfr ha (List.cons_ne_nil _ _),e,h,Jzj]
theorem Jp2 (r:Rul):JO (Jbo r)=r.name.data.toList++32::(JO (J5 r.act)++JbU true r.conds):=by
 have e:JO (Jbo r)=r.name.data.toList++32::JO (J5 r.act++Jbl true r.conds):=Jfr (a:= [r.name.data.toList]) (List.cons_ne_nil _ _) (by simp [Jmh])
 rw [e,Jnq _ (Jmh _)]
theorem Jls:∀(cs:List Cnd) (b:Bool) (c:Cnd),JbU b (cs++ [c])=JbU b cs++32::(Jd6 (b&& cs.isEmpty)++32::JP c)
 | [],b,c=> by simp [JbU]
 | d::cs,b,c=> by
   have h:=Jls cs false c;rw [List.cons_append,JbU,JbU,h];simp
def JtS (w:Bts):Bool:= !w.isEmpty&& w.all fun b=> decide (33≤b.toNat)&& (decide (b.toNat≤126)&& decide (b≠35))
theorem Jeo {w:Bts} (h:JtS w=true):JdU w:=by
 unfold JtS at h
 rw [Bool.and_eq_true,List.all_eq_true] at h
 refine ⟨fun e=> by rw [e] at h;exact absurd h.1 Dc,fun b hb=> ?_⟩
 have:=h.2 b hb
 simpa using this
theorem Jv0:∀k,k < 8→JdU (kwT k):=fun k hk=> Jeo ((by decide:∀k,k < 8→JtS (kwT k)=true) k hk)
theorem JAc:∀k,k < 7→JdU (opT k):=fun k hk=> Jeo ((by decide:∀k,k < 7→JtS (opT k)=true) k hk)
theorem Jv1 {b:UInt8} (h:48≤b.toNat∧b.toNat≤57):33≤b.toNat∧b.toNat≤126∧b≠35:=⟨Om,Om,fun e=> by rw [e] at h;exact absurd h Dc⟩
theorem Jjm (n:Nat):JdU (Lib.decDigits n):=⟨Jpl n,fun _ hb=> Jv1 (JeU hb)⟩
theorem Jzk (n:Nat):JdU (97::Lib.decDigits n):=⟨List.cons_ne_nil _ _,fun b hb=> by
 rcases List.mem_cons.1 hb with rfl | h
 ·decide
 ·exact Jv1 (JeU h)⟩
theorem Jsc {a:A2} (h:right9 a.1 a.2=true):∀w∈J5 a,JdU w:=by
 have h1:1≤a.1∧a.1≤8:=by simp [right9] at h;omega
 intro w hw
 unfold J5 at hw
 split at hw
 ·rcases List.mem_cons.1 hw with rfl | hw
  ·exact Jv0 _ Om
  ·rw [List.mem_singleton.1 hw];exact Jjm _
 ·rw [List.mem_singleton.1 hw];exact Jv0 _ Om
theorem JxU {c:Cnd} (h:rightC c=true):∀w∈JbC c,JdU w:=by
 obtain ⟨_,_,h3,h4,_⟩:=JX.1 h
 intro w hw
 unfold JbC at hw
 rcases List.mem_cons.1 hw with rfl | hw
 ·exact Jzk _
 rcases List.mem_cons.1 hw with rfl | hw
 ·exact JAc _ Om
 split at hw
 ·rcases List.mem_cons.1 hw with rfl | hw
  ·exact Jjm _
  rcases List.mem_cons.1 hw with rfl | hw
  ·exact Jeo Dc
  ·rw [List.mem_singleton.1 hw];exact Jjm _
 ·rw [List.mem_singleton.1 hw];exact Jjm _
theorem Jp3:∀ {cs:List Cnd} {b:Bool},(∀c∈cs,rightC c=true)→∀w∈Jbl b cs,JdU w
 | [],b,_,w,hw=> by cases hw
 | c::cs,b,h,w,hw=> by
   rw [Jbl] at hw;rcases List.mem_cons.1 hw with rfl | hw
   ·cases b <;> exact Jeo Dc
   rcases List.mem_append.1 hw with hw | hw
   ·exact JxU (h c (List.mem_cons_self ..)) w hw
   ·exact Jp3 (fun d hd=> h d (List.mem_cons_of_mem _ hd)) w hw
theorem JhT {l:Bts} (h:nameB l=true):JdU l∧l≠Jca∧l≠Jeg∧l.length≤30:=by
 unfold nameB at h
 simp only [Bool.and_eq_true,Bool.not_eq_true',beq_eq_false_iff_ne,decide_eq_true_eq] at h
 obtain ⟨h1,h2,h3,h4,h5,_⟩:=h
 refine ⟨⟨h1,fun b hb=> ?_⟩,h2,h3,h4⟩
 have hc:=List.all_eq_true.1 h5 b hb
 have hm:b∈signsB.data.toList:=by simpa using hc
 exact (Jeo (w:=signsB.data.toList) Dc).2 b hm
structure RightR (r:Rul):Prop where
 name:nameB r.name.data.toList=true
 act:right9 r.act.1 r.act.2=true
 few:r.conds.length≤6
 conds:∀c∈r.conds,rightC c=true
theorem JtT {r:Rul} (h:Jai r=true):RightR r:=by
 unfold Jai at h
 simp only [Bool.and_eq_true,decide_eq_true_eq,Bool.not_eq_true'] at h
 obtain ⟨h1,h2,h3,h4⟩:=h
 exact ⟨h1,h2,h3,fun c hc=> by
  have:=List.any_eq_false.1 h4 c hc;simpa using this⟩
structure RightP (p:Pol):Prop where
 dflt:right9 p.dflt.1 p.dflt.2=true
 few:p.rules.length≤500
 rules:∀r∈p.rules,RightR r
theorem JhU {p:Pol} (h:Jaq p=true):RightP p:=by
 unfold Jaq at h
 simp only [Bool.and_eq_true,decide_eq_true_eq,Bool.not_eq_true'] at h
 obtain ⟨h1,h2,h3⟩:=h
 exact ⟨h1,h2,fun r hr=> JtT (by
  have:=List.any_eq_false.1 h3 r hr;simpa using this)⟩
theorem JxV {r:Rul} (h:RightR r):∀w∈Jbo r,JdU w:=by
 intro w hw
 rcases List.mem_cons.1 hw with rfl | hw
 ·exact (JhT h.name).1
 rcases List.mem_append.1 hw with hw | hw
 ·exact Jsc h.act w hw
 ·exact Jp3 h.conds w hw
theorem Jsd {p:Pol} (h:RightP p):∀l∈Jck p,l≠ []∧∀w∈l,JdU w:=by
 intro l hl
 rcases List.mem_cons.1 hl with rfl | hl
 ·refine ⟨List.cons_ne_nil _ _,fun w hw=> ?_⟩;rcases List.mem_cons.1 hw with rfl | hw
  ·exact Jeo Dc
  ·exact Jsc h.dflt w hw
 rcases List.mem_append.1 hl with hl | hl
 ·split at hl
  ·rw [List.mem_singleton.1 hl];refine ⟨List.cons_ne_nil _ _,fun w hw=> ?_⟩;rcases List.mem_cons.1 hw with rfl | hw
   ·exact Jeo Dc
   ·rw [List.mem_singleton.1 hw];exact Jeo Dc
  ·cases hl
 ·obtain ⟨r,hr,rfl⟩:=List.mem_map.1 hl;exact ⟨List.cons_ne_nil _ _,JxV (h.rules r hr)⟩
theorem JgG {a:A2} (h:right9 a.1 a.2=true):(JO (J5 a)).length≤32:=by
 have h1:1≤a.1∧a.1≤8∧0≤a.2∧a.2≤65535:=by
  simp [right9] at h;have:Jdj a.1≤65535:=by unfold Jdj;split <;> (try split) <;> omega
  omega
 have hk:=(by decide:∀k,k < 8→(kwT k).length≤11) (a.1.toNat - 1) Om
 have hd:(Lib.decDigits a.2.toNat).length≤20:=JcA (n:=a.2.toNat) Om
 unfold J5
 split
 ·simp only [JO,List.length_append,List.length_cons];omega
 ·simp only [JO];omega
theorem Jlt {c:Cnd} (hr:rightC c=true) (hok:c.ok):(JP c).length≤80:=by
 obtain ⟨h1,h2,h3,h4,h5⟩:=JX.1 hr
 have d1:(Lib.decDigits c.arg.toNat).length≤20:=JcA (n:=c.arg.toNat) Om
 have d2:(Lib.decDigits c.mask).length≤20:=JcA (n:=c.mask) (by have:=hok.1;omega)
 have d3:(Lib.decDigits c.value).length≤20:=JcA (n:=c.value) (by have:=hok.2;omega)
 have d4:=(by decide:∀k:Nat,k < 7→(opT k).length≤2) (c.op.toNat - 1) Om
 unfold JP
 simp only [List.length_append,List.length_cons,List.length_nil]
 split
 ·simp only [List.length_append,List.length_cons];omega
 ·omega
theorem JhV:∀ {cs:List Cnd} {b:Bool},(∀c∈cs,rightC c=true∧c.ok)→(JbU b cs).length≤90 * cs.length
 | [],b,_=> Nat.le_refl _
 | c::cs,b,h=> by
   have h1:=JhV (b:=false) (fun d hd=> h d (List.mem_cons_of_mem _ hd));have h2:=Jlt (h c (List.mem_cons_self ..)).1 (h c (List.mem_cons_self ..)).2;have h3:(Jd6 b).length≤3:=by cases b <;> decide
   rw [JbU];simp only [List.length_append,List.length_cons];omega
theorem JiO {r:Rul} (h:RightR r) (hok:r.ok):(JO (Jbo r)).length≤700:=by
 have h1:=(JhT h.name).2.2.2
 have h2:=JgG h.act
 have h3:=JhV (b:=true) (fun c hc=> ⟨h.conds c hc,hok.2.2 c hc⟩)
 have h4:=h.few
 rw [Jp2]
 simp only [List.length_append,List.length_cons]
 omega
theorem Jnr:∀ {L:List (List Bts)} {m:Nat},(∀l∈L,(JO l).length≤m)→(JR L).length≤(m+1) * L.length
 | [],m,_=> Nat.le_refl _
 | l::L,m,h=> by
   have h1:=Jnr (fun d hd=> h d (List.mem_cons_of_mem _ hd));have h2:=h l (List.mem_cons_self ..);unfold JR at h1⊢;rw [List.flatMap_cons,List.length_append,List.length_append,show (l::L).length=L.length+1 from rfl,Nat.mul_succ,show ([10]:Bts).length=1 from rfl];omega
theorem JtU (s:ByteArray) (c:Int):Tells Tryz.prog 186 [.v (.string s), .v (.int .u8 c)] (.v (.int .i64 (Lib.indexByte s.data.toList c.toNat.toUInt8))):=
 Jbj (vs:= [.string s, .int .u8 c]) ⟨_,Tryz.func186,rfl,rfl⟩ fun w=> (Any.stringslite_IndexByte Tryz.lays217 s c w).mono fun e w' ⟨h1,h2⟩=> ⟨h1,by subst h2;exact ⟨rfl,rfl,rfl,Nat.le_refl _,fun _ _=> rfl⟩⟩
theorem Jp4 (s:ByteArray) (hs:s.size≤1000000):Tells Tryz.prog 82 [strA s, .fn (.func 83) [] []] (.sl 1 (Lib.goFieldsP JbD s).length fun k=> .v (((Lib.goFieldsP JbD s).map Value.string).getD k undef)):=by
 have h:=JoX (P:=Tryz.prog) (f:=82) (ars:= [strA s, .fn (.func 83) [] []]) (vs:= [.string s, .func (.func 83) #[] #[]]) (xs:=(Lib.goFieldsP JbD s).map Value.string) (t:=9) ⟨_,Tryz.func82,rfl,rfl⟩ (fun w X g us h1 h2=> by
  match us,h1 with
  | [a,b],_=>
    have ha:=h2 0 _ a rfl rfl;have hb:=JAw _ _ _ _ (h2 1 _ b rfl rfl);generalize a=a' at ha;generalize b=b' at hb;cases ha;cases hb;rfl) (fun w hk=> by
  rw [List.length_map];exact Any.strings_FieldsFunc_grows Tryz.lays229 83 #[] (fun args w=> enters_of Tryz.func83 Kr rfl args w) JbD s w Om (JnU (fun x _=> Jk4 x) w hk) Kr Kr)
 rw [List.length_map] at h
 exact h
theorem Ja2 (l:Bts):(bs l).toList=l:=by rw [Lib.toList_data];rfl
theorem Jlu (l:Bts) (b:UInt8):Tells Tryz.prog 227 [strA (bs l),strA (bs [b])] (int (Lib.indexByte l b)):=by
 have hi:=JtU (bs l) (b.toNat:Int)
 have hbb:((b.toNat:Int).toNat.toUInt8)=b:=by simp
 rw [hbb,Jzi] at hi
 refine Jc Tryz.func227 rfl rfl fun nx=> ?_
 refine Z ?_
 intro c hc
 have hc:c=((bs [b]).toList ==(bs l).toList):=hc
 rw [Ja2,Ja2] at hc
 cases c
 ·refine Z ?_
  (conv=> whnf)
  refine ⟨⟨by decide,(show (0:Int) < 1 by decide)⟩, ?_⟩;refine Z ?_;refine Ja rfl rfl hi Y2 fun nx2=> ?_;refine Z ?_;exact Jb rfl Rf
 ·refine Z ?_;have e: [b]=l:=by simpa using hc.symm
  exact Jb rfl (Jk (by rw [← e];simp [Lib.indexByte]))
theorem JtV (l:Bts) (b:UInt8) (h:b∉l):Tells Tryz.prog 138 [strA (bs l),strA (bs [b])] (.tup [strA (bs l),strA ⟨#[]⟩,boolA false]):=by
 have hi:=Jlu l b
 rw [Jnp h] at hi
 have hc:Tells Tryz.prog 175 [strA (bs l),strA (bs [b])] (.tup [strA (bs l),strA ⟨#[]⟩,boolA false]):=by
  refine Jc Tryz.func175 rfl rfl fun nx=> ?_;refine Z ?_;refine Ja rfl rfl hi Y2 fun nx2=> ?_;refine Z ?_;exact Jf rfl Tt Rf
 refine Jc Tryz.func138 rfl rfl fun nx=> ?_
 refine Z ?_
 refine Ja rfl rfl hc Y2 fun nx2=> ?_
 refine Z ?_
 exact Jf rfl Tt Rf
theorem JjQ (l:Bts) (b:UInt8):Tells Tryz.prog 226 [strA (bs l),strA (bs [b])] (int (Lib.indexByte l b)):=by
 have hi:=Jlu l b
 refine Jc Tryz.func226 rfl rfl fun nx=> ?_
 refine Z ?_
 refine Ja rfl rfl hi Y2 fun nx2=> ?_
 refine Z ?_
 exact Jb rfl Rf
theorem Jrj (s:ByteArray):Tells Tryz.prog 80 [strA s] (.fn (.func 136) [] [.rp [strA s]]):=by
 refine Jc Tryz.func80 rfl rfl fun nx=> ?_
 (repeat ((conv=>whnf);first|refine ω0 ?_|refine ω1 ?_|refine ω2 ?_|refine ω3 ?_|refine ω4 rfl ?_|refine ω5 rfl ?_|refine ω6 ?_|refine ω7 ?_|refine ⟨rfl,?_⟩|refine ⟨trivial,?_⟩|refine ⟨⟨rfl,Nat.le_of_ble_eq_true rfl⟩,?_⟩|refine ⟨⟨by kernel_rfl,by kernel_rfl⟩,?_⟩|refine ⟨by decide,?_⟩|refine Jga ?_|refine Jfg ?_))
 refine AW.le (Jcw (L:= [(2, .fn (.func 136) [] [.rp [strA s]])]) (bx:= []) (pm:= []) (nn:=1) [((0,nx), .c [strA s])] rfl rfl Sf .slnil ⟨Frz.fn Tt ⟨Frz.bp (.head _) rfl,Tt⟩,Tt⟩) ?_
 refine Z ?_
 exact Jb rfl Rf
def JdQ (a:Nat) (s sep:ByteArray):List (Vl.Id×Own):= [((12,a+2), .c [int 0]),((11,a+1), .c [strA sep]),((10,a), .c [strA s])]
def Jmi (a:Nat):AV:= .fn (.func 224) [] [.bp (11,a+1) 0, .bp (10,a) 0, .bp (12,a+2) 0]
theorem Jp5 (s sep:ByteArray) (nx:Nat):ECall Tryz.prog 174 [strA s,strA sep,int 0] ⟨[], [],nx,10⟩ fun r h'=> r=Jmi nx∧h'=⟨JdQ nx s sep, [],nx+3,13⟩:=by
 refine JB Tryz.func174 rfl rfl ?_
 refine Z ?_
 exact Jad rfl ⟨rfl,rfl⟩
theorem Jmj (s sep:ByteArray) (nx:Nat):ECall Tryz.prog 137 [strA s,strA sep] ⟨[], [],nx,10⟩ fun r h'=> r=Jmi nx∧h'=⟨JdQ nx s sep, [],nx+3,13⟩:=by
 refine JB Tryz.func137 rfl rfl ?_
 refine Z ?_
 refine Jel (xs:= [strA s,strA sep,int 0]) [] [] 13 rfl rfl rfl rfl Y3 (Jp5 s sep nx) Bf Pf rfl fun r h' hq=> ?_
 obtain ⟨rfl,rfl⟩:=hq
 refine Z ?_
 exact Jad rfl ⟨rfl,rfl⟩
def nlB:ByteArray:=bs [10]
theorem JcB (x y:Bts) (r:List Bts):J8 (x::y::r)=x++10::J8 (y::r):=rfl
theorem Jzl (x y:Bts) (r:List Bts):(bs (J8 (x::y::r))).extract 0 x.length=bs x:=by
 rw [JdP,JcB,List.drop_zero,List.take_left]
theorem Jzm (x y:Bts) (r:List Bts):(bs (J8 (x::y::r))).extract (x.length+1) (bs (J8 (x::y::r))).size=bs (J8 (y::r)):=by
 rw [JdP,Jaj,List.take_length,JcB]
 congr 1
 rw [← List.singleton_append,← List.append_assoc,show x.length+1=(x++ [(10:UInt8)]).length by simp,List.drop_left]
theorem Jns:∀(a b:List Bts),(J8 b).length≤(J8 (a++b)).length
 | [],b=> Nat.le_refl _
 | [x], []=> by simp [J8]
 | [x],y::b=> by rw [List.singleton_append,JcB];simp;omega
 | x::z::a,b=> by
   have:=Jns (z::a) b;rw [List.cons_append,List.cons_append,JcB];rw [List.cons_append] at this;simp;omega
theorem Jrk (a:Nat) (X:List Bts) (hX:X≠ []) (h10:∀x∈X,(10:UInt8)∉x) (hsz:(J8 X).length≤1000000):JlY Tryz.prog 224 [] [.bp (11,a+1) 0, .bp (10,a) 0, .bp (12,a+2) 0] (fun s:Bts=> [strA (bs s)]) X (JdQ a (bs (J8 X)) nlB):=by
 intro i σ Cb Cp I hc s0 nx nn h0
 refine ECall.wk (JB Tryz.func224 rfl rfl ?_)
 refine Z ?_
 refine Jm (fun y:(List Bts×List Bts)×σ×Nat=> mk 52 [(0, .yl i),(1, .bp (11,a+1) 0),(2, .bp (10,a) 0),(3, .bp (12,a+2) 0)] ⟨JdQ a (bs (J8 y.1.2)) nlB++Cb y.2.1,Cp y.2.1,y.2.2,nn⟩) (fun y=> X=y.1.1++y.1.2∧y.1.2≠ []∧I y.1.1 y.2.1) (fun y=> y.1.2.length) ?_ ?_
 ·exact ⟨(([],X),s0,nx),⟨rfl,hX,h0⟩,Et rfl rfl Bf Pf Y4⟩
 ·rintro ⟨⟨pre,suf⟩,s,nx1⟩ ⟨k1,hne,hI⟩;dsimp only at k1 hne hI
  match suf,k1,hne with
  | [x],k1,_=>
    have hi:=JjQ (J8 [x]) 10;rw [Jnp (show (10:UInt8)∉J8 [x] from h10 x (by rw [k1];simp))] at hi;refine Z ?_;refine Ja rfl rfl hi Y2 fun nx2=> ?_;refine Z ?_;refine Jc0 (pre:=pre) (x:=x) (post:= []) (s:=s) (JdQ a (bs (J8 [x])) nlB) [] rfl rfl rfl hc k1 hI Y1 (fun s' nx' hI'=> ?_) (fun s' nx' hJ=> hJ.elim);refine Z ?_;refine Jad rfl ⟨_,⟨Cb s',Cp s',nx',0⟩,Rf, ?_,s',by rw [k1];exact hI',rfl,rfl⟩;exact Jr _ _ rfl (List.sublist_append_right _ _) Sf Bf Pf
  | x::y::r,k1,_=>
    have hi:=JjQ (J8 (x::y::r)) 10;rw [JcB,Jsa _ (h10 x (by rw [k1];simp)),← JcB] at hi;refine Z ?_;refine Ja rfl rfl hi Y2 fun nx2=> ?_;refine Z ?_;have hl:(J8 (x::y::r)).length≤1000000∧x.length+1≤(J8 (x::y::r)).length:=by
     refine ⟨?_,by rw [JcB];simp⟩;have:=Jns pre (x::y::r);rw [← k1] at this;omega
    have hw:IntKind.i64.wrap ((x.length:Int)+0)=(x.length:Int):=(by rw [Int.add_zero];exact JaE Om Om);refine ⟨by rw [hw];exact ⟨Om,by rw [Jaj];dsimp only;omega⟩,Ji (b:=strA (bs x)) (by rw [hw,Int.toNat_natCast,Jzl];rfl) ?_⟩;refine Z ?_;refine Jc0 (pre:=pre) (x:=x) (post:=y::r) (s:=s) (JdQ a (bs (J8 (x::y::r))) nlB) [] rfl rfl rfl hc k1 hI Y1 (fun s' nx' hI'=> ?_) (fun s' nx' hJ=> hJ.elim);refine Z ?_;have hw2:IntKind.i64.wrap ((x.length:Int)+(nlB.size:Int))=((x.length+1:Nat):Int):=JC Om;refine ⟨by rw [hw2,Jaj];omega,Ji (b:=strA (bs (J8 (y::r)))) (by rw [hw2,Int.toNat_natCast,Jzm];rfl) ?_⟩;refine Z ?_;exact back ((pre++ [x],y::r),s',nx') ⟨by simp [k1],List.cons_ne_nil _ _,hI'⟩ (by dsimp only;simp) (Et (bx:=JdQ a (bs (J8 (y::r))) nlB++Cb s') rfl rfl Bf Pf Y4)
def Jv2 (p:Bts×Nat):List AV:= [int p.2,strA (bs p.1)]
theorem Jnt {X pre post:List Bts} {x:Bts} (h:X=pre++x::post):X.zipIdx 1=pre.zipIdx 1++(x,pre.length+1)::post.zipIdx (pre.length+2):=by
 rw [h,List.zipIdx_append,List.zipIdx_cons,show 1+pre.length=pre.length+1 by omega]
theorem JxW (pre:List Bts) (x:Bts):(pre++ [x]).zipIdx 1=pre.zipIdx 1++ [(x,pre.length+1)]:=Jnt (post:= []) rfl
theorem Jrl (X:List Bts) (hX:X≠ []) (h10:∀x∈X,(10:UInt8)∉x) (h35:∀x∈X,(35:UInt8)∉x) (hsz:(J8 X).length≤1000000) (hlen:X.length≤1000000):JlY Tryz.prog 136 [] [.rp [strA (bs (J8 X))]] Jv2 (X.zipIdx 1) []:=by
 intro i σ Cb Cp I hc s0 nx nn h0
 refine ECall.wk (JB Tryz.func136 rfl rfl ?_)
 refine AW.le (E':=mk 21 [(0, .yl i),(1, .rp [strA (bs (J8 X))])] ⟨Cb s0,Cp s0,nx,0⟩ (some [])) (Et rfl rfl Bf Pf Y2) ?_
 refine Z ?_
 refine Jel (xs:= [strA (bs (J8 X)),strA nlB]) (bx1:= []) (pm1:= []) (((1,nx+1), .c [int 0])::((0,nx), .c [.yl i])::Cb s0) (Cp s0) 13 rfl rfl rfl (List.append_nil _).symm Y2 (Jmj (bs (J8 X)) nlB (nx+2)) Bf Pf rfl fun r h' hq=> ?_
 obtain ⟨rfl,rfl⟩:=hq
 refine JE ?_
 refine AW.le (E':=mk 21 [(2, .bp (0,nx) 0),(3, .bp (1,nx+1) 0),(6,Jmi (nx+2))] ⟨JdQ (nx+2) (bs (J8 X)) nlB++(((1,nx+1), .c [int 0])::((0,nx), .c [.yl i])::Cb s0),Cp s0,nx+5,13⟩ (some [])) (Et rfl rfl Bf (by rw [List.append_nil];exact Pf) Y3) ?_
 refine JE ?_
 refine JrJ (σ:=σ×Nat) (e:=fun s:Bts=> [strA (bs s)]) (xs:=X) (first':= []) (caps':= [.bp (11,nx+2+1) 0, .bp (10,nx+2) 0, .bp (12,nx+2+2) 0]) (JdQ (nx+2) (bs (J8 X)) nlB) (fun y=> ((1,nx+1), .c [int y.2])::((0,nx), .c [.yl i])::Cb y.1) (fun y=> Cp y.1) (fun pre y=> y.2=pre.length∧I (pre.zipIdx 1) y.1) (s0,0) rfl rfl (Jrk (nx+2) X hX h10 hsz) (LeL.refl _) (LeL.refl _) rfl rfl ⟨rfl,h0⟩ (fun _=> rfl) ?_ ?_
 ·rintro pre x post ⟨s,n⟩ nx3 nn3 hx ⟨hn,hI⟩;dsimp only at hn hI;subst hn;have hcut:=JtV x 35 (h35 x (by rw [hx];simp));have hlen2:pre.length+1≤1000000:=by rw [hx] at hlen;simp at hlen;omega
  refine JE ?_;refine JZ ?_;refine Z ?_;refine Ja rfl rfl hcut Y2 fun nx4=> ?_;refine Z ?_;refine Jc0 (pre:=pre.zipIdx 1) (x:=(x,pre.length+1)) (post:=post.zipIdx (pre.length+2)) (s:=s) [_,_,_,_] [] rfl rfl rfl hc (Jnt hx) hI ⟨Jk (JC Om),Y1⟩ (fun s' nx' hI'=> ?_) (fun s' nx' hJ=> hJ.elim);refine Z ?_;refine ⟨(s',pre.length+1), .inl ⟨rfl,by simp,by rw [JxW];exact hI'⟩, ?_,rfl⟩;have e:IntKind.i64.wrap ((pre.length:Int)+1)=((pre.length+1:Nat):Int):=JC Om;show _=_::_::((1,nx+1),Own.c [int ((pre.length+1:Nat):Int)])::((0,nx),Own.c [.yl i])::Cb s';rw [← e];rfl
 ·rintro ⟨s',n⟩ nx3 nn3 ⟨hn,hI⟩;dsimp only at hn hI;refine Z ?_;refine Jad rfl ⟨_,⟨Cb s',Cp s',nx3,0⟩,Rf, ?_,s',hI,rfl,rfl⟩;exact Jr _ _ rfl (.cons _ (.cons _ (.cons _ Sf))) Sf Bf Pf
def Jv3 (l:List ByteArray):AV:= .sl 1 l.length fun k=> .v ((l.map Value.string).getD k undef)
def wsA (l:List Bts):AV:=Jv3 (l.map bs)
def Jv4 (p:Nat×List Bts):AV:= .ag [int p.1,wsA p.2]
def Jse (L:List (Nat×List Bts)):AV:= .sl 2 L.length fun k=> Jv4 (L.getD k (0, []))
def JeJ (L:List (Bts×Nat)):List (Nat×List Bts):=L.filterMap fun p=> if spl p.1 none= [] then none else some (p.2,spl p.1 none)
theorem Jnu (L:List (Bts×Nat)) (p:Bts×Nat):JeJ (L++ [p])=JeJ L++if spl p.1 none= [] then [] else [(p.2,spl p.1 none)]:=by
 unfold JeJ
 rw [List.filterMap_append]
 congr 1
 by_cases h:spl p.1 none= [] <;> simp [h]
def Jjn (L:List (Bts×Nat)) (k:Nat):AV:=Jv4 ((JeJ L).getD k (0, []))
theorem JxX (L:List (Bts×Nat)):(JeJ L).length≤L.length:=List.length_filterMap_le _ _
def Jp6 (x:Bts):Prop:=∀b∈x,b.toNat < 128∧(JbD b.toNat=true∨(32≤b.toNat∧b.toNat≤126))
theorem JxY {x:Bts} (h:Jp6 x):Jvp (bs x):=fun i hi=> by
 have hi:i < x.length:=hi
 rw [JpX hi]
 exact h _ (List.getElem_mem hi)
theorem Jrm:Tryz.prog.bytesOf 121=32:=by kernel_rfl
theorem JtW (x:Bts) (h:Jp6 x) (hl:x.length≤1000000):Tells Tryz.prog 82 [strA (bs x), .fn (.func 83) [] []] (wsA (spl x none)):=by
 have h2:=Jp4 (bs x) hl
 rw [JtR x (fun b hb=> (h b hb).1)] at h2
 exact h2
theorem Jnv:∀ {X:List Bts} {x:Bts},x∈X→x.length≤(J8 X).length
 | [],_,h=> by cases h
 | [y],x,h=> by rw [List.mem_singleton.1 h];exact Nat.le_refl _
 | y::z::r,x,h=> by
   rw [JcB,List.length_append,List.length_cons];rcases List.mem_cons.1 h with rfl | h
   ·omega
   ·have:=Jnv h;omega
theorem Jmk (X:List Bts) (hX:X≠ []) (h10:∀x∈X,(10:UInt8)∉x) (h35:∀x∈X,(35:UInt8)∉x) (hok:∀x∈X,Jp6 x) (hsz:(J8 X).length≤65536) (hlen:X.length≤1000000):Tells Tryz.prog 38 [strA (bs (J8 X))] (.tup [Jse (JeJ (X.zipIdx 1)),int 0,int 0]):=by
 refine Jc Tryz.func38 rfl rfl fun nx=> ?_
 refine Z ?_
 intro c h65;cases c
 rotate_left
 ·exact absurd (Jo h65) (by rw [Jaj];omega)
 refine Z ?_
 refine Ja rfl rfl (Jrj (bs (J8 X))) Y1 fun nx2=> ?_
 refine JE ?_
 refine AW.le (E':=mk 32 [(2, .bp (0,nx) 0),(3, .bp (1,nx+1) 0),(4, .bp (2,nx+2) 0),(5, .bp (3,nx+3) 0),(13, .fn (.func 136) [] [.rp [strA (bs (J8 X))]])] ⟨[((3,nx+3), .c [.os 2 0 (Jjn []) none]),((2,nx+2), .c [int 0]),((1,nx+1), .c [int 0]),((0,nx), .c [.os 0 0 (fun _=> .any) none])], [],nx2,4⟩ (some [])) (Et rfl rfl ⟨rfl,⟨AVle.os_nil,Tt⟩,Bf⟩ Tt Y5) ?_
 refine JE ?_
 refine JrJ (σ:=Nat×(Nat→AV)×Option Vl.Id) (e:=Jv2) (xs:=X.zipIdx 1) (first':= []) (caps':= [.rp [strA (bs (J8 X))]]) [] (fun y=> [((3,nx+3), .c [.os 2 y.1 y.2.1 y.2.2]),((2,nx+2), .c [int 0]),((1,nx+1), .c [int 0]),((0,nx), .c [.os 0 0 (fun _=> .any) none])]) (fun y=> J2 y.2.2 (y.1 * 2)) (fun pre y=> y.1=(JeJ pre).length∧(∀k,k < y.1→y.2.1 k=Jjn pre k)∧(y.2.2=none→y.1=0)) (0,Jjn [],none) rfl rfl (Jrl X hX h10 h35 Om hlen) (LeL.refl _) (LeL.refl _) rfl rfl ⟨rfl,fun _ _=> rfl,fun _=> rfl⟩ (fun _=> rfl) ?_ ?_
 ·rintro pre ⟨x,n⟩ post ⟨L,f,oi⟩ nx3 nn3 hx ⟨hL,hf0,ho⟩;dsimp only at hL hf0 ho;have hxm:x∈X:=by
   have:(x,n)∈X.zipIdx 1:=by rw [hx];simp
   exact List.fst_mem_of_mem_zipIdx this
  have hxl:x.length≤1000000:=Nat.le_trans (Jnv hxm) Om;have hp:=Jto (bs x) (JxY (hok x hxm)) hxl;have hf:=JtW x (hok x hxm) hxl;have hLl:L≤1000000:=by
   have h1:=JxX pre;have h2:pre.length≤(X.zipIdx 1).length:=by rw [hx];simp
   rw [List.length_zipIdx] at h2;omega
  have hsn:=Jnu pre (x,n);dsimp only at hsn;generalize spl x none=W at hf hsn
  match W,hf,hsn with
  | [],hf,hsn=>
    refine JE ?_;refine JZ ?_;refine Z ?_;refine Ja rfl rfl hp Y1 fun nx4=> ?_;refine Z ?_;refine Ja rfl rfl hf Y2 fun nx5=> ?_;refine Z ?_;rw [if_pos rfl,List.append_nil] at hsn;exact ⟨(L,f,oi), .inl ⟨rfl,by rw [hsn];exact hL,fun k hk=> (hf0 k hk).trans (by unfold Jjn;rw [hsn]),ho⟩,rfl,rfl⟩
  | w::r,hf,hsn=>
    refine JE ?_;refine JZ ?_;refine Z ?_;refine Ja rfl rfl hp Y1 fun nx4=> ?_;refine Z ?_;refine Ja rfl rfl hf Y2 fun nx5=> ?_;refine JE ?_;refine JZ ?_;refine JE ?_;intro c hc;obtain rfl:c=true:=hc.trans (decide_eq_true Si);refine JE ?_;refine JI (fun n=> match n with | 0=> true | _=> false) 6 ?_;refine Z ?_;refine JgO (e:=121) (c:=2) (pm:= []) (n:=L) (oi:=oi) (sz:=2) (f:=f) rfl rfl (.inr ⟨_,rfl⟩) Kr Kr Kr (.inr rfl) Kr (List.append_nil _).symm (JG rfl) (by rw [Jrm];omega) Om ?_;refine Z ?_;rw [if_neg (List.cons_ne_nil _ _)] at hsn;refine ⟨(L+1,_,some (nn3,nx5)), .inl ⟨rfl,by rw [hsn,List.length_append,hL];rfl,fun k hk=> ?_,fun h=> by cases h⟩,rfl,rfl⟩;refine JbW (fun k hk=> ?_) ?_ k hk
    ·rw [hf0 k hk];unfold Jjn;rw [hsn];simp only [List.getD];rw [List.getElem?_append_left Om]
    ·unfold Jjn;rw [hsn];simp only [List.getD];rw [List.getElem?_append_right Om,hL,Nat.sub_self];rfl
 ·rintro ⟨L,f,oi⟩ nx3 nn3 ⟨hL,hf0,ho⟩;dsimp only at hL hf0 ho;subst hL;refine Z ?_;exact Jf rfl ⟨⟨rfl,Nat.zero_lt_one⟩,⟨rfl,Nat.zero_lt_one⟩,⟨rfl,Nat.zero_lt_one⟩,Tt⟩ (AVle.tups (cs:= [_,_,_]) ⟨(AVle.os_fun hf0).trans AVle.os_sl,Y2⟩)
end Go.Proofs.W

namespace Go.Proofs
open Go.Shelf
shelf_lay Lays.n172 Nm 172 at Tryz as Tryz.lays172
end Go.Proofs
namespace Go.Proofs.W
open Go.Vl Go.Shelf
set_option maxRecDepth 100000
theorem Jsf (a b:Value):AVle (.v (.tuple #[a,b])) (.tup [.v a, .v b]):=fun w X g u h=> by
 cases h
 refine .tup _ [a,b] rfl fun k c u hc hu=> ?_
 rcases k with _ | _ | k
 ·simp at hc hu;subst hc;subst hu;exact .v _
 ·simp at hc hu;subst hc;subst hu;exact .v _
 ·simp at hc
theorem Jp7 {n:Nat} (h:n < 10):Lib.digitVal (UInt8.ofNat (48+n))=some n:=(by decide:∀n,n < 10→Lib.digitVal (UInt8.ofNat (48+n))=some n) n h
theorem JjR:∀(l r:Bts) (a:Nat) (m:Nat),Lib.decFrom a l=some m→Lib.decFrom a (l++r)=Lib.decFrom m r
 | [],r,a,m,h=> by simp [Lib.decFrom] at h;subst h;rfl
 | c::l,r,a,m,h=> by
   simp only [Lib.decFrom,List.cons_append] at h⊢;cases hd:Lib.digitVal c with
   | none=> simp [hd] at h
   | some d=>
     simp only [hd] at h⊢;exact JjR l r _ m h
theorem Jrn:∀n:Nat,Lib.decFrom 0 (Lib.decDigits n)=some n:=by
 intro n
 induction n using Nat.strongRecOn with
 | ind n ih=>
   rw [Lib.decDigits];split
   ·rename_i h
    simp only [Lib.decFrom,Jp7 h]
    congr 1
    omega
   ·rw [JjR _ _ _ _ (ih (n / 10) Om)];simp only [Lib.decFrom,Jp7 (Nat.mod_lt n (by decide:0 < 10))]
    congr 1
    omega
theorem JxZ (n:Nat):Lib.atoi (Lib.decDigits n)=some (n:Int):=by
 have h1:=Jpl n
 have h2:=Jrn n
 have h3:∀b∈Lib.decDigits n,48≤b.toNat∧b.toNat≤57:=fun b hb=> JeU hb
 generalize Lib.decDigits n=l at h1 h2 h3
 cases l with
 | nil=> exact absurd rfl h1
 | cons b r=>
   have hb:=h3 b (List.mem_cons_self ..);have e1:(b ==45)=false:=beq_eq_false_iff_ne.2 fun e=> by rw [e] at hb;exact absurd hb Dc
   have e2:(b ==43)=false:=beq_eq_false_iff_ne.2 fun e=> by rw [e] at hb;exact absurd hb Dc
   simp [Lib.atoi,e1,e2,Lib.decNat,h2]
theorem Jv5 (n:Nat) (h:n≤65535):Tells Tryz.prog 231 [strA (Jay n)] (.tup [int n, .v .nilIface]):=
 Tells.le (Jsf _ _) (Jbj (vs:= [.string (Jay n)]) ⟨_,Tryz.func231,rfl,rfl⟩ fun w=>
  (Any.strconv_Atoi Tryz.lays172 (Jay n) n (Nat.le_trans (Jjl 4 n Om) Dc) (JxZ n) w).mono fun e w' ⟨h1,t,h2⟩=> ⟨h1,by rw [h2];exact Lib.bytesWorld_below _ _ _⟩)
theorem JhW (s:ByteArray) (hs:s.size≤9223372036854775807) (h:∀b∈s.data.toList,48≤b.toNat∧b.toNat≤57):Tells Tryz.prog 142 [strA s,strA digs] (strA ⟨#[]⟩):=by
 have h1:=Jbj (P:=Tryz.prog) (f:=142) (vs:= [.string s, .string digs]) (u:= .string ⟨(Lib.trimS s.data.toList digs.data.toList).toArray⟩) ⟨_,Tryz.func142,rfl,rfl⟩ fun w=> Any.strings_Trim_laid Tryz.lays160 Kr s digs w hs Dc (ascii_of_all Dc)
 rw [(Jiq s.data.toList digs.data.toList).2 (List.all_eq_true.2 fun b hb=> ?_)] at h1
 ·exact h1
 ·have hb:=h b hb;have key:∀x:Fin 256,48≤x.val∧x.val≤57→(digs.data.toList.contains (UInt8.ofNat x.val))=true:=by decide
  have:=key ⟨b.toNat,b.toNat_lt⟩ hb
  rwa [show UInt8.ofNat b.toNat=b by simp] at this
theorem Jp8:∀n:Nat,∃b r,Lib.decDigits n=b::r∧(b=48→n=0):=by
 intro n
 induction n using Nat.strongRecOn with
 | ind n ih=>
   rw [Lib.decDigits];split
   ·rename_i h
    exact ⟨_, [],rfl,fun e=> by have:=JfX h;rw [e] at this;simp at this;exact this⟩
   ·obtain ⟨b,r,h1,h2⟩:=ih (n / 10) Om;exact ⟨b,r++ [UInt8.ofNat (48+n % 10)],by rw [h1];rfl,fun e=> by have:=h2 e;omega⟩
theorem Jro (n:Nat) (h:n≤65535):Tells Tryz.prog 230 [strA (Jay n)] (boolA true):=by
 have hsz:(Jay n).size≤5:=Jjl 4 n Om
 have ht:=JhW (Jay n) Om (fun b hb=> JeU hb)
 refine Jc Tryz.func230 rfl rfl fun nx=> ?_
 refine Z ?_
 intro c hc
 have hc:c= !((Jay n).toList ==(⟨#[]⟩:ByteArray).toList):=hc
 obtain ⟨b,r,hb,hb0⟩:=Jp8 n
 have hl:(Jay n).toList=b::r:=(Lib.toList_data _).trans hb
 rw [hl,Lib.toList_data] at hc
 obtain rfl:c=true:=hc
 refine Z ?_
 intro c h9;cases c
 ·exact absurd (Jn h9) Om
 refine Z ?_
 refine Ja rfl rfl ht Y2 fun nx2=> ?_
 refine Z ?_
 intro c hc
 have hc:c=((⟨#[]⟩:ByteArray).toList ==(⟨#[]⟩:ByteArray).toList):=hc
 rw [beq_self_eq_true] at hc
 subst hc
 refine Z ?_
 intro c hc
 have hc:c=((Jay n).toList ==(⟨#[48]⟩:ByteArray).toList):=hc
 rw [hl,Lib.toList_data] at hc
 cases c
 ·have hg:(Jay n).data.getD (Int.toNat 0) 0=b:=by show (Lib.decDigits n).toArray.getD 0 0=b;rw [hb];rfl
  have h48:b.toNat≠48:=fun e=> by
   have e2:b=48:=UInt8.toNat_inj.1 e;rw [hb0 e2,Lib.decDigits,dif_pos Dc] at hb;obtain ⟨rfl,rfl⟩:=List.cons.inj hb;exact absurd hc Dc
  refine Z ?_;refine ⟨⟨by decide,by rw [show (Jay n).size=(Lib.decDigits n).length from rfl,hb];simp⟩,Ji (b:= .v (.int .u8 (b.toNat:Int))) (by rw [hg]) ?_⟩;refine Z ?_;intro c hc2;have hc2:c= !((b.toNat:Int) ==48):=hc2;obtain rfl:c=true:=hc2.trans (by simp;omega);refine Z ?_;exact Jb rfl Rf
 ·refine Z ?_;exact Jb rfl Rf
def Jv6 (l:List Bts):AV:= .fn (.func 229) [] [.rp [wsA l]]
def JyA (j:Nat):ByteArray:=match Jco Je8 j with
 | .ag (.v (.string s)::_)=> s
 | _=> ⟨#[]⟩
def JtX (w:Bts) (j:Nat):Bool:=(JyA j).toList ==w
def Jfs (w:Bts):Option Nat:=(List.range 8).find? (JtX w)
theorem Jrp (w:Bts) (r:List Bts) (s:ByteArray) (c:Int) (m:AV) (hm:m= .v .nilFunc∨∃n,m=Jez n):Tells Tryz.prog 229 [.ag [.v (.string s), .v (.int .u32 c),m], .rp [wsA (w::r)]] (boolA (s.toList ==w)):=by
 refine Jc Tryz.func229 rfl rfl fun nx=> ?_
 rcases hm with rfl | ⟨n,rfl⟩
 all_goals
  refine Z ?_
  (refine JL 7 Kr Kr Kr ?_)
  refine Z ?_;refine ⟨⟨by decide,by simp⟩, ?_⟩;refine Z ?_;intro c hc;have hc:c=(s.toList ==(bs w).toList):=hc;rw [Ja2] at hc;subst hc;refine Z ?_;exact Jb rfl Rf
theorem Jlv (w:Bts) (r:List Bts):Tells Tryz.prog 228 [Jti,Jv6 (w::r)] (int (JhE (Jfs w))):=by
 refine Jc Tryz.func228 rfl rfl fun nx=> ?_
 refine Z ?_
 refine Jm (fun s:Nat×Nat=> mk 19 [(0,Jti),(1,Jv6 (w::r)),(7,int 8),(8,int s.1)] ⟨[], [],s.2,0⟩) (fun s=> s.1≤8∧∀j,j < s.1→JtX w j=false) (fun s=> 8 - s.1) ?_ ?_
 ·exact ⟨(0,nx),⟨by simp,by intro j hj;simp at hj⟩,Jax rfl rfl Y4⟩
 ·rintro ⟨i,nx⟩ ⟨h1,h2⟩;dsimp only at h1 h2;by_cases hi:i < 8
  ·obtain ⟨s,c0,m,hr1,h4,_⟩:=JhC i hi;have hT:=Jrp w r s c0 m h4;have hes:(s.toList ==w)=JtX w i:=by unfold JtX JyA;rw [hr1]
   rw [hes] at hT;rcases h4 with rfl | ⟨n',rfl⟩
   all_goals
    refine Z ?_;intro c h3;cases c
    ·exact absurd (Jn h3) Dm
    refine Z ?_;refine ⟨⟨Dm,Dm⟩,Ji (b:= .rp [.v (.string s), .v (.int .u32 c0),_]) (by show AV.rp (Jco Je8 i).cells=_;rw [hr1];rfl) ?_⟩;refine Z ?_;refine Ja rfl rfl hT Y2 fun nx'=> ?_;intro c h4;cases c
    ·refine Z ?_;refine back (i+1,nx') ⟨Dm,fun j hj=> ?_⟩ Dm (Jax rfl rfl ⟨Rf,Rf,Rf,Jk (JC Dm),Tt⟩);dsimp only at hj;rcases Nat.lt_or_ge j i with h | h
     ·exact h2 j h
     ·obtain rfl:j=i:=(by omega);exact h4.symm
    ·refine Z ?_;refine Jb rfl (Jk ?_);have:Jfs w=some i:=by
      unfold Jfs;rw [List.find?_range_eq_some];exact ⟨h4.symm,by simp;omega,fun j hj=> by rw [h2 j hj];rfl⟩
     rw [this];rfl
  ·obtain rfl:i=8:=by omega
   refine Z ?_;refine Jb rfl (Jk ?_);have:Jfs w=none:=by
    unfold Jfs;rw [List.find?_range_eq_none];intro j hj;rw [h2 j hj];rfl
   rw [this];rfl
theorem Jx0:∀k,k < 8→Jfs (kwT k)=some k:=by decide+kernel
theorem Jml:∀(l:List Bts) (k:Nat),k≤l.length→(AV.sl 1 ((l.map bs).length - k) fun j=> (fun j=> AV.v (((l.map bs).map Value.string).getD j undef)) (k+j))=wsA (l.drop k):=fun l k hk=> by
 unfold wsA Jv3
 rw [List.length_map,List.length_map,List.length_drop]
 congr 1
 funext j
 simp [List.getD]
theorem JtY (w:Bts) (r:List Bts) (s:ByteArray) (k:Nat) (c:Int) (hw:Jfs w=some k) (hk:k < 8) (hr:Jco Je8 k= .ag [.v (.string s), .v (.int .u32 c), .v .nilFunc]):Tells Tryz.prog 176 [wsA (w::r)] (.tup [act (k+1:Nat) 0,int 1,int 0]):=by
 have hx:=Jlv w r
 rw [hw] at hx
 have ho:=Jir k hk
 rw [hr] at ho
 refine Jc Tryz.func176 rfl rfl fun nx=> ?_
 (refine JE ?_;refine JZ ?_;refine JE ?_)
 refine JaX (n:=60) (nx:=nx+2) (nn:=2) (pm:= []) (bx:= [((1,nx+1), .c [int 0,int 0])]) (L:= [(1, .rp [wsA (w::r)]),(2, .bp (1,nx+1) 0),(3,int 0),(4,int 0)]) (df:=some []) [((0,nx), .c [wsA (w::r)])] rfl rfl rfl (List.Perm.swap _ _ _) Sf ⟨Frz.bp (.head _) rfl,Frz.refl _,Frz.refl _,Frz.refl _,Tt⟩ ?_
 refine Z ?_
 refine Ja rfl rfl JhB trivial fun nx1=> ?_
 refine Z ?_
 refine Ja rfl rfl hx Y2 fun nx2=> ?_
 refine Z ?_
 refine Ja rfl rfl ho ⟨Jk (by show IntKind.i64.wrap (1+(k:Int))=_;rw [JaE Om Om];omega),Tt⟩ fun nx3=> ?_
 refine Z ?_
 exact Jf rfl ⟨rfl,Tt⟩ (AVle.tups (cs:= [_,_,_]) ⟨AVle.ags (cs:= [_,_]) ⟨Jk (by show IntKind.i64.wrap (1+(k:Int))=_;rw [JaE Om Om];omega),Y1⟩,Y2⟩)
theorem Jp9 (w:Bts) (r:List Bts) (n:Nat) (s:ByteArray) (k:Nat) (c:Int) (b:Int) (hw:Jfs w=some k) (hk:k < 8) (hr:Jco Je8 k= .ag [.v (.string s), .v (.int .u32 c),Jez b]) (hb:0≤b∧b≤65536) (hn:(n:Int)≤b - 1):Tells Tryz.prog 176 [wsA (w::Lib.decDigits n::r)] (.tup [act (k+1:Nat) n,int 2,int 0]):=by
 have hx:=Jlv w (Lib.decDigits n::r)
 rw [hw] at hx
 have ho:=Jir k hk
 rw [hr] at ho
 have hpl:=Jro n Om
 have hat:=Jv5 n Om
 have hgr:=Jfk s c b Om
 refine Jc Tryz.func176 rfl rfl fun nx=> ?_
 (refine JE ?_;refine JZ ?_;refine JE ?_)
 refine JaX (n:=60) (nx:=nx+2) (nn:=2) (pm:= []) (bx:= [((1,nx+1), .c [int 0,int 0])]) (L:= [(1, .rp [wsA (w::Lib.decDigits n::r)]),(2, .bp (1,nx+1) 0),(3,int 0),(4,int 0)]) (df:=some []) [((0,nx), .c [wsA (w::Lib.decDigits n::r)])] rfl rfl rfl (List.Perm.swap _ _ _) Sf ⟨Frz.bp (.head _) rfl,Frz.refl _,Frz.refl _,Frz.refl _,Tt⟩ ?_
 refine Z ?_
 refine Ja rfl rfl JhB trivial fun nx1=> ?_
 refine Z ?_
 refine Ja rfl rfl hx Y2 fun nx2=> ?_
 refine Z ?_
 refine Ja rfl rfl ho ⟨Jk (by show IntKind.i64.wrap (1+(k:Int))=_;rw [JaE Om Om];omega),Tt⟩ fun nx3=> ?_
 refine Z ?_
 refine ⟨⟨by decide,by simp;omega⟩,Ji (b:= .rp [strA (Jay n)]) rfl ?_⟩
 refine Z ?_
 refine Ja rfl rfl hpl Y1 fun nx4=> ?_
 refine Z ?_
 refine ⟨⟨by decide,by simp;omega⟩,Ji (b:= .rp [strA (Jay n)]) rfl ?_⟩
 refine Z ?_
 refine Ja rfl rfl hat Y1 fun nx5=> ?_
 refine Z ?_
 refine Ja rfl rfl hgr Y1 fun nx6=> ?_
 refine Z ?_
 intro c h7;cases c
 rotate_left
 ·exact absurd (Jo h7) Om
 refine Z ?_
 exact Jf rfl ⟨rfl,Tt⟩ (AVle.tups (cs:= [_,_,_]) ⟨AVle.ags (cs:= [_,_]) ⟨Jk (by show IntKind.i64.wrap (1+(k:Int))=_;rw [JaE Om Om];omega),Y1⟩,Y2⟩)
theorem Jx1 (a:A2) (r:List Bts) (h:right9 a.1 a.2=true):Tells Tryz.prog 176 [wsA (J5 a++r)] (.tup [act a.1 a.2,int (J5 a).length,int 0]):=by
 obtain ⟨k,n⟩:=a
 have h1:1≤k∧k≤8∧0≤n∧n≤Jdj k:=by simp [right9] at h;omega
 obtain ⟨h1,h2,h3,h4⟩:=h1
 clear h
 obtain ⟨m,rfl⟩:∃m:Nat,n=m:=⟨n.toNat,Om⟩
 obtain ⟨j,rfl⟩:∃j:Nat,k=(j+1:Nat):=⟨(k - 1).toNat,Om⟩
 have hj:j < 8:=by omega
 have hw:=Jx0 j hj
 rcases j with _ | _ | _ | _ | _ | _ | _ | _ | j
 case succ.succ.succ.zero=> exact Jp9 _ r m _ 3 _ 4096 hw Dc rfl Dc (by simpa [Jdj] using h4)
 case succ.succ.succ.succ.succ.zero=> exact Jp9 _ r m _ 5 _ 65536 hw Dc rfl Dc (by simpa [Jdj] using h4)
 all_goals first
 | omega
 | (have hm:m=0:=by simp [Jdj] at h4;omega
    subst hm;exact JtY _ r _ _ _ hw Dc rfl)
end Go.Proofs.W

namespace Go.Proofs.W
open Go.Vl Go.Shelf Go.RowKit
set_option maxRecDepth 100000
theorem Jv7 (n:Nat) (h1:1≤n) (h2:n < 18446744073709551616):Tells Tryz.prog 220 [u64 n] (int (Lib.nDigits n:Nat)):=
 Jdi (vs:= [.int .u64 n]) ⟨_,Tryz.func220,rfl,rfl⟩ fun w hk=> (Any.internal_strconv_numDigits { Tryz.laysM171 with} n h1 h2 w (JrM hk)).mono fun e w' ⟨h1,h2⟩=> ⟨h1,h2 ▸ Below.refl _ _⟩
theorem JtZ (n:Nat) (h:n < 100):Tells Tryz.prog 219 [int n] (strA (Jay n)):=
 Jdi (vs:= [.int .i64 n]) ⟨_,Tryz.func219,rfl,rfl⟩ fun w hk=> (Any.internal_strconv_small { Tryz.laysM171 with} n h w).mono fun e w' ⟨h1,h2⟩=> ⟨h1,h2 ▸ Below.refl _ _⟩
def byV (b:UInt8):Value:= .int .u8 (b.toNat:Int)
def zer (k:Nat):List AV:=List.replicate k (.v (.int .u8 0))
theorem Jzn {k:Nat} (h:k≤24):zer 24=(Array.replicate k (0:UInt8)).toList.map (fun b=> AV.v (byV b))++zer (24 - k):=by
 unfold zer
 rw [Array.toList_replicate,List.map_replicate,show byV 0= .int .u8 0 from rfl,List.replicate_append_replicate]
 congr 1
 omega
theorem JyB {n:Nat} (h1:1≤n) (h:n < 18446744073709551616):Lib.nDigits n≤20:=by
 have:=Lib.numDigits_eq n h1 h
 split at this <;> omega
def Jx2 (n:Nat):List AV:=(Lib.decDigits n).map (fun b=> AV.v (byV b))++zer (24 - Lib.nDigits n)
theorem Jt0 (n:Nat) (h1:1≤n) (h:n < 18446744073709551616) (s nx:Nat):
 ECall Tryz.prog 221 [.hs (0,s) 0 (Lib.nDigits n) 24,u64 n] ⟨[((0,s), .c (zer 24))], [],nx,1⟩ fun r h'=> r= .tup []∧h'=⟨[((0,s), .c (Jx2 n))], [],nx,1⟩:=by
 have h20:=JyB h1 h
 have hd:(Array.replicate (Lib.nDigits n) (0:UInt8)).size=Lib.nDigits n:=Array.size_replicate
 rw [Jzn (k:=Lib.nDigits n) Om]
 have:=JmO (P:=Tryz.prog) (enc:=byV) (d:=Array.replicate (Lib.nDigits n) (0:UInt8)) (d':=(Lib.decDigits n).toArray) (tl:=zer (24 - Lib.nDigits n)) (vs:= [.int .u64 n]) (R:= .tup []) (res:=fun _=> .tuple #[]) (nm:=0) (s:=s) (cap:=24) (nx:=nx) (nn:=1) (f:=221) ⟨_,Tryz.func221,rfl,rfl⟩ (by rw [hd,List.size_toArray,Lib.decDigits_length]) (fun _ _ _ _ _=> .tup [] [] rfl Si) (fun w blk hk hH hb=> by
  have k:=Any.internal_strconv_formatBase10 { Tryz.laysM171 with} blk 0 24 n (Array.replicate (Lib.nDigits n) 0) w hH (by rw [hd];exact Lib.lt_pow_nDigits n) h (by rw [hd];omega);refine k.mono fun e w' ⟨h1,q,v',dk,h2,hF⟩=> ⟨h1,q, #[], ?_⟩;rw [hd] at hF;have e1:dk=(Lib.decDigits n).toArray:=by
   refine Array.ext (by rw [hF.size,List.size_toArray,Lib.decDigits_length]) fun j hj1 hj2=> ?_;have hj3:j < (Lib.decDigits n).length:=by simpa using hj2
   have:=Lib.row_is_numeral hF j hj3;have e3:dk[j]! =dk[j]:=by simp [hj1]
   exact e3.symm.trans (this.symm.trans Si)
  have e2:(Sort.putRow byV w blk 0 dk).drewN q=Sort.putRow byV (Sort.ahead w q) blk 0 dk:=by
   have:=putRow_drewN byV w 0 q blk 0 dk;rw [Nat.zero_add] at this;exact this
  rw [h2,← e1];show (Sort.putRow byV w blk 0 dk).drewN q=_;rw [e2];unfold Sort.grow;rw [Array.append_empty])
 rw [hd] at this
 exact this
theorem JAd {n j:Nat} (hj:j < (Lib.decDigits n).length):(Jx2 n)[0+j]? =some (.v (.int .u8 ((Lib.decDigits n)[j].toNat:Int))):=by
 unfold Jx2
 rw [Nat.zero_add,List.getElem?_append_left (by simpa using hj),List.getElem?_map,List.getElem?_eq_getElem hj]
 rfl
theorem Jqa (n:Nat) (hn:n < 18446744073709551616):Tells Tryz.prog 223 [u64 n,int 10] (strA (Jay n)):=by
 refine Jc Tryz.func223 rfl rfl fun nx=> ?_
 refine Z ?_
 intro c t1;cases c
 ·have t1:=Jn t1;have h1:1≤n:=by omega
  have h20:=JyB h1 hn;refine Z ?_;refine Ja rfl rfl (Jv7 n h1 hn) Y1 fun nx2=> ?_;refine JE ?_;refine JI (fun n=> match n with | 0=> true | _=> false) 2 ?_;refine Z ?_;refine JmP (n:=24) (h:=Lib.nDigits n) rfl rfl rfl Tryz.underlying295 Tryz.underlying5 Kr Om Dc ?_;refine Z ?_;refine JH (xs:= [.hs (0,nx) 0 (Lib.nDigits n) 24,u64 n]) [] [] 1 rfl rfl rfl rfl Y2 (Jt0 n h1 hn nx _) Bf Pf rfl fun r h' hq=> ?_;obtain ⟨rfl,rfl⟩:=hq;refine JE ?_;refine JI (fun n=> match n with | 0=> true | 1=> true | _=> false) 3 ?_;refine Z ?_;refine JmP (n:=24) (h:=Lib.nDigits n) rfl rfl rfl Tryz.underlying295 Tryz.underlying5 Kr Om Dc ?_;refine Z ?_;refine JuW (l:=Lib.decDigits n) (cap:=24) (off:=0) (i:=(0,nx)) rfl (by rw [Lib.decDigits_length];rfl) rfl (fun j hj=> JAd hj) Tryz.underlying102 Tryz.underlying5 Tryz.underlying9 ?_;refine Z ?_;exact Jb rfl Rf
 ·have t1:=Jo t1;refine Z ?_;refine Ja rfl rfl (JtZ n Om) ⟨Jk (JaE Om Om),Tt⟩ fun nx2=> ?_;refine Z ?_;exact Jb rfl Rf
end Go.Proofs.W

namespace Go.Proofs
open Go.Shelf
shelf_lay Lays.n156 Nm 156 at Tryz as Tryz.lays156
end Go.Proofs
namespace Go.Proofs.W
open Go.Vl Go.Shelf Go.RowKit
set_option maxRecDepth 100000
theorem Job:Builder.Extra Tryz.prog Tryz.lays156_ren where
 sizeBuilder:=by kernel_rfl
 liesBuilder:=by kernel_rfl
 t5:=Tryz.underlying5
 a5:=Tryz.isAgg5
 z5:=Tryz.sizeOf5
 v5:=Tryz.zeroValue5
 infoByte:=by kernel_rfl
 cellsByte:=by kernel_rfl
 sizeByte:=by kernel_rfl
 neB5:=by decide
def Joc (l:List ByteArray):AV:=JF 1 strA ⟨#[]⟩ l
def Jd7 (l:List ByteArray) (sep:ByteArray):ByteArray:=⟨(Lib.join (l.map (·.data.toList)) sep.data.toList).toArray⟩
theorem JgH (l:List ByteArray) (sep:ByteArray) (hl:l.length≤1000000) (hs:(Jd7 l sep).size≤140737488355328):Tells Tryz.prog 95 [Joc l,strA sep] (strA (Jd7 l sep)):=by
 have h:=JsU (P:=Tryz.prog) (f:=95) (u:= .string (Jd7 l sep)) (xs:=l.map .string) (vs:= [.string sep]) ⟨_,Tryz.func95,rfl,rfl⟩ (fun h0 a cap w _=> ?_) (fun b off cap w hk hc hb hcap h0=> ?_)
 refine Tells.args (bs:= [.sl 1 (l.map Value.string).length (fun k=> .v ((l.map Value.string).getD k undef)),strA sep]) ⟨?_,Y1⟩ h
 ·rw [List.length_map];refine AVle.sl_fun fun k hk=> ?_;simp [strA,List.getD,List.getElem?_map,List.getElem?_eq_getElem hk]
 ·obtain rfl:l= []:=by simpa using h0
  exact (Any.strings_Join_none Tryz.lays156 Job a cap sep w).mono fun e w' ⟨h1,h2⟩=> ⟨h1,h2 ▸ Below.refl _ _⟩
 ·rw [List.length_map] at hcap⊢;exact Any.strings_Join Tryz.lays156 Job b off cap l sep w (fun j x hx=> hc j _ (by rw [List.getElem?_map,hx];rfl)) hb Om hcap (by simpa [Jd7,ByteArray.size] using hs)
theorem Jqb (n:Nat) (h:n < 18446744073709551616):Tells Tryz.prog 134 [u64 n] (strA (Jay n)):=by
 have h1:Tells Tryz.prog 173 [u64 n,int 10] (strA (Jay n)):=by
  refine Jc Tryz.func173 rfl rfl fun nx=> ?_;refine Z ?_;refine Ja rfl rfl (Jqa n h) Y2 fun nx2=> ?_;refine Z ?_;exact Jb rfl Rf
 refine Jc Tryz.func134 rfl rfl fun nx=> ?_
 refine Z ?_
 refine Ja rfl rfl h1 Y2 fun nx2=> ?_
 refine Z ?_
 exact Jb rfl Rf
def JgW (c:Cnd):ByteArray:=⟨(JP c).toArray⟩
theorem Jkh {n:Nat} (h:n < 18446744073709551616):(Lib.decDigits n).length≤20:=by
 have h2:(Jay n).size≤20:=JcA Om
 exact h2
theorem Jsg {k:Nat} (hk:k < 7):∃s:ByteArray,s.data.toList=opT k∧s.size≤2∧∃f,Jco Jhz k= .ag [strA s,fn0 f]:=by
 match k,hk with
 | 0,_ | 1,_ | 2,_ | 3,_ | 4,_ | 5,_ | 6,_=> exact ⟨_,rfl,by decide,_,rfl⟩
theorem Jt1 {f:Nat→AV} (h:(f 0).cells.all Jb3=true) (h':(f 1).cells.all Jb3=true):Jcu 2 f:=fun k hk=> by
 rcases k with _ | _ | k
 ·exact h
 ·exact h'
 ·omega
theorem JAM (a b c:Bts):Lib.join [a,b,c] [32]=a++32::(b++32::c):=by simp [Lib.join,List.intercalate,List.intersperse]
theorem JAN (a b c d e:Bts):Lib.join [a,b,c,d,e] [32]=a++32::(b++32::(c++32::(d++32::e))):=by simp [Lib.join,List.intercalate,List.intersperse]
def aB:ByteArray:=⟨#[97]⟩
def eqB:ByteArray:=⟨#[61,61]⟩
theorem Jgn (a b:ByteArray):(a++b).data.toList=a.data.toList++b.data.toList:=by simp
theorem Jgo (n:Nat):(Jay n).data.toList=Lib.decDigits n:=rfl
theorem JA2 {i k m v:Nat} {so:ByteArray} (h:so.data.toList=opT k) (hk:k≠6):Jd7 [aB++Jay i,so,Jay v] spB=JgW ⟨(i:Nat),(k:Int)+1,m,v⟩:=by
 unfold Jd7 JgW JP
 rw [List.map_cons,List.map_cons,List.map_cons,List.map_nil,Jgn,h,Jgo,Jgo,show spB.data.toList= [32] from rfl,JAM]
 dsimp only
 rw [if_neg Om,show ((k:Int)+1).toNat - 1=k by omega,Int.toNat_natCast]
 rfl
theorem JA3 {i m v:Nat} {so:ByteArray} (h:so.data.toList=opT 6):Jd7 [aB++Jay i,so,Jay m,eqB,Jay v] spB=JgW ⟨(i:Nat),7,m,v⟩:=by
 unfold Jd7 JgW JP
 rw [List.map_cons,List.map_cons,List.map_cons,List.map_cons,List.map_cons,List.map_nil,Jgn,h,Jgo,Jgo,Jgo,show spB.data.toList= [32] from rfl,JAN]
 dsimp only
 rw [if_pos rfl,Int.toNat_natCast]
 rfl
theorem JiP {c:Cnd} (hr:rightC c=true) (hok:c.ok):(JgW c).size≤1000:=by
 obtain ⟨h1,h2,h3,h4,h5⟩:=JX.1 hr
 show (JP c).length≤1000
 have d1:=Jkh (n:=c.arg.toNat) Om
 have d2:=Jkh hok.1
 have d3:=Jkh hok.2
 have d4:∀k:Nat,k < 7→(opT k).length≤2:=by decide
 have d5:=d4 (c.op.toNat - 1) Om
 unfold JP
 simp only [List.length_append,List.length_cons,List.length_nil]
 split
 ·simp only [List.length_append,List.length_cons];omega
 ·omega
theorem Jqc {a b:ByteArray} (h:a=b):AVle (strA a) (strA b):=Jg2 h
theorem Jnw (c:Cnd) (hr:rightC c=true) (hok:c.ok):Tells Tryz.prog 76 [Jt c] (strA (JgW c)):=by
 obtain ⟨h1,h2,h3,h4,h5⟩:=JX.1 hr
 have hR:=JdK c
 rw [hr] at hR
 obtain ⟨arg,op,mask,value⟩:=c
 dsimp only at h1 h2 h3 h4 h5
 obtain ⟨i,rfl⟩:∃i:Nat,arg=i:=⟨arg.toNat,Om⟩
 obtain ⟨k,rfl⟩:∃k:Nat,op=k+1:=⟨(op - 1).toNat,Om⟩
 have hit:=JmS i Om
 have hdv:=Jqb value hok.2
 have hdm:=Jqb mask hok.1
 have hk7:k < 7:=by omega
 obtain ⟨so,hso,hss,f,hf⟩:=Jsg hk7
 have hx:IntKind.i64.wrap ((k:Int)+1 - 1)=(k:Int):=by rw [JaE Om Om];omega
 refine Jc Tryz.func76 rfl rfl fun nx=> ?_
 refine Z ?_
 refine Ja rfl rfl hR Y1 fun nx2=> ?_
 refine Z ?_
 refine Jaf 12 _ (fun _=> false) (Ef [2,4]) [0,1,2,3,4,5,6,7,8,9,10,11] Kr Kr (HB.refl _) ?_
 refine Z ?_
 refine ⟨_,Jao rfl rfl rfl hit Y1 (NoId.v _), ?_⟩
 refine Z ?_
 refine ⟨by have:=JcA (n:=i) Om;have h2:(⟨#[97]⟩:ByteArray).size=1:=rfl;rw [h2];omega, ?_⟩
 refine Z ?_
 refine ⟨_,Jao rfl rfl rfl JhA trivial Jo5, ?_⟩
 refine Z ?_
 refine ⟨⟨by rw [hx];omega,by rw [hx];omega⟩,JgF (b:= .rp [strA so,fn0 f]) (by rw [hx];show AV.rp (Jco Jhz k).cells=_;rw [hf];rfl) ?_⟩
 refine Z ?_
 intro c t1;cases c
 ·have t1:k≠6:=fun e=> by subst e;cases t1
  refine Z ?_;refine Ja rfl rfl hdv Y1 fun nx3=> ?_;refine Z ?_;refine ⟨JG rfl,by show (2+1) * 16≤_;decide,by decide, ?_⟩;refine Z ?_;have e:=JA2 (i:=i) (m:=mask) (v:=value) hso t1;refine Ja rfl rfl (JgH [aB++Jay i,so,Jay value] spB (by show 3≤_;decide) (by rw [e];exact Nat.le_trans (JiP hr hok) Dc)) ⟨AVle.os_sl.trans (AVle.sl_fun fun j hj=> ?_),Y1⟩ fun nx3=> ?_
  ·match j,hj with
   | 0,_ | 1,_ | 2,_=> rfl
  refine Z ?_;exact Jb rfl (Jqc e)
 ·have t1:k=6:=by have:(k:Int)+1=7:=by simpa using t1.symm
                  omega
  subst t1;refine Z ?_;refine Ja rfl rfl hdm Y1 fun nx3=> ?_;refine Z ?_;refine ⟨Jt1 rfl rfl,by show (2+2) * 16≤_;decide,by decide, ?_⟩;refine Z ?_;refine Ja rfl rfl hdv Y1 fun nx3=> ?_;refine Z ?_;refine ⟨JG rfl,by show (4+1) * 16≤_;decide,by decide, ?_⟩;refine Z ?_;have e:=JA3 (i:=i) (m:=mask) (v:=value) hso;refine Ja rfl rfl (JgH [aB++Jay i,so,Jay mask,eqB,Jay value] spB (by show 5≤_;decide) (by rw [e];exact Nat.le_trans (JiP hr hok) Dc)) ⟨AVle.os_sl.trans (AVle.sl_fun fun j hj=> ?_),Y1⟩ fun nx3=> ?_
  ·match j,hj with
   | 0,_ | 1,_ | 2,_ | 3,_ | 4,_=> rfl
  refine Z ?_;exact Jb rfl (Jqc e)
end Go.Proofs.W

namespace Go.Proofs
open Go.Shelf
shelf_lay LaysPu.n14 Mp 14 at Tryz as Tryz.laysPu14
end Go.Proofs
namespace Go.Proofs.W
open Go.Vl Go.Shelf
set_option maxRecDepth 100000
theorem Jlw:∀(l:Bts) (acc:Nat),(∀b∈l,48≤b.toNat∧b.toNat≤57)→l.foldl (fun v b=> 10 * v+(b.toNat - 48)) acc < 18446744073709551616→
 acc≤l.foldl (fun v b=> 10 * v+(b.toNat - 48)) acc∧Lib.parseUintM (2 ^ 64 - 1) acc l= .ok (l.foldl (fun v b=> 10 * v+(b.toNat - 48)) acc)
 | [],acc,_,_=> ⟨Nat.le_refl _,rfl⟩
 | b::l,acc,h,hv=> by
   have hb:=h b (List.mem_cons_self ..);rw [List.foldl_cons] at hv⊢;obtain ⟨h1,h2⟩:=Jlw l _ (fun c hc=> h c (List.mem_cons_of_mem _ hc)) hv;refine ⟨Om, ?_⟩;rw [Lib.parseUintM,if_pos hb,if_neg Om,if_neg Om,show acc * 10+(b.toNat - 48)=10 * acc+(b.toNat - 48) by omega];exact h2
theorem Jv8 {n:Nat} (h:n < 18446744073709551616):Lib.parseUintB 64 (Lib.decDigits n)= .ok n:=by
 unfold Lib.parseUintB
 rw [if_neg (Jpl n)]
 have e:=Jl8 n
 unfold Jxn at e
 have:=Jlw (Lib.decDigits n) 0 (fun b hb=> JeU hb) (by rw [e];exact h)
 rw [e] at this
 exact this.2
theorem Jt2 (n:Nat) (h:n < 18446744073709551616):Tells Tryz.prog 260 [strA (Jay n),int 10,int 64] (.tup [u64 n, .v .nilIface]):=
 Tells.le (Jsf _ _) (Jbj (vs:= [.string (Jay n), .int .i64 10, .int .i64 64]) ⟨_,Tryz.func260,rfl,rfl⟩ fun w=>
  (Any.strconv_ParseUint_10_at64_ok Tryz.laysPu14 (Jay n) (Nat.le_trans (JcA Om) Dc) n (Jv8 h) w).mono fun e w' ⟨h1,h2⟩=> ⟨h1,by
    rcases h2 with h2 | h2
    ·rw [h2];exact Go.RowKit.Below.refl _ _
    ·rw [h2];exact Lib.bytesWorld_below _ _ _⟩)
theorem Jnx (l p:Bts) (hl:l.length≤1000000):Tells Tryz.prog 278 [strA (bs l),strA (bs p)] (boolA (decide (p.length≤l.length)&& (l.take p.length ==p))):=by
 refine Jc Tryz.func278 rfl rfl fun nx=> ?_
 refine Z ?_
 intro c h1;cases c
 ·refine Z ?_;exact Jb rfl (Jp (by rw [decide_eq_false (fun h=> (Jn h1) (by rw [Jaj,Jaj];omega))];rfl))
 ·have hle:p.length≤l.length:=by have:=Jo h1;rw [Jaj,Jaj] at this;omega
  refine Z ?_;refine ⟨⟨Om,by rw [Jaj,Jaj];omega⟩,Ji (b:=strA (bs (l.take p.length))) (by rw [Int.toNat_natCast,Jaj,JdP,List.drop_zero];rfl) ?_⟩;refine Z ?_;intro c hc;have hc:c=((bs (l.take p.length)).toList ==(bs p).toList):=hc;rw [Ja2,Ja2] at hc;refine Z ?_;exact Jb rfl (Jp (by rw [hc,decide_eq_true hle];rfl))
theorem Jx3 (p r:Bts) (hl:p.length+r.length≤1000000):Tells Tryz.prog 259 [strA (bs (p++r)),strA (bs p)] (.tup [strA (bs r),boolA true]):=by
 have hp:=Jnx (p++r) p (by rw [List.length_append];exact hl)
 rw [List.take_left,beq_self_eq_true,decide_eq_true (by rw [List.length_append];omega)] at hp
 have hc:Tells Tryz.prog 273 [strA (bs (p++r)),strA (bs p)] (.tup [strA (bs r),boolA true]):=by
  refine Jc Tryz.func273 rfl rfl fun nx=> ?_;refine Z ?_;refine Ja rfl rfl hp Y2 fun nx2=> ?_;refine Z ?_;refine ⟨⟨Om,by rw [Jaj,Jaj,List.length_append];omega⟩,Ji (b:=strA (bs r)) (by rw [Int.toNat_natCast,Jaj,JdP,Jaj,List.take_length,List.drop_left];rfl) ?_⟩;refine Z ?_;exact Jf rfl Tt Rf
 refine Jc Tryz.func259 rfl rfl fun nx=> ?_
 refine Z ?_
 refine Ja rfl rfl hc Y2 fun nx2=> ?_
 refine Z ?_
 exact Jf rfl Tt Rf
theorem Jzo (l p:Bts) (hl:l.length≤1000000) (h:(decide (p.length≤l.length)&& (l.take p.length ==p))=false):Tells Tryz.prog 259 [strA (bs l),strA (bs p)] (.tup [strA (bs l),boolA false]):=by
 have hp:=Jnx l p hl
 rw [h] at hp
 have hc:Tells Tryz.prog 273 [strA (bs l),strA (bs p)] (.tup [strA (bs l),boolA false]):=by
  refine Jc Tryz.func273 rfl rfl fun nx=> ?_;refine Z ?_;refine Ja rfl rfl hp Y2 fun nx2=> ?_;refine Z ?_;exact Jf rfl Tt Rf
 refine Jc Tryz.func259 rfl rfl fun nx=> ?_
 refine Z ?_
 refine Ja rfl rfl hc Y2 fun nx2=> ?_
 refine Z ?_
 exact Jf rfl Tt Rf
theorem JiQ (n:Nat) (h:n < 18446744073709551616):Tells Tryz.prog 235 [strA (Jay n)] (.tup [u64 n,boolA true]):=by
 have hsz:(Lib.decDigits n).length≤20:=JcA (n:=n) Om
 obtain ⟨b,r,hb,hb0⟩:=Jp8 n
 have hm:∀c∈Lib.decDigits n,48≤c.toNat∧c.toNat≤57:=fun c hc=> JeU hc
 have hcut:=Jzo (Lib.decDigits n) [48,120] Om (by
  generalize Lib.decDigits n=l at hm
  match l,hm with
  | [],_=> rfl
  | [x],_=> rfl
  | x::y::l,hm=>
    have hy:=hm y Si;have:(y ==120)=false:=beq_eq_false_iff_ne.2 fun e=> by rw [e] at hy;exact absurd hy Dc
    simp [this])
 have ht:=JhW (Jay n) (by show (Lib.decDigits n).length≤_;omega) hm
 have hpu:=Jt2 n h
 refine Jc Tryz.func235 rfl rfl fun nx=> ?_
 refine Z ?_
 refine Ja rfl rfl hcut Y2 fun nx2=> ?_
 refine Z ?_
 intro c hc
 have hc:c=((bs (Lib.decDigits n)).toList ==(⟨#[]⟩:ByteArray).toList):=hc
 rw [Ja2,hb,Lib.toList_data] at hc
 obtain rfl:c=false:=hc
 refine Z ?_
 refine Ja rfl rfl ht Y2 fun nx3=> ?_
 refine Z ?_
 intro c hc
 have hc:c= !((⟨#[]⟩:ByteArray).toList ==(⟨#[]⟩:ByteArray).toList):=hc
 rw [beq_self_eq_true] at hc
 subst hc
 refine Z ?_
 refine ⟨⟨by decide,by rw [Jaj,hb];simp⟩,Ji (b:= .v (.int .u8 (b.toNat:Int))) (by show AV.v (.int .u8 (((Lib.decDigits n).toArray.getD 0 0).toNat:Int))=_;rw [hb];rfl) ?_⟩
 refine Z ?_
 intro c hc
 have hc:c=((b.toNat:Int) ==48):=hc
 cases c
 case true=>
  have e2:b=48:=UInt8.toNat_inj.1 (by have:=eq_of_beq hc.symm;rw [show UInt8.toNat 48=48 from rfl];omega);obtain rfl:=hb0 e2;refine Z ?_;intro c hc;have hc:c= !((bs (Lib.decDigits 0)).toList ==(⟨#[48]⟩:ByteArray).toList):=hc;rw [Ja2,Lib.toList_data,Lib.decDigits,dif_pos Dc] at hc;obtain rfl:c=false:=hc;refine Z ?_;refine Ja rfl rfl hpu Y3 fun nx4=> ?_;refine Z ?_;refine Jgb rfl (.inr rfl) rfl rfl ?_;refine Z ?_;exact Jf rfl Tt Rf
 refine Z ?_
 refine Ja rfl rfl hpu Y3 fun nx4=> ?_
 refine Z ?_
 refine Jgb rfl (.inr rfl) rfl rfl ?_
 refine Z ?_
 exact Jf rfl Tt Rf
theorem Jzp (l:Bts):((bs l).toList ==(⟨#[]⟩:ByteArray).toList)=l.isEmpty:=by
 rw [Ja2,Lib.toList_data]
 cases l <;> rfl
theorem Jqd (i:Nat) (hi:i≤5):Tells Tryz.prog 232 [strA (bs (97::Lib.decDigits i))] (.tup [int i,int 0]):=by
 rw [Lib.decDigits,dif_pos Om]
 have hcut:=Jx3 [97] [UInt8.ofNat (48+i)] (show 1+1≤1000000 by decide)
 have ht:=JhW (bs [UInt8.ofNat (48+i)]) (show 1≤_ by decide) (fun b hb=> by
  have:=List.mem_singleton.1 hb;rw [this,JfX Om];omega)
 refine Jc Tryz.func232 rfl rfl fun nx=> ?_
 rcases (by omega:i=0∨i=1∨i=2∨i=3∨i=4∨i=5) with rfl | rfl | rfl | rfl | rfl | rfl
 all_goals
  refine Z ?_;refine Ja rfl rfl hcut Y2 fun nx2=> ?_;refine Z ?_;intro c hc;obtain rfl:c=false:=hc.trans (Jzp _);refine Z ?_;refine Ja rfl rfl ht Y2 fun nx3=> ?_;refine Z ?_;intro c hc;obtain rfl:c=false:=hc.trans (by rw [beq_self_eq_true];rfl);refine Z ?_;exact Jf rfl Tt (AVle.tups (cs:= [_,_]) ⟨Jk (by decide+kernel),Y1⟩)
def JyC (l:List Bts):AV:= .fn (.func 234) [] [.rp [wsA l]]
theorem Jt3 (w0 w1:Bts) (r:List Bts) (s:ByteArray) (f:Nat):Tells Tryz.prog 234 [.ag [strA s,fn0 f], .rp [wsA (w0::w1::r)]] (boolA (s.toList ==w1)):=by
 refine Jc Tryz.func234 rfl rfl fun nx=> ?_
 refine Z ?_
 (refine JL 7 Kr Kr Kr ?_)
 refine Z ?_
 refine ⟨⟨by decide,by simp;omega⟩, ?_⟩
 refine Z ?_
 intro c hc
 have hc:c=(s.toList ==(bs w1).toList):=hc
 rw [Ja2] at hc
 subst hc
 refine Z ?_
 exact Jb rfl Rf
theorem Jny (w0:Bts) (k:Nat) (hk:k < 7) (r:List Bts):Tells Tryz.prog 233 [.sl 2 7 (Jco Jhz),JyC (w0::opT k::r)] (int k):=by
 refine Jc Tryz.func233 rfl rfl fun nx=> ?_
 refine Z ?_
 refine Jm (fun s:Nat×Nat=> mk 19 [(0, .sl 2 7 (Jco Jhz)),(1,JyC (w0::opT k::r)),(7,int 7),(8,int s.1)] ⟨[], [],s.2,0⟩) (fun s=> s.1≤k) (fun s=> k - s.1) ?_ ?_
 ·exact ⟨(0,nx),Nat.zero_le _,Jax rfl rfl Y4⟩
 ·rintro ⟨i,nx⟩ h1;dsimp only at h1;obtain ⟨so,hso,hss,f,hf⟩:=Jsg (show i < 7 by omega);have hT:=Jt3 w0 (opT k) r so f;rw [show so.toList=opT i from (Lib.toList_data _).trans hso] at hT;refine Z ?_;intro c h3;cases c
  ·exact absurd (Jn h3) Dm
  refine Z ?_;refine ⟨⟨Dm,Dm⟩,Ji (b:= .rp [strA so,fn0 f]) (by show AV.rp (Jco Jhz i).cells=_;rw [hf];rfl) ?_⟩;refine Z ?_;refine Ja rfl rfl hT Y2 fun nx'=> ?_;intro c hc;have hc:c=(opT i ==opT k):=hc;by_cases hik:i=k
  ·subst hik;rw [beq_self_eq_true] at hc;subst hc;refine Z ?_;exact Jb rfl Rf
  ·obtain rfl:c=false:=hc.trans (beq_eq_false_iff_ne.2 fun e=> hik (JrW i Om k hk e));refine Z ?_;exact back (i+1,nx') Dm Dm (Jax rfl rfl ⟨Rf,Rf,Rf,Jk (JC Dm),Tt⟩)
theorem Jt4 (i:Nat) (hi:i≤5) (k:Nat) (hk:k < 6) (v:Nat) (hv:v < 18446744073709551616) (r:List Bts):Tells Tryz.prog 178 [wsA ((97::Lib.decDigits i)::opT k::Lib.decDigits v::r)] (.tup [Jt ⟨i,k+1,0,v⟩,int 3,int 0]):=by
 have ha:=Jqd i hi
 have hx:=Jny (97::Lib.decDigits i) k Om (Lib.decDigits v::r)
 have hn:=JiQ v hv
 refine Jc Tryz.func178 rfl rfl fun nx=> ?_
 rcases (by omega:k=0∨k=1∨k=2∨k=3∨k=4∨k=5) with rfl | rfl | rfl | rfl | rfl | rfl
 all_goals
  (refine JE ?_;refine JZ ?_;refine JE ?_)
  refine JaX (n:=83) (nx:=nx+2) (nn:=2) (pm:= []) (bx:= [((1,nx+1), .c [int 0,int 0,u64 0,u64 0])]) (L:= [(1, .rp [wsA ((97::Lib.decDigits i)::opT _::Lib.decDigits v::r)]),(2, .bp (1,nx+1) 0),(3,int 0),(4,int 0)]) (df:=some []) [((0,nx), .c [wsA ((97::Lib.decDigits i)::opT _::Lib.decDigits v::r)])] rfl rfl rfl (List.Perm.swap _ _ _) Sf ⟨Frz.bp (.head _) rfl,Frz.refl _,Frz.refl _,Frz.refl _,Tt⟩ ?_;refine Z ?_;refine ⟨⟨by decide,by simp;omega⟩,Ji (b:= .rp [strA (bs (97::Lib.decDigits i))]) rfl ?_⟩;refine Z ?_;refine Ja rfl rfl ha Y1 fun nx2=> ?_;refine Z ?_;refine Ja rfl rfl JhA trivial fun nx3=> ?_;refine Z ?_;refine Ja rfl rfl hx Y2 fun nx4=> ?_;refine Z ?_;refine ⟨⟨by decide,by simp;omega⟩,Ji (b:= .rp [strA (Jay v)]) rfl ?_⟩;refine Z ?_;refine Ja rfl rfl hn Y1 fun nx5=> ?_;refine Z ?_;exact Jf rfl ⟨rfl,Tt⟩ Rf
theorem Jt5 (i:Nat) (hi:i≤5) (m v:Nat) (hm:m < 18446744073709551616) (hv:v < 18446744073709551616) (r:List Bts):Tells Tryz.prog 178 [wsA ((97::Lib.decDigits i)::opT 6::Lib.decDigits m:: [61,61]::Lib.decDigits v::r)] (.tup [Jt ⟨i,7,m,v⟩,int 5,int 0]):=by
 have ha:=Jqd i hi
 have hx:=Jny (97::Lib.decDigits i) 6 Om (Lib.decDigits m:: [61,61]::Lib.decDigits v::r)
 have hn:=JiQ v hv
 have hnm:=JiQ m hm
 refine Jc Tryz.func178 rfl rfl fun nx=> ?_
 (refine JE ?_;refine JZ ?_;refine JE ?_)
 refine JaX (n:=83) (nx:=nx+2) (nn:=2) (pm:= []) (bx:= [((1,nx+1), .c [int 0,int 0,u64 0,u64 0])]) (L:= [(1, .rp [wsA ((97::Lib.decDigits i)::opT 6::Lib.decDigits m:: [61,61]::Lib.decDigits v::r)]),(2, .bp (1,nx+1) 0),(3,int 0),(4,int 0)]) (df:=some []) [((0,nx), .c [wsA ((97::Lib.decDigits i)::opT 6::Lib.decDigits m:: [61,61]::Lib.decDigits v::r)])] rfl rfl rfl (List.Perm.swap _ _ _) Sf ⟨Frz.bp (.head _) rfl,Frz.refl _,Frz.refl _,Frz.refl _,Tt⟩ ?_
 refine Z ?_
 refine ⟨⟨by decide,by simp;omega⟩,Ji (b:= .rp [strA (bs (97::Lib.decDigits i))]) rfl ?_⟩
 refine Z ?_
 refine Ja rfl rfl ha Y1 fun nx2=> ?_
 refine Z ?_
 refine Ja rfl rfl JhA trivial fun nx3=> ?_
 refine Z ?_
 refine Ja rfl rfl hx Y2 fun nx4=> ?_
 refine Z ?_
 refine ⟨⟨by decide,by simp;omega⟩,Ji (b:= .rp [strA (Jay m)]) rfl ?_⟩
 refine Z ?_
 refine Ja rfl rfl hnm Y1 fun nx5=> ?_
 refine Z ?_
 refine ⟨⟨by decide,by simp;omega⟩,Ji (b:= .rp [strA (bs [61,61])]) rfl ?_⟩
 refine Z ?_
 intro c hc
 have hc:c= !((bs [61,61]).toList ==(⟨#[61,61]⟩:ByteArray).toList):=hc
 rw [Ja2,Lib.toList_data] at hc
 obtain rfl:c=false:=hc
 refine Z ?_
 refine ⟨⟨by decide,by simp;omega⟩,Ji (b:= .rp [strA (Jay v)]) rfl ?_⟩
 refine Z ?_
 refine Ja rfl rfl hn Y1 fun nx6=> ?_
 refine Z ?_
 exact Jf rfl ⟨rfl,Tt⟩ Rf
theorem Jv9 (c:Cnd) (r:List Bts) (hr:rightC c=true) (hok:c.ok):Tells Tryz.prog 178 [wsA (JbC c++r)] (.tup [Jt c,int (JbC c).length,int 0]):=by
 obtain ⟨h1,h2,h3,h4,h5⟩:=JX.1 hr
 obtain ⟨arg,op,m,v⟩:=c
 dsimp only at h1 h2 h3 h4 h5
 obtain ⟨i,rfl⟩:∃i:Nat,arg=i:=⟨arg.toNat,Om⟩
 obtain ⟨k,rfl⟩:∃k:Nat,op=(k:Int)+1:=⟨(op - 1).toNat,Om⟩
 have e:((k:Int)+1).toNat - 1=k:=by omega
 unfold JbC
 dsimp only
 rw [e,Int.toNat_natCast]
 by_cases h7:(k:Int)+1=7
 ·obtain rfl:k=6:=by omega
  exact Jt5 i Om m v hok.1 hok.2 r
 ·rw [if_neg h7];obtain rfl:m=0:=h5.resolve_left h7;exact Jt4 i Om k Om v hok.2 r
end Go.Proofs.W

namespace Go.Proofs.W
open Go.Vl
set_option maxRecDepth 100000
def JV (s:Nat) (a b c ru wd:AV) (n:Int):List (Vl.Id×Own):= [((0,s), .c [a,b,c,ru,wd,int n])]
theorem JcC (e:Int):Tells Tryz.prog 139 [boolA true,int e] (.tup []):=by
 refine Jc Tryz.func139 rfl rfl fun nx=> ?_
 refine Z ?_
 exact Jb rfl Rf
theorem Jlx:Tells Tryz.prog 177 [int 0] (.tup []):=by
 refine Jc Tryz.func177 rfl rfl fun nx=> ?_
 refine Z ?_
 refine Ja rfl rfl (JcC 0) Y2 fun nx2=> ?_
 refine Z ?_
 exact Jb rfl Rf
theorem JeK (s:Nat) (a b c ru:AV) (w:Bts) (r:List Bts) (n:Int) (nx:Nat):ECall Tryz.prog 85 [.bp (0,s) 0] ⟨JV s a b c ru (wsA (w::r)) n, [],nx,1⟩ fun x h'=> x=strA (bs w)∧h'=⟨JV s a b c ru (wsA r) n, [],nx,1⟩:=by
 refine JB Tryz.func85 rfl rfl ?_
 refine Z ?_
 refine ⟨⟨by decide,by simp⟩,Ji (b:= .rp [strA (bs w)]) rfl ?_⟩
 refine Z ?_
 refine ⟨⟨by decide,by simp;omega⟩,Ji (b:=wsA r) (Jml (w::r) 1 Si) ?_⟩
 refine Z ?_
 exact Jad rfl ⟨rfl,rfl⟩
theorem JiR (s:Nat) (a b c ru:AV) (x:A2) (r:List Bts) (n:Int) (nx:Nat) (hr:right9 x.1 x.2=true):ECall Tryz.prog 140 [.bp (0,s) 0] ⟨JV s a b c ru (wsA (J5 x++r)) n, [],nx,1⟩ fun y h'=> y=act x.1 x.2∧∃nx',h'=⟨JV s a b c ru (wsA r) n, [],nx',1⟩:=by
 have hrd:=Jx1 x r hr
 have hlen:(J5 x++r).length=(J5 x).length+r.length:=List.length_append
 have hd:=Jml (J5 x++r) (J5 x).length Om
 rw [List.drop_left] at hd
 generalize J5 x ++ r = W at *
 generalize (J5 x).length = m at *
 refine ECall.wk (JB Tryz.func140 rfl rfl ?_)
 refine Z ?_
 refine Ja rfl rfl hrd Y1 fun nx2=> ?_
 refine Z ?_
 refine Ja rfl rfl Jlx Y1 fun nx3=> ?_
 refine Z ?_
 refine ⟨⟨Om,by simp;omega⟩,Ji (b:=wsA r) hd ?_⟩
 refine Z ?_
 refine Jc9 rfl ⟨rfl,Tt⟩ ⟨act x.1 x.2,⟨JV s a b c ru (wsA r) n, [],nx3,1⟩,Rf, ?_,rfl,nx3,rfl⟩
 exact Jr (JV s a b c ru (wsA r) n) [] rfl (.cons _ (.cons _ Sf)) Sf Bf Pf
theorem Jt6 (s:Nat) (a b c ru:AV) (x:Cnd) (r:List Bts) (n:Int) (nx:Nat) (hr:rightC x=true) (hok:x.ok):ECall Tryz.prog 141 [.bp (0,s) 0] ⟨JV s a b c ru (wsA (JbC x++r)) n, [],nx,1⟩ fun y h'=> y=Jt x∧∃nx',h'=⟨JV s a b c ru (wsA r) n, [],nx',1⟩:=by
 have hrd:=Jv9 x r hr hok
 have hlen:(JbC x++r).length=(JbC x).length+r.length:=List.length_append
 have hd:=Jml (JbC x++r) (JbC x).length Om
 rw [List.drop_left] at hd
 generalize JbC x ++ r = W at *
 generalize (JbC x).length = m at *
 refine ECall.wk (JB Tryz.func141 rfl rfl ?_)
 refine Z ?_
 refine Ja rfl rfl hrd Y1 fun nx2=> ?_
 refine Z ?_
 refine Ja rfl rfl Jlx Y1 fun nx3=> ?_
 refine Z ?_
 refine ⟨⟨Om,by simp;omega⟩,Ji (b:=wsA r) hd ?_⟩
 refine Z ?_
 refine Jc9 rfl ⟨rfl,Tt⟩ ⟨Jt x,⟨JV s a b c ru (wsA r) n, [],nx3,1⟩,Rf, ?_,rfl,nx3,rfl⟩
 exact Jr (JV s a b c ru (wsA r) n) [] rfl (.cons _ (.cons _ Sf)) Sf Bf Pf
theorem Jrq (s:Nat) (a b c ru:AV) (x:A2) (nx:Nat) (hr:right9 x.1 x.2=true):ECall Tryz.prog 86 [.bp (0,s) 0] ⟨JV s a b c ru (wsA (J5 x)) 0, [],nx,1⟩ fun y h'=> y= .tup []∧∃nx',h'=⟨JV s (int x.1) (int x.2) c ru (wsA []) 0, [],nx',1⟩:=by
 have hact:=JiR s a b c ru x [] 0
 rw [List.append_nil] at hact
 refine ECall.wk (JB Tryz.func86 rfl rfl ?_)
 refine Z ?_
 refine Ja rfl rfl (JcC 13) Y2 fun nx2=> ?_
 refine Z ?_
 refine Jel (xs:= [.bp (0,s) 0]) (bx1:=JV s a b c ru (wsA (J5 x)) 0) (pm1:= []) [] [] 1 rfl rfl rfl rfl Y1 (hact nx2 hr) Bf Pf rfl fun r h' hq=> ?_
 obtain ⟨rfl,nx3,rfl⟩:=hq
 refine Z ?_
 refine Ja rfl rfl (JcC 13) Y2 fun nx4=> ?_
 refine Z ?_
 refine Jc9 rfl Tt ⟨.tup [],⟨JV s (int x.1) (int x.2) c ru (wsA []) 0, [],nx4,1⟩,Rf, ?_,rfl,nx4,rfl⟩
 exact Jr (JV s (int x.1) (int x.2) c ru (wsA []) 0) [] rfl Sf Sf Bf Pf
theorem Jx4 (s:Nat) (a b c ru:AV) (nx:Nat):ECall Tryz.prog 87 [.bp (0,s) 0] ⟨JV s a b c ru (wsA [onW]) 1, [],nx,1⟩ fun y h'=> y= .tup []∧∃nx',h'=⟨JV s a b (boolA true) ru (wsA []) 1, [],nx',1⟩:=by
 refine ECall.wk (JB Tryz.func87 rfl rfl ?_)
 refine Z ?_
 intro c1 hc
 obtain rfl:c1=true:=hc.trans (by rw [Ja2,Lib.toList_data];rfl)
 refine Z ?_
 refine Ja rfl rfl (JcC 13) Y2 fun nx2=> ?_
 refine Z ?_
 refine Jel (xs:= [.bp (0,s) 0]) (bx1:=JV s a b c ru (wsA [onW]) 1) (pm1:= []) [] [] 1 rfl rfl rfl rfl Y1 (JeK s a b c ru onW [] 1 nx2) Bf Pf rfl fun r h' hq=> ?_
 obtain ⟨rfl,rfl⟩:=hq
 refine Z ?_
 intro c1 hc
 obtain rfl:c1=true:=hc.trans (by rw [Ja2,Lib.toList_data];rfl)
 refine Z ?_
 refine Jc9 rfl Tt ⟨.tup [],⟨JV s a b (boolA true) ru (wsA []) 1, [],nx2,1⟩,Rf, ?_,rfl,nx2,rfl⟩
 exact Jr (JV s a b (boolA true) ru (wsA []) 1) [] rfl Sf Sf Bf Pf
def JbP (R:List Rul) (o:Option Nat):AV:= .os 4 R.length (fun k=> J7 (R.getD k Jg)) (nmN 6 o)
def Jt7 (C:List Cnd) (o:Option Nat):AV:= .os 4 C.length (fun k=> Jt (C.getD k cnd0)) (nmN 5 o)
theorem Jt8:Tryz.prog.bytesOf 127=32:=by kernel_rfl
theorem Jt9:Tryz.prog.bytesOf 86=56:=by kernel_rfl
theorem Jua (s:Nat) (a b c:AV) (x:Rul) (R:List Rul) (oR:Option Nat) (n:Nat) (nx:Nat) (hn:0 < n) (hx:RightR x) (hok:x.ok) (hR:R.length < 500) (h0:oR=none→R= []):
 ECall Tryz.prog 89 [.bp (0,s) 0,strA x.name] ⟨JV s a b c (JbP R oR) (wsA (J5 x.act++Jbl true x.conds)) n,J2 (nmN 6 oR) (R.length * 4),nx,1⟩ fun r h'=> r= .tup []∧∃st nx',h'=⟨JV s a b c (JbP (R++ [x]) (some st)) (wsA []) n,J2 (nmN 6 (some st)) ((R++ [x]).length * 4),nx',1⟩:=by
 have hnm:=JjG x.name (Nat.le_trans hok.1 Dc)
 rw [hx.name] at hnm
 refine ECall.wk (JB Tryz.func89 rfl rfl ?_)
 refine Z ?_
 intro c1 hc
 obtain rfl:c1=true:=hc.trans (decide_eq_true Om)
 refine Z ?_
 refine Ja rfl rfl hnm Y1 fun nx2=> ?_
 refine Z ?_
 refine Ja rfl rfl (JcC 13) Y2 fun nx3=> ?_
 refine Z ?_
 intro c1 hc
 obtain rfl:c1=true:=hc.trans (decide_eq_true Om)
 refine Z ?_
 refine Ja rfl rfl (JcC 3) Y2 fun nx4=> ?_
 refine Z ?_
 refine JH (xs:= [.bp (0,s) 0]) (bx1:=JV s a b c (JbP R oR) (wsA (J5 x.act++Jbl true x.conds)) n) (pm1:= []) [] (J2 (nmN 6 oR) (R.length * 4)) 1 rfl rfl rfl (List.append_nil _).symm Y1 (JiR s a b c (JbP R oR) x.act (Jbl true x.conds) n nx4 hx.act) Bf Pf rfl fun r h' hq=> ?_
 obtain ⟨rfl,nx5,rfl⟩:=hq
 refine Z ?_
 refine Jm (fun y:(List Cnd×List Cnd)×Option Nat×Nat=> mk 67 [(0, .bp (0,s) 0),(1,strA x.name),(4, .bp (1,nx5) 0)] ⟨((1,nx5), .c [strA x.name,int x.act.1,int x.act.2,Jt7 y.1.1 y.2.1])::JV s a b c (JbP R oR) (wsA (Jbl y.1.1.isEmpty y.1.2)) n,J2 (nmN 5 y.2.1) (y.1.1.length * 4)++J2 (nmN 6 oR) (R.length * 4),y.2.2,2⟩) (fun y=> x.conds=y.1.1++y.1.2∧(y.2.1=none→y.1.1= [])) (fun y=> y.1.2.length) ?_ ?_
 ·exact ⟨(([],x.conds),none,nx5+1),⟨rfl,fun _=> rfl⟩,Et (pm:=J2 (nmN 6 oR) (R.length * 4)) (bx:=((1,nx5), .c [strA x.name,int x.act.1,int x.act.2,Jt7 [] none])::JV s a b c (JbP R oR) (wsA (Jbl true x.conds)) n) rfl rfl ⟨rfl,⟨Rf,Rf,Rf,AVle.os_nil,Tt⟩,Bf⟩ (by rw [List.append_nil];exact Pf) Y3⟩
 ·rintro ⟨⟨C,rest⟩,oc,nx6⟩ ⟨hC,hc0⟩;dsimp only at hC hc0;cases rest with
  | nil=>
    rw [List.append_nil] at hC;subst hC;refine Z ?_;refine AW.le (E':=mk 67 [(0, .bp (0,s) 0),(1,strA x.name),(4, .bp (1,nx5) 0)] ⟨((1,nx5), .c [strA x.name,int x.act.1,int x.act.2,JaT x.conds])::JV s a b c (JbP R oR) (wsA []) n,J2 (nmN 6 oR) (R.length * 4),nx6,2⟩ (some [])) (Jh _ _ rfl rfl Sf (List.sublist_append_right _ _) ⟨rfl,⟨Rf,Rf,Rf,AVle.os_sl,Tt⟩,Bf⟩ Pf Y3) ?_;refine Jaf 9 (((1,nx5), .c [strA x.name,int x.act.1,int x.act.2,JaT x.conds])::JV s a b c (JbP R oR) (wsA []) n) (Ef [8]) (fun _=> false) [0,1,2,3,4,5,6,7,8] Kr Kr (HB.refl _) ?_;refine Z ?_;refine ⟨_,JaK (e:=86) (c:=4) (pm:= []) (n:=R.length) (oi:=nmN 6 oR) (sz:=4) (f:=fun k=> J7 (R.getD k Jg)) (HB.refl _) rfl rfl rfl (.inr ⟨_,rfl⟩) Kr Kr Kr (.inr rfl) Kr (List.append_nil _).symm (JG rfl) (by rw [Jt9];omega) Om,fun r h' hr=> ?_⟩;obtain ⟨rfl,rfl⟩:=hr;refine Z ?_;refine Jc9 rfl Tt ⟨.tup [],⟨JV s a b c (JbP (R++ [x]) (some nx6)) (wsA []) n,J2 (nmN 6 (some nx6)) ((R++ [x]).length * 4),nx6+1,1⟩,Rf, ?_,rfl,nx6,nx6+1,rfl⟩;exact Jr (JV s a b c (.os 4 (R.length+1) (JcD R.length (fun k=> J7 (R.getD k Jg)) _) (some (2,nx6))) (wsA []) n) [((2,nx6),(R.length+1) * 4)] rfl (.cons _ Sf) Sf ⟨rfl,⟨Rf,Rf,Rf,Jef (e:=J7) rfl rfl,Y2⟩,Tt⟩ ⟨rfl,by simp,Tt⟩
  | cons d rest=>
    refine Z ?_;intro c1 hc;obtain rfl:c1=true:=hc.trans (decide_eq_true (by simp [Jbl];omega));refine Z ?_;intro c1 hc;have hc:c1=((C.length:Int) ==0):=hc;have hb:c1=C.isEmpty:=(by rw [hc];cases C <;> simp;omega);have hd:d∈x.conds:=(by rw [hC];simp);have hCl:C.length+1≤6:=by
     have h1:=hx.few;rw [hC,List.length_append,List.length_cons] at h1;omega
    have hdr:=hx.conds d hd;have hdo:=hok.2.2 d hd;clear hc;rw [← hb];cases c1
    all_goals
     refine Z ?_;refine JH (xs:= [.bp (0,s) 0]) (bx1:=JV s a b c (JbP R oR) (wsA (Jd6 _::(JbC d++Jbl false rest))) n) (pm1:= []) [_] (J2 (nmN 5 oc) (C.length * 4)++J2 (nmN 6 oR) (R.length * 4)) 2 rfl rfl rfl (List.append_nil _).symm Y1 (JeK s a b c (JbP R oR) _ (JbC d++Jbl false rest) n nx6) Bf Pf rfl fun r h' hq=> ?_;obtain ⟨rfl,rfl⟩:=hq;refine Z ?_;intro c1 hc;obtain rfl:c1=true:=hc.trans (by rw [Ja2,Lib.toList_data];rfl);refine Z ?_;refine Ja rfl rfl (JcC 13) Y2 fun nx7=> ?_;refine Z ?_;intro c1 hc;obtain rfl:c1=true:=hc.trans (decide_eq_true Dm);refine Z ?_;refine Ja rfl rfl (JcC 3) Y2 fun nx8=> ?_;refine Z ?_;refine Jaf 6 [((1,nx5), .c [strA x.name,int x.act.1,int x.act.2,Jt7 C oc])] (Ef [3,5]) (fun _=> false) [0,1,2,3,4,5] Kr Kr (HB.one rfl) ?_;refine Z ?_;refine ⟨_,JuX (xs:= [.bp (0,s) 0]) (pm1:= []) [_] (J2 (nmN 5 oc) (C.length * 4)++J2 (nmN 6 oR) (R.length * 4)) 2 rfl rfl rfl rfl rfl Y1 (Jt6 s a b c (JbP R oR) d (Jbl false rest) n nx8 hdr hdo) Bf Pf rfl (fun _ _ _=> HB.one rfl),fun r h' hr=> ?_⟩;obtain ⟨h2',⟨rfl,nx9,rfl⟩,rfl⟩:=hr;refine Z ?_;refine ⟨_,JaK (e:=127) (c:=4) (pm:=J2 (nmN 6 oR) (R.length * 4)) (n:=C.length) (oi:=nmN 5 oc) (sz:=4) (f:=fun k=> Jt (C.getD k cnd0)) (HB.one rfl) rfl rfl rfl (.inr ⟨_,rfl⟩) Kr Kr Kr (.inr rfl) Kr (List.append_nil _) (JG rfl) (by rw [Jt8];omega) Om,fun r h' hr=> ?_⟩;obtain ⟨rfl,rfl⟩:=hr;refine Z ?_;exact back ((C++ [d],rest),some nx9,nx9+1) ⟨by rw [hC];simp,fun h=> by cases h⟩ (by dsimp only;simp) (Et (bx:=((1,nx5), .c [strA x.name,int x.act.1,int x.act.2,Jt7 (C++ [d]) (some nx9)])::JV s a b c (JbP R oR) (wsA (Jbl (C++ [d]).isEmpty rest)) n) (pm:=J2 (nmN 5 (some nx9)) ((C++ [d]).length * 4)++J2 (nmN 6 oR) (R.length * 4)) rfl rfl ⟨rfl,⟨Rf,Rf,Rf,Jef (e:=Jt) rfl rfl,Tt⟩,rfl,⟨Rf,Rf,Rf,Rf,AVle.of_eq (by rw [show (C++ [d]).isEmpty=false by cases C <;> rfl]),Y1⟩,Tt⟩ ⟨rfl,by simp,Pf⟩ Y3)
def Jhg (s:Nat) (a b c ru wd:AV) (n:Int):List (Vl.Id×Own):= [((1,s), .c [a,b,c,ru,wd,int n])]
theorem JhX {l l':List (Value×AV)} {K:List (Value×AV)→Prop} (h:l=l') (hk:Jg1 l' K):Jg1 l K:=h ▸ hk
def JAe (s:Nat):AV:= .fn (.func 86) [.bp (0,s) 0] []
def JAf (s:Nat):AV:= .fn (.func 87) [.bp (0,s) 0] []
def Jmm (s:Nat):List (Value×AV):= [(.string (bs Jca),JAe s),(.string (bs Jeg),JAf s)]
theorem Jmn (x:AV) (h:Heap):DCall Tryz.prog 84 [x] .returning h fun u h'=> u= .returning∧h'=h:=by
 refine JnQ Tryz.func84 rfl rfl rfl rfl rfl rfl ?_
 refine Z ?_
 refine Jgb rfl (.inr rfl) rfl rfl ?_
 refine Z ?_
 exact Jad rfl ⟨rfl,rfl⟩
theorem Jwa {a b:Bts} (h:a≠b):JcV (.string (bs a)) (.string (bs b))=false:=by
 have:((bs a).toList ==(bs b).toList)=false:=by rw [Ja2,Ja2];exact beq_eq_false_iff_ne.2 h
 exact this
theorem Jzq {s:Nat} {nm:Bts} (h1:nm≠Jca) (h2:nm≠Jeg):Jeu (JaV (.string (bs nm)) (Jmm s)) (ofV .nilFunc) false= .v .nilFunc:=by
 unfold Jmm JaV JaV
 rw [Jwa h1,Jwa h2]
 rfl
def JfZ (s s1 s2 s3 s4:Nat) (nm:ByteArray):List (Vl.Id×Own):= [((4,s4), .mp (Jmm s)),((3,s3), .c [strA nm]),((2,s2), .c [int 0]),((1,s1), .c [.bp (0,s) 0])]
theorem Jrr (s s1 s2 s3 s4 nx:Nat) (a b c:AV) (x:Rul) (R:List Rul) (oR:Option Nat) (n:Nat) (hn:0 < n) (hx:RightR x) (hok:x.ok) (hR:R.length < 500) (h0:oR=none→R= []):
 ECall Tryz.prog 88 [.bp (1,s1) 0, .bp (3,s3) 0] ⟨JfZ s s1 s2 s3 s4 x.name++JV s a b c (JbP R oR) (wsA (J5 x.act++Jbl true x.conds)) n,J2 (nmN 6 oR) (R.length * 4),nx,5⟩ fun r h'=> r= .tup []∧∃st nx',h'=⟨JfZ s s1 s2 s3 s4 x.name++JV s a b c (JbP (R++ [x]) (some st)) (wsA []) n,J2 (nmN 6 (some st)) ((R++ [x]).length * 4),nx',5⟩:=by
 refine JB Tryz.func88 rfl rfl ?_
 refine Z ?_
 refine JH (xs:= [.bp (0,s) 0,strA x.name]) (bx1:=JV s a b c (JbP R oR) (wsA (J5 x.act++Jbl true x.conds)) n) (pm1:=J2 (nmN 6 oR) (R.length * 4)) (JfZ s s1 s2 s3 s4 x.name) [] 5 rfl rfl rfl rfl Y2 (Jua s a b c x R oR n nx hn hx hok hR h0) Bf Pf rfl fun r h' hq=> ?_
 obtain ⟨rfl,st,nx2,rfl⟩:=hq
 refine Z ?_
 exact Jad rfl ⟨rfl,st,nx2,rfl⟩
theorem Jrs (s:Nat) (nx:Nat) (a b c ru wd:AV) (x:A2) (hx:right9 x.1 x.2=true):ECall Tryz.prog 39 [.bp (0,s) 0,wsA (Jca::J5 x)] ⟨JV s a b c ru wd 0, [],nx,1⟩ fun r h'=> r=int 0∧∃nx',h'=⟨Jhg s (int x.1) (int x.2) c ru (wsA []) 1, [],nx',1⟩:=by
 refine ECall.wk (JB Tryz.func39 rfl rfl ?_)
 refine Z ?_
 refine Jih rfl rfl rfl ?_
 refine Z ?_
 refine JH (xs:= [.bp (0,s) 0]) (bx1:=JV s a b c ru (wsA (Jca::J5 x)) 0) (pm1:= []) [((2,nx+1), .c [int 0]),((1,nx), .c [.bp (0,s) 0])] [] 3 rfl rfl rfl rfl Y1 (JeK s a b c ru Jca (J5 x) 0 (nx+2)) Bf Pf rfl fun r h' hq=> ?_
 obtain ⟨rfl,rfl⟩:=hq
 refine Z ?_
 refine JhX (l':=Jmm s) Kr ?_
 refine Z ?_
 refine Ji (b:=JAe s) Kr ?_
 refine Z ?_
 refine JH (xs:= [.bp (0,s) 0]) (bx1:=JV s a b c ru (wsA (J5 x)) 0) (pm1:= []) (JfZ s nx (nx+1) (nx+2) (nx+3) (bs Jca)) [] 5 rfl rfl rfl rfl Y1 (Jrq s a b c ru x (nx+4) hx) Bf Pf rfl fun r h' hq=> ?_
 obtain ⟨rfl,nx2,rfl⟩:=hq
 refine Z ?_
 refine DCall.mono (Jmn _ _) fun u h' hq=> ?_
 obtain ⟨rfl,rfl⟩:=hq
 refine Jc9 rfl ⟨⟨rfl,Nat.zero_lt_one⟩,Tt⟩ ⟨int 0,⟨Jhg s (int x.1) (int x.2) c ru (wsA []) 1, [],nx2,1⟩,Rf, ?_,rfl,nx2,rfl⟩
 exact Jr (JV s (int x.1) (int x.2) c ru (wsA []) 1) [] rfl (.cons _ (.cons _ (.cons _ (.cons _ Sf)))) Sf ⟨rfl,OwnLe.refl _,Tt⟩ Pf
theorem Jwb (s:Nat) (nx:Nat) (a b c ru wd:AV):ECall Tryz.prog 39 [.bp (0,s) 0,wsA [Jeg,onW]] ⟨JV s a b c ru wd 1, [],nx,1⟩ fun r h'=> r=int 0∧∃nx',h'=⟨Jhg s a b (boolA true) ru (wsA []) 2, [],nx',1⟩:=by
 refine ECall.wk (JB Tryz.func39 rfl rfl ?_)
 refine Z ?_
 refine Jih rfl rfl rfl ?_
 refine Z ?_
 refine JH (xs:= [.bp (0,s) 0]) (bx1:=JV s a b c ru (wsA [Jeg,onW]) 1) (pm1:= []) [((2,nx+1), .c [int 0]),((1,nx), .c [.bp (0,s) 0])] [] 3 rfl rfl rfl rfl Y1 (JeK s a b c ru Jeg [onW] 1 (nx+2)) Bf Pf rfl fun r h' hq=> ?_
 obtain ⟨rfl,rfl⟩:=hq
 refine Z ?_
 refine JhX (l':=Jmm s) Kr ?_
 refine Z ?_
 refine Ji (b:=JAf s) Kr ?_
 refine Z ?_
 refine JH (xs:= [.bp (0,s) 0]) (bx1:=JV s a b c ru (wsA [onW]) 1) (pm1:= []) (JfZ s nx (nx+1) (nx+2) (nx+3) (bs Jeg)) [] 5 rfl rfl rfl rfl Y1 (Jx4 s a b c ru (nx+4)) Bf Pf rfl fun r h' hq=> ?_
 obtain ⟨rfl,nx2,rfl⟩:=hq
 refine Z ?_
 refine DCall.mono (Jmn _ _) fun u h' hq=> ?_
 obtain ⟨rfl,rfl⟩:=hq
 refine Jc9 rfl ⟨⟨rfl,Nat.zero_lt_one⟩,Tt⟩ ⟨int 0,⟨Jhg s a b (boolA true) ru (wsA []) 2, [],nx2,1⟩,Rf, ?_,rfl,nx2,rfl⟩
 exact Jr (JV s a b (boolA true) ru (wsA []) 2) [] rfl (.cons _ (.cons _ (.cons _ (.cons _ Sf)))) Sf ⟨rfl,OwnLe.refl _,Tt⟩ Pf
theorem Jub (s:Nat) (nx:Nat) (a b c wd:AV) (x:Rul) (R:List Rul) (oR:Option Nat) (n:Nat) (hn:0 < n) (hn2:n < 1000000) (hx:RightR x) (hok:x.ok) (hR:R.length < 500) (h0:oR=none→R= []):ECall Tryz.prog 39 [.bp (0,s) 0,wsA (Jbo x)] ⟨JV s a b c (JbP R oR) wd n,J2 (nmN 6 oR) (R.length * 4),nx,1⟩ fun r h'=> r=int 0∧∃st nx',h'=⟨Jhg s a b c (JbP (R++ [x]) (some st)) (wsA []) (n+1:Nat),J2 (nmN 6 (some st)) ((R++ [x]).length * 4),nx',1⟩:=by
 obtain ⟨hok1,hd,h32,_⟩:=JhT hx.name
 refine ECall.wk (JB Tryz.func39 rfl rfl ?_)
 refine Z ?_
 refine Jih rfl rfl rfl ?_
 refine Z ?_
 refine JH (xs:= [.bp (0,s) 0]) (bx1:=JV s a b c (JbP R oR) (wsA (Jbo x)) n) (pm1:= []) [((2,nx+1), .c [int 0]),((1,nx), .c [.bp (0,s) 0])] (J2 (nmN 6 oR) (R.length * 4)) 3 rfl rfl rfl (List.append_nil _).symm Y1 (JeK s a b c (JbP R oR) x.name.data.toList (J5 x.act++Jbl true x.conds) n (nx+2)) Bf Pf rfl fun r h' hq=> ?_
 obtain ⟨rfl,rfl⟩:=hq
 refine Z ?_
 refine JhX (l':=Jmm s) Kr ?_
 refine Z ?_
 refine Ji (b:= .v .nilFunc) (Jzq hd h32) ?_
 refine Z ?_
 refine JH (xs:= [.bp (1,nx) 0, .bp (3,nx+2) 0]) (bx1:=JfZ s nx (nx+1) (nx+2) (nx+3) x.name++JV s a b c (JbP R oR) (wsA (J5 x.act++Jbl true x.conds)) n) (pm1:=J2 (nmN 6 oR) (R.length * 4)) [] [] 5 rfl rfl rfl (List.append_nil _) Y2 (Jrr s nx (nx+1) (nx+2) (nx+3) (nx+4) a b c x R oR n hn hx hok hR h0) Bf Pf rfl fun r h' hq=> ?_
 obtain ⟨rfl,st,nx2,rfl⟩:=hq
 refine Z ?_
 refine DCall.mono (Jmn _ _) fun u h' hq=> ?_
 obtain ⟨rfl,rfl⟩:=hq
 refine Jc9 rfl ⟨⟨rfl,Nat.zero_lt_one⟩,Tt⟩ ⟨int 0,⟨Jhg s a b c (JbP (R++ [x]) (some st)) (wsA []) (n+1:Nat),J2 (nmN 6 (some st)) ((R++ [x]).length * 4),nx2,1⟩,Rf, ?_,rfl,st,nx2,rfl⟩
 exact Jr (JV s a b c (JbP (R++ [x]) (some st)) (wsA []) (IntKind.i64.wrap ((n:Int)+1))) (J2 (nmN 6 (some st)) ((R++ [x]).length * 4)) rfl (.cons _ (.cons _ (.cons _ (.cons _ Sf)))) Sf ⟨rfl,⟨Rf,Rf,Rf,Rf,Rf,Jk (JC Om),Tt⟩,Tt⟩ Pf
def Ja6 (p:Pol):Nat:=if p.x32 then 2 else 1
def rdC (p:Pol) (k:Nat) (o:Option Nat):List AV:= [int (if k=0 then 0 else p.dflt.1),int (if k=0 then 0 else p.dflt.2),boolA (p.x32&& decide (2≤k)),JbP (p.rules.take (k - Ja6 p)) o,wsA [],int k]
def pmP (p:Pol) (k:Nat) (o:Option Nat):List (Vl.Id×Nat):=J2 (nmN 6 o) ((p.rules.take (k - Ja6 p)).length * 4)
theorem Jki (p:Pol):(Jck p).length=Ja6 p+p.rules.length:=by
 unfold Jck Ja6
 split <;> simp <;> omega
theorem Jnz {α β:Type} (f:α→β) (d:α) (d':β) {l:List α} {i:Nat} (h:i < l.length):(l.map f).getD i d'=f (l.getD i d):=by
 simp [List.getD,List.getElem?_map,List.getElem?_eq_getElem h]
theorem Jzr (p:Pol) (hp:RightP p) (hok:p.ok) (k:Nat) (hk:k < (Jck p).length) (o:Option Nat) (ho:o.isSome=decide (Ja6 p < k)) (s nx:Nat):
 ECall Tryz.prog 39 [.bp (0,s) 0,wsA ((Jck p).getD k [])] ⟨[((0,s), .c (rdC p k o))],pmP p k o,nx,1⟩ fun r h'=> r=int 0∧∃o' nx',o'.isSome=decide (Ja6 p < k+1)∧h'=⟨[((1,s), .c (rdC p (k+1) o'))],pmP p (k+1) o',nx',1⟩:=by
 rw [Jki] at hk
 have hfew:=hp.few
 have rule:∀j,j < p.rules.length→k=Ja6 p+j→(Jck p).getD k []=Jbo (p.rules.getD j Jg)→ECall Tryz.prog 39 [.bp (0,s) 0,wsA ((Jck p).getD k [])] ⟨[((0,s), .c (rdC p k o))],pmP p k o,nx,1⟩ fun r h'=> r=int 0∧∃o' nx',o'.isSome=decide (Ja6 p < k+1)∧h'=⟨[((1,s), .c (rdC p (k+1) o'))],pmP p (k+1) o',nx',1⟩:=by
  intro j hj hkj hw;have hb:(1≤Ja6 p∧Ja6 p≤2)∧(p.x32=true→Ja6 p=2):=by unfold Ja6;split <;> simp_all
  have hm:p.rules.getD j Jg∈p.rules:=by simp [List.getD,hj]
  have h1:=Jub s nx (int p.dflt.1) (int p.dflt.2) (boolA p.x32) (wsA []) (p.rules.getD j Jg) (p.rules.take j) o k Om Om (hp.rules _ hm) (hok.2 _ hm) (by rw [List.length_take];omega) (fun h=> by
   subst h;have:¬Ja6 p < k:=by simpa using ho
   obtain rfl:j=0:=by omega
   rfl)
  rw [hw];have e1:k - Ja6 p=j:=by omega
  have e2:k+1 - Ja6 p=j+1:=by omega
  have e3:(p.x32&& decide (2≤k))=p.x32:=by
   cases hx:p.x32
   ·rfl
   ·rw [decide_eq_true (by have:=hb.2 hx;omega)];rfl
  have e4:(p.x32&& decide (2≤k+1))=p.x32:=by
   cases hx:p.x32
   ·rfl
   ·rw [decide_eq_true (by have:=hb.2 hx;omega)];rfl
  unfold rdC pmP;rw [e1,e2,e3,e4,if_neg Om,if_neg Om,if_neg Om,if_neg Om,Ja9 Jg hj];refine h1.mono fun r h' hq=> ?_;obtain ⟨rfl,st,nx',rfl⟩:=hq;exact ⟨rfl,some st,nx',by rw [decide_eq_true Om];rfl,rfl⟩
 obtain ⟨d,b,R⟩:=p
 have first:∀b,k=0→o=none→ECall Tryz.prog 39 [.bp (0,s) 0,wsA (Jca::J5 d)] ⟨[((0,s), .c (rdC ⟨d,b,R⟩ 0 none))], [],nx,1⟩ fun r h'=> r=int 0∧∃o' nx',o'.isSome=decide (Ja6 ⟨d,b,R⟩ < 1)∧h'=⟨[((1,s), .c (rdC ⟨d,b,R⟩ 1 o'))],pmP ⟨d,b,R⟩ 1 o',nx',1⟩:=by
  intro b _ _;have h1:=Jrs s nx (int 0) (int 0) (boolA false) (JbP [] none) (wsA []) d hp.dflt;cases b
  all_goals
   refine ECall.mono h1 fun r h' hq=> ?_;obtain ⟨rfl,nx',rfl⟩:=hq;exact ⟨rfl,none,nx',rfl,rfl⟩
 cases b
 ·rcases k with _ | j
  ·cases o with
   | some v=> exact Bool.noConfusion ho
   | none=> exact first false rfl rfl
  ·have hj:j < R.length:=by
    have:Ja6 ⟨d,false,R⟩=1:=rfl;dsimp only at hk;omega
   exact rule j hj (Nat.add_comm _ _) (Jnz Jbo Jg [] hj)
 ·rcases k with _ | _ | j
  ·cases o with
   | some v=> exact Bool.noConfusion ho
   | none=> exact first true rfl rfl
  ·cases o with
   | some v=> exact Bool.noConfusion ho
   | none=>
     refine ECall.mono (Jwb s nx (int d.1) (int d.2) (boolA false) (JbP [] none) (wsA [])) fun r h' hq=> ?_;obtain ⟨rfl,nx',rfl⟩:=hq;exact ⟨rfl,none,nx',rfl,rfl⟩
  ·have hj:j < R.length:=by
    have:Ja6 ⟨d,true,R⟩=2:=rfl;dsimp only at hk;omega
   exact rule j hj (show j+1+1=2+j by omega) (Jnz Jbo Jg [] hj)
theorem JhY:∀(L:List (List Bts)) (k:Nat),(∀l∈L,l≠ []∧∀w∈l,JdU w)→JeJ ((L.map JO).zipIdx k)=(L.zipIdx k).map fun p=> (p.2,p.1)
 | [],_,_=> rfl
 | l::L,k,h=> by
   have h1:=h l (List.mem_cons_self ..);have h2:=JhY L (k+1) (fun x hx=> h x (List.mem_cons_of_mem _ hx));rw [List.map_cons,List.zipIdx_cons,List.zipIdx_cons,List.map_cons,← h2];show (List.filterMap _ (_::_))=_;rw [List.filterMap_cons];dsimp only;rw [Jp0 h1.2,if_neg h1.1];rfl
theorem Jx5 (L:List (Bts×Nat)) (k:Nat):JeJ (L++ [([],k)])=JeJ L:=by
 rw [Jnu];simp [spl]
def Lns (X:List Bts) (p:Pol):Prop:=X≠ []∧(∀x∈X,(10:UInt8)∉x∧(35:UInt8)∉x∧Jp6 x)∧(J8 X).length≤65536∧X.length≤1000000∧JeJ (X.zipIdx 1)=((Jck p).zipIdx 1).map fun p=> (p.2,p.1)
theorem Jly {l:List Bts} (h:∀w∈l,JdU w):(10:UInt8)∉JO l∧(35:UInt8)∉JO l∧Jp6 (JO l):=by
 refine ⟨fun hb=> ?_,fun hb=> ?_,fun b hb=> ?_⟩
 ·rcases JgE h hb with e | e
  ·exact absurd e Dc
  ·exact absurd e.1 Dc
 ·rcases JgE h hb with e | e
  ·exact absurd e Dc
  ·exact e.2.2 rfl
 ·rcases JgE h hb with rfl | e
  ·exact ⟨by decide, .inl rfl⟩
  ·exact ⟨Om, .inr ⟨Om,e.2.1⟩⟩
theorem Jx6 (p:Pol) (hp:RightP p) (hsz:(JR (Jck p)).length≤65536):Lns ((Jck p).map JO++ [[]]) p:=by
 have hw:=Jsd hp
 refine ⟨by simp,fun x hx=> ?_,by rw [← Jsb];exact hsz, ?_, ?_⟩
 ·rcases List.mem_append.1 hx with hx | hx
  ·obtain ⟨l,hl,rfl⟩:=List.mem_map.1 hx;exact Jly (hw l hl).2
  ·rw [List.mem_singleton.1 hx];exact ⟨by simp,by simp,fun b hb=> by cases hb⟩
 ·have h1:=Jki p;have h2:=hp.few;have h3:Ja6 p≤2:=by unfold Ja6;split <;> decide
  rw [List.length_append,List.length_map];simp;omega
 ·rw [List.zipIdx_append,← JhY _ _ hw];exact Jx5 _ _
theorem JnA (X:List Bts) (p:Pol) (hX:Lns X p) (hp:RightP p) (hok:p.ok):Tells Tryz.prog 12 [strA (bs (J8 X))] (.tup [polA p,int 0,int 0]):=by
 obtain ⟨x1,x2,x3,x4,x5⟩:=hX
 have hl:=Jmk X x1 (fun x hx=> (x2 x hx).1) (fun x hx=> (x2 x hx).2.1) (fun x hx=> (x2 x hx).2.2) x3 x4
 rw [x5] at hl
 have hat:=Jzr p hp hok
 have hlen:(((Jck p).zipIdx 1).map fun q=> (q.2,q.1)).length=(Jck p).length:=by simp
 have Jbm:∀k,k < (Jck p).length→(((Jck p).zipIdx 1).map fun q=> (q.2,q.1)).getD k (0, [])=(k+1,(Jck p).getD k []):=fun k hk=> by
  simp [List.getD,List.getElem?_map,List.getElem?_eq_getElem hk,Nat.add_comm]
 have hpl:=Jki p
 have hfew:=hp.few
 have hb3:1≤Ja6 p∧Ja6 p≤2:=by unfold Ja6;split <;> decide
 have hbx:p.x32=true→Ja6 p=2:=fun h=> by unfold Ja6;rw [if_pos h]
 generalize ((Jck p).zipIdx 1).map (fun q => (q.2, q.1)) = LL at *
 generalize Jck p = W at *
 refine Jc Tryz.func12 rfl rfl fun nx=> ?_
 refine Z ?_
 refine Ja rfl rfl hl Y1 fun nx2=> ?_
 refine Z ?_
 intro c hc
 obtain rfl:c=false:=hc.trans (beq_eq_false_iff_ne.2 Om)
 refine Z ?_
 refine Jm (fun y:Nat×Option Nat×Nat=> mk 52 [(2, .bp (0,nx) 0),(3,int 0),(4,int 0),(8, .bp (1,nx2) 0),(31,Jse LL),(32,int LL.length),(33,int y.1)] ⟨[((1,nx2), .c (rdC p y.1 y.2.1)),((0,nx), .c [int 0,int 0,boolA false,Jtp])],pmP p y.1 y.2.1,y.2.2,2⟩) (fun y=> y.1≤LL.length∧y.2.1.isSome=decide (Ja6 p < y.1)) (fun y=> LL.length - y.1) ?_ ?_
 ·refine ⟨(0,none,nx2+1),⟨Nat.zero_le _,by rw [decide_eq_false Om];rfl⟩,Et (pm:= []) (bx:= [((1,nx2), .c (rdC p 0 none)),((0,nx), .c [int 0,int 0,boolA false,Jtp])]) rfl rfl ⟨rfl,⟨Rf,Rf,Jp (by cases p.x32 <;> rfl), ?_,AVle.os_sl0,Y1⟩,Bf⟩ Tt Y7⟩;rw [Nat.zero_sub,List.take_zero];exact AVle.os_nil
 ·rintro ⟨k,o,nx3⟩ ⟨h1,ho⟩;dsimp only at h1 ho;refine Z ?_;intro c g;cases c
  ·have g:=Jn g;obtain rfl:k=LL.length:=by dsimp only at g;omega
   have hne:¬LL.length=0:=by omega
   have e1:p.rules.take (LL.length - Ja6 p)=p.rules:=List.take_of_length_le Om;have e2:(p.x32&& decide (2≤LL.length))=p.x32:=by
    cases hx:p.x32
    ·rfl
    ·rw [decide_eq_true (by have:=hbx hx;omega)];rfl
   refine Z ?_;exact Jf rfl ⟨rfl,Tt⟩ (AVle.tups (cs:= [_,_,_]) ⟨AVle.ags (cs:= [_,_,_,_]) ⟨Jk (if_neg hne),Jk (if_neg hne),Jp e2,by rw [e1];exact AVle.os_sl,Tt⟩,Y2⟩)
  ·have g:=Jo g;dsimp only at g;have hk:k < LL.length:=by omega
   have hgk:=Jbm k Om;have hlk:=hat k Om o ho nx2 (nx3+1);have hsm:W.length≤1000000:=by omega
   refine Z ?_;refine ⟨⟨Dm,Dm⟩,Ji (b:= .rp [int (k+1:Nat),wsA (W.getD k [])]) (by dsimp only;rw [Int.toNat_natCast,hgk];rfl) ?_⟩;refine Z ?_;refine JuV (xs:= [.bp (0,nx2) 0,wsA (W.getD k [])]) (bx1:= [((1,nx2), .c (rdC p k o))]) (pm1:=pmP p k o) [((2,nx3), .c [int (k+1:Nat),wsA (W.getD k [])])] [((0,nx), .c [int 0,int 0,boolA false,Jtp])] [] 3 rfl rfl rfl rfl ⟨AVle.bp_nm rfl,Y1⟩ hlk ⟨rfl,OwnLe.refl _,Tt⟩ Pf rfl fun r h' hq=> ?_;obtain ⟨rfl,o',nx4,ho',rfl⟩:=hq;refine Z ?_;exact back (k+1,o',nx4) ⟨Dm,ho'⟩ Dm (Jh (pm:=pmP p (k+1) o') (bx:= [((1,nx2), .c (rdC p (k+1) o')),((0,nx), .c [int 0,int 0,boolA false,Jtp])]) _ _ rfl rfl (.cons _ Sf) Sf Bf Pf ⟨Rf,Rf,Rf,Rf,Rf,Rf,Jk (JC Dm),Tt⟩)
theorem JjS (l:List Cnd):NoId (JaT l):=NoId.sl fun i _ c hc=> by
 simp only [Jt,AV.cells,List.mem_cons,List.not_mem_nil,or_false] at hc
 rcases hc with rfl | rfl | rfl | rfl <;> exact NoId.v _
theorem Jqe (ts:List Cnd) (hl:ts.length≤1000000):Tells Tryz.prog 56 [JaT ts] (JaT ts):=by
 refine Jc Tryz.func56 rfl rfl fun nx=> ?_
 refine Z ?_
 refine JoJ (e:=127) rfl (.inl rfl) Kr (.inl rfl) fun c hc=> ?_
 cases c
 ·refine Z ?_
  (conv=> whnf)
  refine Jky (fun hm=> ?_) fun hm=> ?_
  ·refine Z ?_;obtain rfl:ts= []:=List.eq_nil_of_length_eq_zero hm;exact Jf rfl Tt AVle.os_sl0
  ·refine ⟨fun k hk=> rfl,by show (0+ts.length) * 32≤_;omega,Om, ?_⟩;refine Z ?_;have e5:0+ts.length=ts.length:=Nat.zero_add _;refine Jf rfl trivial ?_;exact AVle.trans (b:= .os 4 ts.length (JtG ts) (some (0,nx))) (AVle.trans (b:= .os 4 (0+ts.length) (JtG ts) (some (0,nx))) (AVle.os_fun fun k hk=> rfl) (AVle.of_eq (by rw [e5]))) AVle.os_sl
 ·obtain rfl:ts= []:=List.eq_nil_of_length_eq_zero (hc rfl);refine Z ?_;exact Jf rfl Tt AVle.os_sl0
def JcI (l:List PRul):Nat→AV:=fun k=> Jb9 (l.getD k Jy)
theorem Jx7 {L:List PRul} {m:Nat} (hm:m≤L.length):AVle (.sl 2 m (JcI L)) (JK (L.take m)):=by
 unfold JK JF
 rw [List.length_take,Nat.min_eq_left hm]
 refine AVle.sl_fun fun k hk=> ?_
 show Jb9 (L.getD k Jy)=Jb9 ((L.take m).getD k Jy)
 rw [show (L.take m).getD k Jy=L.getD k Jy by simp [List.getD,List.getElem?_take,hk]]
theorem Juc {a:Nat} {l:List PRul} {i:Nat} (hi:i < l.length):JbR a (l.drop i)=match Jde a (l.getD i Jy) with
 | none=> JbR a (l.drop (i+1))
 | some q=> if q.conds.length=0 then [q] else q::JbR a (l.drop (i+1)):=by
 rw [List.drop_eq_getElem_cons hi,show l.getD i Jy=l[i] by simp [List.getD,hi]]
 rfl
theorem Jlz:Tryz.prog.bytesOf 81=32:=by kernel_rfl
theorem Jzs {r q:PRul} (h:JeG r=some q):q.conds.length≤r.conds.length∧q.code=r.code:=by
 unfold JeG at h
 split at h
 ·cases h
 ·cases h;exact ⟨List.length_filterMap_le _ _,rfl⟩
theorem Jsh {a:Nat} {r q:PRul} (h:Jde a r=some q):q.conds.length≤r.conds.length∧q.code=r.code:=by
 unfold Jde at h
 split at h
 ·exact Jzs h
 ·cases h;exact ⟨Nat.le_refl _,rfl⟩
def Jwc (nx:Nat):Option PRul→List (Vl.Id×Own)
 | none=> [((0,nx), .c [JaT [],u32 0])]
 | some q=> [((0,nx), .c [JaT q.conds,u32 (q.code:Nat)])]
theorem Jwd (a:Nat) (l:List PRul) (d:Nat) (ha:a < 5) (hl:l.length≤1000000) (hc:∀r∈l,r.conds.length≤1000000∧∀c∈r.conds,c.ok):Tells Tryz.prog 18 [int a,JK l,u32 (d:Nat)] (JK (Jbf a l d)):=by
 refine Jc Tryz.func18 rfl rfl fun nx=> ?_
 refine Z ?_
 refine JdG (fun y:List PRul×Option Nat×Nat=> mk 62 [(0,int a),(2,u32 (d:Nat)),(7, .os 2 y.1.length (JcI y.1) (nmd y.2.1))] ⟨[],J2 (nmd y.2.1) (y.1.length * 2),y.2.2,0⟩) (fun y=> y.1=JbR a l∧(y.2.1=none→y.1= [])∧y.1.length≤l.length) ?_ ?_
 ·refine Jm (fun y:Nat×List PRul×Option Nat×Nat=> mk 62 [(0,int a),(2,u32 (d:Nat)),(7, .os 2 y.2.1.length (JcI y.2.1) (nmd y.2.2.1)),(11,JK l),(12,int l.length),(13,int y.1)] ⟨[],J2 (nmd y.2.2.1) (y.2.1.length * 2),y.2.2.2,0⟩)
   (fun y=> y.1≤l.length∧y.2.1++JbR a (l.drop y.1)=JbR a l∧(y.2.2.1=none→y.2.1= [])∧y.2.1.length≤y.1) (fun y=> l.length - y.1) ?_ ?_
  ·exact ⟨(0, [],none,nx),⟨Nat.zero_le _,rfl,fun _=> rfl,Nat.le_refl _⟩,Jh (pm:= []) (bx:= []) _ [] rfl rfl Sf Sf Tt Tt ⟨Rf,Rf,AVle.os_nil,Y3⟩⟩
  ·rintro ⟨i,L,oi,nx1⟩ ⟨h1,hL,h2,h3⟩;dsimp only at h1 hL h2 h3;refine Z ?_;intro c g;cases c
   ·have g:=Jn g;try dsimp only at g
    have hi:i=l.length:=(by omega);subst hi;rw [List.drop_length] at hL;refine Z ?_;exact ⟨(L,oi,nx1),⟨by rw [← hL];exact (List.append_nil _).symm,h2,h3⟩,Et rfl rfl Tt Pf Y3⟩
   ·have g:=Jo g;try dsimp only at g
    have hi:i < l.length:=(by omega);have hnx:=Juc (a:=a) hi;have hr:l.getD i Jy∈l:=(by simp [List.getD,hi]);have hn:=Jme (l.getD i Jy) (hc _ hr).2 (hc _ hr).1;have hcl:=(hc _ hr).1;rw [hnx] at hL;clear hnx;refine Z ?_;refine ⟨Bd, ?_⟩;refine Z ?_;intro c6 hc6;refine Z ?_;refine Jij (fun y:Option PRul×Nat=> mk 62 [(0,int a),(2,u32 (d:Nat)),(7, .os 2 L.length (JcI L) (nmd oi)),(9, .bp (0,nx1) 0),(10,boolA y.1.isSome),(11,JK l),(12,int l.length),(13,int i)] ⟨Jwc nx1 y.1,J2 (nmd oi) (L.length * 2),y.2,1⟩) (fun y=> y.1=Jde a (l.getD i Jy)) ?_ ?_
    ·cases c6
     ·have ha2:a≠2:=fun e=> by subst e;cases hc6
      refine Z ?_;exact ⟨(some (l.getD i Jy),nx1+1),(if_neg ha2).symm,Et rfl rfl Bf Pf Y8⟩
     ·have ha2:a=2:=by
       have:=of_decide_eq_true (p:=(a:Int)=2) hc6.symm;omega
      refine Z ?_;refine Ja rfl rfl hn Y1 fun nx2=> ?_;have hab:Jde a (l.getD i Jy)=JeG (l.getD i Jy):=if_pos ha2;rw [hab];cases JeG (l.getD i Jy) with
      | none=>
        refine Z ?_;exact ⟨(none,nx2),rfl,Et rfl rfl Bf Pf Y8⟩
      | some q=>
        refine Z ?_;exact ⟨(some q,nx2),rfl,Et rfl rfl Bf Pf Y8⟩
    ·rintro ⟨oq,nx3⟩ hoq;dsimp only at hoq;rw [← hoq] at hL;cases oq with
     | none=>
       dsimp only at hL;refine Z ?_;exact back (i+1,L,oi,nx3) ⟨hi,hL,h2,Dm⟩ Dm (Jh _ _ rfl rfl (.cons _ Sf) Sf Tt Pf ⟨Rf,Rf,Rf,Rf,Rf,Lw,Tt⟩)
     | some q=>
       dsimp only at hL;have hqc:=(Jsh hoq.symm).1;have hcq:=Jqe q.conds Om;refine Z ?_;refine Jaf 9 (Jwc nx1 (some q)) (Ef [8]) (Ef [3]) [0,1,2,3,4,5,6,7,8] Kr Kr (HB.refl _) ?_;refine Z ?_;refine ⟨_,Jao rfl rfl rfl hcq Y1 (JjS _), ?_⟩;refine Z ?_;refine ⟨_,JaK (e:=81) (c:=2) (pm:= []) (n:=L.length) (oi:=nmd oi) (sz:=2) (f:=JcI L) (HB.refl _) rfl rfl rfl (.inr ⟨_,rfl⟩) Kr Kr Kr (.inr rfl) Kr (List.append_nil _).symm (JG rfl) (by rw [Jlz];omega) Om,fun r h' hr=> ?_⟩;obtain ⟨rfl,rfl⟩:=hr;refine Z ?_;intro c e;cases c
       ·have hne:¬q.conds.length=0:=fun h=> by
         have:=of_decide_eq_false (p:=(q.conds.length:Int)=0) e.symm;omega
        rw [if_neg hne] at hL;refine Z ?_;exact back (i+1,L++ [q],some nx3,nx3+1) ⟨hi,by dsimp only;rw [List.append_assoc];exact hL,(fun h=> by cases h),by dsimp only;rw [List.length_append,List.length_singleton];omega⟩ Dm (Jh (bx:= []) (pm:= [((0,nx3),(L++ [q]).length * 2)]) _ _ rfl rfl (.cons _ Sf) Sf Tt ⟨rfl,by rw [List.length_append];rfl,Tt⟩ ⟨Rf,Rf,Jef (e:=Jb9) rfl rfl,Rf,Rf,Lw,Tt⟩)
       ·have he:q.conds.length=0:=by
         have:=of_decide_eq_true (p:=(q.conds.length:Int)=0) e.symm;omega
        rw [if_pos he] at hL;refine Z ?_;exact ⟨(L++ [q],some nx3,nx3+1),⟨hL,(fun h=> by cases h),by dsimp only;rw [List.length_append,List.length_singleton];omega⟩,Jh (bx:= []) (pm:= [((0,nx3),(L++ [q]).length * 2)]) _ _ rfl rfl (.cons _ Sf) Sf Tt ⟨rfl,by rw [List.length_append];rfl,Tt⟩ ⟨Rf,Rf,Jef (e:=Jb9) rfl rfl,Tt⟩⟩
 ·rintro ⟨L,oi,nx1⟩ ⟨hL,h2,h3⟩;dsimp only at hL h2 h3;refine Z ?_;refine Jm (fun y:Nat×Nat=> mk 62 [(2,u32 (d:Nat)),(7, .sl 2 y.1 (JcI L))] ⟨[], [],y.2,0⟩)
   (fun y=> y.1≤L.length∧JhJ d L=JhJ d (L.take y.1)) (fun y=> y.1) ?_ ?_
  ·exact ⟨(L.length,nx1),⟨Nat.le_refl _,by rw [List.take_length]⟩,Jh (pm:= []) (bx:= []) _ [] rfl rfl Sf (List.nil_sublist _) Tt Tt ⟨Rf,AVle.os_sl,Tt⟩⟩
  ·rintro ⟨m,nx2⟩ ⟨hm,hcut⟩;dsimp only at hm hcut;refine Z ?_;intro c g;cases c
   ·have g:=Jn g;try dsimp only at g
    have hm0:m=0:=(by omega);subst hm0;have hS:Jbf a l d= []:=(by unfold Jbf;rw [← hL,hcut];rfl);rw [hS];refine Z ?_;exact Jf rfl Tt (AVle.sl_fun fun k hk=> absurd hk (Nat.not_lt_zero k))
   ·have g:=Jo g;try dsimp only at g
    have hm0:0 < m:=(by omega);have hm1:IntKind.i64.wrap ((m:Int) - 1)=((m - 1:Nat):Int):=(by rw [JaE Om Om];omega);have htk:L.take m=L.take (m - 1)++ [L.getD (m - 1) Jy]:=by
     obtain ⟨k,rfl⟩:∃k,m=k+1:=⟨m - 1,Om⟩;exact Ja9 Jy Om
    refine Z ?_;refine ⟨⟨Jdb (i:=m - 1) hm1,Jdt (i:=m - 1) hm1 Om⟩,Ji (b:= .rp (Jb9 (L.getD (m - 1) Jy)).cells) (congrArg (fun z:Int=> AV.rp (JcI L z.toNat).cells) hm1) ?_⟩;refine Z ?_;intro c e;cases c
    ·have e:¬(L.getD (m - 1) Jy).code=d:=fun h=> by
      have:=of_decide_eq_false (p:=((L.getD (m - 1) Jy).code:Int)=d) e.symm;omega
     rw [htk,JiA,if_neg e,← htk] at hcut;have hS:Jbf a l d=L.take m:=(by unfold Jbf;rw [← hL,hcut]);rw [hS];refine Z ?_;exact Jf rfl Tt (Jx7 hm)
    ·have e:(L.getD (m - 1) Jy).code=d:=by
      have:=of_decide_eq_true (p:=((L.getD (m - 1) Jy).code:Int)=d) e.symm;omega
     rw [htk,JiA,if_pos e] at hcut;refine Z ?_;refine ⟨⟨Jdb (i:=m - 1) hm1,by rw [hm1];dsimp only;omega⟩,Ji (b:= .sl 2 (m - 1) (JcI L)) (congrArg (fun z:Int=> AV.sl 2 z.toNat (JcI L)) hm1) ?_⟩;refine Z ?_;exact back (m - 1,nx2) ⟨Dm,hcut⟩ Dm (Et rfl rfl Tt Tt Y2)
end Go.Proofs.W

namespace Go.Proofs
open Go.Shelf Go.RowKit Go.Lib Go.Sort
shelf_lay_g SlLaysF0.n6 Slsf 6 at Tryz 21 as Tryz.sortEnt
shelf_lay_g SlLaysF0.n6 Slsf 6 at Tryz 24 as Tryz.sortSub
namespace W
theorem Jzt (x:Nat) (w:World):Calls Tryz.prog 62 #[.int .u32 x] w fun e w'=> e= .returned (.bool false)∧w'=w:=by
 go_enter Tryz.func62,Tryz.ntmps62
 go_wp2
 go_ret
 exact ⟨by simp,rfl⟩
theorem JnB (x y:Nat) (w:World):Calls Tryz.prog 23 #[.int .u32 x, .int .u32 y] w fun e w'=> e= .returned (.int .i64 (Lib.compareInt x y))∧w'=w:=by
 go_enter Tryz.func23,Tryz.ntmps23
 go_wp2_with (go_at_call 62;refine (Jzt _ _).mono ?_;rintro e w' ⟨rfl,hw⟩;rw [hw])
 all_goals (go_ret;refine ⟨?_,rfl⟩;unfold Lib.compareInt;(repeat' split) <;> first | rfl | (exfalso;omega))
theorem JAg (k1 k2:Nat) (v1 v2:Value) (W:World):Calls Tryz.prog 22 #[.agg #[.int .u32 k1,v1], .agg #[.int .u32 k2,v2]] W fun e w'=> e= .returned (.int .i64 (Lib.compareInt k1 k2))∧∃q os',w'=grow (W.drewN q) os':=by
 have hcon:=fun W'=> JnB k1 k2 W'
 generalize Lib.compareInt k1 k2=r at hcon⊢
 go_enter Tryz.func22,Tryz.ntmps22
 go_wp2_with (go_at_call 23;refine (hcon _).mono ?_;rintro e w' ⟨rfl,rfl⟩)
 go_ret
 exact ⟨rfl,0,_,by rw [alloc_eq_grow,alloc_eq_grow,grow_grow];rfl⟩
theorem JAh (k1 k2:Nat) (v1 v2:Value) (W:World):Calls Tryz.prog 25 #[.agg #[.int .u32 k1,v1], .agg #[.int .u32 k2,v2]] W fun e w'=> e= .returned (.int .i64 (Lib.compareInt k1 k2))∧∃q os',w'=grow (W.drewN q) os':=by
 have hcon:=fun W'=> JnB k1 k2 W'
 generalize Lib.compareInt k1 k2=r at hcon⊢
 go_enter Tryz.func25,Tryz.ntmps25
 go_wp2_with (go_at_call 23;refine (hcon _).mono ?_;rintro e w' ⟨rfl,rfl⟩)
 go_ret
 exact ⟨rfl,0,_,by rw [alloc_eq_grow,alloc_eq_grow,grow_grow];rfl⟩
open Go.Vl
theorem Jqf {D:List (Nat×AV)} {tl:List AV} {nm s cap nx nn:Nat} (hone:∀x∈D,Jb3 x.2=true) (hl:D.length < 4611686018427387904):
 ECall Tryz.prog 21 [.hs (nm,s) 0 D.length cap, .fn (.func 22) [] []] ⟨[((nm,s), .c (JM D++tl))], [],nx,nn⟩
  fun r h'=> r= .tup []∧∃cs',(∃D',D'.Perm D∧D'.Pairwise (fun a b=> a.1≤b.1)∧cs'=JM D')∧h'=⟨[((nm,s), .c (cs'++tl))], [],nx,nn⟩:=by
 have eg:∀args w,(callFunc 22 args).run Tryz.prog w= .ok (.enter 22 args) w:=enters_of Tryz.func22 Kr rfl
 refine JjD ⟨_,Tryz.func21,rfl,rfl⟩ hone fun d w blk hd _ hH hb=> ?_
 exact AnyQ.slices_SortFunc Tryz.sortEnt 2 Tryz.isAgg78 Tryz.sizeOf78 KX.enc (fun _=> rfl) KX.one KX.cmp KX.swo 22 #[] blk 0 cap d w eg (fun _ _ _ _ x y=> JAg _ _ _ _ _) hH hb Om
theorem Jqg {D:List (Nat×AV)} {tl:List AV} {nm s cap nx nn:Nat} (hone:∀x∈D,Jb3 x.2=true) (hl:D.length < 4611686018427387904):
 ECall Tryz.prog 24 [.hs (nm,s) 0 D.length cap, .fn (.func 25) [] []] ⟨[((nm,s), .c (JM D++tl))], [],nx,nn⟩
  fun r h'=> r= .tup []∧∃cs',(∃D',D'.Perm D∧D'.Pairwise (fun a b=> a.1≤b.1)∧cs'=JM D')∧h'=⟨[((nm,s), .c (cs'++tl))], [],nx,nn⟩:=by
 have eg:∀args w,(callFunc 25 args).run Tryz.prog w= .ok (.enter 25 args) w:=enters_of Tryz.func25 Kr rfl
 refine JjD ⟨_,Tryz.func24,rfl,rfl⟩ hone fun d w blk hd _ hH hb=> ?_
 exact AnyQ.slices_SortFunc Tryz.sortSub 2 Tryz.isAgg83 Tryz.sizeOf83 KX.enc (fun _=> rfl) KX.one KX.cmp KX.swo 25 #[] blk 0 cap d w eg (fun _ _ _ _ x y=> JAh _ _ _ _ _) hH hb Om
set_option maxRecDepth 100000
theorem JAi (n:Nat):Tells Tryz.prog 107 [JeX 2,int 0,int 0,fn0 n] (.tup []):=by
 refine Jc Tryz.func107 rfl rfl fun nx=> ?_
 refine Z ?_
 refine JeW ?_
 refine Z ?_
 exact Jb rfl Rf
theorem JAj (n:Nat):Tells Tryz.prog 60 [JeX 2,int 0,int 0,int 0,fn0 n] (.tup []):=by
 refine Jc Tryz.func60 rfl rfl fun nx=> ?_
 refine Z ?_
 refine JeW ?_
 refine Z ?_
 refine Ja rfl rfl (JAi n) Y4 fun nx=> ?_
 refine Z ?_
 exact Jb rfl Rf
theorem Jrt (n:Nat):Tells Tryz.prog 21 [JeX 2,fn0 n] (.tup []):=by
 refine Jc Tryz.func21 rfl rfl fun nx=> ?_
 refine Z ?_
 refine Ja rfl rfl Jtt Y1 fun nx=> ?_
 refine Z ?_
 refine Ja rfl rfl (JAj n) Y5 fun nx=> ?_
 refine Z ?_
 exact Jb rfl Rf
theorem JAk (n:Nat):Tells Tryz.prog 117 [JeX 2,int 0,int 0,fn0 n] (.tup []):=by
 refine Jc Tryz.func117 rfl rfl fun nx=> ?_
 refine Z ?_
 refine JeW ?_
 refine Z ?_
 exact Jb rfl Rf
theorem JAl (n:Nat):Tells Tryz.prog 63 [JeX 2,int 0,int 0,int 0,fn0 n] (.tup []):=by
 refine Jc Tryz.func63 rfl rfl fun nx=> ?_
 refine Z ?_
 refine JeW ?_
 refine Z ?_
 refine Ja rfl rfl (JAk n) Y4 fun nx=> ?_
 refine Z ?_
 exact Jb rfl Rf
theorem Jru (n:Nat):Tells Tryz.prog 24 [JeX 2,fn0 n] (.tup []):=by
 refine Jc Tryz.func24 rfl rfl fun nx=> ?_
 refine Z ?_
 refine Ja rfl rfl Jtt Y1 fun nx=> ?_
 refine Z ?_
 refine Ja rfl rfl (JAl n) Y5 fun nx=> ?_
 refine Z ?_
 exact Jb rfl Rf
end W
end Go.Proofs

namespace Go.Proofs.W
open Go.Vl
set_option maxRecDepth 100000
theorem JlA (a:Nat) (z:Int) (h0:0≤z) (h:z < 1073741824):Tells Tryz.prog 19 [int a,u32 z] (u32 (JbZ a z:Nat)):=by
 obtain ⟨n,rfl⟩:∃n:Nat,z=n:=⟨z.toNat,Om⟩
 have hb:Jb2 .or .u32 (n:Int) 1073741824=((n||| 1073741824:Nat):Int):=by
  have hlt:n||| 1073741824 < 2 ^ 32:=Nat.or_lt_two_pow Om Dc;exact JyH (k:= .u32) (a:=n) (b:=1073741824) (by show n < 2 ^ 32;omega) Dc (by simp [IntKind.wrap,IntKind.signed,IntKind.bits] at hlt⊢;omega)
 refine Jc Tryz.func19 rfl rfl fun nx=> ?_
 unfold JbZ
 refine Z ?_
 intro c e;cases c
 ·have e1:¬a=1:=fun h=> by subst h;cases e
  rw [if_neg e1];refine Z ?_;exact Jb rfl Rf
 ·have e1:a=1:=by
   have:=of_decide_eq_true (p:=(a:Int)=1) e.symm;omega
  rw [if_pos e1];refine Z ?_;exact Jb rfl (AVle.of_eq (congrArg u32 hb))
abbrev JS:=List (Nat×AV)×Option (Nat×Nat×List AV)
def JaB (nm:Nat):JS→AV
 | (_,none)=> .os 0 0 (fun _=> .any) none
 | (R,some (s,cap,_))=> .hs (nm,s) 0 R.length cap
def JbV (nm:Nat):JS→List (Vl.Id×Own)
 | (_,none)=> []
 | (R,some (s,_,tl))=> [((nm,s), .c (JM R++tl))]
def Jbu:JS→Prop
 | (R,none)=> R= []
 | (R,some (_,cap,tl))=> R.length≤cap∧cap * 2≤R.length * 2+tl.length
def JaW (st:Nat→JS):List (Vl.Id×Own):=(List.range 7).flatMap fun j=> JbV (10+j) (st j)
def JY (k:Nat) (st:Nat→JS):List (Vl.Id×Own):=((List.range 7).filter (·≠k)).flatMap fun j=> JbV (10+j) (st j)
def Ja7 (d:Nat) (x:Bool) (st:Nat→JS):List AV:= [u32 (d:Nat),boolA x,JaB 10 (st 0),JaB 11 (st 1),JaB 12 (st 2),JaB 13 (st 3),JaB 14 (st 4),JaB 15 (st 5),JaB 16 (st 6)]
def Jam (st:Nat→JS) (k:Nat) (r:JS):Nat→JS:=fun j=> if j=k then r else st j
theorem Jgp {k:Nat} (hk:k < 7) (st:Nat→JS):(JaW st).Perm (JbV (10+k) (st k)++JY k st):=by
 unfold JaW JY
 have h:(List.range 7).Perm (k::(List.range 7).filter (·≠k)):=by
  have:k=0∨k=1∨k=2∨k=3∨k=4∨k=5∨k=6:=by omega
  rcases this with rfl | rfl | rfl | rfl | rfl | rfl | rfl <;> decide
 exact (h.flatMap_right _).trans (.of_eq (List.flatMap_cons ..))
theorem Jzu {k:Nat} (st:Nat→JS) (r:JS):JY k (Jam st k r)=JY k st:=by
 unfold JY
 rw [List.flatMap_def,List.flatMap_def]
 refine congrArg List.flatten (List.map_congr_left fun j hj=> ?_)
 have:j≠k:=by simpa using (List.mem_filter.1 hj).2
 unfold Jam
 rw [if_neg this]
theorem Jkj {k:Nat} (hk:k < 7) (st:Nat→JS) (r:JS):(JaW (Jam st k r)).Perm (JbV (10+k) r++JY k st):=by
 have h:=Jgp hk (Jam st k r)
 rw [Jzu] at h
 unfold Jam at h
 rwa [if_pos rfl] at h
theorem BxLe.of_eq {a b:List (Vl.Id×Own)} (h:a=b):BxLe a b:=h ▸ Bf
theorem JiS {k:Nat} {st:Nat→JS} {r:JS} (h:∀j,j < 7→Jbu (st j)) (hr:Jbu r):∀j,j < 7→Jbu (Jam st k r j):=fun j hj=> by
 unfold Jam
 split
 ·exact hr
 ·exact h j hj
theorem JjT (R:List (Nat×AV)) (e:Nat×AV):JM (R++ [e])=JM R++ [.v (.int .u32 e.1),e.2]:=by
 unfold JM;rw [List.flatMap_append];rfl
def Jdh (e:PEnt):Nat×AV:=(e.num,JK e.rules)
def Ja3 (s:PSub):Nat×AV:=(s.num,u32 (s.code:Nat))
theorem Je0 {a d:Nat} {x:Bool} {row:TRow} {rs:List PRul} (h:row.num a < 0∨(a=1∧x=false)∨Jbf a rs d= []):JaH a d x row rs= []:=if_pos h
theorem JnC {a d:Nat} {x:Bool} {row:TRow} {rs:List PRul} (h1:¬row.num a < 0) (h2:¬(a=1∧x=false)) (h3:Jbf a rs d≠ []):JaH a d x row rs= [⟨JbZ a (row.num a),Jbf a rs d⟩]:=if_neg fun h=> h.elim h1 fun h=> h.elim h2 h3
theorem Jf0 {k d:Nat} {x:Bool} {row:TRow} {rs:List PRul} {st st1:Nat→JS} (h:∀j,j < k→(st1 j).1=(st j).1++(JaH j d x row rs).map Jdh) (hk:st1 k=st k) (he:JaH k d x row rs= []):∀j,j < k+1→(st1 j).1=(st j).1++(JaH j d x row rs).map Jdh:=fun j hj=> by
 rcases Nat.lt_or_ge j k with h1 | h1
 ·exact h j h1
 ·obtain rfl:j=k:=by omega
  rw [he,hk];exact (List.append_nil _).symm
theorem Jmo {z:Int} (h0:0≤z) (h:z < 1073741824):IntKind.u32.wrap z=z:=by
 simp [IntKind.wrap,IntKind.signed,IntKind.bits];omega
theorem Jwe:Jbc Tryz.prog 78=true:=by kernel_rfl
theorem gc_ent:Tryz.prog.cellsOf 78=2:=by kernel_rfl
theorem Jwf:Tryz.prog.bytesOf 78=32:=by kernel_rfl
theorem Jwg:Jbc Tryz.prog 83=true:=by kernel_rfl
theorem gc_sub:Tryz.prog.cellsOf 83=2:=by kernel_rfl
theorem Jwh:Tryz.prog.bytesOf 83=8:=by kernel_rfl
theorem Ji0 {f':Nat→AV} {e:Nat×AV} {m:Nat} {T:TypeId} (hT:Tryz.prog.cellsOf T=2) (h:Jw 1 f'= [.v (.int .u32 e.1),e.2]):OwnLe (.c (Jw 1 f'++List.replicate (m * Tryz.prog.cellsOf T) .any)) (.c (JM [e]++List.replicate (m * 2) .any)):=by
 rw [hT,h];exact OwnLe.refl _
theorem Jwi {f':Nat→AV} {e:Nat×AV} {R:List (Nat×AV)} {tl:List AV} {T:TypeId} (hT:Tryz.prog.cellsOf T=2) (h:Jw 1 f'= [.v (.int .u32 e.1),e.2]):OwnLe (.c (Jaa (JM R++tl) (R.length * Tryz.prog.cellsOf T) (Jw 1 f'))) (.c (JM (R++ [e])++tl.drop 2)):=by
 have e1:Jaa (JM R++tl) (R.length * Tryz.prog.cellsOf T) (Jw 1 f')=JM (R++ [e])++tl.drop 2:=by
  rw [hT,h,show R.length * 2=(JM R).length+0 by rw [JdI];rfl,JfJ,JjT,JaP];simp
 rw [e1];exact OwnLe.refl _
theorem Jqh {f':Nat→AV} {e:Nat×AV} {R:List (Nat×AV)} {tl:List AV} {m:Nat} {T:TypeId} (hT:Tryz.prog.cellsOf T=2) (h:Jw 1 f'= [.v (.int .u32 e.1),e.2]):OwnLe (.c ((JM R++tl).take (R.length * Tryz.prog.cellsOf T)++Jw 1 f'++List.replicate (m * Tryz.prog.cellsOf T) .any)) (.c (JM (R++ [e])++List.replicate (m * 2) .any)):=by
 have e1:(JM R++tl).take (R.length * Tryz.prog.cellsOf T)=JM R:=by
  rw [hT,← JdI,List.take_left]
 rw [e1,hT,h,JjT];exact OwnLe.refl _
theorem Jmp {k:Nat} (hk:k < 7) {n nx nn:Nat} {L:List (Nat×AV)} {F:List (Vl.Id×Own)} {st:Nat→JS} {r:JS} {df:Option (List DA)}:ELe (mk n L ⟨F++(JbV (10+k) r++JY k st), [],nx,nn⟩ df) (mk n L ⟨F++JaW (Jam st k r), [],nx,nn⟩ df):=
 Jdo (E:=mk n L ⟨F++(JbV (10+k) r++JY k st), [],nx,nn⟩ df) (h':=⟨F++JaW (Jam st k r), [],nx,nn⟩) ⟨(List.Perm.append_left _ (Jkj hk st r)).map _, .refl _,rfl⟩
theorem Jkk {k d:Nat} {x:Bool} {row:TRow} {rs:List PRul} {st st1:Nat→JS} {R:List (Nat×AV)} {md:Option (Nat×Nat×List AV)} {z:Nat} {W:List PRul} {md':Option (Nat×Nat×List AV)} (h:∀j,j < k→(st1 j).1=(st j).1++(JaH j d x row rs).map Jdh) (hk:st1 k=st k) (hR:st1 k=(R,md)) (he:JaH k d x row rs= [⟨z,W⟩]):∀j,j < k+1→(Jam st1 k (R++ [(z,JK W)],md') j).1=(st j).1++(JaH j d x row rs).map Jdh:=fun j hj=> by
 unfold Jam
 rcases Nat.lt_or_ge j k with h1 | h1
 ·rw [if_neg Om];exact h j h1
 ·obtain rfl:j=k:=by omega
  rw [if_pos rfl,he,← hk,hR];rfl
theorem Jkl {k:Nat} {st st1:Nat→JS} {r:JS} (h:∀j,k≤j→st1 j=st j):∀j,k+1≤j→Jam st1 k r j=st j:=fun j hj=> by
 unfold Jam
 rw [if_neg Om];exact h j Om
def Jcb (d:Nat) (x:Bool) (f:Nat→AV):List AV:= [u32 (d:Nat),boolA x,f 0,f 1,f 2,f 3,f 4,f 5,f 6]
def JbX (q:Nat) (v:AV) (st:Nat→JS):Nat→AV:=fun j=> bif Nat.beq j q then v else JaB (10+j) (st j)
theorem Jmq {d:Nat} {x:Bool} {f g:Nat→AV} (h:∀j,AVle (f j) (g j)):OwnLe (.c (Jcb d x f)) (.c (Jcb d x g)):=⟨Rf,Rf,h 0,h 1,h 2,h 3,h 4,h 5,h 6,Tt⟩
theorem Jft {d q:Nat} {x:Bool} {st:Nat→JS} {v:AV} (h:AVle (JaB (10+q) (st q)) v):OwnLe (.c (Ja7 d x st)) (.c (Jcb d x (JbX q v st))):=Jmq (f:=fun j=> JaB (10+j) (st j)) fun j=> by
 unfold JbX
 cases hb:Nat.beq j q
 ·exact Rf
 ·rw [Nat.eq_of_beq_eq_true hb];exact h
theorem Jqi {d q:Nat} {x:Bool} {st:Nat→JS} {v:AV} {r:JS} (h:AVle v (JaB (10+q) r)):OwnLe (.c (Jcb d x (JbX q v st))) (.c (Ja7 d x (Jam st q r))):=Jmq (g:=fun j=> JaB (10+j) (Jam st q r j)) fun j=> by
 unfold JbX Jam
 cases hb:Nat.beq j q
 ·rw [if_neg (Nat.ne_of_beq_eq_false hb)];exact Rf
 ·have e:=Nat.eq_of_beq_eq_true hb;subst e;rw [if_pos rfl];exact h
theorem Jep {d q:Nat} {x:Bool} {st:Nat→JS} {v:AV} (h:AVle v (JaB (10+q) (st q))):OwnLe (.c (Jcb d x (JbX q v st))) (.c (Ja7 d x st)):=Jmq (g:=fun j=> JaB (10+j) (st j)) fun j=> by
 unfold JbX
 cases hb:Nat.beq j q
 ·exact Rf
 ·rw [Nat.eq_of_beq_eq_true hb];exact h
def B20 (s0 s1 nx0:Nat) (ps:List Rul) (dk dn:Int) (x:Bool) (rw0 cs:List AV):List (Vl.Id×Own):= [((20,nx0), .c rw0),((1,s1), .c cs),((0,s0), .c [int dk,int dn,boolA x,JW ps])]
theorem Jf1 {d q:Nat} {x:Bool} {st:Nat→JS} {v w:AV} {r:JS} (hq:q < 7) (h:AVle w (JaB (10+q) r)):OwnLe (.c (Jaa (Jcb d x (JbX q v st)) (2+q) [w])) (.c (Ja7 d x (Jam st q r))):=by
 rw [show Jaa (Jcb d x (JbX q v st)) (2+q) [w]=Jcb d x (JbX q w st) by
  rcases (by omega:q=0∨q=1∨q=2∨q=3∨q=4∨q=5∨q=6) with rfl | rfl | rfl | rfl | rfl | rfl | rfl <;> rfl]
 exact Jqi h
theorem Jhh {a s k cap:Nat} {R:List (Nat×AV)} {e:Nat×AV} {tl:List AV}:AVle (.hs (a,s) 0 (R.length+1) cap) (JaB k (R++ [e],some (s,cap,tl))):=by
 show AVle _ (.hs (k,s) 0 (R++ [e]).length cap)
 rw [List.length_append];exact AVle.hs_nm rfl
theorem Jwj {i j:Vl.Id} {x y:Own} (h2:OwnLe x y) (h1:i.2=j.2):∀F:List (Vl.Id×Own),BxLe (F++ [(i,x)]) (F++ [(j,y)])
 | []=> ⟨h1,h2,Tt⟩
 | _::F=> ⟨rfl,OwnLe.refl _,Jwj h2 h1 F⟩
theorem JdR {i j:Vl.Id} {o o':Own} {R:List (Vl.Id×Own)} (h2:OwnLe o o') (h1:i.2=j.2):BxLe ((i,o)::R) ((j,o')::R):=⟨h1,h2,Bf⟩
theorem Jqj {i2 i3:Vl.Id} {o2 o2' o3:Own} {R R':List (Vl.Id×Own)} (h:OwnLe o2 o2') (hR:BxLe R R'):BxLe ([(i2,o2),(i3,o3)]++R) ([(i2,o2'),(i3,o3)]++R'):=⟨rfl,h,rfl,OwnLe.refl _,hR⟩
theorem JhZ {k:Nat} (hk:k < 7) {n nx nn:Nat} {L:List (Nat×AV)} {F:List (Vl.Id×Own)} {st:Nat→JS} {df:Option (List DA)}:ELe (mk n L ⟨F++(JbV (10+k) (st k)++JY k st), [],nx,nn⟩ df) (mk n L ⟨F++JaW st, [],nx,nn⟩ df):=
 Jdo (E:=mk n L ⟨F++(JbV (10+k) (st k)++JY k st), [],nx,nn⟩ df) (h':=⟨F++JaW st, [],nx,nn⟩) ⟨(List.Perm.append_left _ (Jgp hk st)).map _, .refl _,rfl⟩
theorem Jdz {s0 s1 nx0:Nat} {ps:List Rul} {dk dn:Int} {x:Bool} {rw0 cs cs':List AV} {R R':List (Vl.Id×Own)} (h:OwnLe (.c cs) (.c cs')) (hR:BxLe R R'):BxLe (B20 s0 s1 nx0 ps dk dn x rw0 cs++R) (B20 s0 s1 nx0 ps dk dn x rw0 cs'++R'):=⟨rfl,OwnLe.refl _,rfl,h,rfl,OwnLe.refl _,hR⟩
def Jud (d:Nat) (x:Bool) (row:TRow) (rs:List PRul) (st st':Nat→JS):Prop:=(∀j,j < 7→Jbu (st' j))∧(∀k,k < 5→(st' k).1=(st k).1++(JaH k d x row rs).map Jdh)∧∀m,m < 2→(st' (5+m)).1=(st (5+m)).1++(JbB m row rs).map Ja3
theorem Jmr {m d:Nat} {x:Bool} {row:TRow} {rs:List PRul} {st st1:Nat→JS} {R:List (Nat×AV)} {md md':Option (Nat×Nat×List AV)} {q:PSub} (hm:m < 2) (hok1:∀j,j < 7→Jbu (st1 j)) (hdone:∀k,k < 5→(st1 k).1=(st k).1++(JaH k d x row rs).map Jdh)
 (hrest:∀j,j < 2→st1 (5+j)=st (5+j)) (hR:st1 (5+m)=(R,md)) (hrow:Jbu (R++ [Ja3 q],md')) (hs:JbB m row rs= [q]) (ho:∀j,j < 2→j≠m→JbB j row rs= []):Jud d x row rs st (Jam st1 (5+m) (R++ [Ja3 q],md')):=by
 refine ⟨JiS hok1 hrow,fun k hk=> ?_,fun j hj=> ?_⟩
 ·unfold Jam;rw [if_neg Om];exact hdone k hk
 ·unfold Jam;by_cases h:j=m
  ·subst h;rw [if_pos rfl,hs,← hrest j hj,hR];rfl
  ·rw [if_neg Om,ho j hj h,hrest j hj];exact (List.append_nil _).symm
theorem JiT {h:Heap} {bx:List (Vl.Id×Own)} {nx nn:Nat} (bx'' bx':List (Vl.Id×Own)) (hx:h.nx=nx) (h0:bx''.Perm h.bx) (hb:bx'.Sublist bx'') (hp:h.pm= []) (eb:BxLe bx' bx):HLe h ⟨bx, [],nx,nn⟩:=
 HLe.trans (Jj0 (h':=⟨bx'',h.pm,h.nx,h.nn⟩) ⟨h0.map _, .refl _,rfl⟩) (Jr bx' [] hx hb (List.nil_sublist _) eb trivial)
theorem Jms {k:Nat} (hk:k < 7) {nx nn:Nat} {F:List (Vl.Id×Own)} {st:Nat→JS} {r:JS}:HLe ⟨F++(JbV (10+k) r++JY k st), [],nx,nn⟩ ⟨F++JaW (Jam st k r), [],nx,nn⟩:=
 Jj0 ⟨(List.Perm.append_left _ (Jkj hk st r)).map _, .refl _,rfl⟩
theorem Jue (dk dn:Int) (x:Bool) (ps:List Rul) (d:Nat) (row:TRow) (rs:List PRul) (s0 s1 nx0:Nat) (st:Nat→JS) (hok:∀j,j < 7→Jbu (st j)) (hlen:∀j,j < 7→(st j).1.length≤1000000)
 (hn:∀k,row.num k < 1073741824) (hm:row.mux=0∨row.mux=1∨row.mux=2) (hs:0≤row.sub∧row.sub≤255) (hr:rs≠ []) (hl:rs.length≤1000000) (hc:∀r∈rs,r.conds.length≤1000000∧∀c∈r.conds,c.ok):
 ECall Tryz.prog 17 [Jj row,JK rs, .bp (0,s0) 0, .bp (1,s1) 0] ⟨[((1,s1), .c (Ja7 d x st)),((0,s0), .c [int dk,int dn,boolA x,JW ps])]++JaW st, [],nx0,20⟩
  fun r h'=> r= .tup []∧∃st' nx' nn',Jud d x row rs st st'∧h'=⟨[((1,s1), .c (Ja7 d x st')),((0,s0), .c [int dk,int dn,boolA x,JW ps])]++JaW st', [],nx',nn'⟩:=by
 obtain ⟨nm,a0,a1,a2,a3,a4,mux,sub⟩:=row
 refine ECall.wk (JB Tryz.func17 rfl rfl ?_)
 refine Z ?_
 refine JdG (fun y:(Nat→JS)×Nat=> mk 75 [(1,JK rs),(2, .bp (0,s0) 0),(3, .bp (1,s1) 0),(4, .bp (20,nx0) 0)] ⟨[((20,nx0), .c [strA nm,int a0,int a1,int a2,int a3,int a4,int mux,int sub]),((1,s1), .c (Ja7 d x y.1)),((0,s0), .c [int dk,int dn,boolA x,JW ps])]++JaW y.1, [],y.2,21⟩) (fun y=> (∀j,j < 7→Jbu (y.1 j))∧(∀k,k < 5→(y.1 k).1=(st k).1++(JaH k d x ⟨nm,a0,a1,a2,a3,a4,mux,sub⟩ rs).map Jdh)∧∀m,m < 2→y.1 (5+m)=st (5+m)) ?_ ?_
 ·refine Jm (fun y:Nat×(Nat→JS)×Nat=> mk 75 [(1,JK rs),(2, .bp (0,s0) 0),(3, .bp (1,s1) 0),(4, .bp (20,nx0) 0),(9,int y.1)] ⟨[((20,nx0), .c [strA nm,int a0,int a1,int a2,int a3,int a4,int mux,int sub]),((1,s1), .c (Ja7 d x y.2.1)),((0,s0), .c [int dk,int dn,boolA x,JW ps])]++JaW y.2.1, [],y.2.2,21⟩) (fun y=> y.1≤5∧(∀j,j < 7→Jbu (y.2.1 j))∧(∀k,k < y.1→(y.2.1 k).1=(st k).1++(JaH k d x ⟨nm,a0,a1,a2,a3,a4,mux,sub⟩ rs).map Jdh)∧∀j,y.1≤j→y.2.1 j=st j) (fun y=> 5 - y.1) ?_ ?_
  ·exact ⟨(0,st,nx0+1),⟨Nat.zero_le _,hok,fun k h=> absurd h (Nat.not_lt_zero _),fun j _=> rfl⟩,Et rfl rfl Bf Tt Y5⟩
  ·rintro ⟨a,st1,nx2⟩ ⟨h1,hok1,hdone,hrest⟩;dsimp only at h1 hok1 hdone hrest;by_cases h5:a=5
   ·subst h5;refine Z ?_;exact ⟨(st1,nx2),⟨hok1,hdone,fun m hm=> hrest _ Om⟩,Et rfl rfl Bf Tt Y4⟩
   ·obtain ⟨q,hq⟩:∃q,q=a:=⟨a,rfl⟩;have hq7:q < 7:=(by omega);have hP:=Jgp hq7 st1;have hrk:Jbu (st1 q):=hok1 _ hq7;have hrs:st1 q=st q:=hrest _ Om;have hln:(st1 q).1.length≤1000000:=(by rw [hrs];exact hlen _ hq7);have hse:=Jwd q rs d Om hl hc;have hdq:∀k,k < q→(st1 k).1=(st k).1++(JaH k d x ⟨nm,a0,a1,a2,a3,a4,mux,sub⟩ rs).map Jdh:=(by rw [hq];exact hdone);have hrq:∀j,q≤j→st1 j=st j:=(by rw [hq];exact hrest);have hnq:=hn q;by_cases hx1:a=1∧x=false
    ·obtain ⟨rfl,rfl⟩:=hx1;subst hq;refine AW.le (E':=mk 75 [(1,JK rs),(2, .bp (0,s0) 0),(3, .bp (1,s1) 0),(4, .bp (20,nx0) 0),(9,int (1:Nat))] ⟨B20 s0 s1 nx0 ps dk dn _ [strA nm,int a0,int a1,int a2,int a3,int a4,int mux,int sub] (Ja7 d _ st1)++JaW st1, [],nx2,21⟩) (Et rfl rfl Bf Tt Y5) ?_;unfold B20 Ja7;refine Z ?_;intro c t1;cases c
     ·refine Z ?_;exact back (2,st1,nx2) ⟨Dm,hok1,Jf0 hdq hrs (Je0 (.inr (.inl ⟨rfl,rfl⟩))),fun j hj=> hrq j (by dsimp only at hj;omega)⟩ Dm (Et rfl rfl Bf Tt ⟨Rf,Rf,Rf,Rf,Jk rfl,Tt⟩)
     ·refine Z ?_;exact back (2,st1,nx2) ⟨Dm,hok1,Jf0 hdq hrs (Je0 (.inr (.inl ⟨rfl,rfl⟩))),fun j hj=> hrq j (by dsimp only at hj;omega)⟩ Dm (Et rfl rfl Bf Tt ⟨Rf,Rf,Rf,Rf,Jk rfl,Tt⟩)
    have hx2:a=1→x=true:=fun e=> by
     cases x
     ·exact absurd ⟨e,rfl⟩ hx1
     ·rfl
    rcases hk:st1 q with ⟨R,_ | ⟨s,cap,tl⟩⟩
    ·rw [hk] at hP hrk hln;dsimp only at hln;have hv:AVle (JaB (10+q) (st1 q)) (.os 0 0 (fun _=> .any) none):=(by rw [hk];exact Rf);have hw:AVle (.os 0 0 (fun _=> .any) none) (JaB (10+q) (st1 q)):=(by rw [hk];exact Rf);have hbx:BxLe (JY q st1) (JbV (10+q) (st1 q)++JY q st1):=(by rw [hk];exact Bf);obtain rfl:R= []:=hrk;refine AW.le (E':=mk 75 [(1,JK rs),(2, .bp (0,s0) 0),(3, .bp (1,s1) 0),(4, .bp (20,nx0) 0),(9,int (a:Nat))] (⟨B20 s0 s1 nx0 ps dk dn x [strA nm,int a0,int a1,int a2,int a3,int a4,int mux,int sub] (Jcb d x (JbX a (.os 0 0 (fun _=> .any) none) st1))++([]++JY q st1), [],nx2,21⟩:Heap)) (JaL (B20 s0 s1 nx0 ps dk dn x [strA nm,int a0,int a1,int a2,int a3,int a4,int mux,int sub] (Ja7 d x st1)++(_++JY q st1)) _ [] rfl rfl (List.Perm.append_left _ hP.symm) Sf Sf (Jdz (by subst hq;exact Jft hv) Bf) Tt Y5) ?_;obtain ⟨B,hB⟩:∃B:List (Vl.Id×Own),B=B20 s0 s1 nx0 ps dk dn x [strA nm,int a0,int a1,int a2,int a3,int a4,int mux,int sub] (Jcb d x (JbX a (.os 0 0 (fun _=> .any) none) st1)):=⟨_,rfl⟩;rcases (by omega:a=0∨a=1∨a=2∨a=3∨a=4) with rfl | rfl | rfl | rfl | rfl
     all_goals
      try (obtain rfl:=hx2 rfl)
      unfold B20;refine Z ?_;intro c t1;cases c
      ·have t1:=Jn t1;have t1q:¬(⟨nm,a0,a1,a2,a3,a4,mux,sub⟩:TRow).num q < 0:=(by subst hq;exact t1);refine Z ?_;refine Ja rfl rfl hse ⟨Jk (by subst hq;rfl),Y2⟩ fun nx3=> ?_;refine Z ?_;intro c t2;cases c
       ·have t2:=Jn t2;refine Z ?_;exact back (q+1,st1,nx3) ⟨Dm,hok1,Jf0 hdq hrs (Je0 (.inr (.inr (List.eq_nil_of_length_eq_zero Om)))),fun j hj=> hrq j (by dsimp only at hj;omega)⟩ Dm (ELe.trans (JaL (L:= [(1,JK rs),(2, .bp (0,s0) 0),(3, .bp (1,s1) 0),(4, .bp (20,nx0) 0),(9,int (q+1:Nat))]) _ _ [] rfl rfl (List.Perm.refl _) Sf Sf (Jdz (cs:=Jcb d _ (JbX _ (.os 0 0 (fun _=> .any) none) st1)) (by subst hq;exact Jep hw) hbx) Pf ⟨Rf,Rf,Rf,Rf,Jk (by subst hq;rfl),Tt⟩) (JhZ hq7))
       ·have t2:=Jo t2;have hwh:=JlA q ((⟨nm,a0,a1,a2,a3,a4,mux,sub⟩:TRow).num q) Om hnq;have hen:JaH q d _ (⟨nm,a0,a1,a2,a3,a4,mux,sub⟩:TRow) rs= [⟨JbZ q ((⟨nm,a0,a1,a2,a3,a4,mux,sub⟩:TRow).num q),Jbf q rs d⟩]:=JnC t1q (fun h=> hx1 ⟨hq.symm.trans h.1,h.2⟩) (fun h=> by rw [h] at t2;exact absurd t2 Dc);have hwz:AVle (AV.v (.int .u32 (IntKind.u32.wrap ((⟨nm,a0,a1,a2,a3,a4,mux,sub⟩:TRow).num q)))) (u32 ((⟨nm,a0,a1,a2,a3,a4,mux,sub⟩:TRow).num q)):=AVle.of_eq (congrArg u32 (Jmo Om hnq));generalize hW:Jbf q rs d=W at t2 hen;generalize hz:JbZ q ((⟨nm,a0,a1,a2,a3,a4,mux,sub⟩:TRow).num q)=z at hwh hen;refine Z ?_;refine Jaf 14 B (Ef [12]) (Ef [8]) [0,1,2,3,4,5,6,7,8,9,10,11,13,12] Kr Kr (by subst hB;exact HB.cons rfl (HB.cons rfl (HB.one rfl))) ?_;subst hB;unfold B20;refine Z ?_;refine ⟨_,Jao rfl rfl rfl hwh ⟨Jk (by subst hq;rfl),by subst hq;exact hwz,Tt⟩ (NoId.v _), ?_⟩;refine Z ?_;refine ⟨_,Jio (e:=78) (szx:=2) (m:=1) rfl rfl rfl (.inr ⟨_,rfl⟩) Tryz.underlying40 Jwe gc_ent.symm Dc (JG rfl) (by rw [Jwf];omega) Om (fun _=> (HB.cons rfl (HB.cons rfl (HB.one rfl)))),fun r h' hr=> ?_⟩;obtain ⟨ncap,hge,rfl,rfl⟩:=hr;have hro:Jbu ([]++ [(z,JK W)],some (nx3,ncap,List.replicate ((ncap - 1) * 2) .any)):=⟨(by simpa using hge),by rw [List.length_replicate];show ncap * 2≤1 * 2+_;omega⟩;refine Z ?_;exact back (q+1,Jam st1 q ([]++ [(z,JK W)],some (nx3,ncap,List.replicate ((ncap - 1) * 2) .any)),nx3+1) ⟨Dm,JiS hok1 hro,Jkk (R:= []) hdq hrs hk hen,Jkl hrq⟩ Dm (ELe.trans (JaL (L:= [(1,JK rs),(2, .bp (0,s0) 0),(3, .bp (1,s1) 0),(4, .bp (20,nx0) 0),(9,int (q+1:Nat))]) (bx:=B20 s0 s1 nx0 ps dk dn _ [strA nm,int a0,int a1,int a2,int a3,int a4,int mux,int sub] (Ja7 d _ (Jam st1 q ([]++ [(z,JK W)],some (nx3,ncap,List.replicate ((ncap - 1) * 2) .any))))++(JbV (10+q) ([]++ [(z,JK W)],some (nx3,ncap,List.replicate ((ncap - 1) * 2) .any))++JY q st1)) (pm:= []) _ _ [] rfl rfl (List.perm_middle (l₁:= [_,_,_])) Sf Sf (Jdz (by subst hq;exact Jf1 (r:=([]++ [(z,JK W)],some (nx3,ncap,List.replicate ((ncap - 1) * 2) .any))) Dc (Jhh (R:= []))) (JdR (Ji0 gc_ent rfl) rfl)) Pf ⟨Rf,Rf,Rf,Rf,Jk (by subst hq;rfl),Tt⟩) (Jmp hq7))
      ·have t1:=Jo t1;have t1q:(⟨nm,a0,a1,a2,a3,a4,mux,sub⟩:TRow).num q < 0:=(by subst hq;exact t1);refine Z ?_;exact back (q+1,st1,nx2) ⟨Dm,hok1,Jf0 hdq hrs (Je0 (.inl t1q)),fun j hj=> hrq j (by dsimp only at hj;omega)⟩ Dm (ELe.trans (JaL (L:= [(1,JK rs),(2, .bp (0,s0) 0),(3, .bp (1,s1) 0),(4, .bp (20,nx0) 0),(9,int (q+1:Nat))]) _ _ [] rfl rfl (List.Perm.refl _) Sf Sf (Jdz (cs:=Jcb d _ (JbX _ (.os 0 0 (fun _=> .any) none) st1)) (by subst hq;exact Jep hw) hbx) Pf ⟨Rf,Rf,Rf,Rf,Jk (by subst hq;rfl),Tt⟩) (JhZ hq7))
    ·rw [hk] at hP hrk hln;dsimp only at hln;have hv:AVle (JaB (10+q) (st1 q)) (.hs (30,s) 0 R.length cap):=(by rw [hk];exact AVle.hs_nm rfl);have hw:AVle (.hs (30,s) 0 R.length cap) (JaB (10+q) (st1 q)):=(by rw [hk];exact AVle.hs_nm rfl);have hbx:BxLe (((30,s),Own.c (JM R++tl))::JY q st1) (JbV (10+q) (st1 q)++JY q st1):=(by rw [hk];exact JdR (OwnLe.refl _) rfl);refine AW.le (E':=mk 75 [(1,JK rs),(2, .bp (0,s0) 0),(3, .bp (1,s1) 0),(4, .bp (20,nx0) 0),(9,int (a:Nat))] (⟨B20 s0 s1 nx0 ps dk dn x [strA nm,int a0,int a1,int a2,int a3,int a4,int mux,int sub] (Jcb d x (JbX a (.hs (30,s) 0 R.length cap) st1))++([((30,s),Own.c (JM R++tl))]++JY q st1), [],nx2,21⟩:Heap)) (JaL (B20 s0 s1 nx0 ps dk dn x [strA nm,int a0,int a1,int a2,int a3,int a4,int mux,int sub] (Ja7 d x st1)++(_++JY q st1)) _ [] rfl rfl (List.Perm.append_left _ hP.symm) Sf Sf (Jdz (by subst hq;exact Jft hv) (show BxLe (((10+q,s),Own.c (JM R++tl))::JY q st1) _ from JdR (OwnLe.refl _) rfl)) Tt Y5) ?_;obtain ⟨B,hB⟩:∃B:List (Vl.Id×Own),B=B20 s0 s1 nx0 ps dk dn x [strA nm,int a0,int a1,int a2,int a3,int a4,int mux,int sub] (Jcb d x (JbX a (.hs (30,s) 0 R.length cap) st1)):=⟨_,rfl⟩;rcases (by omega:a=0∨a=1∨a=2∨a=3∨a=4) with rfl | rfl | rfl | rfl | rfl
     all_goals
      try (obtain rfl:=hx2 rfl)
      unfold B20;refine Z ?_;intro c t1;cases c
      ·have t1:=Jn t1;have t1q:¬(⟨nm,a0,a1,a2,a3,a4,mux,sub⟩:TRow).num q < 0:=(by subst hq;exact t1);refine Z ?_;refine Ja rfl rfl hse ⟨Jk (by subst hq;rfl),Y2⟩ fun nx3=> ?_;refine Z ?_;intro c t2;cases c
       ·have t2:=Jn t2;refine Z ?_;exact back (q+1,st1,nx3) ⟨Dm,hok1,Jf0 hdq hrs (Je0 (.inr (.inr (List.eq_nil_of_length_eq_zero Om)))),fun j hj=> hrq j (by dsimp only at hj;omega)⟩ Dm (ELe.trans (JaL (L:= [(1,JK rs),(2, .bp (0,s0) 0),(3, .bp (1,s1) 0),(4, .bp (20,nx0) 0),(9,int (q+1:Nat))]) _ _ [] rfl rfl (List.Perm.refl _) Sf Sf (Jdz (cs:=Jcb d _ (JbX _ (.hs (30,s) 0 R.length cap) st1)) (by subst hq;exact Jep hw) hbx) Pf ⟨Rf,Rf,Rf,Rf,Jk (by subst hq;rfl),Tt⟩) (JhZ hq7))
       ·have t2:=Jo t2;have hwh:=JlA q ((⟨nm,a0,a1,a2,a3,a4,mux,sub⟩:TRow).num q) Om hnq;have hen:JaH q d _ (⟨nm,a0,a1,a2,a3,a4,mux,sub⟩:TRow) rs= [⟨JbZ q ((⟨nm,a0,a1,a2,a3,a4,mux,sub⟩:TRow).num q),Jbf q rs d⟩]:=JnC t1q (fun h=> hx1 ⟨hq.symm.trans h.1,h.2⟩) (fun h=> by rw [h] at t2;exact absurd t2 Dc);have hwz:AVle (AV.v (.int .u32 (IntKind.u32.wrap ((⟨nm,a0,a1,a2,a3,a4,mux,sub⟩:TRow).num q)))) (u32 ((⟨nm,a0,a1,a2,a3,a4,mux,sub⟩:TRow).num q)):=AVle.of_eq (congrArg u32 (Jmo Om hnq));generalize hW:Jbf q rs d=W at t2 hen;generalize hz:JbZ q ((⟨nm,a0,a1,a2,a3,a4,mux,sub⟩:TRow).num q)=z at hwh hen;refine Z ?_;refine Jaf 14 B (Ef [12]) (Ef [8]) [0,1,2,3,4,5,6,7,8,9,10,11,13,12] Kr Kr (by subst hB;exact HB.cons rfl (HB.cons rfl (HB.one rfl))) ?_;subst hB;unfold B20;refine Z ?_;refine ⟨_,Jao rfl rfl rfl hwh ⟨Jk (by subst hq;rfl),by subst hq;exact hwz,Tt⟩ (NoId.v _), ?_⟩;refine Z ?_;refine ⟨_,JjE (e:=78) (szx:=2) (m:=1) (n:=R.length) (cap:=cap) (i:=(30,s)) (cs:=JM R++tl) rfl rfl rfl (.inr ⟨_,rfl⟩) Tryz.underlying40 Jwe gc_ent.symm Dc rfl hrk.1 (by rw [gc_ent,List.length_append,JdI];exact hrk.2) (JG rfl) (by rw [Jwf];omega) Om (HB.cons rfl (HB.cons rfl (HB.one rfl))) (fun _=> (HB.cons rfl (HB.cons rfl (HB.one rfl)))),fun r h' hr=> ?_⟩;rcases hr with ⟨hfit,rfl,rfl⟩ | ⟨ncap,hge,rfl,rfl⟩
        ·have hro:Jbu (R++ [(z,JK W)],some (s,cap,tl.drop 2)):=⟨by rw [List.length_append];exact hfit,by have:=hrk.2;rw [List.length_append,List.length_drop,List.length_singleton];omega⟩;refine Z ?_;exact back (q+1,Jam st1 q (R++ [(z,JK W)],some (s,cap,tl.drop 2)),nx3) ⟨Dm,JiS hok1 hro,Jkk (R:=R) hdq hrs hk hen,Jkl hrq⟩ Dm (ELe.trans (JaL (L:= [(1,JK rs),(2, .bp (0,s0) 0),(3, .bp (1,s1) 0),(4, .bp (20,nx0) 0),(9,int (q+1:Nat))]) (bx:=B20 s0 s1 nx0 ps dk dn _ [strA nm,int a0,int a1,int a2,int a3,int a4,int mux,int sub] (Ja7 d _ (Jam st1 q (R++ [(z,JK W)],some (s,cap,tl.drop 2))))++(JbV (10+q) (R++ [(z,JK W)],some (s,cap,tl.drop 2))++JY q st1)) (pm:= []) _ _ [] rfl rfl (List.Perm.refl _) Sf Sf (Jdz (by subst hq;exact Jf1 (r:=(R++ [(z,JK W)],some (s,cap,tl.drop 2))) Dc Jhh) (JdR (Jwi gc_ent rfl) rfl)) Pf ⟨Rf,Rf,Rf,Rf,Jk (by subst hq;rfl),Tt⟩) (Jmp hq7))
        ·have hro:Jbu (R++ [(z,JK W)],some (nx3,ncap,List.replicate ((ncap - (R.length+1)) * 2) .any)):=⟨by rw [List.length_append];exact hge,by rw [List.length_append,List.length_replicate,List.length_singleton,← Nat.add_mul];omega⟩;refine Z ?_;exact back (q+1,Jam st1 q (R++ [(z,JK W)],some (nx3,ncap,List.replicate ((ncap - (R.length+1)) * 2) .any)),nx3+1) ⟨Dm,JiS hok1 hro,Jkk (R:=R) hdq hrs hk hen,Jkl hrq⟩ Dm (ELe.trans (JaL (L:= [(1,JK rs),(2, .bp (0,s0) 0),(3, .bp (1,s1) 0),(4, .bp (20,nx0) 0),(9,int (q+1:Nat))]) (bx:=B20 s0 s1 nx0 ps dk dn _ [strA nm,int a0,int a1,int a2,int a3,int a4,int mux,int sub] (Ja7 d _ (Jam st1 q (R++ [(z,JK W)],some (nx3,ncap,List.replicate ((ncap - (R.length+1)) * 2) .any))))++(JbV (10+q) (R++ [(z,JK W)],some (nx3,ncap,List.replicate ((ncap - (R.length+1)) * 2) .any))++JY q st1)) (pm:= []) _ _ [] rfl rfl (List.perm_middle (l₁:= [_,_,_])) (List.Sublist.append_left (.cons_cons _ (.cons _ Sf)) [_,_,_]) Sf (Jdz (by subst hq;exact Jf1 (r:=(R++ [(z,JK W)],some (nx3,ncap,List.replicate ((ncap - (R.length+1)) * 2) .any))) Dc Jhh) (JdR (Jqh gc_ent rfl) rfl)) Pf ⟨Rf,Rf,Rf,Rf,Jk (by subst hq;rfl),Tt⟩) (Jmp hq7))
      ·have t1:=Jo t1;have t1q:(⟨nm,a0,a1,a2,a3,a4,mux,sub⟩:TRow).num q < 0:=(by subst hq;exact t1);refine Z ?_;exact back (q+1,st1,nx2) ⟨Dm,hok1,Jf0 hdq hrs (Je0 (.inl t1q)),fun j hj=> hrq j (by dsimp only at hj;omega)⟩ Dm (ELe.trans (JaL (L:= [(1,JK rs),(2, .bp (0,s0) 0),(3, .bp (1,s1) 0),(4, .bp (20,nx0) 0),(9,int (q+1:Nat))]) _ _ [] rfl rfl (List.Perm.refl _) Sf Sf (Jdz (cs:=Jcb d _ (JbX _ (.hs (30,s) 0 R.length cap) st1)) (by subst hq;exact Jep hw) hbx) Pf ⟨Rf,Rf,Rf,Rf,Jk (by subst hq;rfl),Tt⟩) (JhZ hq7))
 ·rintro ⟨st1,nx2⟩ ⟨hok1,hdone,hrest⟩;dsimp only at hok1 hdone hrest;rcases hm with rfl | hm
  ·refine Z ?_;exact Jad rfl ⟨.tup [],⟨[((1,s1), .c (Ja7 d x st1)),((0,s0), .c [int dk,int dn,boolA x,JW ps])]++JaW st1, [],nx2,21⟩,Rf,Jr _ [] rfl (.cons _ Sf) Sf Bf trivial,rfl,st1,_,_,⟨hok1,hdone,fun m hm=> by rw [show JbB m ⟨nm,a0,a1,a2,a3,a4,0,sub⟩ rs= [] from if_neg (show ¬(0:Int)=(m:Int)+1 by omega),hrest m hm];exact (List.append_nil _).symm⟩,rfl⟩
  ·obtain ⟨m,hm2,rfl⟩:∃m:Nat,m < 2∧mux=((m+1:Nat):Int):=by
    rcases hm with rfl | rfl
    ·exact ⟨0,by decide,rfl⟩
    ·exact ⟨1,by decide,rfl⟩
   obtain ⟨q,hq⟩:∃q,q=m:=⟨m,rfl⟩;have hq7:5+q < 7:=by omega
   have hP:=Jgp hq7 st1;have hrk:Jbu (st1 (5+q)):=hok1 _ hq7;have hln:(st1 (5+q)).1.length≤1000000:=by rw [hrest q Om];exact hlen _ hq7
   obtain ⟨sx,hsx⟩:∃sx:PSub,sx=⟨sub.toNat,(rs.getD 0 Jy).code⟩:=⟨_,rfl⟩;have hsb:JbB q ⟨nm,a0,a1,a2,a3,a4,((m+1:Nat):Int),sub⟩ rs= [sx]:=by rw [hsx];exact if_pos (show ((m+1:Nat):Int)=(q:Int)+1 by omega)
   have hso:∀j,j < 2→j≠q→JbB j ⟨nm,a0,a1,a2,a3,a4,((m+1:Nat):Int),sub⟩ rs= []:=fun j hj hne=> if_neg (show ¬((m+1:Nat):Int)=(j:Int)+1 by omega);have hs1:0≤sub:=hs.1;have hs2:sub≤255:=hs.2;have hr0:0 < rs.length:=List.length_pos_iff.2 hr;have hw2: [AV.v (.int .u32 (IntKind.u32.wrap sub)),u32 ((rs.getD 0 Jy).code:Nat)]= [AV.v (.int .u32 ((Ja3 sx).1:Nat)),(Ja3 sx).2]:=by
    rw [hsx];exact congrArg (fun z:Int=> [AV.v (.int .u32 z),u32 ((rs.getD 0 Jy).code:Nat)]) (show IntKind.u32.wrap sub=((sub.toNat:Nat):Int) by rw [Jmo hs1 Om];omega)
   rcases hk:st1 (5+q) with ⟨R,_ | ⟨s,cap,tl⟩⟩
   ·rw [hk] at hP hrk hln;dsimp only at hln;have hv:AVle (JaB (10+(5+q)) (st1 (5+q))) (.os 0 0 (fun _=> .any) none):=(by rw [hk];exact Rf);obtain rfl:R= []:=hrk;refine AW.le (E':=mk 75 [(1,JK rs),(2, .bp (0,s0) 0),(3, .bp (1,s1) 0),(4, .bp (20,nx0) 0)] (⟨B20 s0 s1 nx0 ps dk dn x [strA nm,int a0,int a1,int a2,int a3,int a4,int (m+1:Nat),int sub] (Jcb d x (JbX (5+m) (.os 0 0 (fun _=> .any) none) st1))++([]++JY (5+q) st1), [],nx2,21⟩:Heap)) (JaL (B20 s0 s1 nx0 ps dk dn x [strA nm,int a0,int a1,int a2,int a3,int a4,int (m+1:Nat),int sub] (Ja7 d x st1)++(_++JY (5+q) st1)) _ [] rfl rfl (List.Perm.append_left _ hP.symm) Sf Sf (Jdz (by subst hq;exact Jft hv) Bf) Tt Y4) ?_;obtain ⟨B,hB⟩:∃B:List (Vl.Id×Own),B=B20 s0 s1 nx0 ps dk dn x [strA nm,int a0,int a1,int a2,int a3,int a4,int (m+1:Nat),int sub] (Jcb d x (JbX (5+m) (.os 0 0 (fun _=> .any) none) st1)):=⟨_,rfl⟩;rcases (by omega:m=0∨m=1) with rfl | rfl
    all_goals
     unfold B20;refine Z ?_;refine Jaf 20 B (Ef [18]) (fun _=> false) [0,1,2,3,4,5,6,7,8,9,10,11,12,13,14,15,16,17,19,18] Kr Kr (by subst hB;exact HB.cons rfl (HB.cons rfl (HB.one rfl))) ?_;subst hB;unfold B20;refine Z ?_;refine ⟨Bd,JcT (b:= .rp (Jb9 (rs.getD 0 Jy)).cells) rfl ?_⟩;refine Z ?_;refine ⟨_,Jio (e:=83) (szx:=2) (m:=1) rfl rfl rfl (.inr ⟨_,rfl⟩) Tryz.underlying42 Jwg gc_sub.symm Dc (JG rfl) (by rw [Jwh];omega) Om (fun _=> (HB.cons rfl (HB.cons rfl (HB.one rfl)))),fun r h' hr=> ?_⟩;obtain ⟨ncap,hge,rfl,rfl⟩:=hr;have hro:Jbu ([]++ [Ja3 sx],some (nx2,ncap,List.replicate ((ncap - 1) * 2) .any)):=⟨(by simpa using hge),by rw [List.length_replicate];show ncap * 2≤1 * 2+_;omega⟩;refine Z ?_;exact Jad rfl ⟨.tup [],⟨[((1,s1), .c (Ja7 d x (Jam st1 (5+q) ([]++ [Ja3 sx],some (nx2,ncap,List.replicate ((ncap - 1) * 2) .any))))),((0,s0), .c [int dk,int dn,boolA x,JW ps])]++JaW (Jam st1 (5+q) ([]++ [Ja3 sx],some (nx2,ncap,List.replicate ((ncap - 1) * 2) .any))), [],nx2+1,21⟩,Rf,HLe.trans (JiT (bx:= [((1,s1), .c (Ja7 d x (Jam st1 (5+q) ([]++ [Ja3 sx],some (nx2,ncap,List.replicate ((ncap - 1) * 2) .any))))),((0,s0), .c [int dk,int dn,boolA x,JW ps])]++(JbV (10+(5+q)) ([]++ [Ja3 sx],some (nx2,ncap,List.replicate ((ncap - 1) * 2) .any))++JY (5+q) st1)) _ _ rfl (List.perm_middle (l₁:= [_,_,_])) (.cons _ Sf) rfl (Jqj (by subst hq;exact Jf1 (r:=([]++ [Ja3 sx],some (nx2,ncap,List.replicate ((ncap - 1) * 2) .any))) Dc (Jhh (R:= []))) (JdR (Ji0 (e:=Ja3 sx) gc_sub (by exact hw2)) rfl))) (Jms hq7),rfl,_,_,_,Jmr (R:= []) Om hok1 hdone hrest hk hro hsb hso,rfl⟩
   ·rw [hk] at hP hrk hln;dsimp only at hln;have hv:AVle (JaB (10+(5+q)) (st1 (5+q))) (.hs (30,s) 0 R.length cap):=(by rw [hk];exact AVle.hs_nm rfl);refine AW.le (E':=mk 75 [(1,JK rs),(2, .bp (0,s0) 0),(3, .bp (1,s1) 0),(4, .bp (20,nx0) 0)] (⟨B20 s0 s1 nx0 ps dk dn x [strA nm,int a0,int a1,int a2,int a3,int a4,int (m+1:Nat),int sub] (Jcb d x (JbX (5+m) (.hs (30,s) 0 R.length cap) st1))++([((30,s),Own.c (JM R++tl))]++JY (5+q) st1), [],nx2,21⟩:Heap)) (JaL (B20 s0 s1 nx0 ps dk dn x [strA nm,int a0,int a1,int a2,int a3,int a4,int (m+1:Nat),int sub] (Ja7 d x st1)++(_++JY (5+q) st1)) _ [] rfl rfl (List.Perm.append_left _ hP.symm) Sf Sf (Jdz (by subst hq;exact Jft hv) (show BxLe (((10+(5+q),s),Own.c (JM R++tl))::JY (5+q) st1) _ from JdR (OwnLe.refl _) rfl)) Tt Y4) ?_;obtain ⟨B,hB⟩:∃B:List (Vl.Id×Own),B=B20 s0 s1 nx0 ps dk dn x [strA nm,int a0,int a1,int a2,int a3,int a4,int (m+1:Nat),int sub] (Jcb d x (JbX (5+m) (.hs (30,s) 0 R.length cap) st1)):=⟨_,rfl⟩;rcases (by omega:m=0∨m=1) with rfl | rfl
    all_goals
     unfold B20;refine Z ?_;refine Jaf 20 B (Ef [18]) (fun _=> false) [0,1,2,3,4,5,6,7,8,9,10,11,12,13,14,15,16,17,19,18] Kr Kr (by subst hB;exact HB.cons rfl (HB.cons rfl (HB.one rfl))) ?_;subst hB;unfold B20;refine Z ?_;refine ⟨Bd,JcT (b:= .rp (Jb9 (rs.getD 0 Jy)).cells) rfl ?_⟩;refine Z ?_;refine ⟨_,JjE (e:=83) (szx:=2) (m:=1) (n:=R.length) (cap:=cap) (i:=(30,s)) (cs:=JM R++tl) rfl rfl rfl (.inr ⟨_,rfl⟩) Tryz.underlying42 Jwg gc_sub.symm Dc rfl hrk.1 (by rw [gc_sub,List.length_append,JdI];exact hrk.2) (JG rfl) (by rw [Jwh];omega) Om (HB.cons rfl (HB.cons rfl (HB.one rfl))) (fun _=> (HB.cons rfl (HB.cons rfl (HB.one rfl)))),fun r h' hr=> ?_⟩;rcases hr with ⟨hfit,rfl,rfl⟩ | ⟨ncap,hge,rfl,rfl⟩
     ·have hro:Jbu (R++ [Ja3 sx],some (s,cap,tl.drop 2)):=⟨by rw [List.length_append];exact hfit,by have:=hrk.2;rw [List.length_append,List.length_drop,List.length_singleton];omega⟩;refine Z ?_;exact Jad rfl ⟨.tup [],⟨[((1,s1), .c (Ja7 d x (Jam st1 (5+q) (R++ [Ja3 sx],some (s,cap,tl.drop 2))))),((0,s0), .c [int dk,int dn,boolA x,JW ps])]++JaW (Jam st1 (5+q) (R++ [Ja3 sx],some (s,cap,tl.drop 2))), [],nx2,21⟩,Rf,HLe.trans (JiT (bx:= [((1,s1), .c (Ja7 d x (Jam st1 (5+q) (R++ [Ja3 sx],some (s,cap,tl.drop 2))))),((0,s0), .c [int dk,int dn,boolA x,JW ps])]++(JbV (10+(5+q)) (R++ [Ja3 sx],some (s,cap,tl.drop 2))++JY (5+q) st1)) (B20 s0 s1 nx0 ps dk dn x _ _++(((30,s), .c _)::JY (5+q) st1)) ([((1,s1), .c _),((0,s0), .c [int dk,int dn,boolA x,JW ps])]++(((30,s), .c _)::JY (5+q) st1)) rfl (List.Perm.refl _) (.cons _ Sf) rfl (Jqj (by subst hq;exact Jf1 (r:=(R++ [Ja3 sx],some (s,cap,tl.drop 2))) Dc Jhh) (JdR (Jwi (e:=Ja3 sx) gc_sub (by exact hw2)) rfl))) (Jms hq7),rfl,_,_,_,Jmr (R:=R) Om hok1 hdone hrest hk hro hsb hso,rfl⟩
     ·have hro:Jbu (R++ [Ja3 sx],some (nx2,ncap,List.replicate ((ncap - (R.length+1)) * 2) .any)):=⟨by rw [List.length_append];exact hge,by rw [List.length_append,List.length_replicate,List.length_singleton,← Nat.add_mul];omega⟩;refine Z ?_;exact Jad rfl ⟨.tup [],⟨[((1,s1), .c (Ja7 d x (Jam st1 (5+q) (R++ [Ja3 sx],some (nx2,ncap,List.replicate ((ncap - (R.length+1)) * 2) .any))))),((0,s0), .c [int dk,int dn,boolA x,JW ps])]++JaW (Jam st1 (5+q) (R++ [Ja3 sx],some (nx2,ncap,List.replicate ((ncap - (R.length+1)) * 2) .any))), [],nx2+1,21⟩,Rf,HLe.trans (JiT (bx:= [((1,s1), .c (Ja7 d x (Jam st1 (5+q) (R++ [Ja3 sx],some (nx2,ncap,List.replicate ((ncap - (R.length+1)) * 2) .any))))),((0,s0), .c [int dk,int dn,boolA x,JW ps])]++(JbV (10+(5+q)) (R++ [Ja3 sx],some (nx2,ncap,List.replicate ((ncap - (R.length+1)) * 2) .any))++JY (5+q) st1)) (B20 s0 s1 nx0 ps dk dn x _ _++(((21,nx2), .c _)::((30,s), .c _)::JY (5+q) st1)) ([((1,s1), .c _),((0,s0), .c [int dk,int dn,boolA x,JW ps])]++(((21,nx2), .c _)::JY (5+q) st1)) rfl (List.perm_middle (l₁:= [_,_,_])) (.cons _ (.cons_cons _ (.cons_cons _ (.cons_cons _ (.cons _ Sf))))) rfl (Jqj (by subst hq;exact Jf1 (r:=(R++ [Ja3 sx],some (nx2,ncap,List.replicate ((ncap - (R.length+1)) * 2) .any))) Dc Jhh) (JdR (Jqh (e:=Ja3 sx) gc_sub (by exact hw2)) rfl))) (Jms hq7),rfl,_,_,_,Jmr (R:=R) Om hok1 hdone hrest hk hro hsb hso,rfl⟩
end Go.Proofs.W

namespace Go.Proofs
open Go.Shelf
shelf_lay_g SlLaysN.n44 Slgn 44 at Tryz 96 as Tryz.laysN44
end Go.Proofs
namespace Go.Proofs.W
open Go.Vl Go.Shelf
set_option maxRecDepth 100000
theorem JlB (d:Array Bts):∀m,Lib.compactUpTo d m=cUs d m
 | 0=> rfl
 | m+1=> by
   rw [Lib.compactUpTo_succ,JlB d m,cUs];unfold Lib.keeps;by_cases h:m=0∨d[m]! ≠d[m - 1]!
   ·rw [if_pos h,decide_eq_true h];rfl
   ·rw [if_neg h,decide_eq_false h];simp
theorem Jwk (d0:Array Bts) (tl:List AV) (n:Nat) (hn:d0.size=n) (hsz:n≤1000000) (s cap nx:Nat) (hcap:n≤cap):
 ECall Tryz.prog 96 [.hs (0,s) 0 n cap] ⟨Jc3 s d0 tl, [],nx,1⟩ (fun r h'=> ∃tl' nx' nn',r= .hs (0,s) 0 (cUs d0 n).length cap∧h'=⟨Jc3 s (cUs d0 n).toArray tl', [],nx',nn'⟩):=by
 subst hn
 have hle:=Jpo d0 d0.size
 have h:=JmO (P:=Tryz.prog) (enc:=encStr) (d:=d0) (d':=(cUs d0 d0.size++List.replicate (d0.size - (cUs d0 d0.size).length) []).toArray) (tl:=tl) (vs:= []) (R:= .hs (0,s) 0 (cUs d0 d0.size).length cap) (res:=fun b=> .slice (some ⟨b,0,none⟩) (cUs d0 d0.size).length cap) (nm:=0) (s:=s) (cap:=cap) (nx:=nx) (nn:=1) (f:=96) ⟨_,Tryz.func96,rfl,rfl⟩ (by simp;omega) (fun w X g b hg=> .hs _ _ _ _ b hg) (fun w blk hk hH hb=> by
  have k:=AnyG.slices_Compact_string_arr Tryz.laysN44 blk 0 cap d0 w hH Om hcap;rw [JlB] at k;exact k.mono fun e w' ⟨h1,q,h2⟩=> ⟨h1,q, #[],by rw [h2];unfold Sort.grow;rw [Array.append_empty]⟩)
 refine h.mono fun r h' ⟨h1,h2⟩=> ⟨List.replicate (d0.size - (cUs d0 d0.size).length) (JaI [])++tl,nx,1,h1, ?_⟩
 rw [h2]
 unfold Jc3 Jc1
 simp [JaI]
def Juf (sz:Nat):AV:= .os sz 0 (fun _=> .any) none
theorem Jwl:Tells Tryz.prog 96 [Juf 1] (Juf 1):=by
 refine Jc Tryz.func96 rfl rfl fun nx=> ?_
 refine Z ?_
 exact Jb rfl Rf
theorem JiU (d:Array Bts) (tl:List AV):Jc1 JaI d tl=Jab (fun z=> [JaI z]) d tl:=by
 unfold Jc1 Jab
 rw [List.map_eq_flatMap]
theorem Jqk:∀z:Bts,([JaI z]:List AV).length=1:=fun _=> rfl
theorem c_str:Tryz.prog.cellsOf 9=1:=by kernel_rfl
theorem Jwm:Jbc Tryz.prog 9=true:=by kernel_rfl
theorem Jwn:Tryz.prog.bytesOf 9=16:=by kernel_rfl
theorem JAO {l:List Bts} {x:Bts} {tl:List AV} (h:1≤tl.length):Jaa (Jc1 JaI l.toArray tl) (l.length * Tryz.prog.cellsOf 9) [JaI x]=Jc1 JaI (l++ [x]).toArray (tl.drop 1):=by
 rw [c_str,JiU,JiU];exact JmL Jqk h
theorem JAP {x:Bts} {m:Nat}: [JaI x]++List.replicate (m * Tryz.prog.cellsOf 9) AV.any=Jc1 JaI #[x] (List.replicate m .any):=by
 rw [c_str];simp [Jc1]
theorem JAQ {l:List Bts} {x:Bts} {tl:List AV} {m:Nat}:(Jc1 JaI l.toArray tl).take (l.length * Tryz.prog.cellsOf 9)++ [JaI x]++List.replicate (m * Tryz.prog.cellsOf 9) .any=Jc1 JaI (l++ [x]).toArray (List.replicate m .any):=by
 rw [c_str,JiU,JiU,JmM Jqk,Nat.mul_one];exact JoW
def JA4 (L:List Bts):Option (Nat×Nat×List AV)→AV
 | none=> Juf 1
 | some (s1,cap,_)=> .hs (0,s1) 0 L.length cap
def JA5 (L:List Bts):Option (Nat×Nat×List AV)→List (Vl.Id×Own)
 | none=> []
 | some (s1,_,tl)=> Jc3 s1 L.toArray tl
def JA6 (L:List Bts):Option (Nat×Nat×List AV)→Prop
 | none=> L= []
 | some (_,cap,tl)=> 1≤L.length∧L.length≤cap∧cap≤L.length+tl.length
theorem Jsi {i j:Vl.Id} {L:List Bts} {x:Bts} {cap:Nat} (h:i.2=j.2):AVle (.hs i 0 (L.length+1) cap) (.hs j 0 (L++ [x]).length cap):=by
 rw [List.length_append];exact AVle.hs_nm h
theorem JAR {L:List Bts}:AVle (JF 1 JaI [] L) (Joc (L.map fun z=> ⟨z.toArray⟩)):=by
 unfold JF Joc JF
 rw [List.length_map]
 refine AVle.sl_fun fun k hk=> ?_
 simp [JaI,encStr,strA,List.getD,List.getElem?_map,List.getElem?_eq_getElem hk]
def semiB:ByteArray:=⟨#[59]⟩
theorem Jsj:∀L:List Bts,Lib.join L [59]=JeD 59 L
 | []=> rfl
 | [a]=> by rw [Lib.join_one];rfl
 | a::b::l=> by
   have:=Jsj (b::l);rw [Jb4 (List.cons_ne_nil _ _),← this];simp [Lib.join,List.intercalate,List.intersperse]
theorem Jx8 (L:List Bts):Jd7 (L.map fun z=> ⟨z.toArray⟩) semiB=⟨(JeD 59 L).toArray⟩:=by
 unfold Jd7
 rw [List.map_map,show ((fun x:ByteArray=> x.data.toList)∘fun z:Bts=> (⟨z.toArray⟩:ByteArray))=id from funext fun z=> by simp,List.map_id,show semiB.data.toList= [59] from rfl,Jsj]
theorem JnD:∀(L:List Bts) (N:Nat),(∀a∈L,a.length≤N)→(JeD 59 L).length≤L.length * (N+1)
 | [],N,_=> Nat.zero_le _
 | [a],N,h=> by have:=h a (.head _);show a.length≤_;simp;omega
 | a::b::l,N,h=> by
   have h1:=h a (.head _);have h2:=JnD (b::l) N fun x hx=> h x (.tail _ hx);rw [Jb4 (List.cons_ne_nil _ _),List.length_append,List.length_cons];rw [show (a::b::l).length=(b::l).length+1 from rfl,Nat.succ_mul];omega
def Jfu (cs:List Cnd):ByteArray:=⟨(JgQ cs).toArray⟩
theorem Jug {cs:List Cnd} {i:Nat} (hi:i < cs.length):(cs.take (i+1)).map JP=(cs.take i).map JP++ [JP (cs.getD i cnd0)]:=by
 rw [Ja9 cnd0 hi,List.map_append];rfl
theorem Jsk (cs:List Cnd):Jd7 ((Jcn (cs.map JP)).map fun z=> ⟨z.toArray⟩) semiB=Jfu cs:=Jx8 _
theorem Jx9:strA (Jd7 [] semiB)=strA (Jfu []):=by
 unfold Jfu
 rw [Jka.2 rfl];rfl
theorem Jod {a b:Own} (h:a=b):OwnLe a b:=h ▸ OwnLe.refl a
theorem Jya {bs:List (Nat×Own)} {i:Vl.Id} {n cap:Nat} {l:List Bts} {tl:List AV} (hn:l.length=n) (hm:(i.2, .c (Jc1 JaI l.toArray tl))∈bs) (hcap:n≤cap):Frz bs (.hs i 0 n cap) (JF 1 JaI [] l):=
 Jhy Jqk (fun _=> rfl) hn (by rw [← JiU];exact hm) hcap
theorem Jwo {c:Cnd} (hr:rightC c=true) (hok:c.ok):(JP c).length≤1000:=JiP hr hok
theorem JnE (l:List Bts):(Jcn l).length≤l.length:=by
 have:=Jpo (JfN l).toArray (JfN l).length
 unfold Jcn
 have h2:(JfN l).length=l.length:=Jbw
 omega
theorem JlC {cs:List Cnd} (hr:∀c∈cs,rightC c=true) (hok:∀c∈cs,c.ok) (hl:cs.length≤12):(Jfu cs).size≤12012:=by
 have h1:=JnD (Jcn (cs.map JP)) 1000 fun a ha=> by
  obtain ⟨c,hc,rfl⟩:=List.mem_map.1 (((Jbr _).2 a).1 ha);exact Jwo (hr c hc) (hok c hc)
 have h2:=JnE (cs.map JP)
 rw [List.length_map] at h2
 have h3:(Jcn (cs.map JP)).length * (1000+1)≤12 * (1000+1):=Nat.mul_le_mul_right _ Om
 show (JgQ cs).length≤_
 unfold JgQ
 omega
theorem Jyb (cs:List Cnd) (hr:∀c∈cs,rightC c=true) (hok:∀c∈cs,c.ok) (hl:cs.length≤12):Tells Tryz.prog 45 [JaT cs] (strA (Jfu cs)):=by
 refine Jc Tryz.func45 rfl rfl fun nx=> ?_
 refine Z ?_
 refine Jm (fun y:Nat×List Bts×Option (Nat×Nat×List AV)×Nat=> mk 23 [(3,JA4 y.2.1 y.2.2.1),(6,JaT cs),(7,int cs.length),(8,int y.1)] ⟨JA5 y.2.1 y.2.2.1, [],y.2.2.2,1⟩) (fun y=> y.1≤cs.length∧y.2.1=(cs.take y.1).map JP∧JA6 y.2.1 y.2.2.1) (fun y=> cs.length - y.1) ?_ ?_
 ·exact ⟨(0, [],none,nx),⟨Nat.zero_le _,rfl,rfl⟩,Jh (bx:= []) (pm:= []) [] [] rfl rfl (List.nil_sublist _) Sf Tt Tt ⟨AVle.os_nil,Y3⟩⟩
 ·rintro ⟨i,L,md,nx1⟩ ⟨h1,hL,h2⟩;dsimp only at h1 hL h2;have hLl:L.length=i:=by rw [hL,List.length_map,List.length_take];omega
  refine Z ?_;intro c g;cases c
  ·have g:=Jn g;try dsimp only at g
   have hi:i=cs.length:=by omega
   subst hi;rw [List.take_length] at hL;rcases md with _ | ⟨s1,cap,tl⟩
   ·obtain rfl:L= []:=h2;obtain rfl:cs= []:=List.length_eq_zero_iff.1 (by simpa using hLl.symm);refine Z ?_;refine Ja rfl rfl (Jve _) Y1 fun nx2=> ?_;refine Z ?_;refine Ja rfl rfl Jwl Y1 fun nx3=> ?_;refine Z ?_;refine Ja rfl rfl (JgH [] semiB Dc Dc) ⟨AVle.os_sl0,Y1⟩ fun nx4=> ?_;refine Z ?_;exact Jb rfl (AVle.of_eq Jx9)
   ·obtain ⟨q1,q2,q3⟩:=h2;refine Z ?_;refine JH (xs:= [.hs (0,s1) 0 L.length cap]) [] [] 1 rfl rfl rfl rfl Y1 (Jvd L.toArray tl L.length Si Om s1 cap _) Bf Pf rfl fun r h' hq=> ?_;obtain ⟨nx2,nn2,rfl⟩:=hq;refine Z ?_;refine JH (xs:= [.hs (0,s1) 0 L.length cap]) [] [] 1 rfl rfl rfl rfl Y1 (Jwk (Jan Go.Sort.ltStr L.toArray.toList).toArray tl L.length (by simp [Jbw]) Om s1 cap _ q2) Bf Pf rfl fun r h' hq=> ?_;obtain ⟨tl2,nx3,nn3,rfl,rfl⟩:=hq;refine Z ?_;have hst:∀l:List Bts,(Jan Go.Sort.ltStr l).length=l.length:=fun l=> Jbw;have hcT:cUs (Jan Go.Sort.ltStr L.toArray.toList).toArray L.length=Jcn (cs.map JP):=by
     unfold Jcn JfN;rw [hst,← hL]
    rw [hcT];have hcl:=JnE (cs.map JP);rw [← hL] at hcl;rw [← hL];have hj:Tells Tryz.prog 95 [JF 1 JaI [] (Jcn L),strA semiB] _:=Tells.args (bs:= [Joc ((Jcn L).map fun z=> ⟨z.toArray⟩),strA semiB]) ⟨JAR,Y1⟩ (JgH ((Jcn L).map fun z=> ⟨z.toArray⟩) semiB (by rw [List.length_map];omega) (by rw [hL,Jsk];exact Nat.le_trans (JlC hr hok hl) Dc));refine AOp.of_yields (JqN rfl rfl hj ⟨Jya (i:=(0,s1)) rfl (.head _) Om,Frz.refl _,Tt⟩ (Flat.v _)) ?_;refine Z ?_;exact Jb rfl (Jqc (by rw [hL];exact Jsk cs))
  ·have g:=Jo g;try dsimp only at g
   have hi:i < cs.length:=by omega
   have hm:cs.getD i cnd0∈cs:=by simp [List.getD,hi]
   have ht:=Jnw _ (hr _ hm) (hok _ hm);have hn:=Jug hi;rw [← hL] at hn;rcases md with _ | ⟨s1,cap,tl⟩
   ·obtain rfl:L= []:=h2;refine Z ?_;refine ⟨Bd, ?_⟩;refine JE ?_;refine JI (Ef [0]) 5 ?_;refine Z ?_;refine Ja rfl rfl ht Y1 fun nx2=> ?_;refine Z ?_;refine Jgc (m:=1) rfl rfl (.inr ⟨_,rfl⟩) Tryz.underlying117 Jwm c_str.symm Dc (JG rfl) (by rw [Jwn];omega) Om fun ncap hcap=> ?_;refine Z ?_;exact back (i+1, [JP (cs.getD i cnd0)],some (nx2,ncap,List.replicate (ncap - 1) .any),nx2+1) ⟨hi,hn.symm,⟨Nat.le_refl _,hcap,by simp;omega⟩⟩ Dm (Jh (pm:= []) (bx:=Jc3 nx2 #[JP (cs.getD i cnd0)] (List.replicate (ncap - 1) .any)) [((2,nx2), .c ([JaI (JP (cs.getD i cnd0))]++List.replicate ((ncap - 1) * Tryz.prog.cellsOf 9) .any))] [] rfl rfl (.cons_cons _ (.cons _ .slnil)) .slnil ⟨rfl,Jod (congrArg Own.c JAP),Tt⟩ Tt ⟨AVle.hs_nm rfl,Rf,Rf,Lw,Tt⟩)
   ·obtain ⟨q1,q2,q3⟩:=h2;refine Z ?_;refine ⟨Bd, ?_⟩;refine JE ?_;refine JI (Ef [0]) 5 ?_;refine Z ?_;refine Ja rfl rfl ht Y1 fun nx2=> ?_;refine Z ?_;refine Je7 (m:=1) (szx:=1) (n:=L.length) (cap:=cap) (cs:=Jc1 JaI L.toArray tl) (i:=(0,s1)) rfl rfl (.inr ⟨_,rfl⟩) Tryz.underlying117 Jwm (.inr c_str.symm) (by rfl) q2 (by rw [c_str,JoP];simpa using q3) (JG rfl) (fun _=> by rw [Jwn];omega) (fun _=> by omega) (fun hm=> absurd hm Dc) (fun hm hfit=> ?_) (fun hm hfit ncap hcap=> ?_)
    ·refine Z ?_
     (conv=> whnf)
     exact back (i+1,L++ [JP (cs.getD i cnd0)],some (s1,cap,tl.drop 1),nx2) ⟨hi,hn.symm,⟨by simp,by simpa using hfit,by simp;omega⟩⟩ Dm (Jh (pm:= []) (bx:=Jc3 s1 (L++ [JP (cs.getD i cnd0)]).toArray (tl.drop 1)) [((0,s1), .c (Jaa (Jc1 JaI L.toArray tl) (L.length * Tryz.prog.cellsOf 9) [JaI (JP (cs.getD i cnd0))]))] [] rfl rfl (.cons _ (.cons_cons _ .slnil)) .slnil ⟨rfl,Jod (congrArg Own.c (JAO (by have:=hfit;omega))),Tt⟩ Tt ⟨Jsi rfl,Rf,Rf,Lw,Tt⟩)
    ·refine Z ?_
     (conv=> whnf)
     exact back (i+1,L++ [JP (cs.getD i cnd0)],some (nx2,ncap,List.replicate (ncap - (L.length+1)) .any),nx2+1) ⟨hi,hn.symm,⟨by simp,by simpa using hcap,by simp;omega⟩⟩ Dm (Jh (pm:= []) (bx:=Jc3 nx2 (L++ [JP (cs.getD i cnd0)]).toArray (List.replicate (ncap - (L.length+1)) .any)) [((2,nx2), .c ((Jc1 JaI L.toArray tl).take (L.length * Tryz.prog.cellsOf 9)++ [JaI (JP (cs.getD i cnd0))]++List.replicate ((ncap - (L.length+1)) * Tryz.prog.cellsOf 9) .any))] [] rfl rfl (.cons_cons _ (.cons _ (.cons _ .slnil))) .slnil ⟨rfl,Jod (congrArg Own.c JAQ),Tt⟩ Tt ⟨Jsi rfl,Rf,Rf,Lw,Tt⟩)
end Go.Proofs.W

namespace Go.Proofs.W
open Go.Vl
set_option maxRecDepth 100000
def esV (N:List ByteArray):List (Value×AV):=N.map fun s=> (.string s, .v (.bool true))
def inV (N:List ByteArray) (s:ByteArray):Bool:=N.any fun t=> kS s t
theorem Jmt (N:List ByteArray):Ja4 .string (esV N)=true:=by simp [Ja4,esV,JaO]
theorem Jql (s:ByteArray):∀N:List ByteArray,JaV (.string s) (esV N)=if inV N s then some (.v (.bool true)) else none
 | []=> rfl
 | t::N=> by
   have ih:=Jql s N;show (bif s.toList ==t.toList then _ else JaV (.string s) (esV N))=_;rw [ih];unfold inV;rw [List.any_cons];unfold kS;cases s.toList ==t.toList <;> rfl
theorem Jsl (s:ByteArray):∀N:List ByteArray,inV N s=false→JcJ (.string s) (.v (.bool true)) (esV N)=esV (N++ [s])
 | [],_=> rfl
 | t::N,h=> by
   unfold inV at h;rw [List.any_cons,Bool.or_eq_false_iff] at h;show (bif s.toList ==t.toList then _ else (_:Value×AV)::JcJ _ _ (esV N))=_;unfold kS at h;rw [h.1,cond_false,Jsl s N h.2];rfl
theorem Jsm {s:ByteArray} {N:List ByteArray}:Jeu (JaV (.string s) (esV N)) (.v (.bool false)) false= .v (.bool (inV N s)):=by
 rw [Jql];cases inV N s <;> rfl
def Je1 (r:Rul):List AV:= [strA r.name,int r.act.1,int r.act.2,JaT r.conds]
theorem Juh (c:Cnd) (hok:c.ok):Tells Tryz.prog 44 [Jt c] (boolA (Jdw c)):=by
 obtain ⟨arg,op,mask,value⟩:=c
 refine Jc Tryz.func44 rfl rfl fun nx=> ?_
 refine Z ?_
 intro c t1;cases c
 ·refine Z ?_;refine Jb rfl (Jp ?_);have:¬op=7:=fun e=> by subst e;cases t1
  unfold Jdw;rw [decide_eq_false this];rfl
 ·have h7:op=7:=by simpa using t1.symm
  refine Z ?_;intro c hc;have e:Jdw ⟨arg,op,mask,value⟩=c:=by
   unfold Jdw;rw [decide_eq_true h7,Bool.true_and,hc];dsimp only;rw [JkN hok.2 hok.1];by_cases h0:JgP value mask=0
   ·rw [h0];rfl
   ·rw [decide_eq_true h0];exact (bne_iff_ne.2 (fun e=> h0 (Int.ofNat.inj e))).symm
  rw [e];cases c
  ·refine Z ?_;exact Jb rfl Rf
  ·refine Z ?_;exact Jb rfl Rf
theorem Jwp (r:Rul) (hok:∀c∈r.conds,c.ok) (hl:r.conds.length≤1000000000):Tells Tryz.prog 42 [.rp (Je1 r)] (boolA (!(r.conds.any Jdw))):=by
 have hc:=Jpa r.conds Jdw 44 hl fun i hi=> Juh _ (hok _ (by simp [List.getD,hi]))
 generalize r.conds.any Jdw=b at hc⊢
 refine Jc Tryz.func42 rfl rfl fun nx=> ?_
 refine Z ?_
 refine Ja rfl rfl hc Y2 fun nx2=> ?_
 cases b
 ·refine Z ?_;exact Jb rfl Rf
 ·refine Z ?_;exact Jb rfl Rf
theorem Jwq (l:List TRow) (r:Rul) (hl:l.length≤1000000) (hs:JhG l r.name):Tells Tryz.prog 41 [.rp [trows l], .rp (Je1 r)] (boolA (Jap l r.name)):=by
 have hf:=Jgf l r.name hl hs
 unfold JkT at hf
 refine Jc Tryz.func41 rfl rfl fun nx=> ?_
 cases hb:Jap l r.name with
 | true=>
   rw [hb,if_pos rfl] at hf;refine Z ?_;refine Ja rfl rfl hf Y2 fun nx2=> ?_;refine Z ?_;exact Jb rfl Rf
 | false=>
   rw [hb,if_neg Dc] at hf;refine Z ?_;refine Ja rfl rfl hf Y2 fun nx2=> ?_;refine Z ?_;exact Jb rfl Rf
def colB:ByteArray:=⟨#[58]⟩
def Jgq (N:List ByteArray) (s own:ByteArray):Bool:= !inV N (s++colB)&& !inV N own
theorem Jwr (N:List ByteArray) (r:Rul) (own:ByteArray) (hs:r.name.size≤1000000) (s nx:Nat):
 ECall Tryz.prog 46 [.rp [.om (0,s)], .rp (Je1 r), .rp [strA own]] ⟨[((0,s), .mp (esV N))], [],nx,1⟩ fun b h'=> ∃nx' nn',b=boolA (Jgq N r.name own)∧h'=⟨[((0,s), .mp (esV N))], [],nx',nn'⟩:=by
 refine ECall.wk (JB Tryz.func46 rfl rfl ?_)
 refine Jby ?_
 refine ⟨by have h2:(⟨#[58]⟩:ByteArray).size=1:=rfl;rw [h2];omega, ?_⟩
 refine Jby ?_
 refine ⟨⟨rfl,Jmt _⟩,Ji (b:= .v (.bool (inV N (r.name++colB)))) Jsm ?_⟩
 unfold Jgq
 cases h1:inV N (r.name++colB)
 ·refine Jby ?_;refine ⟨⟨rfl,Jmt _⟩,Ji (b:= .v (.bool (inV N own))) Jsm ?_⟩;cases h2:inV N own
  ·refine Z ?_;exact Jad rfl ⟨_,_,Rf,HLe.refl _,_,_,rfl,rfl⟩
  ·refine Z ?_;exact Jad rfl ⟨_,_,Rf,HLe.refl _,_,_,rfl,rfl⟩
 ·refine Z ?_;exact Jad rfl ⟨_,_,Rf,HLe.refl _,_,_,rfl,rfl⟩
def JdA (r:Rul):ByteArray:=r.name++colB++Jfu r.conds
theorem JnF (r:Rul):(JdA r).data.toList=JhI r:=by
 unfold JdA JhI Jfu JhH
 rw [Jgn,Jgn,show colB.data.toList= [58] from rfl]
 simp
theorem Jsn {N:List ByteArray} {s:ByteArray}:inV N s=true↔s.data.toList∈N.map (fun t=> t.data.toList):=by
 unfold inV
 rw [List.any_eq_true,List.mem_map]
 exact ⟨fun ⟨t,h1,h2⟩=> ⟨t,h1,by rw [JaG.1 h2]⟩,fun ⟨t,h1,h2⟩=> ⟨t,h1,JaG.2 (Jgz h2.symm)⟩⟩
def Jbh (rs:List Rul) (i:Nat):List ByteArray:=(rs.take i).map JdA
theorem Jui (rs:List Rul) (i:Nat):(Jbh rs i).map (fun t=> t.data.toList)=Jk1 rs i:=by
 unfold Jbh Jk1
 rw [List.map_map]
 exact List.map_congr_left fun r _=> JnF r
theorem Jqm {rs:List Rul} (h:∀r∈rs,Jai r=true) {i:Nat} {r:Rul} (hr:Jai r=true):Jgq (Jbh rs i) r.name (JdA r)= !(rs.take i).any (JeE r):=by
 unfold Jgq
 rw [← Bool.not_or]
 congr 1
 rw [Bool.eq_iff_iff,Bool.or_eq_true,Jsn,Jsn,Jui,JnF,Jgn,show colB.data.toList= [58] from rfl]
 exact Jvk h hr
theorem Jws {rs:List Rul} {i:Nat} (hi:i < rs.length):Jbh rs (i+1)=Jbh rs i++ [JdA (rs.getD i Jg)]:=by
 unfold Jbh
 rw [Ja9 Jg hi,List.map_append];rfl
def JA7 (l:List TRow) (r:Rul) (s:Nat):List AV:= [.ag [.fn (.func 41) [] [.rp [trows l], .rp (Je1 r)],int 14], .ag [.fn (.func 42) [] [.rp (Je1 r)],int 16], .ag [.fn (.func 46) [] [.rp [.om (0,s)], .rp (Je1 r), .rp [strA (JdA r)]],int 15]]
theorem Jwt {rs:List Rul} {i:Nat} {r:Rul} (h:Jgq (Jbh rs i) r.name (JdA r)=true):inV (Jbh rs i) (JdA r)=false:=by
 unfold Jgq at h
 simp only [Bool.and_eq_true,Bool.not_eq_true'] at h
 exact h.2
theorem Jhi {a b c d:Int} (h:(a,b)=(c,d)):AVle (.tup [int a,int b]) (.tup [int c,int d]):=by
 cases h;exact Rf
theorem JAm:JgZ Tryz.prog 9=some [strA ⟨#[]⟩]:=by kernel_rfl
theorem AVle.om_nm {i j:Vl.Id} (h:i.2=j.2):AVle (.om i) (.om j):=fun w X g u hr=> by
 cases hr with
 | om _ b hg=> exact .om _ b (h ▸ hg)
theorem AVle.rps {cs ds:List AV} (h:LeL cs ds):AVle (.rp cs) (.rp ds):=fun w X g u hr=> by
 obtain ⟨hl,h⟩:=h.get
 cases hr with
 | rp _ b off vs hn hcell hr=>
   refine .rp _ b off vs (by rw [hn,hl]) hcell fun k d u hd hu=> ?_;have hlt:k < cs.length:=by rw [hl];exact (List.getElem?_eq_some_iff.1 hd).1
   exact h k _ d (List.getElem?_eq_getElem hlt) hd _ _ _ _ (hr k _ u (List.getElem?_eq_getElem hlt) hu)
theorem Jzv {rs:List Rul} {i:Nat} (h:i < rs.length):rs.getD i Jg∈rs:=by simp [List.getD,h]
theorem Jqn (p:Pol) (l:List TRow) (hp:p.ok) (hp2:∀r∈p.rules,r.conds.length≤12∧r.name.size≤1000000) (hl:l.length≤1000000) (hn:∀r∈l,r.name.size≤maxLen):Tells Tryz.prog 13 [polA p,trows l] (.tup [int (JT p l).1,int (JT p l).2]):=by
 have hR:=Jfb p hp
 have hT:=JnX l hl hn
 cases hb:Jaq p with
 | false=>
   rw [hb] at hR;obtain ⟨⟨k,n⟩,x,rs⟩:=p;refine Jc Tryz.func13 rfl rfl fun nx=> ?_;refine Z ?_;refine Ja rfl rfl hR Y1 fun nx2=> ?_;refine Z ?_;exact Jb rfl (Jhi (by unfold JT;rw [if_pos hb]))
 | true=>
 rw [hb] at hR
 by_cases ht:(JbO l).2=0
 rotate_left
 ·obtain ⟨⟨k,n⟩,x,rs⟩:=p;refine Jc Tryz.func13 rfl rfl fun nx=> ?_;refine Z ?_;refine Ja rfl rfl hR Y1 fun nx2=> ?_;refine Z ?_;refine Ja rfl rfl hT Y1 fun nx3=> ?_;refine Z ?_;intro c hc;obtain rfl:c=true:=hc.trans (bne_iff_ne.2 ht);refine Z ?_;exact Jb rfl (Jhi (by unfold JT;rw [if_neg (by rw [hb];decide),if_pos ht]))
 ·have hs:=JfM ht;have hrr:=(Jk3.1 hb).2.2;have hok:=hp.2;have hlen:p.rules.length≤500:=(Jk3.1 hb).2.1;have hat:∀i v,i < p.rules.length→(∀j,j < i→JbQ l p.rules j=0)→JbQ l p.rules i=v→v≠0→((i:Int),v)=JT p l:=fun i v h1 h2 h3 h4=> (Jvm hb ht h1 h2 h3 h4).symm;have hnone:(∀j,j < p.rules.length→JbQ l p.rules j=0)→((0:Int),(0:Int))=JT p l:=fun h=> (Jvl (Jac.2 ⟨hb,ht,h⟩)).symm;generalize hV:JT p l=V at hat hnone⊢;obtain ⟨V1,V2⟩:=V;obtain ⟨⟨k,n⟩,x,rs⟩:=p;dsimp only at hok hrr hat hnone hlen hp2;rw [ht] at hT;refine Jc Tryz.func13 rfl rfl fun nx=> ?_;refine Z ?_;refine Ja rfl rfl hR Y1 fun nx2=> ?_;refine Z ?_;refine Ja rfl rfl hT Y1 fun nx3=> ?_
  (refine JE ?_;refine JZ ?_;refine JE ?_;refine JZ ?_;refine JE ?_)
  refine JaX (n:=69) (nx:=nx3+2) (nn:=4) (pm:= []) (bx:= [((2,nx3), .mp [])]) (L:= [(2, .rp [int k,int n,boolA x,JW rs]),(3, .rp [trows l]),(8, .rp [.om (2,nx3)])]) (df:=some []) [((3,nx3+1), .c [.om (2,nx3)]),((1,nx+1), .c [trows l]),((0,nx), .c [int k,int n,boolA x,JW rs])] rfl rfl rfl (.cons _ ((List.perm_append_comm (l₁:= [((2,nx3),Own.mp [])]) (l₂:= [((1,nx+1), .c [trows l]),((0,nx), .c [int k,int n,boolA x,JW rs])])))) Sf ⟨Frz.bp (.tail _ (.tail _ (.head _))) rfl,Frz.bp (.tail _ (.head _)) rfl,Frz.bp (.head _) rfl,Tt⟩ ?_;refine Z ?_;refine Jm (fun y:Nat×Nat=> mk 69 [(3, .rp [trows l]),(8, .rp [.om (0,nx3)]),(29,JW rs),(30,int rs.length),(31,int y.1)] ⟨[((0,nx3), .mp (esV (Jbh rs y.1)))], [],y.2,1⟩) (fun y=> y.1≤rs.length∧∀j,j < y.1→JbQ l rs j=0) (fun y=> rs.length - y.1) ?_ ?_
  ·exact ⟨(0,nx3+2),⟨Nat.zero_le _,fun j h=> absurd h (Nat.not_lt_zero _)⟩,Jh (pm:= []) (bx:= [((0,nx3), .mp (esV (Jbh rs 0)))]) [((2,nx3), .mp [])] [] rfl rfl Sf .slnil ⟨rfl,OwnLe.refl _,Tt⟩ Tt ⟨Rf,W.AVle.rps ⟨W.AVle.om_nm rfl,Tt⟩,Y3⟩⟩
  ·rintro ⟨i,nx4⟩ ⟨h1,h2⟩;dsimp only at h1 h2;refine Z ?_;intro c g;cases c
   ·have g:=Jn g;try dsimp only at g
    obtain rfl:i=rs.length:=(by omega);refine Z ?_;exact Jb rfl (Jhi (hnone h2))
   ·have g:=Jo g;try dsimp only at g
    have hi:i < rs.length:=(by omega);have hm:rs.getD i Jg∈rs:=Jzv hi;have hri:=hrr _ hm;have hoki:=hok _ hm;have hsi:=hp2 _ hm;have hk:=Jyb (rs.getD i Jg).conds (JdM hri) hoki.2.2 hsi.1;have ha1:=Jwq l (rs.getD i Jg) hl (Jfa hs _);have ha2:=Jwp (rs.getD i Jg) hoki.2.2 Om;have ha3:=Jwr (Jbh rs i) (rs.getD i Jg) (JdA (rs.getD i Jg)) hsi.2 nx3;rw [Jqm hrr hri] at ha3;have hv:= @JyW l rs i;have hks:(Jfu (rs.getD i Jg).conds).size≤12012:=JlC (JdM hri) hoki.2.2 hsi.1;refine Z ?_;refine ⟨Bd, ?_⟩;refine JE ?_;refine JaX (n:=69) (nx:=nx4+1) (nn:=2) (pm:= []) (bx:= [((0,nx3), .mp (esV (Jbh rs i)))]) (L:= [(3, .rp [trows l]),(8, .rp [.om (0,nx3)]),(9,int i),(10, .rp (Je1 (rs.getD i Jg))),(29,JW rs),(30,int rs.length),(31,int i)]) (df:=some []) [((1,nx4), .c (Je1 (rs.getD i Jg)))] rfl rfl rfl (List.Perm.refl _) Sf ⟨Frz.refl _,Frz.refl _,Frz.refl _,Frz.bp (.head _) rfl,Frz.refl _,Frz.refl _,Frz.refl _,Tt⟩ ?_;refine Z ?_;refine Jaf 8 [] (Ef [7]) (Ef [5]) [0,1,2,3,4,5,6,7] Kr Kr (fun _ _ _ h=> by cases h) ?_;refine Z ?_;refine ⟨by have h2:(⟨#[58]⟩:ByteArray).size=1:=rfl;rw [h2];omega, ?_⟩;refine Z ?_;refine ⟨_,Jao rfl rfl rfl hk Y1 (NoId.v _), ?_⟩;refine Z ?_;refine ⟨by rw [ByteArray.size_append];have h2:(⟨#[58]⟩:ByteArray).size=1:=rfl;rw [h2];omega,JgF (b:=strA (JdA (rs.getD i Jg))) rfl ?_⟩;refine Z ?_;refine ⟨_,JcS rfl rfl JAm (fun _ _ _ h=> by cases h),fun r' h' hr=> ?_⟩;obtain ⟨rfl,rfl⟩:=hr;refine JE ?_;refine JaX (n:=69) (nx:=nx4+2) (nn:=2) (pm:= []) (bx:= [((0,nx3), .mp (esV (Jbh rs i)))]) (L:= [(3, .rp [trows l]),(8, .rp [.om (0,nx3)]),(9,int i),(10, .rp (Je1 (rs.getD i Jg))),(11, .fn (.func 41) [] [.rp [trows l], .rp (Je1 (rs.getD i Jg))]),(12, .fn (.func 42) [] [.rp (Je1 (rs.getD i Jg))]),(13, .rp [strA (JdA (rs.getD i Jg))]),(29,JW rs),(30,int rs.length),(31,int i)]) (df:=some []) [((2,nx4+1), .c [strA (JdA (rs.getD i Jg))])] rfl rfl rfl (List.Perm.refl _) Sf ⟨Frz.refl _,Frz.refl _,Frz.refl _,Frz.refl _,Frz.refl _,Frz.refl _,Frz.bp (.head _) rfl,Frz.refl _,Frz.refl _,Frz.refl _,Tt⟩ ?_;refine Z ?_;refine Jm (fun y:Nat×Nat=> mk 69 [(3, .rp [trows l]),(8, .rp [.om (0,nx3)]),(9,int i),(13, .rp [strA (JdA (rs.getD i Jg))]),(29,JW rs),(30,int rs.length),(31,int i),(52, .sl 2 3 (Jco (JA7 l (rs.getD i Jg) nx3))),(53,int 3),(54,int y.1)] ⟨[((0,nx3), .mp (esV (Jbh rs i)))], [],y.2,1⟩) (fun y=> y.1≤3∧(1≤y.1→Jap l (rs.getD i Jg).name=true)∧(2≤y.1→(rs.getD i Jg).conds.any Jdw=false)∧(3≤y.1→(rs.take i).any (JeE (rs.getD i Jg))=false)) (fun y=> 3 - y.1) ?_ ?_
    ·refine ⟨(0,nx4+2),⟨Nat.zero_le _,fun h=> absurd h (Nat.not_succ_le_zero _),fun h=> absurd h (Nat.not_succ_le_zero _),fun h=> absurd h (Nat.not_succ_le_zero _)⟩, ?_⟩;exact Jh (pm:= []) (bx:= [((0,nx3), .mp (esV (Jbh rs i)))]) [((0,nx3), .mp (esV (Jbh rs i)))] [] rfl rfl Sf .slnil Bf Tt ⟨Rf,Rf,Rf,Rf,Rf,Rf,Rf,JlS ⟨⟨⟨trivial,rfl⟩,rfl⟩,rfl⟩,Y2⟩
    ·rintro ⟨j,nx5⟩ ⟨k0,k1,k2,k3⟩;dsimp only at k0 k1 k2 k3;rcases j with _ | _ | _ | _ | j
     ·refine Z ?_;refine ⟨⟨by show (0:Int)≤0;decide,by show (0:Int) < 3;decide⟩, ?_⟩;refine Z ?_;refine Ja rfl rfl ha1 Y2 fun nx6=> ?_;cases hf:Jap l (rs.getD i Jg).name
      ·refine Z ?_
       (refine JL 4 Kr Kr Kr ?_)
       refine Z ?_;exact Jb rfl (Jhi (hat i 14 hi h2 (if_pos hf) Dc))
      ·refine Z ?_;exact back (1,nx6) ⟨by show 1≤3;decide,fun _=> rfl,fun h=> absurd h (by show ¬2≤1;decide),fun h=> absurd h (by show ¬3≤1;decide)⟩ (by show 3 - 1 < 3 - 0;decide) (Jh (pm:= []) (bx:= [((0,nx3), .mp (esV (Jbh rs i)))]) [((0,nx3), .mp (esV (Jbh rs i)))] [] rfl rfl (.cons _ Sf) .slnil Bf Tt Y10)
     ·have q1:=k1 (Nat.le_refl _);refine Z ?_;refine ⟨⟨by show (0:Int)≤1;decide,by show (1:Int) < 3;decide⟩, ?_⟩;refine Z ?_;refine Ja rfl rfl ha2 Y1 fun nx6=> ?_;cases hf:(rs.getD i Jg).conds.any Jdw
      ·refine Z ?_;exact back (2,nx6) ⟨by show 2≤3;decide,fun _=> q1,fun _=> rfl,fun h=> absurd h (by show ¬3≤2;decide)⟩ (by show 3 - 2 < 3 - 1;decide) (Jh (pm:= []) (bx:= [((0,nx3), .mp (esV (Jbh rs i)))]) [((0,nx3), .mp (esV (Jbh rs i)))] [] rfl rfl (.cons _ Sf) .slnil Bf Tt Y10)
      ·refine Z ?_
       (refine JL 4 Kr Kr Kr ?_)
       refine Z ?_;exact Jb rfl (Jhi (hat i 16 hi h2 (by unfold JbQ;rw [if_neg (by rw [q1];decide),if_pos hf]) Dc))
     ·have q1:=k1 Dc;have q2:=k2 (Nat.le_refl _);refine Z ?_;refine ⟨⟨by show (0:Int)≤2;decide,by show (2:Int) < 3;decide⟩, ?_⟩;refine Z ?_;refine JH (xs:= [.rp [.om (0,nx3)], .rp (Je1 (rs.getD i Jg)), .rp [strA (JdA (rs.getD i Jg))]]) [((1,nx5), .c [.fn (.func 46) [] [.rp [.om (0,nx3)], .rp (Je1 (rs.getD i Jg)), .rp [strA (JdA (rs.getD i Jg))]],int 15])] [] 2 rfl rfl rfl rfl Y3 (ha3 (nx5+1)) Bf Pf rfl fun r h' hq=> ?_;obtain ⟨nx6,nn6,rfl,rfl⟩:=hq;cases hf:(rs.take i).any (JeE (rs.getD i Jg))
      ·refine Z ?_;exact back (3,nx6) ⟨by show 3≤3;decide,fun _=> q1,fun _=> q2,fun _=> rfl⟩ (by show 3 - 3 < 3 - 2;decide) (Jh (pm:= []) (bx:= [((0,nx3), .mp (esV (Jbh rs i)))]) [((0,nx3), .mp (esV (Jbh rs i)))] [] rfl rfl (.cons _ Sf) .slnil Bf Tt Y10)
      ·refine Z ?_
       (refine JL 4 Kr Kr Kr ?_)
       refine Z ?_;exact Jb rfl (Jhi (hat i 15 hi h2 (by unfold JbQ;rw [if_neg (by rw [q1];decide),if_neg (by rw [q2];decide),if_pos hf]) Dc))
     ·have q1:=k1 Dc;have q2:=k2 Dc;have q3:=k3 (Nat.le_refl _);have q4:Jgq (Jbh rs i) (rs.getD i Jg).name (JdA (rs.getD i Jg))=true:=(by rw [Jqm hrr hri,q3];rfl);have q5:=Jsl _ _ (Jwt q4);rw [← Jws hi] at q5;refine Jby ?_;refine ⟨⟨rfl,Jmt _⟩, ?_⟩;refine Jby ?_;refine Jex ?_;refine Z ?_;exact back (i+1,nx5) ⟨hi,fun m hm2=> by
       rcases Nat.lt_or_ge m i with q | q
       ·exact h2 m q
       ·rw [show m=i by omega];exact hv.2 ⟨q1,q2,q3⟩⟩ Dm (Jh (pm:= []) (bx:= [((0,nx3), .mp (esV (Jbh rs (i+1))))]) [((0,nx3), .mp (JcJ (.string (JdA (rs.getD i Jg))) (.v (.bool true)) (esV (Jbh rs i))))] [] rfl rfl Sf .slnil ⟨rfl,Jod (congrArg Own.mp q5),Tt⟩ Tt ⟨Rf,Rf,Rf,Rf,Lw,Tt⟩)
     ·exact absurd k0 Om
def LpI (p:Pol) (l:List TRow) (i:Nat) (st:Nat→JS):Prop:=i≤(Je p).rules.length∧(∀j,j < 7→Jbu (st j))∧∃gs,Jv (Je p).rules=gs++Jv ((Je p).rules.drop i)∧(∀k,k < 5→(st k).1=(Jbg (Je p) l gs k).map Jdh)∧∀m,m < 2→(st (5+m)).1=(Jb7 l gs m).map Ja3
theorem JAS (p:Pol) (l:List TRow):LpI p l 0 fun _=> ([],none):=⟨Nat.zero_le _,fun _ _=> rfl, [],rfl,fun _ _=> rfl,fun _ _=> rfl⟩
theorem JlD:∀l:List Rul,(Jv l).length≤l.length
 | []=> Nat.le_refl _
 | r::l=> by
   have ih:=JlD l;show (Jji r (Jv l)).length≤l.length+1;cases hg:Jv l with
   | nil=> show 1≤_;omega
   | cons g t=>
     rw [hg] at ih;obtain ⟨s,L⟩:=g;show (if kS s r.name then (s,r::L)::t else (r.name, [r])::(s,L)::t).length≤_;rw [List.length_cons] at ih;split <;> simp only [List.length_cons] <;> omega
theorem Juj {a d:Nat} {x:Bool} {row:TRow} {rs:List PRul}:(JaH a d x row rs).length≤1:=by
 unfold JaH;split <;> simp
theorem Juk {m:Nat} {row:TRow} {rs:List PRul}:(JbB m row rs).length≤1:=by
 unfold JbB;split <;> simp
theorem Jkm {α β:Type} {f:α→List β} (h:∀x,(f x).length≤1):∀l:List α,(l.flatMap f).length≤l.length
 | []=> Nat.le_refl _
 | x::l=> by
   rw [List.flatMap_cons,List.length_append,List.length_cons];have:=h x;have:=Jkm h l;omega
theorem Jso {p:Pol} {l:List TRow} {i:Nat} {st:Nat→JS} (hr:(Je p).rules.length≤500) (h:LpI p l i st):∀j,j < 7→(st j).1.length≤1000000:=fun j hj=> by
 obtain ⟨_,_,gs,h1,h2,h3⟩:=h
 have hg:=JlD (Je p).rules
 rw [h1,List.length_append] at hg
 rcases Nat.lt_or_ge j 5 with h5 | h5
 ·rw [h2 j h5,List.length_map];have:=Jkm (f:=fun g:ByteArray×List Rul=> JaH j (JJ (Je p).dflt) (Je p).x32 (Jak l g.1) (g.2.map JA)) (fun _=> Juj) gs;unfold Jbg;omega
 ·obtain ⟨m,rfl⟩:∃m,j=5+m:=⟨j - 5,Om⟩;rw [h3 m Om,List.length_map];have:=Jkm (f:=fun g:ByteArray×List Rul=> JbB m (Jak l g.1) (g.2.map JA)) (fun _=> Juk) gs;unfold Jb7;omega
theorem Jzw {l:List TRow} {s:ByteArray} (ht:(JbO l).2=0) (h:JpL l s):(∀k,(Jak l s).num k < 1073741824)∧((Jak l s).mux=0∨(Jak l s).mux=1∨(Jak l s).mux=2)∧0≤(Jak l s).sub∧(Jak l s).sub≤255:=by
 obtain ⟨i,hi,h1,_⟩:=h
 rw [h1]
 exact ⟨fun k=> (JcU ht hi).1,Jda ht hi⟩
theorem JnG (s:ByteArray) (l:List Rul):(JbT s l).length≤l.length:=List.Sublist.length_le (List.takeWhile_sublist _)
theorem Jyc (s:ByteArray) (l:List Rul):l=JbT s l++l.drop (JbT s l).length:=by
 induction l with
 | nil=> rfl
 | cons r l ih=>
   unfold JbT at ih⊢;rw [List.takeWhile_cons];by_cases h:kS r.name s=true
   ·rw [if_pos h,List.length_cons,List.drop_succ_cons,List.cons_append,← ih]
   ·rw [if_neg h];rfl
theorem Jwu {l:List Rul} {i:Nat} (hi:i < l.length):JbT (l.getD i Jg).name (l.drop i)≠ []:=by
 rw [List.drop_eq_getElem_cons hi,show l.getD i Jg=l[i] by simp [List.getD,hi]]
 unfold JbT
 rw [List.takeWhile_cons,if_pos (JaG.2 rfl)]
 exact List.cons_ne_nil _ _
theorem Jyd {p:Pol} {l:List TRow} {i:Nat} {st st':Nat→JS} (hi:i < (Je p).rules.length) {s:ByteArray} {L:List Rul} (hs:s=((Je p).rules.getD i Jg).name) (hL:L=JbT s ((Je p).rules.drop i)) (h:LpI p l i st) (hq:Jud (JJ (Je p).dflt) (Je p).x32 (Jak l s) (L.map JA) st st'):LpI p l (i+L.length) st':=by
 obtain ⟨h0,h1,gs,h2,h3,h4⟩:=h
 have hne:L≠ []:=by rw [hL,hs];exact Jwu hi
 have hd:=Jyc s ((Je p).rules.drop i)
 have he:=JxG s ((Je p).rules.drop i)
 have ha:=Jnd s ((Je p).rules.drop i)
 have hl:=JnG s ((Je p).rules.drop i)
 rw [← hL] at hd he ha hl
 rw [List.drop_drop] at hd he
 rw [List.length_drop] at hl
 have hgr:=Jlj he hne ha
 rw [← hd] at hgr
 refine ⟨Om,hq.1,gs++ [(s,L)],by rw [h2,hgr,List.append_assoc];rfl,fun k hk=> ?_,fun m hm=> ?_⟩
 ·rw [hq.2.1 k hk,h3 k hk,JtC,List.map_append]
 ·rw [hq.2.2 m hm,h4 m hm,JtD,List.map_append]
theorem Jwv {p:Pol} (hp:p.ok) (hr:Jaq p=true) {s:ByteArray} {i:Nat}:∀r∈(JbT s ((Je p).rules.drop i)).map JA,r.conds.length≤1000000∧∀c∈r.conds,c.ok:=fun q hq=> by
 obtain ⟨r,hr1,rfl⟩:=List.mem_map.1 hq
 have hm:r∈(Je p).rules:=List.mem_of_mem_drop ((List.takeWhile_sublist _).subset hr1)
 obtain ⟨r0,h0,h1⟩:=JeY hm
 have:=(Jbt hr).2 r0 h0
 have:=(Jbp h1).1
 exact ⟨by show r.conds.length≤_;omega,(Jd1 h1).2.2 (hp.2 r0 h0).2.2⟩
theorem Jzx {p:Pol} {l:List TRow} {st:Nat→JS} (h:LpI p l (Je p).rules.length st):(∀j,j < 7→Jbu (st j))∧(∀k,k < 5→(st k).1=(Jbg (Je p) l (Jv (Je p).rules) k).map Jdh)∧∀m,m < 2→(st (5+m)).1=(Jb7 l (Jv (Je p).rules) m).map Ja3:=by
 obtain ⟨h0,h1,gs,h2,h3,h4⟩:=h
 rw [List.drop_length] at h2
 obtain rfl:Jv (Je p).rules=gs:=by rw [h2];exact List.append_nil _
 exact ⟨h1,h3,h4⟩
def LpS (k:Nat) (st st':Nat→JS):Prop:=k≤7∧(∀j,j < 7→Jbu (st' j))∧(∀j,j < 7→(st' j).1.Perm (st j).1)∧∀j,j < k→(st' j).1.Pairwise fun a b=> a.1≤b.1
theorem JAT {st:Nat→JS} (h:∀j,j < 7→Jbu (st j)):LpS 0 st st:=⟨Om,h,fun _ _=> .refl _,fun j hj=> absurd hj (Nat.not_lt_zero j)⟩
theorem Jqo {k:Nat} {st st1:Nat→JS} (hk:k < 7) (h:LpS k st st1) (he:(st1 k).1= []):LpS (k+1) st st1:=by
 obtain ⟨h0,h1,h2,h3⟩:=h
 refine ⟨hk,h1,h2,fun j hj=> ?_⟩
 rcases Nat.lt_or_ge j k with q | q
 ·exact h3 j q
 ·obtain rfl:j=k:=by omega
  rw [he];exact List.Pairwise.nil
theorem Jqp {k:Nat} {st st1:Nat→JS} {R D:List (Nat×AV)} {s cap:Nat} {tl:List AV} (hk:k < 7) (h:LpS k st st1) (hR:st1 k=(R,some (s,cap,tl))) (hp:D.Perm R) (hs:D.Pairwise fun a b=> a.1≤b.1):LpS (k+1) st (Jam st1 k (D,some (s,cap,tl))):=by
 obtain ⟨h0,h1,h2,h3⟩:=h
 have hok:=h1 k hk
 rw [hR] at hok
 refine ⟨hk,JiS h1 (show D.length≤cap∧cap * 2≤D.length * 2+tl.length from by rw [hp.length_eq];exact hok),fun j hj=> ?_,fun j hj=> ?_⟩
 ·unfold Jam;by_cases e:j=k
  ·subst e;rw [if_pos rfl];have:=h2 j hj;rw [hR] at this;exact hp.trans this
  ·rw [if_neg e];exact h2 j hj
 ·unfold Jam;by_cases e:j=k
  ·subst e;rw [if_pos rfl];exact hs
  ·rw [if_neg e];exact h3 j Om
def Jkn (p:Pol) (l:List TRow):AV:=if (JT p l).2≠0 then .tup [JhR Jlk,int (JT p l).1,int (JT p l).2] else match p.rules.findIdx? (Jcj l) with
 | some i=> .tup [JhR Jlk,int i,int 17]
 | none=> .tup [JhR (J0 p l),int 0,int 0]
def JdS:List AV:= [u32 0,boolA false, .os 0 0 (fun _=> .any) none, .os 0 0 (fun _=> .any) none, .os 0 0 (fun _=> .any) none, .os 0 0 (fun _=> .any) none, .os 0 0 (fun _=> .any) none, .os 0 0 (fun _=> .any) none, .os 0 0 (fun _=> .any) none]
theorem Jqq:AVle (.ag [u32 0,boolA false, .os 0 0 (fun _=> .any) none, .os 0 0 (fun _=> .any) none, .os 0 0 (fun _=> .any) none, .os 0 0 (fun _=> .any) none, .os 0 0 (fun _=> .any) none, .os 0 0 (fun _=> .any) none, .os 0 0 (fun _=> .any) none]) (JhR Jlk):=
 AVle.ags ⟨Rf,Rf,AVle.os_sl0,AVle.os_sl0,AVle.os_sl0,AVle.os_sl0,AVle.os_sl0,AVle.os_sl0,AVle.os_sl0,Tt⟩
def LpT (nx nx4:Nat) (l:List TRow) (e:List (Nat×AV)):List (Nat×AV):= [(1,trows l),(4, .bp (2,nx+1) 0),(5,int 0),(6,int 0),(11, .bp (0,nx4) 0),(13, .bp (1,nx4+1) 0),(14, .fn (.func 17) [] [.bp (0,nx4) 0, .bp (1,nx4+1) 0])]++e
def LpB (nx nx4:Nat) (p:Pol) (st:Nat→JS):List (Vl.Id×Own):= [((2,nx+1), .c JdS),((1,nx4+1), .c (Ja7 (JJ (Je p).dflt) (Je p).x32 st)),((0,nx4), .c [int (Je p).dflt.1,int (Je p).dflt.2,boolA (Je p).x32,JW (Je p).rules])]++JaW st
theorem Jye {α:Type} {a b c:α} {t:List α}:(c::a::b::t).Perm (a::b::c::t):=(List.Perm.swap a c _).trans ((List.Perm.swap b c _).cons a)
theorem Jsp {k:Nat} (hk:k < 7) {st:Nat→JS} {R:List (Nat×AV)} {s cap:Nat} {tl:List AV} {F:List (Vl.Id×Own)} (h:st k=(R,some (s,cap,tl))):((F++JY k st)++ [((10+k,s),Own.c (JM R++tl))]).Perm (F++JaW st):=by
 have hp:=Jgp hk st
 rw [h] at hp
 rw [List.append_assoc]
 exact (hp.trans List.perm_append_comm).symm.append_left F
theorem Jyf {k:Nat} (hk:k < 7) {st:Nat→JS} {R:List (Nat×AV)} {s cap:Nat} {tl:List AV} {F:List (Vl.Id×Own)}:((F++JY k st)++ [((10+k,s),Own.c (JM R++tl))]).Perm (F++JaW (Jam st k (R,some (s,cap,tl)))):=by
 have hp:=Jkj hk st (R,some (s,cap,tl))
 rw [List.append_assoc]
 exact (hp.trans List.perm_append_comm).symm.append_left F
theorem Jyg {nx nx4:Nat} {p:Pol} {st:Nat→JS}:(LpB nx nx4 p st).Perm (([((1,nx4+1),Own.c (Ja7 (JJ (Je p).dflt) (Je p).x32 st)),((0,nx4),Own.c [int (Je p).dflt.1,int (Je p).dflt.2,boolA (Je p).x32,JW (Je p).rules])]++JaW st)++ [((2,nx+1),Own.c JdS)]):=List.perm_append_comm (l₁:= [((2,nx+1),Own.c JdS)]) (l₂:=([((1,nx4+1),Own.c (Ja7 (JJ (Je p).dflt) (Je p).x32 st)),((0,nx4),Own.c [int (Je p).dflt.1,int (Je p).dflt.2,boolA (Je p).x32,JW (Je p).rules])]++JaW st))
def lpH (nx nx4:Nat) (p:Pol) (cs:List AV):List (Vl.Id×Own):= [((2,nx+1), .c JdS),((1,nx4+1), .c cs),((0,nx4), .c [int (Je p).dflt.1,int (Je p).dflt.2,boolA (Je p).x32,JW (Je p).rules])]
theorem JlE {nx nx4:Nat} {p:Pol} {cs cs':List AV} {R R':List (Vl.Id×Own)} (h:OwnLe (.c cs) (.c cs')) (hR:BxLe R R'):BxLe (lpH nx nx4 p cs++R) (lpH nx nx4 p cs'++R'):=⟨rfl,OwnLe.refl _,rfl,h,rfl,OwnLe.refl _,hR⟩
theorem Jjo {nx nx4:Nat} {p:Pol} {cs cs':List AV} {O:List (Vl.Id×Own)} {i j:Vl.Id} {x:Own} (h:OwnLe (.c cs) (.c cs')) (e:i.2=j.2):BxLe ((lpH nx nx4 p cs++O)++ [(i,x)]) ((lpH nx nx4 p cs'++O)++ [(j,x)]):=⟨rfl,OwnLe.refl _,rfl,h,rfl,OwnLe.refl _,Jwj (OwnLe.refl _) e O⟩
theorem Jsq {k:Nat} (hk:k < 7) {n nx nn s cap:Nat} {L:List (Nat×AV)} {F:List (Vl.Id×Own)} {st:Nat→JS} {D:List (Nat×AV)} {tl:List AV} {df:Option (List DA)}:ELe (mk n L ⟨(F++JY k st)++ [((10+k,s),Own.c (JM D++tl))], [],nx,nn⟩ df) (mk n L ⟨F++JaW (Jam st k (D,some (s,cap,tl))), [],nx,nn⟩ df):=
 Jdo (E:=mk n L ⟨(F++JY k st)++ [((10+k,s),Own.c (JM D++tl))], [],nx,nn⟩ df) (h':=⟨F++JaW (Jam st k (D,some (s,cap,tl))), [],nx,nn⟩) ⟨(Jyf hk).symm.map _, .refl _,rfl⟩
theorem Jqr:∀l:List PEnt,JM (l.map Jdh)=l.flatMap fun e=> [u32 (e.num:Nat),JK e.rules]
 | []=> rfl
 | e::l=> by
   show _::_::JM (l.map Jdh)=_::_::_;rw [Jqr l];rfl
theorem Jqs:∀l:List PSub,JM (l.map Ja3)=l.flatMap fun e=> [u32 (e.num:Nat),u32 (e.code:Nat)]
 | []=> rfl
 | e::l=> by
   show _::_::JM (l.map Ja3)=_::_::_;rw [Jqs l];rfl
instance:Inhabited PEnt:=⟨ent0⟩
instance:Inhabited PSub:=⟨sub0⟩
theorem Jhj {bs:List (Nat×Own)} {nm:Nat}:∀ {r:JS} {l:List PEnt},Jbu r→r.1=l.map Jdh→(∀b∈JbV nm r,((b.1.2,b.2))∈bs)→Frz bs (JaB nm r) (JF 2 Jar ent0 l)
 | (R,none),l,hok,h,_=> by
   have hok:R= []:=hok;have h:R=l.map Jdh:=h;obtain rfl:l= []:=List.map_eq_nil_iff.1 (h.symm.trans hok);exact Frz.of_le AVle.os_sl0
 | (R,some (s,cap,tl)),l,hok,h,hm=> by
   have h:R=l.map Jdh:=h;subst h;have hm:=hm _ (.head _);have hk:=hok.1;rw [List.length_map] at hk;exact Jhy (E:=fun e:PEnt=> [u32 (e.num:Nat),JK e.rules]) (fun _=> rfl) (fun _=> rfl) (List.length_map _).symm (by unfold Jab;rw [← Jqr];exact hm) (by rw [List.length_map];exact hk)
theorem Jsr {bs:List (Nat×Own)} {nm:Nat}:∀ {r:JS} {l:List PSub},Jbu r→r.1=l.map Ja3→(∀b∈JbV nm r,((b.1.2,b.2))∈bs)→Frz bs (JaB nm r) (JF 2 JgV sub0 l)
 | (R,none),l,hok,h,_=> by
   have hok:R= []:=hok;have h:R=l.map Ja3:=h;obtain rfl:l= []:=List.map_eq_nil_iff.1 (h.symm.trans hok);exact Frz.of_le AVle.os_sl0
 | (R,some (s,cap,tl)),l,hok,h,hm=> by
   have h:R=l.map Ja3:=h;subst h;have hm:=hm _ (.head _);have hk:=hok.1;rw [List.length_map] at hk;exact Jhy (E:=fun e:PSub=> [u32 (e.num:Nat),u32 (e.code:Nat)]) (fun _=> rfl) (fun _=> rfl) (List.length_map _).symm (by unfold Jab;rw [← Jqs];exact hm) (by rw [List.length_map];exact hk)
theorem Jgr {F:List (Vl.Id×Own)} {st:Nat→JS} {j:Nat} (hj:j < 7):∀b∈JbV (10+j) (st j),((b.1.2,b.2))∈(F++JaW st).map fun p=> (p.1.2,p.2):=fun b hb=>
 List.mem_map.2 ⟨b,List.mem_append.2 (.inr (List.mem_flatMap.2 ⟨j,List.mem_range.2 hj,hb⟩)),rfl⟩
theorem Jyh {i:Nat} {L:List Rul} {r:Rul} (h:i+L.length < 1000000):IntKind.i64.wrap (((i+L.length:Nat):Int)+1)=((i+(L++ [r]).length:Nat):Int):=by
 rw [List.length_append,List.length_singleton,← Nat.add_assoc];exact JC Om
theorem Jzy {L:List Rul} {r:Rul}:((L.map JA).length+1) * 2=((L++ [r]).map JA).length * 2:=by simp
theorem JAn {L:List Rul} {r:Rul} {f':Nat→AV} {a b s:Nat} (hf:f' 0=Jb9 (JA r)):AVle (.os 2 ((L.map JA).length+1) (JcD (L.map JA).length (JcI (L.map JA)) f') (some (a,s))) (.os 2 ((L++ [r]).map JA).length (JcI ((L++ [r]).map JA)) (some (b,s))):=by
 rw [List.map_append];exact Jef (e:=Jb9) hf rfl
theorem Jgs (p:Pol) (l:List TRow) (hp:p.ok) (hp2:∀r∈p.rules,r.conds.length≤12∧r.name.size≤1000000) (hl:l.length≤1000000) (hn:∀r∈l,r.name.size≤maxLen):Tells Tryz.prog 6 [polA p,trows l] (Jkn p l):=by
 have hV:=Jqn p l hp hp2 hl hn
 unfold Jkn
 by_cases hv:(JT p l).2=0
 ·rw [if_neg (fun h=> h hv)];have hE:=Jmf p l (by have:=(Jbt (Jac.1 hv).1).1;omega) hl (JfM (Jac.1 hv).2.1);unfold JxJ at hE;rw [hv] at hV;generalize (JT p l).1=v1 at hV;cases hx:p.rules.findIdx? (Jcj l) with
  | some i=>
    rw [hx] at hE;refine Jc Tryz.func6 rfl rfl fun nx=> ?_;refine Z ?_;refine Ja rfl rfl hV Y2 fun nx2=> ?_;refine Z ?_;refine Ja rfl rfl hE Y2 fun nx3=> ?_;refine Z ?_;exact Jf rfl ⟨rfl,Tt⟩ (AVle.tups (cs:= [_,_,_]) ⟨Jqq,Y2⟩)
  | none=>
    rw [hx] at hE;refine Jc Tryz.func6 rfl rfl fun nx=> ?_;refine Z ?_;refine Ja rfl rfl hV Y2 fun nx2=> ?_;refine Z ?_;refine Ja rfl rfl hE Y2 fun nx3=> ?_;refine Z ?_;have hN:=Jn0 p hp;unfold Joa at hN;rw [if_pos (Jac.1 hv).1] at hN;have hnr:=Jli (Jac.1 hv).1;have hcd:=JrX p.dflt (Jpu (Jac.1 hv).1).1;refine Ja rfl rfl hN Y1 fun nx4=> ?_;refine Z ?_;have hc18:=JjO (Je p).dflt (Jpu hnr).1;refine Jaf 7 [((2,nx4), .c [int (Je p).dflt.1,int (Je p).dflt.2,boolA (Je p).x32,JW (Je p).rules]),((1,nx+1), .c JdS),((0,nx), .c [int p.dflt.1,int p.dflt.2,boolA p.x32,JW p.rules])] (Ef [6]) (Ef [2]) [0,1,2,3,4,5,6] Kr Kr (HB.refl _) ?_;refine Z ?_;refine ⟨_,Jao rfl rfl rfl hc18 Y1 (NoId.v _), ?_⟩;refine Z ?_;refine ⟨_,JcS (cs:=JdS) rfl rfl Kr (HB.cons rfl (HB.cons rfl (HB.one rfl))),fun r h' hr=> ?_⟩;obtain ⟨rfl,rfl⟩:=hr;refine Z ?_;refine JdG (fun y:(Nat→JS)×Nat=> mk 131 (LpT nx nx4 l []) ⟨LpB nx nx4 p y.1, [],y.2,20⟩) (fun y=> LpI p l (Je p).rules.length y.1) ?_ ?_
    ·refine Jm (fun y:Nat×(Nat→JS)×Nat=> mk 131 (LpT nx nx4 l [(15,int y.1)]) ⟨LpB nx nx4 p y.2.1, [],y.2.2,20⟩) (fun y=> LpI p l y.1 y.2.1) (fun y=> (Je p).rules.length - y.1) ?_ ?_
     ·exact ⟨(0,fun _=> ([],none),nx4+2),JAS p l,JaL (pm:= []) (bx:= [((2,nx+1), .c JdS),((1,nx4+1), .c (Ja7 (JJ (Je p).dflt) (Je p).x32 fun _=> ([],none))),((0,nx4), .c [int (Je p).dflt.1,int (Je p).dflt.2,boolA (Je p).x32,JW (Je p).rules])]) (L:= [(1,trows l),(4, .bp (2,nx+1) 0),(5,int 0),(6,int 0),(11, .bp (0,nx4) 0),(13, .bp (1,nx4+1) 0),(14, .fn (.func 17) [] [.bp (0,nx4) 0, .bp (1,nx4+1) 0]),(15,int (0:Nat))]) _ _ [] rfl rfl Jye (.cons_cons _ (.cons_cons _ (.cons_cons _ (.cons _ .slnil)))) Sf ⟨rfl,OwnLe.refl _,rfl,OwnLe.refl _,rfl,OwnLe.refl _,Tt⟩ Tt ⟨Rf,AVle.bp_nm rfl,Rf,Rf,AVle.bp_nm rfl,AVle.bp_nm rfl,AVle.fn_caps (cs:= [.bp (2,nx4) 0, .bp (3,nx4+1) 0]) (ds:= [.bp (0,nx4) 0, .bp (1,nx4+1) 0]) ⟨AVle.bp_nm rfl,AVle.bp_nm rfl,Tt⟩,Y1⟩⟩
     ·rintro ⟨i,st,nx5⟩ hI;refine Z ?_;intro c g;cases c
      ·have g:=Jn g;try dsimp only at g
       have hi:i=(Je p).rules.length:=(by have:=hI.1;dsimp only at this;omega);subst hi;refine Z ?_;exact ⟨(st,nx5),hI,Et rfl rfl Bf Tt Y7⟩
      ·have g:=Jo g;try dsimp only at g
       have hi:i < (Je p).rules.length:=(by omega);refine Z ?_;refine ⟨Bd, ?_⟩;refine Z ?_;refine JdG (fun y:List Rul×Option Nat×Nat=> mk 131 (LpT nx nx4 l [(15,int (i+y.1.length:Nat)),(16,strA ((Je p).rules.getD i Jg).name),(17, .os 2 (y.1.map JA).length (JcI (y.1.map JA)) (nmd y.2.1))]) ⟨LpB nx nx4 p st,J2 (nmd y.2.1) ((y.1.map JA).length * 2),y.2.2,20⟩) (fun y=> y.1=JbT ((Je p).rules.getD i Jg).name ((Je p).rules.drop i)) ?_ ?_
       ·refine Jm (fun y:List Rul×Option Nat×Nat=> mk 131 (LpT nx nx4 l [(15,int (i+y.1.length:Nat)),(16,strA ((Je p).rules.getD i Jg).name),(17, .os 2 (y.1.map JA).length (JcI (y.1.map JA)) (nmd y.2.1))]) ⟨LpB nx nx4 p st,J2 (nmd y.2.1) ((y.1.map JA).length * 2),y.2.2,20⟩)
         (fun y=> y.1++JbT ((Je p).rules.getD i Jg).name ((Je p).rules.drop (i+y.1.length))=JbT ((Je p).rules.getD i Jg).name ((Je p).rules.drop i)∧i+y.1.length≤(Je p).rules.length∧(y.2.1=none→y.1= [])) (fun y=> (Je p).rules.length - (i+y.1.length)) ?_ ?_
        ·exact ⟨([],none,nx5),⟨rfl,Nat.le_of_lt hi,fun _=> rfl⟩,Jh (pm:= []) (L:= [(1,trows l),(4, .bp (2,nx+1) 0),(5,int 0),(6,int 0),(11, .bp (0,nx4) 0),(13, .bp (1,nx4+1) 0),(14, .fn (.func 17) [] [.bp (0,nx4) 0, .bp (1,nx4+1) 0]),(15,int (i:Nat)),(16,strA ((Je p).rules.getD i Jg).name),(17, .os 2 0 (JcI []) none)]) _ [] rfl rfl Sf Sf Bf Tt ⟨Rf,Rf,Rf,Rf,Rf,Rf,Rf,Rf,Rf,AVle.os_nil,Tt⟩⟩
        ·rintro ⟨L,oi,nx6⟩ ⟨hL,hle,ho⟩;dsimp only at hL hle ho;refine Z ?_;intro c g2;cases c
         ·have g2:=Jn g2;try dsimp only at g2
          have hj:i+L.length=(Je p).rules.length:=(by omega);rw [hj,List.drop_length] at hL;refine Z ?_;exact ⟨(L,oi,nx6),by rw [← hL];exact (List.append_nil _).symm,Et rfl rfl Bf Pf Y10⟩
         ·have g2:=Jo g2;try dsimp only at g2
          have hj:i+L.length < (Je p).rules.length:=(by omega);have hdr:(Je p).rules.drop (i+L.length)=(Je p).rules.getD (i+L.length) Jg::(Je p).rules.drop (i+L.length+1):=by
           rw [List.drop_eq_getElem_cons hj];simp [List.getD,hj]
          rw [hdr] at hL;refine Z ?_;refine ⟨Bd, ?_⟩;refine Z ?_;intro c3 hc3;have hc3:c3=kS ((Je p).rules.getD (i+L.length) Jg).name ((Je p).rules.getD i Jg).name:=hc3;cases c3
          ·have hrn:JbT ((Je p).rules.getD i Jg).name ((Je p).rules.getD (i+L.length) Jg::(Je p).rules.drop (i+L.length+1))= []:=by
            unfold JbT;rw [List.takeWhile_cons,if_neg (by rw [← hc3];decide)]
           rw [hrn] at hL;refine Z ?_;exact ⟨(L,oi,nx6),by rw [← hL];exact (List.append_nil _).symm,Et rfl rfl Bf Pf Y10⟩
          ·have hrn:JbT ((Je p).rules.getD i Jg).name ((Je p).rules.getD (i+L.length) Jg::(Je p).rules.drop (i+L.length+1))=(Je p).rules.getD (i+L.length) Jg::JbT ((Je p).rules.getD i Jg).name ((Je p).rules.drop (i+L.length+1)):=by
            unfold JbT;rw [List.takeWhile_cons,if_pos hc3.symm]
           rw [hrn] at hL;have hcj:=JjO ((Je p).rules.getD (i+L.length) Jg).act (Jtr ((Jpu hnr).2 _ (by simp [List.getD,hj])));refine Z ?_;refine Jaf 17 (LpB nx nx4 p st) (Ef [16]) (Ef [13]) [0,1,2,3,4,5,6,7,8,9,10,11,12,13,14,15,16] Kr Kr (HB.refl _) ?_;refine Z ?_;refine ⟨Bd,JcT (b:= .rp (J7 ((Je p).rules.getD (i+L.length) Jg)).cells) rfl ?_⟩;refine Z ?_;refine ⟨Bd,JcT (b:= .rp (J7 ((Je p).rules.getD (i+L.length) Jg)).cells) rfl ?_⟩;refine Z ?_;refine ⟨_,Jao rfl rfl rfl hcj Y1 (NoId.v _), ?_⟩;refine Z ?_;refine ⟨_,JaK (e:=81) (c:=2) (pm:= []) (n:=(L.map JA).length) (oi:=nmd oi) (sz:=2) (f:=JcI (L.map JA)) (HB.refl _) rfl rfl rfl (.inr ⟨_,rfl⟩) Kr Kr Kr (.inr rfl) Kr (List.append_nil _).symm (JG rfl) (by rw [Jlz,List.length_map];have:=(Jbt hnr).1;omega) (by rw [List.length_map];have:=(Jbt hnr).1;omega),fun r h' hr=> ?_⟩;obtain ⟨rfl,rfl⟩:=hr;refine Z ?_;exact back (L++ [(Je p).rules.getD (i+L.length) Jg],some nx6,nx6+1) ⟨by dsimp only;rw [List.append_assoc,List.length_append,List.length_singleton];exact hL,by dsimp only;rw [List.length_append,List.length_singleton];omega,(fun h=> by cases h)⟩ (by dsimp only;rw [List.length_append,List.length_singleton];omega) (Et (bx:=LpB nx nx4 p st) (pm:= [((0,nx6),((L++ [(Je p).rules.getD (i+L.length) Jg]).map JA).length * 2)]) (L:= [(1,trows l),(4, .bp (2,nx+1) 0),(5,int 0),(6,int 0),(11, .bp (0,nx4) 0),(13, .bp (1,nx4+1) 0),(14, .fn (.func 17) [] [.bp (0,nx4) 0, .bp (1,nx4+1) 0]),(15,int (i+(L++ [(Je p).rules.getD (i+L.length) Jg]).length:Nat)),(16,strA ((Je p).rules.getD i Jg).name),(17, .os 2 ((L++ [(Je p).rules.getD (i+L.length) Jg]).map JA).length (JcI ((L++ [(Je p).rules.getD (i+L.length) Jg]).map JA)) (some (0,nx6)))]) rfl rfl Bf ⟨rfl,Jzy,Tt⟩ ⟨Rf,Rf,Rf,Rf,Rf,Rf,Rf,Jk (Jyh (by have:=(Jbt hnr).1;dsimp only;omega)),Rf,JAn rfl,Tt⟩)
       ·rintro ⟨L,oi,nx6⟩ hL;dsimp only at hL;have hmem:(Je p).rules.getD i Jg∈(Je p).rules:=(by simp [List.getD,hi]);have hfb:Jap l ((Je p).rules.getD i Jg).name=true:=by
         obtain ⟨r0,h0,h1⟩:=JeY hmem;rw [(Jbp h1).2.1];exact JbN hv r0 h0
        have hF:=Jgf l ((Je p).rules.getD i Jg).name hl (Jfa (JfM (Jac.1 hv).2.1) _);unfold JkT at hF;rw [if_pos hfb,← (show Jak l ((Je p).rules.getD i Jg).name=_ from if_pos hfb)] at hF;refine Z ?_;refine Ja rfl rfl hF Y2 fun nx7=> ?_;refine Z ?_;have hLn:L≠ []:=(by rw [hL];exact Jwu hi);have hrc:=Jwv (s:=((Je p).rules.getD i Jg).name) (i:=i) hp (Jac.1 hv).1;rw [← hL] at hrc;have hrow:=Jzw (Jac.1 hv).2.1 (Jne hfb);have hlr:L.length≤(Je p).rules.length - i:=(by rw [hL,← List.length_drop];exact JnG _ _);have h500:=(Jbt hnr).1;have hput:=Jue (Je p).dflt.1 (Je p).dflt.2 (Je p).x32 (Je p).rules (JJ (Je p).dflt) (Jak l ((Je p).rules.getD i Jg).name) (L.map JA) nx4 (nx4+1) (nx7+1) st hI.2.1 (Jso h500 hI) hrow.1 hrow.2.1 hrow.2.2 (fun h=> hLn (List.map_eq_nil_iff.1 h)) (by rw [List.length_map];omega) hrc;have hnext:∀st',Jud (JJ (Je p).dflt) (Je p).x32 (Jak l ((Je p).rules.getD i Jg).name) (L.map JA) st st'→LpI p l (i+L.length) st':=fun st' hq=> Jyd hi rfl hL hI hq;have hpos:0 < L.length:=List.length_pos_iff.2 hLn;refine JH (xs:= [Jj (Jak l ((Je p).rules.getD i Jg).name),JK (L.map JA), .bp (0,nx4) 0, .bp (1,nx4+1) 0]) [((20,nx7), .c (Jcx (Jak l ((Je p).rules.getD i Jg).name))),((2,nx+1), .c JdS)] (J2 (nmd oi) ((L.map JA).length * 2)) 20 rfl rfl rfl (List.append_nil _).symm ⟨Rf,AVle.os_sl,Y2⟩ hput Bf trivial rfl fun r h' hq=> ?_;obtain ⟨rfl,st',nx8,nn8,hq,rfl⟩:=hq;refine Z ?_;exact back (i+L.length,st',nx8) (hnext st' hq) Dm (Jh (pm:= []) (bx:=LpB nx nx4 p st') (L:= [(1,trows l),(4, .bp (2,nx+1) 0),(5,int 0),(6,int 0),(11, .bp (0,nx4) 0),(13, .bp (1,nx4+1) 0),(14, .fn (.func 17) [] [.bp (0,nx4) 0, .bp (1,nx4+1) 0]),(15,int (i+L.length:Nat))]) _ [] rfl rfl (.cons _ Sf) (List.nil_sublist _) Bf Tt Y8)
    ·rintro ⟨st,nx5⟩ hI;dsimp only at hI;have hE:=Jzx hI;have hlen:=Jso (Jbt hnr).1 hI;have hone:∀ {m:Nat} {st1:Nat→JS} (k:Nat),LpS m st st1→∀ {R:List (Nat×AV)},k < 7→(st1 k).1=R→(∀x∈R,Jb3 x.2=true)∧R.length < 4611686018427387904:=fun {m st1} k hS {R} hk h=> by
      subst h;have hp:=hS.2.2.1 k hk;refine ⟨fun x hx=> ?_,by have:=hlen k hk;rw [hp.length_eq];omega⟩;have hx:=hp.mem_iff.1 hx;rcases Nat.lt_or_ge k 5 with h5 | h5
      ·rw [hE.2.1 k h5] at hx;obtain ⟨e,_,rfl⟩:=List.mem_map.1 hx;rfl
      ·obtain ⟨m',rfl⟩:∃m',k=5+m':=⟨k - 5,Om⟩;rw [hE.2.2 m' Om] at hx;obtain ⟨e,_,rfl⟩:=List.mem_map.1 hx;rfl
     refine Z ?_;refine JdG (fun y:(Nat→JS)×Nat=> mk 131 [(4, .bp (2,nx+1) 0),(5,int 0),(6,int 0),(13, .bp (1,nx4+1) 0)] ⟨LpB nx nx4 p y.1, [],y.2,20⟩) (fun y=> LpS 5 st y.1) ?_ ?_
     ·refine Jm (fun y:Nat×(Nat→JS)×Nat=> mk 131 [(4, .bp (2,nx+1) 0),(5,int 0),(6,int 0),(13, .bp (1,nx4+1) 0),(112,int y.1)] ⟨LpB nx nx4 p y.2.1, [],y.2.2,20⟩) (fun y=> y.1≤5∧LpS (y.1) st y.2.1) (fun y=> 5 - y.1) ?_ ?_
      ·exact ⟨(0,st,nx5),⟨Nat.zero_le _,JAT hE.1⟩,Et rfl rfl Bf Tt Y5⟩
      ·rintro ⟨a,st1,nx5⟩ ⟨ha,hS⟩;dsimp only at ha hS;by_cases hA:a=5
       ·subst hA;refine Z ?_;exact ⟨(st1,nx5),hS,Et rfl rfl Bf Tt Y4⟩
       obtain ⟨q,hq⟩:∃q,q=a:=⟨_,rfl⟩;obtain ⟨b,hb⟩:∃b,b=a+1:=⟨_,rfl⟩;have hq7:q < 7:=(by omega);have hSq:LpS q st st1:=(by rw [hq];exact hS);have hn1:∀ {s'},LpS (q+1) st s'→LpS (b) st s':=fun {s'} h=> by rw [show b=q+1 by omega];exact h
       rcases hk:st1 q with ⟨R,_ | ⟨s,cap,tl⟩⟩
       ·have hN0:(st1 q).1= []:=(by have:=hSq.2.1 q hq7;rw [hk] at this⊢;exact this);have hv:AVle (JaB (10+q) (st1 q)) (.os 0 0 (fun _=> .any) none):=(by rw [hk];exact Rf);have hw:AVle (.os 0 0 (fun _=> .any) none) (JaB (10+q) (st1 q)):=(by rw [hk];exact Rf);refine AW.le (E':=mk 131 [(4, .bp (2,nx+1) 0),(5,int 0),(6,int 0),(13, .bp (1,nx4+1) 0),(112,int (a:Nat))] ⟨lpH nx nx4 p (Jcb (JJ (Je p).dflt) (Je p).x32 (JbX (a) (.os 0 0 (fun _=> .any) none) st1))++JaW st1, [],nx5,20⟩) (Et rfl rfl (JlE (by subst hq;exact Jft hv) Bf) Tt Y5) ?_;rcases (by omega:a=0∨a=1∨a=2∨a=3∨a=4) with rfl | rfl | rfl | rfl | rfl
        all_goals
         unfold lpH;refine Z ?_;refine Ja rfl rfl (Jrt 22) ⟨AVle.os_nil,Y1⟩ fun nx6=> ?_;refine Z ?_;exact back (b,st1,nx6) ⟨Dm,hn1 (Jqo hq7 hSq hN0)⟩ Dm (Et (bx:=LpB nx nx4 p st1) rfl rfl (JlE (by subst hq;exact Jep hw) Bf) Tt ⟨Rf,Rf,Rf,Rf,Jk (by subst hb;rfl),Tt⟩)
       ·have hv:AVle (JaB (10+q) (st1 q)) (.hs (30,s) 0 R.length cap):=(by rw [hk];exact AVle.hs_nm rfl);refine AW.le (E':=mk 131 [(4, .bp (2,nx+1) 0),(5,int 0),(6,int 0),(13, .bp (1,nx4+1) 0),(112,int (a:Nat))] ⟨(lpH nx nx4 p (Jcb (JJ (Je p).dflt) (Je p).x32 (JbX (a) (.hs (30,s) 0 R.length cap) st1))++JY q st1)++ [((30,s),Own.c (JM R++tl))], [],nx5,20⟩) (JaL _ _ [] rfl rfl (Jsp (F:=lpH nx nx4 p (Ja7 (JJ (Je p).dflt) (Je p).x32 st1)) hq7 hk) Sf Sf (Jjo (i:=(10+q,s)) (j:=(30,s)) (by subst hq;exact Jft hv) rfl) Tt Y5) ?_;have hR:=hone q hSq (R:=R) hq7 (by rw [hk]);rcases (by omega:a=0∨a=1∨a=2∨a=3∨a=4) with rfl | rfl | rfl | rfl | rfl
        all_goals
         unfold lpH;refine Z ?_;refine JH (xs:= [.hs (30,s) 0 R.length cap, .fn (.func 22) [] []]) (_++JY q st1) [] 20 rfl rfl rfl rfl Y2 (Jqf (D:=R) (tl:=tl) (nm:=30) (s:=s) (cap:=cap) (nx:=nx5) (nn:=20) hR.1 hR.2) Bf trivial rfl fun r h' hq2=> ?_;obtain ⟨rfl,cs',⟨D,hp1,hp2,rfl⟩,rfl⟩:=hq2;have hw:AVle (.hs (30,s) 0 R.length cap) (JaB (10+q) (D,some (s,cap,tl))):=by
          show AVle _ (.hs (10+q,s) 0 D.length cap);rw [hp1.length_eq];exact AVle.hs_nm rfl
         refine Z ?_;exact back (b,Jam st1 q (D,some (s,cap,tl)),nx5) ⟨Dm,hn1 (Jqp hq7 hSq hk hp1 hp2)⟩ Dm (ELe.trans (Et (n:=131) (nn:=20) (pm:= []) (bx:=(lpH nx nx4 p (Ja7 (JJ (Je p).dflt) (Je p).x32 (Jam st1 q (D,some (s,cap,tl))))++JY q st1)++ [((10+q,s),Own.c (JM D++tl))]) (L:= [(4, .bp (2,nx+1) 0),(5,int 0),(6,int 0),(13, .bp (1,nx4+1) 0),(112,int (b:Nat))]) rfl rfl (Jjo (i:=(30,s)) (j:=(10+q,s)) (by subst hq;exact Jqi hw) rfl) Tt ⟨Rf,Rf,Rf,Rf,Jk (by subst hb;rfl),Tt⟩) (Jsq hq7))
     rintro ⟨st0,nx5⟩ hS0;dsimp only at hS0;refine Z ?_;refine JdG (fun y:(Nat→JS)×Nat=> mk 131 [(4, .bp (2,nx+1) 0),(5,int 0),(6,int 0),(13, .bp (1,nx4+1) 0)] ⟨LpB nx nx4 p y.1, [],y.2,20⟩) (fun y=> LpS 7 st y.1) ?_ ?_
     ·refine Jm (fun y:Nat×(Nat→JS)×Nat=> mk 131 [(4, .bp (2,nx+1) 0),(5,int 0),(6,int 0),(13, .bp (1,nx4+1) 0),(121,int y.1)] ⟨LpB nx nx4 p y.2.1, [],y.2.2,20⟩) (fun y=> y.1≤2∧LpS (5+y.1) st y.2.1) (fun y=> 2 - y.1) ?_ ?_
      ·exact ⟨(0,st0,nx5),⟨Nat.zero_le _,hS0⟩,Et rfl rfl Bf Tt Y5⟩
      ·rintro ⟨a,st1,nx5⟩ ⟨ha,hS⟩;dsimp only at ha hS;by_cases hA:a=2
       ·subst hA;refine Z ?_;exact ⟨(st1,nx5),hS,Et rfl rfl Bf Tt Y4⟩
       obtain ⟨q,hq⟩:∃q,q=5+a:=⟨_,rfl⟩;obtain ⟨b,hb⟩:∃b,b=a+1:=⟨_,rfl⟩;have hq7:q < 7:=(by omega);have hSq:LpS q st st1:=(by rw [hq];exact hS);have hn1:∀ {s'},LpS (q+1) st s'→LpS (5+b) st s':=fun {s'} h=> by rw [show 5+b=q+1 by omega];exact h
       rcases hk:st1 q with ⟨R,_ | ⟨s,cap,tl⟩⟩
       ·have hN0:(st1 q).1= []:=(by have:=hSq.2.1 q hq7;rw [hk] at this⊢;exact this);have hv:AVle (JaB (10+q) (st1 q)) (.os 0 0 (fun _=> .any) none):=(by rw [hk];exact Rf);have hw:AVle (.os 0 0 (fun _=> .any) none) (JaB (10+q) (st1 q)):=(by rw [hk];exact Rf);refine AW.le (E':=mk 131 [(4, .bp (2,nx+1) 0),(5,int 0),(6,int 0),(13, .bp (1,nx4+1) 0),(121,int (a:Nat))] ⟨lpH nx nx4 p (Jcb (JJ (Je p).dflt) (Je p).x32 (JbX (5+a) (.os 0 0 (fun _=> .any) none) st1))++JaW st1, [],nx5,20⟩) (Et rfl rfl (JlE (by subst hq;exact Jft hv) Bf) Tt Y5) ?_;rcases (by omega:a=0∨a=1) with rfl | rfl
        all_goals
         unfold lpH;refine Z ?_;refine Ja rfl rfl (Jru 25) ⟨AVle.os_nil,Y1⟩ fun nx6=> ?_;refine Z ?_;exact back (b,st1,nx6) ⟨Dm,hn1 (Jqo hq7 hSq hN0)⟩ Dm (Et (bx:=LpB nx nx4 p st1) rfl rfl (JlE (by subst hq;exact Jep hw) Bf) Tt ⟨Rf,Rf,Rf,Rf,Jk (by subst hb;rfl),Tt⟩)
       ·have hv:AVle (JaB (10+q) (st1 q)) (.hs (30,s) 0 R.length cap):=(by rw [hk];exact AVle.hs_nm rfl);refine AW.le (E':=mk 131 [(4, .bp (2,nx+1) 0),(5,int 0),(6,int 0),(13, .bp (1,nx4+1) 0),(121,int (a:Nat))] ⟨(lpH nx nx4 p (Jcb (JJ (Je p).dflt) (Je p).x32 (JbX (5+a) (.hs (30,s) 0 R.length cap) st1))++JY q st1)++ [((30,s),Own.c (JM R++tl))], [],nx5,20⟩) (JaL _ _ [] rfl rfl (Jsp (F:=lpH nx nx4 p (Ja7 (JJ (Je p).dflt) (Je p).x32 st1)) hq7 hk) Sf Sf (Jjo (i:=(10+q,s)) (j:=(30,s)) (by subst hq;exact Jft hv) rfl) Tt Y5) ?_;have hR:=hone q hSq (R:=R) hq7 (by rw [hk]);rcases (by omega:a=0∨a=1) with rfl | rfl
        all_goals
         unfold lpH;refine Z ?_;refine JH (xs:= [.hs (30,s) 0 R.length cap, .fn (.func 25) [] []]) (_++JY q st1) [] 20 rfl rfl rfl rfl Y2 (Jqg (D:=R) (tl:=tl) (nm:=30) (s:=s) (cap:=cap) (nx:=nx5) (nn:=20) hR.1 hR.2) Bf trivial rfl fun r h' hq2=> ?_;obtain ⟨rfl,cs',⟨D,hp1,hp2,rfl⟩,rfl⟩:=hq2;have hw:AVle (.hs (30,s) 0 R.length cap) (JaB (10+q) (D,some (s,cap,tl))):=by
          show AVle _ (.hs (10+q,s) 0 D.length cap);rw [hp1.length_eq];exact AVle.hs_nm rfl
         refine Z ?_;exact back (b,Jam st1 q (D,some (s,cap,tl)),nx5) ⟨Dm,hn1 (Jqp hq7 hSq hk hp1 hp2)⟩ Dm (ELe.trans (Et (n:=131) (nn:=20) (pm:= []) (bx:=(lpH nx nx4 p (Ja7 (JJ (Je p).dflt) (Je p).x32 (Jam st1 q (D,some (s,cap,tl))))++JY q st1)++ [((10+q,s),Own.c (JM D++tl))]) (L:= [(4, .bp (2,nx+1) 0),(5,int 0),(6,int 0),(13, .bp (1,nx4+1) 0),(121,int (b:Nat))]) rfl rfl (Jjo (i:=(30,s)) (j:=(10+q,s)) (by subst hq;exact Jqi hw) rfl) Tt ⟨Rf,Rf,Rf,Rf,Jk (by subst hb;rfl),Tt⟩) (Jsq hq7))
     rintro ⟨st2,nx5⟩ hS;dsimp only at hS;have hr:∀k,k < 5→(st2 k).1=((J0 p l).ents k).map Jdh:=fun k hk=> JvR hv hk Jdh (fun _=> rfl) (by rw [← hE.2.1 k hk];exact hS.2.2.1 k Om) (hS.2.2.2 k Om);have hr2:∀m,m < 2→(st2 (5+m)).1=((J0 p l).subs m).map Ja3:=fun m hm=> JvS hv Ja3 (fun _=> rfl) (by rw [← hE.2.2 m hm];exact hS.2.2.1 (5+m) Om) (hS.2.2.2 (5+m) Om);have ho:=hS.2.1;refine JaX (n:=131) (nx:=nx5) (nn:=20) (pm:= []) (bx:= [((2,nx+1), .c JdS)]) (df:=some []) (L:= [(4, .bp (2,nx+1) 0),(5,int 0),(6,int 0),(13, .rp [u32 (JJ (Je p).dflt:Nat),boolA (Je p).x32,JF 2 Jar ent0 ((J0 p l).ents 0),JF 2 Jar ent0 ((J0 p l).ents 1),JF 2 Jar ent0 ((J0 p l).ents 2),JF 2 Jar ent0 ((J0 p l).ents 3),JF 2 Jar ent0 ((J0 p l).ents 4),JF 2 JgV sub0 ((J0 p l).subs 0),JF 2 JgV sub0 ((J0 p l).subs 1)])]) ([((1,nx4+1),Own.c (Ja7 (JJ (Je p).dflt) (Je p).x32 st2)),((0,nx4),Own.c [int (Je p).dflt.1,int (Je p).dflt.2,boolA (Je p).x32,JW (Je p).rules])]++JaW st2) rfl rfl rfl Jyg Sf ⟨Frz.refl _,Frz.refl _,Frz.refl _,Frz.bpL (cs:=Ja7 (JJ (Je p).dflt) (Je p).x32 st2) (.head _) ⟨Frz.refl _,Frz.refl _,Jhj (ho 0 Dc) (hr 0 Dc) (Jgr (j:=0) Dc),Jhj (ho 1 Dc) (hr 1 Dc) (Jgr (j:=1) Dc),Jhj (ho 2 Dc) (hr 2 Dc) (Jgr (j:=2) Dc),Jhj (ho 3 Dc) (hr 3 Dc) (Jgr (j:=3) Dc),Jhj (ho 4 Dc) (hr 4 Dc) (Jgr (j:=4) Dc),Jsr (ho 5 Dc) (hr2 0 Dc) (Jgr (j:=5) Dc),Jsr (ho 6 Dc) (hr2 1 Dc) (Jgr (j:=6) Dc),Tt⟩,Tt⟩ ?_;refine Z ?_;exact Jf rfl ⟨rfl,Tt⟩ Rf
 ·rw [if_pos hv];generalize (JT p l).1=v1 at hV⊢;generalize (JT p l).2=v2 at hV hv⊢;refine Jc Tryz.func6 rfl rfl fun nx=> ?_;refine Z ?_;refine Ja rfl rfl hV Y2 fun nx2=> ?_;refine Z ?_;intro c hc;obtain rfl:c=true:=by rw [hc];simpa using hv
  refine Z ?_;exact Jf rfl ⟨rfl,Tt⟩ (AVle.tups (cs:= [_,_,_]) ⟨Jqq,Y2⟩)
theorem JAU:JT pAw builtL=(0,0):=by kernel_rfl
theorem JAV:pAw.rules.findIdx? (Jcj builtL)=none:=by kernel_rfl
def eK (n:Nat):List PEnt:= [⟨n, [⟨[],2147418112⟩]⟩]
theorem JA8:Jbg (Je pAw) builtL (Jv (Je pAw).rules) 0=eK 0:=by kernel_rfl
theorem JA9:Jbg (Je pAw) builtL (Jv (Je pAw).rules) 1= []:=by kernel_rfl
theorem JBa:Jbg (Je pAw) builtL (Jv (Je pAw).rules) 2=eK 3:=by kernel_rfl
theorem JBb:Jbg (Je pAw) builtL (Jv (Je pAw).rules) 3=eK 63:=by kernel_rfl
theorem JBc:Jbg (Je pAw) builtL (Jv (Je pAw).rules) 4=eK 63:=by kernel_rfl
theorem JBd:Jb7 builtL (Jv (Je pAw).rules) 0= []:=by kernel_rfl
theorem JBe:Jb7 builtL (Jv (Je pAw).rules) 1= []:=by kernel_rfl
theorem Jjp (e:PEnt):Jfd [e]= [e]:=List.mergeSort_singleton _
theorem Jzz:Jfd []= []:=List.mergeSort_nil
theorem Jss:Jjj []= []:=List.mergeSort_nil
theorem JAo:Jkn pAw builtL= .tup [.ag [u32 2147483648,boolA false,JF 2 Jar ent0 (eK 0),JF 2 Jar ent0 [],JF 2 Jar ent0 (eK 3),JF 2 Jar ent0 (eK 63),JF 2 Jar ent0 (eK 63),JF 2 JgV sub0 [],JF 2 JgV sub0 []],int 0,int 0]:=by
 unfold Jkn
 rw [JAU,if_neg Dc,JAV]
 show AV.tup [JhR (J0 pAw builtL),_,_]=_
 have h0:(J0 pAw builtL).ents 0=eK 0:=by show Jfd (Jbg (Je pAw) builtL (Jv (Je pAw).rules) 0)=_;rw [JA8];exact Jjp _
 have h1:(J0 pAw builtL).ents 1= []:=by show Jfd (Jbg (Je pAw) builtL (Jv (Je pAw).rules) 1)=_;rw [JA9];exact Jzz
 have h2:(J0 pAw builtL).ents 2=eK 3:=by show Jfd (Jbg (Je pAw) builtL (Jv (Je pAw).rules) 2)=_;rw [JBa];exact Jjp _
 have h3:(J0 pAw builtL).ents 3=eK 63:=by show Jfd (Jbg (Je pAw) builtL (Jv (Je pAw).rules) 3)=_;rw [JBb];exact Jjp _
 have h4:(J0 pAw builtL).ents 4=eK 63:=by show Jfd (Jbg (Je pAw) builtL (Jv (Je pAw).rules) 4)=_;rw [JBc];exact Jjp _
 have s0:(J0 pAw builtL).subs 0= []:=by show Jjj (Jb7 builtL (Jv (Je pAw).rules) 0)=_;rw [JBd];exact Jss
 have s1:(J0 pAw builtL).subs 1= []:=by show Jjj (Jb7 builtL (Jv (Je pAw).rules) 1)=_;rw [JBe];exact Jss
 unfold JhR
 rw [h0,h1,h2,h3,h4,s0,s1]
 rfl
theorem Jrv:builtL.length≤1000000:=Nat.le_of_ble_eq_true Kr
theorem Jn2:∀r∈builtL,r.name.size≤maxLen:=fun r hr=> by
 have:(builtL.all fun r=> decide (r.name.size≤1000))=true:=by kernel_rfl
 have:=of_decide_eq_true (List.all_eq_true.1 this r hr)
 exact Nat.le_trans this Dc
theorem Jul (l:List PRul):NoId (JK l):=NoId.sl fun i _ c hc=> by
 have hc:c∈ [JaT (l.getD i Jy).conds,u32 ((l.getD i Jy).code:Nat)]:=hc
 simp only [List.mem_cons,List.not_mem_nil,or_false] at hc
 rcases hc with rfl | rfl
 ·exact JjS _
 ·exact NoId.v _
theorem Jfv (l:List PEnt):NoId (JF 2 Jar ent0 l):=NoId.sl fun i _ c hc=> by
 have hc:c∈ [u32 ((l.getD i ent0).num:Nat),JK (l.getD i ent0).rules]:=hc
 simp only [List.mem_cons,List.not_mem_nil,or_false] at hc
 rcases hc with rfl | rfl
 ·exact NoId.v _
 ·exact Jul _
theorem JnH (l:List PSub):NoId (JF 2 JgV sub0 l):=NoId.sl fun i _ c hc=> by
 have hc:c∈ [u32 ((l.getD i sub0).num:Nat),u32 ((l.getD i sub0).code:Nat)]:=hc
 simp only [List.mem_cons,List.not_mem_nil,or_false] at hc
 rcases hc with rfl | rfl <;> exact NoId.v _
def planC (P:Plan):List AV:= [u32 (P.dflt:Nat),boolA P.x32,JF 2 Jar ent0 (P.ents 0),JF 2 Jar ent0 (P.ents 1),JF 2 Jar ent0 (P.ents 2),JF 2 Jar ent0 (P.ents 3),JF 2 Jar ent0 (P.ents 4),JF 2 JgV sub0 (P.subs 0),JF 2 JgV sub0 (P.subs 1)]
theorem JnI (P:Plan) (i e:Int):NoId (.tup [.ag (planC P),int i,int e]):=NoId.tup fun y hy=> by
 simp only [List.mem_cons,List.not_mem_nil,or_false] at hy
 rcases hy with rfl | rfl | rfl
 ·refine NoId.ag fun z hz=> ?_;unfold planC at hz;simp only [List.mem_cons,List.not_mem_nil,or_false] at hz;rcases hz with rfl | rfl | rfl | rfl | rfl | rfl | rfl | rfl | rfl
  ·exact NoId.v _
  ·exact NoId.v _
  ·exact Jfv _
  ·exact Jfv _
  ·exact Jfv _
  ·exact Jfv _
  ·exact Jfv _
  ·exact JnH _
  ·exact JnH _
 ·exact NoId.v _
 ·exact NoId.v _
def JcQ:Plan:=⟨2147483648,false,fun a=> match a with | 0=> eK 0 | 1=> [] | 2=> eK 3 | 3=> eK 63 | _=> eK 63,fun _=> []⟩
theorem JzA:Jkn pAw builtL= .tup [.ag (planC JcQ),int 0,int 0]:=JAo
theorem awT:bs (J8 ((Jck pAw).map JO))=Jvq:=by decide+kernel
theorem Jyi:Tells Tryz.prog 12 [strA Jvq] (.tup [polA pAw,int 0,int 0]):=by
 have hp:RightP pAw:=JhU (by decide+kernel)
 have hw:=Jsd hp
 have h:=JnA ((Jck pAw).map JO) pAw ⟨by decide+kernel,fun x hx=> by
  obtain ⟨l,hl,rfl⟩:=List.mem_map.1 hx;exact Jly (hw l hl).2,by decide+kernel,by decide+kernel,JhY _ _ hw⟩ hp Jr6
 rw [awT] at h
 exact h
theorem Jn3:Tells Tryz.prog 11 [] (boolA true):=by
 have hb:=JpN
 have h1:=Jgs pAw builtL Jr6 (fun r hr=> by simp only [pAw,List.mem_cons,List.not_mem_nil,or_false] at hr;subst hr;exact ⟨by decide,by decide⟩) Jrv Jn2
 rw [JzA] at h1
 generalize builtL=B at hb h1
 refine Jc Tryz.func11 rfl rfl fun nx=> ?_
 refine Z ?_
 refine Ja rfl rfl Jyi Y1 fun nx2=> ?_
 refine Z ?_
 refine Jaf 10 _ (Ef [7,8]) (Ef [1,2]) [0,1,2,3,4,5,6,7,8,9] Kr Kr (HB.refl _) ?_
 refine Z ?_
 refine ⟨_,Jao rfl rfl rfl hb Tt (Jlm _), ?_⟩
 refine Z ?_
 refine ⟨_,Jao rfl rfl rfl h1 Y2 (JnI _ _ _), ?_⟩
 refine Z ?_
 refine ⟨_,JcS (cs:=JdS) rfl rfl Kr (HB.one rfl),fun r' h' hr=> ?_⟩
 obtain ⟨rfl,rfl⟩:=hr
 (conv=> whnf)
 refine ⟨_,Jdr (i:=(1,nx2+1)) (off:=0) (cs:=JdS) rfl rfl rfl rfl rfl rfl rfl Kr Kr (by show 0+9≤9;omega) (HB.one rfl),fun r' h' hr=> ?_⟩
 obtain rfl:=hr
 refine Z ?_
 refine JdG (fun y:Nat=> mk 75 [(3,int 0),(4, .bp (0,nx2+1) 0),(6,int 0)] ⟨[((0,nx2+1), .c (planC JcQ))], [],y,3⟩) (fun _=> True) ?_ ?_
 ·refine Jm (fun y:Nat×Nat=> mk 75 [(3,int 0),(4, .bp (0,nx2+1) 0),(6,int 0),(7, .bp (1,nx2+2) 0),(8,int y.1)] ⟨[((1,nx2+2), .c [int 1,int 0,int 1,int 1,int 1]),((0,nx2+1), .c (planC JcQ))], [],y.2,3⟩) (fun y=> y.1≤5) (fun y=> 5 - y.1) ?_ ?_
  ·exact ⟨(0,nx2+3),Nat.zero_le _,Jh (pm:= []) _ _ rfl rfl (.cons_cons _ (.cons_cons _ (.cons _ .slnil))) Sf ⟨rfl,OwnLe.refl _,rfl,OwnLe.refl _,Tt⟩ Tt ⟨Rf,AVle.bp_nm rfl,Rf,AVle.bp_nm rfl,Y1⟩⟩
  ·rintro ⟨a,nx4⟩ ha;dsimp only at ha;rcases (by omega:a=0∨a=1∨a=2∨a=3∨a=4∨a=5) with rfl | rfl | rfl | rfl | rfl | rfl
   ·refine AW.le (Et (n:=75) (nn:=3) (pm:= []) (bx:= [((1,nx2+2), .c [int 1,int 0,int 1,int 1,int 1]),((0,nx2+1), .c (planC JcQ))]) (L:= [(3,int 0),(4, .bp (0,nx2+1) 0),(6,int 0),(7, .bp (1,nx2+2) 0),(8,int (0:Nat))]) rfl rfl Bf Tt Y5) ?_;refine Z ?_
    (refine JL 9 Kr Kr Kr ?_)
    refine Z ?_;exact back (1,nx4) Dm Dm (Et (pm:= []) (bx:= [((1,nx2+2), .c [int 1,int 0,int 1,int 1,int 1]),((0,nx2+1), .c (planC JcQ))]) rfl rfl Bf Tt ⟨Rf,Rf,Rf,Rf,Jk rfl,Tt⟩)
   ·refine AW.le (Et (n:=75) (nn:=3) (pm:= []) (bx:= [((1,nx2+2), .c [int 1,int 0,int 1,int 1,int 1]),((0,nx2+1), .c (planC JcQ))]) (L:= [(3,int 0),(4, .bp (0,nx2+1) 0),(6,int 0),(7, .bp (1,nx2+2) 0),(8,int (1:Nat))]) rfl rfl Bf Tt Y5) ?_;refine Z ?_
    (refine JL 9 Kr Kr Kr ?_)
    refine Z ?_;exact back (2,nx4) Dm Dm (Et (pm:= []) (bx:= [((1,nx2+2), .c [int 1,int 0,int 1,int 1,int 1]),((0,nx2+1), .c (planC JcQ))]) rfl rfl Bf Tt ⟨Rf,Rf,Rf,Rf,Jk rfl,Tt⟩)
   ·refine AW.le (Et (n:=75) (nn:=3) (pm:= []) (bx:= [((1,nx2+2), .c [int 1,int 0,int 1,int 1,int 1]),((0,nx2+1), .c (planC JcQ))]) (L:= [(3,int 0),(4, .bp (0,nx2+1) 0),(6,int 0),(7, .bp (1,nx2+2) 0),(8,int (2:Nat))]) rfl rfl Bf Tt Y5) ?_;refine Z ?_
    (refine JL 9 Kr Kr Kr ?_)
    refine Z ?_;exact back (3,nx4) Dm Dm (Et (pm:= []) (bx:= [((1,nx2+2), .c [int 1,int 0,int 1,int 1,int 1]),((0,nx2+1), .c (planC JcQ))]) rfl rfl Bf Tt ⟨Rf,Rf,Rf,Rf,Jk rfl,Tt⟩)
   ·refine AW.le (Et (n:=75) (nn:=3) (pm:= []) (bx:= [((1,nx2+2), .c [int 1,int 0,int 1,int 1,int 1]),((0,nx2+1), .c (planC JcQ))]) (L:= [(3,int 0),(4, .bp (0,nx2+1) 0),(6,int 0),(7, .bp (1,nx2+2) 0),(8,int (3:Nat))]) rfl rfl Bf Tt Y5) ?_;refine Z ?_
    (refine JL 9 Kr Kr Kr ?_)
    refine Z ?_;exact back (4,nx4) Dm Dm (Et (pm:= []) (bx:= [((1,nx2+2), .c [int 1,int 0,int 1,int 1,int 1]),((0,nx2+1), .c (planC JcQ))]) rfl rfl Bf Tt ⟨Rf,Rf,Rf,Rf,Jk rfl,Tt⟩)
   ·refine AW.le (Et (n:=75) (nn:=3) (pm:= []) (bx:= [((1,nx2+2), .c [int 1,int 0,int 1,int 1,int 1]),((0,nx2+1), .c (planC JcQ))]) (L:= [(3,int 0),(4, .bp (0,nx2+1) 0),(6,int 0),(7, .bp (1,nx2+2) 0),(8,int (4:Nat))]) rfl rfl Bf Tt Y5) ?_;refine Z ?_
    (refine JL 9 Kr Kr Kr ?_)
    refine Z ?_;exact back (5,nx4) Dm Dm (Et (pm:= []) (bx:= [((1,nx2+2), .c [int 1,int 0,int 1,int 1,int 1]),((0,nx2+1), .c (planC JcQ))]) rfl rfl Bf Tt ⟨Rf,Rf,Rf,Rf,Jk rfl,Tt⟩)
   ·refine Z ?_;exact ⟨nx4,trivial,Jh (pm:= []) _ _ rfl rfl (.cons _ Sf) Sf Bf Tt Y3⟩
 ·rintro nx4 -;refine Z ?_;exact Jb rfl Rf
theorem JjU (a:A2) (h:right9 a.1 a.2=true):Tells Tryz.prog 33 [act a.1 a.2] (strA (bs (JO (J5 a)))):=by
 obtain ⟨k,n⟩:=a
 have h1:1≤k∧k≤8∧0≤n∧n≤Jdj k:=by simp [right9] at h;omega
 obtain ⟨h1,h2,h3,h4⟩:=h1
 clear h
 obtain ⟨m,rfl⟩:∃m:Nat,n=m:=⟨n.toNat,Om⟩
 obtain ⟨j,rfl⟩:∃j:Nat,k=(j+1:Nat):=⟨(k - 1).toNat,Om⟩
 have hkm:((km j:Nat):Int)=Jdj ((j+1:Nat):Int):=by
  have hj:j < 8:=by omega
  clear h1 h2 h3 h4;rcases j with _ | _ | _ | _ | _ | _ | _ | _ | j
  all_goals first | decide | omega
 rw [← JAb]
 exact Jp1 j m Om Om
theorem Jjq {a b:ByteArray} (h:b.size≤100) (k:a.size≤1000000):((a.size+b.size:Nat):Int)≤9223372036854775807:=by omega
theorem Jum (r:Rul) (h:RightR r) (hok:r.ok):Tells Tryz.prog 34 [J7 r] (strA (bs (JO (Jbo r)++ [10]))):=by
 have hsz:=JiO h hok
 rw [Jp2] at hsz⊢
 have hn30:=(JhT h.name).2.2.2
 have ha:=JjU r.act h.act
 have has:=JgG h.act
 have hfew:=h.few
 refine Jc Tryz.func34 rfl rfl fun nx=> ?_
 refine Z ?_
 refine Jaf 7 _ (fun _=> false) (Ef [5]) [0,1,2,3,4,5,6] Kr Kr (HB.refl _) ?_
 refine Z ?_
 refine ⟨show ((r.name.data.toList.length+1:Nat):Int)≤_ by omega,JgF (b:=strA (bs (r.name.data.toList++ [32]))) (by rw [Jgm];rfl) ?_⟩
 refine Z ?_
 refine ⟨_,Jao rfl rfl rfl ha Y1 (NoId.v _), ?_⟩
 refine Z ?_
 refine ⟨by rw [Jaj,Jaj,List.length_append,List.length_singleton];omega,JgF (b:=strA (bs (r.name.data.toList++ [32]++JO (J5 r.act)))) (by rw [Jgm (r.name.data.toList++ [32])];rfl) ?_⟩
 refine Z ?_
 have hNl:(r.name.data.toList++ [32]++JO (J5 r.act)).length≤100:=by rw [List.length_append,List.length_append,List.length_singleton];omega
 have hNe:r.name.data.toList++32::(JO (J5 r.act)++JbU true r.conds)++ [10]=r.name.data.toList++ [32]++JO (J5 r.act)++JbU true r.conds++ [10]:=by simp
 rw [hNe]
 generalize r.name.data.toList++ [32]++JO (J5 r.act)=N at hNl⊢
 refine Jm (fun y:Nat×Nat=> mk 33 [(3,strA (bs (N++JbU true (r.conds.take y.1)))),(15,JaT r.conds),(16,int r.conds.length),(17,int y.1)] ⟨[], [],y.2,1⟩) (fun y=> y.1≤r.conds.length) (fun y=> r.conds.length - y.1) ?_ ?_
 ·exact ⟨(0,nx+1),Nat.zero_le _,Jh (pm:= []) (bx:= []) [] [] rfl rfl (List.nil_sublist _) Sf Tt Tt ⟨Jg2 (a:=bs N) (by rw [List.take_zero,JbU,List.append_nil]),Y3⟩⟩
 ·rintro ⟨i,nx1⟩ h1;dsimp only at h1;have hts:∀i,(JbU true (r.conds.take i)).length≤90 * 6:=fun i=> Nat.le_trans (JhV (fun c hc=> ⟨h.conds c (List.mem_of_mem_take hc),hok.2.2 c (List.mem_of_mem_take hc)⟩)) (Nat.mul_le_mul_left _ (by rw [List.length_take];omega));refine Z ?_;intro c g;cases c
  ·have g:=Jn g;obtain rfl:i=r.conds.length:=by dsimp only at g;omega
   have ht:=hts r.conds.length;refine Z ?_;refine ⟨by rw [Jaj,List.length_append];have:(⟨#[10]⟩:ByteArray).size=1:=rfl;dsimp only;omega, ?_⟩;refine Z ?_;refine Jb rfl (Jg2 ?_);rw [Jgm _ [10],List.take_length];rfl
  ·have g:=Jo g;have hi:i < r.conds.length:=by dsimp only at g;omega
   have hm:r.conds.getD i cnd0∈r.conds:=by simp [List.getD,hi]
   have htx:=Jnw (r.conds.getD i cnd0) (h.conds _ hm) (hok.2.2 _ hm);have hcs:=Jlt (h.conds _ hm) (hok.2.2 _ hm);have hsn:=Jls (r.conds.take i) true (r.conds.getD i cnd0);rw [← Ja9 cnd0 hi] at hsn;have ht:=hts i;refine Z ?_;refine ⟨⟨Dm,Dm⟩,Ji (b:= .rp (Jt (r.conds.getD i cnd0)).cells) (by dsimp only;rw [Int.toNat_natCast]) ?_⟩;refine Z ?_;intro c hc;have hc:c=((i:Int) ==0):=hc;have hb:c=(true&& (r.conds.take i).isEmpty):=by
    rw [hc,Bool.true_and];rcases i with _ | i
    ·rfl
    ·rw [List.isEmpty_eq_false_iff.2 (fun e=> by have:=congrArg List.length e;rw [List.length_take,List.length_nil] at this;omega)];exact beq_eq_false_iff_ne.2 Om
   rw [← hb] at hsn;clear hc hb;have hz:(JgW (r.conds.getD i cnd0)).size≤80:=hcs;have hz2:∀b,(bs (32::(Jd6 b++ [32]))++JgW (r.conds.getD i cnd0)).size≤100:=fun b=> by
    have:(32::(Jd6 b++ [32])).length≤5:=(by cases b <;> decide);rw [ByteArray.size_append,Jaj];omega
   have hz3:(bs (N++JbU true (r.conds.take i))).size≤1000000:=by rw [Jaj,List.length_append];omega
   have hcat:∀b,bs (N++JbU true (r.conds.take i))++(bs (32::(Jd6 b++ [32]))++JgW (r.conds.getD i cnd0))=bs (N++(JbU true (r.conds.take i)++32::(Jd6 b++32::JP (r.conds.getD i cnd0)))):=fun b=> by
    rw [show JgW (r.conds.getD i cnd0)=bs (JP (r.conds.getD i cnd0)) from rfl,← Jgm,← Jgm];simp
   cases c
   all_goals
    refine Z ?_;refine Ja rfl rfl htx Y1 fun nx2=> ?_;refine Z ?_;refine ⟨Jjq (Nat.le_trans hz Dc) Dc, ?_⟩;refine Z ?_;refine ⟨Jjq (by first | exact hz2 true | exact hz2 false) hz3, ?_⟩;refine Z ?_;exact back (i+1,nx2) Dm Dm (Jh (pm:= []) (bx:= []) [] [] rfl rfl (List.nil_sublist _) Sf Tt Tt ⟨Jg2 (by first | exact (hcat true).trans (congrArg (fun z=> bs (N++z)) hsn.symm) | exact (hcat false).trans (congrArg (fun z=> bs (N++z)) hsn.symm)),Rf,Rf,Jk (JC Dm),Tt⟩)
end Go.Proofs.W

namespace Go.Proofs
open Go.Shelf
shelf_lay Lays.n170 Nm 170 at Tryz as Tryz.lays170
end Go.Proofs
namespace Go.Proofs.W
open Go.Vl Go.Shelf
set_option maxRecDepth 100000
def Jeh (s:Nat) (l:Bts) (bf:Option (Vl.Id×Nat)):List (Vl.Id×Own):=sbH 1 s 104 5 (Lib.byteCells l) bf
theorem JgX (s nx nn:Nat) (l m:Bts) (bf:Option (Vl.Id×Nat)) (h0:bf=none→l= []) (hm:m≠ []) (hl:l.length+m.length≤1000000):
 ECall Tryz.prog 32 [.bp (1,s) 0,strA (bs m)] ⟨Jeh s l bf, [],nx,nn⟩ fun r h'=> r= .tup [.v (.int .i64 m.length), .v .nilIface]∧∃s' cap nx',h'=⟨Jeh s (l++m) (some ((2,s'),cap)), [],nx',nn⟩:=by
 have hc:Lib.byteCells l++Lib.strCells (bs m)=Lib.byteCells (l++m):=by
  show l.map _++m.map _=(l++m).map _;rw [List.map_append]
 have h:=JnV (P:=Tryz.prog) { Tryz.lays156 with} Job ⟨_,Tryz.func32,rfl,rfl⟩ (nm:=1) (s:=s) (nx:=nx) (nn:=nn) 2 (bs:=Lib.byteCells l) (bf:=bf) (fun h=> by rw [h0 h];rfl) (bs m) (by rw [Jaj];exact List.length_pos_iff.2 hm) (by rw [Jaj];show (l.map _).length+_≤_;rw [List.length_map];omega)
 rw [hc] at h
 exact h
theorem Jyj (s nx nn:Nat) (l:Bts) (i:Vl.Id) (cap:Nat):ECall Tryz.prog 35 [.bp (1,s) 0] ⟨Jeh s l (some (i,cap)), [],nx,nn⟩ fun r h'=> r=int l.length∧h'=⟨Jeh s l (some (i,cap)), [],nx,nn⟩:=by
 have h:=JqW (P:=Tryz.prog) Tryz.lays170 ⟨_,Tryz.func35,rfl,rfl⟩ (nm:=1) (s:=s) (nx:=nx) (nn:=nn) (bs:=Lib.byteCells l) (i:=i) (cap:=cap)
 rw [show (Lib.byteCells l).length=l.length from List.length_map _] at h
 exact h
theorem Jrw (s nx nn:Nat) (l:Bts) (hl:l≠ []) (i:Vl.Id) (cap:Nat):ECall Tryz.prog 36 [.bp (1,s) 0] ⟨Jeh s l (some (i,cap)), [],nx,nn⟩ fun r h'=> r=strA (bs l)∧h'=⟨[], [],nx,nn⟩:=
 Jl0 (P:=Tryz.prog) { Tryz.lays156 with} Job ⟨_,Tryz.func36,rfl,rfl⟩ hl
def JgY (p:Pol):List (List Bts):=(Jca::J5 p.dflt)::(if p.x32 then [[Jeg,onW]] else [])
theorem Jeq (a b:List (List Bts)):JR (a++b)=JR a++JR b:=by unfold JR;rw [List.flatMap_append]
theorem Jqt (p:Pol):Jck p=JgY p++p.rules.map Jbo:=rfl
theorem JgI (l:List Bts):JR [l]=JO l++ [10]:=by simp [JR]
theorem Jqu (d:A2):JR [Jca::J5 d]= [100,101,102,97,117,108,116,32]++JO (J5 d)++ [10]:=by
 rw [JgI,show JO (Jca::J5 d)=Jca++32::JO (J5 d) from Jfr (a:= [Jca]) (List.cons_ne_nil _ _) (Jmh d)]
 simp [Jca]
theorem JlF (p:Pol) (hp:RightP p) (hok:p.ok) (hr:p.rules.length≤40):(JR (JgY p)).length≤100∧(JR (Jck p)).length≤40000∧∀i,(JR ((p.rules.take i).map Jbo)).length≤30000:=by
 have h1:(JR (JgY p)).length≤100:=by
  have h2:=JgG hp.dflt;have h3:JgY p= [Jca::J5 p.dflt]++(if p.x32 then [[Jeg,onW]] else []):=rfl;rw [h3,Jeq,Jqu];have h4:(JR (if p.x32 then [[Jeg,onW]] else [])).length≤7:=by split <;> decide
  simp only [List.length_append,List.length_cons,List.length_nil];omega
 have h5:∀i,(JR ((p.rules.take i).map Jbo)).length≤30000:=fun i=> by
  have h6:=Jnr (L:=(p.rules.take i).map Jbo) (m:=700) (fun l hl=> by
   obtain ⟨r,hr,rfl⟩:=List.mem_map.1 hl;have hm:=List.mem_of_mem_take hr;exact JiO (hp.rules r hm) (hok.2 r hm))
  rw [List.length_map,List.length_take] at h6;have:min i p.rules.length≤40:=by omega
  have:=Nat.mul_le_mul_left (700+1) this;omega
 refine ⟨h1, ?_,h5⟩
 have h7:=h5 p.rules.length
 rw [List.take_length] at h7
 rw [Jqt,Jeq,List.length_append]
 omega
theorem Jyk (p:Pol) (hok:p.ok) (h:Jaq p=false):Tells Tryz.prog 10 [polA p] (.tup [strA ⟨#[]⟩,int 13]):=by
 have hr:=Jfb p hok
 rw [h] at hr
 refine Jc Tryz.func10 rfl rfl fun nx=> ?_
 refine Z ?_
 refine Ja rfl rfl hr Y1 fun nx2=> ?_
 refine Z ?_
 exact Jf rfl Tt Rf
theorem Jww (p:Pol) (hok:p.ok) (h:Jaq p=true) (hr40:p.rules.length≤40):Tells Tryz.prog 10 [polA p] (.tup [strA (bs (JR (Jck p))),int 0]):=by
 have hr:=Jfb p hok
 rw [h] at hr
 have hp:=JhU h
 obtain ⟨hs1,hs2,hs3⟩:=JlF p hp hok hr40
 have hat:=JjU p.dflt hp.dflt
 have hal:=JgG hp.dflt
 refine Jc Tryz.func10 rfl rfl fun nx=> ?_
 refine Z ?_
 refine Ja rfl rfl hr Y1 fun nx2=> ?_
 refine JE ?_
 refine JI (fun n=> match n with | 0=> true | _=> false) 1 ?_
 refine AOp.kp (JqU (z:= .agg #[.pointer none, .slice none 0 0]) rfl Kr rfl ?_)
 refine Z ?_
 refine Ja rfl rfl hat Y1 fun nx3=> ?_
 refine Z ?_
 refine ⟨Jjq (b:=bs (JO (J5 p.dflt))) (by rw [Jaj];omega) Dc, ?_⟩
 refine Z ?_
 refine ⟨Jjq Dc (by rw [ByteArray.size_append,Jaj];show 8+_≤_;omega), ?_⟩
 refine Z ?_
 have hw0:=JgX nx2 nx3 2 [] (JR [Jca::J5 p.dflt]) none (fun _=> rfl) (by rw [JgI];simp) (by
  have h3:JgY p= [Jca::J5 p.dflt]++(if p.x32 then [[Jeg,onW]] else []):=rfl;rw [h3,Jeq,List.length_append] at hs1;simp only [List.length_nil];omega)
 refine Jel (xs:= [.bp (1,nx2) 0,strA (bs (JR [Jca::J5 p.dflt]))]) (bx1:=Jeh nx2 [] none) (pm1:= []) [((0,nx), .c [int p.dflt.1,int p.dflt.2,boolA p.x32,JW p.rules])] [] 3 rfl rfl rfl rfl ⟨Rf,Jg2 (by rw [Jqu,Jgm,Jgm];rfl),Tt⟩ hw0 Bf Pf rfl fun r h' hq=> ?_
 obtain ⟨rfl,s1,cap1,nx4,rfl⟩:=hq
 have hpre:JR (JgY p)=JR [Jca::J5 p.dflt]++JR (if p.x32 then [[Jeg,onW]] else []):=Jeq [Jca::J5 p.dflt] _
 have hR:∀i,i < p.rules.length→RightR (p.rules.getD i Jg)∧(p.rules.getD i Jg).ok:=fun i hi=> by
  have hm:p.rules.getD i Jg∈p.rules:=by simp [List.getD,hi]
  exact ⟨hp.rules _ hm,hok.2 _ hm⟩
 rw [Jqt,Jeq] at hs2⊢
 conv=> whnf
 refine Jut ?_
 refine Jij (fun y:Nat×Nat×Nat=> mk 33 [(1, .bp (0,nx) 0),(4, .bp (1,nx2) 0)] ⟨Jeh nx2 (JR (JgY p)) (some ((2,y.1),y.2.1))++ [((0,nx), .c [int p.dflt.1,int p.dflt.2,boolA p.x32,JW p.rules])], [],y.2.2,3⟩) (fun _=> True) ?_ ?_
 ·cases hx:p.x32
  ·have e:JR (JgY p)= []++JR [Jca::J5 p.dflt]:=by rw [hpre,hx];simp [JR]
   rw [e];refine Z ?_;exact ⟨(s1,cap1,nx4),trivial,Et rfl rfl Bf Pf Y2⟩
  ·rw [hx,if_pos rfl] at hpre;refine Z ?_;refine Jel (xs:= [.bp (1,nx2) 0,strA (bs (JR [[Jeg,onW]]))]) (bx1:=Jeh nx2 (JR [Jca::J5 p.dflt]) (some ((2,s1),cap1))) (pm1:= []) [((0,nx), .c [int p.dflt.1,int p.dflt.2,boolA true,JW p.rules])] [] 3 rfl rfl rfl rfl Y2 (JgX nx2 nx4 3 (JR [Jca::J5 p.dflt]) (JR [[Jeg,onW]]) (some ((2,s1),cap1)) (fun h=> by cases h) Dc (by rw [hpre,List.length_append] at hs1;omega)) Bf Pf rfl fun r h' hq=> ?_;obtain ⟨rfl,s2,cap2,nx5,rfl⟩:=hq;rw [← hpre];refine Z ?_;exact ⟨(s2,cap2,nx5),trivial,Et rfl rfl Bf Pf Y2⟩
 ·rintro ⟨s2,cap2,nx5⟩ -;have hT:JR (JgY p)≠ []:=by rw [hpre,JgI];simp
  generalize JR (JgY p) = T at *
  refine Z ?_;refine Jm (fun y:Nat×Nat×Nat×Nat=> mk 33 [(4, .bp (1,nx2) 0),(20,JW p.rules),(21,int p.rules.length),(22,int y.1)] ⟨Jeh nx2 (T++JR ((p.rules.take y.1).map Jbo)) (some ((2,y.2.1),y.2.2.1)), [],y.2.2.2,3⟩) (fun y=> y.1≤p.rules.length) (fun y=> p.rules.length - y.1) ?_ ?_
  ·exact ⟨(0,s2,cap2,nx5),Nat.zero_le _,Jh (pm:= []) (bx:=Jeh nx2 (T++JR []) (some ((2,s2),cap2))) (Jeh nx2 T (some ((2,s2),cap2))) [] rfl rfl (List.sublist_append_left _ _) Sf (by rw [show JR []= [] from rfl,List.append_nil];exact Bf) Tt Y4⟩
  ·rintro ⟨i,s3,cap3,nx6⟩ h1;dsimp only at h1;have h3:=hs3 i;refine Z ?_;intro c g;cases c
   ·have g:=Jn g;obtain rfl:i=p.rules.length:=(by dsimp only at g;omega);rw [List.take_length] at *
    rw [List.length_append] at hs2;refine Z ?_;refine JH (xs:= [.bp (1,nx2) 0]) (bx1:=Jeh nx2 (T++JR (p.rules.map Jbo)) (some ((2,s3),cap3))) (pm1:= []) [] [] 3 rfl rfl rfl rfl Y1 (Jyj nx2 nx6 3 (T++JR (p.rules.map Jbo)) (2,s3) cap3) Bf Pf rfl fun r h' hq=> ?_;obtain ⟨rfl,rfl⟩:=hq;refine Z ?_;intro c hc;obtain rfl:c=false:=hc.trans (decide_eq_false (by rw [List.length_append];omega));refine Z ?_;refine JH (xs:= [.bp (1,nx2) 0]) (bx1:=Jeh nx2 (T++JR (p.rules.map Jbo)) (some ((2,s3),cap3))) (pm1:= []) [] [] 3 rfl rfl rfl rfl Y1 (Jrw nx2 nx6 3 (T++JR (p.rules.map Jbo)) (by simp [hT]) (2,s3) cap3) Bf Pf rfl fun r h' hq=> ?_;obtain ⟨rfl,rfl⟩:=hq;refine Z ?_;exact Jf rfl Tt Rf
   ·have g:=Jo g;have hi:i < p.rules.length:=(by dsimp only at g;omega);obtain ⟨hr1,hr2⟩:=hR i hi;have htx:=Jum _ hr1 hr2;have hrs:=JiO hr1 hr2;have hsn:JR ((p.rules.take (i+1)).map Jbo)=JR ((p.rules.take i).map Jbo)++(JO (Jbo (p.rules.getD i Jg))++ [10]):=by
     rw [Ja9 Jg hi,List.map_append,Jeq,List.map_singleton,JgI]
    have hla:T.length+(JR ((p.rules.take i).map Jbo)).length≤40000:=(by omega);have hM:JO (Jbo (p.rules.getD i Jg))++ [10]≠ []:=(by simp);have hMl:(JO (Jbo (p.rules.getD i Jg))++ [10]).length≤701:=(by rw [List.length_append,List.length_singleton];omega);generalize JO (Jbo (p.rules.getD i Jg)) ++ [10] = M at *
    refine Z ?_;refine ⟨⟨Dm,Dm⟩,Ji (b:= .rp (J7 (p.rules.getD i Jg)).cells) (by dsimp only;rw [Int.toNat_natCast]) ?_⟩;refine Z ?_;refine Ja rfl rfl htx Y1 fun nx7=> ?_;refine Z ?_;refine JH (xs:= [.bp (1,nx2) 0,strA (bs M)]) (bx1:=Jeh nx2 (T++JR ((p.rules.take i).map Jbo)) (some ((2,s3),cap3))) (pm1:= []) [_] [] 4 rfl rfl rfl rfl Y2 (JgX nx2 nx7 4 (T++JR ((p.rules.take i).map Jbo)) M (some ((2,s3),cap3)) (fun h=> by cases h) hM (by rw [List.length_append];omega)) Bf Pf rfl fun r h' hq=> ?_;obtain ⟨rfl,s4,cap4,nx8,rfl⟩:=hq;rw [List.append_assoc,← hsn];refine Z ?_;exact back (i+1,s4,cap4,nx8) Dm Dm (Jh (pm:= []) (bx:=Jeh nx2 (T++JR ((p.rules.take (i+1)).map Jbo)) (some ((2,s4),cap4))) _ _ rfl rfl (.cons _ Sf) Sf Bf Tt ⟨Rf,Rf,Rf,Jk (JC Dm),Tt⟩)
end Go.Proofs.W

namespace Go.Proofs.W
open Go.Vl
set_option maxRecDepth 100000
theorem JlG (r:Rul):NoId (.ag [strA r.name,int r.act.1,int r.act.2,JaT r.conds]):=NoId.ag (by
 intro y hy
 simp only [List.mem_cons,List.not_mem_nil,or_false] at hy
 rcases hy with rfl | rfl | rfl | rfl
 ·exact NoId.v _
 ·exact NoId.v _
 ·exact NoId.v _
 ·refine NoId.sl fun i hi c hc=> ?_;simp only [Jt,AV.cells,List.mem_cons,List.not_mem_nil,or_false] at hc;rcases hc with rfl | rfl | rfl | rfl <;> exact NoId.v _)
theorem Jh4:Tryz.prog.bytesOf 127=32:=by kernel_rfl
theorem Jd8:Tryz.prog.bytesOf 86=56:=by kernel_rfl
theorem Jwx (c:Cnd):Tells Tryz.prog 64 [Jt c] (Jt c):=by
 refine Jc Tryz.func64 rfl rfl fun nx=> ?_
 refine Z ?_
 exact Jf rfl ⟨rfl,Tt⟩ Rf
theorem Jqv (nm:ByteArray) (k n:Int) (cs:List Cnd) (hl:cs.length≤1000000):Tells Tryz.prog 26 [.ag [strA nm,int k,int n,JaT cs]] (.ag [strA nm,int k,int n,JaT cs]):=by
 refine Jc Tryz.func26 rfl rfl fun nx=> ?_
 refine Z ?_
 refine Jm (fun s:Nat×Option Nat×Nat=> mk 34 [(1, .bp (0,nx) 0),(2, .bp (1,nx+1) 0),(3, .bp (2,nx+2) 0),(4,int s.1)] ⟨[((2,nx+2), .c [strA nm,int k,int n, .os 4 s.1 (fun j=> Jt (cs.getD j cnd0)) (nmd s.2.1)]),((1,nx+1), .c [strA ⟨#[]⟩,int 0,int 0, .os 0 0 (fun _=> .any) none]),((0,nx), .c [strA nm,int k,int n,JaT cs])],J2 (nmd s.2.1) (s.1 * 4),s.2.2,3⟩) (fun s=> s.1≤cs.length∧(s.2.1=none→s.1=0)) (fun s=> cs.length - s.1) ?_ ?_
 ·exact ⟨(0,none,nx+3),⟨Nat.zero_le _,fun _=> rfl⟩,Jh (pm:= []) _ [] rfl rfl Sf Sf ⟨rfl,⟨Rf,Rf,Rf,AVle.os_nil,Tt⟩,rfl,OwnLe.refl _,rfl,OwnLe.refl _,Tt⟩ Tt Y4⟩
 ·rintro ⟨i,oi,nx2⟩ ⟨h3,h4⟩;dsimp only at h3 h4;refine Z ?_;intro c h5;cases c
  ·have h6:=Jn h5;dsimp only at h6;obtain rfl:i=cs.length:=by omega
   refine Z ?_;exact Jf rfl ⟨rfl,Tt⟩ (AVle.ags ⟨Rf,Rf,Rf,AVle.os_sl,Tt⟩)
  ·have h6:=Jo h5;dsimp only at h6;have hi:i < cs.length:=by omega
   have hcall:=Jwx (cs.getD i cnd0);refine Z ?_;refine Jaf 11 [((2,nx+2), .c [strA nm,int k,int n, .os 4 i (fun j=> Jt (cs.getD j cnd0)) (nmd oi)]),((1,nx+1), .c [strA ⟨#[]⟩,int 0,int 0, .os 0 0 (fun _=> .any) none]),((0,nx), .c [strA nm,int k,int n,JaT cs])] (Ef [9]) (Ef [7]) [0,1,2,3,4,5,6,7,8,9,10] Kr Kr (HB.refl _) ?_;refine Z ?_;refine ⟨⟨Dm,Dm⟩, ?_⟩;refine Z ?_;refine ⟨_,Jao rfl rfl rfl hcall Y1 (Ju3 _), ?_⟩;refine Z ?_;rcases oi with _ | id
   ·obtain rfl:=h4 rfl;refine ⟨_,JaK (e:=127) (c:=4) (pm:= []) (n:=0) (oi:=none) (sz:=4) (f:=fun j=> Jt (cs.getD j cnd0)) (HB.refl _) rfl rfl rfl (.inr ⟨_,rfl⟩) Kr Kr Kr (.inr rfl) Kr (List.append_nil _).symm (JG rfl) (by rw [Jh4];omega) Om,fun r h' hr=> ?_⟩;obtain ⟨rfl,rfl⟩:=hr;refine Z ?_;refine back (0+1,some nx2,nx2+1) ⟨Dm,(fun h=> by cases h)⟩ Dm (Et (pm:= [((0,nx2),(0+1) * 4)]) rfl rfl ⟨rfl,⟨Rf,Rf,Rf,(AVle.os_fun (JbW (fun k h=> absurd h (Nat.not_lt_zero k)) ?_)).trans (AVle.os_nm rfl),Tt⟩,rfl,OwnLe.refl _,rfl,OwnLe.refl _,Tt⟩ ⟨rfl,rfl,Tt⟩ ⟨Rf,Rf,Rf,Jk (JC Dm),Tt⟩);rfl
   ·refine ⟨_,JaK (e:=127) (c:=4) (pm:= []) (n:=i) (oi:=some (0,id)) (sz:=4) (f:=fun j=> Jt (cs.getD j cnd0)) (HB.refl _) rfl rfl rfl (.inr ⟨_,rfl⟩) Kr Kr Kr (.inr rfl) Kr (List.append_nil _).symm (JG rfl) (by rw [Jh4];omega) Om,fun r h' hr=> ?_⟩;obtain ⟨rfl,rfl⟩:=hr;refine Z ?_;refine back (i+1,some nx2,nx2+1) ⟨Dm,(fun h=> by cases h)⟩ Dm (Et (pm:= [((0,nx2),(i+1) * 4)]) rfl rfl ⟨rfl,⟨Rf,Rf,Rf,(AVle.os_fun (JbW (fun k hk=> rfl) ?_)).trans (AVle.os_nm rfl),Tt⟩,rfl,OwnLe.refl _,rfl,OwnLe.refl _,Tt⟩ ⟨rfl,rfl,Tt⟩ ⟨Rf,Rf,Rf,Jk (JC Dm),Tt⟩);rfl
theorem JzB (k n:Int) (rs:List Rul) (hl:rs.length≤1000000) (hc:∀r∈rs,r.conds.length≤1000000):Tells Tryz.prog 7 [.ag [int k,int n,boolA true,JW rs]] (.ag [int k,int n,boolA true,JW rs]):=by
 refine Jc Tryz.func7 rfl rfl fun nx=> ?_
 refine Z ?_
 refine Jm (fun s:Nat×Option Nat×Nat=> mk 34 [(1, .bp (0,nx) 0),(2, .bp (1,nx+1) 0),(3, .bp (2,nx+2) 0),(4,int s.1)] ⟨[((2,nx+2), .c [int k,int n,boolA true, .os 4 s.1 (fun j=> J7 (rs.getD j Jg)) (nmd s.2.1)]),((1,nx+1), .c [int 0,int 0,boolA false, .os 0 0 (fun _=> .any) none]),((0,nx), .c [int k,int n,boolA true,JW rs])],J2 (nmd s.2.1) (s.1 * 4),s.2.2,3⟩) (fun s=> s.1≤rs.length∧(s.2.1=none→s.1=0)) (fun s=> rs.length - s.1) ?_ ?_
 ·exact ⟨(0,none,nx+3),⟨Nat.zero_le _,fun _=> rfl⟩,Jh (pm:= []) _ [] rfl rfl Sf Sf ⟨rfl,⟨Rf,Rf,Rf,AVle.os_nil,Tt⟩,rfl,OwnLe.refl _,rfl,OwnLe.refl _,Tt⟩ Tt Y4⟩
 ·rintro ⟨i,oi,nx2⟩ ⟨h3,h4⟩;dsimp only at h3 h4;refine Z ?_;intro c h5;cases c
  ·have h6:=Jn h5;dsimp only at h6;obtain rfl:i=rs.length:=by omega
   refine Z ?_;exact Jf rfl ⟨rfl,Tt⟩ (AVle.ags ⟨Rf,Rf,Rf,AVle.os_sl,Tt⟩)
  ·have h6:=Jo h5;dsimp only at h6;have hi:i < rs.length:=by omega
   have hcall:=Jqv (rs.getD i Jg).name (rs.getD i Jg).act.1 (rs.getD i Jg).act.2 (rs.getD i Jg).conds (hc _ (by simp [List.getD,hi]));refine Z ?_;refine Jaf 11 [((2,nx+2), .c [int k,int n,boolA true, .os 4 i (fun j=> J7 (rs.getD j Jg)) (nmd oi)]),((1,nx+1), .c [int 0,int 0,boolA false, .os 0 0 (fun _=> .any) none]),((0,nx), .c [int k,int n,boolA true,JW rs])] (Ef [9]) (Ef [7]) [0,1,2,3,4,5,6,7,8,9,10] Kr Kr (HB.refl _) ?_;refine Z ?_;refine ⟨⟨Dm,Dm⟩, ?_⟩;refine Z ?_;refine ⟨_,Jao rfl rfl rfl hcall Y1 (JlG (rs.getD i Jg)), ?_⟩;refine Z ?_;rcases oi with _ | id
   ·obtain rfl:=h4 rfl;refine ⟨_,JaK (e:=86) (c:=4) (pm:= []) (n:=0) (oi:=none) (sz:=4) (f:=fun j=> J7 (rs.getD j Jg)) (HB.refl _) rfl rfl rfl (.inr ⟨_,rfl⟩) Kr Kr Kr (.inr rfl) Kr (List.append_nil _).symm (JG rfl) (by rw [Jd8];omega) Om,fun r h' hr=> ?_⟩;obtain ⟨rfl,rfl⟩:=hr;refine Z ?_;refine back (0+1,some nx2,nx2+1) ⟨Dm,(fun h=> by cases h)⟩ Dm (Et (pm:= [((0,nx2),(0+1) * 4)]) rfl rfl ⟨rfl,⟨Rf,Rf,Rf,(AVle.os_fun (JbW (fun k h=> absurd h (Nat.not_lt_zero k)) ?_)).trans (AVle.os_nm rfl),Tt⟩,rfl,OwnLe.refl _,rfl,OwnLe.refl _,Tt⟩ ⟨rfl,rfl,Tt⟩ ⟨Rf,Rf,Rf,Jk (JC Dm),Tt⟩);rfl
   ·refine ⟨_,JaK (e:=86) (c:=4) (pm:= []) (n:=i) (oi:=some (0,id)) (sz:=4) (f:=fun j=> J7 (rs.getD j Jg)) (HB.refl _) rfl rfl rfl (.inr ⟨_,rfl⟩) Kr Kr Kr (.inr rfl) Kr (List.append_nil _).symm (JG rfl) (by rw [Jd8];omega) Om,fun r h' hr=> ?_⟩;obtain ⟨rfl,rfl⟩:=hr;refine Z ?_;refine back (i+1,some nx2,nx2+1) ⟨Dm,(fun h=> by cases h)⟩ Dm (Et (pm:= [((0,nx2),(i+1) * 4)]) rfl rfl ⟨rfl,⟨Rf,Rf,Rf,(AVle.os_fun (JbW (fun k hk=> rfl) ?_)).trans (AVle.os_nm rfl),Tt⟩,rfl,OwnLe.refl _,rfl,OwnLe.refl _,Tt⟩ ⟨rfl,rfl,Tt⟩ ⟨Rf,Rf,Rf,Jk (JC Dm),Tt⟩);rfl
theorem JzC (k n:Int) (rs:List Rul) (hl:rs.length≤1000000) (hc:∀r∈rs,r.conds.length≤1000000):Tells Tryz.prog 7 [.ag [int k,int n,boolA false,JW rs]] (.ag [int k,int n,boolA false,JW rs]):=by
 refine Jc Tryz.func7 rfl rfl fun nx=> ?_
 refine Z ?_
 refine Jm (fun s:Nat×Option Nat×Nat=> mk 34 [(1, .bp (0,nx) 0),(2, .bp (1,nx+1) 0),(3, .bp (2,nx+2) 0),(4,int s.1)] ⟨[((2,nx+2), .c [int k,int n,boolA false, .os 4 s.1 (fun j=> J7 (rs.getD j Jg)) (nmd s.2.1)]),((1,nx+1), .c [int 0,int 0,boolA false, .os 0 0 (fun _=> .any) none]),((0,nx), .c [int k,int n,boolA false,JW rs])],J2 (nmd s.2.1) (s.1 * 4),s.2.2,3⟩) (fun s=> s.1≤rs.length∧(s.2.1=none→s.1=0)) (fun s=> rs.length - s.1) ?_ ?_
 ·exact ⟨(0,none,nx+3),⟨Nat.zero_le _,fun _=> rfl⟩,Jh (pm:= []) _ [] rfl rfl Sf Sf ⟨rfl,⟨Rf,Rf,Rf,AVle.os_nil,Tt⟩,rfl,OwnLe.refl _,rfl,OwnLe.refl _,Tt⟩ Tt Y4⟩
 ·rintro ⟨i,oi,nx2⟩ ⟨h3,h4⟩;dsimp only at h3 h4;refine Z ?_;intro c h5;cases c
  ·have h6:=Jn h5;dsimp only at h6;obtain rfl:i=rs.length:=by omega
   refine Z ?_;exact Jf rfl ⟨rfl,Tt⟩ (AVle.ags ⟨Rf,Rf,Rf,AVle.os_sl,Tt⟩)
  ·have h6:=Jo h5;dsimp only at h6;have hi:i < rs.length:=by omega
   have hcall:=Jqv (rs.getD i Jg).name (rs.getD i Jg).act.1 (rs.getD i Jg).act.2 (rs.getD i Jg).conds (hc _ (by simp [List.getD,hi]));refine Z ?_;refine Jaf 11 [((2,nx+2), .c [int k,int n,boolA false, .os 4 i (fun j=> J7 (rs.getD j Jg)) (nmd oi)]),((1,nx+1), .c [int 0,int 0,boolA false, .os 0 0 (fun _=> .any) none]),((0,nx), .c [int k,int n,boolA false,JW rs])] (Ef [9]) (Ef [7]) [0,1,2,3,4,5,6,7,8,9,10] Kr Kr (HB.refl _) ?_;refine Z ?_;refine ⟨⟨Dm,Dm⟩, ?_⟩;refine Z ?_;refine ⟨_,Jao rfl rfl rfl hcall Y1 (JlG (rs.getD i Jg)), ?_⟩;refine Z ?_;rcases oi with _ | id
   ·obtain rfl:=h4 rfl;refine ⟨_,JaK (e:=86) (c:=4) (pm:= []) (n:=0) (oi:=none) (sz:=4) (f:=fun j=> J7 (rs.getD j Jg)) (HB.refl _) rfl rfl rfl (.inr ⟨_,rfl⟩) Kr Kr Kr (.inr rfl) Kr (List.append_nil _).symm (JG rfl) (by rw [Jd8];omega) Om,fun r h' hr=> ?_⟩;obtain ⟨rfl,rfl⟩:=hr;refine Z ?_;refine back (0+1,some nx2,nx2+1) ⟨Dm,(fun h=> by cases h)⟩ Dm (Et (pm:= [((0,nx2),(0+1) * 4)]) rfl rfl ⟨rfl,⟨Rf,Rf,Rf,(AVle.os_fun (JbW (fun k h=> absurd h (Nat.not_lt_zero k)) ?_)).trans (AVle.os_nm rfl),Tt⟩,rfl,OwnLe.refl _,rfl,OwnLe.refl _,Tt⟩ ⟨rfl,rfl,Tt⟩ ⟨Rf,Rf,Rf,Jk (JC Dm),Tt⟩);rfl
   ·refine ⟨_,JaK (e:=86) (c:=4) (pm:= []) (n:=i) (oi:=some (0,id)) (sz:=4) (f:=fun j=> J7 (rs.getD j Jg)) (HB.refl _) rfl rfl rfl (.inr ⟨_,rfl⟩) Kr Kr Kr (.inr rfl) Kr (List.append_nil _).symm (JG rfl) (by rw [Jd8];omega) Om,fun r h' hr=> ?_⟩;obtain ⟨rfl,rfl⟩:=hr;refine Z ?_;refine back (i+1,some nx2,nx2+1) ⟨Dm,(fun h=> by cases h)⟩ Dm (Et (pm:= [((0,nx2),(i+1) * 4)]) rfl rfl ⟨rfl,⟨Rf,Rf,Rf,(AVle.os_fun (JbW (fun k hk=> rfl) ?_)).trans (AVle.os_nm rfl),Tt⟩,rfl,OwnLe.refl _,rfl,OwnLe.refl _,Tt⟩ ⟨rfl,rfl,Tt⟩ ⟨Rf,Rf,Rf,Jk (JC Dm),Tt⟩);rfl
theorem Jst (p:Pol) (hl:p.rules.length≤1000000) (hc:∀r∈p.rules,r.conds.length≤1000000):Tells Tryz.prog 7 [polA p] (polA p):=by
 obtain ⟨⟨k,n⟩,x,rs⟩:=p
 cases x
 ·exact JzC k n rs hl hc
 ·exact JzB k n rs hl hc
theorem Jwy (p:Pol) (hl:p.rules.length≤maxLen):Tells Tryz.prog 4 [polA p] (boolA (JeC p)):=by
 obtain ⟨⟨k,n⟩,x,rs⟩:=p
 dsimp only at hl
 refine Jc Tryz.func4 rfl rfl fun nx=> ?_
 refine Z ?_
 intro c g1;cases c
 rotate_left
 ·refine Z ?_;have g1:((rs.length:Nat):Int) > 40:=Jo g1;exact Jb rfl (Jp (by show false=(decide (rs.length≤40)&& _);rw [decide_eq_false Om];rfl))
 have g1:¬((rs.length:Nat):Int) > 40:=Jn g1
 have h40:rs.length≤40:=by omega
 refine Z ?_
 refine Jm (fun s:Nat×Nat=> mk 33 [(1, .bp (0,nx) 0),(3,int s.1)] ⟨[((0,nx), .c [int k,int n,boolA x,JW rs])], [],s.2,1⟩) (fun s=> s.1≤rs.length∧∀j,j < s.1→Jd0 (rs.getD j Jg)=true) (fun s=> rs.length - s.1) ?_ ?_
 ·exact ⟨(0,nx+1),⟨Nat.zero_le _,fun j h=> absurd h (Nat.not_lt_zero _)⟩,Jh (pm:= []) _ [] rfl rfl Sf Sf ⟨rfl,OwnLe.refl _,Tt⟩ Tt Y2⟩
 ·rintro ⟨i,nx2⟩ ⟨h3,h4⟩;dsimp only at h3 h4;refine Z ?_;intro c h5;cases c
  ·have h6:=Jn h5;dsimp only at h6;obtain rfl:i=rs.length:=by omega
   refine Z ?_;refine Jb rfl (Jp ?_);show true=(decide (rs.length≤40)&& rs.all Jd0);rw [decide_eq_true h40,Bool.true_and,eq_comm,List.all_eq_true];intro r hr;obtain ⟨j,hj,rfl⟩:=List.getElem_of_mem hr;have:=h4 j hj;simpa [List.getD,hj] using this
  ·have h6:=Jo h5;dsimp only at h6;have hi:i < rs.length:=by omega
   have hbad:∀b:Bool,Jd0 (rs.getD i Jg)=false→false=JeC ⟨(k,n),x,rs⟩:=fun b hb=> by
    show false=(decide (rs.length≤40)&& rs.all Jd0);rw [decide_eq_true h40,Bool.true_and,eq_comm,List.all_eq_false];exact ⟨rs.getD i Jg,by simp [List.getD,hi],by rw [hb];decide⟩
   refine Z ?_;refine ⟨⟨Dm,Dm⟩, ?_⟩;refine Z ?_;intro c t1;cases c
   ·have t1:¬(((rs.getD i Jg).name.size:Nat):Int) > 60:=Jn t1;refine Z ?_;refine ⟨⟨Dm,Dm⟩, ?_⟩;refine Z ?_;intro c t2;cases c
    ·have t2:¬(((rs.getD i Jg).conds.length:Nat):Int) > 12:=Jn t2;refine Z ?_;refine back (i+1,nx2) ⟨Dm,fun j hj=> ?_⟩ Dm (Jh (pm:= []) _ [] rfl rfl Sf Sf ⟨rfl,OwnLe.refl _,Tt⟩ Tt ⟨Rf,Jk (JC Dm),Tt⟩);dsimp only at hj;rcases Nat.lt_or_ge j i with h | h
     ·exact h4 j h
     ·obtain rfl:j=i:=(by omega);unfold Jd0;rw [decide_eq_true Om,decide_eq_true Om];rfl
    ·have t2:(((rs.getD i Jg).conds.length:Nat):Int) > 12:=Jo t2;refine Z ?_;exact Jb rfl (Jp (hbad true (by unfold Jd0;rw [decide_eq_false (p:=(rs.getD i Jg).conds.length≤12) Om,Bool.and_false])))
   ·have t1:(((rs.getD i Jg).name.size:Nat):Int) > 60:=Jo t1;refine Z ?_;exact Jb rfl (Jp (hbad true (by unfold Jd0;rw [decide_eq_false (p:=(rs.getD i Jg).name.size≤60) Om,Bool.false_and])))
theorem JiV:Tryz.prog.bytesOf 73=72:=by kernel_rfl
theorem Jqw (l:List TRow) (hl:l.length≤1000000):Tells Tryz.prog 8 [trows l] (trows l):=by
 refine Jc Tryz.func8 rfl rfl fun nx=> ?_
 refine Z ?_
 refine Jm (fun s:Nat×Option Nat×Nat=> mk 36 [(0,trows l),(3, .os 8 s.1 (fun j=> Jj (l.getD j Jd)) (nmd s.2.1)),(4,int s.1)] ⟨[],J2 (nmd s.2.1) (s.1 * 8),s.2.2,1⟩) (fun s=> s.1≤l.length∧(s.2.1=none→s.1=0)) (fun s=> l.length - s.1) ?_ ?_
 ·exact ⟨(0,none,nx),⟨Nat.zero_le _,fun _=> rfl⟩,Jh (pm:= []) _ [] rfl rfl Sf Sf Tt Tt ⟨Rf,AVle.os_nil,Y1⟩⟩
 ·rintro ⟨i,oi,nx2⟩ ⟨h3,h4⟩;dsimp only at h3 h4;refine Z ?_;intro c h5;cases c
  ·have h6:=Jn h5;dsimp only at h6;obtain rfl:i=l.length:=by omega
   rcases oi with _ | id
   all_goals
    refine Z ?_;exact Jb rfl AVle.os_sl
  ·have h6:=Jo h5;dsimp only at h6;have hi:i < l.length:=by omega
   refine Z ?_;refine Jaf 25 _ (Ef [23]) (Ef [10]) [0,1,2,3,4,5,6,7,8,9,10,11,12,13,14,15,16,17,18,19,20,21,22,23,24] Kr Kr (HB.refl _) ?_;refine Z ?_;refine ⟨⟨Dm,Dm⟩, ?_⟩;refine Z ?_;refine ⟨⟨Dm,Dm⟩, ?_⟩;refine Z ?_;refine ⟨JzU (l.getD i Jd),JfI rfl rfl (by first | trivial | exact ⟨rfl,Nat.le_of_ble_eq_true rfl⟩), ?_⟩;refine Z ?_;refine ⟨⟨Dm,Dm⟩, ?_⟩;refine Z ?_;refine ⟨⟨Dm,Dm⟩, ?_⟩;refine Z ?_;rcases oi with _ | id
   ·obtain rfl:=h4 rfl;refine ⟨_,JaK (e:=73) (c:=8) (pm:= []) (n:=0) (oi:=none) (sz:=8) (f:=fun j=> Jj (l.getD j Jd)) (HB.refl _) rfl rfl rfl (.inr ⟨_,rfl⟩) Kr Kr Kr (.inr rfl) Kr (List.append_nil _).symm (JG rfl) (by rw [JiV];omega) Om,fun r h' hr=> ?_⟩;obtain ⟨rfl,rfl⟩:=hr;refine Z ?_;refine back (0+1,some nx2,nx2+1) ⟨Dm,(fun h=> by cases h)⟩ Dm (Et (pm:= [((0,nx2),(0+1) * 8)]) rfl rfl Tt ⟨rfl,rfl,Tt⟩ ⟨Rf,(AVle.os_fun (JbW (fun k hk=> absurd hk (Nat.not_lt_zero k)) ?_)).trans (AVle.os_nm rfl),Jk (JC Dm),Tt⟩);rfl
   ·refine ⟨_,JaK (e:=73) (c:=8) (pm:= []) (n:=i) (oi:=some (0,id)) (sz:=8) (f:=fun j=> Jj (l.getD j Jd)) (HB.refl _) rfl rfl rfl (.inr ⟨_,rfl⟩) Kr Kr Kr (.inr rfl) Kr (List.append_nil _).symm (JG rfl) (by rw [JiV];omega) Om,fun r h' hr=> ?_⟩;obtain ⟨rfl,rfl⟩:=hr;refine Z ?_;refine back (i+1,some nx2,nx2+1) ⟨Dm,(fun h=> by cases h)⟩ Dm (Et (pm:= [((0,nx2),(i+1) * 8)]) rfl rfl Tt ⟨rfl,rfl,Tt⟩ ⟨Rf,(AVle.os_fun (JbW (fun k hk=> rfl) ?_)).trans (AVle.os_nm rfl),Jk (JC Dm),Tt⟩);rfl
theorem Jun (l:List TRow) (hl:l.length≤maxLen) (hn:∀r∈l,r.name.size≤maxLen):Tells Tryz.prog 5 [trows l] (boolA (Jj8 l)):=by
 refine Jc Tryz.func5 rfl rfl fun nx=> ?_
 refine Z ?_
 by_cases hf:l.length≤40
 rotate_left
 ·refine Z ?_;intro c h1;cases c
  ·exact absurd (Jn h1) Bo
  refine Z ?_;exact Jb rfl (Jp (by unfold Jj8;rw [decide_eq_false hf];rfl))
 ·refine Z ?_;intro c h1;cases c
  rotate_left
  ·exact absurd (Jo h1) Bo
  refine Z ?_;refine Jm (fun s:Nat×Nat=> mk 20 [(0,trows l),(3,int s.1)] ⟨[], [],s.2,0⟩) (fun s=> s.1≤l.length∧∀j,j < s.1→(l.getD j Jd).name.size≤60) (fun s=> l.length - s.1) ?_ ?_
  ·exact ⟨(0,nx),⟨Nat.zero_le _,fun j hj=> absurd hj (Nat.not_lt_zero j)⟩,Jax rfl rfl Y2⟩
  ·rintro ⟨i,nx2⟩ ⟨h3,h4⟩;dsimp only at h3 h4;refine Z ?_;intro c h5;cases c
   ·have h6:=Jn h5;dsimp only at h6;obtain rfl:i=l.length:=(by omega);refine Z ?_;refine Jb rfl (Jp ?_);unfold Jj8;rw [decide_eq_true hf]
    symm
    simp only [Bool.true_and,Bool.not_eq_true',List.any_eq_false,decide_eq_true_eq];intro r hr;obtain ⟨j,hj,rfl⟩:=List.mem_iff_getElem.1 hr;have:=h4 j hj;simp [List.getD,hj] at this;omega
   ·have h6:=Jo h5;dsimp only at h6;have hi:i < l.length:=(by omega);have hnm:=hn (l.getD i Jd) (by simp [List.getD,hi]);refine Z ?_;refine ⟨⟨Dm,Dm⟩, ?_⟩;refine Z ?_;intro c h7;cases c
    ·have h7:=Jn h7;dsimp only at h7;rw [Int.toNat_natCast] at h7;refine Z ?_;exact back (i+1,nx2) ⟨hi,fun j hj=> by dsimp only at hj;rcases Nat.lt_or_ge j i with q | q;exact h4 j q;rw [show j=i by omega];omega⟩ Dm (Jax rfl rfl ⟨Rf,Jk (JC Dm),Tt⟩)
    ·have h7:=Jo h7;dsimp only at h7;rw [Int.toNat_natCast] at h7;refine Z ?_;refine Jb rfl (Jp ?_);unfold Jj8
     symm
     rw [Bool.and_eq_false_iff]
     right
     simp only [Bool.not_eq_false',List.any_eq_true,decide_eq_true_eq];exact ⟨l.getD i Jd,by simp [List.getD,hi],Om⟩
end Go.Proofs.W
