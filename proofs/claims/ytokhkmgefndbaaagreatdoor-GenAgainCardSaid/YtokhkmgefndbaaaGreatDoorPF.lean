import Derived.Test.YtokhkmgefndbaaaGreatDoorPE
import Derived.Test.YtokhkmgefndbaaaGreatDoorPC
import Derived.Test.YtokhkmgefndbaaaGreatDoorPD
import Derived.Shelf.SlSortCmp.WholeK
import Derived.Shelf.Small.Bits
import Derived.Shelf.Lay
import Derived.Ground.SlsfProg
import Derived.Ground.SlgcProg
import Derived.Ground.NamesProg
import Derived.Lib.Walk
import Derived.Lib.ItoaMem
import Derived.Sort.WalkA
import Derived.Shelf.Strings.OnBuilder
import Derived.Shelf.SlicesG.CompactS
import Derived.Ground.SlgnProg
import Derived.Shelf.SortM.Plain
import Derived.Shelf.SortM.SortNone
import Derived.Shelf.SlGeneric
import Derived.Ground.SlgmProg
set_option linter.unusedVariables false
set_option linter.unusedSimpArgs false
namespace Go.Proofs.W
open Go.Vl
set_option maxRecDepth 100000
def JfQ (l:List TRow) (r:Rul):Bool:=decide ((JaT l r.name).mux > 0)&& decide (0 < r.conds.length)
theorem Jwk (l:List TRow) (r:Rul) (hl:l.length≤1000000) (hs:Jip l r.name):Tells Tryz.prog 60 (JaF r:: [.rp [JZ l]]) (Ji (JfQ l r)):=by
 have hw:=JvL l r.name hl hs
 unfold JfQ
 generalize decide ((JaT l r.name).mux > 0)=b at hw⊢
 generalize (Jbj l r.name&& decide ((JaT l r.name).a2≥0))=b2 at hw
 refine Jd Tryz.func60 rfl rfl fun nx=> ?_
 refine stp ?_
 refine Ja rfl rfl hw ⟨Rf,Rf,trivial⟩ fun nx2=> ?_
 refine stp ?_
 intro c1 hc1
 subst hc1
 refine stp ?_
 intro c e1;cases c
 ·have hb:b=false:=e1.symm
  subst hb
  refine stp ?_
  exact Jb rfl Rf
 ·have hb:b=true:=e1.symm
  subst hb
  refine stp ?_
  intro c2 hc2
  have e2:decide (0 < r.conds.length)=c2:=by
   rw [hc2]
   by_cases h0:0 < r.conds.length
   ·rw [decide_eq_true h0];exact (decide_eq_true Om).symm
   ·rw [decide_eq_false h0];exact (decide_eq_false Om).symm
  rw [e2]
  clear hc2 e2
  cases c2 <;> (refine stp ?_;exact Jb rfl Rf)
theorem Jwl (x:List AV) (l:List Rul) (p:Rul→Bool) (f:Nat) (hl:l.length≤1000000000) (hp:∀i,i < l.length→Tells Tryz.prog f (JaF (l.getD i Jo):: [.rp x]) (Ji (p (l.getD i Jo)))):
 Tells Tryz.prog 59 [JK 4 JaF Jo l,(.fn (.func f) [] [.rp x])] (int (JkI (l.findIdx? p))):=by
 refine Jd Tryz.func59 rfl rfl fun nx=> ?_
 refine stp ?_
 refine Js (fun s:Nat×Nat=> mk 19 [(0,JK 4 JaF Jo l),(1,(.fn (.func f) [] [.rp x])),(7,int l.length),(8,int s.1)] ⟨[], [],s.2,0⟩) (fun s=> s.1≤l.length∧∀j,j < s.1→p (l.getD j Jo)=false) (fun s=> l.length - s.1) ?_ ?_
 ·exact ⟨(0,nx),⟨by simp,by intro j hj;simp at hj⟩,JaX rfl rfl ⟨Rf,Rf,Rf,Rf,trivial⟩⟩
 ·rintro ⟨i,nx⟩ ⟨h1,h2⟩
  dsimp only at h1 h2
  refine stp ?_
  intro c h3;cases c
  ·have h3:=Jw h3
   dsimp only at h3
   refine stp ?_
   refine Jb rfl (Jg ?_)
   rw [JgF Jo (fun j hj=> h2 j Om)];rfl
  ·have h3:=Jv h3
   dsimp only at h3
   have hi:i < l.length:=by omega
   refine stp ?_
   refine ⟨⟨by dsimp only;omega,by dsimp only;omega⟩, ?_⟩
   refine stp ?_
   refine Ja rfl rfl (hp i hi) ⟨Rf,Rf,trivial⟩ fun nx'=> ?_
   intro c h4;cases c
   ·refine stp ?_
    refine back (i+1,nx') ⟨by dsimp only;omega,fun j hj=> ?_⟩ Dm (JaX rfl rfl ⟨Rf,Rf,Rf,Jg (Jz Dm),trivial⟩)
    dsimp only at hj
    rcases Nat.lt_or_ge j i with h | h
    ·exact h2 j h
    ·obtain rfl:j=i:=by omega
     exact h4.symm
   ·refine stp ?_
    refine Jb rfl (Jg ?_)
    rw [Jjc Jo hi h2 h4.symm];rfl
theorem Jz6 {α:Type} {l:List α} {p:α→Bool} {i:Nat} (h:l.findIdx? p=some i):i < l.length:=(List.findIdx?_eq_some_iff_getElem.1 h).1
def Jyp (p:Pol) (l:List TRow):AV:=match p.rules.findIdx? (JfQ l) with
 | none=> .tup [int 0,Ji true]
 | some i=> .tup [int i,Ji false]
theorem JmY (p:Pol) (l:List TRow) (hp:p.rules.length≤1000000) (hl:l.length≤1000000) (hs:JmQ l):Tells Tryz.prog 18 [Jc0 p,JZ l] (Jyp p l):=by
 have hx:=Jwl [JZ l] p.rules (JfQ l) 60 Om fun i _=> Jwk l _ hl (Jhy hs _)
 unfold Jyp
 cases hi:p.rules.findIdx? (JfQ l) with
 | none=>
   rw [hi] at hx
   refine Jd Tryz.func18 rfl rfl fun nx=> ?_
   (refine Jy ?_;refine JQ ?_;refine Jy ?_)
   refine Ja7 (n:=15) (nx:=nx+2) (nn:=2) (pm:= []) (bx:= []) (L:= [(2, .rp [int p.dflt.1,int p.dflt.2,Ji p.x32,Jaj p.rules]),(3, .rp [JZ l]),(4,int 0),(5,Ji false)]) (df:=some []) [((1,nx+1), .c [JZ l]),((0,nx), .c [int p.dflt.1,int p.dflt.2,Ji p.x32,Jaj p.rules])] rfl rfl rfl (List.Perm.refl _) Sf ⟨Frz.bp (.tail _ (.head _)) rfl,Frz.bp (.head _) rfl,Frz.refl _,Frz.refl _,trivial⟩ ?_
   refine stp ?_
   refine Ja rfl rfl hx ⟨Rf,Rf,trivial⟩ fun nx2=> ?_
   refine stp ?_
   exact Jl rfl trivial (AVle.of_eq rfl)
 | some i=>
   have hlt:=Jz6 hi
   rw [hi] at hx
   refine Jd Tryz.func18 rfl rfl fun nx=> ?_
   (refine Jy ?_;refine JQ ?_;refine Jy ?_)
   refine Ja7 (n:=15) (nx:=nx+2) (nn:=2) (pm:= []) (bx:= []) (L:= [(2, .rp [int p.dflt.1,int p.dflt.2,Ji p.x32,Jaj p.rules]),(3, .rp [JZ l]),(4,int 0),(5,Ji false)]) (df:=some []) [((1,nx+1), .c [JZ l]),((0,nx), .c [int p.dflt.1,int p.dflt.2,Ji p.x32,Jaj p.rules])] rfl rfl rfl (List.Perm.refl _) Sf ⟨Frz.bp (.tail _ (.head _)) rfl,Frz.bp (.head _) rfl,Frz.refl _,Frz.refl _,trivial⟩ ?_
   refine stp ?_
   refine Ja rfl rfl hx ⟨Rf,Rf,trivial⟩ fun nx2=> ?_
   refine stp ?_
   exact Jl rfl trivial (AVle.tups (cs:= [_,_]) ⟨Jg (if_neg (show ¬(0:Int) > (i:Int) by omega)),Rf,trivial⟩)
end Go.Proofs.W

namespace Go.Proofs.W
open Go.Vl
set_option maxRecDepth 100000
end Go.Proofs.W

namespace Go.Proofs.W
open Go.Vl
set_option maxRecDepth 100000
end Go.Proofs.W

namespace Go.Proofs.W
open Go.Vl
set_option maxRecDepth 100000
end Go.Proofs.W

namespace Go.Proofs.W
open Go.Vl
set_option maxRecDepth 100000
end Go.Proofs.W

namespace Go.Proofs.W
open Go.Vl
set_option maxRecDepth 100000
end Go.Proofs.W

namespace Go.Proofs.W
open Go.Vl
set_option maxRecDepth 100000
end Go.Proofs.W

namespace Go.Proofs.W
open Go.Vl
set_option maxRecDepth 100000
theorem JBd {l:List TRow} (h:JkK l=true):l.length≤40∧∀r∈l,r.name.size≤60:=by
 unfold JkK at h
 simp only [Bool.and_eq_true,decide_eq_true_eq,Bool.not_eq_true',List.any_eq_false] at h
 exact ⟨h.1,fun r hr=> by have:=h.2 r hr;omega⟩
end Go.Proofs.W

namespace Go.Proofs.W
open Go.Vl
set_option maxRecDepth 100000
end Go.Proofs.W

namespace Go.Proofs.W
open Go.Vl
set_option maxRecDepth 100000
def JBX (a:Int) (x:Nat):Nat:=if a=2 then x % 4294967296 else x
def hR (a:Int) (x:Nat→Nat) (c:Cnd):Bool:=JhI c (JBX a (x c.arg.toNat))
end Go.Proofs.W

namespace Go.Proofs.W
open Go.Vl
set_option maxRecDepth 100000
end Go.Proofs.W

namespace Go.Proofs.W
open Go.Vl
set_option maxRecDepth 100000
end Go.Proofs.W

namespace Go.Proofs.W
open Go.Vl
set_option maxRecDepth 100000
end Go.Proofs.W

namespace Go.Proofs.W
open Go.Vl
set_option maxRecDepth 100000
end Go.Proofs.W

namespace Go.Proofs.W
open Go.Vl
set_option maxRecDepth 100000
end Go.Proofs.W

namespace Go.Proofs.W
open Go.Vl
set_option maxRecDepth 100000
end Go.Proofs.W

namespace Go.Proofs.W
open Go.Vl
set_option maxRecDepth 100000
theorem Juw {p:Pol} (h:JfK p=true):p.rules.length≤40∧∀r∈p.rules,r.conds.length≤12:=by
 unfold JfK at h
 simp only [Bool.and_eq_true,decide_eq_true_eq,List.all_eq_true] at h
 refine ⟨h.1,fun r hr=> ?_⟩
 have:=h.2 r hr
 unfold JeD at this
 simp only [Bool.and_eq_true,decide_eq_true_eq] at this
 exact this.2
theorem Jyq {p:Pol} (hp:p.ok) (h:JfK p=true):JBP p:=by
 obtain ⟨h1,h2⟩:=Juw h
 exact ⟨by omega,fun r hr=> ⟨by have:=h2 r hr;omega,(hp.2 r hr).2.2⟩⟩
end Go.Proofs.W

namespace Go.Proofs.W
open Go.Vl
set_option maxRecDepth 100000
theorem Jwm {r n:Rul} (h:JbK r=some n) (hc:∀c∈r.conds,c.ok):∀c∈n.conds,c.ok:=(JhB h).2.2 hc
end Go.Proofs.W

namespace Go.Proofs.W
open Go.Vl
set_option maxRecDepth 100000
theorem JqD {p:Pol} (hp:∀r∈p.rules,∀c∈r.conds,c.ok):∀n∈(Jh p).rules,(J2 n).ok:=fun n hn c hc=> by
 obtain ⟨r,hr,hN⟩:=JgR hn
 have hc:c∈n.conds:=hc
 refine ⟨Jwm hN (hp r hr) c hc, ?_⟩
 unfold JbK at hN
 split at hN
 ·cases hN
 ·obtain rfl:=Option.some.inj hN
  have h:=((Jdv _).2 c).1 hc
  unfold Jck at h
  obtain ⟨c0,_,h1⟩:=List.mem_filterMap.1 h
  rcases Jsa c0 with h2 | h2 | h2
  ·rw [JvY h2] at h1
   obtain rfl:=Option.some.inj h1
   exact Jvs h2
  ·rw [Jqj Om] at h1;cases h1
  ·rw [Jqj Om] at h1;cases h1
theorem JmZ {p:Pol} {g:ByteArray×List Rul} (hg:g∈Jam (Jh p).rules):g.2=(Jh p).rules.filter fun r=> kS r.name g.1:=((Jhi (JiD p)).rows g hg).1
theorem Jhl {p:Pol} {l:List TRow} {a:Nat} {e:PEnt} (h:e∈(JbB p l).ents a):∃g∈Jam (Jh p).rules,e∈Jbc a (JaU p.dflt) p.x32 (JaT l g.1) (g.2.map J2):=by
 have h1:=(Jgd (JdY (Jh p) l (Jam (Jh p).rules) a)).mem_iff.1 h
 unfold JdY at h1
 obtain ⟨g,hg,h2⟩:=List.mem_flatMap.1 h1
 exact ⟨g,hg,h2⟩
end Go.Proofs.W

namespace Go.Proofs.W
open Go.Vl
set_option maxRecDepth 100000
theorem JqE {d:Nat} {l:List PRul} {r:PRul} (h:r∈JgL d l):r∈l:=by
 unfold JgL at h
 have:=(List.dropWhile_sublist _).mem (List.mem_reverse.1 h)
 exact List.mem_reverse.1 this
theorem Jhm {a:Nat} {r:PRul}:∀ {l:List PRul},r∈JdW a l→∃q∈l,JgK a q=some r
 | [],h=> by cases h
 | q::l,h=> by
   unfold JdW at h
   cases hq:JgK a q with
   | none=>
     rw [hq] at h
     obtain ⟨z,hz,e⟩:=Jhm h
     exact ⟨z,List.mem_cons_of_mem _ hz,e⟩
   | some y=>
     rw [hq] at h
     dsimp only at h
     split at h
     ·rw [List.mem_singleton.1 h];exact ⟨q,List.mem_cons_self ..,hq⟩
     ·rcases List.mem_cons.1 h with rfl | h
      ·exact ⟨q,List.mem_cons_self ..,hq⟩
      ·obtain ⟨z,hz,e⟩:=Jhm h
       exact ⟨z,List.mem_cons_of_mem _ hz,e⟩
def Jy8 (a:Nat) (c:Cnd):Prop:=opN c.op∧Jaa c=true∧(a=2→c.value < 4294967296)∧c.ok
theorem Jwn {c:Cnd} (h:NFm c):opN c.op:=by
 rcases h.2 with h | h | h | h | h
 ·exact .inl h
 ·exact .inr (.inl h)
 ·exact .inr (.inr (.inl h))
 ·exact .inr (.inr (.inr (.inl h)))
 ·exact .inr (.inr (.inr (.inr h.1)))
theorem Jwo {c:Cnd} (ho:c.ok) (h:(Jbx c).2=0):(Jbx c).1.op=c.op∧(Jbx c).1.value < 4294967296∧(Jbx c).1.ok:=by
 unfold Jbx at h⊢
 by_cases hv:c.value > lowM32
 ·rw [if_pos hv] at h
  dsimp only at h
  split at h <;> cases h
 ·rw [if_neg hv] at h⊢
  unfold lowM32 at hv
  split
  ·split
   ·rename_i h7 hm
    rw [if_pos h7,if_pos hm] at h;cases h
   ·exact ⟨rfl,by dsimp only;omega,Nat.lt_of_le_of_lt Nat.and_le_left ho.1,ho.2⟩
  ·exact ⟨rfl,by dsimp only;omega,ho⟩
theorem Jyr {a d:Nat} {l:List PRul} (hl:∀r∈l,r.ok) {r:PRul} (hr:r∈Jdk a l d) {c:Cnd} (hc:c∈r.conds):Jy8 a c:=by
 obtain ⟨q,hq,e⟩:=Jhm (JqE hr)
 have hok:=hl q hq
 unfold JgK at e
 by_cases ha:a=2
 ·rw [if_pos ha] at e
  unfold JgJ at e
  split at e
  ·cases e
  ·obtain rfl:=Option.some.inj e
   obtain ⟨c0,h0,h1⟩:=List.mem_filterMap.1 hc
   unfold Jji at h1
   split at h1
   ·rename_i h2
    obtain rfl:=Option.some.inj h1
    obtain ⟨o1,o2⟩:=hok c0 h0
    obtain ⟨s1,s2,s3⟩:=Jwo o1 h2
    exact ⟨by rw [s1];exact Jwn o2,((Jvt o1 o2 (a:=0) Dc).2.2 h2).1,fun _=> s2,s3⟩
   ·cases h1
 ·rw [if_neg ha] at e
  obtain rfl:=Option.some.inj e
  obtain ⟨o1,o2⟩:=hok c hc
  exact ⟨Jwn o2,o2.1,fun h=> absurd h ha,o1⟩
theorem Jys {p:Pol} {l:List TRow} (hc:∀r∈p.rules,∀c∈r.conds,c.ok) {a:Nat} {e:PEnt} (he:e∈(JbB p l).ents a) {r:PRul} (hr:r∈e.rules) {c:Cnd} (hcc:c∈r.conds):Jy8 a c:=by
 obtain ⟨g,hg,h2⟩:=Jhl he
 unfold Jbc at h2
 split at h2
 ·cases h2
 ·rw [List.mem_singleton.1 h2] at hr
  refine Jyr (fun q hq=> ?_) hr hcc
  obtain ⟨n,hn,rfl⟩:=List.mem_map.1 hq
  rw [JmZ hg] at hn
  exact JqD hc n (List.mem_filter.1 hn).1
theorem Jtf {α:Type} {f:α→Nat} {l:List α} (h1:l.Pairwise fun a b=> f a≤f b) (h2:(l.map f).Nodup):(l.map f).Pairwise (· < ·):=by
 rw [List.pairwise_map]
 have h3:l.Pairwise fun a b=> f a≠f b:=List.pairwise_map.1 h2
 exact (h1.and h3).imp fun h=> Nat.lt_of_le_of_ne h.1 h.2
theorem Jz7 {p:Pol} {l:List TRow} (hv:(Jaq p l).2=0) {e:PEnt} (he:e∈(JbB p l).ents 2):e.num≠102∧e.num≠117:=by
 obtain ⟨g,hg,h2⟩:=Jhl he
 obtain ⟨j,hj,r1,_⟩:=Jev (p:=p) (Jdh hv) g hg
 obtain ⟨k1,k2⟩:=Jhj h2
 rw [r1] at k1 k2
 have ht:=(Jbl.1 hv).2.1
 have hb:=(Jfm ((Jer ht).2 j hj)).2.2.2.2.1
 have hn:=JfO ht (a:=2) hj
 rw [Jge Om hn.1,if_neg Dc] at k2
 unfold Jiq at hb
 simp only [Bool.or_eq_false_iff,decide_eq_false_iff_not] at hb
 have e2:(l.getD j Je).num 2=(l.getD j Je).a2:=rfl
 omega
theorem Jux {p:Pol} {l:List TRow} (hv:(Jaq p l).2=0) {a:Nat} (ha:a < 5):((partsP (JbB p l) a).map Prt.num).Pairwise (· < ·):=by
 have hperm:(partsP (JbB p l) a).Perm (partsR (JbB p l) a):=List.mergeSort_perm _ _
 refine Jtf ?_ ((hperm.map Prt.num).nodup_iff.2 ?_)
 ·exact (List.pairwise_mergeSort (le:=fun x y:Prt=> decide (x.num≤y.num)) (fun a b c h1 h2=> decide_eq_true (Nat.le_trans (of_decide_eq_true h1) (of_decide_eq_true h2))) (fun a b=> by simpa using Nat.le_total a.num b.num) _).imp fun h=> of_decide_eq_true h
 ·unfold partsR
  have hn:(((JbB p l).ents a).map (·.num)).Nodup:=((Jgd _).map _).nodup_iff.2 (Jiz (p:=Jh p) (Jbl.1 hv).2.1 ha Jfd (Jev (p:=p) (Jdh hv)))
  have he:(((JbB p l).ents a).map Prt.ent).map Prt.num=((JbB p l).ents a).map (·.num):=by rw [List.map_map];rfl
  rw [List.map_append,he]
  by_cases h2:a=2
  ·subst h2
   rw [if_pos rfl,List.nodup_append]
   refine ⟨hn,by decide,fun x hx y hy e=> ?_⟩
   obtain ⟨z,hz,rfl⟩:=List.mem_map.1 hx
   have:=Jz7 hv hz
   subst e
   have hy:z.num=102∨z.num=117:=by simpa [Prt.num] using hy
   omega
  ·rw [if_neg h2]
   simpa using hn
theorem Juy {p:Pol} {l:List TRow} (hv:(Jaq p l).2=0) (k:Nat):(((JbB p l).subs k).map (·.num)).Pairwise (· < ·):=
 Jtf (Jqt _) (((Jiy _).map _).nodup_iff.2 (JiA (Jbl.1 hv).2.1 Jfd (Jev (p:=p) (Jdh hv))))
structure Words (W:Nat→Nat) (r:Rec):Prop where
 num:W 0=r.num
 arch:W 4=r.arch
 low:∀i,i < 6→W (16+8 * i)=r.arg i % 4294967296
 high:∀i,i < 6→W (20+8 * i)=r.arg i / 4294967296
end Go.Proofs.W

namespace Go.Proofs.W
open Go.Vl
set_option maxRecDepth 100000
end Go.Proofs.W

namespace Go.Proofs.W
open Go.Vl
set_option maxRecDepth 100000
structure ItsOk (l:List Itm):Prop where
 nd:(marksO l).Nodup
 tg:tgtOk (fun _=> False) l
 sh:∀x∈l,shape x
theorem ItsOk.mem {l:List Itm} {i:Nat} (h:i < l.length):l.getD i it0∈l:=by simp [List.getD,h]
theorem ItsOk.jump {l:List Itm} (h:ItsOk l) {i t:Nat} (hi:i < l.length) (ht:t=(l.getD i it0).t∨t=(l.getD i it0).f) (h0:t≠0) (W:Nat→Nat):∃j,i < j∧j < l.length∧(l.getD j it0).mark=t∧(Jp W (l.drop (i+1)) JbF).2 t=(Jp W (l.drop j) JbF).1:=by
 have htg:=Jqd i h.tg
 rw [List.drop_eq_getElem_cons hi] at htg
 have htg:=htg.1
 rw [show l[i]=l.getD i it0 by simp [List.getD,hi]] at htg
 rcases htg t ht h0 with ⟨y,hy,e⟩ | e
 ·obtain ⟨j,hj,ej⟩:=List.getElem_of_mem hy
  have hj2:i+1+j < l.length:=by rw [List.length_drop] at hj;omega
  have e3:l.getD (i+1+j) it0=y:=by rw [← ej,List.getElem_drop];simp [List.getD,hj2]
  refine ⟨i+1+j,by omega,hj2,by rw [e3];exact e, ?_⟩
  have hlb:=JvT W (s:=JbF) (k:=t) h0 (l:=l.drop (i+1)) (j:=j) hj (by rw [show (l.drop (i+1)).getD j it0=y from (by rw [List.getD_eq_getElem?_getD,List.getElem?_eq_getElem hj];exact ej)];exact e) (Jug _ h.nd)
  rw [hlb,List.drop_drop,← Nat.add_assoc,JvU W hj2,e3,if_neg (by rw [e];exact h0)]
 ·exact e.elim
theorem ItsOk.once {l:List Itm} (h:(marksO l).Nodup) {i j:Nat} (hi:i < l.length) (hj:j < l.length) (h0:(l.getD i it0).mark≠0) (e:(l.getD j it0).mark=(l.getD i it0).mark):j=i:=by
 have key:∀(l:List Itm),(marksO l).Nodup→∀i j,i < j→j < l.length→(l.getD i it0).mark≠0→(l.getD j it0).mark≠(l.getD i it0).mark:=fun l=> by
  induction l with
  | nil=> intro _ i j _ hj;cases hj
  | cons x l ih=>
    intro hn i j hij hj h0 e
    obtain ⟨j,rfl⟩:∃k,j=k+1:=⟨j - 1,by omega⟩
    have hj':j < l.length:=by simpa using hj
    have e:(l.getD j it0).mark=_:=e
    cases i with
    | zero=>
      have h0:x.mark≠0:=h0
      have e:(l.getD j it0).mark=x.mark:=e
      have h2:marksO (x::l)=x.mark::marksO l:=by unfold marksO;rw [List.map_cons,List.filter_cons,if_pos (by simpa using h0)]
      rw [h2] at hn
      exact (List.nodup_cons.1 hn).1 (JbU.2 ⟨h0,_,(by simp [List.getD,hj']:l.getD j it0∈l),e⟩)
    | succ i=>
      refine ih ?_ i j Om hj' h0 e
      unfold marksO at hn⊢
      rw [List.map_cons,List.filter_cons] at hn
      split at hn
      ·exact (List.nodup_cons.1 hn).2
      ·exact hn
 rcases Nat.lt_trichotomy i j with q | q | q
 ·exact absurd e (key l h i j q hj h0)
 ·exact q.symm
 ·exact absurd e.symm (key l h j i q hi (by rw [e];exact h0))
theorem Jyt {W:Nat→Nat} {T:Nat→Cnd→Bool} {P:Plan} (hP:PlanT W T P) (hT:T 1=T 0) (hc:∀a,∀e∈P.ents a,∀r∈e.rules,∀c∈r.conds,JdX c):ItsOk (Jcj P)∧(Jp W (Jcj P) JbF).1 0=some (JeE W T P):=
 ⟨⟨(Jgb hP hT).2.1,(Jgb hP hT).2.2.1,JvS hc (Jgb hP hT).2.2.2⟩,(Jgb hP hT).1⟩
end Go.Proofs.W

namespace Go.Proofs.W
open Go.Vl
set_option maxRecDepth 100000
def szM (m:Mk):Nat:=m.l.length+m.n+2 * m.b.length
theorem JdI (m:Mk) (D:List Itm):szM (JD m D)=szM m+D.length:=by unfold szM JD;simp;omega
theorem Jj0 (m:Mk):szM (Jx m)=szM m+1:=by unfold szM Jx;simp;omega
theorem JhU (m:Mk) (k:Nat):szM (JX m k)=szM m+1:=JdI _ _
theorem JhV (m:Mk) (c:Nat):szM (JA m c).2≤szM m+3:=by
 unfold JA szM
 cases Jce m.b c with
 | some k=> exact Nat.le_add_right _ _
 | none=> dsimp only;rw [List.length_append,List.length_singleton];omega
theorem Jyu (h:Hlv) (op:Int):(JeS h op).length≤6:=by
 unfold JeS
 repeat' split
 all_goals simp [Jc5,Jb3,Jci,Jbb,Jep,JcX]
theorem JqF {w:Bool} {n:Nat}:∀(cs:List Cnd) (m:Mk),szM (J1 w n m cs)≤szM m+8 * cs.length
 | [],m=> Nat.le_refl _
 | c::cs,m=> by
   have h:=JqF (w:=w) (n:=n) cs (JX (Jc6 (Jx m) c w (m.n+1) n) (m.n+1))
   have h2:szM (Jc6 (Jx m) c w (m.n+1) n)≤szM m+7:=by
    unfold Jc6
    rw [Jp7]
    have:=Jyu (hlvC c w (m.n+1) n) c.op
    have e:=JdI (Jx m) (JeS (hlvC c w (m.n+1) n) c.op)
    have e2:=Jj0 m
    have e:szM ⟨(Jx m).l++JeS (hlvC c w (m.n+1) n) c.op,(Jx m).n,(Jx m).b⟩=_:=e
    omega
   rw [JhU] at h
   rw [List.length_cons]
   exact Nat.le_trans h Om
theorem Jz8 {w:Bool} {m:Mk} {r:PRul} (h:r.conds.length≤12):szM (JaH w m r)≤szM m+102:=by
 have h1:=JqF (w:=w) (n:=m.n+1) r.conds (Jx m)
 have h2:=JhV (J1 w (m.n+1) (Jx m) r.conds) r.code
 have h3:=Jj0 m
 show szM (JX (JD _ [_]) _)≤_
 rw [JhU,JdI,List.length_singleton]
 omega
theorem Jtg {α:Type} {f:Mk→α→Mk} {C:Nat} {ok:α→Prop} (hf:∀m x,ok x→szM (f m x)≤szM m+C):∀(l:List α) (m:Mk),(∀x∈l,ok x)→szM (l.foldl f m)≤szM m+C * l.length
 | [],m,h=> Nat.le_refl _
 | x::l,m,h=> by
   have h1:=Jtg hf l (f m x) fun y hy=> h y (List.mem_cons_of_mem _ hy)
   have h2:=hf m x (h x (List.mem_cons_self ..))
   rw [List.length_cons,Nat.mul_succ]
   exact Nat.le_trans h1 Om
theorem Jyv {w:Bool} {o:Nat} {m:Mk} {l:List PRul} (hl:l.length≤40) (h:∀r∈l,r.conds.length≤12):szM (JdG w o m l)≤szM m+4081:=by
 have h1:=Jtg (f:=JaH w) (C:=102) (ok:=fun r=> r.conds.length≤12) (fun m r hr=> Jz8 hr) l m h
 have h2:102 * l.length≤102 * 40:=Nat.mul_le_mul_left _ hl
 show szM (JD _ [_])≤_
 rw [JdI,List.length_singleton]
 omega
theorem Jm0 {marks:List Nat} {o:Nat}:∀(N:Nat) (l:List Nat) (pl:Nat) (m:Mk),l.length≤N→0 < l.length→szM (Jbt marks o l pl m)+3≤szM m+4 * l.length
 | 0,l,pl,m,h,h0=> by omega
 | N+1,l,pl,m,h,h0=> by
   rw [Jbt]
   split
   ·rw [JdI]
    show szM m+1+3≤_
    omega
   ·have e1:(l.take (l.length / 2)).length=l.length / 2:=by simp;omega
    have e2:(l.drop (l.length / 2)).length=l.length - l.length / 2:=by simp
    have h1:=Jm0 (marks:=marks) (o:=o) N (l.take (l.length / 2)) pl (JD (Jx m) [⟨0,0x35,l.getD (l.length / 2) 0,m.n+1,0⟩]) Om Om
    have h2:=Jm0 (marks:=marks) (o:=o) N (l.drop (l.length / 2)) (pl+l.length / 2) (JX (Jbt marks o (l.take (l.length / 2)) pl (JD (Jx m) [⟨0,0x35,l.getD (l.length / 2) 0,m.n+1,0⟩])) (m.n+1)) Om Om
    rw [JhU] at h2
    rw [JdI,Jj0] at h1
    rw [e1] at h1
    rw [e2] at h2
    have h1:szM (Jbt marks o (l.take (l.length / 2)) pl (JD (Jx m) [⟨0,0x35,l.getD (l.length / 2) 0,m.n+1,0⟩]))+3≤szM m+1+1+4 * (l.length / 2):=h1
    omega
theorem Jod {marks:List Nat} {o:Nat} {l:List Nat} {m:Mk}:szM (Jal marks o l m)≤szM m+4 * l.length+1:=by
 unfold Jal
 split
 ·rw [JdI]
  show szM m+1≤_
  omega
 ·have:=Jm0 (marks:=marks) (o:=o) l.length l 0 m (Nat.le_refl _) (List.length_pos_iff.2 (by assumption))
  omega
theorem Joe:∀(l:List PSub) (m:Mk),szM (J7 m l).2≤szM m+3 * l.length
 | [],m=> Nat.le_refl _
 | s::l,m=> by
   have h1:=Joe l (JA m s.code).2
   have h2:=JhV m s.code
   rw [List.length_cons]
   exact Nat.le_trans h1 Om
structure PlanS (P:Plan):Prop where
 ents:∀a,(P.ents a).length≤40
 rules:∀a,∀e∈P.ents a,e.rules.length≤40
 conds:∀a,∀e∈P.ents a,∀r∈e.rules,r.conds.length≤12
 subs:∀k,(P.subs k).length≤40
theorem Jz9 {P:Plan} (hP:PlanS P) {a o:Nat} {m:Mk} {x:Prt} (hx:x∈partsP P a):szM (Jc7 P a o m x)≤szM m+4081:=by
 cases x with
 | ent e=> exact Jyv (hP.rules a e (Jjn hx)) (hP.conds a e (Jjn hx))
 | sub n k=>
   have h1:=Joe (P.subs k) (JD m [⟨0,0x20,16,0,0⟩])
   have h2:=JdI m [⟨0,0x20,16,0,0⟩]
   have h3:=Jod (marks:=(J7 (JD m [⟨0,0x20,16,0,0⟩]) (P.subs k)).1) (o:=o) (l:=(P.subs k).map (·.num)) (m:=(J7 (JD m [⟨0,0x20,16,0,0⟩]) (P.subs k)).2)
   have h4:=hP.subs k
   rw [List.length_map] at h3
   show szM (Jal _ _ _ _)≤_
   have h2:szM (JD m [⟨0,0x20,16,0,0⟩])=szM m+1:=h2
   omega
theorem JqG {β:Type} {f:Mk→β→Mk} {C:Nat} {ok:β→Prop} (hf:∀m x,ok x→szM (f m x)≤szM m+C):∀(l:List (Nat×β)) (m:Mk),(∀x∈l,ok x.2)→szM (JbO f m l)≤szM m+(C+1) * l.length
 | [],m,h=> Nat.le_refl _
 | x::l,m,h=> by
   have h1:=JqG hf l (f (JX m x.1) x.2) fun y hy=> h y (List.mem_cons_of_mem _ hy)
   have h2:=hf (JX m x.1) x.2 (h x (List.mem_cons_self ..))
   rw [JhU] at h2
   rw [List.length_cons,Nat.mul_succ]
   exact Nat.le_trans h1 Om
theorem Jof {P:Plan} (hP:PlanS P) (a:Nat):(partsP P a).length≤42:=by
 have h1:=(List.mergeSort_perm (partsR P a) fun x y=> decide (x.num≤y.num)).length_eq
 show (List.mergeSort _ _).length≤_
 rw [h1]
 unfold partsR
 rw [List.length_append,List.length_map]
 have:=hP.ents a
 split
 ·show _+2≤_;omega
 ·show _+0≤_;omega
theorem JiE {P:Plan} (hP:PlanS P) (m:Mk) (a:Nat):szM (JaQ P m a)≤szM m+172000:=by
 have hl:=Jof hP a
 have hg:=JhV m P.dflt
 unfold JaQ
 dsimp only
 generalize JA m P.dflt = g at *
 have h1:=Jod (marks:=(List.range (partsP P a).length).map fun i=> g.2.n+1+i) (o:=g.1) (l:=(partsP P a).map Prt.num) (m:=⟨g.2.l,g.2.n+(partsP P a).length,g.2.b⟩)
 have h2:=JqG (f:=Jc7 P a g.1) (C:=4081) (ok:=fun x=> x∈partsP P a) (fun m x hx=> Jz9 hP hx) (((List.range (partsP P a).length).map fun i=> g.2.n+1+i).zip (partsP P a)) (Jal ((List.range (partsP P a).length).map fun i=> g.2.n+1+i) g.1 ((partsP P a).map Prt.num) ⟨g.2.l,g.2.n+(partsP P a).length,g.2.b⟩) fun x hx=> (List.of_mem_zip (a:=x.1) (b:=x.2) hx).2
 have h3:(((List.range (partsP P a).length).map fun i=> g.2.n+1+i).zip (partsP P a)).length=(partsP P a).length:=by simp
 rw [h3] at h2
 rw [List.length_map] at h1
 have h4:szM ⟨g.2.l,g.2.n+(partsP P a).length,g.2.b⟩=szM g.2+(partsP P a).length:=by unfold szM;dsimp only;omega
 have h5:(4081+1) * (partsP P a).length≤(4081+1) * 42:=Nat.mul_le_mul_left _ hl
 refine Nat.le_trans h2 ?_
 omega
theorem JBe {P:Plan} (hP:PlanS P) (m:Mk):szM (Jd8 P m)≤szM m+344020:=by
 have hg:=JhV m P.dflt
 unfold Jd8
 dsimp only
 generalize JA m P.dflt = g at *
 have h1:szM (JD g.2 [⟨0,0x15,4294967295,g.1,0⟩])=szM g.2+1:=JdI _ _
 generalize JD g.2 [(⟨0, 0x15, 4294967295, g.1, 0⟩ : Itm)] = m1 at *
 split
 ·have h2:=JiE hP (JD (Jx m1) [⟨0,0x45,1073741824,m1.n+1,0⟩]) 0
  have h3:=JiE hP (JX (JaQ P (JD (Jx m1) [⟨0,0x45,1073741824,m1.n+1,0⟩]) 0) (m1.n+1)) 1
  rw [JhU] at h3
  have h4:szM (JD (Jx m1) [⟨0,0x45,1073741824,m1.n+1,0⟩])=szM (Jx m1)+1:=JdI _ _
  rw [Jj0] at h4
  omega
 ·have h2:=JhV m1 2147483648
  have h3:=JiE hP (JD (JA m1 2147483648).2 [⟨0,0x45,1073741824,(JA m1 2147483648).1,0⟩]) 0
  have h4:szM (JD (JA m1 2147483648).2 [⟨0,0x45,1073741824,(JA m1 2147483648).1,0⟩])=szM (JA m1 2147483648).2+1:=JdI _ _
  omega
theorem Jwp {P:Plan} (hP:PlanS P):szM (JaA P)≤1400000:=by
 have h:=JqG (f:=JbP P) (C:=344021) (ok:=fun _=> True) (fun m a _=> by
  have h1:szM (JD m [⟨0,0x20,0,0,0⟩])=szM m+1:=JdI _ _
  unfold JbP
  split
  ·have:=JBe hP (JD m [⟨0,0x20,0,0,0⟩]);omega
  ·have:=JiE hP (JD m [⟨0,0x20,0,0,0⟩]) a;omega) [(1,0),(2,2),(3,3),(4,4)] frontM (fun _ _=> trivial)
 have h0:szM frontM=13:=by rw [Jdf];rfl
 rw [h0] at h
 exact Nat.le_trans h Dc
theorem JAa {P:Plan} (hP:PlanS P):(JaA P).b.length≤1000000:=by
 have h:=Jwp hP
 unfold szM at h
 omega
theorem JqH:∀(l:List (Nat×Nat)) (m:Mk),(l.foldl JbE m).n=m.n∧(l.foldl JbE m).l.length=m.l.length+2 * l.length
 | [],m=> ⟨rfl,rfl⟩
 | x::l,m=> by
   have h:=JqH l (JbE m x)
   refine ⟨h.1,h.2.trans ?_⟩
   show (m.l++ [_]++ [_]).length+_=_
   simp;omega
theorem JqI {P:Plan} (hP:PlanS P):((Jcg (JaA P).b).foldl JbE (JaA P)).fits:=by
 have h:=Jwp hP
 have h1:=JqH (Jcg (JaA P).b) (JaA P)
 have h2:(Jcg (JaA P).b).length=(JaA P).b.length:=List.length_mergeSort _
 unfold szM at h
 exact ⟨by rw [h1.2,h2];omega,by rw [h1.1];omega⟩
end Go.Proofs.W

namespace Go.Proofs.W
open Go.Vl
set_option maxRecDepth 100000
theorem Jsg (l:List Cnd):NoId (Jbi l):=NoId.sl fun i _ c hc=> by
 simp only [J3,AV.cells,List.mem_cons,List.not_mem_nil,or_false] at hc
 rcases hc with rfl | rfl | rfl | rfl <;> exact NoId.v _
theorem JqJ (ts:List Cnd) (hl:ts.length≤1000000):Tells Tryz.prog 68 [Jbi ts] (Jbi ts):=by
 refine Jd Tryz.func68 rfl rfl fun nx=> ?_
 refine stp ?_
 refine Jpx (e:=150) rfl (.inl rfl) (by kernel_rfl) (.inl rfl) fun c hc=> ?_
 cases c
 ·refine stp ?_
  (conv=> whnf)
  refine JtG (fun hm=> ?_) fun hm=> ?_
  ·refine stp ?_
   obtain rfl:ts= []:=List.eq_nil_of_length_eq_zero hm
   exact Jl rfl trivial AVle.os_sl0
  ·refine ⟨fun k hk=> rfl,by show (0+ts.length) * 32≤_;omega,by omega, ?_⟩
   refine stp ?_
   have e5:0+ts.length=ts.length:=Nat.zero_add _
   refine Jl rfl trivial ?_
   exact AVle.trans (b:= .os 4 ts.length (Juv ts) (some (0,nx))) (AVle.trans (b:= .os 4 (0+ts.length) (Juv ts) (some (0,nx))) (AVle.os_fun fun k hk=> rfl) (AVle.of_eq (by rw [e5]))) AVle.os_sl
 ·obtain rfl:ts= []:=List.eq_nil_of_length_eq_zero (hc rfl)
  refine stp ?_
  exact Jl rfl trivial AVle.os_sl0
def Jdl (l:List PRul):Nat→AV:=fun k=> JdZ (l.getD k JI)
theorem Jyw {L:List PRul} {m:Nat} (hm:m≤L.length):AVle (.sl 2 m (Jdl L)) (J0 (L.take m)):=by
 unfold J0 JK
 rw [List.length_take,Nat.min_eq_left hm]
 refine AVle.sl_fun fun k hk=> ?_
 show JdZ (L.getD k JI)=JdZ ((L.take m).getD k JI)
 rw [show (L.take m).getD k JI=L.getD k JI by simp [List.getD,List.getElem?_take,hk]]
theorem Juz {a:Nat} {l:List PRul} {i:Nat} (hi:i < l.length):JdW a (l.drop i)=match JgK a (l.getD i JI) with
 | none=> JdW a (l.drop (i+1))
 | some q=> if q.conds.length=0 then [q] else q::JdW a (l.drop (i+1)):=by
 rw [List.drop_eq_getElem_cons hi,show l.getD i JI=l[i] by simp [List.getD,hi]]
 rfl
theorem Jmc:Tryz.prog.bytesOf 88=32:=by kernel_rfl
theorem JAb {r q:PRul} (h:JgJ r=some q):q.conds.length≤r.conds.length∧q.code=r.code:=by
 unfold JgJ at h
 split at h
 ·cases h
 ·cases h;exact ⟨List.length_filterMap_le _ _,rfl⟩
theorem JAc {a:Nat} {r q:PRul} (h:JgK a r=some q):q.conds.length≤r.conds.length∧q.code=r.code:=by
 unfold JgK at h
 split at h
 ·exact JAb h
 ·cases h;exact ⟨Nat.le_refl _,rfl⟩
def Jwq (nx:Nat):Option PRul→List (Vl.Id×Own)
 | none=> [((0,nx), .c [Jbi [],u32 0])]
 | some q=> [((0,nx), .c [Jbi q.conds,u32 (q.code:Nat)])]
set_option maxHeartbeats 4000000 in
theorem Jwr (a:Nat) (l:List PRul) (d:Nat) (ha:a < 5) (hl:l.length≤1000000) (hc:∀r∈l,r.conds.length≤1000000∧∀c∈r.conds,c.ok):Tells Tryz.prog 22 [int a,J0 l,u32 (d:Nat)] (J0 (Jdk a l d)):=by
 refine Jd Tryz.func22 rfl rfl fun nx=> ?_
 refine stp ?_
 refine Ja5 (fun y:List PRul×Option Nat×Nat=> mk 62 [(0,int a),(2,u32 (d:Nat)),(7, .os 2 y.1.length (Jdl y.1) (nmd y.2.1))] ⟨[],Jac (nmd y.2.1) (y.1.length * 2),y.2.2,0⟩) (fun y=> y.1=JdW a l∧(y.2.1=none→y.1= [])∧y.1.length≤l.length) ?_ ?_
 ·refine Js (fun y:Nat×List PRul×Option Nat×Nat=> mk 62 [(0,int a),(2,u32 (d:Nat)),(7, .os 2 y.2.1.length (Jdl y.2.1) (nmd y.2.2.1)),(11,J0 l),(12,int l.length),(13,int y.1)] ⟨[],Jac (nmd y.2.2.1) (y.2.1.length * 2),y.2.2.2,0⟩)
   (fun y=> y.1≤l.length∧y.2.1++JdW a (l.drop y.1)=JdW a l∧(y.2.2.1=none→y.2.1= [])∧y.2.1.length≤y.1) (fun y=> l.length - y.1) ?_ ?_
  ·exact ⟨(0, [],none,nx),⟨Nat.zero_le _,rfl,fun _=> rfl,Nat.le_refl _⟩,Jc (pm:= []) (bx:= []) _ [] rfl rfl Sf Sf trivial trivial ⟨Rf,Rf,AVle.os_nil,Rf,Rf,Rf,trivial⟩⟩
  ·rintro ⟨i,L,oi,nx1⟩ ⟨h1,hL,h2,h3⟩
   dsimp only at h1 hL h2 h3
   refine stp ?_
   intro c g;cases c
   ·have g:=Jw g
    try dsimp only at g
    have hi:i=l.length:=by omega
    subst hi
    rw [List.drop_length] at hL
    refine stp ?_
    exact ⟨(L,oi,nx1),⟨by rw [← hL];exact (List.append_nil _).symm,h2,h3⟩,Et rfl rfl trivial Pf ⟨Rf,Rf,Rf,trivial⟩⟩
   ·have g:=Jv g
    try dsimp only at g
    have hi:i < l.length:=by omega
    have hnx:=Juz (a:=a) hi
    have hr:l.getD i JI∈l:=by simp [List.getD,hi]
    have hn:=JmX (l.getD i JI) (hc _ hr).2 (hc _ hr).1
    have hcl:=(hc _ hr).1
    rw [hnx] at hL
    clear hnx
    refine stp ?_
    refine ⟨Bd, ?_⟩
    refine stp ?_
    intro c6 hc6
    refine stp ?_
    refine JpD (fun y:Option PRul×Nat=> mk 62 [(0,int a),(2,u32 (d:Nat)),(7, .os 2 L.length (Jdl L) (nmd oi)),(9, .bp (0,nx1) 0),(10,Ji y.1.isSome),(11,J0 l),(12,int l.length),(13,int i)] ⟨Jwq nx1 y.1,Jac (nmd oi) (L.length * 2),y.2,1⟩) (fun y=> y.1=JgK a (l.getD i JI)) ?_ ?_
    ·cases c6
     ·have ha2:a≠2:=fun e=> by subst e;cases hc6
      refine stp ?_
      exact ⟨(some (l.getD i JI),nx1+1),(if_neg ha2).symm,Et rfl rfl Bf Pf ⟨Rf,Rf,Rf,Rf,Rf,Rf,Rf,Rf,trivial⟩⟩
     ·have ha2:a=2:=by
       have:=of_decide_eq_true (p:=(a:Int)=2) hc6.symm
       omega
      refine stp ?_
      refine Ja rfl rfl hn ⟨Rf,trivial⟩ fun nx2=> ?_
      have hab:JgK a (l.getD i JI)=JgJ (l.getD i JI):=if_pos ha2
      rw [hab]
      cases JgJ (l.getD i JI) with
      | none=>
        refine stp ?_
        exact ⟨(none,nx2),rfl,Et rfl rfl Bf Pf ⟨Rf,Rf,Rf,Rf,Rf,Rf,Rf,Rf,trivial⟩⟩
      | some q=>
        refine stp ?_
        exact ⟨(some q,nx2),rfl,Et rfl rfl Bf Pf ⟨Rf,Rf,Rf,Rf,Rf,Rf,Rf,Rf,trivial⟩⟩
    ·rintro ⟨oq,nx3⟩ hoq
     dsimp only at hoq
     rw [← hoq] at hL
     cases oq with
     | none=>
       dsimp only at hL
       refine stp ?_
       exact back (i+1,L,oi,nx3) ⟨hi,hL,h2,by dsimp only;omega⟩ Dm (Jc _ _ rfl rfl (.cons _ Sf) Sf trivial Pf ⟨Rf,Rf,Rf,Rf,Rf,Lw,trivial⟩)
     | some q=>
       dsimp only at hL
       have hqc:=(JAc hoq.symm).1
       have hcq:=JqJ q.conds Om
       refine stp ?_
       refine Ja4 9 (Jwq nx1 (some q)) (fun i=> match i with | 8=> true | _=> false) (fun i=> match i with | 3=> true | _=> false) [0,1,2,3,4,5,6,7,8] (by kernel_rfl) (by kernel_rfl) (HB.refl _) ?_
       refine stp ?_
       refine ⟨_,Jb2 rfl rfl rfl hcq ⟨Rf,trivial⟩ (Jsg _), ?_⟩
       refine stp ?_
       refine ⟨_,Jbo (e:=88) (c:=2) (pm:= []) (n:=L.length) (oi:=nmd oi) (sz:=2) (f:=Jdl L) (HB.refl _) rfl rfl rfl (.inr ⟨_,rfl⟩) (by kernel_rfl) (by kernel_rfl) (by kernel_rfl) (.inr rfl) (by kernel_rfl) (List.append_nil _).symm (JM rfl) (by rw [Jmc];omega) Om,fun r h' hr=> ?_⟩
       obtain ⟨rfl,rfl⟩:=hr
       refine stp ?_
       intro c e;cases c
       ·have hne:¬q.conds.length=0:=fun h=> by
         have:=of_decide_eq_false (p:=(q.conds.length:Int)=0) e.symm
         omega
        rw [if_neg hne] at hL
        refine stp ?_
        exact back (i+1,L++ [q],some nx3,nx3+1) ⟨hi,by dsimp only;rw [List.append_assoc];exact hL,(fun h=> by cases h),by dsimp only;rw [List.length_append,List.length_singleton];omega⟩ Dm (Jc (bx:= []) (pm:= [((0,nx3),(L++ [q]).length * 2)]) _ _ rfl rfl (.cons _ Sf) Sf trivial ⟨rfl,by rw [List.length_append];rfl,trivial⟩ ⟨Rf,Rf,Jfq (e:=JdZ) rfl rfl,Rf,Rf,Lw,trivial⟩)
       ·have he:q.conds.length=0:=by
         have:=of_decide_eq_true (p:=(q.conds.length:Int)=0) e.symm
         omega
        rw [if_pos he] at hL
        refine stp ?_
        exact ⟨(L++ [q],some nx3,nx3+1),⟨hL,(fun h=> by cases h),by dsimp only;rw [List.length_append,List.length_singleton];omega⟩,Jc (bx:= []) (pm:= [((0,nx3),(L++ [q]).length * 2)]) _ _ rfl rfl (.cons _ Sf) Sf trivial ⟨rfl,by rw [List.length_append];rfl,trivial⟩ ⟨Rf,Rf,Jfq (e:=JdZ) rfl rfl,trivial⟩⟩
 ·rintro ⟨L,oi,nx1⟩ ⟨hL,h2,h3⟩
  dsimp only at hL h2 h3
  refine stp ?_
  refine Js (fun y:Nat×Nat=> mk 62 [(2,u32 (d:Nat)),(7, .sl 2 y.1 (Jdl L))] ⟨[], [],y.2,0⟩)
   (fun y=> y.1≤L.length∧JgL d L=JgL d (L.take y.1)) (fun y=> y.1) ?_ ?_
  ·exact ⟨(L.length,nx1),⟨Nat.le_refl _,by rw [List.take_length]⟩,Jc (pm:= []) (bx:= []) _ [] rfl rfl Sf (List.nil_sublist _) trivial trivial ⟨Rf,AVle.os_sl,trivial⟩⟩
  ·rintro ⟨m,nx2⟩ ⟨hm,hcut⟩
   dsimp only at hm hcut
   refine stp ?_
   intro c g;cases c
   ·have g:=Jw g
    try dsimp only at g
    have hm0:m=0:=by omega
    subst hm0
    have hS:Jdk a l d= []:=by unfold Jdk;rw [← hL,hcut];rfl
    rw [hS]
    refine stp ?_
    exact Jl rfl trivial (AVle.sl_fun fun k hk=> absurd hk (Nat.not_lt_zero k))
   ·have g:=Jv g
    try dsimp only at g
    have hm0:0 < m:=by omega
    have hm1:IntKind.i64.wrap ((m:Int) - 1)=((m - 1:Nat):Int):=by rw [Ju Om Om];omega
    have htk:L.take m=L.take (m - 1)++ [L.getD (m - 1) JI]:=by
     obtain ⟨k,rfl⟩:∃k,m=k+1:=⟨m - 1,by omega⟩
     exact JaG JI Om
    refine stp ?_
    refine ⟨⟨JF (i:=m - 1) hm1,JG (i:=m - 1) hm1 Om⟩,Jk (b:= .rp (JdZ (L.getD (m - 1) JI)).cells) (congrArg (fun z:Int=> AV.rp (Jdl L z.toNat).cells) hm1) ?_⟩
    refine stp ?_
    intro c e;cases c
    ·have e:¬(L.getD (m - 1) JI).code=d:=fun h=> by
      have:=of_decide_eq_false (p:=((L.getD (m - 1) JI).code:Int)=d) e.symm
      omega
     rw [htk,JnL,if_neg e,← htk] at hcut
     have hS:Jdk a l d=L.take m:=by unfold Jdk;rw [← hL,hcut]
     rw [hS]
     refine stp ?_
     exact Jl rfl trivial (Jyw hm)
    ·have e:(L.getD (m - 1) JI).code=d:=by
      have:=of_decide_eq_true (p:=((L.getD (m - 1) JI).code:Int)=d) e.symm
      omega
     rw [htk,JnL,if_pos e] at hcut
     refine stp ?_
     refine ⟨⟨JF (i:=m - 1) hm1,by rw [hm1];dsimp only;omega⟩,Jk (b:= .sl 2 (m - 1) (Jdl L)) (congrArg (fun z:Int=> AV.sl 2 z.toNat (Jdl L)) hm1) ?_⟩
     refine stp ?_
     exact back (m - 1,nx2) ⟨by dsimp only;omega,hcut⟩ Dm (Et rfl rfl trivial trivial ⟨Rf,Rf,trivial⟩)
end Go.Proofs.W

namespace Go.Proofs
open Go.Shelf Go.RowKit Go.Lib Go.Sort
shelf_lay_g SlLaysF0.n6 Slsf 6 at Tryz 25 as Tryz.sortEnt
shelf_lay_g SlLaysF0.n6 Slsf 6 at Tryz 28 as Tryz.sortSub
namespace W
theorem JAd (x:Nat) (w:World):Calls Tryz.prog 74 #[.int .u32 x] w fun e w'=> e= .returned (.bool false)∧w'=w:=by
 go_enter Tryz.func74,Tryz.ntmps74
 go_wp2
 go_ret
 exact ⟨by simp,rfl⟩
set_option maxHeartbeats 1000000 in
theorem Jog (x y:Nat) (w:World):Calls Tryz.prog 27 #[.int .u32 x, .int .u32 y] w fun e w'=> e= .returned (.int .i64 (Lib.compareInt x y))∧w'=w:=by
 go_enter Tryz.func27,Tryz.ntmps27
 go_wp2_with (go_at_call 74;refine (JAd _ _).mono ?_;rintro e w' ⟨rfl,hw⟩;rw [hw])
 all_goals (go_ret;refine ⟨?_,rfl⟩;unfold Lib.compareInt;(repeat' split) <;> first | rfl | (exfalso;omega))
set_option maxHeartbeats 1000000 in
theorem JBf (k1 k2:Nat) (v1 v2:Value) (W:World):Calls Tryz.prog 26 #[.agg #[.int .u32 k1,v1], .agg #[.int .u32 k2,v2]] W fun e w'=> e= .returned (.int .i64 (Lib.compareInt k1 k2))∧∃q os',w'=grow (W.drewN q) os':=by
 have hcon:=fun W'=> Jog k1 k2 W'
 generalize Lib.compareInt k1 k2=r at hcon⊢
 go_enter Tryz.func26,Tryz.ntmps26
 go_wp2_with (go_at_call 27;refine (hcon _).mono ?_;rintro e w' ⟨rfl,rfl⟩)
 go_ret
 exact ⟨rfl,0,_,by rw [alloc_eq_grow,alloc_eq_grow,grow_grow];rfl⟩
set_option maxHeartbeats 1000000 in
theorem JBg (k1 k2:Nat) (v1 v2:Value) (W:World):Calls Tryz.prog 29 #[.agg #[.int .u32 k1,v1], .agg #[.int .u32 k2,v2]] W fun e w'=> e= .returned (.int .i64 (Lib.compareInt k1 k2))∧∃q os',w'=grow (W.drewN q) os':=by
 have hcon:=fun W'=> Jog k1 k2 W'
 generalize Lib.compareInt k1 k2=r at hcon⊢
 go_enter Tryz.func29,Tryz.ntmps29
 go_wp2_with (go_at_call 27;refine (hcon _).mono ?_;rintro e w' ⟨rfl,rfl⟩)
 go_ret
 exact ⟨rfl,0,_,by rw [alloc_eq_grow,alloc_eq_grow,grow_grow];rfl⟩
open Go.Vl
theorem JqK {D:List (Nat×AV)} {tl:List AV} {nm s cap nx nn:Nat} (hone:∀x∈D,JbZ x.2=true) (hl:D.length < 4611686018427387904):
 ECall Tryz.prog 25 [.hs (nm,s) 0 D.length cap, .fn (.func 26) [] []] ⟨[((nm,s), .c (JB D++tl))], [],nx,nn⟩
  fun r h'=> r= .tup []∧∃cs',(∃D',D'.Perm D∧D'.Pairwise (fun a b=> a.1≤b.1)∧cs'=JB D')∧h'=⟨[((nm,s), .c (cs'++tl))], [],nx,nn⟩:=by
 have eg:∀args w,(callFunc 26 args).run Tryz.prog w= .ok (.enter 26 args) w:=enters_of Tryz.func26 (by kernel_rfl) rfl
 refine Jhu ⟨_,Tryz.func25,rfl,rfl⟩ hone fun d w blk hd _ hH hb=> ?_
 exact AnyQ.slices_SortFunc Tryz.sortEnt 2 Tryz.isAgg85 Tryz.sizeOf85 KX.enc (fun _=> rfl) KX.one KX.cmp KX.swo 26 #[] blk 0 cap d w eg (fun _ _ _ _ x y=> JBf _ _ _ _ _) hH hb Om
theorem JqL {D:List (Nat×AV)} {tl:List AV} {nm s cap nx nn:Nat} (hone:∀x∈D,JbZ x.2=true) (hl:D.length < 4611686018427387904):
 ECall Tryz.prog 28 [.hs (nm,s) 0 D.length cap, .fn (.func 29) [] []] ⟨[((nm,s), .c (JB D++tl))], [],nx,nn⟩
  fun r h'=> r= .tup []∧∃cs',(∃D',D'.Perm D∧D'.Pairwise (fun a b=> a.1≤b.1)∧cs'=JB D')∧h'=⟨[((nm,s), .c (cs'++tl))], [],nx,nn⟩:=by
 have eg:∀args w,(callFunc 29 args).run Tryz.prog w= .ok (.enter 29 args) w:=enters_of Tryz.func29 (by kernel_rfl) rfl
 refine Jhu ⟨_,Tryz.func28,rfl,rfl⟩ hone fun d w blk hd _ hH hb=> ?_
 exact AnyQ.slices_SortFunc Tryz.sortSub 2 Tryz.isAgg90 Tryz.sizeOf90 KX.enc (fun _=> rfl) KX.one KX.cmp KX.swo 29 #[] blk 0 cap d w eg (fun _ _ _ _ x y=> JBg _ _ _ _ _) hH hb Om
set_option maxRecDepth 100000
theorem JBh (n:Nat):Tells Tryz.prog 120 [Jez 2,int 0,int 0,fn0 n] (.tup []):=by
 refine Jd Tryz.func120 rfl rfl fun nx=> ?_
 refine stp ?_
 refine Jet ?_
 refine stp ?_
 exact Jb rfl Rf
theorem JBi (n:Nat):Tells Tryz.prog 72 [Jez 2,int 0,int 0,int 0,fn0 n] (.tup []):=by
 refine Jd Tryz.func72 rfl rfl fun nx=> ?_
 refine stp ?_
 refine Jet ?_
 refine stp ?_
 refine Ja rfl rfl (JBh n) ⟨Rf,Rf,Rf,Rf,trivial⟩ fun nx=> ?_
 refine stp ?_
 exact Jb rfl Rf
theorem Jsh (n:Nat):Tells Tryz.prog 25 [Jez 2,fn0 n] (.tup []):=by
 refine Jd Tryz.func25 rfl rfl fun nx=> ?_
 refine stp ?_
 refine Ja rfl rfl JoX ⟨Rf,trivial⟩ fun nx=> ?_
 refine stp ?_
 refine Ja rfl rfl (JBi n) ⟨Rf,Rf,Rf,Rf,Rf,trivial⟩ fun nx=> ?_
 refine stp ?_
 exact Jb rfl Rf
theorem JBj (n:Nat):Tells Tryz.prog 130 [Jez 2,int 0,int 0,fn0 n] (.tup []):=by
 refine Jd Tryz.func130 rfl rfl fun nx=> ?_
 refine stp ?_
 refine Jet ?_
 refine stp ?_
 exact Jb rfl Rf
theorem JBk (n:Nat):Tells Tryz.prog 75 [Jez 2,int 0,int 0,int 0,fn0 n] (.tup []):=by
 refine Jd Tryz.func75 rfl rfl fun nx=> ?_
 refine stp ?_
 refine Jet ?_
 refine stp ?_
 refine Ja rfl rfl (JBj n) ⟨Rf,Rf,Rf,Rf,trivial⟩ fun nx=> ?_
 refine stp ?_
 exact Jb rfl Rf
theorem Jsi (n:Nat):Tells Tryz.prog 28 [Jez 2,fn0 n] (.tup []):=by
 refine Jd Tryz.func28 rfl rfl fun nx=> ?_
 refine stp ?_
 refine Ja rfl rfl JoX ⟨Rf,trivial⟩ fun nx=> ?_
 refine stp ?_
 refine Ja rfl rfl (JBk n) ⟨Rf,Rf,Rf,Rf,Rf,trivial⟩ fun nx=> ?_
 refine stp ?_
 exact Jb rfl Rf
end W
end Go.Proofs

namespace Go.Proofs.W
open Go.Vl
set_option maxRecDepth 100000
theorem Jmd (a:Nat) (z:Int) (h0:0≤z) (h:z < 1073741824):Tells Tryz.prog 23 [int a,u32 z] (u32 (Jee a z:Nat)):=by
 obtain ⟨n,rfl⟩:∃n:Nat,z=n:=⟨z.toNat,by omega⟩
 have hb:Jbp .or .u32 (n:Int) 1073741824=((n||| 1073741824:Nat):Int):=by
  have hlt:n||| 1073741824 < 2 ^ 32:=Nat.or_lt_two_pow Om Dc
  exact JsJ (k:= .u32) (a:=n) (b:=1073741824) (by show n < 2 ^ 32;omega) Dc (by simp [IntKind.wrap,IntKind.signed,IntKind.bits] at hlt⊢;omega)
 refine Jd Tryz.func23 rfl rfl fun nx=> ?_
 unfold Jee
 refine stp ?_
 intro c e;cases c
 ·have e1:¬a=1:=fun h=> by subst h;cases e
  rw [if_neg e1]
  refine stp ?_
  exact Jb rfl Rf
 ·have e1:a=1:=by
   have:=of_decide_eq_true (p:=(a:Int)=1) e.symm
   omega
  rw [if_pos e1]
  refine stp ?_
  exact Jb rfl (AVle.of_eq (congrArg u32 hb))
abbrev J4:=List (Nat×AV)×Option (Nat×Nat×List AV)
def Jas (nm:Nat):J4→AV
 | (_,none)=> .os 0 0 (fun _=> .any) none
 | (R,some (s,cap,_))=> .hs (nm,s) 0 R.length cap
def JbC (nm:Nat):J4→List (Vl.Id×Own)
 | (_,none)=> []
 | (R,some (s,_,tl))=> [((nm,s), .c (JB R++tl))]
def Jbd:J4→Prop
 | (R,none)=> R= []
 | (R,some (_,cap,tl))=> R.length≤cap∧cap * 2≤R.length * 2+tl.length
def Jbg (st:Nat→J4):List (Vl.Id×Own):=(List.range 7).flatMap fun j=> JbC (10+j) (st j)
def J9 (k:Nat) (st:Nat→J4):List (Vl.Id×Own):=((List.range 7).filter (·≠k)).flatMap fun j=> JbC (10+j) (st j)
def Jbu (d:Nat) (x:Bool) (st:Nat→J4):List AV:= [u32 (d:Nat),Ji x,Jas 10 (st 0),Jas 11 (st 1),Jas 12 (st 2),Jas 13 (st 3),Jas 14 (st 4),Jas 15 (st 5),Jas 16 (st 6)]
def Jaw (st:Nat→J4) (k:Nat) (r:J4):Nat→J4:=fun j=> if j=k then r else st j
theorem JgT {k:Nat} (hk:k < 7) (st:Nat→J4):(Jbg st).Perm (JbC (10+k) (st k)++J9 k st):=by
 unfold Jbg J9
 have h:(List.range 7).Perm (k::(List.range 7).filter (·≠k)):=by
  have:k=0∨k=1∨k=2∨k=3∨k=4∨k=5∨k=6:=by omega
  rcases this with rfl | rfl | rfl | rfl | rfl | rfl | rfl <;> decide
 exact (h.flatMap_right _).trans (.of_eq (List.flatMap_cons ..))
theorem JAe {k:Nat} (st:Nat→J4) (r:J4):J9 k (Jaw st k r)=J9 k st:=by
 unfold J9
 rw [List.flatMap_def,List.flatMap_def]
 refine congrArg List.flatten (List.map_congr_left fun j hj=> ?_)
 have:j≠k:=by simpa using (List.mem_filter.1 hj).2
 unfold Jaw
 rw [if_neg this]
theorem Jk0 {k:Nat} (hk:k < 7) (st:Nat→J4) (r:J4):(Jbg (Jaw st k r)).Perm (JbC (10+k) r++J9 k st):=by
 have h:=JgT hk (Jaw st k r)
 rw [JAe] at h
 unfold Jaw at h
 rwa [if_pos rfl] at h
theorem BxLe.of_eq {a b:List (Vl.Id×Own)} (h:a=b):BxLe a b:=h ▸ Bf
theorem Jjv {k:Nat} {st:Nat→J4} {r:J4} (h:∀j,j < 7→Jbd (st j)) (hr:Jbd r):∀j,j < 7→Jbd (Jaw st k r j):=fun j hj=> by
 unfold Jaw
 split
 ·exact hr
 ·exact h j hj
theorem Jkq (R:List (Nat×AV)) (e:Nat×AV):JB (R++ [e])=JB R++ [.v (.int .u32 e.1),e.2]:=by
 unfold JB;rw [List.flatMap_append];rfl
def JdS (e:PEnt):Nat×AV:=(e.num,J0 e.rules)
def Jbm (s:PSub):Nat×AV:=(s.num,u32 (s.code:Nat))
theorem Jfr {a d:Nat} {x:Bool} {row:TRow} {rs:List PRul} (h:row.num a < 0∨(a=1∧x=false)∨Jdk a rs d= []):Jbc a d x row rs= []:=if_pos h
theorem Joh {a d:Nat} {x:Bool} {row:TRow} {rs:List PRul} (h1:¬row.num a < 0) (h2:¬(a=1∧x=false)) (h3:Jdk a rs d≠ []):Jbc a d x row rs= [⟨Jee a (row.num a),Jdk a rs d⟩]:=if_neg fun h=> h.elim h1 fun h=> h.elim h2 h3
theorem Jgm {k d:Nat} {x:Bool} {row:TRow} {rs:List PRul} {st st1:Nat→J4} (h:∀j,j < k→(st1 j).1=(st j).1++(Jbc j d x row rs).map JdS) (hk:st1 k=st k) (he:Jbc k d x row rs= []):∀j,j < k+1→(st1 j).1=(st j).1++(Jbc j d x row rs).map JdS:=fun j hj=> by
 rcases Nat.lt_or_ge j k with h1 | h1
 ·exact h j h1
 ·obtain rfl:j=k:=by omega
  rw [he,hk];exact (List.append_nil _).symm
theorem Jm1 {z:Int} (h0:0≤z) (h:z < 1073741824):IntKind.u32.wrap z=z:=by
 simp [IntKind.wrap,IntKind.signed,IntKind.bits];omega
theorem Jws:Jbv Tryz.prog 85=true:=by kernel_rfl
theorem gc_ent:Tryz.prog.cellsOf 85=2:=by kernel_rfl
theorem Jwt:Tryz.prog.bytesOf 85=32:=by kernel_rfl
theorem Jwu:Jbv Tryz.prog 90=true:=by kernel_rfl
theorem gc_sub:Tryz.prog.cellsOf 90=2:=by kernel_rfl
theorem Jwv:Tryz.prog.bytesOf 90=8:=by kernel_rfl
theorem JjK {f':Nat→AV} {e:Nat×AV} {m:Nat} {T:TypeId} (hT:Tryz.prog.cellsOf T=2) (h:JC 1 f'= [.v (.int .u32 e.1),e.2]):OwnLe (.c (JC 1 f'++List.replicate (m * Tryz.prog.cellsOf T) .any)) (.c (JB [e]++List.replicate (m * 2) .any)):=by
 rw [hT,h];exact OwnLe.refl _
theorem Jww {f':Nat→AV} {e:Nat×AV} {R:List (Nat×AV)} {tl:List AV} {T:TypeId} (hT:Tryz.prog.cellsOf T=2) (h:JC 1 f'= [.v (.int .u32 e.1),e.2]):OwnLe (.c (J5 (JB R++tl) (R.length * Tryz.prog.cellsOf T) (JC 1 f'))) (.c (JB (R++ [e])++tl.drop 2)):=by
 have e1:J5 (JB R++tl) (R.length * Tryz.prog.cellsOf T) (JC 1 f')=JB (R++ [e])++tl.drop 2:=by
  rw [hT,h,show R.length * 2=(JB R).length+0 by rw [Jcr];rfl,Je7,Jkq,Jbr]
  simp
 rw [e1];exact OwnLe.refl _
theorem JqM {f':Nat→AV} {e:Nat×AV} {R:List (Nat×AV)} {tl:List AV} {m:Nat} {T:TypeId} (hT:Tryz.prog.cellsOf T=2) (h:JC 1 f'= [.v (.int .u32 e.1),e.2]):OwnLe (.c ((JB R++tl).take (R.length * Tryz.prog.cellsOf T)++JC 1 f'++List.replicate (m * Tryz.prog.cellsOf T) .any)) (.c (JB (R++ [e])++List.replicate (m * 2) .any)):=by
 have e1:(JB R++tl).take (R.length * Tryz.prog.cellsOf T)=JB R:=by
  rw [hT,← Jcr,List.take_left]
 rw [e1,hT,h,Jkq];exact OwnLe.refl _
theorem Jm2 {k:Nat} (hk:k < 7) {n nx nn:Nat} {L:List (Nat×AV)} {F:List (Vl.Id×Own)} {st:Nat→J4} {r:J4} {df:Option (List DA)}:ELe (mk n L ⟨F++(JbC (10+k) r++J9 k st), [],nx,nn⟩ df) (mk n L ⟨F++Jbg (Jaw st k r), [],nx,nn⟩ df):=
 Jdx (E:=mk n L ⟨F++(JbC (10+k) r++J9 k st), [],nx,nn⟩ df) (h':=⟨F++Jbg (Jaw st k r), [],nx,nn⟩) ⟨(List.Perm.append_left _ (Jk0 hk st r)).map _, .refl _,rfl⟩
theorem Jk1 {k d:Nat} {x:Bool} {row:TRow} {rs:List PRul} {st st1:Nat→J4} {R:List (Nat×AV)} {md:Option (Nat×Nat×List AV)} {z:Nat} {W:List PRul} {md':Option (Nat×Nat×List AV)} (h:∀j,j < k→(st1 j).1=(st j).1++(Jbc j d x row rs).map JdS) (hk:st1 k=st k) (hR:st1 k=(R,md)) (he:Jbc k d x row rs= [⟨z,W⟩]):∀j,j < k+1→(Jaw st1 k (R++ [(z,J0 W)],md') j).1=(st j).1++(Jbc j d x row rs).map JdS:=fun j hj=> by
 unfold Jaw
 rcases Nat.lt_or_ge j k with h1 | h1
 ·rw [if_neg Om];exact h j h1
 ·obtain rfl:j=k:=by omega
  rw [if_pos rfl,he,← hk,hR];rfl
theorem Jk2 {k:Nat} {st st1:Nat→J4} {r:J4} (h:∀j,k≤j→st1 j=st j):∀j,k+1≤j→Jaw st1 k r j=st j:=fun j hj=> by
 unfold Jaw
 rw [if_neg Om];exact h j Om
def JcO (d:Nat) (x:Bool) (f:Nat→AV):List AV:= [u32 (d:Nat),Ji x,f 0,f 1,f 2,f 3,f 4,f 5,f 6]
def JcG (q:Nat) (v:AV) (st:Nat→J4):Nat→AV:=fun j=> bif Nat.beq j q then v else Jas (10+j) (st j)
theorem Jm3 {d:Nat} {x:Bool} {f g:Nat→AV} (h:∀j,AVle (f j) (g j)):OwnLe (.c (JcO d x f)) (.c (JcO d x g)):=⟨Rf,Rf,h 0,h 1,h 2,h 3,h 4,h 5,h 6,trivial⟩
theorem JfR {d q:Nat} {x:Bool} {st:Nat→J4} {v:AV} (h:AVle (Jas (10+q) (st q)) v):OwnLe (.c (Jbu d x st)) (.c (JcO d x (JcG q v st))):=Jm3 (f:=fun j=> Jas (10+j) (st j)) fun j=> by
 unfold JcG
 cases hb:Nat.beq j q
 ·exact Rf
 ·rw [Nat.eq_of_beq_eq_true hb];exact h
theorem JqN {d q:Nat} {x:Bool} {st:Nat→J4} {v:AV} {r:J4} (h:AVle v (Jas (10+q) r)):OwnLe (.c (JcO d x (JcG q v st))) (.c (Jbu d x (Jaw st q r))):=Jm3 (g:=fun j=> Jas (10+j) (Jaw st q r j)) fun j=> by
 unfold JcG Jaw
 cases hb:Nat.beq j q
 ·rw [if_neg (Nat.ne_of_beq_eq_false hb)];exact Rf
 ·have e:=Nat.eq_of_beq_eq_true hb
  subst e
  rw [if_pos rfl];exact h
theorem JeZ {d q:Nat} {x:Bool} {st:Nat→J4} {v:AV} (h:AVle v (Jas (10+q) (st q))):OwnLe (.c (JcO d x (JcG q v st))) (.c (Jbu d x st)):=Jm3 (g:=fun j=> Jas (10+j) (st j)) fun j=> by
 unfold JcG
 cases hb:Nat.beq j q
 ·exact Rf
 ·rw [Nat.eq_of_beq_eq_true hb];exact h
def B20 (s0 s1 nx0:Nat) (ps:List Rul) (dk dn:Int) (x:Bool) (rw0 cs:List AV):List (Vl.Id×Own):= [((20,nx0), .c rw0),((1,s1), .c cs),((0,s0), .c [int dk,int dn,Ji x,Jaj ps])]
theorem Jgn {d q:Nat} {x:Bool} {st:Nat→J4} {v w:AV} {r:J4} (hq:q < 7) (h:AVle w (Jas (10+q) r)):OwnLe (.c (J5 (JcO d x (JcG q v st)) (2+q) [w])) (.c (Jbu d x (Jaw st q r))):=by
 rw [show J5 (JcO d x (JcG q v st)) (2+q) [w]=JcO d x (JcG q w st) by
  rcases (by omega:q=0∨q=1∨q=2∨q=3∨q=4∨q=5∨q=6) with rfl | rfl | rfl | rfl | rfl | rfl | rfl <;> rfl]
 exact JqN h
theorem JhW {a s k cap:Nat} {R:List (Nat×AV)} {e:Nat×AV} {tl:List AV}:AVle (.hs (a,s) 0 (R.length+1) cap) (Jas k (R++ [e],some (s,cap,tl))):=by
 show AVle _ (.hs (k,s) 0 (R++ [e]).length cap)
 rw [List.length_append];exact AVle.hs_nm rfl
theorem Jjw {i j:Vl.Id} {x y:Own} (h2:OwnLe x y) (h1:i.2=j.2):∀F:List (Vl.Id×Own),BxLe (F++ [(i,x)]) (F++ [(j,y)])
 | []=> ⟨h1,h2,trivial⟩
 | _::F=> ⟨rfl,OwnLe.refl _,Jjw h2 h1 F⟩
theorem Jew {i j:Vl.Id} {o o':Own} {R:List (Vl.Id×Own)} (h2:OwnLe o o') (h1:i.2=j.2):BxLe ((i,o)::R) ((j,o')::R):=⟨h1,h2,Bf⟩
theorem JqO {i2 i3:Vl.Id} {o2 o2' o3:Own} {R R':List (Vl.Id×Own)} (h:OwnLe o2 o2') (hR:BxLe R R'):BxLe ([(i2,o2),(i3,o3)]++R) ([(i2,o2'),(i3,o3)]++R'):=⟨rfl,h,rfl,OwnLe.refl _,hR⟩
theorem JiF {k:Nat} (hk:k < 7) {n nx nn:Nat} {L:List (Nat×AV)} {F:List (Vl.Id×Own)} {st:Nat→J4} {df:Option (List DA)}:ELe (mk n L ⟨F++(JbC (10+k) (st k)++J9 k st), [],nx,nn⟩ df) (mk n L ⟨F++Jbg st, [],nx,nn⟩ df):=
 Jdx (E:=mk n L ⟨F++(JbC (10+k) (st k)++J9 k st), [],nx,nn⟩ df) (h':=⟨F++Jbg st, [],nx,nn⟩) ⟨(List.Perm.append_left _ (JgT hk st)).map _, .refl _,rfl⟩
theorem Jef {s0 s1 nx0:Nat} {ps:List Rul} {dk dn:Int} {x:Bool} {rw0 cs cs':List AV} {R R':List (Vl.Id×Own)} (h:OwnLe (.c cs) (.c cs')) (hR:BxLe R R'):BxLe (B20 s0 s1 nx0 ps dk dn x rw0 cs++R) (B20 s0 s1 nx0 ps dk dn x rw0 cs'++R'):=⟨rfl,OwnLe.refl _,rfl,h,rfl,OwnLe.refl _,hR⟩
def JuA (d:Nat) (x:Bool) (row:TRow) (rs:List PRul) (st st':Nat→J4):Prop:=(∀j,j < 7→Jbd (st' j))∧(∀k,k < 5→(st' k).1=(st k).1++(Jbc k d x row rs).map JdS)∧∀m,m < 2→(st' (5+m)).1=(st (5+m)).1++(Jda m row rs).map Jbm
theorem Jm4 {m d:Nat} {x:Bool} {row:TRow} {rs:List PRul} {st st1:Nat→J4} {R:List (Nat×AV)} {md md':Option (Nat×Nat×List AV)} {q:PSub} (hm:m < 2) (hok1:∀j,j < 7→Jbd (st1 j)) (hdone:∀k,k < 5→(st1 k).1=(st k).1++(Jbc k d x row rs).map JdS)
 (hrest:∀j,j < 2→st1 (5+j)=st (5+j)) (hR:st1 (5+m)=(R,md)) (hrow:Jbd (R++ [Jbm q],md')) (hs:Jda m row rs= [q]) (ho:∀j,j < 2→j≠m→Jda j row rs= []):JuA d x row rs st (Jaw st1 (5+m) (R++ [Jbm q],md')):=by
 refine ⟨Jjv hok1 hrow,fun k hk=> ?_,fun j hj=> ?_⟩
 ·unfold Jaw;rw [if_neg Om];exact hdone k hk
 ·unfold Jaw
  by_cases h:j=m
  ·subst h
   rw [if_pos rfl,hs,← hrest j hj,hR];rfl
  ·rw [if_neg Om,ho j hj h,hrest j hj];exact (List.append_nil _).symm
theorem Jjx {h:Heap} {bx:List (Vl.Id×Own)} {nx nn:Nat} (bx'' bx':List (Vl.Id×Own)) (hx:h.nx=nx) (h0:bx''.Perm h.bx) (hb:bx'.Sublist bx'') (hp:h.pm= []) (eb:BxLe bx' bx):HLe h ⟨bx, [],nx,nn⟩:=
 HLe.trans (JkB (h':=⟨bx'',h.pm,h.nx,h.nn⟩) ⟨h0.map _, .refl _,rfl⟩) (Jq bx' [] hx hb (List.nil_sublist _) eb trivial)
theorem Jm5 {k:Nat} (hk:k < 7) {nx nn:Nat} {F:List (Vl.Id×Own)} {st:Nat→J4} {r:J4}:HLe ⟨F++(JbC (10+k) r++J9 k st), [],nx,nn⟩ ⟨F++Jbg (Jaw st k r), [],nx,nn⟩:=
 JkB ⟨(List.Perm.append_left _ (Jk0 hk st r)).map _, .refl _,rfl⟩
set_option maxHeartbeats 8000000 in
theorem JuB (dk dn:Int) (x:Bool) (ps:List Rul) (d:Nat) (row:TRow) (rs:List PRul) (s0 s1 nx0:Nat) (st:Nat→J4) (hok:∀j,j < 7→Jbd (st j)) (hlen:∀j,j < 7→(st j).1.length≤1000000)
 (hn:∀k,row.num k < 1073741824) (hm:row.mux=0∨row.mux=1∨row.mux=2) (hs:0≤row.sub∧row.sub≤255) (hr:rs≠ []) (hl:rs.length≤1000000) (hc:∀r∈rs,r.conds.length≤1000000∧∀c∈r.conds,c.ok):
 ECall Tryz.prog 21 [JeG row,J0 rs, .bp (0,s0) 0, .bp (1,s1) 0] ⟨[((1,s1), .c (Jbu d x st)),((0,s0), .c [int dk,int dn,Ji x,Jaj ps])]++Jbg st, [],nx0,20⟩
  fun r h'=> r= .tup []∧∃st' nx' nn',JuA d x row rs st st'∧h'=⟨[((1,s1), .c (Jbu d x st')),((0,s0), .c [int dk,int dn,Ji x,Jaj ps])]++Jbg st', [],nx',nn'⟩:=by
 obtain ⟨nm,a0,a1,a2,a3,a4,mux,sub⟩:=row
 refine ECall.wk (Jn Tryz.func21 rfl rfl ?_)
 refine stp ?_
 refine Ja5 (fun y:(Nat→J4)×Nat=> mk 75 [(1,J0 rs),(2, .bp (0,s0) 0),(3, .bp (1,s1) 0),(4, .bp (20,nx0) 0)] ⟨[((20,nx0), .c [JJ nm,int a0,int a1,int a2,int a3,int a4,int mux,int sub]),((1,s1), .c (Jbu d x y.1)),((0,s0), .c [int dk,int dn,Ji x,Jaj ps])]++Jbg y.1, [],y.2,21⟩) (fun y=> (∀j,j < 7→Jbd (y.1 j))∧(∀k,k < 5→(y.1 k).1=(st k).1++(Jbc k d x ⟨nm,a0,a1,a2,a3,a4,mux,sub⟩ rs).map JdS)∧∀m,m < 2→y.1 (5+m)=st (5+m)) ?_ ?_
 ·refine Js (fun y:Nat×(Nat→J4)×Nat=> mk 75 [(1,J0 rs),(2, .bp (0,s0) 0),(3, .bp (1,s1) 0),(4, .bp (20,nx0) 0),(9,int y.1)] ⟨[((20,nx0), .c [JJ nm,int a0,int a1,int a2,int a3,int a4,int mux,int sub]),((1,s1), .c (Jbu d x y.2.1)),((0,s0), .c [int dk,int dn,Ji x,Jaj ps])]++Jbg y.2.1, [],y.2.2,21⟩) (fun y=> y.1≤5∧(∀j,j < 7→Jbd (y.2.1 j))∧(∀k,k < y.1→(y.2.1 k).1=(st k).1++(Jbc k d x ⟨nm,a0,a1,a2,a3,a4,mux,sub⟩ rs).map JdS)∧∀j,y.1≤j→y.2.1 j=st j) (fun y=> 5 - y.1) ?_ ?_
  ·exact ⟨(0,st,nx0+1),⟨Nat.zero_le _,hok,fun k h=> absurd h (Nat.not_lt_zero _),fun j _=> rfl⟩,Et rfl rfl Bf trivial ⟨Rf,Rf,Rf,Rf,Rf,trivial⟩⟩
  ·rintro ⟨a,st1,nx2⟩ ⟨h1,hok1,hdone,hrest⟩
   dsimp only at h1 hok1 hdone hrest
   by_cases h5:a=5
   ·subst h5
    refine stp ?_
    exact ⟨(st1,nx2),⟨hok1,hdone,fun m hm=> hrest _ Om⟩,Et rfl rfl Bf trivial ⟨Rf,Rf,Rf,Rf,trivial⟩⟩
   ·obtain ⟨q,hq⟩:∃q,q=a:=⟨a,rfl⟩
    have hq7:q < 7:=by omega
    have hP:=JgT hq7 st1
    have hrk:Jbd (st1 q):=hok1 _ hq7
    have hrs:st1 q=st q:=hrest _ Om
    have hln:(st1 q).1.length≤1000000:=by rw [hrs];exact hlen _ hq7
    have hse:=Jwr q rs d Om hl hc
    have hdq:∀k,k < q→(st1 k).1=(st k).1++(Jbc k d x ⟨nm,a0,a1,a2,a3,a4,mux,sub⟩ rs).map JdS:=by rw [hq];exact hdone
    have hrq:∀j,q≤j→st1 j=st j:=by rw [hq];exact hrest
    have hnq:=hn q
    by_cases hx1:a=1∧x=false
    ·obtain ⟨rfl,rfl⟩:=hx1
     subst hq
     refine AW.le (E':=mk 75 [(1,J0 rs),(2, .bp (0,s0) 0),(3, .bp (1,s1) 0),(4, .bp (20,nx0) 0),(9,int (1:Nat))] ⟨B20 s0 s1 nx0 ps dk dn _ [JJ nm,int a0,int a1,int a2,int a3,int a4,int mux,int sub] (Jbu d _ st1)++Jbg st1, [],nx2,21⟩) (Et rfl rfl Bf trivial ⟨Rf,Rf,Rf,Rf,Rf,trivial⟩) ?_
     unfold B20 Jbu
     refine stp ?_
     intro c t1;cases c
     ·refine stp ?_
      exact back (2,st1,nx2) ⟨by dsimp only;omega,hok1,Jgm hdq hrs (Jfr (.inr (.inl ⟨rfl,rfl⟩))),fun j hj=> hrq j (by dsimp only at hj;omega)⟩ Dm (Et rfl rfl Bf trivial ⟨Rf,Rf,Rf,Rf,Jg rfl,trivial⟩)
     ·refine stp ?_
      exact back (2,st1,nx2) ⟨by dsimp only;omega,hok1,Jgm hdq hrs (Jfr (.inr (.inl ⟨rfl,rfl⟩))),fun j hj=> hrq j (by dsimp only at hj;omega)⟩ Dm (Et rfl rfl Bf trivial ⟨Rf,Rf,Rf,Rf,Jg rfl,trivial⟩)
    have hx2:a=1→x=true:=fun e=> by
     cases x
     ·exact absurd ⟨e,rfl⟩ hx1
     ·rfl
    rcases hk:st1 q with ⟨R,_ | ⟨s,cap,tl⟩⟩
    ·rw [hk] at hP hrk hln
     dsimp only at hln
     have hv:AVle (Jas (10+q) (st1 q)) (.os 0 0 (fun _=> .any) none):=by rw [hk];exact Rf
     have hw:AVle (.os 0 0 (fun _=> .any) none) (Jas (10+q) (st1 q)):=by rw [hk];exact Rf
     have hbx:BxLe (J9 q st1) (JbC (10+q) (st1 q)++J9 q st1):=by rw [hk];exact Bf
     obtain rfl:R= []:=hrk
     refine AW.le (E':=mk 75 [(1,J0 rs),(2, .bp (0,s0) 0),(3, .bp (1,s1) 0),(4, .bp (20,nx0) 0),(9,int (a:Nat))] (⟨B20 s0 s1 nx0 ps dk dn x [JJ nm,int a0,int a1,int a2,int a3,int a4,int mux,int sub] (JcO d x (JcG a (.os 0 0 (fun _=> .any) none) st1))++([]++J9 q st1), [],nx2,21⟩:Heap)) (Jav (B20 s0 s1 nx0 ps dk dn x [JJ nm,int a0,int a1,int a2,int a3,int a4,int mux,int sub] (Jbu d x st1)++(_++J9 q st1)) _ [] rfl rfl (List.Perm.append_left _ hP.symm) Sf Sf (Jef (by subst hq;exact JfR hv) Bf) trivial ⟨Rf,Rf,Rf,Rf,Rf,trivial⟩) ?_
     obtain ⟨B,hB⟩:∃B:List (Vl.Id×Own),B=B20 s0 s1 nx0 ps dk dn x [JJ nm,int a0,int a1,int a2,int a3,int a4,int mux,int sub] (JcO d x (JcG a (.os 0 0 (fun _=> .any) none) st1)):=⟨_,rfl⟩
     rcases (by omega:a=0∨a=1∨a=2∨a=3∨a=4) with rfl | rfl | rfl | rfl | rfl
     all_goals
      try (obtain rfl:=hx2 rfl)
      unfold B20
      refine stp ?_
      intro c t1;cases c
      ·have t1:=Jw t1
       have t1q:¬(⟨nm,a0,a1,a2,a3,a4,mux,sub⟩:TRow).num q < 0:=by subst hq;exact t1
       refine stp ?_
       refine Ja rfl rfl hse ⟨Jg (by subst hq;rfl),Rf,Rf,trivial⟩ fun nx3=> ?_
       refine stp ?_
       intro c t2;cases c
       ·have t2:=Jw t2
        refine stp ?_
        exact back (q+1,st1,nx3) ⟨by dsimp only;omega,hok1,Jgm hdq hrs (Jfr (.inr (.inr (List.eq_nil_of_length_eq_zero Om)))),fun j hj=> hrq j (by dsimp only at hj;omega)⟩ Dm (ELe.trans (Jav (L:= [(1,J0 rs),(2, .bp (0,s0) 0),(3, .bp (1,s1) 0),(4, .bp (20,nx0) 0),(9,int (q+1:Nat))]) _ _ [] rfl rfl (List.Perm.refl _) Sf Sf (Jef (cs:=JcO d _ (JcG _ (.os 0 0 (fun _=> .any) none) st1)) (by subst hq;exact JeZ hw) hbx) Pf ⟨Rf,Rf,Rf,Rf,Jg (by subst hq;rfl),trivial⟩) (JiF hq7))
       ·have t2:=Jv t2
        have hwh:=Jmd q ((⟨nm,a0,a1,a2,a3,a4,mux,sub⟩:TRow).num q) Om hnq
        have hen:Jbc q d _ (⟨nm,a0,a1,a2,a3,a4,mux,sub⟩:TRow) rs= [⟨Jee q ((⟨nm,a0,a1,a2,a3,a4,mux,sub⟩:TRow).num q),Jdk q rs d⟩]:=Joh t1q (fun h=> hx1 ⟨hq.symm.trans h.1,h.2⟩) (fun h=> by rw [h] at t2;exact absurd t2 Dc)
        have hwz:AVle (AV.v (.int .u32 (IntKind.u32.wrap ((⟨nm,a0,a1,a2,a3,a4,mux,sub⟩:TRow).num q)))) (u32 ((⟨nm,a0,a1,a2,a3,a4,mux,sub⟩:TRow).num q)):=AVle.of_eq (congrArg u32 (Jm1 Om hnq))
        generalize hW:Jdk q rs d=W at t2 hen
        generalize hz:Jee q ((⟨nm,a0,a1,a2,a3,a4,mux,sub⟩:TRow).num q)=z at hwh hen
        refine stp ?_
        refine Ja4 14 B (fun i=> match i with | 12=> true | _=> false) (fun i=> match i with | 8=> true | _=> false) [0,1,2,3,4,5,6,7,8,9,10,11,13,12] (by kernel_rfl) (by kernel_rfl) (by subst hB;exact HB.cons rfl (HB.cons rfl (HB.one rfl))) ?_
        subst hB
        unfold B20
        refine stp ?_
        refine ⟨_,Jb2 rfl rfl rfl hwh ⟨Jg (by subst hq;rfl),by subst hq;exact hwz,trivial⟩ (NoId.v _), ?_⟩
        refine stp ?_
        refine ⟨_,Jja (e:=85) (szx:=2) (m:=1) rfl rfl rfl (.inr ⟨_,rfl⟩) Tryz.underlying35 Jws gc_ent.symm Dc (JM rfl) (by rw [Jwt];omega) Om (fun _=> (HB.cons rfl (HB.cons rfl (HB.one rfl)))),fun r h' hr=> ?_⟩
        obtain ⟨ncap,hge,rfl,rfl⟩:=hr
        have hro:Jbd ([]++ [(z,J0 W)],some (nx3,ncap,List.replicate ((ncap - 1) * 2) .any)):=⟨(by simpa using hge),by rw [List.length_replicate];show ncap * 2≤1 * 2+_;omega⟩
        refine stp ?_
        exact back (q+1,Jaw st1 q ([]++ [(z,J0 W)],some (nx3,ncap,List.replicate ((ncap - 1) * 2) .any)),nx3+1) ⟨by dsimp only;omega,Jjv hok1 hro,Jk1 (R:= []) hdq hrs hk hen,Jk2 hrq⟩ Dm (ELe.trans (Jav (L:= [(1,J0 rs),(2, .bp (0,s0) 0),(3, .bp (1,s1) 0),(4, .bp (20,nx0) 0),(9,int (q+1:Nat))]) (bx:=B20 s0 s1 nx0 ps dk dn _ [JJ nm,int a0,int a1,int a2,int a3,int a4,int mux,int sub] (Jbu d _ (Jaw st1 q ([]++ [(z,J0 W)],some (nx3,ncap,List.replicate ((ncap - 1) * 2) .any))))++(JbC (10+q) ([]++ [(z,J0 W)],some (nx3,ncap,List.replicate ((ncap - 1) * 2) .any))++J9 q st1)) (pm:= []) _ _ [] rfl rfl (List.perm_middle (l₁:= [_,_,_])) Sf Sf (Jef (by subst hq;exact Jgn (r:=([]++ [(z,J0 W)],some (nx3,ncap,List.replicate ((ncap - 1) * 2) .any))) Dc (JhW (R:= []))) (Jew (JjK gc_ent rfl) rfl)) Pf ⟨Rf,Rf,Rf,Rf,Jg (by subst hq;rfl),trivial⟩) (Jm2 hq7))
      ·have t1:=Jv t1
       have t1q:(⟨nm,a0,a1,a2,a3,a4,mux,sub⟩:TRow).num q < 0:=by subst hq;exact t1
       refine stp ?_
       exact back (q+1,st1,nx2) ⟨by dsimp only;omega,hok1,Jgm hdq hrs (Jfr (.inl t1q)),fun j hj=> hrq j (by dsimp only at hj;omega)⟩ Dm (ELe.trans (Jav (L:= [(1,J0 rs),(2, .bp (0,s0) 0),(3, .bp (1,s1) 0),(4, .bp (20,nx0) 0),(9,int (q+1:Nat))]) _ _ [] rfl rfl (List.Perm.refl _) Sf Sf (Jef (cs:=JcO d _ (JcG _ (.os 0 0 (fun _=> .any) none) st1)) (by subst hq;exact JeZ hw) hbx) Pf ⟨Rf,Rf,Rf,Rf,Jg (by subst hq;rfl),trivial⟩) (JiF hq7))
    ·rw [hk] at hP hrk hln
     dsimp only at hln
     have hv:AVle (Jas (10+q) (st1 q)) (.hs (30,s) 0 R.length cap):=by rw [hk];exact AVle.hs_nm rfl
     have hw:AVle (.hs (30,s) 0 R.length cap) (Jas (10+q) (st1 q)):=by rw [hk];exact AVle.hs_nm rfl
     have hbx:BxLe (((30,s),Own.c (JB R++tl))::J9 q st1) (JbC (10+q) (st1 q)++J9 q st1):=by rw [hk];exact Jew (OwnLe.refl _) rfl
     refine AW.le (E':=mk 75 [(1,J0 rs),(2, .bp (0,s0) 0),(3, .bp (1,s1) 0),(4, .bp (20,nx0) 0),(9,int (a:Nat))] (⟨B20 s0 s1 nx0 ps dk dn x [JJ nm,int a0,int a1,int a2,int a3,int a4,int mux,int sub] (JcO d x (JcG a (.hs (30,s) 0 R.length cap) st1))++([((30,s),Own.c (JB R++tl))]++J9 q st1), [],nx2,21⟩:Heap)) (Jav (B20 s0 s1 nx0 ps dk dn x [JJ nm,int a0,int a1,int a2,int a3,int a4,int mux,int sub] (Jbu d x st1)++(_++J9 q st1)) _ [] rfl rfl (List.Perm.append_left _ hP.symm) Sf Sf (Jef (by subst hq;exact JfR hv) (show BxLe (((10+q,s),Own.c (JB R++tl))::J9 q st1) _ from Jew (OwnLe.refl _) rfl)) trivial ⟨Rf,Rf,Rf,Rf,Rf,trivial⟩) ?_
     obtain ⟨B,hB⟩:∃B:List (Vl.Id×Own),B=B20 s0 s1 nx0 ps dk dn x [JJ nm,int a0,int a1,int a2,int a3,int a4,int mux,int sub] (JcO d x (JcG a (.hs (30,s) 0 R.length cap) st1)):=⟨_,rfl⟩
     rcases (by omega:a=0∨a=1∨a=2∨a=3∨a=4) with rfl | rfl | rfl | rfl | rfl
     all_goals
      try (obtain rfl:=hx2 rfl)
      unfold B20
      refine stp ?_
      intro c t1;cases c
      ·have t1:=Jw t1
       have t1q:¬(⟨nm,a0,a1,a2,a3,a4,mux,sub⟩:TRow).num q < 0:=by subst hq;exact t1
       refine stp ?_
       refine Ja rfl rfl hse ⟨Jg (by subst hq;rfl),Rf,Rf,trivial⟩ fun nx3=> ?_
       refine stp ?_
       intro c t2;cases c
       ·have t2:=Jw t2
        refine stp ?_
        exact back (q+1,st1,nx3) ⟨by dsimp only;omega,hok1,Jgm hdq hrs (Jfr (.inr (.inr (List.eq_nil_of_length_eq_zero Om)))),fun j hj=> hrq j (by dsimp only at hj;omega)⟩ Dm (ELe.trans (Jav (L:= [(1,J0 rs),(2, .bp (0,s0) 0),(3, .bp (1,s1) 0),(4, .bp (20,nx0) 0),(9,int (q+1:Nat))]) _ _ [] rfl rfl (List.Perm.refl _) Sf Sf (Jef (cs:=JcO d _ (JcG _ (.hs (30,s) 0 R.length cap) st1)) (by subst hq;exact JeZ hw) hbx) Pf ⟨Rf,Rf,Rf,Rf,Jg (by subst hq;rfl),trivial⟩) (JiF hq7))
       ·have t2:=Jv t2
        have hwh:=Jmd q ((⟨nm,a0,a1,a2,a3,a4,mux,sub⟩:TRow).num q) Om hnq
        have hen:Jbc q d _ (⟨nm,a0,a1,a2,a3,a4,mux,sub⟩:TRow) rs= [⟨Jee q ((⟨nm,a0,a1,a2,a3,a4,mux,sub⟩:TRow).num q),Jdk q rs d⟩]:=Joh t1q (fun h=> hx1 ⟨hq.symm.trans h.1,h.2⟩) (fun h=> by rw [h] at t2;exact absurd t2 Dc)
        have hwz:AVle (AV.v (.int .u32 (IntKind.u32.wrap ((⟨nm,a0,a1,a2,a3,a4,mux,sub⟩:TRow).num q)))) (u32 ((⟨nm,a0,a1,a2,a3,a4,mux,sub⟩:TRow).num q)):=AVle.of_eq (congrArg u32 (Jm1 Om hnq))
        generalize hW:Jdk q rs d=W at t2 hen
        generalize hz:Jee q ((⟨nm,a0,a1,a2,a3,a4,mux,sub⟩:TRow).num q)=z at hwh hen
        refine stp ?_
        refine Ja4 14 B (fun i=> match i with | 12=> true | _=> false) (fun i=> match i with | 8=> true | _=> false) [0,1,2,3,4,5,6,7,8,9,10,11,13,12] (by kernel_rfl) (by kernel_rfl) (by subst hB;exact HB.cons rfl (HB.cons rfl (HB.one rfl))) ?_
        subst hB
        unfold B20
        refine stp ?_
        refine ⟨_,Jb2 rfl rfl rfl hwh ⟨Jg (by subst hq;rfl),by subst hq;exact hwz,trivial⟩ (NoId.v _), ?_⟩
        refine stp ?_
        refine ⟨_,Jkg (e:=85) (szx:=2) (m:=1) (n:=R.length) (cap:=cap) (i:=(30,s)) (cs:=JB R++tl) rfl rfl rfl (.inr ⟨_,rfl⟩) Tryz.underlying35 Jws gc_ent.symm Dc rfl hrk.1 (by rw [gc_ent,List.length_append,Jcr];exact hrk.2) (JM rfl) (by rw [Jwt];omega) Om (HB.cons rfl (HB.cons rfl (HB.one rfl))) (fun _=> (HB.cons rfl (HB.cons rfl (HB.one rfl)))),fun r h' hr=> ?_⟩
        rcases hr with ⟨hfit,rfl,rfl⟩ | ⟨ncap,hge,rfl,rfl⟩
        ·have hro:Jbd (R++ [(z,J0 W)],some (s,cap,tl.drop 2)):=⟨by rw [List.length_append];exact hfit,by have:=hrk.2;rw [List.length_append,List.length_drop,List.length_singleton];omega⟩
         refine stp ?_
         exact back (q+1,Jaw st1 q (R++ [(z,J0 W)],some (s,cap,tl.drop 2)),nx3) ⟨by dsimp only;omega,Jjv hok1 hro,Jk1 (R:=R) hdq hrs hk hen,Jk2 hrq⟩ Dm (ELe.trans (Jav (L:= [(1,J0 rs),(2, .bp (0,s0) 0),(3, .bp (1,s1) 0),(4, .bp (20,nx0) 0),(9,int (q+1:Nat))]) (bx:=B20 s0 s1 nx0 ps dk dn _ [JJ nm,int a0,int a1,int a2,int a3,int a4,int mux,int sub] (Jbu d _ (Jaw st1 q (R++ [(z,J0 W)],some (s,cap,tl.drop 2))))++(JbC (10+q) (R++ [(z,J0 W)],some (s,cap,tl.drop 2))++J9 q st1)) (pm:= []) _ _ [] rfl rfl (List.Perm.refl _) Sf Sf (Jef (by subst hq;exact Jgn (r:=(R++ [(z,J0 W)],some (s,cap,tl.drop 2))) Dc JhW) (Jew (Jww gc_ent rfl) rfl)) Pf ⟨Rf,Rf,Rf,Rf,Jg (by subst hq;rfl),trivial⟩) (Jm2 hq7))
        ·have hro:Jbd (R++ [(z,J0 W)],some (nx3,ncap,List.replicate ((ncap - (R.length+1)) * 2) .any)):=⟨by rw [List.length_append];exact hge,by rw [List.length_append,List.length_replicate,List.length_singleton,← Nat.add_mul];omega⟩
         refine stp ?_
         exact back (q+1,Jaw st1 q (R++ [(z,J0 W)],some (nx3,ncap,List.replicate ((ncap - (R.length+1)) * 2) .any)),nx3+1) ⟨by dsimp only;omega,Jjv hok1 hro,Jk1 (R:=R) hdq hrs hk hen,Jk2 hrq⟩ Dm (ELe.trans (Jav (L:= [(1,J0 rs),(2, .bp (0,s0) 0),(3, .bp (1,s1) 0),(4, .bp (20,nx0) 0),(9,int (q+1:Nat))]) (bx:=B20 s0 s1 nx0 ps dk dn _ [JJ nm,int a0,int a1,int a2,int a3,int a4,int mux,int sub] (Jbu d _ (Jaw st1 q (R++ [(z,J0 W)],some (nx3,ncap,List.replicate ((ncap - (R.length+1)) * 2) .any))))++(JbC (10+q) (R++ [(z,J0 W)],some (nx3,ncap,List.replicate ((ncap - (R.length+1)) * 2) .any))++J9 q st1)) (pm:= []) _ _ [] rfl rfl (List.perm_middle (l₁:= [_,_,_])) (List.Sublist.append_left (.cons_cons _ (.cons _ Sf)) [_,_,_]) Sf (Jef (by subst hq;exact Jgn (r:=(R++ [(z,J0 W)],some (nx3,ncap,List.replicate ((ncap - (R.length+1)) * 2) .any))) Dc JhW) (Jew (JqM gc_ent rfl) rfl)) Pf ⟨Rf,Rf,Rf,Rf,Jg (by subst hq;rfl),trivial⟩) (Jm2 hq7))
      ·have t1:=Jv t1
       have t1q:(⟨nm,a0,a1,a2,a3,a4,mux,sub⟩:TRow).num q < 0:=by subst hq;exact t1
       refine stp ?_
       exact back (q+1,st1,nx2) ⟨by dsimp only;omega,hok1,Jgm hdq hrs (Jfr (.inl t1q)),fun j hj=> hrq j (by dsimp only at hj;omega)⟩ Dm (ELe.trans (Jav (L:= [(1,J0 rs),(2, .bp (0,s0) 0),(3, .bp (1,s1) 0),(4, .bp (20,nx0) 0),(9,int (q+1:Nat))]) _ _ [] rfl rfl (List.Perm.refl _) Sf Sf (Jef (cs:=JcO d _ (JcG _ (.hs (30,s) 0 R.length cap) st1)) (by subst hq;exact JeZ hw) hbx) Pf ⟨Rf,Rf,Rf,Rf,Jg (by subst hq;rfl),trivial⟩) (JiF hq7))
 ·rintro ⟨st1,nx2⟩ ⟨hok1,hdone,hrest⟩
  dsimp only at hok1 hdone hrest
  rcases hm with rfl | hm
  ·refine stp ?_
   exact Jr rfl ⟨.tup [],⟨[((1,s1), .c (Jbu d x st1)),((0,s0), .c [int dk,int dn,Ji x,Jaj ps])]++Jbg st1, [],nx2,21⟩,Rf,Jq _ [] rfl (.cons _ Sf) Sf Bf trivial,rfl,st1,_,_,⟨hok1,hdone,fun m hm=> by rw [show Jda m ⟨nm,a0,a1,a2,a3,a4,0,sub⟩ rs= [] from if_neg (show ¬(0:Int)=(m:Int)+1 by omega),hrest m hm];exact (List.append_nil _).symm⟩,rfl⟩
  ·obtain ⟨m,hm2,rfl⟩:∃m:Nat,m < 2∧mux=((m+1:Nat):Int):=by
    rcases hm with rfl | rfl
    ·exact ⟨0,by decide,rfl⟩
    ·exact ⟨1,by decide,rfl⟩
   obtain ⟨q,hq⟩:∃q,q=m:=⟨m,rfl⟩
   have hq7:5+q < 7:=by omega
   have hP:=JgT hq7 st1
   have hrk:Jbd (st1 (5+q)):=hok1 _ hq7
   have hln:(st1 (5+q)).1.length≤1000000:=by rw [hrest q Om];exact hlen _ hq7
   obtain ⟨sx,hsx⟩:∃sx:PSub,sx=⟨sub.toNat,(rs.getD 0 JI).code⟩:=⟨_,rfl⟩
   have hsb:Jda q ⟨nm,a0,a1,a2,a3,a4,((m+1:Nat):Int),sub⟩ rs= [sx]:=by rw [hsx];exact if_pos (show ((m+1:Nat):Int)=(q:Int)+1 by omega)
   have hso:∀j,j < 2→j≠q→Jda j ⟨nm,a0,a1,a2,a3,a4,((m+1:Nat):Int),sub⟩ rs= []:=fun j hj hne=> if_neg (show ¬((m+1:Nat):Int)=(j:Int)+1 by omega)
   have hs1:0≤sub:=hs.1
   have hs2:sub≤255:=hs.2
   have hr0:0 < rs.length:=List.length_pos_iff.2 hr
   have hw2: [AV.v (.int .u32 (IntKind.u32.wrap sub)),u32 ((rs.getD 0 JI).code:Nat)]= [AV.v (.int .u32 ((Jbm sx).1:Nat)),(Jbm sx).2]:=by
    rw [hsx]
    exact congrArg (fun z:Int=> [AV.v (.int .u32 z),u32 ((rs.getD 0 JI).code:Nat)]) (show IntKind.u32.wrap sub=((sub.toNat:Nat):Int) by rw [Jm1 hs1 Om];omega)
   rcases hk:st1 (5+q) with ⟨R,_ | ⟨s,cap,tl⟩⟩
   ·rw [hk] at hP hrk hln
    dsimp only at hln
    have hv:AVle (Jas (10+(5+q)) (st1 (5+q))) (.os 0 0 (fun _=> .any) none):=by rw [hk];exact Rf
    obtain rfl:R= []:=hrk
    refine AW.le (E':=mk 75 [(1,J0 rs),(2, .bp (0,s0) 0),(3, .bp (1,s1) 0),(4, .bp (20,nx0) 0)] (⟨B20 s0 s1 nx0 ps dk dn x [JJ nm,int a0,int a1,int a2,int a3,int a4,int (m+1:Nat),int sub] (JcO d x (JcG (5+m) (.os 0 0 (fun _=> .any) none) st1))++([]++J9 (5+q) st1), [],nx2,21⟩:Heap)) (Jav (B20 s0 s1 nx0 ps dk dn x [JJ nm,int a0,int a1,int a2,int a3,int a4,int (m+1:Nat),int sub] (Jbu d x st1)++(_++J9 (5+q) st1)) _ [] rfl rfl (List.Perm.append_left _ hP.symm) Sf Sf (Jef (by subst hq;exact JfR hv) Bf) trivial ⟨Rf,Rf,Rf,Rf,trivial⟩) ?_
    obtain ⟨B,hB⟩:∃B:List (Vl.Id×Own),B=B20 s0 s1 nx0 ps dk dn x [JJ nm,int a0,int a1,int a2,int a3,int a4,int (m+1:Nat),int sub] (JcO d x (JcG (5+m) (.os 0 0 (fun _=> .any) none) st1)):=⟨_,rfl⟩
    rcases (by omega:m=0∨m=1) with rfl | rfl
    all_goals
     unfold B20
     refine stp ?_
     refine Ja4 20 B (fun i=> match i with | 18=> true | _=> false) (fun _=> false) [0,1,2,3,4,5,6,7,8,9,10,11,12,13,14,15,16,17,19,18] (by kernel_rfl) (by kernel_rfl) (by subst hB;exact HB.cons rfl (HB.cons rfl (HB.one rfl))) ?_
     subst hB
     unfold B20
     refine stp ?_
     refine ⟨Bd,Jdu (b:= .rp (JdZ (rs.getD 0 JI)).cells) rfl ?_⟩
     refine stp ?_
     refine ⟨_,Jja (e:=90) (szx:=2) (m:=1) rfl rfl rfl (.inr ⟨_,rfl⟩) Tryz.underlying37 Jwu gc_sub.symm Dc (JM rfl) (by rw [Jwv];omega) Om (fun _=> (HB.cons rfl (HB.cons rfl (HB.one rfl)))),fun r h' hr=> ?_⟩
     obtain ⟨ncap,hge,rfl,rfl⟩:=hr
     have hro:Jbd ([]++ [Jbm sx],some (nx2,ncap,List.replicate ((ncap - 1) * 2) .any)):=⟨(by simpa using hge),by rw [List.length_replicate];show ncap * 2≤1 * 2+_;omega⟩
     refine stp ?_
     exact Jr rfl ⟨.tup [],⟨[((1,s1), .c (Jbu d x (Jaw st1 (5+q) ([]++ [Jbm sx],some (nx2,ncap,List.replicate ((ncap - 1) * 2) .any))))),((0,s0), .c [int dk,int dn,Ji x,Jaj ps])]++Jbg (Jaw st1 (5+q) ([]++ [Jbm sx],some (nx2,ncap,List.replicate ((ncap - 1) * 2) .any))), [],nx2+1,21⟩,Rf,HLe.trans (Jjx (bx:= [((1,s1), .c (Jbu d x (Jaw st1 (5+q) ([]++ [Jbm sx],some (nx2,ncap,List.replicate ((ncap - 1) * 2) .any))))),((0,s0), .c [int dk,int dn,Ji x,Jaj ps])]++(JbC (10+(5+q)) ([]++ [Jbm sx],some (nx2,ncap,List.replicate ((ncap - 1) * 2) .any))++J9 (5+q) st1)) _ _ rfl (List.perm_middle (l₁:= [_,_,_])) (.cons _ Sf) rfl (JqO (by subst hq;exact Jgn (r:=([]++ [Jbm sx],some (nx2,ncap,List.replicate ((ncap - 1) * 2) .any))) Dc (JhW (R:= []))) (Jew (JjK (e:=Jbm sx) gc_sub (by exact hw2)) rfl))) (Jm5 hq7),rfl,_,_,_,Jm4 (R:= []) Om hok1 hdone hrest hk hro hsb hso,rfl⟩
   ·rw [hk] at hP hrk hln
    dsimp only at hln
    have hv:AVle (Jas (10+(5+q)) (st1 (5+q))) (.hs (30,s) 0 R.length cap):=by rw [hk];exact AVle.hs_nm rfl
    refine AW.le (E':=mk 75 [(1,J0 rs),(2, .bp (0,s0) 0),(3, .bp (1,s1) 0),(4, .bp (20,nx0) 0)] (⟨B20 s0 s1 nx0 ps dk dn x [JJ nm,int a0,int a1,int a2,int a3,int a4,int (m+1:Nat),int sub] (JcO d x (JcG (5+m) (.hs (30,s) 0 R.length cap) st1))++([((30,s),Own.c (JB R++tl))]++J9 (5+q) st1), [],nx2,21⟩:Heap)) (Jav (B20 s0 s1 nx0 ps dk dn x [JJ nm,int a0,int a1,int a2,int a3,int a4,int (m+1:Nat),int sub] (Jbu d x st1)++(_++J9 (5+q) st1)) _ [] rfl rfl (List.Perm.append_left _ hP.symm) Sf Sf (Jef (by subst hq;exact JfR hv) (show BxLe (((10+(5+q),s),Own.c (JB R++tl))::J9 (5+q) st1) _ from Jew (OwnLe.refl _) rfl)) trivial ⟨Rf,Rf,Rf,Rf,trivial⟩) ?_
    obtain ⟨B,hB⟩:∃B:List (Vl.Id×Own),B=B20 s0 s1 nx0 ps dk dn x [JJ nm,int a0,int a1,int a2,int a3,int a4,int (m+1:Nat),int sub] (JcO d x (JcG (5+m) (.hs (30,s) 0 R.length cap) st1)):=⟨_,rfl⟩
    rcases (by omega:m=0∨m=1) with rfl | rfl
    all_goals
     unfold B20
     refine stp ?_
     refine Ja4 20 B (fun i=> match i with | 18=> true | _=> false) (fun _=> false) [0,1,2,3,4,5,6,7,8,9,10,11,12,13,14,15,16,17,19,18] (by kernel_rfl) (by kernel_rfl) (by subst hB;exact HB.cons rfl (HB.cons rfl (HB.one rfl))) ?_
     subst hB
     unfold B20
     refine stp ?_
     refine ⟨Bd,Jdu (b:= .rp (JdZ (rs.getD 0 JI)).cells) rfl ?_⟩
     refine stp ?_
     refine ⟨_,Jkg (e:=90) (szx:=2) (m:=1) (n:=R.length) (cap:=cap) (i:=(30,s)) (cs:=JB R++tl) rfl rfl rfl (.inr ⟨_,rfl⟩) Tryz.underlying37 Jwu gc_sub.symm Dc rfl hrk.1 (by rw [gc_sub,List.length_append,Jcr];exact hrk.2) (JM rfl) (by rw [Jwv];omega) Om (HB.cons rfl (HB.cons rfl (HB.one rfl))) (fun _=> (HB.cons rfl (HB.cons rfl (HB.one rfl)))),fun r h' hr=> ?_⟩
     rcases hr with ⟨hfit,rfl,rfl⟩ | ⟨ncap,hge,rfl,rfl⟩
     ·have hro:Jbd (R++ [Jbm sx],some (s,cap,tl.drop 2)):=⟨by rw [List.length_append];exact hfit,by have:=hrk.2;rw [List.length_append,List.length_drop,List.length_singleton];omega⟩
      refine stp ?_
      exact Jr rfl ⟨.tup [],⟨[((1,s1), .c (Jbu d x (Jaw st1 (5+q) (R++ [Jbm sx],some (s,cap,tl.drop 2))))),((0,s0), .c [int dk,int dn,Ji x,Jaj ps])]++Jbg (Jaw st1 (5+q) (R++ [Jbm sx],some (s,cap,tl.drop 2))), [],nx2,21⟩,Rf,HLe.trans (Jjx (bx:= [((1,s1), .c (Jbu d x (Jaw st1 (5+q) (R++ [Jbm sx],some (s,cap,tl.drop 2))))),((0,s0), .c [int dk,int dn,Ji x,Jaj ps])]++(JbC (10+(5+q)) (R++ [Jbm sx],some (s,cap,tl.drop 2))++J9 (5+q) st1)) (B20 s0 s1 nx0 ps dk dn x _ _++(((30,s), .c _)::J9 (5+q) st1)) ([((1,s1), .c _),((0,s0), .c [int dk,int dn,Ji x,Jaj ps])]++(((30,s), .c _)::J9 (5+q) st1)) rfl (List.Perm.refl _) (.cons _ Sf) rfl (JqO (by subst hq;exact Jgn (r:=(R++ [Jbm sx],some (s,cap,tl.drop 2))) Dc JhW) (Jew (Jww (e:=Jbm sx) gc_sub (by exact hw2)) rfl))) (Jm5 hq7),rfl,_,_,_,Jm4 (R:=R) Om hok1 hdone hrest hk hro hsb hso,rfl⟩
     ·have hro:Jbd (R++ [Jbm sx],some (nx2,ncap,List.replicate ((ncap - (R.length+1)) * 2) .any)):=⟨by rw [List.length_append];exact hge,by rw [List.length_append,List.length_replicate,List.length_singleton,← Nat.add_mul];omega⟩
      refine stp ?_
      exact Jr rfl ⟨.tup [],⟨[((1,s1), .c (Jbu d x (Jaw st1 (5+q) (R++ [Jbm sx],some (nx2,ncap,List.replicate ((ncap - (R.length+1)) * 2) .any))))),((0,s0), .c [int dk,int dn,Ji x,Jaj ps])]++Jbg (Jaw st1 (5+q) (R++ [Jbm sx],some (nx2,ncap,List.replicate ((ncap - (R.length+1)) * 2) .any))), [],nx2+1,21⟩,Rf,HLe.trans (Jjx (bx:= [((1,s1), .c (Jbu d x (Jaw st1 (5+q) (R++ [Jbm sx],some (nx2,ncap,List.replicate ((ncap - (R.length+1)) * 2) .any))))),((0,s0), .c [int dk,int dn,Ji x,Jaj ps])]++(JbC (10+(5+q)) (R++ [Jbm sx],some (nx2,ncap,List.replicate ((ncap - (R.length+1)) * 2) .any))++J9 (5+q) st1)) (B20 s0 s1 nx0 ps dk dn x _ _++(((21,nx2), .c _)::((30,s), .c _)::J9 (5+q) st1)) ([((1,s1), .c _),((0,s0), .c [int dk,int dn,Ji x,Jaj ps])]++(((21,nx2), .c _)::J9 (5+q) st1)) rfl (List.perm_middle (l₁:= [_,_,_])) (.cons _ (.cons_cons _ (.cons_cons _ (.cons_cons _ (.cons _ Sf))))) rfl (JqO (by subst hq;exact Jgn (r:=(R++ [Jbm sx],some (nx2,ncap,List.replicate ((ncap - (R.length+1)) * 2) .any))) Dc JhW) (Jew (JqM (e:=Jbm sx) gc_sub (by exact hw2)) rfl))) (Jm5 hq7),rfl,_,_,_,Jm4 (R:=R) Om hok1 hdone hrest hk hro hsb hso,rfl⟩
end Go.Proofs.W

namespace Go.Proofs.W
open Go.Vl Go.Shelf Go.RowKit
set_option maxRecDepth 100000
theorem Jwx (n:Nat) (h1:1≤n) (h2:n < 18446744073709551616):Tells Tryz.prog 307 [u64 n] (int (Lib.nDigits n:Nat)):=
 JdT (vs:= [.int .u64 n]) ⟨_,Tryz.func307,rfl,rfl⟩ fun w hk=> (Any.internal_strconv_numDigits { Tryz.laysM171 with} n h1 h2 w (Jtd hk)).mono fun e w' ⟨h1,h2⟩=> ⟨h1,h2 ▸ Below.refl _ _⟩
theorem JuC (n:Nat) (h:n < 100):Tells Tryz.prog 306 [int n] (JJ (JdR n)):=
 JdT (vs:= [.int .i64 n]) ⟨_,Tryz.func306,rfl,rfl⟩ fun w hk=> (Any.internal_strconv_small { Tryz.laysM171 with} n h w).mono fun e w' ⟨h1,h2⟩=> ⟨h1,h2 ▸ Below.refl _ _⟩
def byV (b:UInt8):Value:= .int .u8 (b.toNat:Int)
def zer (k:Nat):List AV:=List.replicate k (.v (.int .u8 0))
theorem JAf {k:Nat} (h:k≤24):zer 24=(Array.replicate k (0:UInt8)).toList.map (fun b=> AV.v (byV b))++zer (24 - k):=by
 unfold zer
 rw [Array.toList_replicate,List.map_replicate,show byV 0= .int .u8 0 from rfl,List.replicate_append_replicate]
 congr 1
 omega
theorem Jy9 {n:Nat} (h1:1≤n) (h:n < 18446744073709551616):Lib.nDigits n≤20:=by
 have:=Lib.numDigits_eq n h1 h
 split at this <;> omega
def Jyx (n:Nat):List AV:=(Lib.decDigits n).map (fun b=> AV.v (byV b))++zer (24 - Lib.nDigits n)
theorem JuD (n:Nat) (h1:1≤n) (h:n < 18446744073709551616) (s nx:Nat):
 ECall Tryz.prog 308 [.hs (0,s) 0 (Lib.nDigits n) 24,u64 n] ⟨[((0,s), .c (zer 24))], [],nx,1⟩ fun r h'=> r= .tup []∧h'=⟨[((0,s), .c (Jyx n))], [],nx,1⟩:=by
 have h20:=Jy9 h1 h
 have hd:(Array.replicate (Lib.nDigits n) (0:UInt8)).size=Lib.nDigits n:=Array.size_replicate
 rw [JAf (k:=Lib.nDigits n) Om]
 have:=JnB (P:=Tryz.prog) (enc:=byV) (d:=Array.replicate (Lib.nDigits n) (0:UInt8)) (d':=(Lib.decDigits n).toArray) (tl:=zer (24 - Lib.nDigits n)) (vs:= [.int .u64 n]) (R:= .tup []) (res:=fun _=> .tuple #[]) (nm:=0) (s:=s) (cap:=24) (nx:=nx) (nn:=1) (f:=308) ⟨_,Tryz.func308,rfl,rfl⟩ (by rw [hd,List.size_toArray,Lib.decDigits_length]) (fun _ _ _ _ _=> .tup [] [] rfl (by simp)) (fun w blk hk hH hb=> by
  have k:=Any.internal_strconv_formatBase10 { Tryz.laysM171 with} blk 0 24 n (Array.replicate (Lib.nDigits n) 0) w hH (by rw [hd];exact Lib.lt_pow_nDigits n) h (by rw [hd];omega)
  refine k.mono fun e w' ⟨h1,q,v',dk,h2,hF⟩=> ⟨h1,q, #[], ?_⟩
  rw [hd] at hF
  have e1:dk=(Lib.decDigits n).toArray:=by
   refine Array.ext (by rw [hF.size,List.size_toArray,Lib.decDigits_length]) fun j hj1 hj2=> ?_
   have hj3:j < (Lib.decDigits n).length:=by simpa using hj2
   have:=Lib.row_is_numeral hF j hj3
   have e3:dk[j]! =dk[j]:=by simp [hj1]
   exact e3.symm.trans (this.symm.trans (by simp))
  have e2:(Sort.putRow byV w blk 0 dk).drewN q=Sort.putRow byV (Sort.ahead w q) blk 0 dk:=by
   have:=putRow_drewN byV w 0 q blk 0 dk
   rw [Nat.zero_add] at this
   exact this
  rw [h2,← e1]
  show (Sort.putRow byV w blk 0 dk).drewN q=_
  rw [e2]
  unfold Sort.grow
  rw [Array.append_empty])
 rw [hd] at this
 exact this
theorem JBl {n j:Nat} (hj:j < (Lib.decDigits n).length):(Jyx n)[0+j]? =some (.v (.int .u8 ((Lib.decDigits n)[j].toNat:Int))):=by
 unfold Jyx
 rw [Nat.zero_add,List.getElem?_append_left (by simpa using hj),List.getElem?_map,List.getElem?_eq_getElem hj]
 rfl
set_option maxHeartbeats 1000000 in
theorem JqP (n:Nat) (hn:n < 18446744073709551616):Tells Tryz.prog 286 [u64 n,int 10] (JJ (JdR n)):=by
 refine Jd Tryz.func286 rfl rfl fun nx=> ?_
 refine stp ?_
 intro c t1;cases c
 ·have t1:=Jw t1
  have h1:1≤n:=by omega
  have h20:=Jy9 h1 hn
  refine stp ?_
  refine Ja rfl rfl (Jwx n h1 hn) ⟨Rf,trivial⟩ fun nx2=> ?_
  refine Jy ?_
  refine JE (fun n=> match n with | 0=> true | _=> false) 2 ?_
  refine stp ?_
  refine JnC (n:=24) (h:=Lib.nDigits n) rfl rfl rfl Tryz.underlying367 Tryz.underlying5 (by kernel_rfl) Om Dc ?_
  refine stp ?_
  refine Jf (xs:= [.hs (0,nx) 0 (Lib.nDigits n) 24,u64 n]) [] [] 1 rfl rfl rfl rfl ⟨Rf,Rf,trivial⟩ (JuD n h1 hn nx _) Bf Pf rfl fun r h' hq=> ?_
  obtain ⟨rfl,rfl⟩:=hq
  refine Jy ?_
  refine JE (fun n=> match n with | 0=> true | 1=> true | _=> false) 3 ?_
  refine stp ?_
  refine JnC (n:=24) (h:=Lib.nDigits n) rfl rfl rfl Tryz.underlying367 Tryz.underlying5 (by kernel_rfl) Om Dc ?_
  refine stp ?_
  refine Jvo (l:=Lib.decDigits n) (cap:=24) (off:=0) (i:=(0,nx)) rfl (by rw [Lib.decDigits_length];rfl) rfl (fun j hj=> JBl hj) Tryz.underlying59 Tryz.underlying5 Tryz.underlying9 ?_
  refine stp ?_
  exact Jb rfl Rf
 ·have t1:=Jv t1
  refine stp ?_
  refine Ja rfl rfl (JuC n Om) ⟨Jg (Ju Om Om),trivial⟩ fun nx2=> ?_
  refine stp ?_
  exact Jb rfl Rf
end Go.Proofs.W

namespace Go.Proofs.W
open Go.Vl
set_option maxRecDepth 100000
end Go.Proofs.W

namespace Go.Proofs.W
open Go.Vl
set_option maxRecDepth 100000
theorem Jva {a b:ByteArray} (h:a=b):AVle (JJ a) (JJ b):=h ▸ Rf
theorem Jth:∀(k n:Nat),n < 10 ^ (k+1)→(Lib.decDigits n).length≤k+1
 | 0,n,h=> by rw [Lib.decDigits,dif_pos Om];exact Nat.le_refl _
 | k+1,n,h=> by
   rw [Lib.decDigits]
   split
   ·exact Nat.succ_le_succ (Nat.zero_le _)
   ·rw [List.length_append,List.length_singleton]
    have:=Jth k (n / 10) (by rw [Nat.pow_succ] at h;omega)
    omega
theorem Joi {n:Nat} (h:n≤18446744073709551615):(JdR n).size≤20:=Jth 19 n Om
theorem Joj {a b:AV} {K:AV→Prop} (h:a=b) (hk:Jdn b K):Jdn a K:=h ▸ hk
def spB:ByteArray:=⟨#[32]⟩
end Go.Proofs.W

namespace Go.Proofs
open Go.Shelf
shelf_lay Lays.n156 Nm 156 at Tryz as Tryz.lays156
end Go.Proofs
namespace Go.Proofs.W
open Go.Vl Go.Shelf Go.RowKit
set_option maxRecDepth 100000
theorem Jza:Builder.Extra Tryz.prog Tryz.lays156_ren where
 sizeBuilder:=by kernel_rfl
 liesBuilder:=by kernel_rfl
 t5:=Tryz.underlying5
 a5:=Tryz.isAgg5
 z5:=Tryz.sizeOf5
 v5:=Tryz.zeroValue5
 infoByte:=by kernel_rfl
 cellsByte:=by kernel_rfl
 sizeByte:=by kernel_rfl
 neB5:=by decide
def Jo2 (l:List ByteArray):AV:=JK 1 JJ ⟨#[]⟩ l
def JeJ (l:List ByteArray) (sep:ByteArray):ByteArray:=⟨(Lib.join (l.map (·.data.toList)) sep.data.toList).toArray⟩
theorem Jhn (l:List ByteArray) (sep:ByteArray) (hl:l.length≤1000000) (hs:(JeJ l sep).size≤140737488355328):Tells Tryz.prog 107 [Jo2 l,JJ sep] (JJ (JeJ l sep)):=by
 have h:=JtR (P:=Tryz.prog) (f:=107) (u:= .string (JeJ l sep)) (xs:=l.map .string) (vs:= [.string sep]) ⟨_,Tryz.func107,rfl,rfl⟩ (fun h0 a cap w _=> ?_) (fun b off cap w hk hc hb hcap h0=> ?_)
 refine Tells.args (bs:= [.sl 1 (l.map Value.string).length (fun k=> .v ((l.map Value.string).getD k undef)),JJ sep]) ⟨?_,Rf,trivial⟩ h
 ·rw [List.length_map]
  refine AVle.sl_fun fun k hk=> ?_
  simp [JJ,List.getD,List.getElem?_map,List.getElem?_eq_getElem hk]
 ·obtain rfl:l= []:=by simpa using h0
  exact (Any.strings_Join_none Tryz.lays156 Jza a cap sep w).mono fun e w' ⟨h1,h2⟩=> ⟨h1,h2 ▸ Below.refl _ _⟩
 ·rw [List.length_map] at hcap⊢
  exact Any.strings_Join Tryz.lays156 Jza b off cap l sep w (fun j x hx=> hc j _ (by rw [List.getElem?_map,hx];rfl)) hb Om hcap (by simpa [JeJ,ByteArray.size] using hs)
theorem JqQ (n:Nat) (h:n < 18446744073709551616):Tells Tryz.prog 163 [u64 n] (JJ (JdR n)):=by
 have h1:Tells Tryz.prog 225 [u64 n,int 10] (JJ (JdR n)):=by
  refine Jd Tryz.func225 rfl rfl fun nx=> ?_
  refine stp ?_
  refine Ja rfl rfl (JqP n h) ⟨Rf,Rf,trivial⟩ fun nx2=> ?_
  refine stp ?_
  exact Jb rfl Rf
 refine Jd Tryz.func163 rfl rfl fun nx=> ?_
 refine stp ?_
 refine Ja rfl rfl h1 ⟨Rf,Rf,trivial⟩ fun nx2=> ?_
 refine stp ?_
 exact Jb rfl Rf
def Jm6 (c:Cnd):ByteArray:=⟨(Jaf c).toArray⟩
theorem Jk3 {n:Nat} (h:n < 18446744073709551616):(Lib.decDigits n).length≤20:=by
 have h2:(JdR n).size≤20:=Joi Om
 exact h2
theorem JAg {k:Nat} (hk:k < 7):∃s:ByteArray,s.data.toList=opT k∧s.size≤2∧∃f,Jfh Jt6 k= .ag [JJ s,fn0 f]:=by
 match k,hk with
 | 0,_ | 1,_ | 2,_ | 3,_ | 4,_ | 5,_ | 6,_=> exact ⟨_,rfl,by decide,_,rfl⟩
theorem JuE {f:Nat→AV} (h:(f 0).cells.all JbZ=true) (h':(f 1).cells.all JbZ=true):Jcv 2 f:=fun k hk=> by
 rcases k with _ | _ | k
 ·exact h
 ·exact h'
 ·omega
theorem JBY (a b c:Bts):Lib.join [a,b,c] [32]=a++32::(b++32::c):=by simp [Lib.join,List.intercalate,List.intersperse]
theorem JBZ (a b c d e:Bts):Lib.join [a,b,c,d,e] [32]=a++32::(b++32::(c++32::(d++32::e))):=by simp [Lib.join,List.intercalate,List.intersperse]
def aB:ByteArray:=⟨#[97]⟩
def eqB:ByteArray:=⟨#[61,61]⟩
theorem JgU (a b:ByteArray):(a++b).data.toList=a.data.toList++b.data.toList:=by simp
theorem JgV (n:Nat):(JdR n).data.toList=Lib.decDigits n:=rfl
theorem JCk {i k m v:Nat} {so:ByteArray} (h:so.data.toList=opT k) (hk:k≠6):JeJ [aB++JdR i,so,JdR v] spB=Jm6 ⟨(i:Nat),(k:Int)+1,m,v⟩:=by
 unfold JeJ Jm6 Jaf
 rw [List.map_cons,List.map_cons,List.map_cons,List.map_nil,JgU,h,JgV,JgV,show spB.data.toList= [32] from rfl,JBY]
 dsimp only
 rw [if_neg Om,show ((k:Int)+1).toNat - 1=k by omega,Int.toNat_natCast]
 rfl
theorem JCl {i m v:Nat} {so:ByteArray} (h:so.data.toList=opT 6):JeJ [aB++JdR i,so,JdR m,eqB,JdR v] spB=Jm6 ⟨(i:Nat),7,m,v⟩:=by
 unfold JeJ Jm6 Jaf
 rw [List.map_cons,List.map_cons,List.map_cons,List.map_cons,List.map_cons,List.map_nil,JgU,h,JgV,JgV,JgV,show spB.data.toList= [32] from rfl,JBZ]
 dsimp only
 rw [if_pos rfl,Int.toNat_natCast]
 rfl
theorem Jjy {c:Cnd} (hr:Jaa c=true) (hok:c.ok):(Jm6 c).size≤1000:=by
 obtain ⟨h1,h2,h3,h4,h5⟩:=Jaz.1 hr
 show (Jaf c).length≤1000
 have d1:=Jk3 (n:=c.arg.toNat) Om
 have d2:=Jk3 hok.1
 have d3:=Jk3 hok.2
 have d4:∀k:Nat,k < 7→(opT k).length≤2:=by decide
 have d5:=d4 (c.op.toNat - 1) Om
 unfold Jaf
 simp only [List.length_append,List.length_cons,List.length_nil]
 split
 ·simp only [List.length_append,List.length_cons];omega
 ·omega
theorem JqR {a b:ByteArray} (h:a=b):AVle (JJ a) (JJ b):=Jva h
set_option maxHeartbeats 2000000 in
theorem Jwy (c:Cnd) (hr:Jaa c=true) (hok:c.ok):Tells Tryz.prog 105 [J3 c] (JJ (Jm6 c)):=by
 obtain ⟨h1,h2,h3,h4,h5⟩:=Jaz.1 hr
 have hR:=Jf8 c
 rw [hr] at hR
 obtain ⟨arg,op,mask,value⟩:=c
 dsimp only at h1 h2 h3 h4 h5
 obtain ⟨i,rfl⟩:∃i:Nat,arg=i:=⟨arg.toNat,by omega⟩
 obtain ⟨k,rfl⟩:∃k:Nat,op=k+1:=⟨(op - 1).toNat,by omega⟩
 have hit:=Jwe i Om
 have hdv:=JqQ value hok.2
 have hdm:=JqQ mask hok.1
 have hk7:k < 7:=by omega
 obtain ⟨so,hso,hss,f,hf⟩:=JAg hk7
 have hx:IntKind.i64.wrap ((k:Int)+1 - 1)=(k:Int):=by rw [Ju Om Om];omega
 refine Jd Tryz.func105 rfl rfl fun nx=> ?_
 refine stp ?_
 refine Ja rfl rfl hR ⟨Rf,trivial⟩ fun nx2=> ?_
 refine stp ?_
 refine Ja4 12 _ (fun _=> false) (fun i=> match i with | 2=> true | 4=> true | _=> false) [0,1,2,3,4,5,6,7,8,9,10,11] (by kernel_rfl) (by kernel_rfl) (HB.refl _) ?_
 refine stp ?_
 refine ⟨_,Jb2 rfl rfl rfl hit ⟨Rf,trivial⟩ (NoId.v _), ?_⟩
 refine stp ?_
 refine ⟨by have:=Joi (n:=i) Om;have h2:(⟨#[97]⟩:ByteArray).size=1:=rfl;rw [h2];omega, ?_⟩
 refine stp ?_
 refine ⟨_,Jb2 rfl rfl rfl JxM trivial JxN, ?_⟩
 refine stp ?_
 refine ⟨⟨by rw [hx];omega,by rw [hx];omega⟩,Joj (b:= .rp [JJ so,fn0 f]) (by rw [hx];show AV.rp (Jfh Jt6 k).cells=_;rw [hf];rfl) ?_⟩
 refine stp ?_
 intro c t1;cases c
 ·have t1:k≠6:=fun e=> by subst e;cases t1
  refine stp ?_
  refine Ja rfl rfl hdv ⟨Rf,trivial⟩ fun nx3=> ?_
  refine stp ?_
  refine ⟨JM rfl,by show (2+1) * 16≤_;decide,by decide, ?_⟩
  refine stp ?_
  have e:=JCk (i:=i) (m:=mask) (v:=value) hso t1
  refine Ja rfl rfl (Jhn [aB++JdR i,so,JdR value] spB (by show 3≤_;decide) (by rw [e];exact Nat.le_trans (Jjy hr hok) Dc)) ⟨AVle.os_sl.trans (AVle.sl_fun fun j hj=> ?_),Rf,trivial⟩ fun nx3=> ?_
  ·match j,hj with
   | 0,_ | 1,_ | 2,_=> rfl
  refine stp ?_
  exact Jb rfl (JqR e)
 ·have t1:k=6:=by have:(k:Int)+1=7:=by simpa using t1.symm
                  omega
  subst t1
  refine stp ?_
  refine Ja rfl rfl hdm ⟨Rf,trivial⟩ fun nx3=> ?_
  refine stp ?_
  refine ⟨JuE rfl rfl,by show (2+2) * 16≤_;decide,by decide, ?_⟩
  refine stp ?_
  refine Ja rfl rfl hdv ⟨Rf,trivial⟩ fun nx3=> ?_
  refine stp ?_
  refine ⟨JM rfl,by show (4+1) * 16≤_;decide,by decide, ?_⟩
  refine stp ?_
  have e:=JCl (i:=i) (m:=mask) (v:=value) hso
  refine Ja rfl rfl (Jhn [aB++JdR i,so,JdR mask,eqB,JdR value] spB (by show 5≤_;decide) (by rw [e];exact Nat.le_trans (Jjy hr hok) Dc)) ⟨AVle.os_sl.trans (AVle.sl_fun fun j hj=> ?_),Rf,trivial⟩ fun nx3=> ?_
  ·match j,hj with
   | 0,_ | 1,_ | 2,_ | 3,_ | 4,_=> rfl
  refine stp ?_
  exact Jb rfl (JqR e)
end Go.Proofs.W

namespace Go.Proofs
open Go.Shelf
shelf_lay_g SlLaysN.n44 Slgn 44 at Tryz 108 as Tryz.laysN44
end Go.Proofs
namespace Go.Proofs.W
open Go.Vl Go.Shelf
set_option maxRecDepth 100000
theorem Jme (d:Array Bts):∀m,Lib.compactUpTo d m=cUs d m
 | 0=> rfl
 | m+1=> by
   rw [Lib.compactUpTo_succ,Jme d m,cUs]
   unfold Lib.keeps
   by_cases h:m=0∨d[m]! ≠d[m - 1]!
   ·rw [if_pos h,decide_eq_true h];rfl
   ·rw [if_neg h,decide_eq_false h];simp
theorem Jwz (d0:Array Bts) (tl:List AV) (n:Nat) (hn:d0.size=n) (hsz:n≤1000000) (s cap nx:Nat) (hcap:n≤cap):
 ECall Tryz.prog 108 [.hs (0,s) 0 n cap] ⟨JdC s d0 tl, [],nx,1⟩ (fun r h'=> ∃tl' nx' nn',r= .hs (0,s) 0 (cUs d0 n).length cap∧h'=⟨JdC s (cUs d0 n).toArray tl', [],nx',nn'⟩):=by
 subst hn
 have hle:=Jqx d0 d0.size
 have h:=JnB (P:=Tryz.prog) (enc:=encStr) (d:=d0) (d':=(cUs d0 d0.size++List.replicate (d0.size - (cUs d0 d0.size).length) []).toArray) (tl:=tl) (vs:= []) (R:= .hs (0,s) 0 (cUs d0 d0.size).length cap) (res:=fun b=> .slice (some ⟨b,0,none⟩) (cUs d0 d0.size).length cap) (nm:=0) (s:=s) (cap:=cap) (nx:=nx) (nn:=1) (f:=108) ⟨_,Tryz.func108,rfl,rfl⟩ (by simp;omega) (fun w X g b hg=> .hs _ _ _ _ b hg) (fun w blk hk hH hb=> by
  have k:=AnyG.slices_Compact_string_arr Tryz.laysN44 blk 0 cap d0 w hH Om hcap
  rw [Jme] at k
  exact k.mono fun e w' ⟨h1,q,h2⟩=> ⟨h1,q, #[],by rw [h2];unfold Sort.grow;rw [Array.append_empty]⟩)
 refine h.mono fun r h' ⟨h1,h2⟩=> ⟨List.replicate (d0.size - (cUs d0 d0.size).length) (JaY [])++tl,nx,1,h1, ?_⟩
 rw [h2]
 unfold JdC JaS
 simp [JaY]
def JuF (sz:Nat):AV:= .os sz 0 (fun _=> .any) none
theorem JwA:Tells Tryz.prog 108 [JuF 1] (JuF 1):=by
 refine Jd Tryz.func108 rfl rfl fun nx=> ?_
 refine stp ?_
 exact Jb rfl Rf
theorem Jjz (d:Array Bts) (tl:List AV):JaS JaY d tl=Jag (fun z=> [JaY z]) d tl:=by
 unfold JaS Jag
 rw [List.map_eq_flatMap]
theorem JqS:∀z:Bts,([JaY z]:List AV).length=1:=fun _=> rfl
theorem c_str:Tryz.prog.cellsOf 9=1:=by kernel_rfl
theorem JwB:Jbv Tryz.prog 9=true:=by kernel_rfl
theorem JwC:Tryz.prog.bytesOf 9=16:=by kernel_rfl
theorem JB0 {l:List Bts} {x:Bts} {tl:List AV} (h:1≤tl.length):J5 (JaS JaY l.toArray tl) (l.length * Tryz.prog.cellsOf 9) [JaY x]=JaS JaY (l++ [x]).toArray (tl.drop 1):=by
 rw [c_str,Jjz,Jjz];exact Jny JqS h
theorem JB1 {x:Bts} {m:Nat}: [JaY x]++List.replicate (m * Tryz.prog.cellsOf 9) AV.any=JaS JaY #[x] (List.replicate m .any):=by
 rw [c_str];simp [JaS]
theorem JB2 {l:List Bts} {x:Bts} {tl:List AV} {m:Nat}:(JaS JaY l.toArray tl).take (l.length * Tryz.prog.cellsOf 9)++ [JaY x]++List.replicate (m * Tryz.prog.cellsOf 9) .any=JaS JaY (l++ [x]).toArray (List.replicate m .any):=by
 rw [c_str,Jjz,Jjz,Jnz JqS,Nat.mul_one];exact JpJ
def JCm (L:List Bts):Option (Nat×Nat×List AV)→AV
 | none=> JuF 1
 | some (s1,cap,_)=> .hs (0,s1) 0 L.length cap
def JCn (L:List Bts):Option (Nat×Nat×List AV)→List (Vl.Id×Own)
 | none=> []
 | some (s1,_,tl)=> JdC s1 L.toArray tl
def JCo (L:List Bts):Option (Nat×Nat×List AV)→Prop
 | none=> L= []
 | some (_,cap,tl)=> 1≤L.length∧L.length≤cap∧cap≤L.length+tl.length
theorem Jti {i j:Vl.Id} {L:List Bts} {x:Bts} {cap:Nat} (h:i.2=j.2):AVle (.hs i 0 (L.length+1) cap) (.hs j 0 (L++ [x]).length cap):=by
 rw [List.length_append];exact AVle.hs_nm h
theorem JB3 {L:List Bts}:AVle (JK 1 JaY [] L) (Jo2 (L.map fun z=> ⟨z.toArray⟩)):=by
 unfold JK Jo2 JK
 rw [List.length_map]
 refine AVle.sl_fun fun k hk=> ?_
 simp [JaY,encStr,JJ,List.getD,List.getElem?_map,List.getElem?_eq_getElem hk]
def semiB:ByteArray:=⟨#[59]⟩
theorem Jtj:∀L:List Bts,Lib.join L [59]=Jfc 59 L
 | []=> rfl
 | [a]=> by rw [Lib.join_one];rfl
 | a::b::l=> by
   have:=Jtj (b::l)
   rw [JcN (List.cons_ne_nil _ _),← this]
   simp [Lib.join,List.intercalate,List.intersperse]
theorem Jyy (L:List Bts):JeJ (L.map fun z=> ⟨z.toArray⟩) semiB=⟨(Jfc 59 L).toArray⟩:=by
 unfold JeJ
 rw [List.map_map,show ((fun x:ByteArray=> x.data.toList)∘fun z:Bts=> (⟨z.toArray⟩:ByteArray))=id from funext fun z=> by simp,List.map_id,show semiB.data.toList= [59] from rfl,Jtj]
theorem Jok:∀(L:List Bts) (N:Nat),(∀a∈L,a.length≤N)→(Jfc 59 L).length≤L.length * (N+1)
 | [],N,_=> Nat.zero_le _
 | [a],N,h=> by have:=h a (.head _);show a.length≤_;simp;omega
 | a::b::l,N,h=> by
   have h1:=h a (.head _)
   have h2:=Jok (b::l) N fun x hx=> h x (.tail _ hx)
   rw [JcN (List.cons_ne_nil _ _),List.length_append,List.length_cons]
   rw [show (a::b::l).length=(b::l).length+1 from rfl,Nat.succ_mul]
   omega
def JfS (cs:List Cnd):ByteArray:=⟨(JhD cs).toArray⟩
theorem JuG {cs:List Cnd} {i:Nat} (hi:i < cs.length):(cs.take (i+1)).map Jaf=(cs.take i).map Jaf++ [Jaf (cs.getD i cnd0)]:=by
 rw [JaG cnd0 hi,List.map_append];rfl
theorem Jtk (cs:List Cnd):JeJ ((JcZ (cs.map Jaf)).map fun z=> ⟨z.toArray⟩) semiB=JfS cs:=Jyy _
theorem Jyz:JJ (JeJ [] semiB)=JJ (JfS []):=by
 unfold JfS
 rw [JkY.2 rfl];rfl
theorem Jo3 {a b:Own} (h:a=b):OwnLe a b:=h ▸ OwnLe.refl a
theorem JyA {bs:List (Nat×Own)} {i:Vl.Id} {n cap:Nat} {l:List Bts} {tl:List AV} (hn:l.length=n) (hm:(i.2, .c (JaS JaY l.toArray tl))∈bs) (hcap:n≤cap):Frz bs (.hs i 0 n cap) (JK 1 JaY [] l):=
 JgC JqS (fun _=> rfl) hn (by rw [← Jjz];exact hm) hcap
theorem JwD {c:Cnd} (hr:Jaa c=true) (hok:c.ok):(Jaf c).length≤1000:=Jjy hr hok
theorem Jol (l:List Bts):(JcZ l).length≤l.length:=by
 have:=Jqx (Jgf l).toArray (Jgf l).length
 unfold JcZ
 have h2:(Jgf l).length=l.length:=JaK
 omega
theorem Jmf {cs:List Cnd} (hr:∀c∈cs,Jaa c=true) (hok:∀c∈cs,c.ok) (hl:cs.length≤12):(JfS cs).size≤12012:=by
 have h1:=Jok (JcZ (cs.map Jaf)) 1000 fun a ha=> by
  obtain ⟨c,hc,rfl⟩:=List.mem_map.1 (((Jb9 _).2 a).1 ha)
  exact JwD (hr c hc) (hok c hc)
 have h2:=Jol (cs.map Jaf)
 rw [List.length_map] at h2
 have h3:(JcZ (cs.map Jaf)).length * (1000+1)≤12 * (1000+1):=Nat.mul_le_mul_right _ Om
 show (JhD cs).length≤_
 unfold JhD
 omega
set_option maxHeartbeats 4000000 in
theorem JyB (cs:List Cnd) (hr:∀c∈cs,Jaa c=true) (hok:∀c∈cs,c.ok) (hl:cs.length≤12):Tells Tryz.prog 57 [Jbi cs] (JJ (JfS cs)):=by
 refine Jd Tryz.func57 rfl rfl fun nx=> ?_
 refine stp ?_
 refine Js (fun y:Nat×List Bts×Option (Nat×Nat×List AV)×Nat=> mk 23 [(3,JCm y.2.1 y.2.2.1),(6,Jbi cs),(7,int cs.length),(8,int y.1)] ⟨JCn y.2.1 y.2.2.1, [],y.2.2.2,1⟩) (fun y=> y.1≤cs.length∧y.2.1=(cs.take y.1).map Jaf∧JCo y.2.1 y.2.2.1) (fun y=> cs.length - y.1) ?_ ?_
 ·exact ⟨(0, [],none,nx),⟨Nat.zero_le _,rfl,rfl⟩,Jc (bx:= []) (pm:= []) [] [] rfl rfl (List.nil_sublist _) Sf trivial trivial ⟨AVle.os_nil,Rf,Rf,Rf,trivial⟩⟩
 ·rintro ⟨i,L,md,nx1⟩ ⟨h1,hL,h2⟩
  dsimp only at h1 hL h2
  have hLl:L.length=i:=by rw [hL,List.length_map,List.length_take];omega
  refine stp ?_
  intro c g;cases c
  ·have g:=Jw g
   try dsimp only at g
   have hi:i=cs.length:=by omega
   subst hi
   rw [List.take_length] at hL
   rcases md with _ | ⟨s1,cap,tl⟩
   ·obtain rfl:L= []:=h2
    obtain rfl:cs= []:=List.length_eq_zero_iff.1 (by simpa using hLl.symm)
    refine stp ?_
    refine Ja rfl rfl (JvI _) ⟨Rf,trivial⟩ fun nx2=> ?_
    refine stp ?_
    refine Ja rfl rfl JwA ⟨Rf,trivial⟩ fun nx3=> ?_
    refine stp ?_
    refine Ja rfl rfl (Jhn [] semiB Dc Dc) ⟨AVle.os_sl0,Rf,trivial⟩ fun nx4=> ?_
    refine stp ?_
    exact Jb rfl (AVle.of_eq Jyz)
   ·obtain ⟨q1,q2,q3⟩:=h2
    refine stp ?_
    refine Jf (xs:= [.hs (0,s1) 0 L.length cap]) [] [] 1 rfl rfl rfl rfl ⟨Rf,trivial⟩ (JvH L.toArray tl L.length (by simp) Om s1 cap _) Bf Pf rfl fun r h' hq=> ?_
    obtain ⟨nx2,nn2,rfl⟩:=hq
    refine stp ?_
    refine Jf (xs:= [.hs (0,s1) 0 L.length cap]) [] [] 1 rfl rfl rfl rfl ⟨Rf,trivial⟩ (Jwz (JV Go.Sort.ltStr L.toArray.toList).toArray tl L.length (by simp [JaK]) Om s1 cap _ q2) Bf Pf rfl fun r h' hq=> ?_
    obtain ⟨tl2,nx3,nn3,rfl,rfl⟩:=hq
    refine stp ?_
    have hst:∀l:List Bts,(JV Go.Sort.ltStr l).length=l.length:=fun l=> JaK
    have hcT:cUs (JV Go.Sort.ltStr L.toArray.toList).toArray L.length=JcZ (cs.map Jaf):=by
     unfold JcZ Jgf
     rw [hst,← hL]
    rw [hcT]
    have hcl:=Jol (cs.map Jaf)
    rw [← hL] at hcl
    rw [← hL]
    have hj:Tells Tryz.prog 107 [JK 1 JaY [] (JcZ L),JJ semiB] _:=Tells.args (bs:= [Jo2 ((JcZ L).map fun z=> ⟨z.toArray⟩),JJ semiB]) ⟨JB3,Rf,trivial⟩ (Jhn ((JcZ L).map fun z=> ⟨z.toArray⟩) semiB (by rw [List.length_map];omega) (by rw [hL,Jtk];exact Nat.le_trans (Jmf hr hok hl) Dc))
    refine AOp.of_yields (JrM rfl rfl hj ⟨JyA (i:=(0,s1)) rfl (.head _) Om,Frz.refl _,trivial⟩ (Flat.v _)) ?_
    refine stp ?_
    exact Jb rfl (JqR (by rw [hL];exact Jtk cs))
  ·have g:=Jv g
   try dsimp only at g
   have hi:i < cs.length:=by omega
   have hm:cs.getD i cnd0∈cs:=by simp [List.getD,hi]
   have ht:=Jwy _ (hr _ hm) (hok _ hm)
   have hn:=JuG hi
   rw [← hL] at hn
   rcases md with _ | ⟨s1,cap,tl⟩
   ·obtain rfl:L= []:=h2
    refine stp ?_
    refine ⟨Bd, ?_⟩
    refine Jy ?_
    refine JE (fun i=> match i with | 0=> true | _=> false) 5 ?_
    refine stp ?_
    refine Ja rfl rfl ht ⟨Rf,trivial⟩ fun nx2=> ?_
    refine stp ?_
    refine Je6 (m:=1) rfl rfl (.inr ⟨_,rfl⟩) Tryz.underlying163 JwB c_str.symm Dc (JM rfl) (by rw [JwC];omega) Om fun ncap hcap=> ?_
    refine stp ?_
    exact back (i+1, [Jaf (cs.getD i cnd0)],some (nx2,ncap,List.replicate (ncap - 1) .any),nx2+1) ⟨hi,hn.symm,⟨Nat.le_refl _,hcap,by simp;omega⟩⟩ Dm (Jc (pm:= []) (bx:=JdC nx2 #[Jaf (cs.getD i cnd0)] (List.replicate (ncap - 1) .any)) [((2,nx2), .c ([JaY (Jaf (cs.getD i cnd0))]++List.replicate ((ncap - 1) * Tryz.prog.cellsOf 9) .any))] [] rfl rfl (.cons_cons _ (.cons _ .slnil)) .slnil ⟨rfl,Jo3 (congrArg Own.c JB1),trivial⟩ trivial ⟨AVle.hs_nm rfl,Rf,Rf,Lw,trivial⟩)
   ·obtain ⟨q1,q2,q3⟩:=h2
    refine stp ?_
    refine ⟨Bd, ?_⟩
    refine Jy ?_
    refine JE (fun i=> match i with | 0=> true | _=> false) 5 ?_
    refine stp ?_
    refine Ja rfl rfl ht ⟨Rf,trivial⟩ fun nx2=> ?_
    refine stp ?_
    refine Jfz (m:=1) (szx:=1) (n:=L.length) (cap:=cap) (cs:=JaS JaY L.toArray tl) (i:=(0,s1)) rfl rfl (.inr ⟨_,rfl⟩) Tryz.underlying163 JwB (.inr c_str.symm) (by rfl) q2 (by rw [c_str,Jfi];simpa using q3) (JM rfl) (fun _=> by rw [JwC];omega) (fun _=> by omega) (fun hm=> absurd hm Dc) (fun hm hfit=> ?_) (fun hm hfit ncap hcap=> ?_)
    ·refine stp ?_
     (conv=> whnf)
     exact back (i+1,L++ [Jaf (cs.getD i cnd0)],some (s1,cap,tl.drop 1),nx2) ⟨hi,hn.symm,⟨by simp,by simpa using hfit,by simp;omega⟩⟩ Dm (Jc (pm:= []) (bx:=JdC s1 (L++ [Jaf (cs.getD i cnd0)]).toArray (tl.drop 1)) [((0,s1), .c (J5 (JaS JaY L.toArray tl) (L.length * Tryz.prog.cellsOf 9) [JaY (Jaf (cs.getD i cnd0))]))] [] rfl rfl (.cons _ (.cons_cons _ .slnil)) .slnil ⟨rfl,Jo3 (congrArg Own.c (JB0 (by have:=hfit;omega))),trivial⟩ trivial ⟨Jti rfl,Rf,Rf,Lw,trivial⟩)
    ·refine stp ?_
     (conv=> whnf)
     exact back (i+1,L++ [Jaf (cs.getD i cnd0)],some (nx2,ncap,List.replicate (ncap - (L.length+1)) .any),nx2+1) ⟨hi,hn.symm,⟨by simp,by simpa using hcap,by simp;omega⟩⟩ Dm (Jc (pm:= []) (bx:=JdC nx2 (L++ [Jaf (cs.getD i cnd0)]).toArray (List.replicate (ncap - (L.length+1)) .any)) [((2,nx2), .c ((JaS JaY L.toArray tl).take (L.length * Tryz.prog.cellsOf 9)++ [JaY (Jaf (cs.getD i cnd0))]++List.replicate ((ncap - (L.length+1)) * Tryz.prog.cellsOf 9) .any))] [] rfl rfl (.cons_cons _ (.cons _ (.cons _ .slnil))) .slnil ⟨rfl,Jo3 (congrArg Own.c JB2),trivial⟩ trivial ⟨Jti rfl,Rf,Rf,Lw,trivial⟩)
end Go.Proofs.W

namespace Go.Proofs.W
open Go.Vl
set_option maxRecDepth 100000
def esV (N:List ByteArray):List (Value×AV):=N.map fun s=> (.string s, .v (.bool true))
def inV (N:List ByteArray) (s:ByteArray):Bool:=N.any fun t=> kS s t
theorem Jm7 (N:List ByteArray):JaR .string (esV N)=true:=by simp [JaR,esV,JaW]
theorem JqT (s:ByteArray):∀N:List ByteArray,Ja0 (.string s) (esV N)=if inV N s then some (.v (.bool true)) else none
 | []=> rfl
 | t::N=> by
   have ih:=JqT s N
   show (bif s.toList ==t.toList then _ else Ja0 (.string s) (esV N))=_
   rw [ih]
   unfold inV
   rw [List.any_cons]
   unfold kS
   cases s.toList ==t.toList <;> rfl
theorem Jtl (s:ByteArray):∀N:List ByteArray,inV N s=false→Jct (.string s) (.v (.bool true)) (esV N)=esV (N++ [s])
 | [],_=> rfl
 | t::N,h=> by
   unfold inV at h
   rw [List.any_cons,Bool.or_eq_false_iff] at h
   show (bif s.toList ==t.toList then _ else (_:Value×AV)::Jct _ _ (esV N))=_
   unfold kS at h
   rw [h.1,cond_false,Jtl s N h.2];rfl
theorem Jtm {s:ByteArray} {N:List ByteArray}:Jfw (Ja0 (.string s) (esV N)) (.v (.bool false)) false= .v (.bool (inV N s)):=by
 rw [JqT];cases inV N s <;> rfl
def Jfs (r:Rul):List AV:= [JJ r.name,int r.act.1,int r.act.2,Jbi r.conds]
theorem JuH (c:Cnd) (hok:c.ok):Tells Tryz.prog 56 [J3 c] (Ji (JfY c)):=by
 obtain ⟨arg,op,mask,value⟩:=c
 refine Jd Tryz.func56 rfl rfl fun nx=> ?_
 refine stp ?_
 intro c t1;cases c
 ·refine stp ?_
  refine Jb rfl (JP ?_)
  have:¬op=7:=fun e=> by subst e;cases t1
  unfold JfY
  rw [decide_eq_false this];rfl
 ·have h7:op=7:=by simpa using t1.symm
  refine stp ?_
  intro c hc
  have e:JfY ⟨arg,op,mask,value⟩=c:=by
   unfold JfY
   rw [decide_eq_true h7,Bool.true_and,hc]
   dsimp only
   rw [JlA hok.2 hok.1]
   by_cases h0:Jhv value mask=0
   ·rw [h0];rfl
   ·rw [decide_eq_true h0]
    exact (bne_iff_ne.2 (fun e=> h0 (Int.ofNat.inj e))).symm
  rw [e]
  cases c
  ·refine stp ?_
   exact Jb rfl Rf
  ·refine stp ?_
   exact Jb rfl Rf
theorem JwE (r:Rul) (hok:∀c∈r.conds,c.ok) (hl:r.conds.length≤1000000000):Tells Tryz.prog 54 [.rp (Jfs r)] (Ji (!(r.conds.any JfY))):=by
 have hc:=JpS r.conds JfY 56 hl fun i hi=> JuH _ (hok _ (by simp [List.getD,hi]))
 generalize r.conds.any JfY=b at hc⊢
 refine Jd Tryz.func54 rfl rfl fun nx=> ?_
 refine stp ?_
 refine Ja rfl rfl hc ⟨Rf,Rf,trivial⟩ fun nx2=> ?_
 cases b
 ·refine stp ?_
  exact Jb rfl Rf
 ·refine stp ?_
  exact Jb rfl Rf
theorem JwF (l:List TRow) (r:Rul) (hl:l.length≤1000000) (hs:Jip l r.name):Tells Tryz.prog 53 [.rp [JZ l], .rp (Jfs r)] (Ji (Jbj l r.name)):=by
 have hf:=JgH l r.name hl hs
 unfold JlJ at hf
 refine Jd Tryz.func53 rfl rfl fun nx=> ?_
 cases hb:Jbj l r.name with
 | true=>
   rw [hb,if_pos rfl] at hf
   refine stp ?_
   refine Ja rfl rfl hf ⟨Rf,Rf,trivial⟩ fun nx2=> ?_
   refine stp ?_
   exact Jb rfl Rf
 | false=>
   rw [hb,if_neg Dc] at hf
   refine stp ?_
   refine Ja rfl rfl hf ⟨Rf,Rf,trivial⟩ fun nx2=> ?_
   refine stp ?_
   exact Jb rfl Rf
def colB:ByteArray:=⟨#[58]⟩
def JgW (N:List ByteArray) (s own:ByteArray):Bool:= !inV N (s++colB)&& !inV N own
set_option maxHeartbeats 1000000 in
theorem JwG (N:List ByteArray) (r:Rul) (own:ByteArray) (hs:r.name.size≤1000000) (s nx:Nat):
 ECall Tryz.prog 58 [.rp [.om (0,s)], .rp (Jfs r), .rp [JJ own]] ⟨[((0,s), .mp (esV N))], [],nx,1⟩ fun b h'=> ∃nx' nn',b=Ji (JgW N r.name own)∧h'=⟨[((0,s), .mp (esV N))], [],nx',nn'⟩:=by
 refine ECall.wk (Jn Tryz.func58 rfl rfl ?_)
 refine JaC ?_
 refine ⟨by have h2:(⟨#[58]⟩:ByteArray).size=1:=rfl;rw [h2];omega, ?_⟩
 refine JaC ?_
 refine ⟨⟨rfl,Jm7 _⟩,Jk (b:= .v (.bool (inV N (r.name++colB)))) Jtm ?_⟩
 unfold JgW
 cases h1:inV N (r.name++colB)
 ·refine JaC ?_
  refine ⟨⟨rfl,Jm7 _⟩,Jk (b:= .v (.bool (inV N own))) Jtm ?_⟩
  cases h2:inV N own
  ·refine stp ?_
   exact Jr rfl ⟨_,_,Rf,HLe.refl _,_,_,rfl,rfl⟩
  ·refine stp ?_
   exact Jr rfl ⟨_,_,Rf,HLe.refl _,_,_,rfl,rfl⟩
 ·refine stp ?_
  exact Jr rfl ⟨_,_,Rf,HLe.refl _,_,_,rfl,rfl⟩
end Go.Proofs.W

namespace Go.Proofs.W
open Go.Vl
set_option maxRecDepth 100000
def Jeg (r:Rul):ByteArray:=r.name++colB++JfS r.conds
theorem Jom (r:Rul):(Jeg r).data.toList=JiC r:=by
 unfold Jeg JiC JfS JiB
 rw [JgU,JgU,show colB.data.toList= [58] from rfl]
 simp
theorem Jtn {N:List ByteArray} {s:ByteArray}:inV N s=true↔s.data.toList∈N.map (fun t=> t.data.toList):=by
 unfold inV
 rw [List.any_eq_true,List.mem_map]
 exact ⟨fun ⟨t,h1,h2⟩=> ⟨t,h1,by rw [Jcf.1 h2]⟩,fun ⟨t,h1,h2⟩=> ⟨t,h1,Jcf.2 (Jhc h2.symm)⟩⟩
def JbL (rs:List Rul) (i:Nat):List ByteArray:=(rs.take i).map Jeg
theorem JuI (rs:List Rul) (i:Nat):(JbL rs i).map (fun t=> t.data.toList)=Jl9 rs i:=by
 unfold JbL Jl9
 rw [List.map_map]
 exact List.map_congr_left fun r _=> Jom r
theorem JqU {rs:List Rul} (h:∀r∈rs,Jax r=true) {i:Nat} {r:Rul} (hr:Jax r=true):JgW (JbL rs i) r.name (Jeg r)= !(rs.take i).any (JhE r):=by
 unfold JgW
 rw [← Bool.not_or]
 congr 1
 rw [Bool.eq_iff_iff,Bool.or_eq_true,Jtn,Jtn,JuI,Jom,JgU,show colB.data.toList= [58] from rfl]
 exact Jwf h hr
theorem JwH {rs:List Rul} {i:Nat} (hi:i < rs.length):JbL rs (i+1)=JbL rs i++ [Jeg (rs.getD i Jo)]:=by
 unfold JbL
 rw [JaG Jo hi,List.map_append];rfl
def JCp (l:List TRow) (r:Rul) (s:Nat):List AV:= [.ag [.fn (.func 53) [] [.rp [JZ l], .rp (Jfs r)],int 14], .ag [.fn (.func 54) [] [.rp (Jfs r)],int 16], .ag [.fn (.func 58) [] [.rp [.om (0,s)], .rp (Jfs r), .rp [JJ (Jeg r)]],int 15]]
theorem JwI {rs:List Rul} {i:Nat} {r:Rul} (h:JgW (JbL rs i) r.name (Jeg r)=true):inV (JbL rs i) (Jeg r)=false:=by
 unfold JgW at h
 simp only [Bool.and_eq_true,Bool.not_eq_true'] at h
 exact h.2
theorem JhX {a b c d:Int} (h:(a,b)=(c,d)):AVle (.tup [int a,int b]) (.tup [int c,int d]):=by
 cases h;exact Rf
theorem JBm:Jlh Tryz.prog 9=some [JJ ⟨#[]⟩]:=by kernel_rfl
theorem AVle.om_nm {i j:Vl.Id} (h:i.2=j.2):AVle (.om i) (.om j):=fun w X g u hr=> by
 cases hr with
 | om _ b hg=> exact .om _ b (h ▸ hg)
theorem AVle.rps {cs ds:List AV} (h:LeL cs ds):AVle (.rp cs) (.rp ds):=fun w X g u hr=> by
 obtain ⟨hl,h⟩:=h.get
 cases hr with
 | rp _ b off vs hn hcell hr=>
   refine .rp _ b off vs (by rw [hn,hl]) hcell fun k d u hd hu=> ?_
   have hlt:k < cs.length:=by rw [hl];exact (List.getElem?_eq_some_iff.1 hd).1
   exact h k _ d (List.getElem?_eq_getElem hlt) hd _ _ _ _ (hr k _ u (List.getElem?_eq_getElem hlt) hu)
theorem JAh {rs:List Rul} {i:Nat} (h:i < rs.length):rs.getD i Jo∈rs:=by simp [List.getD,h]
set_option maxHeartbeats 8000000 in
theorem JqV (p:Pol) (l:List TRow) (hp:p.ok) (hp2:∀r∈p.rules,r.conds.length≤12∧r.name.size≤1000000) (hl:l.length≤1000000) (hn:∀r∈l,r.name.size≤maxLen):Tells Tryz.prog 17 [Jc0 p,JZ l] (.tup [int (Jaq p l).1,int (Jaq p l).2]):=by
 have hR:=Jkh p hp
 have hT:=JoE l hl hn
 cases hb:Jb7 p with
 | false=>
   rw [hb] at hR
   obtain ⟨⟨k,n⟩,x,rs⟩:=p
   refine Jd Tryz.func17 rfl rfl fun nx=> ?_
   refine stp ?_
   refine Ja rfl rfl hR ⟨Rf,trivial⟩ fun nx2=> ?_
   refine stp ?_
   exact Jb rfl (JhX (by unfold Jaq;rw [if_pos hb]))
 | true=>
 rw [hb] at hR
 by_cases ht:(JcL l).2=0
 rotate_left
 ·obtain ⟨⟨k,n⟩,x,rs⟩:=p
  refine Jd Tryz.func17 rfl rfl fun nx=> ?_
  refine stp ?_
  refine Ja rfl rfl hR ⟨Rf,trivial⟩ fun nx2=> ?_
  refine stp ?_
  refine Ja rfl rfl hT ⟨Rf,trivial⟩ fun nx3=> ?_
  refine stp ?_
  intro c hc
  obtain rfl:c=true:=hc.trans (bne_iff_ne.2 ht)
  refine stp ?_
  exact Jb rfl (JhX (by unfold Jaq;rw [if_neg (by rw [hb];decide),if_pos ht]))
 ·have hs:=Jir ht
  have hrr:=(Jmb.1 hb).2.2
  have hok:=hp.2
  have hlen:p.rules.length≤500:=(Jmb.1 hb).2.1
  have hat:∀i v,i < p.rules.length→(∀j,j < i→Jdb l p.rules j=0)→Jdb l p.rules i=v→v≠0→((i:Int),v)=Jaq p l:=fun i v h1 h2 h3 h4=> (Jwh hb ht h1 h2 h3 h4).symm
  have hnone:(∀j,j < p.rules.length→Jdb l p.rules j=0)→((0:Int),(0:Int))=Jaq p l:=fun h=> (Jwg (Jbl.2 ⟨hb,ht,h⟩)).symm
  generalize hV:Jaq p l=V at hat hnone⊢
  obtain ⟨V1,V2⟩:=V
  obtain ⟨⟨k,n⟩,x,rs⟩:=p
  dsimp only at hok hrr hat hnone hlen hp2
  rw [ht] at hT
  refine Jd Tryz.func17 rfl rfl fun nx=> ?_
  refine stp ?_
  refine Ja rfl rfl hR ⟨Rf,trivial⟩ fun nx2=> ?_
  refine stp ?_
  refine Ja rfl rfl hT ⟨Rf,trivial⟩ fun nx3=> ?_
  (refine Jy ?_;refine JQ ?_;refine Jy ?_;refine JQ ?_;refine Jy ?_)
  refine Ja7 (n:=69) (nx:=nx3+2) (nn:=4) (pm:= []) (bx:= [((2,nx3), .mp [])]) (L:= [(2, .rp [int k,int n,Ji x,Jaj rs]),(3, .rp [JZ l]),(8, .rp [.om (2,nx3)])]) (df:=some []) [((3,nx3+1), .c [.om (2,nx3)]),((1,nx+1), .c [JZ l]),((0,nx), .c [int k,int n,Ji x,Jaj rs])] rfl rfl rfl (.cons _ ((List.perm_append_comm (l₁:= [((2,nx3),Own.mp [])]) (l₂:= [((1,nx+1), .c [JZ l]),((0,nx), .c [int k,int n,Ji x,Jaj rs])])))) Sf ⟨Frz.bp (.tail _ (.tail _ (.head _))) rfl,Frz.bp (.tail _ (.head _)) rfl,Frz.bp (.head _) rfl,trivial⟩ ?_
  refine stp ?_
  refine Js (fun y:Nat×Nat=> mk 69 [(3, .rp [JZ l]),(8, .rp [.om (0,nx3)]),(29,Jaj rs),(30,int rs.length),(31,int y.1)] ⟨[((0,nx3), .mp (esV (JbL rs y.1)))], [],y.2,1⟩) (fun y=> y.1≤rs.length∧∀j,j < y.1→Jdb l rs j=0) (fun y=> rs.length - y.1) ?_ ?_
  ·exact ⟨(0,nx3+2),⟨Nat.zero_le _,fun j h=> absurd h (Nat.not_lt_zero _)⟩,Jc (pm:= []) (bx:= [((0,nx3), .mp (esV (JbL rs 0)))]) [((2,nx3), .mp [])] [] rfl rfl Sf .slnil ⟨rfl,OwnLe.refl _,trivial⟩ trivial ⟨Rf,W.AVle.rps ⟨W.AVle.om_nm rfl,trivial⟩,Rf,Rf,Rf,trivial⟩⟩
  ·rintro ⟨i,nx4⟩ ⟨h1,h2⟩
   dsimp only at h1 h2
   refine stp ?_
   intro c g;cases c
   ·have g:=Jw g
    try dsimp only at g
    obtain rfl:i=rs.length:=by omega
    refine stp ?_
    exact Jb rfl (JhX (hnone h2))
   ·have g:=Jv g
    try dsimp only at g
    have hi:i < rs.length:=by omega
    have hm:rs.getD i Jo∈rs:=JAh hi
    have hri:=hrr _ hm
    have hoki:=hok _ hm
    have hsi:=hp2 _ hm
    have hk:=JyB (rs.getD i Jo).conds (Jeu hri) hoki.2.2 hsi.1
    have ha1:=JwF l (rs.getD i Jo) hl (Jhy hs _)
    have ha2:=JwE (rs.getD i Jo) hoki.2.2 Om
    have ha3:=JwG (JbL rs i) (rs.getD i Jo) (Jeg (rs.getD i Jo)) hsi.2 nx3
    rw [JqU hrr hri] at ha3
    have hv:= @Jz5 l rs i
    have hks:(JfS (rs.getD i Jo).conds).size≤12012:=Jmf (Jeu hri) hoki.2.2 hsi.1
    refine stp ?_
    refine ⟨Bd, ?_⟩
    refine Jy ?_
    refine Ja7 (n:=69) (nx:=nx4+1) (nn:=2) (pm:= []) (bx:= [((0,nx3), .mp (esV (JbL rs i)))]) (L:= [(3, .rp [JZ l]),(8, .rp [.om (0,nx3)]),(9,int i),(10, .rp (Jfs (rs.getD i Jo))),(29,Jaj rs),(30,int rs.length),(31,int i)]) (df:=some []) [((1,nx4), .c (Jfs (rs.getD i Jo)))] rfl rfl rfl (List.Perm.refl _) Sf ⟨Frz.refl _,Frz.refl _,Frz.refl _,Frz.bp (.head _) rfl,Frz.refl _,Frz.refl _,Frz.refl _,trivial⟩ ?_
    refine stp ?_
    refine Ja4 8 [] (fun i=> match i with | 7=> true | _=> false) (fun i=> match i with | 5=> true | _=> false) [0,1,2,3,4,5,6,7] (by kernel_rfl) (by kernel_rfl) (fun _ _ _ h=> by cases h) ?_
    refine stp ?_
    refine ⟨by have h2:(⟨#[58]⟩:ByteArray).size=1:=rfl;rw [h2];omega, ?_⟩
    refine stp ?_
    refine ⟨_,Jb2 rfl rfl rfl hk ⟨Rf,trivial⟩ (NoId.v _), ?_⟩
    refine stp ?_
    refine ⟨by rw [ByteArray.size_append];have h2:(⟨#[58]⟩:ByteArray).size=1:=rfl;rw [h2];omega,Joj (b:=JJ (Jeg (rs.getD i Jo))) rfl ?_⟩
    refine stp ?_
    refine ⟨_,Jnq rfl rfl JBm (fun _ _ _ h=> by cases h),fun r' h' hr=> ?_⟩
    obtain ⟨rfl,rfl⟩:=hr
    refine Jy ?_
    refine Ja7 (n:=69) (nx:=nx4+2) (nn:=2) (pm:= []) (bx:= [((0,nx3), .mp (esV (JbL rs i)))]) (L:= [(3, .rp [JZ l]),(8, .rp [.om (0,nx3)]),(9,int i),(10, .rp (Jfs (rs.getD i Jo))),(11, .fn (.func 53) [] [.rp [JZ l], .rp (Jfs (rs.getD i Jo))]),(12, .fn (.func 54) [] [.rp (Jfs (rs.getD i Jo))]),(13, .rp [JJ (Jeg (rs.getD i Jo))]),(29,Jaj rs),(30,int rs.length),(31,int i)]) (df:=some []) [((2,nx4+1), .c [JJ (Jeg (rs.getD i Jo))])] rfl rfl rfl (List.Perm.refl _) Sf ⟨Frz.refl _,Frz.refl _,Frz.refl _,Frz.refl _,Frz.refl _,Frz.refl _,Frz.bp (.head _) rfl,Frz.refl _,Frz.refl _,Frz.refl _,trivial⟩ ?_
    refine stp ?_
    refine Js (fun y:Nat×Nat=> mk 69 [(3, .rp [JZ l]),(8, .rp [.om (0,nx3)]),(9,int i),(13, .rp [JJ (Jeg (rs.getD i Jo))]),(29,Jaj rs),(30,int rs.length),(31,int i),(52, .sl 2 3 (Jfh (JCp l (rs.getD i Jo) nx3))),(53,int 3),(54,int y.1)] ⟨[((0,nx3), .mp (esV (JbL rs i)))], [],y.2,1⟩) (fun y=> y.1≤3∧(1≤y.1→Jbj l (rs.getD i Jo).name=true)∧(2≤y.1→(rs.getD i Jo).conds.any JfY=false)∧(3≤y.1→(rs.take i).any (JhE (rs.getD i Jo))=false)) (fun y=> 3 - y.1) ?_ ?_
    ·refine ⟨(0,nx4+2),⟨Nat.zero_le _,fun h=> absurd h (Nat.not_succ_le_zero _),fun h=> absurd h (Nat.not_succ_le_zero _),fun h=> absurd h (Nat.not_succ_le_zero _)⟩, ?_⟩
     exact Jc (pm:= []) (bx:= [((0,nx3), .mp (esV (JbL rs i)))]) [((0,nx3), .mp (esV (JbL rs i)))] [] rfl rfl Sf .slnil Bf trivial ⟨Rf,Rf,Rf,Rf,Rf,Rf,Rf,Jmz ⟨⟨⟨trivial,rfl⟩,rfl⟩,rfl⟩,Rf,Rf,trivial⟩
    ·rintro ⟨j,nx5⟩ ⟨k0,k1,k2,k3⟩
     dsimp only at k0 k1 k2 k3
     rcases j with _ | _ | _ | _ | j
     ·refine stp ?_
      refine ⟨⟨by show (0:Int)≤0;decide,by show (0:Int) < 3;decide⟩, ?_⟩
      refine stp ?_
      refine Ja rfl rfl ha1 ⟨Rf,Rf,trivial⟩ fun nx6=> ?_
      cases hf:Jbj l (rs.getD i Jo).name
      ·refine stp ?_
       (refine JH 4 ?_ ?_ ?_ ?_;(· kernel_rfl);(· kernel_rfl);(· kernel_rfl))
       refine stp ?_
       exact Jb rfl (JhX (hat i 14 hi h2 (if_pos hf) Dc))
      ·refine stp ?_
       exact back (1,nx6) ⟨by show 1≤3;decide,fun _=> rfl,fun h=> absurd h (by show ¬2≤1;decide),fun h=> absurd h (by show ¬3≤1;decide)⟩ (by show 3 - 1 < 3 - 0;decide) (Jc (pm:= []) (bx:= [((0,nx3), .mp (esV (JbL rs i)))]) [((0,nx3), .mp (esV (JbL rs i)))] [] rfl rfl (.cons _ Sf) .slnil Bf trivial ⟨Rf,Rf,Rf,Rf,Rf,Rf,Rf,Rf,Rf,Rf,trivial⟩)
     ·have q1:=k1 (Nat.le_refl _)
      refine stp ?_
      refine ⟨⟨by show (0:Int)≤1;decide,by show (1:Int) < 3;decide⟩, ?_⟩
      refine stp ?_
      refine Ja rfl rfl ha2 ⟨Rf,trivial⟩ fun nx6=> ?_
      cases hf:(rs.getD i Jo).conds.any JfY
      ·refine stp ?_
       exact back (2,nx6) ⟨by show 2≤3;decide,fun _=> q1,fun _=> rfl,fun h=> absurd h (by show ¬3≤2;decide)⟩ (by show 3 - 2 < 3 - 1;decide) (Jc (pm:= []) (bx:= [((0,nx3), .mp (esV (JbL rs i)))]) [((0,nx3), .mp (esV (JbL rs i)))] [] rfl rfl (.cons _ Sf) .slnil Bf trivial ⟨Rf,Rf,Rf,Rf,Rf,Rf,Rf,Rf,Rf,Rf,trivial⟩)
      ·refine stp ?_
       (refine JH 4 ?_ ?_ ?_ ?_;(· kernel_rfl);(· kernel_rfl);(· kernel_rfl))
       refine stp ?_
       exact Jb rfl (JhX (hat i 16 hi h2 (by unfold Jdb;rw [if_neg (by rw [q1];decide),if_pos hf]) Dc))
     ·have q1:=k1 Dc
      have q2:=k2 (Nat.le_refl _)
      refine stp ?_
      refine ⟨⟨by show (0:Int)≤2;decide,by show (2:Int) < 3;decide⟩, ?_⟩
      refine stp ?_
      refine Jf (xs:= [.rp [.om (0,nx3)], .rp (Jfs (rs.getD i Jo)), .rp [JJ (Jeg (rs.getD i Jo))]]) [((1,nx5), .c [.fn (.func 58) [] [.rp [.om (0,nx3)], .rp (Jfs (rs.getD i Jo)), .rp [JJ (Jeg (rs.getD i Jo))]],int 15])] [] 2 rfl rfl rfl rfl ⟨Rf,Rf,Rf,trivial⟩ (ha3 (nx5+1)) Bf Pf rfl fun r h' hq=> ?_
      obtain ⟨nx6,nn6,rfl,rfl⟩:=hq
      cases hf:(rs.take i).any (JhE (rs.getD i Jo))
      ·refine stp ?_
       exact back (3,nx6) ⟨by show 3≤3;decide,fun _=> q1,fun _=> q2,fun _=> rfl⟩ (by show 3 - 3 < 3 - 2;decide) (Jc (pm:= []) (bx:= [((0,nx3), .mp (esV (JbL rs i)))]) [((0,nx3), .mp (esV (JbL rs i)))] [] rfl rfl (.cons _ Sf) .slnil Bf trivial ⟨Rf,Rf,Rf,Rf,Rf,Rf,Rf,Rf,Rf,Rf,trivial⟩)
      ·refine stp ?_
       (refine JH 4 ?_ ?_ ?_ ?_;(· kernel_rfl);(· kernel_rfl);(· kernel_rfl))
       refine stp ?_
       exact Jb rfl (JhX (hat i 15 hi h2 (by unfold Jdb;rw [if_neg (by rw [q1];decide),if_neg (by rw [q2];decide),if_pos hf]) Dc))
     ·have q1:=k1 Dc
      have q2:=k2 Dc
      have q3:=k3 (Nat.le_refl _)
      have q4:JgW (JbL rs i) (rs.getD i Jo).name (Jeg (rs.getD i Jo))=true:=by rw [JqU hrr hri,q3];rfl
      have q5:=Jtl _ _ (JwI q4)
      rw [← JwH hi] at q5
      refine JaC ?_
      refine ⟨⟨rfl,Jm7 _⟩, ?_⟩
      refine JaC ?_
      refine Jcw ?_
      refine stp ?_
      exact back (i+1,nx5) ⟨hi,fun m hm2=> by
       rcases Nat.lt_or_ge m i with q | q
       ·exact h2 m q
       ·rw [show m=i by omega];exact hv.2 ⟨q1,q2,q3⟩⟩ Dm (Jc (pm:= []) (bx:= [((0,nx3), .mp (esV (JbL rs (i+1))))]) [((0,nx3), .mp (Jct (.string (Jeg (rs.getD i Jo))) (.v (.bool true)) (esV (JbL rs i))))] [] rfl rfl Sf .slnil ⟨rfl,Jo3 (congrArg Own.mp q5),trivial⟩ trivial ⟨Rf,Rf,Rf,Rf,Lw,trivial⟩)
     ·exact absurd k0 Om
end Go.Proofs.W

namespace Go.Proofs.W
open Go.Vl
set_option maxRecDepth 100000
def LpI (p:Pol) (l:List TRow) (i:Nat) (st:Nat→J4):Prop:=i≤(Jh p).rules.length∧(∀j,j < 7→Jbd (st j))∧∃gs,Jam (Jh p).rules=gs++Jam ((Jh p).rules.drop i)∧(∀k,k < 5→(st k).1=(JdY (Jh p) l gs k).map JdS)∧∀m,m < 2→(st (5+m)).1=(JeI l gs m).map Jbm
theorem JB4 (p:Pol) (l:List TRow):LpI p l 0 fun _=> ([],none):=⟨Nat.zero_le _,fun _ _=> rfl, [],rfl,fun _ _=> rfl,fun _ _=> rfl⟩
theorem JiG:∀l:List Rul,(Jam l).length≤l.length
 | []=> Nat.le_refl _
 | r::l=> by
   have ih:=JiG l
   show (JjX r (Jam l)).length≤l.length+1
   cases hg:Jam l with
   | nil=> show 1≤_;omega
   | cons g t=>
     rw [hg] at ih
     obtain ⟨s,L⟩:=g
     show (if kS s r.name then (s,r::L)::t else (r.name, [r])::(s,L)::t).length≤_
     rw [List.length_cons] at ih
     split <;> simp only [List.length_cons] <;> omega
theorem Jmg {a d:Nat} {x:Bool} {row:TRow} {rs:List PRul}:(Jbc a d x row rs).length≤1:=by
 unfold Jbc;split <;> simp
theorem Jmh {m:Nat} {row:TRow} {rs:List PRul}:(Jda m row rs).length≤1:=by
 unfold Jda;split <;> simp
theorem JgX {α β:Type} {f:α→List β} (h:∀x,(f x).length≤1):∀l:List α,(l.flatMap f).length≤l.length
 | []=> Nat.le_refl _
 | x::l=> by
   rw [List.flatMap_cons,List.length_append,List.length_cons]
   have:=h x
   have:=JgX h l
   omega
theorem Jto {p:Pol} {l:List TRow} {i:Nat} {st:Nat→J4} (hr:(Jh p).rules.length≤500) (h:LpI p l i st):∀j,j < 7→(st j).1.length≤1000000:=fun j hj=> by
 obtain ⟨_,_,gs,h1,h2,h3⟩:=h
 have hg:=JiG (Jh p).rules
 rw [h1,List.length_append] at hg
 rcases Nat.lt_or_ge j 5 with h5 | h5
 ·rw [h2 j h5,List.length_map]
  have:=JgX (f:=fun g:ByteArray×List Rul=> Jbc j (JaU (Jh p).dflt) (Jh p).x32 (JaT l g.1) (g.2.map J2)) (fun _=> Jmg) gs
  unfold JdY
  omega
 ·obtain ⟨m,rfl⟩:∃m,j=5+m:=⟨j - 5,by omega⟩
  rw [h3 m Om,List.length_map]
  have:=JgX (f:=fun g:ByteArray×List Rul=> Jda m (JaT l g.1) (g.2.map J2)) (fun _=> Jmh) gs
  unfold JeI
  omega
theorem JAi {l:List TRow} {s:ByteArray} (ht:(JcL l).2=0) (h:Jqu l s):(∀k,(JaT l s).num k < 1073741824)∧((JaT l s).mux=0∨(JaT l s).mux=1∨(JaT l s).mux=2)∧0≤(JaT l s).sub∧(JaT l s).sub≤255:=by
 obtain ⟨i,hi,h1,_⟩:=h
 rw [h1]
 exact ⟨fun k=> (JfO ht hi).1,JmW ht hi⟩
theorem Jon (s:ByteArray) (l:List Rul):(JcD s l).length≤l.length:=List.Sublist.length_le (List.takeWhile_sublist _)
theorem JyC (s:ByteArray) (l:List Rul):l=JcD s l++l.drop (JcD s l).length:=by
 induction l with
 | nil=> rfl
 | cons r l ih=>
   unfold JcD at ih⊢
   rw [List.takeWhile_cons]
   by_cases h:kS r.name s=true
   ·rw [if_pos h,List.length_cons,List.drop_succ_cons,List.cons_append,← ih]
   ·rw [if_neg h];rfl
theorem JwJ {l:List Rul} {i:Nat} (hi:i < l.length):JcD (l.getD i Jo).name (l.drop i)≠ []:=by
 rw [List.drop_eq_getElem_cons hi,show l.getD i Jo=l[i] by simp [List.getD,hi]]
 unfold JcD
 rw [List.takeWhile_cons,if_pos (Jcf.2 rfl)]
 exact List.cons_ne_nil _ _
theorem JyD {p:Pol} {l:List TRow} {i:Nat} {st st':Nat→J4} (hi:i < (Jh p).rules.length) {s:ByteArray} {L:List Rul} (hs:s=((Jh p).rules.getD i Jo).name) (hL:L=JcD s ((Jh p).rules.drop i)) (h:LpI p l i st) (hq:JuA (JaU (Jh p).dflt) (Jh p).x32 (JaT l s) (L.map J2) st st'):LpI p l (i+L.length) st':=by
 obtain ⟨h0,h1,gs,h2,h3,h4⟩:=h
 have hne:L≠ []:=by rw [hL,hs];exact JwJ hi
 have hd:=JyC s ((Jh p).rules.drop i)
 have he:=Jyi s ((Jh p).rules.drop i)
 have ha:=Jn7 s ((Jh p).rules.drop i)
 have hl:=Jon s ((Jh p).rules.drop i)
 rw [← hL] at hd he ha hl
 rw [List.drop_drop] at hd he
 rw [List.length_drop] at hl
 have hgr:=Jl6 he hne ha
 rw [← hd] at hgr
 refine ⟨by omega,hq.1,gs++ [(s,L)],by rw [h2,hgr,List.append_assoc];rfl,fun k hk=> ?_,fun m hm=> ?_⟩
 ·rw [hq.2.1 k hk,h3 k hk,Jur,List.map_append]
 ·rw [hq.2.2 m hm,h4 m hm,Jus,List.map_append]
theorem JwK {p:Pol} (hp:p.ok) (hr:Jb7 p=true) {s:ByteArray} {i:Nat}:∀r∈(JcD s ((Jh p).rules.drop i)).map J2,r.conds.length≤1000000∧∀c∈r.conds,c.ok:=fun q hq=> by
 obtain ⟨r,hr1,rfl⟩:=List.mem_map.1 hq
 have hm:r∈(Jh p).rules:=List.mem_of_mem_drop ((List.takeWhile_sublist _).subset hr1)
 obtain ⟨r0,h0,h1⟩:=JgR hm
 have:=(Jcz hr).2 r0 h0
 have:=(Jdg h1).1
 exact ⟨by show r.conds.length≤_;omega,(JhB h1).2.2 (hp.2 r0 h0).2.2⟩
theorem JAj {p:Pol} {l:List TRow} {st:Nat→J4} (h:LpI p l (Jh p).rules.length st):(∀j,j < 7→Jbd (st j))∧(∀k,k < 5→(st k).1=(JdY (Jh p) l (Jam (Jh p).rules) k).map JdS)∧∀m,m < 2→(st (5+m)).1=(JeI l (Jam (Jh p).rules) m).map Jbm:=by
 obtain ⟨h0,h1,gs,h2,h3,h4⟩:=h
 rw [List.drop_length] at h2
 obtain rfl:Jam (Jh p).rules=gs:=by rw [h2];exact List.append_nil _
 exact ⟨h1,h3,h4⟩
def LpS (k:Nat) (st st':Nat→J4):Prop:=k≤7∧(∀j,j < 7→Jbd (st' j))∧(∀j,j < 7→(st' j).1.Perm (st j).1)∧∀j,j < k→(st' j).1.Pairwise fun a b=> a.1≤b.1
theorem JB5 {st:Nat→J4} (h:∀j,j < 7→Jbd (st j)):LpS 0 st st:=⟨by omega,h,fun _ _=> .refl _,fun j hj=> absurd hj (Nat.not_lt_zero j)⟩
theorem JqW {k:Nat} {st st1:Nat→J4} (hk:k < 7) (h:LpS k st st1) (he:(st1 k).1= []):LpS (k+1) st st1:=by
 obtain ⟨h0,h1,h2,h3⟩:=h
 refine ⟨hk,h1,h2,fun j hj=> ?_⟩
 rcases Nat.lt_or_ge j k with q | q
 ·exact h3 j q
 ·obtain rfl:j=k:=by omega
  rw [he];exact List.Pairwise.nil
theorem JqX {k:Nat} {st st1:Nat→J4} {R D:List (Nat×AV)} {s cap:Nat} {tl:List AV} (hk:k < 7) (h:LpS k st st1) (hR:st1 k=(R,some (s,cap,tl))) (hp:D.Perm R) (hs:D.Pairwise fun a b=> a.1≤b.1):LpS (k+1) st (Jaw st1 k (D,some (s,cap,tl))):=by
 obtain ⟨h0,h1,h2,h3⟩:=h
 have hok:=h1 k hk
 rw [hR] at hok
 refine ⟨hk,Jjv h1 (show D.length≤cap∧cap * 2≤D.length * 2+tl.length from by rw [hp.length_eq];exact hok),fun j hj=> ?_,fun j hj=> ?_⟩
 ·unfold Jaw
  by_cases e:j=k
  ·subst e
   rw [if_pos rfl]
   have:=h2 j hj
   rw [hR] at this
   exact hp.trans this
  ·rw [if_neg e];exact h2 j hj
 ·unfold Jaw
  by_cases e:j=k
  ·subst e
   rw [if_pos rfl];exact hs
  ·rw [if_neg e];exact h3 j Om
end Go.Proofs.W

namespace Go.Proofs.W
open Go.Vl
set_option maxRecDepth 100000
theorem JAk {d:Nat} {l:List PRul}:(JgL d l).length≤l.length:=by
 unfold JgL
 rw [List.length_reverse]
 exact Nat.le_trans (List.dropWhile_sublist _).length_le (Nat.le_of_eq List.length_reverse)
theorem Jmi (a:Nat):∀l:List PRul,(JdW a l).length≤l.length
 | []=> Nat.le_refl _
 | q::l=> by
   have ih:=Jmi a l
   unfold JdW
   rw [List.length_cons]
   split
   ·omega
   ·split
    ·rw [List.length_singleton];omega
    ·rw [List.length_cons];omega
theorem JwL {a:Nat} {q r:PRul} (h:JgK a q=some r):r.conds.length≤q.conds.length:=by
 unfold JgK at h
 split at h
 ·unfold JgJ at h
  split at h
  ·cases h
  ·obtain rfl:=Option.some.inj h
   exact List.length_filterMap_le _ _
 ·obtain rfl:=Option.some.inj h
  exact Nat.le_refl _
theorem JBn {p:Pol} {l:List TRow} (hr:(Jh p).rules.length≤40) (hc:∀r∈(Jh p).rules,r.conds.length≤12):PlanS (JbB p l):=by
 have hg:=JiG (Jh p).rules
 have he:∀ {a:Nat} {e:PEnt},e∈(JbB p l).ents a→∃L:List Rul,L.length≤40∧(∀r∈L,r∈(Jh p).rules)∧e.rules=Jdk a (L.map J2) (JaU p.dflt):=fun {a e} h=> by
  obtain ⟨g,hg,h2⟩:=Jhl h
  unfold Jbc at h2
  split at h2
  ·cases h2
  ·refine ⟨g.2, ?_,fun r hr=> ?_,by rw [List.mem_singleton.1 h2]⟩
   ·rw [JmZ hg];exact Nat.le_trans (List.length_filter_le _ _) hr
   ·rw [JmZ hg] at hr;exact (List.mem_filter.1 hr).1
 refine ⟨fun a=> ?_,fun a e h=> ?_,fun a e h r hr=> ?_,fun k=> ?_⟩
 ·show (JoZ _).length≤_
  rw [(Jgd _).length_eq]
  have:=JgX (f:=fun g:ByteArray×List Rul=> Jbc a (JaU (Jh p).dflt) (Jh p).x32 (JaT l g.1) (g.2.map J2)) (fun _=> Jmg) (Jam (Jh p).rules)
  unfold JdY
  omega
 ·obtain ⟨L,h1,_,h3⟩:=he h
  rw [h3]
  have h4:=Jmi a (L.map J2)
  have h5:=JAk (d:=JaU p.dflt) (l:=JdW a (L.map J2))
  rw [List.length_map] at h4
  show (JgL _ _).length≤_
  omega
 ·obtain ⟨L,_,h2,h3⟩:=he h
  rw [h3] at hr
  obtain ⟨q,hq,e⟩:=Jhm (JqE hr)
  obtain ⟨n,hn,rfl⟩:=List.mem_map.1 hq
  have:=JwL e
  have:=hc n (h2 n hn)
  show _≤12
  unfold J2 at *
  dsimp only at *
  omega
 ·show (Jo0 _).length≤_
  rw [(Jiy _).length_eq]
  have:=JgX (f:=fun g:ByteArray×List Rul=> Jda k (JaT l g.1) (g.2.map J2)) (fun _=> Jmh) (Jam (Jh p).rules)
  unfold JeI
  omega
end Go.Proofs.W

namespace Go.Proofs.W
open Go.Vl
set_option maxRecDepth 100000
def itA (x:Itm):AV:= .ag [int x.mark,u16 x.code,u32 x.k,int x.t,int x.f]
def itF (l:List Itm):Nat→AV:=fun k=> itA (l.getD k it0)
def JaB (l:List Itm):AV:=JK 5 itA it0 l
def bE (b:List (Nat×Nat)):List (Value×AV):=b.map fun p:Nat×Nat=> (.int .u32 (p.1:Int),int p.2)
def mkB (s0 s1:Nat) (m:Mk) (oi:Option Nat):List (Vl.Id×Own):= [((0,s0), .c [.os 5 m.l.length (itF m.l) (nmN 2 oi),int m.n, .om (1,s1)]),((1,s1), .mp (bE m.b))]
def mkP (m:Mk) (oi:Option Nat):List (Vl.Id×Nat):=Jac (nmN 2 oi) (m.l.length * 5)
def MkQ (s0 s1:Nat) (m:Mk) (a r:AV) (h':Heap):Prop:=∃oi nx' nn',r=a∧(oi=none→m.l= [])∧h'=⟨mkB s0 s1 m oi,mkP m oi,nx',nn'⟩
theorem c_it:Tryz.prog.cellsOf 65=5:=by kernel_rfl
theorem JBo:Tryz.prog.bytesOf 65=32:=by kernel_rfl
theorem JwM {L M:List Itm} {c s:Nat}:AVle (.os 5 (L.length+M.length) (Jcu L.length (itF L) (itF M)) (some (c,s))) (.os 5 (L++M).length (itF (L++M)) (nmN 2 (some s))):=by
 rw [List.length_append]
 refine AVle.trans (AVle.os_fun (f':=itF (L++M)) fun k hk=> ?_) (AVle.os_nm rfl)
 show (bif Nat.blt k L.length then itF L k else itF M (k - L.length))=itF (L++M) k
 unfold itF
 cases h:Nat.blt k L.length
 ·have:L.length≤k:=by
   rcases Nat.lt_or_ge k L.length with h' | h'
   ·have h2:Nat.blt k L.length=true:=by simpa using h'
    rw [h] at h2;cases h2
   ·exact h'
  rw [show (L++M).getD k it0=M.getD (k - L.length) it0 by simp [List.getD,List.getElem?_append_right this]];rfl
 ·have:k < L.length:=by simpa using h
  rw [show (L++M).getD k it0=L.getD k it0 by simp [List.getD,List.getElem?_append_left this]];rfl
def mkC (s0:Nat) (c2:AV) (m:Mk) (oi:Option Nat):List (Vl.Id×Own):= [((0,s0), .c [.os 5 m.l.length (itF m.l) (nmN 2 oi),int m.n,c2])]
def MkC (s0:Nat) (c2:AV) (m:Mk) (a r:AV) (h':Heap):Prop:=∃oi nx' nn',r=a∧(oi=none→m.l= [])∧h'=⟨mkC s0 c2 m oi,mkP m oi,nx',nn'⟩
theorem JiH (s0 nx:Nat) (c2:AV) (m:Mk) (oi:Option Nat) (x:List Itm) (h0:oi=none→m.l= []) (hx:x≠ []) (hf:(JD m x).fits):ECall Tryz.prog 31 [.bp (0,s0) 0,JaB x] ⟨mkC s0 c2 m oi,mkP m oi,nx,3⟩ (MkC s0 c2 (JD m x) (.tup [])):=by
 have hl:m.l.length+x.length≤1000000000000:=by have:=hf.1;unfold JD at this;simpa using this
 have hxl:x.length≠0:=fun h=> hx (List.eq_nil_of_length_eq_zero h)
 obtain ⟨l,n,b⟩:=m
 dsimp only at hl h0
 refine ECall.wk (Jn Tryz.func31 rfl rfl ?_)
 unfold mkC mkP JaB JK
 dsimp only
 refine Jy ?_
 refine JE (fun n=> match n with | 3=> true | _=> false) 10 ?_
 refine stp ?_
 rcases oi with _ | s
 ·obtain rfl:=h0 rfl
  refine AOp.kp (Jbs (e:=65) (oi:=none) (n:=0) (m:=x.length) (f:=itF []) (f':=itF x) (sz:=5) (szx:=5) rfl rfl (.inl rfl) (by kernel_rfl) (by kernel_rfl) (.inl ⟨rfl,rfl⟩) (.inr c_it.symm) (fun i hi=> by cases hi) (fun _ _=> rfl) (fun _=> by rw [JBo];omega) (fun _=> by omega) (fun h=> absurd h hxl) (fun _=> ?_))
  refine stp ?_
  refine AOp.kp (JfG (i:=(0,s0)) (off:=0) rfl rfl rfl rfl rfl rfl (by kernel_rfl) (by show 0+1≤3;decide) ?_)
  refine stp ?_
  refine Jr rfl ⟨.tup [],⟨mkC s0 c2 (JD ⟨[],n,b⟩ x) (some nx),mkP (JD ⟨[],n,b⟩ x) (some nx),nx+1,3⟩,Rf,Jq _ [((3,nx),(0+x.length) * Tryz.prog.cellsOf 65)] rfl Sf Sf ⟨rfl,⟨?_,Rf,Rf,trivial⟩,trivial⟩ ⟨rfl,by rw [c_it,Nat.zero_add];rfl,trivial⟩,some nx,nx+1,3,rfl,(fun h=> by cases h),rfl⟩
  (conv=> arg 1;whnf)
  exact JwM (L:= []) (M:=x)
 ·refine AOp.kp (Jbs (e:=65) (oi:=some (2,s)) (n:=l.length) (m:=x.length) (f:=itF l) (f':=itF x) (sz:=5) (szx:=5) rfl rfl (.inl rfl) (by kernel_rfl) (by kernel_rfl) (.inr c_it.symm) (.inr c_it.symm) (fun i hi=> by cases hi;rw [c_it];rfl) (fun _ _=> rfl) (fun _=> by rw [JBo];omega) (fun _=> by omega) (fun h=> absurd h hxl) (fun _=> ?_))
  refine stp ?_
  refine AOp.kp (JfG (i:=(0,s0)) (off:=0) rfl rfl rfl rfl rfl rfl (by kernel_rfl) (by show 0+1≤3;decide) ?_)
  refine stp ?_
  refine Jr rfl ⟨.tup [],⟨mkC s0 c2 (JD ⟨l,n,b⟩ x) (some nx),mkP (JD ⟨l,n,b⟩ x) (some nx),nx+1,3⟩,Rf,Jq _ [((3,nx),(l.length+x.length) * Tryz.prog.cellsOf 65)] rfl Sf Sf ⟨rfl,⟨?_,Rf,Rf,trivial⟩,trivial⟩ ⟨rfl,by rw [c_it];show _=(l++x).length * 5;rw [List.length_append],trivial⟩,some nx,nx+1,3,rfl,(fun h=> by cases h),rfl⟩
  (conv=> arg 1;whnf)
  exact JwM (L:=l) (M:=x)
theorem Joo {f:FuncId} {args:List AV} {s0 s1 nx:Nat} {m m':Mk} {oi:Option Nat} {a:AV} (hb:m'.b=m.b) (h:ECall Tryz.prog f args ⟨mkC s0 (.om (1,s1)) m oi,mkP m oi,nx,3⟩ (MkC s0 (.om (1,s1)) m' a)):ECall Tryz.prog f args ⟨mkB s0 s1 m oi,mkP m oi,nx,3⟩ (MkQ s0 s1 m' a):=
 (ECall.frame (h:=⟨mkB s0 s1 m oi,mkP m oi,nx,3⟩) h [((1,s1), .mp (bE m.b))] [] (.refl _) (.of_eq (List.append_nil _).symm) rfl).mono fun r h' ⟨h1,⟨o2,nx',nn',e1,e2,e3⟩,e⟩=> by
   subst e3
   refine ⟨o2,nx',nn',e1,e2,e.trans ?_⟩
   unfold mkB
   rw [hb]
   show Heap.mk _ (mkP m' o2++ []) _ _=_
   rw [List.append_nil];rfl
theorem Jak (s0 s1 nx:Nat) (m:Mk) (oi:Option Nat) (x:List Itm) (h0:oi=none→m.l= []) (hx:x≠ []) (hf:(JD m x).fits):ECall Tryz.prog 31 [.bp (0,s0) 0,JaB x] ⟨mkB s0 s1 m oi,mkP m oi,nx,3⟩ (MkQ s0 s1 (JD m x) (.tup [])):=
 Joo rfl (JiH s0 nx _ m oi x h0 hx hf)
theorem JdE (s0 s1 nx:Nat) (m:Mk) (oi:Option Nat) (h0:oi=none→m.l= []) (hf:(Jx m).fits):ECall Tryz.prog 33 [.bp (0,s0) 0] ⟨mkB s0 s1 m oi,mkP m oi,nx,3⟩ (MkQ s0 s1 (Jx m) (int (m.n+1:Nat))):=by
 have hn:m.n+1≤1000000000000:=hf.2
 obtain ⟨l,n,b⟩:=m
 dsimp only at hn h0
 refine ECall.wk (Jn Tryz.func33 rfl rfl ?_)
 unfold mkB mkP
 dsimp only
 refine stp ?_
 exact Jr rfl ⟨int (n+1:Nat),⟨mkB s0 s1 (Jx ⟨l,n,b⟩) oi,mkP (Jx ⟨l,n,b⟩) oi,nx,3⟩,Jg (Jz Om),Jq _ _ rfl Sf Sf ⟨rfl,⟨Rf,Jg (Jz Om),Rf,trivial⟩,Bf⟩ Pf,oi,nx,3,rfl,h0,rfl⟩
theorem JeV {f:Nat→AV} {o:Option Vl.Id} {x:List Itm} (h:∀k,k < 1→f k=itF x k) (hl:x.length=1:=by rfl):AVle (.os 5 1 f o) (JaB x):=by
 unfold JaB JK;rw [hl];exact AVle.os_sl.trans (AVle.sl_fun h)
theorem JqY {f:Nat→AV} {o:Option Vl.Id} {x:List Itm} (h:∀k,k < 2→f k=itF x k) (hl:x.length=2:=by rfl):AVle (.os 5 2 f o) (JaB x):=by
 unfold JaB JK;rw [hl];exact AVle.os_sl.trans (AVle.sl_fun h)
theorem JuJ {f:Nat→AV} {o:Option Vl.Id} {x:List Itm} (h:∀k,k < 3→f k=itF x k) (hl:x.length=3:=by rfl):AVle (.os 5 3 f o) (JaB x):=by
 unfold JaB JK;rw [hl];exact AVle.os_sl.trans (AVle.sl_fun h)
theorem Jkr (s0 nx:Nat) (c2:AV) (m:Mk) (oi:Option Nat) (k:Nat) (h0:oi=none→m.l= []) (hf:(JX m k).fits):ECall Tryz.prog 37 [.bp (0,s0) 0,int k] ⟨mkC s0 c2 m oi,mkP m oi,nx,3⟩ (MkC s0 c2 (JX m k) (.tup [])):=by
 refine ECall.wk (Jn Tryz.func37 rfl rfl ?_)
 refine stp ?_
 refine Jf (xs:= [.bp (0,s0) 0,JaB [⟨k,0,0,0,0⟩]]) [] [] 3 rfl rfl rfl rfl ⟨Rf,JeV (fun k hk=> by match k,hk with | 0,_=> rfl),trivial⟩ (JiH s0 nx c2 m oi _ h0 (by simp) hf) Bf Pf rfl fun r h' hq=> ?_
 obtain ⟨oi2,nx2,nn2,rfl,h2,rfl⟩:=hq
 refine stp ?_
 exact Jr rfl ⟨.tup [],⟨mkC s0 c2 _ oi2,mkP _ oi2,nx2,3⟩,Rf,HLe.refl _,oi2,nx2,3,rfl,h2,rfl⟩
theorem Jex (s0 s1 nx:Nat) (m:Mk) (oi:Option Nat) (k:Nat) (h0:oi=none→m.l= []) (hf:(JX m k).fits):ECall Tryz.prog 37 [.bp (0,s0) 0,int k] ⟨mkB s0 s1 m oi,mkP m oi,nx,3⟩ (MkQ s0 s1 (JX m k) (.tup [])):=
 Joo rfl (Jkr s0 nx _ m oi k h0 hf)
def hlA (h:Hlv):AV:= .ag [u32 h.la,u32 h.ha,u32 h.lo,u32 h.hi,u32 h.ml,u32 h.mh,Ji h.w,int h.yes,int h.no]
theorem Jmj (s0 s1 nx:Nat) (m:Mk) (oi:Option Nat) (h:Hlv) (h0:oi=none→m.l= []) (hf:(Jb4 m h (Jc5 h) (Jb3 h)).fits):ECall Tryz.prog 263 [.bp (0,s0) 0,hlA h] ⟨mkB s0 s1 m oi,mkP m oi,nx,3⟩ (MkQ s0 s1 (Jb4 m h (Jc5 h) (Jb3 h)) (.tup [])):=by
 obtain ⟨la,ha,lo,hi,ml,mh,w,yes,no⟩:=h
 refine ECall.wk (Jn Tryz.func263 rfl rfl ?_)
 unfold hlA Jb4 at *
 dsimp only at *
 cases w
 ·refine stp ?_
  refine Jf (xs:= [.bp (0,s0) 0,JaB (Jb3 ⟨la,ha,lo,hi,ml,mh,false,yes,no⟩)]) [((3,nx), .c [u32 la,u32 ha,u32 lo,u32 hi,u32 ml,u32 mh,Ji false,int yes,int no])] [] 4 rfl rfl rfl rfl ⟨Rf,JqY (fun k hk=> by match k,hk with | 0,_=> rfl | 1,_=> rfl),trivial⟩ (Jak s0 s1 (nx+1) m oi _ h0 (by simp [Jb3]) hf) Bf Pf rfl fun r h' hq=> ?_
  obtain ⟨oi2,nx2,nn2,rfl,h2,rfl⟩:=hq
  refine stp ?_
  exact Jr rfl ⟨.tup [],⟨mkB s0 s1 _ oi2,mkP _ oi2,nx2,3⟩,Rf,Jq _ _ rfl (.cons _ Sf) Sf Bf Pf,oi2,nx2,3,rfl,h2,rfl⟩
 ·refine stp ?_
  refine Jf (xs:= [.bp (0,s0) 0,JaB (Jc5 ⟨la,ha,lo,hi,ml,mh,true,yes,no⟩)]) [((3,nx), .c [u32 la,u32 ha,u32 lo,u32 hi,u32 ml,u32 mh,Ji true,int yes,int no])] [] 4 rfl rfl rfl rfl ⟨Rf,JqY (fun k hk=> by match k,hk with | 0,_=> rfl | 1,_=> rfl),trivial⟩ (Jak s0 s1 (nx+1) m oi _ h0 (by simp [Jc5]) ((Jap _ _).fits hf)) Bf Pf rfl fun r h' hq=> ?_
  obtain ⟨oi2,nx2,nn2,rfl,h2,rfl⟩:=hq
  refine stp ?_
  refine Jf (xs:= [.bp (0,s0) 0,JaB (Jb3 ⟨la,ha,lo,hi,ml,mh,true,yes,no⟩)]) [((3,nx), .c [u32 la,u32 ha,u32 lo,u32 hi,u32 ml,u32 mh,Ji true,int yes,int no])] [] 4 rfl rfl rfl rfl ⟨Rf,JqY (fun k hk=> by match k,hk with | 0,_=> rfl | 1,_=> rfl),trivial⟩ (Jak s0 s1 nx2 _ oi2 _ h2 (by simp [Jb3]) hf) Bf Pf rfl fun r h' hq=> ?_
  obtain ⟨oi3,nx3,nn3,rfl,h3,rfl⟩:=hq
  refine stp ?_
  exact Jr rfl ⟨.tup [],⟨mkB s0 s1 _ oi3,mkP _ oi3,nx3,3⟩,Rf,Jq _ _ rfl (.cons _ Sf) Sf Bf Pf,oi3,nx3,3,rfl,h3,rfl⟩
theorem JqZ (s0 s1 nx:Nat) (m:Mk) (oi:Option Nat) (h:Hlv) (h0:oi=none→m.l= []) (hf:(Jb4 m (JaM h) (Jc5 (JaM h)) (Jb3 (JaM h))).fits):ECall Tryz.prog 264 [.bp (0,s0) 0,hlA h] ⟨mkB s0 s1 m oi,mkP m oi,nx,3⟩ (MkQ s0 s1 (Jb4 m (JaM h) (Jc5 (JaM h)) (Jb3 (JaM h))) (.tup [])):=by
 obtain ⟨la,ha,lo,hi,ml,mh,w,yes,no⟩:=h
 refine ECall.wk (Jn Tryz.func264 rfl rfl ?_)
 unfold hlA
 refine stp ?_
 refine Jf (xs:= [.bp (0,s0) 0,hlA (JaM ⟨la,ha,lo,hi,ml,mh,w,yes,no⟩)]) [((3,nx), .c [u32 la,u32 ha,u32 lo,u32 hi,u32 ml,u32 mh,Ji w,int no,int yes])] [] 4 rfl rfl rfl rfl ⟨Rf,Rf,trivial⟩ (Jmj s0 s1 (nx+1) m oi _ h0 hf) Bf Pf rfl fun r h' hq=> ?_
 obtain ⟨oi2,nx2,nn2,rfl,h2,rfl⟩:=hq
 refine stp ?_
 exact Jr rfl ⟨.tup [],⟨mkB s0 s1 _ oi2,mkP _ oi2,nx2,3⟩,Rf,Jq _ _ rfl (.cons _ Sf) Sf Bf Pf,oi2,nx2,3,rfl,h2,rfl⟩
theorem Jks (s0 s1 nx:Nat) (m:Mk) (oi:Option Nat) (h:Hlv) (h0:oi=none→m.l= []) (hf:(Jb4 m h (Jci h) (Jbb h)).fits):ECall Tryz.prog 266 [.bp (0,s0) 0,hlA h] ⟨mkB s0 s1 m oi,mkP m oi,nx,3⟩ (MkQ s0 s1 (Jb4 m h (Jci h) (Jbb h)) (.tup [])):=by
 obtain ⟨la,ha,lo,hi,ml,mh,w,yes,no⟩:=h
 refine ECall.wk (Jn Tryz.func266 rfl rfl ?_)
 unfold hlA Jb4 at *
 dsimp only at *
 cases w
 ·refine stp ?_
  refine Jf (xs:= [.bp (0,s0) 0,JaB (Jbb ⟨la,ha,lo,hi,ml,mh,false,yes,no⟩)]) [((3,nx), .c [u32 la,u32 ha,u32 lo,u32 hi,u32 ml,u32 mh,Ji false,int yes,int no])] [] 4 rfl rfl rfl rfl ⟨Rf,JqY (fun k hk=> by match k,hk with | 0,_=> rfl | 1,_=> rfl),trivial⟩ (Jak s0 s1 (nx+1) m oi _ h0 (by simp [Jbb]) hf) Bf Pf rfl fun r h' hq=> ?_
  obtain ⟨oi2,nx2,nn2,rfl,h2,rfl⟩:=hq
  refine stp ?_
  exact Jr rfl ⟨.tup [],⟨mkB s0 s1 _ oi2,mkP _ oi2,nx2,3⟩,Rf,Jq _ _ rfl (.cons _ Sf) Sf Bf Pf,oi2,nx2,3,rfl,h2,rfl⟩
 ·refine stp ?_
  refine Jf (xs:= [.bp (0,s0) 0,JaB (Jci ⟨la,ha,lo,hi,ml,mh,true,yes,no⟩)]) [((3,nx), .c [u32 la,u32 ha,u32 lo,u32 hi,u32 ml,u32 mh,Ji true,int yes,int no])] [] 4 rfl rfl rfl rfl ⟨Rf,JuJ (fun k hk=> by match k,hk with | 0,_=> rfl | 1,_=> rfl | 2,_=> rfl),trivial⟩ (Jak s0 s1 (nx+1) m oi _ h0 (by simp [Jci]) ((Jap _ _).fits hf)) Bf Pf rfl fun r h' hq=> ?_
  obtain ⟨oi2,nx2,nn2,rfl,h2,rfl⟩:=hq
  refine stp ?_
  refine Jf (xs:= [.bp (0,s0) 0,JaB (Jbb ⟨la,ha,lo,hi,ml,mh,true,yes,no⟩)]) [((3,nx), .c [u32 la,u32 ha,u32 lo,u32 hi,u32 ml,u32 mh,Ji true,int yes,int no])] [] 4 rfl rfl rfl rfl ⟨Rf,JqY (fun k hk=> by match k,hk with | 0,_=> rfl | 1,_=> rfl),trivial⟩ (Jak s0 s1 nx2 _ oi2 _ h2 (by simp [Jbb]) hf) Bf Pf rfl fun r h' hq=> ?_
  obtain ⟨oi3,nx3,nn3,rfl,h3,rfl⟩:=hq
  refine stp ?_
  exact Jr rfl ⟨.tup [],⟨mkB s0 s1 _ oi3,mkP _ oi3,nx3,3⟩,Rf,Jq _ _ rfl (.cons _ Sf) Sf Bf Pf,oi3,nx3,3,rfl,h3,rfl⟩
theorem Jsj (s0 s1 nx:Nat) (m:Mk) (oi:Option Nat) (h:Hlv) (h0:oi=none→m.l= []) (hf:(Jb4 m (JaM h) (Jci (JaM h)) (Jbb (JaM h))).fits):ECall Tryz.prog 265 [.bp (0,s0) 0,hlA h] ⟨mkB s0 s1 m oi,mkP m oi,nx,3⟩ (MkQ s0 s1 (Jb4 m (JaM h) (Jci (JaM h)) (Jbb (JaM h))) (.tup [])):=by
 obtain ⟨la,ha,lo,hi,ml,mh,w,yes,no⟩:=h
 refine ECall.wk (Jn Tryz.func265 rfl rfl ?_)
 unfold hlA
 refine stp ?_
 refine Jf (xs:= [.bp (0,s0) 0,hlA (JaM ⟨la,ha,lo,hi,ml,mh,w,yes,no⟩)]) [((3,nx), .c [u32 la,u32 ha,u32 lo,u32 hi,u32 ml,u32 mh,Ji w,int no,int yes])] [] 4 rfl rfl rfl rfl ⟨Rf,Rf,trivial⟩ (Jks s0 s1 (nx+1) m oi _ h0 hf) Bf Pf rfl fun r h' hq=> ?_
 obtain ⟨oi2,nx2,nn2,rfl,h2,rfl⟩:=hq
 refine stp ?_
 exact Jr rfl ⟨.tup [],⟨mkB s0 s1 _ oi2,mkP _ oi2,nx2,3⟩,Rf,Jq _ _ rfl (.cons _ Sf) Sf Bf Pf,oi2,nx2,3,rfl,h2,rfl⟩
theorem Jq0 (s0 s1 nx:Nat) (m:Mk) (oi:Option Nat) (h:Hlv) (h0:oi=none→m.l= []) (hf:(Jb4 m h (Jep h) (JcX h)).fits):ECall Tryz.prog 267 [.bp (0,s0) 0,hlA h] ⟨mkB s0 s1 m oi,mkP m oi,nx,3⟩ (MkQ s0 s1 (Jb4 m h (Jep h) (JcX h)) (.tup [])):=by
 obtain ⟨la,ha,lo,hi,ml,mh,w,yes,no⟩:=h
 refine ECall.wk (Jn Tryz.func267 rfl rfl ?_)
 unfold hlA Jb4 at *
 dsimp only at *
 cases w
 ·refine stp ?_
  refine Jf (xs:= [.bp (0,s0) 0,JaB (JcX ⟨la,ha,lo,hi,ml,mh,false,yes,no⟩)]) [((3,nx), .c [u32 la,u32 ha,u32 lo,u32 hi,u32 ml,u32 mh,Ji false,int yes,int no])] [] 4 rfl rfl rfl rfl ⟨Rf,JuJ (fun k hk=> by match k,hk with | 0,_=> rfl | 1,_=> rfl | 2,_=> rfl),trivial⟩ (Jak s0 s1 (nx+1) m oi _ h0 (by simp [JcX]) hf) Bf Pf rfl fun r h' hq=> ?_
  obtain ⟨oi2,nx2,nn2,rfl,h2,rfl⟩:=hq
  refine stp ?_
  exact Jr rfl ⟨.tup [],⟨mkB s0 s1 _ oi2,mkP _ oi2,nx2,3⟩,Rf,Jq _ _ rfl (.cons _ Sf) Sf Bf Pf,oi2,nx2,3,rfl,h2,rfl⟩
 ·refine stp ?_
  refine Jf (xs:= [.bp (0,s0) 0,JaB (Jep ⟨la,ha,lo,hi,ml,mh,true,yes,no⟩)]) [((3,nx), .c [u32 la,u32 ha,u32 lo,u32 hi,u32 ml,u32 mh,Ji true,int yes,int no])] [] 4 rfl rfl rfl rfl ⟨Rf,JuJ (fun k hk=> by match k,hk with | 0,_=> rfl | 1,_=> rfl | 2,_=> rfl),trivial⟩ (Jak s0 s1 (nx+1) m oi _ h0 (by simp [Jep]) ((Jap _ _).fits hf)) Bf Pf rfl fun r h' hq=> ?_
  obtain ⟨oi2,nx2,nn2,rfl,h2,rfl⟩:=hq
  refine stp ?_
  refine Jf (xs:= [.bp (0,s0) 0,JaB (JcX ⟨la,ha,lo,hi,ml,mh,true,yes,no⟩)]) [((3,nx), .c [u32 la,u32 ha,u32 lo,u32 hi,u32 ml,u32 mh,Ji true,int yes,int no])] [] 4 rfl rfl rfl rfl ⟨Rf,JuJ (fun k hk=> by match k,hk with | 0,_=> rfl | 1,_=> rfl | 2,_=> rfl),trivial⟩ (Jak s0 s1 nx2 _ oi2 _ h2 (by simp [JcX]) hf) Bf Pf rfl fun r h' hq=> ?_
  obtain ⟨oi3,nx3,nn3,rfl,h3,rfl⟩:=hq
  refine stp ?_
  exact Jr rfl ⟨.tup [],⟨mkB s0 s1 _ oi3,mkP _ oi3,nx3,3⟩,Rf,Jq _ _ rfl (.cons _ Sf) Sf Bf Pf,oi3,nx3,3,rfl,h3,rfl⟩
end Go.Proofs.W

namespace Go.Proofs.W
open Go.Vl
set_option maxRecDepth 100000
theorem JfT (b:List (Nat×Nat)):JaR (.int .u32) (bE b)=true:=by simp [JaR,bE,JaW,show JcU .u32 .u32=true from rfl]
theorem Jft (c:Nat):∀b:List (Nat×Nat),Ja0 (.int .u32 (c:Int)) (bE b)=(Jce b c).map fun k:Nat=> int k
 | []=> rfl
 | p::b=> by
   have ih:=Jft c b
   have hb:JcB (.int .u32 (c:Int)) (.int .u32 (p.1:Int))=(p.1 ==c):=by
    simp only [JcB,show JcU .u32 .u32=true from rfl,Bool.true_and]
    by_cases h:p.1=c
    ·rw [h];simp
    ·have h':¬(c:Int)=(p.1:Int):=by omega
     rw [beq_eq_false_iff_ne.2 h,beq_eq_false_iff_ne.2 h']
   show (bif JcB (.int .u32 (c:Int)) (.int .u32 (p.1:Int)) then _ else Ja0 (.int .u32 (c:Int)) (bE b))=_
   rw [ih,hb]
   unfold Jce
   rw [List.find?_cons]
   cases p.1 ==c <;> rfl
theorem Jq1 (c k:Nat):∀b:List (Nat×Nat),Jce b c=none→Jct (.int .u32 (c:Int)) (int k) (bE b)=bE (b++ [(c,k)])
 | [],h=> rfl
 | p::b,h=> by
   have hne:(p.1 ==c)=false∧Jce b c=none:=by
    unfold Jce at h⊢
    rw [List.find?_cons] at h
    cases hb:p.1 ==c with
    | true=> rw [hb] at h;cases h
    | false=> rw [hb] at h;exact ⟨rfl,h⟩
   have ih:=Jq1 c k b hne.2
   have hb:JcB (.int .u32 (c:Int)) (.int .u32 (p.1:Int))=false:=by
    simp only [JcB,show JcU .u32 .u32=true from rfl,Bool.true_and]
    have h':¬(c:Int)=(p.1:Int):=by have:=ne_of_beq_false hne.1;omega
    exact beq_eq_false_iff_ne.2 h'
   show (bif JcB (.int .u32 (c:Int)) (.int .u32 (p.1:Int)) then _ else (_:Value×AV)::Jct _ _ (bE b))=_
   rw [hb,cond_false,ih];rfl
theorem Jq2 {b:List (Nat×Nat)} {c k:Nat} (h:Jce b c=none):Jce (b++ [(c,k)]) c=some k:=by
 unfold Jce at h⊢
 rw [List.find?_append,Option.map_eq_none_iff.1 h]
 simp
theorem JwN {ops:Array Oper} {B:List (Vl.Id×Own)} {o:Oper} {E:Env} {C:Option Prop} {r:AV} (hg:o.guard=none) (hp:Jbq Tryz.prog o.op E=some (C,r)) (hC:Jah C) (hB:HB B E.h.bx):Eff Tryz.prog ops B o E fun r' h'=> r'=r∧h'=E.h:=
 ⟨hg,fun E' hh ht=> AOp.of_yields (Jbn (Jek (E:=E) (E':=E') (by rw [hh];exact HB.refl _) (Jb1 ht) hp) hC) ⟨_,_,⟨rfl,hh⟩,by rw [hh];exact hB,rfl⟩⟩
theorem Jey (s0 s1 nx:Nat) (m:Mk) (oi:Option Nat) (c:Nat) (h0:oi=none→m.l= []) (hb:∀p∈m.b,p.2≠0) (hf:(JA m c).2.fits):ECall Tryz.prog 34 [.bp (0,s0) 0,u32 c] ⟨mkB s0 s1 m oi,mkP m oi,nx,3⟩ (MkQ s0 s1 (JA m c).2 (int (JA m c).1)):=by
 refine ECall.wk (Jn Tryz.func34 rfl rfl ?_)
 unfold JA at *
 cases hl:Jce m.b c with
 | some k=>
   have hk:k≠0:=by
    unfold Jce at hl
    obtain ⟨p,h1,h2⟩:=Option.map_eq_some_iff.1 hl
    rw [← h2];exact hb p (List.mem_of_find?_eq_some h1)
   unfold mkB
   refine JaC ?_
   refine ⟨⟨rfl,JfT _⟩, ?_⟩
   rw [Jft,hl]
   refine stp ?_
   intro c' hc
   obtain rfl:c'=false:=hc.trans (beq_eq_false_iff_ne.2 Om)
   refine JaC ?_
   refine ⟨⟨rfl,JfT _⟩, ?_⟩
   rw [Jft,hl]
   refine stp ?_
   exact Jr rfl ⟨_,_,Rf,HLe.refl _,oi,nx,3,rfl,h0,rfl⟩
 | none=>
   rw [hl] at hf
   unfold mkB
   refine JaC ?_
   refine ⟨⟨rfl,JfT _⟩, ?_⟩
   rw [Jft,hl]
   refine JaC ?_
   have hf:(Jx m).fits:=hf
   have hmark:∀(E:Env) (o:Oper) (ops:Array Oper),o.guard=none→o.op= .call { callee:= .value (.func 33),args:= #[.tmp 17],argTypes:= #[103]}→E.h=⟨mkB s0 s1 m oi,mkP m oi,nx,3⟩→E.ev (.tmp 17)= .bp (0,s0) 0→Eff Tryz.prog ops [] o E (fun r h'=> ∃oi nx',r=int (m.n+1:Nat)∧(oi=none→(Jx m).l= [])∧h'=⟨mkB s0 s1 (Jx m) oi,mkP (Jx m) oi,nx',3⟩):=fun E o ops hg ho hh he=> by
    refine JkD (f:=33) (Q:=MkQ s0 s1 (Jx m) (int (m.n+1:Nat))) hg ho rfl (by rw [hh];show ECall Tryz.prog _ [E.ev (.tmp 17)] _ _;rw [he];exact JdE s0 s1 nx m oi h0 hf) (fun r h' hq=> ?_)
    obtain ⟨oi2,nx',nn',rfl,h1,rfl⟩:=hq
    exact ⟨_,⟨_,_,nx',3⟩,Rf,⟨List.Perm.refl _,List.Perm.refl _,rfl⟩,⟨oi2,nx',rfl,h1,rfl⟩,fun _ _ _ h=> by cases h⟩
   refine Jzm 7 [] (fun i=> match i with | 3=> true | 6=> true | _=> false) (fun _=> false) [0,1,2,4,5] (.br 3 [] (.br 6 [] .nil .nil) (.br 6 [] (.br 3 [] .nil .nil) .nil)) (by kernel_rfl) (by kernel_rfl) (fun _ _ _ h=> by cases h) ?_
   refine JaC ?_
   refine ⟨?_, ?_,trivial⟩
   ·refine ⟨_,JwN rfl rfl ⟨rfl,Nat.le_of_ble_eq_true rfl⟩ (fun _ _ _ h=> by cases h),fun r h' hr=> ?_⟩
    obtain ⟨rfl,rfl⟩:=hr
    refine JaC ?_
    refine ⟨⟨_,hmark _ _ _ rfl rfl rfl rfl,fun r h' hr=> ?_⟩,trivial⟩
    obtain ⟨oi2,nx2,rfl,h2,rfl⟩:=hr
    refine JaC ?_
    refine ⟨⟨rfl,JfT _⟩, ?_⟩
    refine JgB ?_
    show Jgv (Jct (Value.int .u32 (c:Int)) (int (m.n+1:Nat)) (bE m.b)) _
    rw [Jq1 c (m.n+1) m.b hl]
    refine Jcw ?_
    refine JaC ?_
    refine ⟨⟨rfl,JfT _⟩, ?_⟩
    rw [Jft,Jq2 hl]
    refine stp ?_
    exact Jr rfl ⟨int (m.n+1:Nat),⟨mkB s0 s1 ⟨m.l,m.n+1,m.b++ [(c,m.n+1)]⟩ oi2,mkP ⟨m.l,m.n+1,m.b++ [(c,m.n+1)]⟩ oi2,nx2,3⟩,Rf,Jq _ _ rfl Sf Sf Bf Pf,oi2,nx2,3,rfl,h2,rfl⟩
   ·refine ⟨_,hmark _ _ _ rfl rfl rfl rfl,fun r h' hr=> ?_⟩
    obtain ⟨oi2,nx2,rfl,h2,rfl⟩:=hr
    refine JaC ?_
    refine ⟨⟨_,JwN rfl rfl ⟨rfl,Nat.le_of_ble_eq_true rfl⟩ (fun _ _ _ h=> by cases h),fun r h' hr=> ?_⟩,trivial⟩
    obtain ⟨rfl,rfl⟩:=hr
    refine JaC ?_
    refine ⟨⟨rfl,JfT _⟩, ?_⟩
    refine JgB ?_
    show Jgv (Jct (Value.int .u32 (c:Int)) (int (m.n+1:Nat)) (bE m.b)) _
    rw [Jq1 c (m.n+1) m.b hl]
    refine Jcw ?_
    refine JaC ?_
    refine ⟨⟨rfl,JfT _⟩, ?_⟩
    rw [Jft,Jq2 hl]
    refine stp ?_
    exact Jr rfl ⟨int (m.n+1:Nat),⟨mkB s0 s1 ⟨m.l,m.n+1,m.b++ [(c,m.n+1)]⟩ oi2,mkP ⟨m.l,m.n+1,m.b++ [(c,m.n+1)]⟩ oi2,nx2,3⟩,Rf,Jq _ _ rfl Sf Sf Bf Pf,oi2,nx2,3,rfl,h2,rfl⟩
end Go.Proofs.W

namespace Go.Proofs.W
open Go.Vl
set_option maxRecDepth 100000
theorem Jkt (n:Nat) (hn:n < 18446744073709551616):Tells Tryz.prog 261 [u64 n] (.tup [u32 (n % 4294967296:Nat),u32 (n / 4294967296:Nat)]):=by
 have e1:IntKind.u32.wrap (n:Int)=((n % 4294967296:Nat):Int):=by show (n:Int) % 4294967296=_;omega
 have e2:IntKind.u32.wrap ((n:Int).fdiv (2 ^ min (Int.toNat 32) IntKind.u64.bits))=((n / 4294967296:Nat):Int):=by
  show ((n:Int).fdiv 4294967296) % 4294967296=_
  rw [Int.fdiv_eq_ediv_of_nonneg _ Dc]
  omega
 refine Jd Tryz.func261 rfl rfl fun nx=> ?_
 refine stp ?_
 exact Jb (r:= .tup [u32 (IntKind.u32.wrap (n:Int)),u32 (IntKind.u32.wrap ((n:Int).fdiv (2 ^ min (Int.toNat 32) IntKind.u64.bits)))]) rfl (AVle.of_eq (by rw [e1,e2]))
theorem Jq3 (a:Nat) (b:Bool) (ha:a≤5):Tells Tryz.prog 268 [int a,Ji b] (.tup [int ((if b then 20 else 16)+8 * a:Nat),int 0]):=by
 have e8:IntKind.i64.wrap (8 * (a:Int))=8 * (a:Int):=Ju Om Om
 refine Jd Tryz.func268 rfl rfl fun nx=> ?_
 refine stp ?_
 intro c hc
 obtain rfl:c=false:=hc.trans (decide_eq_false Om)
 refine stp ?_
 cases b
 ·refine stp ?_
  refine Jb rfl (AVle.tups (cs:= [_,_]) ⟨Jg ?_,Rf,trivial⟩)
  rw [e8,Ju Om Om,if_neg Bool.false_ne_true];omega
 ·refine stp ?_
  refine Jb rfl (AVle.tups (cs:= [_,_]) ⟨Jg ?_,Rf,trivial⟩)
  rw [e8,Ju (n:=16+8 * (a:Int)) Om Om,Ju Om Om,if_pos rfl];omega
theorem Jop (a:Nat) (ha:a≤5):Tells Tryz.prog 195 [int a,Ji false] (.tup [int (16+8 * a:Nat),int 0]):=by
 refine Jd Tryz.func195 rfl rfl fun nx=> ?_
 refine stp ?_
 refine Ja rfl rfl (Jq3 a false ha) ⟨Rf,Rf,trivial⟩ fun nx1=> ?_
 refine stp ?_
 exact Jb rfl Rf
theorem JuK (a:Nat) (ha:a≤5):Tells Tryz.prog 262 [int a,Ji false] (.tup [int (20+8 * a:Nat),int 0]):=by
 refine Jd Tryz.func262 rfl rfl fun nx=> ?_
 refine stp ?_
 refine Ja rfl rfl (Jq3 a true ha) ⟨Rf,Rf,trivial⟩ fun nx1=> ?_
 refine stp ?_
 exact Jb rfl Rf
set_option maxHeartbeats 2000000 in
theorem JuL (s0 s1 nx:Nat) (m:Mk) (oi:Option Nat) (c:Cnd) (w:Bool) (yes no:Nat) (h0:oi=none→m.l= []) (ho:c.op=1∨c.op=2∨c.op=3∨c.op=6∨c.op=7) (ha:0≤c.arg∧c.arg≤5) (hc:c.ok) (hf:(Jc6 m c w yes no).fits):
 ECall Tryz.prog 194 [.bp (0,s0) 0,J3 c,Ji w,int yes,int no] ⟨mkB s0 s1 m oi,mkP m oi,nx,3⟩ (MkQ s0 s1 (Jc6 m c w yes no) (.tup [])):=by
 obtain ⟨arg,op,mask,value⟩:=c
 obtain ⟨hm,hv⟩:=hc
 obtain ⟨a,rfl⟩:∃a:Nat,arg=a:=⟨arg.toNat,by have:=ha.1;dsimp only at this;omega⟩
 have ha5:a≤5:=by have:=ha.2;dsimp only at this;omega
 unfold Jc6 at hf⊢
 have hH:hlvC ⟨(a:Int),op,mask,value⟩ w yes no=⟨16+8 * a,20+8 * a,value % 4294967296,value / 4294967296,mask % 4294967296,mask / 4294967296,w,yes,no⟩:=by unfold hlvC;simp
 have w1:IntKind.u32.wrap ((16+8 * a:Nat):Int)=((16+8 * a:Nat):Int):=by show _ % 4294967296=_;omega
 have w2:IntKind.u32.wrap ((20+8 * a:Nat):Int)=((20+8 * a:Nat):Int):=by show _ % 4294967296=_;omega
 rw [hH] at hf⊢
 refine ECall.wk (Jn Tryz.func194 rfl rfl ?_)
 refine stp ?_
 refine Ja rfl rfl (Jkt value (by first | exact hv | exact hm)) ⟨Rf,trivial⟩ fun nx1=> ?_
 refine stp ?_
 refine Ja rfl rfl (Jkt mask (by first | exact hm | exact hv)) ⟨Rf,trivial⟩ fun nx2=> ?_
 refine stp ?_
 refine Ja rfl rfl (Jop a ha5) ⟨Rf,Rf,trivial⟩ fun nx3=> ?_
 refine stp ?_
 refine Ja rfl rfl (JuK a ha5) ⟨Rf,Rf,trivial⟩ fun nx4=> ?_
 dsimp only at ho
 rcases ho with rfl | rfl | rfl | rfl | rfl
 ·refine stp ?_
  refine Jf (xs:= [.bp (0,s0) 0,hlA ⟨16+8 * a,20+8 * a,value % 4294967296,value / 4294967296,mask % 4294967296,mask / 4294967296,w,yes,no⟩]) [_,_,_] [] 6 rfl rfl rfl rfl ⟨Rf,AVle.ags (cs:= [_,_,_,_,_,_,_,_,_]) ⟨AVle.of_eq (congrArg u32 w1),AVle.of_eq (congrArg u32 w2),Rf,Rf,Rf,Rf,Rf,Rf,Rf,trivial⟩,trivial⟩ (Jmj s0 s1 (nx4+1) m oi _ h0 hf) Bf Pf rfl fun r h' hq=> ?_
  obtain ⟨oi2,nx5,nn5,rfl,h2,rfl⟩:=hq
  refine stp ?_
  exact Jr rfl ⟨.tup [],⟨mkB s0 s1 _ oi2,mkP _ oi2,nx5,3⟩,Rf,Jq _ _ rfl (.cons _ (.cons _ (.cons _ Sf))) Sf Bf Pf,oi2,nx5,3,rfl,h2,rfl⟩
 ·refine stp ?_
  refine Jf (xs:= [.bp (0,s0) 0,hlA ⟨16+8 * a,20+8 * a,value % 4294967296,value / 4294967296,mask % 4294967296,mask / 4294967296,w,yes,no⟩]) [_,_,_] [] 6 rfl rfl rfl rfl ⟨Rf,AVle.ags (cs:= [_,_,_,_,_,_,_,_,_]) ⟨AVle.of_eq (congrArg u32 w1),AVle.of_eq (congrArg u32 w2),Rf,Rf,Rf,Rf,Rf,Rf,Rf,trivial⟩,trivial⟩ (JqZ s0 s1 (nx4+1) m oi _ h0 hf) Bf Pf rfl fun r h' hq=> ?_
  obtain ⟨oi2,nx5,nn5,rfl,h2,rfl⟩:=hq
  refine stp ?_
  exact Jr rfl ⟨.tup [],⟨mkB s0 s1 _ oi2,mkP _ oi2,nx5,3⟩,Rf,Jq _ _ rfl (.cons _ (.cons _ (.cons _ Sf))) Sf Bf Pf,oi2,nx5,3,rfl,h2,rfl⟩
 ·refine stp ?_
  refine Jf (xs:= [.bp (0,s0) 0,hlA ⟨16+8 * a,20+8 * a,value % 4294967296,value / 4294967296,mask % 4294967296,mask / 4294967296,w,yes,no⟩]) [_,_,_] [] 6 rfl rfl rfl rfl ⟨Rf,AVle.ags (cs:= [_,_,_,_,_,_,_,_,_]) ⟨AVle.of_eq (congrArg u32 w1),AVle.of_eq (congrArg u32 w2),Rf,Rf,Rf,Rf,Rf,Rf,Rf,trivial⟩,trivial⟩ (Jsj s0 s1 (nx4+1) m oi _ h0 hf) Bf Pf rfl fun r h' hq=> ?_
  obtain ⟨oi2,nx5,nn5,rfl,h2,rfl⟩:=hq
  refine stp ?_
  exact Jr rfl ⟨.tup [],⟨mkB s0 s1 _ oi2,mkP _ oi2,nx5,3⟩,Rf,Jq _ _ rfl (.cons _ (.cons _ (.cons _ Sf))) Sf Bf Pf,oi2,nx5,3,rfl,h2,rfl⟩
 ·refine stp ?_
  refine Jf (xs:= [.bp (0,s0) 0,hlA ⟨16+8 * a,20+8 * a,value % 4294967296,value / 4294967296,mask % 4294967296,mask / 4294967296,w,yes,no⟩]) [_,_,_] [] 6 rfl rfl rfl rfl ⟨Rf,AVle.ags (cs:= [_,_,_,_,_,_,_,_,_]) ⟨AVle.of_eq (congrArg u32 w1),AVle.of_eq (congrArg u32 w2),Rf,Rf,Rf,Rf,Rf,Rf,Rf,trivial⟩,trivial⟩ (Jks s0 s1 (nx4+1) m oi _ h0 hf) Bf Pf rfl fun r h' hq=> ?_
  obtain ⟨oi2,nx5,nn5,rfl,h2,rfl⟩:=hq
  refine stp ?_
  exact Jr rfl ⟨.tup [],⟨mkB s0 s1 _ oi2,mkP _ oi2,nx5,3⟩,Rf,Jq _ _ rfl (.cons _ (.cons _ (.cons _ Sf))) Sf Bf Pf,oi2,nx5,3,rfl,h2,rfl⟩
 ·refine stp ?_
  refine Jf (xs:= [.bp (0,s0) 0,hlA ⟨16+8 * a,20+8 * a,value % 4294967296,value / 4294967296,mask % 4294967296,mask / 4294967296,w,yes,no⟩]) [_,_,_] [] 6 rfl rfl rfl rfl ⟨Rf,AVle.ags (cs:= [_,_,_,_,_,_,_,_,_]) ⟨AVle.of_eq (congrArg u32 w1),AVle.of_eq (congrArg u32 w2),Rf,Rf,Rf,Rf,Rf,Rf,Rf,trivial⟩,trivial⟩ (Jq0 s0 s1 (nx4+1) m oi _ h0 hf) Bf Pf rfl fun r h' hq=> ?_
  obtain ⟨oi2,nx5,nn5,rfl,h2,rfl⟩:=hq
  refine stp ?_
  exact Jr rfl ⟨.tup [],⟨mkB s0 s1 _ oi2,mkP _ oi2,nx5,3⟩,Rf,Jq _ _ rfl (.cons _ (.cons _ (.cons _ Sf))) Sf Bf Pf,oi2,nx5,3,rfl,h2,rfl⟩
end Go.Proofs.W

namespace Go.Proofs.W
open Go.Vl
set_option maxRecDepth 100000
def JuM (n:Int):AV:= .v (.int .u32 n)
def JB6 (b:Bool):AV:= .v (.bool b)
def JfZ (l:List Int):AV:=JK 1 JuM 0 l
structure TNd where
 leaf:Bool
 num:Int
 place:Int
 low:Int
 high:Int
def Jk4 (n:TNd):AV:= .ag [JB6 n.leaf,JuM n.num,int n.place,int n.low,int n.high]
def JjA:TNd:=⟨false,0,0,0,0⟩
def JBp (l:List TNd):AV:=JK 5 Jk4 JjA l
def Jq4 (l:List TNd) (k:Nat):AV:=Jk4 (l.getD k JjA)
def JBq:Option Nat→Option Vl.Id
 | none=> none
 | some k=> some (3,k)
def JhY (s5 s6 s7 nx:Nat) (out:List TNd) (oi:Option Nat):Heap:=
 ⟨[((2,s7), .c [.fn (.func 198) [] [.bp (1,s6) 0, .bp (2,s7) 0]]),((1,s6), .c [.fn (.func 197) [] [.bp (0,s5) 0]]),((0,s5), .c [.os 5 out.length (Jq4 out) (JBq oi)])],Jac (JBq oi) (out.length * 5),nx,4⟩
theorem Joq (s5 s6 s7 nx:Nat) (out:List TNd) (oi:Option Nat) (n:TNd) (h:out.length≤100000) (h0:oi=none→out= []):
 ECall Tryz.prog 197 [Jk4 n, .bp (0,s5) 0] (JhY s5 s6 s7 nx out oi) (fun r h'=> r=int out.length∧∃k nx',h'=JhY s5 s6 s7 nx' (out++ [n]) (some k)):=by
 refine Jn Tryz.func197 rfl rfl ?_
 rcases oi with _ | id
 ·obtain rfl:=h0 rfl
  (repeat ((conv=>whnf);first|refine ω0 ?_|refine ω1 ?_|refine ω2 ?_|refine ω3 ?_|refine ω4 rfl ?_|refine ω5 rfl ?_|refine ω6 ?_|refine ω7 ?_|refine ⟨rfl,?_⟩|refine ⟨trivial,?_⟩|refine ⟨⟨rfl,Nat.le_of_ble_eq_true rfl⟩,?_⟩|refine ⟨⟨by kernel_rfl,by kernel_rfl⟩,?_⟩|refine ⟨by decide,?_⟩|refine Jde ?_|refine JcR ?_))
  refine ⟨JM rfl,by show (0+1) * 32≤_;omega,by decide, ?_⟩
  (repeat ((conv=>whnf);first|refine ω0 ?_|refine ω1 ?_|refine ω2 ?_|refine ω3 ?_|refine ω4 rfl ?_|refine ω5 rfl ?_|refine ω6 ?_|refine ω7 ?_|refine ⟨rfl,?_⟩|refine ⟨trivial,?_⟩|refine ⟨⟨rfl,Nat.le_of_ble_eq_true rfl⟩,?_⟩|refine ⟨⟨by kernel_rfl,by kernel_rfl⟩,?_⟩|refine ⟨by decide,?_⟩|refine Jde ?_|refine JcR ?_))
  refine AW.le (Jc (nn:=4) (L:= [(3,int 0)]) (bx:=(JhY s5 s6 s7 nx [n] (some (nx+1))).bx) (pm:= [((3,nx+1),5)]) _ _ rfl rfl (.cons _ (.cons_cons _ (.cons_cons _ (.cons_cons _ .slnil)))) (.cons_cons _ .slnil) ?_ ?_ ?_) ?_
  ·refine ⟨rfl,OwnLe.refl _,rfl,OwnLe.refl _,rfl,⟨AVle.trans (b:= .os 5 1 (Jq4 [n]) _) (AVle.os_fun (Jbh (fun k hk=> absurd hk (Nat.not_lt_zero _)) rfl)) (AVle.os_nm rfl),trivial⟩,trivial⟩
  ·exact ⟨rfl,rfl,trivial⟩
  ·exact ⟨Jg rfl,trivial⟩
  refine stp ?_
  refine Jr rfl ⟨rfl,nx+1,_,rfl⟩
 ·(repeat ((conv=>whnf);first|refine ω0 ?_|refine ω1 ?_|refine ω2 ?_|refine ω3 ?_|refine ω4 rfl ?_|refine ω5 rfl ?_|refine ω6 ?_|refine ω7 ?_|refine ⟨rfl,?_⟩|refine ⟨trivial,?_⟩|refine ⟨⟨rfl,Nat.le_of_ble_eq_true rfl⟩,?_⟩|refine ⟨⟨by kernel_rfl,by kernel_rfl⟩,?_⟩|refine ⟨by decide,?_⟩|refine Jde ?_|refine JcR ?_))
  refine ⟨JM rfl,by show (out.length+1) * 32≤_;omega,by omega, ?_⟩
  (repeat ((conv=>whnf);first|refine ω0 ?_|refine ω1 ?_|refine ω2 ?_|refine ω3 ?_|refine ω4 rfl ?_|refine ω5 rfl ?_|refine ω6 ?_|refine ω7 ?_|refine ⟨rfl,?_⟩|refine ⟨trivial,?_⟩|refine ⟨⟨rfl,Nat.le_of_ble_eq_true rfl⟩,?_⟩|refine ⟨⟨by kernel_rfl,by kernel_rfl⟩,?_⟩|refine ⟨by decide,?_⟩|refine Jde ?_|refine JcR ?_))
  refine AW.le (Jc (nn:=4) (L:= [(3,int out.length)]) (bx:=(JhY s5 s6 s7 nx (out++ [n]) (some (nx+1))).bx) (pm:= [((3,nx+1),(out++ [n]).length * 5)]) _ _ rfl rfl (.cons _ (.cons_cons _ (.cons_cons _ (.cons_cons _ .slnil)))) (.cons_cons _ .slnil) ?_ ?_ ?_) ?_
  ·refine ⟨rfl,OwnLe.refl _,rfl,OwnLe.refl _,rfl,⟨AVle.trans (b:= .os 5 (out.length+1) (Jq4 (out++ [n])) _) (AVle.os_fun (Jbh (fun k hk=> ?_) ?_)) ?_,trivial⟩,trivial⟩
   ·simp [Jq4,List.getD,List.getElem?_append_left hk,hk]
   ·simp [Jq4,List.getD];rfl
   ·simp only [List.length_append,List.length_cons,List.length_nil];exact AVle.os_nm rfl
  ·exact ⟨rfl,by simp;rfl,trivial⟩
  ·exact ⟨Jg ((Ju Om Om).trans Om),trivial⟩
  refine stp ?_
  refine Jr rfl ⟨rfl,nx+1,_,rfl⟩
def tre (l:List Int) (at_ base:Nat):List TNd:=
 if h:l.length≤1 then [⟨true,l.getD 0 0,at_,0,0⟩]
 else
  let half:=l.length / 2
  let L:=tre (l.take half) at_ base
  let H:=tre (l.drop half) (at_+half) (base+L.length)
  L++H++ [⟨false,l.getD half 0,0,base+L.length - 1,base+L.length+H.length - 1⟩]
termination_by l.length
decreasing_by
 ·simp;omega
 ·simp;omega
theorem Jm8 {l:List Int} {a b:Nat} (h:l.length≤1):tre l a b= [⟨true,l.getD 0 0,a,0,0⟩]:=by
 rw [tre,dif_pos h]
theorem Jk5 {l:List Int} {a b:Nat} (h:¬l.length≤1):tre l a b=tre (l.take (l.length / 2)) a b++tre (l.drop (l.length / 2)) (a+l.length / 2) (b+(tre (l.take (l.length / 2)) a b).length)++
 [⟨false,l.getD (l.length / 2) 0,0,b+(tre (l.take (l.length / 2)) a b).length - 1,b+(tre (l.take (l.length / 2)) a b).length+(tre (l.drop (l.length / 2)) (a+l.length / 2) (b+(tre (l.take (l.length / 2)) a b).length)).length - 1⟩]:=by
 rw [tre,dif_neg h]
theorem Jfe:∀(n:Nat) (l:List Int) (a b:Nat),l.length=n→1≤n→(tre l a b).length=2 * n - 1:=by
 intro n
 induction n using Nat.strongRecOn with
 | _ n ih=>
   intro l a b hn h1
   by_cases h:l.length≤1
   ·rw [Jm8 h];simp;omega
   ·rw [Jk5 h]
    have e1:=ih (l.length / 2) Om (l.take (l.length / 2)) a b (by simp;omega) Om
    have e2:=ih (l.length - l.length / 2) Om (l.drop (l.length / 2)) (a+l.length / 2) (b+(tre (l.take (l.length / 2)) a b).length) (by simp) Om
    simp only [List.length_append,List.length_cons,List.length_nil,e1] at e2⊢
    rw [e2]
    omega
theorem JuN:∀(N:Nat) (s5 s6 s7 nx:Nat) (l:List Int) (a:Nat) (out:List TNd) (oi:Option Nat),l.length=N→1≤N→out.length+2 * N≤50000→a+N≤50000→(oi=none→out= [])→
 ECall Tryz.prog 198 [JfZ l,int a, .bp (1,s6) 0, .bp (2,s7) 0] (JhY s5 s6 s7 nx out oi) (fun r h'=> r=int (out.length+2 * N - 2:Nat)∧∃k nx',h'=JhY s5 s6 s7 nx' (out++tre l a out.length) (some k)):=by
 intro N
 induction N using Nat.strongRecOn with
 | _ N ih=>
   intro s5 s6 s7 nx l a out oi hN h1 hb ha h0
   refine Jn Tryz.func198 rfl rfl ?_
   refine stp ?_
   intro c h2;cases c
   ·have h3:¬l.length≤1:=by have:=Jw (p:=(l.length:Int)=1) (by simpa using h2);omega
    have hl1:(l.take (l.length / 2)).length=l.length / 2:=by simp;omega
    have hl2:(l.drop (l.length / 2)).length=l.length - l.length / 2:=by simp
    have ht:=Jfe (l.length / 2) (l.take (l.length / 2)) a out.length hl1 Om
    have hw:IntKind.i64.wrap ((l.length:Int).tdiv 2)=((l.length / 2:Nat):Int):=by rw [Int.tdiv_eq_ediv_of_nonneg Om,Ju Om Om];omega
    refine stp ?_
    (refine JH 6 ?_ ?_ ?_ ?_;(· kernel_rfl);(· kernel_rfl);(· kernel_rfl))
    refine stp ?_
    rw [hw]
    refine ⟨⟨by omega,by omega,rfl⟩, ?_⟩
    refine stp ?_
    refine JbN rfl rfl (ECall.args (bs:= [JfZ (l.take (l.length / 2)),int a, .bp (1,s6) 0, .bp (2,s7) 0]) ⟨?_,Rf,Rf,Rf,trivial⟩ (ih (l.length / 2) Om s5 s6 s7 nx (l.take (l.length / 2)) a out oi hl1 Om Om Om h0)) fun r h' hq=> ?_
    ·refine AVle.os_sl.trans ?_
     show AVle (.sl 1 (l.length / 2) _) (.sl 1 (l.take (l.length / 2)).length _)
     rw [hl1]
     refine AVle.sl_fun fun k hk=> ?_
     simp [List.getD,List.getElem?_take,hk]
    obtain ⟨rfl,k,nx',rfl⟩:=hq
    refine Named.same ?_
    have hw2:IntKind.i64.wrap ((a:Int)+((l.length / 2:Nat):Int))=((a+l.length / 2:Nat):Int):=by rw [Ju Om Om];omega
    refine stp ?_
    (refine JH 7 ?_ ?_ ?_ ?_;(· kernel_rfl);(· kernel_rfl);(· kernel_rfl))
    refine stp ?_
    refine ⟨⟨by omega,by omega⟩, ?_⟩
    refine stp ?_
    refine JbN rfl rfl (ECall.args (bs:= [JfZ (l.drop (l.length / 2)),int ((a+l.length / 2:Nat):Int), .bp (1,s6) 0, .bp (2,s7) 0]) ⟨?_,Jg hw2,Rf,Rf,trivial⟩
     (ih (l.length - l.length / 2) Om s5 s6 s7 nx' (l.drop (l.length / 2)) (a+l.length / 2) (out++tre (l.take (l.length / 2)) a out.length) (some k) hl2 Om (by rw [List.length_append,ht];omega) Om (fun h=> by cases h))) fun r h' hq=> ?_
    ·show AVle (.sl 1 (l.length - l.length / 2) _) (.sl 1 (l.drop (l.length / 2)).length _)
     rw [hl2]
     refine AVle.sl_fun fun k hk=> ?_
     show JuM (l.getD (l.length / 2+k) 0)=JuM ((l.drop (l.length / 2)).getD k 0)
     simp only [List.getD_eq_getElem?_getD,List.getElem?_drop]
    obtain ⟨rfl,k2,nx2,rfl⟩:=hq
    refine Named.same ?_
    refine stp ?_
    (refine JH 8 ?_ ?_ ?_ ?_;(· kernel_rfl);(· kernel_rfl);(· kernel_rfl))
    refine stp ?_
    refine ⟨⟨by omega,by omega⟩, ?_⟩
    refine stp ?_
    have ht2:=Jfe (l.length - l.length / 2) (l.drop (l.length / 2)) (a+l.length / 2) (out++tre (l.take (l.length / 2)) a out.length).length hl2 Om
    refine JbN rfl rfl (ECall.args (bs:= [Jk4 ⟨false,l.getD (l.length / 2) 0,0,(out.length+2 * (l.length / 2) - 2:Nat),((out++tre (l.take (l.length / 2)) a out.length).length+2 * (l.length - l.length / 2) - 2:Nat)⟩, .bp (0,s5) 0]) ⟨Rf,Rf,trivial⟩
     (Joq s5 s6 s7 nx2 ((out++tre (l.take (l.length / 2)) a out.length)++tre (l.drop (l.length / 2)) (a+l.length / 2) (out++tre (l.take (l.length / 2)) a out.length).length) (some k2) _ (by simp only [List.length_append] at ht2⊢;omega) (fun h=> by cases h))) fun r h' hq=> ?_
    obtain ⟨rfl,k3,nx3,rfl⟩:=hq
    refine Named.same ?_
    refine stp ?_
    refine Jr rfl ⟨?_,k3,nx3, ?_⟩
    ·rw [show out.length+2 * N - 2=((out++tre (l.take (l.length / 2)) a out.length)++tre (l.drop (l.length / 2)) (a+l.length / 2) (out++tre (l.take (l.length / 2)) a out.length).length).length by
      rw [List.length_append,ht2,List.length_append,ht];omega]
     rfl
    ·have e:out++tre l a out.length=((out++tre (l.take (l.length / 2)) a out.length)++tre (l.drop (l.length / 2)) (a+l.length / 2) (out++tre (l.take (l.length / 2)) a out.length).length)++
      [⟨false,l.getD (l.length / 2) 0,0,(out.length+2 * (l.length / 2) - 2:Nat),((out++tre (l.take (l.length / 2)) a out.length).length+2 * (l.length - l.length / 2) - 2:Nat)⟩]:=by
      rw [Jk5 h3]
      simp only [List.length_append] at ht2⊢
      rw [ht2,ht]
      simp only [List.append_assoc]
      congr 5
      all_goals omega
     rw [e];rfl
   ·have h3:l.length=1:=by have:=Jv (p:=(l.length:Int)=1) (by simpa using h2);omega
    refine stp ?_
    (refine JH 6 ?_ ?_ ?_ ?_;(· kernel_rfl);(· kernel_rfl);(· kernel_rfl))
    refine stp ?_
    refine ⟨⟨by omega,by omega⟩, ?_⟩
    refine stp ?_
    refine JbN rfl rfl (ECall.args (bs:= [Jk4 ⟨true,l.getD 0 0,a,0,0⟩, .bp (0,s5) 0]) ⟨Rf,Rf,trivial⟩ (Joq s5 s6 s7 nx out oi ⟨true,l.getD 0 0,a,0,0⟩ Om h0)) fun r h' hq=> ?_
    obtain ⟨rfl,k,nx',rfl⟩:=hq
    refine Named.same ?_
    refine stp ?_
    refine Jr rfl ⟨?_,k,nx', ?_⟩
    ·rw [show out.length+2 * N - 2=out.length by omega];rfl
    ·rw [Jm8 Om];rfl
def risesT (l:List Int):Prop:=∀i,1≤i→i < l.length→l.getD (i - 1) 0 < l.getD i 0
instance (l:List Int):Decidable (risesT l):=
 decidable_of_iff (∀i,i < l.length→1≤i→l.getD (i - 1) 0 < l.getD i 0) ⟨fun h i h1 h2=> h i h2 h1,fun h i h1 h2=> h i h2 h1⟩
def JgY (l:List Int):List TNd×Int:=
 if ¬risesT l then ([],15) else if 4096 < l.length then ([],3) else if l.length=0 then ([⟨true,0,-1,0,0⟩],0) else (tre l 0 0,0)
set_option maxHeartbeats 2000000 in
theorem Jm9 (l:List Int) (hl:l.length≤1000000000):Tells Tryz.prog 148 [JfZ l] (.tup [JBp (JgY l).1,int (JgY l).2]):=by
 refine Jd Tryz.func148 rfl rfl fun nx=> ?_
 refine stp ?_
 refine Js (fun i:Nat=> mk 38 [(0,JfZ l),(2, .os 0 0 (fun _=> .any) none),(3,int 0),(4,int i)] ⟨[], [],nx,0⟩) (fun i=> 1≤i∧(i≤l.length∨i=1)∧∀j,1≤j→j < i→l.getD (j - 1) 0 < l.getD j 0) (fun i=> l.length - i) ?_ ?_
 ·exact ⟨1,⟨by omega,by omega,by intro j h1 h2;omega⟩,JaX rfl rfl ⟨Rf,Rf,Rf,Rf,trivial⟩⟩
 ·rintro i ⟨h1,h2,h3⟩
  refine stp ?_
  intro c h4;cases c
  ·have h5:¬(i:Int) < l.length:=Jw h4
   have hr:risesT l:=fun j hj1 hj2=> h3 j hj1 Om
   refine stp ?_
   intro c h6;cases c
   ·have h7:¬(l.length:Int) > 4096:=Jw h6
    refine stp ?_
    intro c h8;cases c
    ·have h9:¬(l.length:Int)=0:=Jw (p:=(l.length:Int)=0) (by simpa using h8)
     refine stp ?_
     refine JbN rfl rfl (ECall.tell (ECall.args (bs:= [JfZ l,int ((0:Nat):Int), .bp (1,nx+1) 0, .bp (2,nx+2) 0]) ⟨Rf,Rf,Rf,Rf,trivial⟩
      (JuN l.length nx (nx+1) (nx+2) (nx+3) l 0 [] none rfl Om (by simp;omega) Om (fun _=> rfl))) ⟨rfl,OwnLe.refl _,rfl,OwnLe.refl _,rfl,⟨AVle.os_nil,trivial⟩,trivial⟩ trivial rfl) fun r h' hq=> ?_
     obtain ⟨rfl,k,nx',rfl⟩:=hq
     refine Named.same ?_
     refine stp ?_
     refine Jb rfl ?_
     rw [JgY,if_neg (by simpa using hr),if_neg Om,if_neg Om]
     exact AVle.tups ⟨AVle.os_sl,Rf,trivial⟩
    ·have h9:(l.length:Int)=0:=Jv (p:=(l.length:Int)=0) (by simpa using h8)
     refine stp ?_
     refine Jb rfl ?_
     rw [JgY,if_neg (by simpa using hr),if_neg Om,if_pos Om]
     exact AVle.tups ⟨AVle.os_sl.trans (AVle.sl_fun (JgA ⟨trivial,rfl⟩)),Rf,trivial⟩
   ·have h7:(l.length:Int) > 4096:=Jv h6
    refine stp ?_
    refine Jb rfl ?_
    rw [JgY,if_neg (by simpa using hr),if_pos Om]
    exact AVle.tups ⟨AVle.os_sl0,Rf,trivial⟩
  ·have h5:(i:Int) < l.length:=Jv h4
   obtain ⟨j,rfl⟩:∃j,i=j+1:=⟨i - 1,by omega⟩
   have hw:IntKind.i64.wrap (((j+1:Nat):Int) - 1)=(j:Int):=by rw [Ju Om Om];omega
   refine stp ?_
   (refine JH 10 ?_ ?_ ?_ ?_;(· kernel_rfl);(· kernel_rfl);(· kernel_rfl))
   refine stp ?_
   refine ⟨⟨by omega,by omega⟩, ?_⟩
   refine stp ?_
   (conv=> whnf)
   rw [hw]
   refine ⟨⟨by omega,by omega⟩, ?_⟩
   refine stp ?_
   intro c h6;cases c
   ·have h7:¬l.getD (j+1) 0≤l.getD j 0:=Jw h6
    refine stp ?_
    refine back (j+2) ⟨by omega,by omega,fun k hk1 hk2=> ?_⟩ Om (JaX rfl rfl ⟨Rf,Rf,Rf,Jg (Jz Om),trivial⟩)
    rcases Nat.lt_or_ge k (j+1) with h | h
    ·exact h3 k hk1 h
    ·obtain rfl:k=j+1:=by omega
     exact Int.not_le.1 h7
   ·have h7:l.getD (j+1) 0≤l.getD j 0:=Jv h6
    refine stp ?_
    refine Jb rfl ?_
    have hr:¬risesT l:=fun hr=> absurd (hr (j+1) Om Om) (Int.not_lt.2 h7)
    rw [JgY,if_pos hr]
    exact AVle.tups ⟨AVle.os_sl0,Rf,trivial⟩
end Go.Proofs.W

namespace Go.Proofs.W
open Go.Vl
set_option maxRecDepth 100000
def Ja8 (l:List Nat):List Int:=l.map fun n:Nat=> (n:Int)
def JiI (l:List Nat):AV:=JK 1 (fun n:Nat=> int n) 0 l
def srB (s0 s3 s4 s5 s6 s7:Nat) (T:List TNd) (marks:List Nat) (other:Nat):List (Vl.Id×Own):=
 [((7,s7), .c [.fn (.func 149) [] [.bp (6,s6) 0, .bp (3,s3) 0, .bp (5,s5) 0, .bp (4,s4) 0, .bp (7,s7) 0]]),((6,s6), .c [JBp T]),((5,s5), .c [int other]),((4,s4), .c [JiI marks]),((3,s3), .c [.bp (0,s0) 0])]
def SrQ (rb:List (Vl.Id×Own)) (s0 s1:Nat) (m:Mk) (h':Heap):Prop:=∃oi nx' nn',(oi=none→m.l= [])∧h'=⟨rb++mkB s0 s1 m oi,mkP m oi,nx',nn'⟩
theorem Jcp (l:List Nat):(Ja8 l).length=l.length:=List.length_map ..
theorem Jfu (l:List Nat) (i:Nat):(Ja8 l).getD i 0=((l.getD i 0:Nat):Int):=by
 unfold Ja8
 rcases Nat.lt_or_ge i l.length with h | h
 ·simp [List.getD,h]
 ·simp [List.getD,h]
theorem JwO (l:List Nat) (k:Nat):Ja8 (l.take k)=(Ja8 l).take k:=List.map_take ..
theorem JwP (l:List Nat) (k:Nat):Ja8 (l.drop k)=(Ja8 l).drop k:=List.map_drop ..
set_option maxHeartbeats 4000000 in
theorem JuO (s0 s1 s3 s4 s5 s6 s7:Nat) (T:List TNd) (marks:List Nat) (other:Nat) (hT:T.length≤50000):∀(N:Nat) (l:List Nat) (a base:Nat) (m:Mk) (oi:Option Nat) (nx:Nat),l.length=N→1≤N→base+2 * N≤T.length+1→a+N≤marks.length→marks.length≤50000→
 (∀k,k < 2 * N - 1→T.getD (base+k) JjA=(tre (Ja8 l) a base).getD k JjA)→(oi=none→m.l= [])→(Jbt marks other l a m).fits→
 ECall Tryz.prog 149 [int (base+2 * N - 2:Nat), .bp (6,s6) 0, .bp (3,s3) 0, .bp (5,s5) 0, .bp (4,s4) 0, .bp (7,s7) 0] ⟨srB s0 s3 s4 s5 s6 s7 T marks other++mkB s0 s1 m oi,mkP m oi,nx,8⟩ (fun r h'=> r= .tup []∧SrQ (srB s0 s3 s4 s5 s6 s7 T marks other) s0 s1 (Jbt marks other l a m) h'):=by
 intro N
 induction N using Nat.strongRecOn with
 | _ N ih=>
   intro l a base m oi nx hN h1 hb ha hm hg h0 hf
   refine ECall.wk (Jn Tryz.func149 rfl rfl ?_)
   obtain ⟨p,hp⟩:∃p,p=base+2 * N - 2:=⟨_,rfl⟩
   have hlast:=hg (2 * N - 2) Om
   rw [show base+(2 * N - 2)=p by omega] at hlast
   rw [← hp]
   unfold srB
   refine stp ?_
   refine ⟨Bd, ?_⟩
   by_cases h2:N≤1
   ·obtain rfl:N=1:=by omega
    rw [Jm8 (by rw [Jcp];omega)] at hlast
    have hlast:T.getD p JjA=⟨true,(l.getD 0 0:Nat),a,0,0⟩:=by rw [hlast,Jfu];rfl
    rw [Jbt,dif_pos Om] at hf⊢
    change Jch _ (AV.rp (Jk4 (T.getD p JjA)).cells) _
    rw [hlast]
    refine stp ?_
    (refine JH 11 ?_ ?_ ?_ ?_;(· kernel_rfl);(· kernel_rfl);(· kernel_rfl))
    refine stp ?_
    refine ⟨Bd, ?_⟩
    refine stp ?_
    refine Jf (xs:= [.bp (0,s0) 0,JaB [⟨0,0x15,l.getD 0 0,marks.getD a 0,other⟩]]) (_::srB s0 s3 s4 s5 s6 s7 T marks other) [] 9 rfl rfl rfl rfl ⟨Rf,JeV (fun k hk=> by match k,hk with | 0,_=> rfl),trivial⟩ (Jak s0 s1 _ m oi _ h0 (by simp) hf) Bf Pf rfl fun r h' hq=> ?_
    obtain ⟨oi2,nx2,nn2,rfl,h2,rfl⟩:=hq
    refine stp ?_
    exact Jr rfl ⟨.tup [],⟨srB s0 s3 s4 s5 s6 s7 T marks other++mkB s0 s1 _ oi2,mkP _ oi2,nx2,9⟩,Rf,Jq _ _ rfl (.cons _ Sf) Sf Bf Pf,rfl,oi2,nx2,9,h2,rfl⟩
   ·have hl1:(l.take (l.length / 2)).length=l.length / 2:=by simp;omega
    have hl2:(l.drop (l.length / 2)).length=l.length - l.length / 2:=by simp
    have ht:=Jfe (l.length / 2) (Ja8 (l.take (l.length / 2))) a base (by rw [Jcp,hl1]) Om
    have ht2:=Jfe (l.length - l.length / 2) (Ja8 (l.drop (l.length / 2))) (a+l.length / 2) (base+(2 * (l.length / 2) - 1)) (by rw [Jcp,hl2]) Om
    have htre:tre (Ja8 l) a base=tre (Ja8 (l.take (l.length / 2))) a base++tre (Ja8 (l.drop (l.length / 2))) (a+l.length / 2) (base+(2 * (l.length / 2) - 1))++ [⟨false,(l.getD (l.length / 2) 0:Nat),0,(base+2 * (l.length / 2) - 2:Nat),(base+(2 * (l.length / 2) - 1)+2 * (l.length - l.length / 2) - 2:Nat)⟩]:=by
     rw [Jk5 (by rw [Jcp];omega),Jcp,← JwO,← JwP,ht,ht2,Jfu]
     congr 3
     all_goals omega
    rw [htre] at hg hlast
    have hlast:T.getD p JjA=⟨false,(l.getD (l.length / 2) 0:Nat),0,(base+2 * (l.length / 2) - 2:Nat),(base+(2 * (l.length / 2) - 1)+2 * (l.length - l.length / 2) - 2:Nat)⟩:=by
     rw [hlast]
     have hle:(tre (Ja8 (l.take (l.length / 2))) a base++tre (Ja8 (l.drop (l.length / 2))) (a+l.length / 2) (base+(2 * (l.length / 2) - 1))).length=2 * N - 2:=by rw [List.length_append,ht,ht2];omega
     rw [← hle]
     simp
    rw [Jbt,dif_neg Om] at hf⊢
    change Jch _ (AV.rp (Jk4 (T.getD p JjA)).cells) _
    rw [hlast]
    refine stp ?_
    have hz1:(Jbt marks other (l.take (l.length / 2)) a (JD (Jx m) [⟨0,0x35,l.getD (l.length / 2) 0,m.n+1,0⟩])).le (JX (Jbt marks other (l.take (l.length / 2)) a (JD (Jx m) [⟨0,0x35,l.getD (l.length / 2) 0,m.n+1,0⟩])) (m.n+1)):=JcC _ _
    have hz2:=hz1.trans (Jgl marks other _ (l.drop (l.length / 2)) (a+l.length / 2) _ (Nat.le_refl _))
    have hz3:(JD (Jx m) [⟨0,0x35,l.getD (l.length / 2) 0,m.n+1,0⟩]).fits:=(((Jgl marks other _ _ _ _ (Nat.le_refl _)).trans hz2).fits hf)
    refine Jf (xs:= [.bp (0,s0) 0]) (_::srB s0 s3 s4 s5 s6 s7 T marks other) [] 9 rfl rfl rfl rfl ⟨Rf,trivial⟩ (JdE s0 s1 _ m oi h0 ((Jap _ _).fits hz3)) Bf Pf rfl fun r h' hq=> ?_
    obtain ⟨o2,nx2,nn2,rfl,h2,rfl⟩:=hq
    refine stp ?_
    refine Jf (xs:= [.bp (0,s0) 0,JaB [⟨0,0x35,l.getD (l.length / 2) 0,m.n+1,0⟩]]) (_::srB s0 s3 s4 s5 s6 s7 T marks other) [] 9 rfl rfl rfl rfl ⟨Rf,JeV (fun k hk=> by match k,hk with | 0,_=> rfl),trivial⟩ (Jak s0 s1 _ _ o2 _ h2 (by simp) hz3) Bf Pf rfl fun r h' hq=> ?_
    obtain ⟨o3,nx3,nn3,rfl,h3,rfl⟩:=hq
    refine stp ?_
    refine Jf (xs:= [int (base+2 * (l.length / 2) - 2:Nat), .bp (6,s6) 0, .bp (3,s3) 0, .bp (5,s5) 0, .bp (4,s4) 0, .bp (7,s7) 0]) [_] [] 9 rfl rfl rfl rfl ⟨Rf,Rf,Rf,Rf,Rf,Rf,trivial⟩ (ih (l.length / 2) Om (l.take (l.length / 2)) a base _ o3 nx3 hl1 Om Om Om hm (fun k hk=> ?_) h3 (hz2.fits hf)) Bf Pf rfl fun r h' hq=> ?_
    ·rw [hg k Om,List.append_assoc]
     simp only [List.getD_eq_getElem?_getD]
     rw [List.getElem?_append_left Om]
    obtain ⟨rfl,o4,nx4,nn4,h4,rfl⟩:=hq
    refine stp ?_
    refine Jf (xs:= [.bp (0,s0) 0,int (m.n+1:Nat)]) (_::srB s0 s3 s4 s5 s6 s7 T marks other) [] 9 rfl rfl rfl rfl ⟨Rf,Rf,trivial⟩ (Jex s0 s1 nx4 _ o4 _ h4 ((Jgl marks other _ (l.drop (l.length / 2)) (a+l.length / 2) _ (Nat.le_refl _)).fits hf)) Bf Pf rfl fun r h' hq=> ?_
    obtain ⟨o5,nx5,nn5,rfl,h5,rfl⟩:=hq
    refine stp ?_
    refine Jf (xs:= [int (base+(2 * (l.length / 2) - 1)+2 * (l.length - l.length / 2) - 2:Nat), .bp (6,s6) 0, .bp (3,s3) 0, .bp (5,s5) 0, .bp (4,s4) 0, .bp (7,s7) 0]) [_] [] 9 rfl rfl rfl rfl ⟨Rf,Rf,Rf,Rf,Rf,Rf,trivial⟩ (ih (l.length - l.length / 2) Om (l.drop (l.length / 2)) (a+l.length / 2) (base+(2 * (l.length / 2) - 1)) _ o5 nx5 hl2 Om Om Om hm (fun k hk=> ?_) h5 hf) Bf Pf rfl fun r h' hq=> ?_
    ·rw [Nat.add_assoc,hg (2 * (l.length / 2) - 1+k) Om,List.append_assoc]
     simp only [List.getD_eq_getElem?_getD]
     rw [List.getElem?_append_right Om,ht,List.getElem?_append_left Om]
     congr 2
     omega
    obtain ⟨rfl,o6,nx6,nn6,h6,rfl⟩:=hq
    refine stp ?_
    exact Jr rfl ⟨.tup [],⟨srB s0 s3 s4 s5 s6 s7 T marks other++mkB s0 s1 _ o6,mkP _ o6,nx6,9⟩,Rf,Jq _ _ rfl (.cons _ Sf) Sf Bf Pf,rfl,o6,nx6,9,h6,rfl⟩
set_option maxHeartbeats 4000000 in
theorem Jsk (s0 s1 s3 s4 s5 s6 s7:Nat) (marks:List Nat) (other:Nat) (m:Mk) (oi:Option Nat) (nx:Nat) (h0:oi=none→m.l= []) (hf:(JD m [JbI other]).fits):
 ECall Tryz.prog 149 [int 0, .bp (6,s6) 0, .bp (3,s3) 0, .bp (5,s5) 0, .bp (4,s4) 0, .bp (7,s7) 0] ⟨srB s0 s3 s4 s5 s6 s7 [⟨true,0,-1,0,0⟩] marks other++mkB s0 s1 m oi,mkP m oi,nx,8⟩ (fun r h'=> r= .tup []∧SrQ (srB s0 s3 s4 s5 s6 s7 [⟨true,0,-1,0,0⟩] marks other) s0 s1 (JD m [JbI other]) h'):=by
 refine ECall.wk (Jn Tryz.func149 rfl rfl ?_)
 unfold srB
 refine stp ?_
 refine Jf (xs:= [.bp (0,s0) 0,JaB [JbI other]]) (_::srB s0 s3 s4 s5 s6 s7 _ marks other) [] 9 rfl rfl rfl rfl ⟨Rf,JeV (fun k hk=> by match k,hk with | 0,_=> rfl),trivial⟩ (Jak s0 s1 _ m oi _ h0 (by simp) hf) Bf Pf rfl fun r h' hq=> ?_
 obtain ⟨oi2,nx2,nn2,rfl,h2,rfl⟩:=hq
 refine stp ?_
 exact Jr rfl ⟨.tup [],⟨srB s0 s3 s4 s5 s6 s7 [⟨true,0,-1,0,0⟩] marks other++mkB s0 s1 _ oi2,mkP _ oi2,nx2,9⟩,Rf,Jq _ _ rfl (.cons _ Sf) Sf Bf Pf,rfl,oi2,nx2,9,h2,rfl⟩
set_option maxHeartbeats 4000000 in
theorem JjB (s0 s1 nx:Nat) (m:Mk) (oi:Option Nat) (l marks:List Nat) (other:Nat) (h0:oi=none→m.l= []) (hr:risesT (Ja8 l)) (hl:l.length≤4096) (hm:marks.length=l.length) (hf:(Jal marks other l m).fits):
 ECall Tryz.prog 82 [.bp (0,s0) 0,JfZ (Ja8 l),JiI marks,int other] ⟨mkB s0 s1 m oi,mkP m oi,nx,3⟩ (MkQ s0 s1 (Jal marks other l m) (.tup [])):=by
 refine ECall.wk (Jn Tryz.func82 rfl rfl ?_)
 refine stp ?_
 refine Ja rfl rfl (Jm9 (Ja8 l) (by rw [Jcp];omega)) ⟨Rf,trivial⟩ fun nx1=> ?_
 unfold Jal JgY at *
 rw [if_neg (by simpa using hr),if_neg (by rw [Jcp];omega)]
 by_cases hl0:l= []
 ·subst hl0
  rw [if_pos rfl] at hf⊢
  rw [if_pos (show (Ja8 []).length=0 from rfl)]
  refine stp ?_
  refine Jf (xs:= [int 0, .bp (6,nx1) 0, .bp (3,nx) 0, .bp (5,nx+2) 0, .bp (4,nx+1) 0, .bp (7,nx1+1) 0]) [] [] 8 rfl rfl rfl rfl ⟨Rf,Rf,Rf,Rf,Rf,Rf,trivial⟩ (Jsk s0 s1 nx (nx+1) (nx+2) nx1 (nx1+1) marks other m oi (nx1+2) h0 hf) Bf Pf rfl fun r h' hq=> ?_
  obtain ⟨rfl,oi2,nx2,nn2,h2,rfl⟩:=hq
  refine stp ?_
  exact Jr rfl ⟨.tup [],⟨mkB s0 s1 _ oi2,mkP _ oi2,nx2,8⟩,Rf,Jq _ _ rfl (.cons _ (.cons _ (.cons _ (.cons _ (.cons _ Sf))))) Sf Bf Pf,oi2,nx2,8,rfl,h2,rfl⟩
 ·have hn:1≤l.length:=by have:=mt List.eq_nil_of_length_eq_zero hl0;omega
  have ht:=Jfe l.length (Ja8 l) 0 0 (Jcp l) hn
  rw [if_neg hl0] at hf⊢
  rw [if_neg (by rw [Jcp];omega)]
  refine stp ?_
  refine Jf (xs:= [int (0+2 * l.length - 2:Nat), .bp (6,nx1) 0, .bp (3,nx) 0, .bp (5,nx+2) 0, .bp (4,nx+1) 0, .bp (7,nx1+1) 0]) [] [] 8 rfl rfl rfl rfl ⟨Jg ?_,Rf,Rf,Rf,Rf,Rf,trivial⟩ (JuO s0 s1 nx (nx+1) (nx+2) nx1 (nx1+1) (tre (Ja8 l) 0 0) marks other Om l.length l 0 0 m oi (nx1+2) rfl hn Om Om Om (fun k hk=> by rw [Nat.zero_add]) h0 hf) Bf Pf rfl fun r h' hq=> ?_
  ·rw [ht,Ju Om Om];omega
  obtain ⟨rfl,oi2,nx2,nn2,h2,rfl⟩:=hq
  refine stp ?_
  exact Jr rfl ⟨.tup [],⟨mkB s0 s1 _ oi2,mkP _ oi2,nx2,8⟩,Rf,Jq _ _ rfl (.cons _ (.cons _ (.cons _ (.cons _ (.cons _ Sf))))) Sf Bf Pf,oi2,nx2,8,rfl,h2,rfl⟩
end Go.Proofs.W

namespace Go.Proofs.W
open Go.Vl
set_option maxRecDepth 100000
theorem JiJ {w:Bool} {next:Nat}:∀(a b:List Cnd) (m:Mk),J1 w next m (a++b)=J1 w next (J1 w next m a) b
 | [],b,m=> rfl
 | c::a,b,m=> JiJ a b _
theorem Jsl {w:Bool} {next:Nat} {m:Mk} {cs:List Cnd} {i:Nat} (h:i < cs.length):J1 w next m (cs.take (i+1))=JX (Jc6 (Jx (J1 w next m (cs.take i))) (cs.getD i cnd0) w ((J1 w next m (cs.take i)).n+1) next) ((J1 w next m (cs.take i)).n+1):=by
 rw [JaG cnd0 h,JiJ];rfl
theorem JoJ {w:Bool} {next:Nat} {m:Mk} {cs:List Cnd} (i:Nat):(J1 w next m (cs.take i)).le (J1 w next m cs):=by
 have h:=JiJ (w:=w) (next:=next) (cs.take i) (cs.drop i) m
 rw [List.take_append_drop] at h
 rw [h]
 exact Jik _ _ _ _
def cOk (c:Cnd):Prop:=(c.op=1∨c.op=2∨c.op=3∨c.op=6∨c.op=7)∧(0≤c.arg∧c.arg≤5)∧c.ok
theorem JuP {w:Bool} {m:Mk} {l:List PRul} {i:Nat} (h:i < l.length):(l.take (i+1)).foldl (JaH w) m=JaH w ((l.take i).foldl (JaH w) m) (l.getD i JI):=by
 rw [JaG JI h,List.foldl_append];rfl
theorem Jq5 {w:Bool} {m:Mk} {l:List PRul} (i:Nat):((l.take i).foldl (JaH w) m).le (l.foldl (JaH w) m):=by
 have h:=List.foldl_append (f:=JaH w) (b:=m) (l:=l.take i) (l':=l.drop i)
 rw [List.take_append_drop] at h
 rw [h]
 exact JhK (JsN w) _ _
theorem JjC {α:Type} {d:α} {l:List α} {i:Nat} (h:i < l.length):l.getD i d∈l:=by simp [List.getD,h]
theorem JAl (m:Mk) (c:Cnd) (w:Bool) (y n:Nat):(Jc6 m c w y n).b=m.b:=by
 unfold Jc6 JmM Jb4 JD
 repeat' split
 all_goals rfl
theorem Jk6 (w:Bool) (n:Nat):∀(cs:List Cnd) (m:Mk),(J1 w n m cs).b=m.b
 | [],m=> rfl
 | c::cs,m=> (Jk6 w n cs _).trans (JAl (Jx m) c w _ _)
theorem Jgo {m:Mk} {c:Nat} (h:∀p∈m.b,p.2≠0):∀p∈(JA m c).2.b,p.2≠0:=by
 unfold JA
 cases Jce m.b c with
 | some k=> exact h
 | none=>
   intro p hp
   rcases List.mem_append.1 hp with hp | hp
   ·exact h p hp
   ·obtain rfl:=List.mem_singleton.1 hp
    exact Nat.succ_ne_zero _
set_option maxHeartbeats 4000000 in
theorem Jsm (s0 s1 nx:Nat) (m:Mk) (oi:Option Nat) (l:List PRul) (w:Bool) (other:Nat) (h0:oi=none→m.l= []) (hb:∀p∈m.b,p.2≠0) (hl:l.length≤1000000) (hc:∀r∈l,r.conds.length≤1000000∧∀c∈r.conds,cOk c) (hf:(JdG w other m l).fits):
 ECall Tryz.prog 142 [.bp (0,s0) 0,J0 l,Ji w,int other] ⟨mkB s0 s1 m oi,mkP m oi,nx,3⟩ (MkQ s0 s1 (JdG w other m l) (.tup [])):=by
 have hfold:(l.foldl (JaH w) m).fits:=(Jap _ _).fits hf
 refine ECall.wk (Jn Tryz.func142 rfl rfl ?_)
 refine stp ?_
 refine Js (fun y:Nat×Option Nat×Nat=> mk 58 [(0, .bp (0,s0) 0),(2,Ji w),(3,int other),(14,J0 l),(15,int l.length),(16,int y.1)] ⟨mkB s0 s1 ((l.take y.1).foldl (JaH w) m) y.2.1,mkP ((l.take y.1).foldl (JaH w) m) y.2.1,y.2.2,3⟩) (fun y=> y.1≤l.length∧(y.2.1=none→((l.take y.1).foldl (JaH w) m).l= [])∧∀p∈((l.take y.1).foldl (JaH w) m).b,p.2≠0) (fun y=> l.length - y.1) ?_ ?_
 ·exact ⟨(0,oi,nx),⟨Nat.zero_le _,h0,hb⟩,Et rfl rfl Bf Pf ⟨Rf,Rf,Rf,Rf,Rf,Rf,trivial⟩⟩
 ·rintro ⟨i,oj,nx2⟩ ⟨k1,k2,k3⟩
  dsimp only at k1 k2 k3
  refine stp ?_
  intro c g;cases c
  ·have g:=Jw g
   dsimp only at g
   obtain rfl:i=l.length:=by omega
   have hR:JD ((l.take l.length).foldl (JaH w) m) [JbI other]=JdG w other m l:=by unfold JdG;rw [List.take_length]
   refine stp ?_
   refine Jf (xs:= [.bp (0,s0) 0,JaB [JbI other]]) [] [] 3 rfl rfl rfl rfl ⟨Rf,JeV (fun k hk=> by match k,hk with | 0,_=> rfl),trivial⟩ (Jak s0 s1 nx2 _ oj _ k2 (by simp) (by rw [hR];exact hf)) Bf Pf rfl fun r h' hq=> ?_
   rw [hR] at hq
   obtain ⟨oi2,nx3,nn3,rfl,h2,rfl⟩:=hq
   refine stp ?_
   exact Jr rfl ⟨.tup [],⟨mkB s0 s1 _ oi2,mkP _ oi2,nx3,3⟩,Rf,HLe.refl _,oi2,nx3,3,rfl,h2,rfl⟩
  ·have g:=Jv g
   dsimp only at g
   have hi:i < l.length:=by omega
   have hm:l.getD i JI∈l:=by simp [List.getD,hi]
   obtain ⟨c1,c2⟩:=hc _ hm
   have hsn:=JuP (w:=w) (m:=m) hi
   have hfr:(JaH w ((l.take i).foldl (JaH w) m) (l.getD i JI)).fits:=by rw [← hsn];exact (Jq5 (i+1)).fits hfold
   generalize hM : (l.take i).foldl (JaH w) m = M at *
   unfold JaH at hfr
   dsimp only at hfr
   refine stp ?_
   refine ⟨Bd, ?_⟩
   refine stp ?_
   have hz:(J1 w (M.n+1) (Jx M) (l.getD i JI).conds).le (JX (JD (JA (J1 w (M.n+1) (Jx M) (l.getD i JI).conds) (l.getD i JI).code).2 [JbI (JA (J1 w (M.n+1) (Jx M) (l.getD i JI).conds) (l.getD i JI).code).1]) (M.n+1)):=((Jfj _ _).trans (Jap _ _)).trans (JcC _ _)
   refine Jf (xs:= [.bp (0,s0) 0]) [((3,nx2), .c [Jbi (l.getD i JI).conds,u32 (l.getD i JI).code])] [] 4 rfl rfl rfl rfl ⟨Rf,trivial⟩ (JdE s0 s1 (nx2+1) M oj k2 ((Jik _ _ _ _).fits (hz.fits hfr))) Bf Pf rfl fun r h' hq=> ?_
   obtain ⟨ok,nx3,nn3,rfl,h2,rfl⟩:=hq
   refine stp ?_
   refine Js (fun y:Nat×Option Nat×Nat=> mk 58 [(0, .bp (0,s0) 0),(2,Ji w),(3,int other),(9, .bp (3,nx2) 0),(10,int (M.n+1:Nat)),(14,J0 l),(15,int l.length),(16,int i),(23,Jbi (l.getD i JI).conds),(24,int (l.getD i JI).conds.length),(25,int y.1)] ⟨((3,nx2), .c [Jbi (l.getD i JI).conds,u32 (l.getD i JI).code])::mkB s0 s1 (J1 w (M.n+1) (Jx M) ((l.getD i JI).conds.take y.1)) y.2.1,mkP (J1 w (M.n+1) (Jx M) ((l.getD i JI).conds.take y.1)) y.2.1,y.2.2,4⟩) (fun y=> y.1≤(l.getD i JI).conds.length∧(y.2.1=none→(J1 w (M.n+1) (Jx M) ((l.getD i JI).conds.take y.1)).l= [])) (fun y=> (l.getD i JI).conds.length - y.1) ?_ ?_
   ·exact ⟨(0,ok,nx3),⟨Nat.zero_le _,h2⟩,Et rfl rfl Bf Pf ⟨Rf,Rf,Rf,Rf,Rf,Rf,Rf,Rf,Rf,Rf,Rf,trivial⟩⟩
   ·rintro ⟨j,o4,nx4⟩ ⟨q1,q2⟩
    dsimp only at q1 q2
    refine stp ?_
    intro c g2;cases c
    ·have g2:=Jw g2
     dsimp only at g2
     have hN:J1 w (M.n+1) (Jx M) ((l.getD i JI).conds.take j)=J1 w (M.n+1) (Jx M) (l.getD i JI).conds:=by rw [List.take_of_length_le Om]
     have hbN:∀p∈(J1 w (M.n+1) (Jx M) ((l.getD i JI).conds.take j)).b,p.2≠0:=by rw [Jk6];exact k3
     rw [← hN] at hfr
     have hru:JaH w M (l.getD i JI)=JX (JD (JA (J1 w (M.n+1) (Jx M) ((l.getD i JI).conds.take j)) (l.getD i JI).code).2 [JbI (JA (J1 w (M.n+1) (Jx M) ((l.getD i JI).conds.take j)) (l.getD i JI).code).1]) (M.n+1):=by rw [hN];rfl
     have hb9:∀p∈(JaH w M (l.getD i JI)).b,p.2≠0:=by rw [hru];exact Jgo (c:=(l.getD i JI).code) hbN
     generalize J1 w (M.n + 1) (Jx M) ((l.getD i JI).conds.take j) = N at *
     refine stp ?_
     refine Jf (xs:= [.bp (0,s0) 0,u32 (l.getD i JI).code]) [((3,nx2), .c [Jbi (l.getD i JI).conds,u32 (l.getD i JI).code])] [] 4 rfl rfl rfl rfl ⟨Rf,Rf,trivial⟩ (Jey s0 s1 nx4 N o4 _ q2 hbN (((Jap _ _).trans (JcC _ _)).fits hfr)) Bf Pf rfl fun r h' hq=> ?_
     obtain ⟨o5,nx5,nn5,rfl,h5,rfl⟩:=hq
     refine stp ?_
     refine Jf (xs:= [.bp (0,s0) 0,JaB [JbI (JA N (l.getD i JI).code).1]]) [_] [] 4 rfl rfl rfl rfl ⟨Rf,JeV (fun k hk=> by match k,hk with | 0,_=> rfl),trivial⟩ (Jak s0 s1 nx5 _ o5 _ h5 (by simp) ((JcC _ _).fits hfr)) Bf Pf rfl fun r h' hq=> ?_
     obtain ⟨o6,nx6,nn6,rfl,h6,rfl⟩:=hq
     refine stp ?_
     refine Jf (xs:= [.bp (0,s0) 0,int (M.n+1:Nat)]) [_] [] 4 rfl rfl rfl rfl ⟨Rf,Rf,trivial⟩ (Jex s0 s1 nx6 _ o6 _ h6 hfr) Bf Pf rfl fun r h' hq=> ?_
     rw [← hru] at hq
     obtain ⟨o7,nx7,nn7,rfl,h7,rfl⟩:=hq
     refine stp ?_
     refine back (i+1,o7,nx7) ⟨by dsimp only;omega, ?_, ?_⟩ Dm ?_
     ·dsimp only;rw [hsn];exact h7
     ·dsimp only;rw [hsn];exact hb9
     ·dsimp only
      rw [hsn]
      exact Jc _ _ rfl rfl (.cons _ Sf) Sf Bf Pf ⟨Rf,Rf,Rf,Rf,Rf,Jg (Jz Om),trivial⟩
    ·have g2:=Jv g2
     dsimp only at g2
     have hj:j < (l.getD i JI).conds.length:=by omega
     have hjm:(l.getD i JI).conds.getD j cnd0∈(l.getD i JI).conds:=JjC hj
     obtain ⟨d1,d2,d3⟩:=c2 _ hjm
     have hsj:=Jsl (w:=w) (next:=M.n+1) (m:=Jx M) hj
     have hfj:(JX (Jc6 (Jx (J1 w (M.n+1) (Jx M) ((l.getD i JI).conds.take j))) ((l.getD i JI).conds.getD j cnd0) w ((J1 w (M.n+1) (Jx M) ((l.getD i JI).conds.take j)).n+1) (M.n+1)) ((J1 w (M.n+1) (Jx M) ((l.getD i JI).conds.take j)).n+1)).fits:=by rw [← hsj];exact (JoJ (j+1)).fits (hz.fits hfr)
     generalize hN : J1 w (M.n + 1) (Jx M) ((l.getD i JI).conds.take j) = N at *
     refine stp ?_
     refine ⟨Bd, ?_⟩
     refine stp ?_
     refine Jf (xs:= [.bp (0,s0) 0]) [((4,nx4), .c [int ((l.getD i JI).conds.getD j cnd0).arg,int ((l.getD i JI).conds.getD j cnd0).op,u64 ((l.getD i JI).conds.getD j cnd0).mask,u64 ((l.getD i JI).conds.getD j cnd0).value]),((3,nx2), .c [Jbi (l.getD i JI).conds,u32 (l.getD i JI).code])] [] 5 rfl rfl rfl rfl ⟨Rf,trivial⟩ (JdE s0 s1 (nx4+1) N o4 q2 (((Jvr _ _ _).trans (JcC _ _)).fits hfj)) Bf Pf rfl fun r h' hq=> ?_
     obtain ⟨o5,nx5,nn5,rfl,h5,rfl⟩:=hq
     refine stp ?_
     refine Jf (xs:= [.bp (0,s0) 0,J3 ((l.getD i JI).conds.getD j cnd0),Ji w,int (N.n+1:Nat),int (M.n+1:Nat)]) [_,_] [] 5 rfl rfl rfl rfl ⟨Rf,Rf,Rf,Rf,Rf,trivial⟩ (JuL s0 s1 nx5 (Jx N) o5 _ w _ _ h5 d1 d2 d3 ((JcC _ _).fits hfj)) Bf Pf rfl fun r h' hq=> ?_
     obtain ⟨o6,nx6,nn6,rfl,h6,rfl⟩:=hq
     refine stp ?_
     refine Jf (xs:= [.bp (0,s0) 0,int (N.n+1:Nat)]) [_,_] [] 5 rfl rfl rfl rfl ⟨Rf,Rf,trivial⟩ (Jex s0 s1 nx6 _ o6 _ h6 hfj) Bf Pf rfl fun r h' hq=> ?_
     rw [← hsj] at hq
     obtain ⟨o7,nx7,nn7,rfl,h7,rfl⟩:=hq
     refine stp ?_
     exact back (j+1,o7,nx7) ⟨by dsimp only;omega,h7⟩ Dm (Jc _ _ rfl rfl (.cons _ Sf) Sf Bf Pf ⟨Rf,Rf,Rf,Rf,Rf,Rf,Rf,Rf,Rf,Rf,Jg (Jz Om),trivial⟩)
end Go.Proofs.W

namespace Go.Proofs.W
open Go.Vl
set_option maxRecDepth 100000
theorem JwQ {ops:Array Oper} {B:List (Vl.Id×Own)} {o:Oper} {E:Env} {fo:Operand} {args:Array Operand} {tys:Array TypeId} {f:FuncId} {first caps xs:List AV} {h1:Heap} {Q:AV→Heap→Prop} {bx1:List (Vl.Id×Own)} {pm1:List (Vl.Id×Nat)}
 (rb:List (Vl.Id×Own)) (rp:List (Vl.Id×Nat)) (nn:Nat) (hg:o.guard=none) (ho:o.op= .call { callee:= .value fo,args:=args,argTypes:=tys}) (hf:E.ev fo= .fn (.func f) first caps) (hbx:E.h.bx=rb++bx1) (hpm:E.h.pm=rp++pm1)
 (hl:LeL (first++args.toList.map E.ev++caps) xs) (hc:ECall Tryz.prog f xs h1 Q) (hbl:BxLe bx1 h1.bx) (hpe:PmEq pm1 h1.pm) (hn:h1.nx=E.h.nx) (hB:∀r h',Q r h'→HB B (rb++h'.bx)):
 Eff Tryz.prog ops B o E fun r h'=> ∃h2,Q r h2∧h'=⟨rb++h2.bx,rp++h2.pm,h2.nx,nn⟩:=by
 have h2:ECall Tryz.prog f xs ⟨bx1,pm1,h1.nx,h1.nn⟩ Q:=hc.tell hbl hpe rfl
 have h3:=(ECall.frame (h:=E.h) h2 rb rp (by rw [hbx];exact List.perm_append_comm) (by rw [hpm];exact List.perm_append_comm) hn).args hl
 refine JkD hg ho hf h3 fun r h' hq=> ?_
 obtain ⟨h1',q1,rfl⟩:=hq
 exact ⟨r,⟨rb++h1'.bx,rp++h1'.pm,h1'.nx,nn⟩,Rf,⟨List.perm_append_comm.map _,List.perm_append_comm.map _,rfl⟩,⟨h1',q1,rfl⟩,hB r h1' q1⟩
theorem Jor {E:Env} {n:Nat} {bx:List (Vl.Id×Own)} {pm:List (Vl.Id×Nat)} {nx nn:Nat} {L:List (Nat×AV)} (bx'' bx':List (Vl.Id×Own)) (pm'' pm':List (Vl.Id×Nat)) (hn:E.n=n) (hx:E.h.nx=nx) (h0:bx''.Perm E.h.bx) (g0:pm''.Perm E.h.pm) (hb:bx'.Sublist bx'') (hp:pm'.Sublist pm'')
 (eb:BxLe bx' bx) (ep:PmEq pm' pm) (hL:LeT E.t L):ELe E (mk n L ⟨bx,pm,nx,nn⟩ E.df):=
 (Jdx (E:=E) (h':=⟨bx'',pm'',E.h.nx,E.h.nn⟩) ⟨h0.map _,g0.map _,rfl⟩).trans (Jc (E:= { E with h:=⟨bx'',pm'',E.h.nx,E.h.nn⟩}) bx' pm' hn hx hb hp eb ep hL)
theorem Jku {o:Oper} {E:Env} {K:Env→Prop} {Kp:AV→Env→Prop} {s x:Operand} {t e:TypeId} {sz n szx c:Nat} {f f':Nat→AV} {oi:Option Vl.Id} {p:Vl.Id×Nat} {pm:List (Vl.Id×Nat)}
 (ho:o.op= .call { callee:= .builtin .append,args:= #[s,x],argTypes:= #[t,t]}) (hs:E.ev s= .os sz n f oi) (hx:E.ev x= .sl szx 1 f'∨∃oj,E.ev x= .os szx 1 f' oj)
 (ht:Tryz.prog.underlying t=some (.slice e)) (hgr:Jbv Tryz.prog e=true) (hc:Tryz.prog.cellsOf e=c) (hsz:(n=0∧oi=none)∨sz=c) (hszx:szx=c) (hpm:E.h.pm=p::(Jac oi (n * c)++pm)) (hne:∀i,oi=some i→Nat.beq p.1.1 i.1=false) (hone:Jcv 1 f')
 (hroom:(n+1) * Tryz.prog.bytesOf e≤140737488355328) (hlen:n+1≤9223372036854775807)
 (hk:K (({ E with h:=⟨E.h.bx,((E.h.nn,E.h.nx),(n+1) * c)::p::pm,E.h.nx+1,E.h.nn+1⟩}:Env).set o.dst (.os c (n+1) (Jcu n f f') (some (E.h.nn,E.h.nx))))):AOp Tryz.prog o E K Kp:=by
 subst hc
 have hp1:∀i,oi=some i→Ja3 i.1 E.h.pm=some (i.2,n * Tryz.prog.cellsOf e):=fun i hi=> by
  subst hi
  have:=hne i rfl
  rw [hpm]
  show Ja3 i.1 (p::(i,_)::pm)=_
  simp [Ja3,this]
 have hd:JeM oi E.h.pm=p::pm:=by
  rw [hpm]
  cases oi with
  | none=> rfl
  | some i=>
    have:=hne i rfl
    show Jbz i.1 (p::(i,_)::pm)=_
    simp [Jbz,this]
 refine AOp.kp (Jbs ho hs hx ht hgr hsz (.inr hszx) hp1 hone (fun _=> hroom) (fun _=> hlen) (fun h=> by cases h) fun _=> ?_)
 unfold Heap.grow
 rw [hd]
 exact hk
theorem Jsn {ops:Array Oper} {B:List (Vl.Id×Own)} {o:Oper} {E:Env} {s x:Operand} {t e:TypeId} {sz n szx c:Nat} {f f':Nat→AV} {oi:Option Vl.Id} {p:Vl.Id×Nat} {pm:List (Vl.Id×Nat)} (hB:HB B E.h.bx) (hg:o.guard=none)
 (ho:o.op= .call { callee:= .builtin .append,args:= #[s,x],argTypes:= #[t,t]}) (hs:E.ev s= .os sz n f oi) (hx:E.ev x= .sl szx 1 f'∨∃oj,E.ev x= .os szx 1 f' oj)
 (ht:Tryz.prog.underlying t=some (.slice e)) (hgr:Jbv Tryz.prog e=true) (hc:Tryz.prog.cellsOf e=c) (hsz:(n=0∧oi=none)∨sz=c) (hszx:szx=c) (hpm:E.h.pm=p::(Jac oi (n * c)++pm)) (hne:∀i,oi=some i→Nat.beq p.1.1 i.1=false) (hone:Jcv 1 f')
 (hroom:(n+1) * Tryz.prog.bytesOf e≤140737488355328) (hlen:n+1≤9223372036854775807):
 Eff Tryz.prog ops B o E fun r h'=> r= .os c (n+1) (Jcu n f f') (some (E.h.nn,E.h.nx))∧h'=⟨E.h.bx,((E.h.nn,E.h.nx),(n+1) * c)::p::pm,E.h.nx+1,E.h.nn+1⟩:=by
 refine ⟨hg,fun E' hh htt=> ?_⟩
 have hev:=Jb1 htt
 have es:E'.ev s=E.ev s:=hev s (by rw [ho];simp [Op.operands,Call.operands])
 have ex:E'.ev x=E.ev x:=hev x (by rw [ho];simp [Op.operands,Call.operands])
 refine Jku ho (es.trans hs) (by rw [ex];exact hx) ht hgr hc hsz hszx (by rw [hh];exact hpm) hne hone hroom hlen ?_
 exact ⟨_,_,⟨by rw [hh],by rw [hh]⟩,by rw [hh];exact hB,rfl⟩
def Jk7 (l:List Nat):Nat→AV:=fun k=> u32 (l.getD k 0:Nat)
def Jk8 (l:List Nat):Nat→AV:=fun k=> int (l.getD k 0:Nat)
theorem Jtp {n:Nat} {l:List Nat} {o:Option Vl.Id} (h:n=l.length):AVle (.os 1 n (Jk7 l) o) (JfZ (Ja8 l)):=by
 subst h
 unfold JfZ JK
 rw [Jcp]
 exact AVle.os_sl.trans (AVle.sl_fun fun k _=> by rw [Jfu];rfl)
theorem Jtq {n:Nat} {l:List Nat} {o:Option Vl.Id} (h:n=l.length):AVle (.os 1 n (Jk8 l) o) (JiI l):=by
 subst h;exact AVle.os_sl
theorem Jq6 {l:List Nat} {n x:Nat} {f':Nat→AV} {i j:Vl.Id} (hn:n=l.length) (hf:f' 0=u32 x) (h:i.2=j.2):AVle (.os 1 (n+1) (Jcu n (Jk7 l) f') (some i)) (.os 1 (n+1) (Jk7 (l++ [x])) (some j)):=by
 subst hn
 have:=Jfq (e:=fun n:Nat=> u32 n) (d:=0) (sz:=1) (l:=l) (x:=x) (f':=f') hf h
 rwa [List.length_append] at this
theorem Jq7 {l:List Nat} {n x:Nat} {f':Nat→AV} {i j:Vl.Id} (hn:n=l.length) (hf:f' 0=int x) (h:i.2=j.2):AVle (.os 1 (n+1) (Jcu n (Jk8 l) f') (some i)) (.os 1 (n+1) (Jk8 (l++ [x])) (some j)):=by
 subst hn
 have:=Jfq (e:=fun n:Nat=> int n) (d:=0) (sz:=1) (l:=l) (x:=x) (f':=f') hf h
 rwa [List.length_append] at this
theorem JiK:∀(a b:List PSub) (m:Mk),J7 m (a++b)=((J7 m a).1++(J7 (J7 m a).2 b).1,(J7 (J7 m a).2 b).2)
 | [],b,m=> rfl
 | s::a,b,m=> by
   show ((JA m s.code).1::(J7 (JA m s.code).2 (a++b)).1,(J7 (JA m s.code).2 (a++b)).2)=_
   rw [JiK a b];rfl
theorem Jso {m:Mk} {l:List PSub} {i:Nat} (h:i < l.length):J7 m (l.take (i+1))=((J7 m (l.take i)).1++ [(JA (J7 m (l.take i)).2 (l.getD i sub0).code).1],(JA (J7 m (l.take i)).2 (l.getD i sub0).code).2):=by
 rw [JaG sub0 h,JiK];rfl
theorem Jna {m:Mk} {l:List PSub} (i:Nat):(J7 m (l.take i)).2.le (J7 m l).2:=by
 have h:=JiK (l.take i) (l.drop i) m
 rw [List.take_append_drop] at h
 rw [h]
 exact Jg8 _ _
theorem JuQ:Tryz.prog.cellsOf 28=1:=by kernel_rfl
theorem JBr:Tryz.prog.bytesOf 28=4:=by kernel_rfl
theorem JuR:Tryz.prog.cellsOf 3=1:=by kernel_rfl
theorem JBs:Tryz.prog.bytesOf 3=8:=by kernel_rfl
set_option maxHeartbeats 4000000 in
theorem Jmk (s0 s1 nx:Nat) (m:Mk) (oi:Option Nat) (l:List PSub) (other:Nat) (h0:oi=none→m.l= []) (hb:∀p∈m.b,p.2≠0) (hr:risesT (Ja8 (l.map (·.num)))) (hl:l.length≤4096) (hf:(JeF other m l).fits):
 ECall Tryz.prog 144 [.bp (0,s0) 0,JK 2 JgS sub0 l,int other] ⟨mkB s0 s1 m oi,mkP m oi,nx,3⟩ (MkQ s0 s1 (JeF other m l) (.tup [])):=by
 have hfs:(J7 (JD m [⟨0,0x20,16,0,0⟩]) l).2.fits:=(Jg7 _ _ _ _).fits hf
 refine ECall.wk (Jn Tryz.func144 rfl rfl ?_)
 refine stp ?_
 refine Ja rfl rfl (Jop 0 Dc) ⟨Rf,Rf,trivial⟩ fun nx1=> ?_
 refine stp ?_
 refine Jf (xs:= [.bp (0,s0) 0,JaB [⟨0,0x20,16,0,0⟩]]) [] [] 3 rfl rfl rfl rfl ⟨Rf,JeV (fun k hk=> by match k,hk with | 0,_=> rfl),trivial⟩ (Jak s0 s1 nx1 m oi _ h0 (by simp) ((Jg8 _ _).fits hfs)) Bf Pf rfl fun r h' hq=> ?_
 obtain ⟨oi2,nx2,nn2,rfl,h2,rfl⟩:=hq
 unfold JeF at hf⊢
 dsimp only at hf⊢
 have hb1:∀p∈(JD m [⟨0,0x20,16,0,0⟩]).b,p.2≠0:=hb
 generalize JD m [(⟨0, 0x20, 16, 0, 0⟩ : Itm)] = M1 at *
 refine stp ?_
 refine Js (fun y:Nat×Option Nat×Option Nat×Option Nat×Nat=> mk 46 [(0, .bp (0,s0) 0),(2,int other),(8, .os 1 y.1 (Jk7 ((l.take y.1).map (·.num))) (nmN 3 y.2.1)),(9, .os 1 y.1 (Jk8 (J7 M1 (l.take y.1)).1) (nmN 4 y.2.2.1)),(22,JK 2 JgS sub0 l),(23,int l.length),(24,int y.1)] ⟨mkB s0 s1 (J7 M1 (l.take y.1)).2 y.2.2.2.1,Jac (nmN 3 y.2.1) (y.1 * 1)++(Jac (nmN 4 y.2.2.1) (y.1 * 1)++mkP (J7 M1 (l.take y.1)).2 y.2.2.2.1),y.2.2.2.2,5⟩) (fun y=> y.1≤l.length∧(y.2.2.2.1=none→(J7 M1 (l.take y.1)).2.l= [])∧∀p∈(J7 M1 (l.take y.1)).2.b,p.2≠0) (fun y=> l.length - y.1) ?_ ?_
 ·exact ⟨(0,none,none,oi2,nx2),⟨Nat.zero_le _,h2,hb1⟩,Et rfl rfl Bf Pf ⟨Rf,Rf,AVle.os_nil,AVle.os_nil,Rf,Rf,Rf,trivial⟩⟩
 ·rintro ⟨i,oa,ob,o4,nx3⟩ ⟨k1,k2,k3⟩
  dsimp only at k1 k2 k3
  refine stp ?_
  intro c g;cases c
  ·have g:=Jw g
   dsimp only at g
   obtain rfl:i=l.length:=by omega
   rw [List.take_length] at *
   refine stp ?_
   refine Jf (xs:= [.bp (0,s0) 0,JfZ (Ja8 (l.map (·.num))),JiI (J7 M1 l).1,int other]) [] (Jac (nmN 3 oa) (l.length * 1)++Jac (nmN 4 ob) (l.length * 1)) 5 rfl rfl rfl (List.append_assoc _ _ _).symm ⟨Rf,Jtp (by rw [List.length_map]),Jtq (Je9 _ _).symm,Rf,trivial⟩ (JjB s0 s1 nx3 _ o4 _ _ _ k2 hr (by rw [List.length_map];exact hl) (by rw [Je9,List.length_map]) hf) Bf Pf rfl fun r h' hq=> ?_
   obtain ⟨o5,nx4,nn4,rfl,h5,rfl⟩:=hq
   refine stp ?_
   exact Jr rfl ⟨.tup [],⟨mkB s0 s1 _ o5,mkP _ o5,nx4,5⟩,Rf,Jq _ _ rfl Sf (List.sublist_append_right _ _) Bf Pf,o5,nx4,5,rfl,h5,rfl⟩
  ·have g:=Jv g
   dsimp only at g
   have hi:i < l.length:=by omega
   have hsn:=Jso (m:=M1) hi
   have hfg:(JA (J7 M1 (l.take i)).2 (l.getD i sub0).code).2.fits:=by
    have:=(Jna (i+1)).fits hfs
    rwa [hsn] at this
   have hlen:=Je9 (l.take i) M1
   rw [List.length_take,Nat.min_eq_left k1] at hlen
   have hnt:(l.take (i+1)).map (·.num)=(l.take i).map (·.num)++ [(l.getD i sub0).num]:=by rw [JaG sub0 hi,List.map_append];rfl
   have hnl:i=((l.take i).map (·.num)).length:=by rw [List.length_map,List.length_take];omega
   generalize hG : J7 M1 (l.take i) = G at *
   generalize hN : (l.take i).map (·.num) = N at *
   refine stp ?_
   refine ⟨Bd, ?_⟩
   refine stp ?_
   refine Ja4 12 [((5,nx3), .c [u32 (l.getD i sub0).num,u32 (l.getD i sub0).code])] (fun i=> match i with | 4=> true | 9=> true | 11=> true | _=> false) (fun _=> false) [0,1,2,3,5,6,7,8,4,9,10,11] (by kernel_rfl) (by kernel_rfl) (HB.one rfl) ?_
   refine stp ?_
   refine ⟨_,Jbo (e:=28) (c:=1) (n:=i) (oi:=nmN 3 oa) (sz:=1) (f:=Jk7 N) (HB.one rfl) rfl rfl rfl (.inr ⟨_,rfl⟩) (by kernel_rfl) (by kernel_rfl) JuQ (.inr rfl) JuQ rfl (JM rfl) (by rw [JBr];omega) Om,fun r h' hr=> ?_⟩
   obtain ⟨rfl,rfl⟩:=hr
   refine stp ?_
   refine ⟨_,JwQ (xs:= [.bp (0,s0) 0,u32 (l.getD i sub0).code]) [_] (_::Jac (nmN 4 ob) (i * 1)) 7 rfl rfl rfl rfl rfl ⟨Rf,Rf,trivial⟩ (Jey s0 s1 (nx3+1+1) G.2 o4 _ k2 k3 hfg) Bf Pf rfl (fun _ _ _=> HB.one rfl),fun r h' hr=> ?_⟩
   obtain ⟨h2',⟨o5,nx5,nn5,rfl,h5,rfl⟩,rfl⟩:=hr
   refine stp ?_
   refine ⟨_,Jsn (e:=3) (c:=1) (n:=i) (oi:=nmN 4 ob) (sz:=1) (f:=Jk8 G.1) (HB.one rfl) rfl rfl rfl (.inr ⟨_,rfl⟩) (by kernel_rfl) (by kernel_rfl) JuR (.inr rfl) JuR rfl (fun _ h=> by cases ob with | none=> cases h | some=> cases h;rfl) (JM rfl) (by rw [JBs];omega) Om,fun r h' hr=> ?_⟩
   obtain ⟨rfl,rfl⟩:=hr
   refine stp ?_
   refine back (i+1,some (nx3+1),some nx5,o5,nx5+1) ⟨by dsimp only;omega, ?_, ?_⟩ Dm ?_
   ·dsimp only;rw [hsn];exact h5
   ·dsimp only;rw [hsn];exact Jgo k3
   ·dsimp only
    rw [hsn,hnt]
    exact Jor (_::mkB s0 s1 _ o5) (mkB s0 s1 _ o5) (_::_::mkP _ o5) (_::_::mkP _ o5) rfl rfl (List.Perm.refl _) (List.Perm.swap _ _ _) (.cons _ Sf) Sf Bf ⟨rfl,rfl,rfl,rfl,Pf⟩ ⟨Rf,Rf,Jq6 hnl rfl rfl,Jq7 hlen.symm rfl rfl,Rf,Rf,Jg (Jz Om),trivial⟩
end Go.Proofs.W

namespace Go.Proofs
open Go.Shelf Go.RowKit Go.Lib Go.Sort
shelf_lay_g SlLaysF0.n6 Slsf 6 at Tryz 146 as Tryz.sortPart
namespace W
set_option maxHeartbeats 1000000 in
theorem JAm (k1 k2:Nat) (h1:k1 < 4294967296) (h2:k2 < 4294967296) (v1 v2:Value) (W:World):Calls Tryz.prog 147 #[.agg #[.int .u32 k1,v1], .agg #[.int .u32 k2,v2]] W fun e w'=> e= .returned (.int .i64 ((k1:Int) - k2))∧∃q os',w'=grow (W.drewN q) os':=by
 have e1:IntKind.i64.wrap (k1:Int)=k1:=Go.Vl.Ju Om Om
 have e2:IntKind.i64.wrap (k2:Int)=k2:=Go.Vl.Ju Om Om
 have e3:IntKind.i64.wrap ((k1:Int) - k2)=(k1:Int) - k2:=Go.Vl.Ju Om Om
 go_enter Tryz.func147,Tryz.ntmps147
 go_wp2
 go_ret
 exact ⟨by simp [e1,e2,e3],0,_,by rw [alloc_eq_grow,alloc_eq_grow,grow_grow];rfl⟩
open Go.Vl
theorem JoK {D:List (Nat×AV)} {tl:List AV} {nm s cap nx nn:Nat} (hone:∀x∈D,JbZ x.2=true) (hk:∀x∈D,x.1 < 4294967296) (hl:D.length < 4611686018427387904):
 ECall Tryz.prog 146 [.hs (nm,s) 0 D.length cap, .fn (.func 147) [] []] ⟨[((nm,s), .c (JB D++tl))], [],nx,nn⟩
  fun r h'=> r= .tup []∧∃cs',(∃D',D'.Perm D∧D'.Pairwise (fun a b=> a.1≤b.1)∧cs'=JB D')∧h'=⟨[((nm,s), .c (cs'++tl))], [],nx,nn⟩:=by
 have eg:∀args w,(callFunc 147 args).run Tryz.prog w= .ok (.enter 147 args) w:=enters_of Tryz.func147 (by kernel_rfl) rfl
 refine JrV ⟨_,Tryz.func146,rfl,rfl⟩ hone hk fun d w blk hd hH hb=> ?_
 exact AnyQ.slices_SortFunc Tryz.sortPart 2 Tryz.isAgg191 Tryz.sizeOf191 KX.encM (fun _=> rfl) KX.oneM KX.cmpM KX.swoM 147 #[] blk 0 cap d w eg (fun _ _ _ _ x y=> JAm _ _ (Nat.mod_lt _ Dc) (Nat.mod_lt _ Dc) _ _ _) hH hb Om
set_option maxRecDepth 100000
theorem JBt (n:Nat):Tells Tryz.prog 269 [Jez 2,int 0,int 0,fn0 n] (.tup []):=by
 refine Jd Tryz.func269 rfl rfl fun nx=> ?_
 refine stp ?_
 refine Jet ?_
 refine stp ?_
 exact Jb rfl Rf
theorem JBu (n:Nat):Tells Tryz.prog 196 [Jez 2,int 0,int 0,int 0,fn0 n] (.tup []):=by
 refine Jd Tryz.func196 rfl rfl fun nx=> ?_
 refine stp ?_
 refine Jet ?_
 refine stp ?_
 refine Ja rfl rfl (JBt n) ⟨Rf,Rf,Rf,Rf,trivial⟩ fun nx=> ?_
 refine stp ?_
 exact Jb rfl Rf
theorem Jsp (n:Nat):Tells Tryz.prog 146 [Jez 2,fn0 n] (.tup []):=by
 refine Jd Tryz.func146 rfl rfl fun nx=> ?_
 refine stp ?_
 refine Ja rfl rfl JoX ⟨Rf,trivial⟩ fun nx=> ?_
 refine stp ?_
 refine Ja rfl rfl (JBu n) ⟨Rf,Rf,Rf,Rf,Rf,trivial⟩ fun nx=> ?_
 refine stp ?_
 exact Jb rfl Rf
def JaZ (P:Plan):List AV:= [u32 (P.dflt:Nat),Ji P.x32,JK 2 JaN ent0 (P.ents 0),JK 2 JaN ent0 (P.ents 1),JK 2 JaN ent0 (P.ents 2),JK 2 JaN ent0 (P.ents 3),JK 2 JaN ent0 (P.ents 4),JK 2 JgS sub0 (P.subs 0),JK 2 JgS sub0 (P.subs 1)]
def Jq8 (s0:Nat) (P:Plan) (a other:Nat):Prt→AV
 | .ent e=> .fn (.func 141) [] [.rp [.bp (0,s0) 0], .rp [u32 e.num,J0 e.rules], .rp [int a], .rp [int other]]
 | .sub _ 0=> .fn (.func 143) [] [.rp [.bp (0,s0) 0], .rp (JaZ P), .rp [int other]]
 | .sub _ (_+1)=> .fn (.func 145) [] [.rp [.bp (0,s0) 0], .rp (JaZ P), .rp [int other]]
def JbG (s0:Nat) (P:Plan) (a other:Nat) (x:Prt):Nat×AV:=(x.num,Jq8 s0 P a other x)
def JiL (s0:Nat) (P:Plan) (a other:Nat) (x:Prt):AV:= .ag [u32 x.num,Jq8 s0 P a other x]
def prt0:Prt:= .sub 0 0
instance:Inhabited Prt:=⟨prt0⟩
theorem JAn (s0:Nat) (P:Plan) (a other:Nat):∀x:Prt,JbZ (Jq8 s0 P a other x)=true
 | .ent _=> rfl
 | .sub _ 0=> rfl
 | .sub _ (_+1)=> rfl
theorem Jq9 {s0:Nat} {P:Plan} {a other:Nat}:∀l:List Prt,JB (l.map (JbG s0 P a other))=l.flatMap fun x=> [u32 x.num,Jq8 s0 P a other x]
 | []=> rfl
 | x::l=> by
   show _::_::JB (l.map _)=_::_::_
   rw [Jq9 l];rfl
theorem Jsq (s0 s1 nx:Nat) (m:Mk) (oi:Option Nat) (e:PEnt) (a other:Nat) (ha:a≤4) (h0:oi=none→m.l= []) (hb:∀p∈m.b,p.2≠0) (hl:e.rules.length≤1000000) (hc:∀r∈e.rules,r.conds.length≤1000000∧∀c∈r.conds,cOk c) (hf:(JdG (a !=2) other m e.rules).fits):
 ECall Tryz.prog 141 [.rp [.bp (0,s0) 0], .rp [u32 e.num,J0 e.rules], .rp [int a], .rp [int other]] ⟨mkB s0 s1 m oi,mkP m oi,nx,3⟩ (MkQ s0 s1 (JdG (a !=2) other m e.rules) (.tup [])):=by
 refine ECall.wk (Jn Tryz.func141 rfl rfl ?_)
 refine stp ?_
 intro c hw
 have hw2:c=(a !=2):=hw.trans (by
  by_cases h:a=2
  ·subst h;rfl
  ·rw [bne_iff_ne.2 h];exact bne_iff_ne.2 Om)
 clear hw
 refine stp ?_
 refine Jf (xs:= [.bp (0,s0) 0,J0 e.rules,Ji (a !=2),int other]) [] [] 3 rfl rfl rfl rfl ⟨Rf,Rf,JP hw2,Rf,trivial⟩ (Jsm s0 s1 nx m oi e.rules _ other h0 hb hl hc hf) Bf Pf rfl fun r h' hq=> ?_
 obtain ⟨oi2,nx2,nn2,rfl,h2,rfl⟩:=hq
 refine stp ?_
 exact Jr rfl ⟨.tup [],⟨mkB s0 s1 _ oi2,mkP _ oi2,nx2,3⟩,Rf,HLe.refl _,oi2,nx2,3,rfl,h2,rfl⟩
theorem Jra (s0 s1 nx:Nat) (m:Mk) (oi:Option Nat) (P:Plan) (other:Nat) (h0:oi=none→m.l= []) (hb:∀p∈m.b,p.2≠0) (hr:risesT (Ja8 ((P.subs 0).map (·.num)))) (hl:(P.subs 0).length≤4096) (hf:(JeF other m (P.subs 0)).fits):
 ECall Tryz.prog 143 [.rp [.bp (0,s0) 0], .rp (JaZ P), .rp [int other]] ⟨mkB s0 s1 m oi,mkP m oi,nx,3⟩ (MkQ s0 s1 (JeF other m (P.subs 0)) (.tup [])):=by
 refine ECall.wk (Jn Tryz.func143 rfl rfl ?_)
 unfold JaZ
 refine stp ?_
 refine ⟨⟨by decide,by decide,Nat.le_of_ble_eq_true rfl⟩, ?_⟩
 refine stp ?_
 refine Jf (xs:= [.bp (0,s0) 0,JK 2 JgS sub0 (P.subs 0),int other]) [] [] 3 rfl rfl rfl rfl ⟨Rf,Rf,Rf,trivial⟩ (Jmk s0 s1 nx m oi _ other h0 hb hr hl hf) Bf Pf rfl fun r h' hq=> ?_
 obtain ⟨oi2,nx2,nn2,rfl,h2,rfl⟩:=hq
 refine stp ?_
 exact Jr rfl ⟨.tup [],⟨mkB s0 s1 _ oi2,mkP _ oi2,nx2,3⟩,Rf,HLe.refl _,oi2,nx2,3,rfl,h2,rfl⟩
theorem Jrb (s0 s1 nx:Nat) (m:Mk) (oi:Option Nat) (P:Plan) (other:Nat) (h0:oi=none→m.l= []) (hb:∀p∈m.b,p.2≠0) (hr:risesT (Ja8 ((P.subs 1).map (·.num)))) (hl:(P.subs 1).length≤4096) (hf:(JeF other m (P.subs 1)).fits):
 ECall Tryz.prog 145 [.rp [.bp (0,s0) 0], .rp (JaZ P), .rp [int other]] ⟨mkB s0 s1 m oi,mkP m oi,nx,3⟩ (MkQ s0 s1 (JeF other m (P.subs 1)) (.tup [])):=by
 refine ECall.wk (Jn Tryz.func145 rfl rfl ?_)
 unfold JaZ
 refine stp ?_
 refine ⟨⟨by decide,by decide,Nat.le_of_ble_eq_true rfl⟩, ?_⟩
 refine stp ?_
 refine Jf (xs:= [.bp (0,s0) 0,JK 2 JgS sub0 (P.subs 1),int other]) [] [] 3 rfl rfl rfl rfl ⟨Rf,Rf,Rf,trivial⟩ (Jmk s0 s1 nx m oi _ other h0 hb hr hl hf) Bf Pf rfl fun r h' hq=> ?_
 obtain ⟨oi2,nx2,nn2,rfl,h2,rfl⟩:=hq
 refine stp ?_
 exact Jr rfl ⟨.tup [],⟨mkB s0 s1 _ oi2,mkP _ oi2,nx2,3⟩,Rf,HLe.refl _,oi2,nx2,3,rfl,h2,rfl⟩
theorem Jml (R D:List (Nat×AV)):JB (R++D)=JB R++JB D:=by unfold JB;rw [List.flatMap_append]
theorem JyE {D:List (Nat×AV)} {n m:Nat} {f':Nat→AV} {T:TypeId} (hT:Tryz.prog.cellsOf T=2) (h:JC n f'=JB D):OwnLe (.c (JC n f'++List.replicate (m * Tryz.prog.cellsOf T) .any)) (.c (JB D++List.replicate (m * 2) .any)):=by
 rw [hT,h];exact OwnLe.refl _
theorem JAo {D R:List (Nat×AV)} {n:Nat} {f':Nat→AV} {tl:List AV} {T:TypeId} (hT:Tryz.prog.cellsOf T=2) (h:JC n f'=JB D):OwnLe (.c (J5 (JB R++tl) (R.length * Tryz.prog.cellsOf T) (JC n f'))) (.c (JB (R++D)++tl.drop (D.length * 2))):=by
 have e1:J5 (JB R++tl) (R.length * Tryz.prog.cellsOf T) (JC n f')=JB (R++D)++tl.drop (D.length * 2):=by
  rw [hT,h,show R.length * 2=(JB R).length+0 by rw [Jcr];rfl,Je7,Jml,Jbr,Jcr]
  simp
 rw [e1];exact OwnLe.refl _
theorem JwR {D R:List (Nat×AV)} {n m:Nat} {f':Nat→AV} {tl:List AV} {T:TypeId} (hT:Tryz.prog.cellsOf T=2) (h:JC n f'=JB D):OwnLe (.c ((JB R++tl).take (R.length * Tryz.prog.cellsOf T)++JC n f'++List.replicate (m * Tryz.prog.cellsOf T) .any)) (.c (JB (R++D)++List.replicate (m * 2) .any)):=by
 have e1:(JB R++tl).take (R.length * Tryz.prog.cellsOf T)=JB R:=by
  rw [hT,← Jcr,List.take_left]
 rw [e1,hT,h,Jml];exact OwnLe.refl _
theorem JwS:Jbv Tryz.prog 191=true:=by kernel_rfl
theorem gc_prt:Tryz.prog.cellsOf 191=2:=by kernel_rfl
theorem JwT:Tryz.prog.bytesOf 191=16:=by kernel_rfl
def JCq (F:List (Vl.Id×Own)) (nm:Nat) (pm:List (Vl.Id×Nat)) (row:J4) (r2:AV) (h2:Heap):Prop:=∃bxs bs,bxs.Perm h2.bx∧bs.Sublist bxs∧BxLe bs (F++JbC nm row)∧AVle r2 (Jas nm row)∧h2.pm=pm
theorem Jkv {o:Oper} {E:Env} {K:Env→Prop} {Kp:AV→Env→Prop} {s x:Operand} {n:Nat} {f':Nat→AV} {R D:List (Nat×AV)} {md:Option (Nat×Nat×List AV)} {F:List (Vl.Id×Own)} {nm:Nat} {pm:List (Vl.Id×Nat)} (hok:Jbd (R,md)) (hbx:E.h.bx=F++JbC nm (R,md)) (hpm:E.h.pm=pm)
 (ho:o.op= .call { callee:= .builtin .append,args:= #[s,x],argTypes:= #[188,188]}) (hs:E.ev s=Jas nm (R,md)) (hx:∃oj,E.ev x= .os 2 n f' oj) (hD:D.length=n) (hn:n≠0) (hlen:R.length+n≤1000000)
 (hone:Jcv n f') (hc:JC n f'=JB D) (Jbw:∀c s,Jbw nm (F++ [((nm,s), .c c)])=some (s,c)) (JdM:∀c c' s,JdM nm c' (F++ [((nm,s), .c c)])=F++ [((nm,s), .c c')])
 (hk:∀id n2 c2 h2 md',Jbd (R++D,md')→JCq F nm pm (R++D,md') (.hs id 0 n2 c2) h2→K (({ E with h:=h2}:Env).set o.dst (.hs id 0 n2 c2))):AOp Tryz.prog o E K Kp:=by
 subst hD
 have hnew:∀ncap,R.length+D.length≤ncap→Jbd (R++D,some (E.h.nx,ncap,List.replicate ((ncap - (R.length+D.length)) * 2) .any)):=fun ncap hge=> by
  refine ⟨by rw [List.length_append];exact hge, ?_⟩
  rw [List.length_append,List.length_replicate,← Nat.add_mul]
  omega
 rcases md with _ | ⟨st,cap,tl⟩
 ·obtain rfl:R= []:=hok
  refine Je6 (e:=191) (szx:=2) (m:=D.length) ho hs (.inr hx) (by kernel_rfl) JwS gc_prt.symm hn hone (by rw [JwT];simp at hlen;omega) (by simp at hlen;omega) fun ncap hge=> ?_
  have hnew:=hnew ncap (by simpa using hge)
  rw [show ([]:List (Nat×AV)).length+D.length=D.length from Nat.zero_add _] at hnew
  refine hk _ _ _ _ (some (E.h.nx,ncap,_)) hnew ⟨F++ [((E.h.nn,E.h.nx), .c (JC D.length f'++List.replicate ((ncap - D.length) * Tryz.prog.cellsOf 191) .any))],_, ?_,Sf, ?_, ?_,hpm⟩
  ·show (F++ [_]).Perm (_::E.h.bx)
   rw [hbx]
   show (F++ [_]).Perm (_::(F++ []))
   rw [List.append_nil]
   exact List.perm_append_comm
  ·show BxLe _ (F++ [((nm,E.h.nx),Own.c (JB ([]++D)++_))])
   refine Jjw (JyE (D:= []++D) gc_prt hc) ?_ F;rfl
  ·show AVle (.hs _ 0 _ _) (.hs (nm,E.h.nx) 0 ([]++D).length ncap)
   exact AVle.hs_nm rfl
 ·have hok':=hok
  obtain ⟨k1,k2⟩:=hok'
  refine Jfz (e:=191) (szx:=2) (m:=D.length) (n:=R.length) (cap:=cap) (i:=(nm,st)) (cs:=JB R++tl) ho hs (.inr hx) (by kernel_rfl) JwS (.inr gc_prt.symm) (by rw [hbx];exact Jbw _ _) k1 (by rw [gc_prt,List.length_append,Jcr];exact k2) hone (fun _=> by rw [JwT];omega) (fun _=> by omega) (fun h=> absurd h hn) (fun _ hfit=> ?_) (fun _ _ ncap hge=> ?_)
  ·rw [hbx]
   refine hk _ _ _ _ (some (st,cap,tl.drop (D.length * 2))) ⟨by rw [List.length_append];exact hfit,by rw [List.length_append,List.length_drop,Nat.add_mul];omega⟩ ⟨F++ [((nm,st), .c (J5 (JB R++tl) (R.length * Tryz.prog.cellsOf 191) (JC D.length f')))],_, ?_,Sf, ?_, ?_,hpm⟩
   ·show (F++ [_]).Perm (Vl.JdM nm _ (F++ [_]))
    rw [JdM]
   ·show BxLe _ (F++ [((nm,st),Own.c (JB (R++D)++_))])
    refine Jjw (JAo gc_prt hc) ?_ F;rfl
   ·show AVle (.hs _ 0 _ _) (.hs (nm,st) 0 (R++D).length cap)
    rw [List.length_append];exact Rf
  ·refine hk _ _ _ _ (some (E.h.nx,ncap,_)) (hnew ncap hge) ⟨F++ [((E.h.nn,E.h.nx), .c ((JB R++tl).take (R.length * Tryz.prog.cellsOf 191)++JC D.length f'++List.replicate ((ncap - (R.length+D.length)) * Tryz.prog.cellsOf 191) .any)),((nm,st), .c (JB R++tl))],F++ [((E.h.nn,E.h.nx), .c _)], ?_,List.Sublist.append_left (.cons_cons _ (List.nil_sublist _)) _, ?_, ?_,hpm⟩
   ·show (F++ [_,_]).Perm (_::E.h.bx)
    rw [hbx]
    exact List.perm_middle
   ·show BxLe _ (F++ [((nm,E.h.nx),Own.c (JB (R++D)++_))])
    refine Jjw (JwR gc_prt hc) ?_ F;rfl
   ·show AVle (.hs _ 0 _ _) (.hs (nm,E.h.nx) 0 (R++D).length ncap)
    rw [List.length_append];exact AVle.hs_nm rfl
theorem JuS {s0:Nat} {P:Plan} {a other:Nat} {D:List (Nat×AV)} (hp:D.Perm ((partsR P a).map (JbG s0 P a other))) (hs:D.Pairwise fun x y=> x.1≤y.1) (hN:((partsP P a).map Prt.num).Pairwise (· < ·)):D=(partsP P a).map (JbG s0 P a other):=by
 have hm:(partsP P a).Perm (partsR P a):=List.mergeSort_perm _ _
 have hN2:=List.pairwise_map.1 hN
 refine JfC (key:=(·.1)) (hp.trans (hm.symm.map _)) hs ?_ ?_
 ·rw [List.pairwise_map]
  exact hN2.imp fun h=> Nat.le_of_lt h
 ·refine ((hp.trans (hm.symm.map _)).map (·.1)).nodup_iff.2 ?_
  rw [List.map_map]
  exact hN.imp fun h=> Nat.ne_of_lt h
theorem JuT {P:Plan} {a:Nat} (h:(P.ents a).length≤1000):(partsR P a).length≤1002:=by
 unfold partsR
 rw [List.length_append,List.length_map]
 split
 ·show _+2≤_;omega
 ·show _+0≤_;omega
theorem JAp {P:Plan} {a:Nat} (h:partsR P a= []):partsP P a= []:=by
 unfold partsP;rw [h];exact List.mergeSort_nil
theorem Jsr {o:Oper} {E:Env} {p:Operand} {a:Nat} {P:Plan} (ho:o.op= .load 35 p) (hp:E.ev p= .rp (((JaZ P).drop 2).drop (Int.toNat (a:Int) * Tryz.prog.cellsOf 35))) (h:a < 5):Vl.Yields Tryz.prog o E (JK 2 JaN ent0 (P.ents a)):=by
 rcases (by omega:a=0∨a=1∨a=2∨a=3∨a=4) with rfl | rfl | rfl | rfl | rfl
 all_goals exact Jbn (C:=none) (by rw [ho];show Jdi _ _ _ _=_;rw [hp];rfl) trivial
set_option maxHeartbeats 4000000 in
theorem Jss (s0 s1 nx:Nat) (m:Mk) (oi:Option Nat) (P:Plan) (a other:Nat) (ha:a≤4) (hl:(P.ents a).length≤1000) (hk:∀x∈partsR P a,x.num < 4294967296) (hN:((partsP P a).map Prt.num).Pairwise (· < ·)):
 ECall Tryz.prog 81 [.bp (0,s0) 0,Jca P,int a,int other] ⟨mkB s0 s1 m oi,mkP m oi,nx,3⟩ (fun r h'=> r=JK 2 (JiL s0 P a other) prt0 (partsP P a)∧∃nx' nn',h'=⟨mkB s0 s1 m oi,mkP m oi,nx',nn'⟩):=by
 refine ECall.wk (Jn Tryz.func81 rfl rfl ?_)
 unfold Jca
 (refine Jy ?_;refine JQ ?_;refine Jy ?_;refine JQ ?_;refine Jy ?_)
 refine Ja7 (n:=41) (nx:=nx+4) (nn:=3) (bx:=mkB s0 s1 m oi) (pm:=mkP m oi) (L:= [(4, .rp [.bp (0,s0) 0]),(5, .rp (JaZ P)),(6, .rp [int a]),(7, .rp [int other]),(9, .os 0 0 (fun _=> .any) none)]) (df:=some []) [((6,nx+3), .c [int other]),((5,nx+2), .c [int a]),((4,nx+1), .c (JaZ P)),((3,nx), .c [.bp (0,s0) 0])] rfl rfl rfl (List.Perm.refl _) Sf ⟨Frz.bp (i:=(3,nx)) (.tail _ (.tail _ (.tail _ (.head _)))) rfl,Frz.bp (.tail _ (.tail _ (.head _))) rfl,Frz.bp (.tail _ (.head _)) rfl,Frz.bp (.head _) rfl,Frz.refl _,trivial⟩ ?_
 have hP:∀i,i≤(P.ents a).length→(((P.ents a).take i).map fun e=> JbG s0 P a other (.ent e)).length=i:=fun i hi=> by rw [List.length_map,List.length_take];omega
 unfold JaZ
 refine Jy ?_
 refine JE (fun n=> match n with | 2=> true | _=> false) 6 ?_
 refine stp ?_
 refine ⟨⟨by omega,by omega, ?_⟩, ?_⟩
 ·rw [show Tryz.prog.cellsOf 35=1 by kernel_rfl,Nat.mul_one];show Int.toNat (a:Int)≤7;omega
 refine stp ?_
 refine AOp.of_yields (Jsr rfl rfl Om) ?_
 refine stp ?_
 refine Ja5 (fun y:Option (Nat×Nat×List AV)×Nat=> mk 41 [(4, .rp [.bp (0,s0) 0]),(5, .rp (JaZ P)),(6, .rp [int a]),(7, .rp [int other]),(9,Jas 3 ((P.ents a).map fun e=> JbG s0 P a other (.ent e),y.1))] ⟨mkB s0 s1 m oi++JbC 3 ((P.ents a).map fun e=> JbG s0 P a other (.ent e),y.1),mkP m oi,y.2,4⟩) (fun y=> Jbd ((P.ents a).map fun e=> JbG s0 P a other (.ent e),y.1)) ?_ ?_
 ·refine Js (fun y:Nat×Option (Nat×Nat×List AV)×Nat=> mk 41 [(4, .rp [.bp (0,s0) 0]),(5, .rp (JaZ P)),(6, .rp [int a]),(7, .rp [int other]),(9,Jas 3 (((P.ents a).take y.1).map fun e=> JbG s0 P a other (.ent e),y.2.1)),(15,JK 2 JaN ent0 (P.ents a)),(16,int (P.ents a).length),(17,int y.1)] ⟨mkB s0 s1 m oi++JbC 3 (((P.ents a).take y.1).map fun e=> JbG s0 P a other (.ent e),y.2.1),mkP m oi,y.2.2,4⟩) (fun y=> y.1≤(P.ents a).length∧Jbd (((P.ents a).take y.1).map fun e=> JbG s0 P a other (.ent e),y.2.1)) (fun y=> (P.ents a).length - y.1) ?_ ?_
  ·exact ⟨(0,none,nx+4),⟨Nat.zero_le _,rfl⟩,Et rfl rfl Bf Pf ⟨Rf,Rf,Rf,Rf,Rf,Rf,Rf,Rf,trivial⟩⟩
  ·rintro ⟨i,md,nx2⟩ ⟨k1,k2⟩
   dsimp only at k1 k2
   refine stp ?_
   intro c g;cases c
   ·have g:=Jw g
    dsimp only at g
    obtain rfl:i=(P.ents a).length:=by omega
    rw [List.take_length] at *
    refine stp ?_
    exact ⟨(md,nx2),k2,Et rfl rfl Bf Pf ⟨Rf,Rf,Rf,Rf,Rf,trivial⟩⟩
   ·have g:=Jv g
    dsimp only at g
    have hi:i < (P.ents a).length:=by omega
    have hsn:((P.ents a).take (i+1)).map (fun e=> JbG s0 P a other (.ent e))=((P.ents a).take i).map (fun e=> JbG s0 P a other (.ent e))++ [JbG s0 P a other (.ent ((P.ents a).getD i ent0))]:=by rw [JaG ent0 hi,List.map_append];rfl
    refine stp ?_
    refine ⟨Bd, ?_⟩
    refine Jy ?_
    refine Ja7 (n:=41) (nx:=nx2+1) (nn:=4) (bx:=mkB s0 s1 m oi++JbC 3 (((P.ents a).take i).map fun e=> JbG s0 P a other (.ent e),md)) (pm:=mkP m oi) (L:= [(4, .rp [.bp (0,s0) 0]),(5, .rp (JaZ P)),(6, .rp [int a]),(7, .rp [int other]),(9,Jas 3 (((P.ents a).take i).map fun e=> JbG s0 P a other (.ent e),md)),(11, .rp [u32 ((P.ents a).getD i ent0).num,J0 ((P.ents a).getD i ent0).rules]),(15,JK 2 JaN ent0 (P.ents a)),(16,int (P.ents a).length),(17,int i)]) (df:=some []) [((4,nx2), .c [u32 ((P.ents a).getD i ent0).num,J0 ((P.ents a).getD i ent0).rules])] rfl rfl rfl (List.Perm.refl _) Sf ⟨Frz.refl _,Frz.refl _,Frz.refl _,Frz.refl _,Frz.refl _,Frz.bp (.head _) rfl,Frz.refl _,Frz.refl _,Frz.refl _,trivial⟩ ?_
    rcases md with _ | ⟨st,cap,tl⟩
    all_goals
     refine Jy ?_
     refine JE (fun n=> match n with | 1=> true | _=> false) 8 ?_
     refine stp ?_
     refine Jkv (s:= .tmp 21) (x:= .tmp 26) (n:=1) (R:=((P.ents a).take i).map fun e=> JbG s0 P a other (.ent e)) (D:= [JbG s0 P a other (.ent ((P.ents a).getD i ent0))]) (F:=mkB s0 s1 m oi) (nm:=3) (pm:=mkP m oi) k2 rfl rfl rfl rfl ⟨_,rfl⟩ rfl Dc (by rw [hP i k1];omega) (JM rfl) rfl (fun _ _=> rfl) (fun _ _ _=> rfl) fun id2 n2 c2 h2 md2 hok2 hput=> ?_
     refine stp ?_
     obtain ⟨bxs,bs,p1,p2,p3,p4,p5⟩:=hput
     refine back (i+1,md2,h2.nx) ⟨by dsimp only;omega, ?_⟩ Dm ?_
     ·dsimp only
      rw [hsn];exact hok2
     ·dsimp only
      rw [hsn]
      exact Jav bxs bs (mkP m oi) rfl rfl p1 p2 (by show (mkP m oi).Sublist h2.pm;rw [p5];exact Sf) p3 Pf ⟨Rf,Rf,Rf,Rf,p4,Rf,Rf,Jg (Jz Om),trivial⟩
 ·rintro ⟨md,nx2⟩ hrow
  dsimp only at hrow
  rcases md with _ | ⟨st,cap,tl⟩
  all_goals
   refine stp ?_
   intro c hc
   refine JpD (fun y:Option (Nat×Nat×List AV)×Nat=> mk 41 [(9,Jas 3 ((partsR P a).map (JbG s0 P a other),y.1))] ⟨mkB s0 s1 m oi++JbC 3 ((partsR P a).map (JbG s0 P a other),y.1),mkP m oi,y.2,4⟩) (fun y=> Jbd ((partsR P a).map (JbG s0 P a other),y.1)) ?_ ?_
   ·cases c with
    | false=>
      have h2:a≠2:=fun h=> by subst h;cases hc
      have hR:(partsR P a).map (JbG s0 P a other)=(P.ents a).map fun e=> JbG s0 P a other (.ent e):=by
       unfold partsR
       rw [if_neg h2,List.append_nil,List.map_map];rfl
      rw [hR]
      refine stp ?_
      exact ⟨(_,nx2),hrow,Et rfl rfl Bf Pf ⟨Rf,trivial⟩⟩
    | true=>
      have h2:a=2:=by
       have:=eq_of_beq hc.symm
       omega
      have hR:(partsR P a).map (JbG s0 P a other)=(P.ents a).map (fun e=> JbG s0 P a other (.ent e))++ [JbG s0 P a other (.sub 102 0),JbG s0 P a other (.sub 117 1)]:=by
       unfold partsR
       rw [if_pos h2,List.map_append,List.map_map];rfl
      rw [hR]
      refine Jy ?_
      refine JE (fun n=> match n with | 1=> true | _=> false) 8 ?_
      refine stp ?_
      refine Jkv (s:= .tmp 31) (x:= .tmp 36) (n:=2) (R:=(P.ents a).map fun e=> JbG s0 P a other (.ent e)) (D:= [JbG s0 P a other (.sub 102 0),JbG s0 P a other (.sub 117 1)]) (F:=mkB s0 s1 m oi) (nm:=3) (pm:=mkP m oi) hrow rfl rfl rfl rfl ⟨_,rfl⟩ rfl Dc (by rw [List.length_map];omega) (fun k hk=> by match k,hk with | 0,_=> rfl | 1,_=> rfl) rfl (fun _ _=> rfl) (fun _ _ _=> rfl) fun id2 n2 c2 h3 md2 hok2 hput=> ?_
      refine stp ?_
      obtain ⟨bxs,bs,p1,p2,p3,p4,p5⟩:=hput
      exact ⟨(md2,h3.nx),hok2,Jav bxs bs (mkP m oi) rfl rfl p1 p2 (by show (mkP m oi).Sublist h3.pm;rw [p5];exact Sf) p3 Pf ⟨p4,trivial⟩⟩
   ·rintro ⟨md3,nx3⟩ hrow3
    dsimp only at hrow3
    rcases md3 with _ | ⟨st3,cap3,tl3⟩
    ·have h0:partsR P a= []:=List.map_eq_nil_iff.1 hrow3
     refine stp ?_
     refine Ja rfl rfl (Jsp 147) ⟨AVle.os_nil,Rf,trivial⟩ fun nx4=> ?_
     refine stp ?_
     exact Jr rfl ⟨JK 2 (JiL s0 P a other) prt0 (partsP P a),⟨mkB s0 s1 m oi,mkP m oi,nx4,4⟩,by rw [JAp h0];exact AVle.os_sl0,Jq _ _ rfl (List.sublist_append_left _ _) Sf Bf Pf,rfl,nx4,4,rfl⟩
    ·refine stp ?_
     refine Jf (xs:= [.hs (3,st3) 0 ((partsR P a).map (JbG s0 P a other)).length cap3, .fn (.func 147) [] []]) (mkB s0 s1 m oi) (mkP m oi) 4 rfl rfl rfl (List.append_nil _).symm ⟨Rf,Rf,trivial⟩ (JoK (D:=(partsR P a).map (JbG s0 P a other)) (tl:=tl3) (nm:=3) (s:=st3) (cap:=cap3) (nx:=nx3) (nn:=4) (fun x hx=> by obtain ⟨z,_,rfl⟩:=List.mem_map.1 hx;exact JAn s0 P a other z) (fun x hx=> by obtain ⟨z,hz,rfl⟩:=List.mem_map.1 hx;exact hk z hz) (by have:=JuT hl;rw [List.length_map];omega)) Bf trivial rfl fun r h' hq=> ?_
     obtain ⟨rfl,cs',⟨D,hp1,hp2,rfl⟩,rfl⟩:=hq
     have hD:=JuS hp1 hp2 hN
     subst hD
     refine Jy ?_
     refine Ja7 (n:=41) (nx:=nx3) (nn:=4) (bx:=mkB s0 s1 m oi) (pm:=mkP m oi) (L:= [(9,JK 2 (JiL s0 P a other) prt0 (partsP P a))]) (df:=some []) [((3,st3), .c (JB ((partsP P a).map (JbG s0 P a other))++tl3))] rfl rfl rfl List.perm_append_comm (List.sublist_append_left _ _) ⟨?_,trivial⟩ ?_
     ·exact JgC (E:=fun x:Prt=> [u32 x.num,Jq8 s0 P a other x]) (fun _=> rfl) (fun _=> rfl) (by rw [List.length_map];exact (List.mergeSort_perm _ _).length_eq) (by unfold Jag;rw [← Jq9];exact .head _) hrow3.1
     refine stp ?_
     exact Jr rfl ⟨_,⟨mkB s0 s1 m oi,mkP m oi,nx3,4⟩,Rf,HLe.refl _,rfl,nx3,4,rfl⟩
end W
end Go.Proofs

namespace Go.Proofs.W
open Go.Vl
set_option maxRecDepth 100000
def Jgg (Q:List (Nat×Nat)→Prop):Prop:=∀(m:Mk) (c:Nat),Q m.b→Q (JA m c).2.b
variable {Q:List (Nat×Nat)→Prop}
theorem JAq (hQ:Jgg Q) {w:Bool} {m:Mk} {r:PRul} (h:Q m.b):Q (JaH w m r).b:=
 hQ (J1 w (m.n+1) (Jx m) r.conds) r.code (by rw [Jk6];exact h)
theorem Jtr (hQ:Jgg Q) {w:Bool}:∀(l:List PRul) (m:Mk),Q m.b→Q (l.foldl (JaH w) m).b
 | [],m,h=> h
 | r::l,m,h=> Jtr hQ l _ (JAq hQ h)
theorem Jos (hQ:Jgg Q):∀(l:List PSub) (m:Mk),Q m.b→Q (J7 m l).2.b
 | [],m,h=> h
 | s::l,m,h=> Jos hQ l _ (hQ _ s.code h)
theorem Jrc {marks:List Nat} {o:Nat}:∀(N:Nat) (l:List Nat) (pl:Nat) (m:Mk),l.length≤N→(Jbt marks o l pl m).b=m.b
 | 0,l,pl,m,h=> by rw [Jbt,dif_pos Om];rfl
 | N+1,l,pl,m,h=> by
   rw [Jbt]
   split
   ·rfl
   ·rw [Jrc N _ _ _ (by simp;omega)]
    show (Jbt marks o (l.take (l.length / 2)) pl _).b=_
    rw [Jrc N _ _ _ (by simp;omega)];rfl
theorem Jk9 {marks:List Nat} {o:Nat} {l:List Nat} {m:Mk}:(Jal marks o l m).b=m.b:=by
 unfold Jal
 split
 ·rfl
 ·exact Jrc _ _ _ _ (Nat.le_refl _)
theorem Jts (hQ:Jgg Q) {P:Plan} {a o:Nat} {m:Mk} {x:Prt} (h:Q m.b):Q (Jc7 P a o m x).b:=by
 cases x with
 | ent e=> exact Jtr hQ e.rules m h
 | sub n k=>
   have h2:Q (J7 (JD m [⟨0,0x20,16,0,0⟩]) (P.subs k)).2.b:=Jos hQ _ _ h
   show Q (Jal _ _ _ _).b
   rw [Jk9];exact h2
theorem Jrd {β:Type} {f:Mk→β→Mk} (h:∀m x,Q m.b→Q (f m x).b):∀(l:List (Nat×β)) (m:Mk),Q m.b→Q (JbO f m l).b
 | [],m,hm=> hm
 | x::l,m,hm=> Jrd h l _ (h _ _ hm)
theorem JgZ (hQ:Jgg Q) {P:Plan} {a:Nat} {m:Mk} (h:Q m.b):Q (JaQ P m a).b:=by
 refine Jrd (fun m x hm=> Jts hQ hm) _ _ ?_
 show Q (Jal _ _ _ _).b
 rw [Jk9]
 exact hQ _ P.dflt h
theorem JBv (hQ:Jgg Q) {P:Plan} {m:Mk} (h:Q m.b):Q (Jd8 P m).b:=by
 have h1:Q (JD (JA m P.dflt).2 [⟨0,0x15,4294967295,(JA m P.dflt).1,0⟩]).b:=hQ _ P.dflt h
 unfold Jd8
 dsimp only
 split
 ·exact JgZ hQ (m:=JX (JaQ P (JD (Jx _) _) 0) _) (JgZ hQ (m:=JD (Jx _) _) h1)
 ·exact JgZ hQ (m:=JD (JA _ 2147483648).2 _) (hQ _ 2147483648 h1)
theorem JwU (hQ:Jgg Q) {P:Plan} {m:Mk} {a:Nat} (h:Q m.b):Q (JbP P m a).b:=by
 unfold JbP
 split
 ·exact JBv hQ (m:=JD m _) h
 ·exact JgZ hQ (m:=JD m _) h
def b0 (m:Mk):Prop:=∀p∈m.b,p.2≠0
theorem Jnb:Jgg fun b=> ∀p∈b,p.2≠0:=fun _ _ h=> Jgo h
theorem JAr {P:Plan} {a o:Nat} {m:Mk} {x:Prt} (h:b0 m):b0 (Jc7 P a o m x):=Jts Jnb h
theorem JyF {P:Plan} {a:Nat} {m:Mk} (h:b0 m):b0 (JaQ P m a):=JgZ Jnb h
theorem JyG:Jgg fun b=> (b.map (·.1)).Nodup:=fun m c h=> by
 unfold JA
 cases hl:Jce m.b c with
 | some k=> exact h
 | none=>
   show ((m.b++ [_]).map _).Nodup
   rw [List.map_append,List.nodup_append]
   refine ⟨h,List.nodup_cons.2 ⟨List.not_mem_nil,List.nodup_nil⟩,fun x hx y hy e=> ?_⟩
   obtain ⟨p,hp,rfl⟩:=List.mem_map.1 hx
   obtain rfl:=List.mem_singleton.1 hy
   unfold Jce at hl
   have:=List.find?_eq_none.1 (Option.map_eq_none_iff.1 hl) p hp
   exact this (beq_iff_eq.2 e)
theorem Jot:∀ {b:List (Nat×Nat)} {p:Nat×Nat},(b.map (·.1)).Nodup→p∈b→Jce b p.1=some p.2
 | [],p,_,h=> by cases h
 | q::b,p,hn,h=> by
   obtain ⟨n1,n2⟩:=List.nodup_cons.1 hn
   unfold Jce
   rw [List.find?_cons]
   rcases List.mem_cons.1 h with rfl | h
   ·rw [beq_self_eq_true];rfl
   ·have:(q.1 ==p.1)=false:=beq_eq_false_iff_ne.2 fun e=> n1 (List.mem_map.2 ⟨p,h,e.symm⟩)
    rw [this]
    exact Jot n2 h
theorem Jj1 {β:Type} {f:Mk→β→Mk}:∀(a b:List (Nat×β)) (m:Mk),JbO f m (a++b)=JbO f (JbO f m a) b
 | [],b,m=> rfl
 | x::a,b,m=> Jj1 a b _
theorem Jkw {β:Type} {f:Mk→β→Mk} (h:∀(m:Mk) (x:β),m.le (f m x)) {l:List (Nat×β)} {m:Mk} (i:Nat):(JbO f m (l.take i)).le (JbO f m l):=by
 have e:=Jj1 (f:=f) (l.take i) (l.drop i) m
 rw [List.take_append_drop] at e
 rw [e]
 exact Jlx h _ _
theorem Jla {l:List Nat} (h:l.Pairwise (· < ·)):risesT (Ja8 l):=fun i h1 h2=> by
 rw [Jcp] at h2
 rw [Jfu,Jfu]
 have:=List.pairwise_iff_getElem.1 h (i - 1) i Om h2 Om
 simp only [List.getD_eq_getElem?_getD]
 rw [List.getElem?_eq_getElem (show i - 1 < l.length by omega),List.getElem?_eq_getElem h2]
 exact Int.ofNat_lt.2 this
structure PlanW (P:Plan):Prop where
 s:PlanS P
 conds:∀a,∀e∈P.ents a,∀r∈e.rules,∀c∈r.conds,cOk c
 up:∀a,a≤4→((partsP P a).map Prt.num).Pairwise (· < ·)
 num:∀a,a≤4→∀x∈partsR P a,x.num < 4294967296
 sub:∀k,((P.subs k).map (·.num)).Pairwise (· < ·)
theorem Jlb {P:Plan} {a:Nat} {x:Prt} (h:x∈partsP P a):(∃e,x= .ent e∧e∈P.ents a)∨x= .sub 102 0∨x= .sub 117 1:=by
 have h:=(List.mergeSort_perm (partsR P a) _).mem_iff.1 h
 unfold partsR at h
 rcases List.mem_append.1 h with h | h
 ·obtain ⟨e,he,rfl⟩:=List.mem_map.1 h
  exact .inl ⟨e,rfl,he⟩
 ·split at h
  ·rcases List.mem_cons.1 h with rfl | h
   ·exact .inr (.inl rfl)
   ·exact .inr (.inr (List.mem_singleton.1 h))
  ·cases h
def JcA (n k:Nat):List Nat:=(List.range k).map fun i=> n+1+i
theorem Jgp (n k:Nat):(JcA n k).length=k:=by unfold JcA;simp
theorem JyH (n k:Nat):JcA n (k+1)=JcA n k++ [n+k+1]:=by
 unfold JcA
 rw [List.range_succ,List.map_append,List.map_singleton,Nat.add_right_comm n 1 k]
def JBw:Nat×Prt:=(0,prt0)
theorem JAs {M:List Nat} {l:List Prt} {i:Nat} (h1:i < M.length) (h2:i < l.length):(M.zip l).getD i JBw=(M.getD i 0,l.getD i prt0):=by
 have h3:i < (M.zip l).length:=by rw [List.length_zip];omega
 simp only [List.getD_eq_getElem?_getD]
 rw [List.getElem?_eq_getElem h1,List.getElem?_eq_getElem h2,List.getElem?_eq_getElem h3,List.getElem_zip];rfl
theorem JwV {P:Plan} {a o:Nat} {m:Mk} {M:List Nat} {l:List Prt} {i:Nat} (h1:i < M.length) (h2:i < l.length):Jc8 P a o m ((M.zip l).take (i+1))=Jc7 P a o (JX (Jc8 P a o m ((M.zip l).take i)) (M.getD i 0)) (l.getD i prt0):=by
 unfold Jc8
 rw [JaG JBw (by rw [List.length_zip];omega),Jj1,JAs h1 h2];rfl
theorem JyI {P:Plan} (hP:PlanW P) {a other s0 s1 nx:Nat} {m:Mk} {oi:Option Nat} {x:Prt} (ha:a≤4) (hx:x∈partsP P a) (h0:oi=none→m.l= []) (hb:b0 m) (hf:(Jc7 P a other m x).fits):
 (∃e,x= .ent e∧ECall Tryz.prog 141 [.rp [.bp (0,s0) 0], .rp [u32 e.num,J0 e.rules], .rp [int a], .rp [int other]] ⟨mkB s0 s1 m oi,mkP m oi,nx,3⟩ (MkQ s0 s1 (Jc7 P a other m x) (.tup [])))∨
 (x= .sub 102 0∧ECall Tryz.prog 143 [.rp [.bp (0,s0) 0], .rp (JaZ P), .rp [int other]] ⟨mkB s0 s1 m oi,mkP m oi,nx,3⟩ (MkQ s0 s1 (Jc7 P a other m x) (.tup [])))∨
 (x= .sub 117 1∧ECall Tryz.prog 145 [.rp [.bp (0,s0) 0], .rp (JaZ P), .rp [int other]] ⟨mkB s0 s1 m oi,mkP m oi,nx,3⟩ (MkQ s0 s1 (Jc7 P a other m x) (.tup []))):=by
 rcases Jlb hx with ⟨e,rfl,he⟩ | rfl | rfl
 ·have h1:=hP.s.rules a e he
  exact .inl ⟨e,rfl,Jsq s0 s1 nx m oi e a other ha h0 hb Om (fun r hr=> ⟨by have:=hP.s.conds a e he r hr;omega,hP.conds a e he r hr⟩) hf⟩
 ·have h1:=hP.s.subs 0
  exact .inr (.inl ⟨rfl,Jra s0 s1 nx m oi P other h0 hb (Jla (hP.sub 0)) Om hf⟩)
 ·have h1:=hP.s.subs 1
  exact .inr (.inr ⟨rfl,Jrb s0 s1 nx m oi P other h0 hb (Jla (hP.sub 1)) Om hf⟩)
set_option maxHeartbeats 8000000 in
theorem JfD (s0 s1 nx:Nat) (m:Mk) (oi:Option Nat) (P:Plan) (hP:PlanW P) (a:Nat) (ha:a≤4) (h0:oi=none→m.l= []) (hb:b0 m) (hf:(JaQ P m a).fits):
 ECall Tryz.prog 39 [.bp (0,s0) 0,Jca P,int a] ⟨mkB s0 s1 m oi,mkP m oi,nx,3⟩ (MkQ s0 s1 (JaQ P m a) (.tup [])):=by
 have hlen:=Jof hP.s a
 refine ECall.wk (Jn Tryz.func39 rfl rfl ?_)
 unfold JaQ at hf⊢
 dsimp only at hf⊢
 have hS:=((JsO P a (JA m P.dflt).1 (((List.range (partsP P a).length).map fun i=> (JA m P.dflt).2.n+1+i).zip (partsP P a)) (Jal ((List.range (partsP P a).length).map fun i=> (JA m P.dflt).2.n+1+i) (JA m P.dflt).1 ((partsP P a).map Prt.num) ⟨(JA m P.dflt).2.l,(JA m P.dflt).2.n+(partsP P a).length,(JA m P.dflt).2.b⟩))).fits hf
 have hM:=(Jg7 _ _ _ _).fits hS
 have hG:=(JsP _ _).fits hM
 have hbG:b0 (JA m P.dflt).2:=Jgo hb
 generalize hg : JA m P.dflt = G at *
 change _ at hf
 unfold Jca
 refine stp ?_
 refine Jf (xs:= [.bp (0,s0) 0,u32 P.dflt]) [((3,nx), .c (JaZ P))] [] 4 rfl rfl rfl rfl ⟨Rf,Rf,trivial⟩ (Jey s0 s1 (nx+1) m oi P.dflt h0 hb (by rw [hg];exact hG)) Bf Pf rfl fun r h' hq=> ?_
 rw [hg] at hq
 obtain ⟨oi2,nx2,nn2,rfl,h2,rfl⟩:=hq
 unfold JaZ
 refine stp ?_
 refine Jf (xs:= [.bp (0,s0) 0,Jca P,int a,int G.1]) [((3,nx), .c (JaZ P))] [] 4 rfl rfl rfl rfl ⟨Rf,Rf,Rf,Rf,trivial⟩ (Jss s0 s1 nx2 G.2 oi2 P a G.1 ha (Nat.le_trans (hP.s.ents a) Dc) (hP.num a ha) (hP.up a ha)) Bf Pf rfl fun r h' hq=> ?_
 obtain ⟨rfl,nx3,nn3,rfl⟩:=hq
 unfold JaZ
 refine stp ?_
 refine Ja5 (fun y:Option Nat×Nat=> mk 62 [(0, .bp (0,s0) 0),(6,int G.1),(7,JK 2 (JiL s0 P a G.1) prt0 (partsP P a)),(8,JfZ (Ja8 ((partsP P a).map Prt.num))),(9,JiI (JcA G.2.n (partsP P a).length))] ⟨mkB s0 s1 ⟨G.2.l,G.2.n+(partsP P a).length,G.2.b⟩ y.1,mkP ⟨G.2.l,G.2.n+(partsP P a).length,G.2.b⟩ y.1,y.2,3⟩) (fun y=> y.1=none→G.2.l= []) ?_ ?_
 ·refine Js (fun y:Nat×Option Nat×Option Nat×Option Nat×Nat=> mk 62 [(0, .bp (0,s0) 0),(6,int G.1),(7,JK 2 (JiL s0 P a G.1) prt0 (partsP P a)),(8, .os 1 y.1 (Jk7 (((partsP P a).take y.1).map Prt.num)) (nmN 3 y.2.1)),(9, .os 1 y.1 (Jk8 (JcA G.2.n y.1)) (nmN 4 y.2.2.1)),(23,JK 2 (JiL s0 P a G.1) prt0 (partsP P a)),(24,int (partsP P a).length),(25,int y.1)] ⟨mkB s0 s1 ⟨G.2.l,G.2.n+y.1,G.2.b⟩ y.2.2.2.1,Jac (nmN 3 y.2.1) (y.1 * 1)++(Jac (nmN 4 y.2.2.1) (y.1 * 1)++mkP ⟨G.2.l,G.2.n+y.1,G.2.b⟩ y.2.2.2.1),y.2.2.2.2,5⟩) (fun y=> y.1≤(partsP P a).length∧(y.2.2.2.1=none→G.2.l= [])) (fun y=> (partsP P a).length - y.1) ?_ ?_
  ·exact ⟨(0,none,none,oi2,nx3),⟨Nat.zero_le _,h2⟩,Jc _ _ rfl rfl (.cons _ Sf) Sf Bf Pf ⟨Rf,Rf,Rf,AVle.os_nil,AVle.os_nil,Rf,Rf,Rf,trivial⟩⟩
  ·rintro ⟨i,oa,ob,o4,nx4⟩ ⟨k1,k2⟩
   dsimp only at k1 k2
   refine stp ?_
   intro c g;cases c
   ·have g:=Jw g
    dsimp only at g
    obtain rfl:i=(partsP P a).length:=by omega
    rw [List.take_length] at *
    refine stp ?_
    exact ⟨(o4,nx4),k2,Jc _ _ rfl rfl Sf (by rw [← List.append_assoc];exact List.sublist_append_right _ _) Bf Pf ⟨Rf,Rf,Rf,Jtp (by rw [List.length_map]),Jtq (Jgp _ _).symm,trivial⟩⟩
   ·have g:=Jv g
    dsimp only at g
    have hi:i < (partsP P a).length:=by omega
    have hmem:(partsP P a).getD i prt0∈partsP P a:=JjC hi
    have hnt:((partsP P a).take (i+1)).map Prt.num=((partsP P a).take i).map Prt.num++ [((partsP P a).getD i prt0).num]:=by rw [JaG prt0 hi,List.map_append];rfl
    have hnl:i=(((partsP P a).take i).map Prt.num).length:=by rw [List.length_map,List.length_take];omega
    have hMi:(⟨G.2.l,G.2.n+(i+1),G.2.b⟩:Mk).fits:=(show (⟨G.2.l,G.2.n+(i+1),G.2.b⟩:Mk).le ⟨G.2.l,G.2.n+(partsP P a).length,G.2.b⟩ from ⟨Nat.le_refl _,by dsimp only;omega⟩).fits hM
    refine stp ?_
    refine ⟨Bd, ?_⟩
    change Jch _ (AV.rp (JiL s0 P a G.1 ((partsP P a).getD i prt0)).cells) _
    rcases Jlb hmem with ⟨e,hx,_⟩ | hx | hx
    all_goals
     rw [hx] at hnt⊢
     refine Jy ?_
     refine JE (fun n=> match n with | 2=> true | 7=> true | _=> false) 12 ?_
     refine stp ?_
     refine JdK (e:=28) (c:=1) (n:=i) (oi:=nmN 3 oa) (sz:=1) (f:=Jk7 (((partsP P a).take i).map Prt.num)) rfl rfl (.inr ⟨_,rfl⟩) (by kernel_rfl) (by kernel_rfl) JuQ (.inr rfl) JuQ rfl (JM rfl) (by rw [JBr];omega) Om ?_
     refine stp ?_
     refine Jf (xs:= [.bp (0,s0) 0]) [_] (_::Jac (nmN 4 ob) (i * 1)) 7 rfl rfl rfl rfl ⟨Rf,trivial⟩ (JdE s0 s1 (nx4+1+1) ⟨G.2.l,G.2.n+i,G.2.b⟩ o4 k2 hMi) Bf Pf rfl fun r h' hq=> ?_
     obtain ⟨o5,nx5,nn5,rfl,h5,rfl⟩:=hq
     refine stp ?_
     refine Jku (e:=3) (c:=1) (n:=i) (oi:=nmN 4 ob) (sz:=1) (f:=Jk8 (JcA G.2.n i)) rfl rfl (.inr ⟨_,rfl⟩) (by kernel_rfl) (by kernel_rfl) JuR (.inr rfl) JuR rfl (fun _ h=> by cases ob with | none=> cases h | some=> cases h;rfl) (JM rfl) (by rw [JBs];omega) Om ?_
     refine stp ?_
     refine back (i+1,some (nx4+1),some nx5,o5,nx5+1) ⟨by dsimp only;omega,h5⟩ Dm ?_
     dsimp only
     rw [hnt,JyH]
     exact Jor (_::mkB s0 s1 _ o5) (mkB s0 s1 _ o5) (_::_::mkP _ o5) (_::_::mkP _ o5) rfl rfl (List.Perm.refl _) (List.Perm.swap _ _ _) (.cons _ Sf) Sf Bf ⟨rfl,rfl,rfl,rfl,Pf⟩ ⟨Rf,Rf,Rf,Jq6 hnl rfl rfl,Jq7 (Jgp _ _).symm rfl rfl,Rf,Rf,Jg (Jz Om),trivial⟩
 ·rintro ⟨o3,nx4⟩ h3
  dsimp only at h3
  have hmks:((List.range (partsP P a).length).map fun i=> G.2.n+1+i)=JcA G.2.n (partsP P a).length:=rfl
  rw [hmks] at hf hS⊢
  refine stp ?_
  refine Jf (xs:= [.bp (0,s0) 0,JfZ (Ja8 ((partsP P a).map Prt.num)),JiI (JcA G.2.n (partsP P a).length),int G.1]) [] [] 3 rfl rfl rfl rfl ⟨Rf,Rf,Rf,Rf,trivial⟩ (JjB s0 s1 nx4 ⟨G.2.l,G.2.n+(partsP P a).length,G.2.b⟩ o3 _ _ _ h3 (Jla (hP.up a ha)) (by rw [List.length_map];omega) (by rw [Jgp,List.length_map]) hS) Bf Pf rfl fun r h' hq=> ?_
  obtain ⟨o5,nx5,nn5,rfl,h5,rfl⟩:=hq
  have hbS:b0 (Jal (JcA G.2.n (partsP P a).length) G.1 ((partsP P a).map Prt.num) ⟨G.2.l,G.2.n+(partsP P a).length,G.2.b⟩):=by
   show ∀p∈(Jal _ _ _ _).b,p.2≠0
   rw [Jk9];exact hbG
  generalize Jal (JcA G.2.n (partsP P a).length) G.1 ((partsP P a).map Prt.num) ⟨G.2.l, G.2.n + (partsP P a).length, G.2.b⟩ = S at *
  refine stp ?_
  refine Js (fun y:Nat×Option Nat×Nat=> mk 62 [(0, .bp (0,s0) 0),(9,JiI (JcA G.2.n (partsP P a).length)),(45,JK 2 (JiL s0 P a G.1) prt0 (partsP P a)),(46,int (partsP P a).length),(47,int y.1)] ⟨mkB s0 s1 (Jc8 P a G.1 S (((JcA G.2.n (partsP P a).length).zip (partsP P a)).take y.1)) y.2.1,mkP (Jc8 P a G.1 S (((JcA G.2.n (partsP P a).length).zip (partsP P a)).take y.1)) y.2.1,y.2.2,3⟩) (fun y=> y.1≤(partsP P a).length∧(y.2.1=none→(Jc8 P a G.1 S (((JcA G.2.n (partsP P a).length).zip (partsP P a)).take y.1)).l= [])∧b0 (Jc8 P a G.1 S (((JcA G.2.n (partsP P a).length).zip (partsP P a)).take y.1))) (fun y=> (partsP P a).length - y.1) ?_ ?_
  ·exact ⟨(0,o5,nx5),⟨Nat.zero_le _,h5,hbS⟩,Et rfl rfl Bf Pf ⟨Rf,Rf,Rf,Rf,Rf,trivial⟩⟩
  ·rintro ⟨i,o6,nx6⟩ ⟨k1,k2,k3⟩
   dsimp only at k1 k2 k3
   refine stp ?_
   intro c g;cases c
   ·have g:=Jw g
    dsimp only at g
    have hZ:(((JcA G.2.n (partsP P a).length).zip (partsP P a)).take i)=(JcA G.2.n (partsP P a).length).zip (partsP P a):=List.take_of_length_le (by rw [List.length_zip,Jgp];omega)
    refine stp ?_
    refine Jr rfl ⟨.tup [],⟨mkB s0 s1 _ o6,mkP _ o6,nx6,3⟩,Rf,HLe.refl _, ?_⟩
    rw [hZ] at k2⊢
    exact ⟨o6,nx6,3,rfl,k2,rfl⟩
   ·have g:=Jv g
    dsimp only at g
    have hi:i < (partsP P a).length:=by omega
    have hmem:(partsP P a).getD i prt0∈partsP P a:=JjC hi
    have hsn:=JwV (P:=P) (a:=a) (o:=G.1) (m:=S) (M:=JcA G.2.n (partsP P a).length) (l:=partsP P a) (i:=i) (by rw [Jgp];exact hi) hi
    have hf2:=(Jkw (JkE P a G.1) (l:=(JcA G.2.n (partsP P a).length).zip (partsP P a)) (m:=S) (i+1)).fits hf
    change (Jc8 P a G.1 S (((JcA G.2.n (partsP P a).length).zip (partsP P a)).take (i+1))).fits at hf2
    rw [hsn] at hf2
    have hb2:b0 (Jc7 P a G.1 (JX (Jc8 P a G.1 S (((JcA G.2.n (partsP P a).length).zip (partsP P a)).take i)) ((JcA G.2.n (partsP P a).length).getD i 0)) ((partsP P a).getD i prt0)):=JAr k3
    generalize Jc8 P a G.1 S (((JcA G.2.n (partsP P a).length).zip (partsP P a)).take i) = N at *
    have hml:=Jgp G.2.n (partsP P a).length
    generalize JcA G.2.n (partsP P a).length = MK at *
    refine stp ?_
    refine ⟨Bd, ?_⟩
    change Jch _ (AV.rp (JiL s0 P a G.1 ((partsP P a).getD i prt0)).cells) _
    have hcl:∀nx7 o7,(o7=none→(JX N (MK.getD i 0)).l= [])→_:=fun nx7 o7 h7=> JyI hP (s0:=s0) (s1:=s1) (other:=G.1) (m:=JX N (MK.getD i 0)) (oi:=o7) (nx:=nx7) ha hmem h7 k3 hf2
    rcases Jlb hmem with ⟨e,hx,_⟩ | hx | hx
    all_goals
     rw [hx] at hsn hf2 hb2 hcl⊢
     refine stp ?_
     refine ⟨Bd, ?_⟩
     refine stp ?_
     refine Jf (xs:= [.bp (0,s0) 0,int (MK.getD i 0:Nat)]) [_] [] 4 rfl rfl rfl rfl ⟨Rf,Rf,trivial⟩ (Jex s0 s1 (nx6+1) N o6 (MK.getD i 0) k2 ((JkE P a G.1 _ _).fits hf2)) Bf Pf rfl fun r h' hq=> ?_
     obtain ⟨o7,nx7,nn7,rfl,h7,rfl⟩:=hq
     refine stp ?_
     rcases hcl nx7 o7 h7 with ⟨e',he,hcall⟩ | ⟨he,hcall⟩ | ⟨he,hcall⟩ <;> first | (exfalso;cases he;done) | skip
     try cases he
     refine Jf [_] [] 4 rfl rfl rfl rfl (LeL.refl _) hcall Bf Pf rfl fun r h' hq=> ?_
     rw [← hsn] at hq
     obtain ⟨o8,nx8,nn8,rfl,h8,rfl⟩:=hq
     refine stp ?_
     refine back (i+1,o8,nx8) ⟨by dsimp only;omega,h8,by dsimp only;rw [hsn];exact hb2⟩ Dm (Jc _ _ rfl rfl (.cons _ Sf) Sf Bf Pf ⟨Rf,Rf,Rf,Rf,Jg (Jz Om),trivial⟩)
end Go.Proofs.W

namespace Go.Proofs.W
open Go.Vl
set_option maxRecDepth 100000
theorem JyJ {p:Pol} {l:List TRow} (hv:(Jaq p l).2=0) {a:Nat} (ha:a≤4) {x:Prt} (hx:x∈partsR (JbB p l) a):x.num < 4294967296:=by
 unfold partsR at hx
 rcases List.mem_append.1 hx with hx | hx
 ·obtain ⟨e,he,rfl⟩:=List.mem_map.1 hx
  obtain ⟨g,hg,h2⟩:=Jhl he
  obtain ⟨j,hj,r1,_⟩:=Jev (p:=p) (Jdh hv) g hg
  obtain ⟨k1,k2⟩:=Jhj h2
  rw [r1] at k1 k2
  have hn:=JfO (Jbl.1 hv).2.1 (a:=a) hj
  rw [Jge Om hn.1] at k2
  show e.num < _
  rw [k2]
  split <;> omega
 ·split at hx
  ·rcases List.mem_cons.1 hx with rfl | hx
   ·show 102 < _;decide
   ·rw [List.mem_singleton.1 hx];show 117 < _;decide
  ·cases hx
theorem JBx {p:Pol} {l:List TRow} (hv:(Jaq p l).2=0) (hc:∀r∈p.rules,∀c∈r.conds,c.ok) (h40:p.rules.length≤40) (h12:∀r∈p.rules,r.conds.length≤12):PlanW (JbB p l) where
 s:=JBn (Nat.le_trans (Jtc p.dflt p.rules) h40) fun r hr=> by
  obtain ⟨r0,h0,h1⟩:=JgR hr
  exact Nat.le_trans (Jdg h1).1 (h12 r0 h0)
 conds:=fun a e he r hr c hcc=> by
  have h:=Jys hc he hr hcc
  obtain ⟨q1,q2,_⟩:=Jaz.1 h.2.1
  exact ⟨h.1,⟨q1,by omega⟩,h.2.2.2⟩
 up:=fun a ha=> Jux hv Om
 num:=fun a ha x hx=> JyJ hv ha hx
 sub:=fun k=> Juy hv k
end Go.Proofs.W

namespace Go.Proofs.W
open Go.Vl
set_option maxRecDepth 100000
theorem JwW (P:Plan) (m:Mk):m.le (Jd8 P m):=by
 unfold Jd8
 dsimp only
 have h0:=(Jfj m P.dflt).trans (Jap _ [⟨0,0x15,4294967295,(JA m P.dflt).1,0⟩])
 split
 ·exact h0.trans ((JhJ _).trans ((Jap _ _).trans ((Jcn P _ 0).trans ((JcC _ _).trans (Jcn P _ 1)))))
 ·exact h0.trans ((Jfj _ _).trans ((Jap _ _).trans (Jcn P _ 0)))
set_option maxHeartbeats 4000000 in
theorem JwX (s0 s1 nx:Nat) (m:Mk) (oi:Option Nat) (P:Plan) (hP:PlanW P) (h0:oi=none→m.l= []) (hb:b0 m) (hf:(Jd8 P m).fits):
 ECall Tryz.prog 38 [.bp (0,s0) 0,Jca P] ⟨mkB s0 s1 m oi,mkP m oi,nx,3⟩ (MkQ s0 s1 (Jd8 P m) (.tup [])):=by
 refine ECall.wk (Jn Tryz.func38 rfl rfl ?_)
 generalize hR:Jd8 P m=R at hf⊢
 unfold Jd8 at hR
 dsimp only at hR
 have hf1:(JD (JA m P.dflt).2 [⟨0,0x15,4294967295,(JA m P.dflt).1,0⟩]).fits:=by
  cases hx:P.x32 with
  | true=> rw [hx,if_pos rfl] at hR;subst hR;exact ((JhJ _).trans ((Jap _ _).trans ((Jcn P _ 0).trans ((JcC _ _).trans (Jcn P _ 1))))).fits hf
  | false=> rw [hx,if_neg Bool.false_ne_true] at hR;subst hR;exact ((Jfj _ _).trans ((Jap _ _).trans (Jcn P _ 0))).fits hf
 have hb1:b0 (JD (JA m P.dflt).2 [⟨0,0x15,4294967295,(JA m P.dflt).1,0⟩]):=Jgo (c:=P.dflt) hb
 unfold Jca
 refine stp ?_
 refine Jf (xs:= [.bp (0,s0) 0,u32 P.dflt]) [((3,nx), .c (JaZ P))] [] 4 rfl rfl rfl rfl ⟨Rf,Rf,trivial⟩ (Jey s0 s1 (nx+1) m oi P.dflt h0 hb ((Jap _ _).fits hf1)) Bf Pf rfl fun r h' hq=> ?_
 obtain ⟨oi2,nx2,nn2,rfl,h2,rfl⟩:=hq
 unfold JaZ
 refine stp ?_
 refine Jf (xs:= [.bp (0,s0) 0,JaB [⟨0,0x15,4294967295,(JA m P.dflt).1,0⟩]]) [((3,nx), .c (JaZ P))] [] 4 rfl rfl rfl rfl ⟨Rf,JeV (fun k hk=> by match k,hk with | 0,_=> rfl),trivial⟩ (Jak s0 s1 nx2 _ oi2 _ h2 (by simp) hf1) Bf Pf rfl fun r h' hq=> ?_
 obtain ⟨oi3,nx3,nn3,rfl,h3,rfl⟩:=hq
 generalize JD (JA m P.dflt).2 [(⟨0, 0x15, 4294967295, (JA m P.dflt).1, 0⟩ : Itm)] = m1 at *
 unfold JaZ
 refine stp ?_
 intro c hc
 cases hx:P.x32 with
 | false=>
   have hc2:c=false:=hc.trans hx
   rw [hx] at hR
   clear hc
   cases hc2
   rw [if_neg Bool.false_ne_true] at hR
   subst hR
   refine stp ?_
   refine Jf (xs:= [.bp (0,s0) 0,u32 (2147483648:Nat)]) [_] [] 4 rfl rfl rfl rfl ⟨Rf,Rf,trivial⟩ (Jey s0 s1 nx3 m1 oi3 2147483648 h3 hb1 (((Jap _ _).trans (Jcn P _ 0)).fits hf)) Bf Pf rfl fun r h' hq=> ?_
   obtain ⟨oi4,nx4,nn4,rfl,h4,rfl⟩:=hq
   refine stp ?_
   refine Jf (xs:= [.bp (0,s0) 0,JaB [⟨0,0x45,1073741824,(JA m1 2147483648).1,0⟩]]) [_] [] 4 rfl rfl rfl rfl ⟨Rf,JeV (fun k hk=> by match k,hk with | 0,_=> rfl),trivial⟩ (Jak s0 s1 nx4 _ oi4 _ h4 (by simp) ((Jcn P _ 0).fits hf)) Bf Pf rfl fun r h' hq=> ?_
   obtain ⟨oi5,nx5,nn5,rfl,h5,rfl⟩:=hq
   refine stp ?_
   refine Jf (xs:= [.bp (0,s0) 0,Jca P,int (0:Nat)]) [_] [] 4 rfl rfl rfl rfl ⟨Rf,AVle.of_eq (by unfold Jca;rw [hx];rfl),Rf,trivial⟩ (JfD s0 s1 nx5 _ oi5 P hP 0 Dc h5 (Jgo (c:=2147483648) hb1) hf) Bf Pf rfl fun r h' hq=> ?_
   obtain ⟨oi6,nx6,nn6,rfl,h6,rfl⟩:=hq
   refine stp ?_
   exact Jr rfl ⟨.tup [],⟨mkB s0 s1 _ oi6,mkP _ oi6,nx6,3⟩,Rf,Jq _ _ rfl (.cons _ Sf) Sf Bf Pf,oi6,nx6,3,rfl,h6,rfl⟩
 | true=>
   have hc2:c=true:=hc.trans hx
   rw [hx] at hR
   clear hc
   cases hc2
   rw [if_pos rfl] at hR
   subst hR
   have hb2:b0 (JaQ P (JD (Jx m1) [⟨0,0x45,1073741824,m1.n+1,0⟩]) 0):=JyF hb1
   have hf3:=((JcC _ _).trans (Jcn P _ 1)).fits hf
   have hf4:=(Jcn P _ 0).fits hf3
   refine stp ?_
   refine Jf (xs:= [.bp (0,s0) 0]) [_] [] 4 rfl rfl rfl rfl ⟨Rf,trivial⟩ (JdE s0 s1 nx3 m1 oi3 h3 ((Jap _ _).fits hf4)) Bf Pf rfl fun r h' hq=> ?_
   obtain ⟨oi4,nx4,nn4,rfl,h4,rfl⟩:=hq
   refine stp ?_
   refine Jf (xs:= [.bp (0,s0) 0,JaB [⟨0,0x45,1073741824,m1.n+1,0⟩]]) [_] [] 4 rfl rfl rfl rfl ⟨Rf,JeV (fun k hk=> by match k,hk with | 0,_=> rfl),trivial⟩ (Jak s0 s1 nx4 _ oi4 _ h4 (by simp) hf4) Bf Pf rfl fun r h' hq=> ?_
   obtain ⟨oi5,nx5,nn5,rfl,h5,rfl⟩:=hq
   refine stp ?_
   refine Jf (xs:= [.bp (0,s0) 0,Jca P,int (0:Nat)]) [_] [] 4 rfl rfl rfl rfl ⟨Rf,AVle.of_eq (by unfold Jca;rw [hx];rfl),Rf,trivial⟩ (JfD s0 s1 nx5 _ oi5 P hP 0 Dc h5 hb1 hf3) Bf Pf rfl fun r h' hq=> ?_
   obtain ⟨oi6,nx6,nn6,rfl,h6,rfl⟩:=hq
   refine stp ?_
   refine Jf (xs:= [.bp (0,s0) 0,int (m1.n+1:Nat)]) [_] [] 4 rfl rfl rfl rfl ⟨Rf,Rf,trivial⟩ (Jex s0 s1 nx6 _ oi6 (m1.n+1) h6 ((Jcn P _ 1).fits hf)) Bf Pf rfl fun r h' hq=> ?_
   obtain ⟨oi7,nx7,nn7,rfl,h7,rfl⟩:=hq
   refine stp ?_
   refine Jf (xs:= [.bp (0,s0) 0,Jca P,int (1:Nat)]) [_] [] 4 rfl rfl rfl rfl ⟨Rf,AVle.of_eq (by unfold Jca;rw [hx];rfl),Rf,trivial⟩ (JfD s0 s1 nx7 _ oi7 P hP 1 Dc h7 hb2 hf) Bf Pf rfl fun r h' hq=> ?_
   obtain ⟨oi8,nx8,nn8,rfl,h8,rfl⟩:=hq
   refine stp ?_
   exact Jr rfl ⟨.tup [],⟨mkB s0 s1 _ oi8,mkP _ oi8,nx8,3⟩,Rf,Jq _ _ rfl (.cons _ Sf) Sf Bf Pf,oi8,nx8,3,rfl,h8,rfl⟩
end Go.Proofs.W

namespace Go.Proofs.W
open Go.Vl
set_option maxRecDepth 100000
def JbX (l:List Value) (k:Nat):AV:= .v (l.getD k (.bool false))
theorem JB7:Tryz.prog.bytesOf 3=8:=by kernel_rfl
set_option maxHeartbeats 1000000 in
theorem JoL {it:FuncId} {es:List (Value×AV)} {S:List Value→Prop} (hit:Jel Tryz.prog it [] [.rp [.fm es]] (fun v:Value=> [.v v]) S) (hS:∀xs,S xs→xs.length≤1000000∧∀v∈xs,∃z,v= .int .i64 z) (nx:Nat):
 ECall Tryz.prog 139 [.os 0 0 (fun _=> .any) none, .fn (.func it) [] [.rp [.fm es]]] ⟨[], [],nx,0⟩ fun r h'=> ∃xs oi nx' nn',S xs∧(oi=none→xs= [])∧r= .os 1 xs.length (JbX xs) oi∧h'=⟨[],Jac oi (xs.length * 1),nx',nn'⟩:=by
 refine ECall.wk (Jn Tryz.func139 rfl rfl ?_)
 refine stp ?_
 refine AW.le (E':=mk 13 [(2, .bp (0,nx) 0),(6, .fn (.func it) [] [.rp [.fm es]])] ⟨[((0,nx), .c [.os 1 0 (JbX []) none])], [],nx+1,1⟩) ?_ ?_
 ·exact Jc _ _ rfl rfl Sf .slnil ⟨rfl,⟨AVle.os_nil,trivial⟩,trivial⟩ trivial ⟨Rf,Rf,trivial⟩
 refine JmE (σ:=Nat×(Nat→AV)×Option Vl.Id) (α:=Value) (e:=fun v=> [.v v]) (S:=S) (first':= []) (caps':= [.rp [.fm es]]) (fun x=> [((0,nx), .c [.os 1 x.1 x.2.1 x.2.2])]) (fun x=> Jac x.2.2 (x.1 * 1)) (fun pre x=> x.1=pre.length∧(∀k,k < x.1→x.2.1 k=JbX pre k)∧(x.2.2=none→pre= [])) (0,JbX [],none) rfl rfl hit (LeL.refl _) (LeL.refl _) rfl rfl ⟨rfl,fun _ _=> rfl,fun _=> rfl⟩ (fun _=> rfl) ?_ ?_
 ·rintro pre x post ⟨n,f,oi⟩ nx3 nn3 hx ⟨hp,hf,ho⟩
  dsimp only at hp hf ho
  subst hp
  obtain ⟨hlen,hty⟩:=hS _ hx
  obtain ⟨z,rfl⟩:=hty x (by simp)
  simp at hlen
  refine Jy ?_
  refine JQ ?_
  refine Jy ?_
  refine JE (fun n=> match n with | 0=> true | _=> false) 4 ?_
  refine stp ?_
  refine JdK (e:=3) (c:=1) (pm:= []) (n:=pre.length) (oi:=oi) (sz:=1) (f:=f) rfl rfl (.inr ⟨_,rfl⟩) (by kernel_rfl) (by kernel_rfl) (by kernel_rfl) (.inr rfl) (by kernel_rfl) (List.append_nil _).symm (JM rfl) (by rw [JB7];omega) Om ?_
  refine stp ?_
  refine ⟨(pre.length+1,_,some (nn3,nx3)), .inl ⟨rfl,by simp,fun k hk=> ?_,fun h=> by cases h⟩,rfl,rfl⟩
  refine Jbh (fun k hk=> ?_) ?_ k hk
  ·rw [hf k hk];simp [JbX,List.getD,List.getElem?_append_left hk,hk]
  ·simp [JbX,List.getD];rfl
 ·rintro xs ⟨n,f,oi⟩ nx3 nn3 hx ⟨hp,hf,ho⟩
  dsimp only at hp hf ho
  subst hp
  refine stp ?_
  refine Jr rfl ⟨.os 1 xs.length (JbX xs) oi,⟨[],Jac oi (xs.length * 1),nx3,0⟩,AVle.os_fun hf, ?_,xs,oi,nx3,0,hx,ho,rfl,rfl⟩
  exact Jq [] _ rfl (List.nil_sublist _) Sf trivial Pf
theorem JB8:Tryz.prog.bytesOf 28=4:=by kernel_rfl
set_option maxHeartbeats 1000000 in
theorem JoM {it:FuncId} {es:List (Value×AV)} {S:List Value→Prop} (hit:Jel Tryz.prog it [] [.rp [.fm es]] (fun v:Value=> [.v v]) S) (hS:∀xs,S xs→xs.length≤1000000∧∀v∈xs,∃z,v= .int .u32 z) (nx:Nat):
 ECall Tryz.prog 150 [.os 0 0 (fun _=> .any) none, .fn (.func it) [] [.rp [.fm es]]] ⟨[], [],nx,0⟩ fun r h'=> ∃xs oi nx' nn',S xs∧(oi=none→xs= [])∧r= .os 1 xs.length (JbX xs) oi∧h'=⟨[],Jac oi (xs.length * 1),nx',nn'⟩:=by
 refine ECall.wk (Jn Tryz.func150 rfl rfl ?_)
 refine stp ?_
 refine AW.le (E':=mk 13 [(2, .bp (0,nx) 0),(6, .fn (.func it) [] [.rp [.fm es]])] ⟨[((0,nx), .c [.os 1 0 (JbX []) none])], [],nx+1,1⟩) ?_ ?_
 ·exact Jc _ _ rfl rfl Sf .slnil ⟨rfl,⟨AVle.os_nil,trivial⟩,trivial⟩ trivial ⟨Rf,Rf,trivial⟩
 refine JmE (σ:=Nat×(Nat→AV)×Option Vl.Id) (α:=Value) (e:=fun v=> [.v v]) (S:=S) (first':= []) (caps':= [.rp [.fm es]]) (fun x=> [((0,nx), .c [.os 1 x.1 x.2.1 x.2.2])]) (fun x=> Jac x.2.2 (x.1 * 1)) (fun pre x=> x.1=pre.length∧(∀k,k < x.1→x.2.1 k=JbX pre k)∧(x.2.2=none→pre= [])) (0,JbX [],none) rfl rfl hit (LeL.refl _) (LeL.refl _) rfl rfl ⟨rfl,fun _ _=> rfl,fun _=> rfl⟩ (fun _=> rfl) ?_ ?_
 ·rintro pre x post ⟨n,f,oi⟩ nx3 nn3 hx ⟨hp,hf,ho⟩
  dsimp only at hp hf ho
  subst hp
  obtain ⟨hlen,hty⟩:=hS _ hx
  obtain ⟨z,rfl⟩:=hty x (by simp)
  simp at hlen
  refine Jy ?_
  refine JQ ?_
  refine Jy ?_
  refine JE (fun n=> match n with | 0=> true | _=> false) 4 ?_
  refine stp ?_
  refine JdK (e:=28) (c:=1) (pm:= []) (n:=pre.length) (oi:=oi) (sz:=1) (f:=f) rfl rfl (.inr ⟨_,rfl⟩) (by kernel_rfl) (by kernel_rfl) (by kernel_rfl) (.inr rfl) (by kernel_rfl) (List.append_nil _).symm (JM rfl) (by rw [JB8];omega) Om ?_
  refine stp ?_
  refine ⟨(pre.length+1,_,some (nn3,nx3)), .inl ⟨rfl,by simp,fun k hk=> ?_,fun h=> by cases h⟩,rfl,rfl⟩
  refine Jbh (fun k hk=> ?_) ?_ k hk
  ·rw [hf k hk];simp [JbX,List.getD,List.getElem?_append_left hk,hk]
  ·simp [JbX,List.getD];rfl
 ·rintro xs ⟨n,f,oi⟩ nx3 nn3 hx ⟨hp,hf,ho⟩
  dsimp only at hp hf ho
  subst hp
  refine stp ?_
  refine Jr rfl ⟨.os 1 xs.length (JbX xs) oi,⟨[],Jac oi (xs.length * 1),nx3,0⟩,AVle.os_fun hf, ?_,xs,oi,nx3,0,hx,ho,rfl,rfl⟩
  exact Jq [] _ rfl (List.nil_sublist _) Sf trivial Pf
end Go.Proofs.W

namespace Go.Proofs
open Go.Shelf
shelf_lay_g SlLaysM.n5 Slgm 5 at Tryz 79 as Tryz.laysM5
end Go.Proofs
namespace Go.Proofs.W
open Go.Vl Go.Shelf
set_option maxRecDepth 100000
def Jg0 (z:Int):AV:= .v (.int .i64 z)
def Jlc (s:Nat) (d:Array Int) (tl:List AV):List (Vl.Id×Own):= [((0,s), .c (JaS Jg0 d tl))]
theorem Jre (l:List Int):l.mergeSort (fun x y=> decide (x≤y))=JV Go.Sort.ltInt l:=by
 unfold JV
 congr 1
 funext x y
 simp only [Go.Sort.ltInt]
 by_cases h:x≤y
 ·rw [decide_eq_true h,decide_eq_false Om];rfl
 ·rw [decide_eq_false h,decide_eq_true Om];rfl
theorem JwY (d0:Array Int) (tl:List AV) (n:Nat) (hn:d0.size=n) (hsz:n≤1000000) (s cap nx:Nat):
 ECall Tryz.prog 79 [.hs (0,s) 0 n cap] ⟨Jlc s d0 tl, [],nx,1⟩ (fun r h'=> ∃nx' nn',h'=⟨Jlc s (JV Go.Sort.ltInt d0.toList).toArray tl, [],nx',nn'⟩):=by
 subst hn
 have h:=Jhs (P:=Tryz.prog) (enc:=Value.int .i64) (d:=d0) (d':=(JV Go.Sort.ltInt d0.toList).toArray) (tl:=tl) (nm:=0) (s:=s) (cap:=cap) (nx:=nx) (nn:=1) (f:=79) ⟨_,Tryz.func79,rfl,rfl⟩ (by simp [JaK]) (fun w blk hH hb=> by
  have k:=AnyM.slices_Sort_int Tryz.laysM5 blk 0 cap d0.toList w hH hb (by simp;omega)
  rw [Jre] at k
  exact k)
 exact h.mono fun r h' ⟨_,h2⟩=> ⟨nx,1,h2⟩
theorem JwZ (F:Nat→AV):Tells Tryz.prog 79 [.os 1 0 F none] (.tup []):=
 Jht (nx:=0) ⟨_,Tryz.func79,rfl,rfl⟩ fun p cap w=> AnyM.slices_Sort_int_none Tryz.laysM5 p cap w
def Jtt:Value→Int
 | .int _ z=> z
 | _=> 0
end Go.Proofs.W

namespace Go.Proofs.W
open Go.Vl
set_option maxRecDepth 100000
theorem Jw0 (es:List (Value×AV)) (hky:∀p∈es,∃z,p.1= .int .i64 z):Jel Tryz.prog 80 [] [.rp [.fm es]] (fun v:Value=> [.v v]) (fun xs=> xs.Perm (es.map (·.1))):=by
 intro i σ Cb Cp I J hc s0 nx nn h0
 refine ECall.wk (Jn Tryz.func80 rfl rfl ?_)
 refine Jy ?_
 refine JE (fun n=> match n with | 0=> true | _=> false) 2 ?_
 refine stp ?_
 refine Jie rfl Tryz.underlying108 rfl ?_
 refine stp ?_
 refine Js (fun y:List Nat×σ×Nat=> mk 14 [(0, .yl i),(5, .bp (nn,nx) 0)] ⟨((nn,nx), .it es y.1)::Cb y.2.1,Cp y.2.1,y.2.2,nn+1⟩) (fun y=> y.1.Nodup∧(∀j∈y.1,j < es.length)∧I (y.1.map (JbJ es)) y.2.1) (fun y=> es.length - y.1.length) ?_ ?_
 ·exact ⟨([],s0,nx+1),⟨List.nodup_nil,(fun j (h:j∈ [])=> by cases h),h0⟩,Et rfl rfl ⟨rfl,OwnLe.refl _,Bf⟩ Pf ⟨Rf,Rf,trivial⟩⟩
 ·rintro ⟨seen,s,nx1⟩ ⟨h1,h2,h3⟩
  dsimp only at h1 h2 h3
  refine Jy ?_
  refine JE (fun n=> match n with | 0=> true | _=> false) 1 ?_
  refine Ji5 (i:=(nn,nx)) (es:=es) (seen:=seen) (R:=Cb s) rfl rfl rfl (fun k p hk hn=> ?_) (fun hall=> ?_)
  ·obtain ⟨z,hz⟩:=hky p (List.mem_of_getElem? hk)
   obtain ⟨key,val⟩:=p
   dsimp only at hz
   subst hz
   have hk2:k < es.length:=(List.getElem?_eq_some_iff.1 hk).1
   have hka:JbJ es k= .int .i64 z:=Jio hk
   obtain ⟨post,hperm⟩:=Ji6 h1 h2 hk2 hn
   have hS:(seen.map (JbJ es)++(.int .i64 z)::post.map (JbJ es)).Perm (es.map (·.1)):=by
    rw [← JeX,← hka]
    simpa using hperm.map (JbJ es)
   have hlen:=hperm.length_eq
   have hnd:(seen++ [k]).Nodup:=by
    rw [List.nodup_append]
    exact ⟨h1,by simp,fun a ha b hb hab=> by rw [List.mem_singleton] at hb;subst hb;subst hab;exact hn ha⟩
   have hlt:∀j∈seen++ [k],j < es.length:=fun j hj=> by
    rcases List.mem_append.1 hj with h | h
    ·exact h2 j h
    ·rw [List.mem_singleton] at h;omega
   have hmk:(seen++ [k]).map (JbJ es)=seen.map (JbJ es)++ [.int .i64 z]:=by rw [List.map_append,← hka];rfl
   have hlen2:seen.length < es.length:=by simp at hlen;omega
   refine Jy ?_
   refine JE (fun n=> match n with | 0=> true | _=> false) 1 ?_
   refine Jif (i:=(nn,nx)) (seen:=seen) (k:=k) (R:=Cb s) rfl rfl rfl hk ?_
   refine Jy ?_
   refine JE (fun n=> match n with | 0=> true | _=> false) 3 ?_
   refine stp ?_
   refine Jd5 [((nn,nx), .it es (seen++ [k]))] [] rfl rfl rfl (hc _ hS) rfl h3 ⟨Rf,trivial⟩ (fun s' nx' hI=> ?_) (fun s' nx' hJ=> ?_)
   ·refine stp ?_
    exact back (seen++ [k],s',nx') ⟨hnd,hlt,by dsimp only;rw [hmk];exact hI⟩ (by simp;omega) (Et rfl rfl Bf Pf ⟨Rf,Rf,trivial⟩)
   ·refine stp ?_
    exact Jr rfl ⟨_,⟨Cb s',Cp s',nx',nn⟩,Rf,Jq _ _ rfl (.cons _ Sf) Sf Bf Pf,_,s',hS, .inr ⟨_,_,_,rfl,hJ⟩,rfl,rfl⟩
  ·refine stp ?_
   refine Jr rfl ⟨_,⟨Cb s,Cp s,nx1,nn⟩,Rf,Jq _ _ rfl (.cons _ Sf) Sf Bf Pf,_,s, ?_, .inl h3,rfl,rfl⟩
   rw [← JeX]
   exact (Ji7 h1 h2 hall).map _
theorem Jw1 (es:List (Value×AV)) (hky:∀p∈es,∃z,p.1= .int .u32 z):Jel Tryz.prog 85 [] [.rp [.fm es]] (fun v:Value=> [.v v]) (fun xs=> xs.Perm (es.map (·.1))):=by
 intro i σ Cb Cp I J hc s0 nx nn h0
 refine ECall.wk (Jn Tryz.func85 rfl rfl ?_)
 refine Jy ?_
 refine JE (fun n=> match n with | 0=> true | _=> false) 2 ?_
 refine stp ?_
 refine Jie rfl Tryz.underlying104 rfl ?_
 refine stp ?_
 refine Js (fun y:List Nat×σ×Nat=> mk 14 [(0, .yl i),(5, .bp (nn,nx) 0)] ⟨((nn,nx), .it es y.1)::Cb y.2.1,Cp y.2.1,y.2.2,nn+1⟩) (fun y=> y.1.Nodup∧(∀j∈y.1,j < es.length)∧I (y.1.map (JbJ es)) y.2.1) (fun y=> es.length - y.1.length) ?_ ?_
 ·exact ⟨([],s0,nx+1),⟨List.nodup_nil,(fun j (h:j∈ [])=> by cases h),h0⟩,Et rfl rfl ⟨rfl,OwnLe.refl _,Bf⟩ Pf ⟨Rf,Rf,trivial⟩⟩
 ·rintro ⟨seen,s,nx1⟩ ⟨h1,h2,h3⟩
  dsimp only at h1 h2 h3
  refine Jy ?_
  refine JE (fun n=> match n with | 0=> true | _=> false) 1 ?_
  refine Ji5 (i:=(nn,nx)) (es:=es) (seen:=seen) (R:=Cb s) rfl rfl rfl (fun k p hk hn=> ?_) (fun hall=> ?_)
  ·obtain ⟨z,hz⟩:=hky p (List.mem_of_getElem? hk)
   obtain ⟨key,val⟩:=p
   dsimp only at hz
   subst hz
   have hk2:k < es.length:=(List.getElem?_eq_some_iff.1 hk).1
   have hka:JbJ es k= .int .u32 z:=Jio hk
   obtain ⟨post,hperm⟩:=Ji6 h1 h2 hk2 hn
   have hS:(seen.map (JbJ es)++(.int .u32 z)::post.map (JbJ es)).Perm (es.map (·.1)):=by
    rw [← JeX,← hka]
    simpa using hperm.map (JbJ es)
   have hlen:=hperm.length_eq
   have hnd:(seen++ [k]).Nodup:=by
    rw [List.nodup_append]
    exact ⟨h1,by simp,fun a ha b hb hab=> by rw [List.mem_singleton] at hb;subst hb;subst hab;exact hn ha⟩
   have hlt:∀j∈seen++ [k],j < es.length:=fun j hj=> by
    rcases List.mem_append.1 hj with h | h
    ·exact h2 j h
    ·rw [List.mem_singleton] at h;omega
   have hmk:(seen++ [k]).map (JbJ es)=seen.map (JbJ es)++ [.int .u32 z]:=by rw [List.map_append,← hka];rfl
   have hlen2:seen.length < es.length:=by simp at hlen;omega
   refine Jy ?_
   refine JE (fun n=> match n with | 0=> true | _=> false) 1 ?_
   refine Jif (i:=(nn,nx)) (seen:=seen) (k:=k) (R:=Cb s) rfl rfl rfl hk ?_
   refine Jy ?_
   refine JE (fun n=> match n with | 0=> true | _=> false) 3 ?_
   refine stp ?_
   refine Jd5 [((nn,nx), .it es (seen++ [k]))] [] rfl rfl rfl (hc _ hS) rfl h3 ⟨Rf,trivial⟩ (fun s' nx' hI=> ?_) (fun s' nx' hJ=> ?_)
   ·refine stp ?_
    exact back (seen++ [k],s',nx') ⟨hnd,hlt,by dsimp only;rw [hmk];exact hI⟩ (by simp;omega) (Et rfl rfl Bf Pf ⟨Rf,Rf,trivial⟩)
   ·refine stp ?_
    exact Jr rfl ⟨_,⟨Cb s',Cp s',nx',nn⟩,Rf,Jq _ _ rfl (.cons _ Sf) Sf Bf Pf,_,s',hS, .inr ⟨_,_,_,rfl,hJ⟩,rfl,rfl⟩
  ·refine stp ?_
   refine Jr rfl ⟨_,⟨Cb s,Cp s,nx1,nn⟩,Rf,Jq _ _ rfl (.cons _ Sf) Sf Bf Pf,_,s, ?_, .inl h3,rfl,rfl⟩
   rw [← JeX]
   exact (Ji7 h1 h2 hall).map _
end Go.Proofs.W

namespace Go.Proofs.W
open Go.Vl
set_option maxRecDepth 100000
theorem JoN (es:List (Value×AV)):Tells Tryz.prog 36 [.fm es] (.fn (.func 80) [] [.rp [.fm es]]):=by
 refine Jd Tryz.func36 rfl rfl fun nx=> ?_
 (repeat ((conv=>whnf);first|refine ω0 ?_|refine ω1 ?_|refine ω2 ?_|refine ω3 ?_|refine ω4 rfl ?_|refine ω5 rfl ?_|refine ω6 ?_|refine ω7 ?_|refine ⟨rfl,?_⟩|refine ⟨trivial,?_⟩|refine ⟨⟨rfl,Nat.le_of_ble_eq_true rfl⟩,?_⟩|refine ⟨⟨by kernel_rfl,by kernel_rfl⟩,?_⟩|refine ⟨by decide,?_⟩|refine Jde ?_|refine JcR ?_))
 refine AW.le (Jcq (L:= [(2, .fn (.func 80) [] [.rp [.fm es]])]) (bx:= []) (pm:= []) (nn:=1) [((0,nx), .c [.fm es])] rfl rfl Sf .slnil ⟨Frz.fn trivial ⟨Frz.bp (.head _) rfl,trivial⟩,trivial⟩) ?_
 refine stp ?_
 exact Jb rfl Rf
theorem Jrf (es:List (Value×AV)) (hl:es.length≤1000000) (hky:∀p∈es,∃z,p.1= .int .i64 z) (nx:Nat):
 ECall Tryz.prog 78 [.fn (.func 80) [] [.rp [.fm es]]] ⟨[], [],nx,0⟩ (JoU (fun n f=> ∃xs:List Value,xs.Perm (es.map (·.1))∧n=xs.length∧∀k,k < n→f k=JbX xs k) 1):=by
 refine Jig Dc (fun n f ⟨xs,_,_,hf⟩ k hk c hc=> ?_) ?_
 ·rw [hf k hk] at hc
  obtain rfl:c=JbX xs k:=by simpa [JbX,AV.cells] using hc
  exact Flat.v _
 refine ECall.wk (Jn Tryz.func78 rfl rfl ?_)
 refine stp ?_
 refine JbN rfl rfl (ECall.args (bs:= [.os 0 0 (fun _=> .any) none, .fn (.func 80) [] [.rp [.fm es]]]) ⟨Rf,Rf,trivial⟩ (JoL (Jw0 es hky) (fun xs hx=> ⟨by have:=hx.length_eq;simp at this;omega,fun v hv=> ?_⟩) nx)) fun r h' hq=> ?_
 ·obtain ⟨p,hp,rfl⟩:=List.mem_map.1 (hx.mem_iff.1 hv)
  exact hky p hp
 obtain ⟨xs,oi,nx',nn',hS,ho,rfl,rfl⟩:=hq
 refine Named.same ?_
 refine stp ?_
 exact Jr rfl ⟨_,_,Rf,HLe.refl _,xs.length,JbX xs,oi,nx',_,⟨xs,hS,rfl,fun _ _=> rfl⟩,(fun h=> by rw [ho h];rfl),rfl,rfl⟩
theorem JoO (es:List (Value×AV)):Tells Tryz.prog 41 [.fm es] (.fn (.func 85) [] [.rp [.fm es]]):=by
 refine Jd Tryz.func41 rfl rfl fun nx=> ?_
 (repeat ((conv=>whnf);first|refine ω0 ?_|refine ω1 ?_|refine ω2 ?_|refine ω3 ?_|refine ω4 rfl ?_|refine ω5 rfl ?_|refine ω6 ?_|refine ω7 ?_|refine ⟨rfl,?_⟩|refine ⟨trivial,?_⟩|refine ⟨⟨rfl,Nat.le_of_ble_eq_true rfl⟩,?_⟩|refine ⟨⟨by kernel_rfl,by kernel_rfl⟩,?_⟩|refine ⟨by decide,?_⟩|refine Jde ?_|refine JcR ?_))
 refine AW.le (Jcq (L:= [(2, .fn (.func 85) [] [.rp [.fm es]])]) (bx:= []) (pm:= []) (nn:=1) [((0,nx), .c [.fm es])] rfl rfl Sf .slnil ⟨Frz.fn trivial ⟨Frz.bp (.head _) rfl,trivial⟩,trivial⟩) ?_
 refine stp ?_
 exact Jb rfl Rf
theorem Jrg (es:List (Value×AV)) (hl:es.length≤1000000) (hky:∀p∈es,∃z,p.1= .int .u32 z) (nx:Nat):
 ECall Tryz.prog 83 [.fn (.func 85) [] [.rp [.fm es]]] ⟨[], [],nx,0⟩ (JoU (fun n f=> ∃xs:List Value,xs.Perm (es.map (·.1))∧n=xs.length∧∀k,k < n→f k=JbX xs k) 1):=by
 refine Jig Dc (fun n f ⟨xs,_,_,hf⟩ k hk c hc=> ?_) ?_
 ·rw [hf k hk] at hc
  obtain rfl:c=JbX xs k:=by simpa [JbX,AV.cells] using hc
  exact Flat.v _
 refine ECall.wk (Jn Tryz.func83 rfl rfl ?_)
 refine stp ?_
 refine JbN rfl rfl (ECall.args (bs:= [.os 0 0 (fun _=> .any) none, .fn (.func 85) [] [.rp [.fm es]]]) ⟨Rf,Rf,trivial⟩ (JoM (Jw1 es hky) (fun xs hx=> ⟨by have:=hx.length_eq;simp at this;omega,fun v hv=> ?_⟩) nx)) fun r h' hq=> ?_
 ·obtain ⟨p,hp,rfl⟩:=List.mem_map.1 (hx.mem_iff.1 hv)
  exact hky p hp
 obtain ⟨xs,oi,nx',nn',hS,ho,rfl,rfl⟩:=hq
 refine Named.same ?_
 refine stp ?_
 exact Jr rfl ⟨_,_,Rf,HLe.refl _,xs.length,JbX xs,oi,nx',_,⟨xs,hS,rfl,fun _ _=> rfl⟩,(fun h=> by rw [ho h];rfl),rfl,rfl⟩
end Go.Proofs.W

namespace Go.Proofs.W
open Go.Vl
set_option maxRecDepth 100000
theorem Jst (es:List (Value×AV)) (zs:List (Int)) (hz:es.map (·.1)=zs.map (Value.int .i64)) (hl:es.length≤1000000):
 Tells Tryz.prog 35 [.fn (.func 80) [] [.rp [.fm es]]] (JK 1 Jg0 0 (JV Go.Sort.ltInt zs)):=by
 have hky:∀p∈es,∃z,p.1=Value.int .i64 z:=fun p hp=> by
  have:p.1∈zs.map (Value.int .i64):=hz ▸ List.mem_map_of_mem hp
  obtain ⟨z,_,h⟩:=List.mem_map.1 this
  exact ⟨z,h.symm⟩
 refine Jd Tryz.func35 rfl rfl fun nx=> ?_
 refine stp ?_
 refine JbN rfl rfl (Jrf es hl hky nx) fun r h' hq=> ?_
 obtain ⟨n,f,⟨xs,hxp,hxn,hxf⟩,hq⟩:=hq
 obtain ⟨ys,rfl⟩:∃ys:List (Int),xs=ys.map (Value.int .i64):=by
  have hall:∀v∈xs,∃z,v=Value.int .i64 z:=fun v hv=> by
   have hv2:=hxp.mem_iff.1 hv
   rw [hz] at hv2
   obtain ⟨z,_,h⟩:=List.mem_map.1 hv2
   exact ⟨z,h.symm⟩
  clear hxp hxn hxf hq
  induction xs with
  | nil=> exact ⟨[],rfl⟩
  | cons x xs ih=>
    obtain ⟨z,rfl⟩:=hall x (by simp)
    obtain ⟨ys,rfl⟩:=ih fun v hv=> hall v (by simp [hv])
    exact ⟨z::ys,rfl⟩
 have hperm:ys.Perm zs:=by
  rw [hz] at hxp
  have h2:=hxp.map Jtt
  rwa [List.map_map,List.map_map,show (Jtt∘(Value.int .i64))=id from rfl,List.map_id,List.map_id] at h2
 have hsz:n≤1000000:=by
  have:=hxp.length_eq
  simp at this
  rw [hxn];simp;omega
 rcases hq with ⟨rfl,hb,hp,rfl⟩ | ⟨s,cap,more,nx',nn',hcap,hmore,rfl,rfl⟩
 ·have hys:ys= []:=by cases ys with | nil=> rfl | cons y ys=> simp at hxn
  subst hys
  have hzs:zs= []:=hperm.symm.eq_nil
  subst hzs
  rw [show JV Go.Sort.ltInt ([]:List (Int))= [] from List.eq_nil_of_length_eq_zero JaK]
  obtain ⟨bx,pm,nxx,nnn⟩:=h'
  dsimp only at hb hp
  subst hb;subst hp
  refine Named.same ?_
  refine stp ?_
  refine Ja rfl rfl (JwZ f) ⟨Rf,trivial⟩ fun nx2=> ?_
  refine stp ?_
  exact Jb rfl AVle.os_sl0
 ·refine Named.same ?_
  have hcells:JC n f=ys.toArray.toList.map Jg0:=by
   have key:∀m,m≤n→JC m f=(ys.take m).map Jg0:=by
    intro m
    induction m with
    | zero=> intro _;rfl
    | succ m ih=>
      intro hm
      have hm':m < ys.length:=by simp at hxn;omega
      have e:JC (m+1) f=JC m f++(f m).cells:=by unfold JC;rw [List.range_succ,List.flatMap_append];simp
      rw [e,ih Om,hxf m Om,List.take_add_one,List.map_append]
      simp [JbX,List.getD,hm',AV.cells,Jg0]
   rw [key n (Nat.le_refl _),List.take_of_length_le (by simp at hxn;omega)]
  have hnn:ys.toArray.size=n:=by simp at hxn;simp [hxn]
  rw [hcells]
  refine Jy ?_
  refine AW.le (E':=mk 9 [(3, .hs (0,s) 0 n cap)] ⟨Jlc s ys.toArray (List.replicate more .any), [],nx',1⟩) (Jc _ _ rfl rfl Sf .slnil Bf trivial ⟨Rf,trivial⟩) ?_
  refine stp ?_
  refine Jf (xs:= [.hs (0,s) 0 n cap]) [] [] 1 rfl rfl rfl rfl ⟨Rf,trivial⟩ (JwY ys.toArray _ n hnn hsz s cap _) Bf Pf rfl fun r h' hq=> ?_
  obtain ⟨nx2,nn2,rfl⟩:=hq
  have hd:(JV Go.Sort.ltInt ys.toArray.toList).toArray.toList=JV Go.Sort.ltInt zs:=by
   show JV Go.Sort.ltInt ys=_
   exact Jeq Go.Sort.swo_ltInt Jhb hperm
  generalize (JV Go.Sort.ltInt ys.toArray.toList).toArray=d' at hd⊢
  have hdn:d'.size=n:=by
   rw [← Array.length_toList,hd,JaK,← hperm.length_eq]
   simpa using hnn
  have hln:(JV Go.Sort.ltInt zs).length=n:=by rw [← hd];simpa using hdn
  refine Jy ?_
  refine AW.le (Jcq (L:= [(3,JK 1 Jg0 0 (JV Go.Sort.ltInt zs))]) (bx:= []) (pm:= []) (nn:=1) [((0,s), .c (JaS Jg0 d' (List.replicate more .any)))] rfl rfl Sf .slnil ⟨?_,trivial⟩) ?_
  ·unfold JK
   rw [hln]
   refine Frz.hs1 (.head _) hcap (by rw [Jfi];omega) (fun k _=> rfl) (fun k hk=> ?_)
   unfold JaS
   rw [List.getElem?_append_left (by simpa [hdn] using hk),List.getElem?_map,← hd]
   have:k < d'.size:=by omega
   simp [List.getD,this]
  ·refine stp ?_
   exact Jb rfl Rf
end Go.Proofs.W

namespace Go.Proofs.W
open Go.Vl
set_option maxRecDepth 100000
def Jj (z:Int):AV:= .v (.int .u32 z)
theorem Jt:Tryz.prog.cellsOf 28=1:=by kernel_rfl
theorem Ja2:Tryz.prog.underlying 28=some (.int .u32):=by kernel_rfl
theorem Jcb (x y:Int):Tells Tryz.prog 205 [Jj x,Jj y] (.v (.bool (Go.Sort.ltInt x y))):=by
 have hn:∀z:Int,Tells Tryz.prog 74 [Jj z] (.v (.bool false)):=fun z=> by
  refine Jd Tryz.func74 rfl rfl fun nx=> ?_
  refine stp ?_
  (intro c hc;(first | (rw [bne_self_eq_false] at hc;subst hc) | (obtain rfl:c=false:=hc.trans (bne_self_eq_false _)));refine stp ?_)
  exact Jb rfl Rf
 refine Jd Tryz.func205 rfl rfl fun nx=> ?_
 refine stp ?_
 refine Ja rfl rfl (hn x) ⟨Rf,trivial⟩ fun nx1=> ?_
 refine stp ?_
 intro c h;cases c
 ·refine stp ?_
  exact Jb rfl (JP h)
 ·refine stp ?_
  exact Jb rfl (JP h)
def Jm (s:Nat) (d:Array (Int)) (tl:List AV):List (Vl.Id×Own):= [((0,s), .c (JaS Jj d tl))]
set_option maxHeartbeats 2000000 in
theorem JAt (d0:Array (Int)) (tl:List AV) (n a b:Nat) (hn:d0.size=n) (hab:a≤b) (hb:b≤n) (hsz:n≤1000000) (s cap nx:Nat):
 ECall Tryz.prog 199 [.hs (0,s) 0 n cap,int a,int b] ⟨Jm s d0 tl, [],nx,1⟩ (fun r h'=> ∃nx' nn',h'=⟨Jm s (Go.Sort.insertionSort Go.Sort.ltInt d0 a b) tl, [],nx',nn'⟩):=by
 refine ECall.wk (Jn Tryz.func199 rfl rfl ?_)
 refine stp ?_
 refine Js (fun y:Array (Int)×Nat×Nat=> mk 49 [(0, .hs (0,s) 0 n cap),(1,int a),(2,int b),(6,int y.2.1)] ⟨Jm s y.1 tl, [],y.2.2,1⟩) (fun y=> y.1.size=n∧a+1≤y.2.1∧y.2.1≤b+1∧Go.Sort.insOuter Go.Sort.ltInt a b y.2.1 y.1=Go.Sort.insertionSort Go.Sort.ltInt d0 a b) (fun y=> b+1 - y.2.1) ?_ ?_
 ·exact ⟨(d0,a+1,nx),⟨hn,Nat.le_refl _,by dsimp only;omega,rfl⟩,Jc _ _ rfl rfl Sf .slnil Bf trivial ⟨Rf,Rf,Rf,Lw,trivial⟩⟩
 ·rintro ⟨d,i,nx1⟩ ⟨h1,h2,h3,h4⟩
  dsimp only at h1 h2 h3 h4
  refine stp ?_
  intro c g;cases c
  ·have g:=Jw g
   try dsimp only at g
   rw [Go.Sort.insOuter,if_neg Om] at h4
   subst h4
   refine stp ?_
   exact Jr rfl ⟨_,_,Rf,Jq (Jm s (Go.Sort.insertionSort Go.Sort.ltInt d0 a b) tl) [] rfl Sf .slnil Bf Pf,_,1,rfl⟩
  ·have g:=Jv g
   try dsimp only at g
   have hi:i < b:=by omega
   rw [Go.Sort.insOuter,if_pos hi] at h4
   refine stp ?_
   refine Js (fun y:Array (Int)×Nat×Nat=> mk 49 [(0, .hs (0,s) 0 n cap),(1,int a),(2,int b),(6,int i),(7,int y.2.1)] ⟨Jm s y.1 tl, [],y.2.2,1⟩) (fun y=> y.1.size=n∧y.2.1≤i∧Go.Sort.insInner Go.Sort.ltInt a y.2.1 y.1=Go.Sort.insInner Go.Sort.ltInt a i d) (fun y=> y.2.1) ?_ ?_
   ·exact ⟨(d,i,nx1),⟨h1,Nat.le_refl _,rfl⟩,Jc _ _ rfl rfl Sf .slnil Bf trivial ⟨Rf,Rf,Rf,Rf,Rf,trivial⟩⟩
   ·rintro ⟨e,j,nx2⟩ ⟨k1,k2,k3⟩
    dsimp only at k1 k2 k3
    by_cases hja:a < j
    ·have hd:decide ((j:Int) > (a:Int))=true:=decide_eq_true Om
     have hj1:IntKind.i64.wrap ((j:Int) - 1)=((j - 1:Nat):Int):=by rw [Ju Om Om];omega
     refine stp ?_
     (refine JH 15 ?_ ?_ ?_ ?_;(· kernel_rfl);(· kernel_rfl);(· kernel_rfl))
     refine stp ?_
     (conv=> whnf)
     refine JaE hd ?_
     refine stp ?_
     refine ⟨⟨JF (i:=j) (rfl),JG (i:=j) (rfl) Om⟩,Jk (b:= .bp (0,s) (j)) (congrArg (AV.bp (0,s)) (JN (i:=j) Jt (rfl))) ?_⟩
     (conv=> whnf)
     refine ⟨⟨rfl,Jai (show j < e.size by omega)⟩,Jk (b:=Jj e[j]!) (J6 (show j < e.size by omega)) ?_⟩
     refine stp ?_
     refine ⟨⟨JF (i:=j - 1) (hj1),JG (i:=j - 1) (hj1) Om⟩,Jk (b:= .bp (0,s) (j - 1)) (congrArg (AV.bp (0,s)) (JN (i:=j - 1) Jt (hj1))) ?_⟩
     (conv=> whnf)
     refine ⟨⟨rfl,Jai (show j - 1 < e.size by omega)⟩,Jk (b:=Jj e[j - 1]!) (J6 (show j - 1 < e.size by omega)) ?_⟩
     refine stp ?_
     refine J8 (JR rfl rfl (Jcb e[j]! e[j - 1]!) ⟨Rf,Rf,trivial⟩ (NoId.v _)) ?_
     refine stp ?_
     intro c hlt;cases c
     ·have hl:Go.Sort.ltInt e[j]! e[j - 1]! =false:=hlt.symm
      rw [JpU hl] at k3
      subst k3
      refine stp ?_
      exact back (_,i+1,nx2) ⟨k1,by dsimp only;omega,by dsimp only;omega,h4⟩ Dm (Jc _ _ rfl rfl Sf .slnil Bf trivial ⟨Rf,Rf,Rf,Lw,trivial⟩)
     ·have hl:Go.Sort.ltInt e[j]! e[j - 1]! =true:=hlt.symm
      rw [JsR hja hl] at k3
      refine stp ?_
      refine Jcc 18 (fun i=> match i with | 15=> true | 17=> true | _=> false) (fun i=> match i with | 9=> true | 13=> true | _=> false) [0,1,2,3,4,5,6,7,8,10,11,12,9,13,14,15,16,17] (by kernel_rfl) (by kernel_rfl) ?_
      (conv=> whnf)
      refine ⟨⟨JF (i:=j - 1) (hj1),JG (i:=j - 1) (hj1) Om⟩, ?_⟩
      (conv=> whnf)
      refine ⟨⟨JF (i:=j) (rfl),JG (i:=j) (rfl) Om⟩, ?_⟩
      (conv=> whnf)
      refine ⟨Jj e[j - 1]!,Jae (E:=Jj) (d:=e) (tl:=tl) (j:=j - 1) rfl rfl rfl (JN (i:=j - 1) Jt (hj1)) rfl Ja2 rfl Om, ?_⟩
      (conv=> whnf)
      refine ⟨Jj e[j]!,Jae (E:=Jj) (d:=e) (tl:=tl) (j:=j) rfl rfl rfl (JN (i:=j) Jt (rfl)) rfl Ja2 rfl Om, ?_⟩
      (conv=> whnf)
      refine ⟨⟨JF (i:=j) (rfl),JG (i:=j) (rfl) Om⟩, ?_⟩
      (conv=> whnf)
      refine ⟨_,Jad (E:=Jj) (d:=e) (tl:=tl) (j:=j) (z:=e[j - 1]!) rfl rfl rfl rfl (JN (i:=j) Jt (rfl)) rfl rfl rfl rfl (by kernel_rfl) Jt Om,fun r0 h0 hr0=> ?_⟩
      subst hr0
      (conv=> whnf)
      refine ⟨⟨JF (i:=j - 1) (hj1),JG (i:=j - 1) (hj1) Om⟩, ?_⟩
      (conv=> whnf)
      refine ⟨_,Jad (E:=Jj) (d:=(e).setIfInBounds (j) e[j - 1]!) (tl:=tl) (j:=j - 1) (z:=e[j]!) rfl rfl rfl rfl (JN (i:=j - 1) Jt (hj1)) rfl rfl rfl rfl (by kernel_rfl) Jt (by simp;omega),fun r0 h0 hr0=> ?_⟩
      subst hr0
      refine stp ?_
      exact back (Go.Sort.swp e j (j - 1),j - 1,nx2) ⟨by dsimp only;rw [← k1];simp [Go.Sort.swp],by dsimp only;omega,k3⟩ Dm (Jc _ _ rfl rfl Sf .slnil Bf trivial ⟨Rf,Rf,Rf,Rf,Jg hj1,trivial⟩)
    ·have hd:decide ((j:Int) > (a:Int))=false:=decide_eq_false Om
     rw [JnG hja] at k3
     subst k3
     refine stp ?_
     (refine JH 15 ?_ ?_ ?_ ?_;(· kernel_rfl);(· kernel_rfl);(· kernel_rfl))
     refine stp ?_
     (conv=> whnf)
     refine JaE hd ?_
     refine stp ?_
     exact back (_,i+1,nx2) ⟨k1,by dsimp only;omega,by dsimp only;omega,h4⟩ Dm (Jc _ _ rfl rfl Sf .slnil Bf trivial ⟨Rf,Rf,Rf,Lw,trivial⟩)
end Go.Proofs.W
