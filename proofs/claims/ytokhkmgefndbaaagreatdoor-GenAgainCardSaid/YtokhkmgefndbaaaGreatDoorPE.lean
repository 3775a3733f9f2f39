import Derived.Test.YtokhkmgefndbaaaGreatDoorPD
import Derived.Test.YtokhkmgefndbaaaGreatDoorPC
import Derived.Ground.NamesProg
import Derived.Shelf.Lay
import Derived.Shelf.Small.Bits
import Derived.Lib.ItoaNum
import Derived.Sort.LotA
import Derived.Shelf.SortM.Plain
import Derived.Shelf.SortM.SortNone
import Derived.Shelf.SlGeneric
import Derived.Ground.SlgmProg
import Derived.Shelf.Strconv.Itoa3
import Derived.Test.YtokhkmgefndbaaaGreatDoorProg
set_option linter.unusedVariables false
set_option linter.unusedSimpArgs false
namespace Go.Proofs.W
open Go.Vl
set_option maxRecDepth 100000
theorem Jr1 (s:ByteArray) (hs:s.size≤9223372036854775807):Tells Tryz.prog 154 [JJ s] (Ji (JaI s.data.toList)):=by
 have key:∀b,JaI s.data.toList=b→Tells Tryz.prog 154 [JJ s] (Ji b):=fun b hb=> by
  have hr:=JoD s hs b hb
  refine Jd Tryz.func154 rfl rfl fun nx=> ?_
  refine stp ?_
  refine Ja rfl rfl hr ⟨?_,trivial⟩ fun nx1=> ?_
  ·refine AVle.os_sl.trans (AVle.sl_fun fun k hk=> ?_)
   match k,hk with
   | 0,_=> rfl
  cases b
  ·refine stp ?_
   exact Jb rfl Rf
  ·refine stp ?_
   exact Jb rfl Rf
 exact key _ rfl
theorem Jp1 (c:Cnd):Tells Tryz.prog 155 [J3 c] (Ji (!Jaa c)):=by
 have key:∀b,Jaa c=b→Tells Tryz.prog 155 [J3 c] (Ji (!b)):=fun b hb=> by
  have hr:=Jf8 c
  rw [hb] at hr
  refine Jd Tryz.func155 rfl rfl fun nx=> ?_
  refine stp ?_
  refine Ja rfl rfl hr ⟨Rf,trivial⟩ fun nx1=> ?_
  cases b
  ·refine stp ?_
   exact Jb rfl Rf
  ·refine stp ?_
   exact Jb rfl Rf
 exact key _ rfl
def Rul.ok (r:Rul):Prop:=r.name.size≤maxLen∧r.conds.length≤maxLen∧∀c∈r.conds,c.ok
def Jax (r:Rul):Bool:=JaI r.name.data.toList&& (JbT r.act.1 r.act.2&& (decide (r.conds.length≤6)&& !(r.conds.any fun c=> !Jaa c)))
theorem Jr2 (r:Rul) (h1:r.name.size≤9223372036854775807):Tells Tryz.prog 100 [JaF r] (Ji (Jax r)):=by
 have hn:=Jr1 r.name h1
 have ha:=JkH r.act.1 r.act.2
 have hc:r.conds.length≤1000000000→Tells Tryz.prog 55 [Jbi r.conds,fn0 155] (Ji (r.conds.any fun c=> !Jaa c)):=fun hl=> JpS r.conds (fun c=> !Jaa c) _ hl (fun i _=> Jp1 _)
 unfold Jax
 generalize JaI r.name.data.toList=b1 at hn⊢
 generalize JbT r.act.1 r.act.2=b2 at ha⊢
 generalize (r.conds.any fun c=> !Jaa c)=b3 at hc⊢
 obtain ⟨name,⟨k,n⟩,conds⟩:=r
 dsimp only at hn ha hc⊢
 refine Jd Tryz.func100 rfl rfl fun nx=> ?_
 refine stp ?_
 refine Ja rfl rfl hn ⟨Rf,trivial⟩ fun nx1=> ?_
 cases b1
 ·refine stp ?_
  exact Jb rfl Rf
 refine stp ?_
 refine Ja rfl rfl ha ⟨Rf,trivial⟩ fun nx2=> ?_
 cases b2
 ·refine stp ?_
  exact Jb rfl Rf
 refine stp ?_
 intro c t3;cases c
 ·refine stp ?_
  have e3:¬conds.length≤6:=fun h=> (Jw t3:¬((conds.length:Nat):Int)≤6) Om
  exact Jb rfl (JP (by show false=(true&& (true&& (decide (conds.length≤6)&& !b3)));rw [decide_eq_false e3];rfl))
 have h3:conds.length≤6:=by have t:((conds.length:Nat):Int)≤6:=Jv t3;omega
 have hc:=hc (show conds.length≤1000000000 by omega)
 refine stp ?_
 refine Ja rfl rfl hc ⟨Rf,Rf,trivial⟩ fun nx3=> ?_
 cases b3
 ·refine stp ?_
  exact Jb rfl (JP (by first | (show true=(true&& (true&& (decide (conds.length≤6)&& !false)));rw [decide_eq_true h3];rfl) | (show true=(true&& (decide (rules.length≤500)&& !false));rw [decide_eq_true h3];rfl)))
 ·refine stp ?_
  exact Jb rfl (JP (by first | (show false=(true&& (true&& (decide (conds.length≤6)&& !true)));rw [decide_eq_true h3];rfl) | (show false=(true&& (decide (rules.length≤500)&& !true));rw [decide_eq_true h3];rfl)))
theorem Jp2 (r:Rul) (h1:r.name.size≤9223372036854775807):Tells Tryz.prog 99 [JaF r] (Ji (!Jax r)):=by
 have key:∀b,Jax r=b→Tells Tryz.prog 99 [JaF r] (Ji (!b)):=fun b hb=> by
  have hr:=Jr2 r h1
  rw [hb] at hr
  refine Jd Tryz.func99 rfl rfl fun nx=> ?_
  refine stp ?_
  refine Ja rfl rfl hr ⟨Rf,trivial⟩ fun nx1=> ?_
  cases b
  ·refine stp ?_
   exact Jb rfl Rf
  ·refine stp ?_
   exact Jb rfl Rf
 exact key _ rfl
def Jb7 (p:Pol):Bool:=JbT p.dflt.1 p.dflt.2&& (decide (p.rules.length≤500)&& !(p.rules.any fun r=> !Jax r))
def Pol.ok (p:Pol):Prop:=p.rules.length≤maxLen∧∀r∈p.rules,r.ok
theorem Jkh (p:Pol) (hp:p.ok):Tells Tryz.prog 51 [Jc0 p] (Ji (Jb7 p)):=by
 have ha:=JkH p.dflt.1 p.dflt.2
 have hc:p.rules.length≤1000000000→Tells Tryz.prog 98 [Jaj p.rules,fn0 99] (Ji (p.rules.any fun r=> !Jax r)):=fun hl=> JxT p.rules (fun r=> !Jax r) _ hl (fun i hi=> Jp2 _ (by
  have:p.rules.getD i Jo∈p.rules:=by simp [List.getD,hi]
  have:=(hp.2 _ this).1
  exact Nat.le_trans this Dc))
 unfold Jb7
 generalize JbT p.dflt.1 p.dflt.2=b2 at ha⊢
 generalize (p.rules.any fun r=> !Jax r)=b3 at hc⊢
 clear hp
 obtain ⟨⟨k,n⟩,x,rules⟩:=p
 dsimp only at ha hc⊢
 refine Jd Tryz.func51 rfl rfl fun nx=> ?_
 refine stp ?_
 refine Ja rfl rfl ha ⟨Rf,trivial⟩ fun nx2=> ?_
 cases b2
 ·refine stp ?_
  exact Jb rfl Rf
 refine stp ?_
 intro c t3;cases c
 ·refine stp ?_
  have e3:¬rules.length≤500:=fun h=> (Jw t3:¬((rules.length:Nat):Int)≤500) Om
  exact Jb rfl (JP (by show false=(true&& (decide (rules.length≤500)&& !b3));rw [decide_eq_false e3];rfl))
 have h3:rules.length≤500:=by have t:((rules.length:Nat):Int)≤500:=Jv t3;omega
 have hc:=hc (show rules.length≤1000000000 by omega)
 refine stp ?_
 refine Ja rfl rfl hc ⟨Rf,Rf,trivial⟩ fun nx3=> ?_
 cases b3
 ·refine stp ?_
  exact Jb rfl (JP (by first | (show true=(true&& (true&& (decide (conds.length≤6)&& !false)));rw [decide_eq_true h3];rfl) | (show true=(true&& (decide (rules.length≤500)&& !false));rw [decide_eq_true h3];rfl)))
 ·refine stp ?_
  exact Jb rfl (JP (by first | (show false=(true&& (true&& (decide (conds.length≤6)&& !true)));rw [decide_eq_true h3];rfl) | (show false=(true&& (decide (rules.length≤500)&& !true));rw [decide_eq_true h3];rfl)))
def JeD (r:Rul):Bool:=decide (r.name.size≤60)&& decide (r.conds.length≤12)
def JfK (p:Pol):Bool:=decide (p.rules.length≤40)&& p.rules.all JeD
end Go.Proofs.W

namespace Go.Proofs.W
open Go.Vl
set_option maxRecDepth 100000
end Go.Proofs.W

namespace Go.Proofs.W
open Go.Vl
set_option maxRecDepth 100000
end Go.Proofs.W

namespace Go.Proofs.W
open Go.Vl
set_option maxRecDepth 100000
end Go.Proofs.W

namespace Go.Proofs.W
open Go.Vl
set_option maxRecDepth 100000
end Go.Proofs.W

namespace Go.Proofs.W
open Go.Vl
set_option maxRecDepth 100000
def JaT (l:List TRow) (s:ByteArray):TRow:=if Jbj l s then l.getD (Jco l s) Je else Je
set_option maxHeartbeats 2000000 in
theorem JvL (l:List TRow) (s:ByteArray) (hl:l.length≤1000000) (hs:Jip l s):Tells Tryz.prog 61 [JZ l,JJ s] (.tup [Ji (Jbj l s&& decide ((JaT l s).a2≥0)),Ji (decide ((JaT l s).mux > 0))]):=by
 have hf:=JgH l s hl hs
 unfold JlJ at hf
 unfold JaT
 cases hb:Jbj l s with
 | true=>
   rw [hb,if_pos rfl] at hf
   rw [if_pos rfl]
   generalize l.getD (Jco l s) Je=r at hf⊢
   cases hd:decide (r.a2≥0) with
   | true=>
     refine Jd Tryz.func61 rfl rfl fun nx=> ?_
     refine stp ?_
     refine Ja rfl rfl hf ⟨Rf,Rf,trivial⟩ fun nx2=> ?_
     refine stp ?_
     refine Ja4 11 _ (fun _=> false) (fun _=> false) [0,1,2,3,4,5,6,7,8,9,10] (by kernel_rfl) (by kernel_rfl) (HB.refl _) ?_
     refine stp ?_
     refine ⟨_,JeQ rfl rfl rfl rfl trivial, ?_⟩
     refine stp ?_
     refine ⟨_,JeQ rfl rfl rfl rfl (by first | trivial | exact ⟨rfl,Nat.le_of_ble_eq_true rfl⟩ | exact ⟨by decide,by decide⟩), ?_⟩
     refine stp ?_
     refine ⟨_,JeQ rfl rfl rfl rfl (by first | trivial | exact ⟨rfl,Nat.le_of_ble_eq_true rfl⟩), ?_⟩
     refine stp ?_
     refine ⟨.v (.bool true),JnA rfl rfl rfl rfl trivial hd, ?_⟩
     refine stp ?_
     exact Jl rfl trivial Rf
   | false=>
     refine Jd Tryz.func61 rfl rfl fun nx=> ?_
     refine stp ?_
     refine Ja rfl rfl hf ⟨Rf,Rf,trivial⟩ fun nx2=> ?_
     refine stp ?_
     refine Ja4 11 _ (fun _=> false) (fun _=> false) [0,1,2,3,4,5,6,7,8,9,10] (by kernel_rfl) (by kernel_rfl) (HB.refl _) ?_
     refine stp ?_
     refine ⟨_,JeQ rfl rfl rfl rfl trivial, ?_⟩
     refine stp ?_
     refine ⟨_,JeQ rfl rfl rfl rfl (by first | trivial | exact ⟨rfl,Nat.le_of_ble_eq_true rfl⟩ | exact ⟨by decide,by decide⟩), ?_⟩
     refine stp ?_
     refine ⟨_,JeQ rfl rfl rfl rfl (by first | trivial | exact ⟨rfl,Nat.le_of_ble_eq_true rfl⟩), ?_⟩
     refine stp ?_
     refine ⟨.v (.bool false),JnA rfl rfl rfl rfl trivial hd, ?_⟩
     refine stp ?_
     exact Jl rfl trivial Rf
 | false=>
   rw [hb,if_neg Dc] at hf
   rw [if_neg Dc]
   refine Jd Tryz.func61 rfl rfl fun nx=> ?_
   refine stp ?_
   refine Ja rfl rfl hf ⟨Rf,Rf,trivial⟩ fun nx2=> ?_
   refine stp ?_
   refine Ja4 11 _ (fun _=> false) (fun _=> false) [0,1,2,3,4,5,6,7,8,9,10] (by kernel_rfl) (by kernel_rfl) (HB.refl _) ?_
   refine stp ?_
   refine ⟨_,JjP rfl rfl rfl, ?_⟩
   refine stp ?_
   refine ⟨_,JjP rfl rfl rfl, ?_⟩
   refine stp ?_
   refine ⟨_,JjP rfl rfl rfl, ?_⟩
   refine stp ?_
   refine ⟨_,JjP rfl rfl rfl, ?_⟩
   refine stp ?_
   exact Jl rfl trivial Rf
end Go.Proofs.W

namespace Go.Proofs.W
open Go.Vl
set_option maxRecDepth 100000
structure Ct where
 name:ByteArray
 many:Nat
deriving DecidableEq
end Go.Proofs.W

namespace Go.Proofs.W
open Go.Vl
set_option maxRecDepth 100000
end Go.Proofs.W

namespace Go.Proofs.W
open Go.Vl
set_option maxRecDepth 100000
end Go.Proofs.W

namespace Go.Proofs.W
open Go.Vl
set_option maxRecDepth 100000
theorem JzB {a b:Int} (h:a=b):AVle (.v (.int .u32 a)) (u32 b):=h ▸ Rf
theorem Jua (k n:Nat) (hk:k < 8) (hn:n≤km k):Tells Tryz.prog 66 [act (k+1:Nat) n] (.tup [u32 (kb k+n:Nat),int 0]):=by
 obtain ⟨s,m,hr1,hr2⟩:=JA2 k hk
 obtain ⟨s',c',m',h3,h4,_⟩:=JkG k hk
 have hm:m=m':=by
  rw [hr1] at h3
  have:=AV.ag.inj h3
  simp at this
  exact this.2.2
 rw [← hm] at h4
 clear h3
 have hle:=JBO hk
 have ho:=JvB k hk
 rw [hr1] at ho
 have hR:=JkH ((k+1:Nat):Int) (n:Int)
 have hkm:((km k:Nat):Int)=JlE ((k+1:Nat):Int):=by
  clear hr1 hr2 h4 hle ho hR hn
  rcases k with _ | _ | _ | _ | _ | _ | _ | _ | k
  all_goals first | decide | omega
 rw [show JbT ((k+1:Nat):Int) (n:Int)=true by unfold JbT;rw [← hkm];simp;omega] at hR
 have e1:IntKind.u32.wrap (n:Int)=(n:Int):=by simp [IntKind.wrap,IntKind.signed,IntKind.bits];omega
 have e2:IntKind.u32.wrap ((kb k:Int)+(n:Int))=((kb k+n:Nat):Int):=by
  rw [show (kb k:Int)+(n:Int)=((kb k+n:Nat):Int) by omega]
  simp [IntKind.wrap,IntKind.signed,IntKind.bits];omega
 rcases h4 with rfl | ⟨n',rfl⟩
 all_goals
  refine Jd Tryz.func66 rfl rfl fun nx=> ?_
  refine stp ?_
  refine Ja rfl rfl hR ⟨Rf,trivial⟩ fun nx1=> ?_
  refine stp ?_
  refine Ja rfl rfl ho ⟨Rf,trivial⟩ fun nx2=> ?_
  refine stp ?_
  refine Jb rfl (AVle.tups ⟨JzB ?_,Rf,trivial⟩)
  show IntKind.u32.wrap ((kb k:Int)+IntKind.u32.wrap (n:Int))=_
  rw [e1,e2]
end Go.Proofs.W

namespace Go.Proofs.W
open Go.Vl
set_option maxRecDepth 100000
def hB (x:Nat→Nat) (c:Cnd):Bool:=Jaa c&& JhI c ([x 0,x 1,x 2,x 3,x 4,x 5].getD c.arg.toNat 0)
end Go.Proofs.W

namespace Go.Proofs.W
open Go.Vl
set_option maxRecDepth 100000
end Go.Proofs.W

namespace Go.Proofs.W
open Go.Vl
set_option maxRecDepth 100000
def JkK (l:List TRow):Bool:=decide (l.length≤40)&& !l.any fun r=> decide (60 < r.name.size)
end Go.Proofs.W

namespace Go.Proofs.W
open Go.Vl
set_option maxRecDepth 100000
end Go.Proofs.W

namespace Go.Proofs.W
open Go.Vl
set_option maxRecDepth 100000
theorem JsX {c d:Cnd}:(c.arg ==d.arg&& (c.op ==d.op&& ((c.mask:Int) ==(d.mask:Int)&& ((c.value:Int) ==(d.value:Int)&& true))))=decide (c=d):=by
 rw [Bool.eq_iff_iff]
 simp only [Bool.and_eq_true,beq_iff_eq,decide_eq_true_eq,and_true]
 obtain ⟨a1,a2,a3,a4⟩:=c
 obtain ⟨b1,b2,b3,b4⟩:=d
 simp
 omega
theorem JvM {α:Type} {a b:List α} {d:α} (hl:a.length=b.length) (h:∀j,j < a.length→a.getD j d=b.getD j d):a=b:=by
 refine List.ext_getElem hl fun j h1 h2=> ?_
 have:=h j h1
 simpa [List.getD,h1,h2] using this
theorem Jr3 (a b:List Cnd) (ha:a.length≤1000000):Tells Tryz.prog 114 [Jbi a,Jbi b] (Ji (decide (a=b))):=by
 refine Jd Tryz.func114 rfl rfl fun nx=> ?_
 refine stp ?_
 intro c g1;cases c
 rotate_left
 ·have g1:((a.length:Nat):Int)≠((b.length:Nat):Int):=Jcy.1 g1
  refine stp ?_
  exact Jb rfl (JP (by rw [eq_comm];exact decide_eq_false (fun h=> g1 (by rw [h]))))
 have g1:((a.length:Nat):Int)=((b.length:Nat):Int):=Jcx.1 g1
 have hl:a.length=b.length:=by omega
 refine stp ?_
 refine Js (fun s:Nat×Nat=> mk 26 [(0,Jbi a),(1,Jbi b),(12,int a.length),(13,int s.1)] ⟨[], [],s.2,0⟩) (fun s=> s.1≤a.length∧∀j,j < s.1→a.getD j cnd0=b.getD j cnd0) (fun s=> a.length - s.1) ?_ ?_
 ·exact ⟨(0,nx),⟨Nat.zero_le _,fun j h=> absurd h (Nat.not_lt_zero _)⟩,JaX rfl rfl ⟨Rf,Rf,Rf,Rf,trivial⟩⟩
 ·rintro ⟨i,nx2⟩ ⟨h3,h4⟩
  dsimp only at h3 h4
  refine stp ?_
  intro c h5;cases c
  ·have h6:=Jw h5
   dsimp only at h6
   obtain rfl:i=a.length:=by omega
   have he:=JvM hl h4
   refine stp ?_
   exact Jb rfl (JP (by rw [eq_comm];exact decide_eq_true he))
  ·have h6:=Jv h5
   dsimp only at h6
   have hi:i < a.length:=by omega
   refine stp ?_
   (refine JH 9 ?_ ?_ ?_ ?_;(· kernel_rfl);(· kernel_rfl);(· kernel_rfl))
   refine stp ?_
   refine ⟨⟨by dsimp only;omega,by dsimp only;omega⟩, ?_⟩
   refine stp ?_
   refine ⟨⟨by dsimp only;omega,by dsimp only;omega⟩, ?_⟩
   refine stp ?_
   intro c hc
   have hc2:c= !decide (a.getD i cnd0=b.getD i cnd0):=hc.trans (congrArg (!·) JsX)
   cases c
   ·have he:a.getD i cnd0=b.getD i cnd0:=by simpa using hc2
    refine stp ?_
    refine back (i+1,nx2) ⟨by dsimp only;omega,fun j hj=> ?_⟩ Dm (JaX rfl rfl ⟨Rf,Rf,Rf,Jg (Jz Dm),trivial⟩)
    dsimp only at hj
    rcases Nat.lt_or_ge j i with h | h
    ·exact h4 j h
    ·obtain rfl:j=i:=by omega
     exact he
   ·have he:¬a.getD i cnd0=b.getD i cnd0:=by simpa using hc2
    refine stp ?_
    exact Jb rfl (JP (by rw [eq_comm];exact decide_eq_false (fun h=> he (by rw [h]))))
theorem JzC {a b:A2}:(a.1 ==b.1&& (a.2 ==b.2&& true))=decide (a=b):=by
 rw [Bool.eq_iff_iff]
 simp only [Bool.and_eq_true,beq_iff_eq,decide_eq_true_eq,and_true]
 exact (Prod.ext_iff).symm
end Go.Proofs.W

namespace Go.Proofs.W
open Go.Vl
set_option maxRecDepth 100000
end Go.Proofs.W

namespace Go.Proofs.W
open Go.Vl
set_option maxRecDepth 100000
end Go.Proofs.W

namespace Go.Proofs.W
open Go.Vl
set_option maxRecDepth 100000
end Go.Proofs.W

namespace Go.Proofs.W
open Go.Vl
set_option maxRecDepth 100000
end Go.Proofs.W

namespace Go.Proofs.W
open Go.Vl
set_option maxRecDepth 100000
end Go.Proofs.W

namespace Go.Proofs.W
open Go.Vl
set_option maxRecDepth 100000
end Go.Proofs.W

namespace Go.Proofs.W
open Go.Vl
set_option maxRecDepth 100000
end Go.Proofs.W

namespace Go.Proofs.W
open Go.Vl
set_option maxRecDepth 100000
end Go.Proofs.W

namespace Go.Proofs.W
open Go.Vl
set_option maxRecDepth 100000
def JgI (r:TRow):Bool:=decide (r.mux < 0)|| (decide (2 < r.mux)|| ((decide (r.mux=0)&& decide (r.sub≠0))|| (decide (0 < r.mux)&& (decide (r.sub < 1)|| decide (255 < r.sub)))))
theorem Jjg (r:TRow):Jc3 r=(!JfW r&& !JgI r):=by
 unfold Jc3
 congr 1
 unfold JgI
 by_cases h:r.mux=0
 ·rw [if_pos h,h];simp
 ·rw [if_neg h,Bool.eq_iff_iff];simp;omega
def JhN (r s:TRow):Bool:= [0,1,2,3,4].any fun a=> decide (0≤r.num a)&& decide (s.num a=r.num a)
def Jjh (r s:TRow):Bool:=decide (0 < r.mux)&& (decide (s.mux=r.mux)&& decide (s.sub=r.sub))
def Jdr (l:List TRow) (i:Nat):Bool:=(l.take i).any fun s=> JhN (l.getD i Je) s|| Jjh (l.getD i Je) s
def Jiq (r:TRow):Bool:=decide (r.a2=102)|| decide (r.a2=117)
def JdO (l:List TRow) (i:Nat):Int:=if JaI (l.getD i Je).name.data.toList=false then 13 else if JcK l i then 15 else if JfW (l.getD i Je) then 16 else if JgI (l.getD i Je) then 16 else if Jiq (l.getD i Je) then 17 else if Jdr l i then 15 else 0
theorem JsY {l:List TRow} {i:Nat} (h:JaI (l.getD i Je).name.data.toList=false):JdO l i=13:=if_pos h
theorem Jp3 {l:List TRow} {i:Nat} (h:JaI (l.getD i Je).name.data.toList=true):JdO l i=if JcK l i then 15 else if JfW (l.getD i Je) then 16 else if JgI (l.getD i Je) then 16 else if Jiq (l.getD i Je) then 17 else if Jdr l i then 15 else 0:=if_neg (by rw [h];decide)
theorem Jub {l:List TRow} {i k:Nat} {r:TRow} (hr:l.getD i Je=r) (hk:k < i) (hi:i < l.length) (h:(JhN r (l.getD k Je)|| Jjh r (l.getD k Je))=true):Jdr l i=true:=by
 unfold Jdr
 rw [hr,List.any_eq_true]
 refine ⟨l.getD k Je, ?_,h⟩
 rw [List.mem_iff_getElem]
 exact ⟨k,by rw [List.length_take];omega,by rw [List.getElem_take];simp [List.getD,show k < l.length by omega]⟩
def cN (r s:TRow) (a:Nat):Bool:=decide (r.num a≥0)&& decide (s.num a=r.num a)
theorem Jr4 {r s:TRow} {a:Nat} (ha:a < 5) (h:cN r s a=true):JhN r s=true:=by
 unfold JhN
 rw [List.any_eq_true]
 exact ⟨a,by simp;omega,h⟩
theorem JxW {r:TRow} {k:Nat} (hk:k < 5) (h:true=JeR (r.num k)):JfW r=true:=by
 rcases (by omega:k=0∨k=1∨k=2∨k=3∨k=4) with rfl | rfl | rfl | rfl | rfl
 all_goals
  have h':JeR (r.num _)=true:=h.symm
  simp only [TRow.num] at h'
  simp [JfW,h']
end Go.Proofs.W

namespace Go.Proofs.W
open Go.Vl
set_option maxRecDepth 100000
def JhO (l:List TRow):Int×Int:=if 400 < l.length then (0,3) else match (List.range l.length).find? (fun i=> decide (JdO l i≠0)) with
 | some i=> ((i:Int),JdO l i)
 | none=> (0,0)
theorem JlL {n:Nat} {p:Nat→Bool} {i:Nat} (hi:i < n) (h:∀j,j < i→p j=false) (hp:p i=true):(List.range n).find? p=some i:=by
 rw [List.find?_range_eq_some]
 exact ⟨hp,List.mem_range.2 hi,fun j hj=> by rw [h j hj];rfl⟩
theorem Jr5 {n:Nat} {p:Nat→Bool} (h:∀j,j < n→p j=false):(List.range n).find? p=none:=by
 rw [List.find?_eq_none]
 intro x hx
 rw [h x (List.mem_range.1 hx)];decide
end Go.Proofs.W

namespace Go.Proofs.W
open Go.Vl
set_option maxRecDepth 100000
def Jp4 (l:List TRow) (k:Nat) (S:Jcd):Prop:=(∀(a:Nat) (n:Int),a < 5→(((a:Int),n)∈S↔n≠-1∧∃j,j < k∧(l.getD j Je).num a=n))∧(∀m s:Int,m=1∨m=2→((5+m,s)∈S↔∃j,j < k∧(l.getD j Je).mux=m∧(l.getD j Je).sub=s))
theorem JlM {r:TRow} {S:Jcd}:∀ {k:Nat},Ja1 r S k=none→∃a,a < k∧r.num a≠-1∧((a:Int),r.num a)∈S
 | 0,h=> by unfold Ja1 at h;cases h
 | k+1,h=> by
   unfold Ja1 at h
   cases hk:Ja1 r S k with
   | none=> obtain ⟨a,h1,h2⟩:=JlM hk;exact ⟨a,by omega,h2⟩
   | some S'=>
     rw [hk] at h
     dsimp only at h
     split at h
     ·cases h
     ·rename_i hn
      split at h
      ·rename_i hm
       refine ⟨k,Nat.lt_succ_self _,hn, ?_⟩
       have:∀ {m:Nat} {S':Jcd},Ja1 r S m=some S'→∀x∈S',x∈S∨∃a,a < m∧x=((a:Int),r.num a):=by
        intro m
        induction m with
        | zero=> intro S' h x hx;unfold Ja1 at h;cases h;exact .inl hx
        | succ m ih=>
          intro S' h x hx
          unfold Ja1 at h
          cases hm:Ja1 r S m with
          | none=> rw [hm] at h;cases h
          | some S1=>
            rw [hm] at h
            dsimp only at h
            split at h
            ·cases h
             rcases ih hm x hx with q | ⟨a,q1,q2⟩
             ·exact .inl q
             ·exact .inr ⟨a,by omega,q2⟩
            ·split at h
             ·cases h
             ·cases h
              rcases List.mem_append.1 hx with hx | hx
              ·rcases ih hm x hx with q | ⟨a,q1,q2⟩
               ·exact .inl q
               ·exact .inr ⟨a,by omega,q2⟩
              ·exact .inr ⟨m,Nat.lt_succ_self _,List.mem_singleton.1 hx⟩
       rcases this hk _ hm with q | ⟨a,q1,q2⟩
       ·exact q
       ·have:=congrArg Prod.fst q2
        dsimp only at this
        omega
      ·cases h
theorem JlN {r:TRow} {S:Jcd}:∀ {k:Nat} {S':Jcd},Ja1 r S k=some S'→(∀x,x∈S'↔x∈S∨∃a,a < k∧r.num a≠-1∧x=((a:Int),r.num a))∧∀a,a < k→r.num a≠-1→¬((a:Int),r.num a)∈S
 | 0,S',h=> by
   unfold Ja1 at h;cases h
   exact ⟨fun x=> ⟨.inl,fun q=> by rcases q with q | ⟨a,q,_⟩;exact q;omega⟩,fun a ha=> by omega⟩
 | k+1,S',h=> by
   unfold Ja1 at h
   cases hk:Ja1 r S k with
   | none=> rw [hk] at h;cases h
   | some S1=>
     rw [hk] at h
     dsimp only at h
     obtain ⟨i1,i2⟩:=JlN hk
     split at h
     ·rename_i hn
      cases h
      refine ⟨fun x=> (i1 x).trans ⟨fun q=> ?_,fun q=> ?_⟩,fun a ha hna=> ?_⟩
      ·rcases q with q | ⟨a,q1,q2⟩
       ·exact .inl q
       ·exact .inr ⟨a,by omega,q2⟩
      ·rcases q with q | ⟨a,q1,q2⟩
       ·exact .inl q
       ·rcases Nat.lt_or_ge a k with w | w
        ·exact .inr ⟨a,w,q2⟩
        ·rw [show a=k by omega] at q2;exact absurd hn q2.1
      ·rcases Nat.lt_or_ge a k with w | w
       ·exact i2 a w hna
       ·rw [show a=k by omega] at hna;exact absurd hn hna
     ·rename_i hn
      split at h
      ·cases h
      ·rename_i hm
       cases h
       refine ⟨fun x=> ?_,fun a ha hna=> ?_⟩
       ·rw [List.mem_append,i1,List.mem_singleton]
        constructor
        ·rintro ((q | ⟨a,q1,q2⟩) | q)
         ·exact .inl q
         ·exact .inr ⟨a,by omega,q2⟩
         ·exact .inr ⟨k,Nat.lt_succ_self _,hn,q⟩
        ·rintro (q | ⟨a,q1,q2,q3⟩)
         ·exact .inl (.inl q)
         ·rcases Nat.lt_or_ge a k with w | w
          ·exact .inl (.inr ⟨a,w,q2,q3⟩)
          ·rw [show a=k by omega] at q3;exact .inr q3
       ·rcases Nat.lt_or_ge a k with w | w
        ·exact i2 a w hna
        ·rw [show a=k by omega]
         exact fun q=> hm ((i1 _).2 (.inl q))
theorem Jhd {l:List TRow} {i:Nat} (hi:i < l.length):Jdr l i=true↔∃j,j < i∧((∃a,a < 5∧0≤(l.getD i Je).num a∧(l.getD j Je).num a=(l.getD i Je).num a)∨(0 < (l.getD i Je).mux∧(l.getD j Je).mux=(l.getD i Je).mux∧(l.getD j Je).sub=(l.getD i Je).sub)):=by
 constructor
 ·intro h
  unfold Jdr at h
  rw [List.any_eq_true] at h
  obtain ⟨s,hs,h⟩:=h
  obtain ⟨j,hj,rfl⟩:=List.mem_iff_getElem.1 hs
  rw [List.length_take] at hj
  rw [List.getElem_take] at h
  have hg:l.getD j Je=l[j]:=by simp [List.getD,show j < l.length by omega]
  refine ⟨j,by omega, ?_⟩
  rw [hg]
  rw [Bool.or_eq_true] at h
  rcases h with h | h
  ·left
   unfold JhN at h
   rw [List.any_eq_true] at h
   obtain ⟨a,ha,h⟩:=h
   rw [Bool.and_eq_true,decide_eq_true_iff,decide_eq_true_iff] at h
   exact ⟨a,by simp at ha;omega,h⟩
  ·right
   unfold Jjh at h
   rw [Bool.and_eq_true,Bool.and_eq_true,decide_eq_true_iff,decide_eq_true_iff,decide_eq_true_iff] at h
   exact h
 ·rintro ⟨j,hj,h⟩
  refine Jub rfl hj hi ?_
  rw [Bool.or_eq_true]
  rcases h with ⟨a,ha,h1,h2⟩ | ⟨h1,h2,h3⟩
  ·exact .inl (Jr4 ha (by unfold cN;rw [decide_eq_true h1,decide_eq_true h2];rfl))
  ·exact .inr (by unfold Jjh;rw [decide_eq_true h1,decide_eq_true h2,decide_eq_true h3];rfl)
theorem JzD {r:TRow} (h:JfW r=false) {a:Nat} (ha:a < 5):-1≤r.num a:=by
 have:JeR (r.num a)=false:=by
  cases hq:JeR (r.num a) with
  | false=> rfl
  | true=> rw [JxW ha hq.symm] at h;cases h
 unfold JeR at this
 rw [Bool.or_eq_false_iff,decide_eq_false_iff_not] at this
 omega
theorem JsZ {l:List TRow} {i:Nat} {S:Jcd} (hi:i < l.length) (hS:Jp4 l i S):(JdO l i=0→∃S',Je8 l i S= .ok S'∧Jp4 l (i+1) S')∧(JdO l i≠0→∃e,Je8 l i S= .error e∧e≠0):=by
 obtain ⟨s1,s2⟩:=hS
 cases hn:JaI (l.getD i Je).name.data.toList with
 | false=> rw [JsY hn];exact ⟨(fun h=> by cases h),fun _=> ⟨13,JsT hn,by decide⟩⟩
 | true=>
   rw [Jp3 hn]
   cases ho:JcK l i with
   | true=> rw [if_pos rfl];exact ⟨(fun h=> by cases h),fun _=> ⟨15,JsU hn ho,by decide⟩⟩
   | false=>
     rw [if_neg Dc]
     cases hb:JfW (l.getD i Je) with
     | true=>
       rw [if_pos rfl]
       exact ⟨(fun h=> by cases h),fun _=> ⟨16,JmN hn ho (by rw [Jjg,hb];rfl),by decide⟩⟩
     | false=>
       rw [if_neg Dc]
       cases hm:JgI (l.getD i Je) with
       | true=>
         rw [if_pos rfl]
         exact ⟨(fun h=> by cases h),fun _=> ⟨16,JmN hn ho (by rw [Jjg,hb,hm];rfl),by decide⟩⟩
       | false=>
         rw [if_neg Dc]
         have hrg:Jc3 (l.getD i Je)=true:=by rw [Jjg,hb,hm];rfl
         cases ha:Jiq (l.getD i Je) with
         | true=>
           rw [if_pos rfl]
           have ha':(l.getD i Je).a2=102∨(l.getD i Je).a2=117:=by unfold Jiq at ha;simpa using ha
           exact ⟨(fun h=> by cases h),fun _=> ⟨17,JmO hn ho hrg ha',by decide⟩⟩
         | false=>
           rw [if_neg Dc]
           have ha':¬((l.getD i Je).a2=102∨(l.getD i Je).a2=117):=fun q=> by
            unfold Jiq at ha
            rcases q with q | q
            ·rw [decide_eq_true q] at ha;cases ha
            ·rw [decide_eq_true q,Bool.or_true] at ha;cases ha
           rw [JnJ hn ho hrg ha']
           cases hns:Ja1 (l.getD i Je) S 5 with
           | none=>
             obtain ⟨a,h1,h2,h3⟩:=JlM hns
             obtain ⟨_,j,hj,h4⟩:=(s1 a _ h1).1 h3
             have hc:Jdr l i=true:=(Jhd hi).2 ⟨j,hj, .inl ⟨a,h1,by have:=JzD hb h1;omega,h4⟩⟩
             rw [hc,if_pos rfl]
             exact ⟨(fun h=> by cases h),fun _=> ⟨15,rfl,by decide⟩⟩
           | some S1=>
             obtain ⟨i1,i2⟩:=JlN hns
             dsimp only
             have hnoN:∀j,j < i→∀a,a < 5→0≤(l.getD i Je).num a→(l.getD j Je).num a≠(l.getD i Je).num a:=fun j hj a h1 h2 h3=> i2 a h1 Om ((s1 a _ h1).2 ⟨by omega,j,hj,h3⟩)
             have hS1:∀(a:Nat) (n:Int),a < 5→(((a:Int),n)∈S1↔n≠-1∧∃j,j < i+1∧(l.getD j Je).num a=n):=fun a n h5=> by
              rw [i1,s1 a n h5]
              constructor
              ·rintro (⟨q1,j,q2,q3⟩ | ⟨b,q1,q2,q3⟩)
               ·exact ⟨q1,j,by omega,q3⟩
               ·have e1:a=b:=by have:=congrArg Prod.fst q3;dsimp only at this;omega
                have e2:n=(l.getD i Je).num b:=congrArg Prod.snd q3
                subst e1
                exact ⟨by rw [e2];exact q2,i,Nat.lt_succ_self _,e2.symm⟩
              ·rintro ⟨q1,j,q2,q3⟩
               rcases Nat.lt_or_ge j i with w | w
               ·exact .inl ⟨q1,j,w,q3⟩
               ·have e:j=i:=by omega
                subst e
                exact .inr ⟨a,h5,by rw [q3];exact q1,by rw [q3]⟩
             unfold Jjf
             by_cases hm0:(l.getD i Je).mux=0
             ·rw [if_pos hm0]
              have hc:Jdr l i=false:=by
               rw [Bool.eq_false_iff,Ne,Jhd hi]
               rintro ⟨j,hj,⟨a,h1,h2,h3⟩ | ⟨h1,_⟩⟩
               ·exact hnoN j hj a h1 h2 h3
               ·omega
              rw [hc,if_neg Dc]
              refine ⟨fun _=> ⟨S1,rfl,hS1,fun m s hms=> ?_⟩,fun h=> absurd rfl h⟩
              rw [i1,s2 m s hms]
              constructor
              ·rintro (⟨j,q2,q3⟩ | ⟨b,q1,q2,q3⟩)
               ·exact ⟨j,by omega,q3⟩
               ·have:=congrArg Prod.fst q3;dsimp only at this;omega
              ·rintro ⟨j,q2,q3,q4⟩
               rcases Nat.lt_or_ge j i with w | w
               ·exact .inl ⟨j,w,q3,q4⟩
               ·have e:j=i:=by omega
                subst e;omega
             ·rw [if_neg hm0]
              have hm12:=JlH hrg hm0
              by_cases hin:(5+(l.getD i Je).mux,(l.getD i Je).sub)∈S1
              ·rw [if_pos hin]
               have hinS:(5+(l.getD i Je).mux,(l.getD i Je).sub)∈S:=by
                rcases (i1 _).1 hin with q | ⟨b,q1,q2,q3⟩
                ·exact q
                ·have:=congrArg Prod.fst q3;dsimp only at this;omega
               obtain ⟨j,hj,q1,q2⟩:=(s2 _ _ hm12).1 hinS
               have hc:Jdr l i=true:=(Jhd hi).2 ⟨j,hj, .inr ⟨by omega,q1,q2⟩⟩
               rw [hc,if_pos rfl]
               exact ⟨(fun h=> by cases h),fun _=> ⟨15,rfl,by decide⟩⟩
              ·rw [if_neg hin]
               have hc:Jdr l i=false:=by
                rw [Bool.eq_false_iff,Ne,Jhd hi]
                rintro ⟨j,hj,⟨a,h1,h2,h3⟩ | ⟨h1,h2,h3⟩⟩
                ·exact hnoN j hj a h1 h2 h3
                ·exact hin ((i1 _).2 (.inl ((s2 _ _ hm12).2 ⟨j,hj,h2,h3⟩)))
               rw [hc,if_neg Dc]
               refine ⟨fun _=> ⟨_,rfl,fun a n h5=> ?_,fun m s hms=> ?_⟩,fun h=> absurd rfl h⟩
               ·rw [List.mem_append,hS1 a n h5,List.mem_singleton]
                constructor
                ·rintro (q | q)
                 ·exact q
                 ·have:=congrArg Prod.fst q;dsimp only at this;omega
                ·exact .inl
               ·rw [List.mem_append,i1,s2 m s hms,List.mem_singleton]
                constructor
                ·rintro ((⟨j,q2,q3⟩ | ⟨b,q1,q2,q3⟩) | q)
                 ·exact ⟨j,by omega,q3⟩
                 ·have:=congrArg Prod.fst q3;dsimp only at this;omega
                 ·have e1:=congrArg Prod.fst q
                  have e2:=congrArg Prod.snd q
                  dsimp only at e1 e2
                  exact ⟨i,Nat.lt_succ_self _,by omega,e2.symm⟩
                ·rintro ⟨j,q2,q3,q4⟩
                 rcases Nat.lt_or_ge j i with w | w
                 ·exact .inl (.inl ⟨j,w,q3,q4⟩)
                 ·have e:j=i:=by omega
                  subst e
                  exact .inr (by rw [q3,q4])
theorem JkL {l:List TRow}:∀ {k:Nat},k≤l.length→(∀j,j < k→JdO l j=0)→∃S,JdV l k= .ok S∧Jp4 l k S
 | 0,_,_=> ⟨[],rfl,fun a n _=> by simp,fun m s _=> by simp⟩
 | k+1,hk,h=> by
   obtain ⟨S,h1,h2⟩:=JkL (k:=k) Om fun j hj=> h j Om
   obtain ⟨S',h3,h4⟩:=(JsZ Om h2).1 (h k Om)
   exact ⟨S',JnI h1 h3,h4⟩
theorem JnK {l:List TRow}:(∀j,j < l.length→JdO l j=0)∨∃i,i < l.length∧JdO l i≠0∧∀j,j < i→JdO l j=0:=by
 have:∀n,n≤l.length→(∀j,j < n→JdO l j=0)∨∃i,i < l.length∧JdO l i≠0∧∀j,j < i→JdO l j=0:=by
  intro n
  induction n with
  | zero=> exact fun _=> .inl fun j hj=> absurd hj (Nat.not_lt_zero j)
  | succ n ih=>
    intro hn
    rcases ih Om with h | h
    ·by_cases q:JdO l n=0
     ·exact .inl fun j hj=> by rcases Nat.lt_or_ge j n with w | w;exact h j w;rw [show j=n by omega];exact q
     ·exact .inr ⟨n,by omega,q,h⟩
    ·exact .inr h
 exact this _ (Nat.le_refl _)
theorem JvN (l:List TRow):(JcL l).2=0↔(JhO l).2=0:=by
 by_cases h4:400 < l.length
 ·unfold JcL JhO
  rw [if_pos h4,if_pos h4]
 ·rcases JnK (l:=l) with h | ⟨i,hi,h1,h2⟩
  ·obtain ⟨S,hS,-⟩:=JkL (Nat.le_refl _) h
   rw [JvK h4 hS]
   unfold JhO
   rw [if_neg h4,Jr5 (fun j hj=> decide_eq_false (fun q=> q (h j hj)))]
  ·obtain ⟨S,hS,hs⟩:=JkL (k:=i) Om h2
   obtain ⟨e,he,hne⟩:=(JsZ hi hs).2 h1
   rw [JsS h4 hi hS he]
   unfold JhO
   rw [if_neg h4,JlL (p:=fun i=> decide (JdO l i≠0)) hi (fun j hj=> decide_eq_false (fun q=> q (h2 j hj))) (decide_eq_true h1)]
   exact ⟨fun q=> absurd q hne,fun q=> absurd q h1⟩
theorem Jer {l:List TRow} (h:(JcL l).2=0):l.length≤400∧∀j,j < l.length→JdO l j=0:=by
 rw [JvN] at h
 unfold JhO at h
 by_cases h4:400 < l.length
 ·rw [if_pos h4] at h;cases h
 ·rcases JnK (l:=l) with q | ⟨i,hi,h1,h2⟩
  ·exact ⟨by omega,q⟩
  ·rw [if_neg h4,JlL (p:=fun i=> decide (JdO l i≠0)) hi (fun j hj=> decide_eq_false (fun q=> q (h2 j hj))) (decide_eq_true h1)] at h
   exact absurd h h1
theorem Jfm {l:List TRow} {i:Nat} (h:JdO l i=0):JaI (l.getD i Je).name.data.toList=true∧JcK l i=false∧JfW (l.getD i Je)=false∧JgI (l.getD i Je)=false∧Jiq (l.getD i Je)=false∧Jdr l i=false:=by
 cases hn:JaI (l.getD i Je).name.data.toList with
 | false=> rw [JsY hn] at h;cases h
 | true=>
   rw [Jp3 hn] at h
   split at h
   ·cases h
   split at h
   ·cases h
   split at h
   ·cases h
   split at h
   ·cases h
   split at h
   ·cases h
   simp_all
theorem Jir {l:List TRow} (h:(JcL l).2=0):JmQ l:=by
 obtain ⟨_,hr⟩:=Jer h
 have step:∀i,i+1 < l.length→Go.Sort.ltStr (l.getD i Je).name.data.toList (l.getD (i+1) Je).name.data.toList=true:=fun i hi=> by
  have:=(Jfm (hr (i+1) hi)).2.1
  unfold JcK at this
  rw [decide_eq_true (Nat.succ_pos i),Bool.true_and] at this
  exact JA1 this
 intro i j hij hj
 have:∀n,i+1+n < l.length→Go.Sort.ltStr (l.getD i Je).name.data.toList (l.getD (i+1+n) Je).name.data.toList=true:=by
  intro n
  induction n with
  | zero=> exact step i
  | succ n ih=> exact fun hn=> Go.Sort.swo_ltStr.trans _ _ _ (ih Om) (step (i+1+n) Om)
 have:=this (j - i - 1) Om
 rwa [show i+1+(j - i - 1)=j by omega] at this
end Go.Proofs.W

namespace Go.Proofs.W
open Go.Vl
set_option maxRecDepth 100000
def nameR (l:List TRow) (r:Rec):ByteArray:=(ofI l r).name
def JCh (l:List TRow) (s:ByteArray) (rs:List Rec):List Rec:=rs.filter fun r=> kS s (nameR l r)
def JxX (l:List TRow) (r:Rec) (k:Nat):Nat:=JCd (ofI l r).abi.toNat r k
def OwnOk (l:List TRow) (rs:List Rec) (g:Gat):Prop:=∃r0 rest,JCh l g.name rs=r0::rest∧g.m=rest.length+1∧(∀k,g.a k=JxX l r0 k)∧∀k,g.b k=rest.all fun r=> decide (JxX l r0 k=JxX l r k)
structure GInv (l:List TRow) (rs:List Rec) (S:List Gat×Bool):Prop where
 nd:(S.1.map Gat.name).Nodup
 nz:∀g∈S.1,g.name.size≠0
 own:∀g∈S.1,OwnOk l rs g
 all:∀r∈rs,(nameR l r).size≠0→∃g∈S.1,g.name=nameR l r
 x:S.2=rs.any fun r=> decide ((nameR l r).size≠0)&& decide ((ofI l r).abi=1)
def RSb (a b:List UInt8):Prop:=Go.Sort.ltStr a b=true
theorem JmR (x:List UInt8):¬RSb x x:=by unfold RSb;rw [Go.Sort.swo_ltStr.irrefl];decide
theorem JA3 (x y z:List UInt8) (h:RSb x y) (k:RSb y z):RSb x z:=Go.Sort.swo_ltStr.trans x y z h k
theorem JlO:∀ {a b:List (List UInt8)},a.Pairwise RSb→b.Pairwise RSb→(∀z,z∈a↔z∈b)→a=b
 | [], [],_,_,_=> rfl
 | [],y::b,_,_,h=> by have:=(h y).2 (.head _);cases this
 | x::a, [],_,_,h=> by have:=(h x).1 (.head _);cases this
 | x::a,y::b,ha,hb,h=> by
   rw [List.pairwise_cons] at ha hb
   have hxy:x=y:=by
    rcases List.mem_cons.1 ((h x).1 (.head _)) with e | hx
    ·exact e
    ·rcases List.mem_cons.1 ((h y).2 (.head _)) with e | hy
     ·exact e.symm
     ·exact absurd (JA3 _ _ _ (ha.1 y hy) (hb.1 x hx)) (JmR x)
   subst hxy
   rw [JlO ha.2 hb.2 fun z=> ⟨fun hz=> ?_,fun hz=> ?_⟩]
   ·rcases List.mem_cons.1 ((h z).1 (.tail _ hz)) with e | q
    ·subst e;exact absurd (ha.1 _ hz) (JmR _)
    ·exact q
   ·rcases List.mem_cons.1 ((h z).2 (.tail _ hz)) with e | q
    ·subst e;exact absurd (hb.1 _ hz) (JmR _)
    ·exact q
end Go.Proofs.W

namespace Go.Proofs.W
open Go.Vl
set_option maxRecDepth 100000
end Go.Proofs.W

namespace Go.Proofs.W
open Go.Vl
set_option maxRecDepth 100000
def JBP (p:Pol):Prop:=p.rules.length≤1000000∧∀r∈p.rules,r.conds.length≤1000000∧∀c∈r.conds,c.ok
def JaU (a:A2):Nat:=kb (a.1.toNat - 1)+a.2.toNat
theorem Jr6 {k n:Int} (h:JbT k n=true):∃k' n':Nat,k=(k'+1:Nat)∧n=(n':Nat)∧k' < 8∧n'≤km k':=by
 unfold JbT at h
 simp only [Bool.and_eq_true,decide_eq_true_eq] at h
 obtain ⟨⟨⟨h1,h2⟩,h3⟩,h4⟩:=h
 refine ⟨(k - 1).toNat,n.toNat,by omega,by omega,by omega, ?_⟩
 unfold JlE at h4
 unfold km
 split at h4
 ·rw [if_pos Om];omega
 ·split at h4
  ·rw [if_neg Om,if_pos Om];omega
  ·rw [if_neg Om,if_neg Om];omega
theorem Js0 (a:A2) (h:JbT a.1 a.2=true):Tells Tryz.prog 66 [JxP a] (.tup [u32 (JaU a:Nat),int 0]):=by
 obtain ⟨k,n⟩:=a
 obtain ⟨k',n',rfl,rfl,h1,h2⟩:=Jr6 h
 have:=Jua k' n' h1 h2
 unfold JaU
 dsimp only
 rw [show ((k'+1:Nat):Int).toNat - 1=k' by omega,show ((n':Nat):Int).toNat=n' by omega]
 exact this
theorem Jp5 {p:Pol} (h:Jb7 p=true):JbT p.dflt.1 p.dflt.2=true∧∀r∈p.rules,Jax r=true:=by
 unfold Jb7 at h
 simp only [Bool.and_eq_true,decide_eq_true_eq,Bool.not_eq_true',List.any_eq_false,Bool.not_eq_false'] at h
 refine ⟨h.1,fun r hr=> ?_⟩
 have:=h.2.2 r hr
 simpa using this
theorem Juc {r:Rul} (h:Jax r=true):JbT r.act.1 r.act.2=true:=by
 unfold Jax at h
 simp only [Bool.and_eq_true] at h
 exact h.2.1
end Go.Proofs.W

namespace Go.Proofs.W
open Go.Vl
set_option maxRecDepth 100000
def JfL (c:Cnd):Bool:=decide ((Jbx c).2=2)
def Jji (c:Cnd):Option Cnd:=if (Jbx c).2=0 then some (Jbx c).1 else none
def JgJ (r:PRul):Option PRul:=if r.conds.any JfL then none else some ⟨r.conds.filterMap Jji,r.code⟩
def JgK (a:Nat) (r:PRul):Option PRul:=if a=2 then JgJ r else some r
def JdW (a:Nat):List PRul→List PRul
 | []=> []
 | r::l=> match JgK a r with
   | none=> JdW a l
   | some q=> if q.conds.length=0 then [q] else q::JdW a l
def JgL (d:Nat) (l:List PRul):List PRul:=(l.reverse.dropWhile fun r=> decide (r.code=d)).reverse
def Jdk (a:Nat) (l:List PRul) (d:Nat):List PRul:=JgL d (JdW a l)
theorem JnL {d:Nat} {l:List PRul} {r:PRul}:JgL d (l++ [r])=if r.code=d then JgL d l else l++ [r]:=by
 unfold JgL
 rw [List.reverse_append,List.reverse_singleton,List.singleton_append,List.dropWhile_cons]
 by_cases h:r.code=d
 ·rw [if_pos (decide_eq_true h),if_pos h]
 ·rw [if_neg (by simpa using h),if_neg h,List.reverse_cons,List.reverse_reverse]
def PRul.ok (r:PRul):Prop:=∀c∈r.conds,c.ok∧NFm c
theorem Jud (c:Cnd):(Jbx c).2=0∨(Jbx c).2=1∨(Jbx c).2=2:=by
 unfold Jbx
 repeat' split
 all_goals simp
end Go.Proofs.W

namespace Go.Proofs.W
open Go.Vl
set_option maxRecDepth 100000
abbrev Cnt:=Nat→Option Nat
abbrev Lbl:=Nat→Cnt
def JaO (c:Cnt) (e:Lbl) (t:Nat):Cnt:=if t=0 then c else e t
def JcV (code A k:Nat):Bool:=if code=0x15 then A ==k else if code=0x25 then decide (k < A) else if code=0x35 then decide (k≤A) else (A&&& k) !=0
def Jc1 (W:Nat→Nat) (x:Itm) (c:Cnt) (e:Lbl):Cnt:=fun A=>
 if x.code=0x20 then c (W x.k) else if x.code=0x54 then c (A&&& x.k) else if x.code=6 then some x.k else if x.code=5 then JaO c e x.t A
 else if JcV x.code A x.k=true then JaO c e x.t A else JaO c e x.f A
def Jp (W:Nat→Nat):List Itm→Cnt×Lbl→Cnt×Lbl
 | [],s=> s
 | x::l,s=> if x.mark=0 then (Jc1 W x (Jp W l s).1 (Jp W l s).2,(Jp W l s).2) else ((Jp W l s).1,fun k=> if k=x.mark then (Jp W l s).1 else (Jp W l s).2 k)
theorem Jay (W:Nat→Nat):∀(a b:List Itm) (s:Cnt×Lbl),Jp W (a++b) s=Jp W a (Jp W b s)
 | [],b,s=> rfl
 | x::a,b,s=> by
   have h:=Jay W a b s
   show (if x.mark=0 then (Jc1 W x (Jp W (a++b) s).1 (Jp W (a++b) s).2,(Jp W (a++b) s).2) else ((Jp W (a++b) s).1,fun k=> if k=x.mark then (Jp W (a++b) s).1 else (Jp W (a++b) s).2 k))=_
   rw [h];rfl
theorem Jp6 (W:Nat→Nat) (h:Hlv) (hy:h.yes≠0) (hn:h.no≠0) (s:Cnt×Lbl) (A:Nat):∃A',(Jp W (if h.w then Jc5 h++Jb3 h else Jb3 h) s).1 A=s.2 (if (!h.w|| W h.ha ==h.hi)&& W h.la ==h.lo then h.yes else h.no) A':=by
 obtain ⟨la,ha,lo,hi,ml,mh,w,yes,no⟩:=h
 dsimp only at hy hn⊢
 cases w
 ·refine ⟨W la, ?_⟩
  by_cases h1:W la=lo <;> simp [Jp,Jb3,Jc1,JcV,JaO,hy,hn,h1]
 ·by_cases h2:W ha=hi
  ·refine ⟨W la, ?_⟩
   by_cases h1:W la=lo <;> simp [Jp,Jb3,Jc5,Jc1,JcV,JaO,hy,hn,h1,h2]
  ·refine ⟨W ha, ?_⟩
   simp [Jp,Jb3,Jc5,Jc1,JcV,JaO,hy,hn,h2]
theorem JnM (W:Nat→Nat) (h:Hlv) (hy:h.yes≠0) (hn:h.no≠0) (s:Cnt×Lbl) (A:Nat):∃A',(Jp W (if h.w then Jci h++Jbb h else Jbb h) s).1 A=s.2 (if (h.w&& decide (h.hi < W h.ha))|| ((!h.w|| W h.ha ==h.hi)&& decide (h.lo≤W h.la)) then h.yes else h.no) A':=by
 obtain ⟨la,ha,lo,hi,ml,mh,w,yes,no⟩:=h
 dsimp only at hy hn⊢
 cases w
 ·refine ⟨W la, ?_⟩
  by_cases h1:lo≤W la <;> simp [Jp,Jbb,Jc1,JcV,JaO,hy,hn,h1]
 ·by_cases h3:hi < W ha
  ·refine ⟨W ha, ?_⟩
   simp [Jp,Jbb,Jci,Jc1,JcV,JaO,hy,hn,h3]
  ·by_cases h2:W ha=hi
   ·refine ⟨W la, ?_⟩
    by_cases h1:lo≤W la <;> simp [Jp,Jbb,Jci,Jc1,JcV,JaO,hy,hn,h1,h2]
   ·refine ⟨W ha, ?_⟩
    simp [Jp,Jbb,Jci,Jc1,JcV,JaO,hy,hn,h2,h3]
theorem JxY (W:Nat→Nat) (h:Hlv) (hy:h.yes≠0) (hn:h.no≠0) (s:Cnt×Lbl) (A:Nat):∃A',(Jp W (if h.w then Jep h++JcX h else JcX h) s).1 A=s.2 (if (!h.w|| (W h.ha&&& h.mh) ==h.hi)&& (W h.la&&& h.ml) ==h.lo then h.yes else h.no) A':=by
 obtain ⟨la,ha,lo,hi,ml,mh,w,yes,no⟩:=h
 dsimp only at hy hn⊢
 cases w
 ·refine ⟨W la&&& ml, ?_⟩
  by_cases h1:W la&&& ml=lo <;> simp [Jp,JcX,Jc1,JcV,JaO,hy,hn,h1]
 ·by_cases h2:W ha&&& mh=hi
  ·refine ⟨W la&&& ml, ?_⟩
   by_cases h1:W la&&& ml=lo <;> simp [Jp,JcX,Jep,Jc1,JcV,JaO,hy,hn,h1,h2]
  ·refine ⟨W ha&&& mh, ?_⟩
   simp [Jp,JcX,Jep,Jc1,JcV,JaO,hy,hn,h2]
def Adds (m m':Mk) (D:List Itm):Prop:=m'.l=m.l++D
theorem Adds.trans {a b c:Mk} {D E:List Itm} (h:Adds a b D) (g:Adds b c E):Adds a c (D++E):=by
 unfold Adds at *; rw [g, h, List.append_assoc]
def JeS (h:Hlv) (op:Int):List Itm:=
 if op=1 then (if h.w then Jc5 h++Jb3 h else Jb3 h) else if op=2 then (if h.w then Jc5 (JaM h)++Jb3 (JaM h) else Jb3 (JaM h)) else
 if op=3 then (if h.w then Jci (JaM h)++Jbb (JaM h) else Jbb (JaM h)) else if op=6 then (if h.w then Jci h++Jbb h else Jbb h) else (if h.w then Jep h++JcX h else JcX h)
theorem JzE (m:Mk) (h:Hlv) (a b:List Itm):Jb4 m h a b=⟨m.l++(if h.w then a++b else b),m.n,m.b⟩:=by
 unfold Jb4 JD
 cases h.w <;> simp
theorem Jp7 (m:Mk) (h:Hlv) (op:Int):JmM m h op=⟨m.l++JeS h op,m.n,m.b⟩:=by
 unfold JmM JeS
 repeat' split
 all_goals (rw [JzE];try simp_all [JaM])
def trueH (W:Nat→Nat) (h:Hlv) (op:Int):Bool:=
 if op=1 then (!h.w|| W h.ha ==h.hi)&& W h.la ==h.lo else if op=2 then !((!h.w|| W h.ha ==h.hi)&& W h.la ==h.lo)
 else if op=3 then !((h.w&& decide (h.hi < W h.ha))|| ((!h.w|| W h.ha ==h.hi)&& decide (h.lo≤W h.la)))
 else if op=6 then (h.w&& decide (h.hi < W h.ha))|| ((!h.w|| W h.ha ==h.hi)&& decide (h.lo≤W h.la))
 else (!h.w|| (W h.ha&&& h.mh) ==h.hi)&& (W h.la&&& h.ml) ==h.lo
theorem JzF (W:Nat→Nat) (h:Hlv) (op:Int) (hy:h.yes≠0) (hn:h.no≠0) (s:Cnt×Lbl) (A:Nat):∃A',(Jp W (JeS h op) s).1 A=s.2 (if trueH W h op then h.yes else h.no) A':=by
 unfold JeS trueH
 by_cases h1:op=1
 ·rw [if_pos h1,if_pos h1];exact Jp6 W h hy hn s A
 rw [if_neg h1,if_neg h1]
 by_cases h2:op=2
 ·rw [if_pos h2,if_pos h2]
  obtain ⟨A',e⟩:=Jp6 W (JaM h) hn hy s A
  refine ⟨A',e.trans (congrArg (fun k=> s.2 k A') ?_)⟩
  show (if ((!h.w|| W h.ha ==h.hi)&& W h.la ==h.lo)=true then h.no else h.yes)=_
  cases (!h.w|| W h.ha ==h.hi)&& W h.la ==h.lo <;> rfl
 rw [if_neg h2,if_neg h2]
 by_cases h3:op=3
 ·rw [if_pos h3,if_pos h3]
  obtain ⟨A',e⟩:=JnM W (JaM h) hn hy s A
  refine ⟨A',e.trans (congrArg (fun k=> s.2 k A') ?_)⟩
  show (if ((h.w&& decide (h.hi < W h.ha))|| ((!h.w|| W h.ha ==h.hi)&& decide (h.lo≤W h.la)))=true then h.no else h.yes)=_
  cases (h.w&& decide (h.hi < W h.ha))|| ((!h.w|| W h.ha ==h.hi)&& decide (h.lo≤W h.la)) <;> rfl
 rw [if_neg h3,if_neg h3]
 by_cases h6:op=6
 ·rw [if_pos h6,if_pos h6];exact JnM W h hy hn s A
 rw [if_neg h6,if_neg h6]
 exact JxY W h hy hn s A
def Jp8 (D:List Itm):Prop:=∀x∈D,x.mark=0
theorem Jue (h:Hlv) (op:Int):Jp8 (JeS h op):=by
 unfold JeS
 repeat' split
 all_goals (intro x hx;simp [Jc5,Jb3,Jci,Jbb,Jep,JcX,JaM] at hx;try (rcases hx with rfl | rfl | rfl | rfl | rfl | rfl) <;> rfl)
end Go.Proofs.W

namespace Go.Proofs.W
open Go.Vl
set_option maxRecDepth 100000
def opN (op:Int):Prop:=op=1∨op=2∨op=3∨op=6∨op=7
def tgtOk (ex:Nat→Prop):List Itm→Prop
 | []=> True
 | x::l=> (∀t,(t=x.t∨t=x.f)→t≠0→(∃y∈l,y.mark=t)∨ex t)∧tgtOk ex l
theorem Jes {ex1 ex2 ex:Nat→Prop}:∀ {D E:List Itm},tgtOk ex1 D→tgtOk ex2 E→(∀t,ex1 t→(∃y∈E,y.mark=t)∨ex t)→(∀t,ex2 t→ex t)→tgtOk ex (D++E)
 | [], [],_,_,_,_=> trivial
 | [],y::E,h1,h2,g1,g2=> ⟨fun t ht h0=> (h2.1 t ht h0).imp_right (g2 t),Jes (D:= []) trivial h2.2 (ex1:=fun _=> False) (fun t h=> h.elim) g2⟩
 | x::D,E,h1,h2,g1,g2=> ⟨fun t ht h0=> by
    rcases h1.1 t ht h0 with ⟨y,hy,e⟩ | h
    ·exact .inl ⟨y,List.mem_append_left _ hy,e⟩
    ·rcases g1 t h with ⟨y,hy,e⟩ | h
     ·exact .inl ⟨y,List.mem_append_right _ hy,e⟩
     ·exact .inr h,Jes h1.2 h2 g1 g2⟩
theorem JkM {ex ex':Nat→Prop} (g:∀t,ex t→ex' t):∀ {D:List Itm},tgtOk ex D→tgtOk ex' D
 | [],_=> trivial
 | x::D,h=> ⟨fun t ht h0=> (h.1 t ht h0).imp_right (g t),JkM g h.2⟩
def marksO (D:List Itm):List Nat:=(D.map (·.mark)).filter (·≠0)
theorem Jbk (D E:List Itm):marksO (D++E)=marksO D++marksO E:=by unfold marksO;rw [List.map_append,List.filter_append]
theorem JbU {D:List Itm} {k:Nat}:k∈marksO D↔k≠0∧∃x∈D,x.mark=k:=by
 unfold marksO
 simp only [List.mem_filter,List.mem_map,decide_eq_true_eq,ne_eq]
 constructor
 ·rintro ⟨⟨x,hx,rfl⟩,h⟩;exact ⟨h,x,hx,rfl⟩
 ·rintro ⟨h,x,hx,rfl⟩;exact ⟨⟨x,hx,rfl⟩,h⟩
def isBl (m:Mk) (t:Nat):Prop:=∃p∈m.b,p.2=t
structure GoodM (S:Nat→Prop) (m m':Mk) (D:List Itm):Prop where
 add:m'.l=m.l++D
 n:m.n≤m'.n
 b:∃nb,m'.b=m.b++nb∧(∀p∈nb,m.n < p.2∧p.2≤m'.n)∧(nb.map (·.2)).Nodup
 mrk:∀k∈marksO D,m.n < k∧k≤m'.n∧¬isBl m' k
 nd:(marksO D).Nodup
 tg:tgtOk (fun t=> S t∨isBl m' t) D
def mOk (m:Mk):Prop:=∀p∈m.b,0 < p.2∧p.2≤m.n
theorem GoodM.ok {S:Nat→Prop} {m m':Mk} {D:List Itm} (h:GoodM S m m' D) (hm:mOk m):mOk m':=fun p hp=> by
 obtain ⟨nb,e,hb,unb⟩:=h.b
 rw [e] at hp
 rcases List.mem_append.1 hp with hp | hp
 ·exact ⟨(hm p hp).1,Nat.le_trans (hm p hp).2 h.n⟩
 ·exact ⟨by have:=(hb p hp).1;omega,(hb p hp).2⟩
theorem GoodM.bl {S:Nat→Prop} {m m':Mk} {D:List Itm} (h:GoodM S m m' D) {t:Nat} (ht:isBl m t):isBl m' t:=by
 obtain ⟨nb,e,_⟩:=h.b
 obtain ⟨p,hp,rfl⟩:=ht
 exact ⟨p,by rw [e];exact List.mem_append_left _ hp,rfl⟩
theorem JhP {a b c:Nat} {nb nb':List (Nat×Nat)} (hb:∀p∈nb,a < p.2∧p.2≤b) (u:(nb.map (·.2)).Nodup) (hb':∀p∈nb',b < p.2∧p.2≤c) (u':(nb'.map (·.2)).Nodup):((nb++nb').map (·.2)).Nodup:=by
 rw [List.map_append,List.nodup_append]
 refine ⟨u,u',fun x hx y hy e=> ?_⟩
 obtain ⟨p,hp,rfl⟩:=List.mem_map.1 hx
 obtain ⟨q,hq,rfl⟩:=List.mem_map.1 hy
 have:=hb p hp
 have:=hb' q hq
 omega
theorem GoodM.trans {S1 S2 S:Nat→Prop} {a b c:Mk} {D E:List Itm} (h:GoodM S1 a b D) (g:GoodM S2 b c E) (s1:∀t,S1 t→t∈marksO E∨S t) (s2:∀t,S2 t→S t):GoodM S a c (D++E):=by
 obtain ⟨nb,e1,hb,unb⟩:=h.b
 obtain ⟨nb',e2,hb',unb'⟩:=g.b
 refine ⟨by rw [g.add,h.add,List.append_assoc],Nat.le_trans h.n g.n,⟨nb++nb',by rw [e2,e1,List.append_assoc],fun p hp=> ?_, ?_⟩,fun k hk=> ?_, ?_, ?_⟩
 ·have h1:=h.n
  have h2:=g.n
  rcases List.mem_append.1 hp with hp | hp
  ·have:=hb p hp;omega
  ·have:=hb' p hp;omega
 ·exact JhP hb unb hb' unb'
 ·rw [Jbk] at hk
  rcases List.mem_append.1 hk with hk | hk
  ·obtain ⟨k1,k2,k3⟩:=h.mrk k hk
   refine ⟨k1,Nat.le_trans k2 g.n,fun ⟨p,hp,e⟩=> ?_⟩
   rw [e2] at hp
   rcases List.mem_append.1 hp with hp | hp
   ·exact k3 ⟨p,hp,e⟩
   ·have:=(hb' p hp).1;omega
  ·obtain ⟨k1,k2,k3⟩:=g.mrk k hk
   exact ⟨Nat.lt_of_le_of_lt h.n k1,k2,k3⟩
 ·rw [Jbk,List.nodup_append]
  refine ⟨h.nd,g.nd,fun x hx y hy e=> ?_⟩
  have:=(h.mrk x hx).2.1
  have:=(g.mrk y hy).1
  omega
 ·refine Jes h.tg g.tg (fun t ht=> ?_) (fun t ht=> ht.imp_left (s2 t))
  rcases ht with ht | ht
  ·rcases s1 t ht with hk | hk
   ·exact .inl (JbU.1 hk).2
   ·exact .inr (.inl hk)
  ·exact .inr (.inr (g.bl ht))
theorem GoodM.mono {S S':Nat→Prop} {m m':Mk} {D:List Itm} (h:GoodM S m m' D) (s:∀t,S t→S' t):GoodM S' m m' D:=
 ⟨h.add,h.n,h.b,h.mrk,h.nd,JkM (fun t ht=> ht.imp_left (s t)) h.tg⟩
theorem Jhe (S:Nat→Prop) (m:Mk):GoodM S m m []:=⟨(List.append_nil _).symm,Nat.le_refl _,⟨[],(List.append_nil _).symm,(fun _ h=> by cases h),List.nodup_nil⟩,(fun k hk=> by cases hk),List.nodup_nil,trivial⟩
end Go.Proofs.W

namespace Go.Proofs.W
open Go.Vl
set_option maxRecDepth 100000
theorem Jp9 {D:List Itm} (h:Jp8 D):marksO D= []:=by
 unfold marksO
 rw [List.filter_eq_nil_iff]
 intro k hk
 obtain ⟨x,hx,rfl⟩:=List.mem_map.1 hk
 simp [h x hx]
theorem Jd9 {W:Nat→Nat} {k:Nat} (h0:k≠0):∀ {D:List Itm} {s:Cnt×Lbl},k∉marksO D→(Jp W D s).2 k=s.2 k
 | [],s,h=> rfl
 | x::D,s,h=> by
   have hD:k∉marksO D:=fun hk=> h (by
    obtain ⟨h1,y,hy,e⟩:=JbU.1 hk
    exact JbU.2 ⟨h1,y,List.mem_cons_of_mem _ hy,e⟩)
   unfold Jp
   split
   ·exact Jd9 h0 hD
   ·have hne:k≠x.mark:=fun e=> h (JbU.2 ⟨h0,x,List.mem_cons_self ..,e.symm⟩)
    show (if k=x.mark then _ else _)=_
    rw [if_neg hne]
    exact Jd9 h0 hD
def Bok (e:Lbl) (m:Mk):Prop:=∀p∈m.b,∀A,e p.2 A=some p.1
theorem Bok.back {S:Nat→Prop} {a b:Mk} {D:List Itm} {W:Nat→Nat} {s:Cnt×Lbl} (h:Bok s.2 b) (g:GoodM S a b D) (ha:mOk a):Bok (Jp W D s).2 a:=fun p hp A=> by
 have hb:isBl b p.2:=g.bl ⟨p,hp,rfl⟩
 rw [Jd9 (by have:=(ha p hp).1;omega) fun hk=> (g.mrk _ hk).2.2 hb]
 obtain ⟨nb,e,_⟩:=g.b
 exact h p (by rw [e];exact List.mem_append_left _ hp) A
theorem JgM {S:Nat→Prop} {a b:Mk} {D:List Itm} {W:Nat→Nat} {s:Cnt×Lbl} (g:GoodM S a b D) {k:Nat} (h0:k≠0) (hk:k≤a.n∨isBl b k):(Jp W D s).2 k=s.2 k:=
 Jd9 h0 fun hm=> by
  obtain ⟨h1,_,h3⟩:=g.mrk _ hm
  rcases hk with hk | hk
  ·omega
  ·exact h3 hk
theorem JeT {S:Nat→Prop} {m:Mk} {D:List Itm} (h:Jp8 D) (ht:∀x∈D,∀t,(t=x.t∨t=x.f)→t≠0→S t∨isBl m t):GoodM S m (JD m D) D:=by
 refine ⟨rfl,Nat.le_refl _,⟨[],(List.append_nil _).symm,(fun _ h=> by cases h),List.nodup_nil⟩,(fun k hk=> by rw [Jp9 h] at hk;cases hk),(by rw [Jp9 h];exact List.nodup_nil), ?_⟩
 have key:∀E:List Itm,(∀x∈E,x∈D)→tgtOk (fun t=> S t∨isBl (JD m D) t) E:=fun E=> by
  induction E with
  | nil=> intro _;trivial
  | cons x E ih=> exact fun hE=> ⟨fun t h1 h2=> .inr (ht x (hE x (List.mem_cons_self ..)) t h1 h2),ih fun y hy=> hE y (List.mem_cons_of_mem _ hy)⟩
 exact key D fun _ h=> h
theorem Jhf {S:Nat→Prop} {m m':Mk} {D:List Itm} (hm:mOk m) (h:GoodM (fun t=> t=m.n+1∨S t) (Jx m) m' D):GoodM S m (JX m' (m.n+1)) (D++ [⟨m.n+1,0,0,0,0⟩]):=by
 have hn:m.n+1≤m'.n:=h.n
 have hnb:¬isBl m' (m.n+1):=fun ⟨p,hp,e⟩=> by
  obtain ⟨nb,e1,hb,unb⟩:=h.b
  rw [e1] at hp
  rcases List.mem_append.1 hp with hp | hp
  ·have:=(hm p hp).2;omega
  ·have:m.n+1 < p.2:=(hb p hp).1;omega
 have hmk:marksO [(⟨m.n+1,0,0,0,0⟩:Itm)]= [m.n+1]:=by simp [marksO]
 refine ⟨?_,Nat.le_trans (Nat.le_succ _) hn, ?_,fun k hk=> ?_, ?_, ?_⟩
 ·show m'.l++_=_
  rw [h.add,List.append_assoc];rfl
 ·obtain ⟨nb,e1,hb,unb⟩:=h.b
  exact ⟨nb,e1,(fun p hp=> ⟨Nat.lt_trans (Nat.lt_succ_self _) (hb p hp).1,(hb p hp).2⟩),unb⟩
 ·rw [Jbk,hmk] at hk
  rcases List.mem_append.1 hk with hk | hk
  ·obtain ⟨k1,k2,k3⟩:=h.mrk k hk
   exact ⟨Nat.lt_trans (Nat.lt_succ_self _) k1,k2,k3⟩
  ·obtain rfl:=List.mem_singleton.1 hk
   exact ⟨Nat.lt_succ_self _,hn,hnb⟩
 ·rw [Jbk,hmk,List.nodup_append]
  refine ⟨h.nd,(by simp),fun x hx y hy e=> ?_⟩
  obtain rfl:=List.mem_singleton.1 hy
  have:=(h.mrk x hx).1
  have:m.n+1 < x:=this
  omega
 ·refine Jes (ex2:=fun _=> False) h.tg ⟨fun t h1 h2=> absurd (h1.elim id id) h2,trivial⟩ (fun t ht=> ?_) (fun t h=> h.elim)
  rcases ht with (ht | ht) | ht
  ·exact .inl ⟨_,List.mem_singleton.2 rfl,ht.symm⟩
  ·exact .inr (.inl ht)
  ·exact .inr (.inr ht)
theorem Jfn {m:Mk} (h:mOk m):mOk (Jx m):=fun p hp=> ⟨(h p hp).1,Nat.le_succ_of_le (h p hp).2⟩
theorem JzG {h:Hlv} {op:Int}:∀x∈JeS h op,∀t,(t=x.t∨t=x.f)→t≠0→t=h.yes∨t=h.no:=by
 unfold JeS
 repeat' split
 all_goals (intro x hx t ht h0;simp [Jc5,Jb3,Jci,Jbb,Jep,JcX,JaM] at hx;try (rcases hx with rfl | rfl | rfl | rfl | rfl | rfl))
 all_goals (simp at ht;omega)
def Jqa (m:Mk) (c:Cnd) (wide:Bool) (next:Nat):List Itm:=JeS (hlvC c wide (m.n+1) next) c.op++ [⟨m.n+1,0,0,0,0⟩]
theorem JkN {m:Mk} {c:Cnd} {wide:Bool} {next:Nat} (hm:mOk m):GoodM (fun t=> t=next) m (JX (Jc6 (Jx m) c wide (m.n+1) next) (m.n+1)) (Jqa m c wide next):=by
 refine Jhf hm ?_
 unfold Jc6
 rw [Jp7]
 refine JeT (Jue _ _) fun x hx t h1 h2=> ?_
 rcases JzG x hx t h1 h2 with h | h
 ·exact .inl (.inl h)
 ·exact .inl (.inr h)
def JgN (wide:Bool) (next:Nat):Mk→List Cnd→List Itm
 | _, []=> []
 | m,c::cs=> Jqa m c wide next++JgN wide next (JX (Jc6 (Jx m) c wide (m.n+1) next) (m.n+1)) cs
theorem Jf9 {wide:Bool} {next:Nat}:∀(cs:List Cnd) (m:Mk),mOk m→GoodM (fun t=> t=next) m (J1 wide next m cs) (JgN wide next m cs)
 | [],m,hm=> Jhe _ m
 | c::cs,m,hm=> (JkN hm).trans (Jf9 cs _ ((JkN hm).ok hm)) (fun t h=> .inr h) (fun t h=> h)
theorem JzH {W:Nat→Nat} {T:Cnd→Bool} {m:Mk} {c:Cnd} {wide:Bool} {next:Nat} (hT:∀y n,trueH W (hlvC c wide y n) c.op=T c) (hn:next≠0) (hne:next≠m.n+1) (s:Cnt×Lbl) (A:Nat):∃A',(Jp W (Jqa m c wide next) s).1 A=if T c then s.1 A' else s.2 next A':=by
 unfold Jqa
 rw [Jay]
 obtain ⟨A',e⟩:=JzF W (hlvC c wide (m.n+1) next) c.op (Nat.succ_ne_zero _) hn (Jp W [⟨m.n+1,0,0,0,0⟩] s) A
 refine ⟨A',e.trans ?_⟩
 rw [hT]
 show (if (if T c=true then m.n+1 else next)=m.n+1 then s.1 else s.2 (if T c=true then m.n+1 else next)) A'=_
 cases T c
 ·rw [if_neg Bool.false_ne_true,if_neg hne,if_neg Bool.false_ne_true]
 ·rw [if_pos rfl,if_pos rfl,if_pos rfl]
theorem JnN {W:Nat→Nat} {T:Cnd→Bool} {wide:Bool} {next:Nat} (hn:next≠0):∀(cs:List Cnd) (m:Mk),mOk m→next≤m.n→(∀c∈cs,∀y n,trueH W (hlvC c wide y n) c.op=T c)→∀(s:Cnt×Lbl) (A:Nat),∃A',(Jp W (JgN wide next m cs) s).1 A=if cs.all T then s.1 A' else s.2 next A'
 | [],m,hm,hx,hT,s,A=> ⟨A,rfl⟩
 | c::cs,m,hm,hx,hT,s,A=> by
   have g:=JkN (c:=c) (wide:=wide) (next:=next) hm
   have g2:=Jf9 (wide:=wide) (next:=next) cs _ (g.ok hm)
   show ∃A',(Jp W (Jqa m c wide next++JgN wide next _ cs) s).1 A=_
   rw [Jay]
   obtain ⟨A1,e1⟩:=JzH (m:=m) (hT c (List.mem_cons_self ..)) hn Om (Jp W (JgN wide next (JX (Jc6 (Jx m) c wide (m.n+1) next) (m.n+1)) cs) s) A
   rw [e1,JgM g2 hn (.inl (Nat.le_trans hx g.n)),List.all_cons]
   cases T c
   ·exact ⟨A1,rfl⟩
   ·obtain ⟨A2,e2⟩:=JnN hn cs _ (g.ok hm) (Nat.le_trans hx g.n) (fun c hc=> hT c (List.mem_cons_of_mem _ hc)) s A1
    exact ⟨A2,e2⟩
theorem Jfo (m:Mk) (c:Nat):(c,(JA m c).1)∈(JA m c).2.b:=by
 unfold JA
 cases h:Jce m.b c with
 | some k=>
   unfold Jce at h
   obtain ⟨p,h1,h2⟩:=Option.map_eq_some_iff.1 h
   have h3:=List.find?_some h1
   have h4:p.1=c:=by simpa using h3
   have h5:=List.mem_of_find?_eq_some h1
   rw [← h4,← h2];exact h5
 | none=> exact List.mem_append_right _ (List.mem_singleton.2 rfl)
theorem JeY (S:Nat→Prop) (m:Mk) (c:Nat):GoodM S m (JA m c).2 []:=by
 unfold JA
 cases Jce m.b c with
 | some k=> exact Jhe S m
 | none=> exact ⟨(List.append_nil _).symm,Nat.le_succ _,⟨[(c,m.n+1)],rfl,(fun p hp=> by obtain rfl:=List.mem_singleton.1 hp;exact ⟨Nat.lt_succ_self _,Nat.le_refl _⟩),(by simp)⟩,(fun k hk=> by cases hk),List.nodup_nil,trivial⟩
theorem JkO {m:Mk} (hm:mOk m) (c:Nat):(JA m c).1≠0:=by
 have:=((JeY (fun _=> True) m c).ok hm _ (Jfo m c)).1
 omega
theorem Jjj {S:Nat→Prop} (m:Mk) (t:Nat) (h:S t∨isBl m t):GoodM S m (JD m [JbI t]) [JbI t]:=
 JeT (fun x hx=> by obtain rfl:=List.mem_singleton.1 hx;rfl) fun x hx t' h1 h2=> by
  obtain rfl:=List.mem_singleton.1 hx
  rcases h1 with rfl | rfl
  ·exact h
  ·exact absurd rfl h2
def JlP (wide:Bool) (m:Mk) (r:PRul):List Itm:=
 (JgN wide (m.n+1) (Jx m) r.conds++([]++ [JbI (JA (J1 wide (m.n+1) (Jx m) r.conds) r.code).1]))++ [⟨m.n+1,0,0,0,0⟩]
theorem Jhg {wide:Bool} {m:Mk} (hm:mOk m) (r:PRul):GoodM (fun _=> False) m (JaH wide m r) (JlP wide m r):=by
 refine Jhf hm ?_
 have g1:=Jf9 (wide:=wide) (next:=m.n+1) r.conds (Jx m) (Jfn hm)
 have g2:=JeY (fun _=> False) (J1 wide (m.n+1) (Jx m) r.conds) r.code
 have g3:=Jjj (S:=fun _=> False) (JA (J1 wide (m.n+1) (Jx m) r.conds) r.code).2 (JA (J1 wide (m.n+1) (Jx m) r.conds) r.code).1 (.inr ⟨_,Jfo _ _,rfl⟩)
 exact g1.trans (g2.trans (S:=fun _=> False) g3 (fun t h=> h.elim) (fun t h=> h.elim)) (fun t h=> .inr (.inl h)) (fun t h=> h.elim)
theorem JxZ {W:Nat→Nat} {T:Cnd→Bool} {wide:Bool} {m:Mk} (hm:mOk m) (r:PRul) (hT:∀c∈r.conds,∀y n,trueH W (hlvC c wide y n) c.op=T c) (s:Cnt×Lbl) (hb:Bok s.2 (JaH wide m r)) (A:Nat):∃A',(Jp W (JlP wide m r) s).1 A=if r.conds.all T then some r.code else s.1 A':=by
 have g1:=Jf9 (wide:=wide) (next:=m.n+1) r.conds (Jx m) (Jfn hm)
 have hin:=Jfo (J1 wide (m.n+1) (Jx m) r.conds) r.code
 have hpos:=JkO (g1.ok (Jfn hm)) r.code
 have hgb:isBl (JaH wide m r) (JA (J1 wide (m.n+1) (Jx m) r.conds) r.code).1:=⟨_,hin,rfl⟩
 have hne:(JA (J1 wide (m.n+1) (Jx m) r.conds) r.code).1≠m.n+1:=fun e=>
  ((Jhg (wide:=wide) hm r).mrk (m.n+1) (JbU.2 ⟨Nat.succ_ne_zero _,_,List.mem_append_right _ (List.mem_singleton.2 rfl),rfl⟩)).2.2 (e ▸ hgb)
 have hj:=hb _ hin
 unfold JlP
 generalize (JA (J1 wide (m.n + 1) (Jx m) r.conds) r.code).1 = k at *
 show ∃A',(Jp W ((JgN wide (m.n+1) (Jx m) r.conds++([]++ [JbI k]))++ [⟨m.n+1,0,0,0,0⟩]) s).1 A=_
 rw [Jay,List.nil_append,Jay]
 obtain ⟨A',e⟩:=JnN (W:=W) (T:=T) (wide:=wide) (next:=m.n+1) (Nat.succ_ne_zero _) r.conds (Jx m) (Jfn hm) (Nat.le_refl _) hT (Jp W [JbI k] (Jp W [⟨m.n+1,0,0,0,0⟩] s)) A
 refine ⟨A',e.trans ?_⟩
 show (if r.conds.all T=true then (if k=0 then s.1 else if k=m.n+1 then s.1 else s.2 k) A' else (if m.n+1=m.n+1 then s.1 else s.2 (m.n+1)) A')=_
 rw [if_neg hpos,if_neg hne,if_pos rfl,hj A']
def JhQ (wide:Bool):Mk→List PRul→List Itm
 | _, []=> []
 | m,r::l=> JlP wide m r++JhQ wide (JaH wide m r) l
theorem Jis {wide:Bool}:∀(l:List PRul) (m:Mk),mOk m→GoodM (fun _=> False) m (l.foldl (JaH wide) m) (JhQ wide m l)
 | [],m,hm=> Jhe _ m
 | r::l,m,hm=> (Jhg hm r).trans (Jis l _ ((Jhg hm r).ok hm)) (fun t h=> h.elim) (fun t h=> h)
theorem JnO {W:Nat→Nat} {T:Cnd→Bool} {wide:Bool}:∀(l:List PRul) (m:Mk),mOk m→(∀r∈l,∀c∈r.conds,∀y n,trueH W (hlvC c wide y n) c.op=T c)→∀(s:Cnt×Lbl),Bok s.2 (l.foldl (JaH wide) m)→∀A,∃A',(Jp W (JhQ wide m l) s).1 A=match (l.find? fun r=> r.conds.all T).map (·.code) with | some c=> some c | none=> s.1 A'
 | [],m,hm,hT,s,hb,A=> ⟨A,rfl⟩
 | r::l,m,hm,hT,s,hb,A=> by
   have g:=Jhg (wide:=wide) hm r
   have g2:=Jis (wide:=wide) l _ (g.ok hm)
   have hb':Bok (Jp W (JhQ wide (JaH wide m r) l) s).2 (JaH wide m r):=Bok.back hb g2 (g.ok hm)
   obtain ⟨A1,e1⟩:=JxZ hm r (hT r (List.mem_cons_self ..)) _ hb' A
   show ∃A',(Jp W (JlP wide m r++JhQ wide _ l) s).1 A=_
   rw [Jay,e1,List.find?_cons]
   cases h:r.conds.all T
   ·obtain ⟨A2,e2⟩:=JnO l _ (g.ok hm) (fun r hr=> hT r (List.mem_cons_of_mem _ hr)) s hb A1
    exact ⟨A2,e2⟩
   ·exact ⟨A1,rfl⟩
def Jx0 (wide:Bool) (other:Nat) (m:Mk) (l:List PRul):List Itm:=JhQ wide m l++ [JbI other]
theorem Jx1 {wide:Bool} {other:Nat} {m:Mk} (hm:mOk m) (l:List PRul):GoodM (fun t=> t=other) m (JdG wide other m l) (Jx0 wide other m l):=
 (Jis l m hm).trans (Jjj (S:=fun t=> t=other) _ other (.inl rfl)) (fun t h=> h.elim) (fun t h=> h)
theorem JzI {W:Nat→Nat} {T:Cnd→Bool} {wide:Bool} {other:Nat} {m:Mk} (hm:mOk m) (l:List PRul) (hT:∀r∈l,∀c∈r.conds,∀y n,trueH W (hlvC c wide y n) c.op=T c) (s:Cnt×Lbl) (hb:Bok s.2 (JdG wide other m l)) (ho:other≠0) {d:Nat} (hd:∀A,s.2 other A=some d) (A:Nat):(Jp W (Jx0 wide other m l) s).1 A=some (((l.find? fun r=> r.conds.all T).map (·.code)).getD d):=by
 unfold Jx0
 rw [Jay]
 obtain ⟨A',e⟩:=JnO (T:=T) l m hm hT (Jp W [JbI other] s) hb A
 rw [e]
 cases (l.find? fun r=> r.conds.all T).map (·.code) with
 | some c=> rfl
 | none=>
   show (if other=0 then s.1 else s.2 other) A'=_
   rw [if_neg ho,hd];rfl
end Go.Proofs.W

namespace Go.Proofs.W
open Go.Vl
set_option maxRecDepth 100000
theorem JnP {l:List Nat} (h:l.Pairwise (· < ·)) {i j:Nat} (hij:i < j) (hj:j < l.length):l.getD i 0 < l.getD j 0:=by
 have:=List.pairwise_iff_getElem.1 h i j Om hj hij
 simpa [List.getD,show i < l.length by omega,hj] using this
theorem JnQ {l:List Nat} {k i:Nat} (h:i < k):(l.take k).getD i 0=l.getD i 0:=by simp [List.getD,List.getElem?_take,h]
theorem JnR {l:List Nat} {k i:Nat}:(l.drop k).getD i 0=l.getD (k+i) 0:=by simp [List.getD]
def Jy7 (marks:List Nat) (other:Nat) (l:List Nat) (pl A:Nat) (e:Lbl) (r:Option Nat):Prop:=(∀i,i < l.length→A=l.getD i 0→r=e (marks.getD (pl+i) 0) A)∧((∀i,i < l.length→A≠l.getD i 0)→r=e other A)
theorem Jjk (marks:List Nat) (other:Nat) (W:Nat→Nat):∀(N:Nat) (l:List Nat) (pl:Nat) (m:Mk),l.length≤N→0 < l.length→l.Pairwise (· < ·)→mOk m→(other≠0∧other≤m.n)→(∀i,i < l.length→marks.getD (pl+i) 0≠0∧marks.getD (pl+i) 0≤m.n)→
 ∃D,GoodM (fun t=> t=other∨t∈marks) m (Jbt marks other l pl m) D∧∀(s:Cnt×Lbl) (A:Nat),Jy7 marks other l pl A s.2 ((Jp W D s).1 A)
 | 0,l,pl,m,h,h0,hp,hm,ho,hk=> by omega
 | N+1,l,pl,m,h,h0,hp,hm,ho,hk=> by
   have inM:∀i,marks.getD i 0≠0→marks.getD i 0∈marks:=fun i hi=> by
    rcases Nat.lt_or_ge i marks.length with hl | hl
    ·simp [List.getD,hl]
    ·exact absurd (by simp [List.getD,List.getElem?_eq_none hl]) hi
   rw [Jbt]
   by_cases h1:l.length≤1
   ·rw [dif_pos h1]
    obtain ⟨k0,k1⟩:=hk 0 h0
    rw [Nat.add_zero] at k0 k1
    refine ⟨_,JeT (S:=fun t=> t=other∨t∈marks) (fun x hx=> by obtain rfl:=List.mem_singleton.1 hx;rfl) (fun x hx t ht _=> ?_),fun s A=> ?_⟩
    ·obtain rfl:=List.mem_singleton.1 hx
     rcases ht with rfl | rfl
     ·exact .inl (.inr (inM _ k0))
     ·exact .inl (.inl rfl)
    ·have e:(Jp W [⟨0,0x15,l.getD 0 0,marks.getD pl 0,other⟩] s).1 A=if A=l.getD 0 0 then s.2 (marks.getD pl 0) A else s.2 other A:=by
      show (if (A ==l.getD 0 0)=true then (if marks.getD pl 0=0 then s.1 else s.2 (marks.getD pl 0)) A else (if other=0 then s.1 else s.2 other) A)=_
      rw [if_neg k0,if_neg ho.1]
      simp
     refine ⟨fun i hi hA=> ?_,fun hA=> ?_⟩
     ·obtain rfl:i=0:=by omega
      rw [e,if_pos hA,Nat.add_zero]
     ·rw [e,if_neg (hA 0 h0)]
   ·rw [dif_neg h1]
    have hl1:(l.take (l.length / 2)).length=l.length / 2:=by simp;omega
    have hl2:(l.drop (l.length / 2)).length=l.length - l.length / 2:=by simp
    have hm1:mOk (JD (Jx m) [⟨0,0x35,l.getD (l.length / 2) 0,m.n+1,0⟩]):=Jfn hm
    obtain ⟨D1,g1,q1⟩:=Jjk marks other W N (l.take (l.length / 2)) pl (JD (Jx m) [⟨0,0x35,l.getD (l.length / 2) 0,m.n+1,0⟩]) Om Om (hp.sublist (List.take_sublist _ _)) hm1 ⟨ho.1,Nat.le_succ_of_le ho.2⟩
     (fun i hi=> ⟨(hk i Om).1,Nat.le_succ_of_le (hk i Om).2⟩)
    have g2:GoodM (fun t=> t=m.n+1∨(t=other∨t∈marks)) (Jx m) (Jbt marks other (l.take (l.length / 2)) pl (JD (Jx m) [⟨0,0x35,l.getD (l.length / 2) 0,m.n+1,0⟩])) ([⟨0,0x35,l.getD (l.length / 2) 0,m.n+1,0⟩]++D1):=
     (JeT (S:=fun t=> t=m.n+1) (fun x hx=> by obtain rfl:=List.mem_singleton.1 hx;rfl) (fun x hx t ht h0=> by
       obtain rfl:=List.mem_singleton.1 hx
       rcases ht with rfl | rfl
       ·exact .inl rfl
       ·exact absurd rfl h0)).trans g1 (fun t h=> .inr (.inl h)) (fun t h=> .inr h)
    have g3:=Jhf hm g2
    have hn3:m.n≤(JX (Jbt marks other (l.take (l.length / 2)) pl (JD (Jx m) [⟨0,0x35,l.getD (l.length / 2) 0,m.n+1,0⟩])) (m.n+1)).n:=g3.n
    obtain ⟨D2,g4,q2⟩:=Jjk marks other W N (l.drop (l.length / 2)) (pl+l.length / 2) _ Om Om (hp.sublist (List.drop_sublist _ _)) (g3.ok hm) ⟨ho.1,Nat.le_trans ho.2 hn3⟩
     (fun i hi=> by rw [Nat.add_assoc];exact ⟨(hk _ Om).1,Nat.le_trans (hk _ Om).2 hn3⟩)
    refine ⟨_,g3.trans g4 (fun t h=> .inr h) (fun t h=> h),fun s A=> ?_⟩
    rw [Jay]
    have back:∀t,t≠0→t≤m.n→(Jp W [⟨m.n+1,0,0,0,0⟩] (Jp W D2 s)).2 t=s.2 t:=fun t t0 t1=> by
     show (if t=m.n+1 then _ else _)=_
     rw [if_neg Om]
     exact JgM g4 t0 (.inl (Nat.le_trans t1 hn3))
    have hhi:(Jp W D1 (Jp W [⟨m.n+1,0,0,0,0⟩] (Jp W D2 s))).2 (m.n+1)=(Jp W D2 s).1:=by
     rw [JgM g1 (Nat.succ_ne_zero _) (.inl (Nat.le_refl _))]
     show (if m.n+1=m.n+1 then _ else _)=_
     rw [if_pos rfl];rfl
    have e:(Jp W (([⟨0,0x35,l.getD (l.length / 2) 0,m.n+1,0⟩]++D1)++ [⟨m.n+1,0,0,0,0⟩]) (Jp W D2 s)).1 A=if l.getD (l.length / 2) 0≤A then (Jp W D2 s).1 A else (Jp W D1 (Jp W [⟨m.n+1,0,0,0,0⟩] (Jp W D2 s))).1 A:=by
     rw [Jay,Jay]
     show (if decide (l.getD (l.length / 2) 0≤A)=true then (if m.n+1=0 then _ else (Jp W D1 (Jp W [⟨m.n+1,0,0,0,0⟩] (Jp W D2 s))).2 (m.n+1)) A else (if 0=0 then (Jp W D1 (Jp W [⟨m.n+1,0,0,0,0⟩] (Jp W D2 s))).1 else _) A)=_
     rw [if_neg (Nat.succ_ne_zero _),if_pos rfl,hhi]
     simp
    rw [e]
    obtain ⟨a1,a2⟩:=q1 (Jp W [⟨m.n+1,0,0,0,0⟩] (Jp W D2 s)) A
    obtain ⟨b1,b2⟩:=q2 s A
    by_cases hA:l.getD (l.length / 2) 0≤A
    ·rw [if_pos hA]
     refine ⟨fun i hi hi2=> ?_,fun hi=> ?_⟩
     ·have hge:l.length / 2≤i:=by
       rcases Nat.lt_or_ge i (l.length / 2) with q | q
       ·have:=JnP hp q Om;omega
       ·exact q
      have:=b1 (i - l.length / 2) Om (by rw [JnR,show l.length / 2+(i - l.length / 2)=i by omega];exact hi2)
      rw [this,show pl+l.length / 2+(i - l.length / 2)=pl+i by omega]
     ·exact b2 fun i hi2=> by rw [JnR];exact hi _ Om
    ·rw [if_neg hA]
     refine ⟨fun i hi hi2=> ?_,fun hi=> ?_⟩
     ·have hlt:i < l.length / 2:=by
       rcases Nat.lt_or_ge i (l.length / 2) with q | q
       ·exact q
       ·rcases Nat.lt_or_ge (l.length / 2) i with q2 | q2
        ·have:=JnP hp q2 hi;omega
        ·have:i=l.length / 2:=by omega
         subst this;omega
      rw [a1 i Om (by rw [JnQ hlt];exact hi2),back _ (hk i hi).1 (hk i hi).2]
     ·rw [a2 fun i hi2=> by rw [JnQ Om];exact hi i Om,back _ ho.1 ho.2]
theorem Jki (marks:List Nat) (other:Nat) (W:Nat→Nat) (l:List Nat) (m:Mk) (hp:l.Pairwise (· < ·)) (hm:mOk m) (ho:other≠0∧other≤m.n) (hk:∀i,i < l.length→marks.getD i 0≠0∧marks.getD i 0≤m.n):
 ∃D,GoodM (fun t=> t=other∨t∈marks) m (Jal marks other l m) D∧∀(s:Cnt×Lbl) (A:Nat),Jy7 marks other l 0 A s.2 ((Jp W D s).1 A):=by
 unfold Jal
 by_cases hl:l= []
 ·rw [if_pos hl]
  subst hl
  refine ⟨_,Jjj m other (.inl (.inl rfl)),fun s A=> ⟨fun i hi=> absurd hi (Nat.not_lt_zero _),fun _=> ?_⟩⟩
  show (if other=0 then s.1 else s.2 other) A=_
  rw [if_neg ho.1]
 ·rw [if_neg hl]
  exact Jjk marks other W l.length l 0 m (Nat.le_refl _) (List.length_pos_iff.2 hl) hp hm ho (fun i hi=> by rw [Nat.zero_add];exact hk i hi)
end Go.Proofs.W

namespace Go.Proofs.W
open Go.Vl
set_option maxRecDepth 100000
theorem GoodM.mono2 {S S':Nat→Prop} {m m':Mk} {D:List Itm} (h:GoodM S m m' D) (s:∀t,S t→S' t∨isBl m' t):GoodM S' m m' D:=
 ⟨h.add,h.n,h.b,h.mrk,h.nd,JkM (fun t ht=> ht.elim (s t) .inr) h.tg⟩
theorem Je9:∀(l:List PSub) (m:Mk),(J7 m l).1.length=l.length
 | [],m=> rfl
 | s::l,m=> congrArg (·+1) (Je9 l _)
theorem Jhz (S:Nat→Prop):∀(l:List PSub) (m:Mk),GoodM S m (J7 m l).2 []
 | [],m=> Jhe S m
 | s::l,m=> (JeY S m s.code).trans (Jhz S l _) (fun t h=> .inr h) (fun t h=> h)
theorem JnS:∀(l:List PSub) (m:Mk) (i:Nat),i < l.length→((l.getD i ⟨0,0⟩).code,(J7 m l).1.getD i 0)∈(J7 m l).2.b
 | [],m,i,h=> absurd h (Nat.not_lt_zero _)
 | s::l,m,0,h=> by
   obtain ⟨nb,e,_⟩:=(Jhz (fun _=> True) l (JA m s.code).2).b
   show (s.code,(JA m s.code).1)∈(J7 (JA m s.code).2 l).2.b
   rw [e]
   exact List.mem_append_left _ (Jfo m s.code)
 | s::l,m,i+1,h=> JnS l (JA m s.code).2 i (by simpa using h)
def JkP (W:Nat→Nat) (d:Nat) (l:List PSub):Nat:=(l.findSome? fun x=> if x.num=W 16 then some x.code else none).getD d
theorem JnT {W:Nat→Nat} {d:Nat}:∀ {l:List PSub},(∀i,i < l.length→W 16≠(l.map (·.num)).getD i 0)→JkP W d l=d
 | [],h=> rfl
 | s::l,h=> by
   unfold JkP
   rw [List.findSome?_cons,if_neg (fun e=> h 0 (Nat.succ_pos _) e.symm)]
   exact JnT fun i hi=> h (i+1) (Nat.succ_lt_succ hi)
theorem JnU {W:Nat→Nat} {d:Nat}:∀ {l:List PSub} {i:Nat},i < l.length→(l.map (·.num)).Pairwise (· < ·)→W 16=(l.map (·.num)).getD i 0→JkP W d l=(l.getD i ⟨0,0⟩).code
 | s::l,0,h,hp,e=> by
   unfold JkP
   rw [List.findSome?_cons,if_pos (show s.num=W 16 from e.symm)];rfl
 | s::l,i+1,h,hp,e=> by
   have h1:=List.pairwise_cons.1 hp
   have hi:i < l.length:=by simpa using h
   have hlt:s.num < (l.map (·.num)).getD i 0:=h1.1 ((l.map (·.num)).getD i 0) (by simp [List.getD,hi];exact ⟨_,List.getElem_mem hi,rfl⟩)
   unfold JkP
   rw [List.findSome?_cons,if_neg (fun q=> absurd (q.trans e) (Nat.ne_of_lt hlt))]
   exact JnU hi h1.2 e
theorem JvO (W:Nat→Nat) {other:Nat} {m:Mk} (hm:mOk m) (ho:other≠0∧other≤m.n) {l:List PSub} (hp:(l.map (·.num)).Pairwise (· < ·)):
 ∃D,GoodM (fun t=> t=other) m (JeF other m l) D∧∀(s:Cnt×Lbl) (d:Nat),Bok s.2 (JeF other m l)→(∀A,s.2 other A=some d)→∀A,(Jp W D s).1 A=some (JkP W d l):=by
 have g1:=JeT (S:=fun t=> t=other) (m:=m) (D:= [⟨0,0x20,16,0,0⟩]) (fun x hx=> by obtain rfl:=List.mem_singleton.1 hx;rfl) (fun x hx t ht h0=> by
  obtain rfl:=List.mem_singleton.1 hx
  rcases ht with rfl | rfl <;> exact absurd rfl h0)
 have g2:=Jhz (fun t=> t=other) l (JD m [⟨0,0x20,16,0,0⟩])
 have hin:=JnS l (JD m [⟨0,0x20,16,0,0⟩])
 have hlen:=Je9 l (JD m [⟨0,0x20,16,0,0⟩])
 have g12:=g1.trans (S:=fun t=> t=other) g2 (fun t h=> .inr h) (fun t h=> h)
 have hm2:=g12.ok hm
 unfold JeF
 dsimp only
 generalize J7 (JD m [⟨0, 0x20, 16, 0, 0⟩]) l = a at *
 obtain ⟨D,g3,q⟩:=Jki a.1 other W (l.map (·.num)) a.2 hp hm2 ⟨ho.1,Nat.le_trans ho.2 g12.n⟩ (fun i hi=> by
  have h1:=hm2 _ (hin i (by simpa using hi))
  exact ⟨Nat.pos_iff_ne_zero.1 h1.1,h1.2⟩)
 have g3':GoodM (fun t=> t=other) a.2 (Jal a.1 other (l.map (·.num)) a.2) D:=g3.mono2 fun t ht=> by
  rcases ht with ht | ht
  ·exact .inl ht
  ·obtain ⟨i,hi,rfl⟩:=List.getElem_of_mem ht
   have h1:=hin i Om
   rw [show a.1.getD i 0=a.1[i] by simp [List.getD,hi]] at h1
   exact .inr (g3.bl ⟨_,h1,rfl⟩)
 refine ⟨_,g12.trans g3' (fun t h=> .inr h) (fun t h=> h),fun s d hb hd A=> ?_⟩
 rw [List.append_nil,Jay]
 show (Jp W D s).1 (W 16)=_
 obtain ⟨q1,q2⟩:=q s (W 16)
 by_cases h:∃i,i < l.length∧W 16=(l.map (·.num)).getD i 0
 ·obtain ⟨i,hi,he⟩:=h
  rw [q1 i (by simpa using hi) he,JnU hi hp he,Nat.zero_add]
  obtain ⟨nb,e,_⟩:=g3.b
  exact hb _ (by rw [e];exact List.mem_append_left _ (hin i hi)) _
 ·rw [q2 fun i hi he=> h ⟨i,by simpa using hi,he⟩,hd,JnT fun i hi he=> h ⟨i,hi,he⟩]
structure PlanOk (P:Plan):Prop where
 subs:∀k,((P.subs k).map (·.num)).Pairwise (· < ·)
def Jit (W:Nat→Nat) (T:Cnd→Bool) (P:Plan):Prt→Nat
 | .ent e=> ((e.rules.find? fun r=> r.conds.all T).map (·.code)).getD P.dflt
 | .sub _ k=> JkP W P.dflt (P.subs k)
theorem JvP (W:Nat→Nat) (T:Cnd→Bool) {P:Plan} (hP:∀k,((P.subs k).map (·.num)).Pairwise (· < ·)) {a other:Nat} {m:Mk} (hm:mOk m) (ho:other≠0∧other≤m.n) (x:Prt) (hT:∀e,x= .ent e→∀r∈e.rules,∀c∈r.conds,∀y n,trueH W (hlvC c (a !=2) y n) c.op=T c):
 ∃D,GoodM (fun t=> t=other) m (Jc7 P a other m x) D∧∀(s:Cnt×Lbl),Bok s.2 (Jc7 P a other m x)→(∀A,s.2 other A=some P.dflt)→∀A,(Jp W D s).1 A=some (Jit W T P x):=by
 cases x with
 | ent e=> exact ⟨_,Jx1 hm e.rules,fun s hb hd A=> JzI hm e.rules (hT e rfl) s hb ho.1 hd A⟩
 | sub n k=>
   obtain ⟨D,g,q⟩:=JvO W hm ho (hP k)
   exact ⟨D,g,fun s hb hd A=> q s P.dflt hb hd A⟩
end Go.Proofs.W

namespace Go.Proofs.W
open Go.Vl
set_option maxRecDepth 100000
structure GoodP (K:List Nat) (S:Nat→Prop) (m m':Mk) (D:List Itm):Prop where
 add:m'.l=m.l++D
 n:m.n≤m'.n
 b:∃nb,m'.b=m.b++nb∧(∀p∈nb,m.n < p.2∧p.2≤m'.n)∧(nb.map (·.2)).Nodup
 mrk:∀k∈marksO D,(m.n < k∧k≤m'.n∧¬isBl m' k)∨k∈K
 all:∀k∈K,k∈marksO D
 nd:(marksO D).Nodup
 tg:tgtOk (fun t=> S t∨isBl m' t) D
theorem GoodP.ok {K:List Nat} {S:Nat→Prop} {m m':Mk} {D:List Itm} (h:GoodP K S m m' D) (hm:mOk m):mOk m':=fun p hp=> by
 obtain ⟨nb,e,hb,unb⟩:=h.b
 rw [e] at hp
 rcases List.mem_append.1 hp with hp | hp
 ·exact ⟨(hm p hp).1,Nat.le_trans (hm p hp).2 h.n⟩
 ·exact ⟨by have:=(hb p hp).1;omega,(hb p hp).2⟩
theorem GoodP.bl {K:List Nat} {S:Nat→Prop} {m m':Mk} {D:List Itm} (h:GoodP K S m m' D) {t:Nat} (ht:isBl m t):isBl m' t:=by
 obtain ⟨nb,e,_⟩:=h.b
 obtain ⟨p,hp,rfl⟩:=ht
 exact ⟨p,by rw [e];exact List.mem_append_left _ hp,rfl⟩
theorem Jfa {m m':Mk} {nb:List (Nat×Nat)} (e:m'.b=m.b++nb) (hb:∀p∈nb,m.n < p.2∧p.2≤m'.n) {k:Nat} (hk:k≤m.n) (h:¬isBl m k):¬isBl m' k:=fun ⟨p,hp,e2⟩=> by
 rw [e] at hp
 rcases List.mem_append.1 hp with hp | hp
 ·exact h ⟨p,hp,e2⟩
 ·have:=(hb p hp).1;omega
theorem JkQ {β:Type} (W:Nat→Nat) (f:Mk→β→Mk) (V:β→Nat) (d other:Nat) (okx:β→Prop) (hf:∀m x,okx x→mOk m→(other≠0∧other≤m.n)→∃D,GoodM (fun t=> t=other) m (f m x) D∧∀(s:Cnt×Lbl),Bok s.2 (f m x)→(∀A,s.2 other A=some d)→∀A,(Jp W D s).1 A=some (V x)):∀(l:List (Nat×β)) (m:Mk),mOk m→(other≠0∧other≤m.n)→(l.map (·.1)).Nodup→(∀k∈l.map (·.1),k≠0∧k≤m.n∧¬isBl m k∧k≠other)→
 (∀x∈l,okx x.2)→
 ∃D,GoodP (l.map (·.1)) (fun t=> t=other) m (JbO f m l) D∧∀(s:Cnt×Lbl),Bok s.2 (JbO f m l)→(∀A,s.2 other A=some d)→∀x∈l,∀A,(Jp W D s).2 x.1 A=some (V x.2)
 | [],m,hm,ho,hk,hk2,hT=> ⟨[],⟨(List.append_nil _).symm,Nat.le_refl _,⟨[],(List.append_nil _).symm,(fun _ h=> by cases h),List.nodup_nil⟩,(fun k h=> by cases h),(fun k h=> by cases h),List.nodup_nil,trivial⟩,fun s _ _ x hx=> by cases hx⟩
 | x::l,m,hm,ho,hk,hk2,hT=> by
   obtain ⟨k0,k1,k2,k3⟩:=hk2 x.1 (List.mem_cons_self ..)
   have hkn:=List.nodup_cons.1 hk
   obtain ⟨D1,g1,q1⟩:=hf (JX m x.1) x.2 (hT x (List.mem_cons_self ..)) hm ho
   obtain ⟨nb1,e1,hb1,unb1⟩:=g1.b
   obtain ⟨D2,g2,q2⟩:=JkQ W f V d other okx hf l (f (JX m x.1) x.2) (g1.ok hm) ⟨ho.1,Nat.le_trans ho.2 g1.n⟩ hkn.2 (fun k h=> by
    obtain ⟨c0,c1,c2,c3⟩:=hk2 k (List.mem_cons_of_mem _ h)
    exact ⟨c0,Nat.le_trans c1 g1.n,Jfa (m:=JX m x.1) e1 hb1 c1 c2,c3⟩) (fun y hy=> hT y (List.mem_cons_of_mem _ hy))
   obtain ⟨nb2,e2,hb2,unb2⟩:=g2.b
   have hmx:marksO [(⟨x.1,0,0,0,0⟩:Itm)]= [x.1]:=by simp [marksO,k0]
   have hn1:m.n≤(f (JX m x.1) x.2).n:=g1.n
   have hn2:=g2.n
   have hbb:¬isBl (JbO f m (x::l)) x.1:=Jfa (m:=f (JX m x.1) x.2) e2 hb2 (Nat.le_trans k1 hn1) (Jfa (m:=JX m x.1) e1 hb1 k1 k2)
   have hx2:x.1∉marksO D2:=fun h=> by
    rcases g2.mrk _ h with ⟨h1,_⟩ | h
    ·omega
    ·exact hkn.1 h
   refine ⟨[⟨x.1,0,0,0,0⟩]++(D1++D2),⟨?_,Nat.le_trans hn1 hn2,⟨nb1++nb2, ?_,fun p hp=> ?_,JhP hb1 unb1 hb2 unb2⟩,fun k h=> ?_,fun k h=> ?_, ?_, ?_⟩,fun s hb hd y hy A=> ?_⟩
   ·show (JbO f _ l).l=_
    rw [g2.add,g1.add]
    show (m.l++ [_]++D1)++D2=_
    simp only [List.append_assoc]
   ·show (JbO f _ l).b=_
    rw [e2,e1,List.append_assoc];rfl
   ·rcases List.mem_append.1 hp with hp | hp
    ·have h1:=(hb1 p hp).1
     have h2:=(hb1 p hp).2
     exact ⟨h1,Nat.le_trans h2 hn2⟩
    ·have h1:=(hb2 p hp).1
     exact ⟨Nat.lt_of_le_of_lt hn1 h1,(hb2 p hp).2⟩
   ·rw [Jbk,Jbk,hmx] at h
    rcases List.mem_append.1 h with h | h
    ·exact .inr (by rw [List.mem_singleton.1 h];exact List.mem_cons_self ..)
    ·rcases List.mem_append.1 h with h | h
     ·obtain ⟨c1,c2,c3⟩:=g1.mrk k h
      exact .inl ⟨c1,Nat.le_trans c2 hn2,Jfa (m:=f (JX m x.1) x.2) e2 hb2 c2 c3⟩
     ·rcases g2.mrk k h with ⟨c1,c2,c3⟩ | c
      ·exact .inl ⟨Nat.lt_of_le_of_lt hn1 c1,c2,c3⟩
      ·exact .inr (List.mem_cons_of_mem _ c)
   ·rw [Jbk,Jbk,hmx]
    rcases List.mem_cons.1 h with rfl | h
    ·exact List.mem_append_left _ (List.mem_singleton.2 rfl)
    ·exact List.mem_append_right _ (List.mem_append_right _ (g2.all k h))
   ·rw [Jbk,Jbk,hmx,List.nodup_append,List.nodup_append]
    refine ⟨(by simp),⟨g1.nd,g2.nd,fun u hu v hv e=> ?_⟩,fun u hu v hv e=> ?_⟩
    ·have h1:=(g1.mrk u hu)
     rcases g2.mrk v hv with ⟨c,_⟩ | c
     ·have:=h1.2.1;omega
     ·have:=(hk2 v (List.mem_cons_of_mem _ c)).2.1
      have h3:m.n < u:=h1.1
      omega
    ·obtain rfl:=List.mem_singleton.1 hu
     subst e
     rcases List.mem_append.1 hv with h | h
     ·have h3:m.n < x.1:=(g1.mrk _ h).1
      omega
     ·exact hx2 h
   ·refine Jes (ex1:=fun _=> False) ⟨fun t h1 h2=> absurd (h1.elim id id) h2,trivial⟩ (Jes g1.tg g2.tg (fun t ht=> ?_) (fun t ht=> ht)) (fun t h=> h.elim) (fun t h=> h)
    rcases ht with ht | ht
    ·exact .inr (.inl ht)
    ·exact .inr (.inr (g2.bl ht))
   ·have hoD:other∉marksO D2:=fun h=> by
     rcases g2.mrk _ h with ⟨c,_⟩ | c
     ·have:=Nat.le_trans ho.2 hn1;omega
     ·exact (hk2 other (List.mem_cons_of_mem _ c)).2.2.2 rfl
    have hb':Bok (Jp W D2 s).2 (f (JX m x.1) x.2):=fun p hp A=> by
     rw [Jd9 (by have:=(g1.ok hm p hp).1;omega) fun h=> ?_]
     ·exact hb p (by show p∈(JbO f _ l).b;rw [e2];exact List.mem_append_left _ hp) A
     ·rcases g2.mrk _ h with ⟨_,_,c⟩ | c
      ·exact c (g2.bl ⟨p,hp,rfl⟩)
      ·exact Jfa (m:=JX m x.1) e1 hb1 (hk2 _ (List.mem_cons_of_mem _ c)).2.1 (hk2 _ (List.mem_cons_of_mem _ c)).2.2.1 ⟨p,hp,rfl⟩
    rw [Jay,Jay]
    rw [show Jp W [(⟨x.1,0,0,0,0⟩:Itm)] (Jp W D1 (Jp W D2 s))=_ from if_neg k0]
    show (if y.1=x.1 then (Jp W D1 (Jp W D2 s)).1 else (Jp W D1 (Jp W D2 s)).2 y.1) A=_
    rcases List.mem_cons.1 hy with rfl | hy
    ·rw [if_pos rfl]
     exact q1 _ hb' (fun A=> by rw [Jd9 ho.1 hoD];exact hd A) A
    ·have hym:y.1∈l.map (·.1):=List.mem_map.2 ⟨y,hy,rfl⟩
     obtain ⟨c0,c1,c2,_⟩:=hk2 y.1 (List.mem_cons_of_mem _ hym)
     rw [if_neg (fun e:y.1=x.1=> hkn.1 (by show x.1∈_;rw [← e];exact hym)),JgM g1 c0 (.inl c1)]
     exact q2 s hb hd y hy A
theorem JvQ (W:Nat→Nat) (T:Cnd→Bool) {P:Plan} (hP:∀k,((P.subs k).map (·.num)).Pairwise (· < ·)) {a other:Nat} (l:List (Nat×Prt)) (m:Mk) (hm:mOk m) (ho:other≠0∧other≤m.n) (hk:(l.map (·.1)).Nodup) (hk2:∀k∈l.map (·.1),k≠0∧k≤m.n∧¬isBl m k∧k≠other)
 (hT:∀x∈l,∀e,x.2= .ent e→∀r∈e.rules,∀c∈r.conds,∀y n,trueH W (hlvC c (a !=2) y n) c.op=T c):
 ∃D,GoodP (l.map (·.1)) (fun t=> t=other) m (Jc8 P a other m l) D∧∀(s:Cnt×Lbl),Bok s.2 (Jc8 P a other m l)→(∀A,s.2 other A=some P.dflt)→∀x∈l,∀A,(Jp W D s).2 x.1 A=some (Jit W T P x.2):=
 JkQ W (Jc7 P a other) (Jit W T P) P.dflt other (fun x=> ∀e,x= .ent e→∀r∈e.rules,∀c∈r.conds,∀y n,trueH W (hlvC c (a !=2) y n) c.op=T c) (fun m x hx hm ho=> JvP W T hP hm ho x hx) l m hm ho hk hk2 hT
theorem JlQ {n k i:Nat} (h:i < n):((List.range n).map fun j=> k+1+j).getD i 0=k+1+i:=by simp [List.getD,h]
def JjT (W:Nat→Nat) (T:Cnd→Bool) (P:Plan) (a A:Nat):Nat:=((partsP P a).findSome? fun x=> if x.num=A then some (Jit W T P x) else none).getD P.dflt
theorem JlR {W:Nat→Nat} {T:Cnd→Bool} {P:Plan} {A d:Nat}:∀ {l:List Prt},(∀i,i < l.length→A≠(l.map Prt.num).getD i 0)→(l.findSome? fun x=> if x.num=A then some (Jit W T P x) else none).getD d=d
 | [],h=> rfl
 | s::l,h=> by
   rw [List.findSome?_cons,if_neg (fun e=> h 0 (Nat.succ_pos _) e.symm)]
   exact JlR fun i hi=> h (i+1) (Nat.succ_lt_succ hi)
theorem JlS {W:Nat→Nat} {T:Cnd→Bool} {P:Plan} {A d:Nat} {z:Prt}:∀ {l:List Prt} {i:Nat},i < l.length→(l.map Prt.num).Pairwise (· < ·)→A=(l.map Prt.num).getD i 0→(l.findSome? fun x=> if x.num=A then some (Jit W T P x) else none).getD d=Jit W T P (l.getD i z)
 | s::l,0,h,hp,e=> by
   rw [List.findSome?_cons,if_pos (show s.num=A from e.symm)];rfl
 | s::l,i+1,h,hp,e=> by
   have h1:=List.pairwise_cons.1 hp
   have hi:i < l.length:=by simpa using h
   have hlt:s.num < (l.map Prt.num).getD i 0:=h1.1 ((l.map Prt.num).getD i 0) (by simp [List.getD,hi];exact ⟨_,List.getElem_mem hi,rfl⟩)
   rw [List.findSome?_cons,if_neg (fun q=> absurd (q.trans e) (Nat.ne_of_lt hlt))]
   exact JlS hi h1.2 e
theorem Jga (W:Nat→Nat) (T:Cnd→Bool) {P:Plan} (hP:∀k,((P.subs k).map (·.num)).Pairwise (· < ·)) {a:Nat} (hp:((partsP P a).map Prt.num).Pairwise (· < ·)) {m:Mk} (hm:mOk m) (hT:∀e∈P.ents a,∀r∈e.rules,∀c∈r.conds,∀y n,trueH W (hlvC c (a !=2) y n) c.op=T c):
 ∃D,GoodM (fun _=> False) m (JaQ P m a) D∧∀(s:Cnt×Lbl),Bok s.2 (JaQ P m a)→∀A,(Jp W D s).1 A=some (JjT W T P a A):=by
 have g1:=JeY (fun _=> False) m P.dflt
 have hin:=Jfo m P.dflt
 have hm1:=g1.ok hm
 have hd:=hm1 _ hin
 unfold JaQ
 dsimp only
 generalize JA m P.dflt = g at *
 have hent:∀e,Prt.ent e∈partsP P a→e∈P.ents a:=fun e he=> by
  have h1:=(List.mergeSort_perm _ _).mem_iff.1 he
  unfold partsR at h1
  rcases List.mem_append.1 h1 with h1 | h1
  ·obtain ⟨e',h2,h3⟩:=List.mem_map.1 h1
   cases h3;exact h2
  ·split at h1
   ·simp at h1
   ·cases h1
 unfold JjT
 generalize partsP P a = l at *
 have hmk:mOk ⟨g.2.l,g.2.n+l.length,g.2.b⟩:=fun p hp=> ⟨(hm1 p hp).1,Nat.le_trans (hm1 p hp).2 (Nat.le_add_right _ _)⟩
 obtain ⟨D1,g2,q2⟩:=Jki ((List.range l.length).map fun i=> g.2.n+1+i) g.1 W (l.map Prt.num) ⟨g.2.l,g.2.n+l.length,g.2.b⟩ hp hmk ⟨Nat.pos_iff_ne_zero.1 hd.1,Nat.le_trans hd.2 (Nat.le_add_right _ _)⟩ (fun i hi=> by
  rw [List.length_map] at hi
  rw [JlQ hi]
  exact ⟨by omega,by show _≤g.2.n+l.length;omega⟩)
 obtain ⟨nb2,e2,hb2,unb2⟩:=g2.b
 have hz:(((List.range l.length).map fun i=> g.2.n+1+i).zip l).map (·.1)=(List.range l.length).map fun i=> g.2.n+1+i:=List.map_fst_zip (by simp)
 have hin':∀ {k},k∈(List.range l.length).map (fun i=> g.2.n+1+i)→g.2.n < k∧k≤g.2.n+l.length:=fun {k} hk=> by
  obtain ⟨i,hi,rfl⟩:=List.mem_map.1 hk
  have:=List.mem_range.1 hi
  omega
 have hg2n:g.2.n+l.length≤(Jal ((List.range l.length).map fun i=> g.2.n+1+i) g.1 (l.map Prt.num) ⟨g.2.l,g.2.n+l.length,g.2.b⟩).n:=g2.n
 have hnb:∀ {k},k∈(List.range l.length).map (fun i=> g.2.n+1+i)→¬isBl (Jal ((List.range l.length).map fun i=> g.2.n+1+i) g.1 (l.map Prt.num) ⟨g.2.l,g.2.n+l.length,g.2.b⟩) k:=fun {k} hk=> by
  refine Jfa (m:=⟨g.2.l,g.2.n+l.length,g.2.b⟩) e2 hb2 (hin' hk).2 fun ⟨p,hp,e⟩=> ?_
  have h1:=(hm1 p hp).2
  have h2:=(hin' hk).1
  omega
 obtain ⟨D2,g3,q3⟩:=JvQ W T hP (a:=a) (other:=g.1) (((List.range l.length).map fun i=> g.2.n+1+i).zip l) _ (g2.ok hmk) ⟨Nat.pos_iff_ne_zero.1 hd.1,Nat.le_trans hd.2 (Nat.le_trans (Nat.le_add_right _ _) hg2n)⟩
  (by rw [hz];exact List.Pairwise.map _ (fun i j h e=> h Om) List.nodup_range) (by
    rw [hz]
    intro k hk
    have h1:=hin' hk
    exact ⟨by omega,Nat.le_trans h1.2 hg2n,hnb hk,by have:=hd.2;omega⟩)
  (fun x hx e he r hr c hc y n=> hT e (hent e (he ▸ (List.of_mem_zip (a:=x.1) (b:=x.2) hx).2)) r hr c hc y n)
 rw [hz] at g3
 obtain ⟨nb3,e3,hb3,unb3⟩:=g3.b
 have hbl3:isBl (Jc8 P a g.1 (Jal ((List.range l.length).map fun i=> g.2.n+1+i) g.1 (l.map Prt.num) ⟨g.2.l,g.2.n+l.length,g.2.b⟩) (((List.range l.length).map fun i=> g.2.n+1+i).zip l)) g.1:=g3.bl (g2.bl ⟨_,hin,rfl⟩)
 refine ⟨D1++D2,⟨?_, ?_, ?_,fun k hk=> ?_, ?_, ?_⟩,fun s hb A=> ?_⟩
 ·rw [g3.add,g2.add]
  show (g.2.l++D1)++D2=_
  rw [g1.add,List.append_nil,List.append_assoc]
 ·exact Nat.le_trans g1.n (Nat.le_trans (Nat.le_trans (Nat.le_add_right _ _) hg2n) g3.n)
 ·obtain ⟨nb1,e1,hb1,unb1⟩:=g1.b
  refine ⟨nb1++(nb2++nb3),by rw [e3,e2];show g.2.b++nb2++nb3=_;rw [e1];simp only [List.append_assoc],fun p hp=> ?_,JhP (b:=g.2.n) (c:=(Jc8 P a g.1 (Jal ((List.range l.length).map fun i=> g.2.n+1+i) g.1 (l.map Prt.num) ⟨g.2.l,g.2.n+l.length,g.2.b⟩) (((List.range l.length).map fun i=> g.2.n+1+i).zip l)).n) hb1 unb1 (fun p hp=> ?_) (JhP hb2 unb2 hb3 unb3)⟩
  have a1:=g1.n
  have a3:=g3.n
  rcases List.mem_append.1 hp with hp | hp
  ·have:=hb1 p hp;omega
  ·rcases List.mem_append.1 hp with hp | hp
   ·have h1:g.2.n+l.length < p.2:=(hb2 p hp).1
    have h2:=(hb2 p hp).2
    omega
   ·have:=hb3 p hp;omega
  ·have a3:=g3.n
   rcases List.mem_append.1 hp with hp | hp
   ·have h1:g.2.n+l.length < p.2:=(hb2 p hp).1
    have h2:=(hb2 p hp).2
    omega
   ·have:=hb3 p hp;omega
 ·have a1:=g1.n
  have a3:=g3.n
  rw [Jbk] at hk
  rcases List.mem_append.1 hk with hk | hk
  ·obtain ⟨c1,c2,c3⟩:=g2.mrk k hk
   have c1:g.2.n+l.length < k:=c1
   exact ⟨by omega,by omega,Jfa e3 hb3 c2 c3⟩
  ·rcases g3.mrk k hk with ⟨c1,c2,c3⟩ | c
   ·exact ⟨by omega,c2,c3⟩
   ·have h1:=hin' c
    exact ⟨by omega,by omega,Jfa e3 hb3 (Nat.le_trans h1.2 hg2n) (hnb c)⟩
 ·rw [Jbk,List.nodup_append]
  refine ⟨g2.nd,g3.nd,fun u hu v hv e=> ?_⟩
  obtain ⟨c1,c2,_⟩:=g2.mrk u hu
  have c1:g.2.n+l.length < u:=c1
  rcases g3.mrk v hv with ⟨d1,_⟩ | d
  ·omega
  ·have:=(hin' d).2;omega
 ·refine Jes g2.tg g3.tg (fun t ht=> ?_) (fun t ht=> ?_)
  ·rcases ht with (rfl | ht) | ht
   ·exact .inr (.inr hbl3)
   ·exact .inl (JbU.1 (g3.all t ht)).2
   ·exact .inr (.inr (g3.bl ht))
  ·rcases ht with rfl | ht
   ·exact .inr hbl3
   ·exact .inr ht
 ·rw [Jay]
  have hoD:g.1∉marksO D2:=fun h=> by
   rcases g3.mrk _ h with ⟨c,_⟩ | c
   ·have:=hd.2;omega
   ·have:=(hin' c).1;have:=hd.2;omega
  have hdd:∀A,s.2 g.1 A=some P.dflt:=fun A=> hb _ (by
   show (P.dflt,g.1)∈(Jc8 P a g.1 _ _).b
   rw [e3,e2]
   exact List.mem_append_left _ (List.mem_append_left _ hin)) A
  obtain ⟨r1,r2⟩:=q2 (Jp W D2 s) A
  by_cases h:∃i,i < l.length∧A=(l.map Prt.num).getD i 0
  ·obtain ⟨i,hi,he⟩:=h
   rw [r1 i (by simpa using hi) he,JlS (z:= .sub 0 0) hi hp he,Nat.zero_add,JlQ hi]
   exact q3 s hb hdd (g.2.n+1+i,l.getD i (.sub 0 0)) (by
    rw [List.mem_iff_getElem]
    refine ⟨i,by simp;exact hi, ?_⟩
    simp [List.getD,hi]) A
  ·rw [r2 fun i hi he=> h ⟨i,by simpa using hi,he⟩,JlR fun i hi he=> h ⟨i,hi,he⟩,Jd9 (Nat.pos_iff_ne_zero.1 hd.1) hoD]
   exact hdd A
end Go.Proofs.W

namespace Go.Proofs.W
open Go.Vl
set_option maxRecDepth 100000
def Jqb:Nat:=2147483648
def Juf (W:Nat→Nat) (T:Cnd→Bool) (P:Plan) (A:Nat):Nat:=
 if A=4294967295 then P.dflt else if (A&&& 1073741824) !=0 then (if P.x32 then JjT W T P 1 A else Jqb) else JjT W T P 0 A
structure PlanT (W:Nat→Nat) (T:Nat→Cnd→Bool) (P:Plan):Prop where
 subs:∀k,((P.subs k).map (·.num)).Pairwise (· < ·)
 parts:∀a,a < 5→((partsP P a).map Prt.num).Pairwise (· < ·)
 tru:∀a,a < 5→∀e∈P.ents a,∀r∈e.rules,∀c∈r.conds,∀y n,trueH W (hlvC c (a !=2) y n) c.op=T a c
theorem Jjl {S:Nat→Prop} {m:Mk} {x:Itm} (h0:x.mark=0) (hf:x.f=0) (h:S x.t∨isBl m x.t):GoodM S m (JD m [x]) [x]:=
 JeT (fun y hy=> by obtain rfl:=List.mem_singleton.1 hy;exact h0) fun y hy t h1 h2=> by
  obtain rfl:=List.mem_singleton.1 hy
  rcases h1 with rfl | rfl
  ·exact h
  ·exact absurd hf h2
theorem Jx2 {W:Nat→Nat} {T:Nat→Cnd→Bool} {P:Plan} (hP:PlanT W T P) (hT:T 1=T 0) {m:Mk} (hm:mOk m):
 ∃D,GoodM (fun _=> False) m (Jd8 P m) D∧∀(s:Cnt×Lbl),Bok s.2 (Jd8 P m)→∀A,(Jp W D s).1 A=some (Juf W (T 0) P A):=by
 have g1:=JeY (fun _=> False) m P.dflt
 have hin:=Jfo m P.dflt
 have hm1:=g1.ok hm
 have hpos:=JkO hm P.dflt
 unfold Jd8 Juf
 dsimp only
 generalize JA m P.dflt = g at *
 have g2:=Jjl (S:=fun _=> False) (m:=g.2) (x:=⟨0,0x15,4294967295,g.1,0⟩) rfl rfl (.inr ⟨_,hin,rfl⟩)
 have g12:=g1.trans (S:=fun _=> False) g2 (fun t h=> h.elim) (fun t h=> h)
 have hm2:=g12.ok hm
 have hinp:(P.dflt,g.1)∈(JD g.2 [(⟨0,0x15,4294967295,g.1,0⟩:Itm)]).b:=hin
 generalize JD g.2 [(⟨0, 0x15, 4294967295, g.1, 0⟩ : Itm)] = m1 at *
 have first:∀(s:Cnt×Lbl) (A:Nat),(Jp W [(⟨0,0x15,4294967295,g.1,0⟩:Itm)] s).1 A=if A=4294967295 then s.2 g.1 A else s.1 A:=fun s A=> by
  show (if (A ==4294967295)=true then (if g.1=0 then s.1 else s.2 g.1) A else (if 0=0 then s.1 else s.2 0) A)=_
  rw [if_neg hpos,if_pos rfl]
  simp
 cases hx:P.x32 with
 | false=>
   rw [if_neg Bool.false_ne_true]
   have g3:=JeY (fun _=> False) m1 2147483648
   have hin3:=Jfo m1 2147483648
   have hpos3:=JkO hm2 2147483648
   generalize JA m1 2147483648 = k at *
   have g4:=Jjl (S:=fun _=> False) (m:=k.2) (x:=⟨0,0x45,1073741824,k.1,0⟩) rfl rfl (.inr ⟨_,hin3,rfl⟩)
   have g34:=g3.trans (S:=fun _=> False) g4 (fun t h=> h.elim) (fun t h=> h)
   have hm4:=g34.ok hm2
   have hin4:(2147483648,k.1)∈(JD k.2 [(⟨0,0x45,1073741824,k.1,0⟩:Itm)]).b:=hin3
   generalize JD k.2 [(⟨0, 0x45, 1073741824, k.1, 0⟩ : Itm)] = m4 at *
   obtain ⟨D,g5,q5⟩:=Jga W (T 0) hP.subs (hP.parts 0 Dc) hm4 (hP.tru 0 Dc)
   refine ⟨_,(g12.trans (S:=fun _=> False) g34 (fun t h=> h.elim) (fun t h=> h)).trans (S:=fun _=> False) g5 (fun t h=> h.elim) (fun t h=> h),fun s hb A=> ?_⟩
   have b4:Bok (Jp W D s).2 m4:=Bok.back hb g5 hm4
   have b1:(P.dflt,g.1)∈m4.b:=by
    obtain ⟨nb,e,_⟩:=g34.b
    rw [e];exact List.mem_append_left _ hinp
   rw [Jay,List.nil_append,List.nil_append,Jay,first]
   by_cases h1:A=4294967295
   ·rw [if_pos h1,if_pos h1]
    exact b4 _ b1 A
   ·rw [if_neg h1,if_neg h1]
    show (if ((A&&& 1073741824) !=0)=true then (if k.1=0 then (Jp W D s).1 else (Jp W D s).2 k.1) A else (if 0=0 then (Jp W D s).1 else _) A)=_
    rw [if_neg hpos3,if_pos rfl]
    cases (A&&& 1073741824) !=0
    ·rw [if_neg Bool.false_ne_true,if_neg Bool.false_ne_true]
     exact q5 s hb A
    ·rw [if_pos rfl,if_pos rfl,if_neg Bool.false_ne_true]
     exact b4 _ hin4 A
 | true=>
   rw [if_pos rfl]
   have g3:GoodM (fun t=> t=m1.n+1) (Jx m1) (JD (Jx m1) [⟨0,0x45,1073741824,m1.n+1,0⟩]) [⟨0,0x45,1073741824,m1.n+1,0⟩]:=Jjl rfl rfl (.inl rfl)
   obtain ⟨D5,g5,q5⟩:=Jga W (T 0) hP.subs (hP.parts 0 Dc) (m:=JD (Jx m1) [⟨0,0x45,1073741824,m1.n+1,0⟩]) (Jfn hm2) (hP.tru 0 Dc)
   have g35:GoodM (fun t=> t=m1.n+1∨False) (Jx m1) (JaQ P (JD (Jx m1) [⟨0,0x45,1073741824,m1.n+1,0⟩]) 0) ([⟨0,0x45,1073741824,m1.n+1,0⟩]++D5):=g3.trans g5 (fun t h=> .inr (.inl h)) (fun t h=> h.elim)
   have g6:GoodM (fun _=> False) m1 (JX (JaQ P (JD (Jx m1) [⟨0,0x45,1073741824,m1.n+1,0⟩]) 0) (m1.n+1)) (([⟨0,0x45,1073741824,m1.n+1,0⟩]++D5)++ [⟨m1.n+1,0,0,0,0⟩]):=Jhf hm2 g35
   have hm6:=g6.ok hm2
   obtain ⟨D7,g7,q7⟩:=Jga W (T 1) hP.subs (hP.parts 1 Dc) hm6 (hP.tru 1 Dc)
   refine ⟨_,(g12.trans (S:=fun _=> False) g6 (fun t h=> h.elim) (fun t h=> h)).trans (S:=fun _=> False) g7 (fun t h=> h.elim) (fun t h=> h),fun s hb A=> ?_⟩
   have b6:Bok (Jp W D7 s).2 (JX (JaQ P (JD (Jx m1) [⟨0,0x45,1073741824,m1.n+1,0⟩]) 0) (m1.n+1)):=Bok.back hb g7 hm6
   have hne:m1.n+1≠0:=Nat.succ_ne_zero _
   have hmk:(m1.n+1)∈marksO (([⟨0,0x45,1073741824,m1.n+1,0⟩]++D5)++ [⟨m1.n+1,0,0,0,0⟩]):=JbU.2 ⟨hne,_,List.mem_append_right _ (List.mem_singleton.2 rfl),rfl⟩
   have b6m:∀p∈(JX (JaQ P (JD (Jx m1) [⟨0,0x45,1073741824,m1.n+1,0⟩]) 0) (m1.n+1)).b,p.2≠m1.n+1:=fun p hp e=> (g6.mrk _ hmk).2.2 ⟨p,hp,e⟩
   have b5:Bok (Jp W [(⟨m1.n+1,0,0,0,0⟩:Itm)] (Jp W D7 s)).2 (JaQ P (JD (Jx m1) [⟨0,0x45,1073741824,m1.n+1,0⟩]) 0):=fun p hp A=> by
    show (if p.2=m1.n+1 then _ else (Jp W D7 s).2 p.2) A=_
    rw [if_neg (b6m p hp)]
    exact b6 p hp A
   have b4:Bok (Jp W D5 (Jp W [(⟨m1.n+1,0,0,0,0⟩:Itm)] (Jp W D7 s))).2 (JD (Jx m1) [⟨0,0x45,1073741824,m1.n+1,0⟩]):=Bok.back b5 g5 (Jfn hm2)
   rw [Jay,List.nil_append,Jay,first,Jay,Jay]
   by_cases h1:A=4294967295
   ·rw [if_pos h1,if_pos h1]
    exact b4 _ hinp A
   ·rw [if_neg h1,if_neg h1]
    show (if ((A&&& 1073741824) !=0)=true then (if m1.n+1=0 then _ else (Jp W D5 (Jp W [(⟨m1.n+1,0,0,0,0⟩:Itm)] (Jp W D7 s))).2 (m1.n+1)) A else (if 0=0 then (Jp W D5 (Jp W [(⟨m1.n+1,0,0,0,0⟩:Itm)] (Jp W D7 s))).1 else _) A)=_
    rw [if_neg hne,if_pos rfl,JgM g5 hne (.inl (Nat.le_refl _))]
    cases (A&&& 1073741824) !=0
    ·rw [if_neg Bool.false_ne_true,if_neg Bool.false_ne_true]
     exact q5 _ b5 A
    ·rw [if_pos rfl,if_pos rfl,if_pos rfl]
     show (if m1.n+1=m1.n+1 then (Jp W D7 s).1 else _) A=_
     rw [if_pos rfl,q7 s hb A,hT]
def Jjm (W:Nat→Nat) (T:Nat→Cnd→Bool) (P:Plan) (a:Nat):Nat:=if a=0 then Juf W (T 0) P (W 0) else JjT W (T a) P a (W 0)
theorem Jx3 {W:Nat→Nat} {T:Nat→Cnd→Bool} {P:Plan} (hP:PlanT W T P) (hT:T 1=T 0) (other:Nat) (m:Mk) (a:Nat) (ha:a < 5) (hm:mOk m):
 ∃D,GoodM (fun t=> t=other) m (JbP P m a) D∧∀(s:Cnt×Lbl),Bok s.2 (JbP P m a)→∀A,(Jp W D s).1 A=some (Jjm W T P a):=by
 have g1:GoodM (fun _=> False) m (JD m [⟨0,0x20,0,0,0⟩]) [⟨0,0x20,0,0,0⟩]:=JeT (fun x hx=> by obtain rfl:=List.mem_singleton.1 hx;rfl) (fun x hx t ht h0=> by
  obtain rfl:=List.mem_singleton.1 hx
  rcases ht with rfl | rfl <;> exact absurd rfl h0)
 unfold JbP Jjm
 by_cases h0:a=0
 ·rw [if_pos h0,if_pos h0]
  obtain ⟨D,g,q⟩:=Jx2 hP hT (m:=JD m [⟨0,0x20,0,0,0⟩]) hm
  exact ⟨_,g1.trans g (fun t h=> h.elim) (fun t h=> h.elim),fun s hb A=> by rw [Jay];exact q s hb (W 0)⟩
 ·rw [if_neg h0,if_neg h0]
  obtain ⟨D,g,q⟩:=Jga W (T a) hP.subs (hP.parts a ha) (m:=JD m [⟨0,0x20,0,0,0⟩]) hm (hP.tru a ha)
  exact ⟨_,g1.trans g (fun t h=> h.elim) (fun t h=> h.elim),fun s hb A=> by rw [Jay];exact q s hb (W 0)⟩
def Jea (l:List (Nat×Nat)):List Itm:=l.flatMap fun x=> [⟨x.2,0,0,0,0⟩,⟨0,6,x.1,0,0⟩]
theorem Js1:∀(l:List (Nat×Nat)) (m:Mk),(l.foldl JbE m).l=m.l++Jea l
 | [],m=> (List.append_nil _).symm
 | x::l,m=> by
   rw [List.foldl_cons,Js1 l]
   show (m.l++ [_]++ [_])++Jea l=m.l++([_,_]++Jea l)
   simp
theorem JnV:∀ {l:List (Nat×Nat)},(∀p∈l,p.2≠0)→marksO (Jea l)=l.map (·.2)
 | [],h=> rfl
 | x::l,h=> by
   show marksO ([_,_]++Jea l)=_
   rw [Jbk,JnV fun p hp=> h p (List.mem_cons_of_mem _ hp)]
   have:=h x (List.mem_cons_self ..)
   simp [marksO,this]
theorem Js2 {W:Nat→Nat}:∀ {l:List (Nat×Nat)} {s:Cnt×Lbl},(∀p∈l,p.2≠0)→(l.map (·.2)).Nodup→∀p∈l,∀A,(Jp W (Jea l) s).2 p.2 A=some p.1
 | [],s,h,hn,p,hp,A=> by cases hp
 | x::l,s,h,hn,p,hp,A=> by
   show (Jp W ([⟨x.2,0,0,0,0⟩,⟨0,6,x.1,0,0⟩]++Jea l) s).2 p.2 A=_
   have hx:=h x (List.mem_cons_self ..)
   have hn2:=List.nodup_cons.1 hn
   rw [Jay,show Jp W [(⟨x.2,0,0,0,0⟩:Itm),⟨0,6,x.1,0,0⟩] (Jp W (Jea l) s)=_ from if_neg hx]
   show (if p.2=x.2 then (fun A=> some x.1) else (Jp W (Jea l) s).2 p.2) A=_
   rcases List.mem_cons.1 hp with rfl | hp
   ·rw [if_pos rfl]
   ·rw [if_neg (fun e:p.2=x.2=> hn2.1 (by show x.2∈_;rw [← e];exact List.mem_map.2 ⟨p,hp,rfl⟩))]
    exact Js2 (fun p hp=> h p (List.mem_cons_of_mem _ hp)) hn2.2 p hp A
theorem GoodM.nodup {S:Nat→Prop} {m m':Mk} {D:List Itm} (h:GoodM S m m' D) (hm:mOk m) (hn:(m.b.map (·.2)).Nodup):(m'.b.map (·.2)).Nodup:=by
 obtain ⟨nb,e,hb,u⟩:=h.b
 rw [e]
 exact JhP (a:=0) hm hn hb u
end Go.Proofs.W

namespace Go.Proofs.W
open Go.Vl
set_option maxRecDepth 100000
def JlT:List Itm:= [⟨0,0x20,4,0,0⟩,⟨0,0x15,0xc000003e,1,0⟩,⟨0,0x15,0x40000003,2,0⟩,⟨0,0x15,0xc00000b7,3,0⟩,⟨0,0x15,0xc00000f3,4,0⟩,JbI 5]
theorem Jdf:frontM=⟨JlT,5, [(2147483648,5)]⟩:=rfl
def Jcg (b:List (Nat×Nat)):List (Nat×Nat):=b.mergeSort fun x y=> decide (x.1≤y.1)
def JeE (W:Nat→Nat) (T:Nat→Cnd→Bool) (P:Plan):Nat:=
 if W 4=0xc000003e then Jjm W T P 0 else if W 4=0x40000003 then Jjm W T P 2 else if W 4=0xc00000b7 then Jjm W T P 3 else if W 4=0xc00000f3 then Jjm W T P 4 else Jqb
theorem GoodP.nodup {K:List Nat} {S:Nat→Prop} {m m':Mk} {D:List Itm} (h:GoodP K S m m' D) (hm:mOk m) (hn:(m.b.map (·.2)).Nodup):(m'.b.map (·.2)).Nodup:=by
 obtain ⟨nb,e,hb,u⟩:=h.b
 rw [e]
 exact JhP (a:=0) hm hn hb u
theorem Js3:∀l:List (Nat×Nat),tgtOk (fun _=> False) (Jea l)
 | []=> trivial
 | x::l=> ⟨fun t h h0=> absurd (h.elim id id) h0,⟨fun t h h0=> absurd (h.elim id id) h0,Js3 l⟩⟩
def JbF:Cnt×Lbl:=(fun _=> none,fun _ _=> none)
theorem Jgb {W:Nat→Nat} {T:Nat→Cnd→Bool} {P:Plan} (hP:PlanT W T P) (hT:T 1=T 0):
 (Jp W (Jcj P) JbF).1 0=some (JeE W T P)∧(marksO (Jcj P)).Nodup∧tgtOk (fun _=> False) (Jcj P)∧mOk (JaA P):=by
 have hm0:mOk frontM:=fun p hp=> by
  rw [Jdf] at hp
  obtain rfl:=List.mem_singleton.1 hp
  exact ⟨by decide,by decide⟩
 have hnb0:∀k∈ [1,2,3,4],¬isBl frontM k:=fun k hk ⟨p,hp,e⟩=> by
  rw [Jdf] at hp
  obtain rfl:=List.mem_singleton.1 hp
  subst e
  revert hk;decide
 obtain ⟨D,g,q⟩:=JkQ W (JbP P) (Jjm W T P) Jqb 5 (fun a=> a < 5) (fun m a ha hm _=> by
  obtain ⟨D,g,q⟩:=Jx3 hP hT 5 m a ha hm
  exact ⟨D,g,fun s hb _ A=> q s hb A⟩) [(1,0),(2,2),(3,3),(4,4)] frontM hm0 ⟨by decide,by decide⟩ Dc (fun k hk=> ⟨by revert k;decide,by revert k;decide,hnb0 k hk,by revert k;decide⟩) Dc
 have hm1:mOk (JaA P):=g.ok hm0
 have hnd:((JaA P).b.map (·.2)).Nodup:=g.nodup hm0 Dc
 have hperm:(Jcg (JaA P).b).Perm (JaA P).b:=List.mergeSort_perm _ _
 have hpos:∀p∈Jcg (JaA P).b,p.2≠0:=fun p hp=> Nat.pos_iff_ne_zero.1 (hm1 p (hperm.mem_iff.1 hp)).1
 have hnd2:((Jcg (JaA P).b).map (·.2)).Nodup:=(hperm.map _).nodup_iff.2 hnd
 have hitems:Jcj P=JlT++(D++Jea (Jcg (JaA P).b)):=by
  show ((Jcg (JaA P).b).foldl JbE (JaA P)).l=_
  rw [Js1,show (JaA P).l=frontM.l++D from g.add,Jdf,List.append_assoc]
 have hbm:=JnV hpos
 have hkill:(Jqb,5)∈(JaA P).b:=by
  obtain ⟨nb,e,_⟩:=g.b
  show _∈(JbO (JbP P) frontM _).b
  rw [e]
  exact List.mem_append_left _ (by rw [Jdf];exact List.mem_singleton.2 rfl)
 have hbok:Bok (Jp W (Jea (Jcg (JaA P).b)) JbF).2 (JaA P):=fun p hp A=> Js2 hpos hnd2 p (hperm.mem_iff.2 hp) A
 have hlab:=q _ hbok (fun A=> hbok _ hkill A)
 have hblm:∀ {k},isBl (JaA P) k→k∈marksO (Jea (Jcg (JaA P).b)):=fun {k} ⟨p,hp,e⟩=> by
  rw [hbm]
  exact List.mem_map.2 ⟨p,hperm.mem_iff.2 hp,e⟩
 have hno:∀k∈marksO D,k∉marksO (Jea (Jcg (JaA P).b)):=fun k hk hk2=> by
  rw [hbm] at hk2
  obtain ⟨p,hp,rfl⟩:=List.mem_map.1 hk2
  have hp:=hperm.mem_iff.1 hp
  rcases g.mrk _ hk with ⟨_,_,c⟩ | c
  ·exact c ⟨p,hp,rfl⟩
  ·obtain ⟨nb,e,hb,_⟩:=g.b
   exact Jfa (m:=frontM) e hb (by rw [Jdf];revert c;generalize p.2=k;revert k;decide) (hnb0 _ c) ⟨p,hp,rfl⟩
 have hfm:marksO JlT= []:=by decide
 rw [hitems]
 refine ⟨?_, ?_, ?_,hm1⟩
 ·rw [Jay,Jay]
  have h5:∀A,(Jp W D (Jp W (Jea (Jcg (JaA P).b)) JbF)).2 5 A=some Jqb:=fun A=> by
   rw [Jd9 Dc fun hk=> ?_]
   ·exact hbok _ hkill A
   ·rcases g.mrk _ hk with ⟨c,_⟩ | c
    ·rw [Jdf] at c;exact absurd c Dc
    ·revert c;decide
  generalize Jp W D (Jp W (Jea (Jcg (JaA P).b)) JbF)=z at hlab h5⊢
  have l1:=hlab (1,0) (by simp) (W 4)
  have l2:=hlab (2,2) (by simp) (W 4)
  have l3:=hlab (3,3) (by simp) (W 4)
  have l4:=hlab (4,4) (by simp) (W 4)
  show (if (W 4 ==0xc000003e)=true then z.2 1 (W 4) else if (W 4 ==0x40000003)=true then z.2 2 (W 4) else if (W 4 ==0xc00000b7)=true then z.2 3 (W 4) else if (W 4 ==0xc00000f3)=true then z.2 4 (W 4) else z.2 5 (W 4))=_
  rw [l1,l2,l3,l4,h5]
  unfold JeE
  simp only [beq_iff_eq]
  repeat' split
  all_goals rfl
 ·rw [Jbk,Jbk,hfm,List.nil_append,List.nodup_append]
  exact ⟨g.nd,by rw [hbm];exact hnd2,fun x hx y hy e=> hno x hx (e ▸ hy)⟩
 ·refine Jes (ex1:=fun t=> t=1∨t=2∨t=3∨t=4∨t=5) (ex2:=fun _=> False) ?_ (Jes (ex2:=fun _=> False) g.tg ?_ (fun t ht=> ?_) (fun t h=> h)) (fun t ht=> ?_) (fun t h=> h)
  ·refine ⟨?_, ?_, ?_, ?_, ?_, ?_,trivial⟩
   all_goals (intro t ht h0;refine .inr ?_;rcases ht with rfl | rfl <;> first | exact absurd rfl h0 | (simp [JbI]))
  ·exact Js3 _
  ·rcases ht with rfl | ht
   ·exact .inl (JbU.1 (hblm ⟨_,hkill,rfl⟩)).2
   ·exact .inl (JbU.1 (hblm ht)).2
  ·refine .inl ?_
   have hD:∀k∈ [1,2,3,4],∃y∈D++Jea (Jcg (JaA P).b),y.mark=k:=fun k hk=> by
    obtain ⟨y,hy,e⟩:=(JbU.1 (g.all k hk)).2
    exact ⟨y,List.mem_append_left _ hy,e⟩
   rcases ht with rfl | rfl | rfl | rfl | rfl
   ·exact hD 1 Dc
   ·exact hD 2 Dc
   ·exact hD 3 Dc
   ·exact hD 4 Dc
   ·obtain ⟨y,hy,e⟩:=(JbU.1 (hblm ⟨_,hkill,rfl⟩)).2
    exact ⟨y,List.mem_append_right _ hy,e⟩
end Go.Proofs.W

namespace Go.Proofs.W
open Go.Vl
set_option maxRecDepth 100000
def shape (x:Itm):Prop:=(x.mark≠0∧x.code=0∧x.k=0∧x.t=0∧x.f=0)∨(x.mark=0∧((x.code=0x20∧x.k+4≤64∧x.t=0∧x.f=0)∨((x.code=0x54∨x.code=6)∧x.t=0∧x.f=0∧(x.code=0x54→x.k < 4294967296))∨(x.code=5∧x.f=0)∨x.code=0x15∨x.code=0x25∨x.code=0x35∨(x.code=0x45∧x.k < 4294967296)))
def JaD (m:Mk):Prop:=∀x∈m.l,shape x
theorem Js4 {m:Mk} {D:List Itm} (h:JaD m) (hD:∀x∈D,shape x):JaD (JD m D):=fun x hx=> (List.mem_append.1 hx).elim (h x) (hD x)
theorem JdL {m:Mk} {y:Itm} (h:JaD m) (hy:shape y):JaD (JD m [y]):=Js4 h fun x hx=> by obtain rfl:=List.mem_singleton.1 hx;exact hy
theorem Jfp {m:Mk} {k:Nat} (h:JaD m) (hk:k≠0):JaD (JX m k):=JdL h (.inl ⟨hk,rfl,rfl,rfl,rfl⟩)
theorem JgO {m:Mk} (h:JaD m) (c:Nat):JaD (JA m c).2:=by
 unfold JA
 cases Jce m.b c with
 | some k=> exact h
 | none=> exact h
theorem JkR {m:Mk} (h:JaD m) (t:Nat):JaD (JD m [JbI t]):=JdL h (.inr ⟨rfl, .inr (.inr (.inl ⟨rfl,rfl⟩))⟩)
theorem JzJ {h:Hlv} {op:Int} (h1:h.la+4≤64) (h2:h.ha+4≤64) (h3:h.ml < 4294967296) (h4:h.mh < 4294967296):∀x∈JeS h op,shape x:=by
 unfold JeS
 repeat' split
 all_goals (intro x hx;simp [Jc5,Jb3,Jci,Jbb,Jep,JcX,JaM] at hx;try (rcases hx with rfl | rfl | rfl | rfl | rfl | rfl))
 all_goals (refine .inr ⟨rfl, ?_⟩;simp;try omega)
def JdX (c:Cnd):Prop:=c.arg.toNat≤5∧c.mask < 18446744073709551616
theorem Jx4 {m:Mk} {c:Cnd} {w:Bool} {y n:Nat} (h:JaD m) (hc:JdX c):JaD (Jc6 m c w y n):=by
 unfold Jc6
 rw [Jp7]
 exact Js4 h (JzJ (by show 16+8 * c.arg.toNat+4≤64;unfold JdX at hc;omega) (by show 20+8 * c.arg.toNat+4≤64;unfold JdX at hc;omega) (Nat.mod_lt _ Dc) (by show c.mask / 4294967296 < _;unfold JdX at hc;omega))
theorem JnW {w:Bool} {n:Nat}:∀(cs:List Cnd) (m:Mk),JaD m→(∀c∈cs,JdX c)→JaD (J1 w n m cs)
 | [],m,h,hc=> h
 | c::cs,m,h,hc=> JnW cs _ (Jfp (Jx4 (m:=Jx m) h (hc c (List.mem_cons_self ..))) (Nat.succ_ne_zero _)) fun d hd=> hc d (List.mem_cons_of_mem _ hd)
theorem Jx5 {w:Bool} {m:Mk} {r:PRul} (h:JaD m) (hc:∀c∈r.conds,JdX c):JaD (JaH w m r):=
 Jfp (JkR (JgO (JnW r.conds (Jx m) h hc) _) _) (Nat.succ_ne_zero _)
theorem JkS {α:Type} {f:Mk→α→Mk} {ok:α→Prop} (hf:∀m x,ok x→JaD m→JaD (f m x)):∀(l:List α) (m:Mk),JaD m→(∀x∈l,ok x)→JaD (l.foldl f m)
 | [],m,h,ho=> h
 | x::l,m,h,ho=> JkS hf l _ (hf m x (ho x (List.mem_cons_self ..)) h) fun y hy=> ho y (List.mem_cons_of_mem _ hy)
theorem JvR {w:Bool} {o:Nat} {m:Mk} {l:List PRul} (h:JaD m) (hc:∀r∈l,∀c∈r.conds,JdX c):JaD (JdG w o m l):=
 JkR (JkS (ok:=fun r=> ∀c∈r.conds,JdX c) (fun m r hr hm=> Jx5 hm hr) l m h hc) o
theorem JkT {marks:List Nat} {o:Nat}:∀(N:Nat) (l:List Nat) (pl:Nat) (m:Mk),l.length≤N→JaD m→JaD (Jbt marks o l pl m)
 | 0,l,pl,m,h,hm=> by rw [Jbt,dif_pos Om];exact JdL hm (.inr ⟨rfl, .inr (.inr (.inr (.inl rfl)))⟩)
 | N+1,l,pl,m,h,hm=> by
   rw [Jbt]
   split
   ·exact JdL hm (.inr ⟨rfl, .inr (.inr (.inr (.inl rfl)))⟩)
   ·exact JkT N _ _ _ (by simp;omega) (Jfp (JkT N _ _ _ (by simp;omega) (JdL (m:=Jx m) hm (.inr ⟨rfl, .inr (.inr (.inr (.inr (.inr (.inl rfl)))))⟩))) (Nat.succ_ne_zero _))
theorem JlU {marks:List Nat} {o:Nat} {l:List Nat} {m:Mk} (h:JaD m):JaD (Jal marks o l m):=by
 unfold Jal
 split
 ·exact JkR h _
 ·exact JkT _ _ _ _ (Nat.le_refl _) h
theorem JlV:∀(l:List PSub) (m:Mk),JaD m→JaD (J7 m l).2
 | [],m,h=> h
 | s::l,m,h=> JlV l _ (JgO h s.code)
theorem JkU {m:Mk} {k:Nat} (h:JaD m) (hk:k+4≤64):JaD (JD m [⟨0,0x20,k,0,0⟩]):=JdL h (.inr ⟨rfl, .inl ⟨rfl,hk,rfl,rfl⟩⟩)
theorem Jx6 {P:Plan} {a o:Nat} {m:Mk} {x:Prt} (h:JaD m) (hc:∀e,x= .ent e→∀r∈e.rules,∀c∈r.conds,JdX c):JaD (Jc7 P a o m x):=by
 cases x with
 | ent e=> exact JvR h (hc e rfl)
 | sub n k=> exact JlU (JlV _ _ (JkU h Dc))
theorem JmS {β:Type} {f:Mk→β→Mk} {ok:β→Prop} (hf:∀m x,ok x→JaD m→JaD (f m x)):∀(l:List (Nat×β)) (m:Mk),JaD m→(∀x∈l,x.1≠0∧ok x.2)→JaD (JbO f m l)
 | [],m,h,ho=> h
 | x::l,m,h,ho=> JmS hf l _ (hf _ x.2 (ho x (List.mem_cons_self ..)).2 (Jfp h (ho x (List.mem_cons_self ..)).1)) fun y hy=> ho y (List.mem_cons_of_mem _ hy)
theorem Jjn {P:Plan} {a:Nat} {e:PEnt} (h:Prt.ent e∈partsP P a):e∈P.ents a:=by
 have h1:=(List.mergeSort_perm _ _).mem_iff.1 h
 unfold partsR at h1
 rcases List.mem_append.1 h1 with h1 | h1
 ·obtain ⟨e',h2,h3⟩:=List.mem_map.1 h1
  cases h3;exact h2
 ·split at h1
  ·simp at h1
  ·cases h1
theorem Jhh {P:Plan} (hc:∀a,∀e∈P.ents a,∀r∈e.rules,∀c∈r.conds,JdX c) {m:Mk} (h:JaD m) (a:Nat):JaD (JaQ P m a):=by
 unfold JaQ
 refine JmS (f:=Jc7 P a (JA m P.dflt).1) (ok:=fun x=> ∀e,x= .ent e→∀r∈e.rules,∀c∈r.conds,JdX c) (fun m x hx hm=> Jx6 hm hx) _ _ (JlU (m:=⟨(JA m P.dflt).2.l,_,_⟩) (JgO h P.dflt)) fun x hx=> ?_
 obtain ⟨h1,h2⟩:=List.of_mem_zip (a:=x.1) (b:=x.2) hx
 obtain ⟨i,_,e⟩:=List.mem_map.1 h1
 exact ⟨by omega,fun e he r hr c hcc=> hc a e (Jjn (he ▸ h2)) r hr c hcc⟩
theorem JzK {P:Plan} (hc:∀a,∀e∈P.ents a,∀r∈e.rules,∀c∈r.conds,JdX c) {m:Mk} (h:JaD m):JaD (Jd8 P m):=by
 unfold Jd8
 have h1:JaD (JD (JA m P.dflt).2 [⟨0,0x15,4294967295,(JA m P.dflt).1,0⟩]):=JdL (JgO h _) (.inr ⟨rfl, .inr (.inr (.inr (.inl rfl)))⟩)
 dsimp only
 split
 ·exact Jhh hc (Jfp (Jhh hc (JdL (m:=Jx (JD (JA m P.dflt).2 [⟨0,0x15,4294967295,(JA m P.dflt).1,0⟩])) h1 (.inr ⟨rfl, .inr (.inr (.inr (.inr (.inr (.inr ⟨rfl,by show 1073741824 < _;decide⟩)))))⟩)) 0) (Nat.succ_ne_zero _)) 1
 ·exact Jhh hc (JdL (JgO h1 _) (.inr ⟨rfl, .inr (.inr (.inr (.inr (.inr (.inr ⟨rfl,by show 1073741824 < _;decide⟩)))))⟩)) 0
theorem JvS {P:Plan} (hc:∀a,∀e∈P.ents a,∀r∈e.rules,∀c∈r.conds,JdX c) (hm:mOk (JaA P)):∀x∈Jcj P,shape x:=by
 have h0:JaD frontM:=by
  rw [Jdf]
  intro x hx
  simp [JlT,JbI] at hx
  rcases hx with rfl | rfl | rfl | rfl | rfl | rfl
  ·exact .inr ⟨rfl, .inl ⟨rfl,by decide,rfl,rfl⟩⟩
  all_goals first | exact .inr ⟨rfl, .inr (.inr (.inr (.inl rfl)))⟩ | exact .inr ⟨rfl, .inr (.inr (.inl ⟨rfl,rfl⟩))⟩
 have h1:JaD (JaA P):=JmS (f:=JbP P) (ok:=fun _=> True) (fun m a _ hm=> by
  unfold JbP
  split
  ·exact JzK hc (JkU hm Dc)
  ·exact Jhh hc (JkU hm Dc) a) _ _ h0 Dc
 refine JkS (f:=JbE) (ok:=fun p=> p.2≠0) (fun m p hp hm=> JdL (Jfp hm hp) (.inr ⟨rfl, .inr (.inl ⟨.inr rfl,rfl,rfl,fun h=> by cases h⟩)⟩)) _ _ h1 fun p hp=> ?_
 exact Nat.pos_iff_ne_zero.1 (hm p ((List.mergeSort_perm _ _).mem_iff.1 hp)).1
end Go.Proofs.W

namespace Go.Proofs.W
open Go.Vl
set_option maxRecDepth 100000
theorem Jqc (W:Nat→Nat) (x:Itm) (l:List Itm) (s:Cnt×Lbl):Jp W (x::l) s=if x.mark=0 then (Jc1 W x (Jp W l s).1 (Jp W l s).2,(Jp W l s).2) else ((Jp W l s).1,fun k=> if k=x.mark then (Jp W l s).1 else (Jp W l s).2 k):=rfl
theorem Jqd {ex:Nat→Prop}:∀ {l:List Itm} (i:Nat),tgtOk ex l→tgtOk ex (l.drop i)
 | l,0,h=> by rw [List.drop_zero];exact h
 | [],i+1,h=> trivial
 | x::l,i+1,h=> Jqd (l:=l) i h.2
theorem JvT (W:Nat→Nat) {s:Cnt×Lbl} {k:Nat} (h0:k≠0):∀ {l:List Itm} {j:Nat},j < l.length→(l.getD j it0).mark=k→(marksO l).Nodup→(Jp W l s).2 k=(Jp W (l.drop (j+1)) s).1
 | x::l,0,h,e,hn=> by
   have e:x.mark=k:=e
   rw [Jqc]
   rw [if_neg Om]
   show (if k=x.mark then _ else _)=_
   rw [if_pos e.symm];rfl
 | x::l,j+1,h,e,hn=> by
   have hj:j < l.length:=by simpa using h
   have e:(l.getD j it0).mark=k:=e
   have hin:k∈marksO l:=JbU.2 ⟨h0,_,(by simp [List.getD,hj]:l.getD j it0∈l),e⟩
   have ih:=JvT W (s:=s) h0 hj e (by
    have:=hn
    unfold marksO at this⊢
    rw [List.map_cons,List.filter_cons] at this
    split at this
    ·exact (List.nodup_cons.1 this).2
    ·exact this)
   rw [Jqc]
   split
   ·exact ih
   ·rename_i hx
    have hne:k≠x.mark:=fun q=> by
     have h2:marksO (x::l)=x.mark::marksO l:=by unfold marksO;rw [List.map_cons,List.filter_cons,if_pos (by simpa using hx)]
     rw [h2] at hn
     exact (List.nodup_cons.1 hn).1 (q ▸ hin)
    show (if k=x.mark then _ else _)=_
    rw [if_neg hne];exact ih
theorem JvU (W:Nat→Nat) {s:Cnt×Lbl} {l:List Itm} {i:Nat} (h:i < l.length):Jp W (l.drop i) s=if (l.getD i it0).mark=0 then (Jc1 W (l.getD i it0) (Jp W (l.drop (i+1)) s).1 (Jp W (l.drop (i+1)) s).2,(Jp W (l.drop (i+1)) s).2) else ((Jp W (l.drop (i+1)) s).1,fun k=> if k=(l.getD i it0).mark then (Jp W (l.drop (i+1)) s).1 else (Jp W (l.drop (i+1)) s).2 k):=by
 rw [List.drop_eq_getElem_cons h,show l.getD i it0=l[i] by simp [List.getD,h]]
 rfl
theorem Jug {l:List Itm} (i:Nat) (h:(marksO l).Nodup):(marksO (l.drop i)).Nodup:=by
 unfold marksO at h⊢
 rw [List.map_drop]
 exact h.sublist ((List.drop_sublist _ _).filter _)
end Go.Proofs.W

namespace Go.Proofs.W
open Go.Vl
set_option maxRecDepth 100000
end Go.Proofs.W

namespace Go.Proofs.W
open Go.Vl
set_option maxRecDepth 100000
theorem Jet {P:Program} {c:Code} {E:Env} {Q:AExit→Env→Prop} (h:AW P c E (Jy3 (fun _:Unit=> E) (fun _=> True) (fun _=> 0) () Q)):AW P (.loop c) E Q:=
 Js (fun _:Unit=> E) (fun _=> True) (fun _=> 0) ⟨(),trivial,ELe.refl _⟩ fun _ _=> h
def Jez (sz:Nat):AV:= .os sz 0 (fun _=> .any) none
theorem JzL:Tells Tryz.prog 129 [u64 0] (int 0):=by
 refine Jd Tryz.func129 rfl rfl fun nx=> ?_
 refine stp ?_
 exact Jb rfl Rf
theorem JoX:Tells Tryz.prog 73 [.v (.int .u64 0)] (int 0):=by
 refine Jd Tryz.func73 rfl rfl fun nx=> ?_
 refine stp ?_
 refine Ja rfl rfl JzL ⟨Rf,trivial⟩ fun nx=> ?_
 refine stp ?_
 exact Jb rfl Rf
theorem JBQ (n:Nat):Tells Tryz.prog 245 [Jez 4,int 0,int 0,fn0 n] (.tup []):=by
 refine Jd Tryz.func245 rfl rfl fun nx=> ?_
 refine stp ?_
 refine Jet ?_
 refine stp ?_
 exact Jb rfl Rf
theorem JBR (n:Nat):Tells Tryz.prog 170 [Jez 4,int 0,int 0,int 0,fn0 n] (.tup []):=by
 refine Jd Tryz.func170 rfl rfl fun nx=> ?_
 refine stp ?_
 refine Jet ?_
 refine stp ?_
 refine Ja rfl rfl (JBQ n) ⟨Rf,Rf,Rf,Rf,trivial⟩ fun nx=> ?_
 refine stp ?_
 exact Jb rfl Rf
theorem Juh (n:Nat):Tells Tryz.prog 110 [Jez 4,fn0 n] (.tup []):=by
 refine Jd Tryz.func110 rfl rfl fun nx=> ?_
 refine stp ?_
 refine Ja rfl rfl JoX ⟨Rf,trivial⟩ fun nx=> ?_
 refine stp ?_
 refine Ja rfl rfl (JBR n) ⟨Rf,Rf,Rf,Rf,Rf,trivial⟩ fun nx=> ?_
 refine stp ?_
 exact Jb rfl Rf
theorem JvV:Tells Tryz.prog 112 [Jez 4] (Jez 4):=by
 refine Jd Tryz.func112 rfl rfl fun nx=> ?_
 refine stp ?_
 exact Jb rfl Rf
end Go.Proofs.W

namespace Go.Proofs
open Go.Shelf
shelf_lay Lays.n125 Nm 125 at Tryz as Tryz.lays125
end Go.Proofs
namespace Go.Proofs.W
open Go.Vl Go.Shelf
set_option maxRecDepth 100000
theorem Jfb (n:Nat) (hn:n≤1000000000):Tells Tryz.prog 73 [.v (.int .u64 (n:Int))] (.v (.int .i64 (Lib.bitLen n))):=
 Jem (vs:= [.int .u64 (n:Int)]) ⟨_,Tryz.func73,rfl,rfl⟩ fun w=> (Any.bits_Len Tryz.lays125 (n:Int) w Om Om).mono fun e w' ⟨h1,h2⟩=> ⟨h1,by subst h2;exact ⟨rfl,rfl,rfl,Nat.le_refl _,fun _ _=> rfl⟩⟩
theorem JlW {n:Nat} (h0:0 < n) (h1:n≤1000000000):2 ^ Lib.bitLen n≤2 * n∧Lib.bitLen n≤32:=by
 obtain ⟨a,b,c⟩:=Lib.bitLenAux_bounds 64 n Om Om
 have e:2 ^ Lib.bitLenAux 64 n=2 * 2 ^ (Lib.bitLenAux 64 n - 1):=by
  obtain ⟨k,hk⟩:∃k,Lib.bitLenAux 64 n=k+1:=⟨Lib.bitLenAux 64 n - 1,by omega⟩
  rw [hk,Nat.add_sub_cancel,Nat.pow_succ];omega
 unfold Lib.bitLen
 refine ⟨by omega, ?_⟩
 rcases Nat.lt_or_ge 32 (Lib.bitLenAux 64 n) with h | h
 ·have:2 ^ 32≤2 ^ (Lib.bitLenAux 64 n - 1):=Nat.pow_le_pow_right Dc Om
  omega
 ·exact h
theorem Jqe (n:Nat) (h0:0 < n) (hn:n≤1000000000):Tells Tryz.prog 178 [int n] (.v (.int .u64 (2 ^ Lib.bitLen n:Nat))):=by
 obtain ⟨h1,h2⟩:=JlW h0 hn
 refine Jd Tryz.func178 rfl rfl fun nx=> ?_
 refine stp ?_
 refine Ja rfl rfl (Jfb n hn) ⟨AVle.of_eq (congrArg (fun z=> AV.v (.int .u64 z)) (IntWalk.u64_in _ Om)),trivial⟩ fun nx1=> ?_
 refine stp ?_
 refine ⟨by omega, ?_⟩
 refine stp ?_
 refine Jl rfl (by trivial) (AVle.of_eq (congrArg (fun z=> AV.v (.int .u64 z)) ?_))
 rw [show ((Lib.bitLen n:Nat):Int).toNat=Lib.bitLen n from rfl,Nat.min_eq_left (show Lib.bitLen n≤IntKind.u64.bits by show _≤64;omega)]
 rw [show (1:Int) * 2 ^ Lib.bitLen n=((2 ^ Lib.bitLen n:Nat):Int) by simp]
 generalize 2 ^ Lib.bitLen n=p at h1⊢
 exact IntWalk.u64_in _ Om
theorem JzM (z:Int) {m:Nat} (hm:m < 18446744073709551616):∃k:Nat,k≤m∧Jbp .and .u64 z (m:Int)=(k:Int):=by
 unfold Jbp
 simp only [BitVec.toNat_and]
 rw [Jd6 (w:=IntKind.u64.bits) (a:=m) (by exact hm)]
 refine ⟨(BitVec.ofInt IntKind.u64.bits z).toNat&&& m,Nat.and_le_right,IntWalk.u64_in _ ?_⟩
 have:(BitVec.ofInt IntKind.u64.bits z).toNat&&& m≤m:=Nat.and_le_right
 omega
theorem Jqf (z:Int) (R:List AV) (s s1 nx:Nat):
 ECall Tryz.prog 179 [.bp (1,s1) 0] ⟨[((1,s1), .c [.v (.int .u64 z)]),((0,s), .c R)], [],nx,2⟩ (fun r h'=> ∃z' nx' nn',r= .v (.int .u64 z')∧h'=⟨[((1,s1), .c [.v (.int .u64 z')]),((0,s), .c R)], [],nx',nn'⟩):=by
 refine ECall.wk (Jn Tryz.func179 rfl rfl ?_)
 refine stp ?_
 (refine JH 9 ?_ ?_ ?_ ?_;(· kernel_rfl);(· kernel_rfl);(· kernel_rfl))
 refine Jy ?_
 refine AW.le (E':=mk 33 [(0, .bp (1,s1) 0)] ⟨[((1,s1), .c [.v (.int .u64 (Jbp .xor .u64 z (IntKind.u64.wrap (z * 2 ^ min (Int.toNat 13) IntKind.u64.bits))))]),((0,s), .c R)], [],nx,2⟩) (Jc _ _ rfl rfl Sf .slnil Bf trivial ⟨Rf,trivial⟩) ?_
 generalize Jbp .xor .u64 z (IntKind.u64.wrap (z * 2 ^ min (Int.toNat 13) IntKind.u64.bits))=z1
 (refine JH 9 ?_ ?_ ?_ ?_;(· kernel_rfl);(· kernel_rfl);(· kernel_rfl))
 refine Jy ?_
 refine AW.le (E':=mk 33 [(0, .bp (1,s1) 0)] ⟨[((1,s1), .c [.v (.int .u64 (Jbp .xor .u64 z1 (z1.fdiv (2 ^ min (Int.toNat 7) IntKind.u64.bits))))]),((0,s), .c R)], [],nx,2⟩) (Jc _ _ rfl rfl Sf .slnil Bf trivial ⟨Rf,trivial⟩) ?_
 generalize Jbp .xor .u64 z1 (z1.fdiv (2 ^ min (Int.toNat 7) IntKind.u64.bits))=z2
 (refine JH 9 ?_ ?_ ?_ ?_;(· kernel_rfl);(· kernel_rfl);(· kernel_rfl))
 refine Jy ?_
 refine AW.le (E':=mk 33 [(0, .bp (1,s1) 0)] ⟨[((1,s1), .c [.v (.int .u64 (Jbp .xor .u64 z2 (IntKind.u64.wrap (z2 * 2 ^ min (Int.toNat 17) IntKind.u64.bits))))]),((0,s), .c R)], [],nx,2⟩) (Jc _ _ rfl rfl Sf .slnil Bf trivial ⟨Rf,trivial⟩) ?_
 generalize Jbp .xor .u64 z2 (IntKind.u64.wrap (z2 * 2 ^ min (Int.toNat 17) IntKind.u64.bits))=z3
 refine stp ?_
 exact Jr rfl ⟨_,_,Rf,HLe.refl _,z3,nx,2,rfl,rfl⟩
end Go.Proofs.W

namespace Go.Proofs.W
open Go.Vl
set_option maxRecDepth 100000
def Jeb (a b:Int):Int:=if a < b then -1 else if b < a then 1 else 0
def orL:List Int→Int
 | []=> 0
 | x::l=> if x=0 then orL l else x
theorem Jkj (a b:Int):Tells Tryz.prog 172 [int a,int b] (int (Jeb a b)):=by
 have hn:∀z:Int,Tells Tryz.prog 253 [int z] (Ji false):=fun z=> by
  refine Jd Tryz.func253 rfl rfl fun nx=> ?_
  refine stp ?_
  (intro c hc;(first | (rw [bne_self_eq_false] at hc;subst hc) | (obtain rfl:c=false:=hc.trans (bne_self_eq_false _)));refine stp ?_)
  exact Jb rfl Rf
 refine Jd Tryz.func172 rfl rfl fun nx=> ?_
 refine stp ?_
 refine Ja rfl rfl (hn a) ⟨Rf,trivial⟩ fun nx1=> ?_
 refine stp ?_
 refine Ja rfl rfl (hn b) ⟨Rf,trivial⟩ fun nx2=> ?_
 refine stp ?_
 intro c h;cases c
 ·have h:=Jw h
  refine stp ?_
  intro c g;cases c
  ·have g:=Jw g
   refine stp ?_
   exact Jb rfl (Jg (by unfold Jeb;rw [if_neg h,if_neg g]))
  ·have g:=Jv g
   refine stp ?_
   exact Jb rfl (Jg (by unfold Jeb;rw [if_neg h,if_pos g]))
 ·have h:=Jv h
  refine stp ?_
  exact Jb rfl (Jg (by unfold Jeb;rw [if_pos h]))
theorem Jkk (a b:Nat):Tells Tryz.prog 173 [u64 a,u64 b] (int (Jeb a b)):=by
 have hn:∀z:Nat,Tells Tryz.prog 254 [u64 z] (Ji false):=fun z=> by
  refine Jd Tryz.func254 rfl rfl fun nx=> ?_
  refine stp ?_
  (intro c hc;(first | (rw [bne_self_eq_false] at hc;subst hc) | (obtain rfl:c=false:=hc.trans (bne_self_eq_false _)));refine stp ?_)
  exact Jb rfl Rf
 refine Jd Tryz.func173 rfl rfl fun nx=> ?_
 refine stp ?_
 refine Ja rfl rfl (hn a) ⟨Rf,trivial⟩ fun nx1=> ?_
 refine stp ?_
 refine Ja rfl rfl (hn b) ⟨Rf,trivial⟩ fun nx2=> ?_
 refine stp ?_
 intro c h;cases c
 ·have h:=Jw h
  refine stp ?_
  intro c g;cases c
  ·have g:=Jw g
   refine stp ?_
   exact Jb rfl (Jg (by unfold Jeb;rw [if_neg h,if_neg g]))
  ·have g:=Jv g
   refine stp ?_
   exact Jb rfl (Jg (by unfold Jeb;rw [if_neg h,if_pos g]))
 ·have h:=Jv h
  refine stp ?_
  exact Jb rfl (Jg (by unfold Jeb;rw [if_pos h]))
theorem JA4 {l:List Int} {i:Nat} (hi:i < l.length) (h:∀j,j < i→l.getD j 0=0) (hx:l.getD i 0≠0):orL l=l.getD i 0:=by
 induction l generalizing i with
 | nil=> cases hi
 | cons x l ih=>
   cases i with
   | zero=> simp at hx;simp [orL,hx]
   | succ i=>
     have h0:x=0:=by simpa using h 0 Om
     simp only [orL,h0,if_true]
     rw [ih (i:=i) (by simpa using hi) (fun j hj=> by simpa using h (j+1) Om) (by simpa using hx)]
     simp
theorem Jx7 {l:List Int} (h:∀j,j < l.length→l.getD j 0=0):orL l=0:=by
 induction l with
 | nil=> rfl
 | cons x l ih=>
   have h0:x=0:=by simpa using h 0 (by simp)
   simp only [orL,h0,if_true]
   exact ih (fun j hj=> by simpa using h (j+1) (by simpa using hj))
theorem JzN (l:List Int) (hl:l.length≤1000000):Tells Tryz.prog 171 [JK 1 int 0 l] (int (orL l)):=by
 refine Jd Tryz.func171 rfl rfl fun nx=> ?_
 refine stp ?_
 refine Js (fun s:Nat×Nat=> mk 18 [(3,int 0),(6,JK 1 int 0 l),(7,int l.length),(8,int s.1)] ⟨[], [],s.2,0⟩) (fun s=> s.1≤l.length∧∀j,j < s.1→l.getD j 0=0) (fun s=> l.length - s.1) ?_ ?_
 ·exact ⟨(0,nx),⟨by simp,by intro j hj;simp at hj⟩,JaX rfl rfl ⟨Rf,Rf,Rf,Rf,trivial⟩⟩
 ·rintro ⟨i,nx⟩ ⟨h1,h2⟩
  dsimp only at h1 h2
  refine stp ?_
  intro c h3;cases c
  ·have h3:=Jw h3
   dsimp only at h3
   refine stp ?_
   exact Jb rfl (Jg (Jx7 (fun j hj=> h2 j Om)).symm)
  ·have h3:=Jv h3
   dsimp only at h3
   have hi:i < l.length:=by omega
   refine stp ?_
   refine ⟨Bd, ?_⟩
   refine stp ?_
   intro c h4;cases c
   ·have h4:l.getD i 0=0:=by simpa using h4
    refine stp ?_
    exact back (i+1,nx) ⟨hi,fun j hj=> by rcases Nat.lt_or_ge j i with q | q;exact h2 j q;rw [show j=i by omega];exact h4⟩ Dm (JaX rfl rfl ⟨Rf,Rf,Rf,Jg (Jz Dm),trivial⟩)
   ·have h4:l.getD i 0≠0:=by simpa using h4
    refine stp ?_
    exact Jb rfl (Jg (JA4 hi h2 h4).symm)
def Jqg (a b:Cnd):Int:=orL [Jeb a.arg b.arg,Jeb a.op b.op,Jeb a.mask b.mask,Jeb a.value b.value]
theorem Jui (a b:Cnd):Tells Tryz.prog 111 [J3 a,J3 b] (int (Jqg a b)):=by
 refine Jd Tryz.func111 rfl rfl fun nx=> ?_
 refine stp ?_
 (refine JH 22 ?_ ?_ ?_ ?_;(· kernel_rfl);(· kernel_rfl);(· kernel_rfl))
 refine stp ?_
 refine J8 (JR rfl rfl (Jkj a.arg b.arg) ⟨Rf,Rf,trivial⟩ (NoId.v _)) ?_
 refine stp ?_
 refine J8 (JR rfl rfl (Jkj a.op b.op) ⟨Rf,Rf,trivial⟩ (NoId.v _)) ?_
 refine stp ?_
 refine J8 (JR rfl rfl (Jkk a.mask b.mask) ⟨Rf,Rf,trivial⟩ (NoId.v _)) ?_
 refine stp ?_
 refine J8 (JR rfl rfl (Jkk a.value b.value) ⟨Rf,Rf,trivial⟩ (NoId.v _)) ?_
 refine stp ?_
 refine J8 (JR rfl rfl (JzN [Jeb a.arg b.arg,Jeb a.op b.op,Jeb a.mask b.mask,Jeb a.value b.value] (by show 4≤1000000;omega)) ⟨?_,trivial⟩ (NoId.v _)) ?_
 ·(conv=> arg 1;whnf)
  refine AVle.trans AVle.os_sl (AVle.sl_fun fun k hk=> ?_)
  rcases (show k=0∨k=1∨k=2∨k=3 by have hk:k < 4:=hk;omega) with rfl | rfl | rfl | rfl <;> rfl
 refine stp ?_
 exact Jb rfl Rf
end Go.Proofs.W

namespace Go.Proofs.W
open Go.Vl
set_option maxRecDepth 100000
instance:Inhabited Cnd:=⟨cnd0⟩
def eC (c:Cnd):List AV:= [int c.arg,int c.op,u64 c.mask,u64 c.value]
theorem Jb8 (x:Cnd):(eC x).length=4:=rfl
theorem c_cnd:Tryz.prog.cellsOf 150=4:=by kernel_rfl
theorem Jgc:(Tryz.prog.underlying 150).map agD=some true:=by kernel_rfl
def Jcs (s:Nat) (d:Array Cnd) (tl:List AV):List (Vl.Id×Own):= [((0,s), .c (Jag eC d tl))]
set_option maxHeartbeats 4000000 in
theorem JzO (f:Nat) (lt:Cnd→Cnd→Bool) (cf:Cnd→Cnd→Int) (hf:∀a b,Tells Tryz.prog f [J3 a,J3 b] (int (cf a b))) (hlt:∀a b,lt a b=decide (cf a b < 0)) (d0:Array Cnd) (tl:List AV) (n a b:Nat) (hn:d0.size=n) (hab:a≤b) (hb:b≤n) (hsz:n≤1000000) (s cap nx:Nat):
 ECall Tryz.prog 245 [.hs (0,s) 0 n cap,int a,int b,fn0 f] ⟨Jcs s d0 tl, [],nx,1⟩ (fun r h'=> ∃nx' nn',h'=⟨Jcs s (Go.Sort.insertionSort lt d0 a b) tl, [],nx',nn'⟩):=by
 refine ECall.wk (Jn Tryz.func245 rfl rfl ?_)
 refine stp ?_
 refine Js (fun y:Array Cnd×Nat×Nat=> mk 53 [(0, .hs (0,s) 0 n cap),(1,int a),(2,int b),(3,fn0 f),(8,int y.2.1)] ⟨Jcs s y.1 tl, [],y.2.2,1⟩) (fun y=> y.1.size=n∧a+1≤y.2.1∧y.2.1≤b+1∧Go.Sort.insOuter lt a b y.2.1 y.1=Go.Sort.insertionSort lt d0 a b) (fun y=> b+1 - y.2.1) ?_ ?_
 ·exact ⟨(d0,a+1,nx),⟨hn,Nat.le_refl _,by dsimp only;omega,rfl⟩,Jc _ _ rfl rfl Sf .slnil Bf trivial ⟨Rf,Rf,Rf,Rf,Lw,trivial⟩⟩
 ·rintro ⟨d,i,nx1⟩ ⟨h1,h2,h3,h4⟩
  dsimp only at h1 h2 h3 h4
  refine stp ?_
  intro c g;cases c
  ·have g:=Jw g
   try dsimp only at g
   rw [Go.Sort.insOuter,if_neg Om] at h4
   subst h4
   refine stp ?_
   exact Jr rfl ⟨_,_,Rf,Jq (Jcs s (Go.Sort.insertionSort lt d0 a b) tl) [] rfl Sf .slnil Bf Pf,_,1,rfl⟩
  ·have g:=Jv g
   try dsimp only at g
   have hi:i < b:=by omega
   rw [Go.Sort.insOuter,if_pos hi] at h4
   refine stp ?_
   refine Js (fun y:Array Cnd×Nat×Nat=> mk 53 [(0, .hs (0,s) 0 n cap),(1,int a),(2,int b),(3,fn0 f),(8,int i),(9,int y.2.1)] ⟨Jcs s y.1 tl, [],y.2.2,1⟩) (fun y=> y.1.size=n∧y.2.1≤i∧Go.Sort.insInner lt a y.2.1 y.1=Go.Sort.insInner lt a i d) (fun y=> y.2.1) ?_ ?_
   ·exact ⟨(d,i,nx1),⟨h1,Nat.le_refl _,rfl⟩,Jc _ _ rfl rfl Sf .slnil Bf trivial ⟨Rf,Rf,Rf,Rf,Rf,Rf,trivial⟩⟩
   ·rintro ⟨e,j,nx2⟩ ⟨k1,k2,k3⟩
    dsimp only at k1 k2 k3
    by_cases hja:a < j
    ·have hd:decide ((j:Int) > (a:Int))=true:=decide_eq_true Om
     have hj1:IntKind.i64.wrap ((j:Int) - 1)=((j - 1:Nat):Int):=by rw [Ju Om Om];omega
     refine stp ?_
     (refine JH 16 ?_ ?_ ?_ ?_;(· kernel_rfl);(· kernel_rfl);(· kernel_rfl))
     refine stp ?_
     (conv=> whnf)
     refine JaE hd ?_
     refine stp ?_
     refine ⟨⟨JF (i:=j) (rfl),JG (i:=j) (rfl) Om⟩,Jk (b:= .bp (0,s) (j * 4)) (congrArg (AV.bp (0,s)) (Jii (i:=j) c_cnd (rfl))) ?_⟩
     (conv=> whnf)
     generalize hX:Jbq _ _ _=X
     have hX2:X=some (some (s=s), .ag (eC e[j]!)):=hX.symm.trans (Jeo Jb8 (E:=eC) (d:=e) (tl:=tl) (j:=j) rfl rfl rfl rfl Jgc c_cnd Om)
     clear hX;subst hX2
     refine ⟨rfl, ?_⟩
     refine stp ?_
     refine ⟨⟨JF (i:=j - 1) (hj1),JG (i:=j - 1) (hj1) Om⟩,Jk (b:= .bp (0,s) ((j - 1) * 4)) (congrArg (AV.bp (0,s)) (Jii (i:=j - 1) c_cnd (hj1))) ?_⟩
     (conv=> whnf)
     generalize hX:Jbq _ _ _=X
     have hX2:X=some (some (s=s), .ag (eC e[j - 1]!)):=hX.symm.trans (Jeo Jb8 (E:=eC) (d:=e) (tl:=tl) (j:=j - 1) rfl rfl rfl rfl Jgc c_cnd Om)
     clear hX;subst hX2
     refine ⟨rfl, ?_⟩
     refine stp ?_
     refine J8 (JR rfl rfl (hf e[j]! e[j - 1]!) ⟨Rf,Rf,trivial⟩ (NoId.v _)) ?_
     refine stp ?_
     intro c hl;cases c
     ·have hl:lt e[j]! e[j - 1]! =false:=(hlt _ _).trans hl.symm
      rw [JpU hl] at k3
      subst k3
      refine stp ?_
      exact back (_,i+1,nx2) ⟨k1,by dsimp only;omega,by dsimp only;omega,h4⟩ Dm (Jc _ _ rfl rfl Sf .slnil Bf trivial ⟨Rf,Rf,Rf,Rf,Lw,trivial⟩)
     ·have hl:lt e[j]! e[j - 1]! =true:=(hlt _ _).trans hl.symm
      rw [JsR hja hl] at k3
      refine stp ?_
      refine Jcc 18 (fun i=> match i with | 15=> true | 17=> true | _=> false) (fun i=> match i with | 9=> true | 13=> true | _=> false) [0,1,2,3,4,5,6,7,8,10,11,12,9,13,14,15,16,17] (by kernel_rfl) (by kernel_rfl) ?_
      (conv=> whnf)
      refine ⟨⟨JF (i:=j - 1) (hj1),JG (i:=j - 1) (hj1) Om⟩, ?_⟩
      (conv=> whnf)
      refine ⟨⟨JF (i:=j) (rfl),JG (i:=j) (rfl) Om⟩, ?_⟩
      (conv=> whnf)
      refine ⟨.ag (eC e[j - 1]!),JpH Jb8 (E:=eC) (d:=e) (tl:=tl) (j:=j - 1) rfl rfl rfl (Jii (i:=j - 1) c_cnd (hj1)) rfl Jgc c_cnd Om, ?_⟩
      (conv=> whnf)
      refine ⟨.ag (eC e[j]!),JpH Jb8 (E:=eC) (d:=e) (tl:=tl) (j:=j) rfl rfl rfl (Jii (i:=j) c_cnd (rfl)) rfl Jgc c_cnd Om, ?_⟩
      (conv=> whnf)
      refine ⟨⟨JF (i:=j) (rfl),JG (i:=j) (rfl) Om⟩, ?_⟩
      (conv=> whnf)
      refine ⟨_,JpI Jb8 (E:=eC) (d:=e) (tl:=tl) (j:=j) (z:=e[j - 1]!) rfl rfl rfl rfl (Jii (i:=j) c_cnd (rfl)) rfl rfl rfl rfl (by kernel_rfl) c_cnd Om,fun r0 h0 hr0=> ?_⟩
      subst hr0
      (conv=> whnf)
      refine ⟨⟨JF (i:=j - 1) (hj1),JG (i:=j - 1) (hj1) Om⟩, ?_⟩
      (conv=> whnf)
      refine ⟨_,JpI Jb8 (E:=eC) (d:=e.setIfInBounds j e[j - 1]!) (tl:=tl) (j:=j - 1) (z:=e[j]!) rfl rfl rfl rfl (Jii (i:=j - 1) c_cnd (hj1)) rfl rfl rfl rfl (by kernel_rfl) c_cnd (by simp;omega),fun r0 h0 hr0=> ?_⟩
      subst hr0
      refine stp ?_
      exact back (Go.Sort.swp e j (j - 1),j - 1,nx2) ⟨by dsimp only;rw [← k1];simp [Go.Sort.swp],by dsimp only;omega,k3⟩ Dm (Jc _ _ rfl rfl Sf .slnil Bf trivial ⟨Rf,Rf,Rf,Rf,Rf,Jg hj1,trivial⟩)
    ·have hd:decide ((j:Int) > (a:Int))=false:=decide_eq_false Om
     rw [JnG hja] at k3
     subst k3
     refine stp ?_
     (refine JH 16 ?_ ?_ ?_ ?_;(· kernel_rfl);(· kernel_rfl);(· kernel_rfl))
     refine stp ?_
     (conv=> whnf)
     refine JaE hd ?_
     refine stp ?_
     exact back (_,i+1,nx2) ⟨k1,by dsimp only;omega,by dsimp only;omega,h4⟩ Dm (Jc _ _ rfl rfl Sf .slnil Bf trivial ⟨Rf,Rf,Rf,Rf,Lw,trivial⟩)
theorem JzP (f:Nat) (lt:Cnd→Cnd→Bool) (cf:Cnd→Cnd→Int) (hf:∀a b,Tells Tryz.prog f [J3 a,J3 b] (int (cf a b))) (hlt:∀a b,lt a b=decide (cf a b < 0)) (d0:Array Cnd) (tl:List AV) (n:Nat) (hn:d0.size=n) (hsz:n≤12) (s cap nx:Nat) (z:Int):
 ECall Tryz.prog 170 [.hs (0,s) 0 n cap,int 0,int n,int z,fn0 f] ⟨Jcs s d0 tl, [],nx,1⟩ (fun r h'=> ∃nx' nn',h'=⟨Jcs s (Go.Sort.insertionSort lt d0 0 n) tl, [],nx',nn'⟩):=by
 refine ECall.wk (Jn Tryz.func170 rfl rfl ?_)
 refine stp ?_
 refine Jet ?_
 have hw:IntKind.i64.wrap ((n:Int) - 0)=(n:Int):=by rw [Int.sub_zero];exact Ju Om Om
 refine stp ?_
 intro c hc
 have hc2:c=true:=hc.trans (decide_eq_true (by show IntKind.i64.wrap ((n:Int) - 0)≤12;rw [hw];omega))
 clear hc;subst hc2
 refine stp ?_
 refine Jf (xs:= [.hs (0,s) 0 n cap,int ((0:Nat):Int),int n,fn0 f]) [] [] 1 rfl rfl rfl rfl ⟨Rf,Rf,Rf,Rf,trivial⟩ (JzO f lt cf hf hlt d0 tl n 0 n hn (Nat.zero_le _) (Nat.le_refl _) Om s cap _) Bf Pf rfl fun r h' hq=> ?_
 obtain ⟨nx2,nn2,rfl⟩:=hq
 refine stp ?_
 exact Jr rfl ⟨_,_,Rf,Jq (Jcs s (Go.Sort.insertionSort lt d0 0 n) tl) [] rfl Sf .slnil Bf Pf,_,1,rfl⟩
theorem Jqh (f:Nat) (lt:Cnd→Cnd→Bool) (cf:Cnd→Cnd→Int) (hf:∀a b,Tells Tryz.prog f [J3 a,J3 b] (int (cf a b))) (hlt:∀a b,lt a b=decide (cf a b < 0)) (d0:Array Cnd) (tl:List AV) (n:Nat) (hn:d0.size=n) (hsz:n≤12) (s cap nx:Nat):
 ECall Tryz.prog 110 [.hs (0,s) 0 n cap,fn0 f] ⟨Jcs s d0 tl, [],nx,1⟩ (fun r h'=> ∃nx' nn',h'=⟨Jcs s (Go.Sort.insertionSort lt d0 0 n) tl, [],nx',nn'⟩):=by
 refine ECall.wk (Jn Tryz.func110 rfl rfl ?_)
 refine stp ?_
 have hw:IntKind.u64.wrap (n:Int)=(n:Int):=by simp [IntKind.wrap,IntKind.bits,IntKind.signed];omega
 refine Ja rfl rfl (Jfb n Om) ⟨AVle.of_eq (congrArg (fun z:Int=> AV.v (.int .u64 z)) hw),trivial⟩ fun nx1=> ?_
 refine stp ?_
 refine Jf (xs:= [.hs (0,s) 0 n cap,int 0,int n,int (Lib.bitLen n),fn0 f]) [] [] 1 rfl rfl rfl rfl ⟨Rf,Rf,Rf,Rf,Rf,trivial⟩ (JzP f lt cf hf hlt d0 tl n hn hsz s cap _ _) Bf Pf rfl fun r h' hq=> ?_
 obtain ⟨nx2,nn2,rfl⟩:=hq
 refine stp ?_
 exact Jr rfl ⟨_,_,Rf,Jq (Jcs s (Go.Sort.insertionSort lt d0 0 n) tl) [] rfl Sf .slnil Bf Pf,_,1,rfl⟩
end Go.Proofs.W

namespace Go.Proofs.W
open Go.Vl
set_option maxRecDepth 100000
def cU (d:Array Cnd):Nat→List Cnd
 | 0=> []
 | m+1=> if m=0∨d[m]! ≠d[m - 1]! then cU d m++ [d[m]!] else cU d m
theorem Juj (d:Array Cnd):∀m,(cU d m).length≤m
 | 0=> Nat.le_refl _
 | m+1=> by
   have:=Juj d m
   unfold cU
   split
   ·simp;omega
   ·omega
theorem Jiu {d:Array Cnd}:∀ {m:Nat},m≤d.size→(∀j,1≤j→j < m→d[j]! ≠d[j - 1]!)→cU d m=d.toList.take m
 | 0,_,_=> rfl
 | m+1,hm,h=> by
   have ih:=Jiu (m:=m) Om fun j h1 h2=> h j h1 Om
   have hc:m=0∨d[m]! ≠d[m - 1]! :=by
    rcases Nat.eq_zero_or_pos m with h0 | h0
    ·exact .inl h0
    ·exact .inr (h m h0 Om)
   rw [cU,if_pos hc,ih,List.take_add_one,show d[m]! =d[m] by simp [show m < d.size by omega]]
   simp [show m < d.size by omega]
theorem Js5 {d:Array Cnd} {m:Nat} (h0:m≠0) (h:d[m]! =d[m - 1]!):cU d (m+1)=cU d m:=by
 rw [cU,if_neg (by intro hh;rcases hh with hh | hh;exact h0 hh;exact hh h)]
theorem JzQ {d:Array Cnd} {m:Nat} (h:d[m]! ≠d[m - 1]!):cU d (m+1)=cU d m++ [d[m]!]:=by
 rw [cU,if_pos (.inr h)]
theorem Jx8 {d:Array Cnd} {i j:Nat} {x:Cnd} (hi:i < d.size):(d.setIfInBounds i x)[j]! =if j=i then x else d[j]! :=by
 by_cases h:j=i
 ·subst h;simp [hi]
 ·rw [if_neg h]
  by_cases hj:j < d.size
  ·simp [hj,Array.getElem_setIfInBounds,Ne.symm h]
  ·simp [hj]
theorem JvW {d:Array Cnd} {k:Nat} {x:Cnd} (h:k < d.size):(d.setIfInBounds k x).toList.take (k+1)=d.toList.take k++ [x]:=by
 rw [Array.toList_setIfInBounds,List.take_add_one]
 simp [h,List.take_set_of_le]
theorem JA5 {x y:Cnd}:(x.arg ==y.arg&& (x.op ==y.op&& ((x.mask:Int) ==(y.mask:Int)&& ((x.value:Int) ==(y.value:Int)&& true))))=decide (x=y):=JsX
theorem Jx9 {d:Array Cnd} {tl:List AV} {k:Nat} (h:k≤d.size):J5 (Jag eC d tl) (k * 4) (List.replicate ((d.size - k) * 4) .any)=Jag eC (d.toList.take k).toArray (List.replicate ((d.size - k) * 4) .any++tl):=by
 have e:d.toList=d.toList.take k++d.toList.drop k:=(List.take_append_drop k d.toList).symm
 have e1:((d.toList.take k).flatMap eC).length=k * 4:=by rw [Jd7 Jb8];simp [h]
 have e2:((d.toList.drop k).flatMap eC).length=(d.size - k) * 4:=by rw [Jd7 Jb8];simp
 unfold Jag
 conv=> lhs;rw [e]
 rw [List.flatMap_append,List.append_assoc,← e1]
 have:=Je7 (a:=(d.toList.take k).flatMap eC) (b:=(d.toList.drop k).flatMap eC++tl) (off:=0) (vs:=List.replicate ((d.size - k) * 4) .any)
 rw [Nat.add_zero] at this
 rw [this,Ji8 (by rw [e2];simp)]
def Juk (d:Array Cnd) (n s cap:Nat) (r:AV) (h':Heap):Prop:=∃tl' nx' nn',r= .hs (0,s) 0 (cU d n).length cap∧h'=⟨Jcs s (cU d n).toArray tl', [],nx',nn'⟩
theorem JvX {d:Array Cnd} {n s cap nx nn q:Nat} {tl:List AV} (h:(cU d n).length=q):Juk d n s cap (.hs (0,s) 0 q cap) ⟨Jcs s (cU d n).toArray tl, [],nx,nn⟩:=⟨tl,nx,nn,by rw [h],rfl⟩
theorem Jqi {o o':Own} (h:o=o'):OwnLe o o':=h ▸ OwnLe.refl _
theorem Jya {x:Int} {i c k m:Nat} (hc:c=k) (h:x=(i:Int)):m * c+x.toNat * c=(m+i) * k:=by subst hc;subst h;simp [Nat.add_mul]
theorem JnX {d:Array Cnd} {n s cap nx nn:Nat} {tl:List AV} (hn:d.size=n) (e:cU d n=d.toList):Juk d n s cap (.hs (0,s) 0 n cap) ⟨Jcs s d tl, [],nx,nn⟩:=⟨tl,nx,nn,by rw [e];simp [hn],by rw [e]⟩
theorem JBS:∃z,(Tryz.prog.info? 150).bind (·.zero)=some z∧z.cells.size=Tryz.prog.cellsOf 150∧z.cells.all (·.oneCell')=true:=⟨.agg #[.int .i64 0, .int .i64 0, .int .u64 0, .int .u64 0],by kernel_rfl,by kernel_rfl,by kernel_rfl⟩
set_option maxHeartbeats 4000000 in
theorem Jr7 (d:Array Cnd) (tl:List AV) (n:Nat) (hn:d.size=n) (hn0:0 < n) (hsz:n≤1000000) (s cap nx:Nat) (hcap:n≤cap):
 ECall Tryz.prog 112 [.hs (0,s) 0 n cap] ⟨Jcs s d tl, [],nx,1⟩ (Juk d n s cap):=by
 refine ECall.wk (Jn Tryz.func112 rfl rfl ?_)
 refine stp ?_
 intro c g;cases c
 rotate_left
 ·have g:=Jv g
  try dsimp only at g
  have hn1:n=1:=by omega
  subst hn1
  have e:cU d 1=d.toList:=by
   rw [Jiu Om (fun j h1 h2=> by omega),List.take_of_length_le (by simp [hn])]
  refine stp ?_
  exact Jr rfl ⟨_,_,Rf,Jq (nn:=1) (Jcs s d tl) [] rfl Sf .slnil Bf Pf,JnX hn e⟩
 have g:=Jw g
 try dsimp only at g
 have hn2:2≤n:=by omega
 refine stp ?_
 refine Js (fun y:Nat×Nat=> mk 61 [(0, .hs (0,s) 0 n cap),(3,int y.1)] ⟨Jcs s d tl, [],y.2,1⟩) (fun y=> 1≤y.1∧y.1≤n∧∀j,1≤j→j < y.1→d[j]! ≠d[j - 1]!) (fun y=> n - y.1) ?_ ?_
 ·exact ⟨(1,nx),⟨Nat.le_refl _,by dsimp only;omega,fun j h1 h2=> absurd h2 Dm⟩,Jc _ _ rfl rfl Sf .slnil Bf trivial ⟨Rf,Rf,trivial⟩⟩
 ·rintro ⟨k,nx1⟩ ⟨h1,h2,h3⟩
  dsimp only at h1 h2 h3
  refine stp ?_
  intro c g;cases c
  ·have g:=Jw g
   try dsimp only at g
   have hk:k=n:=by omega
   subst hk
   have e:cU d k=d.toList:=by
    rw [Jiu Om h3,List.take_of_length_le (by simp [hn])]
   refine stp ?_
   exact Jr rfl ⟨_,_,Rf,Jq (nn:=1) (Jcs s d tl) [] rfl Sf .slnil Bf Pf,JnX hn e⟩
  ·have g:=Jv g
   try dsimp only at g
   have hk:k < n:=by omega
   have hk1:IntKind.i64.wrap ((k:Int) - 1)=((k - 1:Nat):Int):=by rw [Ju Om Om];omega
   refine stp ?_
   (refine JH 10 ?_ ?_ ?_ ?_;(· kernel_rfl);(· kernel_rfl);(· kernel_rfl))
   refine stp ?_
   refine ⟨⟨JF (i:=k) (rfl),JG (i:=k) (rfl) Om⟩,Jk (b:= .bp (0,s) (k * 4)) (congrArg (AV.bp (0,s)) (Jii (i:=k) c_cnd (rfl))) ?_⟩
   (conv=> whnf)
   generalize hX:Jbq _ _ _=X
   have hX2:X=some (some (s=s), .ag (eC d[k]!)):=hX.symm.trans (Jeo Jb8 (E:=eC) (d:=d) (tl:=tl) (j:=k) rfl rfl rfl rfl Jgc c_cnd Om)
   clear hX;subst hX2
   refine ⟨rfl, ?_⟩
   refine stp ?_
   refine ⟨⟨JF (i:=k - 1) (hk1),JG (i:=k - 1) (hk1) Om⟩,Jk (b:= .bp (0,s) ((k - 1) * 4)) (congrArg (AV.bp (0,s)) (Jii (i:=k - 1) c_cnd (hk1))) ?_⟩
   (conv=> whnf)
   generalize hX:Jbq _ _ _=X
   have hX2:X=some (some (s=s), .ag (eC d[k - 1]!)):=hX.symm.trans (Jeo Jb8 (E:=eC) (d:=d) (tl:=tl) (j:=k - 1) rfl rfl rfl rfl Jgc c_cnd Om)
   clear hX;subst hX2
   refine ⟨rfl, ?_⟩
   refine stp ?_
   intro c hc
   have hc2:c=decide (d[k]! =d[k - 1]!):=hc.trans JA5
   clear hc
   cases c
   ·have hne:¬d[k]! =d[k - 1]! :=of_decide_eq_false hc2.symm
    refine stp ?_
    exact back (k+1,nx1) ⟨by dsimp only;omega,hk,fun j q1 q2=> by dsimp only at q2;rcases Nat.lt_or_ge j k with q | q;exact h3 j q1 q;rw [show j=k by omega];exact hne⟩ Dm (Jc _ _ rfl rfl Sf .slnil Bf trivial ⟨Rf,Lw,trivial⟩)
   ·have heq:d[k]! =d[k - 1]! :=of_decide_eq_true hc2.symm
    clear hc2
    have hU0:cU d k=d.toList.take k:=Jiu Om h3
    have hU1:cU d (k+1)=d.toList.take k:=(Js5 Om heq).trans hU0
    refine Jy ?_
    refine JE (fun i=> match i with | 1=> true | _=> false) 4 ?_
    refine stp ?_
    refine AOp.of_yields (Ji9 (l:=k) rfl rfl rfl Tryz.underlying86 Tryz.underlying150 Om hcap Om) ?_
    refine stp ?_
    refine Js (fun y:Array Cnd×Nat×Nat×Nat=> mk 61 [(0, .hs (0,s) 0 n cap),(3,int y.2.1),(4, .hs (0,s) (k * 4) (n - k) (cap - k)),(5,int y.2.2.1)] ⟨Jcs s y.1 tl, [],y.2.2.2,1⟩) (fun y=> y.1.size=n∧k≤y.2.1∧1≤y.2.2.1∧y.2.1+1≤k+y.2.2.1∧k+y.2.2.1≤n∧(∀j,k+y.2.2.1≤j+1→y.1[j]! =d[j]!)∧cU d (k+y.2.2.1)=y.1.toList.take y.2.1) (fun y=> n - y.2.2.1) ?_ ?_
    ·exact ⟨(d,k,1,nx1),⟨hn,Nat.le_refl _,Nat.le_refl _,Nat.le_refl _,hk,fun _ _=> rfl,hU1⟩,Jc _ _ rfl rfl Sf .slnil Bf trivial ⟨Rf,Rf,AVle.of_eq (congrArg (fun c=> AV.hs (0,s) (k * c) (n - k) (cap - k)) c_cnd),Rf,trivial⟩⟩
    ·rintro ⟨e,q,k2,nx2⟩ ⟨p1,p2,p3,p4,p5,p6,p7⟩
     dsimp only at p1 p2 p3 p4 p5 p6 p7
     refine stp ?_
     intro c g2;cases c
     ·have g2:=Jw g2
      try dsimp only at g2
      have hk2:k+k2=n:=by omega
      rw [hk2] at p7
      have hq:q < n:=by omega
      refine Jy ?_
      refine JE (fun i=> match i with | 1=> true | 0=> true | _=> false) 4 ?_
      refine stp ?_
      refine AOp.of_yields (Ji9 (l:=q) rfl rfl rfl Tryz.underlying86 Tryz.underlying150 Om hcap Om) ?_
      refine stp ?_
      obtain ⟨z,hz1,hz2,hz3⟩:=JBS
      refine JtP (n:=n - q) rfl rfl rfl Om Tryz.underlying86 hz1 hz2 hz3 (by rfl) (by show q * Tryz.prog.cellsOf 150+(n - q) * Tryz.prog.cellsOf 150≤(Jag eC e tl).length;rw [Jih Jb8,c_cnd,p1];omega) ?_
      refine AW.le (E':=mk 61 [(0, .hs (0,s) 0 n cap),(3,int q)] ⟨Jcs s (cU d n).toArray (List.replicate ((n - q) * 4) .any++tl), [],nx2,1⟩) ?_ ?_
      ·exact Jc [((0,s), .c (J5 (Jag eC e tl) (q * Tryz.prog.cellsOf 150) (List.replicate ((n - q) * Tryz.prog.cellsOf 150) .any)))] [] rfl rfl Sf .slnil ⟨rfl,Jqi (congrArg Own.c (by rw [c_cnd,p7,← p1];exact Jx9 Om)),trivial⟩ trivial ⟨Rf,Rf,trivial⟩
      refine Jy ?_
      refine JE (fun i=> match i with | 1=> true | _=> false) 4 ?_
      refine stp ?_
      refine JxC (l:=q) rfl rfl rfl Tryz.underlying86 Tryz.underlying150 Om Om ?_
      refine stp ?_
      exact Jr rfl ⟨_,_,Rf,Jq (nn:=1) (Jcs s (cU d n).toArray (List.replicate ((n - q) * 4) .any++tl)) [] rfl Sf .slnil Bf Pf,JvX (by rw [p7];simp;omega)⟩
     ·have g2:=Jv g2
      try dsimp only at g2
      have hk2:k+k2 < n:=by omega
      have hj1:IntKind.i64.wrap ((k2:Int) - 1)=((k2 - 1:Nat):Int):=by rw [Ju Om Om];omega
      refine stp ?_
      (refine JH 10 ?_ ?_ ?_ ?_;(· kernel_rfl);(· kernel_rfl);(· kernel_rfl))
      refine stp ?_
      refine ⟨⟨JF (i:=k2) (rfl),JG (i:=k2) (rfl) Om⟩,Jk (b:= .bp (0,s) ((k+k2) * 4)) (congrArg (AV.bp (0,s)) (Jya c_cnd (rfl))) ?_⟩
      (conv=> whnf)
      generalize hX:Jbq _ _ _=X
      have hX2:X=some (some (s=s), .ag (eC e[k+k2]!)):=hX.symm.trans (Jeo Jb8 (E:=eC) (d:=e) (tl:=tl) (j:=k+k2) rfl rfl rfl rfl Jgc c_cnd Om)
      clear hX;subst hX2
      refine ⟨rfl, ?_⟩
      refine stp ?_
      refine ⟨⟨JF (i:=k2 - 1) (hj1),JG (i:=k2 - 1) (hj1) Om⟩,Jk (b:= .bp (0,s) ((k+(k2 - 1)) * 4)) (congrArg (AV.bp (0,s)) (Jya c_cnd (hj1))) ?_⟩
      (conv=> whnf)
      generalize hX:Jbq _ _ _=X
      have hX2:X=some (some (s=s), .ag (eC e[k+(k2 - 1)]!)):=hX.symm.trans (Jeo Jb8 (E:=eC) (d:=e) (tl:=tl) (j:=k+(k2 - 1)) rfl rfl rfl rfl Jgc c_cnd Om)
      clear hX;subst hX2
      refine ⟨rfl, ?_⟩
      refine stp ?_
      have e1:e[k+k2]! =d[k+k2]! :=p6 _ Om
      have e2:e[k+(k2 - 1)]! =d[k+k2 - 1]! :=by rw [p6 _ Om];congr 1;omega
      intro c hc
      have hc2:c= !decide (d[k+k2]! =d[k+k2 - 1]!):=by rw [← e1,← e2];exact hc.trans (congrArg (!·) JA5)
      clear hc
      cases c
      ·have heq2:d[k+k2]! =d[k+k2 - 1]! :=by simpa using hc2
       have hU2:=(Js5 Om heq2).trans p7
       refine stp ?_
       exact back (e,q,k2+1,nx2) ⟨p1,p2,by dsimp only;omega,by dsimp only;omega,by dsimp only;omega,fun j hj=> p6 j (by dsimp only at hj;omega),hU2⟩ Dm (Jc _ _ rfl rfl Sf .slnil Bf trivial ⟨Rf,Rf,Rf,Lw,trivial⟩)
      ·have hne:¬d[k+k2]! =d[k+k2 - 1]! :=by simpa using hc2
       have hU2:=JzQ hne
       rw [p7,← e1,← JvW (k:=q) (x:=e[k+k2]!) Om] at hU2
       refine Jy ?_
       refine JE (fun i=> match i with | 0=> true | 2=> true | _=> false) 8 ?_
       refine stp ?_
       refine ⟨⟨JF (i:=k2) (rfl),JG (i:=k2) (rfl) Om⟩,Jk (b:= .bp (0,s) ((k+k2) * 4)) (congrArg (AV.bp (0,s)) (Jya c_cnd (rfl))) ?_⟩
       (conv=> whnf)
       refine AOp.of_yields (JrS Jb8 (E:=eC) (d:=e) (tl:=tl) (j:=k+k2) rfl rfl rfl rfl Jgc c_cnd Om) ?_
       refine stp ?_
       refine ⟨⟨JF (i:=q) (rfl),JG (i:=q) (rfl) Om⟩,Jk (b:= .bp (0,s) (q * 4)) (congrArg (AV.bp (0,s)) (Jii c_cnd (rfl))) ?_⟩
       (conv=> whnf)
       refine JtO Jb8 (E:=eC) (d:=e) (tl:=tl) (j:=q) (z:=e[k+k2]!) rfl rfl rfl rfl rfl rfl rfl rfl (by kernel_rfl) c_cnd Om ?_
       refine stp ?_
       exact back (e.setIfInBounds q e[k+k2]!,q+1,k2+1,nx2) ⟨by simpa using p1,by dsimp only;omega,by dsimp only;omega,by dsimp only;omega,by dsimp only;omega,fun j hj=> by
        dsimp only at hj⊢
        rw [Jx8 Om,if_neg Om]
        exact p6 j Om,hU2⟩ Dm (Jc _ _ rfl rfl Sf .slnil Bf trivial ⟨Rf,Lw,Rf,Lw,trivial⟩)
end Go.Proofs.W

namespace Go.Proofs.W
open Go.Vl
set_option maxRecDepth 100000
def JdH (c:Cnd):Bool:=decide ((Jar c).2=2)
def Jiv (c:Cnd):Option Cnd:=if (Jar c).2=0 then some (Jar c).1 else none
def Jck (cs:List Cnd):List Cnd:=cs.filterMap Jiv
def ltC (a b:Cnd):Bool:=decide (Jqg a b < 0)
def JdP (L:List Cnd):List Cnd:=cU (Go.Sort.insertionSort ltC L.toArray 0 L.length) L.length
def JbK (r:Rul):Option Rul:=if r.conds.any JdH then none else some ⟨r.name,r.act,JdP (Jck r.conds)⟩
def JA6:Option Rul→AV
 | none=> .tup [JaF Jo,Ji false]
 | some n=> .tup [JaF n,Ji true]
theorem JvY {c:Cnd} (h:(Jar c).2=0):Jiv c=some (Jar c).1:=if_pos h
theorem Jqj {c:Cnd} (h:(Jar c).2≠0):Jiv c=none:=if_neg h
theorem JvZ {cs:List Cnd} {i:Nat} (hi:i < cs.length):Jck (cs.take (i+1))=Jck (cs.take i)++(Jiv (cs.getD i cnd0)).toList:=by
 unfold Jck
 rw [JaG cnd0 hi,List.filterMap_append]
 congr 1
theorem Jqk (cs:List Cnd):(Jck cs).length≤cs.length:=List.length_filterMap_le _ _
theorem Jyb {cs:List Cnd} (h:∀j,j < cs.length→JdH (cs.getD j cnd0)=false):cs.any JdH=false:=by
 rw [Bool.eq_false_iff]
 intro ha
 obtain ⟨c,hc,hb⟩:=List.any_eq_true.1 ha
 obtain ⟨j,hj,rfl⟩:=List.getElem_of_mem hc
 have:=h j hj
 rw [show cs.getD j cnd0=cs[j] by simp [List.getD,hj]] at this
 rw [this] at hb;cases hb
theorem JA7 {cs:List Cnd} {i:Nat} (hi:i < cs.length) (h:JdH (cs.getD i cnd0)=true):cs.any JdH=true:=by
 refine List.any_eq_true.2 ⟨cs.getD i cnd0, ?_,h⟩
 simp [List.getD,hi]
theorem Jql {cs:List Cnd} (h:∀c∈cs,c.ok) {i:Nat} (hi:i < cs.length):(cs.getD i cnd0).ok:=h _ (by simp [List.getD,hi])
theorem Jv0:Jbv Tryz.prog 150=true:=by kernel_rfl
theorem Jv1:Tryz.prog.bytesOf 150=32:=by kernel_rfl
def ruO (nx:Nat) (s:ByteArray) (k n:Int) (x:AV):Vl.Id×Own:=((2,nx+2), .c [JJ s,int k,int n,x])
def ruZ (nx:Nat):Vl.Id×Own:=((1,nx+1), .c [JJ ⟨#[]⟩,int 0,int 0,Jez 4])
def ruB (nx:Nat) (s:ByteArray) (k n:Int) (L:List Cnd):Option (Nat×Nat×List AV)→List (Vl.Id×Own)
 | none=> [ruO nx s k n (Jez 4),ruZ nx]
 | some (s1,cap,tl)=> [ruO nx s k n (.hs (0,s1) 0 L.length cap),ruZ nx,((0,s1), .c (Jag eC L.toArray tl))]
def ruI (L:List Cnd):Option (Nat×Nat×List AV)→Prop
 | none=> L= []
 | some (_,cap,tl)=> 1≤L.length∧L.length≤cap∧cap * 4≤L.length * 4+tl.length
theorem JzR {a b:Cnd}:Jqg a b < 0↔a.arg < b.arg∨(a.arg=b.arg∧(a.op < b.op∨(a.op=b.op∧(a.mask < b.mask∨(a.mask=b.mask∧a.value < b.value))))):=by
 unfold Jqg Jeb
 simp only [orL]
 repeat' split
 all_goals omega
theorem JjU {a b:Cnd}:ltC a b=true↔a.arg < b.arg∨(a.arg=b.arg∧(a.op < b.op∨(a.op=b.op∧(a.mask < b.mask∨(a.mask=b.mask∧a.value < b.value))))):=by
 unfold ltC;rw [decide_eq_true_iff];exact JzR
theorem Jjo {a b:Cnd}:ltC a b=false↔¬(a.arg < b.arg∨(a.arg=b.arg∧(a.op < b.op∨(a.op=b.op∧(a.mask < b.mask∨(a.mask=b.mask∧a.value < b.value)))))):=by
 rw [← JjU,Bool.not_eq_true]
theorem swo_ltC:Go.Sort.SWO ltC:=⟨fun x=> by rw [Jjo];omega,fun x y z=> by rw [JjU,JjU,JjU];omega,fun x y z=> by rw [Jjo,Jjo,Jjo];omega⟩
theorem JzS {a b:Cnd} (h1:ltC a b=false) (h2:ltC b a=false):a=b:=by
 rw [Jjo] at h1 h2
 obtain ⟨a1,a2,a3,a4⟩:=a
 obtain ⟨b1,b2,b3,b4⟩:=b
 dsimp only at h1 h2
 have e1:a1=b1:=by omega
 have e2:a2=b2:=by omega
 have e3:a3=b3:=by omega
 have e4:a4=b4:=by omega
 subst e1 e2 e3 e4;rfl
theorem JA8 {nx s1:Nat} {s:ByteArray} {k n:Int} {x y:AV} (h:AVle x y) {c d:List AV} (hc:c=d):BxLe [ruO nx s k n x,ruZ nx,((0,s1), .c c)] [ruO nx s k n y,ruZ nx,((0,s1), .c d)]:=by
 subst hc
 exact ⟨rfl,⟨Rf,Rf,Rf,h,trivial⟩,Bf⟩
theorem Jul {l:List Cnd} {x:Cnd} {tl:List AV} (h:4≤tl.length):J5 (Jag eC l.toArray tl) (l.length * Tryz.prog.cellsOf 150) (eC x)=Jag eC (l++ [x]).toArray (tl.drop 4):=by
 rw [c_cnd];exact Jny Jb8 h
theorem Jv2 {i j:Vl.Id} {L:List Cnd} {x:Cnd} {cap:Nat} (h:i.2=j.2):AVle (.hs i 0 (L.length+1) cap) (.hs j 0 (L++ [x]).length cap):=by
 rw [List.length_append];exact AVle.hs_nm h
theorem JzT {x:Cnd} {m:Nat}:eC x++List.replicate (m * Tryz.prog.cellsOf 150) AV.any=Jag eC #[x] (List.replicate (m * 4) .any):=by
 rw [c_cnd];simp [Jag]
theorem Jyc {l:List Cnd} {x:Cnd} {tl:List AV} {m:Nat}:(Jag eC l.toArray tl).take (l.length * Tryz.prog.cellsOf 150)++eC x++List.replicate (m * Tryz.prog.cellsOf 150) .any=Jag eC (l++ [x]).toArray (List.replicate (m * 4) .any):=by
 rw [c_cnd,Jnz Jb8];exact JpJ
set_option maxHeartbeats 8000000 in
theorem Jr8 (r:Rul) (hok:∀c∈r.conds,c.ok) (hl:r.conds.length≤12):Tells Tryz.prog 62 [JaF r] (JA6 (JbK r)):=by
 obtain ⟨s,⟨k,n⟩,cs⟩:=r
 dsimp only at hok hl
 refine Jd Tryz.func62 rfl rfl fun nx=> ?_
 refine stp ?_
 refine Js (fun y:Nat×List Cnd×Option (Nat×Nat×List AV)×Nat=> mk 47 [(2, .bp (1,nx+1) 0),(4, .bp (2,nx+2) 0),(15,Jbi cs),(16,int cs.length),(17,int y.1)] ⟨ruB nx s k n y.2.1 y.2.2.1, [],y.2.2.2,4⟩) (fun y=> y.1≤cs.length∧y.2.1=Jck (cs.take y.1)∧ruI y.2.1 y.2.2.1∧∀j,j < y.1→JdH (cs.getD j cnd0)=false) (fun y=> cs.length - y.1) ?_ ?_
 ·exact ⟨(0, [],none,nx+3),⟨Nat.zero_le _,rfl,rfl,fun j h=> absurd h (Nat.not_lt_zero _)⟩,Jc (pm:= []) [((2,nx+2), .c [JJ s,int k,int n, .os 0 0 (fun _=> .any) none]),((1,nx+1), .c [JJ ⟨#[]⟩,int 0,int 0, .os 0 0 (fun _=> .any) none])] [] rfl rfl (.cons_cons _ (.cons_cons _ (.cons _ .slnil))) Sf ⟨rfl,⟨Rf,Rf,Rf,AVle.os_nil,trivial⟩,rfl,⟨Rf,Rf,Rf,AVle.os_nil,trivial⟩,trivial⟩ trivial ⟨Rf,Rf,Rf,Rf,Rf,trivial⟩⟩
 ·rintro ⟨i,L,md,nx1⟩ ⟨h1,hL,h2,h3⟩
  dsimp only at h1 hL h2 h3
  have hal:=Jqk (cs.take i)
  rw [List.length_take,Nat.min_eq_left h1,← hL] at hal
  refine stp ?_
  intro c g;cases c
  ·have g:=Jw g
   try dsimp only at g
   have hi:i=cs.length:=by omega
   subst hi
   rw [List.take_length] at hL
   have hR:JbK ⟨s,(k,n),cs⟩=some ⟨s,(k,n),JdP L⟩:=by
    unfold JbK
    dsimp only
    rw [Jyb h3,hL];rfl
   rw [hR]
   rcases md with _ | ⟨s1,cap,tl⟩
   ·obtain rfl:L= []:=h2
    refine stp ?_
    refine Ja rfl rfl (Juh 111) ⟨Rf,Rf,trivial⟩ fun nx2=> ?_
    refine stp ?_
    refine Ja rfl rfl JvV ⟨Rf,trivial⟩ fun nx2=> ?_
    refine stp ?_
    exact Jl rfl ⟨rfl,trivial⟩ (AVle.tups (cs:= [_,_]) ⟨AVle.ags (cs:= [_,_,_,_]) ⟨Rf,Rf,Rf,AVle.os_sl0,trivial⟩,Rf,trivial⟩)
   ·obtain ⟨q1,q2,q3⟩:=h2
    refine stp ?_
    refine Jf (xs:= [.hs (0,s1) 0 L.length cap,fn0 111]) [ruO nx s k n (.hs (0,s1) 0 L.length cap),ruZ nx] [] 4 rfl rfl rfl rfl ⟨Rf,Rf,trivial⟩ (Jqh 111 ltC Jqg Jui (fun _ _=> rfl) L.toArray tl L.length (by simp) Om s1 cap _) Bf Pf rfl fun r h' hq=> ?_
    obtain ⟨nx2,nn2,rfl⟩:=hq
    have hds:(Go.Sort.insertionSort ltC L.toArray 0 L.length).size=L.length:=by
     have:=(Go.Sort.insertionSort_holds (lt:=ltC) swo_ltC L.toArray 0 L.length (Nat.zero_le _) (by simp)).1.1
     simpa using this
    refine stp ?_
    refine Jf (xs:= [.hs (0,s1) 0 L.length cap]) [ruO nx s k n (.hs (0,s1) 0 L.length cap),ruZ nx] [] 4 rfl rfl rfl rfl ⟨Rf,trivial⟩ (Jr7 (Go.Sort.insertionSort ltC L.toArray 0 L.length) tl L.length hds Om Om s1 cap _ q2) Bf Pf rfl fun r h' hq=> ?_
    obtain ⟨tl2,nx3,nn3,rfl,rfl⟩:=hq
    have hcl:(JdP L).length≤cap:=Nat.le_trans (Juj _ _) q2
    refine Jy ?_
    refine Ja7 (n:=47) (nx:=nx3) (nn:=4) (pm:= []) (bx:= [ruZ nx]) (L:= [(2, .bp (1,nx+1) 0),(4, .rp [JJ s,int k,int n,Jbi (JdP L)])]) (df:=some []) [((2,nx+2), .c [JJ s,int k,int n, .hs (0,s1) 0 (JdP L).length cap]),((0,s1), .c (Jag eC (JdP L).toArray tl2))] rfl rfl rfl (.cons _ (.swap _ _ _)) Sf ⟨Frz.refl _,(Frz.bp (.head _) rfl).trans (Frz.rp ⟨Frz.refl _,Frz.refl _,Frz.refl _,JgC Jb8 (fun _=> rfl) rfl (.tail _ (.head _)) hcl,trivial⟩),trivial⟩ ?_
    refine stp ?_
    exact Jl rfl ⟨rfl,trivial⟩ Rf
  ·have g:=Jv g
   try dsimp only at g
   have hi:i < cs.length:=by omega
   have hcs:=Jvz (cs.getD i cnd0) (Jql hok hi)
   have ha:=JvZ hi
   have hnv:JdH (cs.getD i cnd0)=decide ((Jar (cs.getD i cnd0)).2=2):=rfl
   have hak0:=JvY (c:=cs.getD i cnd0)
   have hak1:=Jqj (c:=cs.getD i cnd0)
   generalize Jar (cs.getD i cnd0)=N at hcs hnv hak0 hak1
   obtain ⟨⟨qa,qo,qm,qv⟩,st⟩:=N
   dsimp only at hnv hak0 hak1
   refine stp ?_
   refine ⟨Bd, ?_⟩
   refine stp ?_
   refine Ja rfl rfl hcs ⟨Rf,trivial⟩ fun nx2=> ?_
   refine stp ?_
   intro c g2;cases c
   ·have g2:st≠2:=fun h=> by subst h;cases g2
    rw [decide_eq_false g2] at hnv
    have h3':∀j,j < i+1→JdH (cs.getD j cnd0)=false:=fun j hj=> by
     rcases Nat.lt_or_ge j i with q | q
     ·exact h3 j q
     ·rw [show j=i by omega];exact hnv
    refine stp ?_
    intro c g3;cases c
    ·have g3:st≠0:=fun h=> by subst h;cases g3
     rw [hak1 g3,← hL] at ha
     refine stp ?_
     exact back (i + 1, L, md, _) ⟨hi, ha.symm.trans (List.append_nil _).symm |>.symm |> (fun e => by simpa using ha.symm), h2, h3'⟩ Dm (Jc (bx := ruB nx s k n L md) _ _ rfl rfl (.cons _ (.cons _ Sf)) Sf Bf trivial ⟨Rf, Rf, Rf, Rf, Lw, trivial⟩)
    ·have g3:st=0:=by
      by_cases h:st=0
      ·exact h
      ·exfalso
       have:((st:Int) ==0)=false:=beq_eq_false_iff_ne.2 Om
       exact absurd (g3.trans this) Dc
     rw [hak0 g3,← hL] at ha
     have ha:L++ [⟨qa,qo,qm,qv⟩]=Jck (cs.take (i+1)):=ha.symm
     rcases md with _ | ⟨s1,cap,tl⟩
     ·obtain rfl:L= []:=h2
      refine Jy ?_
      refine JE (fun i=> match i with | 0=> true | _=> false) 5 ?_
      refine stp ?_
      refine Je6 (m:=1) rfl rfl (.inr ⟨_,rfl⟩) Tryz.underlying86 Jv0 c_cnd.symm Dc (JM rfl) (by rw [Jv1];omega) Om fun ncap hcap=> ?_
      refine stp ?_
      exact back (i+1, [⟨qa,qo,qm,qv⟩],some (nx2+1,ncap,List.replicate ((ncap - 1) * 4) .any),nx2+1+1) ⟨hi,ha,⟨Nat.le_refl _,hcap,by simp;omega⟩,h3'⟩ Dm (Jav (pm:= []) (bx:= [ruO nx s k n (.hs (0,nx2+1) 0 1 ncap),ruZ nx,((0,nx2+1), .c (Jag eC #[⟨qa,qo,qm,qv⟩] (List.replicate ((ncap - 1) * 4) .any)))]) _ [ruO nx s k n (.hs (6,nx2+1) 0 1 ncap),ruZ nx,((6,nx2+1), .c (eC ⟨qa,qo,qm,qv⟩++List.replicate ((ncap - 1) * Tryz.prog.cellsOf 150) .any))] [] rfl rfl (List.perm_append_singleton _ _) (.cons _ (.cons _ (.cons_cons _ (.cons_cons _ (.cons_cons _ .slnil))))) .slnil ⟨rfl,⟨Rf,Rf,Rf,AVle.hs_nm rfl,trivial⟩,rfl,OwnLe.refl _,rfl,Jqi (congrArg Own.c JzT),trivial⟩ trivial ⟨Rf,Rf,Rf,Rf,Lw,trivial⟩)
     ·obtain ⟨q1,q2,q3⟩:=h2
      refine Jy ?_
      refine JE (fun i=> match i with | 0=> true | _=> false) 5 ?_
      refine stp ?_
      refine Jfz (m:=1) (szx:=4) (n:=L.length) (cap:=cap) (cs:=Jag eC L.toArray tl) (i:=(0,s1)) rfl rfl (.inr ⟨_,rfl⟩) Tryz.underlying86 Jv0 (.inr c_cnd.symm) (by rfl) q2 (by rw [c_cnd,Jih Jb8];simpa using q3) (JM rfl) (fun _=> by rw [Jv1];omega) (fun _=> by omega) (fun hm=> absurd hm Dc) (fun hm hfit=> ?_) (fun hm hfit ncap hcap=> ?_)
      ·refine stp ?_
       (conv=> whnf)
       refine back (i+1,L++ [(⟨qa,qo,qm,qv⟩:Cnd)],some (s1,cap,tl.drop 4),nx2+1) ?_ Dm ?_
       ·exact ⟨hi,ha,⟨by simp,by simpa using hfit,by simp;omega⟩,h3'⟩
       ·exact (Jc (pm:= []) (bx:= [ruO nx s k n (.hs (0,s1) 0 (L++ [(⟨qa,qo,qm,qv⟩:Cnd)]).length cap),ruZ nx,((0,s1), .c (Jag eC (L++ [(⟨qa,qo,qm,qv⟩:Cnd)]).toArray (tl.drop 4)))]) [ruO nx s k n (.hs (0,s1) 0 (L.length+1) cap),ruZ nx,((0,s1), .c (J5 (Jag eC L.toArray tl) (L.length * Tryz.prog.cellsOf 150) (eC ⟨qa,qo,qm,qv⟩)))] [] rfl rfl (.cons _ (.cons _ (.cons_cons _ (.cons_cons _ (.cons_cons _ .slnil))))) .slnil (JA8 (Jv2 rfl) (Jul (tl:=tl) (by have:=hfit;omega))) trivial ⟨Rf,Rf,Rf,Rf,Lw,trivial⟩)
      ·refine stp ?_
       (conv=> whnf)
       refine back (i+1,L++ [(⟨qa,qo,qm,qv⟩:Cnd)],some (nx2+1,ncap,List.replicate ((ncap - (L.length+1)) * 4) .any),nx2+1+1) ?_ Dm ?_
       ·exact ⟨hi,ha,⟨by simp,by simpa using hcap,by simp;omega⟩,h3'⟩
       ·exact (Jav (pm:= []) (bx:= [ruO nx s k n (.hs (0,nx2+1) 0 (L++ [(⟨qa,qo,qm,qv⟩:Cnd)]).length ncap),ruZ nx,((0,nx2+1), .c (Jag eC (L++ [(⟨qa,qo,qm,qv⟩:Cnd)]).toArray (List.replicate ((ncap - (L.length+1)) * 4) .any)))]) _ [ruO nx s k n (.hs (6,nx2+1) 0 (L.length+1) ncap),ruZ nx,((6,nx2+1), .c ((Jag eC L.toArray tl).take (L.length * Tryz.prog.cellsOf 150)++eC ⟨qa,qo,qm,qv⟩++List.replicate ((ncap - (L.length+1)) * Tryz.prog.cellsOf 150) .any))] [] rfl rfl (List.perm_append_singleton _ _) (.cons _ (.cons _ (.cons_cons _ (.cons_cons _ (.cons _ (.cons_cons _ .slnil)))))) .slnil ⟨rfl,⟨Rf,Rf,Rf,Jv2 rfl,trivial⟩,rfl,OwnLe.refl _,rfl,Jqi (congrArg Own.c Jyc),trivial⟩ trivial ⟨Rf,Rf,Rf,Rf,Lw,trivial⟩)
   ·have g2:st=2:=by
     by_cases h:st=2
     ·exact h
     ·exfalso
      have:((st:Int) ==2)=false:=beq_eq_false_iff_ne.2 Om
      exact absurd (g2.trans this) Dc
    have hR:JbK ⟨s,(k,n),cs⟩=none:=by
     unfold JbK
     dsimp only
     rw [JA7 hi (by rw [hnv];exact decide_eq_true g2)];rfl
    rw [hR]
    rcases md with _ | ⟨s1,cap,tl⟩
    all_goals
     refine stp ?_
     exact Jl rfl ⟨rfl,trivial⟩ (AVle.tups (cs:= [_,_]) ⟨AVle.ags (cs:= [_,_,_,_]) ⟨Rf,Rf,Rf,AVle.os_sl0,trivial⟩,Rf,trivial⟩)
end Go.Proofs.W

namespace Go.Proofs.W
open Go.Vl
set_option maxRecDepth 100000
def JlX (r:Rul):List AV:= [JJ r.name,int r.act.1,int r.act.2,Jbi r.conds]
theorem Jv3 (l:List Rul) (p:Rul→Bool) (f:Nat) (n:Rul) (hl:l.length≤1000000000) (hp:∀i,i < l.length→Tells Tryz.prog f [JaF (l.getD i Jo), .rp (JlX n)] (Ji (p (l.getD i Jo)))):
 Tells Tryz.prog 59 [JK 4 JaF Jo l,(.fn (.func f) [] [.rp (JlX n)])] (int (JkI (l.findIdx? p))):=by
 refine Jd Tryz.func59 rfl rfl fun nx=> ?_
 refine stp ?_
 refine Js (fun s:Nat×Nat=> mk 19 [(0,JK 4 JaF Jo l),(1,(.fn (.func f) [] [.rp (JlX n)])),(7,int l.length),(8,int s.1)] ⟨[], [],s.2,0⟩) (fun s=> s.1≤l.length∧∀j,j < s.1→p (l.getD j Jo)=false) (fun s=> l.length - s.1) ?_ ?_
 ·exact ⟨(0,nx),⟨by simp,by intro j hj;simp at hj⟩,JaX rfl rfl ⟨Rf,Rf,Rf,Rf,trivial⟩⟩
 ·rintro ⟨i,nx⟩ ⟨h1,h2⟩
  dsimp only at h1 h2
  refine stp ?_
  intro c h3;cases c
  ·have h3:=Jw h3
   dsimp only at h3
   refine stp ?_
   refine Jb rfl (Jg ?_)
   rw [JgF Jo (fun j hj=> h2 j Om)];rfl
  ·have h3:=Jv h3
   dsimp only at h3
   have hi:i < l.length:=by omega
   refine stp ?_
   refine ⟨⟨by dsimp only;omega,by dsimp only;omega⟩, ?_⟩
   refine stp ?_
   refine Ja rfl rfl (hp i hi) ⟨Rf,Rf,trivial⟩ fun nx'=> ?_
   intro c h4;cases c
   ·refine stp ?_
    refine back (i+1,nx') ⟨by dsimp only;omega,fun j hj=> ?_⟩ Dm (JaX rfl rfl ⟨Rf,Rf,Rf,Jg (Jz Dm),trivial⟩)
    dsimp only at hj
    rcases Nat.lt_or_ge j i with h | h
    ·exact h2 j h
    ·obtain rfl:j=i:=by omega
     exact h4.symm
   ·refine stp ?_
    refine Jb rfl (Jg ?_)
    rw [Jjc Jo hi h2 h4.symm];rfl
theorem Jv4 (l:List Rul) (p:Rul→Bool) (f:Nat) (n:Rul) (hl:l.length≤1000000000) (hp:∀i,i < l.length→Tells Tryz.prog f [JaF (l.getD i Jo), .rp (JlX n)] (Ji (p (l.getD i Jo)))):
 Tells Tryz.prog 98 [JK 4 JaF Jo l,(.fn (.func f) [] [.rp (JlX n)])] (Ji (l.any p)):=by
 refine Jd Tryz.func98 rfl rfl fun nx=> ?_
 refine stp ?_
 refine Ja rfl rfl (Jv3 l p f n hl hp) ⟨Rf,Rf,trivial⟩ fun nx'=> ?_
 refine stp ?_
 intro c h;cases c
 all_goals
  refine stp ?_
  refine Jb rfl (JP ?_)
  rw [h,← List.findIdx?_isSome]
  exact JfA _
def JkV (n x:Rul):Bool:=decide (x.conds= [])|| decide (x.conds=n.conds)
def JgP (l:List Rul) (n:Rul):Bool:=l.any (JkV n)
theorem Jv5 (x n:Rul) (hx:x.conds.length≤1000000):Tells Tryz.prog 113 [JaF x, .rp [JJ n.name,int n.act.1,int n.act.2,Jbi n.conds]] (Ji (JkV n x)):=by
 refine Jd Tryz.func113 rfl rfl fun nx=> ?_
 by_cases h:x.conds= []
 ·have e:JkV n x=true:=by unfold JkV;rw [h];rfl
  rw [e]
  refine stp ?_
  intro c hc
  have hc2:c=true:=hc.trans (beq_iff_eq.2 (congrArg (fun l:List Cnd=> Int.ofNat l.length) h))
  clear hc;subst hc2
  refine stp ?_
  exact Jb rfl Rf
 ·have e:JkV n x=decide (x.conds=n.conds):=by unfold JkV;rw [decide_eq_false h];rfl
  rw [e]
  refine stp ?_
  intro c hc
  have hne:¬Int.ofNat x.conds.length=0:=fun hh=> h (List.eq_nil_of_length_eq_zero (Int.ofNat.inj hh))
  have hc2:c=false:=hc.trans (beq_eq_false_iff_ne.2 hne)
  clear hc;subst hc2
  refine stp ?_
  refine Ja rfl rfl (Jr3 x.conds n.conds hx) ⟨Rf,Rf,trivial⟩ fun nx2=> ?_
  intro c h9;cases c
  all_goals
   refine stp ?_
   exact Jb rfl (JP h9)
theorem Jkl (l:List Rul) (n:Rul) (hl:l.length≤1000000) (hc:∀r∈l,r.conds.length≤1000000):Tells Tryz.prog 63 [Jaj l,JaF n] (Ji (JgP l n)):=by
 refine Jd Tryz.func63 rfl rfl fun nx=> ?_
 (refine Jy ?_;refine JQ ?_;refine Jy ?_)
 refine AW.le (Jcq (L:= [(0,Jaj l),(3, .rp [JJ n.name,int n.act.1,int n.act.2,Jbi n.conds])]) (bx:= []) (pm:= []) (nn:=1) [((0,nx), .c [JJ n.name,int n.act.1,int n.act.2,Jbi n.conds])] rfl rfl Sf .slnil ⟨Frz.refl _,Frz.bp (.head _) rfl,trivial⟩) ?_
 refine stp ?_
 refine Ja rfl rfl (Jv4 l (JkV n) 113 n Om (fun i hi=> Jv5 _ _ (hc _ (by simp [List.getD,hi])))) ⟨Rf,Rf,trivial⟩ fun nx2=> ?_
 intro c h9;cases c
 all_goals
  refine stp ?_
  exact Jb rfl (JP h9)
end Go.Proofs.W

namespace Go.Proofs
open Go.Shelf
shelf_lay_g SlLaysM.n6 Slgm 6 at Tryz 106 as Tryz.laysM6k16
end Go.Proofs
namespace Go.Proofs.W
open Go.Vl Go.Shelf
set_option maxRecDepth 100000
theorem Jr9 (es:List (Value×AV)) (hky:∀p∈es,∃z,p.1= .string z):Jel Tryz.prog 116 [] [.rp [.fm es]] (fun v:Value=> [.v v]) (fun xs=> xs.Perm (es.map (·.1))):=by
 intro i σ Cb Cp I J hc s0 nx nn h0
 refine ECall.wk (Jn Tryz.func116 rfl rfl ?_)
 refine Jy ?_
 refine JE (fun n=> match n with | 0=> true | _=> false) 2 ?_
 refine stp ?_
 refine Jie rfl Tryz.underlying159 rfl ?_
 refine stp ?_
 refine Js (fun y:List Nat×σ×Nat=> mk 14 [(0, .yl i),(5, .bp (nn,nx) 0)] ⟨((nn,nx), .it es y.1)::Cb y.2.1,Cp y.2.1,y.2.2,nn+1⟩) (fun y=> y.1.Nodup∧(∀j∈y.1,j < es.length)∧I (y.1.map (JbJ es)) y.2.1) (fun y=> es.length - y.1.length) ?_ ?_
 ·exact ⟨([],s0,nx+1),⟨List.nodup_nil,(fun j (h:j∈ [])=> by cases h),h0⟩,Et rfl rfl ⟨rfl,OwnLe.refl _,Bf⟩ Pf ⟨Rf,Rf,trivial⟩⟩
 ·rintro ⟨seen,s,nx1⟩ ⟨h1,h2,h3⟩
  dsimp only at h1 h2 h3
  refine Jy ?_
  refine JE (fun n=> match n with | 0=> true | _=> false) 1 ?_
  refine Ji5 (i:=(nn,nx)) (es:=es) (seen:=seen) (R:=Cb s) rfl rfl rfl (fun k p hk hn=> ?_) (fun hall=> ?_)
  ·obtain ⟨z,hz⟩:=hky p (List.mem_of_getElem? hk)
   obtain ⟨key,val⟩:=p
   dsimp only at hz
   subst hz
   have hk2:k < es.length:=(List.getElem?_eq_some_iff.1 hk).1
   have hka:JbJ es k= .string z:=Jio hk
   obtain ⟨post,hperm⟩:=Ji6 h1 h2 hk2 hn
   have hS:(seen.map (JbJ es)++(.string z)::post.map (JbJ es)).Perm (es.map (·.1)):=by
    rw [← JeX,← hka]
    simpa using hperm.map (JbJ es)
   have hlen:=hperm.length_eq
   have hnd:(seen++ [k]).Nodup:=by
    rw [List.nodup_append]
    exact ⟨h1,by simp,fun a ha b hb hab=> by rw [List.mem_singleton] at hb;subst hb;subst hab;exact hn ha⟩
   have hlt:∀j∈seen++ [k],j < es.length:=fun j hj=> by
    rcases List.mem_append.1 hj with h | h
    ·exact h2 j h
    ·rw [List.mem_singleton] at h;omega
   have hmk:(seen++ [k]).map (JbJ es)=seen.map (JbJ es)++ [.string z]:=by rw [List.map_append,← hka];rfl
   have hlen2:seen.length < es.length:=by simp at hlen;omega
   refine Jy ?_
   refine JE (fun n=> match n with | 0=> true | _=> false) 1 ?_
   refine Jif (i:=(nn,nx)) (seen:=seen) (k:=k) (R:=Cb s) rfl rfl rfl hk ?_
   refine Jy ?_
   refine JE (fun n=> match n with | 0=> true | _=> false) 3 ?_
   refine stp ?_
   refine Jd5 [((nn,nx), .it es (seen++ [k]))] [] rfl rfl rfl (hc _ hS) rfl h3 ⟨Rf,trivial⟩ (fun s' nx' hI=> ?_) (fun s' nx' hJ=> ?_)
   ·refine stp ?_
    exact back (seen++ [k],s',nx') ⟨hnd,hlt,by dsimp only;rw [hmk];exact hI⟩ (by simp;omega) (Et rfl rfl Bf Pf ⟨Rf,Rf,trivial⟩)
   ·refine stp ?_
    exact Jr rfl ⟨_,⟨Cb s',Cp s',nx',nn⟩,Rf,Jq _ _ rfl (.cons _ Sf) Sf Bf Pf,_,s',hS, .inr ⟨_,_,_,rfl,hJ⟩,rfl,rfl⟩
  ·refine stp ?_
   refine Jr rfl ⟨_,⟨Cb s,Cp s,nx1,nn⟩,Rf,Jq _ _ rfl (.cons _ Sf) Sf Bf Pf,_,s, ?_, .inl h3,rfl,rfl⟩
   rw [← JeX]
   exact (Ji7 h1 h2 hall).map _
def Jc4 (l:List Value) (k:Nat):AV:= .v (l.getD k (.bool false))
theorem Jyd:Tryz.prog.bytesOf 9=16:=by kernel_rfl
theorem JlY (es:List (Value×AV)):Tells Tryz.prog 65 [.fm es] (.fn (.func 116) [] [.rp [.fm es]]):=by
 refine Jd Tryz.func65 rfl rfl fun nx=> ?_
 (repeat ((conv=>whnf);first|refine ω0 ?_|refine ω1 ?_|refine ω2 ?_|refine ω3 ?_|refine ω4 rfl ?_|refine ω5 rfl ?_|refine ω6 ?_|refine ω7 ?_|refine ⟨rfl,?_⟩|refine ⟨trivial,?_⟩|refine ⟨⟨rfl,Nat.le_of_ble_eq_true rfl⟩,?_⟩|refine ⟨⟨by kernel_rfl,by kernel_rfl⟩,?_⟩|refine ⟨by decide,?_⟩|refine Jde ?_|refine JcR ?_))
 refine AW.le (Jcq (L:= [(2, .fn (.func 116) [] [.rp [.fm es]])]) (bx:= []) (pm:= []) (nn:=1) [((0,nx), .c [.fm es])] rfl rfl Sf .slnil ⟨Frz.fn trivial ⟨Frz.bp (.head _) rfl,trivial⟩,trivial⟩) ?_
 refine stp ?_
 exact Jb rfl Rf
set_option maxHeartbeats 1000000 in
theorem JkW {it:FuncId} {es:List (Value×AV)} {S:List Value→Prop} (hit:Jel Tryz.prog it [] [.rp [.fm es]] (fun v:Value=> [.v v]) S) (hS:∀xs,S xs→xs.length≤1000000∧∀v∈xs,∃z,v= .string z) (nx:Nat):
 ECall Tryz.prog 174 [.os 0 0 (fun _=> .any) none, .fn (.func it) [] [.rp [.fm es]]] ⟨[], [],nx,0⟩ fun r h'=> ∃xs oi nx' nn',S xs∧(oi=none→xs= [])∧r= .os 1 xs.length (Jc4 xs) oi∧h'=⟨[],Jac oi (xs.length * 1),nx',nn'⟩:=by
 refine ECall.wk (Jn Tryz.func174 rfl rfl ?_)
 refine stp ?_
 refine AW.le (E':=mk 13 [(2, .bp (0,nx) 0),(6, .fn (.func it) [] [.rp [.fm es]])] ⟨[((0,nx), .c [.os 1 0 (Jc4 []) none])], [],nx+1,1⟩) ?_ ?_
 ·exact Jc _ _ rfl rfl Sf .slnil ⟨rfl,⟨AVle.os_nil,trivial⟩,trivial⟩ trivial ⟨Rf,Rf,trivial⟩
 refine JmE (σ:=Nat×(Nat→AV)×Option Vl.Id) (α:=Value) (e:=fun v=> [.v v]) (S:=S) (first':= []) (caps':= [.rp [.fm es]]) (fun x=> [((0,nx), .c [.os 1 x.1 x.2.1 x.2.2])]) (fun x=> Jac x.2.2 (x.1 * 1)) (fun pre x=> x.1=pre.length∧(∀k,k < x.1→x.2.1 k=Jc4 pre k)∧(x.2.2=none→pre= [])) (0,Jc4 [],none) rfl rfl hit (LeL.refl _) (LeL.refl _) rfl rfl ⟨rfl,fun _ _=> rfl,fun _=> rfl⟩ (fun _=> rfl) ?_ ?_
 ·rintro pre x post ⟨n,f,oi⟩ nx3 nn3 hx ⟨hp,hf,ho⟩
  dsimp only at hp hf ho
  subst hp
  obtain ⟨hlen,hty⟩:=hS _ hx
  obtain ⟨z,rfl⟩:=hty x (by simp)
  simp at hlen
  refine Jy ?_
  refine JQ ?_
  refine Jy ?_
  refine JE (fun n=> match n with | 0=> true | _=> false) 4 ?_
  refine stp ?_
  refine JdK (e:=9) (c:=1) (pm:= []) (n:=pre.length) (oi:=oi) (sz:=1) (f:=f) rfl rfl (.inr ⟨_,rfl⟩) (by kernel_rfl) (by kernel_rfl) (by kernel_rfl) (.inr rfl) (by kernel_rfl) (List.append_nil _).symm (JM rfl) (by rw [Jyd];omega) Om ?_
  refine stp ?_
  refine ⟨(pre.length+1,_,some (nn3,nx3)), .inl ⟨rfl,by simp,fun k hk=> ?_,fun h=> by cases h⟩,rfl,rfl⟩
  refine Jbh (fun k hk=> ?_) ?_ k hk
  ·rw [hf k hk];simp [Jc4,List.getD,List.getElem?_append_left hk,hk]
  ·simp [Jc4,List.getD];rfl
 ·rintro xs ⟨n,f,oi⟩ nx3 nn3 hx ⟨hp,hf,ho⟩
  dsimp only at hp hf ho
  subst hp
  refine stp ?_
  refine Jr rfl ⟨.os 1 xs.length (Jc4 xs) oi,⟨[],Jac oi (xs.length * 1),nx3,0⟩,AVle.os_fun hf, ?_,xs,oi,nx3,0,hx,ho,rfl,rfl⟩
  exact Jq [] _ rfl (List.nil_sublist _) Sf trivial Pf
theorem JmT (es:List (Value×AV)) (hl:es.length≤1000000) (hky:∀p∈es,∃z,p.1= .string z) (nx:Nat):
 ECall Tryz.prog 115 [.fn (.func 116) [] [.rp [.fm es]]] ⟨[], [],nx,0⟩ (JoU (fun n f=> ∃xs:List Value,xs.Perm (es.map (·.1))∧n=xs.length∧∀k,k < n→f k=Jc4 xs k) 1):=by
 refine Jig Dc (fun n f ⟨xs,_,_,hf⟩ k hk c hc=> ?_) ?_
 ·rw [hf k hk] at hc
  obtain rfl:c=Jc4 xs k:=by simpa [Jc4,AV.cells] using hc
  exact Flat.v _
 refine ECall.wk (Jn Tryz.func115 rfl rfl ?_)
 refine stp ?_
 refine JbN rfl rfl (ECall.args (bs:= [.os 0 0 (fun _=> .any) none, .fn (.func 116) [] [.rp [.fm es]]]) ⟨Rf,Rf,trivial⟩ (JkW (Jr9 es hky) (fun xs hx=> ⟨by have:=hx.length_eq;simp at this;omega,fun v hv=> ?_⟩) nx)) fun r h' hq=> ?_
 ·obtain ⟨p,hp,rfl⟩:=List.mem_map.1 (hx.mem_iff.1 hv)
  exact hky p hp
 obtain ⟨xs,oi,nx',nn',hS,ho,rfl,rfl⟩:=hq
 refine Named.same ?_
 refine stp ?_
 exact Jr rfl ⟨_,_,Rf,HLe.refl _,xs.length,Jc4 xs,oi,nx',_,⟨xs,hS,rfl,fun _ _=> rfl⟩,(fun h=> by rw [ho h];rfl),rfl,rfl⟩
def Jc9 (z:List UInt8):AV:= .v (encStr z)
def JhA (s:Nat) (d:Array (List UInt8)) (tl:List AV):List (Vl.Id×Own):= [((0,s), .c (JaS Jc9 d tl))]
theorem JlZ (l:List (List UInt8)):l.mergeSort (fun x y=> decide (x≤y))=JV Go.Sort.ltStr l:=by
 unfold JV
 congr 1
 funext x y
 simp only [Go.Sort.ltStr]
 by_cases h:x≤y
 ·rw [decide_eq_true h,decide_eq_false (List.not_lt.2 h)];rfl
 ·rw [decide_eq_false h,decide_eq_true (List.not_le.1 h)];rfl
theorem Jjp:∀x y:List UInt8,Go.Sort.ltStr x y=false→Go.Sort.ltStr y x=false→x=y:=fun x y h1 h2=> by
 simp only [Go.Sort.ltStr,decide_eq_false_iff_not,List.not_lt] at h1 h2
 exact List.le_antisymm h2 h1
theorem Jqm (d0:Array (List UInt8)) (tl:List AV) (n:Nat) (hn:d0.size=n) (hsz:n≤1000000) (s cap nx:Nat):
 ECall Tryz.prog 106 [.hs (0,s) 0 n cap] ⟨JhA s d0 tl, [],nx,1⟩ (fun r h'=> ∃nx' nn',h'=⟨JhA s (JV Go.Sort.ltStr d0.toList).toArray tl, [],nx',nn'⟩):=by
 subst hn
 have h:=Jhs (P:=Tryz.prog) (enc:=encStr) (d:=d0) (d':=(JV Go.Sort.ltStr d0.toList).toArray) (tl:=tl) (nm:=0) (s:=s) (cap:=cap) (nx:=nx) (nn:=1) (f:=106) ⟨_,Tryz.func106,rfl,rfl⟩ (by simp [JaK]) (fun w blk hH hb=> by
  have k:=AnyM.slices_Sort_string Tryz.laysM6k16 blk 0 cap d0.toList w hH hb (by simp;omega)
  rw [JlZ] at k
  exact k)
 exact h.mono fun r h' ⟨_,h2⟩=> ⟨nx,1,h2⟩
theorem Jqn (F:Nat→AV):Tells Tryz.prog 106 [.os 1 0 F none] (.tup []):=
 Jht (nx:=0) ⟨_,Tryz.func106,rfl,rfl⟩ fun p cap w=> AnyM.slices_Sort_string_none Tryz.laysM6k16 p cap w
def Jl0:Value→List UInt8
 | .string z=> z.data.toList
 | _=> []
theorem JoF (es:List (Value×AV)) (zs:List (List UInt8)) (hz:es.map (·.1)=zs.map encStr) (hl:es.length≤1000000):
 Tells Tryz.prog 64 [.fn (.func 116) [] [.rp [.fm es]]] (JK 1 Jc9 [] (JV Go.Sort.ltStr zs)):=by
 have hky:∀p∈es,∃z,p.1=encStr z:=fun p hp=> by
  have:p.1∈zs.map encStr:=hz ▸ List.mem_map_of_mem hp
  obtain ⟨z,_,h⟩:=List.mem_map.1 this
  exact ⟨z,h.symm⟩
 refine Jd Tryz.func64 rfl rfl fun nx=> ?_
 refine stp ?_
 refine JbN rfl rfl (JmT es hl (fun p hp=> let ⟨z,h⟩:=hky p hp;⟨⟨z.toArray⟩,h⟩) nx) fun r h' hq=> ?_
 obtain ⟨n,f,⟨xs,hxp,hxn,hxf⟩,hq⟩:=hq
 obtain ⟨ys,rfl⟩:∃ys:List (List UInt8),xs=ys.map encStr:=by
  have hall:∀v∈xs,∃z,v=encStr z:=fun v hv=> by
   have hv2:=hxp.mem_iff.1 hv
   rw [hz] at hv2
   obtain ⟨z,_,h⟩:=List.mem_map.1 hv2
   exact ⟨z,h.symm⟩
  clear hxp hxn hxf hq
  induction xs with
  | nil=> exact ⟨[],rfl⟩
  | cons x xs ih=>
    obtain ⟨z,rfl⟩:=hall x (by simp)
    obtain ⟨ys,rfl⟩:=ih fun v hv=> hall v (by simp [hv])
    exact ⟨z::ys,rfl⟩
 have hperm:ys.Perm zs:=by
  rw [hz] at hxp
  have h2:=hxp.map Jl0
  rwa [List.map_map,List.map_map,show (Jl0∘encStr)=id from rfl,List.map_id,List.map_id] at h2
 have hsz:n≤1000000:=by
  have:=hxp.length_eq
  simp at this
  rw [hxn];simp;omega
 rcases hq with ⟨rfl,hb,hp,rfl⟩ | ⟨s,cap,more,nx',nn',hcap,hmore,rfl,rfl⟩
 ·have hys:ys= []:=by cases ys with | nil=> rfl | cons y ys=> simp at hxn
  subst hys
  have hzs:zs= []:=hperm.symm.eq_nil
  subst hzs
  rw [show JV Go.Sort.ltStr ([]:List (List UInt8))= [] from List.eq_nil_of_length_eq_zero JaK]
  obtain ⟨bx,pm,nxx,nnn⟩:=h'
  dsimp only at hb hp
  subst hb;subst hp
  refine Named.same ?_
  refine stp ?_
  refine Ja rfl rfl (Jqn f) ⟨Rf,trivial⟩ fun nx2=> ?_
  refine stp ?_
  exact Jb rfl AVle.os_sl0
 ·refine Named.same ?_
  have hcells:JC n f=ys.toArray.toList.map Jc9:=by
   have key:∀m,m≤n→JC m f=(ys.take m).map Jc9:=by
    intro m
    induction m with
    | zero=> intro _;rfl
    | succ m ih=>
      intro hm
      have hm':m < ys.length:=by simp at hxn;omega
      have e:JC (m+1) f=JC m f++(f m).cells:=by unfold JC;rw [List.range_succ,List.flatMap_append];simp
      rw [e,ih Om,hxf m Om,List.take_add_one,List.map_append]
      simp [Jc4,List.getD,hm',AV.cells,Jc9]
   rw [key n (Nat.le_refl _),List.take_of_length_le (by simp at hxn;omega)]
  have hnn:ys.toArray.size=n:=by simp at hxn;simp [hxn]
  rw [hcells]
  refine Jy ?_
  refine AW.le (E':=mk 9 [(3, .hs (0,s) 0 n cap)] ⟨JhA s ys.toArray (List.replicate more .any), [],nx',1⟩) (Jc _ _ rfl rfl Sf .slnil Bf trivial ⟨Rf,trivial⟩) ?_
  refine stp ?_
  refine Jf (xs:= [.hs (0,s) 0 n cap]) [] [] 1 rfl rfl rfl rfl ⟨Rf,trivial⟩ (Jqm ys.toArray _ n hnn hsz s cap _) Bf Pf rfl fun r h' hq=> ?_
  obtain ⟨nx2,nn2,rfl⟩:=hq
  have hd:(JV Go.Sort.ltStr ys.toArray.toList).toArray.toList=JV Go.Sort.ltStr zs:=by
   show JV Go.Sort.ltStr ys=_
   exact Jeq Go.Sort.swo_ltStr Jjp hperm
  generalize (JV Go.Sort.ltStr ys.toArray.toList).toArray=d' at hd⊢
  have hdn:d'.size=n:=by
   rw [← Array.length_toList,hd,JaK,← hperm.length_eq]
   simpa using hnn
  have hln:(JV Go.Sort.ltStr zs).length=n:=by rw [← hd];simpa using hdn
  refine Jy ?_
  refine AW.le (Jcq (L:= [(3,JK 1 Jc9 [] (JV Go.Sort.ltStr zs))]) (bx:= []) (pm:= []) (nn:=1) [((0,s), .c (JaS Jc9 d' (List.replicate more .any)))] rfl rfl Sf .slnil ⟨?_,trivial⟩) ?_
  ·unfold JK
   rw [hln]
   refine Frz.hs1 (.head _) hcap (by rw [Jfi];omega) (fun k _=> rfl) (fun k hk=> ?_)
   unfold JaS
   rw [List.getElem?_append_left (by simpa [hdn] using hk),List.getElem?_map,← hd]
   have:k < d'.size:=by omega
   simp [List.getD,this]
  ·refine stp ?_
   exact Jb rfl Rf
end Go.Proofs.W

namespace Go.Proofs.W
open Go.Vl
set_option maxRecDepth 100000
def Jao (s t:ByteArray):Bool:=s.toList ==t.toList
theorem Jds {s t:ByteArray}:Jao s t=true↔s=t:=by
 unfold Jao
 rw [beq_iff_eq,Lib.toList_data,Lib.toList_data]
 constructor
 ·intro h
  obtain ⟨⟨a⟩⟩:=s
  obtain ⟨⟨b⟩⟩:=t
  simpa using h
 ·rintro rfl;rfl
def JbR:List (ByteArray×List Rul)→ByteArray→List Rul
 | [],_=> []
 | h::H,s=> if Jao s h.1 then h.2 else JbR H s
def JdQ:List (ByteArray×List Rul)→ByteArray→Rul→List (ByteArray×List Rul)
 | [],s,n=> [(s, [n])]
 | h::H,s,n=> if Jao s h.1 then (h.1,h.2++ [n])::H else h::JdQ H s n
def JdD (H:List (ByteArray×List Rul)) (r:Rul):List (ByteArray×List Rul):=
 match JbK r with
 | none=> H
 | some n=> if JgP (JbR H r.name) n then H else JdQ H r.name n
def JaV (rs:List Rul):List (ByteArray×List Rul):=rs.foldl JdD []
theorem JoG {rs:List Rul} {i:Nat} (h:i < rs.length):JaV (rs.take (i+1))=JdD (JaV (rs.take i)) (rs.getD i Jo):=by
 unfold JaV;rw [JaG Jo h,List.foldl_append];rfl
def Jby (R:List Rul) (k:Nat):AV:=JaF (R.getD k Jo)
abbrev Grp:=ByteArray×List Rul×Nat
def gE (g:Grp):Value×AV:=(.string g.1, .os 4 g.2.1.length (Jby g.2.1) (some (g.2.2,g.2.2)))
def gF (g:Grp):Value×AV:=(.string g.1,Jaj g.2.1)
def gP (g:Grp):Vl.Id×Nat:=((g.2.2,g.2.2),g.2.1.length * 4)
def JcM (G:List Grp):List (ByteArray×List Rul):=G.map fun g=> (g.1,g.2.1)
theorem JhR (G:List Grp):JaR .string (G.map gE)=true:=by simp [JaR,gE,JaW]
theorem JA9 (G:List Grp):JaR .string (G.map gF)=true:=by simp [JaR,gF,JaW]
theorem Jl1 {s:ByteArray} {e:Grp→Value×AV} (he:∀g,(e g).1= .string g.1):∀ {G:List Grp},(∀g∈G,Jao s g.1=false)→Ja0 (.string s) (G.map e)=none
 | [],_=> rfl
 | g::G,h=> by
   have h0:(s.toList ==g.1.toList)=false:=h g (.head _)
   show (bif JcB (.string s) (e g).1 then _ else Ja0 (.string s) (G.map e))=none
   rw [he g]
   show (bif s.toList ==g.1.toList then _ else Ja0 (.string s) (G.map e))=none
   rw [h0]
   exact Jl1 he fun g' hg=> h g' (.tail _ hg)
theorem JkX {s:ByteArray} {e:Grp→Value×AV} (he:∀g,(e g).1= .string g.1) {l:List Rul} {st:Nat} {G2:List Grp}:∀ {G1:List Grp},(∀g∈G1,Jao s g.1=false)→Ja0 (.string s) ((G1++(s,l,st)::G2).map e)=some (e (s,l,st)).2
 | [],_=> by
   show (bif JcB (.string s) (e (s,l,st)).1 then _ else _)=_
   rw [he]
   show (bif s.toList ==s.toList then _ else _)=_
   rw [beq_self_eq_true];rfl
 | g::G,h=> by
   have h0:(s.toList ==g.1.toList)=false:=h g (.head _)
   show (bif JcB (.string s) (e g).1 then _ else Ja0 (.string s) ((G++(s,l,st)::G2).map e))=_
   rw [he g]
   show (bif s.toList ==g.1.toList then _ else _)=_
   rw [h0]
   exact JkX he fun g' hg=> h g' (.tail _ hg)
theorem JeW {s:ByteArray} {v:AV}:∀ {G:List Grp},(∀g∈G,Jao s g.1=false)→Jct (.string s) v (G.map gE)=G.map gE++ [(.string s,v)]
 | [],_=> rfl
 | g::G,h=> by
   have h0:(s.toList ==g.1.toList)=false:=h g (.head _)
   show (bif s.toList ==g.1.toList then _ else gE g::Jct (.string s) v (G.map gE))=_
   rw [h0,JeW fun g' hg=> h g' (.tail _ hg)];rfl
theorem Js6 {s:ByteArray} {v:AV} {l:List Rul} {st:Nat} {G2:List Grp}:∀ {G1:List Grp},(∀g∈G1,Jao s g.1=false)→Jct (.string s) v ((G1++(s,l,st)::G2).map gE)=G1.map gE++(.string s,v)::G2.map gE
 | [],_=> by
   show (bif s.toList ==s.toList then _ else _)=_
   rw [beq_self_eq_true];rfl
 | g::G,h=> by
   have h0:(s.toList ==g.1.toList)=false:=h g (.head _)
   show (bif s.toList ==g.1.toList then _ else gE g::Jct (.string s) v ((G++(s,l,st)::G2).map gE))=_
   rw [h0,Js6 fun g' hg=> h g' (.tail _ hg)];rfl
theorem JnY {s:ByteArray}:∀ {G:List Grp},(∀g∈G,Jao s g.1=false)→JbR (JcM G) s= []
 | [],_=> rfl
 | g::G,h=> by
   show (if Jao s g.1=true then _ else JbR (JcM G) s)=_
   rw [if_neg (by rw [h g (.head _)];decide)]
   exact JnY fun g' hg=> h g' (.tail _ hg)
theorem JmU {s:ByteArray} {l:List Rul} {st:Nat} {G2:List Grp}:∀ {G1:List Grp},(∀g∈G1,Jao s g.1=false)→JbR (JcM (G1++(s,l,st)::G2)) s=l
 | [],_=> if_pos (Jds.2 rfl)
 | g::G,h=> by
   show (if Jao s g.1=true then _ else JbR (JcM (G++_)) s)=_
   rw [if_neg (by rw [h g (.head _)];decide)]
   exact JmU fun g' hg=> h g' (.tail _ hg)
theorem JnZ {s:ByteArray} {n:Rul} {st:Nat}:∀ {G:List Grp},(∀g∈G,Jao s g.1=false)→JdQ (JcM G) s n=JcM (G++ [(s, [n],st)])
 | [],_=> rfl
 | g::G,h=> by
   show (if Jao s g.1=true then _ else _::JdQ (JcM G) s n)=_
   rw [if_neg (by rw [h g (.head _)];decide),JnZ (st:=st) fun g' hg=> h g' (.tail _ hg)];rfl
theorem Js7 {s:ByteArray} {n:Rul} {l:List Rul} {st st':Nat} {G2:List Grp}:∀ {G1:List Grp},(∀g∈G1,Jao s g.1=false)→JdQ (JcM (G1++(s,l,st)::G2)) s n=JcM (G1++(s,l++ [n],st')::G2)
 | [],_=> if_pos (Jds.2 rfl)
 | g::G,h=> by
   show (if Jao s g.1=true then _ else _::JdQ (JcM (G++(s,l,st)::G2)) s n)=_
   rw [if_neg (by rw [h g (.head _)];decide),Js7 (st':=st') fun g' hg=> h g' (.tail _ hg)];rfl
theorem Jjq (s:ByteArray):∀(G:List Grp),(∀g∈G,Jao s g.1=false)∨∃G1 l st G2,G=G1++(s,l,st)::G2∧∀g∈G1,Jao s g.1=false
 | []=> .inl (by simp)
 | g::G=> by
   cases hk:Jao s g.1 with
   | true=>
     obtain ⟨t,l,st⟩:=g
     obtain rfl:s=t:=Jds.1 hk
     exact .inr ⟨[],l,st,G,rfl,by simp⟩
   | false=>
     rcases Jjq s G with h | ⟨G1,l,st,G2,rfl,h⟩
     ·exact .inl fun g' hg=> by rcases List.mem_cons.1 hg with rfl | hg;exact hk;exact h g' hg
     ·exact .inr ⟨g::G1,l,st,G2,rfl,fun g' hg=> by rcases List.mem_cons.1 hg with rfl | hg;exact hk;exact h g' hg⟩
theorem Jl2 {s:ByteArray} {l:List Rul} {st:Nat} {G2:List Grp}:∀ {G1:List Grp},((G1++(s,l,st)::G2).map (·.2.2)).Nodup→Ja3 st ((G1++(s,l,st)::G2).map gP)=some (st,l.length * 4)
 | [],_=> by
   show (bif Nat.beq st st then _ else _)=_
   rw [Nat.beq_refl];rfl
 | g::G,h=> by
   simp only [List.cons_append,List.map_cons,List.nodup_cons] at h
   have h0:Nat.beq g.2.2 st=false:=by
    cases hb:Nat.beq g.2.2 st with
    | false=> rfl
    | true=> exact absurd (by simp [Nat.eq_of_beq_eq_true hb]) h.1
   show (bif Nat.beq g.2.2 st then _ else Ja3 st ((G++(s,l,st)::G2).map gP))=_
   rw [h0]
   exact Jl2 h.2
theorem Jjr {s:ByteArray} {l:List Rul} {st:Nat} {G2:List Grp}:∀ {G1:List Grp},((G1++(s,l,st)::G2).map (·.2.2)).Nodup→Jbz st ((G1++(s,l,st)::G2).map gP)=(G1++G2).map gP
 | [],_=> by
   show (bif Nat.beq st st then _ else _)=_
   rw [Nat.beq_refl];rfl
 | g::G,h=> by
   simp only [List.cons_append,List.map_cons,List.nodup_cons] at h
   have h0:Nat.beq g.2.2 st=false:=by
    cases hb:Nat.beq g.2.2 st with
    | false=> rfl
    | true=> exact absurd (by simp [Nat.eq_of_beq_eq_true hb]) h.1
   show (bif Nat.beq g.2.2 st then _ else gP g::Jbz st ((G++(s,l,st)::G2).map gP))=_
   rw [h0,Jjr h.2];rfl
theorem MpLe.appK16:∀ {a b c d:List (Value×AV)},MpLe a b→MpLe c d→MpLe (a++c) (b++d)
 | [], [],_,_,_,h=> h
 | _::_,_::_,_,_,h,k=> ⟨h.1,h.2.1,MpLe.appK16 h.2.2 k⟩
 | [],_::_,_,_,h,_=> h.elim
 | _::_, [],_,_,h,_=> h.elim
theorem JzU {s:ByteArray} {n:Rul} {st:Nat} {v:AV} {G:List Grp} (h:∀g∈G,Jao s g.1=false) (hv:AVle v (.os 4 1 (Jby [n]) (some (st,st)))):OwnLe (.mp (Jct (.string s) v (G.map gE))) (.mp ((G++ [(s, [n],st)]).map gE)):=by
 rw [JeW h,List.map_append]
 exact MpLe.appK16 (MpLe.refl _) ⟨rfl,hv,trivial⟩
theorem JBT {s:ByteArray} {l l':List Rul} {st st':Nat} {v:AV} {G1 G2:List Grp} (h:∀g∈G1,Jao s g.1=false) (hv:AVle v (.os 4 l'.length (Jby l') (some (st',st')))):OwnLe (.mp (Jct (.string s) v ((G1++(s,l,st)::G2).map gE))) (.mp ((G1++(s,l',st')::G2).map gE)):=by
 rw [Js6 h,List.map_append]
 exact MpLe.appK16 (MpLe.refl _) ⟨rfl,hv,MpLe.refl _⟩
theorem Jv6:∀(G:List Grp),MpLe (G.map gE) (G.map gF)
 | []=> trivial
 | g::G=> ⟨rfl,AVle.os_sl,Jv6 G⟩
theorem Jye {P:Program} {c:Code} {E:Env} {Q:AExit→Env→Prop} (h:(E.h.pm.map (·.1.2)).Nodup→AW P c E Q):AW P c E Q:=by
 have h2:=h
 unfold AW at h2⊢
 intro ro X M w0 a w g g0 hg hs
 refine h2 ?_ ro X M w0 a w g g0 hg hs
 have:=hs.hok.nodup
 unfold Heap.ids at this
 rw [List.map_append] at this
 have h3:=(List.nodup_append.1 this).2.1
 have:((E.h.pm.map (·.1.2)).map (fun i=> g[i]?)).Nodup:=h3
 exact (List.pairwise_map.1 this).imp fun h e=> h (congrArg (fun i=> g[i]?) e)
theorem Jn0 {E:Env} {n:Nat} {bx:List (Vl.Id×Own)} {pm pm':List (Vl.Id×Nat)} {nx nn:Nat} {L:List (Nat×AV)} (bx':List (Vl.Id×Own)) (hn:E.n=n) (hx:E.h.nx=nx) (hb:bx'.Sublist E.h.bx) (hp:E.h.pm=pm') (hq:(pm.map (fun p=> (p.1.2,p.2))).Perm (pm'.map (fun p=> (p.1.2,p.2))))
 (eb:BxLe bx' bx) (hL:LeT E.t L):ELe E (mk n L ⟨bx,pm,nx,nn⟩ E.df):=by
 subst hp
 refine ELe.trans (Jc (bx:=bx) (pm:=E.h.pm) (nn:=nn) (L:=L) bx' E.h.pm hn hx hb Sf eb Pf hL) ?_
 exact Jdx (E:=mk n L ⟨bx,E.h.pm,nx,nn⟩ E.df) (h':=⟨bx,pm,nx,nn⟩) ⟨.refl _,hq,rfl⟩
theorem Js8 {L:List Rul} {c:Rul} {f':Nat→AV} {i j:Vl.Id} (hf:f' 0=JaF c:=by rfl) (h:i.2=j.2:=by rfl):AVle (.os 4 (L.length+1) (Jcu L.length (Jby L) f') (some i)) (.os 4 (L++ [c]).length (Jby (L++ [c])) (some j)):=by
 rw [List.length_append]
 refine (AVle.os_fun (Jbh (fun k hk=> ?_) ?_)).trans (AVle.os_nm h)
 ·simp [Jby,List.getD,List.getElem?_append_left hk,hk]
 ·rw [hf];simp [Jby,List.getD]
end Go.Proofs.W

namespace Go.Proofs.W
open Go.Vl
set_option maxRecDepth 100000
def Jec (d:A2) (l:List Rul):List Rul:=(l.reverse.dropWhile fun r=> decide (r.act=d)).reverse
def JfM (H:List (ByteArray×List Rul)):List (List UInt8):=JV Go.Sort.ltStr (H.map fun h=> h.1.data.toList)
def Jiw (d:A2) (H:List (ByteArray×List Rul)) (N:List (List UInt8)):List Rul:=N.flatMap fun nm=> Jec d (JbR H ⟨nm.toArray⟩)
def Jh (p:Pol):Pol:=⟨p.dflt,p.x32,Jiw p.dflt (JaV p.rules) (JfM (JaV p.rules))⟩
def JCi:Pol:=⟨(0,0),false, []⟩
def JoY (p:Pol):AV:=if Jb7 p then .tup [Jc0 (Jh p),int 0] else .tup [Jc0 JCi,int 13]
theorem Jv7 {d:A2} {l:List Rul} {r:Rul}:Jec d (l++ [r])=if r.act=d then Jec d l else l++ [r]:=by
 unfold Jec
 rw [List.reverse_append]
 show (List.dropWhile _ (r::l.reverse)).reverse=_
 by_cases h:r.act=d
 ·rw [List.dropWhile_cons,if_pos (by simpa using h),if_pos h]
 ·rw [List.dropWhile_cons,if_neg (by simpa using h),if_neg h];simp
theorem Jn1 {l:List Rul} {m:Nat} (h0:0 < m) (h:m≤l.length):l.take m=l.take (m - 1)++ [l.getD (m - 1) Jo]:=by
 obtain ⟨k,rfl⟩:∃k,m=k+1:=⟨m - 1,by omega⟩
 exact JaG Jo Om
def JeH:List AV:= [int 0,int 0,Ji false, .os 0 0 (fun _=> .any) none]
def JfX (p:Pol):List AV:= [int p.dflt.1,int p.dflt.2,Ji p.x32,Jaj p.rules]
theorem Jcz {p:Pol} (h:Jb7 p=true):p.rules.length≤500∧∀r∈p.rules,r.conds.length≤6:=by
 unfold Jb7 at h
 simp only [Bool.and_eq_true,decide_eq_true_eq,Bool.not_eq_true',List.any_eq_false] at h
 refine ⟨h.2.1,fun r hr=> ?_⟩
 have:Jax r=true:=by have:=h.2.2 r hr;simpa using this
 unfold Jax at this
 simp only [Bool.and_eq_true,decide_eq_true_eq] at this
 exact this.2.2.1
theorem Jdg {r n:Rul} (h:JbK r=some n):n.conds.length≤r.conds.length∧n.name=r.name∧n.act=r.act:=by
 unfold JbK at h
 split at h
 ·cases h
 ·cases h
  exact ⟨Nat.le_trans (Juj _ _) (Jqk _),rfl,rfl⟩
theorem JhS:Jbv Tryz.prog 93=true:=by kernel_rfl
theorem gc_rul:Tryz.prog.cellsOf 93=4:=by kernel_rfl
theorem JhT:Tryz.prog.bytesOf 93=56:=by kernel_rfl
theorem JzV {s:ByteArray} {l:List Rul} {n:Rul} {st st' nm:Nat} {G1 G2:List Grp} (hnd:((G1++(s,l,st)::G2).map (·.2.2)).Nodup):
 (((G1++(s,l++ [n],st')::G2).map gP).map (fun p=> (p.1.2,p.2))).Perm ((((nm,st'),(l.length+1) * Tryz.prog.cellsOf 93)::Jbz st ((G1++(s,l,st)::G2).map gP)).map (fun p=> (p.1.2,p.2))):=by
 rw [Jjr hnd,gc_rul,List.map_append,List.map_cons,List.map_append,List.map_append,List.map_cons,List.map_cons,List.map_append]
 refine List.perm_middle.trans (.of_eq ?_)
 simp [gP]
theorem JjV (r:Rul):(JaF r).cells.all JbZ=true:=rfl
theorem JjW {R l:List Rul} {m:Nat} {i j:Vl.Id} (hm:m≤l.length) (h:i.2=j.2):AVle (.os 4 (R.length+m) (Jcu R.length (Jby R) (Jby l)) (some i)) (.os 4 (R++l.take m).length (Jby (R++l.take m)) (some j)):=by
 rw [List.length_append,List.length_take,Nat.min_eq_left hm]
 refine (AVle.os_fun (fun k hk=> ?_)).trans (AVle.os_nm h)
 unfold Jcu
 by_cases hk2:k < R.length
 ·rw [show Nat.blt k R.length=true from Nat.ble_eq_true_of_le hk2]
  simp [Jby,List.getD,List.getElem?_append_left hk2]
 ·rw [show Nat.blt k R.length=false from by cases hb:Nat.blt k R.length with | false=> rfl | true=> exact absurd (Nat.le_of_ble_eq_true hb) Om]
  simp only [Jby,List.getD,cond_false]
  rw [List.getElem?_append_right Om,List.getElem?_take,if_pos Om]
theorem JfN {a b c d:List Rul} (h:a=b) (k:c=d):a++c=b++d:=by rw [h,k]
theorem Jdu {a b:AV} {K:AV→Prop} (h:a=b) (hk:Jdn b K):Jdn a K:=h ▸ hk
set_option maxHeartbeats 8000000 in
theorem JoH (p:Pol) (hp:p.ok):Tells Tryz.prog 19 [Jc0 p] (JoY p):=by
 have hr:=Jkh p hp
 cases hb:Jb7 p with
 | false=>
   rw [hb] at hr
   unfold JoY
   rw [hb,if_neg Dc]
   refine Jd Tryz.func19 rfl rfl fun nx=> ?_
   refine stp ?_
   refine Ja rfl rfl hr ⟨Rf,trivial⟩ fun nx2=> ?_
   refine stp ?_
   exact Jl rfl ⟨rfl,trivial⟩ (AVle.tups (cs:= [_,_]) ⟨AVle.ags (cs:= [_,_,_,_]) ⟨Rf,Rf,Rf,AVle.os_sl0,trivial⟩,Rf,trivial⟩)
 | true=>
   rw [hb] at hr
   obtain ⟨hl,hc6⟩:=Jcz hb
   unfold JoY
   rw [hb,if_pos rfl]
   refine Jd Tryz.func19 rfl rfl fun nx=> ?_
   refine stp ?_
   refine Ja rfl rfl hr ⟨Rf,trivial⟩ fun nx2=> ?_
   refine stp ?_
   refine Js (fun y:Nat×List Grp×Nat=> mk 94 [(1, .bp (0,nx) 0),(2, .bp (1,nx+1) 0),(4, .om (2,nx2)),(19,Jaj p.rules),(20,int p.rules.length),(21,int y.1)] ⟨[((2,nx2), .mp (y.2.1.map gE)),((1,nx+1), .c JeH),((0,nx), .c (JfX p))],y.2.1.map gP,y.2.2,3⟩)
    (fun y=> y.1≤p.rules.length∧JcM y.2.1=JaV (p.rules.take y.1)∧y.2.1.length≤y.1∧∀g∈y.2.1,g.2.1.length≤y.1∧∀r∈g.2.1,r.conds.length≤6) (fun y=> p.rules.length - y.1) ?_ ?_
   ·exact ⟨(0, [],nx2+1),⟨Nat.zero_le _,rfl,Nat.le_refl _,by simp⟩,Et rfl rfl Bf trivial ⟨Rf,Rf,Rf,Rf,Rf,Rf,trivial⟩⟩
   ·rintro ⟨i,G,nx3⟩ ⟨h1,h2,h3,h4⟩
    dsimp only at h1 h2 h3 h4
    refine stp ?_
    intro c g;cases c
    ·have g:=Jw g
     try dsimp only at g
     have hi:i=p.rules.length:=by omega
     subst hi
     rw [List.take_length] at h2
     refine Jy ?_
     refine AW.le (E':=mk 94 [(1, .bp (0,nx) 0),(2, .bp (1,nx+1) 0),(4, .om (2,nx2))] ⟨[((2,nx2), .mp (G.map gF)),((1,nx+1), .c JeH),((0,nx), .c (JfX p))], [],nx3,3⟩) (Jc _ [] rfl rfl Sf (List.nil_sublist _) ⟨rfl,Jv6 G,Bf⟩ trivial ⟨Rf,Rf,Rf,trivial⟩) ?_
     refine Ja7 (n:=94) (nx:=nx3) (nn:=3) (pm:= []) (bx:= [((1,nx+1), .c JeH),((0,nx), .c (JfX p))]) (L:= [(1, .bp (0,nx) 0),(2, .bp (1,nx+1) 0),(4, .fm (G.map gF))]) (df:=some []) [((2,nx2), .mp (G.map gF))] rfl rfl rfl (.refl _) Sf ⟨Frz.refl _,Frz.refl _,Frz.om (.head _),trivial⟩ ?_
     have hzs:(G.map gF).map (·.1)=(G.map fun g:Grp=> g.1.data.toList).map encStr:=by
      rw [List.map_map,List.map_map];rfl
     have hsort:=JoF (G.map gF) (G.map fun g:Grp=> g.1.data.toList) hzs (by rw [List.length_map];omega)
     have hkeys:JfM (JaV p.rules)=JV Go.Sort.ltStr (G.map fun g:Grp=> g.1.data.toList):=by
      rw [← h2];unfold JfM JcM;rw [List.map_map];rfl
     have hNl:(JV Go.Sort.ltStr (G.map fun g:Grp=> g.1.data.toList)).length≤500:=by rw [JaK,List.length_map];omega
     have hNm:∀z,z∈JV Go.Sort.ltStr (G.map fun g:Grp=> g.1.data.toList)→∃g∈G,g.1.data.toList=z:=fun z hz=> by
      rw [JlG] at hz
      obtain ⟨g,hg,h⟩:=List.mem_map.1 hz
      exact ⟨g,hg,h⟩
     unfold Jh
     rw [hkeys,← h2]
     generalize JV Go.Sort.ltStr (G.map fun g:Grp=> g.1.data.toList)=N at hsort hNl hNm⊢
     refine stp ?_
     intro c hc
     subst hc
     refine stp ?_
     refine Ja rfl rfl (JlY (G.map gF)) ⟨Rf,trivial⟩ fun nx4=> ?_
     refine stp ?_
     refine Ja rfl rfl hsort ⟨Rf,trivial⟩ fun nx5=> ?_
     refine stp ?_
     refine Js (fun y:Nat×List Rul×Option Nat×Nat=> mk 94 [(1, .bp (0,nx) 0),(2, .bp (1,nx+1) 0),(4, .fm (G.map gF)),(9, .bp (3,nx3) 0),(58,JK 1 Jc9 [] N),(59,int N.length),(60,int y.1)] ⟨[((3,nx3), .c [int p.dflt.1,int p.dflt.2,Ji p.x32, .os 4 y.2.1.length (Jby y.2.1) (nmd y.2.2.1)]),((1,nx+1), .c JeH),((0,nx), .c (JfX p))],Jac (nmd y.2.2.1) (y.2.1.length * 4),y.2.2.2,4⟩)
      (fun y=> y.1≤N.length∧(y.2.2.1=none→y.2.1= [])∧y.2.1=Jiw p.dflt (JcM G) (N.take y.1)∧y.2.1.length≤y.1 * 500) (fun y=> N.length - y.1) ?_ ?_
     ·exact ⟨(0, [],none,nx5),⟨Nat.zero_le _,fun _=> rfl,rfl,Nat.zero_le _⟩,Et (pm:= []) (bx:= [((3,nx3), .c [int p.dflt.1,int p.dflt.2,Ji p.x32, .os 4 0 (Jby []) none]),((1,nx+1), .c JeH),((0,nx), .c (JfX p))]) rfl rfl ⟨rfl,⟨Rf,Rf,Rf,AVle.os_nil,trivial⟩,Bf⟩ trivial ⟨Rf,Rf,Rf,Rf,Rf,Rf,Rf,trivial⟩⟩
     ·rintro ⟨j,R,oi,nx6⟩ ⟨k1,k2,k3,k4⟩
      dsimp only at k1 k2 k3 k4
      refine stp ?_
      intro c gg;cases c
      ·have gg:=Jw gg
       try dsimp only at gg
       have hj:j=N.length:=by omega
       subst hj
       rw [List.take_length] at k3
       rw [← k3]
       refine stp ?_
       exact Jl rfl ⟨rfl,trivial⟩ (AVle.tups (cs:= [_,_]) ⟨AVle.ags (cs:= [_,_,_,_]) ⟨Rf,Rf,Rf,AVle.os_sl,trivial⟩,Rf,trivial⟩)
      ·have gg:=Jv gg
       try dsimp only at gg
       have hj:j < N.length:=by omega
       have hNj:N.getD j []∈N:=by simp [List.getD,hj]
       rcases Jjq ⟨(N.getD j []).toArray⟩ G with hno | ⟨G1,l,st,G2,hG,hno⟩
       ·exfalso
        obtain ⟨g,hg,hge⟩:=hNm _ hNj
        have:=hno g hg
        rw [Bool.eq_false_iff] at this
        exact this (Jds.2 (by rw [← hge]))
       have hlk:=JkX (e:=gF) (fun _=> rfl) (l:=l) (st:=st) (G2:=G2) hno
       have hgl:=(h4 (⟨(N.getD j []).toArray⟩,l,st) (by rw [hG];simp)).1
       dsimp only at hgl
       have hgg:JbR (JcM G) ⟨(N.getD j []).toArray⟩=l:=by rw [hG];exact JmU hno
       have hout:Jiw p.dflt (JcM G) (N.take (j+1))=Jiw p.dflt (JcM G) (N.take j)++Jec p.dflt l:=by
        unfold Jiw
        rw [JaG [] hj,List.flatMap_append]
        simp only [List.flatMap_cons,List.flatMap_nil,List.append_nil]
        rw [hgg]
       rw [← hG] at hlk
       refine stp ?_
       refine ⟨Bd, ?_⟩
       refine JaC ?_
       refine ⟨JA9 G,Jk (b:=Jaj l) (congrArg (fun o:Option AV=> o.getD (.os 0 0 (fun _=> .any) none)) hlk) ?_⟩
       refine JaC ?_
       refine Js (fun y:Nat×Nat=> mk 94 [(1, .bp (0,nx) 0),(2, .bp (1,nx+1) 0),(4, .fm (G.map gF)),(9, .bp (3,nx3) 0),(58,JK 1 Jc9 [] N),(59,int N.length),(60,int j),(12, .sl 4 y.1 (Jby l))] ⟨[((3,nx3), .c [int p.dflt.1,int p.dflt.2,Ji p.x32, .os 4 R.length (Jby R) (nmd oi)]),((1,nx+1), .c JeH),((0,nx), .c (JfX p))],Jac (nmd oi) (R.length * 4),nx6,4⟩)
        (fun y=> y.1≤l.length∧Jec p.dflt l=Jec p.dflt (l.take y.1)) (fun y=> y.1) ?_ ?_
       ·exact ⟨(l.length,0),⟨Nat.le_refl _,by rw [List.take_length]⟩,Et rfl rfl Bf Pf ⟨Rf,Rf,Rf,Rf,Rf,Rf,Rf,Rf,trivial⟩⟩
       ·rintro ⟨m,zz⟩ ⟨hml,hcut⟩
        dsimp only at hml hcut
        have hlm:(l.take m).length=m:=by rw [List.length_take];omega
        by_cases hm0:0 < m
        ·have hd:decide ((m:Int) > 0)=true:=decide_eq_true Om
         have hm1:IntKind.i64.wrap ((m:Int) - 1)=((m - 1:Nat):Int):=by rw [Ju Om Om];omega
         rw [Jn1 hm0 hml,Jv7] at hcut
         refine stp ?_
         (refine JH 15 ?_ ?_ ?_ ?_;(· kernel_rfl);(· kernel_rfl);(· kernel_rfl))
         refine stp ?_
         (conv=> whnf)
         refine JaE hd ?_
         refine stp ?_
         refine ⟨⟨JF (i:=m - 1) hm1,JG (i:=m - 1) hm1 Om⟩,Jk (b:= .rp (JaF (l.getD (m - 1) Jo)).cells) (congrArg (fun z:Int=> AV.rp (Jby l z.toNat).cells) hm1) ?_⟩
         refine stp ?_
         intro c hc
         have hc2:c=decide ((l.getD (m - 1) Jo).act=p.dflt):=hc.trans JzC
         clear hc
         cases c
         ·have hne:¬(l.getD (m - 1) Jo).act=p.dflt:=of_decide_eq_false hc2.symm
          rw [if_neg hne,← Jn1 hm0 hml] at hcut
          have hct:=hcut
          clear hc2
          refine Jy ?_
          refine JE (fun i=> match i with | 0=> true | _=> false) 4 ?_
          refine stp ?_
          rcases oi with _ | o1
          ·obtain rfl:=k2 rfl
           refine AOp.any (Jbs (e:=93) (n:=0) (oi:=none) (sz:=4) (f:=Jby []) (m:=m) (szx:=4) (f':=Jby l) rfl rfl (.inl rfl) Tryz.underlying45 JhS (.inl ⟨rfl,rfl⟩) (.inr gc_rul.symm) (fun i h=> by cases h) (fun k _=> JjV _) (fun _=> by rw [JhT];omega) (fun _=> by omega) (fun hm=> ?_) (fun hm=> ?_))
           ·subst hm
            refine stp ?_
            exact back (j+1, [],none,nx6) ⟨hj,fun _=> rfl,by rw [hout];exact (List.append_nil _).symm.trans (JfN k3 hct.symm),by dsimp only;omega⟩ Dm (Et rfl rfl Bf trivial ⟨Rf,Rf,Rf,Rf,Rf,Rf,Lw,trivial⟩)
           ·refine stp ?_
            exact back (j+1,l.take m,some nx6,nx6+1) ⟨hj,(fun h=> by cases h),by rw [hout];exact JfN k3 hct.symm,by dsimp only;rw [hlm];omega⟩ Dm (Et (pm:= [((0,nx6),(l.take m).length * 4)]) (bx:= [((3,nx3), .c [int p.dflt.1,int p.dflt.2,Ji p.x32, .os 4 (l.take m).length (Jby (l.take m)) (some (0,nx6))]),((1,nx+1), .c JeH),((0,nx), .c (JfX p))]) rfl rfl ⟨rfl,⟨Rf,Rf,Rf,JjW (R:= []) hml rfl,trivial⟩,Bf⟩ ⟨rfl,show (0+m) * Tryz.prog.cellsOf 93=(l.take m).length * 4 by rw [hlm,gc_rul,Nat.zero_add],trivial⟩ ⟨Rf,Rf,Rf,Rf,Rf,Rf,Lw,trivial⟩)
          ·refine AOp.any (Jbs (e:=93) (n:=R.length) (oi:=some (0,o1)) (sz:=4) (f:=Jby R) (m:=m) (szx:=4) (f':=Jby l) rfl rfl (.inl rfl) Tryz.underlying45 JhS (.inr gc_rul.symm) (.inr gc_rul.symm) (fun i h=> by cases h;rw [gc_rul];rfl) (fun k _=> JjV _) (fun _=> by rw [JhT];omega) (fun _=> by omega) (fun hm=> ?_) (fun hm=> ?_))
           ·subst hm
            refine stp ?_
            exact back (j+1,R,some o1,nx6) ⟨hj,(fun h=> by cases h),by rw [hout];exact (List.append_nil _).symm.trans (JfN k3 hct.symm),by dsimp only;omega⟩ Dm (Et rfl rfl Bf Pf ⟨Rf,Rf,Rf,Rf,Rf,Rf,Lw,trivial⟩)
           ·refine stp ?_
            exact back (j+1,R++l.take m,some nx6,nx6+1) ⟨hj,(fun h=> by cases h),by rw [hout];exact JfN k3 hct.symm,by dsimp only;rw [List.length_append,hlm];omega⟩ Dm (Et (pm:= [((0,nx6),(R++l.take m).length * 4)]) (bx:= [((3,nx3), .c [int p.dflt.1,int p.dflt.2,Ji p.x32, .os 4 (R++l.take m).length (Jby (R++l.take m)) (some (0,nx6))]),((1,nx+1), .c JeH),((0,nx), .c (JfX p))]) rfl rfl ⟨rfl,⟨Rf,Rf,Rf,JjW hml rfl,trivial⟩,Bf⟩ ⟨rfl,by rw [List.length_append,hlm,gc_rul],trivial⟩ ⟨Rf,Rf,Rf,Rf,Rf,Rf,Lw,trivial⟩)
         ·have heq:(l.getD (m - 1) Jo).act=p.dflt:=of_decide_eq_true hc2.symm
          rw [if_pos heq] at hcut
          clear hc2
          refine stp ?_
          refine ⟨⟨JF (i:=m - 1) hm1,Int.le_of_lt (JG (i:=m - 1) hm1 Om)⟩, ?_⟩
          refine stp ?_
          exact back (m - 1,0) ⟨by dsimp only;omega,hcut⟩ Dm (Et rfl rfl Bf Pf ⟨Rf,Rf,Rf,Rf,Rf,Rf,Rf,AVle.of_eq (congrArg (fun z:Int=> AV.sl 4 z.toNat (Jby l)) hm1),trivial⟩)
        ·have hd:decide ((m:Int) > 0)=false:=decide_eq_false Om
         have hm00:m=0:=by omega
         have hct:Jec p.dflt l=l.take m:=by rw [hcut,hm00];rfl
         refine stp ?_
         (refine JH 15 ?_ ?_ ?_ ?_;(· kernel_rfl);(· kernel_rfl);(· kernel_rfl))
         refine stp ?_
         (conv=> whnf)
         refine JaE hd ?_
         refine Jy ?_
         refine JE (fun i=> match i with | 0=> true | _=> false) 4 ?_
         refine stp ?_
         rcases oi with _ | o1
         ·obtain rfl:=k2 rfl
          refine AOp.any (Jbs (e:=93) (n:=0) (oi:=none) (sz:=4) (f:=Jby []) (m:=m) (szx:=4) (f':=Jby l) rfl rfl (.inl rfl) Tryz.underlying45 JhS (.inl ⟨rfl,rfl⟩) (.inr gc_rul.symm) (fun i h=> by cases h) (fun k _=> JjV _) (fun _=> by rw [JhT];omega) (fun _=> by omega) (fun hm=> ?_) (fun hm=> ?_))
          ·subst hm
           refine stp ?_
           exact back (j+1, [],none,nx6) ⟨hj,fun _=> rfl,by rw [hout];exact (List.append_nil _).symm.trans (JfN k3 hct.symm),by dsimp only;omega⟩ Dm (Et rfl rfl Bf trivial ⟨Rf,Rf,Rf,Rf,Rf,Rf,Lw,trivial⟩)
          ·refine stp ?_
           exact back (j+1,l.take m,some nx6,nx6+1) ⟨hj,(fun h=> by cases h),by rw [hout];exact JfN k3 hct.symm,by dsimp only;rw [hlm];omega⟩ Dm (Et (pm:= [((0,nx6),(l.take m).length * 4)]) (bx:= [((3,nx3), .c [int p.dflt.1,int p.dflt.2,Ji p.x32, .os 4 (l.take m).length (Jby (l.take m)) (some (0,nx6))]),((1,nx+1), .c JeH),((0,nx), .c (JfX p))]) rfl rfl ⟨rfl,⟨Rf,Rf,Rf,JjW (R:= []) hml rfl,trivial⟩,Bf⟩ ⟨rfl,show (0+m) * Tryz.prog.cellsOf 93=(l.take m).length * 4 by rw [hlm,gc_rul,Nat.zero_add],trivial⟩ ⟨Rf,Rf,Rf,Rf,Rf,Rf,Lw,trivial⟩)
         ·refine AOp.any (Jbs (e:=93) (n:=R.length) (oi:=some (0,o1)) (sz:=4) (f:=Jby R) (m:=m) (szx:=4) (f':=Jby l) rfl rfl (.inl rfl) Tryz.underlying45 JhS (.inr gc_rul.symm) (.inr gc_rul.symm) (fun i h=> by cases h;rw [gc_rul];rfl) (fun k _=> JjV _) (fun _=> by rw [JhT];omega) (fun _=> by omega) (fun hm=> ?_) (fun hm=> ?_))
          ·subst hm
           refine stp ?_
           exact back (j+1,R,some o1,nx6) ⟨hj,(fun h=> by cases h),by rw [hout];exact (List.append_nil _).symm.trans (JfN k3 hct.symm),by dsimp only;omega⟩ Dm (Et rfl rfl Bf Pf ⟨Rf,Rf,Rf,Rf,Rf,Rf,Lw,trivial⟩)
          ·refine stp ?_
           exact back (j+1,R++l.take m,some nx6,nx6+1) ⟨hj,(fun h=> by cases h),by rw [hout];exact JfN k3 hct.symm,by dsimp only;rw [List.length_append,hlm];omega⟩ Dm (Et (pm:= [((0,nx6),(R++l.take m).length * 4)]) (bx:= [((3,nx3), .c [int p.dflt.1,int p.dflt.2,Ji p.x32, .os 4 (R++l.take m).length (Jby (R++l.take m)) (some (0,nx6))]),((1,nx+1), .c JeH),((0,nx), .c (JfX p))]) rfl rfl ⟨rfl,⟨Rf,Rf,Rf,JjW hml rfl,trivial⟩,Bf⟩ ⟨rfl,by rw [List.length_append,hlm,gc_rul],trivial⟩ ⟨Rf,Rf,Rf,Rf,Rf,Rf,Lw,trivial⟩)
    ·have g:=Jv g
     try dsimp only at g
     have hi:i < p.rules.length:=by omega
     have hmem:p.rules.getD i Jo∈p.rules:=by simp [List.getD,hi]
     have hrs:=Jr8 (p.rules.getD i Jo) (hp.2 _ hmem).2.2 (by have:=hc6 _ hmem;omega)
     have hgn:=JoG hi
     have hnl:=hc6 _ hmem
     rw [← h2] at hgn
     refine Jye fun hnd=> ?_
     have hnd:(G.map (·.2.2)).Nodup:=by
      have:((G.map gP).map (·.1.2)).Nodup:=hnd
      rwa [List.map_map] at this
     refine stp ?_
     refine ⟨Bd, ?_⟩
     refine stp ?_
     cases hN:JbK (p.rules.getD i Jo) with
     | none=>
       rw [hN] at hrs
       have hgn:JaV (p.rules.take (i+1))=JcM G:=by rw [hgn];unfold JdD;rw [hN]
       refine Ja rfl rfl hrs ⟨Rf,trivial⟩ fun nx4=> ?_
       refine stp ?_
       exact back (i+1,G,nx4+1) ⟨hi,hgn.symm,by dsimp only;omega,fun g hg=> ⟨by have:=(h4 g hg).1;dsimp only;omega,(h4 g hg).2⟩⟩ Dm (Jc _ _ rfl rfl (.cons _ (.cons _ Sf)) Sf Bf Pf ⟨Rf,Rf,Rf,Rf,Rf,Lw,trivial⟩)
     | some n=>
       rw [hN] at hrs
       obtain ⟨hn1,hn2,hn3⟩:=Jdg hN
       rcases Jjq (p.rules.getD i Jo).name G with hno | ⟨G1,l,st,G2,hG,hno⟩
       ·have hgn:JaV (p.rules.take (i+1))=JdQ (JcM G) (p.rules.getD i Jo).name n:=by
         rw [hgn];unfold JdD;rw [hN]
         dsimp only
         rw [JnY hno];rfl
        have hlk:=Jl1 (e:=gE) (fun _=> rfl) hno
        have hhd:=Jkl [] n Dc (by simp)
        refine Ja rfl rfl hrs ⟨Rf,trivial⟩ fun nx4=> ?_
        refine JaC ?_
        refine ⟨⟨rfl,JhR G⟩,Jk (b:= .os 0 0 (fun _=> .any) none) (congrArg (fun o:Option AV=> o.getD (.os 0 0 (fun _=> .any) none)) hlk) ?_⟩
        refine JaC ?_
        refine Jk (b:=JaF n) rfl ?_
        refine JaC ?_
        refine Ja rfl rfl hhd ⟨AVle.os_sl0,Rf,trivial⟩ fun nx5=> ?_
        intro c hc
        have hc2:c=false:=hc
        clear hc;subst hc2
        refine JaC ?_
        refine Ja4 10 _ (fun i=> match i with | 9=> true | _=> false) (fun i=> match i with | 6=> true | _=> false) [0,1,2,3,4,5,6,7,8,9] (by kernel_rfl) (by kernel_rfl) (HB.refl _) ?_
        refine JaC ?_
        refine ⟨Jfw (Ja0 (.string (p.rules.getD i Jo).name) (G.map gE)) (.os 0 0 (fun _=> .any) none) false,Jic rfl (C:=some (nx2=nx2∧JaR .string (G.map gE)=true)) rfl ⟨rfl,JhR G⟩,Jdu (b:= .os 0 0 (fun _=> .any) none) (congrArg (fun o:Option AV=> o.getD (.os 0 0 (fun _=> .any) none)) hlk) ?_⟩
        refine JaC ?_
        refine Jdu (b:=JaF n) rfl ?_
        refine JaC ?_
        refine ⟨_,Jib (e:=93) (n:=0) (oi:=none) (sz:=0) (f:=fun _=> .any) (m:=1) (szx:=4) (HB.refl _) rfl rfl rfl (.inr ⟨_,rfl⟩) Tryz.underlying45 JhS (.inl ⟨rfl,rfl⟩) (.inr gc_rul.symm) (fun i h=> by cases h) (JM rfl) (fun _=> by rw [JhT];omega) (fun _=> by omega),fun r h' hr=> ?_⟩
        rcases hr with ⟨hr,-⟩ | ⟨-,rfl,rfl⟩
        ·exact absurd hr Dc
        refine JaC ?_
        refine ⟨⟨rfl,JhR G⟩, ?_⟩
        refine JaC ?_
        refine Jcw ?_
        refine JaC ?_
        exact back (i+1,G++ [((p.rules.getD i Jo).name, [n],nx5)],nx5+1) ⟨hi,(hgn.trans (JnZ hno)).symm,by simp;omega,fun g hg=> by
         rcases List.mem_append.1 hg with hg | hg
         ·exact ⟨by have:=(h4 g hg).1;dsimp only;omega,(h4 g hg).2⟩
         ·rw [List.mem_singleton.1 hg]
          exact ⟨by simp, fun r hr => by rw [List.mem_singleton.1 hr]; omega⟩⟩ Dm (Jn0 (bx := [((2, nx2), .mp ((G ++ [((p.rules.getD i Jo).name, [n], nx5)]).map gE)), ((1, nx + 1), .c JeH), ((0, nx), .c (JfX p))]) _ rfl rfl (.cons _ (.cons _ Sf)) rfl (by rw [List.map_append]; exact (List.perm_append_singleton _ _).map _ |>.trans (.of_eq (by rw [gc_rul]; rfl))) ⟨rfl, JzU hno (Js8 (L := [])), Bf⟩ ⟨Rf, Rf, Rf, Rf, Rf, Lw, trivial⟩)
       ·subst hG
        have hlk:=JkX (e:=gE) (fun _=> rfl) (l:=l) (st:=st) (G2:=G2) hno
        have hgl:=h4 ((p.rules.getD i Jo).name,l,st) (by simp)
        dsimp only at hgl
        have hhd:=Jkl l n Om (fun r hr=> by have:=hgl.2 r hr;omega)
        have hgg:JbR (JcM (G1++((p.rules.getD i Jo).name,l,st)::G2)) (p.rules.getD i Jo).name=l:=JmU hno
        unfold JdD at hgn
        rw [hN] at hgn
        dsimp only at hgn
        rw [hgg] at hgn
        refine Ja rfl rfl hrs ⟨Rf,trivial⟩ fun nx4=> ?_
        refine JaC ?_
        refine ⟨⟨rfl,JhR _⟩,Jk (b:= .os 4 l.length (Jby l) (some (st,st))) (congrArg (fun o:Option AV=> o.getD (.os 0 0 (fun _=> .any) none)) hlk) ?_⟩
        refine JaC ?_
        refine Jk (b:=JaF n) rfl ?_
        refine JaC ?_
        refine Ja rfl rfl hhd ⟨AVle.os_sl,Rf,trivial⟩ fun nx5=> ?_
        intro c hh;cases c
        ·have hh:JgP l n=false:=hh.symm
         rw [hh,if_neg Dc] at hgn
         refine JaC ?_
         refine Ja4 10 _ (fun i=> match i with | 9=> true | _=> false) (fun i=> match i with | 6=> true | _=> false) [0,1,2,3,4,5,6,7,8,9] (by kernel_rfl) (by kernel_rfl) (HB.refl _) ?_
         refine JaC ?_
         refine ⟨Jfw (Ja0 (.string (p.rules.getD i Jo).name) ((G1++((p.rules.getD i Jo).name,l,st)::G2).map gE)) (.os 0 0 (fun _=> .any) none) false,Jic rfl (C:=some (nx2=nx2∧JaR .string ((G1++((p.rules.getD i Jo).name,l,st)::G2).map gE)=true)) rfl ⟨rfl,JhR _⟩,Jdu (b:= .os 4 l.length (Jby l) (some (st,st))) (congrArg (fun o:Option AV=> o.getD (.os 0 0 (fun _=> .any) none)) hlk) ?_⟩
         refine JaC ?_
         refine Jdu (b:=JaF n) rfl ?_
         refine JaC ?_
         refine ⟨_,Jib (e:=93) (n:=l.length) (oi:=some (st,st)) (sz:=4) (f:=Jby l) (m:=1) (szx:=4) (HB.refl _) rfl rfl rfl (.inr ⟨_,rfl⟩) Tryz.underlying45 JhS (.inr gc_rul.symm) (.inr gc_rul.symm) (fun i h=> by cases h;rw [gc_rul];exact Jl2 hnd) (JM rfl) (fun _=> by rw [JhT];omega) (fun _=> by omega),fun r h' hr=> ?_⟩
         rcases hr with ⟨hr,-⟩ | ⟨-,rfl,rfl⟩
         ·exact absurd hr Dc
         refine JaC ?_
         refine ⟨⟨rfl,JhR _⟩, ?_⟩
         refine JaC ?_
         refine Jcw ?_
         refine JaC ?_
         exact back (i+1,G1++((p.rules.getD i Jo).name,l++ [n],nx5)::G2,nx5+1) ⟨hi,(hgn.trans (Js7 hno)).symm,by simp at h3⊢;omega,fun g hg=> by
          rcases List.mem_append.1 hg with hg | hg
          ·have:=h4 g (List.mem_append_left _ hg);exact ⟨by have:=this.1;dsimp only;omega,this.2⟩
          ·rcases List.mem_cons.1 hg with rfl | hg
           ·exact ⟨by simp;omega,fun r hr=> by
             rcases List.mem_append.1 hr with hr | hr
             ·exact hgl.2 r hr
             ·rw [List.mem_singleton.1 hr];omega⟩
           ·have:=h4 g (List.mem_append_right _ (.tail _ hg));exact ⟨by have:=this.1;dsimp only;omega,this.2⟩⟩ Dm (Jn0 (bx:= [((2,nx2), .mp ((G1++((p.rules.getD i Jo).name,l++ [n],nx5)::G2).map gE)),((1,nx+1), .c JeH),((0,nx), .c (JfX p))]) _ rfl rfl (.cons _ (.cons _ Sf)) rfl (JzV hnd) ⟨rfl,JBT hno Js8,Bf⟩ ⟨Rf,Rf,Rf,Rf,Rf,Lw,trivial⟩)
        ·have hh:JgP l n=true:=hh.symm
         rw [hh,if_pos rfl] at hgn
         refine JaC ?_
         exact back (i+1,G1++((p.rules.getD i Jo).name,l,st)::G2,nx5) ⟨hi,hgn.symm,by dsimp only;omega,fun g hg=> ⟨by have:=(h4 g hg).1;dsimp only;omega,(h4 g hg).2⟩⟩ Dm (Jc _ _ rfl rfl (.cons _ (.cons _ Sf)) Sf Bf Pf ⟨Rf,Rf,Rf,Rf,Rf,Lw,trivial⟩)
end Go.Proofs.W

namespace Go.Proofs.W
open Go.Vl
set_option maxRecDepth 100000
theorem Jsa (c:Cnd):(Jar c).2=0∨(Jar c).2=1∨(Jar c).2=2:=by
 unfold Jar JbW Jba JbV JdU isC asC
 repeat' split
 all_goals simp
theorem Jyf {c:Cnd} (ho:c.ok):(Jar c).1.ok:=by
 obtain ⟨o1,o2⟩:=ho
 unfold Jar JbW Jba JbV JdU isC asC cnd0 Cnd.ok
 repeat' split
 all_goals (refine ⟨?_, ?_⟩ <;> dsimp only <;> omega)
end Go.Proofs.W

namespace Go.Proofs.W
open Go.Vl
set_option maxRecDepth 100000
theorem Jn2 {α:Type} {R:α→α→Prop} (hi:∀x,¬R x x) (ht:∀x y z,R x y→R y z→R x z):∀ {l l':List α},l.Pairwise R→l'.Pairwise R→(∀x,x∈l↔x∈l')→l=l'
 | [], [],_,_,_=> rfl
 | [],y::l',_,_,h=> absurd ((h y).2 (.head _)) (by simp)
 | x::l, [],_,_,h=> absurd ((h x).1 (.head _)) (by simp)
 | x::l,y::l',h1,h2,h=> by
   rw [List.pairwise_cons] at h1 h2
   have hxy:x=y:=by
    rcases List.mem_cons.1 ((h x).1 (.head _)) with e | e
    ·exact e
    ·rcases List.mem_cons.1 ((h y).2 (.head _)) with e' | e'
     ·exact e'.symm
     ·exact absurd (ht _ _ _ (h1.1 _ e') (h2.1 _ e)) (hi x)
   subst hxy
   have hnx:∀ {m:List α},(∀z∈m,R x z)→x∉m:=fun hm hx=> hi x (hm x hx)
   rw [Jn2 hi ht h1.2 h2.2 fun z=> ?_]
   constructor
   ·intro hz
    rcases List.mem_cons.1 ((h z).1 (.tail _ hz)) with e | e
    ·subst e;exact absurd hz (hnx h1.1)
    ·exact e
   ·intro hz
    rcases List.mem_cons.1 ((h z).2 (.tail _ hz)) with e | e
    ·subst e;exact absurd hz (hnx h2.1)
    ·exact e
def RC (a b:Cnd):Prop:=ltC a b=true
theorem JBa (x:Cnd):¬RC x x:=by unfold RC;rw [swo_ltC.irrefl];decide
theorem JBU (x y z:Cnd) (h:RC x y) (k:RC y z):RC x z:=swo_ltC.trans x y z h k
theorem Js9 {d:Array Cnd}:∀ {m:Nat},m≤d.size→(∀i j,i < j→j < m→ltC d[j]! d[i]! =false)→(cU d m).Pairwise RC∧∀x,x∈cU d m↔∃j,j < m∧d[j]! =x
 | 0,_,_=> ⟨List.Pairwise.nil,fun x=> by simp [cU]⟩
 | m+1,hm,hs=> by
   obtain ⟨h1,h2⟩:=Js9 (m:=m) Om fun i j a b=> hs i j a Om
   by_cases hc:m=0∨d[m]! ≠d[m - 1]!
   ·rw [cU,if_pos hc]
    refine ⟨?_,fun x=> ?_⟩
    ·rw [List.pairwise_append]
     refine ⟨h1,List.pairwise_singleton _ _,fun a ha b hb=> ?_⟩
     rw [List.mem_singleton] at hb
     subst hb
     obtain ⟨j,hj,rfl⟩:=(h2 a).1 ha
     cases hlt:ltC d[j]! d[m]! with
     | true=> exact hlt
     | false=>
       exfalso
       have h3:=hs (m - 1) m Om Om
       have h4:ltC d[m - 1]! d[m]! =false:=by
        rcases Nat.lt_or_ge j (m - 1) with q | q
        ·exact swo_ltC.ntrans _ _ _ (hs j (m - 1) q Om) hlt
        ·rw [show m - 1=j by omega];exact hlt
       rcases hc with hc | hc
       ·omega
       ·exact hc (JzS h3 h4)
    ·rw [List.mem_append,h2,List.mem_singleton]
     constructor
     ·rintro (⟨j,hj,rfl⟩ | rfl)
      ·exact ⟨j,by omega,rfl⟩
      ·exact ⟨m,by omega,rfl⟩
     ·rintro ⟨j,hj,rfl⟩
      rcases Nat.lt_or_ge j m with q | q
      ·exact .inl ⟨j,q,rfl⟩
      ·exact .inr (by rw [show j=m by omega])
   ·rw [cU,if_neg hc]
    refine ⟨h1,fun x=> ?_⟩
    rw [h2]
    constructor
    ·rintro ⟨j,hj,rfl⟩;exact ⟨j,by omega,rfl⟩
    ·rintro ⟨j,hj,rfl⟩
     rcases Nat.lt_or_ge j m with q | q
     ·exact ⟨j,q,rfl⟩
     ·have hj':j=m:=by omega
      subst hj'
      have:j≠0:=fun h=> hc (.inl h)
      exact ⟨j - 1,by omega,by by_cases he:d[j]! =d[j - 1]!;exact he.symm;exact absurd (.inr he) hc⟩
theorem Jdv (L:List Cnd):(JdP L).Pairwise RC∧∀x,x∈JdP L↔x∈L:=by
 have h:=Go.Sort.insertionSort_holds (lt:=ltC) swo_ltC L.toArray 0 L.length (Nat.zero_le _) (by simp)
 have hsz:(Go.Sort.insertionSort ltC L.toArray 0 L.length).size=L.length:=by have:=h.1.1;simpa using this
 obtain ⟨h1,h2⟩:=Js9 (d:=Go.Sort.insertionSort ltC L.toArray 0 L.length) (m:=L.length) Om fun i j a b=> h.2 i j (Nat.zero_le _) a b
 refine ⟨h1,fun x=> (h2 x).trans ?_⟩
 have hp:=h.1.2.2.mem_iff (a:=x)
 clear h h1 h2
 generalize Go.Sort.insertionSort ltC L.toArray 0 L.length=d at hsz hp⊢
 have e1:(d.extract 0 L.length).toList=d.toList:=by rw [← hsz];simp
 have e2:(L.toArray.extract 0 L.length).toList=L:=by simp
 rw [e1,e2] at hp
 rw [← hp,List.mem_iff_getElem]
 constructor
 ·rintro ⟨j,hj,rfl⟩
  have hj':j < d.size:=by omega
  exact ⟨j,by simpa using hj',by simp [hj']⟩
 ·rintro ⟨j,hj,rfl⟩
  have hj':j < d.size:=by simpa using hj
  exact ⟨j,by omega,by simp [hj']⟩
theorem JzW {L L':List Cnd} (h:∀x,x∈L↔x∈L'):JdP L=JdP L':=
 Jn2 JBa JBU (Jdv L).1 (Jdv L').1 fun x=> ((Jdv L).2 x).trans ((h x).trans ((Jdv L').2 x).symm)
theorem Jv8 (L:List Cnd):JdP (JdP L)=JdP L:=JzW fun x=> (Jdv L).2 x
theorem Jed {arg:Int} {op:Int} {v:Nat} (h0:0≤arg) (h5:arg≤5) (h1:1≤op) (h7:op≤7):Jaa ⟨arg,op,0,v⟩=true:=Jaz.2 ⟨h0,h5,h1,h7, .inr rfl⟩
theorem JmV {arg:Int} {v:Nat} (h0:0≤arg) (h5:arg≤5):Jar ⟨arg,1,0,v⟩=(⟨arg,1,0,v⟩,0):=by
 unfold Jar;rw [if_pos (Jed h0 h5 Dc Dc)];simp [JbW]
theorem JzX {arg:Int} {v:Nat} (h0:0≤arg) (h5:arg≤5) (hv:¬v=0) (hv1:¬v=1):Jar ⟨arg,3,0,v⟩=(⟨arg,3,0,v⟩,0):=by
 unfold Jar;rw [if_pos (Jed h0 h5 Dc Dc)];simp [JbW,Jba,hv,hv1,asC]
theorem JzY {arg:Int} {v:Nat} (h0:0≤arg) (h5:arg≤5) (hv:¬v=0) (hv1:¬v=18446744073709551615):Jar ⟨arg,6,0,v⟩=(⟨arg,6,0,v⟩,0):=by
 unfold Jar;rw [if_pos (Jed h0 h5 Dc Dc)];simp [JbW,JbV,hv,hv1,asC]
theorem Jkm {c:Cnd} {v:Nat} (h0:0≤c.arg) (h5:c.arg≤5) (h:(Jba c v).2=0):Jaa (Jba c v).1=true∧Jar (Jba c v).1=((Jba c v).1,0):=by
 unfold Jba at h⊢
 by_cases e0:v=0
 ·rw [if_pos e0] at h;simp [isC] at h
 ·rw [if_neg e0] at h⊢
  by_cases e1:v=1
  ·rw [if_pos e1];exact ⟨Jed h0 h5 Dc Dc,JmV h0 h5⟩
  ·rw [if_neg e1];exact ⟨Jed h0 h5 Dc Dc,JzX h0 h5 e0 e1⟩
theorem Jl3 {c:Cnd} {v:Nat} (h0:0≤c.arg) (h5:c.arg≤5) (h:(JbV c v).2=0):Jaa (JbV c v).1=true∧Jar (JbV c v).1=((JbV c v).1,0):=by
 unfold JbV at h⊢
 by_cases e0:v=0
 ·rw [if_pos e0] at h;simp [isC] at h
 ·rw [if_neg e0] at h⊢
  by_cases e1:v=18446744073709551615
  ·rw [if_pos e1];exact ⟨Jed h0 h5 Dc Dc,JmV h0 h5⟩
  ·rw [if_neg e1];exact ⟨Jed h0 h5 Dc Dc,JzY h0 h5 e0 e1⟩
theorem Jsb {c:Cnd} (h:(Jar c).2=0):Jaa (Jar c).1=true∧Jar (Jar c).1=((Jar c).1,0):=by
 have hr:Jaa c=true:=by
  cases hr:Jaa c with
  | true=> rfl
  | false=>
    unfold Jar at h
    rw [hr,if_neg Dc] at h
    simp [isC] at h
 have hrc:=Jaz.1 hr
 have e:Jar c=JbW c:=if_pos hr
 by_cases e3:c.op=3
 ·have e2:JbW c=Jba c c.value:=if_pos e3
  rw [e,e2] at h⊢;exact Jkm hrc.1 hrc.2.1 h
 by_cases e6:c.op=6
 ·have e2:JbW c=JbV c c.value:=by unfold JbW;rw [if_neg e3,if_pos e6]
  rw [e,e2] at h⊢;exact Jl3 hrc.1 hrc.2.1 h
 by_cases e7:c.op=7
 ·have e2:JbW c=JdU c:=by unfold JbW;rw [if_neg e3,if_neg e6,if_pos e7]
  rw [e,e2] at h⊢
  unfold JdU at h⊢
  by_cases b0:Jhv c.value c.mask≠0
  ·rw [if_pos b0] at h;simp [isC] at h
  ·rw [if_neg b0] at h⊢
   by_cases b1:c.mask=0
   ·rw [if_pos b1] at h;simp [isC] at h
   ·rw [if_neg b1] at h⊢
    by_cases b2:c.mask=18446744073709551615
    ·rw [if_pos b2];exact ⟨Jed hrc.1 hrc.2.1 Dc Dc,JmV hrc.1 hrc.2.1⟩
    ·rw [if_neg b2]
     refine ⟨hr, ?_⟩
     rw [e,e2];unfold JdU;rw [if_neg b0,if_neg b1,if_neg b2]
 by_cases e4:c.op=4
 ·by_cases v:c.value=18446744073709551615
  ·have e2:JbW c=isC true:=by unfold JbW;rw [if_neg e3,if_neg e6,if_neg e7,if_pos e4,if_pos v]
   rw [e,e2] at h;simp [isC] at h
  ·have e2:JbW c=Jba c (c.value+1):=by unfold JbW;rw [if_neg e3,if_neg e6,if_neg e7,if_pos e4,if_neg v]
   rw [e,e2] at h⊢;exact Jkm hrc.1 hrc.2.1 h
 by_cases e5:c.op=5
 ·by_cases v:c.value=18446744073709551615
  ·have e2:JbW c=isC false:=by unfold JbW;rw [if_neg e3,if_neg e6,if_neg e7,if_neg e4,if_pos e5,if_pos v]
   rw [e,e2] at h;simp [isC] at h
  ·have e2:JbW c=JbV c (c.value+1):=by unfold JbW;rw [if_neg e3,if_neg e6,if_neg e7,if_neg e4,if_pos e5,if_neg v]
   rw [e,e2] at h⊢;exact Jl3 hrc.1 hrc.2.1 h
 have e2:JbW c=(c,0):=by unfold JbW;rw [if_neg e3,if_neg e6,if_neg e7,if_neg e4,if_neg e5]
 rw [e,e2]
 exact ⟨hr,e.trans e2⟩
theorem Jum {cs:List Cnd} {x:Cnd} (h:x∈Jck cs):Jaa x=true∧JdH x=false∧Jiv x=some x:=by
 unfold Jck at h
 obtain ⟨c,hc,hx⟩:=List.mem_filterMap.1 h
 unfold Jiv at hx
 split at hx
 ·rename_i h0
  cases hx
  obtain ⟨h1,h2⟩:=Jsb h0
  refine ⟨h1, ?_, ?_⟩
  ·unfold JdH;rw [h2];rfl
  ·unfold Jiv;rw [h2];rfl
 ·cases hx
theorem JhB {r n:Rul} (h:JbK r=some n):JbK n=some n∧(Jax r=true→Jax n=true)∧((∀c∈r.conds,c.ok)→∀c∈n.conds,c.ok):=by
 have hc:=Jdg h
 unfold JbK at h
 split at h
 ·cases h
 ·cases h
  have hm:∀x,x∈JdP (Jck r.conds)→Jaa x=true∧JdH x=false∧Jiv x=some x:=fun x hx=> Jum (((Jdv _).2 x).1 hx)
  refine ⟨?_,fun hr=> ?_,fun ho x hx=> ?_⟩
  ·unfold JbK
   dsimp only
   have e1:(JdP (Jck r.conds)).any JdH=false:=by
    rw [List.any_eq_false]
    intro x hx;rw [(hm x hx).2.1];decide
   have e2:Jck (JdP (Jck r.conds))=JdP (Jck r.conds):=by
    generalize JdP (Jck r.conds)=l at hm
    unfold Jck
    induction l with
    | nil=> rfl
    | cons x l ih=>
      rw [List.filterMap_cons,(hm x (.head _)).2.2]
      dsimp only
      rw [ih fun y hy=> hm y (.tail _ hy)]
   rw [e1,e2,Jv8];rfl
  ·unfold Jax at hr⊢
   simp only [Bool.and_eq_true,decide_eq_true_eq] at hr⊢
   refine ⟨hr.1,hr.2.1,Nat.le_trans hc.1 hr.2.2.1, ?_⟩
   rw [Bool.not_eq_true',List.any_eq_false]
   intro x hx;rw [(hm x hx).1];decide
  ·have hx2:=((Jdv _).2 x).1 hx
   unfold Jck at hx2
   obtain ⟨c,hc,hy⟩:=List.mem_filterMap.1 hx2
   unfold Jiv at hy
   split at hy
   ·cases hy;exact Jyf (ho c hc)
   ·cases hy
end Go.Proofs.W

namespace Go.Proofs.W
open Go.Vl
set_option maxRecDepth 100000
def JhC (l:List Rul) (r:Rul):List Rul:=
 match JbK r with
 | none=> l
 | some n=> if JgP l n then l else l++ [n]
def gOf (s:ByteArray) (rs:List Rul):List Rul:=rs.foldl (fun l r=> if Jao s r.name then JhC l r else l) []
theorem Jn3 (s:ByteArray):Jao s s=true:=Jds.2 rfl
theorem Jjs {s t:ByteArray} {n:Rul}:∀ {H:List (ByteArray×List Rul)},JbR (JdQ H t n) s=if Jao s t then JbR H s++ [n] else JbR H s
 | []=> by
   show (if Jao s t=true then [n] else [])=_
   by_cases h:Jao s t=true
   ·rw [if_pos h,if_pos h];rfl
   ·rw [if_neg h,if_neg h];rfl
 | h::H=> by
   unfold JdQ
   by_cases ht:Jao t h.1=true
   ·rw [if_pos ht]
    obtain rfl:=Jds.1 ht
    show (if Jao s h.1=true then _ else JbR H s)=_
    by_cases hs:Jao s h.1=true
    ·rw [if_pos hs,if_pos hs];show _=(if Jao s h.1=true then _ else _)++_;rw [if_pos hs]
    ·rw [if_neg hs,if_neg hs];show _=(if Jao s h.1=true then _ else _);rw [if_neg hs]
   ·rw [if_neg ht]
    show (if Jao s h.1=true then h.2 else JbR (JdQ H t n) s)=if Jao s t=true then (if Jao s h.1=true then h.2 else JbR H s)++ [n] else (if Jao s h.1=true then h.2 else JbR H s)
    by_cases hs:Jao s h.1=true
    ·rw [if_pos hs,if_pos hs]
     have:¬Jao s t=true:=fun k=> ht (by rw [← Jds.1 k];exact hs)
     rw [if_neg this]
    ·rw [if_neg hs,if_neg hs,Jjs]
theorem Jun {s:ByteArray} {H:List (ByteArray×List Rul)} {r:Rul}:JbR (JdD H r) s=if Jao s r.name then JhC (JbR H s) r else JbR H s:=by
 unfold JdD JhC
 cases hN:JbK r with
 | none=> simp
 | some n=>
   dsimp only
   by_cases hs:Jao s r.name=true
   ·obtain rfl:=Jds.1 hs
    rw [if_pos hs]
    by_cases hh:JgP (JbR H r.name) n=true
    ·rw [if_pos hh,if_pos hh]
    ·rw [if_neg hh,if_neg hh,Jjs,if_pos hs]
   ·rw [if_neg hs]
    by_cases hh:JgP (JbR H r.name) n=true
    ·rw [if_pos hh]
    ·rw [if_neg hh,Jjs,if_neg hs]
theorem Jn4 {s:ByteArray}:∀(rs:List Rul) (H:List (ByteArray×List Rul)),JbR (rs.foldl JdD H) s=rs.foldl (fun l r=> if Jao s r.name then JhC l r else l) (JbR H s)
 | [],_=> rfl
 | r::rs,H=> by
   rw [List.foldl_cons,Jn4 rs,List.foldl_cons,Jun]
theorem Jkn (s:ByteArray) (rs:List Rul):JbR (JaV rs) s=gOf s rs:=Jn4 rs []
theorem Jn5 {t:ByteArray} {n:Rul}:∀ {H:List (ByteArray×List Rul)} {s:ByteArray},s∈(JdQ H t n).map (·.1)↔s=t∨s∈H.map (·.1)
 | [],s=> by simp [JdQ]
 | h::H,s=> by
   unfold JdQ
   by_cases ht:Jao t h.1=true
   ·rw [if_pos ht]
    obtain rfl:=Jds.1 ht
    simp
   ·rw [if_neg ht,List.map_cons,List.mem_cons,Jn5,List.map_cons,List.mem_cons]
    constructor
    ·rintro (h | h | h)
     ·exact .inr (.inl h)
     ·exact .inl h
     ·exact .inr (.inr h)
    ·rintro (h | h | h)
     ·exact .inr (.inl h)
     ·exact .inl h
     ·exact .inr (.inr h)
theorem Jl4 {t:ByteArray} {n:Rul}:∀ {H:List (ByteArray×List Rul)},(H.map (·.1)).Nodup→((JdQ H t n).map (·.1)).Nodup
 | [],_=> by simp [JdQ]
 | h::H,hn=> by
   unfold JdQ
   by_cases ht:Jao t h.1=true
   ·rw [if_pos ht];exact hn
   ·rw [if_neg ht]
    rw [List.map_cons,List.nodup_cons] at hn⊢
    refine ⟨fun hm=> ?_,Jl4 hn.2⟩
    rcases Jn5.1 hm with e | e
    ·exact ht (by rw [← e];exact Jn3 _)
    ·exact hn.1 e
theorem Jsc {H:List (ByteArray×List Rul)} {r:Rul} (h:(H.map (·.1)).Nodup):((JdD H r).map (·.1)).Nodup:=by
 unfold JdD
 cases JbK r with
 | none=> exact h
 | some n=>
   dsimp only
   split
   ·exact h
   ·exact Jl4 h
theorem Jjt (rs:List Rul):((JaV rs).map (·.1)).Nodup:=by
 have key:∀(rs:List Rul) (H:List (ByteArray×List Rul)),(H.map (·.1)).Nodup→((rs.foldl JdD H).map (·.1)).Nodup:=by
  intro rs
  induction rs with
  | nil=> intro H h;exact h
  | cons r rs ih=> intro H h;exact ih _ (Jsc h)
 exact key rs [] List.nodup_nil
def RS (a b:List UInt8):Prop:=Go.Sort.ltStr a b=true
theorem JBb (x:List UInt8):¬RS x x:=by unfold RS;rw [Go.Sort.swo_ltStr.irrefl];decide
theorem JBV (x y z:List UInt8) (h:RS x y) (k:RS y z):RS x z:=Go.Sort.swo_ltStr.trans x y z h k
theorem Jqo {s t:ByteArray} (h:s.data.toList=t.data.toList):s=t:=by
 obtain ⟨⟨a⟩⟩:=s;obtain ⟨⟨b⟩⟩:=t;simpa using h
theorem Jsd {H:List (ByteArray×List Rul)} (hn:(H.map (·.1)).Nodup):(JfM H).Pairwise RS:=by
 have h1:=JfB Go.Sort.swo_ltStr (H.map fun h=> h.1.data.toList)
 have h2:(JfM H).Nodup:=by
  refine (List.mergeSort_perm _ _).nodup_iff.2 ?_
  have:(H.map fun h=> h.1.data.toList)=(H.map (·.1)).map (fun s:ByteArray=> s.data.toList):=by rw [List.map_map];rfl
  rw [this]
  exact List.pairwise_map.2 (hn.imp fun h e=> h (Jqo e))
 refine (h1.and h2).imp fun {a b} h=> ?_
 unfold RS
 cases hl:Go.Sort.ltStr a b with
 | true=> rfl
 | false=> exact absurd (Jjp _ _ hl h.1) h.2
theorem Juo (s:ByteArray) (rs:List Rul):gOf s rs=(rs.filter fun r=> Jao s r.name).foldl JhC []:=by
 unfold gOf
 have key:∀(rs:List Rul) (l:List Rul),rs.foldl (fun l r=> if Jao s r.name then JhC l r else l) l=(rs.filter fun r=> Jao s r.name).foldl JhC l:=by
  intro rs
  induction rs with
  | nil=> intro l;rfl
  | cons r rs ih=>
    intro l
    rw [List.foldl_cons,ih,List.filter_cons]
    by_cases h:Jao s r.name=true
    ·rw [if_pos h,if_pos h];rfl
    ·rw [if_neg h,if_neg h]
 exact key rs []
theorem Jl5 (d:A2) (l:List Rul):∃t,l=Jec d l++t:=by
 unfold Jec
 refine ⟨(l.reverse.takeWhile fun r=> decide (r.act=d)).reverse, ?_⟩
 rw [← List.reverse_append,List.takeWhile_append_dropWhile,List.reverse_reverse]
theorem JzZ (d:A2) (l:List Rul):(Jec d l).length≤l.length:=by
 obtain ⟨t,h⟩:=Jl5 d l
 have:=congrArg List.length h
 rw [List.length_append] at this
 omega
theorem Jyg {l:List Rul} {r n:Rul} (h:n∈JhC l r):n∈l∨JbK r=some n:=by
 unfold JhC at h
 cases hN:JbK r with
 | none=> rw [hN] at h;exact .inl h
 | some m=>
   rw [hN] at h
   dsimp only at h
   split at h
   ·exact .inl h
   ·rcases List.mem_append.1 h with h | h
    ·exact .inl h
    ·rw [List.mem_singleton.1 h];exact .inr rfl
theorem Jqp:∀(rs l:List Rul) {n:Rul},n∈rs.foldl JhC l→n∈l∨∃r∈rs,JbK r=some n
 | [],_,_,h=> .inl h
 | r::rs,l,n,h=> by
   rcases Jqp rs _ h with h | ⟨x,hx,h⟩
   ·rcases Jyg h with h | h
    ·exact .inl h
    ·exact .inr ⟨r, .head _,h⟩
   ·exact .inr ⟨x, .tail _ hx,h⟩
theorem Jta {s:ByteArray} {rs:List Rul} {n:Rul} (h:n∈gOf s rs):n.name=s∧∃r∈rs,JbK r=some n:=by
 rw [Juo] at h
 rcases Jqp _ _ h with h | ⟨r,hr,h⟩
 ·cases h
 ·obtain ⟨h1,h2⟩:=List.mem_filter.1 hr
  exact ⟨(Jdg h).2.1.trans (Jds.1 h2).symm,r,h1,h⟩
theorem Jqq {d:A2} {l:List Rul} {x:Rul} (h:x∈Jec d l):x∈l:=by
 obtain ⟨t,ht⟩:=Jl5 d l
 rw [ht];exact List.mem_append_left _ h
theorem Jtb {d:A2} {rs:List Rul} {N:List (List UInt8)} {n:Rul} (h:n∈Jiw d (JaV rs) N):∃r∈rs,JbK r=some n:=by
 unfold Jiw at h
 obtain ⟨z,hz,h⟩:=List.mem_flatMap.1 h
 have:=Jqq h
 rw [Jkn] at this
 exact (Jta this).2
def JgQ (H:List (ByteArray×List Rul)):Nat:=(H.map fun h=> h.2.length).sum
theorem Jqr {t:ByteArray} {n:Rul}:∀H:List (ByteArray×List Rul),JgQ (JdQ H t n)=JgQ H+1
 | []=> rfl
 | h::H=> by
   unfold JdQ
   by_cases ht:Jao t h.1=true
   ·rw [if_pos ht];unfold JgQ;simp;omega
   ·rw [if_neg ht]
    have:=Jqr (t:=t) (n:=n) H
    unfold JgQ at this⊢
    rw [List.map_cons,List.sum_cons,this,List.map_cons,List.sum_cons];omega
theorem Jv9 {H:List (ByteArray×List Rul)} {r:Rul}:JgQ (JdD H r)≤JgQ H+1:=by
 unfold JdD
 cases JbK r with
 | none=> exact Nat.le_succ _
 | some n=>
   dsimp only
   split
   ·exact Nat.le_succ _
   ·rw [Jqr];exact Nat.le_refl _
theorem Jup (rs:List Rul):JgQ (JaV rs)≤rs.length:=by
 have key:∀(rs:List Rul) (H:List (ByteArray×List Rul)),JgQ (rs.foldl JdD H)≤JgQ H+rs.length:=by
  intro rs
  induction rs with
  | nil=> intro H;exact Nat.le_refl _
  | cons r rs ih=>
    intro H
    have h1:=ih (JdD H r)
    have h2:=Jv9 (H:=H) (r:=r)
    rw [List.foldl_cons,List.length_cons];omega
 have:=key rs []
 rw [show JgQ []=0 from rfl,Nat.zero_add] at this
 exact this
theorem Jqs:∀ {H:List (ByteArray×List Rul)},(H.map (·.1)).Nodup→∀h∈H,JbR H h.1=h.2
 | [],_,_,hm=> by cases hm
 | g::H,hn,h,hm=> by
   rw [List.map_cons,List.nodup_cons] at hn
   rcases List.mem_cons.1 hm with rfl | hm
   ·exact if_pos (Jn3 _)
   ·have:¬Jao h.1 g.1=true:=fun hk=> hn.1 (by rw [← Jds.1 hk];exact List.mem_map_of_mem hm)
    show (if Jao h.1 g.1=true then g.2 else JbR H h.1)=_
    rw [if_neg this];exact Jqs hn.2 h hm
theorem Jtc (d:A2) (rs:List Rul):(Jiw d (JaV rs) (JfM (JaV rs))).length≤rs.length:=by
 refine Nat.le_trans ?_ (Jup rs)
 have hn:=Jjt rs
 generalize JaV rs=H at hn
 unfold Jiw
 have hp:(JfM H).Perm (H.map fun h=> h.1.data.toList):=List.mergeSort_perm _ _
 rw [List.length_flatMap,(hp.map _).sum_nat,List.map_map]
 unfold JgQ
 have e:∀h∈H,((fun a:List UInt8=> (Jec d (JbR H ⟨a.toArray⟩)).length)∘fun h:ByteArray×List Rul=> h.1.data.toList) h≤h.2.length:=fun h hh=> by
  show (Jec d (JbR H ⟨h.1.data.toList.toArray⟩)).length≤_
  have es:(⟨h.1.data.toList.toArray⟩:ByteArray)=h.1:=by obtain ⟨⟨⟨a⟩⟩,b⟩:=h;rfl
  rw [es,Jqs hn h hh]
  exact JzZ d h.2
 clear hp hn
 generalize (fun a:List UInt8=> (Jec d (JbR H ⟨a.toArray⟩)).length)∘(fun h:ByteArray×List Rul=> h.1.data.toList)=f at e
 induction H with
 | nil=> simp
 | cons h H ih=>
   rw [List.map_cons,List.sum_cons,List.map_cons,List.sum_cons]
   have h1:=e h (.head _)
   have h2:=ih fun x hx=> e x (.tail _ hx)
   omega
theorem Juq {p:Pol} (h:Jb7 p=true):Jb7 (Jh p)=true:=by
 unfold Jb7 at h⊢
 simp only [Bool.and_eq_true,decide_eq_true_eq,Bool.not_eq_true',List.any_eq_false] at h⊢
 have hl:=Jtc p.dflt p.rules
 refine ⟨h.1,Nat.le_trans hl h.2.1,fun n hn=> ?_⟩
 obtain ⟨r,hr,hN⟩:=Jtb hn
 have h2:=h.2.2 r hr
 have:Jax r=true:=by simpa using h2
 rw [(JhB hN).2.1 this];decide
end Go.Proofs.W

namespace Go.Proofs.W
open Go.Vl
set_option maxRecDepth 100000
def nmL (s:ByteArray):List UInt8:=s.data.toList
def JjX (r:Rul):List (ByteArray×List Rul)→List (ByteArray×List Rul)
 | (s,L)::t=> if kS s r.name then (s,r::L)::t else (r.name, [r])::(s,L)::t
 | []=> [(r.name, [r])]
def Jam (l:List Rul):List (ByteArray×List Rul):=l.foldr JjX []
def Jwa (l:List Rul):Prop:=l.Pairwise fun a b=> Go.Sort.ltStr (nmL b.name) (nmL a.name)=false
structure GOk (l:List Rul) (gs:List (ByteArray×List Rul)):Prop where
 up:gs.Pairwise fun a b=> Go.Sort.ltStr (nmL a.1) (nmL b.1)=true
 rows:∀g∈gs,g.2=l.filter (fun r=> kS r.name g.1)∧g.2≠ []
 all:∀r∈l,∃g∈gs,g.1=r.name
theorem Jn6 (s t:ByteArray):kS s t=kS t s:=by
 rw [Bool.eq_iff_iff,Jcf,Jcf]
 exact ⟨Eq.symm,Eq.symm⟩
theorem Jix (s:List UInt8):Go.Sort.ltStr s s=false:=Go.Sort.swo_ltStr.irrefl s
theorem JBW {s t:ByteArray} (h:Go.Sort.ltStr (nmL t) (nmL s)=false) (hne:s≠t):Go.Sort.ltStr (nmL s) (nmL t)=true:=by
 cases hl:Go.Sort.ltStr (nmL s) (nmL t) with
 | true=> rfl
 | false=> exact absurd (Jqo (JvG _ _ hl h)) hne
theorem Jhi:∀ {l:List Rul},Jwa l→GOk l (Jam l)
 | [],_=> ⟨List.Pairwise.nil,fun g hg=> (by cases hg),fun r hr=> (by cases hr)⟩
 | r::l,h=> by
   obtain ⟨h1,h2⟩:=List.pairwise_cons.1 h
   have ih:=Jhi h2
   unfold Jam at ih⊢
   rw [List.foldr_cons]
   generalize l.foldr JjX []=gs at ih
   have hrow:∀g∈gs,g.1≠r.name→g.2=(r::l).filter (fun q=> kS q.name g.1)∧g.2≠ []:=fun g hg hne=> by
    obtain ⟨k1,k2⟩:=ih.rows g hg
    refine ⟨?_,k2⟩
    rw [List.filter_cons,if_neg (by rw [Jn6];exact fun e=> hne (Jcf.1 e))]
    exact k1
   have hge:∀g∈gs,Go.Sort.ltStr (nmL g.1) (nmL r.name)=false:=fun g hg=> by
    obtain ⟨k1,k2⟩:=ih.rows g hg
    obtain ⟨q,hq⟩:=List.exists_mem_of_ne_nil _ k2
    rw [k1] at hq
    obtain ⟨q1,q2⟩:=List.mem_filter.1 hq
    rw [← Jcf.1 q2]
    exact h1 q q1
   cases gs with
   | nil=>
     have hl:l= []:=List.eq_nil_iff_forall_not_mem.2 fun q hq=> by obtain ⟨g,hg,_⟩:=ih.all q hq;cases hg
     subst hl
     refine ⟨List.pairwise_singleton _ _,fun g hg=> ?_,fun q hq=> ?_⟩
     ·rw [List.mem_singleton.1 hg]
      refine ⟨?_,List.cons_ne_nil _ _⟩
      rw [List.filter_cons,if_pos (Jcf.2 rfl)]
      rfl
     ·exact ⟨_, .head _,by rw [List.mem_singleton.1 hq]⟩
   | cons g t=>
     obtain ⟨s,L⟩:=g
     show GOk (r::l) (if kS s r.name then (s,r::L)::t else (r.name, [r])::(s,L)::t)
     obtain ⟨u1,u2⟩:=List.pairwise_cons.1 ih.up
     by_cases hs:kS s r.name=true
     ·rw [if_pos hs]
      have es:s=r.name:=Jcf.1 hs
      refine ⟨List.pairwise_cons.2 ⟨u1,u2⟩,fun g hg=> ?_,fun q hq=> ?_⟩
      ·rcases List.mem_cons.1 hg with rfl | hg
       ·refine ⟨?_,List.cons_ne_nil _ _⟩
        have:=(ih.rows (s,L) (.head _)).1
        rw [List.filter_cons,if_pos (by rw [Jn6];exact hs)]
        exact congrArg _ this
       ·refine hrow g (.tail _ hg) fun e=> ?_
        have:=u1 g hg
        rw [e,← es,Jix] at this
        cases this
      ·rcases List.mem_cons.1 hq with rfl | hq
       ·exact ⟨_, .head _,es⟩
       ·obtain ⟨g,hg,e⟩:=ih.all q hq
        rcases List.mem_cons.1 hg with rfl | hg
        ·exact ⟨_, .head _,e⟩
        ·exact ⟨g, .tail _ hg,e⟩
     ·rw [if_neg hs]
      have hne:s≠r.name:=fun e=> hs (Jcf.2 e)
      have hlt:∀g∈(s,L)::t,Go.Sort.ltStr (nmL r.name) (nmL g.1)=true:=fun g hg=> by
       have hs0:=JBW (hge (s,L) (.head _)) hne.symm
       rcases List.mem_cons.1 hg with rfl | hg
       ·exact hs0
       ·exact Go.Sort.swo_ltStr.trans _ _ _ hs0 (u1 g hg)
      have hno:∀g∈(s,L)::t,g.1≠r.name:=fun g hg e=> by
       have:=hlt g hg
       rw [e,Jix] at this
       cases this
      refine ⟨List.pairwise_cons.2 ⟨hlt,ih.up⟩,fun g hg=> ?_,fun q hq=> ?_⟩
      ·rcases List.mem_cons.1 hg with rfl | hg
       ·refine ⟨?_,List.cons_ne_nil _ _⟩
        rw [List.filter_cons,if_pos (Jcf.2 rfl)]
        refine congrArg _ (List.filter_eq_nil_iff.2 fun q hq e=> ?_).symm
        obtain ⟨g,hg,e2⟩:=ih.all q hq
        exact hno g hg (e2.trans (Jcf.1 e))
       ·exact hrow g hg (hno g hg)
      ·rcases List.mem_cons.1 hq with rfl | hq
       ·exact ⟨_, .head _,rfl⟩
       ·obtain ⟨g,hg,e⟩:=ih.all q hq
        exact ⟨g, .tail _ hg,e⟩
end Go.Proofs.W

namespace Go.Proofs.W
open Go.Vl
set_option maxRecDepth 100000
def J2 (r:Rul):PRul:=⟨r.conds,JaU r.act⟩
theorem Jse (m:Rul) (M:List Rul):∃L t,Jam (m::M)=(m.name,L)::t:=by
 show ∃L t,JjX m (Jam M)=(m.name,L)::t
 cases Jam M with
 | nil=> exact ⟨_,_,rfl⟩
 | cons g t=>
   obtain ⟨s,L⟩:=g
   show ∃L' t',(if kS s m.name then (s,m::L)::t else (m.name, [m])::(s,L)::t)=(m.name,L')::t'
   by_cases h:kS s m.name=true
   ·rw [if_pos h,Jcf.1 h];exact ⟨_,_,rfl⟩
   ·rw [if_neg h];exact ⟨_,_,rfl⟩
def Jyh (s:ByteArray) (M:List Rul):Prop:=∀m∈M.head?,m.name≠s
theorem Jl6 {s:ByteArray} {M:List Rul} (hM:Jyh s M):∀ {L:List Rul},L≠ []→(∀r∈L,r.name=s)→Jam (L++M)=(s,L)::Jam M
 | [],h,_=> absurd rfl h
 | [r],_,h=> by
   show JjX r (Jam M)=_
   have hr:=h r (.head _)
   cases M with
   | nil=> rw [← hr];rfl
   | cons m M=>
     obtain ⟨L,t,e⟩:=Jse m M
     rw [e]
     show (if kS m.name r.name then _ else _)=_
     rw [if_neg (fun k=> hM m (by simp) ((Jcf.1 k).trans hr)),hr]
 | r::q::L,_,h=> by
   have ih:=Jl6 hM (L:=q::L) (by simp) fun x hx=> h x (.tail _ hx)
   show JjX r (Jam (q::L++M))=_
   rw [ih]
   show (if kS s r.name then _ else _)=_
   rw [if_pos (Jcf.2 (h r (.head _)).symm)]
def Jee (a:Nat) (n:Int):Nat:=if a=1 then n.toNat||| 1073741824 else n.toNat
def Jbc (a d:Nat) (x:Bool) (row:TRow) (rs:List PRul):List PEnt:=
 if row.num a < 0∨(a=1∧x=false)∨Jdk a rs d= [] then [] else [⟨Jee a (row.num a),Jdk a rs d⟩]
def Jda (m:Nat) (row:TRow) (rs:List PRul):List PSub:=if row.mux=(m:Int)+1 then [⟨row.sub.toNat,(rs.getD 0 ⟨[],0⟩).code⟩] else []
def JdY (p:Pol) (l:List TRow) (gs:List (ByteArray×List Rul)) (a:Nat):List PEnt:=gs.flatMap fun g=> Jbc a (JaU p.dflt) p.x32 (JaT l g.1) (g.2.map J2)
def JeI (l:List TRow) (gs:List (ByteArray×List Rul)) (m:Nat):List PSub:=gs.flatMap fun g=> Jda m (JaT l g.1) (g.2.map J2)
theorem Jur (p:Pol) (l:List TRow) (gs:List (ByteArray×List Rul)) (g:ByteArray×List Rul) (a:Nat):JdY p l (gs++ [g]) a=JdY p l gs a++Jbc a (JaU p.dflt) p.x32 (JaT l g.1) (g.2.map J2):=by
 unfold JdY;rw [List.flatMap_append];simp
theorem Jus (l:List TRow) (gs:List (ByteArray×List Rul)) (g:ByteArray×List Rul) (m:Nat):JeI l (gs++ [g]) m=JeI l gs m++Jda m (JaT l g.1) (g.2.map J2):=by
 unfold JeI;rw [List.flatMap_append];simp
def JcD (s:ByteArray) (l:List Rul):List Rul:=l.takeWhile fun r=> kS r.name s
theorem Jn7 (s:ByteArray):∀(l:List Rul),∀r∈JcD s l,r.name=s
 | [],r,hr=> by cases hr
 | q::l,r,hr=> by
   unfold JcD at hr
   rw [List.takeWhile_cons] at hr
   by_cases h:kS q.name s=true
   ·rw [if_pos h] at hr
    rcases List.mem_cons.1 hr with rfl | hr
    ·exact Jcf.1 h
    ·exact Jn7 s l r hr
   ·rw [if_neg h] at hr;cases hr
theorem Jyi (s:ByteArray) (l:List Rul):Jyh s (l.drop (JcD s l).length):=by
 unfold JcD Jyh
 induction l with
 | nil=> intro m hm;simp at hm
 | cons r l ih=>
   rw [List.takeWhile_cons]
   by_cases h:kS r.name s=true
   ·rw [if_pos h];simpa using ih
   ·rw [if_neg h]
    intro m hm
    obtain rfl:r=m:=by simpa using hm
    exact fun e=> h (Jcf.2 e)
end Go.Proofs.W

namespace Go.Proofs.W
open Go.Vl
set_option maxRecDepth 100000
theorem JfC {α:Type} {key:α→Nat}:∀ {l m:List α},l.Perm m→l.Pairwise (fun a b=> key a≤key b)→m.Pairwise (fun a b=> key a≤key b)→(l.map key).Nodup→l=m
 | [],m,hp,_,_,_=> (List.nil_perm.1 hp).symm
 | a::l, [],hp,_,_,_=> by cases hp.length_eq
 | a::l,b::m,hp,h1,h2,hn=> by
   obtain ⟨a1,a2⟩:=List.pairwise_cons.1 h1
   obtain ⟨b1,b2⟩:=List.pairwise_cons.1 h2
   have hb:b∈a::l:=hp.mem_iff.2 (.head _)
   have ha:a∈b::m:=hp.mem_iff.1 (.head _)
   have e:a=b:=by
    rcases List.mem_cons.1 hb with h | h
    ·exact h.symm
    ·rcases List.mem_cons.1 ha with k | k
     ·exact k
     ·have:=a1 b h
      have:=b1 a k
      have hk:key a=key b:=by omega
      rw [List.map_cons,List.nodup_cons] at hn
      exact absurd (hk ▸ List.mem_map_of_mem h) hn.1
   subst e
   rw [JfC ((List.perm_cons a).1 hp) a2 b2 (List.nodup_cons.1 hn).2]
def JoZ (l:List PEnt):List PEnt:=l.mergeSort fun a b=> decide (a.num≤b.num)
def Jo0 (l:List PSub):List PSub:=l.mergeSort fun a b=> decide (a.num≤b.num)
theorem Jgd (l:List PEnt):(JoZ l).Perm l:=List.mergeSort_perm _ _
theorem Jiy (l:List PSub):(Jo0 l).Perm l:=List.mergeSort_perm _ _
theorem Jyj (l:List PEnt):(JoZ l).Pairwise fun a b=> a.num≤b.num:=
 (List.pairwise_mergeSort (le:=fun a b:PEnt=> decide (a.num≤b.num)) (fun a b c h1 h2=> decide_eq_true (Nat.le_trans (of_decide_eq_true h1) (of_decide_eq_true h2))) (fun a b=> by simpa using Nat.le_total a.num b.num) l).imp fun h=> of_decide_eq_true h
theorem Jqt (l:List PSub):(Jo0 l).Pairwise fun a b=> a.num≤b.num:=
 (List.pairwise_mergeSort (le:=fun a b:PSub=> decide (a.num≤b.num)) (fun a b c h1 h2=> decide_eq_true (Nat.le_trans (of_decide_eq_true h1) (of_decide_eq_true h2))) (fun a b=> by simpa using Nat.le_total a.num b.num) l).imp fun h=> of_decide_eq_true h
theorem Jz0 {l:List TRow} (h:(JcL l).2=0) {a i j:Nat} (ha:a < 5) (hi:i < l.length) (hj:j < l.length) (h0:0≤(l.getD i Je).num a) (e:(l.getD j Je).num a=(l.getD i Je).num a):i=j:=by
 have key:∀i j,i < l.length→j < i→0≤(l.getD i Je).num a→(l.getD j Je).num a=(l.getD i Je).num a→False:=fun i j hi hji h0 e=> by
  have hc:=(Jfm ((Jer h).2 i hi)).2.2.2.2.2
  unfold Jdr at hc
  rw [List.any_eq_false] at hc
  have:=hc (l.getD j Je) (by
   rw [show l.getD j Je=(l.take i)[j]'(by rw [List.length_take];omega) by simp [List.getD,show j < l.length by omega]]
   exact List.getElem_mem _)
  apply this
  rw [Bool.or_eq_true]
  left
  unfold JhN
  refine List.any_eq_true.2 ⟨a, ?_, ?_⟩
  ·rcases (by omega:a=0∨a=1∨a=2∨a=3∨a=4) with rfl | rfl | rfl | rfl | rfl <;> simp
  ·rw [decide_eq_true h0,decide_eq_true e];rfl
 rcases Nat.lt_trichotomy i j with q | q | q
 ·exact (key j i hj q (by rw [e];exact h0) e.symm).elim
 ·exact q
 ·exact (key i j hi q h0 e).elim
theorem Jz1 {l:List TRow} (h:(JcL l).2=0) {i j:Nat} (hi:i < l.length) (hj:j < l.length) (h0:0 < (l.getD i Je).mux) (e:(l.getD j Je).mux=(l.getD i Je).mux) (e2:(l.getD j Je).sub=(l.getD i Je).sub):i=j:=by
 have key:∀i j,i < l.length→j < i→0 < (l.getD i Je).mux→(l.getD j Je).mux=(l.getD i Je).mux→(l.getD j Je).sub=(l.getD i Je).sub→False:=fun i j hi hji h0 e e2=> by
  have hc:=(Jfm ((Jer h).2 i hi)).2.2.2.2.2
  unfold Jdr at hc
  rw [List.any_eq_false] at hc
  have:=hc (l.getD j Je) (by
   rw [show l.getD j Je=(l.take i)[j]'(by rw [List.length_take];omega) by simp [List.getD,show j < l.length by omega]]
   exact List.getElem_mem _)
  apply this
  rw [Bool.or_eq_true]
  right
  unfold Jjh
  rw [decide_eq_true h0,decide_eq_true e,decide_eq_true e2];rfl
 rcases Nat.lt_trichotomy i j with q | q | q
 ·exact (key j i hj q (by rw [e];exact h0) e.symm e2.symm).elim
 ·exact q
 ·exact (key i j hi q h0 e e2).elim
end Go.Proofs.W

namespace Go.Proofs.W
open Go.Vl
set_option maxRecDepth 100000
theorem Jge {a:Nat} {z:Int} (h0:0≤z) (h1:z < 1073741824):Jee a z=if a=1 then z.toNat+1073741824 else z.toNat:=by
 unfold Jee
 split
 ·have h:z.toNat < 2 ^ 30:=by omega
  have:=Nat.two_pow_add_eq_or_of_lt h 1
  rw [Nat.mul_one] at this
  rw [Nat.or_comm,show (1073741824:Nat)=2 ^ 30 by decide,← this];omega
 ·rfl
theorem JfO {l:List TRow} (h:(JcL l).2=0) {i a:Nat} (hi:i < l.length):(l.getD i Je).num a < 1073741824∧-1≤(l.getD i Je).num a:=by
 have:=(Jfm ((Jer h).2 i hi)).2.2.1
 generalize l.getD i Je=r at this
 unfold JfW at this
 rw [List.any_eq_false] at this
 have hb:∀n∈ [r.a0,r.a1,r.a2,r.a3,r.a4],n < 1073741824∧-1≤n:=fun n hn=> by
  have:=this n hn
  unfold JeR at this
  simp only [Bool.or_eq_true,decide_eq_true_eq,not_or] at this
  omega
 match a with
 | 0=> exact hb r.a0 (by simp)
 | 1=> exact hb r.a1 (by simp)
 | 2=> exact hb r.a2 (by simp)
 | 3=> exact hb r.a3 (by simp)
 | a+4=> exact hb r.a4 (by simp)
theorem JmW {l:List TRow} (h:(JcL l).2=0) {i:Nat} (hi:i < l.length):((l.getD i Je).mux=0∨(l.getD i Je).mux=1∨(l.getD i Je).mux=2)∧0≤(l.getD i Je).sub∧(l.getD i Je).sub≤255:=by
 have:=(Jfm ((Jer h).2 i hi)).2.2.2.1
 unfold JgI at this
 simp only [Bool.or_eq_false_iff,Bool.and_eq_false_iff,decide_eq_false_iff_not] at this
 omega
def Jqu (l:List TRow) (s:ByteArray):Prop:=∃i,i < l.length∧JaT l s=l.getD i Je∧(l.getD i Je).name=s
theorem Jhj {a d:Nat} {x:Bool} {row:TRow} {rs:List PRul} {e:PEnt} (h:e∈Jbc a d x row rs):¬row.num a < 0∧e.num=Jee a (row.num a):=by
 unfold Jbc at h
 split at h
 ·cases h
 ·rename_i q
  rw [List.mem_singleton.1 h]
  exact ⟨fun k=> q (.inl k),rfl⟩
theorem Jn8 {m:Nat} {row:TRow} {rs:List PRul} {e:PSub} (h:e∈Jda m row rs):row.mux=(m:Int)+1∧e.num=row.sub.toNat:=by
 unfold Jda at h
 split at h
 ·rename_i q
  rw [List.mem_singleton.1 h]
  exact ⟨q,rfl⟩
 ·cases h
theorem Jwb {a d:Nat} {x:Bool} {row:TRow} {rs:List PRul}:((Jbc a d x row rs).map (·.num)).Nodup:=by
 unfold Jbc
 split
 ·exact List.nodup_nil
 ·simp
theorem Jwc {m:Nat} {row:TRow} {rs:List PRul}:((Jda m row rs).map (·.num)).Nodup:=by
 unfold Jda
 split
 ·simp
 ·exact List.nodup_nil
theorem Jiz {p:Pol} {l:List TRow} (ht:(JcL l).2=0) {a:Nat} (ha:a < 5):∀ {gs:List (ByteArray×List Rul)},(gs.Pairwise fun x y=> x.1≠y.1)→(∀g∈gs,Jqu l g.1)→((JdY p l gs a).map (·.num)).Nodup
 | [],_,_=> List.nodup_nil
 | g::gs,h1,h2=> by
   obtain ⟨q1,q2⟩:=List.pairwise_cons.1 h1
   have ih:=Jiz (p:=p) ht ha q2 fun g hg=> h2 g (.tail _ hg)
   show (((Jbc a (JaU p.dflt) p.x32 (JaT l g.1) (g.2.map J2))++JdY p l gs a).map (·.num)).Nodup
   rw [List.map_append,List.nodup_append]
   refine ⟨Jwb,ih,fun n hn n' hn'=> ?_⟩
   rintro rfl
   obtain ⟨e,he,rfl⟩:=List.mem_map.1 hn
   obtain ⟨e',he',hee⟩:=List.mem_map.1 hn'
   unfold JdY at he'
   obtain ⟨g',hg',he'⟩:=List.mem_flatMap.1 he'
   obtain ⟨i,hi,r1,n1⟩:=h2 g (.head _)
   obtain ⟨j,hj,r2,n2⟩:=h2 g' (.tail _ hg')
   obtain ⟨k1,k2⟩:=Jhj he
   obtain ⟨k3,k4⟩:=Jhj he'
   rw [r1] at k1 k2
   rw [r2] at k3 k4
   have b1:=JfO ht (a:=a) hi
   have b2:=JfO ht (a:=a) hj
   rw [k2,k4,Jge Om b2.1,Jge Om b1.1] at hee
   have hnum:(l.getD j Je).num a=(l.getD i Je).num a:=by
    split at hee <;> omega
   have:=Jz0 ht ha hi hj Om hnum
   subst this
   exact q1 g' hg' (n1.symm.trans n2)
theorem JiA {l:List TRow} (ht:(JcL l).2=0) {m:Nat}:∀ {gs:List (ByteArray×List Rul)},(gs.Pairwise fun x y=> x.1≠y.1)→(∀g∈gs,Jqu l g.1)→((JeI l gs m).map (·.num)).Nodup
 | [],_,_=> List.nodup_nil
 | g::gs,h1,h2=> by
   obtain ⟨q1,q2⟩:=List.pairwise_cons.1 h1
   have ih:=JiA ht (m:=m) q2 fun g hg=> h2 g (.tail _ hg)
   show (((Jda m (JaT l g.1) (g.2.map J2))++JeI l gs m).map (·.num)).Nodup
   rw [List.map_append,List.nodup_append]
   refine ⟨Jwc,ih,fun n hn n' hn'=> ?_⟩
   rintro rfl
   obtain ⟨e,he,rfl⟩:=List.mem_map.1 hn
   obtain ⟨e',he',hee⟩:=List.mem_map.1 hn'
   unfold JeI at he'
   obtain ⟨g',hg',he'⟩:=List.mem_flatMap.1 he'
   obtain ⟨i,hi,r1,n1⟩:=h2 g (.head _)
   obtain ⟨j,hj,r2,n2⟩:=h2 g' (.tail _ hg')
   obtain ⟨k1,k2⟩:=Jn8 he
   obtain ⟨k3,k4⟩:=Jn8 he'
   rw [r1] at k1 k2
   rw [r2] at k3 k4
   have b1:=JmW ht hi
   have b2:=JmW ht hj
   have:=Jz1 ht hi hj Om Om Om
   subst this
   exact q1 g' hg' (n1.symm.trans n2)
end Go.Proofs.W

namespace Go.Proofs
open Go.Shelf
shelf_lay LaysM.n171 Nm 171 at Tryz as Tryz.laysM171
end Go.Proofs
namespace Go.Proofs.W
open Go.Vl Go.Shelf Go.RowKit
set_option maxRecDepth 100000
theorem Jtd {w : World} (h : Kn w none2) : Lib.TabIs Tryz.prog w "internal/strconv.uint64pow10" .u64 Lib.pow10Tab := by
 obtain ⟨⟨e,fz,h1⟩,_⟩:=h (3,(Go.Lib.pow10Tab.map fun z=> Value.int .u64 z).toArray) (by unfold Jxf;exact List.mem_cons_self)
 unfold Lib.TabIs World.var?
 rw [show Tryz.prog.globalNamed "internal/strconv.uint64pow10" = some 3 from by kernel_rfl]
 simp only [Option.bind_some]
 rw [h1]
theorem Jwd {W : World} (h : Lib.TabIs Tryz.prog W "internal/strconv.uint64pow10" .u64 Lib.pow10Tab) : Kn W none2 := by
 unfold Lib.TabIs World.var? at h
 rw [show Tryz.prog.globalNamed "internal/strconv.uint64pow10" = some 3 from by kernel_rfl, Option.bind_some] at h
 intro p hp
 unfold Jxf at hp
 obtain rfl:=List.mem_singleton.1 hp
 refine ⟨?_,fun _ h=> h⟩
 split at h
 ·rename_i cs e fz hb
  cases h
  exact ⟨_,_,hb⟩
 ·cases h
theorem Jko (w:World):∀n,Below w.heap.size w (w.drewN n)
 | 0=> Below.refl _ _
 | n+1=> (Jko w n).drew
theorem Jsf (w:World) (k:Nat) (os:Array Obj):Below w.heap.size w (Sort.grow (w.drewN k) os):=by
 have h:=Jko w k
 refine ⟨h.os,h.tape,h.output,Nat.le_trans h.size (by simp [Sort.grow]),fun j hj=> ?_⟩
 rw [Sort.heap_grow_old _ _ (Nat.lt_of_lt_of_le hj h.size)]
 exact h.block j hj
def JdR (n:Nat):ByteArray:=⟨(Lib.decDigits n).toArray⟩
theorem Jyk (n:Nat):Lib.itoa (n:Int)=Lib.decDigits n:=by
 unfold Lib.itoa
 rw [if_neg Om]
 rfl
theorem Jwe (n:Nat) (hn:n≤9223372036854775807):Tells Tryz.prog 161 [int n] (JJ (JdR n)):=
 JdT (vs:= [.int .i64 n]) ⟨_,Tryz.func161,rfl,rfl⟩ fun w hk=> (Any.strconv_Itoa Tryz.laysM171 n Om Om w (Jtd hk)).mono fun e w' ⟨h1,k,os,h2⟩=> ⟨by rw [h1,Jyk];rfl,by rw [h2];exact Jsf w k os⟩
end Go.Proofs.W

namespace Go.Proofs.W
open Go.Vl
set_option maxRecDepth 100000
abbrev Bts:=List UInt8
theorem JeU {x:UInt8}:∀ {a b r s:Bts},x∉a→x∉b→a++x::r=b++x::s→a=b∧r=s
 | [], [],r,s,_,_,h=> ⟨rfl,(List.cons.inj h).2⟩
 | [],y::b,r,s,_,hb,h=> absurd (List.mem_cons.2 (.inl (List.cons.inj h).1)) hb
 | y::a, [],r,s,ha,_,h=> absurd (List.mem_cons.2 (.inl (List.cons.inj h).1.symm)) ha
 | y::a,z::b,r,s,ha,hb,h=> by
   obtain ⟨h1,h2⟩:=List.cons.inj h
   obtain ⟨h3,h4⟩:=JeU (fun q=> ha (List.mem_cons_of_mem _ q)) (fun q=> hb (List.mem_cons_of_mem _ q)) h2
   exact ⟨by rw [h1,h3],h4⟩
def JBc (l:Bts):Nat:=l.foldl (fun v b=> 10 * v+(b.toNat - 48)) 0
theorem JjY {n:Nat} (h:n < 10):(UInt8.ofNat (48+n)).toNat=48+n:=by
 rw [UInt8.toNat_ofNat']
 exact Nat.mod_eq_of_lt Om
theorem Jte:∀n:Nat,JBc (Lib.decDigits n)=n:=by
 intro n
 induction n using Nat.strongRecOn with
 | ind n ih=>
   rw [Lib.decDigits]
   split
   ·rename_i h
    show 10 * 0+((UInt8.ofNat (48+n)).toNat - 48)=n
    rw [JjY h]
    omega
   ·have:=ih (n / 10) Om
    unfold JBc at this⊢
    rw [List.foldl_append,this]
    show 10 * (n / 10)+((UInt8.ofNat (48+n % 10)).toNat - 48)=n
    rw [JjY (Nat.mod_lt _ Dc)]
    omega
theorem JjZ {m n:Nat} (h:Lib.decDigits m=Lib.decDigits n):m=n:=by rw [← Jte m,h,Jte]
theorem Jz2:∀ {n:Nat} {b:UInt8},b∈Lib.decDigits n→48≤b.toNat∧b.toNat≤57:=by
 intro n
 induction n using Nat.strongRecOn with
 | ind n ih=>
   intro b hb
   rw [Lib.decDigits] at hb
   split at hb
   ·rename_i h
    rw [List.mem_singleton.1 hb,JjY h]
    omega
   ·rcases List.mem_append.1 hb with h | h
    ·exact ih (n / 10) Om h
    ·rw [List.mem_singleton.1 h,JjY (Nat.mod_lt _ Dc)]
     have:=Nat.mod_lt n (by decide:0 < 10)
     omega
theorem Jju {n:Nat} {b:UInt8} (h:b.toNat < 48∨57 < b.toNat):b∉Lib.decDigits n:=fun q=> by
 have:=Jz2 q
 omega
def opsT:List Bts:= [[61,61], [33,61], [60], [60,61], [62], [62,61], [38]]
def opT (k:Nat):Bts:=opsT.getD k []
def Jaf (c:Cnd):Bts:= [97]++(Lib.decDigits c.arg.toNat++32::(opT (c.op.toNat - 1)++32::(if c.op=7 then Lib.decDigits c.mask++32::(61::61::32::Lib.decDigits c.value) else Lib.decDigits c.value)))
theorem Jqv:∀k:Nat,k < 7→(32:UInt8)∉opT k∧(59:UInt8)∉opT k:=by decide
theorem Jz3:∀j:Nat,j < 7→∀k:Nat,k < 7→opT j=opT k→j=k:=by decide
theorem Jn9 {c d:Cnd} (hc:Jaa c=true) (hd:Jaa d=true) (h:Jaf c=Jaf d):c=d:=by
 obtain ⟨a1,a2,a3,a4,a5⟩:=Jaz.1 hc
 obtain ⟨b1,b2,b3,b4,b5⟩:=Jaz.1 hd
 unfold Jaf at h
 obtain ⟨_,h⟩:=List.cons.inj h
 obtain ⟨h1,h⟩:=JeU (Jju Dc) (Jju Dc) h
 obtain ⟨h2,h⟩:=JeU (Jqv _ Om).1 (Jqv _ Om).1 h
 have e1:c.arg=d.arg:=by have:=JjZ h1;omega
 have e2:c.op=d.op:=by have:=Jz3 _ Om _ Om h2;omega
 obtain ⟨carg,cop,cm,cv⟩:=c
 obtain ⟨darg,dop,dm,dv⟩:=d
 dsimp only at *
 subst e1;subst e2
 by_cases h7:cop=7
 ·rw [if_pos h7,if_pos h7] at h
  obtain ⟨h3,h⟩:=JeU (Jju Dc) (Jju Dc) h
  have h4:=(List.cons.inj (List.cons.inj (List.cons.inj h).2).2).2
  rw [JjZ h3,JjZ h4]
 ·rw [if_neg h7,if_neg h7] at h
  rw [JjZ h]
  have q1:cm=0:=a5.resolve_left h7
  have q2:dm=0:=b5.resolve_left h7
  rw [q1,q2]
theorem Jyl {c:Cnd} (hc:Jaa c=true):(59:UInt8)∉Jaf c:=by
 obtain ⟨a1,a2,a3,a4,a5⟩:=Jaz.1 hc
 have hd:∀n:Nat,(59:UInt8)∉Lib.decDigits n:=fun n=> Jju Dc
 have ho:=(Jqv (c.op.toNat - 1) Om).2
 unfold Jaf
 split
 ·simp [hd,ho]
 ·simp [hd,ho]
theorem Jqw (c:Cnd):Jaf c≠ []:=List.cons_ne_nil _ _
def Jfc (x:UInt8):List Bts→Bts
 | []=> []
 | [a]=> a
 | a::b::l=> a++x::Jfc x (b::l)
theorem JcN {x:UInt8} {a:Bts} {l:List Bts} (h:l≠ []):Jfc x (a::l)=a++x::Jfc x l:=by
 cases l with
 | nil=> exact absurd rfl h
 | cons b l=> rfl
theorem Joa {x:UInt8}:∀ {l m:List Bts},(∀a∈l,x∉a∧a≠ [])→(∀a∈m,x∉a∧a≠ [])→Jfc x l=Jfc x m→l=m
 | [], [],_,_,_=> rfl
 | [],b::m,_,hm,h=> by
   exfalso
   have hb:=(hm b (.head _)).2
   cases m with
   | nil=> exact hb h.symm
   | cons c m=> rw [JcN (List.cons_ne_nil _ _)] at h;exact hb (List.append_eq_nil_iff.1 h.symm).1
 | a::l, [],hl,_,h=> by
   exfalso
   have ha:=(hl a (.head _)).2
   cases l with
   | nil=> exact ha h
   | cons c l=> rw [JcN (List.cons_ne_nil _ _)] at h;exact ha (List.append_eq_nil_iff.1 h).1
 | a::l,b::m,hl,hm,h=> by
   have ha:=(hl a (.head _)).1
   have hb:=(hm b (.head _)).1
   cases l with
   | nil=>
     cases m with
     | nil=> rw [show a=b from h]
     | cons c m=>
       exfalso
       rw [JcN (l:=c::m) (List.cons_ne_nil _ _)] at h
       exact ha (by rw [show a=b++x::Jfc x (c::m) from h];simp)
   | cons c l=>
     cases m with
     | nil=>
       exfalso
       rw [JcN (l:=c::l) (List.cons_ne_nil _ _)] at h
       exact hb (by rw [← show a++x::Jfc x (c::l)=b from h];simp)
     | cons d m=>
       rw [JcN (List.cons_ne_nil _ _),JcN (List.cons_ne_nil _ _)] at h
       obtain ⟨h1,h2⟩:=JeU ha hb h
       rw [h1,Joa (fun q hq=> hl q (.tail _ hq)) (fun q hq=> hm q (.tail _ hq)) h2]
end Go.Proofs.W

namespace Go.Proofs.W
open Go.Vl
set_option maxRecDepth 100000
def cUs (d:Array Bts):Nat→List Bts
 | 0=> []
 | m+1=> if m=0∨d[m]! ≠d[m - 1]! then cUs d m++ [d[m]!] else cUs d m
theorem Jqx (d:Array Bts):∀m,(cUs d m).length≤m
 | 0=> Nat.le_refl _
 | m+1=> by
   have:=Jqx d m
   unfold cUs
   split
   ·simp;omega
   ·omega
theorem Jqy {d:Array Bts}:∀ {m:Nat},m≤d.size→(∀i j,i < j→j < m→Go.Sort.ltStr d[j]! d[i]! =false)→(cUs d m).Pairwise RSb∧∀x,x∈cUs d m↔∃j,j < m∧d[j]! =x
 | 0,_,_=> ⟨List.Pairwise.nil,fun x=> by simp [cUs]⟩
 | m+1,hm,hs=> by
   obtain ⟨h1,h2⟩:=Jqy (m:=m) Om fun i j a b=> hs i j a Om
   by_cases hc:m=0∨d[m]! ≠d[m - 1]!
   ·rw [cUs,if_pos hc]
    refine ⟨?_,fun x=> ?_⟩
    ·rw [List.pairwise_append]
     refine ⟨h1,List.pairwise_singleton _ _,fun a ha b hb=> ?_⟩
     rw [List.mem_singleton] at hb
     subst hb
     obtain ⟨j,hj,rfl⟩:=(h2 a).1 ha
     cases hlt:Go.Sort.ltStr d[j]! d[m]! with
     | true=> exact hlt
     | false=>
       exfalso
       have h3:=hs (m - 1) m Om Om
       have h4:Go.Sort.ltStr d[m - 1]! d[m]! =false:=by
        rcases Nat.lt_or_ge j (m - 1) with q | q
        ·exact Go.Sort.swo_ltStr.ntrans _ _ _ (hs j (m - 1) q Om) hlt
        ·rw [show m - 1=j by omega];exact hlt
       rcases hc with hc | hc
       ·omega
       ·exact hc (JlK _ _ h3 h4)
    ·rw [List.mem_append,h2,List.mem_singleton]
     constructor
     ·rintro (⟨j,hj,rfl⟩ | rfl)
      ·exact ⟨j,by omega,rfl⟩
      ·exact ⟨m,by omega,rfl⟩
     ·rintro ⟨j,hj,rfl⟩
      rcases Nat.lt_or_ge j m with q | q
      ·exact .inl ⟨j,q,rfl⟩
      ·exact .inr (by rw [show j=m by omega])
   ·rw [cUs,if_neg hc]
    refine ⟨h1,fun x=> ?_⟩
    rw [h2]
    constructor
    ·rintro ⟨j,hj,rfl⟩;exact ⟨j,by omega,rfl⟩
    ·rintro ⟨j,hj,rfl⟩
     rcases Nat.lt_or_ge j m with q | q
     ·exact ⟨j,q,rfl⟩
     ·have hj':j=m:=by omega
      subst hj'
      have:j≠0:=fun h=> hc (.inl h)
      exact ⟨j - 1,by omega,by by_cases he:d[j]! =d[j - 1]!;exact he.symm;exact absurd (.inr he) hc⟩
def Jgf (l:List Bts):List Bts:=JV Go.Sort.ltStr l
def JcZ (l:List Bts):List Bts:=cUs (Jgf l).toArray (Jgf l).length
theorem Jb9 (l:List Bts):(JcZ l).Pairwise RSb∧∀x,x∈JcZ l↔x∈l:=by
 have hp:=JfB Go.Sort.swo_ltStr l
 have hm:∀x,x∈Jgf l↔x∈l:=fun x=> JlG
 unfold JcZ
 have hp':(Jgf l).Pairwise fun a b=> Go.Sort.ltStr b a=false:=hp
 generalize Jgf l=S at hm hp'
 obtain ⟨h1,h2⟩:=Jqy (d:=S.toArray) (m:=S.length) (by simp) fun i j hij hj=> by
  have hi:i < S.length:=by omega
  have:=List.pairwise_iff_getElem.1 hp' i j hi hj hij
  simpa [hi,hj] using this
 refine ⟨h1,fun x=> (h2 x).trans ?_⟩
 rw [← hm,List.mem_iff_getElem]
 constructor
 ·rintro ⟨j,hj,rfl⟩
  exact ⟨j,hj,by simp [hj]⟩
 ·rintro ⟨j,hj,rfl⟩
  exact ⟨j,hj,by simp [hj]⟩
def JhD (cs:List Cnd):Bts:=Jfc 59 (JcZ (cs.map Jaf))
theorem Jl7 {cs:List Cnd} (h:∀c∈cs,Jaa c=true):∀a∈JcZ (cs.map Jaf),(59:UInt8)∉a∧a≠ []:=fun a ha=> by
 obtain ⟨c,hc,rfl⟩:=List.mem_map.1 (((Jb9 _).2 a).1 ha)
 exact ⟨Jyl (h c hc),Jqw c⟩
theorem Jqz {cs ds:List Cnd} (hc:∀c∈cs,Jaa c=true) (hd:∀c∈ds,Jaa c=true):JhD cs=JhD ds↔∀c,c∈cs↔c∈ds:=by
 constructor
 ·intro h c
  have e:=Joa (Jl7 hc) (Jl7 hd) h
  have hm:∀x,x∈cs.map Jaf↔x∈ds.map Jaf:=fun x=> by rw [← (Jb9 _).2,e,(Jb9 _).2]
  constructor
  ·intro q
   obtain ⟨d,hd1,hd2⟩:=List.mem_map.1 ((hm (Jaf c)).1 (List.mem_map_of_mem q))
   rw [← Jn9 (hd d hd1) (hc c q) hd2]
   exact hd1
  ·intro q
   obtain ⟨d,hd1,hd2⟩:=List.mem_map.1 ((hm (Jaf c)).2 (List.mem_map_of_mem q))
   rw [← Jn9 (hc d hd1) (hd c q) hd2]
   exact hd1
 ·intro h
  unfold JhD
  refine congrArg _ (JlO (Jb9 _).1 (Jb9 _).1 fun z=> ?_)
  rw [(Jb9 _).2,(Jb9 _).2,List.mem_map,List.mem_map]
  exact ⟨fun ⟨c,q1,q2⟩=> ⟨c,(h c).1 q1,q2⟩,fun ⟨c,q1,q2⟩=> ⟨c,(h c).2 q1,q2⟩⟩
theorem JkY {cs:List Cnd}:JhD cs= []↔cs= []:=by
 constructor
 ·intro h
  cases cs with
  | nil=> rfl
  | cons c cs=>
    exfalso
    have hm:=((Jb9 ((c::cs).map Jaf)).2 (Jaf c)).2 (by simp)
    unfold JhD at h
    have hne:∀a∈JcZ ((c::cs).map Jaf),a≠ []:=fun a ha=> by
     obtain ⟨d,_,rfl⟩:=List.mem_map.1 (((Jb9 _).2 a).1 ha)
     exact Jqw d
    generalize JcZ ((c::cs).map Jaf)=L at h hm hne
    cases L with
    | nil=> cases hm
    | cons a L=>
      cases L with
      | nil=> exact hne a (.head _) h
      | cons b L=>
        rw [JcN (List.cons_ne_nil _ _)] at h
        exact hne a (.head _) (List.append_eq_nil_iff.1 h).1
 ·rintro rfl
  have h:JcZ (([]:List Cnd).map Jaf)= []:=List.eq_nil_iff_forall_not_mem.2 fun x hx=> by cases ((Jb9 _).2 x).1 hx
  unfold JhD
  rw [h]
  rfl
end Go.Proofs.W

namespace Go.Proofs.W
open Go.Vl
set_option maxRecDepth 100000
def JfY (c:Cnd):Bool:=decide (c.op=7)&& decide (Jhv c.value c.mask≠0)
def Jl8 (a b:List Cnd):Bool:=(a.all fun c=> decide (c∈b))&& b.all fun c=> decide (c∈a)
def JhE (r q:Rul):Bool:=kS q.name r.name&& (decide (q.conds.length=0)|| Jl8 q.conds r.conds)
def Jdb (l:List TRow) (rs:List Rul) (i:Nat):Int:=if Jbj l (rs.getD i Jo).name=false then 14 else if (rs.getD i Jo).conds.any JfY=true then 16 else if (rs.take i).any (JhE (rs.getD i Jo))=true then 15 else 0
def JfP (l:List TRow) (rs:List Rul):Option Nat:=(List.range rs.length).find? fun i=> decide (Jdb l rs i≠0)
def Jaq (p:Pol) (l:List TRow):Int×Int:=if Jb7 p=false then (0,13) else if (JcL l).2≠0 then (0,18) else match JfP l p.rules with
 | some i=> ((i:Int),Jdb l p.rules i)
 | none=> (0,0)
def JiB (r:Rul):Bts:=r.name.data.toList
def JiC (r:Rul):Bts:=JiB r++58::JhD r.conds
theorem Jz4 {l:List UInt8} (h:JaI l=true):(58:UInt8)∉l:=fun q=> by
 unfold JaI at h
 simp only [Bool.and_eq_true] at h
 have:=List.all_eq_true.1 h.2.2.2.2.1 58 q
 revert this
 decide
theorem Jhk {r:Rul} (h:Jax r=true):(58:UInt8)∉JiB r:=Jz4 (by
 unfold Jax at h
 simp only [Bool.and_eq_true] at h
 exact h.1)
theorem Jeu {r:Rul} (h:Jax r=true):∀c∈r.conds,Jaa c=true:=fun c hc=> by
 unfold Jax at h
 simp only [Bool.and_eq_true] at h
 have:=h.2.2.2
 simp only [Bool.not_eq_true',List.any_eq_false] at this
 simpa using this c hc
theorem Job {a b:List Cnd}:Jl8 a b=true↔∀c,c∈a↔c∈b:=by
 unfold Jl8
 simp only [Bool.and_eq_true,List.all_eq_true,decide_eq_true_eq]
 exact ⟨fun h c=> ⟨h.1 c,h.2 c⟩,fun h=> ⟨fun c=> (h c).1,fun c=> (h c).2⟩⟩
theorem JqA {q r:Rul} (hq:Jax q=true) (hr:Jax r=true):JiC q=JiC r↔kS q.name r.name=true∧Jl8 q.conds r.conds=true:=by
 unfold JiC
 constructor
 ·intro h
  obtain ⟨h1,h2⟩:=JeU (Jhk hq) (Jhk hr) h
  exact ⟨Jcf.2 (Jhc h1),Job.2 ((Jqz (Jeu hq) (Jeu hr)).1 h2)⟩
 ·rintro ⟨h1,h2⟩
  unfold JiB
  rw [Jcf.1 h1,(Jqz (Jeu hq) (Jeu hr)).2 (Job.1 h2)]
theorem JqB {q r:Rul} (hq:Jax q=true) (hr:Jax r=true):JiC q=JiB r++ [58]↔kS q.name r.name=true∧q.conds.length=0:=by
 unfold JiC
 constructor
 ·intro h
  obtain ⟨h1,h2⟩:=JeU (Jhk hq) (Jhk hr) h
  exact ⟨Jcf.2 (Jhc h1),List.length_eq_zero_iff.2 (JkY.1 h2)⟩
 ·rintro ⟨h1,h2⟩
  unfold JiB
  rw [Jcf.1 h1,JkY.2 (List.length_eq_zero_iff.1 h2)]
def Jl9 (rs:List Rul) (i:Nat):List Bts:=(rs.take i).map JiC
theorem Jwf {rs:List Rul} (h:∀r∈rs,Jax r=true) {i:Nat} {r:Rul} (hr:Jax r=true):(JiB r++ [58]∈Jl9 rs i∨JiC r∈Jl9 rs i)↔(rs.take i).any (JhE r)=true:=by
 unfold Jl9
 rw [List.any_eq_true]
 constructor
 ·rintro (q | q)
  ·obtain ⟨x,hx,he⟩:=List.mem_map.1 q
   obtain ⟨k1,k2⟩:=(JqB (h x (List.mem_of_mem_take hx)) hr).1 he
   exact ⟨x,hx,by unfold JhE;rw [k1,decide_eq_true k2];rfl⟩
  ·obtain ⟨x,hx,he⟩:=List.mem_map.1 q
   obtain ⟨k1,k2⟩:=(JqA (h x (List.mem_of_mem_take hx)) hr).1 he
   exact ⟨x,hx,by unfold JhE;rw [k1,k2,Bool.or_true];rfl⟩
 ·rintro ⟨x,hx,he⟩
  unfold JhE at he
  rw [Bool.and_eq_true,Bool.or_eq_true,decide_eq_true_iff] at he
  have hxr:=h x (List.mem_of_mem_take hx)
  rcases he with ⟨k1,k2 | k2⟩
  ·exact .inl (List.mem_map.2 ⟨x,hx,(JqB hxr hr).2 ⟨k1,k2⟩⟩)
  ·exact .inr (List.mem_map.2 ⟨x,hx,(JqA hxr hr).2 ⟨k1,k2⟩⟩)
theorem Jym {l:List TRow} {rs:List Rul} {i:Nat} (hi:i < rs.length) (h:∀j,j < i→Jdb l rs j=0) (hv:Jdb l rs i≠0):JfP l rs=some i:=by
 unfold JfP
 rw [List.find?_eq_some_iff_getElem]
 refine ⟨by simpa using hv,i,by simpa using hi,by simp,fun j hj=> ?_⟩
 simp [h j hj]
theorem Jma {l:List TRow} {rs:List Rul} (h:∀j,j < rs.length→Jdb l rs j=0):JfP l rs=none:=by
 unfold JfP
 rw [List.find?_eq_none]
 intro j hj
 simp [h j (List.mem_range.1 hj)]
end Go.Proofs.W

namespace Go.Proofs.W
open Go.Vl
set_option maxRecDepth 100000
theorem Jbl {p:Pol} {l:List TRow}:(Jaq p l).2=0↔Jb7 p=true∧(JcL l).2=0∧∀i,i < p.rules.length→Jdb l p.rules i=0:=by
 unfold Jaq
 by_cases h1:Jb7 p=false
 ·rw [if_pos h1]
  exact ⟨fun h=> absurd h Dc,fun h=> by rw [h1] at h;cases h.1⟩
 rw [if_neg h1]
 by_cases h2:(JcL l).2≠0
 ·rw [if_pos h2]
  exact ⟨fun h=> absurd h Dc,fun h=> absurd h.2.1 h2⟩
 rw [if_neg h2]
 constructor
 ·intro h
  refine ⟨by simpa using h1,by simpa using h2,fun i hi=> ?_⟩
  cases hf:JfP l p.rules with
  | none=>
    unfold JfP at hf
    have:=List.find?_eq_none.1 hf i (List.mem_range.2 hi)
    simpa using this
  | some j=>
    rw [hf] at h
    unfold JfP at hf
    have:=List.find?_some hf
    exact absurd h (by simpa using this)
 ·rintro ⟨_,_,h⟩
  rw [Jma h]
theorem Jwg {p:Pol} {l:List TRow} (h:(Jaq p l).2=0):Jaq p l=(0,0):=by
 obtain ⟨h1,h2,h3⟩:=Jbl.1 h
 unfold Jaq
 rw [if_neg (by rw [h1];decide),if_neg Om,Jma h3]
theorem Jwh {p:Pol} {l:List TRow} (h1:Jb7 p=true) (h2:(JcL l).2=0) {i:Nat} (hi:i < p.rules.length) (h3:∀j,j < i→Jdb l p.rules j=0) {v:Int} (h4:Jdb l p.rules i=v) (h5:v≠0):Jaq p l=((i:Int),v):=by
 unfold Jaq
 rw [if_neg (by rw [h1];decide),if_neg Om,Jym hi h3 (by rw [h4];exact h5)]
 exact congrArg _ h4
theorem Jz5 {l:List TRow} {rs:List Rul} {i:Nat}:Jdb l rs i=0↔Jbj l (rs.getD i Jo).name=true∧(rs.getD i Jo).conds.any JfY=false∧(rs.take i).any (JhE (rs.getD i Jo))=false:=by
 unfold Jdb
 by_cases h1:Jbj l (rs.getD i Jo).name=false
 ·rw [if_pos h1];exact ⟨fun h=> absurd h Dc,fun h=> by rw [h1] at h;cases h.1⟩
 rw [if_neg h1]
 by_cases h2:(rs.getD i Jo).conds.any JfY=true
 ·rw [if_pos h2];exact ⟨fun h=> absurd h Dc,fun h=> by rw [h2] at h;cases h.2.1⟩
 rw [if_neg h2]
 by_cases h3:(rs.take i).any (JhE (rs.getD i Jo))=true
 ·rw [if_pos h3];exact ⟨fun h=> absurd h Dc,fun h=> by rw [h3] at h;cases h.2.2⟩
 rw [if_neg h3]
 exact ⟨fun _=> ⟨by simpa using h1,by simpa using h2,by simpa using h3⟩,fun _=> rfl⟩
theorem Jmb {p:Pol}:Jb7 p=true↔JbT p.dflt.1 p.dflt.2=true∧p.rules.length≤500∧∀r∈p.rules,Jax r=true:=by
 unfold Jb7
 simp only [Bool.and_eq_true,decide_eq_true_eq,Bool.not_eq_true',List.any_eq_false,Bool.not_eq_false']
 exact ⟨fun h=> ⟨h.1,h.2.1,fun r hr=> by simpa using h.2.2 r hr⟩,fun h=> ⟨h.1,h.2.1,fun r hr=> by simpa using h.2.2 r hr⟩⟩
def sameV (r q:Rul):Prop:=r.name=q.name∧∀c,c∈r.conds↔c∈q.conds
theorem sameV.len {r q:Rul} (h:sameV r q):decide (r.conds.length=0)=decide (q.conds.length=0):=by
 have:r.conds.length=0↔q.conds.length=0:=by
  rw [List.length_eq_zero_iff,List.length_eq_zero_iff,List.eq_nil_iff_forall_not_mem,List.eq_nil_iff_forall_not_mem]
  exact ⟨fun k c hc=> k c ((h.2 c).2 hc),fun k c hc=> k c ((h.2 c).1 hc)⟩
 exact decide_eq_decide.2 this
end Go.Proofs.W

namespace Go.Proofs.W
open Go.Vl
set_option maxRecDepth 100000
theorem Joc {l:List TRow} {s:ByteArray} (h:Jbj l s=true):Jqu l s:=by
 have h1:JaT l s=l.getD (Jco l s) Je:=if_pos h
 unfold Jbj at h
 simp only [Bool.and_eq_true,decide_eq_true_eq] at h
 exact ⟨_,h.1,h1,JzA.1 h.2⟩
theorem JgR {p:Pol} {n:Rul} (h:n∈(Jh p).rules):∃r∈p.rules,JbK r=some n:=Jtb h
theorem JiD (p:Pol):Jwa (Jh p).rules:=by
 show ((JfM (JaV p.rules)).flatMap fun nm=> Jec p.dflt (JbR (JaV p.rules) ⟨nm.toArray⟩)).Pairwise _
 have hname:∀(z:List UInt8) (r:Rul),r∈Jec p.dflt (JbR (JaV p.rules) ⟨z.toArray⟩)→nmL r.name=z:=fun z r hr=> by
  have h:=Jqq hr
  rw [Jkn] at h
  rw [(Jta h).1]
  unfold nmL
  simp
 rw [List.pairwise_flatMap]
 refine ⟨fun z _=> ?_,(Jsd (Jjt p.rules)).imp fun {a b} h x hx y hy=> ?_⟩
 ·refine List.pairwise_of_forall_mem_list fun x hx y hy=> ?_
  rw [hname z x hx,hname z y hy,Jix]
 ·rw [hname a x hx,hname b y hy]
  cases hl:Go.Sort.ltStr b a with
  | false=> rfl
  | true=> exact absurd (JBV _ _ _ h hl) (JBb _)
theorem Jfd {p:Pol}:(Jam (Jh p).rules).Pairwise fun x y=> x.1≠y.1:=
 (Jhi (JiD p)).up.imp fun h e=> by rw [e,Jix] at h;cases h
theorem Jev {p:Pol} {l:List TRow} (h:∀r∈p.rules,Jbj l r.name=true):∀g∈Jam (Jh p).rules,Jqu l g.1:=fun g hg=> by
 obtain ⟨k1,k2⟩:=(Jhi (JiD p)).rows g hg
 obtain ⟨q,hq⟩:=List.exists_mem_of_ne_nil _ k2
 rw [k1] at hq
 obtain ⟨q1,q2⟩:=List.mem_filter.1 hq
 obtain ⟨r,hr,hn⟩:=JgR q1
 rw [← Jcf.1 q2,(Jdg hn).2.1]
 exact Joc (h r hr)
theorem Jdh {p:Pol} {l:List TRow} (h:(Jaq p l).2=0):∀r∈p.rules,Jbj l r.name=true:=fun r hr=> by
 obtain ⟨_,_,h3⟩:=Jbl.1 h
 obtain ⟨i,hi,rfl⟩:=List.getElem_of_mem hr
 have:=h3 i hi
 unfold Jdb at this
 rw [show p.rules.getD i Jo=p.rules[i] by simp [List.getD,hi]] at this
 cases hf:Jbj l p.rules[i].name with
 | true=> rfl
 | false=> rw [if_pos hf] at this;cases this
def JbB (p:Pol) (l:List TRow):Plan:=⟨JaU p.dflt,p.x32,fun a=> JoZ (JdY (Jh p) l (Jam (Jh p).rules) a),fun m=> Jo0 (JeI l (Jam (Jh p).rules) m)⟩
theorem Jwi {p:Pol} {l:List TRow} (h:(Jaq p l).2=0) {a:Nat} (ha:a < 5) {D:List (Nat×AV)} (e:PEnt→Nat×AV) (he:∀x,(e x).1=x.num) (hp:D.Perm ((JdY (Jh p) l (Jam (Jh p).rules) a).map e)) (hs:D.Pairwise fun x y=> x.1≤y.1):D=((JbB p l).ents a).map e:=by
 have hn:=Jiz (p:=Jh p) (Jbl.1 h).2.1 ha Jfd (Jev (p:=p) (Jdh h))
 refine JfC (key:=(·.1)) (hp.trans ((Jgd _).symm.map e)) hs ?_ ?_
 ·rw [List.pairwise_map]
  exact (Jyj _).imp fun h=> by rw [he,he];exact h
 ·refine (hp.map (·.1)).nodup_iff.2 ?_
  rw [List.map_map,show ((fun x:Nat×AV=> x.1)∘e)=(fun x:PEnt=> x.num) from funext he]
  exact hn
theorem Jwj {p:Pol} {l:List TRow} (h:(Jaq p l).2=0) {a:Nat} {D:List (Nat×AV)} (e:PSub→Nat×AV) (he:∀x,(e x).1=x.num) (hp:D.Perm ((JeI l (Jam (Jh p).rules) a).map e)) (hs:D.Pairwise fun x y=> x.1≤y.1):D=((JbB p l).subs a).map e:=by
 have hn:=JiA (m:=a) (Jbl.1 h).2.1 Jfd (Jev (p:=p) (Jdh h))
 refine JfC (key:=(·.1)) (hp.trans ((Jiy _).symm.map e)) hs ?_ ?_
 ·rw [List.pairwise_map]
  exact (Jqt _).imp fun h=> by rw [he,he];exact h
 ·refine (hp.map (·.1)).nodup_iff.2 ?_
  rw [List.map_map,show ((fun x:Nat×AV=> x.1)∘e)=(fun x:PSub=> x.num) from funext he]
  exact hn
end Go.Proofs.W

namespace Go.Proofs.W
open Go.Vl
set_option maxRecDepth 100000
def JI:PRul:=⟨[],0⟩
def JdZ (r:PRul):AV:= .ag [Jbi r.conds,u32 (r.code:Nat)]
def J0 (l:List PRul):AV:=JK 2 JdZ JI l
def ent0:PEnt:=⟨0, []⟩
def sub0:PSub:=⟨0,0⟩
def JaN (e:PEnt):AV:= .ag [u32 (e.num:Nat),J0 e.rules]
def JgS (s:PSub):AV:= .ag [u32 (s.num:Nat),u32 (s.code:Nat)]
def Jo1:Plan:=⟨0,false,fun _=> [],fun _=> []⟩
def Jca (P:Plan):AV:= .ag [u32 (P.dflt:Nat),Ji P.x32,JK 2 JaN ent0 (P.ents 0),JK 2 JaN ent0 (P.ents 1),JK 2 JaN ent0 (P.ents 2),JK 2 JaN ent0 (P.ents 3),JK 2 JaN ent0 (P.ents 4),JK 2 JgS sub0 (P.subs 0),JK 2 JgS sub0 (P.subs 1)]
end Go.Proofs.W

namespace Go.Proofs.W
open Go.Vl
set_option maxRecDepth 100000
theorem Jyn {arg op:Int} {mask value:Nat} (h:value > 4294967295):Jbx ⟨arg,op,mask,value⟩=(cnd0,if op=2∨op=3 then 1 else 2):=if_pos h
theorem JkZ {arg op:Int} {mask value:Nat} (h:¬value > 4294967295):Jbx ⟨arg,op,mask,value⟩=if op=7 then (if mask&&& 4294967295=0 then (cnd0,1) else (⟨arg,op,mask&&& 4294967295,value⟩,0)) else (⟨arg,op,mask,value⟩,0):=if_neg h
theorem JoI (c:Cnd) (ho:c.ok):Tells Tryz.prog 118 [J3 c] (.tup [J3 (Jbx c).1,int (Jbx c).2]):=by
 obtain ⟨arg,op,mask,value⟩:=c
 refine Jd Tryz.func118 rfl rfl fun nx=> ?_
 have hb:Jbp .and .u64 mask 4294967295=((mask&&& 4294967295:Nat):Int):=Jzq ho.1 Dc
 (repeat' (refine stp ?_;intro c h;cases c))
 all_goals
  refine stp ?_
  refine Jl rfl ⟨rfl,trivial⟩ (AVle.of_eq ?_)
  (try simp only [Jb5, Jb6, JcI, JcJ, Jcx, Jcy] at *)
  first
   | (rw [Jyn Om];first | (rw [if_pos Om];rfl) | (rw [if_neg Om];rfl))
   | (exfalso;omega)
   | (rw [JkZ Om,if_neg Om];rfl)
   | (rw [JkZ Om,if_pos Om,if_pos Om];rfl)
   | (rw [JkZ Om,if_pos Om,if_neg Om];refine Eq.trans ?_ (congrArg (fun z:Int=> AV.tup [.ag [int arg,int op, .v (.int .u64 z), .v (.int .u64 value)],int 0]) hb);rfl)
theorem Jkp (a:A2) (h:JbT a.1 a.2=true):Tells Tryz.prog 20 [JxP a] (u32 (JaU a:Nat)):=by
 refine Jd Tryz.func20 rfl rfl fun nx=> ?_
 refine stp ?_
 refine Ja rfl rfl (Js0 a h) ⟨Rf,trivial⟩ fun nx2=> ?_
 refine stp ?_
 exact Jb rfl Rf
def JCj:Option PRul→AV
 | none=> .tup [JdZ JI,Ji false]
 | some q=> .tup [JdZ q,Ji true]
theorem Jfq {α:Type} {e:α→AV} {d:α} {sz:Nat} {l:List α} {x:α} {f':Nat→AV} {i j:Vl.Id} (hf:f' 0=e x) (h:i.2=j.2):AVle (.os sz (l.length+1) (Jcu l.length (fun k=> e (l.getD k d)) f') (some i)) (.os sz (l++ [x]).length (fun k=> e ((l++ [x]).getD k d)) (some j)):=by
 rw [List.length_append]
 refine (AVle.os_fun (Jbh (fun k hk=> ?_) ?_)).trans (AVle.os_nm h)
 ·rw [show (l++ [x]).getD k d=l.getD k d by simp [List.getD,List.getElem?_append_left hk]]
 ·rw [hf,show (l++ [x]).getD l.length d=x by simp [List.getD]]
theorem Jut {cs:List Cnd} {i:Nat} (hi:i < cs.length):(cs.take (i+1)).filterMap Jji=(cs.take i).filterMap Jji++(Jji (cs.getD i cnd0)).toList:=by
 rw [JaG cnd0 hi,List.filterMap_append]
 congr 1
theorem Juu {cs:List Cnd} (h:∀j,j < cs.length→JfL (cs.getD j cnd0)=false):cs.any JfL=false:=by
 rw [Bool.eq_false_iff]
 intro ha
 obtain ⟨c,hc,hb⟩:=List.any_eq_true.1 ha
 obtain ⟨j,hj,rfl⟩:=List.getElem_of_mem hc
 have:=h j hj
 rw [show cs.getD j cnd0=cs[j] by simp [List.getD,hj]] at this
 rw [this] at hb;cases hb
theorem Jyo {cs:List Cnd} {i:Nat} (hi:i < cs.length) (h:JfL (cs.getD i cnd0)=true):cs.any JfL=true:=by
 refine List.any_eq_true.2 ⟨cs.getD i cnd0, ?_,h⟩
 simp [List.getD,hi]
theorem JqC {oi:Option Vl.Id} {n:Nat}:Jpm oi n (Jac oi n):=by
 have:=JrO (oi:=oi) (n:=n) (pm:= [])
 rwa [List.append_nil] at this
def Juv (l:List Cnd):Nat→AV:=fun k=> J3 (l.getD k cnd0)
set_option maxHeartbeats 2000000 in
theorem JmX (r:PRul) (hok:∀c∈r.conds,c.ok) (hl:r.conds.length≤1000000):Tells Tryz.prog 67 [JdZ r] (JCj (JgJ r)):=by
 obtain ⟨cs,k⟩:=r
 dsimp only at hok hl
 refine Jd Tryz.func67 rfl rfl fun nx=> ?_
 refine stp ?_
 refine Js (fun y:Nat×List Cnd×Option Nat×Nat=> mk 38 [(1, .bp (0,nx) 0),(2, .bp (1,nx+1) 0),(3,Ji false),(4, .bp (2,nx+2) 0),(13,Jbi cs),(14,int cs.length),(15,int y.1)] ⟨[((2,nx+2), .c [.os 4 y.2.1.length (Juv y.2.1) (nmd y.2.2.1),u32 (k:Nat)]),((1,nx+1), .c [.os 0 0 (fun _=> .any) none,u32 0]),((0,nx), .c [Jbi cs,u32 (k:Nat)])],Jac (nmd y.2.2.1) (y.2.1.length * 4),y.2.2.2,3⟩)
  (fun y=> y.1≤cs.length∧y.2.1=(cs.take y.1).filterMap Jji∧(y.2.2.1=none→y.2.1= [])∧∀j,j < y.1→JfL (cs.getD j cnd0)=false) (fun y=> cs.length - y.1) ?_ ?_
 ·exact ⟨(0, [],none,nx+3),⟨Nat.zero_le _,rfl,fun _=> rfl,fun j h=> absurd h (Nat.not_lt_zero _)⟩,Jc (pm:= []) _ [] rfl rfl Sf Sf ⟨rfl,⟨AVle.os_nil,Rf,trivial⟩,Bf⟩ trivial ⟨Rf,Rf,Rf,Rf,Rf,Rf,Rf,trivial⟩⟩
 ·rintro ⟨i,L,oi,nx1⟩ ⟨h1,hL,h2,h3⟩
  dsimp only at h1 hL h2 h3
  have hal:L.length≤i:=by rw [hL];exact Nat.le_trans (List.length_filterMap_le _ _) (by simp;omega)
  refine stp ?_
  intro c g;cases c
  ·have g:=Jw g
   try dsimp only at g
   have hi:i=cs.length:=by omega
   subst hi
   rw [List.take_length] at hL
   have hR:JgJ ⟨cs,k⟩=some ⟨L,k⟩:=by
    unfold JgJ
    dsimp only
    rw [Juu h3,hL];rfl
   rw [hR]
   refine stp ?_
   exact Jl rfl ⟨rfl,trivial⟩ (AVle.tups (cs:= [_,_]) ⟨AVle.ags (cs:= [_,_]) ⟨AVle.os_sl,Rf,trivial⟩,Rf,trivial⟩)
  ·have g:=Jv g
   try dsimp only at g
   have hi:i < cs.length:=by omega
   have hn:=JoI (cs.getD i cnd0) (Jql hok hi)
   have hnx:=Jut hi
   have hst:=Jud (cs.getD i cnd0)
   refine stp ?_
   refine ⟨Bd, ?_⟩
   refine stp ?_
   refine Ja rfl rfl hn ⟨Rf,trivial⟩ fun nx2=> ?_
   refine stp ?_
   intro c t2;cases c
   ·have ht2:(Jbx (cs.getD i cnd0)).2≠2:=fun e=> by rw [e] at t2;cases t2
    have hnev:JfL (cs.getD i cnd0)=false:=decide_eq_false ht2
    have hlast:∀j,j < i+1→JfL (cs.getD j cnd0)=false:=fun j hj=> by
     rcases Nat.lt_or_ge j i with h | h
     ·exact h3 j h
     ·obtain rfl:j=i:=by omega
      exact hnev
    refine stp ?_
    intro c t0;cases c
    ·have ht0:(Jbx (cs.getD i cnd0)).2≠0:=fun e=> by rw [e] at t0;cases t0
     rw [show Jji (cs.getD i cnd0)=none from if_neg ht0] at hnx
     refine stp ?_
     exact back (i+1,L,oi,nx2+1) ⟨hi,by dsimp only;rw [hnx,← hL];exact (List.append_nil _).symm,h2,hlast⟩ Dm (Jc _ _ rfl rfl (.cons _ (.cons _ Sf)) Sf Bf Pf ⟨Rf,Rf,Rf,Rf,Rf,Rf,Lw,trivial⟩)
    ·have ht0:(Jbx (cs.getD i cnd0)).2=0:=by
      have:=of_decide_eq_true (p:=((Jbx (cs.getD i cnd0)).2:Int)=0) t0.symm
      omega
     rw [show Jji (cs.getD i cnd0)=some (Jbx (cs.getD i cnd0)).1 from if_pos ht0] at hnx
     refine stp ?_
     refine ⟨JqC,JM rfl,by show (L.length+1) * 32≤_;omega,by show L.length+1≤_;omega, ?_⟩
     refine stp ?_
     exact back (i+1,L++ [(Jbx (cs.getD i cnd0)).1],some (nx2+1),nx2+2) ⟨hi,by dsimp only;rw [hnx,← hL];rfl,(fun h=> by cases h),hlast⟩ Dm (Jc (bx:= [((2,nx+2), .c [.os 4 (L++ [(Jbx (cs.getD i cnd0)).1]).length (Juv (L++ [(Jbx (cs.getD i cnd0)).1])) (some (0,nx2+1)),u32 (k:Nat)]),((1,nx+1), .c [.os 0 0 (fun _=> .any) none,u32 0]),((0,nx), .c [Jbi cs,u32 (k:Nat)])]) _ [((5,nx2+1),(L.length+1) * 4)] rfl rfl (.cons _ (.cons _ Sf)) (.cons_cons _ (List.nil_sublist _)) ⟨rfl,⟨Jfq (e:=J3) rfl rfl,Rf,trivial⟩,Bf⟩ ⟨rfl,by rw [List.length_append];rfl,trivial⟩ ⟨Rf,Rf,Rf,Rf,Rf,Rf,Lw,trivial⟩)
   ·have ht2:(Jbx (cs.getD i cnd0)).2=2:=by
     have:=of_decide_eq_true (p:=((Jbx (cs.getD i cnd0)).2:Int)=2) t2.symm
     omega
    have hR:JgJ ⟨cs,k⟩=none:=if_pos (Jyo hi (decide_eq_true ht2))
    rw [hR]
    refine stp ?_
    exact Jl rfl ⟨rfl,trivial⟩ (AVle.tups (cs:= [_,_]) ⟨AVle.ags (cs:= [_,_]) ⟨AVle.os_sl0,Rf,trivial⟩,Rf,trivial⟩)
end Go.Proofs.W
