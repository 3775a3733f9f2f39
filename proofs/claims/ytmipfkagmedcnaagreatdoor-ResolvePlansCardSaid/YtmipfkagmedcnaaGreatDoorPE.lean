import Derived.Test.YtmipfkagmedcnaaGreatDoorPD
import Derived.Test.YtmipfkagmedcnaaGreatDoorPC
import Derived.Ground.NamesProg
import Derived.Shelf.Lay
import Derived.Shelf.Small.Bits
import Derived.Lib.ItoaNum
import Derived.Sort.LotA
import Derived.Shelf.SortM.Plain
import Derived.Shelf.SortM.SortNone
import Derived.Shelf.SlGeneric
import Derived.Ground.SlgmProg
import Derived.Shelf.Strconv.Itoa3
import Derived.Test.YtmipfkagmedcnaaGreatDoorProg
set_option linter.unusedVariables false
set_option linter.unusedSimpArgs false
namespace Go.Proofs.W
open Go.Vl
set_option maxRecDepth 100000
def JaK (l:List TRow) (s:ByteArray):TRow:=if JaD l s then l.getD (Ja5 l s) trow0 else trow0
set_option maxHeartbeats 2000000 in
theorem Jtq (l:List TRow) (s:ByteArray) (hl:l.length≤1000000) (hs:Jhr l s):Tells Tryz.prog 108 [Jv l,Jg s] (.tup [Jb (JaD l s&& decide ((JaK l s).a2≥0)),Jb (decide ((JaK l s).mux > 0))]):=by
 have hf:=Jgd l s hl hs
 unfold Jkm at hf
 unfold JaK
 cases hb:JaD l s with
 | true=>
   rw [hb,if_pos rfl] at hf
   rw [if_pos rfl]
   generalize l.getD (Ja5 l s) trow0=r at hf⊢
   cases hd:decide (r.a2≥0) with
   | true=>
     refine Jf Tryz.func108 rfl rfl fun nx=> ?_
     refine stp ?_
     refine Je rfl rfl hf ⟨Rf,Rf,trivial⟩ fun nx2=> ?_
     refine stp ?_
     refine JZ 11 _ (fun _=> false) (fun _=> false) [0,1,2,3,4,5,6,7,8,9,10] (by kernel_rfl) (by kernel_rfl) (HB.refl _) ?_
     refine stp ?_
     refine ⟨_,JJ rfl rfl rfl rfl trivial, ?_⟩
     refine stp ?_
     refine ⟨_,JJ rfl rfl rfl rfl (by first | trivial | exact ⟨rfl,Nat.le_of_ble_eq_true rfl⟩ | exact ⟨by decide,by decide⟩), ?_⟩
     refine stp ?_
     refine ⟨_,JJ rfl rfl rfl rfl (by first | trivial | exact ⟨rfl,Nat.le_of_ble_eq_true rfl⟩), ?_⟩
     refine stp ?_
     refine ⟨.v (.bool true),Jem rfl rfl rfl rfl trivial hd, ?_⟩
     refine stp ?_
     exact Jh rfl trivial Rf
   | false=>
     refine Jf Tryz.func108 rfl rfl fun nx=> ?_
     refine stp ?_
     refine Je rfl rfl hf ⟨Rf,Rf,trivial⟩ fun nx2=> ?_
     refine stp ?_
     refine JZ 11 _ (fun _=> false) (fun _=> false) [0,1,2,3,4,5,6,7,8,9,10] (by kernel_rfl) (by kernel_rfl) (HB.refl _) ?_
     refine stp ?_
     refine ⟨_,JJ rfl rfl rfl rfl trivial, ?_⟩
     refine stp ?_
     refine ⟨_,JJ rfl rfl rfl rfl (by first | trivial | exact ⟨rfl,Nat.le_of_ble_eq_true rfl⟩ | exact ⟨by decide,by decide⟩), ?_⟩
     refine stp ?_
     refine ⟨_,JJ rfl rfl rfl rfl (by first | trivial | exact ⟨rfl,Nat.le_of_ble_eq_true rfl⟩), ?_⟩
     refine stp ?_
     refine ⟨.v (.bool false),Jem rfl rfl rfl rfl trivial hd, ?_⟩
     refine stp ?_
     exact Jh rfl trivial Rf
 | false=>
   rw [hb,if_neg Dc] at hf
   rw [if_neg Dc]
   refine Jf Tryz.func108 rfl rfl fun nx=> ?_
   refine stp ?_
   refine Je rfl rfl hf ⟨Rf,Rf,trivial⟩ fun nx2=> ?_
   refine stp ?_
   refine JZ 11 _ (fun _=> false) (fun _=> false) [0,1,2,3,4,5,6,7,8,9,10] (by kernel_rfl) (by kernel_rfl) (HB.refl _) ?_
   refine stp ?_
   refine ⟨_,JX rfl rfl rfl, ?_⟩
   refine stp ?_
   refine ⟨_,JX rfl rfl rfl, ?_⟩
   refine stp ?_
   refine ⟨_,JX rfl rfl rfl, ?_⟩
   refine stp ?_
   refine ⟨_,JX rfl rfl rfl, ?_⟩
   refine stp ?_
   exact Jh rfl trivial Rf
end Go.Proofs.W

namespace Go.Proofs.W
open Go.Vl
set_option maxRecDepth 100000
structure Ct where
 name:ByteArray
 many:Nat
deriving DecidableEq
end Go.Proofs.W

namespace Go.Proofs.W
open Go.Vl
set_option maxRecDepth 100000
end Go.Proofs.W

namespace Go.Proofs.W
open Go.Vl
set_option maxRecDepth 100000
end Go.Proofs.W

namespace Go.Proofs.W
open Go.Vl
set_option maxRecDepth 100000
theorem Jww {a b:Int} (h:a=b):AVle (.v (.int .u32 a)) (u32 b):=h ▸ Rf
theorem JxG:Jcj Tryz.prog 139 9 [(0,int 0),(1,int 2147483648),(2,int 0),(3,int 196608),(4,int 327680),(5,int 2143289344),(6,int 2146435072),(7,int 2147221504),(8,int 2147418112)]=some (3, [int 0,int 2147483648,int 0,int 196608,int 327680,int 2143289344,int 2146435072,int 2147221504,int 2147418112]):=by kernel_rfl
theorem Jtr (k:Nat) (hk:k < 8):Tells Tryz.prog 81 [int (k+1:Nat)] (int (kb k)):=by
 refine Jf Tryz.func81 rfl rfl fun nx=> ?_
 (refine JB ?_;refine JE ?_;refine JB ?_)
 refine JO (fun n=> match n with | 0=> true | _=> false) 1 ?_
 refine Jh3 rfl JxG ?_
 refine stp ?_
 refine ⟨⟨by omega,by omega⟩, ?_⟩
 rcases k with _ | _ | _ | _ | _ | _ | _ | _ | k
 iterate 8
  ·refine stp ?_
   exact Jd rfl Rf
 omega
theorem JrH (k n:Nat) (hk:k < 8) (hn:n≤km k):Tells Tryz.prog 113 [act (k+1:Nat) n] (.tup [u32 (kb k+n:Nat),int 0]):=by
 obtain ⟨s,m,hr1,hr2⟩:=JxE k hk
 obtain ⟨s',c',m',h3,h4,_⟩:=Jhp k hk
 have hm:m=m':=by
  rw [hr1] at h3
  have:=AV.ag.inj h3
  simp at this
  exact this.2.2
 rw [← hm] at h4
 clear h3
 have hle:=JrA hk
 have ho:=Jog k hk
 rw [hr1] at ho
 have hR:=JjB ((k+1:Nat):Int) (n:Int)
 have hkm:((km k:Nat):Int)=JfI ((k+1:Nat):Int):=by
  clear hr1 hr2 h4 hle ho hR hn
  rcases k with _ | _ | _ | _ | _ | _ | _ | _ | k
  all_goals first | decide | omega
 rw [show JaA ((k+1:Nat):Int) (n:Int)=true by unfold JaA;rw [← hkm];simp;omega] at hR
 have e1:IntKind.u32.wrap (n:Int)=(n:Int):=by simp [IntKind.wrap,IntKind.signed,IntKind.bits];omega
 have e2:IntKind.u32.wrap ((kb k:Int)+(n:Int))=((kb k+n:Nat):Int):=by
  rw [show (kb k:Int)+(n:Int)=((kb k+n:Nat):Int) by omega]
  simp [IntKind.wrap,IntKind.signed,IntKind.bits];omega
 rcases h4 with rfl | ⟨n',rfl⟩
 all_goals
  refine Jf Tryz.func113 rfl rfl fun nx=> ?_
  refine stp ?_
  refine Je rfl rfl hR ⟨Rf,trivial⟩ fun nx1=> ?_
  refine stp ?_
  refine Je rfl rfl ho ⟨Rf,trivial⟩ fun nx2=> ?_
  refine stp ?_
  refine Jd rfl (AVle.tups ⟨Jww ?_,Rf,trivial⟩)
  show IntKind.u32.wrap ((kb k:Int)+IntKind.u32.wrap (n:Int))=_
  rw [e1,e2]
theorem JrI (k n:Nat) (hk:k < 8) (hn:n≤km k):Tells Tryz.prog 30 [act (k+1:Nat) n] (int (kb k+n:Nat)):=by
 have hle:=JrA hk
 refine Jf Tryz.func30 rfl rfl fun nx=> ?_
 refine stp ?_
 (refine Ju 6 ?_ ?_ ?_ ?_;(· kernel_rfl);(· kernel_rfl);(· kernel_rfl))
 refine stp ?_
 refine JP (Jz rfl rfl (Jtr k hk) ⟨Rf,trivial⟩ (NoId.v _)) ?_
 refine stp ?_
 refine Jd rfl (Jl ?_)
 rw [Jac Om Om]
 omega
end Go.Proofs.W

namespace Go.Proofs.W
open Go.Vl
set_option maxRecDepth 100000
def hB (x:Nat→Nat) (c:Cnd):Bool:=JU c&& Js5 c ([x 0,x 1,x 2,x 3,x 4,x 5].getD c.arg.toNat 0)
theorem JrJ {l:List Rul} {q:Rul→Bool} {i:Nat} (hi:i < l.length) (h:∀j,j < i→q (l.getD j rul0)=false) (hq:q (l.getD i rul0)=true):l.find? q=some (l.getD i rul0):=by
 have e:l.getD i rul0=l[i]:=by simp [List.getD,hi]
 rw [e] at hq⊢
 rw [List.find?_eq_some_iff_getElem]
 refine ⟨hq,i,hi,rfl,fun j hj=> ?_⟩
 have:=h j hj
 rw [show l.getD j rul0=l[j] by simp [List.getD,show j < l.length by omega]] at this
 rw [this];rfl
end Go.Proofs.W

namespace Go.Proofs.W
open Go.Vl
set_option maxRecDepth 100000
end Go.Proofs.W

namespace Go.Proofs.W
open Go.Vl
set_option maxRecDepth 100000
def JjC (l:List TRow):Bool:=decide (l.length≤40)&& !l.any fun r=> decide (60 < r.name.size)
end Go.Proofs.W

namespace Go.Proofs.W
open Go.Vl
set_option maxRecDepth 100000
end Go.Proofs.W

namespace Go.Proofs.W
open Go.Vl
set_option maxRecDepth 100000
theorem cnd_eqb {c d:Cnd}:(c.arg ==d.arg&& (c.op ==d.op&& ((c.mask:Int) ==(d.mask:Int)&& ((c.value:Int) ==(d.value:Int)&& true))))=decide (c=d):=by
 rw [Bool.eq_iff_iff]
 simp only [Bool.and_eq_true,beq_iff_eq,decide_eq_true_eq,and_true]
 obtain ⟨a1,a2,a3,a4⟩:=c
 obtain ⟨b1,b2,b3,b4⟩:=d
 simp
 omega
theorem Jmf {α:Type} {a b:List α} {d:α} (hl:a.length=b.length) (h:∀j,j < a.length→a.getD j d=b.getD j d):a=b:=by
 refine List.ext_getElem hl fun j h1 h2=> ?_
 have:=h j h1
 simpa [List.getD,h1,h2] using this
theorem JpI (a b:List Cnd) (ha:a.length≤1000000):Tells Tryz.prog 196 [JW a,JW b] (Jb (decide (a=b))):=by
 refine Jf Tryz.func196 rfl rfl fun nx=> ?_
 refine stp ?_
 intro c g1;cases c
 rotate_left
 ·have g1:((a.length:Nat):Int)≠((b.length:Nat):Int):=Jab.1 g1
  refine stp ?_
  exact Jd rfl (Jt (by rw [eq_comm];exact decide_eq_false (fun h=> g1 (by rw [h]))))
 have g1:((a.length:Nat):Int)=((b.length:Nat):Int):=Jaa.1 g1
 have hl:a.length=b.length:=by omega
 refine stp ?_
 refine Jo (fun s:Nat×Nat=> mk 26 [(0,JW a),(1,JW b),(12,int a.length),(13,int s.1)] ⟨[], [],s.2,0⟩) (fun s=> s.1≤a.length∧∀j,j < s.1→a.getD j cnd0=b.getD j cnd0) (fun s=> a.length - s.1) ?_ ?_
 ·exact ⟨(0,nx),⟨Nat.zero_le _,fun j h=> absurd h (Nat.not_lt_zero _)⟩,J5 rfl rfl ⟨Rf,Rf,Rf,Rf,trivial⟩⟩
 ·rintro ⟨i,nx2⟩ ⟨h3,h4⟩
  dsimp only at h3 h4
  refine stp ?_
  intro c h5;cases c
  ·have h6:=Jm h5
   dsimp only at h6
   obtain rfl:i=a.length:=by omega
   have he:=Jmf hl h4
   refine stp ?_
   exact Jd rfl (Jt (by rw [eq_comm];exact decide_eq_true he))
  ·have h6:=Jn h5
   dsimp only at h6
   have hi:i < a.length:=by omega
   refine stp ?_
   (refine Ju 9 ?_ ?_ ?_ ?_;(· kernel_rfl);(· kernel_rfl);(· kernel_rfl))
   refine stp ?_
   refine ⟨⟨by dsimp only;omega,by dsimp only;omega⟩, ?_⟩
   refine stp ?_
   refine ⟨⟨by dsimp only;omega,by dsimp only;omega⟩, ?_⟩
   refine stp ?_
   intro c hc
   have hc2:c= !decide (a.getD i cnd0=b.getD i cnd0):=hc.trans (congrArg (!·) cnd_eqb)
   cases c
   ·have he:a.getD i cnd0=b.getD i cnd0:=by simpa using hc2
    refine stp ?_
    refine back (i+1,nx2) ⟨by dsimp only;omega,fun j hj=> ?_⟩ Dm (J5 rfl rfl ⟨Rf,Rf,Rf,Jl (JF Dm),trivial⟩)
    dsimp only at hj
    rcases Nat.lt_or_ge j i with h | h
    ·exact h4 j h
    ·obtain rfl:j=i:=by omega
     exact he
   ·have he:¬a.getD i cnd0=b.getD i cnd0:=by simpa using hc2
    refine stp ?_
    exact Jd rfl (Jt (by rw [eq_comm];exact decide_eq_false (fun h=> he (by rw [h]))))
theorem Jqi {a b:A2}:(a.1 ==b.1&& (a.2 ==b.2&& true))=decide (a=b):=by
 rw [Bool.eq_iff_iff]
 simp only [Bool.and_eq_true,beq_iff_eq,decide_eq_true_eq,and_true]
 exact (Prod.ext_iff).symm
end Go.Proofs.W

namespace Go.Proofs.W
open Go.Vl
set_option maxRecDepth 100000
def okN (n:Nat):Bool:=(decide (97≤n)&& decide (n≤122))|| (decide (48≤n)&& decide (n≤57))|| decide (n=95)
theorem Jts:∀n,n < 256→signsB.data.toList.contains (UInt8.ofNat n)=okN n:=by decide+kernel
theorem JpJ:∀n,n < 256→lettersB.data.toList.contains (UInt8.ofNat n)=(decide (97≤n)&& decide (n≤122)):=by decide+kernel
theorem Ju9 (b:UInt8):signsB.data.toList.contains b=okN b.toNat:=by
 have:=Jts b.toNat b.toNat_lt
 rwa [UInt8.ofNat_toNat] at this
theorem JrK (b:UInt8):lettersB.data.toList.contains b=(decide (97≤b.toNat)&& decide (b.toNat≤122)):=by
 have:=JpJ b.toNat b.toNat_lt
 rwa [UInt8.ofNat_toNat] at this
theorem Jmg (l:List UInt8):Jag l=true↔l.length≠0∧l.length≤30∧97≤(l.headD 0).toNat∧(l.headD 0).toNat≤122∧l≠Jea∧l≠Jjz∧∀j,j < l.length→okN (l.getD j 0).toNat=true:=by
 unfold Jag
 simp only [Bool.and_eq_true,Bool.not_eq_true',beq_eq_false_iff_ne,decide_eq_true_eq,JrK,List.all_eq_true,Ju9]
 constructor
 ·rintro ⟨h1,h2,h3,h4,h5,h6,h7⟩
  refine ⟨fun h=> h1 (List.length_eq_zero_iff.1 h),h4,h6,h7,h2,h3,fun j hj=> ?_⟩
  exact h5 _ (by simp [List.getD,hj])
 ·rintro ⟨h1,h2,h3,h4,h5,h6,h7⟩
  refine ⟨fun h=> h1 (by rw [h];rfl),h5,h6,h2,fun x hx=> ?_,h3,h4⟩
  obtain ⟨j,hj,rfl⟩:=List.getElem_of_mem hx
  have:=h7 j hj
  simpa [List.getD,hj] using this
theorem JcO {l:List UInt8} (h:¬(l.length≠0∧l.length≤30∧97≤(l.headD 0).toNat∧(l.headD 0).toNat≤122∧l≠Jea∧l≠Jjz∧∀j,j < l.length→okN (l.getD j 0).toNat=true)):Jag l=false:=by
 rw [← Jmg] at h
 simpa using h
theorem Jge {n:Nat} (h:(97≤n∧n≤122)∨(48≤n∧n≤57)∨n=95):okN n=true:=by
 unfold okN
 simp only [Bool.or_eq_true,Bool.and_eq_true,decide_eq_true_eq]
 omega
theorem JiH {n:Nat} (h:¬((97≤n∧n≤122)∨(48≤n∧n≤57)∨n=95)):okN n=false:=by
 unfold okN
 simp only [Bool.or_eq_false_iff,Bool.and_eq_false_iff,decide_eq_false_iff_not]
 omega
theorem Jia (s:ByteArray) (i:Nat):s.data.getD i 0=s.data.toList.getD i 0:=by
 simp [Array.getD_eq_getD_getElem?,List.getD]
theorem Jgy (l:List UInt8):l.headD 0=l.getD 0 0:=by cases l <;> rfl
set_option maxHeartbeats 1000000 in
theorem Jjf (s:ByteArray):Tells Tryz.prog 299 [Jg s] (Jb (Jag s.data.toList)):=by
 have hsz:s.size=s.data.toList.length:=rfl
 refine Jf Tryz.func299 rfl rfl fun nx=> ?_
 refine stp ?_
 intro c t1;cases c
 rotate_left
 ·have t1:((s.size:Nat):Int)=0:=J4.1 t1
  refine stp ?_
  exact Jd rfl (Jt (JcO (fun h=> h.1 Om)).symm)
 have t1:((s.size:Nat):Int)≠0:=J3.1 t1
 refine stp ?_
 intro c t2;cases c
 rotate_left
 ·have t2:((s.size:Nat):Int) > 30:=Jn t2
  refine stp ?_
  exact Jd rfl (Jt (JcO (fun h=> absurd h.2.1 Om)).symm)
 have t2:¬((s.size:Nat):Int) > 30:=Jm t2
 refine stp ?_
 refine ⟨⟨by decide,by show (0:Int) < (s.size:Int);omega⟩, ?_⟩
 refine stp ?_
 intro c t3;cases c
 rotate_left
 ·have t3:(((s.data.getD 0 0).toNat:Nat):Int) < 97:=Jn t3
  rw [Jia,← Jgy] at t3
  refine stp ?_
  exact Jd rfl (Jt (JcO (fun h=> absurd h.2.2.1 Om)).symm)
 have t3:¬(((s.data.getD 0 0).toNat:Nat):Int) < 97:=Jm t3
 rw [Jia,← Jgy] at t3
 refine stp ?_
 refine ⟨⟨by decide,by show (0:Int) < (s.size:Int);omega⟩, ?_⟩
 refine stp ?_
 intro c t4;cases c
 rotate_left
 ·have t4:(((s.data.getD 0 0).toNat:Nat):Int) > 122:=Jn t4
  rw [Jia,← Jgy] at t4
  refine stp ?_
  exact Jd rfl (Jt (JcO (fun h=> absurd h.2.2.2.1 Om)).symm)
 have t4:¬(((s.data.getD 0 0).toNat:Nat):Int) > 122:=Jm t4
 rw [Jia,← Jgy] at t4
 refine stp ?_
 intro c t5
 rw [Lib.toList_data,Lib.toList_data] at t5
 cases c
 rotate_left
 ·have t5:s.data.toList=Jea:=beq_iff_eq.1 t5.symm
  refine stp ?_
  exact Jd rfl (Jt (JcO (fun h=> h.2.2.2.2.1 t5)).symm)
 have t5:¬s.data.toList=Jea:=beq_eq_false_iff_ne.1 t5.symm
 refine stp ?_
 intro c t6
 rw [Lib.toList_data,Lib.toList_data] at t6
 cases c
 rotate_left
 ·have t6:s.data.toList=Jjz:=beq_iff_eq.1 t6.symm
  refine stp ?_
  exact Jd rfl (Jt (JcO (fun h=> h.2.2.2.2.2.1 t6)).symm)
 have t6:¬s.data.toList=Jjz:=beq_eq_false_iff_ne.1 t6.symm
 refine stp ?_
 refine Jo (fun y:Nat×Nat=> mk 59 [(0,Jg s),(3,int y.1)] ⟨[], [],y.2,0⟩) (fun y=> y.1≤s.size∧∀j,j < y.1→okN (s.data.toList.getD j 0).toNat=true) (fun y=> s.size - y.1) ?_ ?_
 ·exact ⟨(0,nx),⟨Nat.zero_le _,fun j h=> absurd h (Nat.not_lt_zero _)⟩,J5 rfl rfl ⟨Rf,Rf,trivial⟩⟩
 ·rintro ⟨i,nx2⟩ ⟨h3,h4⟩
  dsimp only at h3 h4
  refine stp ?_
  intro c g;cases c
  ·have g:¬((i:Nat):Int) < ((s.size:Nat):Int):=Jm g
   obtain rfl:i=s.size:=by omega
   have:Jag s.data.toList=true:=(Jmg _).2 ⟨by omega,by omega,by omega,by omega,t5,t6,h4⟩
   rw [this]
   refine stp ?_
   exact Jd rfl Rf
  ·have g:((i:Nat):Int) < ((s.size:Nat):Int):=Jn g
   have hbad:okN (s.data.toList.getD i 0).toNat=false→false=Jag s.data.toList:=fun h=> (JcO (fun hh=> by have:=hh.2.2.2.2.2.2 i Om;rw [h] at this;cases this)).symm
   refine stp ?_
   refine ⟨⟨by dsimp only;omega,by dsimp only;omega⟩, ?_⟩
   have hgood:okN (s.data.toList.getD i 0).toNat=true→∀j,j < i+1→okN (s.data.toList.getD j 0).toNat=true:=fun h j hj=> by
    rcases Nat.lt_or_ge j i with h1 | h1
    ·exact h4 j h1
    ·obtain rfl:j=i:=by omega
     exact h
   have hval:(((s.data.getD i 0).toNat:Nat):Int)=(((s.data.toList.getD i 0).toNat:Nat):Int):=by rw [Jia]
   generalize (s.data.toList.getD i 0).toNat=n at hbad hgood hval
   refine stp ?_
   intro c u1
   have u1:c=decide ((n:Int)≥97):=u1.trans (by rw [← hval];rfl)
   cases c
   ·have u1:¬(n:Int)≥97:=Jm u1
    refine stp ?_
    intro c u3
    have u3:c=decide ((n:Int)≥48):=u3.trans (by rw [← hval];rfl)
    cases c
    ·have u3:¬(n:Int)≥48:=Jm u3
     refine stp ?_
     intro c u5
     have u5:c=((n:Int) ==95):=u5.trans (by rw [← hval];rfl)
     cases c
     ·have u5:(n:Int)≠95:=J3.1 u5
      refine stp ?_
      exact Jd rfl (Jt (hbad (JiH Om)))
     ·have u5:(n:Int)=95:=J4.1 u5
      refine stp ?_
      refine back (i+1,nx2) ⟨by dsimp only;omega,hgood (Jge Om)⟩ Dm (J5 rfl rfl ⟨Rf,Jl (JF Dm),trivial⟩)
    ·have u3:(n:Int)≥48:=Jn u3
     refine stp ?_
     intro c u4
     have u4:c=decide ((n:Int)≤57):=u4.trans (by rw [← hval];rfl)
     cases c
     ·have u4:¬(n:Int)≤57:=Jm u4
      refine stp ?_
      intro c u5
      have u5:c=((n:Int) ==95):=u5.trans (by rw [← hval];rfl)
      cases c
      ·have u5:(n:Int)≠95:=J3.1 u5
       refine stp ?_
       exact Jd rfl (Jt (hbad (JiH Om)))
      ·have u5:(n:Int)=95:=J4.1 u5
       refine stp ?_
       refine back (i+1,nx2) ⟨by dsimp only;omega,hgood (Jge Om)⟩ Dm (J5 rfl rfl ⟨Rf,Jl (JF Dm),trivial⟩)
     ·have u4:(n:Int)≤57:=Jn u4
      refine stp ?_
      refine back (i+1,nx2) ⟨by dsimp only;omega,hgood (Jge Om)⟩ Dm (J5 rfl rfl ⟨Rf,Jl (JF Dm),trivial⟩)
   ·have u1:(n:Int)≥97:=Jn u1
    refine stp ?_
    intro c u2
    have u2:c=decide ((n:Int)≤122):=u2.trans (by rw [← hval];rfl)
    cases c
    ·have u2:¬(n:Int)≤122:=Jm u2
     refine stp ?_
     intro c u3
     have u3:c=decide ((n:Int)≥48):=u3.trans (by rw [← hval];rfl)
     cases c
     ·have u3:¬(n:Int)≥48:=Jm u3
      refine stp ?_
      intro c u5
      have u5:c=((n:Int) ==95):=u5.trans (by rw [← hval];rfl)
      cases c
      ·have u5:(n:Int)≠95:=J3.1 u5
       refine stp ?_
       exact Jd rfl (Jt (hbad (JiH Om)))
      ·have u5:(n:Int)=95:=J4.1 u5
       refine stp ?_
       refine back (i+1,nx2) ⟨by dsimp only;omega,hgood (Jge Om)⟩ Dm (J5 rfl rfl ⟨Rf,Jl (JF Dm),trivial⟩)
     ·have u3:(n:Int)≥48:=Jn u3
      refine stp ?_
      intro c u4
      have u4:c=decide ((n:Int)≤57):=u4.trans (by rw [← hval];rfl)
      cases c
      ·have u4:¬(n:Int)≤57:=Jm u4
       refine stp ?_
       intro c u5
       have u5:c=((n:Int) ==95):=u5.trans (by rw [← hval];rfl)
       cases c
       ·have u5:(n:Int)≠95:=J3.1 u5
        refine stp ?_
        exact Jd rfl (Jt (hbad (JiH Om)))
       ·have u5:(n:Int)=95:=J4.1 u5
        refine stp ?_
        refine back (i+1,nx2) ⟨by dsimp only;omega,hgood (Jge Om)⟩ Dm (J5 rfl rfl ⟨Rf,Jl (JF Dm),trivial⟩)
      ·have u4:(n:Int)≤57:=Jn u4
       refine stp ?_
       refine back (i+1,nx2) ⟨by dsimp only;omega,hgood (Jge Om)⟩ Dm (J5 rfl rfl ⟨Rf,Jl (JF Dm),trivial⟩)
    ·have u2:(n:Int)≤122:=Jn u2
     refine stp ?_
     refine back (i+1,nx2) ⟨by dsimp only;omega,hgood (Jge Om)⟩ Dm (J5 rfl rfl ⟨Rf,Jl (JF Dm),trivial⟩)
end Go.Proofs.W

namespace Go.Proofs.W
open Go.Vl
set_option maxRecDepth 100000
theorem Jjg (k n:Int):Tells Tryz.prog 233 [act k n] (Jb (JaA k n)):=by
 refine Jf Tryz.func233 rfl rfl fun nx=> ?_
 refine stp ?_
 (refine Ju 21 ?_ ?_ ?_ ?_;(· kernel_rfl);(· kernel_rfl);(· kernel_rfl))
 refine stp ?_
 intro c h1;cases c
 ·refine stp ?_
  refine Jd rfl (Jt ?_)
  simp at h1;simp [JaA];omega
 refine stp ?_
 intro c h2;cases c
 ·refine stp ?_
  refine Jd rfl (Jt ?_)
  simp at h1 h2;simp [JaA];omega
 refine stp ?_
 intro c h3;cases c
 ·refine stp ?_
  refine Jd rfl (Jt ?_)
  simp at h1 h2 h3;simp [JaA];omega
 refine stp ?_
 refine JP (Jz rfl rfl (Jrs k) ⟨Rf,trivial⟩ (NoId.v _)) ?_
 intro c h4;cases c
 ·refine stp ?_
  refine Jd rfl (Jt ?_)
  simp at h1 h2 h3 h4;simp [JaA];omega
 refine stp ?_
 refine Jd rfl (Jt ?_)
 simp at h1 h2 h3 h4;simp [JaA];omega
theorem JpK (s:ByteArray):Tells Tryz.prog 234 [Jg s] (Jb (Jag s.data.toList)):=by
 have h:=Jjf s
 generalize Jag s.data.toList=b at h⊢
 refine Jf Tryz.func234 rfl rfl fun nx=> ?_
 refine stp ?_
 refine Je rfl rfl h ⟨Rf,trivial⟩ fun nx1=> ?_
 intro c hc
 refine stp ?_
 exact Jd rfl (Jt hc)
theorem Jtt {l:List Rul} {i:Nat} (hi:i < l.length) (h:J6 (l.getD i rul0)=false):(l.any fun r=> !J6 r)=true:=by
 rw [List.any_eq_true]
 exact ⟨l.getD i rul0,by simp [List.getD,hi],by rw [h];rfl⟩
theorem Jva {l:List Rul} (h:∀j,j < l.length→J6 (l.getD j rul0)=true):(l.any fun r=> !J6 r)=false:=by
 rw [List.any_eq_false]
 intro r hr
 obtain ⟨j,hj,rfl⟩:=List.getElem_of_mem hr
 have:=h j hj
 rw [List.getD_eq_getElem?_getD,List.getElem?_eq_getElem hj] at this
 simp at this
 simp [this]
theorem JrL {l:List Cnd} {i:Nat} (hi:i < l.length) (h:JU (l.getD i cnd0)=false):(l.any fun c=> !JU c)=true:=by
 rw [List.any_eq_true]
 exact ⟨l.getD i cnd0,by simp [List.getD,hi],by rw [h];rfl⟩
theorem Jtu {l:List Cnd} (h:∀j,j < l.length→JU (l.getD j cnd0)=true):(l.any fun c=> !JU c)=false:=by
 rw [List.any_eq_false]
 intro r hr
 obtain ⟨j,hj,rfl⟩:=List.getElem_of_mem hr
 have:=h j hj
 rw [List.getD_eq_getElem?_getD,List.getElem?_eq_getElem hj] at this
 simp at this
 simp [this]
set_option maxHeartbeats 2000000 in
theorem Jot (p:Pol):Tells Tryz.prog 143 [JaL p] (Jb (JaB p)):=by
 have hd:=Jjg p.dflt.1 p.dflt.2
 have hP:JaB p=(JaA p.dflt.1 p.dflt.2&& (decide (p.rules.length≤500)&& !(p.rules.any fun r=> !J6 r))):=rfl
 generalize JaB p=R at hP⊢
 generalize JaA p.dflt.1 p.dflt.2=b0 at hd hP
 obtain ⟨⟨k,n⟩,x,rs⟩:=p
 dsimp only at hP hd
 refine Jf Tryz.func143 rfl rfl fun nx=> ?_
 refine stp ?_
 refine Je rfl rfl hd ⟨Rf,trivial⟩ fun nx1=> ?_
 cases b0
 ·refine stp ?_
  exact Jd rfl (Jt (by rw [hP];rfl))
 refine stp ?_
 intro c g1;cases c
 rotate_left
 ·have g1:((rs.length:Nat):Int) > 500:=Jn g1
  refine stp ?_
  exact Jd rfl (Jt (by rw [hP,decide_eq_false Om];rfl))
 have g1:¬((rs.length:Nat):Int) > 500:=Jm g1
 have h500:rs.length≤500:=by omega
 rw [decide_eq_true h500,Bool.true_and,Bool.true_and] at hP
 refine stp ?_
 refine Jo (fun s:Nat×Nat=> mk 58 [(1, .bp (0,nx) 0),(3,int s.1)] ⟨[((0,nx), .c [int k,int n,Jb x,Ji rs])], [],s.2,1⟩) (fun s=> s.1≤rs.length∧∀j,j < s.1→J6 (rs.getD j rul0)=true) (fun s=> rs.length - s.1) ?_ ?_
 ·exact ⟨(0,nx1),⟨Nat.zero_le _,fun j h=> absurd h (Nat.not_lt_zero _)⟩,Jk (pm:= []) _ [] rfl rfl Sf Sf ⟨rfl,OwnLe.refl _,trivial⟩ trivial ⟨Rf,Rf,trivial⟩⟩
 ·rintro ⟨i,nx2⟩ ⟨h3,h4⟩
  dsimp only at h3 h4
  refine stp ?_
  intro c h5;cases c
  ·have h6:¬((i:Nat):Int) < ((rs.length:Nat):Int):=Jm h5
   obtain rfl:i=rs.length:=by omega
   refine stp ?_
   exact Jd rfl (Jt (by rw [hP,Jva h4];rfl))
  ·have h6:((i:Nat):Int) < ((rs.length:Nat):Int):=Jn h5
   have hi:i < rs.length:=by omega
   have hbad:J6 (rs.getD i rul0)=false→false=R:=fun h=> by rw [hP,Jtt hi h];rfl
   have hR:J6 (rs.getD i rul0)=(Jag (rs.getD i rul0).name.data.toList&& (JaA (rs.getD i rul0).act.1 (rs.getD i rul0).act.2&& (decide ((rs.getD i rul0).conds.length≤6)&& !((rs.getD i rul0).conds.any fun c=> !JU c)))):=rfl
   have hn:=JpK (rs.getD i rul0).name
   have ha:=Jjg (rs.getD i rul0).act.1 (rs.getD i rul0).act.2
   generalize Jag (rs.getD i rul0).name.data.toList=b1 at hn hR
   generalize JaA (rs.getD i rul0).act.1 (rs.getD i rul0).act.2=b2 at ha hR
   refine stp ?_
   refine ⟨⟨by dsimp only;omega,by dsimp only;omega⟩, ?_⟩
   refine stp ?_
   refine Je rfl rfl hn ⟨Rf,trivial⟩ fun nx3=> ?_
   cases b1
   ·refine stp ?_
    exact Jd rfl (Jt (hbad (by rw [hR];rfl)))
   refine stp ?_
   refine Je rfl rfl ha ⟨Rf,trivial⟩ fun nx4=> ?_
   cases b2
   ·refine stp ?_
    exact Jd rfl (Jt (hbad (by rw [hR];rfl)))
   refine stp ?_
   intro c g2;cases c
   rotate_left
   ·have g2:(((rs.getD i rul0).conds.length:Nat):Int) > 6:=Jn g2
    refine stp ?_
    exact Jd rfl (Jt (hbad (by rw [hR,decide_eq_false Om];rfl)))
   have g2:¬(((rs.getD i rul0).conds.length:Nat):Int) > 6:=Jm g2
   rw [decide_eq_true (show (rs.getD i rul0).conds.length≤6 by omega),Bool.true_and,Bool.true_and,Bool.true_and] at hR
   refine stp ?_
   refine Jo (fun s:Nat×Nat=> mk 58 [(1, .bp (0,nx) 0),(3,int i),(4, .bp (1,nx2) 0),(5,int s.1)] ⟨[((1,nx2), .c [Jg (rs.getD i rul0).name,int (rs.getD i rul0).act.1,int (rs.getD i rul0).act.2,JW (rs.getD i rul0).conds]),((0,nx), .c [int k,int n,Jb x,Ji rs])], [],s.2,2⟩) (fun s=> s.1≤(rs.getD i rul0).conds.length∧∀j,j < s.1→JU ((rs.getD i rul0).conds.getD j cnd0)=true) (fun s=> (rs.getD i rul0).conds.length - s.1) ?_ ?_
   ·exact ⟨(0,nx4),⟨Nat.zero_le _,fun j h=> absurd h (Nat.not_lt_zero _)⟩,Jk (pm:= []) _ [] rfl rfl Sf Sf ⟨rfl,OwnLe.refl _,rfl,OwnLe.refl _,trivial⟩ trivial ⟨Rf,Rf,Rf,Rf,trivial⟩⟩
   ·rintro ⟨j,nx5⟩ ⟨h7,h8⟩
    dsimp only at h7 h8
    refine stp ?_
    intro c h9;cases c
    ·have h9:¬((j:Nat):Int) < (((rs.getD i rul0).conds.length:Nat):Int):=Jm h9
     have hj:j=(rs.getD i rul0).conds.length:=by omega
     have hgood:J6 (rs.getD i rul0)=true:=by rw [hR,Jtu (fun q hq=> h8 q Om)];rfl
     refine stp ?_
     refine back (i+1,nx5) ⟨by first | omega | (dsimp only;omega),fun q hq=> ?_⟩ Dm (Jk (pm:= []) _ [] rfl rfl (.cons _ Sf) Sf ⟨rfl,OwnLe.refl _,trivial⟩ trivial ⟨Rf,Lw,trivial⟩)
     dsimp only at hq
     rcases Nat.lt_or_ge q i with h | h
     ·exact h4 q h
     ·obtain rfl:q=i:=by omega
      exact hgood
    ·have h9:((j:Nat):Int) < (((rs.getD i rul0).conds.length:Nat):Int):=Jn h9
     have hj:j < (rs.getD i rul0).conds.length:=by omega
     have hbc:JU ((rs.getD i rul0).conds.getD j cnd0)=false→false=R:=fun h=> hbad (by rw [hR,JrL hj h];rfl)
     have hgc:JU ((rs.getD i rul0).conds.getD j cnd0)=true→∀q,q < j+1→JU ((rs.getD i rul0).conds.getD q cnd0)=true:=fun h q hq=> by
      rcases Nat.lt_or_ge q j with h1 | h1
      ·exact h8 q h1
      ·obtain rfl:q=j:=by omega
       exact h
     have hc:=Joe ((rs.getD i rul0).conds.getD j cnd0)
     generalize JU ((rs.getD i rul0).conds.getD j cnd0)=b3 at hc hbc hgc
     refine stp ?_
     refine ⟨⟨by dsimp only;omega,by dsimp only;omega⟩, ?_⟩
     refine stp ?_
     refine Je rfl rfl hc ⟨Rf,trivial⟩ fun nx6=> ?_
     cases b3
     ·refine stp ?_
      exact Jd rfl (Jt (hbc rfl))
     ·refine stp ?_
      exact back (j+1,nx6) ⟨by dsimp only;omega,hgc rfl⟩ Dm (Jk (pm:= []) _ [] rfl rfl Sf Sf ⟨rfl,OwnLe.refl _,rfl,OwnLe.refl _,trivial⟩ trivial ⟨Rf,Rf,Rf,Jl (JF Dm),trivial⟩)
end Go.Proofs.W

namespace Go.Proofs.W
open Go.Vl
set_option maxRecDepth 100000
end Go.Proofs.W

namespace Go.Proofs.W
open Go.Vl
set_option maxRecDepth 100000
end Go.Proofs.W

namespace Go.Proofs.W
open Go.Vl
set_option maxRecDepth 100000
theorem Jap:Tryz.prog.cellsOf 3=1:=by kernel_rfl
end Go.Proofs.W

namespace Go.Proofs.W
open Go.Vl
set_option maxRecDepth 100000
end Go.Proofs.W

namespace Go.Proofs.W
open Go.Vl
set_option maxRecDepth 100000
end Go.Proofs.W

namespace Go.Proofs.W
open Go.Vl
set_option maxRecDepth 100000
end Go.Proofs.W

namespace Go.Proofs.W
open Go.Vl
set_option maxRecDepth 100000
def Jbf (r:TRow):Bool:=decide (r.mux < 0)|| (decide (2 < r.mux)|| ((decide (r.mux=0)&& decide (r.sub≠0))|| (decide (0 < r.mux)&& (decide (r.sub < 1)|| decide (255 < r.sub)))))
theorem Jib (r:TRow):JcC r=(!Jey r&& !Jbf r):=by
 unfold JcC
 congr 1
 unfold Jbf
 by_cases h:r.mux=0
 ·rw [if_pos h,h];simp
 ·rw [if_neg h,Bool.eq_iff_iff];simp;omega
def JdZ (r s:TRow):Bool:= [0,1,2,3,4].any fun a=> decide (0≤r.num a)&& decide (s.num a=r.num a)
def Jdu (r s:TRow):Bool:=decide (0 < r.mux)&& (decide (s.mux=r.mux)&& decide (s.sub=r.sub))
def Jcq (l:List TRow) (i:Nat):Bool:=(l.take i).any fun s=> JdZ (l.getD i trow0) s|| Jdu (l.getD i trow0) s
def JeB (r:TRow):Bool:=decide (r.a2=102)|| decide (r.a2=117)
def Jcr (l:List TRow) (i:Nat):Int:=if Jag (l.getD i trow0).name.data.toList=false then 13 else if Jbx l i then 15 else if Jey (l.getD i trow0) then 16 else if Jbf (l.getD i trow0) then 16 else if JeB (l.getD i trow0) then 17 else if Jcq l i then 15 else 0
theorem Jwx (s t:ByteArray):(!Op.bytesLess t.toList s.toList)=leB s t:=by
 cases h:leB s t with
 | false=>
   have:=Jth h
   rw [Go.Proofs.bytesLess_eq,Lib.toList_data,Lib.toList_data]
   unfold Go.Sort.ltStr at this
   rw [this];rfl
 | true=>
   unfold leB at h
   rw [Go.Proofs.bytesLess_eq,Lib.toList_data,Lib.toList_data] at h⊢
   rw [Bool.or_eq_true,decide_eq_true_iff] at h
   rw [Bool.not_eq_true',decide_eq_false_iff_not]
   rcases h with h | h
   ·exact fun k=> absurd (List.lt_trans h k) (List.lt_irrefl _)
   ·rw [beq_iff_eq] at h;rw [h];exact List.lt_irrefl _
theorem Jlp {l:List TRow} {i:Nat} (h:Jag (l.getD i trow0).name.data.toList=false):Jcr l i=13:=if_pos h
theorem JjD {l:List TRow} {i:Nat} (h:Jag (l.getD i trow0).name.data.toList=true):Jcr l i=if Jbx l i then 15 else if Jey (l.getD i trow0) then 16 else if Jbf (l.getD i trow0) then 16 else if JeB (l.getD i trow0) then 17 else if Jcq l i then 15 else 0:=if_neg (by rw [h];decide)
theorem Jtv (r:TRow):Jbf r=(decide (r.mux < 0)|| (decide (r.mux > 2)|| (((r.mux ==0)&& (r.sub !=0))|| (decide (r.mux > 0)&& (decide (r.sub < 1)|| decide (r.sub > 255)))))):=by
 unfold Jbf
 rw [show (r.mux ==0)=decide (r.mux=0) by rw [Bool.eq_iff_iff];simp,show (r.sub !=0)=decide (r.sub≠0) by rw [Bool.eq_iff_iff];simp]
theorem Jvb (r:TRow):JeB r=((r.a2 ==102)|| (r.a2 ==117)):=by
 unfold JeB
 rw [show (r.a2 ==102)=decide (r.a2=102) by rw [Bool.eq_iff_iff];simp,show (r.a2 ==117)=decide (r.a2=117) by rw [Bool.eq_iff_iff];simp]
theorem Jda {l:List TRow} {i k:Nat} {r:TRow} (hr:l.getD i trow0=r) (hk:k < i) (hi:i < l.length) (h:(JdZ r (l.getD k trow0)|| Jdu r (l.getD k trow0))=true):Jcq l i=true:=by
 unfold Jcq
 rw [hr,List.any_eq_true]
 refine ⟨l.getD k trow0, ?_,h⟩
 rw [List.mem_iff_getElem]
 exact ⟨k,by rw [List.length_take];omega,by rw [List.getElem_take];simp [List.getD,show k < l.length by omega]⟩
theorem JpL {l:List TRow} {i:Nat} {r:TRow} (hr:l.getD i trow0=r) (hi:i≤l.length) (h:∀k,k < i→(JdZ r (l.getD k trow0)|| Jdu r (l.getD k trow0))=false):Jcq l i=false:=by
 unfold Jcq
 rw [hr,List.any_eq_false]
 intro s hs
 obtain ⟨k,hk,rfl⟩:=List.mem_iff_getElem.1 hs
 rw [List.length_take] at hk
 have:=h k Om
 rw [List.getElem_take]
 simp [List.getD,show k < l.length by omega] at this⊢
 exact this
def cN (r s:TRow) (a:Nat):Bool:=decide (r.num a≥0)&& decide (s.num a=r.num a)
theorem Jdf {r s:TRow} {a:Nat} (ha:a < 5) (h:cN r s a=true):JdZ r s=true:=by
 unfold JdZ
 rw [List.any_eq_true]
 exact ⟨a,by simp;omega,h⟩
theorem Jou {r s:TRow} (h:∀a,a < 5→cN r s a=false):JdZ r s=false:=by
 unfold JdZ
 rw [List.any_eq_false]
 intro a ha
 rw [show (decide (0≤r.num a)&& decide (s.num a=r.num a))=cN r s a from rfl,h a (by simp at ha;omega)]
 decide
theorem Jov (r s:TRow):Jdu r s=(decide (r.mux > 0)&& ((s.mux ==r.mux)&& (s.sub ==r.sub))):=by
 unfold Jdu
 rw [show (s.mux ==r.mux)=decide (s.mux=r.mux) by rw [Bool.eq_iff_iff];simp,show (s.sub ==r.sub)=decide (s.sub=r.sub) by rw [Bool.eq_iff_iff];simp]
theorem Jcs {r:TRow} {k:Nat} (hk:k < 5) (h:true=Jcz (r.num k)):Jey r=true:=by
 rcases (by omega:k=0∨k=1∨k=2∨k=3∨k=4) with rfl | rfl | rfl | rfl | rfl
 all_goals
  have h':Jcz (r.num _)=true:=h.symm
  simp only [TRow.num] at h'
  simp [Jey,h']
theorem Jvc {r:TRow} (h:∀j,j < 5→Jcz (r.num j)=false):Jey r=false:=by
 have h0:=h 0 Dc
 have h1:=h 1 Dc
 have h2:=h 2 Dc
 have h3:=h 3 Dc
 have h4:=h 4 Dc
 simp only [TRow.num] at h0 h1 h2 h3 h4
 simp [Jey,h0,h1,h2,h3,h4]
set_option maxHeartbeats 8000000 in
theorem Jm7 (l:List TRow) (i:Nat) (hi:i < l.length) (hl:l.length≤1000000):Tells Tryz.prog 236 [Jv l,int i] (int (Jcr l i)):=by
 have hnm:=Jjf (l.getD i trow0).name
 cases hb:Jag (l.getD i trow0).name.data.toList with
 | false=>
   rw [hb] at hnm
   rw [Jlp hb]
   refine Jf Tryz.func236 rfl rfl fun nx=> ?_
   refine stp ?_
   refine ⟨Bd, ?_⟩
   refine stp ?_
   refine Je rfl rfl hnm ⟨Rf,trivial⟩ fun nx2=> ?_
   refine stp ?_
   exact Jd rfl Rf
 | true=>
   rw [hb] at hnm
   rw [JjD hb]
   refine Jf Tryz.func236 rfl rfl fun nx=> ?_
   refine stp ?_
   refine ⟨Bd, ?_⟩
   refine stp ?_
   refine Je rfl rfl hnm ⟨Rf,trivial⟩ fun nx2=> ?_
   refine stp ?_
   refine JgW (fun y:Nat=> mk 140 [(0,Jv l),(1,int i),(5, .bp (0,nx) 0),(29,Jb (Jbx l i))] ⟨[((0,nx), .c (Ja3 (l.getD i trow0)))], [],y,1⟩) (fun _=> True) ?_ ?_
   ·by_cases h0:0 < i
    ·have hd:decide ((i:Int) > 0)=true:=decide_eq_true Om
     have hi1:IntKind.i64.wrap ((i:Int) - 1)=((i - 1:Nat):Int):=by rw [Jac Om Om];omega
     (refine Ju 13 ?_ ?_ ?_ ?_;(· kernel_rfl);(· kernel_rfl);(· kernel_rfl))
     refine stp ?_
     (conv=> whnf)
     refine JaN hd ?_
     refine stp ?_
     refine ⟨⟨Jbs (i:=i - 1) hi1,JbJ (i:=i - 1) hi1 Om⟩,Jj (b:= .rp (Ja3 (l.getD (i - 1) trow0))) (congrArg (fun z:Int=> AV.rp (Ja3 (l.getD z.toNat trow0))) hi1) ?_⟩
     refine stp ?_
     intro c hc
     have hc2:c=Jbx l i:=hc.trans (by unfold Jbx;rw [decide_eq_true h0,Bool.true_and];exact Jwx _ _)
     clear hc
     rw [← hc2]
     refine stp ?_
     exact ⟨nx2,trivial,Jk (pm:= []) _ [] rfl rfl Sf Sf Bf trivial ⟨Rf,Rf,Rf,Rf,trivial⟩⟩
    ·have hd:decide ((i:Int) > 0)=false:=decide_eq_false Om
     have ho:Jbx l i=false:=by unfold Jbx;rw [decide_eq_false h0];rfl
     rw [ho]
     (refine Ju 13 ?_ ?_ ?_ ?_;(· kernel_rfl);(· kernel_rfl);(· kernel_rfl))
     refine stp ?_
     (conv=> whnf)
     refine JaN hd ?_
     refine stp ?_
     exact ⟨nx2,trivial,Jk (pm:= []) _ [] rfl rfl Sf Sf Bf trivial ⟨Rf,Rf,Rf,Rf,trivial⟩⟩
   ·rintro nx3 -
    cases ho:Jbx l i with
    | true=>
      rw [if_pos rfl]
      refine stp ?_
      exact Jd rfl Rf
    | false=>
      rw [if_neg Dc]
      generalize hrr:l.getD i trow0=r
      refine stp ?_
      refine Jo (fun y:Nat×Nat=> mk 140 [(0,Jv l),(1,int i),(5, .bp (0,nx) 0),(6,int y.1)] ⟨[((0,nx), .c (Ja3 r))], [],y.2,1⟩) (fun y=> y.1≤5∧∀j,j < y.1→Jcz (r.num j)=false) (fun y=> 5 - y.1) ?_ ?_
      ·exact ⟨(0,nx3),⟨Nat.zero_le _,fun j h=> absurd h (Nat.not_lt_zero _)⟩,Jk (pm:= []) _ [] rfl rfl Sf Sf Bf trivial ⟨Rf,Rf,Rf,Rf,trivial⟩⟩
      ·rintro ⟨a,nx4⟩ ⟨h3,h4⟩
       dsimp only at h3 h4
       obtain rfl | rfl | rfl | rfl | rfl | rfl:a=0∨a=1∨a=2∨a=3∨a=4∨a=5:=by omega
       ·have hbk:Jcz (r.num 0)=(decide (r.a0 < -1)|| decide (r.a0 > 1073741823)):=rfl
        refine stp ?_
        refine ⟨⟨Int.natCast_nonneg _,show ((0:Nat):Int) < 5 by decide⟩,Jj (b:= .bp (0,nx) (1+0)) (congrArg (AV.bp (0,nx)) (by rw [Jap];rfl)) ?_⟩
        refine stp ?_
        intro c hc
        have hc2:c=decide (r.a0 < -1):=hc
        clear hc
        rw [← hc2] at hbk
        clear hc2
        cases c
        ·refine stp ?_
         refine ⟨⟨Int.natCast_nonneg _,show ((0:Nat):Int) < 5 by decide⟩,Jj (b:= .bp (0,nx) (1+0)) (congrArg (AV.bp (0,nx)) (by rw [Jap];rfl)) ?_⟩
         refine stp ?_
         intro c hc
         have hc2:c=decide (r.a0 > 1073741823):=hc
         clear hc
         rw [← hc2,Bool.false_or] at hbk
         clear hc2
         cases c
         ·refine stp ?_
          exact back (0+1,nx4) ⟨by dsimp only;omega,fun j hj=> by dsimp only at hj;rcases Nat.lt_or_ge j 0 with q | q;exact h4 j q;rw [show j=0 by omega];exact hbk⟩ Dm (Jk (pm:= []) _ [] rfl rfl Sf Sf Bf trivial ⟨Rf,Rf,Rf,Rf,trivial⟩)
         ·rw [Jcs (k:=0) Dc hbk.symm]
          refine stp ?_
          exact Jd rfl Rf
        ·rw [Bool.true_or] at hbk
         rw [Jcs (k:=0) Dc hbk.symm]
         refine stp ?_
         exact Jd rfl Rf
       ·have hbk:Jcz (r.num 1)=(decide (r.a1 < -1)|| decide (r.a1 > 1073741823)):=rfl
        refine stp ?_
        refine ⟨⟨Int.natCast_nonneg _,show ((1:Nat):Int) < 5 by decide⟩,Jj (b:= .bp (0,nx) (1+1)) (congrArg (AV.bp (0,nx)) (by rw [Jap];rfl)) ?_⟩
        refine stp ?_
        intro c hc
        have hc2:c=decide (r.a1 < -1):=hc
        clear hc
        rw [← hc2] at hbk
        clear hc2
        cases c
        ·refine stp ?_
         refine ⟨⟨Int.natCast_nonneg _,show ((1:Nat):Int) < 5 by decide⟩,Jj (b:= .bp (0,nx) (1+1)) (congrArg (AV.bp (0,nx)) (by rw [Jap];rfl)) ?_⟩
         refine stp ?_
         intro c hc
         have hc2:c=decide (r.a1 > 1073741823):=hc
         clear hc
         rw [← hc2,Bool.false_or] at hbk
         clear hc2
         cases c
         ·refine stp ?_
          exact back (1+1,nx4) ⟨by dsimp only;omega,fun j hj=> by dsimp only at hj;rcases Nat.lt_or_ge j 1 with q | q;exact h4 j q;rw [show j=1 by omega];exact hbk⟩ Dm (Jk (pm:= []) _ [] rfl rfl Sf Sf Bf trivial ⟨Rf,Rf,Rf,Rf,trivial⟩)
         ·rw [Jcs (k:=1) Dc hbk.symm]
          refine stp ?_
          exact Jd rfl Rf
        ·rw [Bool.true_or] at hbk
         rw [Jcs (k:=1) Dc hbk.symm]
         refine stp ?_
         exact Jd rfl Rf
       ·have hbk:Jcz (r.num 2)=(decide (r.a2 < -1)|| decide (r.a2 > 1073741823)):=rfl
        refine stp ?_
        refine ⟨⟨Int.natCast_nonneg _,show ((2:Nat):Int) < 5 by decide⟩,Jj (b:= .bp (0,nx) (1+2)) (congrArg (AV.bp (0,nx)) (by rw [Jap];rfl)) ?_⟩
        refine stp ?_
        intro c hc
        have hc2:c=decide (r.a2 < -1):=hc
        clear hc
        rw [← hc2] at hbk
        clear hc2
        cases c
        ·refine stp ?_
         refine ⟨⟨Int.natCast_nonneg _,show ((2:Nat):Int) < 5 by decide⟩,Jj (b:= .bp (0,nx) (1+2)) (congrArg (AV.bp (0,nx)) (by rw [Jap];rfl)) ?_⟩
         refine stp ?_
         intro c hc
         have hc2:c=decide (r.a2 > 1073741823):=hc
         clear hc
         rw [← hc2,Bool.false_or] at hbk
         clear hc2
         cases c
         ·refine stp ?_
          exact back (2+1,nx4) ⟨by dsimp only;omega,fun j hj=> by dsimp only at hj;rcases Nat.lt_or_ge j 2 with q | q;exact h4 j q;rw [show j=2 by omega];exact hbk⟩ Dm (Jk (pm:= []) _ [] rfl rfl Sf Sf Bf trivial ⟨Rf,Rf,Rf,Rf,trivial⟩)
         ·rw [Jcs (k:=2) Dc hbk.symm]
          refine stp ?_
          exact Jd rfl Rf
        ·rw [Bool.true_or] at hbk
         rw [Jcs (k:=2) Dc hbk.symm]
         refine stp ?_
         exact Jd rfl Rf
       ·have hbk:Jcz (r.num 3)=(decide (r.a3 < -1)|| decide (r.a3 > 1073741823)):=rfl
        refine stp ?_
        refine ⟨⟨Int.natCast_nonneg _,show ((3:Nat):Int) < 5 by decide⟩,Jj (b:= .bp (0,nx) (1+3)) (congrArg (AV.bp (0,nx)) (by rw [Jap];rfl)) ?_⟩
        refine stp ?_
        intro c hc
        have hc2:c=decide (r.a3 < -1):=hc
        clear hc
        rw [← hc2] at hbk
        clear hc2
        cases c
        ·refine stp ?_
         refine ⟨⟨Int.natCast_nonneg _,show ((3:Nat):Int) < 5 by decide⟩,Jj (b:= .bp (0,nx) (1+3)) (congrArg (AV.bp (0,nx)) (by rw [Jap];rfl)) ?_⟩
         refine stp ?_
         intro c hc
         have hc2:c=decide (r.a3 > 1073741823):=hc
         clear hc
         rw [← hc2,Bool.false_or] at hbk
         clear hc2
         cases c
         ·refine stp ?_
          exact back (3+1,nx4) ⟨by dsimp only;omega,fun j hj=> by dsimp only at hj;rcases Nat.lt_or_ge j 3 with q | q;exact h4 j q;rw [show j=3 by omega];exact hbk⟩ Dm (Jk (pm:= []) _ [] rfl rfl Sf Sf Bf trivial ⟨Rf,Rf,Rf,Rf,trivial⟩)
         ·rw [Jcs (k:=3) Dc hbk.symm]
          refine stp ?_
          exact Jd rfl Rf
        ·rw [Bool.true_or] at hbk
         rw [Jcs (k:=3) Dc hbk.symm]
         refine stp ?_
         exact Jd rfl Rf
       ·have hbk:Jcz (r.num 4)=(decide (r.a4 < -1)|| decide (r.a4 > 1073741823)):=rfl
        refine stp ?_
        refine ⟨⟨Int.natCast_nonneg _,show ((4:Nat):Int) < 5 by decide⟩,Jj (b:= .bp (0,nx) (1+4)) (congrArg (AV.bp (0,nx)) (by rw [Jap];rfl)) ?_⟩
        refine stp ?_
        intro c hc
        have hc2:c=decide (r.a4 < -1):=hc
        clear hc
        rw [← hc2] at hbk
        clear hc2
        cases c
        ·refine stp ?_
         refine ⟨⟨Int.natCast_nonneg _,show ((4:Nat):Int) < 5 by decide⟩,Jj (b:= .bp (0,nx) (1+4)) (congrArg (AV.bp (0,nx)) (by rw [Jap];rfl)) ?_⟩
         refine stp ?_
         intro c hc
         have hc2:c=decide (r.a4 > 1073741823):=hc
         clear hc
         rw [← hc2,Bool.false_or] at hbk
         clear hc2
         cases c
         ·refine stp ?_
          exact back (4+1,nx4) ⟨by dsimp only;omega,fun j hj=> by dsimp only at hj;rcases Nat.lt_or_ge j 4 with q | q;exact h4 j q;rw [show j=4 by omega];exact hbk⟩ Dm (Jk (pm:= []) _ [] rfl rfl Sf Sf Bf trivial ⟨Rf,Rf,Rf,Rf,trivial⟩)
         ·rw [Jcs (k:=4) Dc hbk.symm]
          refine stp ?_
          exact Jd rfl Rf
        ·rw [Bool.true_or] at hbk
         rw [Jcs (k:=4) Dc hbk.symm]
         refine stp ?_
         exact Jd rfl Rf
       ·rw [Jvc h4,if_neg Dc]
        have hmb:=Jtv r
        (refine JB ?_;refine JE ?_;refine JB ?_)
        refine Jwn (fun y:Nat=> mk 140 [(0,Jv l),(1,int i),(5, .bp (0,nx) 0)] ⟨[((0,nx), .c (Ja3 r))], [],y,1⟩) (fun _=> Jbf r=false) ?_ ?_
        ·refine JE ?_
         refine stp ?_
         intro c t1;cases c
         ·refine stp ?_
          intro c t2;cases c
          ·refine stp ?_
           intro c t3;cases c
           ·refine stp ?_
            intro c t5;cases c
            ·have e:Jbf r=false:=by rw [hmb,← t1,← t2,← t3,← t5];rfl
             refine stp ?_
             exact ⟨nx4,e,Jk (pm:= []) _ [] rfl rfl Sf Sf Bf trivial ⟨Rf,Rf,Rf,trivial⟩⟩
            ·refine stp ?_
             intro c t6;cases c
             ·refine stp ?_
              intro c t7;cases c
              ·have e:Jbf r=false:=by rw [hmb,← t1,← t2,← t3,← t5,← t6,← t7];rfl
               refine stp ?_
               exact ⟨nx4,e,Jk (pm:= []) _ [] rfl rfl Sf Sf Bf trivial ⟨Rf,Rf,Rf,trivial⟩⟩
              ·have e:Jbf r=true:=by rw [hmb,← t1,← t2,← t3,← t5,← t6,← t7];rfl
               rw [if_pos e]
               refine stp ?_
               exact Jd rfl Rf
             ·have e:Jbf r=true:=by rw [hmb,← t1,← t2,← t3,← t5,← t6];rfl
              rw [if_pos e]
              refine stp ?_
              exact Jd rfl Rf
           ·refine stp ?_
            intro c t4;cases c
            ·refine stp ?_
             intro c t5;cases c
             ·have e:Jbf r=false:=by rw [hmb,← t1,← t2,← t3,← t4,← t5];rfl
              refine stp ?_
              exact ⟨nx4,e,Jk (pm:= []) _ [] rfl rfl Sf Sf Bf trivial ⟨Rf,Rf,Rf,trivial⟩⟩
             ·refine stp ?_
              intro c t6;cases c
              ·refine stp ?_
               intro c t7;cases c
               ·have e:Jbf r=false:=by rw [hmb,← t1,← t2,← t3,← t4,← t5,← t6,← t7];rfl
                refine stp ?_
                exact ⟨nx4,e,Jk (pm:= []) _ [] rfl rfl Sf Sf Bf trivial ⟨Rf,Rf,Rf,trivial⟩⟩
               ·have e:Jbf r=true:=by rw [hmb,← t1,← t2,← t3,← t4,← t5,← t6,← t7];rfl
                rw [if_pos e]
                refine stp ?_
                exact Jd rfl Rf
              ·have e:Jbf r=true:=by rw [hmb,← t1,← t2,← t3,← t4,← t5,← t6];rfl
               rw [if_pos e]
               refine stp ?_
               exact Jd rfl Rf
            ·have e:Jbf r=true:=by rw [hmb,← t1,← t2,← t3,← t4];rfl
             rw [if_pos e]
             refine stp ?_
             exact Jd rfl Rf
          ·have e:Jbf r=true:=by rw [hmb,← t1,← t2];rfl
           rw [if_pos e]
           refine stp ?_
           exact Jd rfl Rf
         ·have e:Jbf r=true:=by rw [hmb,← t1];rfl
          rw [if_pos e]
          refine stp ?_
          exact Jd rfl Rf
        ·rintro nx5 hmz
         rw [hmz,if_neg Dc]
         have ha2:=Jvb r
         refine stp ?_
         refine Jj (b:=int r.a2) rfl ?_
         refine stp ?_
         intro c t1;cases c
         rotate_left
         ·have e:JeB r=true:=by rw [ha2,← t1];rfl
          rw [if_pos e]
          refine stp ?_
          exact Jd rfl Rf
         refine stp ?_
         refine Jj (b:=int r.a2) rfl ?_
         refine stp ?_
         intro c t2;cases c
         rotate_left
         ·have e:JeB r=true:=by rw [ha2,← t1,← t2];rfl
          rw [if_pos e]
          refine stp ?_
          exact Jd rfl Rf
         have e:JeB r=false:=by rw [ha2,← t1,← t2];rfl
         rw [if_neg (by rw [e];decide)]
         refine stp ?_
         refine Jo (fun y:Nat×Nat=> mk 140 [(0,Jv l),(1,int i),(5, .bp (0,nx) 0),(7,int y.1)] ⟨[((0,nx), .c (Ja3 r))], [],y.2,1⟩) (fun y=> y.1≤i∧∀j,j < y.1→(JdZ r (l.getD j trow0)|| Jdu r (l.getD j trow0))=false) (fun y=> i - y.1) ?_ ?_
         ·exact ⟨(0,nx5),⟨Nat.zero_le _,fun j h=> absurd h (Nat.not_lt_zero _)⟩,Jk (pm:= []) _ [] rfl rfl Sf Sf Bf trivial ⟨Rf,Rf,Rf,Rf,trivial⟩⟩
         ·rintro ⟨k,nx6⟩ ⟨m3,m4⟩
          dsimp only at m3 m4
          refine stp ?_
          intro c g;cases c
          ·have g:=Jm g
           try dsimp only at g
           have hk:k=i:=by omega
           subst hk
           rw [JpL hrr (Nat.le_of_lt hi) m4,if_neg Dc]
           refine stp ?_
           exact Jd rfl Rf
          have g:=Jn g
          try dsimp only at g
          have hk:k < i:=by omega
          refine stp ?_
          refine Jo (fun y:Nat×Nat=> mk 140 [(0,Jv l),(1,int i),(5, .bp (0,nx) 0),(7,int k),(8,int y.1)] ⟨[((0,nx), .c (Ja3 r))], [],y.2,1⟩) (fun y=> y.1≤5∧∀j,j < y.1→cN r (l.getD k trow0) j=false) (fun y=> 5 - y.1) ?_ ?_
          ·exact ⟨(0,nx6),⟨Nat.zero_le _,fun j h=> absurd h (Nat.not_lt_zero _)⟩,Jk (pm:= []) _ [] rfl rfl Sf Sf Bf trivial ⟨Rf,Rf,Rf,Rf,Rf,trivial⟩⟩
          ·rintro ⟨a,nx8⟩ ⟨n3,n4⟩
           dsimp only at n3 n4
           obtain rfl | rfl | rfl | rfl | rfl | rfl:a=0∨a=1∨a=2∨a=3∨a=4∨a=5:=by omega
           ·have hcn:cN r (l.getD k trow0) 0=(decide (r.a0≥0)&& decide ((l.getD k trow0).a0=r.a0)):=rfl
            cases hd:decide (r.a0≥0) with
            | false=>
              have e:cN r (l.getD k trow0) 0=false:=by rw [hcn,hd];rfl
              (refine JB ?_;refine JE ?_;refine JB ?_)
              (refine Ju 19 ?_ ?_ ?_ ?_;(· kernel_rfl);(· kernel_rfl);(· kernel_rfl))
              refine stp ?_
              refine ⟨⟨Int.natCast_nonneg _,show ((0:Nat):Int) < 5 by decide⟩,Jj (b:= .bp (0,nx) (1+0)) (congrArg (AV.bp (0,nx)) (by rw [Jap];rfl)) ?_⟩
              refine stp ?_
              (conv=> whnf)
              refine JaN hd ?_
              refine stp ?_
              exact back (0+1,nx8) ⟨by dsimp only;omega,fun j hj=> by dsimp only at hj;rcases Nat.lt_or_ge j 0 with q | q;exact n4 j q;rw [show j=0 by omega];exact e⟩ Dm (Jk (pm:= []) _ [] rfl rfl Sf Sf Bf trivial ⟨Rf,Rf,Rf,Rf,Rf,trivial⟩)
            | true=>
              (refine JB ?_;refine JE ?_;refine JB ?_)
              (refine Ju 19 ?_ ?_ ?_ ?_;(· kernel_rfl);(· kernel_rfl);(· kernel_rfl))
              refine stp ?_
              refine ⟨⟨Int.natCast_nonneg _,show ((0:Nat):Int) < 5 by decide⟩,Jj (b:= .bp (0,nx) (1+0)) (congrArg (AV.bp (0,nx)) (by rw [Jap];rfl)) ?_⟩
              refine stp ?_
              (conv=> whnf)
              refine JaN hd ?_
              refine stp ?_
              refine ⟨Bd, ?_⟩
              refine stp ?_
              refine ⟨⟨Int.natCast_nonneg _,show ((0:Nat):Int) < 5 by decide,by rw [Jap];exact Nat.le_of_ble_eq_true rfl⟩,Jj (b:= .rp (List.drop (1+0) (Ja3 (l.getD k trow0)))) (congrArg AV.rp (by rw [Jap];rfl)) ?_⟩
              refine stp ?_
              refine ⟨⟨Int.natCast_nonneg _,show ((0:Nat):Int) < 5 by decide⟩,Jj (b:= .bp (0,nx) (1+0)) (congrArg (AV.bp (0,nx)) (by rw [Jap];rfl)) ?_⟩
              refine stp ?_
              intro c hc
              have hc2:c=decide ((l.getD k trow0).a0=r.a0):=hc.trans (by rw [Bool.eq_iff_iff];simp)
              clear hc
              rw [hd,← hc2,Bool.true_and] at hcn
              clear hc2
              cases c
              ·have e:=hcn
               refine stp ?_
               exact back (0+1,nx8) ⟨by dsimp only;omega,fun j hj=> by dsimp only at hj;rcases Nat.lt_or_ge j 0 with q | q;exact n4 j q;rw [show j=0 by omega];exact e⟩ Dm (Jk (pm:= []) _ [] rfl rfl Sf Sf Bf trivial ⟨Rf,Rf,Rf,Rf,Rf,trivial⟩)
              ·rw [Jda hrr hk hi (by rw [Jdf (a:=0) Dc hcn];rfl),if_pos rfl]
               refine stp ?_
               exact Jd rfl Rf
           ·have hcn:cN r (l.getD k trow0) 1=(decide (r.a1≥0)&& decide ((l.getD k trow0).a1=r.a1)):=rfl
            cases hd:decide (r.a1≥0) with
            | false=>
              have e:cN r (l.getD k trow0) 1=false:=by rw [hcn,hd];rfl
              (refine JB ?_;refine JE ?_;refine JB ?_)
              (refine Ju 19 ?_ ?_ ?_ ?_;(· kernel_rfl);(· kernel_rfl);(· kernel_rfl))
              refine stp ?_
              refine ⟨⟨Int.natCast_nonneg _,show ((1:Nat):Int) < 5 by decide⟩,Jj (b:= .bp (0,nx) (1+1)) (congrArg (AV.bp (0,nx)) (by rw [Jap];rfl)) ?_⟩
              refine stp ?_
              (conv=> whnf)
              refine JaN hd ?_
              refine stp ?_
              exact back (1+1,nx8) ⟨by dsimp only;omega,fun j hj=> by dsimp only at hj;rcases Nat.lt_or_ge j 1 with q | q;exact n4 j q;rw [show j=1 by omega];exact e⟩ Dm (Jk (pm:= []) _ [] rfl rfl Sf Sf Bf trivial ⟨Rf,Rf,Rf,Rf,Rf,trivial⟩)
            | true=>
              (refine JB ?_;refine JE ?_;refine JB ?_)
              (refine Ju 19 ?_ ?_ ?_ ?_;(· kernel_rfl);(· kernel_rfl);(· kernel_rfl))
              refine stp ?_
              refine ⟨⟨Int.natCast_nonneg _,show ((1:Nat):Int) < 5 by decide⟩,Jj (b:= .bp (0,nx) (1+1)) (congrArg (AV.bp (0,nx)) (by rw [Jap];rfl)) ?_⟩
              refine stp ?_
              (conv=> whnf)
              refine JaN hd ?_
              refine stp ?_
              refine ⟨Bd, ?_⟩
              refine stp ?_
              refine ⟨⟨Int.natCast_nonneg _,show ((1:Nat):Int) < 5 by decide,by rw [Jap];exact Nat.le_of_ble_eq_true rfl⟩,Jj (b:= .rp (List.drop (1+1) (Ja3 (l.getD k trow0)))) (congrArg AV.rp (by rw [Jap];rfl)) ?_⟩
              refine stp ?_
              refine ⟨⟨Int.natCast_nonneg _,show ((1:Nat):Int) < 5 by decide⟩,Jj (b:= .bp (0,nx) (1+1)) (congrArg (AV.bp (0,nx)) (by rw [Jap];rfl)) ?_⟩
              refine stp ?_
              intro c hc
              have hc2:c=decide ((l.getD k trow0).a1=r.a1):=hc.trans (by rw [Bool.eq_iff_iff];simp)
              clear hc
              rw [hd,← hc2,Bool.true_and] at hcn
              clear hc2
              cases c
              ·have e:=hcn
               refine stp ?_
               exact back (1+1,nx8) ⟨by dsimp only;omega,fun j hj=> by dsimp only at hj;rcases Nat.lt_or_ge j 1 with q | q;exact n4 j q;rw [show j=1 by omega];exact e⟩ Dm (Jk (pm:= []) _ [] rfl rfl Sf Sf Bf trivial ⟨Rf,Rf,Rf,Rf,Rf,trivial⟩)
              ·rw [Jda hrr hk hi (by rw [Jdf (a:=1) Dc hcn];rfl),if_pos rfl]
               refine stp ?_
               exact Jd rfl Rf
           ·have hcn:cN r (l.getD k trow0) 2=(decide (r.a2≥0)&& decide ((l.getD k trow0).a2=r.a2)):=rfl
            cases hd:decide (r.a2≥0) with
            | false=>
              have e:cN r (l.getD k trow0) 2=false:=by rw [hcn,hd];rfl
              (refine JB ?_;refine JE ?_;refine JB ?_)
              (refine Ju 19 ?_ ?_ ?_ ?_;(· kernel_rfl);(· kernel_rfl);(· kernel_rfl))
              refine stp ?_
              refine ⟨⟨Int.natCast_nonneg _,show ((2:Nat):Int) < 5 by decide⟩,Jj (b:= .bp (0,nx) (1+2)) (congrArg (AV.bp (0,nx)) (by rw [Jap];rfl)) ?_⟩
              refine stp ?_
              (conv=> whnf)
              refine JaN hd ?_
              refine stp ?_
              exact back (2+1,nx8) ⟨by dsimp only;omega,fun j hj=> by dsimp only at hj;rcases Nat.lt_or_ge j 2 with q | q;exact n4 j q;rw [show j=2 by omega];exact e⟩ Dm (Jk (pm:= []) _ [] rfl rfl Sf Sf Bf trivial ⟨Rf,Rf,Rf,Rf,Rf,trivial⟩)
            | true=>
              (refine JB ?_;refine JE ?_;refine JB ?_)
              (refine Ju 19 ?_ ?_ ?_ ?_;(· kernel_rfl);(· kernel_rfl);(· kernel_rfl))
              refine stp ?_
              refine ⟨⟨Int.natCast_nonneg _,show ((2:Nat):Int) < 5 by decide⟩,Jj (b:= .bp (0,nx) (1+2)) (congrArg (AV.bp (0,nx)) (by rw [Jap];rfl)) ?_⟩
              refine stp ?_
              (conv=> whnf)
              refine JaN hd ?_
              refine stp ?_
              refine ⟨Bd, ?_⟩
              refine stp ?_
              refine ⟨⟨Int.natCast_nonneg _,show ((2:Nat):Int) < 5 by decide,by rw [Jap];exact Nat.le_of_ble_eq_true rfl⟩,Jj (b:= .rp (List.drop (1+2) (Ja3 (l.getD k trow0)))) (congrArg AV.rp (by rw [Jap];rfl)) ?_⟩
              refine stp ?_
              refine ⟨⟨Int.natCast_nonneg _,show ((2:Nat):Int) < 5 by decide⟩,Jj (b:= .bp (0,nx) (1+2)) (congrArg (AV.bp (0,nx)) (by rw [Jap];rfl)) ?_⟩
              refine stp ?_
              intro c hc
              have hc2:c=decide ((l.getD k trow0).a2=r.a2):=hc.trans (by rw [Bool.eq_iff_iff];simp)
              clear hc
              rw [hd,← hc2,Bool.true_and] at hcn
              clear hc2
              cases c
              ·have e:=hcn
               refine stp ?_
               exact back (2+1,nx8) ⟨by dsimp only;omega,fun j hj=> by dsimp only at hj;rcases Nat.lt_or_ge j 2 with q | q;exact n4 j q;rw [show j=2 by omega];exact e⟩ Dm (Jk (pm:= []) _ [] rfl rfl Sf Sf Bf trivial ⟨Rf,Rf,Rf,Rf,Rf,trivial⟩)
              ·rw [Jda hrr hk hi (by rw [Jdf (a:=2) Dc hcn];rfl),if_pos rfl]
               refine stp ?_
               exact Jd rfl Rf
           ·have hcn:cN r (l.getD k trow0) 3=(decide (r.a3≥0)&& decide ((l.getD k trow0).a3=r.a3)):=rfl
            cases hd:decide (r.a3≥0) with
            | false=>
              have e:cN r (l.getD k trow0) 3=false:=by rw [hcn,hd];rfl
              (refine JB ?_;refine JE ?_;refine JB ?_)
              (refine Ju 19 ?_ ?_ ?_ ?_;(· kernel_rfl);(· kernel_rfl);(· kernel_rfl))
              refine stp ?_
              refine ⟨⟨Int.natCast_nonneg _,show ((3:Nat):Int) < 5 by decide⟩,Jj (b:= .bp (0,nx) (1+3)) (congrArg (AV.bp (0,nx)) (by rw [Jap];rfl)) ?_⟩
              refine stp ?_
              (conv=> whnf)
              refine JaN hd ?_
              refine stp ?_
              exact back (3+1,nx8) ⟨by dsimp only;omega,fun j hj=> by dsimp only at hj;rcases Nat.lt_or_ge j 3 with q | q;exact n4 j q;rw [show j=3 by omega];exact e⟩ Dm (Jk (pm:= []) _ [] rfl rfl Sf Sf Bf trivial ⟨Rf,Rf,Rf,Rf,Rf,trivial⟩)
            | true=>
              (refine JB ?_;refine JE ?_;refine JB ?_)
              (refine Ju 19 ?_ ?_ ?_ ?_;(· kernel_rfl);(· kernel_rfl);(· kernel_rfl))
              refine stp ?_
              refine ⟨⟨Int.natCast_nonneg _,show ((3:Nat):Int) < 5 by decide⟩,Jj (b:= .bp (0,nx) (1+3)) (congrArg (AV.bp (0,nx)) (by rw [Jap];rfl)) ?_⟩
              refine stp ?_
              (conv=> whnf)
              refine JaN hd ?_
              refine stp ?_
              refine ⟨Bd, ?_⟩
              refine stp ?_
              refine ⟨⟨Int.natCast_nonneg _,show ((3:Nat):Int) < 5 by decide,by rw [Jap];exact Nat.le_of_ble_eq_true rfl⟩,Jj (b:= .rp (List.drop (1+3) (Ja3 (l.getD k trow0)))) (congrArg AV.rp (by rw [Jap];rfl)) ?_⟩
              refine stp ?_
              refine ⟨⟨Int.natCast_nonneg _,show ((3:Nat):Int) < 5 by decide⟩,Jj (b:= .bp (0,nx) (1+3)) (congrArg (AV.bp (0,nx)) (by rw [Jap];rfl)) ?_⟩
              refine stp ?_
              intro c hc
              have hc2:c=decide ((l.getD k trow0).a3=r.a3):=hc.trans (by rw [Bool.eq_iff_iff];simp)
              clear hc
              rw [hd,← hc2,Bool.true_and] at hcn
              clear hc2
              cases c
              ·have e:=hcn
               refine stp ?_
               exact back (3+1,nx8) ⟨by dsimp only;omega,fun j hj=> by dsimp only at hj;rcases Nat.lt_or_ge j 3 with q | q;exact n4 j q;rw [show j=3 by omega];exact e⟩ Dm (Jk (pm:= []) _ [] rfl rfl Sf Sf Bf trivial ⟨Rf,Rf,Rf,Rf,Rf,trivial⟩)
              ·rw [Jda hrr hk hi (by rw [Jdf (a:=3) Dc hcn];rfl),if_pos rfl]
               refine stp ?_
               exact Jd rfl Rf
           ·have hcn:cN r (l.getD k trow0) 4=(decide (r.a4≥0)&& decide ((l.getD k trow0).a4=r.a4)):=rfl
            cases hd:decide (r.a4≥0) with
            | false=>
              have e:cN r (l.getD k trow0) 4=false:=by rw [hcn,hd];rfl
              (refine JB ?_;refine JE ?_;refine JB ?_)
              (refine Ju 19 ?_ ?_ ?_ ?_;(· kernel_rfl);(· kernel_rfl);(· kernel_rfl))
              refine stp ?_
              refine ⟨⟨Int.natCast_nonneg _,show ((4:Nat):Int) < 5 by decide⟩,Jj (b:= .bp (0,nx) (1+4)) (congrArg (AV.bp (0,nx)) (by rw [Jap];rfl)) ?_⟩
              refine stp ?_
              (conv=> whnf)
              refine JaN hd ?_
              refine stp ?_
              exact back (4+1,nx8) ⟨by dsimp only;omega,fun j hj=> by dsimp only at hj;rcases Nat.lt_or_ge j 4 with q | q;exact n4 j q;rw [show j=4 by omega];exact e⟩ Dm (Jk (pm:= []) _ [] rfl rfl Sf Sf Bf trivial ⟨Rf,Rf,Rf,Rf,Rf,trivial⟩)
            | true=>
              (refine JB ?_;refine JE ?_;refine JB ?_)
              (refine Ju 19 ?_ ?_ ?_ ?_;(· kernel_rfl);(· kernel_rfl);(· kernel_rfl))
              refine stp ?_
              refine ⟨⟨Int.natCast_nonneg _,show ((4:Nat):Int) < 5 by decide⟩,Jj (b:= .bp (0,nx) (1+4)) (congrArg (AV.bp (0,nx)) (by rw [Jap];rfl)) ?_⟩
              refine stp ?_
              (conv=> whnf)
              refine JaN hd ?_
              refine stp ?_
              refine ⟨Bd, ?_⟩
              refine stp ?_
              refine ⟨⟨Int.natCast_nonneg _,show ((4:Nat):Int) < 5 by decide,by rw [Jap];exact Nat.le_of_ble_eq_true rfl⟩,Jj (b:= .rp (List.drop (1+4) (Ja3 (l.getD k trow0)))) (congrArg AV.rp (by rw [Jap];rfl)) ?_⟩
              refine stp ?_
              refine ⟨⟨Int.natCast_nonneg _,show ((4:Nat):Int) < 5 by decide⟩,Jj (b:= .bp (0,nx) (1+4)) (congrArg (AV.bp (0,nx)) (by rw [Jap];rfl)) ?_⟩
              refine stp ?_
              intro c hc
              have hc2:c=decide ((l.getD k trow0).a4=r.a4):=hc.trans (by rw [Bool.eq_iff_iff];simp)
              clear hc
              rw [hd,← hc2,Bool.true_and] at hcn
              clear hc2
              cases c
              ·have e:=hcn
               refine stp ?_
               exact back (4+1,nx8) ⟨by dsimp only;omega,fun j hj=> by dsimp only at hj;rcases Nat.lt_or_ge j 4 with q | q;exact n4 j q;rw [show j=4 by omega];exact e⟩ Dm (Jk (pm:= []) _ [] rfl rfl Sf Sf Bf trivial ⟨Rf,Rf,Rf,Rf,Rf,trivial⟩)
              ·rw [Jda hrr hk hi (by rw [Jdf (a:=4) Dc hcn];rfl),if_pos rfl]
               refine stp ?_
               exact Jd rfl Rf
           ·have hN:=Jou n4
            have hM:=Jov r (l.getD k trow0)
            cases hd1:decide (r.mux > 0) with
            | false=>
              have e:Jdu r (l.getD k trow0)=false:=by rw [hM,hd1];rfl
              (refine JB ?_;refine JE ?_;refine JB ?_)
              (refine Ju 23 ?_ ?_ ?_ ?_;(· kernel_rfl);(· kernel_rfl);(· kernel_rfl))
              refine stp ?_
              (conv=> whnf)
              refine JaN hd1 ?_
              refine stp ?_
              exact back (k+1,nx8) ⟨by dsimp only;omega,fun j hj=> by dsimp only at hj;rcases Nat.lt_or_ge j k with q | q;exact m4 j q;rw [show j=k by omega,hN,Bool.false_or];exact e⟩ Dm (Jk (pm:= []) _ [] rfl rfl Sf Sf Bf trivial ⟨Rf,Rf,Rf,Lw,trivial⟩)
            | true=>
              cases hd2:((l.getD k trow0).mux ==r.mux) with
              | false=>
                have e:Jdu r (l.getD k trow0)=false:=by rw [hM,hd1,hd2];rfl
                (refine JB ?_;refine JE ?_;refine JB ?_)
                (refine Ju 23 ?_ ?_ ?_ ?_;(· kernel_rfl);(· kernel_rfl);(· kernel_rfl))
                refine stp ?_
                (conv=> whnf)
                refine JaN hd1 ?_
                refine stp ?_
                refine ⟨Bd, ?_⟩
                refine stp ?_
                (conv=> whnf)
                refine JaN hd2 ?_
                refine stp ?_
                exact back (k+1,nx8) ⟨by dsimp only;omega,fun j hj=> by dsimp only at hj;rcases Nat.lt_or_ge j k with q | q;exact m4 j q;rw [show j=k by omega,hN,Bool.false_or];exact e⟩ Dm (Jk (pm:= []) _ [] rfl rfl Sf Sf Bf trivial ⟨Rf,Rf,Rf,Lw,trivial⟩)
              | true=>
                (refine JB ?_;refine JE ?_;refine JB ?_)
                (refine Ju 23 ?_ ?_ ?_ ?_;(· kernel_rfl);(· kernel_rfl);(· kernel_rfl))
                refine stp ?_
                (conv=> whnf)
                refine JaN hd1 ?_
                refine stp ?_
                refine ⟨Bd, ?_⟩
                refine stp ?_
                (conv=> whnf)
                refine JaN hd2 ?_
                refine stp ?_
                refine ⟨Bd, ?_⟩
                refine stp ?_
                intro c hc
                have hc2:c=((l.getD k trow0).sub ==r.sub):=hc
                clear hc
                rw [hd1,hd2,← hc2,Bool.true_and,Bool.true_and] at hM
                clear hc2
                cases c
                ·have e:=hM
                 refine stp ?_
                 exact back (k+1,nx8) ⟨by dsimp only;omega,fun j hj=> by dsimp only at hj;rcases Nat.lt_or_ge j k with q | q;exact m4 j q;rw [show j=k by omega,hN,Bool.false_or];exact e⟩ Dm (Jk (pm:= []) _ [] rfl rfl Sf Sf Bf trivial ⟨Rf,Rf,Rf,Lw,trivial⟩)
                ·rw [Jda hrr hk hi (by rw [hM,Bool.or_true]),if_pos rfl]
                 refine stp ?_
                 exact Jd rfl Rf
end Go.Proofs.W

namespace Go.Proofs.W
open Go.Vl
set_option maxRecDepth 100000
def JdL (l:List TRow):Int×Int:=if 400 < l.length then (0,3) else match (List.range l.length).find? (fun i=> decide (Jcr l i≠0)) with
 | some i=> ((i:Int),Jcr l i)
 | none=> (0,0)
theorem Jhs {n:Nat} {p:Nat→Bool} {i:Nat} (hi:i < n) (h:∀j,j < i→p j=false) (hp:p i=true):(List.range n).find? p=some i:=by
 rw [List.find?_range_eq_some]
 exact ⟨hp,List.mem_range.2 hi,fun j hj=> by rw [h j hj];rfl⟩
theorem Jjh {n:Nat} {p:Nat→Bool} (h:∀j,j < n→p j=false):(List.range n).find? p=none:=by
 rw [List.find?_eq_none]
 intro x hx
 rw [h x (List.mem_range.1 hx)];decide
theorem Jkt (l:List TRow) (hl:l.length≤1000000):Tells Tryz.prog 144 [Jv l] (.tup [int (JdL l).1,int (JdL l).2]):=by
 unfold JdL
 refine Jf Tryz.func144 rfl rfl fun nx=> ?_
 by_cases h4:400 < l.length
 ·rw [if_pos h4]
  refine stp ?_
  intro c hc
  obtain rfl:c=true:=hc.trans (decide_eq_true Om)
  refine stp ?_
  exact Jd rfl Rf
 ·rw [if_neg h4]
  refine stp ?_
  intro c hc
  obtain rfl:c=false:=hc.trans (decide_eq_false Om)
  refine stp ?_
  refine Jo (fun y:Nat×Nat=> mk 22 [(0,Jv l),(4,int y.1)] ⟨[], [],y.2,0⟩) (fun y=> y.1≤l.length∧∀j,j < y.1→Jcr l j=0) (fun y=> l.length - y.1) ?_ ?_
  ·exact ⟨(0,nx),⟨Nat.zero_le _,fun j hj=> absurd hj (Nat.not_lt_zero _)⟩,J5 rfl rfl ⟨Rf,Rf,trivial⟩⟩
  ·rintro ⟨i,nx2⟩ ⟨h1,h2⟩
   dsimp only at h1 h2
   refine stp ?_
   intro c g;cases c
   ·have g:=Jm g
    try dsimp only at g
    have hi:i=l.length:=by omega
    subst hi
    rw [Jjh (fun j hj=> decide_eq_false (fun q=> q (h2 j hj)))]
    refine stp ?_
    exact Jd rfl Rf
   ·have g:=Jn g
    try dsimp only at g
    have hi:i < l.length:=by omega
    have hrow:=Jm7 l i hi hl
    refine stp ?_
    refine Je rfl rfl hrow ⟨Rf,Rf,trivial⟩ fun nx3=> ?_
    refine stp ?_
    intro c hc
    have hc2:c=decide (Jcr l i≠0):=hc.trans (by rw [Bool.eq_iff_iff];simp)
    clear hc
    cases c
    ·have e:Jcr l i=0:=by have:=of_decide_eq_false hc2.symm;omega
     clear hc2
     refine stp ?_
     exact back (i+1,nx3) ⟨hi,fun j hj=> by dsimp only at hj;rcases Nat.lt_or_ge j i with q | q;exact h2 j q;rw [show j=i by omega];exact e⟩ Dm (J5 rfl rfl ⟨Rf,Lw,trivial⟩)
    ·have e:(List.range l.length).find? (fun i=> decide (Jcr l i≠0))=some i:=Jhs hi (fun j hj=> decide_eq_false (fun q=> q (h2 j hj))) hc2.symm
     clear hc2
     rw [e]
     refine stp ?_
     exact Jd rfl Rf
end Go.Proofs.W

namespace Go.Proofs.W
open Go.Vl
set_option maxRecDepth 100000
def Jow (l:List TRow) (k:Nat) (S:JbK):Prop:=(∀(a:Nat) (n:Int),a < 5→(((a:Int),n)∈S↔n≠-1∧∃j,j < k∧(l.getD j trow0).num a=n))∧(∀m s:Int,m=1∨m=2→((5+m,s)∈S↔∃j,j < k∧(l.getD j trow0).mux=m∧(l.getD j trow0).sub=s))
theorem Jku {r:TRow} {S:JbK}:∀ {k:Nat},JaW r S k=none→∃a,a < k∧r.num a≠-1∧((a:Int),r.num a)∈S
 | 0,h=> by unfold JaW at h;cases h
 | k+1,h=> by
   unfold JaW at h
   cases hk:JaW r S k with
   | none=> obtain ⟨a,h1,h2⟩:=Jku hk;exact ⟨a,by omega,h2⟩
   | some S'=>
     rw [hk] at h
     dsimp only at h
     split at h
     ·cases h
     ·rename_i hn
      split at h
      ·rename_i hm
       refine ⟨k,Nat.lt_succ_self _,hn, ?_⟩
       have:∀ {m:Nat} {S':JbK},JaW r S m=some S'→∀x∈S',x∈S∨∃a,a < m∧x=((a:Int),r.num a):=by
        intro m
        induction m with
        | zero=> intro S' h x hx;unfold JaW at h;cases h;exact .inl hx
        | succ m ih=>
          intro S' h x hx
          unfold JaW at h
          cases hm:JaW r S m with
          | none=> rw [hm] at h;cases h
          | some S1=>
            rw [hm] at h
            dsimp only at h
            split at h
            ·cases h
             rcases ih hm x hx with q | ⟨a,q1,q2⟩
             ·exact .inl q
             ·exact .inr ⟨a,by omega,q2⟩
            ·split at h
             ·cases h
             ·cases h
              rcases List.mem_append.1 hx with hx | hx
              ·rcases ih hm x hx with q | ⟨a,q1,q2⟩
               ·exact .inl q
               ·exact .inr ⟨a,by omega,q2⟩
              ·exact .inr ⟨m,Nat.lt_succ_self _,List.mem_singleton.1 hx⟩
       rcases this hk _ hm with q | ⟨a,q1,q2⟩
       ·exact q
       ·have:=congrArg Prod.fst q2
        dsimp only at this
        omega
      ·cases h
theorem Jkv {r:TRow} {S:JbK}:∀ {k:Nat} {S':JbK},JaW r S k=some S'→(∀x,x∈S'↔x∈S∨∃a,a < k∧r.num a≠-1∧x=((a:Int),r.num a))∧∀a,a < k→r.num a≠-1→¬((a:Int),r.num a)∈S
 | 0,S',h=> by
   unfold JaW at h;cases h
   exact ⟨fun x=> ⟨.inl,fun q=> by rcases q with q | ⟨a,q,_⟩;exact q;omega⟩,fun a ha=> by omega⟩
 | k+1,S',h=> by
   unfold JaW at h
   cases hk:JaW r S k with
   | none=> rw [hk] at h;cases h
   | some S1=>
     rw [hk] at h
     dsimp only at h
     obtain ⟨i1,i2⟩:=Jkv hk
     split at h
     ·rename_i hn
      cases h
      refine ⟨fun x=> (i1 x).trans ⟨fun q=> ?_,fun q=> ?_⟩,fun a ha hna=> ?_⟩
      ·rcases q with q | ⟨a,q1,q2⟩
       ·exact .inl q
       ·exact .inr ⟨a,by omega,q2⟩
      ·rcases q with q | ⟨a,q1,q2⟩
       ·exact .inl q
       ·rcases Nat.lt_or_ge a k with w | w
        ·exact .inr ⟨a,w,q2⟩
        ·rw [show a=k by omega] at q2;exact absurd hn q2.1
      ·rcases Nat.lt_or_ge a k with w | w
       ·exact i2 a w hna
       ·rw [show a=k by omega] at hna;exact absurd hn hna
     ·rename_i hn
      split at h
      ·cases h
      ·rename_i hm
       cases h
       refine ⟨fun x=> ?_,fun a ha hna=> ?_⟩
       ·rw [List.mem_append,i1,List.mem_singleton]
        constructor
        ·rintro ((q | ⟨a,q1,q2⟩) | q)
         ·exact .inl q
         ·exact .inr ⟨a,by omega,q2⟩
         ·exact .inr ⟨k,Nat.lt_succ_self _,hn,q⟩
        ·rintro (q | ⟨a,q1,q2,q3⟩)
         ·exact .inl (.inl q)
         ·rcases Nat.lt_or_ge a k with w | w
          ·exact .inl (.inr ⟨a,w,q2,q3⟩)
          ·rw [show a=k by omega] at q3;exact .inr q3
       ·rcases Nat.lt_or_ge a k with w | w
        ·exact i2 a w hna
        ·rw [show a=k by omega]
         exact fun q=> hm ((i1 _).2 (.inl q))
theorem Jgz {l:List TRow} {i:Nat} (hi:i < l.length):Jcq l i=true↔∃j,j < i∧((∃a,a < 5∧0≤(l.getD i trow0).num a∧(l.getD j trow0).num a=(l.getD i trow0).num a)∨(0 < (l.getD i trow0).mux∧(l.getD j trow0).mux=(l.getD i trow0).mux∧(l.getD j trow0).sub=(l.getD i trow0).sub)):=by
 constructor
 ·intro h
  unfold Jcq at h
  rw [List.any_eq_true] at h
  obtain ⟨s,hs,h⟩:=h
  obtain ⟨j,hj,rfl⟩:=List.mem_iff_getElem.1 hs
  rw [List.length_take] at hj
  rw [List.getElem_take] at h
  have hg:l.getD j trow0=l[j]:=by simp [List.getD,show j < l.length by omega]
  refine ⟨j,by omega, ?_⟩
  rw [hg]
  rw [Bool.or_eq_true] at h
  rcases h with h | h
  ·left
   unfold JdZ at h
   rw [List.any_eq_true] at h
   obtain ⟨a,ha,h⟩:=h
   rw [Bool.and_eq_true,decide_eq_true_iff,decide_eq_true_iff] at h
   exact ⟨a,by simp at ha;omega,h⟩
  ·right
   unfold Jdu at h
   rw [Bool.and_eq_true,Bool.and_eq_true,decide_eq_true_iff,decide_eq_true_iff,decide_eq_true_iff] at h
   exact h
 ·rintro ⟨j,hj,h⟩
  refine Jda rfl hj hi ?_
  rw [Bool.or_eq_true]
  rcases h with ⟨a,ha,h1,h2⟩ | ⟨h1,h2,h3⟩
  ·exact .inl (Jdf ha (by unfold cN;rw [decide_eq_true h1,decide_eq_true h2];rfl))
  ·exact .inr (by unfold Jdu;rw [decide_eq_true h1,decide_eq_true h2,decide_eq_true h3];rfl)
theorem Jwy {r:TRow} (h:Jey r=false) {a:Nat} (ha:a < 5):-1≤r.num a:=by
 have:Jcz (r.num a)=false:=by
  cases hq:Jcz (r.num a) with
  | false=> rfl
  | true=> rw [Jcs ha hq.symm] at h;cases h
 unfold Jcz at this
 rw [Bool.or_eq_false_iff,decide_eq_false_iff_not] at this
 omega
theorem Jqj {l:List TRow} {i:Nat} {S:JbK} (hi:i < l.length) (hS:Jow l i S):(Jcr l i=0→∃S',JeA l i S= .ok S'∧Jow l (i+1) S')∧(Jcr l i≠0→∃e,JeA l i S= .error e∧e≠0):=by
 obtain ⟨s1,s2⟩:=hS
 cases hn:Jag (l.getD i trow0).name.data.toList with
 | false=> rw [Jlp hn];exact ⟨(fun h=> by cases h),fun _=> ⟨13,Jqf hn,by decide⟩⟩
 | true=>
   rw [JjD hn]
   cases ho:Jbx l i with
   | true=> rw [if_pos rfl];exact ⟨(fun h=> by cases h),fun _=> ⟨15,Jqg hn ho,by decide⟩⟩
   | false=>
     rw [if_neg Dc]
     cases hb:Jey (l.getD i trow0) with
     | true=>
       rw [if_pos rfl]
       exact ⟨(fun h=> by cases h),fun _=> ⟨16,Jlk hn ho (by rw [Jib,hb];rfl),by decide⟩⟩
     | false=>
       rw [if_neg Dc]
       cases hm:Jbf (l.getD i trow0) with
       | true=>
         rw [if_pos rfl]
         exact ⟨(fun h=> by cases h),fun _=> ⟨16,Jlk hn ho (by rw [Jib,hb,hm];rfl),by decide⟩⟩
       | false=>
         rw [if_neg Dc]
         have hrg:JcC (l.getD i trow0)=true:=by rw [Jib,hb,hm];rfl
         cases ha:JeB (l.getD i trow0) with
         | true=>
           rw [if_pos rfl]
           have ha':(l.getD i trow0).a2=102∨(l.getD i trow0).a2=117:=by unfold JeB at ha;simpa using ha
           exact ⟨(fun h=> by cases h),fun _=> ⟨17,Jll hn ho hrg ha',by decide⟩⟩
         | false=>
           rw [if_neg Dc]
           have ha':¬((l.getD i trow0).a2=102∨(l.getD i trow0).a2=117):=fun q=> by
            unfold JeB at ha
            rcases q with q | q
            ·rw [decide_eq_true q] at ha;cases ha
            ·rw [decide_eq_true q,Bool.or_true] at ha;cases ha
           rw [Jl8 hn ho hrg ha']
           cases hns:JaW (l.getD i trow0) S 5 with
           | none=>
             obtain ⟨a,h1,h2,h3⟩:=Jku hns
             obtain ⟨_,j,hj,h4⟩:=(s1 a _ h1).1 h3
             have hc:Jcq l i=true:=(Jgz hi).2 ⟨j,hj, .inl ⟨a,h1,by have:=Jwy hb h1;omega,h4⟩⟩
             rw [hc,if_pos rfl]
             exact ⟨(fun h=> by cases h),fun _=> ⟨15,rfl,by decide⟩⟩
           | some S1=>
             obtain ⟨i1,i2⟩:=Jkv hns
             dsimp only
             have hnoN:∀j,j < i→∀a,a < 5→0≤(l.getD i trow0).num a→(l.getD j trow0).num a≠(l.getD i trow0).num a:=fun j hj a h1 h2 h3=> i2 a h1 Om ((s1 a _ h1).2 ⟨by omega,j,hj,h3⟩)
             have hS1:∀(a:Nat) (n:Int),a < 5→(((a:Int),n)∈S1↔n≠-1∧∃j,j < i+1∧(l.getD j trow0).num a=n):=fun a n h5=> by
              rw [i1,s1 a n h5]
              constructor
              ·rintro (⟨q1,j,q2,q3⟩ | ⟨b,q1,q2,q3⟩)
               ·exact ⟨q1,j,by omega,q3⟩
               ·have e1:a=b:=by have:=congrArg Prod.fst q3;dsimp only at this;omega
                have e2:n=(l.getD i trow0).num b:=congrArg Prod.snd q3
                subst e1
                exact ⟨by rw [e2];exact q2,i,Nat.lt_succ_self _,e2.symm⟩
              ·rintro ⟨q1,j,q2,q3⟩
               rcases Nat.lt_or_ge j i with w | w
               ·exact .inl ⟨q1,j,w,q3⟩
               ·have e:j=i:=by omega
                subst e
                exact .inr ⟨a,h5,by rw [q3];exact q1,by rw [q3]⟩
             unfold Jh9
             by_cases hm0:(l.getD i trow0).mux=0
             ·rw [if_pos hm0]
              have hc:Jcq l i=false:=by
               rw [Bool.eq_false_iff,Ne,Jgz hi]
               rintro ⟨j,hj,⟨a,h1,h2,h3⟩ | ⟨h1,_⟩⟩
               ·exact hnoN j hj a h1 h2 h3
               ·omega
              rw [hc,if_neg Dc]
              refine ⟨fun _=> ⟨S1,rfl,hS1,fun m s hms=> ?_⟩,fun h=> absurd rfl h⟩
              rw [i1,s2 m s hms]
              constructor
              ·rintro (⟨j,q2,q3⟩ | ⟨b,q1,q2,q3⟩)
               ·exact ⟨j,by omega,q3⟩
               ·have:=congrArg Prod.fst q3;dsimp only at this;omega
              ·rintro ⟨j,q2,q3,q4⟩
               rcases Nat.lt_or_ge j i with w | w
               ·exact .inl ⟨j,w,q3,q4⟩
               ·have e:j=i:=by omega
                subst e;omega
             ·rw [if_neg hm0]
              have hm12:=Jkk hrg hm0
              by_cases hin:(5+(l.getD i trow0).mux,(l.getD i trow0).sub)∈S1
              ·rw [if_pos hin]
               have hinS:(5+(l.getD i trow0).mux,(l.getD i trow0).sub)∈S:=by
                rcases (i1 _).1 hin with q | ⟨b,q1,q2,q3⟩
                ·exact q
                ·have:=congrArg Prod.fst q3;dsimp only at this;omega
               obtain ⟨j,hj,q1,q2⟩:=(s2 _ _ hm12).1 hinS
               have hc:Jcq l i=true:=(Jgz hi).2 ⟨j,hj, .inr ⟨by omega,q1,q2⟩⟩
               rw [hc,if_pos rfl]
               exact ⟨(fun h=> by cases h),fun _=> ⟨15,rfl,by decide⟩⟩
              ·rw [if_neg hin]
               have hc:Jcq l i=false:=by
                rw [Bool.eq_false_iff,Ne,Jgz hi]
                rintro ⟨j,hj,⟨a,h1,h2,h3⟩ | ⟨h1,h2,h3⟩⟩
                ·exact hnoN j hj a h1 h2 h3
                ·exact hin ((i1 _).2 (.inl ((s2 _ _ hm12).2 ⟨j,hj,h2,h3⟩)))
               rw [hc,if_neg Dc]
               refine ⟨fun _=> ⟨_,rfl,fun a n h5=> ?_,fun m s hms=> ?_⟩,fun h=> absurd rfl h⟩
               ·rw [List.mem_append,hS1 a n h5,List.mem_singleton]
                constructor
                ·rintro (q | q)
                 ·exact q
                 ·have:=congrArg Prod.fst q;dsimp only at this;omega
                ·exact .inl
               ·rw [List.mem_append,i1,s2 m s hms,List.mem_singleton]
                constructor
                ·rintro ((⟨j,q2,q3⟩ | ⟨b,q1,q2,q3⟩) | q)
                 ·exact ⟨j,by omega,q3⟩
                 ·have:=congrArg Prod.fst q3;dsimp only at this;omega
                 ·have e1:=congrArg Prod.fst q
                  have e2:=congrArg Prod.snd q
                  dsimp only at e1 e2
                  exact ⟨i,Nat.lt_succ_self _,by omega,e2.symm⟩
                ·rintro ⟨j,q2,q3,q4⟩
                 rcases Nat.lt_or_ge j i with w | w
                 ·exact .inl (.inl ⟨j,w,q3,q4⟩)
                 ·have e:j=i:=by omega
                  subst e
                  exact .inr (by rw [q3,q4])
theorem JjE {l:List TRow}:∀ {k:Nat},k≤l.length→(∀j,j < k→Jcr l j=0)→∃S,Jdl l k= .ok S∧Jow l k S
 | 0,_,_=> ⟨[],rfl,fun a n _=> by simp,fun m s _=> by simp⟩
 | k+1,hk,h=> by
   obtain ⟨S,h1,h2⟩:=JjE (k:=k) Om fun j hj=> h j Om
   obtain ⟨S',h3,h4⟩:=(Jqj Om h2).1 (h k Om)
   exact ⟨S',Jl7 h1 h3,h4⟩
theorem Jmh {l:List TRow}:(∀j,j < l.length→Jcr l j=0)∨∃i,i < l.length∧Jcr l i≠0∧∀j,j < i→Jcr l j=0:=by
 have:∀n,n≤l.length→(∀j,j < n→Jcr l j=0)∨∃i,i < l.length∧Jcr l i≠0∧∀j,j < i→Jcr l j=0:=by
  intro n
  induction n with
  | zero=> exact fun _=> .inl fun j hj=> absurd hj (Nat.not_lt_zero j)
  | succ n ih=>
    intro hn
    rcases ih Om with h | h
    ·by_cases q:Jcr l n=0
     ·exact .inl fun j hj=> by rcases Nat.lt_or_ge j n with w | w;exact h j w;rw [show j=n by omega];exact q
     ·exact .inr ⟨n,by omega,q,h⟩
    ·exact .inr h
 exact this _ (Nat.le_refl _)
theorem Jmi (l:List TRow):(JbR l).2=0↔(JdL l).2=0:=by
 by_cases h4:400 < l.length
 ·unfold JbR JdL
  rw [if_pos h4,if_pos h4]
 ·rcases Jmh (l:=l) with h | ⟨i,hi,h1,h2⟩
  ·obtain ⟨S,hS,-⟩:=JjE (Nat.le_refl _) h
   rw [Jtg h4 hS]
   unfold JdL
   rw [if_neg h4,Jjh (fun j hj=> decide_eq_false (fun q=> q (h j hj)))]
  ·obtain ⟨S,hS,hs⟩:=JjE (k:=i) Om h2
   obtain ⟨e,he,hne⟩:=(Jqj hi hs).2 h1
   rw [Jqe h4 hi hS he]
   unfold JdL
   rw [if_neg h4,Jhs (p:=fun i=> decide (Jcr l i≠0)) hi (fun j hj=> decide_eq_false (fun q=> q (h2 j hj))) (decide_eq_true h1)]
   exact ⟨fun q=> absurd q hne,fun q=> absurd q h1⟩
theorem JeC {l:List TRow} (h:(JbR l).2=0):l.length≤400∧∀j,j < l.length→Jcr l j=0:=by
 rw [Jmi] at h
 unfold JdL at h
 by_cases h4:400 < l.length
 ·rw [if_pos h4] at h;cases h
 ·rcases Jmh (l:=l) with q | ⟨i,hi,h1,h2⟩
  ·exact ⟨by omega,q⟩
  ·rw [if_neg h4,Jhs (p:=fun i=> decide (Jcr l i≠0)) hi (fun j hj=> decide_eq_false (fun q=> q (h2 j hj))) (decide_eq_true h1)] at h
   exact absurd h h1
theorem Jgf {l:List TRow} {i:Nat} (h:Jcr l i=0):Jag (l.getD i trow0).name.data.toList=true∧Jbx l i=false∧Jey (l.getD i trow0)=false∧Jbf (l.getD i trow0)=false∧JeB (l.getD i trow0)=false∧Jcq l i=false:=by
 cases hn:Jag (l.getD i trow0).name.data.toList with
 | false=> rw [Jlp hn] at h;cases h
 | true=>
   rw [JjD hn] at h
   split at h
   ·cases h
   split at h
   ·cases h
   split at h
   ·cases h
   split at h
   ·cases h
   split at h
   ·cases h
   simp_all
theorem JeD {l:List TRow} (h:(JbR l).2=0):JiF l:=by
 obtain ⟨_,hr⟩:=JeC h
 have step:∀i,i+1 < l.length→Go.Sort.ltStr (l.getD i trow0).name.data.toList (l.getD (i+1) trow0).name.data.toList=true:=fun i hi=> by
  have:=(Jgf (hr (i+1) hi)).2.1
  unfold Jbx at this
  rw [decide_eq_true (Nat.succ_pos i),Bool.true_and] at this
  exact Jth this
 intro i j hij hj
 have:∀n,i+1+n < l.length→Go.Sort.ltStr (l.getD i trow0).name.data.toList (l.getD (i+1+n) trow0).name.data.toList=true:=by
  intro n
  induction n with
  | zero=> exact step i
  | succ n ih=> exact fun hn=> Go.Sort.swo_ltStr.trans _ _ _ (ih Om) (step (i+1+n) Om)
 have:=this (j - i - 1) Om
 rwa [show i+1+(j - i - 1)=j by omega] at this
end Go.Proofs.W

namespace Go.Proofs.W
open Go.Vl
set_option maxRecDepth 100000
def nameR (l:List TRow) (r:Rec):ByteArray:=(ofI l r).name
def JyJ (l:List TRow) (s:ByteArray) (rs:List Rec):List Rec:=rs.filter fun r=> kS s (nameR l r)
def Jvd (l:List TRow) (r:Rec) (k:Nat):Nat:=JyC (ofI l r).abi.toNat r k
def OwnOk (l:List TRow) (rs:List Rec) (g:Gat):Prop:=∃r0 rest,JyJ l g.name rs=r0::rest∧g.m=rest.length+1∧(∀k,g.a k=Jvd l r0 k)∧∀k,g.b k=rest.all fun r=> decide (Jvd l r0 k=Jvd l r k)
structure GInv (l:List TRow) (rs:List Rec) (S:List Gat×Bool):Prop where
 nd:(S.1.map Gat.name).Nodup
 nz:∀g∈S.1,g.name.size≠0
 own:∀g∈S.1,OwnOk l rs g
 all:∀r∈rs,(nameR l r).size≠0→∃g∈S.1,g.name=nameR l r
 x:S.2=rs.any fun r=> decide ((nameR l r).size≠0)&& decide ((ofI l r).abi=1)
def RSb (a b:List UInt8):Prop:=Go.Sort.ltStr a b=true
theorem JiI (x:List UInt8):¬RSb x x:=by unfold RSb;rw [Go.Sort.swo_ltStr.irrefl];decide
theorem JxH (x y z:List UInt8) (h:RSb x y) (k:RSb y z):RSb x z:=Go.Sort.swo_ltStr.trans x y z h k
theorem Jkw:∀ {a b:List (List UInt8)},a.Pairwise RSb→b.Pairwise RSb→(∀z,z∈a↔z∈b)→a=b
 | [], [],_,_,_=> rfl
 | [],y::b,_,_,h=> by have:=(h y).2 (.head _);cases this
 | x::a, [],_,_,h=> by have:=(h x).1 (.head _);cases this
 | x::a,y::b,ha,hb,h=> by
   rw [List.pairwise_cons] at ha hb
   have hxy:x=y:=by
    rcases List.mem_cons.1 ((h x).1 (.head _)) with e | hx
    ·exact e
    ·rcases List.mem_cons.1 ((h y).2 (.head _)) with e | hy
     ·exact e.symm
     ·exact absurd (JxH _ _ _ (ha.1 y hy) (hb.1 x hx)) (JiI x)
   subst hxy
   rw [Jkw ha.2 hb.2 fun z=> ⟨fun hz=> ?_,fun hz=> ?_⟩]
   ·rcases List.mem_cons.1 ((h z).1 (.tail _ hz)) with e | q
    ·subst e;exact absurd (ha.1 _ hz) (JiI _)
    ·exact q
   ·rcases List.mem_cons.1 ((h z).2 (.tail _ hz)) with e | q
    ·subst e;exact absurd (hb.1 _ hz) (JiI _)
    ·exact q
end Go.Proofs.W

namespace Go.Proofs.W
open Go.Vl
set_option maxRecDepth 100000
end Go.Proofs.W

namespace Go.Proofs.W
open Go.Vl
set_option maxRecDepth 100000
def JrM (p:Pol):Prop:=p.rules.length≤1000000∧∀r∈p.rules,r.conds.length≤1000000∧∀c∈r.conds,c.ok
def codeA (a:A2):Nat:=kb (a.1.toNat - 1)+a.2.toNat
theorem JgL {k n:Int} (h:JaA k n=true):∃k' n':Nat,k=(k'+1:Nat)∧n=(n':Nat)∧k' < 8∧n'≤km k':=by
 unfold JaA at h
 simp only [Bool.and_eq_true,decide_eq_true_eq] at h
 obtain ⟨⟨⟨h1,h2⟩,h3⟩,h4⟩:=h
 refine ⟨(k - 1).toNat,n.toNat,by omega,by omega,by omega, ?_⟩
 unfold JfI at h4
 unfold km
 split at h4
 ·rw [if_pos Om];omega
 ·split at h4
  ·rw [if_neg Om,if_pos Om];omega
  ·rw [if_neg Om,if_neg Om];omega
theorem Jqk (a:A2) (h:JaA a.1 a.2=true):Tells Tryz.prog 113 [Joh a] (.tup [u32 (codeA a:Nat),int 0]):=by
 obtain ⟨k,n⟩:=a
 obtain ⟨k',n',rfl,rfl,h1,h2⟩:=JgL h
 have:=JrH k' n' h1 h2
 unfold codeA
 dsimp only
 rw [show ((k'+1:Nat):Int).toNat - 1=k' by omega,show ((n':Nat):Int).toNat=n' by omega]
 exact this
theorem JjF {a:A2} (h:JaA a.1 a.2=true):codeA a < 4294967296:=by
 obtain ⟨k,n⟩:=a
 obtain ⟨k',n',rfl,rfl,h1,h2⟩:=JgL h
 have:=JrA h1
 unfold codeA
 dsimp only
 rw [show ((k'+1:Nat):Int).toNat - 1=k' by omega,show ((n':Nat):Int).toNat=n' by omega]
 omega
theorem Jd0 {p:Pol} (h:JaB p=true):JaA p.dflt.1 p.dflt.2=true∧∀r∈p.rules,J6 r=true:=by
 unfold JaB at h
 simp only [Bool.and_eq_true,decide_eq_true_eq,Bool.not_eq_true',List.any_eq_false,Bool.not_eq_false'] at h
 refine ⟨h.1,fun r hr=> ?_⟩
 have:=h.2.2 r hr
 simpa using this
theorem JeE {r:Rul} (h:J6 r=true):JaA r.act.1 r.act.2=true:=by
 unfold J6 at h
 simp only [Bool.and_eq_true] at h
 exact h.2.1
end Go.Proofs.W

namespace Go.Proofs.W
open Go.Vl
set_option maxRecDepth 100000
structure PRul where
 conds:List Cnd
 code:Nat
deriving DecidableEq
structure PEnt where
 num:Nat
 rules:List PRul
structure PSub where
 num:Nat
 code:Nat
deriving DecidableEq
structure Plan where
 dflt:Nat
 x32:Bool
 ents:Nat→List PEnt
 subs:Nat→List PSub
def Jfs (c:Cnd):Bool:=decide ((JbQ c).2=2)
def JjG (c:Cnd):Option Cnd:=if (JbQ c).2=0 then some (JbQ c).1 else none
def Jht (r:PRul):Option PRul:=if r.conds.any Jfs then none else some ⟨r.conds.filterMap JjG,r.code⟩
def Jdg (a:Nat) (r:PRul):Option PRul:=if a=2 then Jht r else some r
def JbY (a:Nat):List PRul→List PRul
 | []=> []
 | r::l=> match Jdg a r with
   | none=> JbY a l
   | some q=> if q.conds.length=0 then [q] else q::JbY a l
def JgM (d:Nat) (l:List PRul):List PRul:=(l.reverse.dropWhile fun r=> decide (r.code=d)).reverse
def Jau (a:Nat) (l:List PRul) (d:Nat):List PRul:=JgM d (JbY a l)
theorem JgA {d:Nat} {l:List PRul} {r:PRul}:JgM d (l++ [r])=if r.code=d then JgM d l else l++ [r]:=by
 unfold JgM
 rw [List.reverse_append,List.reverse_singleton,List.singleton_append,List.dropWhile_cons]
 by_cases h:r.code=d
 ·rw [if_pos (decide_eq_true h),if_pos h]
 ·rw [if_neg (by simpa using h),if_neg h,List.reverse_cons,List.reverse_reverse]
def PRul.ok (r:PRul):Prop:=∀c∈r.conds,c.ok∧NFm c
theorem Jkx (c:Cnd):(JbQ c).2=0∨(JbQ c).2=1∨(JbQ c).2=2:=by
 unfold JbQ
 repeat' split
 all_goals simp
end Go.Proofs.W

namespace Go.Proofs.W
open Go.Vl
set_option maxRecDepth 100000
theorem Jky {arg op:Int} {mask value:Nat} (h:op=1∨op=2):Tells Tryz.prog 239 [JD ⟨arg,op,mask,value⟩] (.tup [JD ⟨arg,op,mask,value⟩,int 0]):=by
 rcases h with rfl | rfl
 ·refine Jf Tryz.func239 rfl rfl fun nx=> ?_
  refine stp ?_
  exact Jh rfl ⟨rfl,trivial⟩ Rf
 ·refine Jf Tryz.func239 rfl rfl fun nx=> ?_
  refine stp ?_
  exact Jh rfl ⟨rfl,trivial⟩ Rf
theorem Jwz {arg:Int} {mask value:Nat}:Tells Tryz.prog 239 [JD ⟨arg,3,mask,value⟩] (.tup [JD (Jam ⟨arg,3,mask,value⟩).1,int (Jam ⟨arg,3,mask,value⟩).2]):=by
 refine Jf Tryz.func239 rfl rfl fun nx=> ?_
 refine stp ?_
 intro c h1;cases c
 ·refine stp ?_
  intro c h2;cases c
  ·refine stp ?_
   (try simp only [J3, J4, Jah, Jai, Jaa, Jab] at *)
   have e0:¬value=0:=by omega
   have e1:¬value=1:=by omega
   rw [show Jam ⟨arg,3,mask,value⟩=(⟨arg,3,mask,value⟩,0) by simp [Jam,e0,e1]]
   exact Jh rfl ⟨rfl,trivial⟩ Rf
  ·refine stp ?_
   (try simp only [J3, J4, Jah, Jai, Jaa, Jab] at *)
   have e1:value=1:=by omega
   rw [show Jam ⟨arg,3,mask,value⟩=(⟨arg,1,mask,0⟩,0) by simp [Jam,e1]]
   exact Jh rfl ⟨rfl,trivial⟩ Rf
 ·refine stp ?_
  (try simp only [J3, J4, Jah, Jai, Jaa, Jab] at *)
  have e0:value=0:=by omega
  rw [show Jam ⟨arg,3,mask,value⟩=(cnd0,2) by simp [Jam,e0]]
  exact Jh rfl ⟨rfl,trivial⟩ Rf
theorem JwA {arg:Int} {mask value:Nat}:Tells Tryz.prog 239 [JD ⟨arg,6,mask,value⟩] (.tup [JD (Jam ⟨arg,6,mask,value⟩).1,int (Jam ⟨arg,6,mask,value⟩).2]):=by
 refine Jf Tryz.func239 rfl rfl fun nx=> ?_
 refine stp ?_
 intro c h1;cases c
 ·refine stp ?_
  intro c h2;cases c
  ·refine stp ?_
   (try simp only [J3, J4, Jah, Jai, Jaa, Jab] at *)
   have e0:¬value=0:=by omega
   have e1:¬value=18446744073709551615:=by omega
   rw [show Jam ⟨arg,6,mask,value⟩=(⟨arg,6,mask,value⟩,0) by simp [Jam,e0,e1]]
   exact Jh rfl ⟨rfl,trivial⟩ Rf
  ·refine stp ?_
   (try simp only [J3, J4, Jah, Jai, Jaa, Jab] at *)
   have e1:value=18446744073709551615:=by omega
   rw [show Jam ⟨arg,6,mask,value⟩=(⟨arg,1,mask,value⟩,0) by simp [Jam,e1]]
   exact Jh rfl ⟨rfl,trivial⟩ Rf
 ·refine stp ?_
  (try simp only [J3, J4, Jah, Jai, Jaa, Jab] at *)
  have e0:value=0:=by omega
  rw [show Jam ⟨arg,6,mask,value⟩=(cnd0,1) by simp [Jam,e0]]
  exact Jh rfl ⟨rfl,trivial⟩ Rf
theorem JxI {arg:Int} {mask v:Nat} (e0:¬v=0) (e1:¬v=1):Jam ⟨arg,3,mask,v⟩=(⟨arg,3,mask,v⟩,0):=by simp [Jam,e0,e1]
theorem JxJ {arg:Int} {mask v:Nat} (e1:v=1):Jam ⟨arg,3,mask,v⟩=(⟨arg,1,mask,0⟩,0):=by simp [Jam,e1]
theorem JxK {arg:Int} {mask v:Nat} (e0:¬v=0) (e1:¬v=18446744073709551615):Jam ⟨arg,6,mask,v⟩=(⟨arg,6,mask,v⟩,0):=by simp [Jam,e0,e1]
theorem JxL {arg:Int} {mask v:Nat} (e1:v=18446744073709551615):Jam ⟨arg,6,mask,v⟩=(⟨arg,1,mask,v⟩,0):=by simp [Jam,e1]
theorem Jyh {arg:Int} {mask value:Nat} (h:¬value=18446744073709551615):Jam ⟨arg,4,mask,value⟩=Jam ⟨arg,3,mask,value+1⟩:=by
 have h1:¬((4:Int)=4∧value=18446744073709551615):=fun hh=> h hh.2
 have h2:¬((4:Int)=5∧value=18446744073709551615):=fun hh=> h hh.2
 conv=> lhs;unfold Jam
 dsimp only
 rw [if_neg h1,if_neg h2]
 rfl
theorem Jyi {arg:Int} {mask value:Nat} (h:¬value=18446744073709551615):Jam ⟨arg,5,mask,value⟩=Jam ⟨arg,6,mask,value+1⟩:=by
 have h1:¬((5:Int)=4∧value=18446744073709551615):=fun hh=> h hh.2
 have h2:¬((5:Int)=5∧value=18446744073709551615):=fun hh=> h hh.2
 conv=> lhs;unfold Jam
 dsimp only
 rw [if_neg h1,if_neg h2]
 rfl
set_option maxHeartbeats 1000000 in
theorem JwB {arg:Int} {mask value:Nat} (o2:value < 18446744073709551616) (q:Cnd×Nat) (hq:q=Jam ⟨arg,4,mask,value⟩):Tells Tryz.prog 239 [JD ⟨arg,4,mask,value⟩] (.tup [JD q.1,int q.2]):=by
 refine Jf Tryz.func239 rfl rfl fun nx=> ?_
 refine stp ?_
 intro c h1;cases c
 · (try simp only [J3, J4, Jah, Jai, Jaa, Jab] at *)
   have e9:¬value=18446744073709551615:=by omega
   have e8:¬value+1=0:=by omega
   have hw:=Jho o2 e9
   obtain ⟨v,hv⟩:∃v:Nat,v=value+1:=⟨_,rfl⟩
   rw [← hv] at hw
   have hc4:Jam ⟨arg,4,mask,value⟩=Jam ⟨arg,3,mask,v⟩:=by rw [Jyh e9,hv]
   (refine JB ?_;refine JE ?_;refine JB ?_;refine JE ?_;refine JB ?_;refine JE ?_;refine JB ?_)
   refine AW.le (Jk (n:=115) (nn:=3) (L:= [(1, .bp (0,nx) 0),(2, .bp (1,nx+1) 0),(3,int 0),(4, .bp (2,nx+2) 0)]) (pm:= []) (bx:= [((2,nx+2), .c [int 0,int 0,u64 0,u64 0]),((1,nx+1), .c [int 0,int 0,u64 0,u64 0]),((0,nx), .c [int arg,int 3,u64 mask,u64 v])]) _ [] rfl rfl Sf Sf ⟨rfl,OwnLe.refl _,rfl,OwnLe.refl _,rfl,⟨Rf,Rf,Rf,Jkh hw,trivial⟩,trivial⟩ trivial ⟨Rf,Rf,Rf,Rf,trivial⟩) ?_
   refine stp ?_
   intro c hc
   obtain rfl:c=false:=hc.trans (by simp;omega)
   refine stp ?_
   intro c hc;cases c
   ·refine stp ?_
    (try simp only [J3, J4, Jah, Jai, Jaa, Jab] at *)
    have e0:¬v=0:=by omega
    have e1:¬v=1:=by omega
    rw [(hq.trans hc4).trans (JxI e0 e1)]
    exact Jh rfl ⟨rfl,trivial⟩ Rf
   ·refine stp ?_
    (try simp only [J3, J4, Jah, Jai, Jaa, Jab] at *)
    have e1:v=1:=by omega
    rw [(hq.trans hc4).trans (JxJ e1)]
    exact Jh rfl ⟨rfl,trivial⟩ Rf
 ·refine stp ?_
  (try simp only [J3, J4, Jah, Jai, Jaa, Jab] at *)
  have e9:value=18446744073709551615:=by omega
  obtain rfl:q=(cnd0,1):=hq.trans (by simp [Jam,e9])
  exact Jh rfl ⟨rfl,trivial⟩ Rf
set_option maxHeartbeats 1000000 in
theorem JwC {arg:Int} {mask value:Nat} (o2:value < 18446744073709551616) (q:Cnd×Nat) (hq:q=Jam ⟨arg,5,mask,value⟩):Tells Tryz.prog 239 [JD ⟨arg,5,mask,value⟩] (.tup [JD q.1,int q.2]):=by
 refine Jf Tryz.func239 rfl rfl fun nx=> ?_
 refine stp ?_
 intro c h1;cases c
 · (try simp only [J3, J4, Jah, Jai, Jaa, Jab] at *)
   have e9:¬value=18446744073709551615:=by omega
   have e8:¬value+1=0:=by omega
   have hw:=Jho o2 e9
   obtain ⟨v,hv⟩:∃v:Nat,v=value+1:=⟨_,rfl⟩
   rw [← hv] at hw
   have hc5:Jam ⟨arg,5,mask,value⟩=Jam ⟨arg,6,mask,v⟩:=by rw [Jyi e9,hv]
   (refine JB ?_;refine JE ?_;refine JB ?_;refine JE ?_;refine JB ?_;refine JE ?_;refine JB ?_)
   refine AW.le (Jk (n:=115) (nn:=3) (L:= [(1, .bp (0,nx) 0),(2, .bp (1,nx+1) 0),(3,int 0),(4, .bp (2,nx+2) 0)]) (pm:= []) (bx:= [((2,nx+2), .c [int 0,int 0,u64 0,u64 0]),((1,nx+1), .c [int 0,int 0,u64 0,u64 0]),((0,nx), .c [int arg,int 6,u64 mask,u64 v])]) _ [] rfl rfl Sf Sf ⟨rfl,OwnLe.refl _,rfl,OwnLe.refl _,rfl,⟨Rf,Rf,Rf,Jkh hw,trivial⟩,trivial⟩ trivial ⟨Rf,Rf,Rf,Rf,trivial⟩) ?_
   refine stp ?_
   intro c hc
   obtain rfl:c=false:=hc.trans (by simp;omega)
   refine stp ?_
   intro c hc;cases c
   ·refine stp ?_
    (try simp only [J3, J4, Jah, Jai, Jaa, Jab] at *)
    have e0:¬v=0:=by omega
    have e1:¬v=18446744073709551615:=by omega
    rw [(hq.trans hc5).trans (JxK e0 e1)]
    exact Jh rfl ⟨rfl,trivial⟩ Rf
   ·refine stp ?_
    (try simp only [J3, J4, Jah, Jai, Jaa, Jab] at *)
    have e1:v=18446744073709551615:=by omega
    rw [(hq.trans hc5).trans (JxL e1)]
    exact Jh rfl ⟨rfl,trivial⟩ Rf
 ·refine stp ?_
  (try simp only [J3, J4, Jah, Jai, Jaa, Jab] at *)
  have e9:value=18446744073709551615:=by omega
  obtain rfl:q=(cnd0,2):=hq.trans (by simp [Jam,e9])
  exact Jh rfl ⟨rfl,trivial⟩ Rf
theorem JwD {arg:Int} {mask value:Nat} (o1:mask < 18446744073709551616) (o2:value < 18446744073709551616):Tells Tryz.prog 239 [JD ⟨arg,7,mask,value⟩] (.tup [JD (Jam ⟨arg,7,mask,value⟩).1,int (Jam ⟨arg,7,mask,value⟩).2]):=by
 have hor:=Jta o2 o1
 refine Jf Tryz.func239 rfl rfl fun nx=> ?_
 refine stp ?_
 intro c h1
 rw [hor] at h1
 cases c
 ·refine stp ?_
  (try simp only [J3, J4, Jah, Jai, Jaa, Jab] at *)
  have e0:value||| mask=mask:=by omega
  intro c h2;cases c
  ·refine stp ?_
   (try simp only [J3, J4, Jah, Jai, Jaa, Jab] at *)
   have e1:¬mask=0:=by omega
   intro c h3;cases c
   ·refine stp ?_
    (try simp only [J3, J4, Jah, Jai, Jaa, Jab] at *)
    have e2:¬mask=18446744073709551615:=by omega
    rw [show Jam ⟨arg,7,mask,value⟩=(⟨arg,7,mask,value⟩,0) by simp [Jam,e0,e1,e2]]
    exact Jh rfl ⟨rfl,trivial⟩ Rf
   ·refine stp ?_
    (try simp only [J3, J4, Jah, Jai, Jaa, Jab] at *)
    have e2:mask=18446744073709551615:=by omega
    rw [show Jam ⟨arg,7,mask,value⟩=(⟨arg,1,0,value⟩,0) by rw [e2] at e0;simp [Jam,e0,e2]]
    exact Jh rfl ⟨rfl,trivial⟩ Rf
  ·refine stp ?_
   (try simp only [J3, J4, Jah, Jai, Jaa, Jab] at *)
   have e1:mask=0:=by omega
   rw [show Jam ⟨arg,7,mask,value⟩=(cnd0,1) by rw [e1] at e0;simp at e0;simp [Jam,e0,e1]]
   exact Jh rfl ⟨rfl,trivial⟩ Rf
 ·refine stp ?_
  (try simp only [J3, J4, Jah, Jai, Jaa, Jab] at *)
  have e0:¬(value||| mask=mask):=by omega
  rw [show Jam ⟨arg,7,mask,value⟩=(cnd0,2) by simp [Jam,e0]]
  exact Jh rfl ⟨rfl,trivial⟩ Rf
theorem JrN (c:Cnd) (ho:c.ok) (hr:JU c=true):Tells Tryz.prog 239 [JD c] (.tup [JD (JaE c).1,int (JaE c).2]):=by
 rw [← Jwo ho hr]
 have hop:=JbX.1 hr
 obtain ⟨arg,op,mask,value⟩:=c
 dsimp only at hop
 obtain ⟨o1,o2⟩:=ho
 dsimp only at o1 o2
 have h7:op=1∨op=2∨op=3∨op=4∨op=5∨op=6∨op=7:=by omega
 rcases h7 with rfl | rfl | rfl | rfl | rfl | rfl | rfl
 ·exact (Jky (.inl rfl)).of_eq rfl
 ·exact (Jky (.inr rfl)).of_eq rfl
 ·exact Jwz
 ·exact JwB o2 _ rfl
 ·exact JwC o2 _ rfl
 ·exact JwA
 ·exact JwD o1 o2
end Go.Proofs.W

namespace Go.Proofs.W
open Go.Vl
set_option maxRecDepth 100000
theorem JeX {P:Program} {c:Code} {E:Env} {Q:AExit→Env→Prop} (h:AW P c E (Jv6 (fun _:Unit=> E) (fun _=> True) (fun _=> 0) () Q)):AW P (.loop c) E Q:=
 Jo (fun _:Unit=> E) (fun _=> True) (fun _=> 0) ⟨(),trivial,ELe.refl _⟩ fun _ _=> h
def JeY (sz:Nat):AV:= .os sz 0 (fun _=> .any) none
theorem JwE:Tells Tryz.prog 209 [u64 0] (int 0):=by
 refine Jf Tryz.func209 rfl rfl fun nx=> ?_
 refine stp ?_
 exact Jd rfl Rf
theorem JrO:Tells Tryz.prog 120 [.v (.int .u64 0)] (int 0):=by
 refine Jf Tryz.func120 rfl rfl fun nx=> ?_
 refine stp ?_
 refine Je rfl rfl JwE ⟨Rf,trivial⟩ fun nx=> ?_
 refine stp ?_
 exact Jd rfl Rf
theorem Jyj (n:Nat):Tells Tryz.prog 328 [JeY 4,int 0,int 0,fn0 n] (.tup []):=by
 refine Jf Tryz.func328 rfl rfl fun nx=> ?_
 refine stp ?_
 refine JeX ?_
 refine stp ?_
 exact Jd rfl Rf
theorem Jyk (n:Nat):Tells Tryz.prog 261 [JeY 4,int 0,int 0,int 0,fn0 n] (.tup []):=by
 refine Jf Tryz.func261 rfl rfl fun nx=> ?_
 refine stp ?_
 refine JeX ?_
 refine stp ?_
 refine Je rfl rfl (Jyj n) ⟨Rf,Rf,Rf,Rf,trivial⟩ fun nx=> ?_
 refine stp ?_
 exact Jd rfl Rf
theorem JrP (n:Nat):Tells Tryz.prog 192 [JeY 4,fn0 n] (.tup []):=by
 refine Jf Tryz.func192 rfl rfl fun nx=> ?_
 refine stp ?_
 refine Je rfl rfl JrO ⟨Rf,trivial⟩ fun nx=> ?_
 refine stp ?_
 refine Je rfl rfl (Jyk n) ⟨Rf,Rf,Rf,Rf,Rf,trivial⟩ fun nx=> ?_
 refine stp ?_
 exact Jd rfl Rf
theorem Jtw:Tells Tryz.prog 194 [JeY 4] (JeY 4):=by
 refine Jf Tryz.func194 rfl rfl fun nx=> ?_
 refine stp ?_
 exact Jd rfl Rf
theorem Jve (c:Cnd):(c.arg ==c.arg&& (c.op ==c.op&& ((c.mask:Int) ==(c.mask:Int)&& ((c.value:Int) ==(c.value:Int)&& true))))=true:=by simp
end Go.Proofs.W

namespace Go.Proofs
open Go.Shelf
shelf_lay Lays.n125 Nm 125 at Tryz as Tryz.lays125
end Go.Proofs
namespace Go.Proofs.W
open Go.Vl Go.Shelf
set_option maxRecDepth 100000
theorem Jox (n:Nat) (hn:n≤1000000000):Tells Tryz.prog 120 [.v (.int .u64 (n:Int))] (.v (.int .i64 (Lib.bitLen n))):=
 JcV (vs:= [.int .u64 (n:Int)]) ⟨_,Tryz.func120,rfl,rfl⟩ fun w=> (Any.bits_Len Tryz.lays125 (n:Int) w Om Om).mono fun e w' ⟨h1,h2⟩=> ⟨h1,by subst h2;exact ⟨rfl,rfl,rfl,Nat.le_refl _,fun _ _=> rfl⟩⟩
end Go.Proofs.W

namespace Go.Proofs.W
open Go.Vl
set_option maxRecDepth 100000
def Jdv (a b:Int):Int:=if a < b then -1 else if b < a then 1 else 0
def orL:List Int→Int
 | []=> 0
 | x::l=> if x=0 then orL l else x
theorem Jji (a b:Int):Tells Tryz.prog 263 [int a,int b] (int (Jdv a b)):=by
 have hn:∀z:Int,Tells Tryz.prog 336 [int z] (Jb false):=fun z=> by
  refine Jf Tryz.func336 rfl rfl fun nx=> ?_
  refine stp ?_
  (intro c hc;(first | (rw [bne_self_eq_false] at hc;subst hc) | (obtain rfl:c=false:=hc.trans (bne_self_eq_false _)));refine stp ?_)
  exact Jd rfl Rf
 refine Jf Tryz.func263 rfl rfl fun nx=> ?_
 refine stp ?_
 refine Je rfl rfl (hn a) ⟨Rf,trivial⟩ fun nx1=> ?_
 refine stp ?_
 refine Je rfl rfl (hn b) ⟨Rf,trivial⟩ fun nx2=> ?_
 refine stp ?_
 intro c h;cases c
 ·have h:=Jm h
  refine stp ?_
  intro c g;cases c
  ·have g:=Jm g
   refine stp ?_
   exact Jd rfl (Jl (by unfold Jdv;rw [if_neg h,if_neg g]))
  ·have g:=Jn g
   refine stp ?_
   exact Jd rfl (Jl (by unfold Jdv;rw [if_neg h,if_pos g]))
 ·have h:=Jn h
  refine stp ?_
  exact Jd rfl (Jl (by unfold Jdv;rw [if_pos h]))
theorem Jjj (a b:Nat):Tells Tryz.prog 264 [u64 a,u64 b] (int (Jdv a b)):=by
 have hn:∀z:Nat,Tells Tryz.prog 337 [u64 z] (Jb false):=fun z=> by
  refine Jf Tryz.func337 rfl rfl fun nx=> ?_
  refine stp ?_
  (intro c hc;(first | (rw [bne_self_eq_false] at hc;subst hc) | (obtain rfl:c=false:=hc.trans (bne_self_eq_false _)));refine stp ?_)
  exact Jd rfl Rf
 refine Jf Tryz.func264 rfl rfl fun nx=> ?_
 refine stp ?_
 refine Je rfl rfl (hn a) ⟨Rf,trivial⟩ fun nx1=> ?_
 refine stp ?_
 refine Je rfl rfl (hn b) ⟨Rf,trivial⟩ fun nx2=> ?_
 refine stp ?_
 intro c h;cases c
 ·have h:=Jm h
  refine stp ?_
  intro c g;cases c
  ·have g:=Jm g
   refine stp ?_
   exact Jd rfl (Jl (by unfold Jdv;rw [if_neg h,if_neg g]))
  ·have g:=Jn g
   refine stp ?_
   exact Jd rfl (Jl (by unfold Jdv;rw [if_neg h,if_pos g]))
 ·have h:=Jn h
  refine stp ?_
  exact Jd rfl (Jl (by unfold Jdv;rw [if_pos h]))
theorem JxM {l:List Int} {i:Nat} (hi:i < l.length) (h:∀j,j < i→l.getD j 0=0) (hx:l.getD i 0≠0):orL l=l.getD i 0:=by
 induction l generalizing i with
 | nil=> cases hi
 | cons x l ih=>
   cases i with
   | zero=> simp at hx;simp [orL,hx]
   | succ i=>
     have h0:x=0:=by simpa using h 0 Om
     simp only [orL,h0,if_true]
     rw [ih (i:=i) (by simpa using hi) (fun j hj=> by simpa using h (j+1) Om) (by simpa using hx)]
     simp
theorem Jvf {l:List Int} (h:∀j,j < l.length→l.getD j 0=0):orL l=0:=by
 induction l with
 | nil=> rfl
 | cons x l ih=>
   have h0:x=0:=by simpa using h 0 (by simp)
   simp only [orL,h0,if_true]
   exact ih (fun j hj=> by simpa using h (j+1) (by simpa using hj))
theorem JwF (l:List Int) (hl:l.length≤1000000):Tells Tryz.prog 262 [JN 1 int 0 l] (int (orL l)):=by
 refine Jf Tryz.func262 rfl rfl fun nx=> ?_
 refine stp ?_
 refine Jo (fun s:Nat×Nat=> mk 18 [(3,int 0),(6,JN 1 int 0 l),(7,int l.length),(8,int s.1)] ⟨[], [],s.2,0⟩) (fun s=> s.1≤l.length∧∀j,j < s.1→l.getD j 0=0) (fun s=> l.length - s.1) ?_ ?_
 ·exact ⟨(0,nx),⟨by simp,by intro j hj;simp at hj⟩,J5 rfl rfl ⟨Rf,Rf,Rf,Rf,trivial⟩⟩
 ·rintro ⟨i,nx⟩ ⟨h1,h2⟩
  dsimp only at h1 h2
  refine stp ?_
  intro c h3;cases c
  ·have h3:=Jm h3
   dsimp only at h3
   refine stp ?_
   exact Jd rfl (Jl (Jvf (fun j hj=> h2 j Om)).symm)
  ·have h3:=Jn h3
   dsimp only at h3
   have hi:i < l.length:=by omega
   refine stp ?_
   refine ⟨Bd, ?_⟩
   refine stp ?_
   intro c h4;cases c
   ·have h4:l.getD i 0=0:=by simpa using h4
    refine stp ?_
    exact back (i+1,nx) ⟨hi,fun j hj=> by rcases Nat.lt_or_ge j i with q | q;exact h2 j q;rw [show j=i by omega];exact h4⟩ Dm (J5 rfl rfl ⟨Rf,Rf,Rf,Jl (JF Dm),trivial⟩)
   ·have h4:l.getD i 0≠0:=by simpa using h4
    refine stp ?_
    exact Jd rfl (Jl (JxM hi h2 h4).symm)
def Joy (a b:Cnd):Int:=orL [Jdv a.arg b.arg,Jdv a.op b.op,Jdv a.mask b.mask,Jdv a.value b.value]
theorem JrQ (a b:Cnd):Tells Tryz.prog 193 [JD a,JD b] (int (Joy a b)):=by
 refine Jf Tryz.func193 rfl rfl fun nx=> ?_
 refine stp ?_
 (refine Ju 22 ?_ ?_ ?_ ?_;(· kernel_rfl);(· kernel_rfl);(· kernel_rfl))
 refine stp ?_
 refine JP (Jz rfl rfl (Jji a.arg b.arg) ⟨Rf,Rf,trivial⟩ (NoId.v _)) ?_
 refine stp ?_
 refine JP (Jz rfl rfl (Jji a.op b.op) ⟨Rf,Rf,trivial⟩ (NoId.v _)) ?_
 refine stp ?_
 refine JP (Jz rfl rfl (Jjj a.mask b.mask) ⟨Rf,Rf,trivial⟩ (NoId.v _)) ?_
 refine stp ?_
 refine JP (Jz rfl rfl (Jjj a.value b.value) ⟨Rf,Rf,trivial⟩ (NoId.v _)) ?_
 refine stp ?_
 refine JP (Jz rfl rfl (JwF [Jdv a.arg b.arg,Jdv a.op b.op,Jdv a.mask b.mask,Jdv a.value b.value] (by show 4≤1000000;omega)) ⟨?_,trivial⟩ (NoId.v _)) ?_
 ·(conv=> arg 1;whnf)
  refine AVle.trans AVle.os_sl (AVle.sl_fun fun k hk=> ?_)
  rcases (show k=0∨k=1∨k=2∨k=3 by have hk:k < 4:=hk;omega) with rfl | rfl | rfl | rfl <;> rfl
 refine stp ?_
 exact Jd rfl Rf
end Go.Proofs.W

namespace Go.Proofs.W
open Go.Vl
set_option maxRecDepth 100000
instance:Inhabited Cnd:=⟨cnd0⟩
def eC (c:Cnd):List AV:= [int c.arg,int c.op,u64 c.mask,u64 c.value]
theorem JbB (x:Cnd):(eC x).length=4:=rfl
theorem c_cnd:Tryz.prog.cellsOf 86=4:=by kernel_rfl
theorem JfJ:(Tryz.prog.underlying 86).map agD=some true:=by kernel_rfl
def JbZ (s:Nat) (d:Array Cnd) (tl:List AV):List (Vl.Id×Own):= [((0,s), .c (Jax eC d tl))]
set_option maxHeartbeats 4000000 in
theorem JwG (f:Nat) (lt:Cnd→Cnd→Bool) (cf:Cnd→Cnd→Int) (hf:∀a b,Tells Tryz.prog f [JD a,JD b] (int (cf a b))) (hlt:∀a b,lt a b=decide (cf a b < 0)) (d0:Array Cnd) (tl:List AV) (n a b:Nat) (hn:d0.size=n) (hab:a≤b) (hb:b≤n) (hsz:n≤1000000) (s cap nx:Nat):
 ECall Tryz.prog 328 [.hs (0,s) 0 n cap,int a,int b,fn0 f] ⟨JbZ s d0 tl, [],nx,1⟩ (fun r h'=> ∃nx' nn',h'=⟨JbZ s (Go.Sort.insertionSort lt d0 a b) tl, [],nx',nn'⟩):=by
 refine ECall.wk (J2 Tryz.func328 rfl rfl ?_)
 refine stp ?_
 refine Jo (fun y:Array Cnd×Nat×Nat=> mk 53 [(0, .hs (0,s) 0 n cap),(1,int a),(2,int b),(3,fn0 f),(8,int y.2.1)] ⟨JbZ s y.1 tl, [],y.2.2,1⟩) (fun y=> y.1.size=n∧a+1≤y.2.1∧y.2.1≤b+1∧Go.Sort.insOuter lt a b y.2.1 y.1=Go.Sort.insertionSort lt d0 a b) (fun y=> b+1 - y.2.1) ?_ ?_
 ·exact ⟨(d0,a+1,nx),⟨hn,Nat.le_refl _,by dsimp only;omega,rfl⟩,Jk _ _ rfl rfl Sf .slnil Bf trivial ⟨Rf,Rf,Rf,Rf,Lw,trivial⟩⟩
 ·rintro ⟨d,i,nx1⟩ ⟨h1,h2,h3,h4⟩
  dsimp only at h1 h2 h3 h4
  refine stp ?_
  intro c g;cases c
  ·have g:=Jm g
   try dsimp only at g
   rw [Go.Sort.insOuter,if_neg Om] at h4
   subst h4
   refine stp ?_
   exact JaG rfl ⟨_,_,Rf,JaR (JbZ s (Go.Sort.insertionSort lt d0 a b) tl) [] rfl Sf .slnil Bf Pf,_,1,rfl⟩
  ·have g:=Jn g
   try dsimp only at g
   have hi:i < b:=by omega
   rw [Go.Sort.insOuter,if_pos hi] at h4
   refine stp ?_
   refine Jo (fun y:Array Cnd×Nat×Nat=> mk 53 [(0, .hs (0,s) 0 n cap),(1,int a),(2,int b),(3,fn0 f),(8,int i),(9,int y.2.1)] ⟨JbZ s y.1 tl, [],y.2.2,1⟩) (fun y=> y.1.size=n∧y.2.1≤i∧Go.Sort.insInner lt a y.2.1 y.1=Go.Sort.insInner lt a i d) (fun y=> y.2.1) ?_ ?_
   ·exact ⟨(d,i,nx1),⟨h1,Nat.le_refl _,rfl⟩,Jk _ _ rfl rfl Sf .slnil Bf trivial ⟨Rf,Rf,Rf,Rf,Rf,Rf,trivial⟩⟩
   ·rintro ⟨e,j,nx2⟩ ⟨k1,k2,k3⟩
    dsimp only at k1 k2 k3
    by_cases hja:a < j
    ·have hd:decide ((j:Int) > (a:Int))=true:=decide_eq_true Om
     have hj1:IntKind.i64.wrap ((j:Int) - 1)=((j - 1:Nat):Int):=by rw [Jac Om Om];omega
     refine stp ?_
     (refine Ju 16 ?_ ?_ ?_ ?_;(· kernel_rfl);(· kernel_rfl);(· kernel_rfl))
     refine stp ?_
     (conv=> whnf)
     refine JaN hd ?_
     refine stp ?_
     refine ⟨⟨Jbs (i:=j) (rfl),JbJ (i:=j) (rfl) Om⟩,Jj (b:= .bp (0,s) (j * 4)) (congrArg (AV.bp (0,s)) (Jhk (i:=j) c_cnd (rfl))) ?_⟩
     (conv=> whnf)
     generalize hX:Jbj _ _ _=X
     have hX2:X=some (some (s=s), .ag (eC e[j]!)):=hX.symm.trans (JdI JbB (E:=eC) (d:=e) (tl:=tl) (j:=j) rfl rfl rfl rfl JfJ c_cnd Om)
     clear hX;subst hX2
     refine ⟨rfl, ?_⟩
     refine stp ?_
     refine ⟨⟨Jbs (i:=j - 1) (hj1),JbJ (i:=j - 1) (hj1) Om⟩,Jj (b:= .bp (0,s) ((j - 1) * 4)) (congrArg (AV.bp (0,s)) (Jhk (i:=j - 1) c_cnd (hj1))) ?_⟩
     (conv=> whnf)
     generalize hX:Jbj _ _ _=X
     have hX2:X=some (some (s=s), .ag (eC e[j - 1]!)):=hX.symm.trans (JdI JbB (E:=eC) (d:=e) (tl:=tl) (j:=j - 1) rfl rfl rfl rfl JfJ c_cnd Om)
     clear hX;subst hX2
     refine ⟨rfl, ?_⟩
     refine stp ?_
     refine JP (Jz rfl rfl (hf e[j]! e[j - 1]!) ⟨Rf,Rf,trivial⟩ (NoId.v _)) ?_
     refine stp ?_
     intro c hl;cases c
     ·have hl:lt e[j]! e[j - 1]! =false:=(hlt _ _).trans hl.symm
      rw [Ju5 hl] at k3
      subst k3
      refine stp ?_
      exact back (_,i+1,nx2) ⟨k1,by dsimp only;omega,by dsimp only;omega,h4⟩ Dm (Jk _ _ rfl rfl Sf .slnil Bf trivial ⟨Rf,Rf,Rf,Rf,Lw,trivial⟩)
     ·have hl:lt e[j]! e[j - 1]! =true:=(hlt _ _).trans hl.symm
      rw [Jws hja hl] at k3
      refine stp ?_
      refine Jwl 18 (fun i=> match i with | 15=> true | 17=> true | _=> false) (fun i=> match i with | 9=> true | 13=> true | _=> false) [0,1,2,3,4,5,6,7,8,10,11,12,9,13,14,15,16,17] (by kernel_rfl) (by kernel_rfl) ?_
      (conv=> whnf)
      refine ⟨⟨Jbs (i:=j - 1) (hj1),JbJ (i:=j - 1) (hj1) Om⟩, ?_⟩
      (conv=> whnf)
      refine ⟨⟨Jbs (i:=j) (rfl),JbJ (i:=j) (rfl) Om⟩, ?_⟩
      (conv=> whnf)
      refine ⟨.ag (eC e[j - 1]!),Jn7 JbB (E:=eC) (d:=e) (tl:=tl) (j:=j - 1) rfl rfl rfl (Jhk (i:=j - 1) c_cnd (hj1)) rfl JfJ c_cnd Om, ?_⟩
      (conv=> whnf)
      refine ⟨.ag (eC e[j]!),Jn7 JbB (E:=eC) (d:=e) (tl:=tl) (j:=j) rfl rfl rfl (Jhk (i:=j) c_cnd (rfl)) rfl JfJ c_cnd Om, ?_⟩
      (conv=> whnf)
      refine ⟨⟨Jbs (i:=j) (rfl),JbJ (i:=j) (rfl) Om⟩, ?_⟩
      (conv=> whnf)
      refine ⟨_,Jn8 JbB (E:=eC) (d:=e) (tl:=tl) (j:=j) (z:=e[j - 1]!) rfl rfl rfl rfl (Jhk (i:=j) c_cnd (rfl)) rfl rfl rfl rfl (by kernel_rfl) c_cnd Om,fun r0 h0 hr0=> ?_⟩
      subst hr0
      (conv=> whnf)
      refine ⟨⟨Jbs (i:=j - 1) (hj1),JbJ (i:=j - 1) (hj1) Om⟩, ?_⟩
      (conv=> whnf)
      refine ⟨_,Jn8 JbB (E:=eC) (d:=e.setIfInBounds j e[j - 1]!) (tl:=tl) (j:=j - 1) (z:=e[j]!) rfl rfl rfl rfl (Jhk (i:=j - 1) c_cnd (hj1)) rfl rfl rfl rfl (by kernel_rfl) c_cnd (by simp;omega),fun r0 h0 hr0=> ?_⟩
      subst hr0
      refine stp ?_
      exact back (Go.Sort.swp e j (j - 1),j - 1,nx2) ⟨by dsimp only;rw [← k1];simp [Go.Sort.swp],by dsimp only;omega,k3⟩ Dm (Jk _ _ rfl rfl Sf .slnil Bf trivial ⟨Rf,Rf,Rf,Rf,Rf,Jl hj1,trivial⟩)
    ·have hd:decide ((j:Int) > (a:Int))=false:=decide_eq_false Om
     rw [Jtb hja] at k3
     subst k3
     refine stp ?_
     (refine Ju 16 ?_ ?_ ?_ ?_;(· kernel_rfl);(· kernel_rfl);(· kernel_rfl))
     refine stp ?_
     (conv=> whnf)
     refine JaN hd ?_
     refine stp ?_
     exact back (_,i+1,nx2) ⟨k1,by dsimp only;omega,by dsimp only;omega,h4⟩ Dm (Jk _ _ rfl rfl Sf .slnil Bf trivial ⟨Rf,Rf,Rf,Rf,Lw,trivial⟩)
theorem JwH (f:Nat) (lt:Cnd→Cnd→Bool) (cf:Cnd→Cnd→Int) (hf:∀a b,Tells Tryz.prog f [JD a,JD b] (int (cf a b))) (hlt:∀a b,lt a b=decide (cf a b < 0)) (d0:Array Cnd) (tl:List AV) (n:Nat) (hn:d0.size=n) (hsz:n≤12) (s cap nx:Nat) (z:Int):
 ECall Tryz.prog 261 [.hs (0,s) 0 n cap,int 0,int n,int z,fn0 f] ⟨JbZ s d0 tl, [],nx,1⟩ (fun r h'=> ∃nx' nn',h'=⟨JbZ s (Go.Sort.insertionSort lt d0 0 n) tl, [],nx',nn'⟩):=by
 refine ECall.wk (J2 Tryz.func261 rfl rfl ?_)
 refine stp ?_
 refine JeX ?_
 have hw:IntKind.i64.wrap ((n:Int) - 0)=(n:Int):=by rw [Int.sub_zero];exact Jac Om Om
 refine stp ?_
 intro c hc
 have hc2:c=true:=hc.trans (decide_eq_true (by show IntKind.i64.wrap ((n:Int) - 0)≤12;rw [hw];omega))
 clear hc;subst hc2
 refine stp ?_
 refine J1 (xs:= [.hs (0,s) 0 n cap,int ((0:Nat):Int),int n,fn0 f]) [] [] 1 rfl rfl rfl rfl ⟨Rf,Rf,Rf,Rf,trivial⟩ (JwG f lt cf hf hlt d0 tl n 0 n hn (Nat.zero_le _) (Nat.le_refl _) Om s cap _) Bf Pf rfl fun r h' hq=> ?_
 obtain ⟨nx2,nn2,rfl⟩:=hq
 refine stp ?_
 exact JaG rfl ⟨_,_,Rf,JaR (JbZ s (Go.Sort.insertionSort lt d0 0 n) tl) [] rfl Sf .slnil Bf Pf,_,1,rfl⟩
theorem Joz (f:Nat) (lt:Cnd→Cnd→Bool) (cf:Cnd→Cnd→Int) (hf:∀a b,Tells Tryz.prog f [JD a,JD b] (int (cf a b))) (hlt:∀a b,lt a b=decide (cf a b < 0)) (d0:Array Cnd) (tl:List AV) (n:Nat) (hn:d0.size=n) (hsz:n≤12) (s cap nx:Nat):
 ECall Tryz.prog 192 [.hs (0,s) 0 n cap,fn0 f] ⟨JbZ s d0 tl, [],nx,1⟩ (fun r h'=> ∃nx' nn',h'=⟨JbZ s (Go.Sort.insertionSort lt d0 0 n) tl, [],nx',nn'⟩):=by
 refine ECall.wk (J2 Tryz.func192 rfl rfl ?_)
 refine stp ?_
 have hw:IntKind.u64.wrap (n:Int)=(n:Int):=by simp [IntKind.wrap,IntKind.bits,IntKind.signed];omega
 refine Je rfl rfl (Jox n Om) ⟨AVle.of_eq (congrArg (fun z:Int=> AV.v (.int .u64 z)) hw),trivial⟩ fun nx1=> ?_
 refine stp ?_
 refine J1 (xs:= [.hs (0,s) 0 n cap,int 0,int n,int (Lib.bitLen n),fn0 f]) [] [] 1 rfl rfl rfl rfl ⟨Rf,Rf,Rf,Rf,Rf,trivial⟩ (JwH f lt cf hf hlt d0 tl n hn hsz s cap _ _) Bf Pf rfl fun r h' hq=> ?_
 obtain ⟨nx2,nn2,rfl⟩:=hq
 refine stp ?_
 exact JaG rfl ⟨_,_,Rf,JaR (JbZ s (Go.Sort.insertionSort lt d0 0 n) tl) [] rfl Sf .slnil Bf Pf,_,1,rfl⟩
end Go.Proofs.W

namespace Go.Proofs.W
open Go.Vl
set_option maxRecDepth 100000
def cU (d:Array Cnd):Nat→List Cnd
 | 0=> []
 | m+1=> if m=0∨d[m]! ≠d[m - 1]! then cU d m++ [d[m]!] else cU d m
theorem Jnm (d:Array Cnd):∀m,(cU d m).length≤m
 | 0=> Nat.le_refl _
 | m+1=> by
   have:=Jnm d m
   unfold cU
   split
   ·simp;omega
   ·omega
theorem Jhu {d:Array Cnd}:∀ {m:Nat},m≤d.size→(∀j,1≤j→j < m→d[j]! ≠d[j - 1]!)→cU d m=d.toList.take m
 | 0,_,_=> rfl
 | m+1,hm,h=> by
   have ih:=Jhu (m:=m) Om fun j h1 h2=> h j h1 Om
   have hc:m=0∨d[m]! ≠d[m - 1]! :=by
    rcases Nat.eq_zero_or_pos m with h0 | h0
    ·exact .inl h0
    ·exact .inr (h m h0 Om)
   rw [cU,if_pos hc,ih,List.take_add_one,show d[m]! =d[m] by simp [show m < d.size by omega]]
   simp [show m < d.size by omega]
theorem Jql {d:Array Cnd} {m:Nat} (h0:m≠0) (h:d[m]! =d[m - 1]!):cU d (m+1)=cU d m:=by
 rw [cU,if_neg (by intro hh;rcases hh with hh | hh;exact h0 hh;exact hh h)]
theorem JwI {d:Array Cnd} {m:Nat} (h:d[m]! ≠d[m - 1]!):cU d (m+1)=cU d m++ [d[m]!]:=by
 rw [cU,if_pos (.inr h)]
theorem Jvg {d:Array Cnd} {i j:Nat} {x:Cnd} (hi:i < d.size):(d.setIfInBounds i x)[j]! =if j=i then x else d[j]! :=by
 by_cases h:j=i
 ·subst h;simp [hi]
 ·rw [if_neg h]
  by_cases hj:j < d.size
  ·simp [hj,Array.getElem_setIfInBounds,Ne.symm h]
  ·simp [hj]
theorem Jtx {d:Array Cnd} {k:Nat} {x:Cnd} (h:k < d.size):(d.setIfInBounds k x).toList.take (k+1)=d.toList.take k++ [x]:=by
 rw [Array.toList_setIfInBounds,List.take_add_one]
 simp [h,List.take_set_of_le]
theorem JxN {x y:Cnd}:(x.arg ==y.arg&& (x.op ==y.op&& ((x.mask:Int) ==(y.mask:Int)&& ((x.value:Int) ==(y.value:Int)&& true))))=decide (x=y):=cnd_eqb
theorem Jvh {d:Array Cnd} {tl:List AV} {k:Nat} (h:k≤d.size):Jat (Jax eC d tl) (k * 4) (List.replicate ((d.size - k) * 4) .any)=Jax eC (d.toList.take k).toArray (List.replicate ((d.size - k) * 4) .any++tl):=by
 have e:d.toList=d.toList.take k++d.toList.drop k:=(List.take_append_drop k d.toList).symm
 have e1:((d.toList.take k).flatMap eC).length=k * 4:=by rw [Jdt JbB];simp [h]
 have e2:((d.toList.drop k).flatMap eC).length=(d.size - k) * 4:=by rw [Jdt JbB];simp
 unfold Jax
 conv=> lhs;rw [e]
 rw [List.flatMap_append,List.append_assoc,← e1]
 have:=JfE (a:=(d.toList.take k).flatMap eC) (b:=(d.toList.drop k).flatMap eC++tl) (off:=0) (vs:=List.replicate ((d.size - k) * 4) .any)
 rw [Nat.add_zero] at this
 rw [this,Jh5 (by rw [e2];simp)]
def JrR (d:Array Cnd) (n s cap:Nat) (r:AV) (h':Heap):Prop:=∃tl' nx' nn',r= .hs (0,s) 0 (cU d n).length cap∧h'=⟨JbZ s (cU d n).toArray tl', [],nx',nn'⟩
theorem Jty {d:Array Cnd} {n s cap nx nn q:Nat} {tl:List AV} (h:(cU d n).length=q):JrR d n s cap (.hs (0,s) 0 q cap) ⟨JbZ s (cU d n).toArray tl, [],nx,nn⟩:=⟨tl,nx,nn,by rw [h],rfl⟩
theorem Jkz {o o':Own} (h:o=o'):OwnLe o o':=h ▸ OwnLe.refl _
theorem Jvi {x:Int} {i c k m:Nat} (hc:c=k) (h:x=(i:Int)):m * c+x.toNat * c=(m+i) * k:=by subst hc;subst h;simp [Nat.add_mul]
theorem Jmj {d:Array Cnd} {n s cap nx nn:Nat} {tl:List AV} (hn:d.size=n) (e:cU d n=d.toList):JrR d n s cap (.hs (0,s) 0 n cap) ⟨JbZ s d tl, [],nx,nn⟩:=⟨tl,nx,nn,by rw [e];simp [hn],by rw [e]⟩
theorem Jyl:∃z,(Tryz.prog.info? 86).bind (·.zero)=some z∧z.cells.size=Tryz.prog.cellsOf 86∧z.cells.all (·.oneCell')=true:=⟨.agg #[.int .i64 0, .int .i64 0, .int .u64 0, .int .u64 0],by kernel_rfl,by kernel_rfl,by kernel_rfl⟩
set_option maxHeartbeats 4000000 in
theorem JpM (d:Array Cnd) (tl:List AV) (n:Nat) (hn:d.size=n) (hn0:0 < n) (hsz:n≤1000000) (s cap nx:Nat) (hcap:n≤cap):
 ECall Tryz.prog 194 [.hs (0,s) 0 n cap] ⟨JbZ s d tl, [],nx,1⟩ (JrR d n s cap):=by
 refine ECall.wk (J2 Tryz.func194 rfl rfl ?_)
 refine stp ?_
 intro c g;cases c
 rotate_left
 ·have g:=Jn g
  try dsimp only at g
  have hn1:n=1:=by omega
  subst hn1
  have e:cU d 1=d.toList:=by
   rw [Jhu Om (fun j h1 h2=> by omega),List.take_of_length_le (by simp [hn])]
  refine stp ?_
  exact JaG rfl ⟨_,_,Rf,JaR (nn:=1) (JbZ s d tl) [] rfl Sf .slnil Bf Pf,Jmj hn e⟩
 have g:=Jm g
 try dsimp only at g
 have hn2:2≤n:=by omega
 refine stp ?_
 refine Jo (fun y:Nat×Nat=> mk 61 [(0, .hs (0,s) 0 n cap),(3,int y.1)] ⟨JbZ s d tl, [],y.2,1⟩) (fun y=> 1≤y.1∧y.1≤n∧∀j,1≤j→j < y.1→d[j]! ≠d[j - 1]!) (fun y=> n - y.1) ?_ ?_
 ·exact ⟨(1,nx),⟨Nat.le_refl _,by dsimp only;omega,fun j h1 h2=> absurd h2 Dm⟩,Jk _ _ rfl rfl Sf .slnil Bf trivial ⟨Rf,Rf,trivial⟩⟩
 ·rintro ⟨k,nx1⟩ ⟨h1,h2,h3⟩
  dsimp only at h1 h2 h3
  refine stp ?_
  intro c g;cases c
  ·have g:=Jm g
   try dsimp only at g
   have hk:k=n:=by omega
   subst hk
   have e:cU d k=d.toList:=by
    rw [Jhu Om h3,List.take_of_length_le (by simp [hn])]
   refine stp ?_
   exact JaG rfl ⟨_,_,Rf,JaR (nn:=1) (JbZ s d tl) [] rfl Sf .slnil Bf Pf,Jmj hn e⟩
  ·have g:=Jn g
   try dsimp only at g
   have hk:k < n:=by omega
   have hk1:IntKind.i64.wrap ((k:Int) - 1)=((k - 1:Nat):Int):=by rw [Jac Om Om];omega
   refine stp ?_
   (refine Ju 10 ?_ ?_ ?_ ?_;(· kernel_rfl);(· kernel_rfl);(· kernel_rfl))
   refine stp ?_
   refine ⟨⟨Jbs (i:=k) (rfl),JbJ (i:=k) (rfl) Om⟩,Jj (b:= .bp (0,s) (k * 4)) (congrArg (AV.bp (0,s)) (Jhk (i:=k) c_cnd (rfl))) ?_⟩
   (conv=> whnf)
   generalize hX:Jbj _ _ _=X
   have hX2:X=some (some (s=s), .ag (eC d[k]!)):=hX.symm.trans (JdI JbB (E:=eC) (d:=d) (tl:=tl) (j:=k) rfl rfl rfl rfl JfJ c_cnd Om)
   clear hX;subst hX2
   refine ⟨rfl, ?_⟩
   refine stp ?_
   refine ⟨⟨Jbs (i:=k - 1) (hk1),JbJ (i:=k - 1) (hk1) Om⟩,Jj (b:= .bp (0,s) ((k - 1) * 4)) (congrArg (AV.bp (0,s)) (Jhk (i:=k - 1) c_cnd (hk1))) ?_⟩
   (conv=> whnf)
   generalize hX:Jbj _ _ _=X
   have hX2:X=some (some (s=s), .ag (eC d[k - 1]!)):=hX.symm.trans (JdI JbB (E:=eC) (d:=d) (tl:=tl) (j:=k - 1) rfl rfl rfl rfl JfJ c_cnd Om)
   clear hX;subst hX2
   refine ⟨rfl, ?_⟩
   refine stp ?_
   intro c hc
   have hc2:c=decide (d[k]! =d[k - 1]!):=hc.trans JxN
   clear hc
   cases c
   ·have hne:¬d[k]! =d[k - 1]! :=of_decide_eq_false hc2.symm
    refine stp ?_
    exact back (k+1,nx1) ⟨by dsimp only;omega,hk,fun j q1 q2=> by dsimp only at q2;rcases Nat.lt_or_ge j k with q | q;exact h3 j q1 q;rw [show j=k by omega];exact hne⟩ Dm (Jk _ _ rfl rfl Sf .slnil Bf trivial ⟨Rf,Lw,trivial⟩)
   ·have heq:d[k]! =d[k - 1]! :=of_decide_eq_true hc2.symm
    clear hc2
    have hU0:cU d k=d.toList.take k:=Jhu Om h3
    have hU1:cU d (k+1)=d.toList.take k:=(Jql Om heq).trans hU0
    refine JB ?_
    refine JO (fun i=> match i with | 1=> true | _=> false) 4 ?_
    refine stp ?_
    refine AOp.of_yields (Jh6 (l:=k) rfl rfl rfl Tryz.underlying116 Tryz.underlying86 Om hcap Om) ?_
    refine stp ?_
    refine Jo (fun y:Array Cnd×Nat×Nat×Nat=> mk 61 [(0, .hs (0,s) 0 n cap),(3,int y.2.1),(4, .hs (0,s) (k * 4) (n - k) (cap - k)),(5,int y.2.2.1)] ⟨JbZ s y.1 tl, [],y.2.2.2,1⟩) (fun y=> y.1.size=n∧k≤y.2.1∧1≤y.2.2.1∧y.2.1+1≤k+y.2.2.1∧k+y.2.2.1≤n∧(∀j,k+y.2.2.1≤j+1→y.1[j]! =d[j]!)∧cU d (k+y.2.2.1)=y.1.toList.take y.2.1) (fun y=> n - y.2.2.1) ?_ ?_
    ·exact ⟨(d,k,1,nx1),⟨hn,Nat.le_refl _,Nat.le_refl _,Nat.le_refl _,hk,fun _ _=> rfl,hU1⟩,Jk _ _ rfl rfl Sf .slnil Bf trivial ⟨Rf,Rf,AVle.of_eq (congrArg (fun c=> AV.hs (0,s) (k * c) (n - k) (cap - k)) c_cnd),Rf,trivial⟩⟩
    ·rintro ⟨e,q,k2,nx2⟩ ⟨p1,p2,p3,p4,p5,p6,p7⟩
     dsimp only at p1 p2 p3 p4 p5 p6 p7
     refine stp ?_
     intro c g2;cases c
     ·have g2:=Jm g2
      try dsimp only at g2
      have hk2:k+k2=n:=by omega
      rw [hk2] at p7
      have hq:q < n:=by omega
      refine JB ?_
      refine JO (fun i=> match i with | 1=> true | 0=> true | _=> false) 4 ?_
      refine stp ?_
      refine AOp.of_yields (Jh6 (l:=q) rfl rfl rfl Tryz.underlying116 Tryz.underlying86 Om hcap Om) ?_
      refine stp ?_
      obtain ⟨z,hz1,hz2,hz3⟩:=Jyl
      refine Jrb (n:=n - q) rfl rfl rfl Om Tryz.underlying116 hz1 hz2 hz3 (by rfl) (by show q * Tryz.prog.cellsOf 86+(n - q) * Tryz.prog.cellsOf 86≤(Jax eC e tl).length;rw [Jhj JbB,c_cnd,p1];omega) ?_
      refine AW.le (E':=mk 61 [(0, .hs (0,s) 0 n cap),(3,int q)] ⟨JbZ s (cU d n).toArray (List.replicate ((n - q) * 4) .any++tl), [],nx2,1⟩) ?_ ?_
      ·exact Jk [((0,s), .c (Jat (Jax eC e tl) (q * Tryz.prog.cellsOf 86) (List.replicate ((n - q) * Tryz.prog.cellsOf 86) .any)))] [] rfl rfl Sf .slnil ⟨rfl,Jkz (congrArg Own.c (by rw [c_cnd,p7,← p1];exact Jvh Om)),trivial⟩ trivial ⟨Rf,Rf,trivial⟩
      refine JB ?_
      refine JO (fun i=> match i with | 1=> true | _=> false) 4 ?_
      refine stp ?_
      refine Jn4 (l:=q) rfl rfl rfl Tryz.underlying116 Tryz.underlying86 Om Om ?_
      refine stp ?_
      exact JaG rfl ⟨_,_,Rf,JaR (nn:=1) (JbZ s (cU d n).toArray (List.replicate ((n - q) * 4) .any++tl)) [] rfl Sf .slnil Bf Pf,Jty (by rw [p7];simp;omega)⟩
     ·have g2:=Jn g2
      try dsimp only at g2
      have hk2:k+k2 < n:=by omega
      have hj1:IntKind.i64.wrap ((k2:Int) - 1)=((k2 - 1:Nat):Int):=by rw [Jac Om Om];omega
      refine stp ?_
      (refine Ju 10 ?_ ?_ ?_ ?_;(· kernel_rfl);(· kernel_rfl);(· kernel_rfl))
      refine stp ?_
      refine ⟨⟨Jbs (i:=k2) (rfl),JbJ (i:=k2) (rfl) Om⟩,Jj (b:= .bp (0,s) ((k+k2) * 4)) (congrArg (AV.bp (0,s)) (Jvi c_cnd (rfl))) ?_⟩
      (conv=> whnf)
      generalize hX:Jbj _ _ _=X
      have hX2:X=some (some (s=s), .ag (eC e[k+k2]!)):=hX.symm.trans (JdI JbB (E:=eC) (d:=e) (tl:=tl) (j:=k+k2) rfl rfl rfl rfl JfJ c_cnd Om)
      clear hX;subst hX2
      refine ⟨rfl, ?_⟩
      refine stp ?_
      refine ⟨⟨Jbs (i:=k2 - 1) (hj1),JbJ (i:=k2 - 1) (hj1) Om⟩,Jj (b:= .bp (0,s) ((k+(k2 - 1)) * 4)) (congrArg (AV.bp (0,s)) (Jvi c_cnd (hj1))) ?_⟩
      (conv=> whnf)
      generalize hX:Jbj _ _ _=X
      have hX2:X=some (some (s=s), .ag (eC e[k+(k2 - 1)]!)):=hX.symm.trans (JdI JbB (E:=eC) (d:=e) (tl:=tl) (j:=k+(k2 - 1)) rfl rfl rfl rfl JfJ c_cnd Om)
      clear hX;subst hX2
      refine ⟨rfl, ?_⟩
      refine stp ?_
      have e1:e[k+k2]! =d[k+k2]! :=p6 _ Om
      have e2:e[k+(k2 - 1)]! =d[k+k2 - 1]! :=by rw [p6 _ Om];congr 1;omega
      intro c hc
      have hc2:c= !decide (d[k+k2]! =d[k+k2 - 1]!):=by rw [← e1,← e2];exact hc.trans (congrArg (!·) JxN)
      clear hc
      cases c
      ·have heq2:d[k+k2]! =d[k+k2 - 1]! :=by simpa using hc2
       have hU2:=(Jql Om heq2).trans p7
       refine stp ?_
       exact back (e,q,k2+1,nx2) ⟨p1,p2,by dsimp only;omega,by dsimp only;omega,by dsimp only;omega,fun j hj=> p6 j (by dsimp only at hj;omega),hU2⟩ Dm (Jk _ _ rfl rfl Sf .slnil Bf trivial ⟨Rf,Rf,Rf,Lw,trivial⟩)
      ·have hne:¬d[k+k2]! =d[k+k2 - 1]! :=by simpa using hc2
       have hU2:=JwI hne
       rw [p7,← e1,← Jtx (k:=q) (x:=e[k+k2]!) Om] at hU2
       refine JB ?_
       refine JO (fun i=> match i with | 0=> true | 2=> true | _=> false) 8 ?_
       refine stp ?_
       refine ⟨⟨Jbs (i:=k2) (rfl),JbJ (i:=k2) (rfl) Om⟩,Jj (b:= .bp (0,s) ((k+k2) * 4)) (congrArg (AV.bp (0,s)) (Jvi c_cnd (rfl))) ?_⟩
       (conv=> whnf)
       refine AOp.of_yields (JpA JbB (E:=eC) (d:=e) (tl:=tl) (j:=k+k2) rfl rfl rfl rfl JfJ c_cnd Om) ?_
       refine stp ?_
       refine ⟨⟨Jbs (i:=q) (rfl),JbJ (i:=q) (rfl) Om⟩,Jj (b:= .bp (0,s) (q * 4)) (congrArg (AV.bp (0,s)) (Jhk c_cnd (rfl))) ?_⟩
       (conv=> whnf)
       refine Jra JbB (E:=eC) (d:=e) (tl:=tl) (j:=q) (z:=e[k+k2]!) rfl rfl rfl rfl rfl rfl rfl rfl (by kernel_rfl) c_cnd Om ?_
       refine stp ?_
       exact back (e.setIfInBounds q e[k+k2]!,q+1,k2+1,nx2) ⟨by simpa using p1,by dsimp only;omega,by dsimp only;omega,by dsimp only;omega,by dsimp only;omega,fun j hj=> by
        dsimp only at hj⊢
        rw [Jvg Om,if_neg Om]
        exact p6 j Om,hU2⟩ Dm (Jk _ _ rfl rfl Sf .slnil Bf trivial ⟨Rf,Lw,Rf,Lw,trivial⟩)
end Go.Proofs.W

namespace Go.Proofs.W
open Go.Vl
set_option maxRecDepth 100000
def Jct (c:Cnd):Bool:=decide ((JaE c).2=2)
def Jhv (c:Cnd):Option Cnd:=if (JaE c).2=0 then some (JaE c).1 else none
def JbC (cs:List Cnd):List Cnd:=cs.filterMap Jhv
def ltC (a b:Cnd):Bool:=decide (Joy a b < 0)
def JcY (L:List Cnd):List Cnd:=cU (Go.Sort.insertionSort ltC L.toArray 0 L.length) L.length
def JaF (r:Rul):Option Rul:=if r.conds.any Jct then none else some ⟨r.name,r.act,JcY (JbC r.conds)⟩
def JoA:Option Rul→AV
 | none=> .tup [Jaj rul0,Jb false]
 | some n=> .tup [Jaj n,Jb true]
theorem Jtz {c:Cnd} (h:(JaE c).2=0):Jhv c=some (JaE c).1:=if_pos h
theorem JtA {c:Cnd} (h:(JaE c).2≠0):Jhv c=none:=if_neg h
theorem Jmk {cs:List Cnd} {i:Nat} (hi:i < cs.length):JbC (cs.take (i+1))=JbC (cs.take i)++(Jhv (cs.getD i cnd0)).toList:=by
 unfold JbC
 rw [JaZ cnd0 hi,List.filterMap_append]
 congr 1
theorem JjH (cs:List Cnd):(JbC cs).length≤cs.length:=List.length_filterMap_le _ _
theorem JoB {cs:List Cnd} (h:∀j,j < cs.length→Jct (cs.getD j cnd0)=false):cs.any Jct=false:=by
 rw [Bool.eq_false_iff]
 intro ha
 obtain ⟨c,hc,hb⟩:=List.any_eq_true.1 ha
 obtain ⟨j,hj,rfl⟩:=List.getElem_of_mem hc
 have:=h j hj
 rw [show cs.getD j cnd0=cs[j] by simp [List.getD,hj]] at this
 rw [this] at hb;cases hb
theorem JtB {cs:List Cnd} {i:Nat} (hi:i < cs.length) (h:Jct (cs.getD i cnd0)=true):cs.any Jct=true:=by
 refine List.any_eq_true.2 ⟨cs.getD i cnd0, ?_,h⟩
 simp [List.getD,hi]
theorem Jhw {cs:List Cnd} (h:∀c∈cs,c.ok) {i:Nat} (hi:i < cs.length):(cs.getD i cnd0).ok:=h _ (by simp [List.getD,hi])
theorem JtC:Jba Tryz.prog 86=true:=by kernel_rfl
theorem JtD:Tryz.prog.bytesOf 86=32:=by kernel_rfl
def ruO (nx:Nat) (s:ByteArray) (k n:Int) (x:AV):Vl.Id×Own:=((2,nx+2), .c [Jg s,int k,int n,x])
def ruZ (nx:Nat):Vl.Id×Own:=((1,nx+1), .c [Jg ⟨#[]⟩,int 0,int 0,JeY 4])
def ruB (nx:Nat) (s:ByteArray) (k n:Int) (L:List Cnd):Option (Nat×Nat×List AV)→List (Vl.Id×Own)
 | none=> [ruO nx s k n (JeY 4),ruZ nx]
 | some (s1,cap,tl)=> [ruO nx s k n (.hs (0,s1) 0 L.length cap),ruZ nx,((0,s1), .c (Jax eC L.toArray tl))]
def ruI (L:List Cnd):Option (Nat×Nat×List AV)→Prop
 | none=> L= []
 | some (_,cap,tl)=> 1≤L.length∧L.length≤cap∧cap * 4≤L.length * 4+tl.length
theorem JwJ {a b:Cnd}:Joy a b < 0↔a.arg < b.arg∨(a.arg=b.arg∧(a.op < b.op∨(a.op=b.op∧(a.mask < b.mask∨(a.mask=b.mask∧a.value < b.value))))):=by
 unfold Joy Jdv
 simp only [orL]
 repeat' split
 all_goals omega
theorem Jg1 {a b:Cnd}:ltC a b=true↔a.arg < b.arg∨(a.arg=b.arg∧(a.op < b.op∨(a.op=b.op∧(a.mask < b.mask∨(a.mask=b.mask∧a.value < b.value))))):=by
 unfold ltC;rw [decide_eq_true_iff];exact JwJ
theorem Jic {a b:Cnd}:ltC a b=false↔¬(a.arg < b.arg∨(a.arg=b.arg∧(a.op < b.op∨(a.op=b.op∧(a.mask < b.mask∨(a.mask=b.mask∧a.value < b.value)))))):=by
 rw [← Jg1,Bool.not_eq_true]
theorem swo_ltC:Go.Sort.SWO ltC:=⟨fun x=> by rw [Jic];omega,fun x y z=> by rw [Jg1,Jg1,Jg1];omega,fun x y z=> by rw [Jic,Jic,Jic];omega⟩
theorem Jqm {a b:Cnd} (h1:ltC a b=false) (h2:ltC b a=false):a=b:=by
 rw [Jic] at h1 h2
 obtain ⟨a1,a2,a3,a4⟩:=a
 obtain ⟨b1,b2,b3,b4⟩:=b
 dsimp only at h1 h2
 have e1:a1=b1:=by omega
 have e2:a2=b2:=by omega
 have e3:a3=b3:=by omega
 have e4:a4=b4:=by omega
 subst e1 e2 e3 e4;rfl
theorem JxO {nx s1:Nat} {s:ByteArray} {k n:Int} {x y:AV} (h:AVle x y) {c d:List AV} (hc:c=d):BxLe [ruO nx s k n x,ruZ nx,((0,s1), .c c)] [ruO nx s k n y,ruZ nx,((0,s1), .c d)]:=by
 subst hc
 exact ⟨rfl,⟨Rf,Rf,Rf,h,trivial⟩,Bf⟩
theorem JrS {l:List Cnd} {x:Cnd} {tl:List AV} (h:4≤tl.length):Jat (Jax eC l.toArray tl) (l.length * Tryz.prog.cellsOf 86) (eC x)=Jax eC (l++ [x]).toArray (tl.drop 4):=by
 rw [c_cnd];exact JlX JbB h
theorem JtE {i j:Vl.Id} {L:List Cnd} {x:Cnd} {cap:Nat} (h:i.2=j.2):AVle (.hs i 0 (L.length+1) cap) (.hs j 0 (L++ [x]).length cap):=by
 rw [List.length_append];exact AVle.hs_nm h
theorem JwK {x:Cnd} {m:Nat}:eC x++List.replicate (m * Tryz.prog.cellsOf 86) AV.any=Jax eC #[x] (List.replicate (m * 4) .any):=by
 rw [c_cnd];simp [Jax]
theorem Jvj {l:List Cnd} {x:Cnd} {tl:List AV} {m:Nat}:(Jax eC l.toArray tl).take (l.length * Tryz.prog.cellsOf 86)++eC x++List.replicate (m * Tryz.prog.cellsOf 86) .any=Jax eC (l++ [x]).toArray (List.replicate (m * 4) .any):=by
 rw [c_cnd,JlY JbB];exact Jn9
set_option maxHeartbeats 8000000 in
theorem JpN (r:Rul) (hok:∀c∈r.conds,c.ok) (hl:r.conds.length≤12):Tells Tryz.prog 109 [Jaj r] (JoA (JaF r)):=by
 obtain ⟨s,⟨k,n⟩,cs⟩:=r
 dsimp only at hok hl
 refine Jf Tryz.func109 rfl rfl fun nx=> ?_
 refine stp ?_
 refine Jo (fun y:Nat×List Cnd×Option (Nat×Nat×List AV)×Nat=> mk 47 [(2, .bp (1,nx+1) 0),(4, .bp (2,nx+2) 0),(15,JW cs),(16,int cs.length),(17,int y.1)] ⟨ruB nx s k n y.2.1 y.2.2.1, [],y.2.2.2,4⟩) (fun y=> y.1≤cs.length∧y.2.1=JbC (cs.take y.1)∧ruI y.2.1 y.2.2.1∧∀j,j < y.1→Jct (cs.getD j cnd0)=false) (fun y=> cs.length - y.1) ?_ ?_
 ·exact ⟨(0, [],none,nx+3),⟨Nat.zero_le _,rfl,rfl,fun j h=> absurd h (Nat.not_lt_zero _)⟩,Jk (pm:= []) [((2,nx+2), .c [Jg s,int k,int n, .os 0 0 (fun _=> .any) none]),((1,nx+1), .c [Jg ⟨#[]⟩,int 0,int 0, .os 0 0 (fun _=> .any) none])] [] rfl rfl (.cons_cons _ (.cons_cons _ (.cons _ .slnil))) Sf ⟨rfl,⟨Rf,Rf,Rf,AVle.os_nil,trivial⟩,rfl,⟨Rf,Rf,Rf,AVle.os_nil,trivial⟩,trivial⟩ trivial ⟨Rf,Rf,Rf,Rf,Rf,trivial⟩⟩
 ·rintro ⟨i,L,md,nx1⟩ ⟨h1,hL,h2,h3⟩
  dsimp only at h1 hL h2 h3
  have hal:=JjH (cs.take i)
  rw [List.length_take,Nat.min_eq_left h1,← hL] at hal
  refine stp ?_
  intro c g;cases c
  ·have g:=Jm g
   try dsimp only at g
   have hi:i=cs.length:=by omega
   subst hi
   rw [List.take_length] at hL
   have hR:JaF ⟨s,(k,n),cs⟩=some ⟨s,(k,n),JcY L⟩:=by
    unfold JaF
    dsimp only
    rw [JoB h3,hL];rfl
   rw [hR]
   rcases md with _ | ⟨s1,cap,tl⟩
   ·obtain rfl:L= []:=h2
    refine stp ?_
    refine Je rfl rfl (JrP 193) ⟨Rf,Rf,trivial⟩ fun nx2=> ?_
    refine stp ?_
    refine Je rfl rfl Jtw ⟨Rf,trivial⟩ fun nx2=> ?_
    refine stp ?_
    exact Jh rfl ⟨rfl,trivial⟩ (AVle.tups (cs:= [_,_]) ⟨AVle.ags (cs:= [_,_,_,_]) ⟨Rf,Rf,Rf,AVle.os_sl0,trivial⟩,Rf,trivial⟩)
   ·obtain ⟨q1,q2,q3⟩:=h2
    refine stp ?_
    refine J1 (xs:= [.hs (0,s1) 0 L.length cap,fn0 193]) [ruO nx s k n (.hs (0,s1) 0 L.length cap),ruZ nx] [] 4 rfl rfl rfl rfl ⟨Rf,Rf,trivial⟩ (Joz 193 ltC Joy JrQ (fun _ _=> rfl) L.toArray tl L.length (by simp) Om s1 cap _) Bf Pf rfl fun r h' hq=> ?_
    obtain ⟨nx2,nn2,rfl⟩:=hq
    have hds:(Go.Sort.insertionSort ltC L.toArray 0 L.length).size=L.length:=by
     have:=(Go.Sort.insertionSort_holds (lt:=ltC) swo_ltC L.toArray 0 L.length (Nat.zero_le _) (by simp)).1.1
     simpa using this
    refine stp ?_
    refine J1 (xs:= [.hs (0,s1) 0 L.length cap]) [ruO nx s k n (.hs (0,s1) 0 L.length cap),ruZ nx] [] 4 rfl rfl rfl rfl ⟨Rf,trivial⟩ (JpM (Go.Sort.insertionSort ltC L.toArray 0 L.length) tl L.length hds Om Om s1 cap _ q2) Bf Pf rfl fun r h' hq=> ?_
    obtain ⟨tl2,nx3,nn3,rfl,rfl⟩:=hq
    have hcl:(JcY L).length≤cap:=Nat.le_trans (Jnm _ _) q2
    refine JB ?_
    refine Jbq (n:=47) (nx:=nx3) (nn:=4) (pm:= []) (bx:= [ruZ nx]) (L:= [(2, .bp (1,nx+1) 0),(4, .rp [Jg s,int k,int n,JW (JcY L)])]) (df:=some []) [((2,nx+2), .c [Jg s,int k,int n, .hs (0,s1) 0 (JcY L).length cap]),((0,s1), .c (Jax eC (JcY L).toArray tl2))] rfl rfl rfl (.cons _ (.swap _ _ _)) Sf ⟨Frz.refl _,(Frz.bp (.head _) rfl).trans (Frz.rp ⟨Frz.refl _,Frz.refl _,Frz.refl _,Jhm JbB (fun _=> rfl) rfl (.tail _ (.head _)) hcl,trivial⟩),trivial⟩ ?_
    refine stp ?_
    exact Jh rfl ⟨rfl,trivial⟩ Rf
  ·have g:=Jn g
   try dsimp only at g
   have hi:i < cs.length:=by omega
   have hcs:=Js9 (cs.getD i cnd0) (Jhw hok hi)
   have ha:=Jmk hi
   have hnv:Jct (cs.getD i cnd0)=decide ((JaE (cs.getD i cnd0)).2=2):=rfl
   have hak0:=Jtz (c:=cs.getD i cnd0)
   have hak1:=JtA (c:=cs.getD i cnd0)
   generalize JaE (cs.getD i cnd0)=N at hcs hnv hak0 hak1
   obtain ⟨⟨qa,qo,qm,qv⟩,st⟩:=N
   dsimp only at hnv hak0 hak1
   refine stp ?_
   refine ⟨Bd, ?_⟩
   refine stp ?_
   refine Je rfl rfl hcs ⟨Rf,trivial⟩ fun nx2=> ?_
   refine stp ?_
   intro c g2;cases c
   ·have g2:st≠2:=fun h=> by subst h;cases g2
    rw [decide_eq_false g2] at hnv
    have h3':∀j,j < i+1→Jct (cs.getD j cnd0)=false:=fun j hj=> by
     rcases Nat.lt_or_ge j i with q | q
     ·exact h3 j q
     ·rw [show j=i by omega];exact hnv
    refine stp ?_
    intro c g3;cases c
    ·have g3:st≠0:=fun h=> by subst h;cases g3
     rw [hak1 g3,← hL] at ha
     refine stp ?_
     exact back (i + 1, L, md, _) ⟨hi, ha.symm.trans (List.append_nil _).symm |>.symm |> (fun e => by simpa using ha.symm), h2, h3'⟩ Dm (Jk (bx := ruB nx s k n L md) _ _ rfl rfl (.cons _ (.cons _ Sf)) Sf Bf trivial ⟨Rf, Rf, Rf, Rf, Lw, trivial⟩)
    ·have g3:st=0:=by
      by_cases h:st=0
      ·exact h
      ·exfalso
       have:((st:Int) ==0)=false:=beq_eq_false_iff_ne.2 Om
       exact absurd (g3.trans this) Dc
     rw [hak0 g3,← hL] at ha
     have ha:L++ [⟨qa,qo,qm,qv⟩]=JbC (cs.take (i+1)):=ha.symm
     rcases md with _ | ⟨s1,cap,tl⟩
     ·obtain rfl:L= []:=h2
      refine JB ?_
      refine JO (fun i=> match i with | 0=> true | _=> false) 5 ?_
      refine stp ?_
      refine Jga (m:=1) rfl rfl (.inr ⟨_,rfl⟩) Tryz.underlying116 JtC c_cnd.symm Dc (Jy rfl) (by rw [JtD];omega) Om fun ncap hcap=> ?_
      refine stp ?_
      exact back (i+1, [⟨qa,qo,qm,qv⟩],some (nx2+1,ncap,List.replicate ((ncap - 1) * 4) .any),nx2+1+1) ⟨hi,ha,⟨Nat.le_refl _,hcap,by simp;omega⟩,h3'⟩ Dm (Jr (pm:= []) (bx:= [ruO nx s k n (.hs (0,nx2+1) 0 1 ncap),ruZ nx,((0,nx2+1), .c (Jax eC #[⟨qa,qo,qm,qv⟩] (List.replicate ((ncap - 1) * 4) .any)))]) _ [ruO nx s k n (.hs (6,nx2+1) 0 1 ncap),ruZ nx,((6,nx2+1), .c (eC ⟨qa,qo,qm,qv⟩++List.replicate ((ncap - 1) * Tryz.prog.cellsOf 86) .any))] [] rfl rfl (List.perm_append_singleton _ _) (.cons _ (.cons _ (.cons_cons _ (.cons_cons _ (.cons_cons _ .slnil))))) .slnil ⟨rfl,⟨Rf,Rf,Rf,AVle.hs_nm rfl,trivial⟩,rfl,OwnLe.refl _,rfl,Jkz (congrArg Own.c JwK),trivial⟩ trivial ⟨Rf,Rf,Rf,Rf,Lw,trivial⟩)
     ·obtain ⟨q1,q2,q3⟩:=h2
      refine JB ?_
      refine JO (fun i=> match i with | 0=> true | _=> false) 5 ?_
      refine stp ?_
      refine Jfd (m:=1) (szx:=4) (n:=L.length) (cap:=cap) (cs:=Jax eC L.toArray tl) (i:=(0,s1)) rfl rfl (.inr ⟨_,rfl⟩) Tryz.underlying116 JtC (.inr c_cnd.symm) (by rfl) q2 (by rw [c_cnd,Jhj JbB];simpa using q3) (Jy rfl) (fun _=> by rw [JtD];omega) (fun _=> by omega) (fun hm=> absurd hm Dc) (fun hm hfit=> ?_) (fun hm hfit ncap hcap=> ?_)
      ·refine stp ?_
       (conv=> whnf)
       refine back (i+1,L++ [(⟨qa,qo,qm,qv⟩:Cnd)],some (s1,cap,tl.drop 4),nx2+1) ?_ Dm ?_
       ·exact ⟨hi,ha,⟨by simp,by simpa using hfit,by simp;omega⟩,h3'⟩
       ·exact (Jk (pm:= []) (bx:= [ruO nx s k n (.hs (0,s1) 0 (L++ [(⟨qa,qo,qm,qv⟩:Cnd)]).length cap),ruZ nx,((0,s1), .c (Jax eC (L++ [(⟨qa,qo,qm,qv⟩:Cnd)]).toArray (tl.drop 4)))]) [ruO nx s k n (.hs (0,s1) 0 (L.length+1) cap),ruZ nx,((0,s1), .c (Jat (Jax eC L.toArray tl) (L.length * Tryz.prog.cellsOf 86) (eC ⟨qa,qo,qm,qv⟩)))] [] rfl rfl (.cons _ (.cons _ (.cons_cons _ (.cons_cons _ (.cons_cons _ .slnil))))) .slnil (JxO (JtE rfl) (JrS (tl:=tl) (by have:=hfit;omega))) trivial ⟨Rf,Rf,Rf,Rf,Lw,trivial⟩)
      ·refine stp ?_
       (conv=> whnf)
       refine back (i+1,L++ [(⟨qa,qo,qm,qv⟩:Cnd)],some (nx2+1,ncap,List.replicate ((ncap - (L.length+1)) * 4) .any),nx2+1+1) ?_ Dm ?_
       ·exact ⟨hi,ha,⟨by simp,by simpa using hcap,by simp;omega⟩,h3'⟩
       ·exact (Jr (pm:= []) (bx:= [ruO nx s k n (.hs (0,nx2+1) 0 (L++ [(⟨qa,qo,qm,qv⟩:Cnd)]).length ncap),ruZ nx,((0,nx2+1), .c (Jax eC (L++ [(⟨qa,qo,qm,qv⟩:Cnd)]).toArray (List.replicate ((ncap - (L.length+1)) * 4) .any)))]) _ [ruO nx s k n (.hs (6,nx2+1) 0 (L.length+1) ncap),ruZ nx,((6,nx2+1), .c ((Jax eC L.toArray tl).take (L.length * Tryz.prog.cellsOf 86)++eC ⟨qa,qo,qm,qv⟩++List.replicate ((ncap - (L.length+1)) * Tryz.prog.cellsOf 86) .any))] [] rfl rfl (List.perm_append_singleton _ _) (.cons _ (.cons _ (.cons_cons _ (.cons_cons _ (.cons _ (.cons_cons _ .slnil)))))) .slnil ⟨rfl,⟨Rf,Rf,Rf,JtE rfl,trivial⟩,rfl,OwnLe.refl _,rfl,Jkz (congrArg Own.c Jvj),trivial⟩ trivial ⟨Rf,Rf,Rf,Rf,Lw,trivial⟩)
   ·have g2:st=2:=by
     by_cases h:st=2
     ·exact h
     ·exfalso
      have:((st:Int) ==2)=false:=beq_eq_false_iff_ne.2 Om
      exact absurd (g2.trans this) Dc
    have hR:JaF ⟨s,(k,n),cs⟩=none:=by
     unfold JaF
     dsimp only
     rw [JtB hi (by rw [hnv];exact decide_eq_true g2)];rfl
    rw [hR]
    rcases md with _ | ⟨s1,cap,tl⟩
    all_goals
     refine stp ?_
     exact Jh rfl ⟨rfl,trivial⟩ (AVle.tups (cs:= [_,_]) ⟨AVle.ags (cs:= [_,_,_,_]) ⟨Rf,Rf,Rf,AVle.os_sl0,trivial⟩,Rf,trivial⟩)
end Go.Proofs.W

namespace Go.Proofs.W
open Go.Vl
set_option maxRecDepth 100000
def JfK (r:Rul):List AV:= [Jg r.name,int r.act.1,int r.act.2,JW r.conds]
theorem JtF (l:List Rul) (p:Rul→Bool) (f:Nat) (n:Rul) (hl:l.length≤1000000000) (hp:∀i,i < l.length→Tells Tryz.prog f [Jaj (l.getD i rul0), .rp (JfK n)] (Jb (p (l.getD i rul0)))):
 Tells Tryz.prog 106 [JN 4 Jaj rul0 l,(.fn (.func f) [] [.rp (JfK n)])] (int (JgK (l.findIdx? p))):=by
 refine Jf Tryz.func106 rfl rfl fun nx=> ?_
 refine stp ?_
 refine Jo (fun s:Nat×Nat=> mk 19 [(0,JN 4 Jaj rul0 l),(1,(.fn (.func f) [] [.rp (JfK n)])),(7,int l.length),(8,int s.1)] ⟨[], [],s.2,0⟩) (fun s=> s.1≤l.length∧∀j,j < s.1→p (l.getD j rul0)=false) (fun s=> l.length - s.1) ?_ ?_
 ·exact ⟨(0,nx),⟨by simp,by intro j hj;simp at hj⟩,J5 rfl rfl ⟨Rf,Rf,Rf,Rf,trivial⟩⟩
 ·rintro ⟨i,nx⟩ ⟨h1,h2⟩
  dsimp only at h1 h2
  refine stp ?_
  intro c h3;cases c
  ·have h3:=Jm h3
   dsimp only at h3
   refine stp ?_
   refine Jd rfl (Jl ?_)
   rw [JeU rul0 (fun j hj=> h2 j Om)];rfl
  ·have h3:=Jn h3
   dsimp only at h3
   have hi:i < l.length:=by omega
   refine stp ?_
   refine ⟨⟨by dsimp only;omega,by dsimp only;omega⟩, ?_⟩
   refine stp ?_
   refine Je rfl rfl (hp i hi) ⟨Rf,Rf,trivial⟩ fun nx'=> ?_
   intro c h4;cases c
   ·refine stp ?_
    refine back (i+1,nx') ⟨by dsimp only;omega,fun j hj=> ?_⟩ Dm (J5 rfl rfl ⟨Rf,Rf,Rf,Jl (JF Dm),trivial⟩)
    dsimp only at hj
    rcases Nat.lt_or_ge j i with h | h
    ·exact h2 j h
    ·obtain rfl:j=i:=by omega
     exact h4.symm
   ·refine stp ?_
    refine Jd rfl (Jl ?_)
    rw [JgY rul0 hi h2 h4.symm];rfl
theorem JtG (l:List Rul) (p:Rul→Bool) (f:Nat) (n:Rul) (hl:l.length≤1000000000) (hp:∀i,i < l.length→Tells Tryz.prog f [Jaj (l.getD i rul0), .rp (JfK n)] (Jb (p (l.getD i rul0)))):
 Tells Tryz.prog 168 [JN 4 Jaj rul0 l,(.fn (.func f) [] [.rp (JfK n)])] (Jb (l.any p)):=by
 refine Jf Tryz.func168 rfl rfl fun nx=> ?_
 refine stp ?_
 refine Je rfl rfl (JtF l p f n hl hp) ⟨Rf,Rf,trivial⟩ fun nx'=> ?_
 refine stp ?_
 intro c h;cases c
 all_goals
  refine stp ?_
  refine Jd rfl (Jt ?_)
  rw [h,← List.findIdx?_isSome]
  exact Jfe _
def JeF (n x:Rul):Bool:=decide (x.conds= [])|| decide (x.conds=n.conds)
def Jb9 (l:List Rul) (n:Rul):Bool:=l.any (JeF n)
theorem JtH (x n:Rul) (hx:x.conds.length≤1000000):Tells Tryz.prog 195 [Jaj x, .rp [Jg n.name,int n.act.1,int n.act.2,JW n.conds]] (Jb (JeF n x)):=by
 refine Jf Tryz.func195 rfl rfl fun nx=> ?_
 by_cases h:x.conds= []
 ·have e:JeF n x=true:=by unfold JeF;rw [h];rfl
  rw [e]
  refine stp ?_
  intro c hc
  have hc2:c=true:=hc.trans (beq_iff_eq.2 (congrArg (fun l:List Cnd=> Int.ofNat l.length) h))
  clear hc;subst hc2
  refine stp ?_
  exact Jd rfl Rf
 ·have e:JeF n x=decide (x.conds=n.conds):=by unfold JeF;rw [decide_eq_false h];rfl
  rw [e]
  refine stp ?_
  intro c hc
  have hne:¬Int.ofNat x.conds.length=0:=fun hh=> h (List.eq_nil_of_length_eq_zero (Int.ofNat.inj hh))
  have hc2:c=false:=hc.trans (beq_eq_false_iff_ne.2 hne)
  clear hc;subst hc2
  refine stp ?_
  refine Je rfl rfl (JpI x.conds n.conds hx) ⟨Rf,Rf,trivial⟩ fun nx2=> ?_
  intro c h9;cases c
  all_goals
   refine stp ?_
   exact Jd rfl (Jt h9)
theorem Jjk (l:List Rul) (n:Rul) (hl:l.length≤1000000) (hc:∀r∈l,r.conds.length≤1000000):Tells Tryz.prog 110 [Ji l,Jaj n] (Jb (Jb9 l n)):=by
 refine Jf Tryz.func110 rfl rfl fun nx=> ?_
 (refine JB ?_;refine JE ?_;refine JB ?_)
 refine AW.le (JcI (L:= [(0,Ji l),(3, .rp [Jg n.name,int n.act.1,int n.act.2,JW n.conds])]) (bx:= []) (pm:= []) (nn:=1) [((0,nx), .c [Jg n.name,int n.act.1,int n.act.2,JW n.conds])] rfl rfl Sf .slnil ⟨Frz.refl _,Frz.bp (.head _) rfl,trivial⟩) ?_
 refine stp ?_
 refine Je rfl rfl (JtG l (JeF n) 195 n Om (fun i hi=> JtH _ _ (hc _ (by simp [List.getD,hi])))) ⟨Rf,Rf,trivial⟩ fun nx2=> ?_
 intro c h9;cases c
 all_goals
  refine stp ?_
  exact Jd rfl (Jt h9)
end Go.Proofs.W

namespace Go.Proofs
open Go.Shelf
shelf_lay_g SlLaysM.n6 Slgm 6 at Tryz 189 as Tryz.laysM6k16
end Go.Proofs
namespace Go.Proofs.W
open Go.Vl Go.Shelf
set_option maxRecDepth 100000
theorem JpO (es:List (Value×AV)) (hky:∀p∈es,∃z,p.1= .string z):JgV Tryz.prog 198 [] [.rp [.fm es]] (fun v:Value=> [.v v]) (fun xs=> xs.Perm (es.map (·.1))):=by
 intro i σ Cb Cp I J hc s0 nx nn h0
 refine ECall.wk (J2 Tryz.func198 rfl rfl ?_)
 refine JB ?_
 refine JO (fun n=> match n with | 0=> true | _=> false) 2 ?_
 refine stp ?_
 refine Jq4 rfl Tryz.underlying223 rfl ?_
 refine stp ?_
 refine Jo (fun y:List Nat×σ×Nat=> mk 14 [(0, .yl i),(5, .bp (nn,nx) 0)] ⟨((nn,nx), .it es y.1)::Cb y.2.1,Cp y.2.1,y.2.2,nn+1⟩) (fun y=> y.1.Nodup∧(∀j∈y.1,j < es.length)∧I (y.1.map (Jez es)) y.2.1) (fun y=> es.length - y.1.length) ?_ ?_
 ·exact ⟨([],s0,nx+1),⟨List.nodup_nil,(fun j (h:j∈ [])=> by cases h),h0⟩,Et rfl rfl ⟨rfl,OwnLe.refl _,Bf⟩ Pf ⟨Rf,Rf,trivial⟩⟩
 ·rintro ⟨seen,s,nx1⟩ ⟨h1,h2,h3⟩
  dsimp only at h1 h2 h3
  refine JB ?_
  refine JO (fun n=> match n with | 0=> true | _=> false) 1 ?_
  refine JsU (i:=(nn,nx)) (es:=es) (seen:=seen) (R:=Cb s) rfl rfl rfl (fun k p hk hn=> ?_) (fun hall=> ?_)
  ·obtain ⟨z,hz⟩:=hky p (List.mem_of_getElem? hk)
   obtain ⟨key,val⟩:=p
   dsimp only at hz
   subst hz
   have hk2:k < es.length:=(List.getElem?_eq_some_iff.1 hk).1
   have hka:Jez es k= .string z:=Jrv hk
   obtain ⟨post,hperm⟩:=JsX h1 h2 hk2 hn
   have hS:(seen.map (Jez es)++(.string z)::post.map (Jez es)).Perm (es.map (·.1)):=by
    rw [← Jl6,← hka]
    simpa using hperm.map (Jez es)
   have hlen:=hperm.length_eq
   have hnd:(seen++ [k]).Nodup:=by
    rw [List.nodup_append]
    exact ⟨h1,by simp,fun a ha b hb hab=> by rw [List.mem_singleton] at hb;subst hb;subst hab;exact hn ha⟩
   have hlt:∀j∈seen++ [k],j < es.length:=fun j hj=> by
    rcases List.mem_append.1 hj with h | h
    ·exact h2 j h
    ·rw [List.mem_singleton] at h;omega
   have hmk:(seen++ [k]).map (Jez es)=seen.map (Jez es)++ [.string z]:=by rw [List.map_append,← hka];rfl
   have hlen2:seen.length < es.length:=by simp at hlen;omega
   refine JB ?_
   refine JO (fun n=> match n with | 0=> true | _=> false) 1 ?_
   refine Jq5 (i:=(nn,nx)) (seen:=seen) (k:=k) (R:=Cb s) rfl rfl rfl hk ?_
   refine JB ?_
   refine JO (fun n=> match n with | 0=> true | _=> false) 3 ?_
   refine stp ?_
   refine Jhi [((nn,nx), .it es (seen++ [k]))] [] rfl rfl rfl (hc _ hS) rfl h3 ⟨Rf,trivial⟩ (fun s' nx' hI=> ?_) (fun s' nx' hJ=> ?_)
   ·refine stp ?_
    exact back (seen++ [k],s',nx') ⟨hnd,hlt,by dsimp only;rw [hmk];exact hI⟩ (by simp;omega) (Et rfl rfl Bf Pf ⟨Rf,Rf,trivial⟩)
   ·refine stp ?_
    exact JaG rfl ⟨_,⟨Cb s',Cp s',nx',nn⟩,Rf,JaR _ _ rfl (.cons _ Sf) Sf Bf Pf,_,s',hS, .inr ⟨_,_,_,rfl,hJ⟩,rfl,rfl⟩
  ·refine stp ?_
   refine JaG rfl ⟨_,⟨Cb s,Cp s,nx1,nn⟩,Rf,JaR _ _ rfl (.cons _ Sf) Sf Bf Pf,_,s, ?_, .inl h3,rfl,rfl⟩
   rw [← Jl6]
   exact (JsY h1 h2 hall).map _
def JcD (l:List Value) (k:Nat):AV:= .v (l.getD k (.bool false))
theorem Jvk:Tryz.prog.bytesOf 9=16:=by kernel_rfl
theorem JkA (es:List (Value×AV)):Tells Tryz.prog 112 [.fm es] (.fn (.func 198) [] [.rp [.fm es]]):=by
 refine Jf Tryz.func112 rfl rfl fun nx=> ?_
 (repeat ((conv=>whnf);first|refine ω0 ?_|refine ω1 ?_|refine ω2 ?_|refine ω3 ?_|refine ω4 rfl ?_|refine ω5 rfl ?_|refine ω6 ?_|refine ω7 ?_|refine ⟨rfl,?_⟩|refine ⟨trivial,?_⟩|refine ⟨⟨rfl,Nat.le_of_ble_eq_true rfl⟩,?_⟩|refine ⟨⟨by kernel_rfl,by kernel_rfl⟩,?_⟩|refine ⟨by decide,?_⟩|refine Jf8 ?_|refine Jfl ?_))
 refine AW.le (JcI (L:= [(2, .fn (.func 198) [] [.rp [.fm es]])]) (bx:= []) (pm:= []) (nn:=1) [((0,nx), .c [.fm es])] rfl rfl Sf .slnil ⟨Frz.fn trivial ⟨Frz.bp (.head _) rfl,trivial⟩,trivial⟩) ?_
 refine stp ?_
 exact Jd rfl Rf
set_option maxHeartbeats 1000000 in
theorem JjI {it:FuncId} {es:List (Value×AV)} {S:List Value→Prop} (hit:JgV Tryz.prog it [] [.rp [.fm es]] (fun v:Value=> [.v v]) S) (hS:∀xs,S xs→xs.length≤1000000∧∀v∈xs,∃z,v= .string z) (nx:Nat):
 ECall Tryz.prog 265 [.os 0 0 (fun _=> .any) none, .fn (.func it) [] [.rp [.fm es]]] ⟨[], [],nx,0⟩ fun r h'=> ∃xs oi nx' nn',S xs∧(oi=none→xs= [])∧r= .os 1 xs.length (JcD xs) oi∧h'=⟨[],Jad oi (xs.length * 1),nx',nn'⟩:=by
 refine ECall.wk (J2 Tryz.func265 rfl rfl ?_)
 refine stp ?_
 refine AW.le (E':=mk 13 [(2, .bp (0,nx) 0),(6, .fn (.func it) [] [.rp [.fm es]])] ⟨[((0,nx), .c [.os 1 0 (JcD []) none])], [],nx+1,1⟩) ?_ ?_
 ·exact Jk _ _ rfl rfl Sf .slnil ⟨rfl,⟨AVle.os_nil,trivial⟩,trivial⟩ trivial ⟨Rf,Rf,trivial⟩
 refine Jwk (σ:=Nat×(Nat→AV)×Option Vl.Id) (α:=Value) (e:=fun v=> [.v v]) (S:=S) (first':= []) (caps':= [.rp [.fm es]]) (fun x=> [((0,nx), .c [.os 1 x.1 x.2.1 x.2.2])]) (fun x=> Jad x.2.2 (x.1 * 1)) (fun pre x=> x.1=pre.length∧(∀k,k < x.1→x.2.1 k=JcD pre k)∧(x.2.2=none→pre= [])) (0,JcD [],none) rfl rfl hit (LeL.refl _) (LeL.refl _) rfl rfl ⟨rfl,fun _ _=> rfl,fun _=> rfl⟩ (fun _=> rfl) ?_ ?_
 ·rintro pre x post ⟨n,f,oi⟩ nx3 nn3 hx ⟨hp,hf,ho⟩
  dsimp only at hp hf ho
  subst hp
  obtain ⟨hlen,hty⟩:=hS _ hx
  obtain ⟨z,rfl⟩:=hty x (by simp)
  simp at hlen
  refine JB ?_
  refine JE ?_
  refine JB ?_
  refine JO (fun n=> match n with | 0=> true | _=> false) 4 ?_
  refine stp ?_
  refine Jfc (e:=9) (c:=1) (pm:= []) (n:=pre.length) (oi:=oi) (sz:=1) (f:=f) rfl rfl (.inr ⟨_,rfl⟩) (by kernel_rfl) (by kernel_rfl) (by kernel_rfl) (.inr rfl) (by kernel_rfl) (List.append_nil _).symm (Jy rfl) (by rw [Jvk];omega) Om ?_
  refine stp ?_
  refine ⟨(pre.length+1,_,some (nn3,nx3)), .inl ⟨rfl,by simp,fun k hk=> ?_,fun h=> by cases h⟩,rfl,rfl⟩
  refine Jb5 (fun k hk=> ?_) ?_ k hk
  ·rw [hf k hk];simp [JcD,List.getD,List.getElem?_append_left hk,hk]
  ·simp [JcD,List.getD];rfl
 ·rintro xs ⟨n,f,oi⟩ nx3 nn3 hx ⟨hp,hf,ho⟩
  dsimp only at hp hf ho
  subst hp
  refine stp ?_
  refine JaG rfl ⟨.os 1 xs.length (JcD xs) oi,⟨[],Jad oi (xs.length * 1),nx3,0⟩,AVle.os_fun hf, ?_,xs,oi,nx3,0,hx,ho,rfl,rfl⟩
  exact JaR [] _ rfl (List.nil_sublist _) Sf trivial Pf
theorem Jlq (es:List (Value×AV)) (hl:es.length≤1000000) (hky:∀p∈es,∃z,p.1= .string z) (nx:Nat):
 ECall Tryz.prog 197 [.fn (.func 198) [] [.rp [.fm es]]] ⟨[], [],nx,0⟩ (Jv7 (fun n f=> ∃xs:List Value,xs.Perm (es.map (·.1))∧n=xs.length∧∀k,k < n→f k=JcD xs k) 1):=by
 refine Jq9 Dc (fun n f ⟨xs,_,_,hf⟩ k hk c hc=> ?_) ?_
 ·rw [hf k hk] at hc
  obtain rfl:c=JcD xs k:=by simpa [JcD,AV.cells] using hc
  exact Flat.v _
 refine ECall.wk (J2 Tryz.func197 rfl rfl ?_)
 refine stp ?_
 refine JeQ rfl rfl (ECall.args (bs:= [.os 0 0 (fun _=> .any) none, .fn (.func 198) [] [.rp [.fm es]]]) ⟨Rf,Rf,trivial⟩ (JjI (JpO es hky) (fun xs hx=> ⟨by have:=hx.length_eq;simp at this;omega,fun v hv=> ?_⟩) nx)) fun r h' hq=> ?_
 ·obtain ⟨p,hp,rfl⟩:=List.mem_map.1 (hx.mem_iff.1 hv)
  exact hky p hp
 obtain ⟨xs,oi,nx',nn',hS,ho,rfl,rfl⟩:=hq
 refine Named.same ?_
 refine stp ?_
 exact JaG rfl ⟨_,_,Rf,HLe.refl _,xs.length,JcD xs,oi,nx',_,⟨xs,hS,rfl,fun _ _=> rfl⟩,(fun h=> by rw [ho h];rfl),rfl,rfl⟩
def JcJ (z:List UInt8):AV:= .v (encStr z)
def JgN (s:Nat) (d:Array (List UInt8)) (tl:List AV):List (Vl.Id×Own):= [((0,s), .c (Jc7 JcJ d tl))]
theorem JkB (l:List (List UInt8)):l.mergeSort (fun x y=> decide (x≤y))=JaH Go.Sort.ltStr l:=by
 unfold JaH
 congr 1
 funext x y
 simp only [Go.Sort.ltStr]
 by_cases h:x≤y
 ·rw [decide_eq_true h,decide_eq_false (List.not_lt.2 h)];rfl
 ·rw [decide_eq_false h,decide_eq_true (List.not_le.1 h)];rfl
theorem Jgg:∀x y:List UInt8,Go.Sort.ltStr x y=false→Go.Sort.ltStr y x=false→x=y:=fun x y h1 h2=> by
 simp only [Go.Sort.ltStr,decide_eq_false_iff_not,List.not_lt] at h1 h2
 exact List.le_antisymm h2 h1
theorem JoC (d0:Array (List UInt8)) (tl:List AV) (n:Nat) (hn:d0.size=n) (hsz:n≤1000000) (s cap nx:Nat):
 ECall Tryz.prog 189 [.hs (0,s) 0 n cap] ⟨JgN s d0 tl, [],nx,1⟩ (fun r h'=> ∃nx' nn',h'=⟨JgN s (JaH Go.Sort.ltStr d0.toList).toArray tl, [],nx',nn'⟩):=by
 subst hn
 have h:=Ji8 (P:=Tryz.prog) (enc:=encStr) (d:=d0) (d':=(JaH Go.Sort.ltStr d0.toList).toArray) (tl:=tl) (nm:=0) (s:=s) (cap:=cap) (nx:=nx) (nn:=1) (f:=189) ⟨_,Tryz.func189,rfl,rfl⟩ (by simp [JbG]) (fun w blk hH hb=> by
  have k:=AnyM.slices_Sort_string Tryz.laysM6k16 blk 0 cap d0.toList w hH hb (by simp;omega)
  rw [JkB] at k
  exact k)
 exact h.mono fun r h' ⟨_,h2⟩=> ⟨nx,1,h2⟩
theorem JoD (F:Nat→AV):Tells Tryz.prog 189 [.os 1 0 F none] (.tup []):=
 Ji9 (nx:=0) ⟨_,Tryz.func189,rfl,rfl⟩ fun p cap w=> AnyM.slices_Sort_string_none Tryz.laysM6k16 p cap w
def JkC:Value→List UInt8
 | .string z=> z.data.toList
 | _=> []
theorem Jm8 (es:List (Value×AV)) (zs:List (List UInt8)) (hz:es.map (·.1)=zs.map encStr) (hl:es.length≤1000000):
 Tells Tryz.prog 111 [.fn (.func 198) [] [.rp [.fm es]]] (JN 1 JcJ [] (JaH Go.Sort.ltStr zs)):=by
 have hky:∀p∈es,∃z,p.1=encStr z:=fun p hp=> by
  have:p.1∈zs.map encStr:=hz ▸ List.mem_map_of_mem hp
  obtain ⟨z,_,h⟩:=List.mem_map.1 this
  exact ⟨z,h.symm⟩
 refine Jf Tryz.func111 rfl rfl fun nx=> ?_
 refine stp ?_
 refine JeQ rfl rfl (Jlq es hl (fun p hp=> let ⟨z,h⟩:=hky p hp;⟨⟨z.toArray⟩,h⟩) nx) fun r h' hq=> ?_
 obtain ⟨n,f,⟨xs,hxp,hxn,hxf⟩,hq⟩:=hq
 obtain ⟨ys,rfl⟩:∃ys:List (List UInt8),xs=ys.map encStr:=by
  have hall:∀v∈xs,∃z,v=encStr z:=fun v hv=> by
   have hv2:=hxp.mem_iff.1 hv
   rw [hz] at hv2
   obtain ⟨z,_,h⟩:=List.mem_map.1 hv2
   exact ⟨z,h.symm⟩
  clear hxp hxn hxf hq
  induction xs with
  | nil=> exact ⟨[],rfl⟩
  | cons x xs ih=>
    obtain ⟨z,rfl⟩:=hall x (by simp)
    obtain ⟨ys,rfl⟩:=ih fun v hv=> hall v (by simp [hv])
    exact ⟨z::ys,rfl⟩
 have hperm:ys.Perm zs:=by
  rw [hz] at hxp
  have h2:=hxp.map JkC
  rwa [List.map_map,List.map_map,show (JkC∘encStr)=id from rfl,List.map_id,List.map_id] at h2
 have hsz:n≤1000000:=by
  have:=hxp.length_eq
  simp at this
  rw [hxn];simp;omega
 rcases hq with ⟨rfl,hb,hp,rfl⟩ | ⟨s,cap,more,nx',nn',hcap,hmore,rfl,rfl⟩
 ·have hys:ys= []:=by cases ys with | nil=> rfl | cons y ys=> simp at hxn
  subst hys
  have hzs:zs= []:=hperm.symm.eq_nil
  subst hzs
  rw [show JaH Go.Sort.ltStr ([]:List (List UInt8))= [] from List.eq_nil_of_length_eq_zero JbG]
  obtain ⟨bx,pm,nxx,nnn⟩:=h'
  dsimp only at hb hp
  subst hb;subst hp
  refine Named.same ?_
  refine stp ?_
  refine Je rfl rfl (JoD f) ⟨Rf,trivial⟩ fun nx2=> ?_
  refine stp ?_
  exact Jd rfl AVle.os_sl0
 ·refine Named.same ?_
  have hcells:JQ n f=ys.toArray.toList.map JcJ:=by
   have key:∀m,m≤n→JQ m f=(ys.take m).map JcJ:=by
    intro m
    induction m with
    | zero=> intro _;rfl
    | succ m ih=>
      intro hm
      have hm':m < ys.length:=by simp at hxn;omega
      have e:JQ (m+1) f=JQ m f++(f m).cells:=by unfold JQ;rw [List.range_succ,List.flatMap_append];simp
      rw [e,ih Om,hxf m Om,List.take_add_one,List.map_append]
      simp [JcD,List.getD,hm',AV.cells,JcJ]
   rw [key n (Nat.le_refl _),List.take_of_length_le (by simp at hxn;omega)]
  have hnn:ys.toArray.size=n:=by simp at hxn;simp [hxn]
  rw [hcells]
  refine JB ?_
  refine AW.le (E':=mk 9 [(3, .hs (0,s) 0 n cap)] ⟨JgN s ys.toArray (List.replicate more .any), [],nx',1⟩) (Jk _ _ rfl rfl Sf .slnil Bf trivial ⟨Rf,trivial⟩) ?_
  refine stp ?_
  refine J1 (xs:= [.hs (0,s) 0 n cap]) [] [] 1 rfl rfl rfl rfl ⟨Rf,trivial⟩ (JoC ys.toArray _ n hnn hsz s cap _) Bf Pf rfl fun r h' hq=> ?_
  obtain ⟨nx2,nn2,rfl⟩:=hq
  have hd:(JaH Go.Sort.ltStr ys.toArray.toList).toArray.toList=JaH Go.Sort.ltStr zs:=by
   show JaH Go.Sort.ltStr ys=_
   exact Jlj Go.Sort.swo_ltStr Jgg hperm
  generalize (JaH Go.Sort.ltStr ys.toArray.toList).toArray=d' at hd⊢
  have hdn:d'.size=n:=by
   rw [← Array.length_toList,hd,JbG,← hperm.length_eq]
   simpa using hnn
  have hln:(JaH Go.Sort.ltStr zs).length=n:=by rw [← hd];simpa using hdn
  refine JB ?_
  refine AW.le (JcI (L:= [(3,JN 1 JcJ [] (JaH Go.Sort.ltStr zs))]) (bx:= []) (pm:= []) (nn:=1) [((0,s), .c (Jc7 JcJ d' (List.replicate more .any)))] rfl rfl Sf .slnil ⟨?_,trivial⟩) ?_
  ·unfold JN
   rw [hln]
   refine Frz.hs1 (.head _) hcap (by rw [Jn2];omega) (fun k _=> rfl) (fun k hk=> ?_)
   unfold Jc7
   rw [List.getElem?_append_left (by simpa [hdn] using hk),List.getElem?_map,← hd]
   have:k < d'.size:=by omega
   simp [List.getD,this]
  ·refine stp ?_
   exact Jd rfl Rf
end Go.Proofs.W

namespace Go.Proofs.W
open Go.Vl
set_option maxRecDepth 100000
def Jae (s t:ByteArray):Bool:=s.toList ==t.toList
theorem JbS {s t:ByteArray}:Jae s t=true↔s=t:=by
 unfold Jae
 rw [beq_iff_eq,Lib.toList_data,Lib.toList_data]
 constructor
 ·intro h
  obtain ⟨⟨a⟩⟩:=s
  obtain ⟨⟨b⟩⟩:=t
  simpa using h
 ·rintro rfl;rfl
def JaO:List (ByteArray×List Rul)→ByteArray→List Rul
 | [],_=> []
 | h::H,s=> if Jae s h.1 then h.2 else JaO H s
def Jdh:List (ByteArray×List Rul)→ByteArray→Rul→List (ByteArray×List Rul)
 | [],s,n=> [(s, [n])]
 | h::H,s,n=> if Jae s h.1 then (h.1,h.2++ [n])::H else h::Jdh H s n
def Jdb (H:List (ByteArray×List Rul)) (r:Rul):List (ByteArray×List Rul):=
 match JaF r with
 | none=> H
 | some n=> if Jb9 (JaO H r.name) n then H else Jdh H r.name n
def J9 (rs:List Rul):List (ByteArray×List Rul):=rs.foldl Jdb []
theorem Jm9 {rs:List Rul} {i:Nat} (h:i < rs.length):J9 (rs.take (i+1))=Jdb (J9 (rs.take i)) (rs.getD i rul0):=by
 unfold J9;rw [JaZ rul0 h,List.foldl_append];rfl
def Jaz (R:List Rul) (k:Nat):AV:=Jaj (R.getD k rul0)
abbrev Grp:=ByteArray×List Rul×Nat
def gE (g:Grp):Value×AV:=(.string g.1, .os 4 g.2.1.length (Jaz g.2.1) (some (g.2.2,g.2.2)))
def gF (g:Grp):Value×AV:=(.string g.1,Ji g.2.1)
def gP (g:Grp):Vl.Id×Nat:=((g.2.2,g.2.2),g.2.1.length * 4)
def Jcd (G:List Grp):List (ByteArray×List Rul):=G.map fun g=> (g.1,g.2.1)
theorem Jg2 (G:List Grp):Ja7 .string (G.map gE)=true:=by simp [Ja7,gE,Ja0]
theorem JxP (G:List Grp):Ja7 .string (G.map gF)=true:=by simp [Ja7,gF,Ja0]
theorem JkD {s:ByteArray} {e:Grp→Value×AV} (he:∀g,(e g).1= .string g.1):∀ {G:List Grp},(∀g∈G,Jae s g.1=false)→Jbi (.string s) (G.map e)=none
 | [],_=> rfl
 | g::G,h=> by
   have h0:(s.toList ==g.1.toList)=false:=h g (.head _)
   show (bif Jdj (.string s) (e g).1 then _ else Jbi (.string s) (G.map e))=none
   rw [he g]
   show (bif s.toList ==g.1.toList then _ else Jbi (.string s) (G.map e))=none
   rw [h0]
   exact JkD he fun g' hg=> h g' (.tail _ hg)
theorem JjJ {s:ByteArray} {e:Grp→Value×AV} (he:∀g,(e g).1= .string g.1) {l:List Rul} {st:Nat} {G2:List Grp}:∀ {G1:List Grp},(∀g∈G1,Jae s g.1=false)→Jbi (.string s) ((G1++(s,l,st)::G2).map e)=some (e (s,l,st)).2
 | [],_=> by
   show (bif Jdj (.string s) (e (s,l,st)).1 then _ else _)=_
   rw [he]
   show (bif s.toList ==s.toList then _ else _)=_
   rw [beq_self_eq_true];rfl
 | g::G,h=> by
   have h0:(s.toList ==g.1.toList)=false:=h g (.head _)
   show (bif Jdj (.string s) (e g).1 then _ else Jbi (.string s) ((G++(s,l,st)::G2).map e))=_
   rw [he g]
   show (bif s.toList ==g.1.toList then _ else _)=_
   rw [h0]
   exact JjJ he fun g' hg=> h g' (.tail _ hg)
theorem Jek {s:ByteArray} {v:AV}:∀ {G:List Grp},(∀g∈G,Jae s g.1=false)→JcS (.string s) v (G.map gE)=G.map gE++ [(.string s,v)]
 | [],_=> rfl
 | g::G,h=> by
   have h0:(s.toList ==g.1.toList)=false:=h g (.head _)
   show (bif s.toList ==g.1.toList then _ else gE g::JcS (.string s) v (G.map gE))=_
   rw [h0,Jek fun g' hg=> h g' (.tail _ hg)];rfl
theorem Jqn {s:ByteArray} {v:AV} {l:List Rul} {st:Nat} {G2:List Grp}:∀ {G1:List Grp},(∀g∈G1,Jae s g.1=false)→JcS (.string s) v ((G1++(s,l,st)::G2).map gE)=G1.map gE++(.string s,v)::G2.map gE
 | [],_=> by
   show (bif s.toList ==s.toList then _ else _)=_
   rw [beq_self_eq_true];rfl
 | g::G,h=> by
   have h0:(s.toList ==g.1.toList)=false:=h g (.head _)
   show (bif s.toList ==g.1.toList then _ else gE g::JcS (.string s) v ((G++(s,l,st)::G2).map gE))=_
   rw [h0,Jqn fun g' hg=> h g' (.tail _ hg)];rfl
theorem Jml {s:ByteArray}:∀ {G:List Grp},(∀g∈G,Jae s g.1=false)→JaO (Jcd G) s= []
 | [],_=> rfl
 | g::G,h=> by
   show (if Jae s g.1=true then _ else JaO (Jcd G) s)=_
   rw [if_neg (by rw [h g (.head _)];decide)]
   exact Jml fun g' hg=> h g' (.tail _ hg)
theorem Jlr {s:ByteArray} {l:List Rul} {st:Nat} {G2:List Grp}:∀ {G1:List Grp},(∀g∈G1,Jae s g.1=false)→JaO (Jcd (G1++(s,l,st)::G2)) s=l
 | [],_=> if_pos (JbS.2 rfl)
 | g::G,h=> by
   show (if Jae s g.1=true then _ else JaO (Jcd (G++_)) s)=_
   rw [if_neg (by rw [h g (.head _)];decide)]
   exact Jlr fun g' hg=> h g' (.tail _ hg)
theorem Jmm {s:ByteArray} {n:Rul} {st:Nat}:∀ {G:List Grp},(∀g∈G,Jae s g.1=false)→Jdh (Jcd G) s n=Jcd (G++ [(s, [n],st)])
 | [],_=> rfl
 | g::G,h=> by
   show (if Jae s g.1=true then _ else _::Jdh (Jcd G) s n)=_
   rw [if_neg (by rw [h g (.head _)];decide),Jmm (st:=st) fun g' hg=> h g' (.tail _ hg)];rfl
theorem Jqo {s:ByteArray} {n:Rul} {l:List Rul} {st st':Nat} {G2:List Grp}:∀ {G1:List Grp},(∀g∈G1,Jae s g.1=false)→Jdh (Jcd (G1++(s,l,st)::G2)) s n=Jcd (G1++(s,l++ [n],st')::G2)
 | [],_=> if_pos (JbS.2 rfl)
 | g::G,h=> by
   show (if Jae s g.1=true then _ else _::Jdh (Jcd (G++(s,l,st)::G2)) s n)=_
   rw [if_neg (by rw [h g (.head _)];decide),Jqo (st':=st') fun g' hg=> h g' (.tail _ hg)];rfl
theorem Jid (s:ByteArray):∀(G:List Grp),(∀g∈G,Jae s g.1=false)∨∃G1 l st G2,G=G1++(s,l,st)::G2∧∀g∈G1,Jae s g.1=false
 | []=> .inl (by simp)
 | g::G=> by
   cases hk:Jae s g.1 with
   | true=>
     obtain ⟨t,l,st⟩:=g
     obtain rfl:s=t:=JbS.1 hk
     exact .inr ⟨[],l,st,G,rfl,by simp⟩
   | false=>
     rcases Jid s G with h | ⟨G1,l,st,G2,rfl,h⟩
     ·exact .inl fun g' hg=> by rcases List.mem_cons.1 hg with rfl | hg;exact hk;exact h g' hg
     ·exact .inr ⟨g::G1,l,st,G2,rfl,fun g' hg=> by rcases List.mem_cons.1 hg with rfl | hg;exact hk;exact h g' hg⟩
theorem JkE {s:ByteArray} {l:List Rul} {st:Nat} {G2:List Grp}:∀ {G1:List Grp},((G1++(s,l,st)::G2).map (·.2.2)).Nodup→Jbc st ((G1++(s,l,st)::G2).map gP)=some (st,l.length * 4)
 | [],_=> by
   show (bif Nat.beq st st then _ else _)=_
   rw [Nat.beq_refl];rfl
 | g::G,h=> by
   simp only [List.cons_append,List.map_cons,List.nodup_cons] at h
   have h0:Nat.beq g.2.2 st=false:=by
    cases hb:Nat.beq g.2.2 st with
    | false=> rfl
    | true=> exact absurd (by simp [Nat.eq_of_beq_eq_true hb]) h.1
   show (bif Nat.beq g.2.2 st then _ else Jbc st ((G++(s,l,st)::G2).map gP))=_
   rw [h0]
   exact JkE h.2
theorem Jie {s:ByteArray} {l:List Rul} {st:Nat} {G2:List Grp}:∀ {G1:List Grp},((G1++(s,l,st)::G2).map (·.2.2)).Nodup→Jbp st ((G1++(s,l,st)::G2).map gP)=(G1++G2).map gP
 | [],_=> by
   show (bif Nat.beq st st then _ else _)=_
   rw [Nat.beq_refl];rfl
 | g::G,h=> by
   simp only [List.cons_append,List.map_cons,List.nodup_cons] at h
   have h0:Nat.beq g.2.2 st=false:=by
    cases hb:Nat.beq g.2.2 st with
    | false=> rfl
    | true=> exact absurd (by simp [Nat.eq_of_beq_eq_true hb]) h.1
   show (bif Nat.beq g.2.2 st then _ else gP g::Jbp st ((G++(s,l,st)::G2).map gP))=_
   rw [h0,Jie h.2];rfl
theorem MpLe.appK16:∀ {a b c d:List (Value×AV)},MpLe a b→MpLe c d→MpLe (a++c) (b++d)
 | [], [],_,_,_,h=> h
 | _::_,_::_,_,_,h,k=> ⟨h.1,h.2.1,MpLe.appK16 h.2.2 k⟩
 | [],_::_,_,_,h,_=> h.elim
 | _::_, [],_,_,h,_=> h.elim
theorem JwL {s:ByteArray} {n:Rul} {st:Nat} {v:AV} {G:List Grp} (h:∀g∈G,Jae s g.1=false) (hv:AVle v (.os 4 1 (Jaz [n]) (some (st,st)))):OwnLe (.mp (JcS (.string s) v (G.map gE))) (.mp ((G++ [(s, [n],st)]).map gE)):=by
 rw [Jek h,List.map_append]
 exact MpLe.appK16 (MpLe.refl _) ⟨rfl,hv,trivial⟩
theorem Jym {s:ByteArray} {l l':List Rul} {st st':Nat} {v:AV} {G1 G2:List Grp} (h:∀g∈G1,Jae s g.1=false) (hv:AVle v (.os 4 l'.length (Jaz l') (some (st',st')))):OwnLe (.mp (JcS (.string s) v ((G1++(s,l,st)::G2).map gE))) (.mp ((G1++(s,l',st')::G2).map gE)):=by
 rw [Jqn h,List.map_append]
 exact MpLe.appK16 (MpLe.refl _) ⟨rfl,hv,MpLe.refl _⟩
theorem JtI:∀(G:List Grp),MpLe (G.map gE) (G.map gF)
 | []=> trivial
 | g::G=> ⟨rfl,AVle.os_sl,JtI G⟩
theorem Jvl {P:Program} {c:Code} {E:Env} {Q:AExit→Env→Prop} (h:(E.h.pm.map (·.1.2)).Nodup→AW P c E Q):AW P c E Q:=by
 have h2:=h
 unfold AW at h2⊢
 intro ro X M w0 a w g g0 hg hs
 refine h2 ?_ ro X M w0 a w g g0 hg hs
 have:=hs.hok.nodup
 unfold Heap.ids at this
 rw [List.map_append] at this
 have h3:=(List.nodup_append.1 this).2.1
 have:((E.h.pm.map (·.1.2)).map (fun i=> g[i]?)).Nodup:=h3
 exact (List.pairwise_map.1 this).imp fun h e=> h (congrArg (fun i=> g[i]?) e)
theorem Jmn {E:Env} {n:Nat} {bx:List (Vl.Id×Own)} {pm pm':List (Vl.Id×Nat)} {nx nn:Nat} {L:List (Nat×AV)} (bx':List (Vl.Id×Own)) (hn:E.n=n) (hx:E.h.nx=nx) (hb:bx'.Sublist E.h.bx) (hp:E.h.pm=pm') (hq:(pm.map (fun p=> (p.1.2,p.2))).Perm (pm'.map (fun p=> (p.1.2,p.2))))
 (eb:BxLe bx' bx) (hL:LeT E.t L):ELe E (mk n L ⟨bx,pm,nx,nn⟩ E.df):=by
 subst hp
 refine ELe.trans (Jk (bx:=bx) (pm:=E.h.pm) (nn:=nn) (L:=L) bx' E.h.pm hn hx hb Sf eb Pf hL) ?_
 exact Jf2 (E:=mk n L ⟨bx,E.h.pm,nx,nn⟩ E.df) (h':=⟨bx,pm,nx,nn⟩) ⟨.refl _,hq,rfl⟩
theorem JiJ {L:List Rul} {c:Rul} {f':Nat→AV} {i j:Vl.Id} (hf:f' 0=Jaj c:=by rfl) (h:i.2=j.2:=by rfl):AVle (.os 4 (L.length+1) (Jby L.length (Jaz L) f') (some i)) (.os 4 (L++ [c]).length (Jaz (L++ [c])) (some j)):=by
 rw [List.length_append]
 refine (AVle.os_fun (Jb5 (fun k hk=> ?_) ?_)).trans (AVle.os_nm h)
 ·simp [Jaz,List.getD,List.getElem?_append_left hk,hk]
 ·rw [hf];simp [Jaz,List.getD]
end Go.Proofs.W

namespace Go.Proofs.W
open Go.Vl
set_option maxRecDepth 100000
def JbD (d:A2) (l:List Rul):List Rul:=(l.reverse.dropWhile fun r=> decide (r.act=d)).reverse
def JcZ (H:List (ByteArray×List Rul)):List (List UInt8):=JaH Go.Sort.ltStr (H.map fun h=> h.1.data.toList)
def JbT (d:A2) (H:List (ByteArray×List Rul)) (N:List (List UInt8)):List Rul:=N.flatMap fun nm=> JbD d (JaO H ⟨nm.toArray⟩)
def Jc (p:Pol):Pol:=⟨p.dflt,p.x32,JbT p.dflt (J9 p.rules) (JcZ (J9 p.rules))⟩
def JyK:Pol:=⟨(0,0),false, []⟩
def Jnn (p:Pol):AV:=if JaB p then .tup [JaL (Jc p),int 0] else .tup [JaL JyK,int 13]
theorem Jmo {d:A2} {l:List Rul} {r:Rul}:JbD d (l++ [r])=if r.act=d then JbD d l else l++ [r]:=by
 unfold JbD
 rw [List.reverse_append]
 show (List.dropWhile _ (r::l.reverse)).reverse=_
 by_cases h:r.act=d
 ·rw [List.dropWhile_cons,if_pos (by simpa using h),if_pos h]
 ·rw [List.dropWhile_cons,if_neg (by simpa using h),if_neg h];simp
theorem JgB {l:List Rul} {m:Nat} (h0:0 < m) (h:m≤l.length):l.take m=l.take (m - 1)++ [l.getD (m - 1) rul0]:=by
 obtain ⟨k,rfl⟩:∃k,m=k+1:=⟨m - 1,by omega⟩
 exact JaZ rul0 Om
def JdM:List AV:= [int 0,int 0,Jb false, .os 0 0 (fun _=> .any) none]
def JeZ (p:Pol):List AV:= [int p.dflt.1,int p.dflt.2,Jb p.x32,Ji p.rules]
theorem JaU {p:Pol} (h:JaB p=true):p.rules.length≤500∧∀r∈p.rules,r.conds.length≤6:=by
 unfold JaB at h
 simp only [Bool.and_eq_true,decide_eq_true_eq,Bool.not_eq_true',List.any_eq_false] at h
 refine ⟨h.2.1,fun r hr=> ?_⟩
 have:J6 r=true:=by have:=h.2.2 r hr;simpa using this
 unfold J6 at this
 simp only [Bool.and_eq_true,decide_eq_true_eq] at this
 exact this.2.2.1
theorem Jbg {r n:Rul} (h:JaF r=some n):n.conds.length≤r.conds.length∧n.name=r.name∧n.act=r.act:=by
 unfold JaF at h
 split at h
 ·cases h
 ·cases h
  exact ⟨Nat.le_trans (Jnm _ _) (JjH _),rfl,rfl⟩
theorem Jg3:Jba Tryz.prog 123=true:=by kernel_rfl
theorem gc_rul:Tryz.prog.cellsOf 123=4:=by kernel_rfl
theorem Jg4:Tryz.prog.bytesOf 123=56:=by kernel_rfl
theorem JwM {s:ByteArray} {l:List Rul} {n:Rul} {st st' nm:Nat} {G1 G2:List Grp} (hnd:((G1++(s,l,st)::G2).map (·.2.2)).Nodup):
 (((G1++(s,l++ [n],st')::G2).map gP).map (fun p=> (p.1.2,p.2))).Perm ((((nm,st'),(l.length+1) * Tryz.prog.cellsOf 123)::Jbp st ((G1++(s,l,st)::G2).map gP)).map (fun p=> (p.1.2,p.2))):=by
 rw [Jie hnd,gc_rul,List.map_append,List.map_cons,List.map_append,List.map_append,List.map_cons,List.map_cons,List.map_append]
 refine List.perm_middle.trans (.of_eq ?_)
 simp [gP]
theorem JfT (r:Rul):(Jaj r).cells.all Jcc=true:=rfl
theorem JfU {R l:List Rul} {m:Nat} {i j:Vl.Id} (hm:m≤l.length) (h:i.2=j.2):AVle (.os 4 (R.length+m) (Jby R.length (Jaz R) (Jaz l)) (some i)) (.os 4 (R++l.take m).length (Jaz (R++l.take m)) (some j)):=by
 rw [List.length_append,List.length_take,Nat.min_eq_left hm]
 refine (AVle.os_fun (fun k hk=> ?_)).trans (AVle.os_nm h)
 unfold Jby
 by_cases hk2:k < R.length
 ·rw [show Nat.blt k R.length=true from Nat.ble_eq_true_of_le hk2]
  simp [Jaz,List.getD,List.getElem?_append_left hk2]
 ·rw [show Nat.blt k R.length=false from by cases hb:Nat.blt k R.length with | false=> rfl | true=> exact absurd (Nat.le_of_ble_eq_true hb) Om]
  simp only [Jaz,List.getD,cond_false]
  rw [List.getElem?_append_right Om,List.getElem?_take,if_pos Om]
theorem Jft {a b c d:List Rul} (h:a=b) (k:c=d):a++c=b++d:=by rw [h,k]
theorem J7 {a b:AV} {K:AV→Prop} (h:a=b) (hk:JcU b K):JcU a K:=h ▸ hk
set_option maxHeartbeats 8000000 in
theorem Jna (p:Pol) (hp:p.ok):Tells Tryz.prog 45 [JaL p] (Jnn p):=by
 have hr:=Jjd p hp
 cases hb:JaB p with
 | false=>
   rw [hb] at hr
   unfold Jnn
   rw [hb,if_neg Dc]
   refine Jf Tryz.func45 rfl rfl fun nx=> ?_
   refine stp ?_
   refine Je rfl rfl hr ⟨Rf,trivial⟩ fun nx2=> ?_
   refine stp ?_
   exact Jh rfl ⟨rfl,trivial⟩ (AVle.tups (cs:= [_,_]) ⟨AVle.ags (cs:= [_,_,_,_]) ⟨Rf,Rf,Rf,AVle.os_sl0,trivial⟩,Rf,trivial⟩)
 | true=>
   rw [hb] at hr
   obtain ⟨hl,hc6⟩:=JaU hb
   unfold Jnn
   rw [hb,if_pos rfl]
   refine Jf Tryz.func45 rfl rfl fun nx=> ?_
   refine stp ?_
   refine Je rfl rfl hr ⟨Rf,trivial⟩ fun nx2=> ?_
   refine stp ?_
   refine Jo (fun y:Nat×List Grp×Nat=> mk 94 [(1, .bp (0,nx) 0),(2, .bp (1,nx+1) 0),(4, .om (2,nx2)),(19,Ji p.rules),(20,int p.rules.length),(21,int y.1)] ⟨[((2,nx2), .mp (y.2.1.map gE)),((1,nx+1), .c JdM),((0,nx), .c (JeZ p))],y.2.1.map gP,y.2.2,3⟩)
    (fun y=> y.1≤p.rules.length∧Jcd y.2.1=J9 (p.rules.take y.1)∧y.2.1.length≤y.1∧∀g∈y.2.1,g.2.1.length≤y.1∧∀r∈g.2.1,r.conds.length≤6) (fun y=> p.rules.length - y.1) ?_ ?_
   ·exact ⟨(0, [],nx2+1),⟨Nat.zero_le _,rfl,Nat.le_refl _,by simp⟩,Et rfl rfl Bf trivial ⟨Rf,Rf,Rf,Rf,Rf,Rf,trivial⟩⟩
   ·rintro ⟨i,G,nx3⟩ ⟨h1,h2,h3,h4⟩
    dsimp only at h1 h2 h3 h4
    refine stp ?_
    intro c g;cases c
    ·have g:=Jm g
     try dsimp only at g
     have hi:i=p.rules.length:=by omega
     subst hi
     rw [List.take_length] at h2
     refine JB ?_
     refine AW.le (E':=mk 94 [(1, .bp (0,nx) 0),(2, .bp (1,nx+1) 0),(4, .om (2,nx2))] ⟨[((2,nx2), .mp (G.map gF)),((1,nx+1), .c JdM),((0,nx), .c (JeZ p))], [],nx3,3⟩) (Jk _ [] rfl rfl Sf (List.nil_sublist _) ⟨rfl,JtI G,Bf⟩ trivial ⟨Rf,Rf,Rf,trivial⟩) ?_
     refine Jbq (n:=94) (nx:=nx3) (nn:=3) (pm:= []) (bx:= [((1,nx+1), .c JdM),((0,nx), .c (JeZ p))]) (L:= [(1, .bp (0,nx) 0),(2, .bp (1,nx+1) 0),(4, .fm (G.map gF))]) (df:=some []) [((2,nx2), .mp (G.map gF))] rfl rfl rfl (.refl _) Sf ⟨Frz.refl _,Frz.refl _,Frz.om (.head _),trivial⟩ ?_
     have hzs:(G.map gF).map (·.1)=(G.map fun g:Grp=> g.1.data.toList).map encStr:=by
      rw [List.map_map,List.map_map];rfl
     have hsort:=Jm8 (G.map gF) (G.map fun g:Grp=> g.1.data.toList) hzs (by rw [List.length_map];omega)
     have hkeys:JcZ (J9 p.rules)=JaH Go.Sort.ltStr (G.map fun g:Grp=> g.1.data.toList):=by
      rw [← h2];unfold JcZ Jcd;rw [List.map_map];rfl
     have hNl:(JaH Go.Sort.ltStr (G.map fun g:Grp=> g.1.data.toList)).length≤500:=by rw [JbG,List.length_map];omega
     have hNm:∀z,z∈JaH Go.Sort.ltStr (G.map fun g:Grp=> g.1.data.toList)→∃g∈G,g.1.data.toList=z:=fun z hz=> by
      rw [Jhq] at hz
      obtain ⟨g,hg,h⟩:=List.mem_map.1 hz
      exact ⟨g,hg,h⟩
     unfold Jc
     rw [hkeys,← h2]
     generalize JaH Go.Sort.ltStr (G.map fun g:Grp=> g.1.data.toList)=N at hsort hNl hNm⊢
     refine stp ?_
     intro c hc
     subst hc
     refine stp ?_
     refine Je rfl rfl (JkA (G.map gF)) ⟨Rf,trivial⟩ fun nx4=> ?_
     refine stp ?_
     refine Je rfl rfl hsort ⟨Rf,trivial⟩ fun nx5=> ?_
     refine stp ?_
     refine Jo (fun y:Nat×List Rul×Option Nat×Nat=> mk 94 [(1, .bp (0,nx) 0),(2, .bp (1,nx+1) 0),(4, .fm (G.map gF)),(9, .bp (3,nx3) 0),(58,JN 1 JcJ [] N),(59,int N.length),(60,int y.1)] ⟨[((3,nx3), .c [int p.dflt.1,int p.dflt.2,Jb p.x32, .os 4 y.2.1.length (Jaz y.2.1) (nmd y.2.2.1)]),((1,nx+1), .c JdM),((0,nx), .c (JeZ p))],Jad (nmd y.2.2.1) (y.2.1.length * 4),y.2.2.2,4⟩)
      (fun y=> y.1≤N.length∧(y.2.2.1=none→y.2.1= [])∧y.2.1=JbT p.dflt (Jcd G) (N.take y.1)∧y.2.1.length≤y.1 * 500) (fun y=> N.length - y.1) ?_ ?_
     ·exact ⟨(0, [],none,nx5),⟨Nat.zero_le _,fun _=> rfl,rfl,Nat.zero_le _⟩,Et (pm:= []) (bx:= [((3,nx3), .c [int p.dflt.1,int p.dflt.2,Jb p.x32, .os 4 0 (Jaz []) none]),((1,nx+1), .c JdM),((0,nx), .c (JeZ p))]) rfl rfl ⟨rfl,⟨Rf,Rf,Rf,AVle.os_nil,trivial⟩,Bf⟩ trivial ⟨Rf,Rf,Rf,Rf,Rf,Rf,Rf,trivial⟩⟩
     ·rintro ⟨j,R,oi,nx6⟩ ⟨k1,k2,k3,k4⟩
      dsimp only at k1 k2 k3 k4
      refine stp ?_
      intro c gg;cases c
      ·have gg:=Jm gg
       try dsimp only at gg
       have hj:j=N.length:=by omega
       subst hj
       rw [List.take_length] at k3
       rw [← k3]
       refine stp ?_
       exact Jh rfl ⟨rfl,trivial⟩ (AVle.tups (cs:= [_,_]) ⟨AVle.ags (cs:= [_,_,_,_]) ⟨Rf,Rf,Rf,AVle.os_sl,trivial⟩,Rf,trivial⟩)
      ·have gg:=Jn gg
       try dsimp only at gg
       have hj:j < N.length:=by omega
       have hNj:N.getD j []∈N:=by simp [List.getD,hj]
       rcases Jid ⟨(N.getD j []).toArray⟩ G with hno | ⟨G1,l,st,G2,hG,hno⟩
       ·exfalso
        obtain ⟨g,hg,hge⟩:=hNm _ hNj
        have:=hno g hg
        rw [Bool.eq_false_iff] at this
        exact this (JbS.2 (by rw [← hge]))
       have hlk:=JjJ (e:=gF) (fun _=> rfl) (l:=l) (st:=st) (G2:=G2) hno
       have hgl:=(h4 (⟨(N.getD j []).toArray⟩,l,st) (by rw [hG];simp)).1
       dsimp only at hgl
       have hgg:JaO (Jcd G) ⟨(N.getD j []).toArray⟩=l:=by rw [hG];exact Jlr hno
       have hout:JbT p.dflt (Jcd G) (N.take (j+1))=JbT p.dflt (Jcd G) (N.take j)++JbD p.dflt l:=by
        unfold JbT
        rw [JaZ [] hj,List.flatMap_append]
        simp only [List.flatMap_cons,List.flatMap_nil,List.append_nil]
        rw [hgg]
       rw [← hG] at hlk
       refine stp ?_
       refine ⟨Bd, ?_⟩
       refine JbI ?_
       refine ⟨JxP G,Jj (b:=Ji l) (congrArg (fun o:Option AV=> o.getD (.os 0 0 (fun _=> .any) none)) hlk) ?_⟩
       refine JbI ?_
       refine Jo (fun y:Nat×Nat=> mk 94 [(1, .bp (0,nx) 0),(2, .bp (1,nx+1) 0),(4, .fm (G.map gF)),(9, .bp (3,nx3) 0),(58,JN 1 JcJ [] N),(59,int N.length),(60,int j),(12, .sl 4 y.1 (Jaz l))] ⟨[((3,nx3), .c [int p.dflt.1,int p.dflt.2,Jb p.x32, .os 4 R.length (Jaz R) (nmd oi)]),((1,nx+1), .c JdM),((0,nx), .c (JeZ p))],Jad (nmd oi) (R.length * 4),nx6,4⟩)
        (fun y=> y.1≤l.length∧JbD p.dflt l=JbD p.dflt (l.take y.1)) (fun y=> y.1) ?_ ?_
       ·exact ⟨(l.length,0),⟨Nat.le_refl _,by rw [List.take_length]⟩,Et rfl rfl Bf Pf ⟨Rf,Rf,Rf,Rf,Rf,Rf,Rf,Rf,trivial⟩⟩
       ·rintro ⟨m,zz⟩ ⟨hml,hcut⟩
        dsimp only at hml hcut
        have hlm:(l.take m).length=m:=by rw [List.length_take];omega
        by_cases hm0:0 < m
        ·have hd:decide ((m:Int) > 0)=true:=decide_eq_true Om
         have hm1:IntKind.i64.wrap ((m:Int) - 1)=((m - 1:Nat):Int):=by rw [Jac Om Om];omega
         rw [JgB hm0 hml,Jmo] at hcut
         refine stp ?_
         (refine Ju 15 ?_ ?_ ?_ ?_;(· kernel_rfl);(· kernel_rfl);(· kernel_rfl))
         refine stp ?_
         (conv=> whnf)
         refine JaN hd ?_
         refine stp ?_
         refine ⟨⟨Jbs (i:=m - 1) hm1,JbJ (i:=m - 1) hm1 Om⟩,Jj (b:= .rp (Jaj (l.getD (m - 1) rul0)).cells) (congrArg (fun z:Int=> AV.rp (Jaz l z.toNat).cells) hm1) ?_⟩
         refine stp ?_
         intro c hc
         have hc2:c=decide ((l.getD (m - 1) rul0).act=p.dflt):=hc.trans Jqi
         clear hc
         cases c
         ·have hne:¬(l.getD (m - 1) rul0).act=p.dflt:=of_decide_eq_false hc2.symm
          rw [if_neg hne,← JgB hm0 hml] at hcut
          have hct:=hcut
          clear hc2
          refine JB ?_
          refine JO (fun i=> match i with | 0=> true | _=> false) 4 ?_
          refine stp ?_
          rcases oi with _ | o1
          ·obtain rfl:=k2 rfl
           refine AOp.any (Ja8 (e:=123) (n:=0) (oi:=none) (sz:=4) (f:=Jaz []) (m:=m) (szx:=4) (f':=Jaz l) rfl rfl (.inl rfl) Tryz.underlying45 Jg3 (.inl ⟨rfl,rfl⟩) (.inr gc_rul.symm) (fun i h=> by cases h) (fun k _=> JfT _) (fun _=> by rw [Jg4];omega) (fun _=> by omega) (fun hm=> ?_) (fun hm=> ?_))
           ·subst hm
            refine stp ?_
            exact back (j+1, [],none,nx6) ⟨hj,fun _=> rfl,by rw [hout];exact (List.append_nil _).symm.trans (Jft k3 hct.symm),by dsimp only;omega⟩ Dm (Et rfl rfl Bf trivial ⟨Rf,Rf,Rf,Rf,Rf,Rf,Lw,trivial⟩)
           ·refine stp ?_
            exact back (j+1,l.take m,some nx6,nx6+1) ⟨hj,(fun h=> by cases h),by rw [hout];exact Jft k3 hct.symm,by dsimp only;rw [hlm];omega⟩ Dm (Et (pm:= [((0,nx6),(l.take m).length * 4)]) (bx:= [((3,nx3), .c [int p.dflt.1,int p.dflt.2,Jb p.x32, .os 4 (l.take m).length (Jaz (l.take m)) (some (0,nx6))]),((1,nx+1), .c JdM),((0,nx), .c (JeZ p))]) rfl rfl ⟨rfl,⟨Rf,Rf,Rf,JfU (R:= []) hml rfl,trivial⟩,Bf⟩ ⟨rfl,show (0+m) * Tryz.prog.cellsOf 123=(l.take m).length * 4 by rw [hlm,gc_rul,Nat.zero_add],trivial⟩ ⟨Rf,Rf,Rf,Rf,Rf,Rf,Lw,trivial⟩)
          ·refine AOp.any (Ja8 (e:=123) (n:=R.length) (oi:=some (0,o1)) (sz:=4) (f:=Jaz R) (m:=m) (szx:=4) (f':=Jaz l) rfl rfl (.inl rfl) Tryz.underlying45 Jg3 (.inr gc_rul.symm) (.inr gc_rul.symm) (fun i h=> by cases h;rw [gc_rul];rfl) (fun k _=> JfT _) (fun _=> by rw [Jg4];omega) (fun _=> by omega) (fun hm=> ?_) (fun hm=> ?_))
           ·subst hm
            refine stp ?_
            exact back (j+1,R,some o1,nx6) ⟨hj,(fun h=> by cases h),by rw [hout];exact (List.append_nil _).symm.trans (Jft k3 hct.symm),by dsimp only;omega⟩ Dm (Et rfl rfl Bf Pf ⟨Rf,Rf,Rf,Rf,Rf,Rf,Lw,trivial⟩)
           ·refine stp ?_
            exact back (j+1,R++l.take m,some nx6,nx6+1) ⟨hj,(fun h=> by cases h),by rw [hout];exact Jft k3 hct.symm,by dsimp only;rw [List.length_append,hlm];omega⟩ Dm (Et (pm:= [((0,nx6),(R++l.take m).length * 4)]) (bx:= [((3,nx3), .c [int p.dflt.1,int p.dflt.2,Jb p.x32, .os 4 (R++l.take m).length (Jaz (R++l.take m)) (some (0,nx6))]),((1,nx+1), .c JdM),((0,nx), .c (JeZ p))]) rfl rfl ⟨rfl,⟨Rf,Rf,Rf,JfU hml rfl,trivial⟩,Bf⟩ ⟨rfl,by rw [List.length_append,hlm,gc_rul],trivial⟩ ⟨Rf,Rf,Rf,Rf,Rf,Rf,Lw,trivial⟩)
         ·have heq:(l.getD (m - 1) rul0).act=p.dflt:=of_decide_eq_true hc2.symm
          rw [if_pos heq] at hcut
          clear hc2
          refine stp ?_
          refine ⟨⟨Jbs (i:=m - 1) hm1,Int.le_of_lt (JbJ (i:=m - 1) hm1 Om)⟩, ?_⟩
          refine stp ?_
          exact back (m - 1,0) ⟨by dsimp only;omega,hcut⟩ Dm (Et rfl rfl Bf Pf ⟨Rf,Rf,Rf,Rf,Rf,Rf,Rf,AVle.of_eq (congrArg (fun z:Int=> AV.sl 4 z.toNat (Jaz l)) hm1),trivial⟩)
        ·have hd:decide ((m:Int) > 0)=false:=decide_eq_false Om
         have hm00:m=0:=by omega
         have hct:JbD p.dflt l=l.take m:=by rw [hcut,hm00];rfl
         refine stp ?_
         (refine Ju 15 ?_ ?_ ?_ ?_;(· kernel_rfl);(· kernel_rfl);(· kernel_rfl))
         refine stp ?_
         (conv=> whnf)
         refine JaN hd ?_
         refine JB ?_
         refine JO (fun i=> match i with | 0=> true | _=> false) 4 ?_
         refine stp ?_
         rcases oi with _ | o1
         ·obtain rfl:=k2 rfl
          refine AOp.any (Ja8 (e:=123) (n:=0) (oi:=none) (sz:=4) (f:=Jaz []) (m:=m) (szx:=4) (f':=Jaz l) rfl rfl (.inl rfl) Tryz.underlying45 Jg3 (.inl ⟨rfl,rfl⟩) (.inr gc_rul.symm) (fun i h=> by cases h) (fun k _=> JfT _) (fun _=> by rw [Jg4];omega) (fun _=> by omega) (fun hm=> ?_) (fun hm=> ?_))
          ·subst hm
           refine stp ?_
           exact back (j+1, [],none,nx6) ⟨hj,fun _=> rfl,by rw [hout];exact (List.append_nil _).symm.trans (Jft k3 hct.symm),by dsimp only;omega⟩ Dm (Et rfl rfl Bf trivial ⟨Rf,Rf,Rf,Rf,Rf,Rf,Lw,trivial⟩)
          ·refine stp ?_
           exact back (j+1,l.take m,some nx6,nx6+1) ⟨hj,(fun h=> by cases h),by rw [hout];exact Jft k3 hct.symm,by dsimp only;rw [hlm];omega⟩ Dm (Et (pm:= [((0,nx6),(l.take m).length * 4)]) (bx:= [((3,nx3), .c [int p.dflt.1,int p.dflt.2,Jb p.x32, .os 4 (l.take m).length (Jaz (l.take m)) (some (0,nx6))]),((1,nx+1), .c JdM),((0,nx), .c (JeZ p))]) rfl rfl ⟨rfl,⟨Rf,Rf,Rf,JfU (R:= []) hml rfl,trivial⟩,Bf⟩ ⟨rfl,show (0+m) * Tryz.prog.cellsOf 123=(l.take m).length * 4 by rw [hlm,gc_rul,Nat.zero_add],trivial⟩ ⟨Rf,Rf,Rf,Rf,Rf,Rf,Lw,trivial⟩)
         ·refine AOp.any (Ja8 (e:=123) (n:=R.length) (oi:=some (0,o1)) (sz:=4) (f:=Jaz R) (m:=m) (szx:=4) (f':=Jaz l) rfl rfl (.inl rfl) Tryz.underlying45 Jg3 (.inr gc_rul.symm) (.inr gc_rul.symm) (fun i h=> by cases h;rw [gc_rul];rfl) (fun k _=> JfT _) (fun _=> by rw [Jg4];omega) (fun _=> by omega) (fun hm=> ?_) (fun hm=> ?_))
          ·subst hm
           refine stp ?_
           exact back (j+1,R,some o1,nx6) ⟨hj,(fun h=> by cases h),by rw [hout];exact (List.append_nil _).symm.trans (Jft k3 hct.symm),by dsimp only;omega⟩ Dm (Et rfl rfl Bf Pf ⟨Rf,Rf,Rf,Rf,Rf,Rf,Lw,trivial⟩)
          ·refine stp ?_
           exact back (j+1,R++l.take m,some nx6,nx6+1) ⟨hj,(fun h=> by cases h),by rw [hout];exact Jft k3 hct.symm,by dsimp only;rw [List.length_append,hlm];omega⟩ Dm (Et (pm:= [((0,nx6),(R++l.take m).length * 4)]) (bx:= [((3,nx3), .c [int p.dflt.1,int p.dflt.2,Jb p.x32, .os 4 (R++l.take m).length (Jaz (R++l.take m)) (some (0,nx6))]),((1,nx+1), .c JdM),((0,nx), .c (JeZ p))]) rfl rfl ⟨rfl,⟨Rf,Rf,Rf,JfU hml rfl,trivial⟩,Bf⟩ ⟨rfl,by rw [List.length_append,hlm,gc_rul],trivial⟩ ⟨Rf,Rf,Rf,Rf,Rf,Rf,Lw,trivial⟩)
    ·have g:=Jn g
     try dsimp only at g
     have hi:i < p.rules.length:=by omega
     have hmem:p.rules.getD i rul0∈p.rules:=by simp [List.getD,hi]
     have hrs:=JpN (p.rules.getD i rul0) (hp.2 _ hmem).2.2 (by have:=hc6 _ hmem;omega)
     have hgn:=Jm9 hi
     have hnl:=hc6 _ hmem
     rw [← h2] at hgn
     refine Jvl fun hnd=> ?_
     have hnd:(G.map (·.2.2)).Nodup:=by
      have:((G.map gP).map (·.1.2)).Nodup:=hnd
      rwa [List.map_map] at this
     refine stp ?_
     refine ⟨Bd, ?_⟩
     refine stp ?_
     cases hN:JaF (p.rules.getD i rul0) with
     | none=>
       rw [hN] at hrs
       have hgn:J9 (p.rules.take (i+1))=Jcd G:=by rw [hgn];unfold Jdb;rw [hN]
       refine Je rfl rfl hrs ⟨Rf,trivial⟩ fun nx4=> ?_
       refine stp ?_
       exact back (i+1,G,nx4+1) ⟨hi,hgn.symm,by dsimp only;omega,fun g hg=> ⟨by have:=(h4 g hg).1;dsimp only;omega,(h4 g hg).2⟩⟩ Dm (Jk _ _ rfl rfl (.cons _ (.cons _ Sf)) Sf Bf Pf ⟨Rf,Rf,Rf,Rf,Rf,Lw,trivial⟩)
     | some n=>
       rw [hN] at hrs
       obtain ⟨hn1,hn2,hn3⟩:=Jbg hN
       rcases Jid (p.rules.getD i rul0).name G with hno | ⟨G1,l,st,G2,hG,hno⟩
       ·have hgn:J9 (p.rules.take (i+1))=Jdh (Jcd G) (p.rules.getD i rul0).name n:=by
         rw [hgn];unfold Jdb;rw [hN]
         dsimp only
         rw [Jml hno];rfl
        have hlk:=JkD (e:=gE) (fun _=> rfl) hno
        have hhd:=Jjk [] n Dc (by simp)
        refine Je rfl rfl hrs ⟨Rf,trivial⟩ fun nx4=> ?_
        refine JbI ?_
        refine ⟨⟨rfl,Jg2 G⟩,Jj (b:= .os 0 0 (fun _=> .any) none) (congrArg (fun o:Option AV=> o.getD (.os 0 0 (fun _=> .any) none)) hlk) ?_⟩
        refine JbI ?_
        refine Jj (b:=Jaj n) rfl ?_
        refine JbI ?_
        refine Je rfl rfl hhd ⟨AVle.os_sl0,Rf,trivial⟩ fun nx5=> ?_
        intro c hc
        have hc2:c=false:=hc
        clear hc;subst hc2
        refine JbI ?_
        refine JZ 10 _ (fun i=> match i with | 9=> true | _=> false) (fun i=> match i with | 6=> true | _=> false) [0,1,2,3,4,5,6,7,8,9] (by kernel_rfl) (by kernel_rfl) (HB.refl _) ?_
        refine JbI ?_
        refine ⟨Je7 (Jbi (.string (p.rules.getD i rul0).name) (G.map gE)) (.os 0 0 (fun _=> .any) none) false,JfD rfl (C:=some (nx2=nx2∧Ja7 .string (G.map gE)=true)) rfl ⟨rfl,Jg2 G⟩,J7 (b:= .os 0 0 (fun _=> .any) none) (congrArg (fun o:Option AV=> o.getD (.os 0 0 (fun _=> .any) none)) hlk) ?_⟩
        refine JbI ?_
        refine J7 (b:=Jaj n) rfl ?_
        refine JbI ?_
        refine ⟨_,Jex (e:=123) (n:=0) (oi:=none) (sz:=0) (f:=fun _=> .any) (m:=1) (szx:=4) (HB.refl _) rfl rfl rfl (.inr ⟨_,rfl⟩) Tryz.underlying45 Jg3 (.inl ⟨rfl,rfl⟩) (.inr gc_rul.symm) (fun i h=> by cases h) (Jy rfl) (fun _=> by rw [Jg4];omega) (fun _=> by omega),fun r h' hr=> ?_⟩
        rcases hr with ⟨hr,-⟩ | ⟨-,rfl,rfl⟩
        ·exact absurd hr Dc
        refine JbI ?_
        refine ⟨⟨rfl,Jg2 G⟩, ?_⟩
        refine JbI ?_
        refine Jev ?_
        refine JbI ?_
        exact back (i+1,G++ [((p.rules.getD i rul0).name, [n],nx5)],nx5+1) ⟨hi,(hgn.trans (Jmm hno)).symm,by simp;omega,fun g hg=> by
         rcases List.mem_append.1 hg with hg | hg
         ·exact ⟨by have:=(h4 g hg).1;dsimp only;omega,(h4 g hg).2⟩
         ·rw [List.mem_singleton.1 hg]
          exact ⟨by simp, fun r hr => by rw [List.mem_singleton.1 hr]; omega⟩⟩ Dm (Jmn (bx := [((2, nx2), .mp ((G ++ [((p.rules.getD i rul0).name, [n], nx5)]).map gE)), ((1, nx + 1), .c JdM), ((0, nx), .c (JeZ p))]) _ rfl rfl (.cons _ (.cons _ Sf)) rfl (by rw [List.map_append]; exact (List.perm_append_singleton _ _).map _ |>.trans (.of_eq (by rw [gc_rul]; rfl))) ⟨rfl, JwL hno (JiJ (L := [])), Bf⟩ ⟨Rf, Rf, Rf, Rf, Rf, Lw, trivial⟩)
       ·subst hG
        have hlk:=JjJ (e:=gE) (fun _=> rfl) (l:=l) (st:=st) (G2:=G2) hno
        have hgl:=h4 ((p.rules.getD i rul0).name,l,st) (by simp)
        dsimp only at hgl
        have hhd:=Jjk l n Om (fun r hr=> by have:=hgl.2 r hr;omega)
        have hgg:JaO (Jcd (G1++((p.rules.getD i rul0).name,l,st)::G2)) (p.rules.getD i rul0).name=l:=Jlr hno
        unfold Jdb at hgn
        rw [hN] at hgn
        dsimp only at hgn
        rw [hgg] at hgn
        refine Je rfl rfl hrs ⟨Rf,trivial⟩ fun nx4=> ?_
        refine JbI ?_
        refine ⟨⟨rfl,Jg2 _⟩,Jj (b:= .os 4 l.length (Jaz l) (some (st,st))) (congrArg (fun o:Option AV=> o.getD (.os 0 0 (fun _=> .any) none)) hlk) ?_⟩
        refine JbI ?_
        refine Jj (b:=Jaj n) rfl ?_
        refine JbI ?_
        refine Je rfl rfl hhd ⟨AVle.os_sl,Rf,trivial⟩ fun nx5=> ?_
        intro c hh;cases c
        ·have hh:Jb9 l n=false:=hh.symm
         rw [hh,if_neg Dc] at hgn
         refine JbI ?_
         refine JZ 10 _ (fun i=> match i with | 9=> true | _=> false) (fun i=> match i with | 6=> true | _=> false) [0,1,2,3,4,5,6,7,8,9] (by kernel_rfl) (by kernel_rfl) (HB.refl _) ?_
         refine JbI ?_
         refine ⟨Je7 (Jbi (.string (p.rules.getD i rul0).name) ((G1++((p.rules.getD i rul0).name,l,st)::G2).map gE)) (.os 0 0 (fun _=> .any) none) false,JfD rfl (C:=some (nx2=nx2∧Ja7 .string ((G1++((p.rules.getD i rul0).name,l,st)::G2).map gE)=true)) rfl ⟨rfl,Jg2 _⟩,J7 (b:= .os 4 l.length (Jaz l) (some (st,st))) (congrArg (fun o:Option AV=> o.getD (.os 0 0 (fun _=> .any) none)) hlk) ?_⟩
         refine JbI ?_
         refine J7 (b:=Jaj n) rfl ?_
         refine JbI ?_
         refine ⟨_,Jex (e:=123) (n:=l.length) (oi:=some (st,st)) (sz:=4) (f:=Jaz l) (m:=1) (szx:=4) (HB.refl _) rfl rfl rfl (.inr ⟨_,rfl⟩) Tryz.underlying45 Jg3 (.inr gc_rul.symm) (.inr gc_rul.symm) (fun i h=> by cases h;rw [gc_rul];exact JkE hnd) (Jy rfl) (fun _=> by rw [Jg4];omega) (fun _=> by omega),fun r h' hr=> ?_⟩
         rcases hr with ⟨hr,-⟩ | ⟨-,rfl,rfl⟩
         ·exact absurd hr Dc
         refine JbI ?_
         refine ⟨⟨rfl,Jg2 _⟩, ?_⟩
         refine JbI ?_
         refine Jev ?_
         refine JbI ?_
         exact back (i+1,G1++((p.rules.getD i rul0).name,l++ [n],nx5)::G2,nx5+1) ⟨hi,(hgn.trans (Jqo hno)).symm,by simp at h3⊢;omega,fun g hg=> by
          rcases List.mem_append.1 hg with hg | hg
          ·have:=h4 g (List.mem_append_left _ hg);exact ⟨by have:=this.1;dsimp only;omega,this.2⟩
          ·rcases List.mem_cons.1 hg with rfl | hg
           ·exact ⟨by simp;omega,fun r hr=> by
             rcases List.mem_append.1 hr with hr | hr
             ·exact hgl.2 r hr
             ·rw [List.mem_singleton.1 hr];omega⟩
           ·have:=h4 g (List.mem_append_right _ (.tail _ hg));exact ⟨by have:=this.1;dsimp only;omega,this.2⟩⟩ Dm (Jmn (bx:= [((2,nx2), .mp ((G1++((p.rules.getD i rul0).name,l++ [n],nx5)::G2).map gE)),((1,nx+1), .c JdM),((0,nx), .c (JeZ p))]) _ rfl rfl (.cons _ (.cons _ Sf)) rfl (JwM hnd) ⟨rfl,Jym hno JiJ,Bf⟩ ⟨Rf,Rf,Rf,Rf,Rf,Lw,trivial⟩)
        ·have hh:Jb9 l n=true:=hh.symm
         rw [hh,if_pos rfl] at hgn
         refine JbI ?_
         exact back (i+1,G1++((p.rules.getD i rul0).name,l,st)::G2,nx5) ⟨hi,hgn.symm,by dsimp only;omega,fun g hg=> ⟨by have:=(h4 g hg).1;dsimp only;omega,(h4 g hg).2⟩⟩ Dm (Jk _ _ rfl rfl (.cons _ (.cons _ Sf)) Sf Bf Pf ⟨Rf,Rf,Rf,Rf,Rf,Lw,trivial⟩)
end Go.Proofs.W

namespace Go.Proofs.W
open Go.Vl
set_option maxRecDepth 100000
theorem Jvm {c:Cnd} (ho:c.ok):(JaE c).1.ok:=by
 obtain ⟨o1,o2⟩:=ho
 unfold JaE Ja2 Jbb JbL JdJ isC asC cnd0 Cnd.ok
 repeat' split
 all_goals (refine ⟨?_, ?_⟩ <;> dsimp only <;> omega)
end Go.Proofs.W

namespace Go.Proofs.W
open Go.Vl
set_option maxRecDepth 100000
theorem JgC {α:Type} {R:α→α→Prop} (hi:∀x,¬R x x) (ht:∀x y z,R x y→R y z→R x z):∀ {l l':List α},l.Pairwise R→l'.Pairwise R→(∀x,x∈l↔x∈l')→l=l'
 | [], [],_,_,_=> rfl
 | [],y::l',_,_,h=> absurd ((h y).2 (.head _)) (by simp)
 | x::l, [],_,_,h=> absurd ((h x).1 (.head _)) (by simp)
 | x::l,y::l',h1,h2,h=> by
   rw [List.pairwise_cons] at h1 h2
   have hxy:x=y:=by
    rcases List.mem_cons.1 ((h x).1 (.head _)) with e | e
    ·exact e
    ·rcases List.mem_cons.1 ((h y).2 (.head _)) with e' | e'
     ·exact e'.symm
     ·exact absurd (ht _ _ _ (h1.1 _ e') (h2.1 _ e)) (hi x)
   subst hxy
   have hnx:∀ {m:List α},(∀z∈m,R x z)→x∉m:=fun hm hx=> hi x (hm x hx)
   rw [JgC hi ht h1.2 h2.2 fun z=> ?_]
   constructor
   ·intro hz
    rcases List.mem_cons.1 ((h z).1 (.tail _ hz)) with e | e
    ·subst e;exact absurd hz (hnx h1.1)
    ·exact e
   ·intro hz
    rcases List.mem_cons.1 ((h z).2 (.tail _ hz)) with e | e
    ·subst e;exact absurd hz (hnx h2.1)
    ·exact e
def RC (a b:Cnd):Prop:=ltC a b=true
theorem JtJ (x:Cnd):¬RC x x:=by unfold RC;rw [swo_ltC.irrefl];decide
theorem JrT (x y z:Cnd) (h:RC x y) (k:RC y z):RC x z:=swo_ltC.trans x y z h k
theorem Jqp {d:Array Cnd}:∀ {m:Nat},m≤d.size→(∀i j,i < j→j < m→ltC d[j]! d[i]! =false)→(cU d m).Pairwise RC∧∀x,x∈cU d m↔∃j,j < m∧d[j]! =x
 | 0,_,_=> ⟨List.Pairwise.nil,fun x=> by simp [cU]⟩
 | m+1,hm,hs=> by
   obtain ⟨h1,h2⟩:=Jqp (m:=m) Om fun i j a b=> hs i j a Om
   by_cases hc:m=0∨d[m]! ≠d[m - 1]!
   ·rw [cU,if_pos hc]
    refine ⟨?_,fun x=> ?_⟩
    ·rw [List.pairwise_append]
     refine ⟨h1,List.pairwise_singleton _ _,fun a ha b hb=> ?_⟩
     rw [List.mem_singleton] at hb
     subst hb
     obtain ⟨j,hj,rfl⟩:=(h2 a).1 ha
     cases hlt:ltC d[j]! d[m]! with
     | true=> exact hlt
     | false=>
       exfalso
       have h3:=hs (m - 1) m Om Om
       have h4:ltC d[m - 1]! d[m]! =false:=by
        rcases Nat.lt_or_ge j (m - 1) with q | q
        ·exact swo_ltC.ntrans _ _ _ (hs j (m - 1) q Om) hlt
        ·rw [show m - 1=j by omega];exact hlt
       rcases hc with hc | hc
       ·omega
       ·exact hc (Jqm h3 h4)
    ·rw [List.mem_append,h2,List.mem_singleton]
     constructor
     ·rintro (⟨j,hj,rfl⟩ | rfl)
      ·exact ⟨j,by omega,rfl⟩
      ·exact ⟨m,by omega,rfl⟩
     ·rintro ⟨j,hj,rfl⟩
      rcases Nat.lt_or_ge j m with q | q
      ·exact .inl ⟨j,q,rfl⟩
      ·exact .inr (by rw [show j=m by omega])
   ·rw [cU,if_neg hc]
    refine ⟨h1,fun x=> ?_⟩
    rw [h2]
    constructor
    ·rintro ⟨j,hj,rfl⟩;exact ⟨j,by omega,rfl⟩
    ·rintro ⟨j,hj,rfl⟩
     rcases Nat.lt_or_ge j m with q | q
     ·exact ⟨j,q,rfl⟩
     ·have hj':j=m:=by omega
      subst hj'
      have:j≠0:=fun h=> hc (.inl h)
      exact ⟨j - 1,by omega,by by_cases he:d[j]! =d[j - 1]!;exact he.symm;exact absurd (.inr he) hc⟩
theorem JcK (L:List Cnd):(JcY L).Pairwise RC∧∀x,x∈JcY L↔x∈L:=by
 have h:=Go.Sort.insertionSort_holds (lt:=ltC) swo_ltC L.toArray 0 L.length (Nat.zero_le _) (by simp)
 have hsz:(Go.Sort.insertionSort ltC L.toArray 0 L.length).size=L.length:=by have:=h.1.1;simpa using this
 obtain ⟨h1,h2⟩:=Jqp (d:=Go.Sort.insertionSort ltC L.toArray 0 L.length) (m:=L.length) Om fun i j a b=> h.2 i j (Nat.zero_le _) a b
 refine ⟨h1,fun x=> (h2 x).trans ?_⟩
 have hp:=h.1.2.2.mem_iff (a:=x)
 clear h h1 h2
 generalize Go.Sort.insertionSort ltC L.toArray 0 L.length=d at hsz hp⊢
 have e1:(d.extract 0 L.length).toList=d.toList:=by rw [← hsz];simp
 have e2:(L.toArray.extract 0 L.length).toList=L:=by simp
 rw [e1,e2] at hp
 rw [← hp,List.mem_iff_getElem]
 constructor
 ·rintro ⟨j,hj,rfl⟩
  have hj':j < d.size:=by omega
  exact ⟨j,by simpa using hj',by simp [hj']⟩
 ·rintro ⟨j,hj,rfl⟩
  have hj':j < d.size:=by simpa using hj
  exact ⟨j,by omega,by simp [hj']⟩
theorem JwN {L L':List Cnd} (h:∀x,x∈L↔x∈L'):JcY L=JcY L':=
 JgC JtJ JrT (JcK L).1 (JcK L').1 fun x=> ((JcK L).2 x).trans ((h x).trans ((JcK L').2 x).symm)
theorem JtK (L:List Cnd):JcY (JcY L)=JcY L:=JwN fun x=> (JcK L).2 x
theorem JwO (L:List Cnd):(JcY L).length≤L.length:=Jnm _ _
theorem Jdw {arg:Int} {op:Int} {v:Nat} (h0:0≤arg) (h5:arg≤5) (h1:1≤op) (h7:op≤7):JU ⟨arg,op,0,v⟩=true:=JbX.2 ⟨h0,h5,h1,h7, .inr rfl⟩
theorem Jls {arg:Int} {v:Nat} (h0:0≤arg) (h5:arg≤5):JaE ⟨arg,1,0,v⟩=(⟨arg,1,0,v⟩,0):=by
 unfold JaE;rw [if_pos (Jdw h0 h5 Dc Dc)];simp [Ja2]
theorem JwP {arg:Int} {v:Nat} (h0:0≤arg) (h5:arg≤5) (hv:¬v=0) (hv1:¬v=1):JaE ⟨arg,3,0,v⟩=(⟨arg,3,0,v⟩,0):=by
 unfold JaE;rw [if_pos (Jdw h0 h5 Dc Dc)];simp [Ja2,Jbb,hv,hv1,asC]
theorem JwQ {arg:Int} {v:Nat} (h0:0≤arg) (h5:arg≤5) (hv:¬v=0) (hv1:¬v=18446744073709551615):JaE ⟨arg,6,0,v⟩=(⟨arg,6,0,v⟩,0):=by
 unfold JaE;rw [if_pos (Jdw h0 h5 Dc Dc)];simp [Ja2,JbL,hv,hv1,asC]
theorem Jjl {c:Cnd} {v:Nat} (h0:0≤c.arg) (h5:c.arg≤5) (h:(Jbb c v).2=0):JU (Jbb c v).1=true∧JaE (Jbb c v).1=((Jbb c v).1,0):=by
 unfold Jbb at h⊢
 by_cases e0:v=0
 ·rw [if_pos e0] at h;simp [isC] at h
 ·rw [if_neg e0] at h⊢
  by_cases e1:v=1
  ·rw [if_pos e1];exact ⟨Jdw h0 h5 Dc Dc,Jls h0 h5⟩
  ·rw [if_neg e1];exact ⟨Jdw h0 h5 Dc Dc,JwP h0 h5 e0 e1⟩
theorem JkF {c:Cnd} {v:Nat} (h0:0≤c.arg) (h5:c.arg≤5) (h:(JbL c v).2=0):JU (JbL c v).1=true∧JaE (JbL c v).1=((JbL c v).1,0):=by
 unfold JbL at h⊢
 by_cases e0:v=0
 ·rw [if_pos e0] at h;simp [isC] at h
 ·rw [if_neg e0] at h⊢
  by_cases e1:v=18446744073709551615
  ·rw [if_pos e1];exact ⟨Jdw h0 h5 Dc Dc,Jls h0 h5⟩
  ·rw [if_neg e1];exact ⟨Jdw h0 h5 Dc Dc,JwQ h0 h5 e0 e1⟩
theorem JpP {c:Cnd} (h:(JaE c).2=0):JU (JaE c).1=true∧JaE (JaE c).1=((JaE c).1,0):=by
 have hr:JU c=true:=by
  cases hr:JU c with
  | true=> rfl
  | false=>
    unfold JaE at h
    rw [hr,if_neg Dc] at h
    simp [isC] at h
 have hrc:=JbX.1 hr
 have e:JaE c=Ja2 c:=if_pos hr
 by_cases e3:c.op=3
 ·have e2:Ja2 c=Jbb c c.value:=if_pos e3
  rw [e,e2] at h⊢;exact Jjl hrc.1 hrc.2.1 h
 by_cases e6:c.op=6
 ·have e2:Ja2 c=JbL c c.value:=by unfold Ja2;rw [if_neg e3,if_pos e6]
  rw [e,e2] at h⊢;exact JkF hrc.1 hrc.2.1 h
 by_cases e7:c.op=7
 ·have e2:Ja2 c=JdJ c:=by unfold Ja2;rw [if_neg e3,if_neg e6,if_pos e7]
  rw [e,e2] at h⊢
  unfold JdJ at h⊢
  by_cases b0:Jhn c.value c.mask≠0
  ·rw [if_pos b0] at h;simp [isC] at h
  ·rw [if_neg b0] at h⊢
   by_cases b1:c.mask=0
   ·rw [if_pos b1] at h;simp [isC] at h
   ·rw [if_neg b1] at h⊢
    by_cases b2:c.mask=18446744073709551615
    ·rw [if_pos b2];exact ⟨Jdw hrc.1 hrc.2.1 Dc Dc,Jls hrc.1 hrc.2.1⟩
    ·rw [if_neg b2]
     refine ⟨hr, ?_⟩
     rw [e,e2];unfold JdJ;rw [if_neg b0,if_neg b1,if_neg b2]
 by_cases e4:c.op=4
 ·by_cases v:c.value=18446744073709551615
  ·have e2:Ja2 c=isC true:=by unfold Ja2;rw [if_neg e3,if_neg e6,if_neg e7,if_pos e4,if_pos v]
   rw [e,e2] at h;simp [isC] at h
  ·have e2:Ja2 c=Jbb c (c.value+1):=by unfold Ja2;rw [if_neg e3,if_neg e6,if_neg e7,if_pos e4,if_neg v]
   rw [e,e2] at h⊢;exact Jjl hrc.1 hrc.2.1 h
 by_cases e5:c.op=5
 ·by_cases v:c.value=18446744073709551615
  ·have e2:Ja2 c=isC false:=by unfold Ja2;rw [if_neg e3,if_neg e6,if_neg e7,if_neg e4,if_pos e5,if_pos v]
   rw [e,e2] at h;simp [isC] at h
  ·have e2:Ja2 c=JbL c (c.value+1):=by unfold Ja2;rw [if_neg e3,if_neg e6,if_neg e7,if_neg e4,if_pos e5,if_neg v]
   rw [e,e2] at h⊢;exact JkF hrc.1 hrc.2.1 h
 have e2:Ja2 c=(c,0):=by unfold Ja2;rw [if_neg e3,if_neg e6,if_neg e7,if_neg e4,if_neg e5]
 rw [e,e2]
 exact ⟨hr,e.trans e2⟩
theorem JrU {cs:List Cnd} {x:Cnd} (h:x∈JbC cs):JU x=true∧Jct x=false∧Jhv x=some x:=by
 unfold JbC at h
 obtain ⟨c,hc,hx⟩:=List.mem_filterMap.1 h
 unfold Jhv at hx
 split at hx
 ·rename_i h0
  cases hx
  obtain ⟨h1,h2⟩:=JpP h0
  refine ⟨h1, ?_, ?_⟩
  ·unfold Jct;rw [h2];rfl
  ·unfold Jhv;rw [h2];rfl
 ·cases hx
theorem Jfh {r n:Rul} (h:JaF r=some n):JaF n=some n∧(J6 r=true→J6 n=true)∧((∀c∈r.conds,c.ok)→∀c∈n.conds,c.ok):=by
 have hc:=Jbg h
 unfold JaF at h
 split at h
 ·cases h
 ·cases h
  have hm:∀x,x∈JcY (JbC r.conds)→JU x=true∧Jct x=false∧Jhv x=some x:=fun x hx=> JrU (((JcK _).2 x).1 hx)
  refine ⟨?_,fun hr=> ?_,fun ho x hx=> ?_⟩
  ·unfold JaF
   dsimp only
   have e1:(JcY (JbC r.conds)).any Jct=false:=by
    rw [List.any_eq_false]
    intro x hx;rw [(hm x hx).2.1];decide
   have e2:JbC (JcY (JbC r.conds))=JcY (JbC r.conds):=by
    generalize JcY (JbC r.conds)=l at hm
    unfold JbC
    induction l with
    | nil=> rfl
    | cons x l ih=>
      rw [List.filterMap_cons,(hm x (.head _)).2.2]
      dsimp only
      rw [ih fun y hy=> hm y (.tail _ hy)]
   rw [e1,e2,JtK];rfl
  ·unfold J6 at hr⊢
   simp only [Bool.and_eq_true,decide_eq_true_eq] at hr⊢
   refine ⟨hr.1,hr.2.1,Nat.le_trans hc.1 hr.2.2.1, ?_⟩
   rw [Bool.not_eq_true',List.any_eq_false]
   intro x hx;rw [(hm x hx).1];decide
  ·have hx2:=((JcK _).2 x).1 hx
   unfold JbC at hx2
   obtain ⟨c,hc,hy⟩:=List.mem_filterMap.1 hx2
   unfold Jhv at hy
   split at hy
   ·cases hy;exact Jvm (ho c hc)
   ·cases hy
end Go.Proofs.W

namespace Go.Proofs.W
open Go.Vl
set_option maxRecDepth 100000
def Jeb (l:List Rul) (r:Rul):List Rul:=
 match JaF r with
 | none=> l
 | some n=> if Jb9 l n then l else l++ [n]
def gOf (s:ByteArray) (rs:List Rul):List Rul:=rs.foldl (fun l r=> if Jae s r.name then Jeb l r else l) []
theorem Jmp (s:ByteArray):Jae s s=true:=JbS.2 rfl
theorem Jif {s t:ByteArray} {n:Rul}:∀ {H:List (ByteArray×List Rul)},JaO (Jdh H t n) s=if Jae s t then JaO H s++ [n] else JaO H s
 | []=> by
   show (if Jae s t=true then [n] else [])=_
   by_cases h:Jae s t=true
   ·rw [if_pos h,if_pos h];rfl
   ·rw [if_neg h,if_neg h];rfl
 | h::H=> by
   unfold Jdh
   by_cases ht:Jae t h.1=true
   ·rw [if_pos ht]
    obtain rfl:=JbS.1 ht
    show (if Jae s h.1=true then _ else JaO H s)=_
    by_cases hs:Jae s h.1=true
    ·rw [if_pos hs,if_pos hs];show _=(if Jae s h.1=true then _ else _)++_;rw [if_pos hs]
    ·rw [if_neg hs,if_neg hs];show _=(if Jae s h.1=true then _ else _);rw [if_neg hs]
   ·rw [if_neg ht]
    show (if Jae s h.1=true then h.2 else JaO (Jdh H t n) s)=if Jae s t=true then (if Jae s h.1=true then h.2 else JaO H s)++ [n] else (if Jae s h.1=true then h.2 else JaO H s)
    by_cases hs:Jae s h.1=true
    ·rw [if_pos hs,if_pos hs]
     have:¬Jae s t=true:=fun k=> ht (by rw [← JbS.1 k];exact hs)
     rw [if_neg this]
    ·rw [if_neg hs,if_neg hs,Jif]
theorem JrV {s:ByteArray} {H:List (ByteArray×List Rul)} {r:Rul}:JaO (Jdb H r) s=if Jae s r.name then Jeb (JaO H s) r else JaO H s:=by
 unfold Jdb Jeb
 cases hN:JaF r with
 | none=> simp
 | some n=>
   dsimp only
   by_cases hs:Jae s r.name=true
   ·obtain rfl:=JbS.1 hs
    rw [if_pos hs]
    by_cases hh:Jb9 (JaO H r.name) n=true
    ·rw [if_pos hh,if_pos hh]
    ·rw [if_neg hh,if_neg hh,Jif,if_pos hs]
   ·rw [if_neg hs]
    by_cases hh:Jb9 (JaO H r.name) n=true
    ·rw [if_pos hh]
    ·rw [if_neg hh,Jif,if_neg hs]
theorem Jmq {s:ByteArray}:∀(rs:List Rul) (H:List (ByteArray×List Rul)),JaO (rs.foldl Jdb H) s=rs.foldl (fun l r=> if Jae s r.name then Jeb l r else l) (JaO H s)
 | [],_=> rfl
 | r::rs,H=> by
   rw [List.foldl_cons,Jmq rs,List.foldl_cons,JrV]
theorem Jd1 (s:ByteArray) (rs:List Rul):JaO (J9 rs) s=gOf s rs:=Jmq rs []
theorem Jmr {t:ByteArray} {n:Rul}:∀ {H:List (ByteArray×List Rul)} {s:ByteArray},s∈(Jdh H t n).map (·.1)↔s=t∨s∈H.map (·.1)
 | [],s=> by simp [Jdh]
 | h::H,s=> by
   unfold Jdh
   by_cases ht:Jae t h.1=true
   ·rw [if_pos ht]
    obtain rfl:=JbS.1 ht
    simp
   ·rw [if_neg ht,List.map_cons,List.mem_cons,Jmr,List.map_cons,List.mem_cons]
    constructor
    ·rintro (h | h | h)
     ·exact .inr (.inl h)
     ·exact .inl h
     ·exact .inr (.inr h)
    ·rintro (h | h | h)
     ·exact .inr (.inl h)
     ·exact .inl h
     ·exact .inr (.inr h)
theorem JkG {t:ByteArray} {n:Rul}:∀ {H:List (ByteArray×List Rul)},(H.map (·.1)).Nodup→((Jdh H t n).map (·.1)).Nodup
 | [],_=> by simp [Jdh]
 | h::H,hn=> by
   unfold Jdh
   by_cases ht:Jae t h.1=true
   ·rw [if_pos ht];exact hn
   ·rw [if_neg ht]
    rw [List.map_cons,List.nodup_cons] at hn⊢
    refine ⟨fun hm=> ?_,JkG hn.2⟩
    rcases Jmr.1 hm with e | e
    ·exact ht (by rw [← e];exact Jmp _)
    ·exact hn.1 e
theorem JpQ {H:List (ByteArray×List Rul)} {r:Rul} (h:(H.map (·.1)).Nodup):((Jdb H r).map (·.1)).Nodup:=by
 unfold Jdb
 cases JaF r with
 | none=> exact h
 | some n=>
   dsimp only
   split
   ·exact h
   ·exact JkG h
theorem Jgh (rs:List Rul):((J9 rs).map (·.1)).Nodup:=by
 have key:∀(rs:List Rul) (H:List (ByteArray×List Rul)),(H.map (·.1)).Nodup→((rs.foldl Jdb H).map (·.1)).Nodup:=by
  intro rs
  induction rs with
  | nil=> intro H h;exact h
  | cons r rs ih=> intro H h;exact ih _ (JpQ h)
 exact key rs [] List.nodup_nil
theorem JoE {s:ByteArray}:∀ {H:List (ByteArray×List Rul)},JaO H s≠ []→s∈H.map (·.1)
 | [],h=> absurd rfl h
 | h::H,hne=> by
   by_cases hs:Jae s h.1=true
   ·rw [JbS.1 hs];simp
   ·have:JaO (h::H) s=JaO H s:=if_neg hs
    rw [this] at hne
    exact List.mem_cons_of_mem _ (JoE hne)
def RS (a b:List UInt8):Prop:=Go.Sort.ltStr a b=true
theorem JtL (x:List UInt8):¬RS x x:=by unfold RS;rw [Go.Sort.swo_ltStr.irrefl];decide
theorem Jwd (x y z:List UInt8) (h:RS x y) (k:RS y z):RS x z:=Go.Sort.swo_ltStr.trans x y z h k
theorem Jhx {s t:ByteArray} (h:s.data.toList=t.data.toList):s=t:=by
 obtain ⟨⟨a⟩⟩:=s;obtain ⟨⟨b⟩⟩:=t;simpa using h
theorem Jjm {H:List (ByteArray×List Rul)} (hn:(H.map (·.1)).Nodup):(JcZ H).Pairwise RS:=by
 have h1:=Jff Go.Sort.swo_ltStr (H.map fun h=> h.1.data.toList)
 have h2:(JcZ H).Nodup:=by
  refine (List.mergeSort_perm _ _).nodup_iff.2 ?_
  have:(H.map fun h=> h.1.data.toList)=(H.map (·.1)).map (fun s:ByteArray=> s.data.toList):=by rw [List.map_map];rfl
  rw [this]
  exact List.pairwise_map.2 (hn.imp fun h e=> h (Jhx e))
 refine (h1.and h2).imp fun {a b} h=> ?_
 unfold RS
 cases hl:Go.Sort.ltStr a b with
 | true=> rfl
 | false=> exact absurd (Jgg _ _ hl h.1) h.2
theorem JpR {H:List (ByteArray×List Rul)} {s:ByteArray}:s.data.toList∈JcZ H↔s∈H.map (·.1):=by
 unfold JcZ
 rw [Jhq,List.mem_map,List.mem_map]
 constructor
 ·rintro ⟨h,hh,e⟩;exact ⟨h,hh,Jhx e⟩
 ·rintro ⟨h,hh,e⟩;exact ⟨h,hh,by rw [e]⟩
theorem JgO {d:A2} {H:List (ByteArray×List Rul)}:∀(N:List (List UInt8)),JbT d H N=JbT d H (N.filter fun z=> !(JbD d (JaO H ⟨z.toArray⟩)).isEmpty)
 | []=> rfl
 | z::N=> by
   have ih:=JgO (d:=d) (H:=H) N
   unfold JbT at ih⊢
   rw [List.flatMap_cons,List.filter_cons]
   cases hc:JbD d (JaO H ⟨z.toArray⟩) with
   | nil=> rw [List.nil_append,ih];rfl
   | cons a b=> rw [ih];simp [hc]
theorem Jvn {d:A2} {H H':List (ByteArray×List Rul)} {N N':List (List UInt8)} (h1:N.Pairwise RS) (h2:N'.Pairwise RS) (he:∀s,JbD d (JaO H s)=JbD d (JaO H' s))
 (hi:∀s:ByteArray,JbD d (JaO H s)≠ []→s.data.toList∈N∧s.data.toList∈N'):JbT d H N=JbT d H' N':=by
 have e1:JbT d H' N'=JbT d H N':=by
  unfold JbT
  congr 1
  funext z;rw [he]
 rw [e1,JgO N,JgO N']
 congr 1
 refine JgC JtL Jwd (h1.filter _) (h2.filter _) fun z=> ?_
 rw [List.mem_filter,List.mem_filter]
 have hz:(⟨z.toArray⟩:ByteArray).data.toList=z:=by simp
 constructor
 ·rintro ⟨ha,hb⟩
  refine ⟨?_,hb⟩
  have:=(hi ⟨z.toArray⟩ (by intro e;rw [e] at hb;simp at hb)).2
  rwa [hz] at this
 ·rintro ⟨ha,hb⟩
  refine ⟨?_,hb⟩
  have:=(hi ⟨z.toArray⟩ (by intro e;rw [e] at hb;simp at hb)).1
  rwa [hz] at this
theorem JwR {d:A2} {H:List (ByteArray×List Rul)} {s:ByteArray} (h:JbD d (JaO H s)≠ []):s.data.toList∈JcZ H:=
 JpR.2 (JoE (fun e=> h (by rw [e];rfl)))
theorem JrW (s:ByteArray) (rs:List Rul):gOf s rs=(rs.filter fun r=> Jae s r.name).foldl Jeb []:=by
 unfold gOf
 have key:∀(rs:List Rul) (l:List Rul),rs.foldl (fun l r=> if Jae s r.name then Jeb l r else l) l=(rs.filter fun r=> Jae s r.name).foldl Jeb l:=by
  intro rs
  induction rs with
  | nil=> intro l;rfl
  | cons r rs ih=>
    intro l
    rw [List.foldl_cons,ih,List.filter_cons]
    by_cases h:Jae s r.name=true
    ·rw [if_pos h,if_pos h];rfl
    ·rw [if_neg h,if_neg h]
 exact key rs []
theorem Jms (s t:ByteArray):Jae s t=Jae t s:=by
 rw [Bool.eq_iff_iff,JbS,JbS];exact eq_comm
theorem JkH (d:A2) (l:List Rul):∃t,l=JbD d l++t:=by
 unfold JbD
 refine ⟨(l.reverse.takeWhile fun r=> decide (r.act=d)).reverse, ?_⟩
 rw [← List.reverse_append,List.takeWhile_append_dropWhile,List.reverse_reverse]
theorem Jqq (d:A2) (l:List Rul):(JbD d l).length≤l.length:=by
 obtain ⟨t,h⟩:=JkH d l
 have:=congrArg List.length h
 rw [List.length_append] at this
 omega
theorem Jvo {l:List Rul} {r n:Rul} (h:n∈Jeb l r):n∈l∨JaF r=some n:=by
 unfold Jeb at h
 cases hN:JaF r with
 | none=> rw [hN] at h;exact .inl h
 | some m=>
   rw [hN] at h
   dsimp only at h
   split at h
   ·exact .inl h
   ·rcases List.mem_append.1 h with h | h
    ·exact .inl h
    ·rw [List.mem_singleton.1 h];exact .inr rfl
theorem JoF:∀(rs l:List Rul) {n:Rul},n∈rs.foldl Jeb l→n∈l∨∃r∈rs,JaF r=some n
 | [],_,_,h=> .inl h
 | r::rs,l,n,h=> by
   rcases JoF rs _ h with h | ⟨x,hx,h⟩
   ·rcases Jvo h with h | h
    ·exact .inl h
    ·exact .inr ⟨r, .head _,h⟩
   ·exact .inr ⟨x, .tail _ hx,h⟩
theorem JiK {s:ByteArray} {rs:List Rul} {n:Rul} (h:n∈gOf s rs):n.name=s∧∃r∈rs,JaF r=some n:=by
 rw [JrW] at h
 rcases JoF _ _ h with h | ⟨r,hr,h⟩
 ·cases h
 ·obtain ⟨h1,h2⟩:=List.mem_filter.1 hr
  exact ⟨(Jbg h).2.1.trans (JbS.1 h2).symm,r,h1,h⟩
theorem JoG {d:A2} {l:List Rul} {x:Rul} (h:x∈JbD d l):x∈l:=by
 obtain ⟨t,ht⟩:=JkH d l
 rw [ht];exact List.mem_append_left _ h
theorem Jlt {d:A2} {rs:List Rul} {N:List (List UInt8)} {n:Rul} (h:n∈JbT d (J9 rs) N):∃r∈rs,JaF r=some n:=by
 unfold JbT at h
 obtain ⟨z,hz,h⟩:=List.mem_flatMap.1 h
 have:=JoG h
 rw [Jd1] at this
 exact (JiK this).2
def Jgi (H:List (ByteArray×List Rul)):Nat:=(H.map fun h=> h.2.length).sum
theorem JoH {t:ByteArray} {n:Rul}:∀H:List (ByteArray×List Rul),Jgi (Jdh H t n)=Jgi H+1
 | []=> rfl
 | h::H=> by
   unfold Jdh
   by_cases ht:Jae t h.1=true
   ·rw [if_pos ht];unfold Jgi;simp;omega
   ·rw [if_neg ht]
    have:=JoH (t:=t) (n:=n) H
    unfold Jgi at this⊢
    rw [List.map_cons,List.sum_cons,this,List.map_cons,List.sum_cons];omega
theorem JtM {H:List (ByteArray×List Rul)} {r:Rul}:Jgi (Jdb H r)≤Jgi H+1:=by
 unfold Jdb
 cases JaF r with
 | none=> exact Nat.le_succ _
 | some n=>
   dsimp only
   split
   ·exact Nat.le_succ _
   ·rw [JoH];exact Nat.le_refl _
theorem JrX (rs:List Rul):Jgi (J9 rs)≤rs.length:=by
 have key:∀(rs:List Rul) (H:List (ByteArray×List Rul)),Jgi (rs.foldl Jdb H)≤Jgi H+rs.length:=by
  intro rs
  induction rs with
  | nil=> intro H;exact Nat.le_refl _
  | cons r rs ih=>
    intro H
    have h1:=ih (Jdb H r)
    have h2:=JtM (H:=H) (r:=r)
    rw [List.foldl_cons,List.length_cons];omega
 have:=key rs []
 rw [show Jgi []=0 from rfl,Nat.zero_add] at this
 exact this
theorem JoI:∀ {H:List (ByteArray×List Rul)},(H.map (·.1)).Nodup→∀h∈H,JaO H h.1=h.2
 | [],_,_,hm=> by cases hm
 | g::H,hn,h,hm=> by
   rw [List.map_cons,List.nodup_cons] at hn
   rcases List.mem_cons.1 hm with rfl | hm
   ·exact if_pos (Jmp _)
   ·have:¬Jae h.1 g.1=true:=fun hk=> hn.1 (by rw [← JbS.1 hk];exact List.mem_map_of_mem hm)
    show (if Jae h.1 g.1=true then g.2 else JaO H h.1)=_
    rw [if_neg this];exact JoI hn.2 h hm
theorem Jqr (d:A2) (rs:List Rul):(JbT d (J9 rs) (JcZ (J9 rs))).length≤rs.length:=by
 refine Nat.le_trans ?_ (JrX rs)
 have hn:=Jgh rs
 generalize J9 rs=H at hn
 unfold JbT
 have hp:(JcZ H).Perm (H.map fun h=> h.1.data.toList):=List.mergeSort_perm _ _
 rw [List.length_flatMap,(hp.map _).sum_nat,List.map_map]
 unfold Jgi
 have e:∀h∈H,((fun a:List UInt8=> (JbD d (JaO H ⟨a.toArray⟩)).length)∘fun h:ByteArray×List Rul=> h.1.data.toList) h≤h.2.length:=fun h hh=> by
  show (JbD d (JaO H ⟨h.1.data.toList.toArray⟩)).length≤_
  have es:(⟨h.1.data.toList.toArray⟩:ByteArray)=h.1:=by obtain ⟨⟨⟨a⟩⟩,b⟩:=h;rfl
  rw [es,JoI hn h hh]
  exact Jqq d h.2
 clear hp hn
 generalize (fun a:List UInt8=> (JbD d (JaO H ⟨a.toArray⟩)).length)∘(fun h:ByteArray×List Rul=> h.1.data.toList)=f at e
 induction H with
 | nil=> simp
 | cons h H ih=>
   rw [List.map_cons,List.sum_cons,List.map_cons,List.sum_cons]
   have h1:=e h (.head _)
   have h2:=ih fun x hx=> e x (.tail _ hx)
   omega
theorem JeG {p:Pol} (h:JaB p=true):JaB (Jc p)=true:=by
 unfold JaB at h⊢
 simp only [Bool.and_eq_true,decide_eq_true_eq,Bool.not_eq_true',List.any_eq_false] at h⊢
 have hl:=Jqr p.dflt p.rules
 refine ⟨h.1,Nat.le_trans hl h.2.1,fun n hn=> ?_⟩
 obtain ⟨r,hr,hN⟩:=Jlt hn
 have h2:=h.2.2 r hr
 have:J6 r=true:=by simpa using h2
 rw [(Jfh hN).2.1 this];decide
end Go.Proofs.W

namespace Go.Proofs.W
open Go.Vl
set_option maxRecDepth 100000
def nmL (s:ByteArray):List UInt8:=s.data.toList
def JiL (r:Rul):List (ByteArray×List Rul)→List (ByteArray×List Rul)
 | (s,L)::t=> if kS s r.name then (s,r::L)::t else (r.name, [r])::(s,L)::t
 | []=> [(r.name, [r])]
def JM (l:List Rul):List (ByteArray×List Rul):=l.foldr JiL []
def JtN (l:List Rul):Prop:=l.Pairwise fun a b=> Go.Sort.ltStr (nmL b.name) (nmL a.name)=false
structure GOk (l:List Rul) (gs:List (ByteArray×List Rul)):Prop where
 up:gs.Pairwise fun a b=> Go.Sort.ltStr (nmL a.1) (nmL b.1)=true
 rows:∀g∈gs,g.2=l.filter (fun r=> kS r.name g.1)∧g.2≠ []
 all:∀r∈l,∃g∈gs,g.1=r.name
theorem Jmt (s t:ByteArray):kS s t=kS t s:=by
 rw [Bool.eq_iff_iff,Ja4,Ja4]
 exact ⟨Eq.symm,Eq.symm⟩
theorem Jhy (s:List UInt8):Go.Sort.ltStr s s=false:=Go.Sort.swo_ltStr.irrefl s
theorem Jyn {s t:ByteArray} (h:Go.Sort.ltStr (nmL t) (nmL s)=false) (hne:s≠t):Go.Sort.ltStr (nmL s) (nmL t)=true:=by
 cases hl:Go.Sort.ltStr (nmL s) (nmL t) with
 | true=> rfl
 | false=> exact absurd (Jhx (Jtc _ _ hl h)) hne
theorem Jdx:∀ {l:List Rul},JtN l→GOk l (JM l)
 | [],_=> ⟨List.Pairwise.nil,fun g hg=> (by cases hg),fun r hr=> (by cases hr)⟩
 | r::l,h=> by
   obtain ⟨h1,h2⟩:=List.pairwise_cons.1 h
   have ih:=Jdx h2
   unfold JM at ih⊢
   rw [List.foldr_cons]
   generalize l.foldr JiL []=gs at ih
   have hrow:∀g∈gs,g.1≠r.name→g.2=(r::l).filter (fun q=> kS q.name g.1)∧g.2≠ []:=fun g hg hne=> by
    obtain ⟨k1,k2⟩:=ih.rows g hg
    refine ⟨?_,k2⟩
    rw [List.filter_cons,if_neg (by rw [Jmt];exact fun e=> hne (Ja4.1 e))]
    exact k1
   have hge:∀g∈gs,Go.Sort.ltStr (nmL g.1) (nmL r.name)=false:=fun g hg=> by
    obtain ⟨k1,k2⟩:=ih.rows g hg
    obtain ⟨q,hq⟩:=List.exists_mem_of_ne_nil _ k2
    rw [k1] at hq
    obtain ⟨q1,q2⟩:=List.mem_filter.1 hq
    rw [← Ja4.1 q2]
    exact h1 q q1
   cases gs with
   | nil=>
     have hl:l= []:=List.eq_nil_iff_forall_not_mem.2 fun q hq=> by obtain ⟨g,hg,_⟩:=ih.all q hq;cases hg
     subst hl
     refine ⟨List.pairwise_singleton _ _,fun g hg=> ?_,fun q hq=> ?_⟩
     ·rw [List.mem_singleton.1 hg]
      refine ⟨?_,List.cons_ne_nil _ _⟩
      rw [List.filter_cons,if_pos (Ja4.2 rfl)]
      rfl
     ·exact ⟨_, .head _,by rw [List.mem_singleton.1 hq]⟩
   | cons g t=>
     obtain ⟨s,L⟩:=g
     show GOk (r::l) (if kS s r.name then (s,r::L)::t else (r.name, [r])::(s,L)::t)
     obtain ⟨u1,u2⟩:=List.pairwise_cons.1 ih.up
     by_cases hs:kS s r.name=true
     ·rw [if_pos hs]
      have es:s=r.name:=Ja4.1 hs
      refine ⟨List.pairwise_cons.2 ⟨u1,u2⟩,fun g hg=> ?_,fun q hq=> ?_⟩
      ·rcases List.mem_cons.1 hg with rfl | hg
       ·refine ⟨?_,List.cons_ne_nil _ _⟩
        have:=(ih.rows (s,L) (.head _)).1
        rw [List.filter_cons,if_pos (by rw [Jmt];exact hs)]
        exact congrArg _ this
       ·refine hrow g (.tail _ hg) fun e=> ?_
        have:=u1 g hg
        rw [e,← es,Jhy] at this
        cases this
      ·rcases List.mem_cons.1 hq with rfl | hq
       ·exact ⟨_, .head _,es⟩
       ·obtain ⟨g,hg,e⟩:=ih.all q hq
        rcases List.mem_cons.1 hg with rfl | hg
        ·exact ⟨_, .head _,e⟩
        ·exact ⟨g, .tail _ hg,e⟩
     ·rw [if_neg hs]
      have hne:s≠r.name:=fun e=> hs (Ja4.2 e)
      have hlt:∀g∈(s,L)::t,Go.Sort.ltStr (nmL r.name) (nmL g.1)=true:=fun g hg=> by
       have hs0:=Jyn (hge (s,L) (.head _)) hne.symm
       rcases List.mem_cons.1 hg with rfl | hg
       ·exact hs0
       ·exact Go.Sort.swo_ltStr.trans _ _ _ hs0 (u1 g hg)
      have hno:∀g∈(s,L)::t,g.1≠r.name:=fun g hg e=> by
       have:=hlt g hg
       rw [e,Jhy] at this
       cases this
      refine ⟨List.pairwise_cons.2 ⟨hlt,ih.up⟩,fun g hg=> ?_,fun q hq=> ?_⟩
      ·rcases List.mem_cons.1 hg with rfl | hg
       ·refine ⟨?_,List.cons_ne_nil _ _⟩
        rw [List.filter_cons,if_pos (Ja4.2 rfl)]
        refine congrArg _ (List.filter_eq_nil_iff.2 fun q hq e=> ?_).symm
        obtain ⟨g,hg,e2⟩:=ih.all q hq
        exact hno g hg (e2.trans (Ja4.1 e))
       ·exact hrow g hg (hno g hg)
      ·rcases List.mem_cons.1 hq with rfl | hq
       ·exact ⟨_, .head _,rfl⟩
       ·obtain ⟨g,hg,e⟩:=ih.all q hq
        exact ⟨g, .tail _ hg,e⟩
end Go.Proofs.W

namespace Go.Proofs.W
open Go.Vl
set_option maxRecDepth 100000
def JL (r:Rul):PRul:=⟨r.conds,codeA r.act⟩
theorem JpS (m:Rul) (M:List Rul):∃L t,JM (m::M)=(m.name,L)::t:=by
 show ∃L t,JiL m (JM M)=(m.name,L)::t
 cases JM M with
 | nil=> exact ⟨_,_,rfl⟩
 | cons g t=>
   obtain ⟨s,L⟩:=g
   show ∃L' t',(if kS s m.name then (s,m::L)::t else (m.name, [m])::(s,L)::t)=(m.name,L')::t'
   by_cases h:kS s m.name=true
   ·rw [if_pos h,Ja4.1 h];exact ⟨_,_,rfl⟩
   ·rw [if_neg h];exact ⟨_,_,rfl⟩
def Jvp (s:ByteArray) (M:List Rul):Prop:=∀m∈M.head?,m.name≠s
theorem JkI {s:ByteArray} {M:List Rul} (hM:Jvp s M):∀ {L:List Rul},L≠ []→(∀r∈L,r.name=s)→JM (L++M)=(s,L)::JM M
 | [],h,_=> absurd rfl h
 | [r],_,h=> by
   show JiL r (JM M)=_
   have hr:=h r (.head _)
   cases M with
   | nil=> rw [← hr];rfl
   | cons m M=>
     obtain ⟨L,t,e⟩:=JpS m M
     rw [e]
     show (if kS m.name r.name then _ else _)=_
     rw [if_neg (fun k=> hM m (by simp) ((Ja4.1 k).trans hr)),hr]
 | r::q::L,_,h=> by
   have ih:=JkI hM (L:=q::L) (by simp) fun x hx=> h x (.tail _ hx)
   show JiL r (JM (q::L++M))=_
   rw [ih]
   show (if kS s r.name then _ else _)=_
   rw [if_pos (Ja4.2 (h r (.head _)).symm)]
def wholeN (a:Nat) (n:Int):Nat:=if a=1 then n.toNat||| 1073741824 else n.toNat
def JaI (a d:Nat) (x:Bool) (row:TRow) (rs:List PRul):List PEnt:=
 if row.num a < 0∨(a=1∧x=false)∨Jau a rs d= [] then [] else [⟨wholeN a (row.num a),Jau a rs d⟩]
def JbM (m:Nat) (row:TRow) (rs:List PRul):List PSub:=if row.mux=(m:Int)+1 then [⟨row.sub.toNat,(rs.getD 0 ⟨[],0⟩).code⟩] else []
def Jbk (p:Pol) (l:List TRow) (gs:List (ByteArray×List Rul)) (a:Nat):List PEnt:=gs.flatMap fun g=> JaI a (codeA p.dflt) p.x32 (JaK l g.1) (g.2.map JL)
def Jce (l:List TRow) (gs:List (ByteArray×List Rul)) (m:Nat):List PSub:=gs.flatMap fun g=> JbM m (JaK l g.1) (g.2.map JL)
theorem JrY (p:Pol) (l:List TRow) (gs:List (ByteArray×List Rul)) (g:ByteArray×List Rul) (a:Nat):Jbk p l (gs++ [g]) a=Jbk p l gs a++JaI a (codeA p.dflt) p.x32 (JaK l g.1) (g.2.map JL):=by
 unfold Jbk;rw [List.flatMap_append];simp
theorem JrZ (l:List TRow) (gs:List (ByteArray×List Rul)) (g:ByteArray×List Rul) (m:Nat):Jce l (gs++ [g]) m=Jce l gs m++JbM m (JaK l g.1) (g.2.map JL):=by
 unfold Jce;rw [List.flatMap_append];simp
def Jb2 (s:ByteArray) (l:List Rul):List Rul:=l.takeWhile fun r=> kS r.name s
theorem Jmu (s:ByteArray):∀(l:List Rul),∀r∈Jb2 s l,r.name=s
 | [],r,hr=> by cases hr
 | q::l,r,hr=> by
   unfold Jb2 at hr
   rw [List.takeWhile_cons] at hr
   by_cases h:kS q.name s=true
   ·rw [if_pos h] at hr
    rcases List.mem_cons.1 hr with rfl | hr
    ·exact Ja4.1 h
    ·exact Jmu s l r hr
   ·rw [if_neg h] at hr;cases hr
theorem Jvq (s:ByteArray) (l:List Rul):Jvp s (l.drop (Jb2 s l).length):=by
 unfold Jb2 Jvp
 induction l with
 | nil=> intro m hm;simp at hm
 | cons r l ih=>
   rw [List.takeWhile_cons]
   by_cases h:kS r.name s=true
   ·rw [if_pos h];simpa using ih
   ·rw [if_neg h]
    intro m hm
    obtain rfl:r=m:=by simpa using hm
    exact fun e=> h (Ja4.2 e)
end Go.Proofs.W

namespace Go.Proofs.W
open Go.Vl
set_option maxRecDepth 100000
theorem JgP {α:Type} {key:α→Nat}:∀ {l m:List α},l.Perm m→l.Pairwise (fun a b=> key a≤key b)→m.Pairwise (fun a b=> key a≤key b)→(l.map key).Nodup→l=m
 | [],m,hp,_,_,_=> (List.nil_perm.1 hp).symm
 | a::l, [],hp,_,_,_=> by cases hp.length_eq
 | a::l,b::m,hp,h1,h2,hn=> by
   obtain ⟨a1,a2⟩:=List.pairwise_cons.1 h1
   obtain ⟨b1,b2⟩:=List.pairwise_cons.1 h2
   have hb:b∈a::l:=hp.mem_iff.2 (.head _)
   have ha:a∈b::m:=hp.mem_iff.1 (.head _)
   have e:a=b:=by
    rcases List.mem_cons.1 hb with h | h
    ·exact h.symm
    ·rcases List.mem_cons.1 ha with k | k
     ·exact k
     ·have:=a1 b h
      have:=b1 a k
      have hk:key a=key b:=by omega
      rw [List.map_cons,List.nodup_cons] at hn
      exact absurd (hk ▸ List.mem_map_of_mem h) hn.1
   subst e
   rw [JgP ((List.perm_cons a).1 hp) a2 b2 (List.nodup_cons.1 hn).2]
def Jfi (l:List PEnt):List PEnt:=l.mergeSort fun a b=> decide (a.num≤b.num)
def JiM (l:List PSub):List PSub:=l.mergeSort fun a b=> decide (a.num≤b.num)
theorem JfL (l:List PEnt):(Jfi l).Perm l:=List.mergeSort_perm _ _
theorem JfM (l:List PSub):(JiM l).Perm l:=List.mergeSort_perm _ _
theorem JoJ (l:List PEnt):(Jfi l).Pairwise fun a b=> a.num≤b.num:=
 (List.pairwise_mergeSort (le:=fun a b:PEnt=> decide (a.num≤b.num)) (fun a b c h1 h2=> decide_eq_true (Nat.le_trans (of_decide_eq_true h1) (of_decide_eq_true h2))) (fun a b=> by simpa using Nat.le_total a.num b.num) l).imp fun h=> of_decide_eq_true h
theorem JoK (l:List PSub):(JiM l).Pairwise fun a b=> a.num≤b.num:=
 (List.pairwise_mergeSort (le:=fun a b:PSub=> decide (a.num≤b.num)) (fun a b c h1 h2=> decide_eq_true (Nat.le_trans (of_decide_eq_true h1) (of_decide_eq_true h2))) (fun a b=> by simpa using Nat.le_total a.num b.num) l).imp fun h=> of_decide_eq_true h
theorem Jqs {l:List TRow} (h:(JbR l).2=0) {a i j:Nat} (ha:a < 5) (hi:i < l.length) (hj:j < l.length) (h0:0≤(l.getD i trow0).num a) (e:(l.getD j trow0).num a=(l.getD i trow0).num a):i=j:=by
 have key:∀i j,i < l.length→j < i→0≤(l.getD i trow0).num a→(l.getD j trow0).num a=(l.getD i trow0).num a→False:=fun i j hi hji h0 e=> by
  have hc:=(Jgf ((JeC h).2 i hi)).2.2.2.2.2
  unfold Jcq at hc
  rw [List.any_eq_false] at hc
  have:=hc (l.getD j trow0) (by
   rw [show l.getD j trow0=(l.take i)[j]'(by rw [List.length_take];omega) by simp [List.getD,show j < l.length by omega]]
   exact List.getElem_mem _)
  apply this
  rw [Bool.or_eq_true]
  left
  unfold JdZ
  refine List.any_eq_true.2 ⟨a, ?_, ?_⟩
  ·rcases (by omega:a=0∨a=1∨a=2∨a=3∨a=4) with rfl | rfl | rfl | rfl | rfl <;> simp
  ·rw [decide_eq_true h0,decide_eq_true e];rfl
 rcases Nat.lt_trichotomy i j with q | q | q
 ·exact (key j i hj q (by rw [e];exact h0) e.symm).elim
 ·exact q
 ·exact (key i j hi q h0 e).elim
theorem Jqt {l:List TRow} (h:(JbR l).2=0) {i j:Nat} (hi:i < l.length) (hj:j < l.length) (h0:0 < (l.getD i trow0).mux) (e:(l.getD j trow0).mux=(l.getD i trow0).mux) (e2:(l.getD j trow0).sub=(l.getD i trow0).sub):i=j:=by
 have key:∀i j,i < l.length→j < i→0 < (l.getD i trow0).mux→(l.getD j trow0).mux=(l.getD i trow0).mux→(l.getD j trow0).sub=(l.getD i trow0).sub→False:=fun i j hi hji h0 e e2=> by
  have hc:=(Jgf ((JeC h).2 i hi)).2.2.2.2.2
  unfold Jcq at hc
  rw [List.any_eq_false] at hc
  have:=hc (l.getD j trow0) (by
   rw [show l.getD j trow0=(l.take i)[j]'(by rw [List.length_take];omega) by simp [List.getD,show j < l.length by omega]]
   exact List.getElem_mem _)
  apply this
  rw [Bool.or_eq_true]
  right
  unfold Jdu
  rw [decide_eq_true h0,decide_eq_true e,decide_eq_true e2];rfl
 rcases Nat.lt_trichotomy i j with q | q | q
 ·exact (key j i hj q (by rw [e];exact h0) e.symm e2.symm).elim
 ·exact q
 ·exact (key i j hi q h0 e e2).elim
end Go.Proofs.W

namespace Go.Proofs.W
open Go.Vl
set_option maxRecDepth 100000
theorem JdN {a:Nat} {z:Int} (h0:0≤z) (h1:z < 1073741824):wholeN a z=if a=1 then z.toNat+1073741824 else z.toNat:=by
 unfold wholeN
 split
 ·have h:z.toNat < 2 ^ 30:=by omega
  have:=Nat.two_pow_add_eq_or_of_lt h 1
  rw [Nat.mul_one] at this
  rw [Nat.or_comm,show (1073741824:Nat)=2 ^ 30 by decide,← this];omega
 ·rfl
theorem Jeo {l:List TRow} (h:(JbR l).2=0) {i a:Nat} (hi:i < l.length):(l.getD i trow0).num a < 1073741824∧-1≤(l.getD i trow0).num a:=by
 have:=(Jgf ((JeC h).2 i hi)).2.2.1
 generalize l.getD i trow0=r at this
 unfold Jey at this
 rw [List.any_eq_false] at this
 have hb:∀n∈ [r.a0,r.a1,r.a2,r.a3,r.a4],n < 1073741824∧-1≤n:=fun n hn=> by
  have:=this n hn
  unfold Jcz at this
  simp only [Bool.or_eq_true,decide_eq_true_eq,not_or] at this
  omega
 match a with
 | 0=> exact hb r.a0 (by simp)
 | 1=> exact hb r.a1 (by simp)
 | 2=> exact hb r.a2 (by simp)
 | 3=> exact hb r.a3 (by simp)
 | a+4=> exact hb r.a4 (by simp)
theorem Je0 {l:List TRow} (h:(JbR l).2=0) {i:Nat} (hi:i < l.length):((l.getD i trow0).mux=0∨(l.getD i trow0).mux=1∨(l.getD i trow0).mux=2)∧0≤(l.getD i trow0).sub∧(l.getD i trow0).sub≤255:=by
 have:=(Jgf ((JeC h).2 i hi)).2.2.2.1
 unfold Jbf at this
 simp only [Bool.or_eq_false_iff,Bool.and_eq_false_iff,decide_eq_false_iff_not] at this
 omega
def JoL (l:List TRow) (s:ByteArray):Prop:=∃i,i < l.length∧JaK l s=l.getD i trow0∧(l.getD i trow0).name=s
theorem Jmv {a d:Nat} {x:Bool} {row:TRow} {rs:List PRul} {e:PEnt} (h:e∈JaI a d x row rs):¬row.num a < 0∧e.num=wholeN a (row.num a):=by
 unfold JaI at h
 split at h
 ·cases h
 ·rename_i q
  rw [List.mem_singleton.1 h]
  exact ⟨fun k=> q (.inl k),rfl⟩
theorem Jmw {m:Nat} {row:TRow} {rs:List PRul} {e:PSub} (h:e∈JbM m row rs):row.mux=(m:Int)+1∧e.num=row.sub.toNat:=by
 unfold JbM at h
 split at h
 ·rename_i q
  rw [List.mem_singleton.1 h]
  exact ⟨q,rfl⟩
 ·cases h
theorem JtO {a d:Nat} {x:Bool} {row:TRow} {rs:List PRul}:((JaI a d x row rs).map (·.num)).Nodup:=by
 unfold JaI
 split
 ·exact List.nodup_nil
 ·simp
theorem JtP {m:Nat} {row:TRow} {rs:List PRul}:((JbM m row rs).map (·.num)).Nodup:=by
 unfold JbM
 split
 ·simp
 ·exact List.nodup_nil
theorem Jhz {p:Pol} {l:List TRow} (ht:(JbR l).2=0) {a:Nat} (ha:a < 5):∀ {gs:List (ByteArray×List Rul)},(gs.Pairwise fun x y=> x.1≠y.1)→(∀g∈gs,JoL l g.1)→((Jbk p l gs a).map (·.num)).Nodup
 | [],_,_=> List.nodup_nil
 | g::gs,h1,h2=> by
   obtain ⟨q1,q2⟩:=List.pairwise_cons.1 h1
   have ih:=Jhz (p:=p) ht ha q2 fun g hg=> h2 g (.tail _ hg)
   show (((JaI a (codeA p.dflt) p.x32 (JaK l g.1) (g.2.map JL))++Jbk p l gs a).map (·.num)).Nodup
   rw [List.map_append,List.nodup_append]
   refine ⟨JtO,ih,fun n hn n' hn'=> ?_⟩
   rintro rfl
   obtain ⟨e,he,rfl⟩:=List.mem_map.1 hn
   obtain ⟨e',he',hee⟩:=List.mem_map.1 hn'
   unfold Jbk at he'
   obtain ⟨g',hg',he'⟩:=List.mem_flatMap.1 he'
   obtain ⟨i,hi,r1,n1⟩:=h2 g (.head _)
   obtain ⟨j,hj,r2,n2⟩:=h2 g' (.tail _ hg')
   obtain ⟨k1,k2⟩:=Jmv he
   obtain ⟨k3,k4⟩:=Jmv he'
   rw [r1] at k1 k2
   rw [r2] at k3 k4
   have b1:=Jeo ht (a:=a) hi
   have b2:=Jeo ht (a:=a) hj
   rw [k2,k4,JdN Om b2.1,JdN Om b1.1] at hee
   have hnum:(l.getD j trow0).num a=(l.getD i trow0).num a:=by
    split at hee <;> omega
   have:=Jqs ht ha hi hj Om hnum
   subst this
   exact q1 g' hg' (n1.symm.trans n2)
theorem JhA {l:List TRow} (ht:(JbR l).2=0) {m:Nat}:∀ {gs:List (ByteArray×List Rul)},(gs.Pairwise fun x y=> x.1≠y.1)→(∀g∈gs,JoL l g.1)→((Jce l gs m).map (·.num)).Nodup
 | [],_,_=> List.nodup_nil
 | g::gs,h1,h2=> by
   obtain ⟨q1,q2⟩:=List.pairwise_cons.1 h1
   have ih:=JhA ht (m:=m) q2 fun g hg=> h2 g (.tail _ hg)
   show (((JbM m (JaK l g.1) (g.2.map JL))++Jce l gs m).map (·.num)).Nodup
   rw [List.map_append,List.nodup_append]
   refine ⟨JtP,ih,fun n hn n' hn'=> ?_⟩
   rintro rfl
   obtain ⟨e,he,rfl⟩:=List.mem_map.1 hn
   obtain ⟨e',he',hee⟩:=List.mem_map.1 hn'
   unfold Jce at he'
   obtain ⟨g',hg',he'⟩:=List.mem_flatMap.1 he'
   obtain ⟨i,hi,r1,n1⟩:=h2 g (.head _)
   obtain ⟨j,hj,r2,n2⟩:=h2 g' (.tail _ hg')
   obtain ⟨k1,k2⟩:=Jmw he
   obtain ⟨k3,k4⟩:=Jmw he'
   rw [r1] at k1 k2
   rw [r2] at k3 k4
   have b1:=Je0 ht hi
   have b2:=Je0 ht hj
   have:=Jqt ht hi hj Om Om Om
   subst this
   exact q1 g' hg' (n1.symm.trans n2)
end Go.Proofs.W

namespace Go.Proofs
open Go.Shelf
shelf_lay LaysM.n171 Nm 171 at Tryz as Tryz.laysM171
end Go.Proofs
namespace Go.Proofs.W
open Go.Vl Go.Shelf Go.RowKit
set_option maxRecDepth 100000
theorem Jqu {w : World} (h : Kn w none2) : Lib.TabIs Tryz.prog w "internal/strconv.uint64pow10" .u64 Lib.pow10Tab := by
 obtain ⟨⟨e,fz,h1⟩,_⟩:=h (1,(Go.Lib.pow10Tab.map fun z=> Value.int .u64 z).toArray) (by unfold Juw;exact List.mem_cons_self)
 unfold Lib.TabIs World.var?
 rw [show Tryz.prog.globalNamed "internal/strconv.uint64pow10" = some 1 from by kernel_rfl]
 simp only [Option.bind_some]
 rw [h1]
theorem JtQ {W : World} (h : Lib.TabIs Tryz.prog W "internal/strconv.uint64pow10" .u64 Lib.pow10Tab) : Kn W none2 := by
 unfold Lib.TabIs World.var? at h
 rw [show Tryz.prog.globalNamed "internal/strconv.uint64pow10" = some 1 from by kernel_rfl, Option.bind_some] at h
 intro p hp
 unfold Juw at hp
 obtain rfl:=List.mem_singleton.1 hp
 refine ⟨?_,fun _ h=> h⟩
 split at h
 ·rename_i cs e fz hb
  cases h
  exact ⟨_,_,hb⟩
 ·cases h
theorem Jjn (w:World):∀n,Below w.heap.size w (w.drewN n)
 | 0=> Below.refl _ _
 | n+1=> (Jjn w n).drew
theorem JpT (w:World) (k:Nat) (os:Array Obj):Below w.heap.size w (Sort.grow (w.drewN k) os):=by
 have h:=Jjn w k
 refine ⟨h.os,h.tape,h.output,Nat.le_trans h.size (by simp [Sort.grow]),fun j hj=> ?_⟩
 rw [Sort.heap_grow_old _ _ (Nat.lt_of_lt_of_le hj h.size)]
 exact h.block j hj
def Jdi (n:Nat):ByteArray:=⟨(Lib.decDigits n).toArray⟩
theorem Jvr (n:Nat):Lib.itoa (n:Int)=Lib.decDigits n:=by
 unfold Lib.itoa
 rw [if_neg Om]
 rfl
theorem JtR (n:Nat) (hn:n≤9223372036854775807):Tells Tryz.prog 173 [int n] (Jg (Jdi n)):=
 Jdk (vs:= [.int .i64 n]) ⟨_,Tryz.func173,rfl,rfl⟩ fun w hk=> (Any.strconv_Itoa Tryz.laysM171 n Om Om w (Jqu hk)).mono fun e w' ⟨h1,k,os,h2⟩=> ⟨by rw [h1,Jvr];rfl,by rw [h2];exact JpT w k os⟩
end Go.Proofs.W

namespace Go.Proofs.W
open Go.Vl
set_option maxRecDepth 100000
abbrev Bts:=List UInt8
theorem Jec {x:UInt8}:∀ {a b r s:Bts},x∉a→x∉b→a++x::r=b++x::s→a=b∧r=s
 | [], [],r,s,_,_,h=> ⟨rfl,(List.cons.inj h).2⟩
 | [],y::b,r,s,_,hb,h=> absurd (List.mem_cons.2 (.inl (List.cons.inj h).1)) hb
 | y::a, [],r,s,ha,_,h=> absurd (List.mem_cons.2 (.inl (List.cons.inj h).1.symm)) ha
 | y::a,z::b,r,s,ha,hb,h=> by
   obtain ⟨h1,h2⟩:=List.cons.inj h
   obtain ⟨h3,h4⟩:=Jec (fun q=> ha (List.mem_cons_of_mem _ q)) (fun q=> hb (List.mem_cons_of_mem _ q)) h2
   exact ⟨by rw [h1,h3],h4⟩
def JxQ (l:Bts):Nat:=l.foldl (fun v b=> 10 * v+(b.toNat - 48)) 0
theorem JiN {n:Nat} (h:n < 10):(UInt8.ofNat (48+n)).toNat=48+n:=by
 rw [UInt8.toNat_ofNat']
 exact Nat.mod_eq_of_lt Om
theorem Jqv:∀n:Nat,JxQ (Lib.decDigits n)=n:=by
 intro n
 induction n using Nat.strongRecOn with
 | ind n ih=>
   rw [Lib.decDigits]
   split
   ·rename_i h
    show 10 * 0+((UInt8.ofNat (48+n)).toNat - 48)=n
    rw [JiN h]
    omega
   ·have:=ih (n / 10) Om
    unfold JxQ at this⊢
    rw [List.foldl_append,this]
    show 10 * (n / 10)+((UInt8.ofNat (48+n % 10)).toNat - 48)=n
    rw [JiN (Nat.mod_lt _ Dc)]
    omega
theorem JiO {m n:Nat} (h:Lib.decDigits m=Lib.decDigits n):m=n:=by rw [← Jqv m,h,Jqv]
theorem JwS:∀ {n:Nat} {b:UInt8},b∈Lib.decDigits n→48≤b.toNat∧b.toNat≤57:=by
 intro n
 induction n using Nat.strongRecOn with
 | ind n ih=>
   intro b hb
   rw [Lib.decDigits] at hb
   split at hb
   ·rename_i h
    rw [List.mem_singleton.1 hb,JiN h]
    omega
   ·rcases List.mem_append.1 hb with h | h
    ·exact ih (n / 10) Om h
    ·rw [List.mem_singleton.1 h,JiN (Nat.mod_lt _ Dc)]
     have:=Nat.mod_lt n (by decide:0 < 10)
     omega
theorem Jig {n:Nat} {b:UInt8} (h:b.toNat < 48∨57 < b.toNat):b∉Lib.decDigits n:=fun q=> by
 have:=JwS q
 omega
def opsT:List Bts:= [[61,61], [33,61], [60], [60,61], [62], [62,61], [38]]
def opT (k:Nat):Bts:=opsT.getD k []
def Jaq (c:Cnd):Bts:= [97]++(Lib.decDigits c.arg.toNat++32::(opT (c.op.toNat - 1)++32::(if c.op=7 then Lib.decDigits c.mask++32::(61::61::32::Lib.decDigits c.value) else Lib.decDigits c.value)))
theorem JoM:∀k:Nat,k < 7→(32:UInt8)∉opT k∧(59:UInt8)∉opT k:=by decide
theorem JwT:∀j:Nat,j < 7→∀k:Nat,k < 7→opT j=opT k→j=k:=by decide
theorem Jmx {c d:Cnd} (hc:JU c=true) (hd:JU d=true) (h:Jaq c=Jaq d):c=d:=by
 obtain ⟨a1,a2,a3,a4,a5⟩:=JbX.1 hc
 obtain ⟨b1,b2,b3,b4,b5⟩:=JbX.1 hd
 unfold Jaq at h
 obtain ⟨_,h⟩:=List.cons.inj h
 obtain ⟨h1,h⟩:=Jec (Jig Dc) (Jig Dc) h
 obtain ⟨h2,h⟩:=Jec (JoM _ Om).1 (JoM _ Om).1 h
 have e1:c.arg=d.arg:=by have:=JiO h1;omega
 have e2:c.op=d.op:=by have:=JwT _ Om _ Om h2;omega
 obtain ⟨carg,cop,cm,cv⟩:=c
 obtain ⟨darg,dop,dm,dv⟩:=d
 dsimp only at *
 subst e1;subst e2
 by_cases h7:cop=7
 ·rw [if_pos h7,if_pos h7] at h
  obtain ⟨h3,h⟩:=Jec (Jig Dc) (Jig Dc) h
  have h4:=(List.cons.inj (List.cons.inj (List.cons.inj h).2).2).2
  rw [JiO h3,JiO h4]
 ·rw [if_neg h7,if_neg h7] at h
  rw [JiO h]
  have q1:cm=0:=a5.resolve_left h7
  have q2:dm=0:=b5.resolve_left h7
  rw [q1,q2]
theorem Jvs {c:Cnd} (hc:JU c=true):(59:UInt8)∉Jaq c:=by
 obtain ⟨a1,a2,a3,a4,a5⟩:=JbX.1 hc
 have hd:∀n:Nat,(59:UInt8)∉Lib.decDigits n:=fun n=> Jig Dc
 have ho:=(JoM (c.op.toNat - 1) Om).2
 unfold Jaq
 split
 ·simp [hd,ho]
 ·simp [hd,ho]
theorem JoN (c:Cnd):Jaq c≠ []:=List.cons_ne_nil _ _
def JeH (x:UInt8):List Bts→Bts
 | []=> []
 | [a]=> a
 | a::b::l=> a++x::JeH x (b::l)
theorem Jcf {x:UInt8} {a:Bts} {l:List Bts} (h:l≠ []):JeH x (a::l)=a++x::JeH x l:=by
 cases l with
 | nil=> exact absurd rfl h
 | cons b l=> rfl
theorem Jmy {x:UInt8}:∀ {l m:List Bts},(∀a∈l,x∉a∧a≠ [])→(∀a∈m,x∉a∧a≠ [])→JeH x l=JeH x m→l=m
 | [], [],_,_,_=> rfl
 | [],b::m,_,hm,h=> by
   exfalso
   have hb:=(hm b (.head _)).2
   cases m with
   | nil=> exact hb h.symm
   | cons c m=> rw [Jcf (List.cons_ne_nil _ _)] at h;exact hb (List.append_eq_nil_iff.1 h.symm).1
 | a::l, [],hl,_,h=> by
   exfalso
   have ha:=(hl a (.head _)).2
   cases l with
   | nil=> exact ha h
   | cons c l=> rw [Jcf (List.cons_ne_nil _ _)] at h;exact ha (List.append_eq_nil_iff.1 h).1
 | a::l,b::m,hl,hm,h=> by
   have ha:=(hl a (.head _)).1
   have hb:=(hm b (.head _)).1
   cases l with
   | nil=>
     cases m with
     | nil=> rw [show a=b from h]
     | cons c m=>
       exfalso
       rw [Jcf (l:=c::m) (List.cons_ne_nil _ _)] at h
       exact ha (by rw [show a=b++x::JeH x (c::m) from h];simp)
   | cons c l=>
     cases m with
     | nil=>
       exfalso
       rw [Jcf (l:=c::l) (List.cons_ne_nil _ _)] at h
       exact hb (by rw [← show a++x::JeH x (c::l)=b from h];simp)
     | cons d m=>
       rw [Jcf (List.cons_ne_nil _ _),Jcf (List.cons_ne_nil _ _)] at h
       obtain ⟨h1,h2⟩:=Jec ha hb h
       rw [h1,Jmy (fun q hq=> hl q (.tail _ hq)) (fun q hq=> hm q (.tail _ hq)) h2]
end Go.Proofs.W

namespace Go.Proofs.W
open Go.Vl
set_option maxRecDepth 100000
def cUs (d:Array Bts):Nat→List Bts
 | 0=> []
 | m+1=> if m=0∨d[m]! ≠d[m - 1]! then cUs d m++ [d[m]!] else cUs d m
theorem JoO (d:Array Bts):∀m,(cUs d m).length≤m
 | 0=> Nat.le_refl _
 | m+1=> by
   have:=JoO d m
   unfold cUs
   split
   ·simp;omega
   ·omega
theorem JoP {d:Array Bts}:∀ {m:Nat},m≤d.size→(∀i j,i < j→j < m→Go.Sort.ltStr d[j]! d[i]! =false)→(cUs d m).Pairwise RSb∧∀x,x∈cUs d m↔∃j,j < m∧d[j]! =x
 | 0,_,_=> ⟨List.Pairwise.nil,fun x=> by simp [cUs]⟩
 | m+1,hm,hs=> by
   obtain ⟨h1,h2⟩:=JoP (m:=m) Om fun i j a b=> hs i j a Om
   by_cases hc:m=0∨d[m]! ≠d[m - 1]!
   ·rw [cUs,if_pos hc]
    refine ⟨?_,fun x=> ?_⟩
    ·rw [List.pairwise_append]
     refine ⟨h1,List.pairwise_singleton _ _,fun a ha b hb=> ?_⟩
     rw [List.mem_singleton] at hb
     subst hb
     obtain ⟨j,hj,rfl⟩:=(h2 a).1 ha
     cases hlt:Go.Sort.ltStr d[j]! d[m]! with
     | true=> exact hlt
     | false=>
       exfalso
       have h3:=hs (m - 1) m Om Om
       have h4:Go.Sort.ltStr d[m - 1]! d[m]! =false:=by
        rcases Nat.lt_or_ge j (m - 1) with q | q
        ·exact Go.Sort.swo_ltStr.ntrans _ _ _ (hs j (m - 1) q Om) hlt
        ·rw [show m - 1=j by omega];exact hlt
       rcases hc with hc | hc
       ·omega
       ·exact hc (Jkn _ _ h3 h4)
    ·rw [List.mem_append,h2,List.mem_singleton]
     constructor
     ·rintro (⟨j,hj,rfl⟩ | rfl)
      ·exact ⟨j,by omega,rfl⟩
      ·exact ⟨m,by omega,rfl⟩
     ·rintro ⟨j,hj,rfl⟩
      rcases Nat.lt_or_ge j m with q | q
      ·exact .inl ⟨j,q,rfl⟩
      ·exact .inr (by rw [show j=m by omega])
   ·rw [cUs,if_neg hc]
    refine ⟨h1,fun x=> ?_⟩
    rw [h2]
    constructor
    ·rintro ⟨j,hj,rfl⟩;exact ⟨j,by omega,rfl⟩
    ·rintro ⟨j,hj,rfl⟩
     rcases Nat.lt_or_ge j m with q | q
     ·exact ⟨j,q,rfl⟩
     ·have hj':j=m:=by omega
      subst hj'
      have:j≠0:=fun h=> hc (.inl h)
      exact ⟨j - 1,by omega,by by_cases he:d[j]! =d[j - 1]!;exact he.symm;exact absurd (.inr he) hc⟩
def JfN (l:List Bts):List Bts:=JaH Go.Sort.ltStr l
def Jcw (l:List Bts):List Bts:=cUs (JfN l).toArray (JfN l).length
theorem JbE (l:List Bts):(Jcw l).Pairwise RSb∧∀x,x∈Jcw l↔x∈l:=by
 have hp:=Jff Go.Sort.swo_ltStr l
 have hm:∀x,x∈JfN l↔x∈l:=fun x=> Jhq
 unfold Jcw
 have hp':(JfN l).Pairwise fun a b=> Go.Sort.ltStr b a=false:=hp
 generalize JfN l=S at hm hp'
 obtain ⟨h1,h2⟩:=JoP (d:=S.toArray) (m:=S.length) (by simp) fun i j hij hj=> by
  have hi:i < S.length:=by omega
  have:=List.pairwise_iff_getElem.1 hp' i j hi hj hij
  simpa [hi,hj] using this
 refine ⟨h1,fun x=> (h2 x).trans ?_⟩
 rw [← hm,List.mem_iff_getElem]
 constructor
 ·rintro ⟨j,hj,rfl⟩
  exact ⟨j,hj,by simp [hj]⟩
 ·rintro ⟨j,hj,rfl⟩
  exact ⟨j,hj,by simp [hj]⟩
def JgQ (cs:List Cnd):Bts:=JeH 59 (Jcw (cs.map Jaq))
theorem JkJ {cs:List Cnd} (h:∀c∈cs,JU c=true):∀a∈Jcw (cs.map Jaq),(59:UInt8)∉a∧a≠ []:=fun a ha=> by
 obtain ⟨c,hc,rfl⟩:=List.mem_map.1 (((JbE _).2 a).1 ha)
 exact ⟨Jvs (h c hc),JoN c⟩
theorem JoQ {cs ds:List Cnd} (hc:∀c∈cs,JU c=true) (hd:∀c∈ds,JU c=true):JgQ cs=JgQ ds↔∀c,c∈cs↔c∈ds:=by
 constructor
 ·intro h c
  have e:=Jmy (JkJ hc) (JkJ hd) h
  have hm:∀x,x∈cs.map Jaq↔x∈ds.map Jaq:=fun x=> by rw [← (JbE _).2,e,(JbE _).2]
  constructor
  ·intro q
   obtain ⟨d,hd1,hd2⟩:=List.mem_map.1 ((hm (Jaq c)).1 (List.mem_map_of_mem q))
   rw [← Jmx (hd d hd1) (hc c q) hd2]
   exact hd1
  ·intro q
   obtain ⟨d,hd1,hd2⟩:=List.mem_map.1 ((hm (Jaq c)).2 (List.mem_map_of_mem q))
   rw [← Jmx (hc d hd1) (hd c q) hd2]
   exact hd1
 ·intro h
  unfold JgQ
  refine congrArg _ (Jkw (JbE _).1 (JbE _).1 fun z=> ?_)
  rw [(JbE _).2,(JbE _).2,List.mem_map,List.mem_map]
  exact ⟨fun ⟨c,q1,q2⟩=> ⟨c,(h c).1 q1,q2⟩,fun ⟨c,q1,q2⟩=> ⟨c,(h c).2 q1,q2⟩⟩
theorem JjK {cs:List Cnd}:JgQ cs= []↔cs= []:=by
 constructor
 ·intro h
  cases cs with
  | nil=> rfl
  | cons c cs=>
    exfalso
    have hm:=((JbE ((c::cs).map Jaq)).2 (Jaq c)).2 (by simp)
    unfold JgQ at h
    have hne:∀a∈Jcw ((c::cs).map Jaq),a≠ []:=fun a ha=> by
     obtain ⟨d,_,rfl⟩:=List.mem_map.1 (((JbE _).2 a).1 ha)
     exact JoN d
    generalize Jcw ((c::cs).map Jaq)=L at h hm hne
    cases L with
    | nil=> cases hm
    | cons a L=>
      cases L with
      | nil=> exact hne a (.head _) h
      | cons b L=>
        rw [Jcf (List.cons_ne_nil _ _)] at h
        exact hne a (.head _) (List.append_eq_nil_iff.1 h).1
 ·rintro rfl
  have h:Jcw (([]:List Cnd).map Jaq)= []:=List.eq_nil_iff_forall_not_mem.2 fun x hx=> by cases ((JbE _).2 x).1 hx
  unfold JgQ
  rw [h]
  rfl
end Go.Proofs.W

namespace Go.Proofs.W
open Go.Vl
set_option maxRecDepth 100000
def JcA (c:Cnd):Bool:=decide (c.op=7)&& decide (Jhn c.value c.mask≠0)
def JeI (a b:List Cnd):Bool:=(a.all fun c=> decide (c∈b))&& b.all fun c=> decide (c∈a)
def Jcu (r q:Rul):Bool:=kS q.name r.name&& (decide (q.conds.length=0)|| JeI q.conds r.conds)
def Jbr (l:List TRow) (rs:List Rul) (i:Nat):Int:=if JaD l (rs.getD i rul0).name=false then 14 else if (rs.getD i rul0).conds.any JcA=true then 16 else if (rs.take i).any (Jcu (rs.getD i rul0))=true then 15 else 0
def Jfu (l:List TRow) (rs:List Rul):Option Nat:=(List.range rs.length).find? fun i=> decide (Jbr l rs i≠0)
def JR (p:Pol) (l:List TRow):Int×Int:=if JaB p=false then (0,13) else if (JbR l).2≠0 then (0,18) else match Jfu l p.rules with
 | some i=> ((i:Int),Jbr l p.rules i)
 | none=> (0,0)
def JhB (r:Rul):Bts:=r.name.data.toList
def JhC (r:Rul):Bts:=JhB r++58::JgQ r.conds
theorem JwU {l:List UInt8} (h:Jag l=true):(58:UInt8)∉l:=fun q=> by
 unfold Jag at h
 simp only [Bool.and_eq_true] at h
 have:=List.all_eq_true.1 h.2.2.2.2.1 58 q
 revert this
 decide
theorem JgD {r:Rul} (h:J6 r=true):(58:UInt8)∉JhB r:=JwU (by
 unfold J6 at h
 simp only [Bool.and_eq_true] at h
 exact h.1)
theorem JdO {r:Rul} (h:J6 r=true):∀c∈r.conds,JU c=true:=fun c hc=> by
 unfold J6 at h
 simp only [Bool.and_eq_true] at h
 have:=h.2.2.2
 simp only [Bool.not_eq_true',List.any_eq_false] at this
 simpa using this c hc
theorem Jmz {a b:List Cnd}:JeI a b=true↔∀c,c∈a↔c∈b:=by
 unfold JeI
 simp only [Bool.and_eq_true,List.all_eq_true,decide_eq_true_eq]
 exact ⟨fun h c=> ⟨h.1 c,h.2 c⟩,fun h=> ⟨fun c=> (h c).1,fun c=> (h c).2⟩⟩
theorem JoR {q r:Rul} (hq:J6 q=true) (hr:J6 r=true):JhC q=JhC r↔kS q.name r.name=true∧JeI q.conds r.conds=true:=by
 unfold JhC
 constructor
 ·intro h
  obtain ⟨h1,h2⟩:=Jec (JgD hq) (JgD hr) h
  exact ⟨Ja4.2 (Jgw h1),Jmz.2 ((JoQ (JdO hq) (JdO hr)).1 h2)⟩
 ·rintro ⟨h1,h2⟩
  unfold JhB
  rw [Ja4.1 h1,(JoQ (JdO hq) (JdO hr)).2 (Jmz.1 h2)]
theorem JoS {q r:Rul} (hq:J6 q=true) (hr:J6 r=true):JhC q=JhB r++ [58]↔kS q.name r.name=true∧q.conds.length=0:=by
 unfold JhC
 constructor
 ·intro h
  obtain ⟨h1,h2⟩:=Jec (JgD hq) (JgD hr) h
  exact ⟨Ja4.2 (Jgw h1),List.length_eq_zero_iff.2 (JjK.1 h2)⟩
 ·rintro ⟨h1,h2⟩
  unfold JhB
  rw [Ja4.1 h1,JjK.2 (List.length_eq_zero_iff.1 h2)]
def JkK (rs:List Rul) (i:Nat):List Bts:=(rs.take i).map JhC
theorem JtS {rs:List Rul} (h:∀r∈rs,J6 r=true) {i:Nat} {r:Rul} (hr:J6 r=true):(JhB r++ [58]∈JkK rs i∨JhC r∈JkK rs i)↔(rs.take i).any (Jcu r)=true:=by
 unfold JkK
 rw [List.any_eq_true]
 constructor
 ·rintro (q | q)
  ·obtain ⟨x,hx,he⟩:=List.mem_map.1 q
   obtain ⟨k1,k2⟩:=(JoS (h x (List.mem_of_mem_take hx)) hr).1 he
   exact ⟨x,hx,by unfold Jcu;rw [k1,decide_eq_true k2];rfl⟩
  ·obtain ⟨x,hx,he⟩:=List.mem_map.1 q
   obtain ⟨k1,k2⟩:=(JoR (h x (List.mem_of_mem_take hx)) hr).1 he
   exact ⟨x,hx,by unfold Jcu;rw [k1,k2,Bool.or_true];rfl⟩
 ·rintro ⟨x,hx,he⟩
  unfold Jcu at he
  rw [Bool.and_eq_true,Bool.or_eq_true,decide_eq_true_iff] at he
  have hxr:=h x (List.mem_of_mem_take hx)
  rcases he with ⟨k1,k2 | k2⟩
  ·exact .inl (List.mem_map.2 ⟨x,hx,(JoS hxr hr).2 ⟨k1,k2⟩⟩)
  ·exact .inr (List.mem_map.2 ⟨x,hx,(JoR hxr hr).2 ⟨k1,k2⟩⟩)
theorem Jvt {l:List TRow} {rs:List Rul} {i:Nat} (hi:i < rs.length) (h:∀j,j < i→Jbr l rs j=0) (hv:Jbr l rs i≠0):Jfu l rs=some i:=by
 unfold Jfu
 rw [List.find?_eq_some_iff_getElem]
 refine ⟨by simpa using hv,i,by simpa using hi,by simp,fun j hj=> ?_⟩
 simp [h j hj]
theorem JkL {l:List TRow} {rs:List Rul} (h:∀j,j < rs.length→Jbr l rs j=0):Jfu l rs=none:=by
 unfold Jfu
 rw [List.find?_eq_none]
 intro j hj
 simp [h j (List.mem_range.1 hj)]
end Go.Proofs.W

namespace Go.Proofs.W
open Go.Vl
set_option maxRecDepth 100000
theorem Jak {p:Pol} {l:List TRow}:(JR p l).2=0↔JaB p=true∧(JbR l).2=0∧∀i,i < p.rules.length→Jbr l p.rules i=0:=by
 unfold JR
 by_cases h1:JaB p=false
 ·rw [if_pos h1]
  exact ⟨fun h=> absurd h Dc,fun h=> by rw [h1] at h;cases h.1⟩
 rw [if_neg h1]
 by_cases h2:(JbR l).2≠0
 ·rw [if_pos h2]
  exact ⟨fun h=> absurd h Dc,fun h=> absurd h.2.1 h2⟩
 rw [if_neg h2]
 constructor
 ·intro h
  refine ⟨by simpa using h1,by simpa using h2,fun i hi=> ?_⟩
  cases hf:Jfu l p.rules with
  | none=>
    unfold Jfu at hf
    have:=List.find?_eq_none.1 hf i (List.mem_range.2 hi)
    simpa using this
  | some j=>
    rw [hf] at h
    unfold Jfu at hf
    have:=List.find?_some hf
    exact absurd h (by simpa using this)
 ·rintro ⟨_,_,h⟩
  rw [JkL h]
theorem JmA {p:Pol} {l:List TRow} (h:(JR p l).2=0):JR p l=(0,0):=by
 obtain ⟨h1,h2,h3⟩:=Jak.1 h
 unfold JR
 rw [if_neg (by rw [h1];decide),if_neg Om,JkL h3]
theorem JmB {p:Pol} {l:List TRow} (h1:JaB p=true) (h2:(JbR l).2=0) {i:Nat} (hi:i < p.rules.length) (h3:∀j,j < i→Jbr l p.rules j=0) {v:Int} (h4:Jbr l p.rules i=v) (h5:v≠0):JR p l=((i:Int),v):=by
 unfold JR
 rw [if_neg (by rw [h1];decide),if_neg Om,Jvt hi h3 (by rw [h4];exact h5)]
 exact congrArg _ h4
theorem Jqw {l:List TRow} {rs:List Rul} {i:Nat}:Jbr l rs i=0↔JaD l (rs.getD i rul0).name=true∧(rs.getD i rul0).conds.any JcA=false∧(rs.take i).any (Jcu (rs.getD i rul0))=false:=by
 unfold Jbr
 by_cases h1:JaD l (rs.getD i rul0).name=false
 ·rw [if_pos h1];exact ⟨fun h=> absurd h Dc,fun h=> by rw [h1] at h;cases h.1⟩
 rw [if_neg h1]
 by_cases h2:(rs.getD i rul0).conds.any JcA=true
 ·rw [if_pos h2];exact ⟨fun h=> absurd h Dc,fun h=> by rw [h2] at h;cases h.2.1⟩
 rw [if_neg h2]
 by_cases h3:(rs.take i).any (Jcu (rs.getD i rul0))=true
 ·rw [if_pos h3];exact ⟨fun h=> absurd h Dc,fun h=> by rw [h3] at h;cases h.2.2⟩
 rw [if_neg h3]
 exact ⟨fun _=> ⟨by simpa using h1,by simpa using h2,by simpa using h3⟩,fun _=> rfl⟩
theorem JkM {p:Pol}:JaB p=true↔JaA p.dflt.1 p.dflt.2=true∧p.rules.length≤500∧∀r∈p.rules,J6 r=true:=by
 unfold JaB
 simp only [Bool.and_eq_true,decide_eq_true_eq,Bool.not_eq_true',List.any_eq_false,Bool.not_eq_false']
 exact ⟨fun h=> ⟨h.1,h.2.1,fun r hr=> by simpa using h.2.2 r hr⟩,fun h=> ⟨h.1,h.2.1,fun r hr=> by simpa using h.2.2 r hr⟩⟩
def sameV (r q:Rul):Prop:=r.name=q.name∧∀c,c∈r.conds↔c∈q.conds
theorem sameV.len {r q:Rul} (h:sameV r q):decide (r.conds.length=0)=decide (q.conds.length=0):=by
 have:r.conds.length=0↔q.conds.length=0:=by
  rw [List.length_eq_zero_iff,List.length_eq_zero_iff,List.eq_nil_iff_forall_not_mem,List.eq_nil_iff_forall_not_mem]
  exact ⟨fun k c hc=> k c ((h.2 c).2 hc),fun k c hc=> k c ((h.2 c).1 hc)⟩
 exact decide_eq_decide.2 this
end Go.Proofs.W

namespace Go.Proofs.W
open Go.Vl
set_option maxRecDepth 100000
theorem Jih {l:List TRow} {s:ByteArray} (h:JaD l s=true):JoL l s:=by
 have h1:JaK l s=l.getD (Ja5 l s) trow0:=if_pos h
 unfold JaD at h
 simp only [Bool.and_eq_true,decide_eq_true_eq] at h
 exact ⟨_,h.1,h1,JiE.1 h.2⟩
theorem JhD {p:Pol} {n:Rul} (h:n∈(Jc p).rules):∃r∈p.rules,JaF r=some n:=Jlt h
theorem JdP (p:Pol):JtN (Jc p).rules:=by
 show ((JcZ (J9 p.rules)).flatMap fun nm=> JbD p.dflt (JaO (J9 p.rules) ⟨nm.toArray⟩)).Pairwise _
 have hname:∀(z:List UInt8) (r:Rul),r∈JbD p.dflt (JaO (J9 p.rules) ⟨z.toArray⟩)→nmL r.name=z:=fun z r hr=> by
  have h:=JoG hr
  rw [Jd1] at h
  rw [(JiK h).1]
  unfold nmL
  simp
 rw [List.pairwise_flatMap]
 refine ⟨fun z _=> ?_,(Jjm (Jgh p.rules)).imp fun {a b} h x hx y hy=> ?_⟩
 ·refine List.pairwise_of_forall_mem_list fun x hx y hy=> ?_
  rw [hname z x hx,hname z y hy,Jhy]
 ·rw [hname a x hx,hname b y hy]
  cases hl:Go.Sort.ltStr b a with
  | false=> rfl
  | true=> exact absurd (Jwd _ _ _ h hl) (JtL _)
theorem JeJ {p:Pol}:(JM (Jc p).rules).Pairwise fun x y=> x.1≠y.1:=
 (Jdx (JdP p)).up.imp fun h e=> by rw [e,Jhy] at h;cases h
theorem JdQ {p:Pol} {l:List TRow} (h:∀r∈p.rules,JaD l r.name=true):∀g∈JM (Jc p).rules,JoL l g.1:=fun g hg=> by
 obtain ⟨k1,k2⟩:=(Jdx (JdP p)).rows g hg
 obtain ⟨q,hq⟩:=List.exists_mem_of_ne_nil _ k2
 rw [k1] at hq
 obtain ⟨q1,q2⟩:=List.mem_filter.1 hq
 obtain ⟨r,hr,hn⟩:=JhD q1
 rw [← Ja4.1 q2,(Jbg hn).2.1]
 exact Jih (h r hr)
theorem Jck {p:Pol} {l:List TRow} (h:(JR p l).2=0):∀r∈p.rules,JaD l r.name=true:=fun r hr=> by
 obtain ⟨_,_,h3⟩:=Jak.1 h
 obtain ⟨i,hi,rfl⟩:=List.getElem_of_mem hr
 have:=h3 i hi
 unfold Jbr at this
 rw [show p.rules.getD i rul0=p.rules[i] by simp [List.getD,hi]] at this
 cases hf:JaD l p.rules[i].name with
 | true=> rfl
 | false=> rw [if_pos hf] at this;cases this
def Jal (p:Pol) (l:List TRow):Plan:=⟨codeA p.dflt,p.x32,fun a=> Jfi (Jbk (Jc p) l (JM (Jc p).rules) a),fun m=> JiM (Jce l (JM (Jc p).rules) m)⟩
theorem JtT {p:Pol} {l:List TRow} (h:(JR p l).2=0) {a:Nat} (ha:a < 5) {D:List (Nat×AV)} (e:PEnt→Nat×AV) (he:∀x,(e x).1=x.num) (hp:D.Perm ((Jbk (Jc p) l (JM (Jc p).rules) a).map e)) (hs:D.Pairwise fun x y=> x.1≤y.1):D=((Jal p l).ents a).map e:=by
 have hn:=Jhz (p:=Jc p) (Jak.1 h).2.1 ha JeJ (JdQ (p:=p) (Jck h))
 refine JgP (key:=(·.1)) (hp.trans ((JfL _).symm.map e)) hs ?_ ?_
 ·rw [List.pairwise_map]
  exact (JoJ _).imp fun h=> by rw [he,he];exact h
 ·refine (hp.map (·.1)).nodup_iff.2 ?_
  rw [List.map_map,show ((fun x:Nat×AV=> x.1)∘e)=(fun x:PEnt=> x.num) from funext he]
  exact hn
theorem JtU {p:Pol} {l:List TRow} (h:(JR p l).2=0) {a:Nat} {D:List (Nat×AV)} (e:PSub→Nat×AV) (he:∀x,(e x).1=x.num) (hp:D.Perm ((Jce l (JM (Jc p).rules) a).map e)) (hs:D.Pairwise fun x y=> x.1≤y.1):D=((Jal p l).subs a).map e:=by
 have hn:=JhA (m:=a) (Jak.1 h).2.1 JeJ (JdQ (p:=p) (Jck h))
 refine JgP (key:=(·.1)) (hp.trans ((JfM _).symm.map e)) hs ?_ ?_
 ·rw [List.pairwise_map]
  exact (JoK _).imp fun h=> by rw [he,he];exact h
 ·refine (hp.map (·.1)).nodup_iff.2 ?_
  rw [List.map_map,show ((fun x:Nat×AV=> x.1)∘e)=(fun x:PSub=> x.num) from funext he]
  exact hn
end Go.Proofs.W

namespace Go.Proofs.W
open Go.Vl
set_option maxRecDepth 100000
theorem JoT {arg op:Int} {mask value:Nat} (h:value > 4294967295):JbQ ⟨arg,op,mask,value⟩=(cnd0,if op=2∨op=3 then 1 else 2):=if_pos h
theorem Je1 {arg op:Int} {mask value:Nat} (h:¬value > 4294967295):JbQ ⟨arg,op,mask,value⟩=if op=7 then (if mask&&& 4294967295=0 then (cnd0,1) else (⟨arg,op,mask&&& 4294967295,value⟩,0)) else (⟨arg,op,mask,value⟩,0):=if_neg h
theorem Jnb (c:Cnd) (ho:c.ok):Tells Tryz.prog 37 [JD c] (.tup [JD (JbQ c).1,int (JbQ c).2]):=by
 obtain ⟨arg,op,mask,value⟩:=c
 refine Jf Tryz.func37 rfl rfl fun nx=> ?_
 have hb:Jcb .and .u64 mask 4294967295=((mask&&& 4294967295:Nat):Int):=Jwp ho.1 Dc
 (repeat' (refine stp ?_;intro c h;cases c))
 all_goals
  refine stp ?_
  refine Jh rfl ⟨rfl,trivial⟩ (AVle.of_eq ?_)
  (try simp only [J3, J4, Jah, Jai, Jaa, Jab] at *)
  first
   | (rw [JoT Om];first | (rw [if_pos Om];rfl) | (rw [if_neg Om];rfl))
   | (exfalso;omega)
   | (rw [Je1 Om,if_neg Om];rfl)
   | (rw [Je1 Om,if_pos Om,if_pos Om];rfl)
   | (rw [Je1 Om,if_pos Om,if_neg Om];refine Eq.trans ?_ (congrArg (fun z:Int=> AV.tup [.ag [int arg,int op, .v (.int .u64 z), .v (.int .u64 value)],int 0]) hb);rfl)
theorem Jjo (a:A2) (h:JaA a.1 a.2=true):Tells Tryz.prog 46 [Joh a] (u32 (codeA a:Nat)):=by
 refine Jf Tryz.func46 rfl rfl fun nx=> ?_
 refine stp ?_
 refine Je rfl rfl (Jqk a h) ⟨Rf,trivial⟩ fun nx2=> ?_
 refine stp ?_
 exact Jd rfl Rf
def Jw:PRul:=⟨[],0⟩
def JcQ (r:PRul):AV:= .ag [JW r.conds,u32 (r.code:Nat)]
def Jx (l:List PRul):AV:=JN 2 JcQ Jw l
def JyL:Option PRul→AV
 | none=> .tup [JcQ Jw,Jb false]
 | some q=> .tup [JcQ q,Jb true]
theorem Jed {α:Type} {e:α→AV} {d:α} {sz:Nat} {l:List α} {x:α} {f':Nat→AV} {i j:Vl.Id} (hf:f' 0=e x) (h:i.2=j.2):AVle (.os sz (l.length+1) (Jby l.length (fun k=> e (l.getD k d)) f') (some i)) (.os sz (l++ [x]).length (fun k=> e ((l++ [x]).getD k d)) (some j)):=by
 rw [List.length_append]
 refine (AVle.os_fun (Jb5 (fun k hk=> ?_) ?_)).trans (AVle.os_nm h)
 ·rw [show (l++ [x]).getD k d=l.getD k d by simp [List.getD,List.getElem?_append_left hk]]
 ·rw [hf,show (l++ [x]).getD l.length d=x by simp [List.getD]]
theorem Jr0 {cs:List Cnd} {i:Nat} (hi:i < cs.length):(cs.take (i+1)).filterMap JjG=(cs.take i).filterMap JjG++(JjG (cs.getD i cnd0)).toList:=by
 rw [JaZ cnd0 hi,List.filterMap_append]
 congr 1
theorem Jr1 {cs:List Cnd} (h:∀j,j < cs.length→Jfs (cs.getD j cnd0)=false):cs.any Jfs=false:=by
 rw [Bool.eq_false_iff]
 intro ha
 obtain ⟨c,hc,hb⟩:=List.any_eq_true.1 ha
 obtain ⟨j,hj,rfl⟩:=List.getElem_of_mem hc
 have:=h j hj
 rw [show cs.getD j cnd0=cs[j] by simp [List.getD,hj]] at this
 rw [this] at hb;cases hb
theorem Jvu {cs:List Cnd} {i:Nat} (hi:i < cs.length) (h:Jfs (cs.getD i cnd0)=true):cs.any Jfs=true:=by
 refine List.any_eq_true.2 ⟨cs.getD i cnd0, ?_,h⟩
 simp [List.getD,hi]
theorem Jii {oi:Option Vl.Id} {n:Nat}:JnH oi n (Jad oi n):=by
 have:=JgJ (oi:=oi) (n:=n) (pm:= [])
 rwa [List.append_nil] at this
def Jij (l:List Cnd):Nat→AV:=fun k=> JD (l.getD k cnd0)
set_option maxHeartbeats 2000000 in
theorem Jlu (r:PRul) (hok:∀c∈r.conds,c.ok) (hl:r.conds.length≤1000000):Tells Tryz.prog 114 [JcQ r] (JyL (Jht r)):=by
 obtain ⟨cs,k⟩:=r
 dsimp only at hok hl
 refine Jf Tryz.func114 rfl rfl fun nx=> ?_
 refine stp ?_
 refine Jo (fun y:Nat×List Cnd×Option Nat×Nat=> mk 38 [(1, .bp (0,nx) 0),(2, .bp (1,nx+1) 0),(3,Jb false),(4, .bp (2,nx+2) 0),(13,JW cs),(14,int cs.length),(15,int y.1)] ⟨[((2,nx+2), .c [.os 4 y.2.1.length (Jij y.2.1) (nmd y.2.2.1),u32 (k:Nat)]),((1,nx+1), .c [.os 0 0 (fun _=> .any) none,u32 0]),((0,nx), .c [JW cs,u32 (k:Nat)])],Jad (nmd y.2.2.1) (y.2.1.length * 4),y.2.2.2,3⟩)
  (fun y=> y.1≤cs.length∧y.2.1=(cs.take y.1).filterMap JjG∧(y.2.2.1=none→y.2.1= [])∧∀j,j < y.1→Jfs (cs.getD j cnd0)=false) (fun y=> cs.length - y.1) ?_ ?_
 ·exact ⟨(0, [],none,nx+3),⟨Nat.zero_le _,rfl,fun _=> rfl,fun j h=> absurd h (Nat.not_lt_zero _)⟩,Jk (pm:= []) _ [] rfl rfl Sf Sf ⟨rfl,⟨AVle.os_nil,Rf,trivial⟩,Bf⟩ trivial ⟨Rf,Rf,Rf,Rf,Rf,Rf,Rf,trivial⟩⟩
 ·rintro ⟨i,L,oi,nx1⟩ ⟨h1,hL,h2,h3⟩
  dsimp only at h1 hL h2 h3
  have hal:L.length≤i:=by rw [hL];exact Nat.le_trans (List.length_filterMap_le _ _) (by simp;omega)
  refine stp ?_
  intro c g;cases c
  ·have g:=Jm g
   try dsimp only at g
   have hi:i=cs.length:=by omega
   subst hi
   rw [List.take_length] at hL
   have hR:Jht ⟨cs,k⟩=some ⟨L,k⟩:=by
    unfold Jht
    dsimp only
    rw [Jr1 h3,hL];rfl
   rw [hR]
   refine stp ?_
   exact Jh rfl ⟨rfl,trivial⟩ (AVle.tups (cs:= [_,_]) ⟨AVle.ags (cs:= [_,_]) ⟨AVle.os_sl,Rf,trivial⟩,Rf,trivial⟩)
  ·have g:=Jn g
   try dsimp only at g
   have hi:i < cs.length:=by omega
   have hn:=Jnb (cs.getD i cnd0) (Jhw hok hi)
   have hnx:=Jr0 hi
   have hst:=Jkx (cs.getD i cnd0)
   refine stp ?_
   refine ⟨Bd, ?_⟩
   refine stp ?_
   refine Je rfl rfl hn ⟨Rf,trivial⟩ fun nx2=> ?_
   refine stp ?_
   intro c t2;cases c
   ·have ht2:(JbQ (cs.getD i cnd0)).2≠2:=fun e=> by rw [e] at t2;cases t2
    have hnev:Jfs (cs.getD i cnd0)=false:=decide_eq_false ht2
    have hlast:∀j,j < i+1→Jfs (cs.getD j cnd0)=false:=fun j hj=> by
     rcases Nat.lt_or_ge j i with h | h
     ·exact h3 j h
     ·obtain rfl:j=i:=by omega
      exact hnev
    refine stp ?_
    intro c t0;cases c
    ·have ht0:(JbQ (cs.getD i cnd0)).2≠0:=fun e=> by rw [e] at t0;cases t0
     rw [show JjG (cs.getD i cnd0)=none from if_neg ht0] at hnx
     refine stp ?_
     exact back (i+1,L,oi,nx2+1) ⟨hi,by dsimp only;rw [hnx,← hL];exact (List.append_nil _).symm,h2,hlast⟩ Dm (Jk _ _ rfl rfl (.cons _ (.cons _ Sf)) Sf Bf Pf ⟨Rf,Rf,Rf,Rf,Rf,Rf,Lw,trivial⟩)
    ·have ht0:(JbQ (cs.getD i cnd0)).2=0:=by
      have:=of_decide_eq_true (p:=((JbQ (cs.getD i cnd0)).2:Int)=0) t0.symm
      omega
     rw [show JjG (cs.getD i cnd0)=some (JbQ (cs.getD i cnd0)).1 from if_pos ht0] at hnx
     refine stp ?_
     refine ⟨Jii,Jy rfl,by show (L.length+1) * 32≤_;omega,by show L.length+1≤_;omega, ?_⟩
     refine stp ?_
     exact back (i+1,L++ [(JbQ (cs.getD i cnd0)).1],some (nx2+1),nx2+2) ⟨hi,by dsimp only;rw [hnx,← hL];rfl,(fun h=> by cases h),hlast⟩ Dm (Jk (bx:= [((2,nx+2), .c [.os 4 (L++ [(JbQ (cs.getD i cnd0)).1]).length (Jij (L++ [(JbQ (cs.getD i cnd0)).1])) (some (0,nx2+1)),u32 (k:Nat)]),((1,nx+1), .c [.os 0 0 (fun _=> .any) none,u32 0]),((0,nx), .c [JW cs,u32 (k:Nat)])]) _ [((5,nx2+1),(L.length+1) * 4)] rfl rfl (.cons _ (.cons _ Sf)) (.cons_cons _ (List.nil_sublist _)) ⟨rfl,⟨Jed (e:=JD) rfl rfl,Rf,trivial⟩,Bf⟩ ⟨rfl,by rw [List.length_append];rfl,trivial⟩ ⟨Rf,Rf,Rf,Rf,Rf,Rf,Lw,trivial⟩)
   ·have ht2:(JbQ (cs.getD i cnd0)).2=2:=by
     have:=of_decide_eq_true (p:=((JbQ (cs.getD i cnd0)).2:Int)=2) t2.symm
     omega
    have hR:Jht ⟨cs,k⟩=none:=if_pos (Jvu hi (decide_eq_true ht2))
    rw [hR]
    refine stp ?_
    exact Jh rfl ⟨rfl,trivial⟩ (AVle.tups (cs:= [_,_]) ⟨AVle.ags (cs:= [_,_]) ⟨AVle.os_sl0,Rf,trivial⟩,Rf,trivial⟩)
end Go.Proofs.W

namespace Go.Proofs.W
open Go.Vl
set_option maxRecDepth 100000
def Jca (l:List TRow) (r:Rul):Bool:=decide ((JaK l r.name).mux > 0)&& decide (0 < r.conds.length)
theorem JtV (l:List TRow) (r:Rul) (hl:l.length≤1000000) (hs:Jhr l r.name):Tells Tryz.prog 107 (Jaj r:: [.rp [Jv l]]) (Jb (Jca l r)):=by
 have hw:=Jtq l r.name hl hs
 unfold Jca
 generalize decide ((JaK l r.name).mux > 0)=b at hw⊢
 generalize (JaD l r.name&& decide ((JaK l r.name).a2≥0))=b2 at hw
 refine Jf Tryz.func107 rfl rfl fun nx=> ?_
 refine stp ?_
 refine Je rfl rfl hw ⟨Rf,Rf,trivial⟩ fun nx2=> ?_
 refine stp ?_
 intro c1 hc1
 subst hc1
 refine stp ?_
 intro c e1;cases c
 ·have hb:b=false:=e1.symm
  subst hb
  refine stp ?_
  exact Jd rfl Rf
 ·have hb:b=true:=e1.symm
  subst hb
  refine stp ?_
  intro c2 hc2
  have e2:decide (0 < r.conds.length)=c2:=by
   rw [hc2]
   by_cases h0:0 < r.conds.length
   ·rw [decide_eq_true h0];exact (decide_eq_true Om).symm
   ·rw [decide_eq_false h0];exact (decide_eq_false Om).symm
  rw [e2]
  clear hc2 e2
  cases c2 <;> (refine stp ?_;exact Jd rfl Rf)
theorem JtW (x:List AV) (l:List Rul) (p:Rul→Bool) (f:Nat) (hl:l.length≤1000000000) (hp:∀i,i < l.length→Tells Tryz.prog f (Jaj (l.getD i rul0):: [.rp x]) (Jb (p (l.getD i rul0)))):
 Tells Tryz.prog 106 [JN 4 Jaj rul0 l,(.fn (.func f) [] [.rp x])] (int (JgK (l.findIdx? p))):=by
 refine Jf Tryz.func106 rfl rfl fun nx=> ?_
 refine stp ?_
 refine Jo (fun s:Nat×Nat=> mk 19 [(0,JN 4 Jaj rul0 l),(1,(.fn (.func f) [] [.rp x])),(7,int l.length),(8,int s.1)] ⟨[], [],s.2,0⟩) (fun s=> s.1≤l.length∧∀j,j < s.1→p (l.getD j rul0)=false) (fun s=> l.length - s.1) ?_ ?_
 ·exact ⟨(0,nx),⟨by simp,by intro j hj;simp at hj⟩,J5 rfl rfl ⟨Rf,Rf,Rf,Rf,trivial⟩⟩
 ·rintro ⟨i,nx⟩ ⟨h1,h2⟩
  dsimp only at h1 h2
  refine stp ?_
  intro c h3;cases c
  ·have h3:=Jm h3
   dsimp only at h3
   refine stp ?_
   refine Jd rfl (Jl ?_)
   rw [JeU rul0 (fun j hj=> h2 j Om)];rfl
  ·have h3:=Jn h3
   dsimp only at h3
   have hi:i < l.length:=by omega
   refine stp ?_
   refine ⟨⟨by dsimp only;omega,by dsimp only;omega⟩, ?_⟩
   refine stp ?_
   refine Je rfl rfl (hp i hi) ⟨Rf,Rf,trivial⟩ fun nx'=> ?_
   intro c h4;cases c
   ·refine stp ?_
    refine back (i+1,nx') ⟨by dsimp only;omega,fun j hj=> ?_⟩ Dm (J5 rfl rfl ⟨Rf,Rf,Rf,Jl (JF Dm),trivial⟩)
    dsimp only at hj
    rcases Nat.lt_or_ge j i with h | h
    ·exact h2 j h
    ·obtain rfl:j=i:=by omega
     exact h4.symm
   ·refine stp ?_
    refine Jd rfl (Jl ?_)
    rw [JgY rul0 hi h2 h4.symm];rfl
theorem JwV {α:Type} {l:List α} {p:α→Bool} {i:Nat} (h:l.findIdx? p=some i):i < l.length:=(List.findIdx?_eq_some_iff_getElem.1 h).1
def Jvv (p:Pol) (l:List TRow):AV:=match p.rules.findIdx? (Jca l) with
 | none=> .tup [int 0,Jb true]
 | some i=> .tup [int i,Jb false]
theorem Jlv (p:Pol) (l:List TRow) (hp:p.rules.length≤1000000) (hl:l.length≤1000000) (hs:JiF l):Tells Tryz.prog 44 [JaL p,Jv l] (Jvv p l):=by
 have hx:=JtW [Jv l] p.rules (Jca l) 107 Om fun i _=> JtV l _ hl (Jfg hs _)
 unfold Jvv
 cases hi:p.rules.findIdx? (Jca l) with
 | none=>
   rw [hi] at hx
   refine Jf Tryz.func44 rfl rfl fun nx=> ?_
   (refine JB ?_;refine JE ?_;refine JB ?_)
   refine Jbq (n:=15) (nx:=nx+2) (nn:=2) (pm:= []) (bx:= []) (L:= [(2, .rp [int p.dflt.1,int p.dflt.2,Jb p.x32,Ji p.rules]),(3, .rp [Jv l]),(4,int 0),(5,Jb false)]) (df:=some []) [((1,nx+1), .c [Jv l]),((0,nx), .c [int p.dflt.1,int p.dflt.2,Jb p.x32,Ji p.rules])] rfl rfl rfl (List.Perm.refl _) Sf ⟨Frz.bp (.tail _ (.head _)) rfl,Frz.bp (.head _) rfl,Frz.refl _,Frz.refl _,trivial⟩ ?_
   refine stp ?_
   refine Je rfl rfl hx ⟨Rf,Rf,trivial⟩ fun nx2=> ?_
   refine stp ?_
   exact Jh rfl trivial (AVle.of_eq rfl)
 | some i=>
   have hlt:=JwV hi
   rw [hi] at hx
   refine Jf Tryz.func44 rfl rfl fun nx=> ?_
   (refine JB ?_;refine JE ?_;refine JB ?_)
   refine Jbq (n:=15) (nx:=nx+2) (nn:=2) (pm:= []) (bx:= []) (L:= [(2, .rp [int p.dflt.1,int p.dflt.2,Jb p.x32,Ji p.rules]),(3, .rp [Jv l]),(4,int 0),(5,Jb false)]) (df:=some []) [((1,nx+1), .c [Jv l]),((0,nx), .c [int p.dflt.1,int p.dflt.2,Jb p.x32,Ji p.rules])] rfl rfl rfl (List.Perm.refl _) Sf ⟨Frz.bp (.tail _ (.head _)) rfl,Frz.bp (.head _) rfl,Frz.refl _,Frz.refl _,trivial⟩ ?_
   refine stp ?_
   refine Je rfl rfl hx ⟨Rf,Rf,trivial⟩ fun nx2=> ?_
   refine stp ?_
   exact Jh rfl trivial (AVle.tups (cs:= [_,_]) ⟨Jl (if_neg (show ¬(0:Int) > (i:Int) by omega)),Rf,trivial⟩)
end Go.Proofs.W

namespace Go.Proofs.W
open Go.Vl
set_option maxRecDepth 100000
end Go.Proofs.W

namespace Go.Proofs.W
open Go.Vl
set_option maxRecDepth 100000
end Go.Proofs.W

namespace Go.Proofs.W
open Go.Vl
set_option maxRecDepth 100000
theorem Jr2 {a b:Own} (h:a=b):OwnLe a b:=h ▸ OwnLe.refl a
theorem Jqx:Jba Tryz.prog 113=true:=by kernel_rfl
theorem gc_trow:Tryz.prog.cellsOf 113=8:=by kernel_rfl
theorem Jqy:Tryz.prog.bytesOf 113=72:=by kernel_rfl
theorem JiP (x:TRow):(Jq x).cells.length=8:=rfl
theorem JwW (x:TRow):(Jq x).cells.all Jcc=true:=rfl
theorem JtX (n:Nat) (h0:0 < n) (hn:n≤100000) (nx:Nat):
 ECall Tryz.prog 238 [.os 0 0 (fun _=> .any) none,int n] ⟨[], [],nx,0⟩ (fun r h'=> ∃s cap nx' nn',n≤cap∧r= .hs (0,s) 0 0 cap∧h'=⟨[((0,s), .c (List.replicate (cap * 8) .any))], [],nx',nn'⟩):=by
 refine ECall.wk (J2 Tryz.func238 rfl rfl ?_)
 refine stp ?_
 refine Jjy rfl rfl Tryz.underlying49 ?_
 refine stp ?_
 intro c hc
 replace hc:c=decide (IntKind.i64.wrap ((n:Int) - 0) > 0):=hc
 rw [Jac Om Om,decide_eq_true Om] at hc
 subst hc
 refine JB ?_
 refine JO (fun i=> match i with | 7=> true | 6=> true | 4=> true | 1=> true | _=> false) 10 ?_
 refine stp ?_
 refine Jjy rfl rfl Tryz.underlying49 ?_
 refine stp ?_
 refine JuT rfl rfl rfl Tryz.underlying49 Tryz.underlying113 ?_
 refine stp ?_
 have hw:IntKind.i64.wrap ((n:Int) - 0)=n:=by rw [Jac Om Om];omega
 refine Jm2 (m:=n) (kq:= .i64) (kn:= .i64) (e:=113) rfl rfl (congrArg (fun z=> AV.v (.int .i64 z)) hw) Om Tryz.underlying3 Tryz.underlying49 Jqx (by rw [Jqy];omega) Om fun cap hcap=> ?_
 refine stp ?_
 refine Jn4 (l:=0) (k':= .i64) rfl rfl rfl Tryz.underlying49 Tryz.underlying113 (Nat.zero_le _) Om ?_
 refine stp ?_
 exact JaG rfl ⟨_,_,Rf,HLe.refl _,nx,cap,_,_,hcap,rfl,by rw [gc_trow];rfl⟩
theorem Jr3:Tells Tryz.prog 238 [.os 0 0 (fun _=> .any) none,int (0:Nat)] (.os 0 0 (fun _=> .any) none):=by
 refine Jf Tryz.func238 rfl rfl fun nx=> ?_
 refine stp ?_
 refine Jjy rfl rfl Tryz.underlying49 ?_
 refine stp ?_
 exact Jd rfl Rf
def JdR (L:List (List TRow)) (oi:Option Vl.Id):AV:= .os 1 L.length (fun k=> JN 8 Jq trow0 (L.getD k [])) oi
theorem JmC (l:List TRow):JQ l.length (fun k=> Jq (l.getD k trow0))=l.flatMap fun x=> (Jq x).cells:=by
 have key:∀m,m≤l.length→JQ m (fun k=> Jq (l.getD k trow0))=(l.take m).flatMap fun x=> (Jq x).cells:=by
  intro m
  induction m with
  | zero=> intro _;rfl
  | succ m ih=>
    intro hm
    have hm':m < l.length:=by omega
    have e:JQ (m+1) (fun k=> Jq (l.getD k trow0))=JQ m (fun k=> Jq (l.getD k trow0))++(Jq (l.getD m trow0)).cells:=by unfold JQ;rw [List.range_succ,List.flatMap_append];simp
    rw [e,ih Om,List.take_add_one,List.flatMap_append]
    simp [List.getD,hm']
 rw [key _ (Nat.le_refl _),List.take_of_length_le (Nat.le_refl _)]
theorem Jik (l:List TRow):(l.flatMap fun x=> (Jq x).cells).length=l.length * 8:=by
 induction l with
 | nil=> rfl
 | cons x l ih=> rw [List.flatMap_cons,List.length_append,ih,JiP,List.length_cons];omega
theorem JtY (l:List TRow) (k j:Nat) (hk:k < l.length) (hj:j < 8):(l.flatMap fun x=> (Jq x).cells)[k * 8+j]? =(Jq (l.getD k trow0)).cells[j]? :=by
 rw [← JmC]
 exact (Jds (sz:=8) (fun i hi=> JiP _)).2 k j hk hj
set_option maxHeartbeats 1000000 in
theorem JpU (L:List (List TRow)) (hL:L.length≤1000) (hn:L.flatten.length≤100000) (oi:Option Vl.Id):Tells Tryz.prog 146 [JdR L none] (JN 8 Jq trow0 L.flatten):=by
 have hpre:∀i,i < L.length→(L.take (i+1)).flatten.length=(L.take i).flatten.length+(L.getD i []).length:=fun i hi=> by
  rw [JaZ [] hi,List.flatten_append,List.length_append];simp
 have hle:∀i,(L.take i).flatten.length≤L.flatten.length:=fun i=> by
  conv=> rhs;rw [← List.take_append_drop i L,List.flatten_append,List.length_append]
  omega
 refine Jf Tryz.func146 rfl rfl fun nx=> ?_
 refine stp ?_
 refine Jan (fun y:Nat=> mk 36 [(0,JdR L none),(3,int (L.flatten.length:Nat))] ⟨[], [],y,0⟩) (fun _=> True) ?_ ?_
 ·refine Jo (fun y:Nat×Nat=> mk 36 [(0,JdR L none),(3,int ((L.take y.1).flatten.length:Nat)),(9,JdR L none),(10,int L.length),(11,int y.1)] ⟨[], [],y.2,0⟩) (fun y=> y.1≤L.length) (fun y=> L.length - y.1) ?_ ?_
  ·exact ⟨(0,nx),Nat.zero_le _,Jf7 rfl rfl Sf Sf ⟨Rf,Rf,Rf,Rf,Rf,trivial⟩⟩
  ·rintro ⟨i,nx1⟩ h1
   dsimp only at h1
   refine stp ?_
   intro c g;cases c
   ·have g:=Jm g
    try dsimp only at g
    obtain rfl:i=L.length:=by omega
    refine stp ?_
    refine ⟨nx1,trivial,Jf7 rfl rfl Sf Sf ⟨Rf, ?_,trivial⟩⟩
    exact AVle.of_eq (congrArg (fun z:List (List TRow)=> int (z.flatten.length:Nat)) List.take_length)
   ·have g:=Jn g
    try dsimp only at g
    have hi:i < L.length:=by omega
    have e1:=hpre i hi
    have e2:=hle (i+1)
    refine stp ?_
    refine ⟨Bd, ?_⟩
    have hw:IntKind.i64.wrap ((((L.take i).flatten.length:Nat):Int)+((L.getD i []).length:Int))=(((L.take (i+1)).flatten.length:Nat):Int):=by rw [Jac Om Om];omega
    refine stp ?_
    intro c hc
    replace hc:c=decide (IntKind.i64.wrap ((((L.take i).flatten.length:Nat):Int)+((L.getD i []).length:Int)) < 0):=hc
    rw [hw,decide_eq_false Om] at hc
    subst hc
    refine stp ?_
    exact back (i+1,nx1) hi Dm (Jf7 rfl rfl Sf Sf ⟨Rf,Jl hw,Rf,Rf,Lw,trivial⟩)
 ·intro nx1 _
  rcases Nat.eq_zero_or_pos L.flatten.length with h0 | h0
  ·have hemp:∀i,i < L.length→(L.getD i []).length=0:=fun i hi=> by
    have:=hpre i hi;have:=hle (i+1);omega
   have hnil:L.flatten= []:=List.eq_nil_of_length_eq_zero h0
   rw [hnil]
   refine stp ?_
   refine Je rfl rfl Jr3 ⟨Rf,Rf,trivial⟩ fun nx2=> ?_
   refine stp ?_
   refine Jo (fun y:Nat×Nat=> mk 36 [(6, .os 0 0 (fun _=> .any) none),(25,JdR L none),(26,int L.length),(27,int y.1)] ⟨[], [],y.2,0⟩) (fun y=> y.1≤L.length) (fun y=> L.length - y.1) ?_ ?_
   ·exact ⟨(0,nx2),Nat.zero_le _,Jf7 rfl rfl Sf Sf ⟨Rf,Rf,Rf,Rf,trivial⟩⟩
   ·rintro ⟨i,nx3⟩ h1
    dsimp only at h1
    refine stp ?_
    intro c g;cases c
    ·refine stp ?_
     exact Jd rfl AVle.os_sl0
    ·have g:=Jn g
     try dsimp only at g
     have hi:i < L.length:=by omega
     have e1:=hemp i hi
     have e2:L.getD i []= []:=List.eq_nil_of_length_eq_zero e1
     refine stp ?_
     refine ⟨Bd, ?_⟩
     refine stp ?_
     refine Jj2 (fun _=> ?_) (fun h=> absurd e1 h)
     refine stp ?_
     exact back (i+1,nx3) hi Dm (Jf7 rfl rfl Sf Sf ⟨Rf,Rf,Rf,Lw,trivial⟩)
  ·refine stp ?_
   refine J1 (xs:= [.os 0 0 (fun _=> .any) none,int (L.flatten.length:Nat)]) [] [] 1 rfl rfl rfl rfl ⟨Rf,Rf,trivial⟩ (JtX L.flatten.length h0 hn nx1) Bf Pf rfl fun r h' hq=> ?_
   obtain ⟨s,cap,nx2,nn2,hcap,rfl,rfl⟩:=hq
   refine stp ?_
   refine Jo (fun y:Nat×List AV×Nat=> mk 36 [(6, .hs (0,s) 0 ((L.take y.1).flatten.length) cap),(25,JdR L none),(26,int L.length),(27,int y.1)] ⟨[((0,s), .c y.2.1)], [],y.2.2,1⟩) (fun y=> y.1≤L.length∧y.2.1.length=cap * 8∧y.2.1.take ((L.take y.1).flatten.length * 8)=(L.take y.1).flatten.flatMap fun x=> (Jq x).cells) (fun y=> L.length - y.1) ?_ ?_
   ·exact ⟨(0,List.replicate (cap * 8) .any,nx2),⟨Nat.zero_le _,by simp,by simp⟩,Jk _ _ rfl rfl Sf .slnil Bf trivial ⟨Rf,Rf,Rf,Rf,trivial⟩⟩
   ·rintro ⟨i,cs,nx3⟩ ⟨h1,h2,h3⟩
    dsimp only at h1 h2 h3
    refine stp ?_
    intro c g;cases c
    ·have g:=Jm g
     try dsimp only at g
     obtain rfl:i=L.length:=by omega
     rw [List.take_length] at h3
     have hcl:L.flatten.length * 8≤cap * 8:=Nat.mul_le_mul_right _ hcap
     refine JB ?_
     refine AW.le (JcI (L:= [(6,JN 8 Jq trow0 L.flatten)]) (bx:= []) (pm:= []) (nn:=1) [((0,s), .c cs)] rfl rfl Sf .slnil ⟨?_,trivial⟩) ?_
     ·refine (Frz.of_le (AVle.of_eq (b:= .hs (0,s) 0 L.flatten.length cap) ?_)).trans (Frz.hs (cs:=cs) (.head _) hcap (.inr Om) (fun k hk=> JiP _) (fun k hk j c hj=> ?_) Om)
      ·show AV.hs (0,s) 0 ((L.take L.length).flatten.length) cap=_
       rw [List.take_length]
      ·have hjl:j < 8:=by have:=(List.getElem?_eq_some_iff.1 hj).1;rw [JiP] at this;exact this
       refine ⟨c, ?_,Rf⟩
       have hkk:k * 8+j < L.flatten.length * 8:=by
        have:(k+1) * 8≤L.flatten.length * 8:=Nat.mul_le_mul_right _ hk
        omega
       have h4:=JtY L.flatten k j hk hjl
       rw [← h3,List.getElem?_take,if_pos hkk,hj] at h4
       rw [Nat.zero_add];exact h4
     ·refine stp ?_
      exact Jd rfl Rf
    ·have g:=Jn g
     try dsimp only at g
     have hi:i < L.length:=by omega
     have e1:=hpre i hi
     have e2:=hle (i+1)
     have hfl:(L.take (i+1)).flatten=(L.take i).flatten++L.getD i []:=by rw [JaZ [] hi,List.flatten_append];simp
     have hcl:((L.take i).flatten.length+(L.getD i []).length) * 8≤cap * 8:=Nat.mul_le_mul_right _ Om
     refine stp ?_
     refine ⟨Bd, ?_⟩
     refine JB ?_
     refine JO (fun i=> match i with | 1=> true | _=> false) 4 ?_
     refine stp ?_
     refine Jfd (m:=(L.getD i []).length) (f':=fun k=> Jq ((L.getD i []).getD k trow0)) (szx:=8) (n:=(L.take i).flatten.length) (cap:=cap) (cs:=cs) (i:=(0,s)) rfl rfl (.inl rfl) Tryz.underlying49 Jqx (.inr gc_trow.symm) (by rfl) Om (by rw [gc_trow];omega) (fun k hk=> JwW _) (fun _=> by rw [Jqy];omega) (fun _=> by omega) (fun hm=> ?_) (fun hm hfit=> ?_) (fun hm hnf=> absurd Om hnf)
     ·have e3:L.getD i []= []:=List.eq_nil_of_length_eq_zero hm
      rw [e3,List.append_nil] at hfl
      refine stp ?_
      exact back (i+1,cs,nx3) ⟨hi,h2,by dsimp only;rw [hfl];exact h3⟩ Dm (Jk _ _ rfl rfl Sf .slnil Bf trivial ⟨AVle.of_eq (congrArg (fun z=> AV.hs (0,s) 0 z cap) (by rw [hfl]:(L.take i).flatten.length=(L.take (i+1)).flatten.length)),Rf,Rf,Lw,trivial⟩)
     ·refine stp ?_
      refine back (i+1,Jat cs ((L.take i).flatten.length * 8) ((L.getD i []).flatMap fun x=> (Jq x).cells),nx3) ⟨hi, ?_, ?_⟩ Dm (Jk _ _ rfl rfl Sf .slnil ⟨rfl,Jr2 (congrArg Own.c ?_),trivial⟩ trivial ⟨AVle.of_eq (congrArg (fun z=> AV.hs (0,s) 0 z cap) e1.symm),Rf,Rf,Lw,trivial⟩)
      ·have hf:=Jik (L.getD i [])
       simp only [JaQ,List.length_append,List.length_take,List.length_drop,hf]
       omega
      ·have hf:=Jik (L.getD i [])
       dsimp only
       rw [hfl,List.flatMap_append,JaQ,List.length_append,← List.append_assoc,h3]
       have hpl:(List.flatMap (fun x=> (Jq x).cells) (L.take i).flatten++List.flatMap (fun x=> (Jq x).cells) (L.getD i [])).length=((L.take i).flatten.length+(L.getD i []).length) * 8:=by
        rw [List.length_append,hf,Jik];omega
       rw [← hpl,List.take_left]
      ·rw [gc_trow,JmC]
end Go.Proofs.W
