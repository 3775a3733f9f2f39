import Derived.Test.YtokhkmgefndbaaaGreatDoorQD
import Derived.Test.YtokhkmgefndbaaaGreatDoorQC
import Derived.Ground.NamesProg
import Derived.Shelf.Lay
import Derived.Shelf.Small.Bits
import Derived.Lib.ItoaNum
import Derived.Sort.LotA
import Derived.Shelf.SortM.Plain
import Derived.Shelf.SortM.SortNone
import Derived.Shelf.SlGeneric
import Derived.Ground.SlgmProg
import Derived.Shelf.Strconv.Itoa3
import Derived.Test.YtokhkmgefndbaaaGreatDoorProg
set_option linter.unusedVariables false
set_option linter.unusedSimpArgs false
set_option maxHeartbeats 16000000
namespace Go.Proofs.W
open Go.Vl
set_option maxRecDepth 100000
theorem JBY {a b:Int} (h:a=b):AVle (.v (.int .u32 a)) (u32 b):=h ▸ Rf
theorem JDw:Jdc Tryz.prog 109 9 [(0,int 0),(1,int 2147483648),(2,int 0),(3,int 196608),(4,int 327680),(5,int 2143289344),(6,int 2146435072),(7,int 2147221504),(8,int 2147418112)]=some (3, [int 0,int 2147483648,int 0,int 196608,int 327680,int 2143289344,int 2146435072,int 2147221504,int 2147418112]):=by kernel_rfl
theorem JxH (k:Nat) (hk:k < 8):Tells Tryz.prog 94 [int (k+1:Nat)] (int (kb k)):=by
 refine Jc Tryz.func94 rfl rfl fun nx=> ?_
 (refine Jy ?_;refine JQ ?_;refine Jy ?_)
 refine JF (fun n=> match n with | 0=> true | _=> false) 1 ?_
 refine Jj0 rfl JDw ?_
 refine Z ?_
 refine ⟨⟨Om,Om⟩, ?_⟩
 rcases k with _ | _ | _ | _ | _ | _ | _ | _ | k
 iterate 8
  ·refine Z ?_;exact Jb rfl Rf
 omega
theorem JvZ (k n:Nat) (hk:k < 8) (hn:n≤km k):Tells Tryz.prog 66 [act (k+1:Nat) n] (.tup [u32 (kb k+n:Nat),int 0]):=by
 obtain ⟨s,m,hr1,hr2⟩:=JDv k hk
 obtain ⟨s',c',m',h3,h4,_⟩:=JlS k hk
 have hm:m=m':=by
  rw [hr1] at h3;have:=AV.ag.inj h3;simp at this;exact this.2.2
 rw [← hm] at h4
 clear h3
 have hle:=JvY hk
 have ho:=Jxv k hk
 rw [hr1] at ho
 have hR:=JlT ((k+1:Nat):Int) (n:Int)
 have hkm:((km k:Nat):Int)=JmU ((k+1:Nat):Int):=by
  clear hr1 hr2 h4 hle ho hR hn;rcases k with _ | _ | _ | _ | _ | _ | _ | _ | k
  all_goals first | decide | omega
 rw [show Ja7 ((k+1:Nat):Int) (n:Int)=true by unfold Ja7;rw [← hkm];simp;omega] at hR
 have e1:IntKind.u32.wrap (n:Int)=(n:Int):=by simp [IntKind.wrap,IntKind.signed,IntKind.bits];omega
 have e2:IntKind.u32.wrap ((kb k:Int)+(n:Int))=((kb k+n:Nat):Int):=by
  rw [show (kb k:Int)+(n:Int)=((kb k+n:Nat):Int) by omega];simp [IntKind.wrap,IntKind.signed,IntKind.bits];omega
 rcases h4 with rfl | ⟨n',rfl⟩
 all_goals
  refine Jc Tryz.func66 rfl rfl fun nx=> ?_;refine Z ?_;refine Ja rfl rfl hR Y1 fun nx1=> ?_;refine Z ?_;refine Ja rfl rfl ho Y1 fun nx2=> ?_;refine Z ?_;refine Jb rfl (AVle.tups ⟨JBY ?_,Y1⟩);show IntKind.u32.wrap ((kb k:Int)+IntKind.u32.wrap (n:Int))=_;rw [e1,e2]
theorem Jv0 (k n:Nat) (hk:k < 8) (hn:n≤km k):Tells Tryz.prog 48 [act (k+1:Nat) n] (int (kb k+n:Nat)):=by
 have hle:=JvY hk
 refine Jc Tryz.func48 rfl rfl fun nx=> ?_
 refine Z ?_
 (refine JJ 6 Kr Kr Kr ?_)
 refine Z ?_
 refine Jaj (JV rfl rfl (JxH k hk) Y1 (NoId.v _)) ?_
 refine Z ?_
 refine Jb rfl (Jf ?_)
 rw [Jq Om Om]
 omega
def hB (x:Nat→Nat) (c:Cnd):Bool:=JR c&& JaD c ([x 0,x 1,x 2,x 3,x 4,x 5].getD c.arg.toNat 0)
def JcU (x:Nat→Nat) (r:Rul):Bool:=r.conds.all (hB x)
theorem JDx {x:Nat→Nat} (hx:∀i,x i < 18446744073709551616) (i:Nat): [x 0,x 1,x 2,x 3,x 4,x 5].getD i 0 < 18446744073709551616:=by
 rcases i with _ | _ | _ | _ | _ | _ | i
 ·exact hx 0
 ·exact hx 1
 ·exact hx 2
 ·exact hx 3
 ·exact hx 4
 ·exact hx 5
 ·exact Nat.zero_lt_succ _
theorem Jm0 {l:List Rul} {q:Rul→Bool} {i:Nat} (hi:i < l.length) (h:∀j,j < i→q (l.getD j Jn)=false) (hq:q (l.getD i Jn)=true):l.find? q=some (l.getD i Jn):=by
 have e:l.getD i Jn=l[i]:=by simp [List.getD,hi]
 rw [e] at hq⊢
 rw [List.find?_eq_some_iff_getElem]
 refine ⟨hq,i,hi,rfl,fun j hj=> ?_⟩
 have:=h j hj
 rw [show l.getD j Jn=l[j] by simp [List.getD,show j < l.length by omega]] at this
 rw [this];rfl
def Je5 (p:Pol) (nm:ByteArray) (x:Nat→Nat):A2:=match p.rules.find? (fun r=> kS r.name nm&& JcU x r) with
 | some r=> r.act
 | none=> p.dflt
def JbL (p:Pol) (nm:ByteArray):A2:=match p.rules.find? (fun r=> kS r.name nm) with
 | some r=> if r.conds.length=0 then r.act else p.dflt
 | none=> p.dflt
def JlU (l:List TRow):Bool:=decide (l.length≤40)&& !l.any fun r=> decide (60 < r.name.size)
theorem JuF {c d:Cnd}:(c.arg ==d.arg&& (c.op ==d.op&& ((c.mask:Int) ==(d.mask:Int)&& ((c.value:Int) ==(d.value:Int)&& true))))=decide (c=d):=by
 rw [Bool.eq_iff_iff]
 simp only [Bool.and_eq_true,beq_iff_eq,decide_eq_true_eq,and_true]
 obtain ⟨a1,a2,a3,a4⟩:=c
 obtain ⟨b1,b2,b3,b4⟩:=d
 simp
 omega
theorem JxI {α:Type} {a b:List α} {d:α} (hl:a.length=b.length) (h:∀j,j < a.length→a.getD j d=b.getD j d):a=b:=by
 refine List.ext_getElem hl fun j h1 h2=> ?_
 have:=h j h1
 simpa [List.getD,h1,h2] using this
theorem JtI (a b:List Cnd) (ha:a.length≤1000000):Tells Tryz.prog 114 [Jaz a,Jaz b] (Ji (decide (a=b))):=by
 refine Jc Tryz.func114 rfl rfl fun nx=> ?_
 refine Z ?_
 intro c g1;cases c
 rotate_left
 ·have g1:((a.length:Nat):Int)≠((b.length:Nat):Int):=JcB.1 g1;refine Z ?_;exact Jb rfl (JN (by rw [eq_comm];exact decide_eq_false (fun h=> g1 (by rw [h]))))
 have g1:((a.length:Nat):Int)=((b.length:Nat):Int):=JcA.1 g1
 have hl:a.length=b.length:=by omega
 refine Z ?_
 refine Js (fun s:Nat×Nat=> mk 26 [(0,Jaz a),(1,Jaz b),(12,int a.length),(13,int s.1)] ⟨[], [],s.2,0⟩) (fun s=> s.1≤a.length∧∀j,j < s.1→a.getD j cnd0=b.getD j cnd0) (fun s=> a.length - s.1) ?_ ?_
 ·exact ⟨(0,nx),⟨Nat.zero_le _,fun j h=> absurd h (Nat.not_lt_zero _)⟩,JaM rfl rfl Y4⟩
 ·rintro ⟨i,nx2⟩ ⟨h3,h4⟩;dsimp only at h3 h4;refine Z ?_;intro c h5;cases c
  ·have h6:=Jw h5;dsimp only at h6;obtain rfl:i=a.length:=by omega
   have he:=JxI hl h4;refine Z ?_;exact Jb rfl (JN (by rw [eq_comm];exact decide_eq_true he))
  ·have h6:=Ju h5;dsimp only at h6;have hi:i < a.length:=by omega
   refine Z ?_
   (refine JJ 9 Kr Kr Kr ?_)
   refine Z ?_;refine ⟨⟨Dm,Dm⟩, ?_⟩;refine Z ?_;refine ⟨⟨Dm,Dm⟩, ?_⟩;refine Z ?_;intro c hc;have hc2:c= !decide (a.getD i cnd0=b.getD i cnd0):=hc.trans (congrArg (!·) JuF);cases c
   ·have he:a.getD i cnd0=b.getD i cnd0:=(by simpa using hc2);refine Z ?_;refine back (i+1,nx2) ⟨Dm,fun j hj=> ?_⟩ Dm (JaM rfl rfl ⟨Rf,Rf,Rf,Jf (Jx Dm),Tt⟩);dsimp only at hj;rcases Nat.lt_or_ge j i with h | h
    ·exact h4 j h
    ·obtain rfl:j=i:=(by omega);exact he
   ·have he:¬a.getD i cnd0=b.getD i cnd0:=(by simpa using hc2);refine Z ?_;exact Jb rfl (JN (by rw [eq_comm];exact decide_eq_false (fun h=> he (by rw [h]))))
theorem JBZ {a b:A2}:(a.1 ==b.1&& (a.2 ==b.2&& true))=decide (a=b):=by
 rw [Bool.eq_iff_iff]
 simp only [Bool.and_eq_true,beq_iff_eq,decide_eq_true_eq,and_true]
 exact (Prod.ext_iff).symm
def okN (n:Nat):Bool:=(decide (97≤n)&& decide (n≤122))|| (decide (48≤n)&& decide (n≤57))|| decide (n=95)
theorem JxJ:∀n,n < 256→signsB.data.toList.contains (UInt8.ofNat n)=okN n:=by decide+kernel
theorem JtJ:∀n,n < 256→lettersB.data.toList.contains (UInt8.ofNat n)=(decide (97≤n)&& decide (n≤122)):=by decide+kernel
theorem Jz7 (b:UInt8):signsB.data.toList.contains b=okN b.toNat:=by
 have:=JxJ b.toNat b.toNat_lt
 rwa [UInt8.ofNat_toNat] at this
theorem Jv1 (b:UInt8):lettersB.data.toList.contains b=(decide (97≤b.toNat)&& decide (b.toNat≤122)):=by
 have:=JtJ b.toNat b.toNat_lt
 rwa [UInt8.ofNat_toNat] at this
theorem JxK (l:List UInt8):JaQ l=true↔l.length≠0∧l.length≤30∧97≤(l.headD 0).toNat∧(l.headD 0).toNat≤122∧l≠Ji8∧l≠JvN∧∀j,j < l.length→okN (l.getD j 0).toNat=true:=by
 unfold JaQ
 simp only [Bool.and_eq_true,Bool.not_eq_true',beq_eq_false_iff_ne,decide_eq_true_eq,Jv1,List.all_eq_true,Jz7]
 constructor
 ·rintro ⟨h1,h2,h3,h4,h5,h6,h7⟩;refine ⟨fun h=> h1 (List.length_eq_zero_iff.1 h),h4,h6,h7,h2,h3,fun j hj=> ?_⟩;exact h5 _ (by simp [List.getD,hj])
 ·rintro ⟨h1,h2,h3,h4,h5,h6,h7⟩;refine ⟨fun h=> h1 (by rw [h];rfl),h5,h6,h2,fun x hx=> ?_,h3,h4⟩;obtain ⟨j,hj,rfl⟩:=List.getElem_of_mem hx;have:=h7 j hj;simpa [List.getD,hj] using this
theorem JEm (n:Nat):decide (n&&& 1073741824≠0)=decide (n / 1073741824 % 2=1):=by
 have hlo:n % 1073741824 < 2 ^ 30:=Nat.mod_lt _ Dc
 have e1:n=2 ^ 30 * (n / 1073741824)+n % 1073741824:=by have:=Nat.div_add_mod n 1073741824;show n=1073741824 * _+_;omega
 have hs:=JxA (c:=n / 1073741824) (lo:=n % 1073741824) (d:=1) (m:=0) (i:=30) hlo Dc
 rw [← e1,Nat.and_one_is_mod,Nat.and_zero,show (2 ^ 30 * 1+0:Nat)=1073741824 by decide] at hs
 rw [hs]
 have:n / 1073741824 % 2=0∨n / 1073741824 % 2=1:=by omega
 rcases this with q | q <;> rw [q] <;> decide
theorem JlV (n:Nat):Jeo n=(decide (n≠4294967295)&& decide (n / 1073741824 % 2=1)):=by
 unfold Jeo;rw [JEm,Bool.and_comm]
theorem JBv {n:Nat} (h:n < 4294967296):(IntKind.u32.wrap ((n:Int).tdiv 1073741824)).tmod 2=((n / 1073741824 % 2:Nat):Int):=by
 have e:(n:Int).tdiv 1073741824=((n / 1073741824:Nat):Int):=(Int.ofNat_tdiv n 1073741824).symm
 rw [e]
 have e2:IntKind.u32.wrap ((n / 1073741824:Nat):Int)=((n / 1073741824:Nat):Int):=by
  have:n / 1073741824 < 4:=by omega
  simp [IntKind.wrap,IntKind.signed,IntKind.bits];omega
 rw [e2]
 exact (Int.ofNat_tmod (n / 1073741824) 2).symm
def Jcf (arch num:Nat):Int:=match Jdp arch num with
 | some a=> a
 | none=> -1
theorem JEn (num:Nat):Jcf 1073741827 num=2:=by unfold Jcf Jdp;cases Jeo num <;> rfl
theorem JEo (num:Nat):Jcf 3221225655 num=3:=by unfold Jcf Jdp;cases Jeo num <;> rfl
theorem JEp (num:Nat):Jcf 3221225715 num=4:=by unfold Jcf Jdp;cases Jeo num <;> rfl
theorem JDy (num:Nat):Jcf 3221225534 num=if Jeo num then 1 else 0:=by unfold Jcf Jdp;cases Jeo num <;> rfl
theorem JEq {arch num:Nat} (h2:arch≠1073741827) (h3:arch≠3221225655) (h4:arch≠3221225715) (h0:arch≠3221225534):Jcf arch num=-1:=by
 unfold Jcf Jdp
 have:infN.find? (Jn5 arch (Jeo num))=none:=by
  refine List.find?_eq_none.2 fun x hx=> ?_;unfold infN at hx;simp only [List.mem_cons,List.not_mem_nil,or_false] at hx;rw [Bool.not_eq_true];unfold Jn5;rw [Bool.and_eq_false_iff]
  left
  rw [decide_eq_false_iff_not];rcases hx with rfl | rfl | rfl | rfl | rfl <;> (intro e;exact absurd e.symm (by assumption))
 rw [this];rfl
theorem Jp5 (arch num:Nat) (ha:arch < 4294967296) (hn:num < 4294967296):Tells Tryz.prog 90 [u32 arch,u32 num] (int (Jcf arch num)):=by
 by_cases h2:arch=1073741827
 ·subst h2;rw [JEn];refine Jc Tryz.func90 rfl rfl fun nx=> ?_;refine Z ?_;exact Jb rfl Rf
 by_cases h3:arch=3221225655
 ·subst h3;rw [JEo];refine Jc Tryz.func90 rfl rfl fun nx=> ?_;refine Z ?_;exact Jb rfl Rf
 by_cases h4:arch=3221225715
 ·subst h4;rw [JEp];refine Jc Tryz.func90 rfl rfl fun nx=> ?_;refine Z ?_;exact Jb rfl Rf
 by_cases h0:arch=3221225534
 ·subst h0;rw [JDy,JlV];refine Jc Tryz.func90 rfl rfl fun nx=> ?_;refine Z ?_;intro c hc;have hc2:c=decide (num≠4294967295):=by rw [hc,Bool.eq_iff_iff];simp;omega
  clear hc;rw [← hc2];clear hc2;cases c
  ·refine Z ?_;exact Jb rfl Rf
  ·refine Z ?_;intro c hc;have hc2:c=decide (num / 1073741824 % 2=1):=by rw [hc,JBv hn,Bool.eq_iff_iff];simp;omega
   clear hc;rw [← hc2];clear hc2;cases c
   all_goals
    refine Z ?_;exact Jb rfl Rf
 ·rw [JEq h2 h3 h4 h0];refine Jc Tryz.func90 rfl rfl fun nx=> ?_;refine Z ?_;intro c hc;obtain rfl:c=false:=hc.trans (by simp;omega);refine Z ?_;intro c hc;obtain rfl:c=false:=hc.trans (by simp;omega);refine Z ?_;intro c hc;obtain rfl:c=false:=hc.trans (by simp;omega);refine Z ?_;intro c hc;obtain rfl:c=false:=hc.trans (by simp;omega);refine Z ?_;exact Jb rfl Rf
theorem Jp6 (a num:Nat) (hn:num < 4294967296):Tells Tryz.prog 93 [int a,u32 num] (u32 (JfH a num)):=by
 unfold JfH
 by_cases h:a=1
 ·subst h;refine Jc Tryz.func93 rfl rfl fun nx=> ?_;refine Z ?_;intro c hc;have hc2:c=decide (num / 1073741824 % 2=1):=by rw [hc,JBv hn,Bool.eq_iff_iff];simp;omega
  clear hc;cases c
  ·rw [if_neg (fun q=> by rw [decide_eq_true q.2] at hc2;cases hc2)];refine Z ?_;exact Jb rfl Rf
  ·have q:num / 1073741824 % 2=1:=of_decide_eq_true hc2.symm;rw [if_pos ⟨rfl,q⟩];clear hc2;refine Z ?_;refine Jb rfl (AVle.of_eq (congrArg u32 ?_));show IntKind.u32.wrap ((num:Int) - 1073741824)=_;have h1:1073741824≤num:=by omega
   simp [IntKind.wrap,IntKind.signed,IntKind.bits];omega
 ·rw [if_neg (fun q=> h q.1)];refine Jc Tryz.func93 rfl rfl fun nx=> ?_;refine Z ?_;intro c hc;obtain rfl:c=false:=hc.trans (by simp;omega);refine Z ?_;exact Jb rfl Rf
theorem Jp7 (a:Int) (x:Nat) (hx:x < 18446744073709551616):Tells Tryz.prog 96 [int a,u64 (x:Nat)] (u64 ((if a=2 then x % 4294967296 else x:Nat):Nat)):=by
 refine Jc Tryz.func96 rfl rfl fun nx=> ?_
 refine Z ?_
 intro c t;cases c
 ·have t:¬a=2:=by simpa using t
  rw [if_neg t];refine Z ?_;exact Jb rfl Rf
 ·have t:a=2:=by simpa using t
  rw [if_pos t];refine Z ?_;refine Jb rfl (AVle.of_eq (congrArg u64 ?_));exact (Int.ofNat_tmod x 4294967296).symm
theorem Jca:Tryz.prog.cellsOf 3=1:=by kernel_rfl
def Jv2 (r:TRow) (a i:Nat):Int:=if 0≤r.num a then r.num a else -1 - (i:Int)
theorem Jp8 (l:List TRow) (a i:Nat) (ha:a < 5) (hi:i < l.length) (hl:l.length≤1000000):Tells Tryz.prog 152 [JS l,int a,int i] (int (Jv2 (l.getD i Jd) a i)):=by
 unfold Jv2
 refine Jc Tryz.func152 rfl rfl fun nx=> ?_
 rcases (by omega:a=0∨a=1∨a=2∨a=3∨a=4) with rfl | rfl | rfl | rfl | rfl
 ·refine Z ?_;refine ⟨Bd, ?_⟩;refine Z ?_;refine ⟨⟨by decide,by decide,by rw [Jca];exact Nat.le_of_ble_eq_true rfl⟩,Jj (b:= .rp (List.drop (1+0) (JbH (l.getD i Jd)))) (congrArg AV.rp (by rw [Jca];rfl)) ?_⟩;refine Z ?_;intro c t;cases c
  ·have t:=Jw t;try dsimp only at t
   rw [if_neg (show ¬0≤(l.getD i Jd).num 0 by show ¬0≤(l.getD i Jd).a0;omega)];refine Z ?_;refine Jb rfl (Jf (Jq Om Om))
  ·have t:=Ju t;try dsimp only at t
   rw [if_pos (show 0≤(l.getD i Jd).num 0 by show 0≤(l.getD i Jd).a0;omega)];refine Z ?_;refine ⟨Bd, ?_⟩;refine Z ?_;refine ⟨⟨by decide,by decide,by rw [Jca];exact Nat.le_of_ble_eq_true rfl⟩,Jj (b:= .rp (List.drop (1+0) (JbH (l.getD i Jd)))) (congrArg AV.rp (by rw [Jca];rfl)) ?_⟩;refine Z ?_;exact Jb rfl Rf
 ·refine Z ?_;refine ⟨Bd, ?_⟩;refine Z ?_;refine ⟨⟨by decide,by decide,by rw [Jca];exact Nat.le_of_ble_eq_true rfl⟩,Jj (b:= .rp (List.drop (1+1) (JbH (l.getD i Jd)))) (congrArg AV.rp (by rw [Jca];rfl)) ?_⟩;refine Z ?_;intro c t;cases c
  ·have t:=Jw t;try dsimp only at t
   rw [if_neg (show ¬0≤(l.getD i Jd).num 1 by show ¬0≤(l.getD i Jd).a1;omega)];refine Z ?_;refine Jb rfl (Jf (Jq Om Om))
  ·have t:=Ju t;try dsimp only at t
   rw [if_pos (show 0≤(l.getD i Jd).num 1 by show 0≤(l.getD i Jd).a1;omega)];refine Z ?_;refine ⟨Bd, ?_⟩;refine Z ?_;refine ⟨⟨by decide,by decide,by rw [Jca];exact Nat.le_of_ble_eq_true rfl⟩,Jj (b:= .rp (List.drop (1+1) (JbH (l.getD i Jd)))) (congrArg AV.rp (by rw [Jca];rfl)) ?_⟩;refine Z ?_;exact Jb rfl Rf
 ·refine Z ?_;refine ⟨Bd, ?_⟩;refine Z ?_;refine ⟨⟨by decide,by decide,by rw [Jca];exact Nat.le_of_ble_eq_true rfl⟩,Jj (b:= .rp (List.drop (1+2) (JbH (l.getD i Jd)))) (congrArg AV.rp (by rw [Jca];rfl)) ?_⟩;refine Z ?_;intro c t;cases c
  ·have t:=Jw t;try dsimp only at t
   rw [if_neg (show ¬0≤(l.getD i Jd).num 2 by show ¬0≤(l.getD i Jd).a2;omega)];refine Z ?_;refine Jb rfl (Jf (Jq Om Om))
  ·have t:=Ju t;try dsimp only at t
   rw [if_pos (show 0≤(l.getD i Jd).num 2 by show 0≤(l.getD i Jd).a2;omega)];refine Z ?_;refine ⟨Bd, ?_⟩;refine Z ?_;refine ⟨⟨by decide,by decide,by rw [Jca];exact Nat.le_of_ble_eq_true rfl⟩,Jj (b:= .rp (List.drop (1+2) (JbH (l.getD i Jd)))) (congrArg AV.rp (by rw [Jca];rfl)) ?_⟩;refine Z ?_;exact Jb rfl Rf
 ·refine Z ?_;refine ⟨Bd, ?_⟩;refine Z ?_;refine ⟨⟨by decide,by decide,by rw [Jca];exact Nat.le_of_ble_eq_true rfl⟩,Jj (b:= .rp (List.drop (1+3) (JbH (l.getD i Jd)))) (congrArg AV.rp (by rw [Jca];rfl)) ?_⟩;refine Z ?_;intro c t;cases c
  ·have t:=Jw t;try dsimp only at t
   rw [if_neg (show ¬0≤(l.getD i Jd).num 3 by show ¬0≤(l.getD i Jd).a3;omega)];refine Z ?_;refine Jb rfl (Jf (Jq Om Om))
  ·have t:=Ju t;try dsimp only at t
   rw [if_pos (show 0≤(l.getD i Jd).num 3 by show 0≤(l.getD i Jd).a3;omega)];refine Z ?_;refine ⟨Bd, ?_⟩;refine Z ?_;refine ⟨⟨by decide,by decide,by rw [Jca];exact Nat.le_of_ble_eq_true rfl⟩,Jj (b:= .rp (List.drop (1+3) (JbH (l.getD i Jd)))) (congrArg AV.rp (by rw [Jca];rfl)) ?_⟩;refine Z ?_;exact Jb rfl Rf
 ·refine Z ?_;refine ⟨Bd, ?_⟩;refine Z ?_;refine ⟨⟨by decide,by decide,by rw [Jca];exact Nat.le_of_ble_eq_true rfl⟩,Jj (b:= .rp (List.drop (1+4) (JbH (l.getD i Jd)))) (congrArg AV.rp (by rw [Jca];rfl)) ?_⟩;refine Z ?_;intro c t;cases c
  ·have t:=Jw t;try dsimp only at t
   rw [if_neg (show ¬0≤(l.getD i Jd).num 4 by show ¬0≤(l.getD i Jd).a4;omega)];refine Z ?_;refine Jb rfl (Jf (Jq Om Om))
  ·have t:=Ju t;try dsimp only at t
   rw [if_pos (show 0≤(l.getD i Jd).num 4 by show 0≤(l.getD i Jd).a4;omega)];refine Z ?_;refine ⟨Bd, ?_⟩;refine Z ?_;refine ⟨⟨by decide,by decide,by rw [Jca];exact Nat.le_of_ble_eq_true rfl⟩,Jj (b:= .rp (List.drop (1+4) (JbH (l.getD i Jd)))) (congrArg AV.rp (by rw [Jca];rfl)) ?_⟩;refine Z ?_;exact Jb rfl Rf
theorem JB0 {r:TRow} {a i:Nat} {n:Int} (hn:0≤n):(Jv2 r a i ==n)=Jd8 a n r:=by
 unfold Jv2 Jd8
 rw [Bool.eq_iff_iff]
 simp only [beq_iff_eq,decide_eq_true_eq]
 split
 ·exact Iff.rfl
 ·constructor
  ·intro h;omega
  ·intro h;omega
theorem JrC (l:List TRow) (a:Nat) (ha:a < 5) (n:Int) (hn:0≤n) (hl:l.length≤1000000):Tells Tryz.prog 92 [JS l,int a,int n] (int (Jfo (l.findIdx? (Jd8 a n)))):=by
 refine Jc Tryz.func92 rfl rfl fun nx=> ?_
 refine Z ?_
 refine Js (fun s:Nat×Nat=> mk 21 [(0,JS l),(1,int a),(2,int n),(7,int s.1)] ⟨[], [],s.2,0⟩) (fun s=> s.1≤l.length∧∀j,j < s.1→Jd8 a n (l.getD j Jd)=false) (fun s=> l.length - s.1) ?_ ?_
 ·exact ⟨(0,nx),⟨Nat.zero_le _,fun j hj=> absurd hj (Nat.not_lt_zero j)⟩,JaM rfl rfl Y4⟩
 ·rintro ⟨i,nx2⟩ ⟨h3,h4⟩;dsimp only at h3 h4;refine Z ?_;intro c h5;cases c
  ·have h6:=Jw h5;dsimp only at h6;obtain rfl:i=l.length:=by omega
   refine Z ?_;refine Jb rfl (Jf ?_);rw [Jfn Jd h4];rfl
  ·have h6:=Ju h5;dsimp only at h6;have hi:i < l.length:=by omega
   have hnum:=Jp8 l a i ha hi hl;refine Z ?_;refine Ja rfl rfl hnum Y3 fun nx3=> ?_;refine Z ?_;intro c hc;have hc2:c=Jd8 a n (l.getD i Jd):=hc.trans (JB0 hn);clear hc;cases c
   ·refine Z ?_;exact back (i+1,nx3) ⟨hi,fun j hj=> by dsimp only at hj;rcases Nat.lt_or_ge j i with q | q;exact h4 j q;rw [show j=i by omega];exact hc2.symm⟩ Dm (JaM rfl rfl ⟨Rf,Rf,Rf,Jf (Jx Dm),Tt⟩)
   ·refine Z ?_;refine Jb rfl (Jf ?_);rw [Jhu Jd hi h4 hc2.symm];rfl
theorem JB1 {r:TRow} {m s:Int} (hm:m=1∨m=2):Jf0 m s r=(decide (r.mux=m)&& decide (r.sub=s)):=by
 unfold Jf0
 rw [decide_eq_true (by omega:m≠0),Bool.and_true]
theorem JjK (l:List TRow) (m:Int) (hm:m=1∨m=2) (s:Int) (hl:l.length≤1000000):Tells Tryz.prog 91 [JS l,int m,int s] (int (Jfo (l.findIdx? (Jf0 m s)))):=by
 have hge:decide (m≥1)=true:=decide_eq_true Om
 have hle:decide (m≤2)=true:=decide_eq_true Om
 refine Jc Tryz.func91 rfl rfl fun nx=> ?_
 refine Z ?_
 refine Js (fun q:Nat×Nat=> mk 39 [(0,JS l),(1,int m),(2,int s),(7,int q.1)] ⟨[], [],q.2,0⟩) (fun q=> q.1≤l.length∧∀j,j < q.1→Jf0 m s (l.getD j Jd)=false) (fun q=> l.length - q.1) ?_ ?_
 ·exact ⟨(0,nx),⟨Nat.zero_le _,fun j hj=> absurd hj (Nat.not_lt_zero j)⟩,JaM rfl rfl Y4⟩
 ·rintro ⟨i,nx2⟩ ⟨h3,h4⟩;dsimp only at h3 h4;refine Z ?_;intro c h5;cases c
  ·have h6:=Jw h5;dsimp only at h6;obtain rfl:i=l.length:=by omega
   refine Z ?_;refine Jb rfl (Jf ?_);rw [Jfn Jd h4];rfl
  ·have h6:=Ju h5;dsimp only at h6;have hi:i < l.length:=by omega
   have hsub:=JB1 (r:=l.getD i Jd) (s:=s) hm;refine Z ?_;intro c hc;obtain rfl:c=true:=hc.trans hge;refine Z ?_;intro c hc;obtain rfl:c=true:=hc.trans hle;refine Z ?_;refine ⟨Bd, ?_⟩;refine Z ?_;intro c hc;have hc2:c=decide ((l.getD i Jd).mux=m):=by rw [hc,Bool.eq_iff_iff];simp [Int.toNat_natCast]
   clear hc;rw [← hc2] at hsub;clear hc2;cases c
   ·refine Z ?_;exact back (i+1,nx2) ⟨hi,fun j hj=> by dsimp only at hj;rcases Nat.lt_or_ge j i with q | q;exact h4 j q;rw [show j=i by omega];exact hsub⟩ Dm (JaM rfl rfl ⟨Rf,Rf,Rf,Jf (Jx Dm),Tt⟩)
   ·rw [Bool.true_and] at hsub;refine Z ?_;refine ⟨Bd, ?_⟩;refine Z ?_;intro c hc;have hc2:c=decide ((l.getD i Jd).sub=s):=(by rw [hc,Bool.eq_iff_iff];simp [Int.toNat_natCast]);clear hc;rw [← hc2] at hsub;clear hc2;cases c
    ·refine Z ?_;exact back (i+1,nx2) ⟨hi,fun j hj=> by dsimp only at hj;rcases Nat.lt_or_ge j i with q | q;exact h4 j q;rw [show j=i by omega];exact hsub⟩ Dm (JaM rfl rfl ⟨Rf,Rf,Rf,Jf (Jx Dm),Tt⟩)
    ·refine Z ?_;refine Jb rfl (Jf ?_);rw [Jhu Jd hi h4 hsub];rfl
def atO (l:List TRow) (r:Rec):Option Nat:=match Jdp r.arch r.num with
 | none=> none
 | some a=> if 0 < Jcp a r.num then l.findIdx? (Jf0 (Jcp a r.num) ((r.a0 % 4294967296:Nat):Int)) else l.findIdx? (Jd8 a ((JfH a r.num:Nat):Int))
def JlW (r:Rec):Bool:=match Jdp r.arch r.num with
 | none=> false
 | some a=> decide (0 < Jcp a r.num)
def Jv3 (l:List TRow) (r:Rec):AV:= .ag [int (Jcf r.arch r.num),int (Jfo (atO l r)),Ji (JlW r)]
theorem JBw {x:Nat} (h:x < 18446744073709551616):IntKind.i64.wrap ((x:Int).tmod 4294967296)=((x % 4294967296:Nat):Int):=by
 have e:(x:Int).tmod 4294967296=((x % 4294967296:Nat):Int):=(Int.ofNat_tmod x 4294967296).symm
 rw [e]
 exact Jq Om Om
theorem JxL (l:List TRow) (r:Rec) (hr:r.ok) (hl:l.length≤1000000):Tells Tryz.prog 47 [JS l,Jja r] (Jv3 l r):=by
 have hsel:=Jp5 r.arch r.num hr.2.1 hr.1
 unfold Jv3 atO JlW
 unfold Jcf at hsel⊢
 cases hso:Jdp r.arch r.num with
 | none=>
   rw [hso] at hsel;dsimp only at hsel⊢;refine Jc Tryz.func47 rfl rfl fun nx=> ?_;refine Z ?_;refine Ja rfl rfl hsel Y2 fun nx2=> ?_;refine Z ?_;exact Jk rfl ⟨rfl,Tt⟩ Rf
 | some a=>
   rw [hso] at hsel;dsimp only at hsel⊢;have ha5:=Juz hso;have hat:=JrC l a ha5 ((JfH a r.num:Nat):Int) (Int.natCast_nonneg _) hl;have hown:=Jp6 a r.num hr.1;have hown2:JfH a r.num < 4294967296:=by have:=hr.1;unfold JfH;split <;> omega
   have ha0:=hr.2.2.2.1;have h102:=JjK l 1 (.inl rfl) ((r.a0 % 4294967296:Nat):Int) hl;have h117:=JjK l 2 (.inr rfl) ((r.a0 % 4294967296:Nat):Int) hl;clear hso;have hkd:Jcp a r.num=if a=2 then Jgk r.num else 0:=rfl;unfold Jgk at hkd;by_cases h2:a=2
   ·subst h2;rw [if_pos rfl] at hkd;by_cases q1:r.num=102
    ·rw [if_pos q1] at hkd;rw [hkd];refine Jc Tryz.func47 rfl rfl fun nx=> ?_;refine Z ?_;refine Ja rfl rfl hsel Y2 fun nx2=> ?_;refine Z ?_;intro c hc;obtain rfl:c=true:=hc.trans (by simp;omega);refine Z ?_;refine Ja rfl rfl h102 ⟨Rf,Rf,Jf (by rw [JBw ha0]),Tt⟩ fun nx3=> ?_;refine Z ?_;exact Jk rfl ⟨rfl,Tt⟩ Rf
    ·rw [if_neg q1] at hkd;by_cases q2:r.num=117
     ·rw [if_pos q2] at hkd;rw [hkd];refine Jc Tryz.func47 rfl rfl fun nx=> ?_;refine Z ?_;refine Ja rfl rfl hsel Y2 fun nx2=> ?_;refine Z ?_;intro c hc;obtain rfl:c=false:=hc.trans (by simp;omega);refine Z ?_;intro c hc;obtain rfl:c=true:=hc.trans (by simp;omega);refine Z ?_;refine Ja rfl rfl h117 ⟨Rf,Rf,Jf (by rw [JBw ha0]),Tt⟩ fun nx3=> ?_;refine Z ?_;exact Jk rfl ⟨rfl,Tt⟩ Rf
     ·rw [if_neg q2] at hkd;rw [hkd];refine Jc Tryz.func47 rfl rfl fun nx=> ?_;refine Z ?_;refine Ja rfl rfl hsel Y2 fun nx2=> ?_;refine Z ?_;intro c hc;obtain rfl:c=false:=hc.trans (by simp;omega);refine Z ?_;intro c hc;obtain rfl:c=false:=hc.trans (by simp;omega);refine Z ?_;refine Ja rfl rfl hown Y2 fun nx3=> ?_;refine Z ?_;refine Ja rfl rfl hat ⟨Rf,Rf,Jf (Jq Om Om),Tt⟩ fun nx4=> ?_;refine Z ?_;exact Jk rfl ⟨rfl,Tt⟩ Rf
   ·rw [if_neg h2] at hkd;rw [hkd];refine Jc Tryz.func47 rfl rfl fun nx=> ?_;refine Z ?_;refine Ja rfl rfl hsel Y2 fun nx2=> ?_;refine Z ?_;intro c hc;obtain rfl:c=false:=hc.trans (by simp;omega);refine Z ?_;intro c hc;obtain rfl:c=false:=hc.trans (by simp;omega);refine Z ?_;refine Ja rfl rfl hown Y2 fun nx3=> ?_;refine Z ?_;refine Ja rfl rfl hat ⟨Rf,Rf,Jf (Jq Om Om),Tt⟩ fun nx4=> ?_;refine Z ?_;exact Jk rfl ⟨rfl,Tt⟩ Rf
theorem JxM {r:Rec} (h:r.ok) (k:Nat):r.arg k < 18446744073709551616:=by
 obtain ⟨_,_,_,h0,h1,h2,h3,h4,h5⟩:=h
 unfold Rec.arg;split <;> assumption
def Jhx (r:TRow):Bool:=decide (r.mux < 0)|| (decide (2 < r.mux)|| ((decide (r.mux=0)&& decide (r.sub≠0))|| (decide (0 < r.mux)&& (decide (r.sub < 1)|| decide (255 < r.sub)))))
theorem Jkb (r:TRow):Jdt r=(!JgE r&& !Jhx r):=by
 unfold Jdt
 congr 1
 unfold Jhx
 by_cases h:r.mux=0
 ·rw [if_pos h,h];simp
 ·rw [if_neg h,Bool.eq_iff_iff];simp;omega
def Jix (r s:TRow):Bool:= [0,1,2,3,4].any fun a=> decide (0≤r.num a)&& decide (s.num a=r.num a)
def Jkc (r s:TRow):Bool:=decide (0 < r.mux)&& (decide (s.mux=r.mux)&& decide (s.sub=r.sub))
def JdP (l:List TRow) (i:Nat):Bool:=(l.take i).any fun s=> Jix (l.getD i Jd) s|| Jkc (l.getD i Jd) s
def Jjf (r:TRow):Bool:=decide (r.a2=102)|| decide (r.a2=117)
def Jei (l:List TRow) (i:Nat):Int:=if JaQ (l.getD i Jd).name.data.toList=false then 13 else if Jc5 l i then 15 else if JgE (l.getD i Jd) then 16 else if Jhx (l.getD i Jd) then 16 else if Jjf (l.getD i Jd) then 17 else if JdP l i then 15 else 0
theorem JuG {l:List TRow} {i:Nat} (h:JaQ (l.getD i Jd).name.data.toList=false):Jei l i=13:=if_pos h
theorem JrD {l:List TRow} {i:Nat} (h:JaQ (l.getD i Jd).name.data.toList=true):Jei l i=if Jc5 l i then 15 else if JgE (l.getD i Jd) then 16 else if Jhx (l.getD i Jd) then 16 else if Jjf (l.getD i Jd) then 17 else if JdP l i then 15 else 0:=if_neg (by rw [h];decide)
theorem Jv4 {l:List TRow} {i k:Nat} {r:TRow} (hr:l.getD i Jd=r) (hk:k < i) (hi:i < l.length) (h:(Jix r (l.getD k Jd)|| Jkc r (l.getD k Jd))=true):JdP l i=true:=by
 unfold JdP
 rw [hr,List.any_eq_true]
 refine ⟨l.getD k Jd, ?_,h⟩
 rw [List.mem_iff_getElem]
 exact ⟨k,by rw [List.length_take];omega,by rw [List.getElem_take];simp [List.getD,show k < l.length by omega]⟩
def cN (r s:TRow) (a:Nat):Bool:=decide (r.num a≥0)&& decide (s.num a=r.num a)
theorem JtK {r s:TRow} {a:Nat} (ha:a < 5) (h:cN r s a=true):Jix r s=true:=by
 unfold Jix
 rw [List.any_eq_true]
 exact ⟨a,by simp;omega,h⟩
theorem Jz8 {r:TRow} {k:Nat} (hk:k < 5) (h:true=Jfp (r.num k)):JgE r=true:=by
 rcases (by omega:k=0∨k=1∨k=2∨k=3∨k=4) with rfl | rfl | rfl | rfl | rfl
 all_goals
  have h':Jfp (r.num _)=true:=h.symm;simp only [TRow.num] at h';simp [JgE,h']
def Jiy (l:List TRow):Int×Int:=if 400 < l.length then (0,3) else match (List.range l.length).find? (fun i=> decide (Jei l i≠0)) with
 | some i=> ((i:Int),Jei l i)
 | none=> (0,0)
theorem Jm1 {n:Nat} {p:Nat→Bool} {i:Nat} (hi:i < n) (h:∀j,j < i→p j=false) (hp:p i=true):(List.range n).find? p=some i:=by
 rw [List.find?_range_eq_some]
 exact ⟨hp,List.mem_range.2 hi,fun j hj=> by rw [h j hj];rfl⟩
theorem JtL {n:Nat} {p:Nat→Bool} (h:∀j,j < n→p j=false):(List.range n).find? p=none:=by
 rw [List.find?_eq_none]
 intro x hx
 rw [h x (List.mem_range.1 hx)];decide
def JrE (l:List TRow) (k:Nat) (S:Jcw):Prop:=(∀(a:Nat) (n:Int),a < 5→(((a:Int),n)∈S↔n≠-1∧∃j,j < k∧(l.getD j Jd).num a=n))∧(∀m s:Int,m=1∨m=2→((5+m,s)∈S↔∃j,j < k∧(l.getD j Jd).mux=m∧(l.getD j Jd).sub=s))
theorem Jm2 {r:TRow} {S:Jcw}:∀ {k:Nat},Jbg r S k=none→∃a,a < k∧r.num a≠-1∧((a:Int),r.num a)∈S
 | 0,h=> by unfold Jbg at h;cases h
 | k+1,h=> by
   unfold Jbg at h;cases hk:Jbg r S k with
   | none=> obtain ⟨a,h1,h2⟩:=Jm2 hk;exact ⟨a,Om,h2⟩
   | some S'=>
     rw [hk] at h;dsimp only at h;split at h
     ·cases h
     ·rename_i hn
      split at h
      ·rename_i hm
       refine ⟨k,Nat.lt_succ_self _,hn, ?_⟩;have:∀ {m:Nat} {S':Jcw},Jbg r S m=some S'→∀x∈S',x∈S∨∃a,a < m∧x=((a:Int),r.num a):=by
        intro m
        induction m with
        | zero=> intro S' h x hx;unfold Jbg at h;cases h;exact .inl hx
        | succ m ih=>
          intro S' h x hx;unfold Jbg at h;cases hm:Jbg r S m with
          | none=> rw [hm] at h;cases h
          | some S1=>
            rw [hm] at h;dsimp only at h;split at h
            ·cases h;rcases ih hm x hx with q | ⟨a,q1,q2⟩
             ·exact .inl q
             ·exact .inr ⟨a,Om,q2⟩
            ·split at h
             ·cases h
             ·cases h;rcases List.mem_append.1 hx with hx | hx
              ·rcases ih hm x hx with q | ⟨a,q1,q2⟩
               ·exact .inl q
               ·exact .inr ⟨a,Om,q2⟩
              ·exact .inr ⟨m,Nat.lt_succ_self _,List.mem_singleton.1 hx⟩
       rcases this hk _ hm with q | ⟨a,q1,q2⟩
       ·exact q
       ·have:=congrArg Prod.fst q2;dsimp only at this;omega
      ·cases h
theorem Jm3 {r:TRow} {S:Jcw}:∀ {k:Nat} {S':Jcw},Jbg r S k=some S'→(∀x,x∈S'↔x∈S∨∃a,a < k∧r.num a≠-1∧x=((a:Int),r.num a))∧∀a,a < k→r.num a≠-1→¬((a:Int),r.num a)∈S
 | 0,S',h=> by
   unfold Jbg at h;cases h;exact ⟨fun x=> ⟨.inl,fun q=> by rcases q with q | ⟨a,q,_⟩;exact q;omega⟩,fun a ha=> by omega⟩
 | k+1,S',h=> by
   unfold Jbg at h;cases hk:Jbg r S k with
   | none=> rw [hk] at h;cases h
   | some S1=>
     rw [hk] at h;dsimp only at h;obtain ⟨i1,i2⟩:=Jm3 hk;split at h
     ·rename_i hn
      cases h;refine ⟨fun x=> (i1 x).trans ⟨fun q=> ?_,fun q=> ?_⟩,fun a ha hna=> ?_⟩
      ·rcases q with q | ⟨a,q1,q2⟩
       ·exact .inl q
       ·exact .inr ⟨a,Om,q2⟩
      ·rcases q with q | ⟨a,q1,q2⟩
       ·exact .inl q
       ·rcases Nat.lt_or_ge a k with w | w
        ·exact .inr ⟨a,w,q2⟩
        ·rw [show a=k by omega] at q2;exact absurd hn q2.1
      ·rcases Nat.lt_or_ge a k with w | w
       ·exact i2 a w hna
       ·rw [show a=k by omega] at hna;exact absurd hn hna
     ·rename_i hn
      split at h
      ·cases h
      ·rename_i hm
       cases h;refine ⟨fun x=> ?_,fun a ha hna=> ?_⟩
       ·rw [List.mem_append,i1,List.mem_singleton]
        constructor
        ·rintro ((q | ⟨a,q1,q2⟩) | q)
         ·exact .inl q
         ·exact .inr ⟨a,Om,q2⟩
         ·exact .inr ⟨k,Nat.lt_succ_self _,hn,q⟩
        ·rintro (q | ⟨a,q1,q2,q3⟩)
         ·exact .inl (.inl q)
         ·rcases Nat.lt_or_ge a k with w | w
          ·exact .inl (.inr ⟨a,w,q2,q3⟩)
          ·rw [show a=k by omega] at q3;exact .inr q3
       ·rcases Nat.lt_or_ge a k with w | w
        ·exact i2 a w hna
        ·rw [show a=k by omega];exact fun q=> hm ((i1 _).2 (.inl q))
theorem JhZ {l:List TRow} {i:Nat} (hi:i < l.length):JdP l i=true↔∃j,j < i∧((∃a,a < 5∧0≤(l.getD i Jd).num a∧(l.getD j Jd).num a=(l.getD i Jd).num a)∨(0 < (l.getD i Jd).mux∧(l.getD j Jd).mux=(l.getD i Jd).mux∧(l.getD j Jd).sub=(l.getD i Jd).sub)):=by
 constructor
 ·intro h;unfold JdP at h;rw [List.any_eq_true] at h;obtain ⟨s,hs,h⟩:=h;obtain ⟨j,hj,rfl⟩:=List.mem_iff_getElem.1 hs;rw [List.length_take] at hj;rw [List.getElem_take] at h;have hg:l.getD j Jd=l[j]:=by simp [List.getD,show j < l.length by omega]
  refine ⟨j,Om, ?_⟩;rw [hg];rw [Bool.or_eq_true] at h;rcases h with h | h
  ·left
   unfold Jix at h;rw [List.any_eq_true] at h;obtain ⟨a,ha,h⟩:=h;rw [Bool.and_eq_true,decide_eq_true_iff,decide_eq_true_iff] at h;exact ⟨a,by simp at ha;omega,h⟩
  ·right
   unfold Jkc at h;rw [Bool.and_eq_true,Bool.and_eq_true,decide_eq_true_iff,decide_eq_true_iff,decide_eq_true_iff] at h;exact h
 ·rintro ⟨j,hj,h⟩;refine Jv4 rfl hj hi ?_;rw [Bool.or_eq_true];rcases h with ⟨a,ha,h1,h2⟩ | ⟨h1,h2,h3⟩
  ·exact .inl (JtK ha (by unfold cN;rw [decide_eq_true h1,decide_eq_true h2];rfl))
  ·exact .inr (by unfold Jkc;rw [decide_eq_true h1,decide_eq_true h2,decide_eq_true h3];rfl)
theorem JB2 {r:TRow} (h:JgE r=false) {a:Nat} (ha:a < 5):-1≤r.num a:=by
 have:Jfp (r.num a)=false:=by
  cases hq:Jfp (r.num a) with
  | false=> rfl
  | true=> rw [Jz8 ha hq.symm] at h;cases h
 unfold Jfp at this
 rw [Bool.or_eq_false_iff,decide_eq_false_iff_not] at this
 omega
theorem JuH {l:List TRow} {i:Nat} {S:Jcw} (hi:i < l.length) (hS:JrE l i S):(Jei l i=0→∃S',JfJ l i S= .ok S'∧JrE l (i+1) S')∧(Jei l i≠0→∃e,JfJ l i S= .error e∧e≠0):=by
 obtain ⟨s1,s2⟩:=hS
 cases hn:JaQ (l.getD i Jd).name.data.toList with
 | false=> rw [JuG hn];exact ⟨(fun h=> by cases h),fun _=> ⟨13,JuB hn,by decide⟩⟩
 | true=>
   rw [JrD hn];cases ho:Jc5 l i with
   | true=> rw [if_pos rfl];exact ⟨(fun h=> by cases h),fun _=> ⟨15,JuC hn ho,by decide⟩⟩
   | false=>
     rw [if_neg Dc];cases hb:JgE (l.getD i Jd) with
     | true=>
       rw [if_pos rfl];exact ⟨(fun h=> by cases h),fun _=> ⟨16,Jn6 hn ho (by rw [Jkb,hb];rfl),by decide⟩⟩
     | false=>
       rw [if_neg Dc];cases hm:Jhx (l.getD i Jd) with
       | true=>
         rw [if_pos rfl];exact ⟨(fun h=> by cases h),fun _=> ⟨16,Jn6 hn ho (by rw [Jkb,hb,hm];rfl),by decide⟩⟩
       | false=>
         rw [if_neg Dc];have hrg:Jdt (l.getD i Jd)=true:=(by rw [Jkb,hb,hm];rfl);cases ha:Jjf (l.getD i Jd) with
         | true=>
           rw [if_pos rfl];have ha':(l.getD i Jd).a2=102∨(l.getD i Jd).a2=117:=(by unfold Jjf at ha;simpa using ha);exact ⟨(fun h=> by cases h),fun _=> ⟨17,Jn7 hn ho hrg ha',by decide⟩⟩
         | false=>
           rw [if_neg Dc];have ha':¬((l.getD i Jd).a2=102∨(l.getD i Jd).a2=117):=fun q=> by
            unfold Jjf at ha;rcases q with q | q
            ·rw [decide_eq_true q] at ha;cases ha
            ·rw [decide_eq_true q,Bool.or_true] at ha;cases ha
           rw [Jo3 hn ho hrg ha'];cases hns:Jbg (l.getD i Jd) S 5 with
           | none=>
             obtain ⟨a,h1,h2,h3⟩:=Jm2 hns;obtain ⟨_,j,hj,h4⟩:=(s1 a _ h1).1 h3;have hc:JdP l i=true:=(JhZ hi).2 ⟨j,hj, .inl ⟨a,h1,by have:=JB2 hb h1;omega,h4⟩⟩;rw [hc,if_pos rfl];exact ⟨(fun h=> by cases h),fun _=> ⟨15,rfl,by decide⟩⟩
           | some S1=>
             obtain ⟨i1,i2⟩:=Jm3 hns;dsimp only;have hnoN:∀j,j < i→∀a,a < 5→0≤(l.getD i Jd).num a→(l.getD j Jd).num a≠(l.getD i Jd).num a:=fun j hj a h1 h2 h3=> i2 a h1 Om ((s1 a _ h1).2 ⟨Om,j,hj,h3⟩);have hS1:∀(a:Nat) (n:Int),a < 5→(((a:Int),n)∈S1↔n≠-1∧∃j,j < i+1∧(l.getD j Jd).num a=n):=fun a n h5=> by
              rw [i1,s1 a n h5]
              constructor
              ·rintro (⟨q1,j,q2,q3⟩ | ⟨b,q1,q2,q3⟩)
               ·exact ⟨q1,j,Om,q3⟩
               ·have e1:a=b:=(by have:=congrArg Prod.fst q3;dsimp only at this;omega);have e2:n=(l.getD i Jd).num b:=congrArg Prod.snd q3;subst e1;exact ⟨by rw [e2];exact q2,i,Nat.lt_succ_self _,e2.symm⟩
              ·rintro ⟨q1,j,q2,q3⟩;rcases Nat.lt_or_ge j i with w | w
               ·exact .inl ⟨q1,j,w,q3⟩
               ·have e:j=i:=(by omega);subst e;exact .inr ⟨a,h5,by rw [q3];exact q1,by rw [q3]⟩
             unfold Jka;by_cases hm0:(l.getD i Jd).mux=0
             ·rw [if_pos hm0];have hc:JdP l i=false:=by
               rw [Bool.eq_false_iff,Ne,JhZ hi];rintro ⟨j,hj,⟨a,h1,h2,h3⟩ | ⟨h1,_⟩⟩
               ·exact hnoN j hj a h1 h2 h3
               ·omega
              rw [hc,if_neg Dc];refine ⟨fun _=> ⟨S1,rfl,hS1,fun m s hms=> ?_⟩,fun h=> absurd rfl h⟩;rw [i1,s2 m s hms]
              constructor
              ·rintro (⟨j,q2,q3⟩ | ⟨b,q1,q2,q3⟩)
               ·exact ⟨j,Om,q3⟩
               ·have:=congrArg Prod.fst q3;dsimp only at this;omega
              ·rintro ⟨j,q2,q3,q4⟩;rcases Nat.lt_or_ge j i with w | w
               ·exact .inl ⟨j,w,q3,q4⟩
               ·have e:j=i:=(by omega);subst e;omega
             ·rw [if_neg hm0];have hm12:=JmW hrg hm0;by_cases hin:(5+(l.getD i Jd).mux,(l.getD i Jd).sub)∈S1
              ·rw [if_pos hin];have hinS:(5+(l.getD i Jd).mux,(l.getD i Jd).sub)∈S:=by
                rcases (i1 _).1 hin with q | ⟨b,q1,q2,q3⟩
                ·exact q
                ·have:=congrArg Prod.fst q3;dsimp only at this;omega
               obtain ⟨j,hj,q1,q2⟩:=(s2 _ _ hm12).1 hinS;have hc:JdP l i=true:=(JhZ hi).2 ⟨j,hj, .inr ⟨Om,q1,q2⟩⟩;rw [hc,if_pos rfl];exact ⟨(fun h=> by cases h),fun _=> ⟨15,rfl,by decide⟩⟩
              ·rw [if_neg hin];have hc:JdP l i=false:=by
                rw [Bool.eq_false_iff,Ne,JhZ hi];rintro ⟨j,hj,⟨a,h1,h2,h3⟩ | ⟨h1,h2,h3⟩⟩
                ·exact hnoN j hj a h1 h2 h3
                ·exact hin ((i1 _).2 (.inl ((s2 _ _ hm12).2 ⟨j,hj,h2,h3⟩)))
               rw [hc,if_neg Dc];refine ⟨fun _=> ⟨_,rfl,fun a n h5=> ?_,fun m s hms=> ?_⟩,fun h=> absurd rfl h⟩
               ·rw [List.mem_append,hS1 a n h5,List.mem_singleton]
                constructor
                ·rintro (q | q)
                 ·exact q
                 ·have:=congrArg Prod.fst q;dsimp only at this;omega
                ·exact .inl
               ·rw [List.mem_append,i1,s2 m s hms,List.mem_singleton]
                constructor
                ·rintro ((⟨j,q2,q3⟩ | ⟨b,q1,q2,q3⟩) | q)
                 ·exact ⟨j,Om,q3⟩
                 ·have:=congrArg Prod.fst q3;dsimp only at this;omega
                 ·have e1:=congrArg Prod.fst q;have e2:=congrArg Prod.snd q;dsimp only at e1 e2;exact ⟨i,Nat.lt_succ_self _,Om,e2.symm⟩
                ·rintro ⟨j,q2,q3,q4⟩;rcases Nat.lt_or_ge j i with w | w
                 ·exact .inl (.inl ⟨j,w,q3,q4⟩)
                 ·have e:j=i:=(by omega);subst e;exact .inr (by rw [q3,q4])
theorem JlX {l:List TRow}:∀ {k:Nat},k≤l.length→(∀j,j < k→Jei l j=0)→∃S,Jep l k= .ok S∧JrE l k S
 | 0,_,_=> ⟨[],rfl,fun a n _=> by simp,fun m s _=> by simp⟩
 | k+1,hk,h=> by
   obtain ⟨S,h1,h2⟩:=JlX (k:=k) Om fun j hj=> h j Om;obtain ⟨S',h3,h4⟩:=(JuH Om h2).1 (h k Om);exact ⟨S',Jo2 h1 h3,h4⟩
theorem Jo4 {l:List TRow}:(∀j,j < l.length→Jei l j=0)∨∃i,i < l.length∧Jei l i≠0∧∀j,j < i→Jei l j=0:=by
 have:∀n,n≤l.length→(∀j,j < n→Jei l j=0)∨∃i,i < l.length∧Jei l i≠0∧∀j,j < i→Jei l j=0:=by
  intro n
  induction n with
  | zero=> exact fun _=> .inl fun j hj=> absurd hj (Nat.not_lt_zero j)
  | succ n ih=>
    intro hn;rcases ih Om with h | h
    ·by_cases q:Jei l n=0
     ·exact .inl fun j hj=> by rcases Nat.lt_or_ge j n with w | w;exact h j w;rw [show j=n by omega];exact q
     ·exact .inr ⟨n,Om,q,h⟩
    ·exact .inr h
 exact this _ (Nat.le_refl _)
theorem JxN (l:List TRow):(Jcx l).2=0↔(Jiy l).2=0:=by
 by_cases h4:400 < l.length
 ·unfold Jcx Jiy;rw [if_pos h4,if_pos h4]
 ·rcases Jo4 (l:=l) with h | ⟨i,hi,h1,h2⟩
  ·obtain ⟨S,hS,-⟩:=JlX (Nat.le_refl _) h;rw [JxF h4 hS];unfold Jiy;rw [if_neg h4,JtL (fun j hj=> decide_eq_false (fun q=> q (h j hj)))]
  ·obtain ⟨S,hS,hs⟩:=JlX (k:=i) Om h2;obtain ⟨e,he,hne⟩:=(JuH hi hs).2 h1;rw [JuA h4 hi hS he];unfold Jiy;rw [if_neg h4,Jm1 (p:=fun i=> decide (Jei l i≠0)) hi (fun j hj=> decide_eq_false (fun q=> q (h2 j hj))) (decide_eq_true h1)];exact ⟨fun q=> absurd q hne,fun q=> absurd q h1⟩
theorem Jdz {l:List TRow} (h:(Jcx l).2=0):l.length≤400∧∀j,j < l.length→Jei l j=0:=by
 rw [JxN] at h
 unfold Jiy at h
 by_cases h4:400 < l.length
 ·rw [if_pos h4] at h;cases h
 ·rcases Jo4 (l:=l) with q | ⟨i,hi,h1,h2⟩
  ·exact ⟨Om,q⟩
  ·rw [if_neg h4,Jm1 (p:=fun i=> decide (Jei l i≠0)) hi (fun j hj=> decide_eq_false (fun q=> q (h2 j hj))) (decide_eq_true h1)] at h;exact absurd h h1
theorem JeB {l:List TRow} {i:Nat} (h:Jei l i=0):JaQ (l.getD i Jd).name.data.toList=true∧Jc5 l i=false∧JgE (l.getD i Jd)=false∧Jhx (l.getD i Jd)=false∧Jjf (l.getD i Jd)=false∧JdP l i=false:=by
 cases hn:JaQ (l.getD i Jd).name.data.toList with
 | false=> rw [JuG hn] at h;cases h
 | true=>
   rw [JrD hn] at h;split at h
   ·cases h
   split at h
   ·cases h
   split at h
   ·cases h
   split at h
   ·cases h
   split at h
   ·cases h
   simp_all
theorem JgV {l:List TRow} (h:(Jcx l).2=0):Joa l:=by
 obtain ⟨_,hr⟩:=Jdz h
 have step:∀i,i+1 < l.length→Go.Sort.ltStr (l.getD i Jd).name.data.toList (l.getD (i+1) Jd).name.data.toList=true:=fun i hi=> by
  have:=(JeB (hr (i+1) hi)).2.1;unfold Jc5 at this;rw [decide_eq_true (Nat.succ_pos i),Bool.true_and] at this;exact JDu this
 intro i j hij hj
 have:∀n,i+1+n < l.length→Go.Sort.ltStr (l.getD i Jd).name.data.toList (l.getD (i+1+n) Jd).name.data.toList=true:=by
  intro n
  induction n with
  | zero=> exact step i
  | succ n ih=> exact fun hn=> Go.Sort.swo_ltStr.trans _ _ _ (ih Om) (step (i+1+n) Om)
 have:=this (j - i - 1) Om
 rwa [show i+1+(j - i - 1)=j by omega] at this
theorem Jz9 {l:List TRow} (h:(Jcx l).2=0) {i:Nat} (hi:i < l.length):(l.getD i Jd).name.size≠0:=by
 have:=(JeB ((Jdz h).2 i hi)).1
 have:=((JxK _).1 this).1
 exact this
def nameR (l:List TRow) (r:Rec):ByteArray:=(ofI l r).name
def JEM (l:List TRow) (s:ByteArray) (rs:List Rec):List Rec:=rs.filter fun r=> kS s (nameR l r)
def JAa (l:List TRow) (r:Rec) (k:Nat):Nat:=JbI (ofI l r).abi.toNat r k
def OwnOk (l:List TRow) (rs:List Rec) (g:Gat):Prop:=∃r0 rest,JEM l g.name rs=r0::rest∧g.m=rest.length+1∧(∀k,g.a k=JAa l r0 k)∧∀k,g.b k=rest.all fun r=> decide (JAa l r0 k=JAa l r k)
structure GInv (l:List TRow) (rs:List Rec) (S:List Gat×Bool):Prop where
 nd:(S.1.map Gat.name).Nodup
 nz:∀g∈S.1,g.name.size≠0
 own:∀g∈S.1,OwnOk l rs g
 all:∀r∈rs,(nameR l r).size≠0→∃g∈S.1,g.name=nameR l r
 x:S.2=rs.any fun r=> decide ((nameR l r).size≠0)&& decide ((ofI l r).abi=1)
def RSb (a b:List UInt8):Prop:=Go.Sort.ltStr a b=true
theorem JkX (x:List UInt8):¬RSb x x:=by unfold RSb;rw [Go.Sort.swo_ltStr.irrefl];decide
theorem JDz (x y z:List UInt8) (h:RSb x y) (k:RSb y z):RSb x z:=Go.Sort.swo_ltStr.trans x y z h k
theorem Jm4:∀ {a b:List (List UInt8)},a.Pairwise RSb→b.Pairwise RSb→(∀z,z∈a↔z∈b)→a=b
 | [], [],_,_,_=> rfl
 | [],y::b,_,_,h=> by have:=(h y).2 (.head _);cases this
 | x::a, [],_,_,h=> by have:=(h x).1 (.head _);cases this
 | x::a,y::b,ha,hb,h=> by
   rw [List.pairwise_cons] at ha hb;have hxy:x=y:=by
    rcases List.mem_cons.1 ((h x).1 (.head _)) with e | hx
    ·exact e
    ·rcases List.mem_cons.1 ((h y).2 (.head _)) with e | hy
     ·exact e.symm
     ·exact absurd (JDz _ _ _ (ha.1 y hy) (hb.1 x hx)) (JkX x)
   subst hxy;rw [Jm4 ha.2 hb.2 fun z=> ⟨fun hz=> ?_,fun hz=> ?_⟩]
   ·rcases List.mem_cons.1 ((h z).1 (.tail _ hz)) with e | q
    ·subst e;exact absurd (ha.1 _ hz) (JkX _)
    ·exact q
   ·rcases List.mem_cons.1 ((h z).2 (.tail _ hz)) with e | q
    ·subst e;exact absurd (hb.1 _ hz) (JkX _)
    ·exact q
theorem JxO {l:List TRow} {r:Rec} {i:Nat} (h:atO l r=some i):i < l.length:=by
 unfold atO at h
 cases hs:Jdp r.arch r.num with
 | none=> rw [hs] at h;cases h
 | some a=>
   rw [hs] at h;dsimp only at h;split at h <;> exact JDt h
def JeV (p:Pol) (l:List TRow) (r:Rec):A2:=if (!(ofI l r).some|| (decide ((ofI l r).abi=1)&& !p.x32))=true then (1,0) else if (ofI l r).name.size=0 then p.dflt else if (ofI l r).muxed=true then JbL p (ofI l r).name else Je5 p (ofI l r).name (JbI (ofI l r).abi.toNat r)
def Jv5 (p:Pol):Prop:=p.rules.length≤1000000∧∀r∈p.rules,r.conds.length≤1000000∧∀c∈r.conds,c.ok
theorem JB3 {r:Rec} (h:r.ok) (a k:Nat):JbI a r k < 18446744073709551616:=by
 have:=JxM h k
 unfold JbI;split <;> omega
def JX (a:A2):Nat:=kb (a.1.toNat - 1)+a.2.toNat
theorem Jik {k n:Int} (h:Ja7 k n=true):∃k' n':Nat,k=(k'+1:Nat)∧n=(n':Nat)∧k' < 8∧n'≤km k':=by
 unfold Ja7 at h
 simp only [Bool.and_eq_true,decide_eq_true_eq] at h
 obtain ⟨⟨⟨h1,h2⟩,h3⟩,h4⟩:=h
 refine ⟨(k - 1).toNat,n.toNat,Om,Om,Om, ?_⟩
 unfold JmU at h4
 unfold km
 split at h4
 ·rw [if_pos Om];omega
 ·split at h4
  ·rw [if_neg Om,if_pos Om];omega
  ·rw [if_neg Om,if_neg Om];omega
theorem JuI (a:A2) (h:Ja7 a.1 a.2=true):Tells Tryz.prog 66 [Jn4 a] (.tup [u32 (JX a:Nat),int 0]):=by
 obtain ⟨k,n⟩:=a
 obtain ⟨k',n',rfl,rfl,h1,h2⟩:=Jik h
 have:=JvZ k' n' h1 h2
 unfold JX
 dsimp only
 rw [show ((k'+1:Nat):Int).toNat - 1=k' by omega,show ((n':Nat):Int).toNat=n' by omega]
 exact this
theorem JAb {a:A2} (h:Ja7 a.1 a.2=true):JX a < 4294967296:=by
 obtain ⟨k,n⟩:=a
 obtain ⟨k',n',rfl,rfl,h1,h2⟩:=Jik h
 have:=JvY h1
 unfold JX
 dsimp only
 rw [show ((k'+1:Nat):Int).toNat - 1=k' by omega,show ((n':Nat):Int).toNat=n' by omega]
 omega
theorem JfK {p:Pol} (h:Ja8 p=true):Ja7 p.dflt.1 p.dflt.2=true∧∀r∈p.rules,JaJ r=true:=by
 unfold Ja8 at h
 simp only [Bool.and_eq_true,decide_eq_true_eq,Bool.not_eq_true',List.any_eq_false,Bool.not_eq_false'] at h
 refine ⟨h.1,fun r hr=> ?_⟩
 have:=h.2.2 r hr
 simpa using this
theorem JgW {r:Rul} (h:JaJ r=true):Ja7 r.act.1 r.act.2=true:=by
 unfold JaJ at h
 simp only [Bool.and_eq_true] at h
 exact h.2.1
theorem Jlo {p:Pol} (h:Ja8 p=true) (nm:ByteArray):Ja7 (JbL p nm).1 (JbL p nm).2=true:=by
 obtain ⟨h1,h2⟩:=JfK h
 unfold JbL
 cases hf:p.rules.find? (fun r=> kS r.name nm) with
 | none=> exact h1
 | some r=>
   dsimp only;split
   ·exact JgW (h2 r (List.mem_of_find?_eq_some hf))
   ·exact h1
theorem JxP {p:Pol} (h:Ja8 p=true) (nm:ByteArray) (x:Nat→Nat):Ja7 (Je5 p nm x).1 (Je5 p nm x).2=true:=by
 obtain ⟨h1,h2⟩:=JfK h
 unfold Je5
 cases hf:p.rules.find? (fun r=> kS r.name nm&& JcU x r) with
 | none=> exact h1
 | some r=> exact JgW (h2 r (List.mem_of_find?_eq_some hf))
theorem JrF {p:Pol} (h:Ja8 p=true) (l:List TRow) (r:Rec):Ja7 (JeV p l r).1 (JeV p l r).2=true:=by
 unfold JeV
 split
 ·decide
 ·split
  ·exact (JfK h).1
  ·split
   ·exact Jlo h _
   ·exact JxP h _ _
def JdQ (c:Cnd):Bool:=decide ((Jbd c).2=2)
def Jhy (c:Cnd):Option Cnd:=if (Jbd c).2=0 then some (Jbd c).1 else none
def Je6 (r:PRul):Option PRul:=if r.conds.any JdQ then none else some ⟨r.conds.filterMap Jhy,r.code⟩
def JgF (a:Nat) (r:PRul):Option PRul:=if a=2 then Je6 r else some r
def Jdn (a:Nat):List PRul→List PRul
 | []=> []
 | r::l=> match JgF a r with
   | none=> Jdn a l
   | some q=> if q.conds.length=0 then [q] else q::Jdn a l
def JgG (d:Nat) (l:List PRul):List PRul:=(l.reverse.dropWhile fun r=> decide (r.code=d)).reverse
def Jcq (a:Nat) (l:List PRul) (d:Nat):List PRul:=JgG d (Jdn a l)
def Jbr (x:Nat→Nat) (l:List PRul):Option Nat:=(l.find? fun r=> r.conds.all (hB x)).map (·.code)
theorem Jv6 {x:Nat→Nat} (l m:List PRul):Jbr x (l++m)=(Jbr x l).or (Jbr x m):=by
 unfold Jbr
 rw [List.find?_append]
 cases l.find? fun r=> r.conds.all (hB x) <;> rfl
theorem Jkd {d:Nat} {l:List PRul} {r:PRul}:JgG d (l++ [r])=if r.code=d then JgG d l else l++ [r]:=by
 unfold JgG
 rw [List.reverse_append,List.reverse_singleton,List.singleton_append,List.dropWhile_cons]
 by_cases h:r.code=d
 ·rw [if_pos (decide_eq_true h),if_pos h]
 ·rw [if_neg (by simpa using h),if_neg h,List.reverse_cons,List.reverse_reverse]
theorem Jm5 {x:Nat→Nat} {d:Nat}:∀(k:Nat) (l:List PRul),l.length≤k→(Jbr x (JgG d l)).getD d=(Jbr x l).getD d
 | 0,l,h=> by rw [List.length_eq_zero_iff.1 (by omega:l.length=0)];rfl
 | k+1,l,h=> by
   rcases List.eq_nil_or_concat l with rfl | ⟨l',r,rfl⟩
   ·rfl
   ·rw [List.concat_eq_append] at h⊢;rw [Jkd];split
    ·rename_i hd
     rw [List.length_append,List.length_singleton] at h;rw [Jm5 k l' Om,Jv6];cases Jbr x l' with
     | some a=> rfl
     | none=>
       unfold Jbr;rw [List.find?_cons];cases r.conds.all (hB x) <;> simp [hd]
    ·rfl
def PRul.ok (r:PRul):Prop:=∀c∈r.conds,c.ok∧NFm c
theorem JxQ {x:Nat→Nat} (hx:∀i,x i < 4294967296) {c:Cnd} (ho:c.ok) (hc:NFm c):((Jbd c).2=1→hB x c=true)∧((Jbd c).2=2→hB x c=false)∧((Jbd c).2=0→hB x (Jbd c).1=hB x c):=by
 have h4: [x 0,x 1,x 2,x 3,x 4,x 5].getD c.arg.toNat 0 < 4294967296:=by
  rcases c.arg.toNat with _ | _ | _ | _ | _ | _ | k
  all_goals first | exact hx _ | exact (by decide:(0:Nat) < 4294967296)
 have h:=JoW ho hc h4
 unfold hB
 rw [hc.1,Bool.true_and]
 refine ⟨h.1,h.2.1,fun h0=> ?_⟩
 obtain ⟨k1,k2,k3⟩:=h.2.2 h0
 rw [k1,k2,k3,Bool.true_and]
theorem Jm6 (c:Cnd):(Jbd c).2=0∨(Jbd c).2=1∨(Jbd c).2=2:=by
 unfold Jbd
 repeat' split
 all_goals simp
theorem JxR {x:Nat→Nat} (hx:∀i,x i < 4294967296) {r:PRul} (ho:r.ok) (h:Je6 r=none):r.conds.all (hB x)=false:=by
 unfold Je6 at h
 by_cases ha:r.conds.any JdQ=true
 ·obtain ⟨c,h1,h2⟩:=List.any_eq_true.1 ha;rw [List.all_eq_false];exact ⟨c,h1,by rw [(JxQ hx (ho c h1).1 (ho c h1).2).2.1 (of_decide_eq_true h2)];decide⟩
 ·rw [if_neg ha] at h;cases h
theorem JuJ {x:Nat→Nat} (hx:∀i,x i < 4294967296):∀(l:List Cnd),(∀c∈l,c.ok∧NFm c)→l.any JdQ=false→(l.filterMap Jhy).all (hB x)=l.all (hB x)
 | [],_,_=> rfl
 | c::l,hc,hn=> by
   have ih:=JuJ hx l (fun d hd=> hc d (List.mem_cons_of_mem _ hd)) (by simp at hn⊢;exact hn.2);have hcn:JdQ c=false:=by simp at hn;simpa using hn.1
   have h:=JxQ hx (hc c List.mem_cons_self).1 (hc c List.mem_cons_self).2;rcases Jm6 c with h0 | h0 | h0
   ·rw [List.filterMap_cons,show Jhy c=some (Jbd c).1 from if_pos h0,List.all_cons,List.all_cons,ih,h.2.2 h0]
   ·rw [List.filterMap_cons,show Jhy c=none from if_neg Om,List.all_cons,ih,h.1 h0,Bool.true_and]
   ·unfold JdQ at hcn;rw [h0] at hcn;cases hcn
theorem JxS {x:Nat→Nat} (hx:∀i,x i < 4294967296) {r q:PRul} (ho:r.ok) (h:Je6 r=some q):q.conds.all (hB x)=r.conds.all (hB x)∧q.code=r.code:=by
 unfold Je6 at h
 by_cases ha:r.conds.any JdQ=true
 ·rw [if_pos ha] at h;cases h
 ·rw [if_neg ha] at h;obtain rfl:=Option.some.inj h;exact ⟨JuJ hx r.conds ho (Bool.eq_false_iff.2 ha),rfl⟩
theorem Jm7 {x:Nat→Nat} {a:Nat} (hx:a=2→∀i,x i < 4294967296):∀(l:List PRul),(∀r∈l,r.ok)→Jbr x (Jdn a l)=Jbr x l
 | [],_=> rfl
 | r::l,h=> by
   have ih:=Jm7 hx l fun q hq=> h q (List.mem_cons_of_mem _ hq);have key:∀q:PRul,q.conds.all (hB x)=r.conds.all (hB x)→q.code=r.code→Jbr x (if q.conds.length=0 then [q] else q::Jdn a l)=Jbr x (r::l):=fun q h1 h2=> by
    split
    ·rename_i h0
     have hq:q.conds.all (hB x)=true:=(by rw [List.length_eq_zero_iff.1 h0];rfl);unfold Jbr;rw [List.find?_cons,List.find?_cons,← h1,hq];exact congrArg some h2
    ·unfold Jbr at ih⊢;rw [List.find?_cons,List.find?_cons,h1];cases r.conds.all (hB x) with
     | true=> exact congrArg some h2
     | false=> exact ih
   unfold Jdn JgF;by_cases ha:a=2
   ·rw [if_pos ha];cases hn:Je6 r with
    | none=>
      show Jbr x (Jdn a l)=_;rw [ih,show Jbr x (r::l)=Jbr x l from by unfold Jbr;rw [List.find?_cons,JxR (hx ha) (h r List.mem_cons_self) hn]]
    | some q=>
      obtain ⟨h1,h2⟩:=JxS (hx ha) (h r List.mem_cons_self) hn;exact key q h1 h2
   ·rw [if_neg ha];exact key r rfl rfl
theorem JtM {x:Nat→Nat} {a d:Nat} (hx:a=2→∀i,x i < 4294967296) (l:List PRul) (h:∀r∈l,r.ok):(Jbr x (Jcq a l d)).getD d=(Jbr x l).getD d:=by
 unfold Jcq
 rw [Jm5 _ _ (Nat.le_refl _),Jm7 hx l h]
abbrev Cnt:=Nat→Option Nat
abbrev Lbl:=Nat→Cnt
def Ja3 (c:Cnt) (e:Lbl) (t:Nat):Cnt:=if t=0 then c else e t
def Jdj (code A k:Nat):Bool:=if code=0x15 then A ==k else if code=0x25 then decide (k < A) else if code=0x35 then decide (k≤A) else (A&&& k) !=0
def Jdq (W:Nat→Nat) (x:Itm) (c:Cnt) (e:Lbl):Cnt:=fun A=>
 if x.code=0x20 then c (W x.k) else if x.code=0x54 then c (A&&& x.k) else if x.code=6 then some x.k else if x.code=5 then Ja3 c e x.t A
 else if Jdj x.code A x.k=true then Ja3 c e x.t A else Ja3 c e x.f A
def Jp (W:Nat→Nat):List Itm→Cnt×Lbl→Cnt×Lbl
 | [],s=> s
 | x::l,s=> if x.mark=0 then (Jdq W x (Jp W l s).1 (Jp W l s).2,(Jp W l s).2) else ((Jp W l s).1,fun k=> if k=x.mark then (Jp W l s).1 else (Jp W l s).2 k)
theorem JaO (W:Nat→Nat):∀(a b:List Itm) (s:Cnt×Lbl),Jp W (a++b) s=Jp W a (Jp W b s)
 | [],b,s=> rfl
 | x::a,b,s=> by
   have h:=JaO W a b s;show (if x.mark=0 then (Jdq W x (Jp W (a++b) s).1 (Jp W (a++b) s).2,(Jp W (a++b) s).2) else ((Jp W (a++b) s).1,fun k=> if k=x.mark then (Jp W (a++b) s).1 else (Jp W (a++b) s).2 k))=_;rw [h];rfl
theorem JrG (W:Nat→Nat) (h:Hlv) (hy:h.yes≠0) (hn:h.no≠0) (s:Cnt×Lbl) (A:Nat):∃A',(Jp W (if h.w then Jdv h++Jcn h else Jcn h) s).1 A=s.2 (if (!h.w|| W h.ha ==h.hi)&& W h.la ==h.lo then h.yes else h.no) A':=by
 obtain ⟨la,ha,lo,hi,ml,mh,w,yes,no⟩:=h
 dsimp only at hy hn⊢
 cases w
 ·refine ⟨W la, ?_⟩;by_cases h1:W la=lo <;> simp [Jp,Jcn,Jdq,Jdj,Ja3,hy,hn,h1]
 ·by_cases h2:W ha=hi
  ·refine ⟨W la, ?_⟩;by_cases h1:W la=lo <;> simp [Jp,Jcn,Jdv,Jdq,Jdj,Ja3,hy,hn,h1,h2]
  ·refine ⟨W ha, ?_⟩;simp [Jp,Jcn,Jdv,Jdq,Jdj,Ja3,hy,hn,h2]
theorem Jo5 (W:Nat→Nat) (h:Hlv) (hy:h.yes≠0) (hn:h.no≠0) (s:Cnt×Lbl) (A:Nat):∃A',(Jp W (if h.w then Jcz h++Jbp h else Jbp h) s).1 A=s.2 (if (h.w&& decide (h.hi < W h.ha))|| ((!h.w|| W h.ha ==h.hi)&& decide (h.lo≤W h.la)) then h.yes else h.no) A':=by
 obtain ⟨la,ha,lo,hi,ml,mh,w,yes,no⟩:=h
 dsimp only at hy hn⊢
 cases w
 ·refine ⟨W la, ?_⟩;by_cases h1:lo≤W la <;> simp [Jp,Jbp,Jdq,Jdj,Ja3,hy,hn,h1]
 ·by_cases h3:hi < W ha
  ·refine ⟨W ha, ?_⟩;simp [Jp,Jbp,Jcz,Jdq,Jdj,Ja3,hy,hn,h3]
  ·by_cases h2:W ha=hi
   ·refine ⟨W la, ?_⟩;by_cases h1:lo≤W la <;> simp [Jp,Jbp,Jcz,Jdq,Jdj,Ja3,hy,hn,h1,h2]
   ·refine ⟨W ha, ?_⟩;simp [Jp,Jbp,Jcz,Jdq,Jdj,Ja3,hy,hn,h2,h3]
theorem JAc (W:Nat→Nat) (h:Hlv) (hy:h.yes≠0) (hn:h.no≠0) (s:Cnt×Lbl) (A:Nat):∃A',(Jp W (if h.w then JeT h++Jdl h else Jdl h) s).1 A=s.2 (if (!h.w|| (W h.ha&&& h.mh) ==h.hi)&& (W h.la&&& h.ml) ==h.lo then h.yes else h.no) A':=by
 obtain ⟨la,ha,lo,hi,ml,mh,w,yes,no⟩:=h
 dsimp only at hy hn⊢
 cases w
 ·refine ⟨W la&&& ml, ?_⟩;by_cases h1:W la&&& ml=lo <;> simp [Jp,Jdl,Jdq,Jdj,Ja3,hy,hn,h1]
 ·by_cases h2:W ha&&& mh=hi
  ·refine ⟨W la&&& ml, ?_⟩;by_cases h1:W la&&& ml=lo <;> simp [Jp,Jdl,JeT,Jdq,Jdj,Ja3,hy,hn,h1,h2]
  ·refine ⟨W ha&&& mh, ?_⟩;simp [Jp,Jdl,JeT,Jdq,Jdj,Ja3,hy,hn,h2]
theorem Jo6 (a m:Nat):(a&&& m) / 4294967296=(a / 4294967296&&& m / 4294967296)∧(a&&& m) % 4294967296=(a % 4294967296&&& m % 4294967296):=
 ⟨Nat.and_div_two_pow (n:=32),Nat.and_mod_two_pow (n:=32)⟩
def Adds (m m':Mk) (D:List Itm):Prop:=m'.l=m.l++D
theorem Adds.trans {a b c:Mk} {D E:List Itm} (h:Adds a b D) (g:Adds b c E):Adds a c (D++E):=by
 unfold Adds at *; rw [g, h, List.append_assoc]
def Jfr (h:Hlv) (op:Int):List Itm:=
 if op=1 then (if h.w then Jdv h++Jcn h else Jcn h) else if op=2 then (if h.w then Jdv (Ja1 h)++Jcn (Ja1 h) else Jcn (Ja1 h)) else
 if op=3 then (if h.w then Jcz (Ja1 h)++Jbp (Ja1 h) else Jbp (Ja1 h)) else if op=6 then (if h.w then Jcz h++Jbp h else Jbp h) else (if h.w then JeT h++Jdl h else Jdl h)
theorem JB4 (m:Mk) (h:Hlv) (a b:List Itm):Jco m h a b=⟨m.l++(if h.w then a++b else b),m.n,m.b⟩:=by
 unfold Jco JE
 cases h.w <;> simp
theorem JrH (m:Mk) (h:Hlv) (op:Int):Jn3 m h op=⟨m.l++Jfr h op,m.n,m.b⟩:=by
 unfold Jn3 Jfr
 repeat' split
 all_goals (rw [JB4];try simp_all [Ja1])
def trueH (W:Nat→Nat) (h:Hlv) (op:Int):Bool:=
 if op=1 then (!h.w|| W h.ha ==h.hi)&& W h.la ==h.lo else if op=2 then !((!h.w|| W h.ha ==h.hi)&& W h.la ==h.lo)
 else if op=3 then !((h.w&& decide (h.hi < W h.ha))|| ((!h.w|| W h.ha ==h.hi)&& decide (h.lo≤W h.la)))
 else if op=6 then (h.w&& decide (h.hi < W h.ha))|| ((!h.w|| W h.ha ==h.hi)&& decide (h.lo≤W h.la))
 else (!h.w|| (W h.ha&&& h.mh) ==h.hi)&& (W h.la&&& h.ml) ==h.lo
theorem JB5 (W:Nat→Nat) (h:Hlv) (op:Int) (hy:h.yes≠0) (hn:h.no≠0) (s:Cnt×Lbl) (A:Nat):∃A',(Jp W (Jfr h op) s).1 A=s.2 (if trueH W h op then h.yes else h.no) A':=by
 unfold Jfr trueH
 by_cases h1:op=1
 ·rw [if_pos h1,if_pos h1];exact JrG W h hy hn s A
 rw [if_neg h1,if_neg h1]
 by_cases h2:op=2
 ·rw [if_pos h2,if_pos h2];obtain ⟨A',e⟩:=JrG W (Ja1 h) hn hy s A;refine ⟨A',e.trans (congrArg (fun k=> s.2 k A') ?_)⟩;show (if ((!h.w|| W h.ha ==h.hi)&& W h.la ==h.lo)=true then h.no else h.yes)=_;cases (!h.w|| W h.ha ==h.hi)&& W h.la ==h.lo <;> rfl
 rw [if_neg h2,if_neg h2]
 by_cases h3:op=3
 ·rw [if_pos h3,if_pos h3];obtain ⟨A',e⟩:=Jo5 W (Ja1 h) hn hy s A;refine ⟨A',e.trans (congrArg (fun k=> s.2 k A') ?_)⟩;show (if ((h.w&& decide (h.hi < W h.ha))|| ((!h.w|| W h.ha ==h.hi)&& decide (h.lo≤W h.la)))=true then h.no else h.yes)=_;cases (h.w&& decide (h.hi < W h.ha))|| ((!h.w|| W h.ha ==h.hi)&& decide (h.lo≤W h.la)) <;> rfl
 rw [if_neg h3,if_neg h3]
 by_cases h6:op=6
 ·rw [if_pos h6,if_pos h6];exact Jo5 W h hy hn s A
 rw [if_neg h6,if_neg h6]
 exact JAc W h hy hn s A
def JrI (D:List Itm):Prop:=∀x∈D,x.mark=0
theorem Jv7 (h:Hlv) (op:Int):JrI (Jfr h op):=by
 unfold Jfr
 repeat' split
 all_goals (intro x hx;simp [Jdv,Jcn,Jcz,Jbp,JeT,Jdl,Ja1] at hx;try (rcases hx with rfl | rfl | rfl | rfl | rfl | rfl) <;> rfl)
def opN (op:Int):Prop:=op=1∨op=2∨op=3∨op=6∨op=7
theorem JxT {W:Nat→Nat} {c:Cnd} {a y n:Nat} (ho:opN c.op) (hl:W (16+8 * c.arg.toNat)=a % 4294967296) (hh:W (20+8 * c.arg.toNat)=a / 4294967296):trueH W (hlvC c true y n) c.op=JaD c a:=by
 obtain ⟨arg,op,mask,value⟩:=c
 unfold trueH JaD hlvC
 dsimp only at ho hl hh⊢
 rw [hl,hh]
 have he:(a / 4294967296=value / 4294967296∧a % 4294967296=value % 4294967296)↔a=value:=by omega
 obtain ⟨q1,q2⟩:=Jo6 a mask
 rcases ho with rfl | rfl | rfl | rfl | rfl
 ·rw [if_pos rfl,if_pos rfl,Bool.eq_iff_iff];simp [he]
 ·rw [if_neg Dc,if_pos rfl,if_neg Dc,if_pos rfl,Bool.eq_iff_iff];simp [← he]
 ·rw [if_neg Dc,if_neg Dc,if_pos rfl,if_neg Dc,if_neg Dc,if_pos rfl,Bool.eq_iff_iff];simp only [Bool.not_true,Bool.false_or,Bool.true_and,Bool.not_eq_true',Bool.or_eq_false_iff,Bool.and_eq_false_iff,decide_eq_false_iff_not,decide_eq_true_eq,beq_eq_false_iff_ne];omega
 ·rw [if_neg Dc,if_neg Dc,if_neg Dc,if_pos rfl,if_neg Dc,if_neg Dc,if_neg Dc,if_neg Dc,if_neg Dc,if_pos rfl,Bool.eq_iff_iff];simp only [Bool.not_true,Bool.false_or,Bool.true_and,Bool.or_eq_true,Bool.and_eq_true,decide_eq_true_eq,beq_iff_eq];omega
 ·rw [if_neg Dc,if_neg Dc,if_neg Dc,if_neg Dc,if_neg Dc,if_neg Dc,if_neg Dc,if_neg Dc,if_neg Dc,if_neg Dc,← q1,← q2,Bool.eq_iff_iff];simp only [Bool.not_true,Bool.false_or,Bool.and_eq_true,beq_iff_eq,decide_eq_true_eq];omega
theorem JAd {W:Nat→Nat} {c:Cnd} {a y n:Nat} (ho:opN c.op) (hl:W (16+8 * c.arg.toNat)=a) (ha:a < 4294967296) (hv:c.value < 4294967296):trueH W (hlvC c false y n) c.op=JaD c a:=by
 obtain ⟨arg,op,mask,value⟩:=c
 unfold trueH JaD hlvC
 dsimp only at ho hl hv⊢
 rw [hl,Nat.mod_eq_of_lt hv]
 obtain ⟨q1,q2⟩:=Jo6 a mask
 have q3:a&&& mask=a&&& mask % 4294967296:=by
  rw [Nat.div_eq_of_lt ha,Nat.zero_and] at q1;rw [Nat.mod_eq_of_lt ha] at q2;rw [← q2];omega
 rcases ho with rfl | rfl | rfl | rfl | rfl
 ·rw [if_pos rfl,if_pos rfl,Bool.eq_iff_iff];simp
 ·rw [if_neg Dc,if_pos rfl,if_neg Dc,if_pos rfl,Bool.eq_iff_iff];simp
 ·rw [if_neg Dc,if_neg Dc,if_pos rfl,if_neg Dc,if_neg Dc,if_pos rfl,Bool.eq_iff_iff];simp
 ·rw [if_neg Dc,if_neg Dc,if_neg Dc,if_pos rfl,if_neg Dc,if_neg Dc,if_neg Dc,if_neg Dc,if_neg Dc,if_pos rfl,Bool.eq_iff_iff];simp
 ·rw [if_neg Dc,if_neg Dc,if_neg Dc,if_neg Dc,if_neg Dc,if_neg Dc,if_neg Dc,if_neg Dc,if_neg Dc,if_neg Dc,q3,Bool.eq_iff_iff];simp
def tgtOk (ex:Nat→Prop):List Itm→Prop
 | []=> True
 | x::l=> (∀t,(t=x.t∨t=x.f)→t≠0→(∃y∈l,y.mark=t)∨ex t)∧tgtOk ex l
theorem JeW {ex1 ex2 ex:Nat→Prop}:∀ {D E:List Itm},tgtOk ex1 D→tgtOk ex2 E→(∀t,ex1 t→(∃y∈E,y.mark=t)∨ex t)→(∀t,ex2 t→ex t)→tgtOk ex (D++E)
 | [], [],_,_,_,_=> trivial
 | [],y::E,h1,h2,g1,g2=> ⟨fun t ht h0=> (h2.1 t ht h0).imp_right (g2 t),JeW (D:= []) trivial h2.2 (ex1:=fun _=> False) (fun t h=> h.elim) g2⟩
 | x::D,E,h1,h2,g1,g2=> ⟨fun t ht h0=> by
    rcases h1.1 t ht h0 with ⟨y,hy,e⟩ | h
    ·exact .inl ⟨y,List.mem_append_left _ hy,e⟩
    ·rcases g1 t h with ⟨y,hy,e⟩ | h
     ·exact .inl ⟨y,List.mem_append_right _ hy,e⟩
     ·exact .inr h,JeW h1.2 h2 g1 g2⟩
theorem JlY {ex ex':Nat→Prop} (g:∀t,ex t→ex' t):∀ {D:List Itm},tgtOk ex D→tgtOk ex' D
 | [],_=> trivial
 | x::D,h=> ⟨fun t ht h0=> (h.1 t ht h0).imp_right (g t),JlY g h.2⟩
def marksO (D:List Itm):List Nat:=(D.map (·.mark)).filter (·≠0)
theorem Jbx (D E:List Itm):marksO (D++E)=marksO D++marksO E:=by unfold marksO;rw [List.map_append,List.filter_append]
theorem Jcb {D:List Itm} {k:Nat}:k∈marksO D↔k≠0∧∃x∈D,x.mark=k:=by
 unfold marksO
 simp only [List.mem_filter,List.mem_map,decide_eq_true_eq,ne_eq]
 constructor
 ·rintro ⟨⟨x,hx,rfl⟩,h⟩;exact ⟨h,x,hx,rfl⟩
 ·rintro ⟨h,x,hx,rfl⟩;exact ⟨⟨x,hx,rfl⟩,h⟩
def isBl (m:Mk) (t:Nat):Prop:=∃p∈m.b,p.2=t
structure GoodM (S:Nat→Prop) (m m':Mk) (D:List Itm):Prop where
 add:m'.l=m.l++D
 n:m.n≤m'.n
 b:∃nb,m'.b=m.b++nb∧(∀p∈nb,m.n < p.2∧p.2≤m'.n)∧(nb.map (·.2)).Nodup
 mrk:∀k∈marksO D,m.n < k∧k≤m'.n∧¬isBl m' k
 nd:(marksO D).Nodup
 tg:tgtOk (fun t=> S t∨isBl m' t) D
def mOk (m:Mk):Prop:=∀p∈m.b,0 < p.2∧p.2≤m.n
theorem GoodM.ok {S:Nat→Prop} {m m':Mk} {D:List Itm} (h:GoodM S m m' D) (hm:mOk m):mOk m':=fun p hp=> by
 obtain ⟨nb,e,hb,unb⟩:=h.b
 rw [e] at hp
 rcases List.mem_append.1 hp with hp | hp
 ·exact ⟨(hm p hp).1,Nat.le_trans (hm p hp).2 h.n⟩
 ·exact ⟨by have:=(hb p hp).1;omega,(hb p hp).2⟩
theorem GoodM.bl {S:Nat→Prop} {m m':Mk} {D:List Itm} (h:GoodM S m m' D) {t:Nat} (ht:isBl m t):isBl m' t:=by
 obtain ⟨nb,e,_⟩:=h.b
 obtain ⟨p,hp,rfl⟩:=ht
 exact ⟨p,by rw [e];exact List.mem_append_left _ hp,rfl⟩
theorem Jiz {a b c:Nat} {nb nb':List (Nat×Nat)} (hb:∀p∈nb,a < p.2∧p.2≤b) (u:(nb.map (·.2)).Nodup) (hb':∀p∈nb',b < p.2∧p.2≤c) (u':(nb'.map (·.2)).Nodup):((nb++nb').map (·.2)).Nodup:=by
 rw [List.map_append,List.nodup_append]
 refine ⟨u,u',fun x hx y hy e=> ?_⟩
 obtain ⟨p,hp,rfl⟩:=List.mem_map.1 hx
 obtain ⟨q,hq,rfl⟩:=List.mem_map.1 hy
 have:=hb p hp
 have:=hb' q hq
 omega
theorem GoodM.trans {S1 S2 S:Nat→Prop} {a b c:Mk} {D E:List Itm} (h:GoodM S1 a b D) (g:GoodM S2 b c E) (s1:∀t,S1 t→t∈marksO E∨S t) (s2:∀t,S2 t→S t):GoodM S a c (D++E):=by
 obtain ⟨nb,e1,hb,unb⟩:=h.b
 obtain ⟨nb',e2,hb',unb'⟩:=g.b
 refine ⟨by rw [g.add,h.add,List.append_assoc],Nat.le_trans h.n g.n,⟨nb++nb',by rw [e2,e1,List.append_assoc],fun p hp=> ?_, ?_⟩,fun k hk=> ?_, ?_, ?_⟩
 ·have h1:=h.n;have h2:=g.n;rcases List.mem_append.1 hp with hp | hp
  ·have:=hb p hp;omega
  ·have:=hb' p hp;omega
 ·exact Jiz hb unb hb' unb'
 ·rw [Jbx] at hk;rcases List.mem_append.1 hk with hk | hk
  ·obtain ⟨k1,k2,k3⟩:=h.mrk k hk;refine ⟨k1,Nat.le_trans k2 g.n,fun ⟨p,hp,e⟩=> ?_⟩;rw [e2] at hp;rcases List.mem_append.1 hp with hp | hp
   ·exact k3 ⟨p,hp,e⟩
   ·have:=(hb' p hp).1;omega
  ·obtain ⟨k1,k2,k3⟩:=g.mrk k hk;exact ⟨Nat.lt_of_le_of_lt h.n k1,k2,k3⟩
 ·rw [Jbx,List.nodup_append];refine ⟨h.nd,g.nd,fun x hx y hy e=> ?_⟩;have:=(h.mrk x hx).2.1;have:=(g.mrk y hy).1;omega
 ·refine JeW h.tg g.tg (fun t ht=> ?_) (fun t ht=> ht.imp_left (s2 t));rcases ht with ht | ht
  ·rcases s1 t ht with hk | hk
   ·exact .inl (Jcb.1 hk).2
   ·exact .inr (.inl hk)
  ·exact .inr (.inr (g.bl ht))
theorem GoodM.mono {S S':Nat→Prop} {m m':Mk} {D:List Itm} (h:GoodM S m m' D) (s:∀t,S t→S' t):GoodM S' m m' D:=
 ⟨h.add,h.n,h.b,h.mrk,h.nd,JlY (fun t ht=> ht.imp_left (s t)) h.tg⟩
theorem Jh0 (S:Nat→Prop) (m:Mk):GoodM S m m []:=⟨(List.append_nil _).symm,Nat.le_refl _,⟨[],(List.append_nil _).symm,(fun _ h=> by cases h),List.nodup_nil⟩,(fun k hk=> by cases hk),List.nodup_nil,Tt⟩
theorem JrJ {D:List Itm} (h:JrI D):marksO D= []:=by
 unfold marksO
 rw [List.filter_eq_nil_iff]
 intro k hk
 obtain ⟨x,hx,rfl⟩:=List.mem_map.1 hk
 simp [h x hx]
theorem JeC {W:Nat→Nat} {k:Nat} (h0:k≠0):∀ {D:List Itm} {s:Cnt×Lbl},k∉marksO D→(Jp W D s).2 k=s.2 k
 | [],s,h=> rfl
 | x::D,s,h=> by
   have hD:k∉marksO D:=fun hk=> h (by
    obtain ⟨h1,y,hy,e⟩:=Jcb.1 hk;exact Jcb.2 ⟨h1,y,List.mem_cons_of_mem _ hy,e⟩)
   unfold Jp;split
   ·exact JeC h0 hD
   ·have hne:k≠x.mark:=fun e=> h (Jcb.2 ⟨h0,x,List.mem_cons_self ..,e.symm⟩);show (if k=x.mark then _ else _)=_;rw [if_neg hne];exact JeC h0 hD
def Bok (e:Lbl) (m:Mk):Prop:=∀p∈m.b,∀A,e p.2 A=some p.1
theorem Bok.back {S:Nat→Prop} {a b:Mk} {D:List Itm} {W:Nat→Nat} {s:Cnt×Lbl} (h:Bok s.2 b) (g:GoodM S a b D) (ha:mOk a):Bok (Jp W D s).2 a:=fun p hp A=> by
 have hb:isBl b p.2:=g.bl ⟨p,hp,rfl⟩
 rw [JeC (by have:=(ha p hp).1;omega) fun hk=> (g.mrk _ hk).2.2 hb]
 obtain ⟨nb,e,_⟩:=g.b
 exact h p (by rw [e];exact List.mem_append_left _ hp) A
theorem Jhz {S:Nat→Prop} {a b:Mk} {D:List Itm} {W:Nat→Nat} {s:Cnt×Lbl} (g:GoodM S a b D) {k:Nat} (h0:k≠0) (hk:k≤a.n∨isBl b k):(Jp W D s).2 k=s.2 k:=
 JeC h0 fun hm=> by
  obtain ⟨h1,_,h3⟩:=g.mrk _ hm;rcases hk with hk | hk
  ·omega
  ·exact h3 hk
theorem Jfs {S:Nat→Prop} {m:Mk} {D:List Itm} (h:JrI D) (ht:∀x∈D,∀t,(t=x.t∨t=x.f)→t≠0→S t∨isBl m t):GoodM S m (JE m D) D:=by
 refine ⟨rfl,Nat.le_refl _,⟨[],(List.append_nil _).symm,(fun _ h=> by cases h),List.nodup_nil⟩,(fun k hk=> by rw [JrJ h] at hk;cases hk),(by rw [JrJ h];exact List.nodup_nil), ?_⟩
 have key:∀E:List Itm,(∀x∈E,x∈D)→tgtOk (fun t=> S t∨isBl (JE m D) t) E:=fun E=> by
  induction E with
  | nil=> intro _;trivial
  | cons x E ih=> exact fun hE=> ⟨fun t h1 h2=> .inr (ht x (hE x (List.mem_cons_self ..)) t h1 h2),ih fun y hy=> hE y (List.mem_cons_of_mem _ hy)⟩
 exact key D fun _ h=> h
theorem Jh1 {S:Nat→Prop} {m m':Mk} {D:List Itm} (hm:mOk m) (h:GoodM (fun t=> t=m.n+1∨S t) (Jz m) m' D):GoodM S m (J3 m' (m.n+1)) (D++ [⟨m.n+1,0,0,0,0⟩]):=by
 have hn:m.n+1≤m'.n:=h.n
 have hnb:¬isBl m' (m.n+1):=fun ⟨p,hp,e⟩=> by
  obtain ⟨nb,e1,hb,unb⟩:=h.b;rw [e1] at hp;rcases List.mem_append.1 hp with hp | hp
  ·have:=(hm p hp).2;omega
  ·have:m.n+1 < p.2:=(hb p hp).1;omega
 have hmk:marksO [(⟨m.n+1,0,0,0,0⟩:Itm)]= [m.n+1]:=by simp [marksO]
 refine ⟨?_,Nat.le_trans (Nat.le_succ _) hn, ?_,fun k hk=> ?_, ?_, ?_⟩
 ·show m'.l++_=_;rw [h.add,List.append_assoc];rfl
 ·obtain ⟨nb,e1,hb,unb⟩:=h.b;exact ⟨nb,e1,(fun p hp=> ⟨Nat.lt_trans (Nat.lt_succ_self _) (hb p hp).1,(hb p hp).2⟩),unb⟩
 ·rw [Jbx,hmk] at hk;rcases List.mem_append.1 hk with hk | hk
  ·obtain ⟨k1,k2,k3⟩:=h.mrk k hk;exact ⟨Nat.lt_trans (Nat.lt_succ_self _) k1,k2,k3⟩
  ·obtain rfl:=List.mem_singleton.1 hk;exact ⟨Nat.lt_succ_self _,hn,hnb⟩
 ·rw [Jbx,hmk,List.nodup_append];refine ⟨h.nd,Si,fun x hx y hy e=> ?_⟩;obtain rfl:=List.mem_singleton.1 hy;have:=(h.mrk x hx).1;have:m.n+1 < x:=this;omega
 ·refine JeW (ex2:=fun _=> False) h.tg ⟨fun t h1 h2=> absurd (h1.elim id id) h2,Tt⟩ (fun t ht=> ?_) (fun t h=> h.elim);rcases ht with (ht | ht) | ht
  ·exact .inl ⟨_,List.mem_singleton.2 rfl,ht.symm⟩
  ·exact .inr (.inl ht)
  ·exact .inr (.inr ht)
theorem Jf1 {m:Mk} (h:mOk m):mOk (Jz m):=fun p hp=> ⟨(h p hp).1,Nat.le_succ_of_le (h p hp).2⟩
theorem JB6 {h:Hlv} {op:Int}:∀x∈Jfr h op,∀t,(t=x.t∨t=x.f)→t≠0→t=h.yes∨t=h.no:=by
 unfold Jfr
 repeat' split
 all_goals (intro x hx t ht h0;simp [Jdv,Jcn,Jcz,Jbp,JeT,Jdl,Ja1] at hx;try (rcases hx with rfl | rfl | rfl | rfl | rfl | rfl))
 all_goals (simp at ht;omega)
def JrK (m:Mk) (c:Cnd) (wide:Bool) (next:Nat):List Itm:=Jfr (hlvC c wide (m.n+1) next) c.op++ [⟨m.n+1,0,0,0,0⟩]
theorem JlZ {m:Mk} {c:Cnd} {wide:Bool} {next:Nat} (hm:mOk m):GoodM (fun t=> t=next) m (J3 (Jdw (Jz m) c wide (m.n+1) next) (m.n+1)) (JrK m c wide next):=by
 refine Jh1 hm ?_
 unfold Jdw
 rw [JrH]
 refine Jfs (Jv7 _ _) fun x hx t h1 h2=> ?_
 rcases JB6 x hx t h1 h2 with h | h
 ·exact .inl (.inl h)
 ·exact .inl (.inr h)
def JhA (wide:Bool) (next:Nat):Mk→List Cnd→List Itm
 | _, []=> []
 | m,c::cs=> JrK m c wide next++JhA wide next (J3 (Jdw (Jz m) c wide (m.n+1) next) (m.n+1)) cs
theorem JgX {wide:Bool} {next:Nat}:∀(cs:List Cnd) (m:Mk),mOk m→GoodM (fun t=> t=next) m (J7 wide next m cs) (JhA wide next m cs)
 | [],m,hm=> Jh0 _ m
 | c::cs,m,hm=> (JlZ hm).trans (JgX cs _ ((JlZ hm).ok hm)) (fun t h=> .inr h) (fun t h=> h)
theorem JB7 {W:Nat→Nat} {T:Cnd→Bool} {m:Mk} {c:Cnd} {wide:Bool} {next:Nat} (hT:∀y n,trueH W (hlvC c wide y n) c.op=T c) (hn:next≠0) (hne:next≠m.n+1) (s:Cnt×Lbl) (A:Nat):∃A',(Jp W (JrK m c wide next) s).1 A=if T c then s.1 A' else s.2 next A':=by
 unfold JrK
 rw [JaO]
 obtain ⟨A',e⟩:=JB5 W (hlvC c wide (m.n+1) next) c.op (Nat.succ_ne_zero _) hn (Jp W [⟨m.n+1,0,0,0,0⟩] s) A
 refine ⟨A',e.trans ?_⟩
 rw [hT]
 show (if (if T c=true then m.n+1 else next)=m.n+1 then s.1 else s.2 (if T c=true then m.n+1 else next)) A'=_
 cases T c
 ·rw [if_neg Bool.false_ne_true,if_neg hne,if_neg Bool.false_ne_true]
 ·rw [if_pos rfl,if_pos rfl,if_pos rfl]
theorem Jo7 {W:Nat→Nat} {T:Cnd→Bool} {wide:Bool} {next:Nat} (hn:next≠0):∀(cs:List Cnd) (m:Mk),mOk m→next≤m.n→(∀c∈cs,∀y n,trueH W (hlvC c wide y n) c.op=T c)→∀(s:Cnt×Lbl) (A:Nat),∃A',(Jp W (JhA wide next m cs) s).1 A=if cs.all T then s.1 A' else s.2 next A'
 | [],m,hm,hx,hT,s,A=> ⟨A,rfl⟩
 | c::cs,m,hm,hx,hT,s,A=> by
   have g:=JlZ (c:=c) (wide:=wide) (next:=next) hm;have g2:=JgX (wide:=wide) (next:=next) cs _ (g.ok hm);show ∃A',(Jp W (JrK m c wide next++JhA wide next _ cs) s).1 A=_;rw [JaO];obtain ⟨A1,e1⟩:=JB7 (m:=m) (hT c (List.mem_cons_self ..)) hn Om (Jp W (JhA wide next (J3 (Jdw (Jz m) c wide (m.n+1) next) (m.n+1)) cs) s) A;rw [e1,Jhz g2 hn (.inl (Nat.le_trans hx g.n)),List.all_cons];cases T c
   ·exact ⟨A1,rfl⟩
   ·obtain ⟨A2,e2⟩:=Jo7 hn cs _ (g.ok hm) (Nat.le_trans hx g.n) (fun c hc=> hT c (List.mem_cons_of_mem _ hc)) s A1;exact ⟨A2,e2⟩
theorem Jf2 (m:Mk) (c:Nat):(c,(JB m c).1)∈(JB m c).2.b:=by
 unfold JB
 cases h:Jcy m.b c with
 | some k=>
   unfold Jcy at h;obtain ⟨p,h1,h2⟩:=Option.map_eq_some_iff.1 h;have h3:=List.find?_some h1;have h4:p.1=c:=by simpa using h3
   have h5:=List.mem_of_find?_eq_some h1;rw [← h4,← h2];exact h5
 | none=> exact List.mem_append_right _ (List.mem_singleton.2 rfl)
theorem Jfx (S:Nat→Prop) (m:Mk) (c:Nat):GoodM S m (JB m c).2 []:=by
 unfold JB
 cases Jcy m.b c with
 | some k=> exact Jh0 S m
 | none=> exact ⟨(List.append_nil _).symm,Nat.le_succ _,⟨[(c,m.n+1)],rfl,(fun p hp=> by obtain rfl:=List.mem_singleton.1 hp;exact ⟨Nat.lt_succ_self _,Nat.le_refl _⟩),Si⟩,(fun k hk=> by cases hk),List.nodup_nil,Tt⟩
theorem Jl0 {m:Mk} (hm:mOk m) (c:Nat):(JB m c).1≠0:=by
 have:=((Jfx (fun _=> True) m c).ok hm _ (Jf2 m c)).1
 omega
theorem Jke {S:Nat→Prop} (m:Mk) (t:Nat) (h:S t∨isBl m t):GoodM S m (JE m [Jb3 t]) [Jb3 t]:=
 Jfs (fun x hx=> by obtain rfl:=List.mem_singleton.1 hx;rfl) fun x hx t' h1 h2=> by
  obtain rfl:=List.mem_singleton.1 hx;rcases h1 with rfl | rfl
  ·exact h
  ·exact absurd rfl h2
def Jm8 (wide:Bool) (m:Mk) (r:PRul):List Itm:=
 (JhA wide (m.n+1) (Jz m) r.conds++([]++ [Jb3 (JB (J7 wide (m.n+1) (Jz m) r.conds) r.code).1]))++ [⟨m.n+1,0,0,0,0⟩]
theorem Jh2 {wide:Bool} {m:Mk} (hm:mOk m) (r:PRul):GoodM (fun _=> False) m (JaV wide m r) (Jm8 wide m r):=by
 refine Jh1 hm ?_
 have g1:=JgX (wide:=wide) (next:=m.n+1) r.conds (Jz m) (Jf1 hm)
 have g2:=Jfx (fun _=> False) (J7 wide (m.n+1) (Jz m) r.conds) r.code
 have g3:=Jke (S:=fun _=> False) (JB (J7 wide (m.n+1) (Jz m) r.conds) r.code).2 (JB (J7 wide (m.n+1) (Jz m) r.conds) r.code).1 (.inr ⟨_,Jf2 _ _,rfl⟩)
 exact g1.trans (g2.trans (S:=fun _=> False) g3 (fun t h=> h.elim) (fun t h=> h.elim)) (fun t h=> .inr (.inl h)) (fun t h=> h.elim)
theorem JAe {W:Nat→Nat} {T:Cnd→Bool} {wide:Bool} {m:Mk} (hm:mOk m) (r:PRul) (hT:∀c∈r.conds,∀y n,trueH W (hlvC c wide y n) c.op=T c) (s:Cnt×Lbl) (hb:Bok s.2 (JaV wide m r)) (A:Nat):∃A',(Jp W (Jm8 wide m r) s).1 A=if r.conds.all T then some r.code else s.1 A':=by
 have g1:=JgX (wide:=wide) (next:=m.n+1) r.conds (Jz m) (Jf1 hm)
 have hin:=Jf2 (J7 wide (m.n+1) (Jz m) r.conds) r.code
 have hpos:=Jl0 (g1.ok (Jf1 hm)) r.code
 have hgb:isBl (JaV wide m r) (JB (J7 wide (m.n+1) (Jz m) r.conds) r.code).1:=⟨_,hin,rfl⟩
 have hne:(JB (J7 wide (m.n+1) (Jz m) r.conds) r.code).1≠m.n+1:=fun e=>
  ((Jh2 (wide:=wide) hm r).mrk (m.n+1) (Jcb.2 ⟨Nat.succ_ne_zero _,_,List.mem_append_right _ (List.mem_singleton.2 rfl),rfl⟩)).2.2 (e ▸ hgb)
 have hj:=hb _ hin
 unfold Jm8
 generalize (JB (J7 wide (m.n + 1) (Jz m) r.conds) r.code).1 = k at *
 show ∃A',(Jp W ((JhA wide (m.n+1) (Jz m) r.conds++([]++ [Jb3 k]))++ [⟨m.n+1,0,0,0,0⟩]) s).1 A=_
 rw [JaO,List.nil_append,JaO]
 obtain ⟨A',e⟩:=Jo7 (W:=W) (T:=T) (wide:=wide) (next:=m.n+1) (Nat.succ_ne_zero _) r.conds (Jz m) (Jf1 hm) (Nat.le_refl _) hT (Jp W [Jb3 k] (Jp W [⟨m.n+1,0,0,0,0⟩] s)) A
 refine ⟨A',e.trans ?_⟩
 show (if r.conds.all T=true then (if k=0 then s.1 else if k=m.n+1 then s.1 else s.2 k) A' else (if m.n+1=m.n+1 then s.1 else s.2 (m.n+1)) A')=_
 rw [if_neg hpos,if_neg hne,if_pos rfl,hj A']
def JiA (wide:Bool):Mk→List PRul→List Itm
 | _, []=> []
 | m,r::l=> Jm8 wide m r++JiA wide (JaV wide m r) l
theorem Jjg {wide:Bool}:∀(l:List PRul) (m:Mk),mOk m→GoodM (fun _=> False) m (l.foldl (JaV wide) m) (JiA wide m l)
 | [],m,hm=> Jh0 _ m
 | r::l,m,hm=> (Jh2 hm r).trans (Jjg l _ ((Jh2 hm r).ok hm)) (fun t h=> h.elim) (fun t h=> h)
theorem Jo8 {W:Nat→Nat} {T:Cnd→Bool} {wide:Bool}:∀(l:List PRul) (m:Mk),mOk m→(∀r∈l,∀c∈r.conds,∀y n,trueH W (hlvC c wide y n) c.op=T c)→∀(s:Cnt×Lbl),Bok s.2 (l.foldl (JaV wide) m)→∀A,∃A',(Jp W (JiA wide m l) s).1 A=match (l.find? fun r=> r.conds.all T).map (·.code) with | some c=> some c | none=> s.1 A'
 | [],m,hm,hT,s,hb,A=> ⟨A,rfl⟩
 | r::l,m,hm,hT,s,hb,A=> by
   have g:=Jh2 (wide:=wide) hm r;have g2:=Jjg (wide:=wide) l _ (g.ok hm);have hb':Bok (Jp W (JiA wide (JaV wide m r) l) s).2 (JaV wide m r):=Bok.back hb g2 (g.ok hm);obtain ⟨A1,e1⟩:=JAe hm r (hT r (List.mem_cons_self ..)) _ hb' A;show ∃A',(Jp W (Jm8 wide m r++JiA wide _ l) s).1 A=_;rw [JaO,e1,List.find?_cons];cases h:r.conds.all T
   ·obtain ⟨A2,e2⟩:=Jo8 l _ (g.ok hm) (fun r hr=> hT r (List.mem_cons_of_mem _ hr)) s hb A1;exact ⟨A2,e2⟩
   ·exact ⟨A1,rfl⟩
def JAf (wide:Bool) (other:Nat) (m:Mk) (l:List PRul):List Itm:=JiA wide m l++ [Jb3 other]
theorem JAg {wide:Bool} {other:Nat} {m:Mk} (hm:mOk m) (l:List PRul):GoodM (fun t=> t=other) m (Jd7 wide other m l) (JAf wide other m l):=
 (Jjg l m hm).trans (Jke (S:=fun t=> t=other) _ other (.inl rfl)) (fun t h=> h.elim) (fun t h=> h)
theorem JB8 {W:Nat→Nat} {T:Cnd→Bool} {wide:Bool} {other:Nat} {m:Mk} (hm:mOk m) (l:List PRul) (hT:∀r∈l,∀c∈r.conds,∀y n,trueH W (hlvC c wide y n) c.op=T c) (s:Cnt×Lbl) (hb:Bok s.2 (Jd7 wide other m l)) (ho:other≠0) {d:Nat} (hd:∀A,s.2 other A=some d) (A:Nat):(Jp W (JAf wide other m l) s).1 A=some (((l.find? fun r=> r.conds.all T).map (·.code)).getD d):=by
 unfold JAf
 rw [JaO]
 obtain ⟨A',e⟩:=Jo8 (T:=T) l m hm hT (Jp W [Jb3 other] s) hb A
 rw [e]
 cases (l.find? fun r=> r.conds.all T).map (·.code) with
 | some c=> rfl
 | none=>
   show (if other=0 then s.1 else s.2 other) A'=_;rw [if_neg ho,hd];rfl
theorem Jo9 {l:List Nat} (h:l.Pairwise (· < ·)) {i j:Nat} (hij:i < j) (hj:j < l.length):l.getD i 0 < l.getD j 0:=by
 have:=List.pairwise_iff_getElem.1 h i j Om hj hij
 simpa [List.getD,show i < l.length by omega,hj] using this
theorem Jpa {l:List Nat} {k i:Nat} (h:i < k):(l.take k).getD i 0=l.getD i 0:=by simp [List.getD,List.getElem?_take,h]
theorem Jpb {l:List Nat} {k i:Nat}:(l.drop k).getD i 0=l.getD (k+i) 0:=by simp [List.getD]
def JBx (marks:List Nat) (other:Nat) (l:List Nat) (pl A:Nat) (e:Lbl) (r:Option Nat):Prop:=(∀i,i < l.length→A=l.getD i 0→r=e (marks.getD (pl+i) 0) A)∧((∀i,i < l.length→A≠l.getD i 0)→r=e other A)
theorem Jkf (marks:List Nat) (other:Nat) (W:Nat→Nat):∀(N:Nat) (l:List Nat) (pl:Nat) (m:Mk),l.length≤N→0 < l.length→l.Pairwise (· < ·)→mOk m→(other≠0∧other≤m.n)→(∀i,i < l.length→marks.getD (pl+i) 0≠0∧marks.getD (pl+i) 0≤m.n)→
 ∃D,GoodM (fun t=> t=other∨t∈marks) m (JbG marks other l pl m) D∧∀(s:Cnt×Lbl) (A:Nat),JBx marks other l pl A s.2 ((Jp W D s).1 A)
 | 0,l,pl,m,h,h0,hp,hm,ho,hk=> by omega
 | N+1,l,pl,m,h,h0,hp,hm,ho,hk=> by
   have inM:∀i,marks.getD i 0≠0→marks.getD i 0∈marks:=fun i hi=> by
    rcases Nat.lt_or_ge i marks.length with hl | hl
    ·simp [List.getD,hl]
    ·exact absurd (by simp [List.getD,List.getElem?_eq_none hl]) hi
   rw [JbG];by_cases h1:l.length≤1
   ·rw [dif_pos h1];obtain ⟨k0,k1⟩:=hk 0 h0;rw [Nat.add_zero] at k0 k1;refine ⟨_,Jfs (S:=fun t=> t=other∨t∈marks) (fun x hx=> by obtain rfl:=List.mem_singleton.1 hx;rfl) (fun x hx t ht _=> ?_),fun s A=> ?_⟩
    ·obtain rfl:=List.mem_singleton.1 hx;rcases ht with rfl | rfl
     ·exact .inl (.inr (inM _ k0))
     ·exact .inl (.inl rfl)
    ·have e:(Jp W [⟨0,0x15,l.getD 0 0,marks.getD pl 0,other⟩] s).1 A=if A=l.getD 0 0 then s.2 (marks.getD pl 0) A else s.2 other A:=by
      show (if (A ==l.getD 0 0)=true then (if marks.getD pl 0=0 then s.1 else s.2 (marks.getD pl 0)) A else (if other=0 then s.1 else s.2 other) A)=_;rw [if_neg k0,if_neg ho.1];simp
     refine ⟨fun i hi hA=> ?_,fun hA=> ?_⟩
     ·obtain rfl:i=0:=(by omega);rw [e,if_pos hA,Nat.add_zero]
     ·rw [e,if_neg (hA 0 h0)]
   ·rw [dif_neg h1];have hl1:(l.take (l.length / 2)).length=l.length / 2:=(by simp;omega);have hl2:(l.drop (l.length / 2)).length=l.length - l.length / 2:=(by simp);have hm1:mOk (JE (Jz m) [⟨0,0x35,l.getD (l.length / 2) 0,m.n+1,0⟩]):=Jf1 hm;obtain ⟨D1,g1,q1⟩:=Jkf marks other W N (l.take (l.length / 2)) pl (JE (Jz m) [⟨0,0x35,l.getD (l.length / 2) 0,m.n+1,0⟩]) Om Om (hp.sublist (List.take_sublist _ _)) hm1 ⟨ho.1,Nat.le_succ_of_le ho.2⟩
     (fun i hi=> ⟨(hk i Om).1,Nat.le_succ_of_le (hk i Om).2⟩)
    have g2:GoodM (fun t=> t=m.n+1∨(t=other∨t∈marks)) (Jz m) (JbG marks other (l.take (l.length / 2)) pl (JE (Jz m) [⟨0,0x35,l.getD (l.length / 2) 0,m.n+1,0⟩])) ([⟨0,0x35,l.getD (l.length / 2) 0,m.n+1,0⟩]++D1):=
     (Jfs (S:=fun t=> t=m.n+1) (fun x hx=> by obtain rfl:=List.mem_singleton.1 hx;rfl) (fun x hx t ht h0=> by
       obtain rfl:=List.mem_singleton.1 hx;rcases ht with rfl | rfl
       ·exact .inl rfl
       ·exact absurd rfl h0)).trans g1 (fun t h=> .inr (.inl h)) (fun t h=> .inr h)
    have g3:=Jh1 hm g2;have hn3:m.n≤(J3 (JbG marks other (l.take (l.length / 2)) pl (JE (Jz m) [⟨0,0x35,l.getD (l.length / 2) 0,m.n+1,0⟩])) (m.n+1)).n:=g3.n;obtain ⟨D2,g4,q2⟩:=Jkf marks other W N (l.drop (l.length / 2)) (pl+l.length / 2) _ Om Om (hp.sublist (List.drop_sublist _ _)) (g3.ok hm) ⟨ho.1,Nat.le_trans ho.2 hn3⟩
     (fun i hi=> by rw [Nat.add_assoc];exact ⟨(hk _ Om).1,Nat.le_trans (hk _ Om).2 hn3⟩)
    refine ⟨_,g3.trans g4 (fun t h=> .inr h) (fun t h=> h),fun s A=> ?_⟩;rw [JaO];have back:∀t,t≠0→t≤m.n→(Jp W [⟨m.n+1,0,0,0,0⟩] (Jp W D2 s)).2 t=s.2 t:=fun t t0 t1=> by
     show (if t=m.n+1 then _ else _)=_;rw [if_neg Om];exact Jhz g4 t0 (.inl (Nat.le_trans t1 hn3))
    have hhi:(Jp W D1 (Jp W [⟨m.n+1,0,0,0,0⟩] (Jp W D2 s))).2 (m.n+1)=(Jp W D2 s).1:=by
     rw [Jhz g1 (Nat.succ_ne_zero _) (.inl (Nat.le_refl _))];show (if m.n+1=m.n+1 then _ else _)=_;rw [if_pos rfl];rfl
    have e:(Jp W (([⟨0,0x35,l.getD (l.length / 2) 0,m.n+1,0⟩]++D1)++ [⟨m.n+1,0,0,0,0⟩]) (Jp W D2 s)).1 A=if l.getD (l.length / 2) 0≤A then (Jp W D2 s).1 A else (Jp W D1 (Jp W [⟨m.n+1,0,0,0,0⟩] (Jp W D2 s))).1 A:=by
     rw [JaO,JaO];show (if decide (l.getD (l.length / 2) 0≤A)=true then (if m.n+1=0 then _ else (Jp W D1 (Jp W [⟨m.n+1,0,0,0,0⟩] (Jp W D2 s))).2 (m.n+1)) A else (if 0=0 then (Jp W D1 (Jp W [⟨m.n+1,0,0,0,0⟩] (Jp W D2 s))).1 else _) A)=_;rw [if_neg (Nat.succ_ne_zero _),if_pos rfl,hhi];simp
    rw [e];obtain ⟨a1,a2⟩:=q1 (Jp W [⟨m.n+1,0,0,0,0⟩] (Jp W D2 s)) A;obtain ⟨b1,b2⟩:=q2 s A;by_cases hA:l.getD (l.length / 2) 0≤A
    ·rw [if_pos hA];refine ⟨fun i hi hi2=> ?_,fun hi=> ?_⟩
     ·have hge:l.length / 2≤i:=by
       rcases Nat.lt_or_ge i (l.length / 2) with q | q
       ·have:=Jo9 hp q Om;omega
       ·exact q
      have:=b1 (i - l.length / 2) Om (by rw [Jpb,show l.length / 2+(i - l.length / 2)=i by omega];exact hi2);rw [this,show pl+l.length / 2+(i - l.length / 2)=pl+i by omega]
     ·exact b2 fun i hi2=> by rw [Jpb];exact hi _ Om
    ·rw [if_neg hA];refine ⟨fun i hi hi2=> ?_,fun hi=> ?_⟩
     ·have hlt:i < l.length / 2:=by
       rcases Nat.lt_or_ge i (l.length / 2) with q | q
       ·exact q
       ·rcases Nat.lt_or_ge (l.length / 2) i with q2 | q2
        ·have:=Jo9 hp q2 hi;omega
        ·have:i=l.length / 2:=(by omega);subst this;omega
      rw [a1 i Om (by rw [Jpa hlt];exact hi2),back _ (hk i hi).1 (hk i hi).2]
     ·rw [a2 fun i hi2=> by rw [Jpa Om];exact hi i Om,back _ ho.1 ho.2]
theorem Jlp (marks:List Nat) (other:Nat) (W:Nat→Nat) (l:List Nat) (m:Mk) (hp:l.Pairwise (· < ·)) (hm:mOk m) (ho:other≠0∧other≤m.n) (hk:∀i,i < l.length→marks.getD i 0≠0∧marks.getD i 0≤m.n):
 ∃D,GoodM (fun t=> t=other∨t∈marks) m (JaA marks other l m) D∧∀(s:Cnt×Lbl) (A:Nat),JBx marks other l 0 A s.2 ((Jp W D s).1 A):=by
 unfold JaA
 by_cases hl:l= []
 ·rw [if_pos hl];subst hl;refine ⟨_,Jke m other (.inl (.inl rfl)),fun s A=> ⟨fun i hi=> absurd hi (Nat.not_lt_zero _),fun _=> ?_⟩⟩;show (if other=0 then s.1 else s.2 other) A=_;rw [if_neg ho.1]
 ·rw [if_neg hl];exact Jkf marks other W l.length l 0 m (Nat.le_refl _) (List.length_pos_iff.2 hl) hp hm ho (fun i hi=> by rw [Nat.zero_add];exact hk i hi)
theorem GoodM.mono2 {S S':Nat→Prop} {m m':Mk} {D:List Itm} (h:GoodM S m m' D) (s:∀t,S t→S' t∨isBl m' t):GoodM S' m m' D:=
 ⟨h.add,h.n,h.b,h.mrk,h.nd,JlY (fun t ht=> ht.elim (s t) .inr) h.tg⟩
theorem JfL:∀(l:List PSub) (m:Mk),(Jad m l).1.length=l.length
 | [],m=> rfl
 | s::l,m=> congrArg (·+1) (JfL l _)
theorem Jil (S:Nat→Prop):∀(l:List PSub) (m:Mk),GoodM S m (Jad m l).2 []
 | [],m=> Jh0 S m
 | s::l,m=> (Jfx S m s.code).trans (Jil S l _) (fun t h=> .inr h) (fun t h=> h)
theorem Jpc:∀(l:List PSub) (m:Mk) (i:Nat),i < l.length→((l.getD i ⟨0,0⟩).code,(Jad m l).1.getD i 0)∈(Jad m l).2.b
 | [],m,i,h=> absurd h (Nat.not_lt_zero _)
 | s::l,m,0,h=> by
   obtain ⟨nb,e,_⟩:=(Jil (fun _=> True) l (JB m s.code).2).b;show (s.code,(JB m s.code).1)∈(Jad (JB m s.code).2 l).2.b;rw [e];exact List.mem_append_left _ (Jf2 m s.code)
 | s::l,m,i+1,h=> Jpc l (JB m s.code).2 i (by simpa using h)
def Jl1 (W:Nat→Nat) (d:Nat) (l:List PSub):Nat:=(l.findSome? fun x=> if x.num=W 16 then some x.code else none).getD d
theorem Jpd {W:Nat→Nat} {d:Nat}:∀ {l:List PSub},(∀i,i < l.length→W 16≠(l.map (·.num)).getD i 0)→Jl1 W d l=d
 | [],h=> rfl
 | s::l,h=> by
   unfold Jl1;rw [List.findSome?_cons,if_neg (fun e=> h 0 (Nat.succ_pos _) e.symm)];exact Jpd fun i hi=> h (i+1) (Nat.succ_lt_succ hi)
theorem Jpe {W:Nat→Nat} {d:Nat}:∀ {l:List PSub} {i:Nat},i < l.length→(l.map (·.num)).Pairwise (· < ·)→W 16=(l.map (·.num)).getD i 0→Jl1 W d l=(l.getD i ⟨0,0⟩).code
 | s::l,0,h,hp,e=> by
   unfold Jl1;rw [List.findSome?_cons,if_pos (show s.num=W 16 from e.symm)];rfl
 | s::l,i+1,h,hp,e=> by
   have h1:=List.pairwise_cons.1 hp;have hi:i < l.length:=by simpa using h
   have hlt:s.num < (l.map (·.num)).getD i 0:=h1.1 ((l.map (·.num)).getD i 0) (by simp [List.getD,hi];exact ⟨_,List.getElem_mem hi,rfl⟩);unfold Jl1;rw [List.findSome?_cons,if_neg (fun q=> absurd (q.trans e) (Nat.ne_of_lt hlt))];exact Jpe hi h1.2 e
theorem JxU (W:Nat→Nat) {other:Nat} {m:Mk} (hm:mOk m) (ho:other≠0∧other≤m.n) {l:List PSub} (hp:(l.map (·.num)).Pairwise (· < ·)):
 ∃D,GoodM (fun t=> t=other) m (Jfc other m l) D∧∀(s:Cnt×Lbl) (d:Nat),Bok s.2 (Jfc other m l)→(∀A,s.2 other A=some d)→∀A,(Jp W D s).1 A=some (Jl1 W d l):=by
 have g1:=Jfs (S:=fun t=> t=other) (m:=m) (D:= [⟨0,0x20,16,0,0⟩]) (fun x hx=> by obtain rfl:=List.mem_singleton.1 hx;rfl) (fun x hx t ht h0=> by
  obtain rfl:=List.mem_singleton.1 hx;rcases ht with rfl | rfl <;> exact absurd rfl h0)
 have g2:=Jil (fun t=> t=other) l (JE m [⟨0,0x20,16,0,0⟩])
 have hin:=Jpc l (JE m [⟨0,0x20,16,0,0⟩])
 have hlen:=JfL l (JE m [⟨0,0x20,16,0,0⟩])
 have g12:=g1.trans (S:=fun t=> t=other) g2 (fun t h=> .inr h) (fun t h=> h)
 have hm2:=g12.ok hm
 unfold Jfc
 dsimp only
 generalize Jad (JE m [⟨0, 0x20, 16, 0, 0⟩]) l = a at *
 obtain ⟨D,g3,q⟩:=Jlp a.1 other W (l.map (·.num)) a.2 hp hm2 ⟨ho.1,Nat.le_trans ho.2 g12.n⟩ (fun i hi=> by
  have h1:=hm2 _ (hin i (by simpa using hi));exact ⟨Nat.pos_iff_ne_zero.1 h1.1,h1.2⟩)
 have g3':GoodM (fun t=> t=other) a.2 (JaA a.1 other (l.map (·.num)) a.2) D:=g3.mono2 fun t ht=> by
  rcases ht with ht | ht
  ·exact .inl ht
  ·obtain ⟨i,hi,rfl⟩:=List.getElem_of_mem ht;have h1:=hin i Om;rw [show a.1.getD i 0=a.1[i] by simp [List.getD,hi]] at h1;exact .inr (g3.bl ⟨_,h1,rfl⟩)
 refine ⟨_,g12.trans g3' (fun t h=> .inr h) (fun t h=> h),fun s d hb hd A=> ?_⟩
 rw [List.append_nil,JaO]
 show (Jp W D s).1 (W 16)=_
 obtain ⟨q1,q2⟩:=q s (W 16)
 by_cases h:∃i,i < l.length∧W 16=(l.map (·.num)).getD i 0
 ·obtain ⟨i,hi,he⟩:=h;rw [q1 i (by simpa using hi) he,Jpe hi hp he,Nat.zero_add];obtain ⟨nb,e,_⟩:=g3.b;exact hb _ (by rw [e];exact List.mem_append_left _ (hin i hi)) _
 ·rw [q2 fun i hi he=> h ⟨i,by simpa using hi,he⟩,hd,Jpd fun i hi he=> h ⟨i,hi,he⟩]
structure PlanOk (P:Plan):Prop where
 subs:∀k,((P.subs k).map (·.num)).Pairwise (· < ·)
def Jh3 (W:Nat→Nat) (T:Cnd→Bool) (P:Plan):Prt→Nat
 | .ent e=> ((e.rules.find? fun r=> r.conds.all T).map (·.code)).getD P.dflt
 | .sub _ k=> Jl1 W P.dflt (P.subs k)
theorem JxV (W:Nat→Nat) (T:Cnd→Bool) {P:Plan} (hP:∀k,((P.subs k).map (·.num)).Pairwise (· < ·)) {a other:Nat} {m:Mk} (hm:mOk m) (ho:other≠0∧other≤m.n) (x:Prt) (hT:∀e,x= .ent e→∀r∈e.rules,∀c∈r.conds,∀y n,trueH W (hlvC c (a !=2) y n) c.op=T c):
 ∃D,GoodM (fun t=> t=other) m (Jdx P a other m x) D∧∀(s:Cnt×Lbl),Bok s.2 (Jdx P a other m x)→(∀A,s.2 other A=some P.dflt)→∀A,(Jp W D s).1 A=some (Jh3 W T P x):=by
 cases x with
 | ent e=> exact ⟨_,JAg hm e.rules,fun s hb hd A=> JB8 hm e.rules (hT e rfl) s hb ho.1 hd A⟩
 | sub n k=>
   obtain ⟨D,g,q⟩:=JxU W hm ho (hP k);exact ⟨D,g,fun s hb hd A=> q s P.dflt hb hd A⟩
structure GoodP (K:List Nat) (S:Nat→Prop) (m m':Mk) (D:List Itm):Prop where
 add:m'.l=m.l++D
 n:m.n≤m'.n
 b:∃nb,m'.b=m.b++nb∧(∀p∈nb,m.n < p.2∧p.2≤m'.n)∧(nb.map (·.2)).Nodup
 mrk:∀k∈marksO D,(m.n < k∧k≤m'.n∧¬isBl m' k)∨k∈K
 all:∀k∈K,k∈marksO D
 nd:(marksO D).Nodup
 tg:tgtOk (fun t=> S t∨isBl m' t) D
theorem GoodP.ok {K:List Nat} {S:Nat→Prop} {m m':Mk} {D:List Itm} (h:GoodP K S m m' D) (hm:mOk m):mOk m':=fun p hp=> by
 obtain ⟨nb,e,hb,unb⟩:=h.b
 rw [e] at hp
 rcases List.mem_append.1 hp with hp | hp
 ·exact ⟨(hm p hp).1,Nat.le_trans (hm p hp).2 h.n⟩
 ·exact ⟨by have:=(hb p hp).1;omega,(hb p hp).2⟩
theorem GoodP.bl {K:List Nat} {S:Nat→Prop} {m m':Mk} {D:List Itm} (h:GoodP K S m m' D) {t:Nat} (ht:isBl m t):isBl m' t:=by
 obtain ⟨nb,e,_⟩:=h.b
 obtain ⟨p,hp,rfl⟩:=ht
 exact ⟨p,by rw [e];exact List.mem_append_left _ hp,rfl⟩
theorem JfM {m m':Mk} {nb:List (Nat×Nat)} (e:m'.b=m.b++nb) (hb:∀p∈nb,m.n < p.2∧p.2≤m'.n) {k:Nat} (hk:k≤m.n) (h:¬isBl m k):¬isBl m' k:=fun ⟨p,hp,e2⟩=> by
 rw [e] at hp
 rcases List.mem_append.1 hp with hp | hp
 ·exact h ⟨p,hp,e2⟩
 ·have:=(hb p hp).1;omega
theorem Jjh {β:Type} (W:Nat→Nat) (f:Mk→β→Mk) (V:β→Nat) (d other:Nat) (okx:β→Prop) (hf:∀m x,okx x→mOk m→(other≠0∧other≤m.n)→∃D,GoodM (fun t=> t=other) m (f m x) D∧∀(s:Cnt×Lbl),Bok s.2 (f m x)→(∀A,s.2 other A=some d)→∀A,(Jp W D s).1 A=some (V x)):∀(l:List (Nat×β)) (m:Mk),mOk m→(other≠0∧other≤m.n)→(l.map (·.1)).Nodup→(∀k∈l.map (·.1),k≠0∧k≤m.n∧¬isBl m k∧k≠other)→
 (∀x∈l,okx x.2)→
 ∃D,GoodP (l.map (·.1)) (fun t=> t=other) m (JbY f m l) D∧∀(s:Cnt×Lbl),Bok s.2 (JbY f m l)→(∀A,s.2 other A=some d)→∀x∈l,∀A,(Jp W D s).2 x.1 A=some (V x.2)
 | [],m,hm,ho,hk,hk2,hT=> ⟨[],⟨(List.append_nil _).symm,Nat.le_refl _,⟨[],(List.append_nil _).symm,(fun _ h=> by cases h),List.nodup_nil⟩,(fun k h=> by cases h),(fun k h=> by cases h),List.nodup_nil,Tt⟩,fun s _ _ x hx=> by cases hx⟩
 | x::l,m,hm,ho,hk,hk2,hT=> by
   obtain ⟨k0,k1,k2,k3⟩:=hk2 x.1 (List.mem_cons_self ..);have hkn:=List.nodup_cons.1 hk;obtain ⟨D1,g1,q1⟩:=hf (J3 m x.1) x.2 (hT x (List.mem_cons_self ..)) hm ho;obtain ⟨nb1,e1,hb1,unb1⟩:=g1.b;obtain ⟨D2,g2,q2⟩:=Jjh W f V d other okx hf l (f (J3 m x.1) x.2) (g1.ok hm) ⟨ho.1,Nat.le_trans ho.2 g1.n⟩ hkn.2 (fun k h=> by
    obtain ⟨c0,c1,c2,c3⟩:=hk2 k (List.mem_cons_of_mem _ h);exact ⟨c0,Nat.le_trans c1 g1.n,JfM (m:=J3 m x.1) e1 hb1 c1 c2,c3⟩) (fun y hy=> hT y (List.mem_cons_of_mem _ hy))
   obtain ⟨nb2,e2,hb2,unb2⟩:=g2.b;have hmx:marksO [(⟨x.1,0,0,0,0⟩:Itm)]= [x.1]:=by simp [marksO,k0]
   have hn1:m.n≤(f (J3 m x.1) x.2).n:=g1.n;have hn2:=g2.n;have hbb:¬isBl (JbY f m (x::l)) x.1:=JfM (m:=f (J3 m x.1) x.2) e2 hb2 (Nat.le_trans k1 hn1) (JfM (m:=J3 m x.1) e1 hb1 k1 k2);have hx2:x.1∉marksO D2:=fun h=> by
    rcases g2.mrk _ h with ⟨h1,_⟩ | h
    ·omega
    ·exact hkn.1 h
   refine ⟨[⟨x.1,0,0,0,0⟩]++(D1++D2),⟨?_,Nat.le_trans hn1 hn2,⟨nb1++nb2, ?_,fun p hp=> ?_,Jiz hb1 unb1 hb2 unb2⟩,fun k h=> ?_,fun k h=> ?_, ?_, ?_⟩,fun s hb hd y hy A=> ?_⟩
   ·show (JbY f _ l).l=_;rw [g2.add,g1.add];show (m.l++ [_]++D1)++D2=_;simp only [List.append_assoc]
   ·show (JbY f _ l).b=_;rw [e2,e1,List.append_assoc];rfl
   ·rcases List.mem_append.1 hp with hp | hp
    ·have h1:=(hb1 p hp).1;have h2:=(hb1 p hp).2;exact ⟨h1,Nat.le_trans h2 hn2⟩
    ·have h1:=(hb2 p hp).1;exact ⟨Nat.lt_of_le_of_lt hn1 h1,(hb2 p hp).2⟩
   ·rw [Jbx,Jbx,hmx] at h;rcases List.mem_append.1 h with h | h
    ·exact .inr (by rw [List.mem_singleton.1 h];exact List.mem_cons_self ..)
    ·rcases List.mem_append.1 h with h | h
     ·obtain ⟨c1,c2,c3⟩:=g1.mrk k h;exact .inl ⟨c1,Nat.le_trans c2 hn2,JfM (m:=f (J3 m x.1) x.2) e2 hb2 c2 c3⟩
     ·rcases g2.mrk k h with ⟨c1,c2,c3⟩ | c
      ·exact .inl ⟨Nat.lt_of_le_of_lt hn1 c1,c2,c3⟩
      ·exact .inr (List.mem_cons_of_mem _ c)
   ·rw [Jbx,Jbx,hmx];rcases List.mem_cons.1 h with rfl | h
    ·exact List.mem_append_left _ (List.mem_singleton.2 rfl)
    ·exact List.mem_append_right _ (List.mem_append_right _ (g2.all k h))
   ·rw [Jbx,Jbx,hmx,List.nodup_append,List.nodup_append];refine ⟨Si,⟨g1.nd,g2.nd,fun u hu v hv e=> ?_⟩,fun u hu v hv e=> ?_⟩
    ·have h1:=(g1.mrk u hu);rcases g2.mrk v hv with ⟨c,_⟩ | c
     ·have:=h1.2.1;omega
     ·have:=(hk2 v (List.mem_cons_of_mem _ c)).2.1;have h3:m.n < u:=h1.1;omega
    ·obtain rfl:=List.mem_singleton.1 hu;subst e;rcases List.mem_append.1 hv with h | h
     ·have h3:m.n < x.1:=(g1.mrk _ h).1;omega
     ·exact hx2 h
   ·refine JeW (ex1:=fun _=> False) ⟨fun t h1 h2=> absurd (h1.elim id id) h2,Tt⟩ (JeW g1.tg g2.tg (fun t ht=> ?_) (fun t ht=> ht)) (fun t h=> h.elim) (fun t h=> h);rcases ht with ht | ht
    ·exact .inr (.inl ht)
    ·exact .inr (.inr (g2.bl ht))
   ·have hoD:other∉marksO D2:=fun h=> by
     rcases g2.mrk _ h with ⟨c,_⟩ | c
     ·have:=Nat.le_trans ho.2 hn1;omega
     ·exact (hk2 other (List.mem_cons_of_mem _ c)).2.2.2 rfl
    have hb':Bok (Jp W D2 s).2 (f (J3 m x.1) x.2):=fun p hp A=> by
     rw [JeC (by have:=(g1.ok hm p hp).1;omega) fun h=> ?_]
     ·exact hb p (by show p∈(JbY f _ l).b;rw [e2];exact List.mem_append_left _ hp) A
     ·rcases g2.mrk _ h with ⟨_,_,c⟩ | c
      ·exact c (g2.bl ⟨p,hp,rfl⟩)
      ·exact JfM (m:=J3 m x.1) e1 hb1 (hk2 _ (List.mem_cons_of_mem _ c)).2.1 (hk2 _ (List.mem_cons_of_mem _ c)).2.2.1 ⟨p,hp,rfl⟩
    rw [JaO,JaO];rw [show Jp W [(⟨x.1,0,0,0,0⟩:Itm)] (Jp W D1 (Jp W D2 s))=_ from if_neg k0];show (if y.1=x.1 then (Jp W D1 (Jp W D2 s)).1 else (Jp W D1 (Jp W D2 s)).2 y.1) A=_;rcases List.mem_cons.1 hy with rfl | hy
    ·rw [if_pos rfl];exact q1 _ hb' (fun A=> by rw [JeC ho.1 hoD];exact hd A) A
    ·have hym:y.1∈l.map (·.1):=List.mem_map.2 ⟨y,hy,rfl⟩;obtain ⟨c0,c1,c2,_⟩:=hk2 y.1 (List.mem_cons_of_mem _ hym);rw [if_neg (fun e:y.1=x.1=> hkn.1 (by show x.1∈_;rw [← e];exact hym)),Jhz g1 c0 (.inl c1)];exact q2 s hb hd y hy A
theorem JxW (W:Nat→Nat) (T:Cnd→Bool) {P:Plan} (hP:∀k,((P.subs k).map (·.num)).Pairwise (· < ·)) {a other:Nat} (l:List (Nat×Prt)) (m:Mk) (hm:mOk m) (ho:other≠0∧other≤m.n) (hk:(l.map (·.1)).Nodup) (hk2:∀k∈l.map (·.1),k≠0∧k≤m.n∧¬isBl m k∧k≠other)
 (hT:∀x∈l,∀e,x.2= .ent e→∀r∈e.rules,∀c∈r.conds,∀y n,trueH W (hlvC c (a !=2) y n) c.op=T c):
 ∃D,GoodP (l.map (·.1)) (fun t=> t=other) m (Jdy P a other m l) D∧∀(s:Cnt×Lbl),Bok s.2 (Jdy P a other m l)→(∀A,s.2 other A=some P.dflt)→∀x∈l,∀A,(Jp W D s).2 x.1 A=some (Jh3 W T P x.2):=
 Jjh W (Jdx P a other) (Jh3 W T P) P.dflt other (fun x=> ∀e,x= .ent e→∀r∈e.rules,∀c∈r.conds,∀y n,trueH W (hlvC c (a !=2) y n) c.op=T c) (fun m x hx hm ho=> JxV W T hP hm ho x hx) l m hm ho hk hk2 hT
theorem Jm9 {n k i:Nat} (h:i < n):((List.range n).map fun j=> k+1+j).getD i 0=k+1+i:=by simp [List.getD,h]
def Jeq (W:Nat→Nat) (T:Cnd→Bool) (P:Plan) (a A:Nat):Nat:=((partsP P a).findSome? fun x=> if x.num=A then some (Jh3 W T P x) else none).getD P.dflt
theorem Jji {W:Nat→Nat} {T:Cnd→Bool} {P:Plan} {A d:Nat}:∀ {l:List Prt},(∀i,i < l.length→A≠(l.map Prt.num).getD i 0)→(l.findSome? fun x=> if x.num=A then some (Jh3 W T P x) else none).getD d=d
 | [],h=> rfl
 | s::l,h=> by
   rw [List.findSome?_cons,if_neg (fun e=> h 0 (Nat.succ_pos _) e.symm)];exact Jji fun i hi=> h (i+1) (Nat.succ_lt_succ hi)
theorem Jjj {W:Nat→Nat} {T:Cnd→Bool} {P:Plan} {A d:Nat} {z:Prt}:∀ {l:List Prt} {i:Nat},i < l.length→(l.map Prt.num).Pairwise (· < ·)→A=(l.map Prt.num).getD i 0→(l.findSome? fun x=> if x.num=A then some (Jh3 W T P x) else none).getD d=Jh3 W T P (l.getD i z)
 | s::l,0,h,hp,e=> by
   rw [List.findSome?_cons,if_pos (show s.num=A from e.symm)];rfl
 | s::l,i+1,h,hp,e=> by
   have h1:=List.pairwise_cons.1 hp;have hi:i < l.length:=by simpa using h
   have hlt:s.num < (l.map Prt.num).getD i 0:=h1.1 ((l.map Prt.num).getD i 0) (by simp [List.getD,hi];exact ⟨_,List.getElem_mem hi,rfl⟩);rw [List.findSome?_cons,if_neg (fun q=> absurd (q.trans e) (Nat.ne_of_lt hlt))];exact Jjj hi h1.2 e
theorem JgY (W:Nat→Nat) (T:Cnd→Bool) {P:Plan} (hP:∀k,((P.subs k).map (·.num)).Pairwise (· < ·)) {a:Nat} (hp:((partsP P a).map Prt.num).Pairwise (· < ·)) {m:Mk} (hm:mOk m) (hT:∀e∈P.ents a,∀r∈e.rules,∀c∈r.conds,∀y n,trueH W (hlvC c (a !=2) y n) c.op=T c):
 ∃D,GoodM (fun _=> False) m (Ja6 P m a) D∧∀(s:Cnt×Lbl),Bok s.2 (Ja6 P m a)→∀A,(Jp W D s).1 A=some (Jeq W T P a A):=by
 have g1:=Jfx (fun _=> False) m P.dflt
 have hin:=Jf2 m P.dflt
 have hm1:=g1.ok hm
 have hd:=hm1 _ hin
 unfold Ja6
 dsimp only
 generalize JB m P.dflt = g at *
 have hent:∀e,Prt.ent e∈partsP P a→e∈P.ents a:=fun e he=> by
  have h1:=(List.mergeSort_perm _ _).mem_iff.1 he;unfold partsR at h1;rcases List.mem_append.1 h1 with h1 | h1
  ·obtain ⟨e',h2,h3⟩:=List.mem_map.1 h1;cases h3;exact h2
  ·split at h1
   ·simp at h1
   ·cases h1
 unfold Jeq
 generalize partsP P a = l at *
 have hmk:mOk ⟨g.2.l,g.2.n+l.length,g.2.b⟩:=fun p hp=> ⟨(hm1 p hp).1,Nat.le_trans (hm1 p hp).2 (Nat.le_add_right _ _)⟩
 obtain ⟨D1,g2,q2⟩:=Jlp ((List.range l.length).map fun i=> g.2.n+1+i) g.1 W (l.map Prt.num) ⟨g.2.l,g.2.n+l.length,g.2.b⟩ hp hmk ⟨Nat.pos_iff_ne_zero.1 hd.1,Nat.le_trans hd.2 (Nat.le_add_right _ _)⟩ (fun i hi=> by
  rw [List.length_map] at hi;rw [Jm9 hi];exact ⟨Om,by show _≤g.2.n+l.length;omega⟩)
 obtain ⟨nb2,e2,hb2,unb2⟩:=g2.b
 have hz:(((List.range l.length).map fun i=> g.2.n+1+i).zip l).map (·.1)=(List.range l.length).map fun i=> g.2.n+1+i:=List.map_fst_zip Si
 have hin':∀ {k},k∈(List.range l.length).map (fun i=> g.2.n+1+i)→g.2.n < k∧k≤g.2.n+l.length:=fun {k} hk=> by
  obtain ⟨i,hi,rfl⟩:=List.mem_map.1 hk;have:=List.mem_range.1 hi;omega
 have hg2n:g.2.n+l.length≤(JaA ((List.range l.length).map fun i=> g.2.n+1+i) g.1 (l.map Prt.num) ⟨g.2.l,g.2.n+l.length,g.2.b⟩).n:=g2.n
 have hnb:∀ {k},k∈(List.range l.length).map (fun i=> g.2.n+1+i)→¬isBl (JaA ((List.range l.length).map fun i=> g.2.n+1+i) g.1 (l.map Prt.num) ⟨g.2.l,g.2.n+l.length,g.2.b⟩) k:=fun {k} hk=> by
  refine JfM (m:=⟨g.2.l,g.2.n+l.length,g.2.b⟩) e2 hb2 (hin' hk).2 fun ⟨p,hp,e⟩=> ?_;have h1:=(hm1 p hp).2;have h2:=(hin' hk).1;omega
 obtain ⟨D2,g3,q3⟩:=JxW W T hP (a:=a) (other:=g.1) (((List.range l.length).map fun i=> g.2.n+1+i).zip l) _ (g2.ok hmk) ⟨Nat.pos_iff_ne_zero.1 hd.1,Nat.le_trans hd.2 (Nat.le_trans (Nat.le_add_right _ _) hg2n)⟩
  (by rw [hz];exact List.Pairwise.map _ (fun i j h e=> h Om) List.nodup_range) (by
    rw [hz];intro k hk;have h1:=hin' hk;exact ⟨Om,Nat.le_trans h1.2 hg2n,hnb hk,by have:=hd.2;omega⟩)
  (fun x hx e he r hr c hc y n=> hT e (hent e (he ▸ (List.of_mem_zip (a:=x.1) (b:=x.2) hx).2)) r hr c hc y n)
 rw [hz] at g3
 obtain ⟨nb3,e3,hb3,unb3⟩:=g3.b
 have hbl3:isBl (Jdy P a g.1 (JaA ((List.range l.length).map fun i=> g.2.n+1+i) g.1 (l.map Prt.num) ⟨g.2.l,g.2.n+l.length,g.2.b⟩) (((List.range l.length).map fun i=> g.2.n+1+i).zip l)) g.1:=g3.bl (g2.bl ⟨_,hin,rfl⟩)
 refine ⟨D1++D2,⟨?_, ?_, ?_,fun k hk=> ?_, ?_, ?_⟩,fun s hb A=> ?_⟩
 ·rw [g3.add,g2.add];show (g.2.l++D1)++D2=_;rw [g1.add,List.append_nil,List.append_assoc]
 ·exact Nat.le_trans g1.n (Nat.le_trans (Nat.le_trans (Nat.le_add_right _ _) hg2n) g3.n)
 ·obtain ⟨nb1,e1,hb1,unb1⟩:=g1.b;refine ⟨nb1++(nb2++nb3),by rw [e3,e2];show g.2.b++nb2++nb3=_;rw [e1];simp only [List.append_assoc],fun p hp=> ?_,Jiz (b:=g.2.n) (c:=(Jdy P a g.1 (JaA ((List.range l.length).map fun i=> g.2.n+1+i) g.1 (l.map Prt.num) ⟨g.2.l,g.2.n+l.length,g.2.b⟩) (((List.range l.length).map fun i=> g.2.n+1+i).zip l)).n) hb1 unb1 (fun p hp=> ?_) (Jiz hb2 unb2 hb3 unb3)⟩;have a1:=g1.n;have a3:=g3.n;rcases List.mem_append.1 hp with hp | hp
  ·have:=hb1 p hp;omega
  ·rcases List.mem_append.1 hp with hp | hp
   ·have h1:g.2.n+l.length < p.2:=(hb2 p hp).1;have h2:=(hb2 p hp).2;omega
   ·have:=hb3 p hp;omega
  ·have a3:=g3.n;rcases List.mem_append.1 hp with hp | hp
   ·have h1:g.2.n+l.length < p.2:=(hb2 p hp).1;have h2:=(hb2 p hp).2;omega
   ·have:=hb3 p hp;omega
 ·have a1:=g1.n;have a3:=g3.n;rw [Jbx] at hk;rcases List.mem_append.1 hk with hk | hk
  ·obtain ⟨c1,c2,c3⟩:=g2.mrk k hk;have c1:g.2.n+l.length < k:=c1;exact ⟨Om,Om,JfM e3 hb3 c2 c3⟩
  ·rcases g3.mrk k hk with ⟨c1,c2,c3⟩ | c
   ·exact ⟨Om,c2,c3⟩
   ·have h1:=hin' c;exact ⟨Om,Om,JfM e3 hb3 (Nat.le_trans h1.2 hg2n) (hnb c)⟩
 ·rw [Jbx,List.nodup_append];refine ⟨g2.nd,g3.nd,fun u hu v hv e=> ?_⟩;obtain ⟨c1,c2,_⟩:=g2.mrk u hu;have c1:g.2.n+l.length < u:=c1;rcases g3.mrk v hv with ⟨d1,_⟩ | d
  ·omega
  ·have:=(hin' d).2;omega
 ·refine JeW g2.tg g3.tg (fun t ht=> ?_) (fun t ht=> ?_)
  ·rcases ht with (rfl | ht) | ht
   ·exact .inr (.inr hbl3)
   ·exact .inl (Jcb.1 (g3.all t ht)).2
   ·exact .inr (.inr (g3.bl ht))
  ·rcases ht with rfl | ht
   ·exact .inr hbl3
   ·exact .inr ht
 ·rw [JaO];have hoD:g.1∉marksO D2:=fun h=> by
   rcases g3.mrk _ h with ⟨c,_⟩ | c
   ·have:=hd.2;omega
   ·have:=(hin' c).1;have:=hd.2;omega
  have hdd:∀A,s.2 g.1 A=some P.dflt:=fun A=> hb _ (by
   show (P.dflt,g.1)∈(Jdy P a g.1 _ _).b;rw [e3,e2];exact List.mem_append_left _ (List.mem_append_left _ hin)) A
  obtain ⟨r1,r2⟩:=q2 (Jp W D2 s) A;by_cases h:∃i,i < l.length∧A=(l.map Prt.num).getD i 0
  ·obtain ⟨i,hi,he⟩:=h;rw [r1 i (by simpa using hi) he,Jjj (z:= .sub 0 0) hi hp he,Nat.zero_add,Jm9 hi];exact q3 s hb hdd (g.2.n+1+i,l.getD i (.sub 0 0)) (by
    rw [List.mem_iff_getElem];refine ⟨i,by simp;exact hi, ?_⟩;simp [List.getD,hi]) A
  ·rw [r2 fun i hi he=> h ⟨i,by simpa using hi,he⟩,Jji fun i hi he=> h ⟨i,hi,he⟩,JeC (Nat.pos_iff_ne_zero.1 hd.1) hoD];exact hdd A
def Jkg:Nat:=2147483648
def Job (W:Nat→Nat) (T:Cnd→Bool) (P:Plan) (A:Nat):Nat:=
 if A=4294967295 then P.dflt else if (A&&& 1073741824) !=0 then (if P.x32 then Jeq W T P 1 A else Jkg) else Jeq W T P 0 A
structure PlanT (W:Nat→Nat) (T:Nat→Cnd→Bool) (P:Plan):Prop where
 subs:∀k,((P.subs k).map (·.num)).Pairwise (· < ·)
 parts:∀a,a < 5→((partsP P a).map Prt.num).Pairwise (· < ·)
 tru:∀a,a < 5→∀e∈P.ents a,∀r∈e.rules,∀c∈r.conds,∀y n,trueH W (hlvC c (a !=2) y n) c.op=T a c
theorem Jkh {S:Nat→Prop} {m:Mk} {x:Itm} (h0:x.mark=0) (hf:x.f=0) (h:S x.t∨isBl m x.t):GoodM S m (JE m [x]) [x]:=
 Jfs (fun y hy=> by obtain rfl:=List.mem_singleton.1 hy;exact h0) fun y hy t h1 h2=> by
  obtain rfl:=List.mem_singleton.1 hy;rcases h1 with rfl | rfl
  ·exact h
  ·exact absurd hf h2
theorem JAh {W:Nat→Nat} {T:Nat→Cnd→Bool} {P:Plan} (hP:PlanT W T P) (hT:T 1=T 0) {m:Mk} (hm:mOk m):
 ∃D,GoodM (fun _=> False) m (JeA P m) D∧∀(s:Cnt×Lbl),Bok s.2 (JeA P m)→∀A,(Jp W D s).1 A=some (Job W (T 0) P A):=by
 have g1:=Jfx (fun _=> False) m P.dflt
 have hin:=Jf2 m P.dflt
 have hm1:=g1.ok hm
 have hpos:=Jl0 hm P.dflt
 unfold JeA Job
 dsimp only
 generalize JB m P.dflt = g at *
 have g2:=Jkh (S:=fun _=> False) (m:=g.2) (x:=⟨0,0x15,4294967295,g.1,0⟩) rfl rfl (.inr ⟨_,hin,rfl⟩)
 have g12:=g1.trans (S:=fun _=> False) g2 (fun t h=> h.elim) (fun t h=> h)
 have hm2:=g12.ok hm
 have hinp:(P.dflt,g.1)∈(JE g.2 [(⟨0,0x15,4294967295,g.1,0⟩:Itm)]).b:=hin
 generalize JE g.2 [(⟨0, 0x15, 4294967295, g.1, 0⟩ : Itm)] = m1 at *
 have first:∀(s:Cnt×Lbl) (A:Nat),(Jp W [(⟨0,0x15,4294967295,g.1,0⟩:Itm)] s).1 A=if A=4294967295 then s.2 g.1 A else s.1 A:=fun s A=> by
  show (if (A ==4294967295)=true then (if g.1=0 then s.1 else s.2 g.1) A else (if 0=0 then s.1 else s.2 0) A)=_;rw [if_neg hpos,if_pos rfl];simp
 cases hx:P.x32 with
 | false=>
   rw [if_neg Bool.false_ne_true];have g3:=Jfx (fun _=> False) m1 2147483648;have hin3:=Jf2 m1 2147483648;have hpos3:=Jl0 hm2 2147483648;generalize JB m1 2147483648 = k at *
   have g4:=Jkh (S:=fun _=> False) (m:=k.2) (x:=⟨0,0x45,1073741824,k.1,0⟩) rfl rfl (.inr ⟨_,hin3,rfl⟩);have g34:=g3.trans (S:=fun _=> False) g4 (fun t h=> h.elim) (fun t h=> h);have hm4:=g34.ok hm2;have hin4:(2147483648,k.1)∈(JE k.2 [(⟨0,0x45,1073741824,k.1,0⟩:Itm)]).b:=hin3;generalize JE k.2 [(⟨0, 0x45, 1073741824, k.1, 0⟩ : Itm)] = m4 at *
   obtain ⟨D,g5,q5⟩:=JgY W (T 0) hP.subs (hP.parts 0 Dc) hm4 (hP.tru 0 Dc);refine ⟨_,(g12.trans (S:=fun _=> False) g34 (fun t h=> h.elim) (fun t h=> h)).trans (S:=fun _=> False) g5 (fun t h=> h.elim) (fun t h=> h),fun s hb A=> ?_⟩;have b4:Bok (Jp W D s).2 m4:=Bok.back hb g5 hm4;have b1:(P.dflt,g.1)∈m4.b:=by
    obtain ⟨nb,e,_⟩:=g34.b;rw [e];exact List.mem_append_left _ hinp
   rw [JaO,List.nil_append,List.nil_append,JaO,first];by_cases h1:A=4294967295
   ·rw [if_pos h1,if_pos h1];exact b4 _ b1 A
   ·rw [if_neg h1,if_neg h1];show (if ((A&&& 1073741824) !=0)=true then (if k.1=0 then (Jp W D s).1 else (Jp W D s).2 k.1) A else (if 0=0 then (Jp W D s).1 else _) A)=_;rw [if_neg hpos3,if_pos rfl];cases (A&&& 1073741824) !=0
    ·rw [if_neg Bool.false_ne_true,if_neg Bool.false_ne_true];exact q5 s hb A
    ·rw [if_pos rfl,if_pos rfl,if_neg Bool.false_ne_true];exact b4 _ hin4 A
 | true=>
   rw [if_pos rfl];have g3:GoodM (fun t=> t=m1.n+1) (Jz m1) (JE (Jz m1) [⟨0,0x45,1073741824,m1.n+1,0⟩]) [⟨0,0x45,1073741824,m1.n+1,0⟩]:=Jkh rfl rfl (.inl rfl);obtain ⟨D5,g5,q5⟩:=JgY W (T 0) hP.subs (hP.parts 0 Dc) (m:=JE (Jz m1) [⟨0,0x45,1073741824,m1.n+1,0⟩]) (Jf1 hm2) (hP.tru 0 Dc);have g35:GoodM (fun t=> t=m1.n+1∨False) (Jz m1) (Ja6 P (JE (Jz m1) [⟨0,0x45,1073741824,m1.n+1,0⟩]) 0) ([⟨0,0x45,1073741824,m1.n+1,0⟩]++D5):=g3.trans g5 (fun t h=> .inr (.inl h)) (fun t h=> h.elim);have g6:GoodM (fun _=> False) m1 (J3 (Ja6 P (JE (Jz m1) [⟨0,0x45,1073741824,m1.n+1,0⟩]) 0) (m1.n+1)) (([⟨0,0x45,1073741824,m1.n+1,0⟩]++D5)++ [⟨m1.n+1,0,0,0,0⟩]):=Jh1 hm2 g35;have hm6:=g6.ok hm2;obtain ⟨D7,g7,q7⟩:=JgY W (T 1) hP.subs (hP.parts 1 Dc) hm6 (hP.tru 1 Dc);refine ⟨_,(g12.trans (S:=fun _=> False) g6 (fun t h=> h.elim) (fun t h=> h)).trans (S:=fun _=> False) g7 (fun t h=> h.elim) (fun t h=> h),fun s hb A=> ?_⟩;have b6:Bok (Jp W D7 s).2 (J3 (Ja6 P (JE (Jz m1) [⟨0,0x45,1073741824,m1.n+1,0⟩]) 0) (m1.n+1)):=Bok.back hb g7 hm6;have hne:m1.n+1≠0:=Nat.succ_ne_zero _;have hmk:(m1.n+1)∈marksO (([⟨0,0x45,1073741824,m1.n+1,0⟩]++D5)++ [⟨m1.n+1,0,0,0,0⟩]):=Jcb.2 ⟨hne,_,List.mem_append_right _ (List.mem_singleton.2 rfl),rfl⟩;have b6m:∀p∈(J3 (Ja6 P (JE (Jz m1) [⟨0,0x45,1073741824,m1.n+1,0⟩]) 0) (m1.n+1)).b,p.2≠m1.n+1:=fun p hp e=> (g6.mrk _ hmk).2.2 ⟨p,hp,e⟩;have b5:Bok (Jp W [(⟨m1.n+1,0,0,0,0⟩:Itm)] (Jp W D7 s)).2 (Ja6 P (JE (Jz m1) [⟨0,0x45,1073741824,m1.n+1,0⟩]) 0):=fun p hp A=> by
    show (if p.2=m1.n+1 then _ else (Jp W D7 s).2 p.2) A=_;rw [if_neg (b6m p hp)];exact b6 p hp A
   have b4:Bok (Jp W D5 (Jp W [(⟨m1.n+1,0,0,0,0⟩:Itm)] (Jp W D7 s))).2 (JE (Jz m1) [⟨0,0x45,1073741824,m1.n+1,0⟩]):=Bok.back b5 g5 (Jf1 hm2);rw [JaO,List.nil_append,JaO,first,JaO,JaO];by_cases h1:A=4294967295
   ·rw [if_pos h1,if_pos h1];exact b4 _ hinp A
   ·rw [if_neg h1,if_neg h1];show (if ((A&&& 1073741824) !=0)=true then (if m1.n+1=0 then _ else (Jp W D5 (Jp W [(⟨m1.n+1,0,0,0,0⟩:Itm)] (Jp W D7 s))).2 (m1.n+1)) A else (if 0=0 then (Jp W D5 (Jp W [(⟨m1.n+1,0,0,0,0⟩:Itm)] (Jp W D7 s))).1 else _) A)=_;rw [if_neg hne,if_pos rfl,Jhz g5 hne (.inl (Nat.le_refl _))];cases (A&&& 1073741824) !=0
    ·rw [if_neg Bool.false_ne_true,if_neg Bool.false_ne_true];exact q5 _ b5 A
    ·rw [if_pos rfl,if_pos rfl,if_pos rfl];show (if m1.n+1=m1.n+1 then (Jp W D7 s).1 else _) A=_;rw [if_pos rfl,q7 s hb A,hT]
def Jjk (W:Nat→Nat) (T:Nat→Cnd→Bool) (P:Plan) (a:Nat):Nat:=if a=0 then Job W (T 0) P (W 0) else Jeq W (T a) P a (W 0)
theorem JrL {W:Nat→Nat} {T:Nat→Cnd→Bool} {P:Plan} (hP:PlanT W T P) (hT:T 1=T 0) (other:Nat) (m:Mk) (a:Nat) (ha:a < 5) (hm:mOk m):
 ∃D,GoodM (fun t=> t=other) m (JbN P m a) D∧∀(s:Cnt×Lbl),Bok s.2 (JbN P m a)→∀A,(Jp W D s).1 A=some (Jjk W T P a):=by
 have g1:GoodM (fun _=> False) m (JE m [⟨0,0x20,0,0,0⟩]) [⟨0,0x20,0,0,0⟩]:=Jfs (fun x hx=> by obtain rfl:=List.mem_singleton.1 hx;rfl) (fun x hx t ht h0=> by
  obtain rfl:=List.mem_singleton.1 hx;rcases ht with rfl | rfl <;> exact absurd rfl h0)
 unfold JbN Jjk
 by_cases h0:a=0
 ·rw [if_pos h0,if_pos h0];obtain ⟨D,g,q⟩:=JAh hP hT (m:=JE m [⟨0,0x20,0,0,0⟩]) hm;exact ⟨_,g1.trans g (fun t h=> h.elim) (fun t h=> h.elim),fun s hb A=> by rw [JaO];exact q s hb (W 0)⟩
 ·rw [if_neg h0,if_neg h0];obtain ⟨D,g,q⟩:=JgY W (T a) hP.subs (hP.parts a ha) (m:=JE m [⟨0,0x20,0,0,0⟩]) hm (hP.tru a ha);exact ⟨_,g1.trans g (fun t h=> h.elim) (fun t h=> h.elim),fun s hb A=> by rw [JaO];exact q s hb (W 0)⟩
def JdF (l:List (Nat×Nat)):List Itm:=l.flatMap fun x=> [⟨x.2,0,0,0,0⟩,⟨0,6,x.1,0,0⟩]
theorem Joc:∀(l:List (Nat×Nat)) (m:Mk),(l.foldl JbZ m).l=m.l++JdF l
 | [],m=> (List.append_nil _).symm
 | x::l,m=> by
   rw [List.foldl_cons,Joc l];show (m.l++ [_]++ [_])++JdF l=m.l++([_,_]++JdF l);simp
theorem Jpf:∀ {l:List (Nat×Nat)},(∀p∈l,p.2≠0)→marksO (JdF l)=l.map (·.2)
 | [],h=> rfl
 | x::l,h=> by
   show marksO ([_,_]++JdF l)=_;rw [Jbx,Jpf fun p hp=> h p (List.mem_cons_of_mem _ hp)];have:=h x (List.mem_cons_self ..);simp [marksO,this]
theorem JuK {W:Nat→Nat}:∀ {l:List (Nat×Nat)} {s:Cnt×Lbl},(∀p∈l,p.2≠0)→(l.map (·.2)).Nodup→∀p∈l,∀A,(Jp W (JdF l) s).2 p.2 A=some p.1
 | [],s,h,hn,p,hp,A=> by cases hp
 | x::l,s,h,hn,p,hp,A=> by
   show (Jp W ([⟨x.2,0,0,0,0⟩,⟨0,6,x.1,0,0⟩]++JdF l) s).2 p.2 A=_;have hx:=h x (List.mem_cons_self ..);have hn2:=List.nodup_cons.1 hn;rw [JaO,show Jp W [(⟨x.2,0,0,0,0⟩:Itm),⟨0,6,x.1,0,0⟩] (Jp W (JdF l) s)=_ from if_neg hx];show (if p.2=x.2 then (fun A=> some x.1) else (Jp W (JdF l) s).2 p.2) A=_;rcases List.mem_cons.1 hp with rfl | hp
   ·rw [if_pos rfl]
   ·rw [if_neg (fun e:p.2=x.2=> hn2.1 (by show x.2∈_;rw [← e];exact List.mem_map.2 ⟨p,hp,rfl⟩))];exact JuK (fun p hp=> h p (List.mem_cons_of_mem _ hp)) hn2.2 p hp A
theorem GoodM.nodup {S:Nat→Prop} {m m':Mk} {D:List Itm} (h:GoodM S m m' D) (hm:mOk m) (hn:(m.b.map (·.2)).Nodup):(m'.b.map (·.2)).Nodup:=by
 obtain ⟨nb,e,hb,u⟩:=h.b
 rw [e]
 exact Jiz (a:=0) hm hn hb u
def Jna:List Itm:= [⟨0,0x20,4,0,0⟩,⟨0,0x15,0xc000003e,1,0⟩,⟨0,0x15,0x40000003,2,0⟩,⟨0,0x15,0xc00000b7,3,0⟩,⟨0,0x15,0xc00000f3,4,0⟩,Jb3 5]
theorem JcG:frontM=⟨Jna,5, [(2147483648,5)]⟩:=rfl
def JbV (b:List (Nat×Nat)):List (Nat×Nat):=b.mergeSort fun x y=> decide (x.1≤y.1)
def Jd9 (W:Nat→Nat) (T:Nat→Cnd→Bool) (P:Plan):Nat:=
 if W 4=0xc000003e then Jjk W T P 0 else if W 4=0x40000003 then Jjk W T P 2 else if W 4=0xc00000b7 then Jjk W T P 3 else if W 4=0xc00000f3 then Jjk W T P 4 else Jkg
theorem GoodP.nodup {K:List Nat} {S:Nat→Prop} {m m':Mk} {D:List Itm} (h:GoodP K S m m' D) (hm:mOk m) (hn:(m.b.map (·.2)).Nodup):(m'.b.map (·.2)).Nodup:=by
 obtain ⟨nb,e,hb,u⟩:=h.b
 rw [e]
 exact Jiz (a:=0) hm hn hb u
theorem JuL:∀l:List (Nat×Nat),tgtOk (fun _=> False) (JdF l)
 | []=> trivial
 | x::l=> ⟨fun t h h0=> absurd (h.elim id id) h0,⟨fun t h h0=> absurd (h.elim id id) h0,JuL l⟩⟩
def JbO:Cnt×Lbl:=(fun _=> none,fun _ _=> none)
theorem JgZ {W:Nat→Nat} {T:Nat→Cnd→Bool} {P:Plan} (hP:PlanT W T P) (hT:T 1=T 0):
 (Jp W (JaI P) JbO).1 0=some (Jd9 W T P)∧(marksO (JaI P)).Nodup∧tgtOk (fun _=> False) (JaI P)∧mOk (Jat P):=by
 have hm0:mOk frontM:=fun p hp=> by
  rw [JcG] at hp;obtain rfl:=List.mem_singleton.1 hp;exact ⟨by decide,by decide⟩
 have hnb0:∀k∈ [1,2,3,4],¬isBl frontM k:=fun k hk ⟨p,hp,e⟩=> by
  rw [JcG] at hp;obtain rfl:=List.mem_singleton.1 hp;subst e
  revert hk;decide
 obtain ⟨D,g,q⟩:=Jjh W (JbN P) (Jjk W T P) Jkg 5 (fun a=> a < 5) (fun m a ha hm _=> by
  obtain ⟨D,g,q⟩:=JrL hP hT 5 m a ha hm;exact ⟨D,g,fun s hb _ A=> q s hb A⟩) [(1,0),(2,2),(3,3),(4,4)] frontM hm0 ⟨by decide,by decide⟩ Dc (fun k hk=> ⟨by revert k;decide,by revert k;decide,hnb0 k hk,by revert k;decide⟩) Dc
 have hm1:mOk (Jat P):=g.ok hm0
 have hnd:((Jat P).b.map (·.2)).Nodup:=g.nodup hm0 Dc
 have hperm:(JbV (Jat P).b).Perm (Jat P).b:=List.mergeSort_perm _ _
 have hpos:∀p∈JbV (Jat P).b,p.2≠0:=fun p hp=> Nat.pos_iff_ne_zero.1 (hm1 p (hperm.mem_iff.1 hp)).1
 have hnd2:((JbV (Jat P).b).map (·.2)).Nodup:=(hperm.map _).nodup_iff.2 hnd
 have hitems:JaI P=Jna++(D++JdF (JbV (Jat P).b)):=by
  show ((JbV (Jat P).b).foldl JbZ (Jat P)).l=_;rw [Joc,show (Jat P).l=frontM.l++D from g.add,JcG,List.append_assoc]
 have hbm:=Jpf hpos
 have hkill:(Jkg,5)∈(Jat P).b:=by
  obtain ⟨nb,e,_⟩:=g.b;show _∈(JbY (JbN P) frontM _).b;rw [e];exact List.mem_append_left _ (by rw [JcG];exact List.mem_singleton.2 rfl)
 have hbok:Bok (Jp W (JdF (JbV (Jat P).b)) JbO).2 (Jat P):=fun p hp A=> JuK hpos hnd2 p (hperm.mem_iff.2 hp) A
 have hlab:=q _ hbok (fun A=> hbok _ hkill A)
 have hblm:∀ {k},isBl (Jat P) k→k∈marksO (JdF (JbV (Jat P).b)):=fun {k} ⟨p,hp,e⟩=> by
  rw [hbm];exact List.mem_map.2 ⟨p,hperm.mem_iff.2 hp,e⟩
 have hno:∀k∈marksO D,k∉marksO (JdF (JbV (Jat P).b)):=fun k hk hk2=> by
  rw [hbm] at hk2;obtain ⟨p,hp,rfl⟩:=List.mem_map.1 hk2;have hp:=hperm.mem_iff.1 hp;rcases g.mrk _ hk with ⟨_,_,c⟩ | c
  ·exact c ⟨p,hp,rfl⟩
  ·obtain ⟨nb,e,hb,_⟩:=g.b;exact JfM (m:=frontM) e hb (by rw [JcG];revert c;generalize p.2=k;revert k;decide) (hnb0 _ c) ⟨p,hp,rfl⟩
 have hfm:marksO Jna= []:=by decide
 rw [hitems]
 refine ⟨?_, ?_, ?_,hm1⟩
 ·rw [JaO,JaO];have h5:∀A,(Jp W D (Jp W (JdF (JbV (Jat P).b)) JbO)).2 5 A=some Jkg:=fun A=> by
   rw [JeC Dc fun hk=> ?_]
   ·exact hbok _ hkill A
   ·rcases g.mrk _ hk with ⟨c,_⟩ | c
    ·rw [JcG] at c;exact absurd c Dc
    ·revert c;decide
  generalize Jp W D (Jp W (JdF (JbV (Jat P).b)) JbO)=z at hlab h5⊢;have l1:=hlab (1,0) Si (W 4);have l2:=hlab (2,2) Si (W 4);have l3:=hlab (3,3) Si (W 4);have l4:=hlab (4,4) Si (W 4);show (if (W 4 ==0xc000003e)=true then z.2 1 (W 4) else if (W 4 ==0x40000003)=true then z.2 2 (W 4) else if (W 4 ==0xc00000b7)=true then z.2 3 (W 4) else if (W 4 ==0xc00000f3)=true then z.2 4 (W 4) else z.2 5 (W 4))=_;rw [l1,l2,l3,l4,h5];unfold Jd9;simp only [beq_iff_eq]
  repeat' split
  all_goals rfl
 ·rw [Jbx,Jbx,hfm,List.nil_append,List.nodup_append];exact ⟨g.nd,by rw [hbm];exact hnd2,fun x hx y hy e=> hno x hx (e ▸ hy)⟩
 ·refine JeW (ex1:=fun t=> t=1∨t=2∨t=3∨t=4∨t=5) (ex2:=fun _=> False) ?_ (JeW (ex2:=fun _=> False) g.tg ?_ (fun t ht=> ?_) (fun t h=> h)) (fun t ht=> ?_) (fun t h=> h)
  ·refine ⟨?_, ?_, ?_, ?_, ?_, ?_,Tt⟩
   all_goals (intro t ht h0;refine .inr ?_;rcases ht with rfl | rfl <;> first | exact absurd rfl h0 | (simp [Jb3]))
  ·exact JuL _
  ·rcases ht with rfl | ht
   ·exact .inl (Jcb.1 (hblm ⟨_,hkill,rfl⟩)).2
   ·exact .inl (Jcb.1 (hblm ht)).2
  ·refine .inl ?_;have hD:∀k∈ [1,2,3,4],∃y∈D++JdF (JbV (Jat P).b),y.mark=k:=fun k hk=> by
    obtain ⟨y,hy,e⟩:=(Jcb.1 (g.all k hk)).2;exact ⟨y,List.mem_append_left _ hy,e⟩
   rcases ht with rfl | rfl | rfl | rfl | rfl
   ·exact hD 1 Dc
   ·exact hD 2 Dc
   ·exact hD 3 Dc
   ·exact hD 4 Dc
   ·obtain ⟨y,hy,e⟩:=(Jcb.1 (hblm ⟨_,hkill,rfl⟩)).2;exact ⟨y,List.mem_append_right _ hy,e⟩
def shape (x:Itm):Prop:=(x.mark≠0∧x.code=0∧x.k=0∧x.t=0∧x.f=0)∨(x.mark=0∧((x.code=0x20∧x.k+4≤64∧x.t=0∧x.f=0)∨((x.code=0x54∨x.code=6)∧x.t=0∧x.f=0∧(x.code=0x54→x.k < 4294967296))∨(x.code=5∧x.f=0)∨x.code=0x15∨x.code=0x25∨x.code=0x35∨(x.code=0x45∧x.k < 4294967296)))
def JaT (m:Mk):Prop:=∀x∈m.l,shape x
theorem JuM {m:Mk} {D:List Itm} (h:JaT m) (hD:∀x∈D,shape x):JaT (JE m D):=fun x hx=> (List.mem_append.1 hx).elim (h x) (hD x)
theorem Jef {m:Mk} {y:Itm} (h:JaT m) (hy:shape y):JaT (JE m [y]):=JuM h fun x hx=> by obtain rfl:=List.mem_singleton.1 hx;exact hy
theorem Jf3 {m:Mk} {k:Nat} (h:JaT m) (hk:k≠0):JaT (J3 m k):=Jef h (.inl ⟨hk,rfl,rfl,rfl,rfl⟩)
theorem JhB {m:Mk} (h:JaT m) (c:Nat):JaT (JB m c).2:=by
 unfold JB
 cases Jcy m.b c with
 | some k=> exact h
 | none=> exact h
theorem Jl2 {m:Mk} (h:JaT m) (t:Nat):JaT (JE m [Jb3 t]):=Jef h (.inr ⟨rfl, .inr (.inr (.inl ⟨rfl,rfl⟩))⟩)
theorem JB9 {h:Hlv} {op:Int} (h1:h.la+4≤64) (h2:h.ha+4≤64) (h3:h.ml < 4294967296) (h4:h.mh < 4294967296):∀x∈Jfr h op,shape x:=by
 unfold Jfr
 repeat' split
 all_goals (intro x hx;simp [Jdv,Jcn,Jcz,Jbp,JeT,Jdl,Ja1] at hx;try (rcases hx with rfl | rfl | rfl | rfl | rfl | rfl))
 all_goals (refine .inr ⟨rfl, ?_⟩;simp;try omega)
def Jd3 (c:Cnd):Prop:=c.arg.toNat≤5∧c.mask < 18446744073709551616
theorem JAi {m:Mk} {c:Cnd} {w:Bool} {y n:Nat} (h:JaT m) (hc:Jd3 c):JaT (Jdw m c w y n):=by
 unfold Jdw
 rw [JrH]
 exact JuM h (JB9 (by show 16+8 * c.arg.toNat+4≤64;unfold Jd3 at hc;omega) (by show 20+8 * c.arg.toNat+4≤64;unfold Jd3 at hc;omega) (Nat.mod_lt _ Dc) (by show c.mask / 4294967296 < _;unfold Jd3 at hc;omega))
theorem Jpg {w:Bool} {n:Nat}:∀(cs:List Cnd) (m:Mk),JaT m→(∀c∈cs,Jd3 c)→JaT (J7 w n m cs)
 | [],m,h,hc=> h
 | c::cs,m,h,hc=> Jpg cs _ (Jf3 (JAi (m:=Jz m) h (hc c (List.mem_cons_self ..))) (Nat.succ_ne_zero _)) fun d hd=> hc d (List.mem_cons_of_mem _ hd)
theorem JAj {w:Bool} {m:Mk} {r:PRul} (h:JaT m) (hc:∀c∈r.conds,Jd3 c):JaT (JaV w m r):=
 Jf3 (Jl2 (JhB (Jpg r.conds (Jz m) h hc) _) _) (Nat.succ_ne_zero _)
theorem Jl3 {α:Type} {f:Mk→α→Mk} {ok:α→Prop} (hf:∀m x,ok x→JaT m→JaT (f m x)):∀(l:List α) (m:Mk),JaT m→(∀x∈l,ok x)→JaT (l.foldl f m)
 | [],m,h,ho=> h
 | x::l,m,h,ho=> Jl3 hf l _ (hf m x (ho x (List.mem_cons_self ..)) h) fun y hy=> ho y (List.mem_cons_of_mem _ hy)
theorem JxX {w:Bool} {o:Nat} {m:Mk} {l:List PRul} (h:JaT m) (hc:∀r∈l,∀c∈r.conds,Jd3 c):JaT (Jd7 w o m l):=
 Jl2 (Jl3 (ok:=fun r=> ∀c∈r.conds,Jd3 c) (fun m r hr hm=> JAj hm hr) l m h hc) o
theorem Jl4 {marks:List Nat} {o:Nat}:∀(N:Nat) (l:List Nat) (pl:Nat) (m:Mk),l.length≤N→JaT m→JaT (JbG marks o l pl m)
 | 0,l,pl,m,h,hm=> by rw [JbG,dif_pos Om];exact Jef hm (.inr ⟨rfl, .inr (.inr (.inr (.inl rfl)))⟩)
 | N+1,l,pl,m,h,hm=> by
   rw [JbG];split
   ·exact Jef hm (.inr ⟨rfl, .inr (.inr (.inr (.inl rfl)))⟩)
   ·exact Jl4 N _ _ _ (by simp;omega) (Jf3 (Jl4 N _ _ _ (by simp;omega) (Jef (m:=Jz m) hm (.inr ⟨rfl, .inr (.inr (.inr (.inr (.inr (.inl rfl)))))⟩))) (Nat.succ_ne_zero _))
theorem Jnb {marks:List Nat} {o:Nat} {l:List Nat} {m:Mk} (h:JaT m):JaT (JaA marks o l m):=by
 unfold JaA
 split
 ·exact Jl2 h _
 ·exact Jl4 _ _ _ _ (Nat.le_refl _) h
theorem Jnc:∀(l:List PSub) (m:Mk),JaT m→JaT (Jad m l).2
 | [],m,h=> h
 | s::l,m,h=> Jnc l _ (JhB h s.code)
theorem Jl5 {m:Mk} {k:Nat} (h:JaT m) (hk:k+4≤64):JaT (JE m [⟨0,0x20,k,0,0⟩]):=Jef h (.inr ⟨rfl, .inl ⟨rfl,hk,rfl,rfl⟩⟩)
theorem JAk {P:Plan} {a o:Nat} {m:Mk} {x:Prt} (h:JaT m) (hc:∀e,x= .ent e→∀r∈e.rules,∀c∈r.conds,Jd3 c):JaT (Jdx P a o m x):=by
 cases x with
 | ent e=> exact JxX h (hc e rfl)
 | sub n k=> exact Jnb (Jnc _ _ (Jl5 h Dc))
theorem Jod {β:Type} {f:Mk→β→Mk} {ok:β→Prop} (hf:∀m x,ok x→JaT m→JaT (f m x)):∀(l:List (Nat×β)) (m:Mk),JaT m→(∀x∈l,x.1≠0∧ok x.2)→JaT (JbY f m l)
 | [],m,h,ho=> h
 | x::l,m,h,ho=> Jod hf l _ (hf _ x.2 (ho x (List.mem_cons_self ..)).2 (Jf3 h (ho x (List.mem_cons_self ..)).1)) fun y hy=> ho y (List.mem_cons_of_mem _ hy)
theorem Jki {P:Plan} {a:Nat} {e:PEnt} (h:Prt.ent e∈partsP P a):e∈P.ents a:=by
 have h1:=(List.mergeSort_perm _ _).mem_iff.1 h
 unfold partsR at h1
 rcases List.mem_append.1 h1 with h1 | h1
 ·obtain ⟨e',h2,h3⟩:=List.mem_map.1 h1;cases h3;exact h2
 ·split at h1
  ·simp at h1
  ·cases h1
theorem Jh4 {P:Plan} (hc:∀a,∀e∈P.ents a,∀r∈e.rules,∀c∈r.conds,Jd3 c) {m:Mk} (h:JaT m) (a:Nat):JaT (Ja6 P m a):=by
 unfold Ja6
 refine Jod (f:=Jdx P a (JB m P.dflt).1) (ok:=fun x=> ∀e,x= .ent e→∀r∈e.rules,∀c∈r.conds,Jd3 c) (fun m x hx hm=> JAk hm hx) _ _ (Jnb (m:=⟨(JB m P.dflt).2.l,_,_⟩) (JhB h P.dflt)) fun x hx=> ?_
 obtain ⟨h1,h2⟩:=List.of_mem_zip (a:=x.1) (b:=x.2) hx
 obtain ⟨i,_,e⟩:=List.mem_map.1 h1
 exact ⟨Om,fun e he r hr c hcc=> hc a e (Jki (he ▸ h2)) r hr c hcc⟩
theorem JCa {P:Plan} (hc:∀a,∀e∈P.ents a,∀r∈e.rules,∀c∈r.conds,Jd3 c) {m:Mk} (h:JaT m):JaT (JeA P m):=by
 unfold JeA
 have h1:JaT (JE (JB m P.dflt).2 [⟨0,0x15,4294967295,(JB m P.dflt).1,0⟩]):=Jef (JhB h _) (.inr ⟨rfl, .inr (.inr (.inr (.inl rfl)))⟩)
 dsimp only
 split
 ·exact Jh4 hc (Jf3 (Jh4 hc (Jef (m:=Jz (JE (JB m P.dflt).2 [⟨0,0x15,4294967295,(JB m P.dflt).1,0⟩])) h1 (.inr ⟨rfl, .inr (.inr (.inr (.inr (.inr (.inr ⟨rfl,by show 1073741824 < _;decide⟩)))))⟩)) 0) (Nat.succ_ne_zero _)) 1
 ·exact Jh4 hc (Jef (JhB h1 _) (.inr ⟨rfl, .inr (.inr (.inr (.inr (.inr (.inr ⟨rfl,by show 1073741824 < _;decide⟩)))))⟩)) 0
theorem JxY {P:Plan} (hc:∀a,∀e∈P.ents a,∀r∈e.rules,∀c∈r.conds,Jd3 c) (hm:mOk (Jat P)):∀x∈JaI P,shape x:=by
 have h0:JaT frontM:=by
  rw [JcG];intro x hx;simp [Jna,Jb3] at hx;rcases hx with rfl | rfl | rfl | rfl | rfl | rfl
  ·exact .inr ⟨rfl, .inl ⟨rfl,by decide,rfl,rfl⟩⟩
  all_goals first | exact .inr ⟨rfl, .inr (.inr (.inr (.inl rfl)))⟩ | exact .inr ⟨rfl, .inr (.inr (.inl ⟨rfl,rfl⟩))⟩
 have h1:JaT (Jat P):=Jod (f:=JbN P) (ok:=fun _=> True) (fun m a _ hm=> by
  unfold JbN;split
  ·exact JCa hc (Jl5 hm Dc)
  ·exact Jh4 hc (Jl5 hm Dc) a) _ _ h0 Dc
 refine Jl3 (f:=JbZ) (ok:=fun p=> p.2≠0) (fun m p hp hm=> Jef (Jf3 hm hp) (.inr ⟨rfl, .inr (.inl ⟨.inr rfl,rfl,rfl,fun h=> by cases h⟩)⟩)) _ _ h1 fun p hp=> ?_
 exact Nat.pos_iff_ne_zero.1 (hm p ((List.mergeSort_perm _ _).mem_iff.1 hp)).1
theorem JrM (W:Nat→Nat) (x:Itm) (l:List Itm) (s:Cnt×Lbl):Jp W (x::l) s=if x.mark=0 then (Jdq W x (Jp W l s).1 (Jp W l s).2,(Jp W l s).2) else ((Jp W l s).1,fun k=> if k=x.mark then (Jp W l s).1 else (Jp W l s).2 k):=rfl
theorem JrN {ex:Nat→Prop}:∀ {l:List Itm} (i:Nat),tgtOk ex l→tgtOk ex (l.drop i)
 | l,0,h=> by rw [List.drop_zero];exact h
 | [],i+1,h=> trivial
 | x::l,i+1,h=> JrN (l:=l) i h.2
theorem JxZ (W:Nat→Nat) {s:Cnt×Lbl} {k:Nat} (h0:k≠0):∀ {l:List Itm} {j:Nat},j < l.length→(l.getD j it0).mark=k→(marksO l).Nodup→(Jp W l s).2 k=(Jp W (l.drop (j+1)) s).1
 | x::l,0,h,e,hn=> by
   have e:x.mark=k:=e;rw [JrM];rw [if_neg Om];show (if k=x.mark then _ else _)=_;rw [if_pos e.symm];rfl
 | x::l,j+1,h,e,hn=> by
   have hj:j < l.length:=by simpa using h
   have e:(l.getD j it0).mark=k:=e;have hin:k∈marksO l:=Jcb.2 ⟨h0,_,(by simp [List.getD,hj]:l.getD j it0∈l),e⟩;have ih:=JxZ W (s:=s) h0 hj e (by
    have:=hn;unfold marksO at this⊢;rw [List.map_cons,List.filter_cons] at this;split at this
    ·exact (List.nodup_cons.1 this).2
    ·exact this)
   rw [JrM];split
   ·exact ih
   ·rename_i hx
    have hne:k≠x.mark:=fun q=> by
     have h2:marksO (x::l)=x.mark::marksO l:=(by unfold marksO;rw [List.map_cons,List.filter_cons,if_pos (by simpa using hx)]);rw [h2] at hn;exact (List.nodup_cons.1 hn).1 (q ▸ hin)
    show (if k=x.mark then _ else _)=_;rw [if_neg hne];exact ih
theorem Jx0 (W:Nat→Nat) {s:Cnt×Lbl} {l:List Itm} {i:Nat} (h:i < l.length):Jp W (l.drop i) s=if (l.getD i it0).mark=0 then (Jdq W (l.getD i it0) (Jp W (l.drop (i+1)) s).1 (Jp W (l.drop (i+1)) s).2,(Jp W (l.drop (i+1)) s).2) else ((Jp W (l.drop (i+1)) s).1,fun k=> if k=(l.getD i it0).mark then (Jp W (l.drop (i+1)) s).1 else (Jp W (l.drop (i+1)) s).2 k):=by
 rw [List.drop_eq_getElem_cons h,show l.getD i it0=l[i] by simp [List.getD,h]]
 rfl
theorem Jv8 {l:List Itm} (i:Nat) (h:(marksO l).Nodup):(marksO (l.drop i)).Nodup:=by
 unfold marksO at h⊢
 rw [List.map_drop]
 exact h.sublist ((List.drop_sublist _ _).filter _)
theorem JeX {P:Program} {c:Code} {E:Env} {Q:AExit→Env→Prop} (h:AW P c E (JBs (fun _:Unit=> E) (fun _=> True) (fun _=> 0) () Q)):AW P (.loop c) E Q:=
 Js (fun _:Unit=> E) (fun _=> True) (fun _=> 0) ⟨(),trivial,ELe.refl _⟩ fun _ _=> h
def Je7 (sz:Nat):AV:= .os sz 0 (fun _=> .any) none
theorem JCb:Tells Tryz.prog 129 [u64 0] (int 0):=by
 refine Jc Tryz.func129 rfl rfl fun nx=> ?_
 refine Z ?_
 exact Jb rfl Rf
theorem Jqw:Tells Tryz.prog 73 [.v (.int .u64 0)] (int 0):=by
 refine Jc Tryz.func73 rfl rfl fun nx=> ?_
 refine Z ?_
 refine Ja rfl rfl JCb Y1 fun nx=> ?_
 refine Z ?_
 exact Jb rfl Rf
theorem JEr (n:Nat):Tells Tryz.prog 245 [Je7 4,int 0,int 0,fn0 n] (.tup []):=by
 refine Jc Tryz.func245 rfl rfl fun nx=> ?_
 refine Z ?_
 refine JeX ?_
 refine Z ?_
 exact Jb rfl Rf
theorem JEs (n:Nat):Tells Tryz.prog 170 [Je7 4,int 0,int 0,int 0,fn0 n] (.tup []):=by
 refine Jc Tryz.func170 rfl rfl fun nx=> ?_
 refine Z ?_
 refine JeX ?_
 refine Z ?_
 refine Ja rfl rfl (JEr n) Y4 fun nx=> ?_
 refine Z ?_
 exact Jb rfl Rf
theorem Jv9 (n:Nat):Tells Tryz.prog 110 [Je7 4,fn0 n] (.tup []):=by
 refine Jc Tryz.func110 rfl rfl fun nx=> ?_
 refine Z ?_
 refine Ja rfl rfl Jqw Y1 fun nx=> ?_
 refine Z ?_
 refine Ja rfl rfl (JEs n) Y5 fun nx=> ?_
 refine Z ?_
 exact Jb rfl Rf
theorem Jx1:Tells Tryz.prog 112 [Je7 4] (Je7 4):=by
 refine Jc Tryz.func112 rfl rfl fun nx=> ?_
 refine Z ?_
 exact Jb rfl Rf
end Go.Proofs.W

namespace Go.Proofs
open Go.Shelf
shelf_lay Lays.n125 Nm 125 at Tryz as Tryz.lays125
end Go.Proofs
namespace Go.Proofs.W
open Go.Vl Go.Shelf
set_option maxRecDepth 100000
theorem JfN (n:Nat) (hn:n≤1000000000):Tells Tryz.prog 73 [.v (.int .u64 (n:Int))] (.v (.int .i64 (Lib.bitLen n))):=
 JeQ (vs:= [.int .u64 (n:Int)]) ⟨_,Tryz.func73,rfl,rfl⟩ fun w=> (Any.bits_Len Tryz.lays125 (n:Int) w Om Om).mono fun e w' ⟨h1,h2⟩=> ⟨h1,by subst h2;exact ⟨rfl,rfl,rfl,Nat.le_refl _,fun _ _=> rfl⟩⟩
theorem Jnd {n:Nat} (h0:0 < n) (h1:n≤1000000000):2 ^ Lib.bitLen n≤2 * n∧Lib.bitLen n≤32:=by
 obtain ⟨a,b,c⟩:=Lib.bitLenAux_bounds 64 n Om Om
 have e:2 ^ Lib.bitLenAux 64 n=2 * 2 ^ (Lib.bitLenAux 64 n - 1):=by
  obtain ⟨k,hk⟩:∃k,Lib.bitLenAux 64 n=k+1:=⟨Lib.bitLenAux 64 n - 1,Om⟩;rw [hk,Nat.add_sub_cancel,Nat.pow_succ];omega
 unfold Lib.bitLen
 refine ⟨Om, ?_⟩
 rcases Nat.lt_or_ge 32 (Lib.bitLenAux 64 n) with h | h
 ·have:2 ^ 32≤2 ^ (Lib.bitLenAux 64 n - 1):=Nat.pow_le_pow_right Dc Om;omega
 ·exact h
theorem JrO (n:Nat) (h0:0 < n) (hn:n≤1000000000):Tells Tryz.prog 178 [int n] (.v (.int .u64 (2 ^ Lib.bitLen n:Nat))):=by
 obtain ⟨h1,h2⟩:=Jnd h0 hn
 refine Jc Tryz.func178 rfl rfl fun nx=> ?_
 refine Z ?_
 refine Ja rfl rfl (JfN n hn) ⟨AVle.of_eq (congrArg (fun z=> AV.v (.int .u64 z)) (IntWalk.u64_in _ Om)),Tt⟩ fun nx1=> ?_
 refine Z ?_
 refine ⟨Om, ?_⟩
 refine Z ?_
 refine Jk rfl (by trivial) (AVle.of_eq (congrArg (fun z=> AV.v (.int .u64 z)) ?_))
 rw [show ((Lib.bitLen n:Nat):Int).toNat=Lib.bitLen n from rfl,Nat.min_eq_left (show Lib.bitLen n≤IntKind.u64.bits by show _≤64;omega)]
 rw [show (1:Int) * 2 ^ Lib.bitLen n=((2 ^ Lib.bitLen n:Nat):Int) by simp]
 generalize 2 ^ Lib.bitLen n=p at h1⊢
 exact IntWalk.u64_in _ Om
theorem JCc (z:Int) {m:Nat} (hm:m < 18446744073709551616):∃k:Nat,k≤m∧JbC .and .u64 z (m:Int)=(k:Int):=by
 unfold JbC
 simp only [BitVec.toNat_and]
 rw [Jey (w:=IntKind.u64.bits) (a:=m) (by exact hm)]
 refine ⟨(BitVec.ofInt IntKind.u64.bits z).toNat&&& m,Nat.and_le_right,IntWalk.u64_in _ ?_⟩
 have:(BitVec.ofInt IntKind.u64.bits z).toNat&&& m≤m:=Nat.and_le_right
 omega
theorem JrP (z:Int) (R:List AV) (s s1 nx:Nat):
 ECall Tryz.prog 179 [.bp (1,s1) 0] ⟨[((1,s1), .c [.v (.int .u64 z)]),((0,s), .c R)], [],nx,2⟩ (fun r h'=> ∃z' nx' nn',r= .v (.int .u64 z')∧h'=⟨[((1,s1), .c [.v (.int .u64 z')]),((0,s), .c R)], [],nx',nn'⟩):=by
 refine ECall.wk (Jo Tryz.func179 rfl rfl ?_)
 refine Z ?_
 (refine JJ 9 Kr Kr Kr ?_)
 refine Jy ?_
 refine AW.le (E':=mk 33 [(0, .bp (1,s1) 0)] ⟨[((1,s1), .c [.v (.int .u64 (JbC .xor .u64 z (IntKind.u64.wrap (z * 2 ^ min (Int.toNat 13) IntKind.u64.bits))))]),((0,s), .c R)], [],nx,2⟩) (Es rfl rfl Y1) ?_
 generalize JbC .xor .u64 z (IntKind.u64.wrap (z * 2 ^ min (Int.toNat 13) IntKind.u64.bits))=z1
 (refine JJ 9 Kr Kr Kr ?_)
 refine Jy ?_
 refine AW.le (E':=mk 33 [(0, .bp (1,s1) 0)] ⟨[((1,s1), .c [.v (.int .u64 (JbC .xor .u64 z1 (z1.fdiv (2 ^ min (Int.toNat 7) IntKind.u64.bits))))]),((0,s), .c R)], [],nx,2⟩) (Es rfl rfl Y1) ?_
 generalize JbC .xor .u64 z1 (z1.fdiv (2 ^ min (Int.toNat 7) IntKind.u64.bits))=z2
 (refine JJ 9 Kr Kr Kr ?_)
 refine Jy ?_
 refine AW.le (E':=mk 33 [(0, .bp (1,s1) 0)] ⟨[((1,s1), .c [.v (.int .u64 (JbC .xor .u64 z2 (IntKind.u64.wrap (z2 * 2 ^ min (Int.toNat 17) IntKind.u64.bits))))]),((0,s), .c R)], [],nx,2⟩) (Es rfl rfl Y1) ?_
 generalize JbC .xor .u64 z2 (IntKind.u64.wrap (z2 * 2 ^ min (Int.toNat 17) IntKind.u64.bits))=z3
 refine Z ?_
 exact Jt rfl ⟨_,_,Rf,HLe.refl _,z3,nx,2,rfl,rfl⟩
end Go.Proofs.W

namespace Go.Proofs.W
open Go.Vl
set_option maxRecDepth 100000
def JeD (a b:Int):Int:=if a < b then -1 else if b < a then 1 else 0
def orL:List Int→Int
 | []=> 0
 | x::l=> if x=0 then orL l else x
theorem Jlq (a b:Int):Tells Tryz.prog 172 [int a,int b] (int (JeD a b)):=by
 have hn:∀z:Int,Tells Tryz.prog 253 [int z] (Ji false):=fun z=> by
  refine Jc Tryz.func253 rfl rfl fun nx=> ?_;refine Z ?_
  (intro c hc;(first | (rw [bne_self_eq_false] at hc;subst hc) | (obtain rfl:c=false:=hc.trans (bne_self_eq_false _)));refine Z ?_)
  exact Jb rfl Rf
 refine Jc Tryz.func172 rfl rfl fun nx=> ?_
 refine Z ?_
 refine Ja rfl rfl (hn a) Y1 fun nx1=> ?_
 refine Z ?_
 refine Ja rfl rfl (hn b) Y1 fun nx2=> ?_
 refine Z ?_
 intro c h;cases c
 ·have h:=Jw h;refine Z ?_;intro c g;cases c
  ·have g:=Jw g;refine Z ?_;exact Jb rfl (Jf (by unfold JeD;rw [if_neg h,if_neg g]))
  ·have g:=Ju g;refine Z ?_;exact Jb rfl (Jf (by unfold JeD;rw [if_neg h,if_pos g]))
 ·have h:=Ju h;refine Z ?_;exact Jb rfl (Jf (by unfold JeD;rw [if_pos h]))
theorem Jlr (a b:Nat):Tells Tryz.prog 173 [u64 a,u64 b] (int (JeD a b)):=by
 have hn:∀z:Nat,Tells Tryz.prog 254 [u64 z] (Ji false):=fun z=> by
  refine Jc Tryz.func254 rfl rfl fun nx=> ?_;refine Z ?_
  (intro c hc;(first | (rw [bne_self_eq_false] at hc;subst hc) | (obtain rfl:c=false:=hc.trans (bne_self_eq_false _)));refine Z ?_)
  exact Jb rfl Rf
 refine Jc Tryz.func173 rfl rfl fun nx=> ?_
 refine Z ?_
 refine Ja rfl rfl (hn a) Y1 fun nx1=> ?_
 refine Z ?_
 refine Ja rfl rfl (hn b) Y1 fun nx2=> ?_
 refine Z ?_
 intro c h;cases c
 ·have h:=Jw h;refine Z ?_;intro c g;cases c
  ·have g:=Jw g;refine Z ?_;exact Jb rfl (Jf (by unfold JeD;rw [if_neg h,if_neg g]))
  ·have g:=Ju g;refine Z ?_;exact Jb rfl (Jf (by unfold JeD;rw [if_neg h,if_pos g]))
 ·have h:=Ju h;refine Z ?_;exact Jb rfl (Jf (by unfold JeD;rw [if_pos h]))
theorem JDA {l:List Int} {i:Nat} (hi:i < l.length) (h:∀j,j < i→l.getD j 0=0) (hx:l.getD i 0≠0):orL l=l.getD i 0:=by
 induction l generalizing i with
 | nil=> cases hi
 | cons x l ih=>
   cases i with
   | zero=> simp at hx;simp [orL,hx]
   | succ i=>
     have h0:x=0:=(by simpa using h 0 Om);simp only [orL,h0,if_true];rw [ih (i:=i) (by simpa using hi) (fun j hj=> by simpa using h (j+1) Om) (by simpa using hx)];simp
theorem JAl {l:List Int} (h:∀j,j < l.length→l.getD j 0=0):orL l=0:=by
 induction l with
 | nil=> rfl
 | cons x l ih=>
   have h0:x=0:=by simpa using h 0 Si
   simp only [orL,h0,if_true];exact ih (fun j hj=> by simpa using h (j+1) (by simpa using hj))
theorem JCd (l:List Int) (hl:l.length≤1000000):Tells Tryz.prog 171 [JK 1 int 0 l] (int (orL l)):=by
 refine Jc Tryz.func171 rfl rfl fun nx=> ?_
 refine Z ?_
 refine Js (fun s:Nat×Nat=> mk 18 [(3,int 0),(6,JK 1 int 0 l),(7,int l.length),(8,int s.1)] ⟨[], [],s.2,0⟩) (fun s=> s.1≤l.length∧∀j,j < s.1→l.getD j 0=0) (fun s=> l.length - s.1) ?_ ?_
 ·exact ⟨(0,nx),⟨by simp,by intro j hj;simp at hj⟩,JaM rfl rfl Y4⟩
 ·rintro ⟨i,nx⟩ ⟨h1,h2⟩;dsimp only at h1 h2;refine Z ?_;intro c h3;cases c
  ·have h3:=Jw h3;dsimp only at h3;refine Z ?_;exact Jb rfl (Jf (JAl (fun j hj=> h2 j Om)).symm)
  ·have h3:=Ju h3;dsimp only at h3;have hi:i < l.length:=by omega
   refine Z ?_;refine ⟨Bd, ?_⟩;refine Z ?_;intro c h4;cases c
   ·have h4:l.getD i 0=0:=(by simpa using h4);refine Z ?_;exact back (i+1,nx) ⟨hi,fun j hj=> by rcases Nat.lt_or_ge j i with q | q;exact h2 j q;rw [show j=i by omega];exact h4⟩ Dm (JaM rfl rfl ⟨Rf,Rf,Rf,Jf (Jx Dm),Tt⟩)
   ·have h4:l.getD i 0≠0:=(by simpa using h4);refine Z ?_;exact Jb rfl (Jf (JDA hi h2 h4).symm)
def JrQ (a b:Cnd):Int:=orL [JeD a.arg b.arg,JeD a.op b.op,JeD a.mask b.mask,JeD a.value b.value]
theorem Jwa (a b:Cnd):Tells Tryz.prog 111 [JZ a,JZ b] (int (JrQ a b)):=by
 refine Jc Tryz.func111 rfl rfl fun nx=> ?_
 refine Z ?_
 (refine JJ 22 Kr Kr Kr ?_)
 refine Z ?_
 refine Jaj (JV rfl rfl (Jlq a.arg b.arg) Y2 (NoId.v _)) ?_
 refine Z ?_
 refine Jaj (JV rfl rfl (Jlq a.op b.op) Y2 (NoId.v _)) ?_
 refine Z ?_
 refine Jaj (JV rfl rfl (Jlr a.mask b.mask) Y2 (NoId.v _)) ?_
 refine Z ?_
 refine Jaj (JV rfl rfl (Jlr a.value b.value) Y2 (NoId.v _)) ?_
 refine Z ?_
 refine Jaj (JV rfl rfl (JCd [JeD a.arg b.arg,JeD a.op b.op,JeD a.mask b.mask,JeD a.value b.value] (by show 4≤1000000;omega)) ⟨?_,Tt⟩ (NoId.v _)) ?_
 ·(conv=> arg 1;whnf)
  refine AVle.trans AVle.os_sl (AVle.sl_fun fun k hk=> ?_);rcases (show k=0∨k=1∨k=2∨k=3 by have hk:k < 4:=hk;omega) with rfl | rfl | rfl | rfl <;> rfl
 refine Z ?_
 exact Jb rfl Rf
instance:Inhabited Cnd:=⟨cnd0⟩
def eC (c:Cnd):List AV:= [int c.arg,int c.op,u64 c.mask,u64 c.value]
theorem Jcr (x:Cnd):(eC x).length=4:=rfl
theorem c_cnd:Tryz.prog.cellsOf 150=4:=by kernel_rfl
theorem Jg0:(Tryz.prog.underlying 150).map agD=some true:=by kernel_rfl
def JcL (s:Nat) (d:Array Cnd) (tl:List AV):List (Vl.Id×Own):= [((0,s), .c (Jas eC d tl))]
theorem JCe (f:Nat) (lt:Cnd→Cnd→Bool) (cf:Cnd→Cnd→Int) (hf:∀a b,Tells Tryz.prog f [JZ a,JZ b] (int (cf a b))) (hlt:∀a b,lt a b=decide (cf a b < 0)) (d0:Array Cnd) (tl:List AV) (n a b:Nat) (hn:d0.size=n) (hab:a≤b) (hb:b≤n) (hsz:n≤1000000) (s cap nx:Nat):
 ECall Tryz.prog 245 [.hs (0,s) 0 n cap,int a,int b,fn0 f] ⟨JcL s d0 tl, [],nx,1⟩ (fun r h'=> ∃nx' nn',h'=⟨JcL s (Go.Sort.insertionSort lt d0 a b) tl, [],nx',nn'⟩):=by
 refine ECall.wk (Jo Tryz.func245 rfl rfl ?_)
 refine Z ?_
 refine Js (fun y:Array Cnd×Nat×Nat=> mk 53 [(0, .hs (0,s) 0 n cap),(1,int a),(2,int b),(3,fn0 f),(8,int y.2.1)] ⟨JcL s y.1 tl, [],y.2.2,1⟩) (fun y=> y.1.size=n∧a+1≤y.2.1∧y.2.1≤b+1∧Go.Sort.insOuter lt a b y.2.1 y.1=Go.Sort.insertionSort lt d0 a b) (fun y=> b+1 - y.2.1) ?_ ?_
 ·exact ⟨(d0,a+1,nx),⟨hn,Nat.le_refl _,Dm,rfl⟩,Je _ _ rfl rfl Sf .slnil Bf Tt ⟨Rf,Rf,Rf,Rf,Lw,Tt⟩⟩
 ·rintro ⟨d,i,nx1⟩ ⟨h1,h2,h3,h4⟩;dsimp only at h1 h2 h3 h4;refine Z ?_;intro c g;cases c
  ·have g:=Jw g;try dsimp only at g
   rw [Go.Sort.insOuter,if_neg Om] at h4;subst h4;refine Z ?_;exact Jt rfl ⟨_,_,Rf,Jr (JcL s (Go.Sort.insertionSort lt d0 a b) tl) [] rfl Sf .slnil Bf Pf,_,1,rfl⟩
  ·have g:=Ju g;try dsimp only at g
   have hi:i < b:=by omega
   rw [Go.Sort.insOuter,if_pos hi] at h4;refine Z ?_;refine Js (fun y:Array Cnd×Nat×Nat=> mk 53 [(0, .hs (0,s) 0 n cap),(1,int a),(2,int b),(3,fn0 f),(8,int i),(9,int y.2.1)] ⟨JcL s y.1 tl, [],y.2.2,1⟩) (fun y=> y.1.size=n∧y.2.1≤i∧Go.Sort.insInner lt a y.2.1 y.1=Go.Sort.insInner lt a i d) (fun y=> y.2.1) ?_ ?_
   ·exact ⟨(d,i,nx1),⟨h1,Nat.le_refl _,rfl⟩,Je _ _ rfl rfl Sf .slnil Bf Tt Y6⟩
   ·rintro ⟨e,j,nx2⟩ ⟨k1,k2,k3⟩;dsimp only at k1 k2 k3;by_cases hja:a < j
    ·have hd:decide ((j:Int) > (a:Int))=true:=decide_eq_true Om;have hj1:IntKind.i64.wrap ((j:Int) - 1)=((j - 1:Nat):Int):=(by rw [Jq Om Om];omega);refine Z ?_
     (refine JJ 16 Kr Kr Kr ?_)
     refine Z ?_
     (conv=> whnf)
     refine JaU hd ?_;refine Z ?_;refine ⟨⟨JG (i:=j) (rfl),JH (i:=j) (rfl) Om⟩,Jj (b:= .bp (0,s) (j * 4)) (congrArg (AV.bp (0,s)) (Ji4 (i:=j) c_cnd (rfl))) ?_⟩
     (conv=> whnf)
     generalize hX:JbD _ _ _=X;have hX2:X=some (some (s=s), .ag (eC e[j]!)):=hX.symm.trans (JeS Jcr (E:=eC) (d:=e) (tl:=tl) (j:=j) rfl rfl rfl rfl Jg0 c_cnd Om);clear hX;subst hX2;refine ⟨rfl, ?_⟩;refine Z ?_;refine ⟨⟨JG (i:=j - 1) (hj1),JH (i:=j - 1) (hj1) Om⟩,Jj (b:= .bp (0,s) ((j - 1) * 4)) (congrArg (AV.bp (0,s)) (Ji4 (i:=j - 1) c_cnd (hj1))) ?_⟩
     (conv=> whnf)
     generalize hX:JbD _ _ _=X;have hX2:X=some (some (s=s), .ag (eC e[j - 1]!)):=hX.symm.trans (JeS Jcr (E:=eC) (d:=e) (tl:=tl) (j:=j - 1) rfl rfl rfl rfl Jg0 c_cnd Om);clear hX;subst hX2;refine ⟨rfl, ?_⟩;refine Z ?_;refine Jaj (JV rfl rfl (hf e[j]! e[j - 1]!) Y2 (NoId.v _)) ?_;refine Z ?_;intro c hl;cases c
     ·have hl:lt e[j]! e[j - 1]! =false:=(hlt _ _).trans hl.symm;rw [Jrt hl] at k3;subst k3;refine Z ?_;exact back (_,i+1,nx2) ⟨k1,Dm,Dm,h4⟩ Dm (Es rfl rfl ⟨Rf,Rf,Rf,Rf,Lw,Tt⟩)
     ·have hl:lt e[j]! e[j - 1]! =true:=(hlt _ _).trans hl.symm;rw [Juy hja hl] at k3;refine Z ?_;refine Jcv 18 (Ef [15,17]) (Ef [9,13]) [0,1,2,3,4,5,6,7,8,10,11,12,9,13,14,15,16,17] Kr Kr ?_
      (conv=> whnf)
      refine ⟨⟨JG (i:=j - 1) (hj1),JH (i:=j - 1) (hj1) Om⟩, ?_⟩
      (conv=> whnf)
      refine ⟨⟨JG (i:=j) (rfl),JH (i:=j) (rfl) Om⟩, ?_⟩
      (conv=> whnf)
      refine ⟨.ag (eC e[j - 1]!),Jrg Jcr (E:=eC) (d:=e) (tl:=tl) (j:=j - 1) rfl rfl rfl (Ji4 (i:=j - 1) c_cnd (hj1)) rfl Jg0 c_cnd Om, ?_⟩
      (conv=> whnf)
      refine ⟨.ag (eC e[j]!),Jrg Jcr (E:=eC) (d:=e) (tl:=tl) (j:=j) rfl rfl rfl (Ji4 (i:=j) c_cnd (rfl)) rfl Jg0 c_cnd Om, ?_⟩
      (conv=> whnf)
      refine ⟨⟨JG (i:=j) (rfl),JH (i:=j) (rfl) Om⟩, ?_⟩
      (conv=> whnf)
      refine ⟨_,Jrh Jcr (E:=eC) (d:=e) (tl:=tl) (j:=j) (z:=e[j - 1]!) rfl rfl rfl rfl (Ji4 (i:=j) c_cnd (rfl)) rfl rfl rfl rfl Kr c_cnd Om,fun r0 h0 hr0=> ?_⟩;subst hr0
      (conv=> whnf)
      refine ⟨⟨JG (i:=j - 1) (hj1),JH (i:=j - 1) (hj1) Om⟩, ?_⟩
      (conv=> whnf)
      refine ⟨_,Jrh Jcr (E:=eC) (d:=e.setIfInBounds j e[j - 1]!) (tl:=tl) (j:=j - 1) (z:=e[j]!) rfl rfl rfl rfl (Ji4 (i:=j - 1) c_cnd (hj1)) rfl rfl rfl rfl Kr c_cnd (by simp;omega),fun r0 h0 hr0=> ?_⟩;subst hr0;refine Z ?_;exact back (Go.Sort.swp e j (j - 1),j - 1,nx2) ⟨by dsimp only;rw [← k1];simp [Go.Sort.swp],Dm,k3⟩ Dm (Es rfl rfl ⟨Rf,Rf,Rf,Rf,Rf,Jf hj1,Tt⟩)
    ·have hd:decide ((j:Int) > (a:Int))=false:=decide_eq_false Om;rw [Jo0 hja] at k3;subst k3;refine Z ?_
     (refine JJ 16 Kr Kr Kr ?_)
     refine Z ?_
     (conv=> whnf)
     refine JaU hd ?_;refine Z ?_;exact back (_,i+1,nx2) ⟨k1,Dm,Dm,h4⟩ Dm (Es rfl rfl ⟨Rf,Rf,Rf,Rf,Lw,Tt⟩)
theorem JCf (f:Nat) (lt:Cnd→Cnd→Bool) (cf:Cnd→Cnd→Int) (hf:∀a b,Tells Tryz.prog f [JZ a,JZ b] (int (cf a b))) (hlt:∀a b,lt a b=decide (cf a b < 0)) (d0:Array Cnd) (tl:List AV) (n:Nat) (hn:d0.size=n) (hsz:n≤12) (s cap nx:Nat) (z:Int):
 ECall Tryz.prog 170 [.hs (0,s) 0 n cap,int 0,int n,int z,fn0 f] ⟨JcL s d0 tl, [],nx,1⟩ (fun r h'=> ∃nx' nn',h'=⟨JcL s (Go.Sort.insertionSort lt d0 0 n) tl, [],nx',nn'⟩):=by
 refine ECall.wk (Jo Tryz.func170 rfl rfl ?_)
 refine Z ?_
 refine JeX ?_
 have hw:IntKind.i64.wrap ((n:Int) - 0)=(n:Int):=by rw [Int.sub_zero];exact Jq Om Om
 refine Z ?_
 intro c hc
 have hc2:c=true:=hc.trans (decide_eq_true (by show IntKind.i64.wrap ((n:Int) - 0)≤12;rw [hw];omega))
 clear hc;subst hc2
 refine Z ?_
 refine Jg (xs:= [.hs (0,s) 0 n cap,int ((0:Nat):Int),int n,fn0 f]) [] [] 1 rfl rfl rfl rfl Y4 (JCe f lt cf hf hlt d0 tl n 0 n hn (Nat.zero_le _) (Nat.le_refl _) Om s cap _) Bf Pf rfl fun r h' hq=> ?_
 obtain ⟨nx2,nn2,rfl⟩:=hq
 refine Z ?_
 exact Jt rfl ⟨_,_,Rf,Jr (JcL s (Go.Sort.insertionSort lt d0 0 n) tl) [] rfl Sf .slnil Bf Pf,_,1,rfl⟩
theorem JrR (f:Nat) (lt:Cnd→Cnd→Bool) (cf:Cnd→Cnd→Int) (hf:∀a b,Tells Tryz.prog f [JZ a,JZ b] (int (cf a b))) (hlt:∀a b,lt a b=decide (cf a b < 0)) (d0:Array Cnd) (tl:List AV) (n:Nat) (hn:d0.size=n) (hsz:n≤12) (s cap nx:Nat):
 ECall Tryz.prog 110 [.hs (0,s) 0 n cap,fn0 f] ⟨JcL s d0 tl, [],nx,1⟩ (fun r h'=> ∃nx' nn',h'=⟨JcL s (Go.Sort.insertionSort lt d0 0 n) tl, [],nx',nn'⟩):=by
 refine ECall.wk (Jo Tryz.func110 rfl rfl ?_)
 refine Z ?_
 have hw:IntKind.u64.wrap (n:Int)=(n:Int):=by simp [IntKind.wrap,IntKind.bits,IntKind.signed];omega
 refine Ja rfl rfl (JfN n Om) ⟨AVle.of_eq (congrArg (fun z:Int=> AV.v (.int .u64 z)) hw),Tt⟩ fun nx1=> ?_
 refine Z ?_
 refine Jg (xs:= [.hs (0,s) 0 n cap,int 0,int n,int (Lib.bitLen n),fn0 f]) [] [] 1 rfl rfl rfl rfl Y5 (JCf f lt cf hf hlt d0 tl n hn hsz s cap _ _) Bf Pf rfl fun r h' hq=> ?_
 obtain ⟨nx2,nn2,rfl⟩:=hq
 refine Z ?_
 exact Jt rfl ⟨_,_,Rf,Jr (JcL s (Go.Sort.insertionSort lt d0 0 n) tl) [] rfl Sf .slnil Bf Pf,_,1,rfl⟩
def cU (d:Array Cnd):Nat→List Cnd
 | 0=> []
 | m+1=> if m=0∨d[m]! ≠d[m - 1]! then cU d m++ [d[m]!] else cU d m
theorem Jwb (d:Array Cnd):∀m,(cU d m).length≤m
 | 0=> Nat.le_refl _
 | m+1=> by
   have:=Jwb d m;unfold cU;split
   ·simp;omega
   ·omega
theorem Jjl {d:Array Cnd}:∀ {m:Nat},m≤d.size→(∀j,1≤j→j < m→d[j]! ≠d[j - 1]!)→cU d m=d.toList.take m
 | 0,_,_=> rfl
 | m+1,hm,h=> by
   have ih:=Jjl (m:=m) Om fun j h1 h2=> h j h1 Om;have hc:m=0∨d[m]! ≠d[m - 1]! :=by
    rcases Nat.eq_zero_or_pos m with h0 | h0
    ·exact .inl h0
    ·exact .inr (h m h0 Om)
   rw [cU,if_pos hc,ih,List.take_add_one,show d[m]! =d[m] by simp [show m < d.size by omega]];simp [show m < d.size by omega]
theorem JuN {d:Array Cnd} {m:Nat} (h0:m≠0) (h:d[m]! =d[m - 1]!):cU d (m+1)=cU d m:=by
 rw [cU,if_neg (by intro hh;rcases hh with hh | hh;exact h0 hh;exact hh h)]
theorem JCg {d:Array Cnd} {m:Nat} (h:d[m]! ≠d[m - 1]!):cU d (m+1)=cU d m++ [d[m]!]:=by
 rw [cU,if_pos (.inr h)]
theorem JAm {d:Array Cnd} {i j:Nat} {x:Cnd} (hi:i < d.size):(d.setIfInBounds i x)[j]! =if j=i then x else d[j]! :=by
 by_cases h:j=i
 ·subst h;simp [hi]
 ·rw [if_neg h];by_cases hj:j < d.size
  ·simp [hj,Array.getElem_setIfInBounds,Ne.symm h]
  ·simp [hj]
theorem Jx2 {d:Array Cnd} {k:Nat} {x:Cnd} (h:k < d.size):(d.setIfInBounds k x).toList.take (k+1)=d.toList.take k++ [x]:=by
 rw [Array.toList_setIfInBounds,List.take_add_one]
 simp [h,List.take_set_of_le]
theorem JDB {x y:Cnd}:(x.arg ==y.arg&& (x.op ==y.op&& ((x.mask:Int) ==(y.mask:Int)&& ((x.value:Int) ==(y.value:Int)&& true))))=decide (x=y):=JuF
theorem JAn {d:Array Cnd} {tl:List AV} {k:Nat} (h:k≤d.size):Jab (Jas eC d tl) (k * 4) (List.replicate ((d.size - k) * 4) .any)=Jas eC (d.toList.take k).toArray (List.replicate ((d.size - k) * 4) .any++tl):=by
 have e:d.toList=d.toList.take k++d.toList.drop k:=(List.take_append_drop k d.toList).symm
 have e1:((d.toList.take k).flatMap eC).length=k * 4:=by rw [Jez Jcr];simp [h]
 have e2:((d.toList.drop k).flatMap eC).length=(d.size - k) * 4:=by rw [Jez Jcr];simp
 unfold Jas
 conv=> lhs;rw [e]
 rw [List.flatMap_append,List.append_assoc,← e1]
 have:=JfG (a:=(d.toList.take k).flatMap eC) (b:=(d.toList.drop k).flatMap eC++tl) (off:=0) (vs:=List.replicate ((d.size - k) * 4) .any)
 rw [Nat.add_zero] at this
 rw [this,Jj4 (by rw [e2];simp)]
def Jwc (d:Array Cnd) (n s cap:Nat) (r:AV) (h':Heap):Prop:=∃tl' nx' nn',r= .hs (0,s) 0 (cU d n).length cap∧h'=⟨JcL s (cU d n).toArray tl', [],nx',nn'⟩
theorem Jx3 {d:Array Cnd} {n s cap nx nn q:Nat} {tl:List AV} (h:(cU d n).length=q):Jwc d n s cap (.hs (0,s) 0 q cap) ⟨JcL s (cU d n).toArray tl, [],nx,nn⟩:=⟨tl,nx,nn,by rw [h],rfl⟩
theorem JrS {o o':Own} (h:o=o'):OwnLe o o':=h ▸ OwnLe.refl _
theorem JAo {x:Int} {i c k m:Nat} (hc:c=k) (h:x=(i:Int)):m * c+x.toNat * c=(m+i) * k:=by subst hc;subst h;simp [Nat.add_mul]
theorem Jph {d:Array Cnd} {n s cap nx nn:Nat} {tl:List AV} (hn:d.size=n) (e:cU d n=d.toList):Jwc d n s cap (.hs (0,s) 0 n cap) ⟨JcL s d tl, [],nx,nn⟩:=⟨tl,nx,nn,by rw [e];simp [hn],by rw [e]⟩
theorem JEt:∃z,(Tryz.prog.info? 150).bind (·.zero)=some z∧z.cells.size=Tryz.prog.cellsOf 150∧z.cells.all (·.oneCell')=true:=⟨.agg #[.int .i64 0, .int .i64 0, .int .u64 0, .int .u64 0],by kernel_rfl,by kernel_rfl,by kernel_rfl⟩
theorem JtN (d:Array Cnd) (tl:List AV) (n:Nat) (hn:d.size=n) (hn0:0 < n) (hsz:n≤1000000) (s cap nx:Nat) (hcap:n≤cap):
 ECall Tryz.prog 112 [.hs (0,s) 0 n cap] ⟨JcL s d tl, [],nx,1⟩ (Jwc d n s cap):=by
 refine ECall.wk (Jo Tryz.func112 rfl rfl ?_)
 refine Z ?_
 intro c g;cases c
 rotate_left
 ·have g:=Ju g;try dsimp only at g
  have hn1:n=1:=by omega
  subst hn1;have e:cU d 1=d.toList:=by
   rw [Jjl Om (fun j h1 h2=> by omega),List.take_of_length_le (by simp [hn])]
  refine Z ?_;exact Jt rfl ⟨_,_,Rf,Jr (nn:=1) (JcL s d tl) [] rfl Sf .slnil Bf Pf,Jph hn e⟩
 have g:=Jw g
 try dsimp only at g
 have hn2:2≤n:=by omega
 refine Z ?_
 refine Js (fun y:Nat×Nat=> mk 61 [(0, .hs (0,s) 0 n cap),(3,int y.1)] ⟨JcL s d tl, [],y.2,1⟩) (fun y=> 1≤y.1∧y.1≤n∧∀j,1≤j→j < y.1→d[j]! ≠d[j - 1]!) (fun y=> n - y.1) ?_ ?_
 ·exact ⟨(1,nx),⟨Nat.le_refl _,Dm,fun j h1 h2=> absurd h2 Dm⟩,Je _ _ rfl rfl Sf .slnil Bf Tt Y2⟩
 ·rintro ⟨k,nx1⟩ ⟨h1,h2,h3⟩;dsimp only at h1 h2 h3;refine Z ?_;intro c g;cases c
  ·have g:=Jw g;try dsimp only at g
   have hk:k=n:=by omega
   subst hk;have e:cU d k=d.toList:=by
    rw [Jjl Om h3,List.take_of_length_le (by simp [hn])]
   refine Z ?_;exact Jt rfl ⟨_,_,Rf,Jr (nn:=1) (JcL s d tl) [] rfl Sf .slnil Bf Pf,Jph hn e⟩
  ·have g:=Ju g;try dsimp only at g
   have hk:k < n:=by omega
   have hk1:IntKind.i64.wrap ((k:Int) - 1)=((k - 1:Nat):Int):=by rw [Jq Om Om];omega
   refine Z ?_
   (refine JJ 10 Kr Kr Kr ?_)
   refine Z ?_;refine ⟨⟨JG (i:=k) (rfl),JH (i:=k) (rfl) Om⟩,Jj (b:= .bp (0,s) (k * 4)) (congrArg (AV.bp (0,s)) (Ji4 (i:=k) c_cnd (rfl))) ?_⟩
   (conv=> whnf)
   generalize hX:JbD _ _ _=X;have hX2:X=some (some (s=s), .ag (eC d[k]!)):=hX.symm.trans (JeS Jcr (E:=eC) (d:=d) (tl:=tl) (j:=k) rfl rfl rfl rfl Jg0 c_cnd Om);clear hX;subst hX2;refine ⟨rfl, ?_⟩;refine Z ?_;refine ⟨⟨JG (i:=k - 1) (hk1),JH (i:=k - 1) (hk1) Om⟩,Jj (b:= .bp (0,s) ((k - 1) * 4)) (congrArg (AV.bp (0,s)) (Ji4 (i:=k - 1) c_cnd (hk1))) ?_⟩
   (conv=> whnf)
   generalize hX:JbD _ _ _=X;have hX2:X=some (some (s=s), .ag (eC d[k - 1]!)):=hX.symm.trans (JeS Jcr (E:=eC) (d:=d) (tl:=tl) (j:=k - 1) rfl rfl rfl rfl Jg0 c_cnd Om);clear hX;subst hX2;refine ⟨rfl, ?_⟩;refine Z ?_;intro c hc;have hc2:c=decide (d[k]! =d[k - 1]!):=hc.trans JDB;clear hc;cases c
   ·have hne:¬d[k]! =d[k - 1]! :=of_decide_eq_false hc2.symm;refine Z ?_;exact back (k+1,nx1) ⟨Dm,hk,fun j q1 q2=> by dsimp only at q2;rcases Nat.lt_or_ge j k with q | q;exact h3 j q1 q;rw [show j=k by omega];exact hne⟩ Dm (Es rfl rfl ⟨Rf,Lw,Tt⟩)
   ·have heq:d[k]! =d[k - 1]! :=of_decide_eq_true hc2.symm;clear hc2;have hU0:cU d k=d.toList.take k:=Jjl Om h3;have hU1:cU d (k+1)=d.toList.take k:=(JuN Om heq).trans hU0;refine Jy ?_;refine JF (Ef [1]) 4 ?_;refine Z ?_;refine AOp.of_yields (Jj5 (l:=k) rfl rfl rfl Tryz.underlying86 Tryz.underlying150 Om hcap Om) ?_;refine Z ?_;refine Js (fun y:Array Cnd×Nat×Nat×Nat=> mk 61 [(0, .hs (0,s) 0 n cap),(3,int y.2.1),(4, .hs (0,s) (k * 4) (n - k) (cap - k)),(5,int y.2.2.1)] ⟨JcL s y.1 tl, [],y.2.2.2,1⟩) (fun y=> y.1.size=n∧k≤y.2.1∧1≤y.2.2.1∧y.2.1+1≤k+y.2.2.1∧k+y.2.2.1≤n∧(∀j,k+y.2.2.1≤j+1→y.1[j]! =d[j]!)∧cU d (k+y.2.2.1)=y.1.toList.take y.2.1) (fun y=> n - y.2.2.1) ?_ ?_
    ·exact ⟨(d,k,1,nx1),⟨hn,Nat.le_refl _,Nat.le_refl _,Nat.le_refl _,hk,fun _ _=> rfl,hU1⟩,Je _ _ rfl rfl Sf .slnil Bf Tt ⟨Rf,Rf,AVle.of_eq (congrArg (fun c=> AV.hs (0,s) (k * c) (n - k) (cap - k)) c_cnd),Y1⟩⟩
    ·rintro ⟨e,q,k2,nx2⟩ ⟨p1,p2,p3,p4,p5,p6,p7⟩;dsimp only at p1 p2 p3 p4 p5 p6 p7;refine Z ?_;intro c g2;cases c
     ·have g2:=Jw g2;try dsimp only at g2
      have hk2:k+k2=n:=(by omega);rw [hk2] at p7;have hq:q < n:=(by omega);refine Jy ?_;refine JF (Ef [1,0]) 4 ?_;refine Z ?_;refine AOp.of_yields (Jj5 (l:=q) rfl rfl rfl Tryz.underlying86 Tryz.underlying150 Om hcap Om) ?_;refine Z ?_;obtain ⟨z,hz1,hz2,hz3⟩:=JEt;refine JvC (n:=n - q) rfl rfl rfl Om Tryz.underlying86 hz1 hz2 hz3 (by rfl) (by show q * Tryz.prog.cellsOf 150+(n - q) * Tryz.prog.cellsOf 150≤(Jas eC e tl).length;rw [Ji3 Jcr,c_cnd,p1];omega) ?_;refine AW.le (E':=mk 61 [(0, .hs (0,s) 0 n cap),(3,int q)] ⟨JcL s (cU d n).toArray (List.replicate ((n - q) * 4) .any++tl), [],nx2,1⟩) ?_ ?_
      ·exact Je [((0,s), .c (Jab (Jas eC e tl) (q * Tryz.prog.cellsOf 150) (List.replicate ((n - q) * Tryz.prog.cellsOf 150) .any)))] [] rfl rfl Sf .slnil ⟨rfl,JrS (congrArg Own.c (by rw [c_cnd,p7,← p1];exact JAn Om)),Tt⟩ Tt Y2
      refine Jy ?_;refine JF (Ef [1]) 4 ?_;refine Z ?_;refine JzQ (l:=q) rfl rfl rfl Tryz.underlying86 Tryz.underlying150 Om Om ?_;refine Z ?_;exact Jt rfl ⟨_,_,Rf,Jr (nn:=1) (JcL s (cU d n).toArray (List.replicate ((n - q) * 4) .any++tl)) [] rfl Sf .slnil Bf Pf,Jx3 (by rw [p7];simp;omega)⟩
     ·have g2:=Ju g2;try dsimp only at g2
      have hk2:k+k2 < n:=(by omega);have hj1:IntKind.i64.wrap ((k2:Int) - 1)=((k2 - 1:Nat):Int):=(by rw [Jq Om Om];omega);refine Z ?_
      (refine JJ 10 Kr Kr Kr ?_)
      refine Z ?_;refine ⟨⟨JG (i:=k2) (rfl),JH (i:=k2) (rfl) Om⟩,Jj (b:= .bp (0,s) ((k+k2) * 4)) (congrArg (AV.bp (0,s)) (JAo c_cnd (rfl))) ?_⟩
      (conv=> whnf)
      generalize hX:JbD _ _ _=X;have hX2:X=some (some (s=s), .ag (eC e[k+k2]!)):=hX.symm.trans (JeS Jcr (E:=eC) (d:=e) (tl:=tl) (j:=k+k2) rfl rfl rfl rfl Jg0 c_cnd Om);clear hX;subst hX2;refine ⟨rfl, ?_⟩;refine Z ?_;refine ⟨⟨JG (i:=k2 - 1) (hj1),JH (i:=k2 - 1) (hj1) Om⟩,Jj (b:= .bp (0,s) ((k+(k2 - 1)) * 4)) (congrArg (AV.bp (0,s)) (JAo c_cnd (hj1))) ?_⟩
      (conv=> whnf)
      generalize hX:JbD _ _ _=X;have hX2:X=some (some (s=s), .ag (eC e[k+(k2 - 1)]!)):=hX.symm.trans (JeS Jcr (E:=eC) (d:=e) (tl:=tl) (j:=k+(k2 - 1)) rfl rfl rfl rfl Jg0 c_cnd Om);clear hX;subst hX2;refine ⟨rfl, ?_⟩;refine Z ?_;have e1:e[k+k2]! =d[k+k2]! :=p6 _ Om;have e2:e[k+(k2 - 1)]! =d[k+k2 - 1]! :=(by rw [p6 _ Om];congr 1;omega);intro c hc;have hc2:c= !decide (d[k+k2]! =d[k+k2 - 1]!):=(by rw [← e1,← e2];exact hc.trans (congrArg (!·) JDB));clear hc;cases c
      ·have heq2:d[k+k2]! =d[k+k2 - 1]! :=(by simpa using hc2);have hU2:=(JuN Om heq2).trans p7;refine Z ?_;exact back (e,q,k2+1,nx2) ⟨p1,p2,Dm,Dm,Dm,fun j hj=> p6 j (by dsimp only at hj;omega),hU2⟩ Dm (Es rfl rfl ⟨Rf,Rf,Rf,Lw,Tt⟩)
      ·have hne:¬d[k+k2]! =d[k+k2 - 1]! :=(by simpa using hc2);have hU2:=JCg hne;rw [p7,← e1,← Jx2 (k:=q) (x:=e[k+k2]!) Om] at hU2;refine Jy ?_;refine JF (Ef [0,2]) 8 ?_;refine Z ?_;refine ⟨⟨JG (i:=k2) (rfl),JH (i:=k2) (rfl) Om⟩,Jj (b:= .bp (0,s) ((k+k2) * 4)) (congrArg (AV.bp (0,s)) (JAo c_cnd (rfl))) ?_⟩
       (conv=> whnf)
       refine AOp.of_yields (Jtw Jcr (E:=eC) (d:=e) (tl:=tl) (j:=k+k2) rfl rfl rfl rfl Jg0 c_cnd Om) ?_;refine Z ?_;refine ⟨⟨JG (i:=q) (rfl),JH (i:=q) (rfl) Om⟩,Jj (b:= .bp (0,s) (q * 4)) (congrArg (AV.bp (0,s)) (Ji4 c_cnd (rfl))) ?_⟩
       (conv=> whnf)
       refine JvB Jcr (E:=eC) (d:=e) (tl:=tl) (j:=q) (z:=e[k+k2]!) rfl rfl rfl rfl rfl rfl rfl rfl Kr c_cnd Om ?_;refine Z ?_;exact back (e.setIfInBounds q e[k+k2]!,q+1,k2+1,nx2) ⟨by simpa using p1,Dm,Dm,Dm,Dm,fun j hj=> by
        dsimp only at hj⊢;rw [JAm Om,if_neg Om];exact p6 j Om,hU2⟩ Dm (Es rfl rfl ⟨Rf,Lw,Rf,Lw,Tt⟩)
def JcC (c:Cnd):Bool:=decide ((J5 c).2=2)
def Jjm (c:Cnd):Option Cnd:=if (J5 c).2=0 then some (J5 c).1 else none
def Jcc (cs:List Cnd):List Cnd:=cs.filterMap Jjm
def ltC (a b:Cnd):Bool:=decide (JrQ a b < 0)
def Jej (L:List Cnd):List Cnd:=cU (Go.Sort.insertionSort ltC L.toArray 0 L.length) L.length
def JaW (r:Rul):Option Rul:=if r.conds.any JcC then none else some ⟨r.name,r.act,Jej (Jcc r.conds)⟩
def JDC:Option Rul→AV
 | none=> .tup [JaS Jn,Ji false]
 | some n=> .tup [JaS n,Ji true]
theorem JrT {c:Cnd} (h:(J5 c).2=0):Jjm c=some (J5 c).1:=if_pos h
theorem Jne {c:Cnd} (h:(J5 c).2≠0):Jjm c=none:=if_neg h
theorem Jx4 {cs:List Cnd} {i:Nat} (hi:i < cs.length):Jcc (cs.take (i+1))=Jcc (cs.take i)++(Jjm (cs.getD i cnd0)).toList:=by
 unfold Jcc
 rw [JaP cnd0 hi,List.filterMap_append]
 congr 1
theorem JrU (cs:List Cnd):(Jcc cs).length≤cs.length:=List.length_filterMap_le _ _
theorem JAp {cs:List Cnd} (h:∀j,j < cs.length→JcC (cs.getD j cnd0)=false):cs.any JcC=false:=by
 rw [Bool.eq_false_iff]
 intro ha
 obtain ⟨c,hc,hb⟩:=List.any_eq_true.1 ha
 obtain ⟨j,hj,rfl⟩:=List.getElem_of_mem hc
 have:=h j hj
 rw [show cs.getD j cnd0=cs[j] by simp [List.getD,hj]] at this
 rw [this] at hb;cases hb
theorem JDD {cs:List Cnd} {i:Nat} (hi:i < cs.length) (h:JcC (cs.getD i cnd0)=true):cs.any JcC=true:=by
 refine List.any_eq_true.2 ⟨cs.getD i cnd0, ?_,h⟩
 simp [List.getD,hi]
theorem JrV {cs:List Cnd} (h:∀c∈cs,c.ok) {i:Nat} (hi:i < cs.length):(cs.getD i cnd0).ok:=h _ (by simp [List.getD,hi])
theorem Jx5:JbK Tryz.prog 150=true:=by kernel_rfl
theorem Jx6:Tryz.prog.bytesOf 150=32:=by kernel_rfl
def ruO (nx:Nat) (s:ByteArray) (k n:Int) (x:AV):Vl.Id×Own:=((2,nx+2), .c [JA s,int k,int n,x])
def ruZ (nx:Nat):Vl.Id×Own:=((1,nx+1), .c [JA ⟨#[]⟩,int 0,int 0,Je7 4])
def ruB (nx:Nat) (s:ByteArray) (k n:Int) (L:List Cnd):Option (Nat×Nat×List AV)→List (Vl.Id×Own)
 | none=> [ruO nx s k n (Je7 4),ruZ nx]
 | some (s1,cap,tl)=> [ruO nx s k n (.hs (0,s1) 0 L.length cap),ruZ nx,((0,s1), .c (Jas eC L.toArray tl))]
def ruI (L:List Cnd):Option (Nat×Nat×List AV)→Prop
 | none=> L= []
 | some (_,cap,tl)=> 1≤L.length∧L.length≤cap∧cap * 4≤L.length * 4+tl.length
theorem JCh {a b:Cnd}:JrQ a b < 0↔a.arg < b.arg∨(a.arg=b.arg∧(a.op < b.op∨(a.op=b.op∧(a.mask < b.mask∨(a.mask=b.mask∧a.value < b.value))))):=by
 unfold JrQ JeD
 simp only [orL]
 repeat' split
 all_goals omega
theorem JkY {a b:Cnd}:ltC a b=true↔a.arg < b.arg∨(a.arg=b.arg∧(a.op < b.op∨(a.op=b.op∧(a.mask < b.mask∨(a.mask=b.mask∧a.value < b.value))))):=by
 unfold ltC;rw [decide_eq_true_iff];exact JCh
theorem Jkj {a b:Cnd}:ltC a b=false↔¬(a.arg < b.arg∨(a.arg=b.arg∧(a.op < b.op∨(a.op=b.op∧(a.mask < b.mask∨(a.mask=b.mask∧a.value < b.value)))))):=by
 rw [← JkY,Bool.not_eq_true]
theorem swo_ltC:Go.Sort.SWO ltC:=⟨fun x=> by rw [Jkj];omega,fun x y z=> by rw [JkY,JkY,JkY];omega,fun x y z=> by rw [Jkj,Jkj,Jkj];omega⟩
theorem JCi {a b:Cnd} (h1:ltC a b=false) (h2:ltC b a=false):a=b:=by
 rw [Jkj] at h1 h2
 obtain ⟨a1,a2,a3,a4⟩:=a
 obtain ⟨b1,b2,b3,b4⟩:=b
 dsimp only at h1 h2
 have e1:a1=b1:=by omega
 have e2:a2=b2:=by omega
 have e3:a3=b3:=by omega
 have e4:a4=b4:=by omega
 subst e1 e2 e3 e4;rfl
theorem JDE {nx s1:Nat} {s:ByteArray} {k n:Int} {x y:AV} (h:AVle x y) {c d:List AV} (hc:c=d):BxLe [ruO nx s k n x,ruZ nx,((0,s1), .c c)] [ruO nx s k n y,ruZ nx,((0,s1), .c d)]:=by
 subst hc
 exact ⟨rfl,⟨Rf,Rf,Rf,h,Tt⟩,Bf⟩
theorem Jwd {l:List Cnd} {x:Cnd} {tl:List AV} (h:4≤tl.length):Jab (Jas eC l.toArray tl) (l.length * Tryz.prog.cellsOf 150) (eC x)=Jas eC (l++ [x]).toArray (tl.drop 4):=by
 rw [c_cnd];exact JoR Jcr h
theorem Jx7 {i j:Vl.Id} {L:List Cnd} {x:Cnd} {cap:Nat} (h:i.2=j.2):AVle (.hs i 0 (L.length+1) cap) (.hs j 0 (L++ [x]).length cap):=by
 rw [List.length_append];exact AVle.hs_nm h
theorem JCj {x:Cnd} {m:Nat}:eC x++List.replicate (m * Tryz.prog.cellsOf 150) AV.any=Jas eC #[x] (List.replicate (m * 4) .any):=by
 rw [c_cnd];simp [Jas]
theorem JAq {l:List Cnd} {x:Cnd} {tl:List AV} {m:Nat}:(Jas eC l.toArray tl).take (l.length * Tryz.prog.cellsOf 150)++eC x++List.replicate (m * Tryz.prog.cellsOf 150) .any=Jas eC (l++ [x]).toArray (List.replicate (m * 4) .any):=by
 rw [c_cnd,JoS Jcr];exact Jri
theorem JtO (r:Rul) (hok:∀c∈r.conds,c.ok) (hl:r.conds.length≤12):Tells Tryz.prog 62 [JaS r] (JDC (JaW r)):=by
 obtain ⟨s,⟨k,n⟩,cs⟩:=r
 dsimp only at hok hl
 refine Jc Tryz.func62 rfl rfl fun nx=> ?_
 refine Z ?_
 refine Js (fun y:Nat×List Cnd×Option (Nat×Nat×List AV)×Nat=> mk 47 [(2, .bp (1,nx+1) 0),(4, .bp (2,nx+2) 0),(15,Jaz cs),(16,int cs.length),(17,int y.1)] ⟨ruB nx s k n y.2.1 y.2.2.1, [],y.2.2.2,4⟩) (fun y=> y.1≤cs.length∧y.2.1=Jcc (cs.take y.1)∧ruI y.2.1 y.2.2.1∧∀j,j < y.1→JcC (cs.getD j cnd0)=false) (fun y=> cs.length - y.1) ?_ ?_
 ·exact ⟨(0, [],none,nx+3),⟨Nat.zero_le _,rfl,rfl,fun j h=> absurd h (Nat.not_lt_zero _)⟩,Je (pm:= []) [((2,nx+2), .c [JA s,int k,int n, .os 0 0 (fun _=> .any) none]),((1,nx+1), .c [JA ⟨#[]⟩,int 0,int 0, .os 0 0 (fun _=> .any) none])] [] rfl rfl (.cons_cons _ (.cons_cons _ (.cons _ .slnil))) Sf ⟨rfl,⟨Rf,Rf,Rf,AVle.os_nil,Tt⟩,rfl,⟨Rf,Rf,Rf,AVle.os_nil,Tt⟩,Tt⟩ Tt Y5⟩
 ·rintro ⟨i,L,md,nx1⟩ ⟨h1,hL,h2,h3⟩;dsimp only at h1 hL h2 h3;have hal:=JrU (cs.take i);rw [List.length_take,Nat.min_eq_left h1,← hL] at hal;refine Z ?_;intro c g;cases c
  ·have g:=Jw g;try dsimp only at g
   have hi:i=cs.length:=by omega
   subst hi;rw [List.take_length] at hL;have hR:JaW ⟨s,(k,n),cs⟩=some ⟨s,(k,n),Jej L⟩:=by
    unfold JaW;dsimp only;rw [JAp h3,hL];rfl
   rw [hR];rcases md with _ | ⟨s1,cap,tl⟩
   ·obtain rfl:L= []:=h2;refine Z ?_;refine Ja rfl rfl (Jv9 111) Y2 fun nx2=> ?_;refine Z ?_;refine Ja rfl rfl Jx1 Y1 fun nx2=> ?_;refine Z ?_;exact Jk rfl ⟨rfl,Tt⟩ (AVle.tups (cs:= [_,_]) ⟨AVle.ags (cs:= [_,_,_,_]) ⟨Rf,Rf,Rf,AVle.os_sl0,Tt⟩,Y1⟩)
   ·obtain ⟨q1,q2,q3⟩:=h2;refine Z ?_;refine Jg (xs:= [.hs (0,s1) 0 L.length cap,fn0 111]) [ruO nx s k n (.hs (0,s1) 0 L.length cap),ruZ nx] [] 4 rfl rfl rfl rfl Y2 (JrR 111 ltC JrQ Jwa (fun _ _=> rfl) L.toArray tl L.length Si Om s1 cap _) Bf Pf rfl fun r h' hq=> ?_;obtain ⟨nx2,nn2,rfl⟩:=hq;have hds:(Go.Sort.insertionSort ltC L.toArray 0 L.length).size=L.length:=by
     have:=(Go.Sort.insertionSort_holds (lt:=ltC) swo_ltC L.toArray 0 L.length (Nat.zero_le _) Si).1.1;simpa using this
    refine Z ?_;refine Jg (xs:= [.hs (0,s1) 0 L.length cap]) [ruO nx s k n (.hs (0,s1) 0 L.length cap),ruZ nx] [] 4 rfl rfl rfl rfl Y1 (JtN (Go.Sort.insertionSort ltC L.toArray 0 L.length) tl L.length hds Om Om s1 cap _ q2) Bf Pf rfl fun r h' hq=> ?_;obtain ⟨tl2,nx3,nn3,rfl,rfl⟩:=hq;have hcl:(Jej L).length≤cap:=Nat.le_trans (Jwb _ _) q2;refine Jy ?_;refine Jbl (n:=47) (nx:=nx3) (nn:=4) (pm:= []) (bx:= [ruZ nx]) (L:= [(2, .bp (1,nx+1) 0),(4, .rp [JA s,int k,int n,Jaz (Jej L)])]) (df:=some []) [((2,nx+2), .c [JA s,int k,int n, .hs (0,s1) 0 (Jej L).length cap]),((0,s1), .c (Jas eC (Jej L).toArray tl2))] rfl rfl rfl (.cons _ (.swap _ _ _)) Sf ⟨Frz.refl _,(Frz.bp (.head _) rfl).trans (Frz.rp ⟨Frz.refl _,Frz.refl _,Frz.refl _,Jhr Jcr (fun _=> rfl) rfl (.tail _ (.head _)) hcl,Tt⟩),Tt⟩ ?_;refine Z ?_;exact Jk rfl ⟨rfl,Tt⟩ Rf
  ·have g:=Ju g;try dsimp only at g
   have hi:i < cs.length:=by omega
   have hcs:=Jxt (cs.getD i cnd0) (JrV hok hi);have ha:=Jx4 hi;have hnv:JcC (cs.getD i cnd0)=decide ((J5 (cs.getD i cnd0)).2=2):=rfl;have hak0:=JrT (c:=cs.getD i cnd0);have hak1:=Jne (c:=cs.getD i cnd0);generalize J5 (cs.getD i cnd0)=N at hcs hnv hak0 hak1;obtain ⟨⟨qa,qo,qm,qv⟩,st⟩:=N;dsimp only at hnv hak0 hak1;refine Z ?_;refine ⟨Bd, ?_⟩;refine Z ?_;refine Ja rfl rfl hcs Y1 fun nx2=> ?_;refine Z ?_;intro c g2;cases c
   ·have g2:st≠2:=fun h=> by subst h;cases g2
    rw [decide_eq_false g2] at hnv;have h3':∀j,j < i+1→JcC (cs.getD j cnd0)=false:=fun j hj=> by
     rcases Nat.lt_or_ge j i with q | q
     ·exact h3 j q
     ·rw [show j=i by omega];exact hnv
    refine Z ?_;intro c g3;cases c
    ·have g3:st≠0:=fun h=> by subst h;cases g3
     rw [hak1 g3,← hL] at ha;refine Z ?_;exact back (i + 1, L, md, _) ⟨hi, ha.symm.trans (List.append_nil _).symm |>.symm |> (fun e => by simpa using ha.symm), h2, h3'⟩ Dm (Je (bx := ruB nx s k n L md) _ _ rfl rfl (.cons _ (.cons _ Sf)) Sf Bf Tt ⟨Rf, Rf, Rf, Rf, Lw, Tt⟩)
    ·have g3:st=0:=by
      by_cases h:st=0
      ·exact h
      ·exfalso
       have:((st:Int) ==0)=false:=beq_eq_false_iff_ne.2 Om;exact absurd (g3.trans this) Dc
     rw [hak0 g3,← hL] at ha;have ha:L++ [⟨qa,qo,qm,qv⟩]=Jcc (cs.take (i+1)):=ha.symm;rcases md with _ | ⟨s1,cap,tl⟩
     ·obtain rfl:L= []:=h2;refine Jy ?_;refine JF (Ef [0]) 5 ?_;refine Z ?_;refine JfF (m:=1) rfl rfl (.inr ⟨_,rfl⟩) Tryz.underlying86 Jx5 c_cnd.symm Dc (JM rfl) (by rw [Jx6];omega) Om fun ncap hcap=> ?_;refine Z ?_;exact back (i+1, [⟨qa,qo,qm,qv⟩],some (nx2+1,ncap,List.replicate ((ncap - 1) * 4) .any),nx2+1+1) ⟨hi,ha,⟨Nat.le_refl _,hcap,by simp;omega⟩,h3'⟩ Dm (JaK (pm:= []) (bx:= [ruO nx s k n (.hs (0,nx2+1) 0 1 ncap),ruZ nx,((0,nx2+1), .c (Jas eC #[⟨qa,qo,qm,qv⟩] (List.replicate ((ncap - 1) * 4) .any)))]) _ [ruO nx s k n (.hs (6,nx2+1) 0 1 ncap),ruZ nx,((6,nx2+1), .c (eC ⟨qa,qo,qm,qv⟩++List.replicate ((ncap - 1) * Tryz.prog.cellsOf 150) .any))] [] rfl rfl (List.perm_append_singleton _ _) (.cons _ (.cons _ (.cons_cons _ (.cons_cons _ (.cons_cons _ .slnil))))) .slnil ⟨rfl,⟨Rf,Rf,Rf,AVle.hs_nm rfl,Tt⟩,rfl,OwnLe.refl _,rfl,JrS (congrArg Own.c JCj),Tt⟩ Tt ⟨Rf,Rf,Rf,Rf,Lw,Tt⟩)
     ·obtain ⟨q1,q2,q3⟩:=h2;refine Jy ?_;refine JF (Ef [0]) 5 ?_;refine Z ?_;refine Jgh (m:=1) (szx:=4) (n:=L.length) (cap:=cap) (cs:=Jas eC L.toArray tl) (i:=(0,s1)) rfl rfl (.inr ⟨_,rfl⟩) Tryz.underlying86 Jx5 (.inr c_cnd.symm) (by rfl) q2 (by rw [c_cnd,Ji3 Jcr];simpa using q3) (JM rfl) (fun _=> by rw [Jx6];omega) (fun _=> by omega) (fun hm=> absurd hm Dc) (fun hm hfit=> ?_) (fun hm hfit ncap hcap=> ?_)
      ·refine Z ?_
       (conv=> whnf)
       refine back (i+1,L++ [(⟨qa,qo,qm,qv⟩:Cnd)],some (s1,cap,tl.drop 4),nx2+1) ?_ Dm ?_
       ·exact ⟨hi,ha,⟨by simp,by simpa using hfit,by simp;omega⟩,h3'⟩
       ·exact (Je (pm:= []) (bx:= [ruO nx s k n (.hs (0,s1) 0 (L++ [(⟨qa,qo,qm,qv⟩:Cnd)]).length cap),ruZ nx,((0,s1), .c (Jas eC (L++ [(⟨qa,qo,qm,qv⟩:Cnd)]).toArray (tl.drop 4)))]) [ruO nx s k n (.hs (0,s1) 0 (L.length+1) cap),ruZ nx,((0,s1), .c (Jab (Jas eC L.toArray tl) (L.length * Tryz.prog.cellsOf 150) (eC ⟨qa,qo,qm,qv⟩)))] [] rfl rfl (.cons _ (.cons _ (.cons_cons _ (.cons_cons _ (.cons_cons _ .slnil))))) .slnil (JDE (Jx7 rfl) (Jwd (tl:=tl) (by have:=hfit;omega))) Tt ⟨Rf,Rf,Rf,Rf,Lw,Tt⟩)
      ·refine Z ?_
       (conv=> whnf)
       refine back (i+1,L++ [(⟨qa,qo,qm,qv⟩:Cnd)],some (nx2+1,ncap,List.replicate ((ncap - (L.length+1)) * 4) .any),nx2+1+1) ?_ Dm ?_
       ·exact ⟨hi,ha,⟨by simp,by simpa using hcap,by simp;omega⟩,h3'⟩
       ·exact (JaK (pm:= []) (bx:= [ruO nx s k n (.hs (0,nx2+1) 0 (L++ [(⟨qa,qo,qm,qv⟩:Cnd)]).length ncap),ruZ nx,((0,nx2+1), .c (Jas eC (L++ [(⟨qa,qo,qm,qv⟩:Cnd)]).toArray (List.replicate ((ncap - (L.length+1)) * 4) .any)))]) _ [ruO nx s k n (.hs (6,nx2+1) 0 (L.length+1) ncap),ruZ nx,((6,nx2+1), .c ((Jas eC L.toArray tl).take (L.length * Tryz.prog.cellsOf 150)++eC ⟨qa,qo,qm,qv⟩++List.replicate ((ncap - (L.length+1)) * Tryz.prog.cellsOf 150) .any))] [] rfl rfl (List.perm_append_singleton _ _) (.cons _ (.cons _ (.cons_cons _ (.cons_cons _ (.cons _ (.cons_cons _ .slnil)))))) .slnil ⟨rfl,⟨Rf,Rf,Rf,Jx7 rfl,Tt⟩,rfl,OwnLe.refl _,rfl,JrS (congrArg Own.c JAq),Tt⟩ Tt ⟨Rf,Rf,Rf,Rf,Lw,Tt⟩)
   ·have g2:st=2:=by
     by_cases h:st=2
     ·exact h
     ·exfalso
      have:((st:Int) ==2)=false:=beq_eq_false_iff_ne.2 Om;exact absurd (g2.trans this) Dc
    have hR:JaW ⟨s,(k,n),cs⟩=none:=by
     unfold JaW;dsimp only;rw [JDD hi (by rw [hnv];exact decide_eq_true g2)];rfl
    rw [hR];rcases md with _ | ⟨s1,cap,tl⟩
    all_goals
     refine Z ?_;exact Jk rfl ⟨rfl,Tt⟩ (AVle.tups (cs:= [_,_]) ⟨AVle.ags (cs:= [_,_,_,_]) ⟨Rf,Rf,Rf,AVle.os_sl0,Tt⟩,Y1⟩)
def Jnf (r:Rul):List AV:= [JA r.name,int r.act.1,int r.act.2,Jaz r.conds]
theorem Jx8 (l:List Rul) (p:Rul→Bool) (f:Nat) (n:Rul) (hl:l.length≤1000000000) (hp:∀i,i < l.length→Tells Tryz.prog f [JaS (l.getD i Jn), .rp (Jnf n)] (Ji (p (l.getD i Jn)))):
 Tells Tryz.prog 59 [JK 4 JaS Jn l,(.fn (.func f) [] [.rp (Jnf n)])] (int (Jfo (l.findIdx? p))):=by
 refine Jc Tryz.func59 rfl rfl fun nx=> ?_
 refine Z ?_
 refine Js (fun s:Nat×Nat=> mk 19 [(0,JK 4 JaS Jn l),(1,(.fn (.func f) [] [.rp (Jnf n)])),(7,int l.length),(8,int s.1)] ⟨[], [],s.2,0⟩) (fun s=> s.1≤l.length∧∀j,j < s.1→p (l.getD j Jn)=false) (fun s=> l.length - s.1) ?_ ?_
 ·exact ⟨(0,nx),⟨by simp,by intro j hj;simp at hj⟩,JaM rfl rfl Y4⟩
 ·rintro ⟨i,nx⟩ ⟨h1,h2⟩;dsimp only at h1 h2;refine Z ?_;intro c h3;cases c
  ·have h3:=Jw h3;dsimp only at h3;refine Z ?_;refine Jb rfl (Jf ?_);rw [Jfn Jn (fun j hj=> h2 j Om)];rfl
  ·have h3:=Ju h3;dsimp only at h3;have hi:i < l.length:=by omega
   refine Z ?_;refine ⟨⟨Dm,Dm⟩, ?_⟩;refine Z ?_;refine Ja rfl rfl (hp i hi) Y2 fun nx'=> ?_;intro c h4;cases c
   ·refine Z ?_;refine back (i+1,nx') ⟨Dm,fun j hj=> ?_⟩ Dm (JaM rfl rfl ⟨Rf,Rf,Rf,Jf (Jx Dm),Tt⟩);dsimp only at hj;rcases Nat.lt_or_ge j i with h | h
    ·exact h2 j h
    ·obtain rfl:j=i:=(by omega);exact h4.symm
   ·refine Z ?_;refine Jb rfl (Jf ?_);rw [Jhu Jn hi h2 h4.symm];rfl
theorem Jx9 (l:List Rul) (p:Rul→Bool) (f:Nat) (n:Rul) (hl:l.length≤1000000000) (hp:∀i,i < l.length→Tells Tryz.prog f [JaS (l.getD i Jn), .rp (Jnf n)] (Ji (p (l.getD i Jn)))):
 Tells Tryz.prog 98 [JK 4 JaS Jn l,(.fn (.func f) [] [.rp (Jnf n)])] (Ji (l.any p)):=by
 refine Jc Tryz.func98 rfl rfl fun nx=> ?_
 refine Z ?_
 refine Ja rfl rfl (Jx8 l p f n hl hp) Y2 fun nx'=> ?_
 refine Z ?_
 intro c h;cases c
 all_goals
  refine Z ?_;refine Jb rfl (JN ?_);rw [h,← List.findIdx?_isSome];exact Jgi _
def Jkk (n x:Rul):Bool:=decide (x.conds= [])|| decide (x.conds=n.conds)
def Jea (l:List Rul) (n:Rul):Bool:=l.any (Jkk n)
theorem Jya (x n:Rul) (hx:x.conds.length≤1000000):Tells Tryz.prog 113 [JaS x, .rp [JA n.name,int n.act.1,int n.act.2,Jaz n.conds]] (Ji (Jkk n x)):=by
 refine Jc Tryz.func113 rfl rfl fun nx=> ?_
 by_cases h:x.conds= []
 ·have e:Jkk n x=true:=by unfold Jkk;rw [h];rfl
  rw [e];refine Z ?_;intro c hc;have hc2:c=true:=hc.trans (beq_iff_eq.2 (congrArg (fun l:List Cnd=> Int.ofNat l.length) h));clear hc;subst hc2;refine Z ?_;exact Jb rfl Rf
 ·have e:Jkk n x=decide (x.conds=n.conds):=by unfold Jkk;rw [decide_eq_false h];rfl
  rw [e];refine Z ?_;intro c hc;have hne:¬Int.ofNat x.conds.length=0:=fun hh=> h (List.eq_nil_of_length_eq_zero (Int.ofNat.inj hh));have hc2:c=false:=hc.trans (beq_eq_false_iff_ne.2 hne);clear hc;subst hc2;refine Z ?_;refine Ja rfl rfl (JtI x.conds n.conds hx) Y2 fun nx2=> ?_;intro c h9;cases c
  all_goals
   refine Z ?_;exact Jb rfl (JN h9)
theorem Jls (l:List Rul) (n:Rul) (hl:l.length≤1000000) (hc:∀r∈l,r.conds.length≤1000000):Tells Tryz.prog 63 [Jak l,JaS n] (Ji (Jea l n)):=by
 refine Jc Tryz.func63 rfl rfl fun nx=> ?_
 (refine Jy ?_;refine JQ ?_;refine Jy ?_)
 refine AW.le (JcJ (L:= [(0,Jak l),(3, .rp [JA n.name,int n.act.1,int n.act.2,Jaz n.conds])]) (bx:= []) (pm:= []) (nn:=1) [((0,nx), .c [JA n.name,int n.act.1,int n.act.2,Jaz n.conds])] rfl rfl Sf .slnil ⟨Frz.refl _,Frz.bp (.head _) rfl,Tt⟩) ?_
 refine Z ?_
 refine Ja rfl rfl (Jx9 l (Jkk n) 113 n Om (fun i hi=> Jya _ _ (hc _ (by simp [List.getD,hi])))) Y2 fun nx2=> ?_
 intro c h9;cases c
 all_goals
  refine Z ?_;exact Jb rfl (JN h9)
end Go.Proofs.W

namespace Go.Proofs
open Go.Shelf
shelf_lay_g SlLaysM.n6 Slgm 6 at Tryz 106 as Tryz.laysM6k16
end Go.Proofs
namespace Go.Proofs.W
open Go.Vl Go.Shelf
set_option maxRecDepth 100000
theorem JtP (es:List (Value×AV)) (hky:∀p∈es,∃z,p.1= .string z):JeP Tryz.prog 116 [] [.rp [.fm es]] (fun v:Value=> [.v v]) (fun xs=> xs.Perm (es.map (·.1))):=by
 intro i σ Cb Cp I J hc s0 nx nn h0
 refine ECall.wk (Jo Tryz.func116 rfl rfl ?_)
 refine Jy ?_
 refine JF (fun n=> match n with | 0=> true | _=> false) 2 ?_
 refine Z ?_
 refine Ji0 rfl Tryz.underlying159 rfl ?_
 refine Z ?_
 refine Js (fun y:List Nat×σ×Nat=> mk 14 [(0, .yl i),(5, .bp (nn,nx) 0)] ⟨((nn,nx), .it es y.1)::Cb y.2.1,Cp y.2.1,y.2.2,nn+1⟩) (fun y=> y.1.Nodup∧(∀j∈y.1,j < es.length)∧I (y.1.map (Jb4 es)) y.2.1) (fun y=> es.length - y.1.length) ?_ ?_
 ·exact ⟨([],s0,nx+1),⟨List.nodup_nil,(fun j (h:j∈ [])=> by cases h),h0⟩,Et rfl rfl ⟨rfl,OwnLe.refl _,Bf⟩ Pf Y2⟩
 ·rintro ⟨seen,s,nx1⟩ ⟨h1,h2,h3⟩;dsimp only at h1 h2 h3;refine Jy ?_;refine JF (fun n=> match n with | 0=> true | _=> false) 1 ?_;refine Jj1 (i:=(nn,nx)) (es:=es) (seen:=seen) (R:=Cb s) rfl rfl rfl (fun k p hk hn=> ?_) (fun hall=> ?_)
  ·obtain ⟨z,hz⟩:=hky p (List.mem_of_getElem? hk);obtain ⟨key,val⟩:=p;dsimp only at hz;subst hz;have hk2:k < es.length:=(List.getElem?_eq_some_iff.1 hk).1;have hka:Jb4 es k= .string z:=Jjd hk;obtain ⟨post,hperm⟩:=Jj2 h1 h2 hk2 hn;have hS:(seen.map (Jb4 es)++(.string z)::post.map (Jb4 es)).Perm (es.map (·.1)):=by
    rw [← Jfw,← hka];simpa using hperm.map (Jb4 es)
   have hlen:=hperm.length_eq;have hnd:(seen++ [k]).Nodup:=by
    rw [List.nodup_append];exact ⟨h1,by simp,fun a ha b hb hab=> by rw [List.mem_singleton] at hb;subst hb;subst hab;exact hn ha⟩
   have hlt:∀j∈seen++ [k],j < es.length:=fun j hj=> by
    rcases List.mem_append.1 hj with h | h
    ·exact h2 j h
    ·rw [List.mem_singleton] at h;omega
   have hmk:(seen++ [k]).map (Jb4 es)=seen.map (Jb4 es)++ [.string z]:=by rw [List.map_append,← hka];rfl
   have hlen2:seen.length < es.length:=by simp at hlen;omega
   refine Jy ?_;refine JF (fun n=> match n with | 0=> true | _=> false) 1 ?_;refine Ji1 (i:=(nn,nx)) (seen:=seen) (k:=k) (R:=Cb s) rfl rfl rfl hk ?_;refine Jy ?_;refine JF (fun n=> match n with | 0=> true | _=> false) 3 ?_;refine Z ?_;refine Jex [((nn,nx), .it es (seen++ [k]))] [] rfl rfl rfl (hc _ hS) rfl h3 Y1 (fun s' nx' hI=> ?_) (fun s' nx' hJ=> ?_)
   ·refine Z ?_;exact back (seen++ [k],s',nx') ⟨hnd,hlt,by dsimp only;rw [hmk];exact hI⟩ (by simp;omega) (Et rfl rfl Bf Pf Y2)
   ·refine Z ?_;exact Jt rfl ⟨_,⟨Cb s',Cp s',nx',nn⟩,Rf,Jr _ _ rfl (.cons _ Sf) Sf Bf Pf,_,s',hS, .inr ⟨_,_,_,rfl,hJ⟩,rfl,rfl⟩
  ·refine Z ?_;refine Jt rfl ⟨_,⟨Cb s,Cp s,nx1,nn⟩,Rf,Jr _ _ rfl (.cons _ Sf) Sf Bf Pf,_,s, ?_, .inl h3,rfl,rfl⟩;rw [← Jfw];exact (Jj3 h1 h2 hall).map _
def Jdu (l:List Value) (k:Nat):AV:= .v (l.getD k (.bool false))
theorem JAr:Tryz.prog.bytesOf 9=16:=by kernel_rfl
theorem Jng (es:List (Value×AV)):Tells Tryz.prog 65 [.fm es] (.fn (.func 116) [] [.rp [.fm es]]):=by
 refine Jc Tryz.func65 rfl rfl fun nx=> ?_
 (repeat ((conv=>whnf);first|refine ω0 ?_|refine ω1 ?_|refine ω2 ?_|refine ω3 ?_|refine ω4 rfl ?_|refine ω5 rfl ?_|refine ω6 ?_|refine ω7 ?_|refine ⟨rfl,?_⟩|refine ⟨trivial,?_⟩|refine ⟨⟨rfl,Nat.le_of_ble_eq_true rfl⟩,?_⟩|refine ⟨⟨by kernel_rfl,by kernel_rfl⟩,?_⟩|refine ⟨by decide,?_⟩|refine JdE ?_|refine Jdd ?_))
 refine AW.le (JcJ (L:= [(2, .fn (.func 116) [] [.rp [.fm es]])]) (bx:= []) (pm:= []) (nn:=1) [((0,nx), .c [.fm es])] rfl rfl Sf .slnil ⟨Frz.fn Tt ⟨Frz.bp (.head _) rfl,Tt⟩,Tt⟩) ?_
 refine Z ?_
 exact Jb rfl Rf
theorem Jl6 {it:FuncId} {es:List (Value×AV)} {S:List Value→Prop} (hit:JeP Tryz.prog it [] [.rp [.fm es]] (fun v:Value=> [.v v]) S) (hS:∀xs,S xs→xs.length≤1000000∧∀v∈xs,∃z,v= .string z) (nx:Nat):
 ECall Tryz.prog 174 [.os 0 0 (fun _=> .any) none, .fn (.func it) [] [.rp [.fm es]]] ⟨[], [],nx,0⟩ fun r h'=> ∃xs oi nx' nn',S xs∧(oi=none→xs= [])∧r= .os 1 xs.length (Jdu xs) oi∧h'=⟨[],Jam oi (xs.length * 1),nx',nn'⟩:=by
 refine ECall.wk (Jo Tryz.func174 rfl rfl ?_)
 refine Z ?_
 refine AW.le (E':=mk 13 [(2, .bp (0,nx) 0),(6, .fn (.func it) [] [.rp [.fm es]])] ⟨[((0,nx), .c [.os 1 0 (Jdu []) none])], [],nx+1,1⟩) ?_ ?_
 ·exact Je _ _ rfl rfl Sf .slnil ⟨rfl,⟨AVle.os_nil,Tt⟩,Tt⟩ Tt Y2
 refine JnV (σ:=Nat×(Nat→AV)×Option Vl.Id) (α:=Value) (e:=fun v=> [.v v]) (S:=S) (first':= []) (caps':= [.rp [.fm es]]) (fun x=> [((0,nx), .c [.os 1 x.1 x.2.1 x.2.2])]) (fun x=> Jam x.2.2 (x.1 * 1)) (fun pre x=> x.1=pre.length∧(∀k,k < x.1→x.2.1 k=Jdu pre k)∧(x.2.2=none→pre= [])) (0,Jdu [],none) rfl rfl hit (LeL.refl _) (LeL.refl _) rfl rfl ⟨rfl,fun _ _=> rfl,fun _=> rfl⟩ (fun _=> rfl) ?_ ?_
 ·rintro pre x post ⟨n,f,oi⟩ nx3 nn3 hx ⟨hp,hf,ho⟩;dsimp only at hp hf ho;subst hp;obtain ⟨hlen,hty⟩:=hS _ hx;obtain ⟨z,rfl⟩:=hty x Si;simp at hlen;refine Jy ?_;refine JQ ?_;refine Jy ?_;refine JF (fun n=> match n with | 0=> true | _=> false) 4 ?_;refine Z ?_;refine Jee (e:=9) (c:=1) (pm:= []) (n:=pre.length) (oi:=oi) (sz:=1) (f:=f) rfl rfl (.inr ⟨_,rfl⟩) Kr Kr Kr (.inr rfl) Kr (List.append_nil _).symm (JM rfl) (by rw [JAr];omega) Om ?_;refine Z ?_;refine ⟨(pre.length+1,_,some (nn3,nx3)), .inl ⟨rfl,by simp,fun k hk=> ?_,fun h=> by cases h⟩,rfl,rfl⟩;refine Jbw (fun k hk=> ?_) ?_ k hk
  ·rw [hf k hk];simp [Jdu,List.getD,List.getElem?_append_left hk,hk]
  ·simp [Jdu,List.getD];rfl
 ·rintro xs ⟨n,f,oi⟩ nx3 nn3 hx ⟨hp,hf,ho⟩;dsimp only at hp hf ho;subst hp;refine Z ?_;refine Jt rfl ⟨.os 1 xs.length (Jdu xs) oi,⟨[],Jam oi (xs.length * 1),nx3,0⟩,AVle.os_fun hf, ?_,xs,oi,nx3,0,hx,ho,rfl,rfl⟩;exact Jr [] _ rfl (List.nil_sublist _) Sf Tt Pf
theorem Joe (es:List (Value×AV)) (hl:es.length≤1000000) (hky:∀p∈es,∃z,p.1= .string z) (nx:Nat):
 ECall Tryz.prog 115 [.fn (.func 116) [] [.rp [.fm es]]] ⟨[], [],nx,0⟩ (Jqt (fun n f=> ∃xs:List Value,xs.Perm (es.map (·.1))∧n=xs.length∧∀k,k < n→f k=Jdu xs k) 1):=by
 refine Ji2 Dc (fun n f ⟨xs,_,_,hf⟩ k hk c hc=> ?_) ?_
 ·rw [hf k hk] at hc;obtain rfl:c=Jdu xs k:=by simpa [Jdu,AV.cells] using hc
  exact Flat.v _
 refine ECall.wk (Jo Tryz.func115 rfl rfl ?_)
 refine Z ?_
 refine Jb6 rfl rfl (ECall.args (bs:= [.os 0 0 (fun _=> .any) none, .fn (.func 116) [] [.rp [.fm es]]]) Y2 (Jl6 (JtP es hky) (fun xs hx=> ⟨by have:=hx.length_eq;simp at this;omega,fun v hv=> ?_⟩) nx)) fun r h' hq=> ?_
 ·obtain ⟨p,hp,rfl⟩:=List.mem_map.1 (hx.mem_iff.1 hv);exact hky p hp
 obtain ⟨xs,oi,nx',nn',hS,ho,rfl,rfl⟩:=hq
 refine Named.same ?_
 refine Z ?_
 exact Jt rfl ⟨_,_,Rf,HLe.refl _,xs.length,Jdu xs,oi,nx',_,⟨xs,hS,rfl,fun _ _=> rfl⟩,(fun h=> by rw [ho h];rfl),rfl,rfl⟩
def JdA (z:List UInt8):AV:= .v (encStr z)
def Jim (s:Nat) (d:Array (List UInt8)) (tl:List AV):List (Vl.Id×Own):= [((0,s), .c (Jba JdA d tl))]
theorem Jnh (l:List (List UInt8)):l.mergeSort (fun x y=> decide (x≤y))=J0 Go.Sort.ltStr l:=by
 unfold J0
 congr 1
 funext x y
 simp only [Go.Sort.ltStr]
 by_cases h:x≤y
 ·rw [decide_eq_true h,decide_eq_false (List.not_lt.2 h)];rfl
 ·rw [decide_eq_false h,decide_eq_true (List.not_le.1 h)];rfl
theorem Jkl:∀x y:List UInt8,Go.Sort.ltStr x y=false→Go.Sort.ltStr y x=false→x=y:=fun x y h1 h2=> by
 simp only [Go.Sort.ltStr,decide_eq_false_iff_not,List.not_lt] at h1 h2
 exact List.le_antisymm h2 h1
theorem JrW (d0:Array (List UInt8)) (tl:List AV) (n:Nat) (hn:d0.size=n) (hsz:n≤1000000) (s cap nx:Nat):
 ECall Tryz.prog 106 [.hs (0,s) 0 n cap] ⟨Jim s d0 tl, [],nx,1⟩ (fun r h'=> ∃nx' nn',h'=⟨Jim s (J0 Go.Sort.ltStr d0.toList).toArray tl, [],nx',nn'⟩):=by
 subst hn
 have h:=Jie (P:=Tryz.prog) (enc:=encStr) (d:=d0) (d':=(J0 Go.Sort.ltStr d0.toList).toArray) (tl:=tl) (nm:=0) (s:=s) (cap:=cap) (nx:=nx) (nn:=1) (f:=106) ⟨_,Tryz.func106,rfl,rfl⟩ (by simp [JaZ]) (fun w blk hH hb=> by
  have k:=AnyM.slices_Sort_string Tryz.laysM6k16 blk 0 cap d0.toList w hH hb (by simp;omega);rw [Jnh] at k;exact k)
 exact h.mono fun r h' ⟨_,h2⟩=> ⟨nx,1,h2⟩
theorem JrX (F:Nat→AV):Tells Tryz.prog 106 [.os 1 0 F none] (.tup []):=
 Jif (nx:=0) ⟨_,Tryz.func106,rfl,rfl⟩ fun p cap w=> AnyM.slices_Sort_string_none Tryz.laysM6k16 p cap w
def Jni:Value→List UInt8
 | .string z=> z.data.toList
 | _=> []
theorem Jp9 (es:List (Value×AV)) (zs:List (List UInt8)) (hz:es.map (·.1)=zs.map encStr) (hl:es.length≤1000000):
 Tells Tryz.prog 64 [.fn (.func 116) [] [.rp [.fm es]]] (JK 1 JdA [] (J0 Go.Sort.ltStr zs)):=by
 have hky:∀p∈es,∃z,p.1=encStr z:=fun p hp=> by
  have:p.1∈zs.map encStr:=hz ▸ List.mem_map_of_mem hp;obtain ⟨z,_,h⟩:=List.mem_map.1 this;exact ⟨z,h.symm⟩
 refine Jc Tryz.func64 rfl rfl fun nx=> ?_
 refine Z ?_
 refine Jb6 rfl rfl (Joe es hl (fun p hp=> let ⟨z,h⟩:=hky p hp;⟨⟨z.toArray⟩,h⟩) nx) fun r h' hq=> ?_
 obtain ⟨n,f,⟨xs,hxp,hxn,hxf⟩,hq⟩:=hq
 obtain ⟨ys,rfl⟩:∃ys:List (List UInt8),xs=ys.map encStr:=by
  have hall:∀v∈xs,∃z,v=encStr z:=fun v hv=> by
   have hv2:=hxp.mem_iff.1 hv;rw [hz] at hv2;obtain ⟨z,_,h⟩:=List.mem_map.1 hv2;exact ⟨z,h.symm⟩
  clear hxp hxn hxf hq
  induction xs with
  | nil=> exact ⟨[],rfl⟩
  | cons x xs ih=>
    obtain ⟨z,rfl⟩:=hall x Si;obtain ⟨ys,rfl⟩:=ih fun v hv=> hall v (by simp [hv]);exact ⟨z::ys,rfl⟩
 have hperm:ys.Perm zs:=by
  rw [hz] at hxp;have h2:=hxp.map Jni
  rwa [List.map_map,List.map_map,show (Jni∘encStr)=id from rfl,List.map_id,List.map_id] at h2
 have hsz:n≤1000000:=by
  have:=hxp.length_eq;simp at this;rw [hxn];simp;omega
 rcases hq with ⟨rfl,hb,hp,rfl⟩ | ⟨s,cap,more,nx',nn',hcap,hmore,rfl,rfl⟩
 ·have hys:ys= []:=by cases ys with | nil=> rfl | cons y ys=> simp at hxn
  subst hys;have hzs:zs= []:=hperm.symm.eq_nil;subst hzs;rw [show J0 Go.Sort.ltStr ([]:List (List UInt8))= [] from List.eq_nil_of_length_eq_zero JaZ];obtain ⟨bx,pm,nxx,nnn⟩:=h';dsimp only at hb hp;subst hb;subst hp;refine Named.same ?_;refine Z ?_;refine Ja rfl rfl (JrX f) Y1 fun nx2=> ?_;refine Z ?_;exact Jb rfl AVle.os_sl0
 ·refine Named.same ?_;have hcells:JD n f=ys.toArray.toList.map JdA:=by
   have key:∀m,m≤n→JD m f=(ys.take m).map JdA:=by
    intro m
    induction m with
    | zero=> intro _;rfl
    | succ m ih=>
      intro hm;have hm':m < ys.length:=(by simp at hxn;omega);have e:JD (m+1) f=JD m f++(f m).cells:=(by unfold JD;rw [List.range_succ,List.flatMap_append];simp);rw [e,ih Om,hxf m Om,List.take_add_one,List.map_append];simp [Jdu,List.getD,hm',AV.cells,JdA]
   rw [key n (Nat.le_refl _),List.take_of_length_le (by simp at hxn;omega)]
  have hnn:ys.toArray.size=n:=by simp at hxn;simp [hxn]
  rw [hcells];refine Jy ?_;refine AW.le (E':=mk 9 [(3, .hs (0,s) 0 n cap)] ⟨Jim s ys.toArray (List.replicate more .any), [],nx',1⟩) (Es rfl rfl Y1) ?_;refine Z ?_;refine Jg (xs:= [.hs (0,s) 0 n cap]) [] [] 1 rfl rfl rfl rfl Y1 (JrW ys.toArray _ n hnn hsz s cap _) Bf Pf rfl fun r h' hq=> ?_;obtain ⟨nx2,nn2,rfl⟩:=hq;have hd:(J0 Go.Sort.ltStr ys.toArray.toList).toArray.toList=J0 Go.Sort.ltStr zs:=by
   show J0 Go.Sort.ltStr ys=_;exact JeU Go.Sort.swo_ltStr Jkl hperm
  generalize (J0 Go.Sort.ltStr ys.toArray.toList).toArray=d' at hd⊢;have hdn:d'.size=n:=by
   rw [← Array.length_toList,hd,JaZ,← hperm.length_eq];simpa using hnn
  have hln:(J0 Go.Sort.ltStr zs).length=n:=by rw [← hd];simpa using hdn
  refine Jy ?_;refine AW.le (JcJ (L:= [(3,JK 1 JdA [] (J0 Go.Sort.ltStr zs))]) (bx:= []) (pm:= []) (nn:=1) [((0,s), .c (Jba JdA d' (List.replicate more .any)))] rfl rfl Sf .slnil ⟨?_,Tt⟩) ?_
  ·unfold JK;rw [hln];refine Frz.hs1 (.head _) hcap (by rw [JfW];omega) (fun k _=> rfl) (fun k hk=> ?_);unfold Jba;rw [List.getElem?_append_left (by simpa [hdn] using hk),List.getElem?_map,← hd];have:k < d'.size:=by omega
   simp [List.getD,this]
  ·refine Z ?_;exact Jb rfl Rf
end Go.Proofs.W

namespace Go.Proofs.W
open Go.Vl
set_option maxRecDepth 100000
def Jae (s t:ByteArray):Bool:=s.toList ==t.toList
theorem JcZ {s t:ByteArray}:Jae s t=true↔s=t:=by
 unfold Jae
 rw [beq_iff_eq,Lib.toList_data,Lib.toList_data]
 constructor
 ·intro h;obtain ⟨⟨a⟩⟩:=s;obtain ⟨⟨b⟩⟩:=t;simpa using h
 ·rintro rfl;rfl
def Jbm:List (ByteArray×List Rul)→ByteArray→List Rul
 | [],_=> []
 | h::H,s=> if Jae s h.1 then h.2 else Jbm H s
def Jek:List (ByteArray×List Rul)→ByteArray→Rul→List (ByteArray×List Rul)
 | [],s,n=> [(s, [n])]
 | h::H,s,n=> if Jae s h.1 then (h.1,h.2++ [n])::H else h::Jek H s n
def Jd4 (H:List (ByteArray×List Rul)) (r:Rul):List (ByteArray×List Rul):=
 match JaW r with
 | none=> H
 | some n=> if Jea (Jbm H r.name) n then H else Jek H r.name n
def Jal (rs:List Rul):List (ByteArray×List Rul):=rs.foldl Jd4 []
theorem Jqa {rs:List Rul} {i:Nat} (h:i < rs.length):Jal (rs.take (i+1))=Jd4 (Jal (rs.take i)) (rs.getD i Jn):=by
 unfold Jal;rw [JaP Jn h,List.foldl_append];rfl
def JbP (R:List Rul) (k:Nat):AV:=JaS (R.getD k Jn)
abbrev Grp:=ByteArray×List Rul×Nat
def gE (g:Grp):Value×AV:=(.string g.1, .os 4 g.2.1.length (JbP g.2.1) (some (g.2.2,g.2.2)))
def gF (g:Grp):Value×AV:=(.string g.1,Jak g.2.1)
def gP (g:Grp):Vl.Id×Nat:=((g.2.2,g.2.2),g.2.1.length * 4)
def Jc6 (G:List Grp):List (ByteArray×List Rul):=G.map fun g=> (g.1,g.2.1)
theorem JiB (G:List Grp):Ja9 .string (G.map gE)=true:=by simp [Ja9,gE,Jbc]
theorem JDF (G:List Grp):Ja9 .string (G.map gF)=true:=by simp [Ja9,gF,Jbc]
theorem Jnj {s:ByteArray} {e:Grp→Value×AV} (he:∀g,(e g).1= .string g.1):∀ {G:List Grp},(∀g∈G,Jae s g.1=false)→Jbf (.string s) (G.map e)=none
 | [],_=> rfl
 | g::G,h=> by
   have h0:(s.toList ==g.1.toList)=false:=h g (.head _);show (bif JcX (.string s) (e g).1 then _ else Jbf (.string s) (G.map e))=none;rw [he g];show (bif s.toList ==g.1.toList then _ else Jbf (.string s) (G.map e))=none;rw [h0];exact Jnj he fun g' hg=> h g' (.tail _ hg)
theorem Jl7 {s:ByteArray} {e:Grp→Value×AV} (he:∀g,(e g).1= .string g.1) {l:List Rul} {st:Nat} {G2:List Grp}:∀ {G1:List Grp},(∀g∈G1,Jae s g.1=false)→Jbf (.string s) ((G1++(s,l,st)::G2).map e)=some (e (s,l,st)).2
 | [],_=> by
   show (bif JcX (.string s) (e (s,l,st)).1 then _ else _)=_;rw [he];show (bif s.toList ==s.toList then _ else _)=_;rw [beq_self_eq_true];rfl
 | g::G,h=> by
   have h0:(s.toList ==g.1.toList)=false:=h g (.head _);show (bif JcX (.string s) (e g).1 then _ else Jbf (.string s) ((G++(s,l,st)::G2).map e))=_;rw [he g];show (bif s.toList ==g.1.toList then _ else _)=_;rw [h0];exact Jl7 he fun g' hg=> h g' (.tail _ hg)
theorem Jfv {s:ByteArray} {v:AV}:∀ {G:List Grp},(∀g∈G,Jae s g.1=false)→JcN (.string s) v (G.map gE)=G.map gE++ [(.string s,v)]
 | [],_=> rfl
 | g::G,h=> by
   have h0:(s.toList ==g.1.toList)=false:=h g (.head _);show (bif s.toList ==g.1.toList then _ else gE g::JcN (.string s) v (G.map gE))=_;rw [h0,Jfv fun g' hg=> h g' (.tail _ hg)];rfl
theorem JuO {s:ByteArray} {v:AV} {l:List Rul} {st:Nat} {G2:List Grp}:∀ {G1:List Grp},(∀g∈G1,Jae s g.1=false)→JcN (.string s) v ((G1++(s,l,st)::G2).map gE)=G1.map gE++(.string s,v)::G2.map gE
 | [],_=> by
   show (bif s.toList ==s.toList then _ else _)=_;rw [beq_self_eq_true];rfl
 | g::G,h=> by
   have h0:(s.toList ==g.1.toList)=false:=h g (.head _);show (bif s.toList ==g.1.toList then _ else gE g::JcN (.string s) v ((G++(s,l,st)::G2).map gE))=_;rw [h0,JuO fun g' hg=> h g' (.tail _ hg)];rfl
theorem Jpi {s:ByteArray}:∀ {G:List Grp},(∀g∈G,Jae s g.1=false)→Jbm (Jc6 G) s= []
 | [],_=> rfl
 | g::G,h=> by
   show (if Jae s g.1=true then _ else Jbm (Jc6 G) s)=_;rw [if_neg (by rw [h g (.head _)];decide)];exact Jpi fun g' hg=> h g' (.tail _ hg)
theorem Jof {s:ByteArray} {l:List Rul} {st:Nat} {G2:List Grp}:∀ {G1:List Grp},(∀g∈G1,Jae s g.1=false)→Jbm (Jc6 (G1++(s,l,st)::G2)) s=l
 | [],_=> if_pos (JcZ.2 rfl)
 | g::G,h=> by
   show (if Jae s g.1=true then _ else Jbm (Jc6 (G++_)) s)=_;rw [if_neg (by rw [h g (.head _)];decide)];exact Jof fun g' hg=> h g' (.tail _ hg)
theorem Jpj {s:ByteArray} {n:Rul} {st:Nat}:∀ {G:List Grp},(∀g∈G,Jae s g.1=false)→Jek (Jc6 G) s n=Jc6 (G++ [(s, [n],st)])
 | [],_=> rfl
 | g::G,h=> by
   show (if Jae s g.1=true then _ else _::Jek (Jc6 G) s n)=_;rw [if_neg (by rw [h g (.head _)];decide),Jpj (st:=st) fun g' hg=> h g' (.tail _ hg)];rfl
theorem JuP {s:ByteArray} {n:Rul} {l:List Rul} {st st':Nat} {G2:List Grp}:∀ {G1:List Grp},(∀g∈G1,Jae s g.1=false)→Jek (Jc6 (G1++(s,l,st)::G2)) s n=Jc6 (G1++(s,l++ [n],st')::G2)
 | [],_=> if_pos (JcZ.2 rfl)
 | g::G,h=> by
   show (if Jae s g.1=true then _ else _::Jek (Jc6 (G++(s,l,st)::G2)) s n)=_;rw [if_neg (by rw [h g (.head _)];decide),JuP (st':=st') fun g' hg=> h g' (.tail _ hg)];rfl
theorem Jkm (s:ByteArray):∀(G:List Grp),(∀g∈G,Jae s g.1=false)∨∃G1 l st G2,G=G1++(s,l,st)::G2∧∀g∈G1,Jae s g.1=false
 | []=> .inl Si
 | g::G=> by
   cases hk:Jae s g.1 with
   | true=>
     obtain ⟨t,l,st⟩:=g;obtain rfl:s=t:=JcZ.1 hk;exact .inr ⟨[],l,st,G,rfl,by simp⟩
   | false=>
     rcases Jkm s G with h | ⟨G1,l,st,G2,rfl,h⟩
     ·exact .inl fun g' hg=> by rcases List.mem_cons.1 hg with rfl | hg;exact hk;exact h g' hg
     ·exact .inr ⟨g::G1,l,st,G2,rfl,fun g' hg=> by rcases List.mem_cons.1 hg with rfl | hg;exact hk;exact h g' hg⟩
theorem Jnk {s:ByteArray} {l:List Rul} {st:Nat} {G2:List Grp}:∀ {G1:List Grp},((G1++(s,l,st)::G2).map (·.2.2)).Nodup→Jbi st ((G1++(s,l,st)::G2).map gP)=some (st,l.length * 4)
 | [],_=> by
   show (bif Nat.beq st st then _ else _)=_;rw [Nat.beq_refl];rfl
 | g::G,h=> by
   simp only [List.cons_append,List.map_cons,List.nodup_cons] at h;have h0:Nat.beq g.2.2 st=false:=by
    cases hb:Nat.beq g.2.2 st with
    | false=> rfl
    | true=> exact absurd (by simp [Nat.eq_of_beq_eq_true hb]) h.1
   show (bif Nat.beq g.2.2 st then _ else Jbi st ((G++(s,l,st)::G2).map gP))=_;rw [h0];exact Jnk h.2
theorem Jkn {s:ByteArray} {l:List Rul} {st:Nat} {G2:List Grp}:∀ {G1:List Grp},((G1++(s,l,st)::G2).map (·.2.2)).Nodup→JbQ st ((G1++(s,l,st)::G2).map gP)=(G1++G2).map gP
 | [],_=> by
   show (bif Nat.beq st st then _ else _)=_;rw [Nat.beq_refl];rfl
 | g::G,h=> by
   simp only [List.cons_append,List.map_cons,List.nodup_cons] at h;have h0:Nat.beq g.2.2 st=false:=by
    cases hb:Nat.beq g.2.2 st with
    | false=> rfl
    | true=> exact absurd (by simp [Nat.eq_of_beq_eq_true hb]) h.1
   show (bif Nat.beq g.2.2 st then _ else gP g::JbQ st ((G++(s,l,st)::G2).map gP))=_;rw [h0,Jkn h.2];rfl
theorem MpLe.appK16:∀ {a b c d:List (Value×AV)},MpLe a b→MpLe c d→MpLe (a++c) (b++d)
 | [], [],_,_,_,h=> h
 | _::_,_::_,_,_,h,k=> ⟨h.1,h.2.1,MpLe.appK16 h.2.2 k⟩
 | [],_::_,_,_,h,_=> h.elim
 | _::_, [],_,_,h,_=> h.elim
theorem JCk {s:ByteArray} {n:Rul} {st:Nat} {v:AV} {G:List Grp} (h:∀g∈G,Jae s g.1=false) (hv:AVle v (.os 4 1 (JbP [n]) (some (st,st)))):OwnLe (.mp (JcN (.string s) v (G.map gE))) (.mp ((G++ [(s, [n],st)]).map gE)):=by
 rw [Jfv h,List.map_append]
 exact MpLe.appK16 (MpLe.refl _) ⟨rfl,hv,Tt⟩
theorem JEu {s:ByteArray} {l l':List Rul} {st st':Nat} {v:AV} {G1 G2:List Grp} (h:∀g∈G1,Jae s g.1=false) (hv:AVle v (.os 4 l'.length (JbP l') (some (st',st')))):OwnLe (.mp (JcN (.string s) v ((G1++(s,l,st)::G2).map gE))) (.mp ((G1++(s,l',st')::G2).map gE)):=by
 rw [JuO h,List.map_append]
 exact MpLe.appK16 (MpLe.refl _) ⟨rfl,hv,MpLe.refl _⟩
theorem Jyb:∀(G:List Grp),MpLe (G.map gE) (G.map gF)
 | []=> trivial
 | g::G=> ⟨rfl,AVle.os_sl,Jyb G⟩
theorem JAs {P:Program} {c:Code} {E:Env} {Q:AExit→Env→Prop} (h:(E.h.pm.map (·.1.2)).Nodup→AW P c E Q):AW P c E Q:=by
 have h2:=h
 unfold AW at h2⊢
 intro ro X M w0 a w g g0 hg hs
 refine h2 ?_ ro X M w0 a w g g0 hg hs
 have:=hs.hok.nodup
 unfold Heap.ids at this
 rw [List.map_append] at this
 have h3:=(List.nodup_append.1 this).2.1
 have:((E.h.pm.map (·.1.2)).map (fun i=> g[i]?)).Nodup:=h3
 exact (List.pairwise_map.1 this).imp fun h e=> h (congrArg (fun i=> g[i]?) e)
theorem Jpk {E:Env} {n:Nat} {bx:List (Vl.Id×Own)} {pm pm':List (Vl.Id×Nat)} {nx nn:Nat} {L:List (Nat×AV)} (bx':List (Vl.Id×Own)) (hn:E.n=n) (hx:E.h.nx=nx) (hb:bx'.Sublist E.h.bx) (hp:E.h.pm=pm') (hq:(pm.map (fun p=> (p.1.2,p.2))).Perm (pm'.map (fun p=> (p.1.2,p.2))))
 (eb:BxLe bx' bx) (hL:LeT E.t L):ELe E (mk n L ⟨bx,pm,nx,nn⟩ E.df):=by
 subst hp
 refine ELe.trans (Je (bx:=bx) (pm:=E.h.pm) (nn:=nn) (L:=L) bx' E.h.pm hn hx hb Sf eb Pf hL) ?_
 exact JdX (E:=mk n L ⟨bx,E.h.pm,nx,nn⟩ E.df) (h':=⟨bx,pm,nx,nn⟩) ⟨.refl _,hq,rfl⟩
theorem JuQ {L:List Rul} {c:Rul} {f':Nat→AV} {i j:Vl.Id} (hf:f' 0=JaS c:=by rfl) (h:i.2=j.2:=by rfl):AVle (.os 4 (L.length+1) (JcO L.length (JbP L) f') (some i)) (.os 4 (L++ [c]).length (JbP (L++ [c])) (some j)):=by
 rw [List.length_append]
 refine (AVle.os_fun (Jbw (fun k hk=> ?_) ?_)).trans (AVle.os_nm h)
 ·simp [JbP,List.getD,List.getElem?_append_left hk,hk]
 ·rw [hf];simp [JbP,List.getD]
def Jdr (d:A2) (l:List Rul):List Rul:=(l.reverse.dropWhile fun r=> decide (r.act=d)).reverse
def JdR (H:List (ByteArray×List Rul)):List (List UInt8):=J0 Go.Sort.ltStr (H.map fun h=> h.1.data.toList)
def JgH (d:A2) (H:List (ByteArray×List Rul)) (N:List (List UInt8)):List Rul:=N.flatMap fun nm=> Jdr d (Jbm H ⟨nm.toArray⟩)
def Jh (p:Pol):Pol:=⟨p.dflt,p.x32,JgH p.dflt (Jal p.rules) (JdR (Jal p.rules))⟩
def JEN:Pol:=⟨(0,0),false, []⟩
def Jqx (p:Pol):AV:=if Ja8 p then .tup [JcT (Jh p),int 0] else .tup [JcT JEN,int 13]
theorem Jpl {d:A2} {l:List Rul} {r:Rul}:Jdr d (l++ [r])=if r.act=d then Jdr d l else l++ [r]:=by
 unfold Jdr
 rw [List.reverse_append]
 show (List.dropWhile _ (r::l.reverse)).reverse=_
 by_cases h:r.act=d
 ·rw [List.dropWhile_cons,if_pos (by simpa using h),if_pos h]
 ·rw [List.dropWhile_cons,if_neg (by simpa using h),if_neg h];simp
theorem Jpm {l:List Rul} {m:Nat} (h0:0 < m) (h:m≤l.length):l.take m=l.take (m - 1)++ [l.getD (m - 1) Jn]:=by
 obtain ⟨k,rfl⟩:∃k,m=k+1:=⟨m - 1,Om⟩
 exact JaP Jn Om
def Jfe:List AV:= [int 0,int 0,Ji false, .os 0 0 (fun _=> .any) none]
def JgI (p:Pol):List AV:= [int p.dflt.1,int p.dflt.2,Ji p.x32,Jak p.rules]
theorem JcV {p:Pol} (h:Ja8 p=true):p.rules.length≤500∧∀r∈p.rules,r.conds.length≤6:=by
 unfold Ja8 at h
 simp only [Bool.and_eq_true,decide_eq_true_eq,Bool.not_eq_true',List.any_eq_false] at h
 refine ⟨h.2.1,fun r hr=> ?_⟩
 have:JaJ r=true:=by have:=h.2.2 r hr;simpa using this
 unfold JaJ at this
 simp only [Bool.and_eq_true,decide_eq_true_eq] at this
 exact this.2.2.1
theorem Jcg {r n:Rul} (h:JaW r=some n):n.conds.length≤r.conds.length∧n.name=r.name∧n.act=r.act:=by
 unfold JaW at h
 split at h
 ·cases h
 ·cases h;exact ⟨Nat.le_trans (Jwb _ _) (JrU _),rfl,rfl⟩
theorem JiC:JbK Tryz.prog 93=true:=by kernel_rfl
theorem gc_rul:Tryz.prog.cellsOf 93=4:=by kernel_rfl
theorem JiD:Tryz.prog.bytesOf 93=56:=by kernel_rfl
theorem JCl {s:ByteArray} {l:List Rul} {n:Rul} {st st' nm:Nat} {G1 G2:List Grp} (hnd:((G1++(s,l,st)::G2).map (·.2.2)).Nodup):
 (((G1++(s,l++ [n],st')::G2).map gP).map (fun p=> (p.1.2,p.2))).Perm ((((nm,st'),(l.length+1) * Tryz.prog.cellsOf 93)::JbQ st ((G1++(s,l,st)::G2).map gP)).map (fun p=> (p.1.2,p.2))):=by
 rw [Jkn hnd,gc_rul,List.map_append,List.map_cons,List.map_append,List.map_append,List.map_cons,List.map_cons,List.map_append]
 refine List.perm_middle.trans (.of_eq ?_)
 simp [gP]
theorem JkZ (r:Rul):(JaS r).cells.all Jcj=true:=rfl
theorem Jk0 {R l:List Rul} {m:Nat} {i j:Vl.Id} (hm:m≤l.length) (h:i.2=j.2):AVle (.os 4 (R.length+m) (JcO R.length (JbP R) (JbP l)) (some i)) (.os 4 (R++l.take m).length (JbP (R++l.take m)) (some j)):=by
 rw [List.length_append,List.length_take,Nat.min_eq_left hm]
 refine (AVle.os_fun (fun k hk=> ?_)).trans (AVle.os_nm h)
 unfold JcO
 by_cases hk2:k < R.length
 ·rw [show Nat.blt k R.length=true from Nat.ble_eq_true_of_le hk2];simp [JbP,List.getD,List.getElem?_append_left hk2]
 ·rw [show Nat.blt k R.length=false from by cases hb:Nat.blt k R.length with | false=> rfl | true=> exact absurd (Nat.le_of_ble_eq_true hb) Om];simp only [JbP,List.getD,cond_false];rw [List.getElem?_append_right Om,List.getElem?_take,if_pos Om]
theorem Jgx {a b c d:List Rul} (h:a=b) (k:c=d):a++c=b++d:=by rw [h,k]
theorem JdV {a b:AV} {K:AV→Prop} (h:a=b) (hk:Jdi b K):Jdi a K:=h ▸ hk
theorem Jqb (p:Pol) (hp:p.ok):Tells Tryz.prog 19 [JcT p] (Jqx p):=by
 have hr:=Jln p hp
 cases hb:Ja8 p with
 | false=>
   rw [hb] at hr;unfold Jqx;rw [hb,if_neg Dc];refine Jc Tryz.func19 rfl rfl fun nx=> ?_;refine Z ?_;refine Ja rfl rfl hr Y1 fun nx2=> ?_;refine Z ?_;exact Jk rfl ⟨rfl,Tt⟩ (AVle.tups (cs:= [_,_]) ⟨AVle.ags (cs:= [_,_,_,_]) ⟨Rf,Rf,Rf,AVle.os_sl0,Tt⟩,Y1⟩)
 | true=>
   rw [hb] at hr;obtain ⟨hl,hc6⟩:=JcV hb;unfold Jqx;rw [hb,if_pos rfl];refine Jc Tryz.func19 rfl rfl fun nx=> ?_;refine Z ?_;refine Ja rfl rfl hr Y1 fun nx2=> ?_;refine Z ?_;refine Js (fun y:Nat×List Grp×Nat=> mk 94 [(1, .bp (0,nx) 0),(2, .bp (1,nx+1) 0),(4, .om (2,nx2)),(19,Jak p.rules),(20,int p.rules.length),(21,int y.1)] ⟨[((2,nx2), .mp (y.2.1.map gE)),((1,nx+1), .c Jfe),((0,nx), .c (JgI p))],y.2.1.map gP,y.2.2,3⟩)
    (fun y=> y.1≤p.rules.length∧Jc6 y.2.1=Jal (p.rules.take y.1)∧y.2.1.length≤y.1∧∀g∈y.2.1,g.2.1.length≤y.1∧∀r∈g.2.1,r.conds.length≤6) (fun y=> p.rules.length - y.1) ?_ ?_
   ·exact ⟨(0, [],nx2+1),⟨Nat.zero_le _,rfl,Nat.le_refl _,by simp⟩,Et rfl rfl Bf Tt Y6⟩
   ·rintro ⟨i,G,nx3⟩ ⟨h1,h2,h3,h4⟩;dsimp only at h1 h2 h3 h4;refine Z ?_;intro c g;cases c
    ·have g:=Jw g;try dsimp only at g
     have hi:i=p.rules.length:=(by omega);subst hi;rw [List.take_length] at h2;refine Jy ?_;refine AW.le (E':=mk 94 [(1, .bp (0,nx) 0),(2, .bp (1,nx+1) 0),(4, .om (2,nx2))] ⟨[((2,nx2), .mp (G.map gF)),((1,nx+1), .c Jfe),((0,nx), .c (JgI p))], [],nx3,3⟩) (Je _ [] rfl rfl Sf (List.nil_sublist _) ⟨rfl,Jyb G,Bf⟩ Tt Y3) ?_;refine Jbl (n:=94) (nx:=nx3) (nn:=3) (pm:= []) (bx:= [((1,nx+1), .c Jfe),((0,nx), .c (JgI p))]) (L:= [(1, .bp (0,nx) 0),(2, .bp (1,nx+1) 0),(4, .fm (G.map gF))]) (df:=some []) [((2,nx2), .mp (G.map gF))] rfl rfl rfl (.refl _) Sf ⟨Frz.refl _,Frz.refl _,Frz.om (.head _),Tt⟩ ?_;have hzs:(G.map gF).map (·.1)=(G.map fun g:Grp=> g.1.data.toList).map encStr:=by
      rw [List.map_map,List.map_map];rfl
     have hsort:=Jp9 (G.map gF) (G.map fun g:Grp=> g.1.data.toList) hzs (by rw [List.length_map];omega);have hkeys:JdR (Jal p.rules)=J0 Go.Sort.ltStr (G.map fun g:Grp=> g.1.data.toList):=by
      rw [← h2];unfold JdR Jc6;rw [List.map_map];rfl
     have hNl:(J0 Go.Sort.ltStr (G.map fun g:Grp=> g.1.data.toList)).length≤500:=(by rw [JaZ,List.length_map];omega);have hNm:∀z,z∈J0 Go.Sort.ltStr (G.map fun g:Grp=> g.1.data.toList)→∃g∈G,g.1.data.toList=z:=fun z hz=> by
      rw [Jjc] at hz;obtain ⟨g,hg,h⟩:=List.mem_map.1 hz;exact ⟨g,hg,h⟩
     unfold Jh;rw [hkeys,← h2];generalize J0 Go.Sort.ltStr (G.map fun g:Grp=> g.1.data.toList)=N at hsort hNl hNm⊢;refine Z ?_;intro c hc;subst hc;refine Z ?_;refine Ja rfl rfl (Jng (G.map gF)) Y1 fun nx4=> ?_;refine Z ?_;refine Ja rfl rfl hsort Y1 fun nx5=> ?_;refine Z ?_;refine Js (fun y:Nat×List Rul×Option Nat×Nat=> mk 94 [(1, .bp (0,nx) 0),(2, .bp (1,nx+1) 0),(4, .fm (G.map gF)),(9, .bp (3,nx3) 0),(58,JK 1 JdA [] N),(59,int N.length),(60,int y.1)] ⟨[((3,nx3), .c [int p.dflt.1,int p.dflt.2,Ji p.x32, .os 4 y.2.1.length (JbP y.2.1) (nmd y.2.2.1)]),((1,nx+1), .c Jfe),((0,nx), .c (JgI p))],Jam (nmd y.2.2.1) (y.2.1.length * 4),y.2.2.2,4⟩)
      (fun y=> y.1≤N.length∧(y.2.2.1=none→y.2.1= [])∧y.2.1=JgH p.dflt (Jc6 G) (N.take y.1)∧y.2.1.length≤y.1 * 500) (fun y=> N.length - y.1) ?_ ?_
     ·exact ⟨(0, [],none,nx5),⟨Nat.zero_le _,fun _=> rfl,rfl,Nat.zero_le _⟩,Et (pm:= []) (bx:= [((3,nx3), .c [int p.dflt.1,int p.dflt.2,Ji p.x32, .os 4 0 (JbP []) none]),((1,nx+1), .c Jfe),((0,nx), .c (JgI p))]) rfl rfl ⟨rfl,⟨Rf,Rf,Rf,AVle.os_nil,Tt⟩,Bf⟩ Tt Y7⟩
     ·rintro ⟨j,R,oi,nx6⟩ ⟨k1,k2,k3,k4⟩;dsimp only at k1 k2 k3 k4;refine Z ?_;intro c gg;cases c
      ·have gg:=Jw gg;try dsimp only at gg
       have hj:j=N.length:=(by omega);subst hj;rw [List.take_length] at k3;rw [← k3];refine Z ?_;exact Jk rfl ⟨rfl,Tt⟩ (AVle.tups (cs:= [_,_]) ⟨AVle.ags (cs:= [_,_,_,_]) ⟨Rf,Rf,Rf,AVle.os_sl,Tt⟩,Y1⟩)
      ·have gg:=Ju gg;try dsimp only at gg
       have hj:j < N.length:=(by omega);have hNj:N.getD j []∈N:=(by simp [List.getD,hj]);rcases Jkm ⟨(N.getD j []).toArray⟩ G with hno | ⟨G1,l,st,G2,hG,hno⟩
       ·exfalso
        obtain ⟨g,hg,hge⟩:=hNm _ hNj;have:=hno g hg;rw [Bool.eq_false_iff] at this;exact this (JcZ.2 (by rw [← hge]))
       have hlk:=Jl7 (e:=gF) (fun _=> rfl) (l:=l) (st:=st) (G2:=G2) hno;have hgl:=(h4 (⟨(N.getD j []).toArray⟩,l,st) (by rw [hG];simp)).1;dsimp only at hgl;have hgg:Jbm (Jc6 G) ⟨(N.getD j []).toArray⟩=l:=(by rw [hG];exact Jof hno);have hout:JgH p.dflt (Jc6 G) (N.take (j+1))=JgH p.dflt (Jc6 G) (N.take j)++Jdr p.dflt l:=by
        unfold JgH;rw [JaP [] hj,List.flatMap_append];simp only [List.flatMap_cons,List.flatMap_nil,List.append_nil];rw [hgg]
       rw [← hG] at hlk;refine Z ?_;refine ⟨Bd, ?_⟩;refine JaR ?_;refine ⟨JDF G,Jj (b:=Jak l) (congrArg (fun o:Option AV=> o.getD (.os 0 0 (fun _=> .any) none)) hlk) ?_⟩;refine JaR ?_;refine Js (fun y:Nat×Nat=> mk 94 [(1, .bp (0,nx) 0),(2, .bp (1,nx+1) 0),(4, .fm (G.map gF)),(9, .bp (3,nx3) 0),(58,JK 1 JdA [] N),(59,int N.length),(60,int j),(12, .sl 4 y.1 (JbP l))] ⟨[((3,nx3), .c [int p.dflt.1,int p.dflt.2,Ji p.x32, .os 4 R.length (JbP R) (nmd oi)]),((1,nx+1), .c Jfe),((0,nx), .c (JgI p))],Jam (nmd oi) (R.length * 4),nx6,4⟩)
        (fun y=> y.1≤l.length∧Jdr p.dflt l=Jdr p.dflt (l.take y.1)) (fun y=> y.1) ?_ ?_
       ·exact ⟨(l.length,0),⟨Nat.le_refl _,by rw [List.take_length]⟩,Et rfl rfl Bf Pf Y8⟩
       ·rintro ⟨m,zz⟩ ⟨hml,hcut⟩;dsimp only at hml hcut;have hlm:(l.take m).length=m:=(by rw [List.length_take];omega);by_cases hm0:0 < m
        ·have hd:decide ((m:Int) > 0)=true:=decide_eq_true Om;have hm1:IntKind.i64.wrap ((m:Int) - 1)=((m - 1:Nat):Int):=(by rw [Jq Om Om];omega);rw [Jpm hm0 hml,Jpl] at hcut;refine Z ?_
         (refine JJ 15 Kr Kr Kr ?_)
         refine Z ?_
         (conv=> whnf)
         refine JaU hd ?_;refine Z ?_;refine ⟨⟨JG (i:=m - 1) hm1,JH (i:=m - 1) hm1 Om⟩,Jj (b:= .rp (JaS (l.getD (m - 1) Jn)).cells) (congrArg (fun z:Int=> AV.rp (JbP l z.toNat).cells) hm1) ?_⟩;refine Z ?_;intro c hc;have hc2:c=decide ((l.getD (m - 1) Jn).act=p.dflt):=hc.trans JBZ;clear hc;cases c
         ·have hne:¬(l.getD (m - 1) Jn).act=p.dflt:=of_decide_eq_false hc2.symm;rw [if_neg hne,← Jpm hm0 hml] at hcut;have hct:=hcut;clear hc2;refine Jy ?_;refine JF (Ef [0]) 4 ?_;refine Z ?_;rcases oi with _ | o1
          ·obtain rfl:=k2 rfl;refine AOp.any (JbF (e:=93) (n:=0) (oi:=none) (sz:=4) (f:=JbP []) (m:=m) (szx:=4) (f':=JbP l) rfl rfl (.inl rfl) Tryz.underlying45 JiC (.inl ⟨rfl,rfl⟩) (.inr gc_rul.symm) (fun i h=> by cases h) (fun k _=> JkZ _) (fun _=> by rw [JiD];omega) (fun _=> by omega) (fun hm=> ?_) (fun hm=> ?_))
           ·subst hm;refine Z ?_;exact back (j+1, [],none,nx6) ⟨hj,fun _=> rfl,by rw [hout];exact (List.append_nil _).symm.trans (Jgx k3 hct.symm),Dm⟩ Dm (Et rfl rfl Bf Tt ⟨Rf,Rf,Rf,Rf,Rf,Rf,Lw,Tt⟩)
           ·refine Z ?_;exact back (j+1,l.take m,some nx6,nx6+1) ⟨hj,(fun h=> by cases h),by rw [hout];exact Jgx k3 hct.symm,by dsimp only;rw [hlm];omega⟩ Dm (Et (pm:= [((0,nx6),(l.take m).length * 4)]) (bx:= [((3,nx3), .c [int p.dflt.1,int p.dflt.2,Ji p.x32, .os 4 (l.take m).length (JbP (l.take m)) (some (0,nx6))]),((1,nx+1), .c Jfe),((0,nx), .c (JgI p))]) rfl rfl ⟨rfl,⟨Rf,Rf,Rf,Jk0 (R:= []) hml rfl,Tt⟩,Bf⟩ ⟨rfl,show (0+m) * Tryz.prog.cellsOf 93=(l.take m).length * 4 by rw [hlm,gc_rul,Nat.zero_add],Tt⟩ ⟨Rf,Rf,Rf,Rf,Rf,Rf,Lw,Tt⟩)
          ·refine AOp.any (JbF (e:=93) (n:=R.length) (oi:=some (0,o1)) (sz:=4) (f:=JbP R) (m:=m) (szx:=4) (f':=JbP l) rfl rfl (.inl rfl) Tryz.underlying45 JiC (.inr gc_rul.symm) (.inr gc_rul.symm) (fun i h=> by cases h;rw [gc_rul];rfl) (fun k _=> JkZ _) (fun _=> by rw [JiD];omega) (fun _=> by omega) (fun hm=> ?_) (fun hm=> ?_))
           ·subst hm;refine Z ?_;exact back (j+1,R,some o1,nx6) ⟨hj,(fun h=> by cases h),by rw [hout];exact (List.append_nil _).symm.trans (Jgx k3 hct.symm),Dm⟩ Dm (Et rfl rfl Bf Pf ⟨Rf,Rf,Rf,Rf,Rf,Rf,Lw,Tt⟩)
           ·refine Z ?_;exact back (j+1,R++l.take m,some nx6,nx6+1) ⟨hj,(fun h=> by cases h),by rw [hout];exact Jgx k3 hct.symm,by dsimp only;rw [List.length_append,hlm];omega⟩ Dm (Et (pm:= [((0,nx6),(R++l.take m).length * 4)]) (bx:= [((3,nx3), .c [int p.dflt.1,int p.dflt.2,Ji p.x32, .os 4 (R++l.take m).length (JbP (R++l.take m)) (some (0,nx6))]),((1,nx+1), .c Jfe),((0,nx), .c (JgI p))]) rfl rfl ⟨rfl,⟨Rf,Rf,Rf,Jk0 hml rfl,Tt⟩,Bf⟩ ⟨rfl,by rw [List.length_append,hlm,gc_rul],Tt⟩ ⟨Rf,Rf,Rf,Rf,Rf,Rf,Lw,Tt⟩)
         ·have heq:(l.getD (m - 1) Jn).act=p.dflt:=of_decide_eq_true hc2.symm;rw [if_pos heq] at hcut;clear hc2;refine Z ?_;refine ⟨⟨JG (i:=m - 1) hm1,Int.le_of_lt (JH (i:=m - 1) hm1 Om)⟩, ?_⟩;refine Z ?_;exact back (m - 1,0) ⟨Dm,hcut⟩ Dm (Et rfl rfl Bf Pf ⟨Rf,Rf,Rf,Rf,Rf,Rf,Rf,AVle.of_eq (congrArg (fun z:Int=> AV.sl 4 z.toNat (JbP l)) hm1),Tt⟩)
        ·have hd:decide ((m:Int) > 0)=false:=decide_eq_false Om;have hm00:m=0:=(by omega);have hct:Jdr p.dflt l=l.take m:=(by rw [hcut,hm00];rfl);refine Z ?_
         (refine JJ 15 Kr Kr Kr ?_)
         refine Z ?_
         (conv=> whnf)
         refine JaU hd ?_;refine Jy ?_;refine JF (Ef [0]) 4 ?_;refine Z ?_;rcases oi with _ | o1
         ·obtain rfl:=k2 rfl;refine AOp.any (JbF (e:=93) (n:=0) (oi:=none) (sz:=4) (f:=JbP []) (m:=m) (szx:=4) (f':=JbP l) rfl rfl (.inl rfl) Tryz.underlying45 JiC (.inl ⟨rfl,rfl⟩) (.inr gc_rul.symm) (fun i h=> by cases h) (fun k _=> JkZ _) (fun _=> by rw [JiD];omega) (fun _=> by omega) (fun hm=> ?_) (fun hm=> ?_))
          ·subst hm;refine Z ?_;exact back (j+1, [],none,nx6) ⟨hj,fun _=> rfl,by rw [hout];exact (List.append_nil _).symm.trans (Jgx k3 hct.symm),Dm⟩ Dm (Et rfl rfl Bf Tt ⟨Rf,Rf,Rf,Rf,Rf,Rf,Lw,Tt⟩)
          ·refine Z ?_;exact back (j+1,l.take m,some nx6,nx6+1) ⟨hj,(fun h=> by cases h),by rw [hout];exact Jgx k3 hct.symm,by dsimp only;rw [hlm];omega⟩ Dm (Et (pm:= [((0,nx6),(l.take m).length * 4)]) (bx:= [((3,nx3), .c [int p.dflt.1,int p.dflt.2,Ji p.x32, .os 4 (l.take m).length (JbP (l.take m)) (some (0,nx6))]),((1,nx+1), .c Jfe),((0,nx), .c (JgI p))]) rfl rfl ⟨rfl,⟨Rf,Rf,Rf,Jk0 (R:= []) hml rfl,Tt⟩,Bf⟩ ⟨rfl,show (0+m) * Tryz.prog.cellsOf 93=(l.take m).length * 4 by rw [hlm,gc_rul,Nat.zero_add],Tt⟩ ⟨Rf,Rf,Rf,Rf,Rf,Rf,Lw,Tt⟩)
         ·refine AOp.any (JbF (e:=93) (n:=R.length) (oi:=some (0,o1)) (sz:=4) (f:=JbP R) (m:=m) (szx:=4) (f':=JbP l) rfl rfl (.inl rfl) Tryz.underlying45 JiC (.inr gc_rul.symm) (.inr gc_rul.symm) (fun i h=> by cases h;rw [gc_rul];rfl) (fun k _=> JkZ _) (fun _=> by rw [JiD];omega) (fun _=> by omega) (fun hm=> ?_) (fun hm=> ?_))
          ·subst hm;refine Z ?_;exact back (j+1,R,some o1,nx6) ⟨hj,(fun h=> by cases h),by rw [hout];exact (List.append_nil _).symm.trans (Jgx k3 hct.symm),Dm⟩ Dm (Et rfl rfl Bf Pf ⟨Rf,Rf,Rf,Rf,Rf,Rf,Lw,Tt⟩)
          ·refine Z ?_;exact back (j+1,R++l.take m,some nx6,nx6+1) ⟨hj,(fun h=> by cases h),by rw [hout];exact Jgx k3 hct.symm,by dsimp only;rw [List.length_append,hlm];omega⟩ Dm (Et (pm:= [((0,nx6),(R++l.take m).length * 4)]) (bx:= [((3,nx3), .c [int p.dflt.1,int p.dflt.2,Ji p.x32, .os 4 (R++l.take m).length (JbP (R++l.take m)) (some (0,nx6))]),((1,nx+1), .c Jfe),((0,nx), .c (JgI p))]) rfl rfl ⟨rfl,⟨Rf,Rf,Rf,Jk0 hml rfl,Tt⟩,Bf⟩ ⟨rfl,by rw [List.length_append,hlm,gc_rul],Tt⟩ ⟨Rf,Rf,Rf,Rf,Rf,Rf,Lw,Tt⟩)
    ·have g:=Ju g;try dsimp only at g
     have hi:i < p.rules.length:=(by omega);have hmem:p.rules.getD i Jn∈p.rules:=(by simp [List.getD,hi]);have hrs:=JtO (p.rules.getD i Jn) (hp.2 _ hmem).2.2 (by have:=hc6 _ hmem;omega);have hgn:=Jqa hi;have hnl:=hc6 _ hmem;rw [← h2] at hgn;refine JAs fun hnd=> ?_;have hnd:(G.map (·.2.2)).Nodup:=by
      have:((G.map gP).map (·.1.2)).Nodup:=hnd
      rwa [List.map_map] at this
     refine Z ?_;refine ⟨Bd, ?_⟩;refine Z ?_;cases hN:JaW (p.rules.getD i Jn) with
     | none=>
       rw [hN] at hrs;have hgn:Jal (p.rules.take (i+1))=Jc6 G:=(by rw [hgn];unfold Jd4;rw [hN]);refine Ja rfl rfl hrs Y1 fun nx4=> ?_;refine Z ?_;exact back (i+1,G,nx4+1) ⟨hi,hgn.symm,Dm,fun g hg=> ⟨by have:=(h4 g hg).1;dsimp only;omega,(h4 g hg).2⟩⟩ Dm (Je _ _ rfl rfl (.cons _ (.cons _ Sf)) Sf Bf Pf ⟨Rf,Rf,Rf,Rf,Rf,Lw,Tt⟩)
     | some n=>
       rw [hN] at hrs;obtain ⟨hn1,hn2,hn3⟩:=Jcg hN;rcases Jkm (p.rules.getD i Jn).name G with hno | ⟨G1,l,st,G2,hG,hno⟩
       ·have hgn:Jal (p.rules.take (i+1))=Jek (Jc6 G) (p.rules.getD i Jn).name n:=by
         rw [hgn];unfold Jd4;rw [hN];dsimp only;rw [Jpi hno];rfl
        have hlk:=Jnj (e:=gE) (fun _=> rfl) hno;have hhd:=Jls [] n Dc Si;refine Ja rfl rfl hrs Y1 fun nx4=> ?_;refine JaR ?_;refine ⟨⟨rfl,JiB G⟩,Jj (b:= .os 0 0 (fun _=> .any) none) (congrArg (fun o:Option AV=> o.getD (.os 0 0 (fun _=> .any) none)) hlk) ?_⟩;refine JaR ?_;refine Jj (b:=JaS n) rfl ?_;refine JaR ?_;refine Ja rfl rfl hhd ⟨AVle.os_sl0,Y1⟩ fun nx5=> ?_;intro c hc;have hc2:c=false:=hc;clear hc;subst hc2;refine JaR ?_;refine Jav 10 _ (Ef [9]) (Ef [6]) [0,1,2,3,4,5,6,7,8,9] Kr Kr (HB.refl _) ?_;refine JaR ?_;refine ⟨Jge (Jbf (.string (p.rules.getD i Jn).name) (G.map gE)) (.os 0 0 (fun _=> .any) none) false,JiY rfl (C:=some (nx2=nx2∧Ja9 .string (G.map gE)=true)) rfl ⟨rfl,JiB G⟩,JdV (b:= .os 0 0 (fun _=> .any) none) (congrArg (fun o:Option AV=> o.getD (.os 0 0 (fun _=> .any) none)) hlk) ?_⟩;refine JaR ?_;refine JdV (b:=JaS n) rfl ?_;refine JaR ?_;refine ⟨_,JiX (e:=93) (n:=0) (oi:=none) (sz:=0) (f:=fun _=> .any) (m:=1) (szx:=4) (HB.refl _) rfl rfl rfl (.inr ⟨_,rfl⟩) Tryz.underlying45 JiC (.inl ⟨rfl,rfl⟩) (.inr gc_rul.symm) (fun i h=> by cases h) (JM rfl) (fun _=> by rw [JiD];omega) (fun _=> by omega),fun r h' hr=> ?_⟩;rcases hr with ⟨hr,-⟩ | ⟨-,rfl,rfl⟩
        ·exact absurd hr Dc
        refine JaR ?_;refine ⟨⟨rfl,JiB G⟩, ?_⟩;refine JaR ?_;refine JcQ ?_;refine JaR ?_;exact back (i+1,G++ [((p.rules.getD i Jn).name, [n],nx5)],nx5+1) ⟨hi,(hgn.trans (Jpj hno)).symm,by simp;omega,fun g hg=> by
         rcases List.mem_append.1 hg with hg | hg
         ·exact ⟨by have:=(h4 g hg).1;dsimp only;omega,(h4 g hg).2⟩
         ·rw [List.mem_singleton.1 hg];exact ⟨by simp, fun r hr => by rw [List.mem_singleton.1 hr]; omega⟩⟩ Dm (Jpk (bx := [((2, nx2), .mp ((G ++ [((p.rules.getD i Jn).name, [n], nx5)]).map gE)), ((1, nx + 1), .c Jfe), ((0, nx), .c (JgI p))]) _ rfl rfl (.cons _ (.cons _ Sf)) rfl (by rw [List.map_append]; exact (List.perm_append_singleton _ _).map _ |>.trans (.of_eq (by rw [gc_rul]; rfl))) ⟨rfl, JCk hno (JuQ (L := [])), Bf⟩ ⟨Rf, Rf, Rf, Rf, Rf, Lw, Tt⟩)
       ·subst hG;have hlk:=Jl7 (e:=gE) (fun _=> rfl) (l:=l) (st:=st) (G2:=G2) hno;have hgl:=h4 ((p.rules.getD i Jn).name,l,st) Si;dsimp only at hgl;have hhd:=Jls l n Om (fun r hr=> by have:=hgl.2 r hr;omega);have hgg:Jbm (Jc6 (G1++((p.rules.getD i Jn).name,l,st)::G2)) (p.rules.getD i Jn).name=l:=Jof hno;unfold Jd4 at hgn;rw [hN] at hgn;dsimp only at hgn;rw [hgg] at hgn;refine Ja rfl rfl hrs Y1 fun nx4=> ?_;refine JaR ?_;refine ⟨⟨rfl,JiB _⟩,Jj (b:= .os 4 l.length (JbP l) (some (st,st))) (congrArg (fun o:Option AV=> o.getD (.os 0 0 (fun _=> .any) none)) hlk) ?_⟩;refine JaR ?_;refine Jj (b:=JaS n) rfl ?_;refine JaR ?_;refine Ja rfl rfl hhd ⟨AVle.os_sl,Y1⟩ fun nx5=> ?_;intro c hh;cases c
        ·have hh:Jea l n=false:=hh.symm;rw [hh,if_neg Dc] at hgn;refine JaR ?_;refine Jav 10 _ (Ef [9]) (Ef [6]) [0,1,2,3,4,5,6,7,8,9] Kr Kr (HB.refl _) ?_;refine JaR ?_;refine ⟨Jge (Jbf (.string (p.rules.getD i Jn).name) ((G1++((p.rules.getD i Jn).name,l,st)::G2).map gE)) (.os 0 0 (fun _=> .any) none) false,JiY rfl (C:=some (nx2=nx2∧Ja9 .string ((G1++((p.rules.getD i Jn).name,l,st)::G2).map gE)=true)) rfl ⟨rfl,JiB _⟩,JdV (b:= .os 4 l.length (JbP l) (some (st,st))) (congrArg (fun o:Option AV=> o.getD (.os 0 0 (fun _=> .any) none)) hlk) ?_⟩;refine JaR ?_;refine JdV (b:=JaS n) rfl ?_;refine JaR ?_;refine ⟨_,JiX (e:=93) (n:=l.length) (oi:=some (st,st)) (sz:=4) (f:=JbP l) (m:=1) (szx:=4) (HB.refl _) rfl rfl rfl (.inr ⟨_,rfl⟩) Tryz.underlying45 JiC (.inr gc_rul.symm) (.inr gc_rul.symm) (fun i h=> by cases h;rw [gc_rul];exact Jnk hnd) (JM rfl) (fun _=> by rw [JiD];omega) (fun _=> by omega),fun r h' hr=> ?_⟩;rcases hr with ⟨hr,-⟩ | ⟨-,rfl,rfl⟩
         ·exact absurd hr Dc
         refine JaR ?_;refine ⟨⟨rfl,JiB _⟩, ?_⟩;refine JaR ?_;refine JcQ ?_;refine JaR ?_;exact back (i+1,G1++((p.rules.getD i Jn).name,l++ [n],nx5)::G2,nx5+1) ⟨hi,(hgn.trans (JuP hno)).symm,by simp at h3⊢;omega,fun g hg=> by
          rcases List.mem_append.1 hg with hg | hg
          ·have:=h4 g (List.mem_append_left _ hg);exact ⟨by have:=this.1;dsimp only;omega,this.2⟩
          ·rcases List.mem_cons.1 hg with rfl | hg
           ·exact ⟨by simp;omega,fun r hr=> by
             rcases List.mem_append.1 hr with hr | hr
             ·exact hgl.2 r hr
             ·rw [List.mem_singleton.1 hr];omega⟩
           ·have:=h4 g (List.mem_append_right _ (.tail _ hg));exact ⟨by have:=this.1;dsimp only;omega,this.2⟩⟩ Dm (Jpk (bx:= [((2,nx2), .mp ((G1++((p.rules.getD i Jn).name,l++ [n],nx5)::G2).map gE)),((1,nx+1), .c Jfe),((0,nx), .c (JgI p))]) _ rfl rfl (.cons _ (.cons _ Sf)) rfl (JCl hnd) ⟨rfl,JEu hno JuQ,Bf⟩ ⟨Rf,Rf,Rf,Rf,Rf,Lw,Tt⟩)
        ·have hh:Jea l n=true:=hh.symm;rw [hh,if_pos rfl] at hgn;refine JaR ?_;exact back (i+1,G1++((p.rules.getD i Jn).name,l,st)::G2,nx5) ⟨hi,hgn.symm,Dm,fun g hg=> ⟨by have:=(h4 g hg).1;dsimp only;omega,(h4 g hg).2⟩⟩ Dm (Je _ _ rfl rfl (.cons _ (.cons _ Sf)) Sf Bf Pf ⟨Rf,Rf,Rf,Rf,Rf,Lw,Tt⟩)
theorem Jlt (c:Cnd):(J5 c).2=0∨(J5 c).2=1∨(J5 c).2=2:=by
 unfold J5 Jbb Ja5 JbR Jd1 isC asC
 repeat' split
 all_goals simp
theorem JAt {c:Cnd} (ho:c.ok):(J5 c).1.ok:=by
 obtain ⟨o1,o2⟩:=ho
 unfold J5 Jbb Ja5 JbR Jd1 isC asC cnd0 Cnd.ok
 repeat' split
 all_goals (refine ⟨?_, ?_⟩ <;> dsimp only <;> omega)
theorem Jpn {α:Type} {R:α→α→Prop} (hi:∀x,¬R x x) (ht:∀x y z,R x y→R y z→R x z):∀ {l l':List α},l.Pairwise R→l'.Pairwise R→(∀x,x∈l↔x∈l')→l=l'
 | [], [],_,_,_=> rfl
 | [],y::l',_,_,h=> absurd ((h y).2 (.head _)) Si
 | x::l, [],_,_,h=> absurd ((h x).1 (.head _)) Si
 | x::l,y::l',h1,h2,h=> by
   rw [List.pairwise_cons] at h1 h2;have hxy:x=y:=by
    rcases List.mem_cons.1 ((h x).1 (.head _)) with e | e
    ·exact e
    ·rcases List.mem_cons.1 ((h y).2 (.head _)) with e' | e'
     ·exact e'.symm
     ·exact absurd (ht _ _ _ (h1.1 _ e') (h2.1 _ e)) (hi x)
   subst hxy;have hnx:∀ {m:List α},(∀z∈m,R x z)→x∉m:=fun hm hx=> hi x (hm x hx);rw [Jpn hi ht h1.2 h2.2 fun z=> ?_]
   constructor
   ·intro hz;rcases List.mem_cons.1 ((h z).1 (.tail _ hz)) with e | e
    ·subst e;exact absurd hz (hnx h1.1)
    ·exact e
   ·intro hz;rcases List.mem_cons.1 ((h z).2 (.tail _ hz)) with e | e
    ·subst e;exact absurd hz (hnx h2.1)
    ·exact e
def RC (a b:Cnd):Prop:=ltC a b=true
theorem JDG (x:Cnd):¬RC x x:=by unfold RC;rw [swo_ltC.irrefl];decide
theorem JEv (x y z:Cnd) (h:RC x y) (k:RC y z):RC x z:=swo_ltC.trans x y z h k
theorem JuR {d:Array Cnd}:∀ {m:Nat},m≤d.size→(∀i j,i < j→j < m→ltC d[j]! d[i]! =false)→(cU d m).Pairwise RC∧∀x,x∈cU d m↔∃j,j < m∧d[j]! =x
 | 0,_,_=> ⟨List.Pairwise.nil,fun x=> by simp [cU]⟩
 | m+1,hm,hs=> by
   obtain ⟨h1,h2⟩:=JuR (m:=m) Om fun i j a b=> hs i j a Om;by_cases hc:m=0∨d[m]! ≠d[m - 1]!
   ·rw [cU,if_pos hc];refine ⟨?_,fun x=> ?_⟩
    ·rw [List.pairwise_append];refine ⟨h1,List.pairwise_singleton _ _,fun a ha b hb=> ?_⟩;rw [List.mem_singleton] at hb;subst hb;obtain ⟨j,hj,rfl⟩:=(h2 a).1 ha;cases hlt:ltC d[j]! d[m]! with
     | true=> exact hlt
     | false=>
       exfalso
       have h3:=hs (m - 1) m Om Om;have h4:ltC d[m - 1]! d[m]! =false:=by
        rcases Nat.lt_or_ge j (m - 1) with q | q
        ·exact swo_ltC.ntrans _ _ _ (hs j (m - 1) q Om) hlt
        ·rw [show m - 1=j by omega];exact hlt
       rcases hc with hc | hc
       ·omega
       ·exact hc (JCi h3 h4)
    ·rw [List.mem_append,h2,List.mem_singleton]
     constructor
     ·rintro (⟨j,hj,rfl⟩ | rfl)
      ·exact ⟨j,Om,rfl⟩
      ·exact ⟨m,Om,rfl⟩
     ·rintro ⟨j,hj,rfl⟩;rcases Nat.lt_or_ge j m with q | q
      ·exact .inl ⟨j,q,rfl⟩
      ·exact .inr (by rw [show j=m by omega])
   ·rw [cU,if_neg hc];refine ⟨h1,fun x=> ?_⟩;rw [h2]
    constructor
    ·rintro ⟨j,hj,rfl⟩;exact ⟨j,Om,rfl⟩
    ·rintro ⟨j,hj,rfl⟩;rcases Nat.lt_or_ge j m with q | q
     ·exact ⟨j,q,rfl⟩
     ·have hj':j=m:=(by omega);subst hj';have:j≠0:=fun h=> hc (.inl h);exact ⟨j - 1,Om,by by_cases he:d[j]! =d[j - 1]!;exact he.symm;exact absurd (.inr he) hc⟩
theorem Jde (L:List Cnd):(Jej L).Pairwise RC∧∀x,x∈Jej L↔x∈L:=by
 have h:=Go.Sort.insertionSort_holds (lt:=ltC) swo_ltC L.toArray 0 L.length (Nat.zero_le _) Si
 have hsz:(Go.Sort.insertionSort ltC L.toArray 0 L.length).size=L.length:=by have:=h.1.1;simpa using this
 obtain ⟨h1,h2⟩:=JuR (d:=Go.Sort.insertionSort ltC L.toArray 0 L.length) (m:=L.length) Om fun i j a b=> h.2 i j (Nat.zero_le _) a b
 refine ⟨h1,fun x=> (h2 x).trans ?_⟩
 have hp:=h.1.2.2.mem_iff (a:=x)
 clear h h1 h2
 generalize Go.Sort.insertionSort ltC L.toArray 0 L.length=d at hsz hp⊢
 have e1:(d.extract 0 L.length).toList=d.toList:=by rw [← hsz];simp
 have e2:(L.toArray.extract 0 L.length).toList=L:=by simp
 rw [e1,e2] at hp
 rw [← hp,List.mem_iff_getElem]
 constructor
 ·rintro ⟨j,hj,rfl⟩;have hj':j < d.size:=by omega
  exact ⟨j,by simpa using hj',by simp [hj']⟩
 ·rintro ⟨j,hj,rfl⟩;have hj':j < d.size:=by simpa using hj
  exact ⟨j,Om,by simp [hj']⟩
theorem JCm {L L':List Cnd} (h:∀x,x∈L↔x∈L'):Jej L=Jej L':=
 Jpn JDG JEv (Jde L).1 (Jde L').1 fun x=> ((Jde L).2 x).trans ((h x).trans ((Jde L').2 x).symm)
theorem Jyc (L:List Cnd):Jej (Jej L)=Jej L:=JCm fun x=> (Jde L).2 x
theorem JeE {arg:Int} {op:Int} {v:Nat} (h0:0≤arg) (h5:arg≤5) (h1:1≤op) (h7:op≤7):JR ⟨arg,op,0,v⟩=true:=Jag.2 ⟨h0,h5,h1,h7, .inr rfl⟩
theorem Jog {arg:Int} {v:Nat} (h0:0≤arg) (h5:arg≤5):J5 ⟨arg,1,0,v⟩=(⟨arg,1,0,v⟩,0):=by
 unfold J5;rw [if_pos (JeE h0 h5 Dc Dc)];simp [Jbb]
theorem JCn {arg:Int} {v:Nat} (h0:0≤arg) (h5:arg≤5) (hv:¬v=0) (hv1:¬v=1):J5 ⟨arg,3,0,v⟩=(⟨arg,3,0,v⟩,0):=by
 unfold J5;rw [if_pos (JeE h0 h5 Dc Dc)];simp [Jbb,Ja5,hv,hv1,asC]
theorem JCo {arg:Int} {v:Nat} (h0:0≤arg) (h5:arg≤5) (hv:¬v=0) (hv1:¬v=18446744073709551615):J5 ⟨arg,6,0,v⟩=(⟨arg,6,0,v⟩,0):=by
 unfold J5;rw [if_pos (JeE h0 h5 Dc Dc)];simp [Jbb,JbR,hv,hv1,asC]
theorem Jlu {c:Cnd} {v:Nat} (h0:0≤c.arg) (h5:c.arg≤5) (h:(Ja5 c v).2=0):JR (Ja5 c v).1=true∧J5 (Ja5 c v).1=((Ja5 c v).1,0):=by
 unfold Ja5 at h⊢
 by_cases e0:v=0
 ·rw [if_pos e0] at h;simp [isC] at h
 ·rw [if_neg e0] at h⊢;by_cases e1:v=1
  ·rw [if_pos e1];exact ⟨JeE h0 h5 Dc Dc,Jog h0 h5⟩
  ·rw [if_neg e1];exact ⟨JeE h0 h5 Dc Dc,JCn h0 h5 e0 e1⟩
theorem Jnl {c:Cnd} {v:Nat} (h0:0≤c.arg) (h5:c.arg≤5) (h:(JbR c v).2=0):JR (JbR c v).1=true∧J5 (JbR c v).1=((JbR c v).1,0):=by
 unfold JbR at h⊢
 by_cases e0:v=0
 ·rw [if_pos e0] at h;simp [isC] at h
 ·rw [if_neg e0] at h⊢;by_cases e1:v=18446744073709551615
  ·rw [if_pos e1];exact ⟨JeE h0 h5 Dc Dc,Jog h0 h5⟩
  ·rw [if_neg e1];exact ⟨JeE h0 h5 Dc Dc,JCo h0 h5 e0 e1⟩
theorem JtQ {c:Cnd} (h:(J5 c).2=0):JR (J5 c).1=true∧J5 (J5 c).1=((J5 c).1,0):=by
 have hr:JR c=true:=by
  cases hr:JR c with
  | true=> rfl
  | false=>
    unfold J5 at h;rw [hr,if_neg Dc] at h;simp [isC] at h
 have hrc:=Jag.1 hr
 have e:J5 c=Jbb c:=if_pos hr
 by_cases e3:c.op=3
 ·have e2:Jbb c=Ja5 c c.value:=if_pos e3;rw [e,e2] at h⊢;exact Jlu hrc.1 hrc.2.1 h
 by_cases e6:c.op=6
 ·have e2:Jbb c=JbR c c.value:=by unfold Jbb;rw [if_neg e3,if_pos e6]
  rw [e,e2] at h⊢;exact Jnl hrc.1 hrc.2.1 h
 by_cases e7:c.op=7
 ·have e2:Jbb c=Jd1 c:=by unfold Jbb;rw [if_neg e3,if_neg e6,if_pos e7]
  rw [e,e2] at h⊢;unfold Jd1 at h⊢;by_cases b0:Jih c.value c.mask≠0
  ·rw [if_pos b0] at h;simp [isC] at h
  ·rw [if_neg b0] at h⊢;by_cases b1:c.mask=0
   ·rw [if_pos b1] at h;simp [isC] at h
   ·rw [if_neg b1] at h⊢;by_cases b2:c.mask=18446744073709551615
    ·rw [if_pos b2];exact ⟨JeE hrc.1 hrc.2.1 Dc Dc,Jog hrc.1 hrc.2.1⟩
    ·rw [if_neg b2];refine ⟨hr, ?_⟩;rw [e,e2];unfold Jd1;rw [if_neg b0,if_neg b1,if_neg b2]
 by_cases e4:c.op=4
 ·by_cases v:c.value=18446744073709551615
  ·have e2:Jbb c=isC true:=by unfold Jbb;rw [if_neg e3,if_neg e6,if_neg e7,if_pos e4,if_pos v]
   rw [e,e2] at h;simp [isC] at h
  ·have e2:Jbb c=Ja5 c (c.value+1):=by unfold Jbb;rw [if_neg e3,if_neg e6,if_neg e7,if_pos e4,if_neg v]
   rw [e,e2] at h⊢;exact Jlu hrc.1 hrc.2.1 h
 by_cases e5:c.op=5
 ·by_cases v:c.value=18446744073709551615
  ·have e2:Jbb c=isC false:=by unfold Jbb;rw [if_neg e3,if_neg e6,if_neg e7,if_neg e4,if_pos e5,if_pos v]
   rw [e,e2] at h;simp [isC] at h
  ·have e2:Jbb c=JbR c (c.value+1):=by unfold Jbb;rw [if_neg e3,if_neg e6,if_neg e7,if_neg e4,if_pos e5,if_neg v]
   rw [e,e2] at h⊢;exact Jnl hrc.1 hrc.2.1 h
 have e2:Jbb c=(c,0):=by unfold Jbb;rw [if_neg e3,if_neg e6,if_neg e7,if_neg e4,if_neg e5]
 rw [e,e2]
 exact ⟨hr,e.trans e2⟩
theorem Jwe {cs:List Cnd} {x:Cnd} (h:x∈Jcc cs):JR x=true∧JcC x=false∧Jjm x=some x:=by
 unfold Jcc at h
 obtain ⟨c,hc,hx⟩:=List.mem_filterMap.1 h
 unfold Jjm at hx
 split at hx
 ·rename_i h0
  cases hx;obtain ⟨h1,h2⟩:=JtQ h0;refine ⟨h1, ?_, ?_⟩
  ·unfold JcC;rw [h2];rfl
  ·unfold Jjm;rw [h2];rfl
 ·cases hx
theorem Jgm {r n:Rul} (h:JaW r=some n):JaW n=some n∧(JaJ r=true→JaJ n=true)∧((∀c∈r.conds,c.ok)→∀c∈n.conds,c.ok):=by
 have hc:=Jcg h
 unfold JaW at h
 split at h
 ·cases h
 ·cases h;have hm:∀x,x∈Jej (Jcc r.conds)→JR x=true∧JcC x=false∧Jjm x=some x:=fun x hx=> Jwe (((Jde _).2 x).1 hx);refine ⟨?_,fun hr=> ?_,fun ho x hx=> ?_⟩
  ·unfold JaW;dsimp only;have e1:(Jej (Jcc r.conds)).any JcC=false:=by
    rw [List.any_eq_false];intro x hx;rw [(hm x hx).2.1];decide
   have e2:Jcc (Jej (Jcc r.conds))=Jej (Jcc r.conds):=by
    generalize Jej (Jcc r.conds)=l at hm;unfold Jcc
    induction l with
    | nil=> rfl
    | cons x l ih=>
      rw [List.filterMap_cons,(hm x (.head _)).2.2];dsimp only;rw [ih fun y hy=> hm y (.tail _ hy)]
   rw [e1,e2,Jyc];rfl
  ·unfold JaJ at hr⊢;simp only [Bool.and_eq_true,decide_eq_true_eq] at hr⊢;refine ⟨hr.1,hr.2.1,Nat.le_trans hc.1 hr.2.2.1, ?_⟩;rw [Bool.not_eq_true',List.any_eq_false];intro x hx;rw [(hm x hx).1];decide
  ·have hx2:=((Jde _).2 x).1 hx;unfold Jcc at hx2;obtain ⟨c,hc,hy⟩:=List.mem_filterMap.1 hx2;unfold Jjm at hy;split at hy
   ·cases hy;exact JAt (ho c hc)
   ·cases hy
def JdS (l:List Rul) (r:Rul):List Rul:=
 match JaW r with
 | none=> l
 | some n=> if Jea l n then l else l++ [n]
def gOf (s:ByteArray) (rs:List Rul):List Rul:=rs.foldl (fun l r=> if Jae s r.name then JdS l r else l) []
theorem Jko (s:ByteArray):Jae s s=true:=JcZ.2 rfl
theorem Jkp {s t:ByteArray} {n:Rul}:∀ {H:List (ByteArray×List Rul)},Jbm (Jek H t n) s=if Jae s t then Jbm H s++ [n] else Jbm H s
 | []=> by
   show (if Jae s t=true then [n] else [])=_;by_cases h:Jae s t=true
   ·rw [if_pos h,if_pos h];rfl
   ·rw [if_neg h,if_neg h];rfl
 | h::H=> by
   unfold Jek;by_cases ht:Jae t h.1=true
   ·rw [if_pos ht];obtain rfl:=JcZ.1 ht;show (if Jae s h.1=true then _ else Jbm H s)=_;by_cases hs:Jae s h.1=true
    ·rw [if_pos hs,if_pos hs];show _=(if Jae s h.1=true then _ else _)++_;rw [if_pos hs]
    ·rw [if_neg hs,if_neg hs];show _=(if Jae s h.1=true then _ else _);rw [if_neg hs]
   ·rw [if_neg ht];show (if Jae s h.1=true then h.2 else Jbm (Jek H t n) s)=if Jae s t=true then (if Jae s h.1=true then h.2 else Jbm H s)++ [n] else (if Jae s h.1=true then h.2 else Jbm H s);by_cases hs:Jae s h.1=true
    ·rw [if_pos hs,if_pos hs];have:¬Jae s t=true:=fun k=> ht (by rw [← JcZ.1 k];exact hs);rw [if_neg this]
    ·rw [if_neg hs,if_neg hs,Jkp]
theorem Jwf {s:ByteArray} {H:List (ByteArray×List Rul)} {r:Rul}:Jbm (Jd4 H r) s=if Jae s r.name then JdS (Jbm H s) r else Jbm H s:=by
 unfold Jd4 JdS
 cases hN:JaW r with
 | none=> simp
 | some n=>
   dsimp only;by_cases hs:Jae s r.name=true
   ·obtain rfl:=JcZ.1 hs;rw [if_pos hs];by_cases hh:Jea (Jbm H r.name) n=true
    ·rw [if_pos hh,if_pos hh]
    ·rw [if_neg hh,if_neg hh,Jkp,if_pos hs]
   ·rw [if_neg hs];by_cases hh:Jea (Jbm H r.name) n=true
    ·rw [if_pos hh]
    ·rw [if_neg hh,Jkp,if_neg hs]
theorem Jpo {s:ByteArray}:∀(rs:List Rul) (H:List (ByteArray×List Rul)),Jbm (rs.foldl Jd4 H) s=rs.foldl (fun l r=> if Jae s r.name then JdS l r else l) (Jbm H s)
 | [],_=> rfl
 | r::rs,H=> by
   rw [List.foldl_cons,Jpo rs,List.foldl_cons,Jwf]
theorem Jgn (s:ByteArray) (rs:List Rul):Jbm (Jal rs) s=gOf s rs:=Jpo rs []
theorem Jpp {t:ByteArray} {n:Rul}:∀ {H:List (ByteArray×List Rul)} {s:ByteArray},s∈(Jek H t n).map (·.1)↔s=t∨s∈H.map (·.1)
 | [],s=> by simp [Jek]
 | h::H,s=> by
   unfold Jek;by_cases ht:Jae t h.1=true
   ·rw [if_pos ht];obtain rfl:=JcZ.1 ht;simp
   ·rw [if_neg ht,List.map_cons,List.mem_cons,Jpp,List.map_cons,List.mem_cons]
    constructor
    ·rintro (h | h | h)
     ·exact .inr (.inl h)
     ·exact .inl h
     ·exact .inr (.inr h)
    ·rintro (h | h | h)
     ·exact .inr (.inl h)
     ·exact .inl h
     ·exact .inr (.inr h)
theorem Jnm {t:ByteArray} {n:Rul}:∀ {H:List (ByteArray×List Rul)},(H.map (·.1)).Nodup→((Jek H t n).map (·.1)).Nodup
 | [],_=> by simp [Jek]
 | h::H,hn=> by
   unfold Jek;by_cases ht:Jae t h.1=true
   ·rw [if_pos ht];exact hn
   ·rw [if_neg ht];rw [List.map_cons,List.nodup_cons] at hn⊢;refine ⟨fun hm=> ?_,Jnm hn.2⟩;rcases Jpp.1 hm with e | e
    ·exact ht (by rw [← e];exact Jko _)
    ·exact hn.1 e
theorem JtR {H:List (ByteArray×List Rul)} {r:Rul} (h:(H.map (·.1)).Nodup):((Jd4 H r).map (·.1)).Nodup:=by
 unfold Jd4
 cases JaW r with
 | none=> exact h
 | some n=>
   dsimp only;split
   ·exact h
   ·exact Jnm h
theorem JhC (rs:List Rul):((Jal rs).map (·.1)).Nodup:=by
 have key:∀(rs:List Rul) (H:List (ByteArray×List Rul)),(H.map (·.1)).Nodup→((rs.foldl Jd4 H).map (·.1)).Nodup:=by
  intro rs
  induction rs with
  | nil=> intro H h;exact h
  | cons r rs ih=> intro H h;exact ih _ (JtR h)
 exact key rs [] List.nodup_nil
theorem JrY {s:ByteArray}:∀ {H:List (ByteArray×List Rul)},Jbm H s≠ []→s∈H.map (·.1)
 | [],h=> absurd rfl h
 | h::H,hne=> by
   by_cases hs:Jae s h.1=true
   ·rw [JcZ.1 hs];simp
   ·have:Jbm (h::H) s=Jbm H s:=if_neg hs;rw [this] at hne;exact List.mem_cons_of_mem _ (JrY hne)
def RS (a b:List UInt8):Prop:=Go.Sort.ltStr a b=true
theorem Jyd (x:List UInt8):¬RS x x:=by unfold RS;rw [Go.Sort.swo_ltStr.irrefl];decide
theorem JEw (x y z:List UInt8) (h:RS x y) (k:RS y z):RS x z:=Go.Sort.swo_ltStr.trans x y z h k
theorem Jl8 {s t:ByteArray} (h:s.data.toList=t.data.toList):s=t:=by
 obtain ⟨⟨a⟩⟩:=s;obtain ⟨⟨b⟩⟩:=t;simpa using h
theorem Jlv {H:List (ByteArray×List Rul)} (hn:(H.map (·.1)).Nodup):(JdR H).Pairwise RS:=by
 have h1:=Jgj Go.Sort.swo_ltStr (H.map fun h=> h.1.data.toList)
 have h2:(JdR H).Nodup:=by
  refine (List.mergeSort_perm _ _).nodup_iff.2 ?_;have:(H.map fun h=> h.1.data.toList)=(H.map (·.1)).map (fun s:ByteArray=> s.data.toList):=by rw [List.map_map];rfl
  rw [this];exact List.pairwise_map.2 (hn.imp fun h e=> h (Jl8 e))
 refine (h1.and h2).imp fun {a b} h=> ?_
 unfold RS
 cases hl:Go.Sort.ltStr a b with
 | true=> rfl
 | false=> exact absurd (Jkl _ _ hl h.1) h.2
theorem JtS {H:List (ByteArray×List Rul)} {s:ByteArray}:s.data.toList∈JdR H↔s∈H.map (·.1):=by
 unfold JdR
 rw [Jjc,List.mem_map,List.mem_map]
 constructor
 ·rintro ⟨h,hh,e⟩;exact ⟨h,hh,Jl8 e⟩
 ·rintro ⟨h,hh,e⟩;exact ⟨h,hh,by rw [e]⟩
theorem Jg1 (s:ByteArray) (rs:List Rul):gOf s rs=(rs.filter fun r=> Jae s r.name).foldl JdS []:=by
 unfold gOf
 have key:∀(rs:List Rul) (l:List Rul),rs.foldl (fun l r=> if Jae s r.name then JdS l r else l) l=(rs.filter fun r=> Jae s r.name).foldl JdS l:=by
  intro rs
  induction rs with
  | nil=> intro l;rfl
  | cons r rs ih=>
    intro l;rw [List.foldl_cons,ih,List.filter_cons];by_cases h:Jae s r.name=true
    ·rw [if_pos h,if_pos h];rfl
    ·rw [if_neg h,if_neg h]
 exact key rs []
theorem Jin (l:List Rul):l= []∨∃l' x,l=l'++ [x]:=by
 rcases List.eq_nil_or_concat l with h | ⟨l',x,h⟩
 ·exact .inl h
 ·exact .inr ⟨l',x,by rw [h,List.concat_eq_append]⟩
def JeY (l:List Rul):Prop:=∀a n b,l=a++n::b→JaW n=some n∧Jea a n=false
theorem JAu:JeY []:=fun a n b h=> by simp at h
theorem Jye {l:List Rul} {n:Rul} (h:JeY l) (h1:JaW n=some n) (h2:Jea l n=false):JeY (l++ [n]):=fun a m b he=> by
 rcases Jin b with rfl | ⟨b',x,rfl⟩
 ·have:=List.append_inj' he rfl;obtain ⟨rfl,hh⟩:=this;cases hh;exact ⟨h1,h2⟩
 ·rw [show a++m::(b'++ [x])=(a++m::b')++ [x] by simp] at he;have:=List.append_inj' he rfl;exact h a m b' this.1
theorem Jnn {l t:List Rul} (h:JeY (l++t)):JeY l:=fun a n b he=> h a n (b++t) (by rw [he];simp)
theorem Jyf {l:List Rul} {r:Rul} (h:JeY l):JeY (JdS l r):=by
 unfold JdS
 cases hN:JaW r with
 | none=> exact h
 | some n=>
   dsimp only;by_cases hh:Jea l n=true
   ·rw [if_pos hh];exact h
   ·rw [if_neg hh];exact Jye h (Jgm hN).1 (by simpa using hh)
theorem Jpq:∀(rs l:List Rul),JeY l→JeY (rs.foldl JdS l)
 | [],_,h=> h
 | r::rs,l,h=> Jpq rs _ (Jyf h)
theorem JAv (s:ByteArray) (rs:List Rul):JeY (gOf s rs):=by rw [Jg1];exact Jpq _ _ JAu
theorem Jyg {l:List Rul} (h:JeY l):l.foldl JdS []=l:=by
 have key:∀(k:Nat) (l:List Rul),l.length=k→JeY l→l.foldl JdS []=l:=by
  intro k
  induction k with
  | zero=> intro l hk _;rw [List.eq_nil_of_length_eq_zero hk];rfl
  | succ k ih=>
    intro l hk h;rcases Jin l with rfl | ⟨l',x,rfl⟩
    ·simp at hk
    ·rw [List.foldl_append,ih l' (by simpa using hk) (Jnn h)];obtain ⟨h1,h2⟩:=h l' x [] rfl;show JdS l' x=_;unfold JdS;rw [h1];dsimp only;rw [if_neg (by rw [h2];decide)]
 exact key _ l rfl h
theorem Jjn (d:A2) (l:List Rul):∃t,l=Jdr d l++t:=by
 unfold Jdr
 refine ⟨(l.reverse.takeWhile fun r=> decide (r.act=d)).reverse, ?_⟩
 rw [← List.reverse_append,List.takeWhile_append_dropWhile,List.reverse_reverse]
theorem JCp (d:A2) (l:List Rul):(Jdr d l).length≤l.length:=by
 obtain ⟨t,h⟩:=Jjn d l
 have:=congrArg List.length h
 rw [List.length_append] at this
 omega
theorem JAw {l:List Rul} {r n:Rul} (h:n∈JdS l r):n∈l∨JaW r=some n:=by
 unfold JdS at h
 cases hN:JaW r with
 | none=> rw [hN] at h;exact .inl h
 | some m=>
   rw [hN] at h;dsimp only at h;split at h
   ·exact .inl h
   ·rcases List.mem_append.1 h with h | h
    ·exact .inl h
    ·rw [List.mem_singleton.1 h];exact .inr rfl
theorem JrZ:∀(rs l:List Rul) {n:Rul},n∈rs.foldl JdS l→n∈l∨∃r∈rs,JaW r=some n
 | [],_,_,h=> .inl h
 | r::rs,l,n,h=> by
   rcases JrZ rs _ h with h | ⟨x,hx,h⟩
   ·rcases JAw h with h | h
    ·exact .inl h
    ·exact .inr ⟨r, .head _,h⟩
   ·exact .inr ⟨x, .tail _ hx,h⟩
theorem Jk1 {s:ByteArray} {rs:List Rul} {n:Rul} (h:n∈gOf s rs):n.name=s∧∃r∈rs,JaW r=some n:=by
 rw [Jg1] at h
 rcases JrZ _ _ h with h | ⟨r,hr,h⟩
 ·cases h
 ·obtain ⟨h1,h2⟩:=List.mem_filter.1 hr;exact ⟨(Jcg h).2.1.trans (JcZ.1 h2).symm,r,h1,h⟩
theorem Jjo {d:A2} {l:List Rul} {x:Rul} (h:x∈Jdr d l):x∈l:=by
 obtain ⟨t,ht⟩:=Jjn d l
 rw [ht];exact List.mem_append_left _ h
theorem Jk2 {d:A2} {rs:List Rul} {N:List (List UInt8)} {n:Rul} (h:n∈JgH d (Jal rs) N):∃r∈rs,JaW r=some n:=by
 unfold JgH at h
 obtain ⟨z,hz,h⟩:=List.mem_flatMap.1 h
 have:=Jjo h
 rw [Jgn] at this
 exact (Jk1 this).2
theorem Jr0 {X:List Rul} {z0:List UInt8}:∀ {N:List (List UInt8)},N.Pairwise RS→N.flatMap (fun z=> if z=z0 then X else [])=if z0∈N then X else []
 | [],_=> by simp
 | z::N,h=> by
   rw [List.pairwise_cons] at h;rw [List.flatMap_cons,Jr0 h.2];by_cases hz:z=z0
   ·subst hz;have:z∉N:=fun hm=> Jyd z (h.1 z hm);simp [this]
   ·rw [if_neg hz,List.nil_append];simp [Ne.symm hz]
theorem Jlw (s:ByteArray) (F:List UInt8→List Rul):∀N:List (List UInt8),(N.flatMap F).filter (fun r=> Jae s r.name)=N.flatMap fun z=> (F z).filter fun r=> Jae s r.name
 | []=> rfl
 | z::N=> by rw [List.flatMap_cons,List.filter_append,Jlw s F N,List.flatMap_cons]
theorem JCq (d:A2) (rs:List Rul) (s:ByteArray):gOf s (JgH d (Jal rs) (JdR (Jal rs)))=Jdr d (gOf s rs):=by
 rw [Jg1]
 unfold JgH
 rw [Jlw]
 have e:(fun z:List UInt8=> (Jdr d (Jbm (Jal rs) ⟨z.toArray⟩)).filter fun r=> Jae s r.name)=fun z=> if z=s.data.toList then Jdr d (gOf s rs) else []:=by
  funext z
  rw [Jgn];by_cases hz:z=s.data.toList
  ·subst hz;rw [if_pos rfl];have es:(⟨s.data.toList.toArray⟩:ByteArray)=s:=by obtain ⟨⟨a⟩⟩:=s;rfl
   rw [es,List.filter_eq_self];intro n hn;rw [(Jk1 (Jjo hn)).1];exact Jko s
  ·rw [if_neg hz,List.filter_eq_nil_iff];intro n hn hk;have:=(Jk1 (Jjo hn)).1;rw [this] at hk;exact hz (by rw [JcZ.1 hk])
 rw [e,Jr0 (Jlv (JhC rs))]
 have hg:JeY (Jdr d (gOf s rs)):=by
  obtain ⟨t,ht⟩:=Jjn d (gOf s rs);have:=JAv s rs;rw [ht] at this;exact Jnn this
 by_cases hm:s.data.toList∈JdR (Jal rs)
 ·rw [if_pos hm];exact Jyg hg
 ·rw [if_neg hm];have:Jbm (Jal rs) s= []:=by
   by_cases h:Jbm (Jal rs) s= []
   ·exact h
   ·exact absurd (JtS.2 (JrY h)) hm
  rw [Jgn] at this;rw [this];rfl
def JhD (H:List (ByteArray×List Rul)):Nat:=(H.map fun h=> h.2.length).sum
theorem Jr1 {t:ByteArray} {n:Rul}:∀H:List (ByteArray×List Rul),JhD (Jek H t n)=JhD H+1
 | []=> rfl
 | h::H=> by
   unfold Jek;by_cases ht:Jae t h.1=true
   ·rw [if_pos ht];unfold JhD;simp;omega
   ·rw [if_neg ht];have:=Jr1 (t:=t) (n:=n) H;unfold JhD at this⊢;rw [List.map_cons,List.sum_cons,this,List.map_cons,List.sum_cons];omega
theorem Jyh {H:List (ByteArray×List Rul)} {r:Rul}:JhD (Jd4 H r)≤JhD H+1:=by
 unfold Jd4
 cases JaW r with
 | none=> exact Nat.le_succ _
 | some n=>
   dsimp only;split
   ·exact Nat.le_succ _
   ·rw [Jr1];exact Nat.le_refl _
theorem Jwg (rs:List Rul):JhD (Jal rs)≤rs.length:=by
 have key:∀(rs:List Rul) (H:List (ByteArray×List Rul)),JhD (rs.foldl Jd4 H)≤JhD H+rs.length:=by
  intro rs
  induction rs with
  | nil=> intro H;exact Nat.le_refl _
  | cons r rs ih=>
    intro H;have h1:=ih (Jd4 H r);have h2:=Jyh (H:=H) (r:=r);rw [List.foldl_cons,List.length_cons];omega
 have:=key rs []
 rw [show JhD []=0 from rfl,Nat.zero_add] at this
 exact this
theorem Jr2:∀ {H:List (ByteArray×List Rul)},(H.map (·.1)).Nodup→∀h∈H,Jbm H h.1=h.2
 | [],_,_,hm=> by cases hm
 | g::H,hn,h,hm=> by
   rw [List.map_cons,List.nodup_cons] at hn;rcases List.mem_cons.1 hm with rfl | hm
   ·exact if_pos (Jko _)
   ·have:¬Jae h.1 g.1=true:=fun hk=> hn.1 (by rw [← JcZ.1 hk];exact List.mem_map_of_mem hm);show (if Jae h.1 g.1=true then g.2 else Jbm H h.1)=_;rw [if_neg this];exact Jr2 hn.2 h hm
theorem JuS (d:A2) (rs:List Rul):(JgH d (Jal rs) (JdR (Jal rs))).length≤rs.length:=by
 refine Nat.le_trans ?_ (Jwg rs)
 have hn:=JhC rs
 generalize Jal rs=H at hn
 unfold JgH
 have hp:(JdR H).Perm (H.map fun h=> h.1.data.toList):=List.mergeSort_perm _ _
 rw [List.length_flatMap,(hp.map _).sum_nat,List.map_map]
 unfold JhD
 have e:∀h∈H,((fun a:List UInt8=> (Jdr d (Jbm H ⟨a.toArray⟩)).length)∘fun h:ByteArray×List Rul=> h.1.data.toList) h≤h.2.length:=fun h hh=> by
  show (Jdr d (Jbm H ⟨h.1.data.toList.toArray⟩)).length≤_;have es:(⟨h.1.data.toList.toArray⟩:ByteArray)=h.1:=by obtain ⟨⟨⟨a⟩⟩,b⟩:=h;rfl
  rw [es,Jr2 hn h hh];exact JCp d h.2
 clear hp hn
 generalize (fun a:List UInt8=> (Jdr d (Jbm H ⟨a.toArray⟩)).length)∘(fun h:ByteArray×List Rul=> h.1.data.toList)=f at e
 induction H with
 | nil=> simp
 | cons h H ih=>
   rw [List.map_cons,List.sum_cons,List.map_cons,List.sum_cons];have h1:=e h (.head _);have h2:=ih fun x hx=> e x (.tail _ hx);omega
theorem Jwh {p:Pol} (h:Ja8 p=true):Ja8 (Jh p)=true:=by
 unfold Ja8 at h⊢
 simp only [Bool.and_eq_true,decide_eq_true_eq,Bool.not_eq_true',List.any_eq_false] at h⊢
 have hl:=JuS p.dflt p.rules
 refine ⟨h.1,Nat.le_trans hl h.2.1,fun n hn=> ?_⟩
 obtain ⟨r,hr,hN⟩:=Jk2 hn
 have h2:=h.2.2 r hr
 have:JaJ r=true:=by simpa using h2
 rw [(Jgm hN).2.1 this];decide
def nmL (s:ByteArray):List UInt8:=s.data.toList
def Jk3 (r:Rul):List (ByteArray×List Rul)→List (ByteArray×List Rul)
 | (s,L)::t=> if kS s r.name then (s,r::L)::t else (r.name, [r])::(s,L)::t
 | []=> [(r.name, [r])]
def Jaa (l:List Rul):List (ByteArray×List Rul):=l.foldr Jk3 []
def Jyi (l:List Rul):Prop:=l.Pairwise fun a b=> Go.Sort.ltStr (nmL b.name) (nmL a.name)=false
structure GOk (l:List Rul) (gs:List (ByteArray×List Rul)):Prop where
 up:gs.Pairwise fun a b=> Go.Sort.ltStr (nmL a.1) (nmL b.1)=true
 rows:∀g∈gs,g.2=l.filter (fun r=> kS r.name g.1)∧g.2≠ []
 all:∀r∈l,∃g∈gs,g.1=r.name
theorem Jpr (s t:ByteArray):kS s t=kS t s:=by
 rw [Bool.eq_iff_iff,JbU,JbU]
 exact ⟨Eq.symm,Eq.symm⟩
theorem Jjp (s:List UInt8):Go.Sort.ltStr s s=false:=Go.Sort.swo_ltStr.irrefl s
theorem JEx {s t:ByteArray} (h:Go.Sort.ltStr (nmL t) (nmL s)=false) (hne:s≠t):Go.Sort.ltStr (nmL s) (nmL t)=true:=by
 cases hl:Go.Sort.ltStr (nmL s) (nmL t) with
 | true=> rfl
 | false=> exact absurd (Jl8 (JxB _ _ hl h)) hne
theorem JeF:∀ {l:List Rul},Jyi l→GOk l (Jaa l)
 | [],_=> ⟨List.Pairwise.nil,fun g hg=> (by cases hg),fun r hr=> (by cases hr)⟩
 | r::l,h=> by
   obtain ⟨h1,h2⟩:=List.pairwise_cons.1 h;have ih:=JeF h2;unfold Jaa at ih⊢;rw [List.foldr_cons];generalize l.foldr Jk3 []=gs at ih;have hrow:∀g∈gs,g.1≠r.name→g.2=(r::l).filter (fun q=> kS q.name g.1)∧g.2≠ []:=fun g hg hne=> by
    obtain ⟨k1,k2⟩:=ih.rows g hg;refine ⟨?_,k2⟩;rw [List.filter_cons,if_neg (by rw [Jpr];exact fun e=> hne (JbU.1 e))];exact k1
   have hge:∀g∈gs,Go.Sort.ltStr (nmL g.1) (nmL r.name)=false:=fun g hg=> by
    obtain ⟨k1,k2⟩:=ih.rows g hg;obtain ⟨q,hq⟩:=List.exists_mem_of_ne_nil _ k2;rw [k1] at hq;obtain ⟨q1,q2⟩:=List.mem_filter.1 hq;rw [← JbU.1 q2];exact h1 q q1
   cases gs with
   | nil=>
     have hl:l= []:=List.eq_nil_iff_forall_not_mem.2 fun q hq=> by obtain ⟨g,hg,_⟩:=ih.all q hq;cases hg
     subst hl;refine ⟨List.pairwise_singleton _ _,fun g hg=> ?_,fun q hq=> ?_⟩
     ·rw [List.mem_singleton.1 hg];refine ⟨?_,List.cons_ne_nil _ _⟩;rw [List.filter_cons,if_pos (JbU.2 rfl)];rfl
     ·exact ⟨_, .head _,by rw [List.mem_singleton.1 hq]⟩
   | cons g t=>
     obtain ⟨s,L⟩:=g;show GOk (r::l) (if kS s r.name then (s,r::L)::t else (r.name, [r])::(s,L)::t);obtain ⟨u1,u2⟩:=List.pairwise_cons.1 ih.up;by_cases hs:kS s r.name=true
     ·rw [if_pos hs];have es:s=r.name:=JbU.1 hs;refine ⟨List.pairwise_cons.2 ⟨u1,u2⟩,fun g hg=> ?_,fun q hq=> ?_⟩
      ·rcases List.mem_cons.1 hg with rfl | hg
       ·refine ⟨?_,List.cons_ne_nil _ _⟩;have:=(ih.rows (s,L) (.head _)).1;rw [List.filter_cons,if_pos (by rw [Jpr];exact hs)];exact congrArg _ this
       ·refine hrow g (.tail _ hg) fun e=> ?_;have:=u1 g hg;rw [e,← es,Jjp] at this;cases this
      ·rcases List.mem_cons.1 hq with rfl | hq
       ·exact ⟨_, .head _,es⟩
       ·obtain ⟨g,hg,e⟩:=ih.all q hq;rcases List.mem_cons.1 hg with rfl | hg
        ·exact ⟨_, .head _,e⟩
        ·exact ⟨g, .tail _ hg,e⟩
     ·rw [if_neg hs];have hne:s≠r.name:=fun e=> hs (JbU.2 e);have hlt:∀g∈(s,L)::t,Go.Sort.ltStr (nmL r.name) (nmL g.1)=true:=fun g hg=> by
       have hs0:=JEx (hge (s,L) (.head _)) hne.symm;rcases List.mem_cons.1 hg with rfl | hg
       ·exact hs0
       ·exact Go.Sort.swo_ltStr.trans _ _ _ hs0 (u1 g hg)
      have hno:∀g∈(s,L)::t,g.1≠r.name:=fun g hg e=> by
       have:=hlt g hg;rw [e,Jjp] at this;cases this
      refine ⟨List.pairwise_cons.2 ⟨hlt,ih.up⟩,fun g hg=> ?_,fun q hq=> ?_⟩
      ·rcases List.mem_cons.1 hg with rfl | hg
       ·refine ⟨?_,List.cons_ne_nil _ _⟩;rw [List.filter_cons,if_pos (JbU.2 rfl)];refine congrArg _ (List.filter_eq_nil_iff.2 fun q hq e=> ?_).symm;obtain ⟨g,hg,e2⟩:=ih.all q hq;exact hno g hg (e2.trans (JbU.1 e))
       ·exact hrow g hg (hno g hg)
      ·rcases List.mem_cons.1 hq with rfl | hq
       ·exact ⟨_, .head _,rfl⟩
       ·obtain ⟨g,hg,e⟩:=ih.all q hq;exact ⟨g, .tail _ hg,e⟩
def JW (r:Rul):PRul:=⟨r.conds,JX r.act⟩
theorem JtT (m:Rul) (M:List Rul):∃L t,Jaa (m::M)=(m.name,L)::t:=by
 show ∃L t,Jk3 m (Jaa M)=(m.name,L)::t
 cases Jaa M with
 | nil=> exact ⟨_,_,rfl⟩
 | cons g t=>
   obtain ⟨s,L⟩:=g;show ∃L' t',(if kS s m.name then (s,m::L)::t else (m.name, [m])::(s,L)::t)=(m.name,L')::t';by_cases h:kS s m.name=true
   ·rw [if_pos h,JbU.1 h];exact ⟨_,_,rfl⟩
   ·rw [if_neg h];exact ⟨_,_,rfl⟩
def JAx (s:ByteArray) (M:List Rul):Prop:=∀m∈M.head?,m.name≠s
theorem Jno {s:ByteArray} {M:List Rul} (hM:JAx s M):∀ {L:List Rul},L≠ []→(∀r∈L,r.name=s)→Jaa (L++M)=(s,L)::Jaa M
 | [],h,_=> absurd rfl h
 | [r],_,h=> by
   show Jk3 r (Jaa M)=_;have hr:=h r (.head _);cases M with
   | nil=> rw [← hr];rfl
   | cons m M=>
     obtain ⟨L,t,e⟩:=JtT m M;rw [e];show (if kS m.name r.name then _ else _)=_;rw [if_neg (fun k=> hM m Si ((JbU.1 k).trans hr)),hr]
 | r::q::L,_,h=> by
   have ih:=Jno hM (L:=q::L) Si fun x hx=> h x (.tail _ hx);show Jk3 r (Jaa (q::L++M))=_;rw [ih];show (if kS s r.name then _ else _)=_;rw [if_pos (JbU.2 (h r (.head _)).symm)]
def JdB (a:Nat) (n:Int):Nat:=if a=1 then n.toNat||| 1073741824 else n.toNat
def JaX (a d:Nat) (x:Bool) (row:TRow) (rs:List PRul):List PEnt:=
 if row.num a < 0∨(a=1∧x=false)∨Jcq a rs d= [] then [] else [⟨JdB a (row.num a),Jcq a rs d⟩]
def JcM (m:Nat) (row:TRow) (rs:List PRul):List PSub:=if row.mux=(m:Int)+1 then [⟨row.sub.toNat,(rs.getD 0 ⟨[],0⟩).code⟩] else []
def JdI (p:Pol) (l:List TRow) (gs:List (ByteArray×List Rul)) (a:Nat):List PEnt:=gs.flatMap fun g=> JaX a (JX p.dflt) p.x32 (Jay l g.1) (g.2.map JW)
def JdJ (l:List TRow) (gs:List (ByteArray×List Rul)) (m:Nat):List PSub:=gs.flatMap fun g=> JcM m (Jay l g.1) (g.2.map JW)
theorem Jwi (p:Pol) (l:List TRow) (gs:List (ByteArray×List Rul)) (g:ByteArray×List Rul) (a:Nat):JdI p l (gs++ [g]) a=JdI p l gs a++JaX a (JX p.dflt) p.x32 (Jay l g.1) (g.2.map JW):=by
 unfold JdI;rw [List.flatMap_append];simp
theorem Jwj (l:List TRow) (gs:List (ByteArray×List Rul)) (g:ByteArray×List Rul) (m:Nat):JdJ l (gs++ [g]) m=JdJ l gs m++JcM m (Jay l g.1) (g.2.map JW):=by
 unfold JdJ;rw [List.flatMap_append];simp
def Jc0 (s:ByteArray) (l:List Rul):List Rul:=l.takeWhile fun r=> kS r.name s
theorem Jps (s:ByteArray):∀(l:List Rul),∀r∈Jc0 s l,r.name=s
 | [],r,hr=> by cases hr
 | q::l,r,hr=> by
   unfold Jc0 at hr;rw [List.takeWhile_cons] at hr;by_cases h:kS q.name s=true
   ·rw [if_pos h] at hr;rcases List.mem_cons.1 hr with rfl | hr
    ·exact JbU.1 h
    ·exact Jps s l r hr
   ·rw [if_neg h] at hr;cases hr
theorem JAy (s:ByteArray) (l:List Rul):JAx s (l.drop (Jc0 s l).length):=by
 unfold Jc0 JAx
 induction l with
 | nil=> intro m hm;simp at hm
 | cons r l ih=>
   rw [List.takeWhile_cons];by_cases h:kS r.name s=true
   ·rw [if_pos h];simpa using ih
   ·rw [if_neg h];intro m hm;obtain rfl:r=m:=(by simpa using hm);exact fun e=> h (JbU.2 e)
theorem Jgo {α:Type} {key:α→Nat}:∀ {l m:List α},l.Perm m→l.Pairwise (fun a b=> key a≤key b)→m.Pairwise (fun a b=> key a≤key b)→(l.map key).Nodup→l=m
 | [],m,hp,_,_,_=> (List.nil_perm.1 hp).symm
 | a::l, [],hp,_,_,_=> by cases hp.length_eq
 | a::l,b::m,hp,h1,h2,hn=> by
   obtain ⟨a1,a2⟩:=List.pairwise_cons.1 h1;obtain ⟨b1,b2⟩:=List.pairwise_cons.1 h2;have hb:b∈a::l:=hp.mem_iff.2 (.head _);have ha:a∈b::m:=hp.mem_iff.1 (.head _);have e:a=b:=by
    rcases List.mem_cons.1 hb with h | h
    ·exact h.symm
    ·rcases List.mem_cons.1 ha with k | k
     ·exact k
     ·have:=a1 b h;have:=b1 a k;have hk:key a=key b:=(by omega);rw [List.map_cons,List.nodup_cons] at hn;exact absurd (hk ▸ List.mem_map_of_mem h) hn.1
   subst e;rw [Jgo ((List.perm_cons a).1 hp) a2 b2 (List.nodup_cons.1 hn).2]
def Jqy (l:List PEnt):List PEnt:=l.mergeSort fun a b=> decide (a.num≤b.num)
def Jqz (l:List PSub):List PSub:=l.mergeSort fun a b=> decide (a.num≤b.num)
theorem JfO (l:List PEnt):(Jqy l).Perm l:=List.mergeSort_perm _ _
theorem JfP (l:List PSub):(Jqz l).Perm l:=List.mergeSort_perm _ _
theorem JAz (l:List PEnt):(Jqy l).Pairwise fun a b=> a.num≤b.num:=
 (List.pairwise_mergeSort (le:=fun a b:PEnt=> decide (a.num≤b.num)) (fun a b c h1 h2=> decide_eq_true (Nat.le_trans (of_decide_eq_true h1) (of_decide_eq_true h2))) (fun a b=> by simpa using Nat.le_total a.num b.num) l).imp fun h=> of_decide_eq_true h
theorem Jr3 (l:List PSub):(Jqz l).Pairwise fun a b=> a.num≤b.num:=
 (List.pairwise_mergeSort (le:=fun a b:PSub=> decide (a.num≤b.num)) (fun a b c h1 h2=> decide_eq_true (Nat.le_trans (of_decide_eq_true h1) (of_decide_eq_true h2))) (fun a b=> by simpa using Nat.le_total a.num b.num) l).imp fun h=> of_decide_eq_true h
theorem JuT {l:List TRow} (h:(Jcx l).2=0) {a i j:Nat} (ha:a < 5) (hi:i < l.length) (hj:j < l.length) (h0:0≤(l.getD i Jd).num a) (e:(l.getD j Jd).num a=(l.getD i Jd).num a):i=j:=by
 have key:∀i j,i < l.length→j < i→0≤(l.getD i Jd).num a→(l.getD j Jd).num a=(l.getD i Jd).num a→False:=fun i j hi hji h0 e=> by
  have hc:=(JeB ((Jdz h).2 i hi)).2.2.2.2.2;unfold JdP at hc;rw [List.any_eq_false] at hc;have:=hc (l.getD j Jd) (by
   rw [show l.getD j Jd=(l.take i)[j]'(by rw [List.length_take];omega) by simp [List.getD,show j < l.length by omega]];exact List.getElem_mem _)
  apply this;rw [Bool.or_eq_true]
  left
  unfold Jix;refine List.any_eq_true.2 ⟨a, ?_, ?_⟩
  ·rcases (by omega:a=0∨a=1∨a=2∨a=3∨a=4) with rfl | rfl | rfl | rfl | rfl <;> simp
  ·rw [decide_eq_true h0,decide_eq_true e];rfl
 rcases Nat.lt_trichotomy i j with q | q | q
 ·exact (key j i hj q (by rw [e];exact h0) e.symm).elim
 ·exact q
 ·exact (key i j hi q h0 e).elim
theorem JuU {l:List TRow} (h:(Jcx l).2=0) {i j:Nat} (hi:i < l.length) (hj:j < l.length) (h0:0 < (l.getD i Jd).mux) (e:(l.getD j Jd).mux=(l.getD i Jd).mux) (e2:(l.getD j Jd).sub=(l.getD i Jd).sub):i=j:=by
 have key:∀i j,i < l.length→j < i→0 < (l.getD i Jd).mux→(l.getD j Jd).mux=(l.getD i Jd).mux→(l.getD j Jd).sub=(l.getD i Jd).sub→False:=fun i j hi hji h0 e e2=> by
  have hc:=(JeB ((Jdz h).2 i hi)).2.2.2.2.2;unfold JdP at hc;rw [List.any_eq_false] at hc;have:=hc (l.getD j Jd) (by
   rw [show l.getD j Jd=(l.take i)[j]'(by rw [List.length_take];omega) by simp [List.getD,show j < l.length by omega]];exact List.getElem_mem _)
  apply this;rw [Bool.or_eq_true]
  right
  unfold Jkc;rw [decide_eq_true h0,decide_eq_true e,decide_eq_true e2];rfl
 rcases Nat.lt_trichotomy i j with q | q | q
 ·exact (key j i hj q (by rw [e];exact h0) e.symm e2.symm).elim
 ·exact q
 ·exact (key i j hi q h0 e e2).elim
theorem JeZ {a:Nat} {z:Int} (h0:0≤z) (h1:z < 1073741824):JdB a z=if a=1 then z.toNat+1073741824 else z.toNat:=by
 unfold JdB
 split
 ·have h:z.toNat < 2 ^ 30:=by omega
  have:=Nat.two_pow_add_eq_or_of_lt h 1;rw [Nat.mul_one] at this;rw [Nat.or_comm,show (1073741824:Nat)=2 ^ 30 by decide,← this];omega
 ·rfl
theorem JdC {l:List TRow} (h:(Jcx l).2=0) {i a:Nat} (hi:i < l.length):(l.getD i Jd).num a < 1073741824∧-1≤(l.getD i Jd).num a:=by
 have:=(JeB ((Jdz h).2 i hi)).2.2.1
 generalize l.getD i Jd=r at this
 unfold JgE at this
 rw [List.any_eq_false] at this
 have hb:∀n∈ [r.a0,r.a1,r.a2,r.a3,r.a4],n < 1073741824∧-1≤n:=fun n hn=> by
  have:=this n hn;unfold Jfp at this;simp only [Bool.or_eq_true,decide_eq_true_eq,not_or] at this;omega
 match a with
 | 0=> exact hb r.a0 Si
 | 1=> exact hb r.a1 Si
 | 2=> exact hb r.a2 Si
 | 3=> exact hb r.a3 Si
 | a+4=> exact hb r.a4 Si
theorem Jf4 {l:List TRow} (h:(Jcx l).2=0) {i:Nat} (hi:i < l.length):((l.getD i Jd).mux=0∨(l.getD i Jd).mux=1∨(l.getD i Jd).mux=2)∧0≤(l.getD i Jd).sub∧(l.getD i Jd).sub≤255:=by
 have:=(JeB ((Jdz h).2 i hi)).2.2.2.1
 unfold Jhx at this
 simp only [Bool.or_eq_false_iff,Bool.and_eq_false_iff,decide_eq_false_iff_not] at this
 omega
def Jr4 (l:List TRow) (s:ByteArray):Prop:=∃i,i < l.length∧Jay l s=l.getD i Jd∧(l.getD i Jd).name=s
theorem JeG {a d:Nat} {x:Bool} {row:TRow} {rs:List PRul} {e:PEnt} (h:e∈JaX a d x row rs):¬row.num a < 0∧e.num=JdB a (row.num a):=by
 unfold JaX at h
 split at h
 ·cases h
 ·rename_i q
  rw [List.mem_singleton.1 h];exact ⟨fun k=> q (.inl k),rfl⟩
theorem Jh5 {m:Nat} {row:TRow} {rs:List PRul} {e:PSub} (h:e∈JcM m row rs):row.mux=(m:Int)+1∧e.num=row.sub.toNat:=by
 unfold JcM at h
 split at h
 ·rename_i q
  rw [List.mem_singleton.1 h];exact ⟨q,rfl⟩
 ·cases h
theorem Jyj {a d:Nat} {x:Bool} {row:TRow} {rs:List PRul}:((JaX a d x row rs).map (·.num)).Nodup:=by
 unfold JaX
 split
 ·exact List.nodup_nil
 ·simp
theorem Jyk {m:Nat} {row:TRow} {rs:List PRul}:((JcM m row rs).map (·.num)).Nodup:=by
 unfold JcM
 split
 ·simp
 ·exact List.nodup_nil
theorem Jjq {p:Pol} {l:List TRow} (ht:(Jcx l).2=0) {a:Nat} (ha:a < 5):∀ {gs:List (ByteArray×List Rul)},(gs.Pairwise fun x y=> x.1≠y.1)→(∀g∈gs,Jr4 l g.1)→((JdI p l gs a).map (·.num)).Nodup
 | [],_,_=> List.nodup_nil
 | g::gs,h1,h2=> by
   obtain ⟨q1,q2⟩:=List.pairwise_cons.1 h1;have ih:=Jjq (p:=p) ht ha q2 fun g hg=> h2 g (.tail _ hg);show (((JaX a (JX p.dflt) p.x32 (Jay l g.1) (g.2.map JW))++JdI p l gs a).map (·.num)).Nodup;rw [List.map_append,List.nodup_append];refine ⟨Jyj,ih,fun n hn n' hn'=> ?_⟩;rintro rfl;obtain ⟨e,he,rfl⟩:=List.mem_map.1 hn;obtain ⟨e',he',hee⟩:=List.mem_map.1 hn';unfold JdI at he';obtain ⟨g',hg',he'⟩:=List.mem_flatMap.1 he';obtain ⟨i,hi,r1,n1⟩:=h2 g (.head _);obtain ⟨j,hj,r2,n2⟩:=h2 g' (.tail _ hg');obtain ⟨k1,k2⟩:=JeG he;obtain ⟨k3,k4⟩:=JeG he';rw [r1] at k1 k2;rw [r2] at k3 k4;have b1:=JdC ht (a:=a) hi;have b2:=JdC ht (a:=a) hj;rw [k2,k4,JeZ Om b2.1,JeZ Om b1.1] at hee;have hnum:(l.getD j Jd).num a=(l.getD i Jd).num a:=by
    split at hee <;> omega
   have:=JuT ht ha hi hj Om hnum;subst this;exact q1 g' hg' (n1.symm.trans n2)
theorem Jjr {l:List TRow} (ht:(Jcx l).2=0) {m:Nat}:∀ {gs:List (ByteArray×List Rul)},(gs.Pairwise fun x y=> x.1≠y.1)→(∀g∈gs,Jr4 l g.1)→((JdJ l gs m).map (·.num)).Nodup
 | [],_,_=> List.nodup_nil
 | g::gs,h1,h2=> by
   obtain ⟨q1,q2⟩:=List.pairwise_cons.1 h1;have ih:=Jjr ht (m:=m) q2 fun g hg=> h2 g (.tail _ hg);show (((JcM m (Jay l g.1) (g.2.map JW))++JdJ l gs m).map (·.num)).Nodup;rw [List.map_append,List.nodup_append];refine ⟨Jyk,ih,fun n hn n' hn'=> ?_⟩;rintro rfl;obtain ⟨e,he,rfl⟩:=List.mem_map.1 hn;obtain ⟨e',he',hee⟩:=List.mem_map.1 hn';unfold JdJ at he';obtain ⟨g',hg',he'⟩:=List.mem_flatMap.1 he';obtain ⟨i,hi,r1,n1⟩:=h2 g (.head _);obtain ⟨j,hj,r2,n2⟩:=h2 g' (.tail _ hg');obtain ⟨k1,k2⟩:=Jh5 he;obtain ⟨k3,k4⟩:=Jh5 he';rw [r1] at k1 k2;rw [r2] at k3 k4;have b1:=Jf4 ht hi;have b2:=Jf4 ht hj;have:=JuU ht hi hj Om Om Om;subst this;exact q1 g' hg' (n1.symm.trans n2)
end Go.Proofs.W

namespace Go.Proofs
open Go.Shelf
shelf_lay LaysM.n171 Nm 171 at Tryz as Tryz.laysM171
end Go.Proofs
namespace Go.Proofs.W
open Go.Vl Go.Shelf Go.RowKit
set_option maxRecDepth 100000
theorem JuV {w : World} (h : Kn w none2) : Lib.TabIs Tryz.prog w "internal/strconv.uint64pow10" .u64 Lib.pow10Tab := by
 obtain ⟨⟨e,fz,h1⟩,_⟩:=h (3,(Go.Lib.pow10Tab.map fun z=> Value.int .u64 z).toArray) (by unfold Jzt;exact List.mem_cons_self)
 unfold Lib.TabIs World.var?
 rw [show Tryz.prog.globalNamed "internal/strconv.uint64pow10" = some 3 from by kernel_rfl]
 simp only [Option.bind_some]
 rw [h1]
theorem Jyl {W : World} (h : Lib.TabIs Tryz.prog W "internal/strconv.uint64pow10" .u64 Lib.pow10Tab) : Kn W none2 := by
 unfold Lib.TabIs World.var? at h
 rw [show Tryz.prog.globalNamed "internal/strconv.uint64pow10" = some 3 from by kernel_rfl, Option.bind_some] at h
 intro p hp
 unfold Jzt at hp
 obtain rfl:=List.mem_singleton.1 hp
 refine ⟨?_,fun _ h=> h⟩
 split at h
 ·rename_i cs e fz hb
  cases h;exact ⟨_,_,hb⟩
 ·cases h
theorem Jlx (w:World):∀n,Below w.heap.size w (w.drewN n)
 | 0=> Below.refl _ _
 | n+1=> (Jlx w n).drew
theorem JtU (w:World) (k:Nat) (os:Array Obj):Below w.heap.size w (Sort.grow (w.drewN k) os):=by
 have h:=Jlx w k
 refine ⟨h.os,h.tape,h.output,Nat.le_trans h.size (by simp [Sort.grow]),fun j hj=> ?_⟩
 rw [Sort.heap_grow_old _ _ (Nat.lt_of_lt_of_le hj h.size)]
 exact h.block j hj
def Jel (n:Nat):ByteArray:=⟨(Lib.decDigits n).toArray⟩
theorem JAA (n:Nat):Lib.itoa (n:Int)=Lib.decDigits n:=by
 unfold Lib.itoa
 rw [if_neg Om]
 rfl
theorem Jym (n:Nat) (hn:n≤9223372036854775807):Tells Tryz.prog 161 [int n] (JA (Jel n)):=
 Jen (vs:= [.int .i64 n]) ⟨_,Tryz.func161,rfl,rfl⟩ fun w hk=> (Any.strconv_Itoa Tryz.laysM171 n Om Om w (JuV hk)).mono fun e w' ⟨h1,k,os,h2⟩=> ⟨by rw [h1,JAA];rfl,by rw [h2];exact JtU w k os⟩
end Go.Proofs.W

namespace Go.Proofs.W
open Go.Vl
set_option maxRecDepth 100000
abbrev Bts:=List UInt8
theorem Jft {x:UInt8}:∀ {a b r s:Bts},x∉a→x∉b→a++x::r=b++x::s→a=b∧r=s
 | [], [],r,s,_,_,h=> ⟨rfl,(List.cons.inj h).2⟩
 | [],y::b,r,s,_,hb,h=> absurd (List.mem_cons.2 (.inl (List.cons.inj h).1)) hb
 | y::a, [],r,s,ha,_,h=> absurd (List.mem_cons.2 (.inl (List.cons.inj h).1.symm)) ha
 | y::a,z::b,r,s,ha,hb,h=> by
   obtain ⟨h1,h2⟩:=List.cons.inj h;obtain ⟨h3,h4⟩:=Jft (fun q=> ha (List.mem_cons_of_mem _ q)) (fun q=> hb (List.mem_cons_of_mem _ q)) h2;exact ⟨by rw [h1,h3],h4⟩
def JDH (l:Bts):Nat:=l.foldl (fun v b=> 10 * v+(b.toNat - 48)) 0
theorem Jk4 {n:Nat} (h:n < 10):(UInt8.ofNat (48+n)).toNat=48+n:=by
 rw [UInt8.toNat_ofNat']
 exact Nat.mod_eq_of_lt Om
theorem JuW:∀n:Nat,JDH (Lib.decDigits n)=n:=by
 intro n
 induction n using Nat.strongRecOn with
 | ind n ih=>
   rw [Lib.decDigits];split
   ·rename_i h
    show 10 * 0+((UInt8.ofNat (48+n)).toNat - 48)=n;rw [Jk4 h];omega
   ·have:=ih (n / 10) Om;unfold JDH at this⊢;rw [List.foldl_append,this];show 10 * (n / 10)+((UInt8.ofNat (48+n % 10)).toNat - 48)=n;rw [Jk4 (Nat.mod_lt _ Dc)];omega
theorem Jk5 {m n:Nat} (h:Lib.decDigits m=Lib.decDigits n):m=n:=by rw [← JuW m,h,JuW]
theorem JCr:∀ {n:Nat} {b:UInt8},b∈Lib.decDigits n→48≤b.toNat∧b.toNat≤57:=by
 intro n
 induction n using Nat.strongRecOn with
 | ind n ih=>
   intro b hb;rw [Lib.decDigits] at hb;split at hb
   ·rename_i h
    rw [List.mem_singleton.1 hb,Jk4 h];omega
   ·rcases List.mem_append.1 hb with h | h
    ·exact ih (n / 10) Om h
    ·rw [List.mem_singleton.1 h,Jk4 (Nat.mod_lt _ Dc)];have:=Nat.mod_lt n (by decide:0 < 10);omega
theorem Jkq {n:Nat} {b:UInt8} (h:b.toNat < 48∨57 < b.toNat):b∉Lib.decDigits n:=fun q=> by
 have:=JCr q
 omega
def opsT:List Bts:= [[61,61], [33,61], [60], [60,61], [62], [62,61], [38]]
def opT (k:Nat):Bts:=opsT.getD k []
def Jar (c:Cnd):Bts:= [97]++(Lib.decDigits c.arg.toNat++32::(opT (c.op.toNat - 1)++32::(if c.op=7 then Lib.decDigits c.mask++32::(61::61::32::Lib.decDigits c.value) else Lib.decDigits c.value)))
theorem Jr5:∀k:Nat,k < 7→(32:UInt8)∉opT k∧(59:UInt8)∉opT k:=by decide
theorem JCs:∀j:Nat,j < 7→∀k:Nat,k < 7→opT j=opT k→j=k:=by decide
theorem Jpt {c d:Cnd} (hc:JR c=true) (hd:JR d=true) (h:Jar c=Jar d):c=d:=by
 obtain ⟨a1,a2,a3,a4,a5⟩:=Jag.1 hc
 obtain ⟨b1,b2,b3,b4,b5⟩:=Jag.1 hd
 unfold Jar at h
 obtain ⟨_,h⟩:=List.cons.inj h
 obtain ⟨h1,h⟩:=Jft (Jkq Dc) (Jkq Dc) h
 obtain ⟨h2,h⟩:=Jft (Jr5 _ Om).1 (Jr5 _ Om).1 h
 have e1:c.arg=d.arg:=by have:=Jk5 h1;omega
 have e2:c.op=d.op:=by have:=JCs _ Om _ Om h2;omega
 obtain ⟨carg,cop,cm,cv⟩:=c
 obtain ⟨darg,dop,dm,dv⟩:=d
 dsimp only at *
 subst e1;subst e2
 by_cases h7:cop=7
 ·rw [if_pos h7,if_pos h7] at h;obtain ⟨h3,h⟩:=Jft (Jkq Dc) (Jkq Dc) h;have h4:=(List.cons.inj (List.cons.inj (List.cons.inj h).2).2).2;rw [Jk5 h3,Jk5 h4]
 ·rw [if_neg h7,if_neg h7] at h;rw [Jk5 h];have q1:cm=0:=a5.resolve_left h7;have q2:dm=0:=b5.resolve_left h7;rw [q1,q2]
theorem JAB {c:Cnd} (hc:JR c=true):(59:UInt8)∉Jar c:=by
 obtain ⟨a1,a2,a3,a4,a5⟩:=Jag.1 hc
 have hd:∀n:Nat,(59:UInt8)∉Lib.decDigits n:=fun n=> Jkq Dc
 have ho:=(Jr5 (c.op.toNat - 1) Om).2
 unfold Jar
 split
 ·simp [hd,ho]
 ·simp [hd,ho]
theorem Jr6 (c:Cnd):Jar c≠ []:=List.cons_ne_nil _ _
def JfQ (x:UInt8):List Bts→Bts
 | []=> []
 | [a]=> a
 | a::b::l=> a++x::JfQ x (b::l)
theorem Jc7 {x:UInt8} {a:Bts} {l:List Bts} (h:l≠ []):JfQ x (a::l)=a++x::JfQ x l:=by
 cases l with
 | nil=> exact absurd rfl h
 | cons b l=> rfl
theorem Jpu {x:UInt8}:∀ {l m:List Bts},(∀a∈l,x∉a∧a≠ [])→(∀a∈m,x∉a∧a≠ [])→JfQ x l=JfQ x m→l=m
 | [], [],_,_,_=> rfl
 | [],b::m,_,hm,h=> by
   exfalso
   have hb:=(hm b (.head _)).2;cases m with
   | nil=> exact hb h.symm
   | cons c m=> rw [Jc7 (List.cons_ne_nil _ _)] at h;exact hb (List.append_eq_nil_iff.1 h.symm).1
 | a::l, [],hl,_,h=> by
   exfalso
   have ha:=(hl a (.head _)).2;cases l with
   | nil=> exact ha h
   | cons c l=> rw [Jc7 (List.cons_ne_nil _ _)] at h;exact ha (List.append_eq_nil_iff.1 h).1
 | a::l,b::m,hl,hm,h=> by
   have ha:=(hl a (.head _)).1;have hb:=(hm b (.head _)).1;cases l with
   | nil=>
     cases m with
     | nil=> rw [show a=b from h]
     | cons c m=>
       exfalso
       rw [Jc7 (l:=c::m) (List.cons_ne_nil _ _)] at h;exact ha (by rw [show a=b++x::JfQ x (c::m) from h];simp)
   | cons c l=>
     cases m with
     | nil=>
       exfalso
       rw [Jc7 (l:=c::l) (List.cons_ne_nil _ _)] at h;exact hb (by rw [← show a++x::JfQ x (c::l)=b from h];simp)
     | cons d m=>
       rw [Jc7 (List.cons_ne_nil _ _),Jc7 (List.cons_ne_nil _ _)] at h;obtain ⟨h1,h2⟩:=Jft ha hb h;rw [h1,Jpu (fun q hq=> hl q (.tail _ hq)) (fun q hq=> hm q (.tail _ hq)) h2]
def cUs (d:Array Bts):Nat→List Bts
 | 0=> []
 | m+1=> if m=0∨d[m]! ≠d[m - 1]! then cUs d m++ [d[m]!] else cUs d m
theorem Jr7 (d:Array Bts):∀m,(cUs d m).length≤m
 | 0=> Nat.le_refl _
 | m+1=> by
   have:=Jr7 d m;unfold cUs;split
   ·simp;omega
   ·omega
theorem Jr8 {d:Array Bts}:∀ {m:Nat},m≤d.size→(∀i j,i < j→j < m→Go.Sort.ltStr d[j]! d[i]! =false)→(cUs d m).Pairwise RSb∧∀x,x∈cUs d m↔∃j,j < m∧d[j]! =x
 | 0,_,_=> ⟨List.Pairwise.nil,fun x=> by simp [cUs]⟩
 | m+1,hm,hs=> by
   obtain ⟨h1,h2⟩:=Jr8 (m:=m) Om fun i j a b=> hs i j a Om;by_cases hc:m=0∨d[m]! ≠d[m - 1]!
   ·rw [cUs,if_pos hc];refine ⟨?_,fun x=> ?_⟩
    ·rw [List.pairwise_append];refine ⟨h1,List.pairwise_singleton _ _,fun a ha b hb=> ?_⟩;rw [List.mem_singleton] at hb;subst hb;obtain ⟨j,hj,rfl⟩:=(h2 a).1 ha;cases hlt:Go.Sort.ltStr d[j]! d[m]! with
     | true=> exact hlt
     | false=>
       exfalso
       have h3:=hs (m - 1) m Om Om;have h4:Go.Sort.ltStr d[m - 1]! d[m]! =false:=by
        rcases Nat.lt_or_ge j (m - 1) with q | q
        ·exact Go.Sort.swo_ltStr.ntrans _ _ _ (hs j (m - 1) q Om) hlt
        ·rw [show m - 1=j by omega];exact hlt
       rcases hc with hc | hc
       ·omega
       ·exact hc (JmZ _ _ h3 h4)
    ·rw [List.mem_append,h2,List.mem_singleton]
     constructor
     ·rintro (⟨j,hj,rfl⟩ | rfl)
      ·exact ⟨j,Om,rfl⟩
      ·exact ⟨m,Om,rfl⟩
     ·rintro ⟨j,hj,rfl⟩;rcases Nat.lt_or_ge j m with q | q
      ·exact .inl ⟨j,q,rfl⟩
      ·exact .inr (by rw [show j=m by omega])
   ·rw [cUs,if_neg hc];refine ⟨h1,fun x=> ?_⟩;rw [h2]
    constructor
    ·rintro ⟨j,hj,rfl⟩;exact ⟨j,Om,rfl⟩
    ·rintro ⟨j,hj,rfl⟩;rcases Nat.lt_or_ge j m with q | q
     ·exact ⟨j,q,rfl⟩
     ·have hj':j=m:=(by omega);subst hj';have:j≠0:=fun h=> hc (.inl h);exact ⟨j - 1,Om,by by_cases he:d[j]! =d[j - 1]!;exact he.symm;exact absurd (.inr he) hc⟩
def Jg2 (l:List Bts):List Bts:=J0 Go.Sort.ltStr l
def Jdo (l:List Bts):List Bts:=cUs (Jg2 l).toArray (Jg2 l).length
theorem Jcs (l:List Bts):(Jdo l).Pairwise RSb∧∀x,x∈Jdo l↔x∈l:=by
 have hp:=Jgj Go.Sort.swo_ltStr l
 have hm:∀x,x∈Jg2 l↔x∈l:=fun x=> Jjc
 unfold Jdo
 have hp':(Jg2 l).Pairwise fun a b=> Go.Sort.ltStr b a=false:=hp
 generalize Jg2 l=S at hm hp'
 obtain ⟨h1,h2⟩:=Jr8 (d:=S.toArray) (m:=S.length) Si fun i j hij hj=> by
  have hi:i < S.length:=by omega
  have:=List.pairwise_iff_getElem.1 hp' i j hi hj hij;simpa [hi,hj] using this
 refine ⟨h1,fun x=> (h2 x).trans ?_⟩
 rw [← hm,List.mem_iff_getElem]
 constructor
 ·rintro ⟨j,hj,rfl⟩;exact ⟨j,hj,by simp [hj]⟩
 ·rintro ⟨j,hj,rfl⟩;exact ⟨j,hj,by simp [hj]⟩
def Jio (cs:List Cnd):Bts:=JfQ 59 (Jdo (cs.map Jar))
theorem Jnp {cs:List Cnd} (h:∀c∈cs,JR c=true):∀a∈Jdo (cs.map Jar),(59:UInt8)∉a∧a≠ []:=fun a ha=> by
 obtain ⟨c,hc,rfl⟩:=List.mem_map.1 (((Jcs _).2 a).1 ha)
 exact ⟨JAB (h c hc),Jr6 c⟩
theorem Jr9 {cs ds:List Cnd} (hc:∀c∈cs,JR c=true) (hd:∀c∈ds,JR c=true):Jio cs=Jio ds↔∀c,c∈cs↔c∈ds:=by
 constructor
 ·intro h c;have e:=Jpu (Jnp hc) (Jnp hd) h;have hm:∀x,x∈cs.map Jar↔x∈ds.map Jar:=fun x=> by rw [← (Jcs _).2,e,(Jcs _).2]
  constructor
  ·intro q;obtain ⟨d,hd1,hd2⟩:=List.mem_map.1 ((hm (Jar c)).1 (List.mem_map_of_mem q));rw [← Jpt (hd d hd1) (hc c q) hd2];exact hd1
  ·intro q;obtain ⟨d,hd1,hd2⟩:=List.mem_map.1 ((hm (Jar c)).2 (List.mem_map_of_mem q));rw [← Jpt (hc d hd1) (hd c q) hd2];exact hd1
 ·intro h;unfold Jio;refine congrArg _ (Jm4 (Jcs _).1 (Jcs _).1 fun z=> ?_);rw [(Jcs _).2,(Jcs _).2,List.mem_map,List.mem_map];exact ⟨fun ⟨c,q1,q2⟩=> ⟨c,(h c).1 q1,q2⟩,fun ⟨c,q1,q2⟩=> ⟨c,(h c).2 q1,q2⟩⟩
theorem Jl9 {cs:List Cnd}:Jio cs= []↔cs= []:=by
 constructor
 ·intro h;cases cs with
  | nil=> rfl
  | cons c cs=>
    exfalso
    have hm:=((Jcs ((c::cs).map Jar)).2 (Jar c)).2 Si;unfold Jio at h;have hne:∀a∈Jdo ((c::cs).map Jar),a≠ []:=fun a ha=> by
     obtain ⟨d,_,rfl⟩:=List.mem_map.1 (((Jcs _).2 a).1 ha);exact Jr6 d
    generalize Jdo ((c::cs).map Jar)=L at h hm hne;cases L with
    | nil=> cases hm
    | cons a L=>
      cases L with
      | nil=> exact hne a (.head _) h
      | cons b L=>
        rw [Jc7 (List.cons_ne_nil _ _)] at h;exact hne a (.head _) (List.append_eq_nil_iff.1 h).1
 ·rintro rfl;have h:Jdo (([]:List Cnd).map Jar)= []:=List.eq_nil_iff_forall_not_mem.2 fun x hx=> by cases ((Jcs _).2 x).1 hx
  unfold Jio;rw [h];rfl
def JgJ (c:Cnd):Bool:=decide (c.op=7)&& decide (Jih c.value c.mask≠0)
def Jnq (a b:List Cnd):Bool:=(a.all fun c=> decide (c∈b))&& b.all fun c=> decide (c∈a)
def Jip (r q:Rul):Bool:=kS q.name r.name&& (decide (q.conds.length=0)|| Jnq q.conds r.conds)
def JdD (l:List TRow) (rs:List Rul) (i:Nat):Int:=if Jbq l (rs.getD i Jn).name=false then 14 else if (rs.getD i Jn).conds.any JgJ=true then 16 else if (rs.take i).any (Jip (rs.getD i Jn))=true then 15 else 0
def Jgy (l:List TRow) (rs:List Rul):Option Nat:=(List.range rs.length).find? fun i=> decide (JdD l rs i≠0)
def Jaf (p:Pol) (l:List TRow):Int×Int:=if Ja8 p=false then (0,13) else if (Jcx l).2≠0 then (0,18) else match Jgy l p.rules with
 | some i=> ((i:Int),JdD l p.rules i)
 | none=> (0,0)
def Jjs (r:Rul):Bts:=r.name.data.toList
def Jjt (r:Rul):Bts:=Jjs r++58::Jio r.conds
theorem JCt {l:List UInt8} (h:JaQ l=true):(58:UInt8)∉l:=fun q=> by
 unfold JaQ at h
 simp only [Bool.and_eq_true] at h
 have:=List.all_eq_true.1 h.2.2.2.2.1 58 q
 revert this
 decide
theorem Jh6 {r:Rul} (h:JaJ r=true):(58:UInt8)∉Jjs r:=JCt (by
 unfold JaJ at h
 simp only [Bool.and_eq_true] at h
 exact h.1)
theorem Je0 {r:Rul} (h:JaJ r=true):∀c∈r.conds,JR c=true:=fun c hc=> by
 unfold JaJ at h
 simp only [Bool.and_eq_true] at h
 have:=h.2.2.2
 simp only [Bool.not_eq_true',List.any_eq_false] at this
 simpa using this c hc
theorem Jpv {a b:List Cnd}:Jnq a b=true↔∀c,c∈a↔c∈b:=by
 unfold Jnq
 simp only [Bool.and_eq_true,List.all_eq_true,decide_eq_true_eq]
 exact ⟨fun h c=> ⟨h.1 c,h.2 c⟩,fun h=> ⟨fun c=> (h c).1,fun c=> (h c).2⟩⟩
theorem Jsa {q r:Rul} (hq:JaJ q=true) (hr:JaJ r=true):Jjt q=Jjt r↔kS q.name r.name=true∧Jnq q.conds r.conds=true:=by
 unfold Jjt
 constructor
 ·intro h;obtain ⟨h1,h2⟩:=Jft (Jh6 hq) (Jh6 hr) h;exact ⟨JbU.2 (JhY h1),Jpv.2 ((Jr9 (Je0 hq) (Je0 hr)).1 h2)⟩
 ·rintro ⟨h1,h2⟩;unfold Jjs;rw [JbU.1 h1,(Jr9 (Je0 hq) (Je0 hr)).2 (Jpv.1 h2)]
theorem Jsb {q r:Rul} (hq:JaJ q=true) (hr:JaJ r=true):Jjt q=Jjs r++ [58]↔kS q.name r.name=true∧q.conds.length=0:=by
 unfold Jjt
 constructor
 ·intro h;obtain ⟨h1,h2⟩:=Jft (Jh6 hq) (Jh6 hr) h;exact ⟨JbU.2 (JhY h1),List.length_eq_zero_iff.2 (Jl9.1 h2)⟩
 ·rintro ⟨h1,h2⟩;unfold Jjs;rw [JbU.1 h1,Jl9.2 (List.length_eq_zero_iff.1 h2)]
def Jnr (rs:List Rul) (i:Nat):List Bts:=(rs.take i).map Jjt
theorem Jyn {rs:List Rul} (h:∀r∈rs,JaJ r=true) {i:Nat} {r:Rul} (hr:JaJ r=true):(Jjs r++ [58]∈Jnr rs i∨Jjt r∈Jnr rs i)↔(rs.take i).any (Jip r)=true:=by
 unfold Jnr
 rw [List.any_eq_true]
 constructor
 ·rintro (q | q)
  ·obtain ⟨x,hx,he⟩:=List.mem_map.1 q;obtain ⟨k1,k2⟩:=(Jsb (h x (List.mem_of_mem_take hx)) hr).1 he;exact ⟨x,hx,by unfold Jip;rw [k1,decide_eq_true k2];rfl⟩
  ·obtain ⟨x,hx,he⟩:=List.mem_map.1 q;obtain ⟨k1,k2⟩:=(Jsa (h x (List.mem_of_mem_take hx)) hr).1 he;exact ⟨x,hx,by unfold Jip;rw [k1,k2,Bool.or_true];rfl⟩
 ·rintro ⟨x,hx,he⟩;unfold Jip at he;rw [Bool.and_eq_true,Bool.or_eq_true,decide_eq_true_iff] at he;have hxr:=h x (List.mem_of_mem_take hx);rcases he with ⟨k1,k2 | k2⟩
  ·exact .inl (List.mem_map.2 ⟨x,hx,(Jsb hxr hr).2 ⟨k1,k2⟩⟩)
  ·exact .inr (List.mem_map.2 ⟨x,hx,(Jsa hxr hr).2 ⟨k1,k2⟩⟩)
theorem JAC {l:List TRow} {rs:List Rul} {i:Nat} (hi:i < rs.length) (h:∀j,j < i→JdD l rs j=0) (hv:JdD l rs i≠0):Jgy l rs=some i:=by
 unfold Jgy
 rw [List.find?_eq_some_iff_getElem]
 refine ⟨by simpa using hv,i,by simpa using hi,by simp,fun j hj=> ?_⟩
 simp [h j hj]
theorem Jns {l:List TRow} {rs:List Rul} (h:∀j,j < rs.length→JdD l rs j=0):Jgy l rs=none:=by
 unfold Jgy
 rw [List.find?_eq_none]
 intro j hj
 simp [h j (List.mem_range.1 hj)]
theorem JaC {p:Pol} {l:List TRow}:(Jaf p l).2=0↔Ja8 p=true∧(Jcx l).2=0∧∀i,i < p.rules.length→JdD l p.rules i=0:=by
 unfold Jaf
 by_cases h1:Ja8 p=false
 ·rw [if_pos h1];exact ⟨fun h=> absurd h Dc,fun h=> by rw [h1] at h;cases h.1⟩
 rw [if_neg h1]
 by_cases h2:(Jcx l).2≠0
 ·rw [if_pos h2];exact ⟨fun h=> absurd h Dc,fun h=> absurd h.2.1 h2⟩
 rw [if_neg h2]
 constructor
 ·intro h;refine ⟨by simpa using h1,by simpa using h2,fun i hi=> ?_⟩;cases hf:Jgy l p.rules with
  | none=>
    unfold Jgy at hf;have:=List.find?_eq_none.1 hf i (List.mem_range.2 hi);simpa using this
  | some j=>
    rw [hf] at h;unfold Jgy at hf;have:=List.find?_some hf;exact absurd h (by simpa using this)
 ·rintro ⟨_,_,h⟩;rw [Jns h]
theorem Jyo {p:Pol} {l:List TRow} (h:(Jaf p l).2=0):Jaf p l=(0,0):=by
 obtain ⟨h1,h2,h3⟩:=JaC.1 h
 unfold Jaf
 rw [if_neg (by rw [h1];decide),if_neg Om,Jns h3]
theorem Jyp {p:Pol} {l:List TRow} (h1:Ja8 p=true) (h2:(Jcx l).2=0) {i:Nat} (hi:i < p.rules.length) (h3:∀j,j < i→JdD l p.rules j=0) {v:Int} (h4:JdD l p.rules i=v) (h5:v≠0):Jaf p l=((i:Int),v):=by
 unfold Jaf
 rw [if_neg (by rw [h1];decide),if_neg Om,JAC hi h3 (by rw [h4];exact h5)]
 exact congrArg _ h4
theorem JCu {l:List TRow} {rs:List Rul} {i:Nat}:JdD l rs i=0↔Jbq l (rs.getD i Jn).name=true∧(rs.getD i Jn).conds.any JgJ=false∧(rs.take i).any (Jip (rs.getD i Jn))=false:=by
 unfold JdD
 by_cases h1:Jbq l (rs.getD i Jn).name=false
 ·rw [if_pos h1];exact ⟨fun h=> absurd h Dc,fun h=> by rw [h1] at h;cases h.1⟩
 rw [if_neg h1]
 by_cases h2:(rs.getD i Jn).conds.any JgJ=true
 ·rw [if_pos h2];exact ⟨fun h=> absurd h Dc,fun h=> by rw [h2] at h;cases h.2.1⟩
 rw [if_neg h2]
 by_cases h3:(rs.take i).any (Jip (rs.getD i Jn))=true
 ·rw [if_pos h3];exact ⟨fun h=> absurd h Dc,fun h=> by rw [h3] at h;cases h.2.2⟩
 rw [if_neg h3]
 exact ⟨fun _=> ⟨by simpa using h1,by simpa using h2,by simpa using h3⟩,fun _=> rfl⟩
theorem Jnt {p:Pol}:Ja8 p=true↔Ja7 p.dflt.1 p.dflt.2=true∧p.rules.length≤500∧∀r∈p.rules,JaJ r=true:=by
 unfold Ja8
 simp only [Bool.and_eq_true,decide_eq_true_eq,Bool.not_eq_true',List.any_eq_false,Bool.not_eq_false']
 exact ⟨fun h=> ⟨h.1,h.2.1,fun r hr=> by simpa using h.2.2 r hr⟩,fun h=> ⟨h.1,h.2.1,fun r hr=> by simpa using h.2.2 r hr⟩⟩
def sameV (r q:Rul):Prop:=r.name=q.name∧∀c,c∈r.conds↔c∈q.conds
theorem sameV.len {r q:Rul} (h:sameV r q):decide (r.conds.length=0)=decide (q.conds.length=0):=by
 have:r.conds.length=0↔q.conds.length=0:=by
  rw [List.length_eq_zero_iff,List.length_eq_zero_iff,List.eq_nil_iff_forall_not_mem,List.eq_nil_iff_forall_not_mem];exact ⟨fun k c hc=> k c ((h.2 c).2 hc),fun k c hc=> k c ((h.2 c).1 hc)⟩
 exact decide_eq_decide.2 this
end Go.Proofs.W
