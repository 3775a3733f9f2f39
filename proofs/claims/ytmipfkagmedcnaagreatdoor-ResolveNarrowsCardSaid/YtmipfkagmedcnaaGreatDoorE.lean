import Derived.Test.YtmipfkagmedcnaaGreatDoorD
import Derived.Sort.Walk0
import Derived.Shelf.Strings.Search1
import Derived.Shelf.Strings.FieldsFuncGrows
import Derived.Test.YtmipfkagmedcnaaGreatDoorC
import Derived.Ground.NamesProg
import Derived.Shelf.Lay
import Derived.Shelf.Small.Bits
import Derived.Lib.ItoaNum
import Derived.Sort.LotA
import Derived.Shelf.SortM.Plain
import Derived.Shelf.SortM.SortNone
import Derived.Shelf.SlGeneric
import Derived.Ground.SlgmProg
import Derived.Shelf.Strconv.Itoa3
import Derived.Test.YtmipfkagmedcnaaGreatDoorProg
set_option linter.unusedVariables false
set_option linter.unusedSimpArgs false
namespace Go.Proofs
open Go.Shelf
shelf_lay Lays.n106 Nm 106 at Tryz as Tryz.lays106
end Go.Proofs
namespace Go.Proofs.W
open Go.Vl Go.Shelf
set_option maxRecDepth 100000
def JcX (s t:ByteArray):Int:=Lib.compareBytes s.data.toList t.data.toList
theorem Jm7 (s t:ByteArray):Tells Tryz.prog 118 [.v (.string s), .v (.string t)] (.v (.int .i64 (JcX s t))):=
 JcA (vs:= [.string s, .string t]) ⟨_,Tryz.func118,rfl,rfl⟩ fun w=> (Any.strings_Compare Tryz.lays106 s t w).mono fun e w' ⟨h1,h2⟩=> ⟨h1,by subst h2;exact ⟨rfl,rfl,rfl,Nat.le_refl _,fun _ _=> rfl⟩⟩
theorem Jjo (r:TRow) (s:ByteArray):Tells Tryz.prog 117 [Jp r,Jf s] (int (JcX r.name s)):=by
 refine Jg Tryz.func117 rfl rfl fun nx=> ?_
 refine stp ?_
 refine Jd rfl rfl (Jm7 r.name s) ⟨AVle.refl _,AVle.refl _,trivial⟩ fun nx2=> ?_
 refine stp ?_
 exact Je rfl (AVle.refl _)
def JbC (l:List TRow) (s:ByteArray):Nat:=(l.takeWhile fun r=> decide (JcX r.name s < 0)).length
theorem Jua (l:List TRow) (s:ByteArray):JbC l s≤l.length:=by
 unfold JbC
 have:=congrArg List.length (List.takeWhile_append_dropWhile (p:=fun r:TRow=> decide (JcX r.name s < 0)) (l:=l))
 rw [List.length_append] at this
 omega
theorem JoR {s:ByteArray}:∀ {l:List TRow} {j:Nat},j < JbC l s→JcX (l.getD j Ji).name s < 0
 | [],j,h=> by simp [JbC] at h
 | r::l,j,h=> by
   unfold JbC at h
   rw [List.takeWhile_cons] at h
   by_cases hc:JcX r.name s < 0
   ·rw [if_pos (by simpa using hc)] at h
    cases j with
    | zero=> exact hc
    | succ j=> exact JoR (l:=l) (j:=j) (by unfold JbC;simp at h;omega)
   ·rw [if_neg (by simpa using hc)] at h;simp at h
theorem Jkm {s:ByteArray}:∀ {l:List TRow},JbC l s < l.length→¬JcX (l.getD (JbC l s) Ji).name s < 0
 | [],h=> by simp at h
 | r::l,h=> by
   by_cases hc:JcX r.name s < 0
   ·have e:JbC (r::l) s=JbC l s+1:=by unfold JbC;rw [List.takeWhile_cons,if_pos (by simpa using hc)];rfl
    rw [e] at h⊢
    exact Jkm (l:=l) (by simpa using h)
   ·have e:JbC (r::l) s=0:=by unfold JbC;rw [List.takeWhile_cons,if_neg (by simpa using hc)];rfl
    rw [e];exact hc
def Jgy (l:List TRow) (s:ByteArray):Prop:=∀i j,i < j→j < l.length→JcX (l.getD j Ji).name s < 0→JcX (l.getD i Ji).name s < 0
theorem Jub {l:List TRow} {s:ByteArray} (hs:Jgy l s) {j:Nat} (h1:JbC l s≤j) (h2:j < l.length):¬JcX (l.getD j Ji).name s < 0:=fun h=> by
 rcases Nat.lt_or_ge (JbC l s) j with q | q
 ·exact Jkm (by omega) (hs _ j q h2 h)
 ·have e:JbC l s=j:=by omega
  exact Jkm (l:=l) (s:=s) (by omega) (by rw [e];exact h)
def JaS (l:List TRow) (s:ByteArray):Bool:=decide (JbC l s < l.length)&& decide (JcX (l.getD (JbC l s) Ji).name s=0)
theorem Juc {a b:Nat} (h:a+b≤4000000):IntKind.i64.wrap ((IntKind.u64.wrap (IntKind.i64.wrap ((a:Int)+(b:Int)))).fdiv (2 ^ min (Int.toNat 1) IntKind.u64.bits))=(((a+b) / 2:Nat):Int):=by
 rw [JaX (n:=(a:Int)+(b:Int)) (by omega) (by omega)]
 have hu:IntKind.u64.wrap ((a:Int)+(b:Int))=(a:Int)+(b:Int):=by
  show ((a:Int)+(b:Int)) % 18446744073709551616=_
  omega
 rw [hu]
 have h2:(2:Int) ^ min (Int.toNat 1) IntKind.u64.bits=2:=by decide
 rw [h2,Int.fdiv_eq_ediv_of_nonneg _ (by decide)]
 rw [JaX (by omega) (by omega)]
 omega
set_option maxHeartbeats 2000000 in
theorem Jm8 (l:List TRow) (s:ByteArray) (hl:l.length≤1000000) (hs:Jgy l s):
 Tells Tryz.prog 116 [J5 l,Jf s,fn0 117] (.tup [int (JbC l s),Jb (JaS l s)]):=by
 have hk:=Jua l s
 have hlt:=fun j=> JoR (l:=l) (s:=s) (j:=j)
 have hge:=fun j=> Jub (j:=j) hs
 unfold JaS
 generalize JbC l s=k at hk hlt hge⊢
 refine Jg Tryz.func116 rfl rfl fun nx=> ?_
 refine stp ?_
 refine JN (fun y:Nat×Nat×Nat=> mk 49 [(0,J5 l),(1,Jf s),(2,fn0 117),(8,int l.length),(9,int y.1),(10,int y.2.1)] ⟨[], [],y.2.2,0⟩) (fun y=> y.1≤k∧k≤y.2.1∧y.2.1≤l.length) (fun y=> y.2.1 - y.1) ?_ ?_
 ·exact ⟨(0,l.length,nx),⟨Nat.zero_le _,hk,Nat.le_refl _⟩,Ja0 rfl rfl ⟨AVle.refl _,AVle.refl _,AVle.refl _,AVle.refl _,AVle.refl _,AVle.refl _,trivial⟩⟩
 ·rintro ⟨lo,hi,nx1⟩ ⟨h1,h2,h3⟩
  dsimp only at h1 h2 h3
  refine stp ?_
  intro c g;cases c
  ·have g:=JC g
   try dsimp only at g
   have e:lo=k:=by omega
   subst e
   by_cases hkl:lo < l.length
   ·have hf1:=Jjo (l.getD lo Ji) s
    have hd:decide ((lo:Int) < (l.length:Int))=true:=decide_eq_true (by omega)
    refine stp ?_
    (conv=> whnf)
    refine JeJ hd ?_
    refine stp ?_
    refine ⟨⟨by first | omega | (dsimp only;omega),by first | omega | (dsimp only;omega)⟩, ?_⟩
    refine stp ?_
    refine Jd rfl rfl hf1 ⟨AVle.refl _,AVle.refl _,trivial⟩ fun nx2=> ?_
    intro c t;cases c
    all_goals
     refine stp ?_
     exact Je rfl (AVle.tups (cs:= [_,_]) ⟨AVle.refl _,JF (t.trans (by rw [decide_eq_true hkl,Bool.true_and,Bool.eq_iff_iff];simp)),trivial⟩)
   ·have hd:decide ((lo:Int) < (l.length:Int))=false:=decide_eq_false (by omega)
    rw [decide_eq_false hkl,Bool.false_and]
    refine stp ?_
    (conv=> whnf)
    refine JeJ hd ?_
    refine stp ?_
    exact Je rfl (AVle.refl _)
  ·have g:=JD g
   try dsimp only at g
   have hm:=Juc (a:=lo) (b:=hi) (by omega)
   have hml:(lo+hi) / 2 < l.length:=by omega
   have hf1:=Jjo (l.getD ((lo+hi) / 2) Ji) s
   refine stp ?_
   refine ⟨⟨JcW (i:=(lo+hi) / 2) hm,Jdb (i:=(lo+hi) / 2) hm hml⟩,JI (b:= .rp (Jcm (l.getD ((lo+hi) / 2) Ji))) (congrArg (fun z:Int=> AV.rp (Jcm (l.getD z.toNat Ji))) hm) ?_⟩
   refine stp ?_
   refine Jd rfl rfl hf1 ⟨AVle.refl _,AVle.refl _,trivial⟩ fun nx2=> ?_
   refine stp ?_
   intro c gg;cases c
   ·have gg:¬JcX (l.getD ((lo+hi) / 2) Ji).name s < 0:=JC gg
    have hkm:k≤(lo+hi) / 2:=by
     rcases Nat.lt_or_ge ((lo+hi) / 2) k with q | q
     ·exact absurd (hlt _ q) gg
     ·exact q
    refine stp ?_
    exact back (lo,(lo+hi) / 2,nx2) ⟨h1,hkm,by dsimp only;omega⟩ (by dsimp only;omega) (Ja0 rfl rfl ⟨AVle.refl _,AVle.refl _,AVle.refl _,AVle.refl _,AVle.refl _,Jk hm,trivial⟩)
   ·have gg:JcX (l.getD ((lo+hi) / 2) Ji).name s < 0:=JD gg
    have hkm:(lo+hi) / 2+1≤k:=by
     rcases Nat.lt_or_ge ((lo+hi) / 2) k with q | q
     ·exact q
     ·exact absurd gg (hge _ q hml)
    refine stp ?_
    exact back ((lo+hi) / 2+1,hi,nx2) ⟨hkm,h2,h3⟩ (by dsimp only;omega) (Ja0 rfl rfl ⟨AVle.refl _,AVle.refl _,AVle.refl _,AVle.refl _,Jk (by rw [hm];exact Js (by omega)),AVle.refl _,trivial⟩)
def Jjp (l:List TRow) (s:ByteArray):AV:=if JaS l s then .tup [Jp (l.getD (JbC l s) Ji),int (JbC l s),Jb true] else .tup [Jp Ji,int 0,Jb false]
theorem Jfq (l:List TRow) (s:ByteArray) (hl:l.length≤1000000) (hs:Jgy l s):Tells Tryz.prog 50 [J5 l,Jf s] (Jjp l s):=by
 have hb:=Jm8 l s hl hs
 have hk:JaS l s=true→JbC l s < l.length:=fun h=> by unfold JaS at h;simp only [Bool.and_eq_true,decide_eq_true_eq] at h;exact h.1
 unfold Jjp
 generalize JbC l s=k at hb hk⊢
 refine Jg Tryz.func50 rfl rfl fun nx=> ?_
 cases hf:JaS l s with
 | true=>
   rw [hf] at hb hk
   have hk:=hk rfl
   rw [if_pos rfl]
   refine stp ?_
   refine Jd rfl rfl hb ⟨AVle.refl _,AVle.refl _,AVle.refl _,trivial⟩ fun nx2=> ?_
   refine stp ?_
   refine ⟨⟨by first | omega | (dsimp only;omega),by first | omega | (dsimp only;omega)⟩, ?_⟩
   refine stp ?_
   exact Jl rfl ⟨rfl,trivial⟩ (AVle.refl _)
 | false=>
   rw [hf] at hb
   rw [if_neg (by decide)]
   refine stp ?_
   refine Jd rfl rfl hb ⟨AVle.refl _,AVle.refl _,AVle.refl _,trivial⟩ fun nx2=> ?_
   refine stp ?_
   exact Jl rfl ⟨rfl,trivial⟩ (AVle.refl _)
theorem JoS:∀ {a b:List UInt8},Lib.compareBytes a b < 0↔a < b
 | [], []=> by simp [Lib.compareBytes]
 | [],b::l=> by simp [Lib.compareBytes]
 | a::l, []=> by simp [Lib.compareBytes]
 | a::l,b::m=> by
   have ih:=JoS (a:=l) (b:=m)
   unfold Lib.compareBytes
   rw [List.cons_lt_cons_iff]
   split
   ·rename_i h;simp [h]
   ·rename_i h
    split
    ·rename_i h2
     constructor
     ·intro h3;exact absurd h3 (by decide)
     ·rintro (h3 | ⟨h3,_⟩)
      ·exact absurd h3 h
      ·subst h3;exact absurd h2 h
    ·rename_i h2
     rw [ih]
     constructor
     ·intro h3;exact .inr ⟨UInt8.le_antisymm (UInt8.not_lt.1 h2) (UInt8.not_lt.1 h),h3⟩
     ·rintro (h3 | ⟨_,h3⟩)
      ·exact absurd h3 h
      ·exact h3
theorem Jm9:∀ {a b:List UInt8},Lib.compareBytes a b=0↔a=b
 | [], []=> by simp [Lib.compareBytes]
 | [],b::l=> by simp [Lib.compareBytes]
 | a::l, []=> by simp [Lib.compareBytes]
 | a::l,b::m=> by
   have ih:=Jm9 (a:=l) (b:=m)
   unfold Lib.compareBytes
   split
   ·rename_i h
    constructor
    ·intro h3;exact absurd h3 (by decide)
    ·intro h3;cases h3;exact absurd h (UInt8.lt_irrefl _)
   ·rename_i h
    split
    ·rename_i h2
     constructor
     ·intro h3;exact absurd h3 (by decide)
     ·intro h3;cases h3;exact absurd h2 (UInt8.lt_irrefl _)
    ·rename_i h2
     rw [ih,List.cons.injEq]
     exact ⟨fun h3=> ⟨UInt8.le_antisymm (UInt8.not_lt.1 h2) (UInt8.not_lt.1 h),h3⟩,fun h3=> h3.2⟩
theorem JfI {s t:ByteArray} (h:s.data.toList=t.data.toList):s=t:=by
 obtain ⟨⟨l⟩⟩:=s;obtain ⟨⟨l'⟩⟩:=t
 exact congrArg (fun l=> (⟨⟨l⟩⟩:ByteArray)) h
theorem Jjq:∀x y:List UInt8,Go.Sort.ltStr x y=false→Go.Sort.ltStr y x=false→x=y:=fun x y h1 h2=> by
 simp only [Go.Sort.ltStr,decide_eq_false_iff_not,List.not_lt] at h1 h2
 exact List.le_antisymm h2 h1
theorem Jud {s t:ByteArray}:JcX s t < 0↔Go.Sort.ltStr s.data.toList t.data.toList=true:=by
 unfold JcX Go.Sort.ltStr;rw [JoS,decide_eq_true_iff]
theorem Jue {s t:ByteArray}:JcX s t=0↔s=t:=by
 unfold JcX;rw [Jm9]
 exact ⟨JfI,fun h=> by rw [h]⟩
theorem Jvb {s t:ByteArray} (h:leB s t=false):Go.Sort.ltStr t.data.toList s.data.toList=true:=by
 unfold leB at h
 rw [Bool.or_eq_false_iff,Go.Proofs.bytesLess_eq,Lib.toList_data,Lib.toList_data] at h
 cases hl:Go.Sort.ltStr t.data.toList s.data.toList with
 | true=> rfl
 | false=>
   have e:=Jjq _ _ hl h.1
   rw [e] at h;simp at h
def Jkn (l:List TRow):Prop:=∀i j,i < j→j < l.length→Go.Sort.ltStr (l.getD i Ji).name.data.toList (l.getD j Ji).name.data.toList=true
theorem JfR {l:List TRow} (h:Jkn l) (s:ByteArray):Jgy l s:=fun i j hij hj hc=> by
 rw [Jud] at hc⊢
 exact Go.Sort.swo_ltStr.trans _ _ _ (h i j hij hj) hc
end Go.Proofs.W

namespace Go.Proofs.W
open Go.Vl
set_option maxRecDepth 100000
end Go.Proofs.W

namespace Go.Proofs
open Go.Shelf
shelf_lay Lays.n217 Nm 217 at Tryz as Tryz.lays217
shelf_lay Lays.n229 Nm 229 at Tryz as Tryz.lays229
end Go.Proofs
namespace Go.Proofs.W
open Go.Vl Go.Shelf
set_option maxRecDepth 100000
def i32 (n:Int):AV:= .v (.int .i32 n)
def JdG (x:Nat):Bool:=decide (x=32)|| decide (x=9)|| decide (x=13)
theorem Jjr (x:Nat):Tells Tryz.prog 178 [i32 x] (Jb (JdG x)):=by
 have hb:JdG x=(((x:Int) ==32)|| (((x:Int) ==9)|| ((x:Int) ==13))):=by
  unfold JdG
  rw [show ((x:Int) ==32)=decide (x=32) by rw [Bool.eq_iff_iff];simp;omega,show ((x:Int) ==9)=decide (x=9) by rw [Bool.eq_iff_iff];simp;omega,show ((x:Int) ==13)=decide (x=13) by rw [Bool.eq_iff_iff];simp;omega,Bool.or_assoc]
 refine Jg Tryz.func178 rfl rfl fun nx=> ?_
 refine stp ?_
 intro c hc
 have hc2:c=((x:Int) ==32):=hc
 clear hc
 rw [← hc2] at hb
 clear hc2
 cases c
 ·refine stp ?_
  intro c hc
  have hc2:c=((x:Int) ==9):=hc
  clear hc
  rw [← hc2,Bool.false_or] at hb
  clear hc2
  cases c
  ·refine stp ?_
   intro c hc
   have hc2:c=((x:Int) ==13):=hc
   clear hc
   rw [← hc2,Bool.false_or] at hb
   refine stp ?_
   exact Je rfl (JF (by exact hb.symm))
  ·refine stp ?_
   exact Je rfl (JF (by exact hb.symm))
 ·refine stp ?_
  exact Je rfl (JF (by exact hb.symm))
def Jna (s:ByteArray):Prop:=∀i,i < s.size→(s.get! i).toNat < 128∧(JdG (s.get! i).toNat=true∨(32≤(s.get! i).toNat∧(s.get! i).toNat≤126))
set_option maxHeartbeats 2000000 in
theorem Jjs (s:ByteArray) (hs:Jna s) (hl:s.size≤1000000):Tells Tryz.prog 176 [Jf s] (Jb true):=by
 refine Jg Tryz.func176 rfl rfl fun nx=> ?_
 refine stp ?_
 refine Jpu rfl Tryz.underlying9 rfl ?_
 refine stp ?_
 refine JN (fun y:Nat×Nat=> mk 21 [(0,Jf s),(6, .bp (0,nx) 0)] ⟨[((0,nx), .si s y.1)], [],y.2,1⟩) (fun y=> y.1≤s.size) (fun y=> s.size - y.1) ?_ ?_
 ·exact ⟨(0,nx+1),Nat.zero_le _,Jh (pm:= []) (bx:= [((0,nx), .si s 0)]) _ _ rfl rfl (List.Sublist.refl _) (List.Sublist.refl _) (BxLe.refl _) trivial ⟨AVle.refl _,AVle.refl _,trivial⟩⟩
 ·rintro ⟨i,nx1⟩ h1
  dsimp only at h1
  refine stp ?_
  by_cases hi:i < s.size
  ·obtain ⟨q1,q2⟩:=hs i hi
   have hd:=Jrf q1
   have hbl:=Jjr (s.get! i).toNat
   generalize (s.get! i).toNat=x at q1 q2 hd hbl
   refine Jpv rfl rfl rfl hi hd ?_
   refine stp ?_
   refine Jd rfl rfl hbl ⟨AVle.refl _,trivial⟩ fun nx2=> ?_
   cases hb:JdG x with
   | true=>
     refine stp ?_
     exact back (i+1,nx2) hi (by dsimp only;omega) (Jh (pm:= []) (bx:= [((0,nx), .si s (i+1))]) _ _ rfl rfl (List.Sublist.refl _) (List.Sublist.refl _) (BxLe.refl _) trivial ⟨AVle.refl _,AVle.refl _,trivial⟩)
   | false=>
     rw [hb] at q2
     have h32:32≤x∧x≤126:=q2.resolve_left (by decide)
     refine stp ?_
     (intro c hc;obtain rfl:c=false:=hc.trans (by first | exact decide_eq_false (by omega) | (simp;omega));refine stp ?_)
     (intro c hc;obtain rfl:c=false:=hc.trans (by first | exact decide_eq_false (by omega) | (simp;omega));refine stp ?_)
     exact back (i+1,nx2) hi (by dsimp only;omega) (Jh (pm:= []) (bx:= [((0,nx), .si s (i+1))]) _ _ rfl rfl (List.Sublist.refl _) (List.Sublist.refl _) (BxLe.refl _) trivial ⟨AVle.refl _,AVle.refl _,trivial⟩)
  ·refine Jpw rfl rfl rfl hi ?_
   refine stp ?_
   exact Je rfl (AVle.refl _)
end Go.Proofs.W

namespace Go.Proofs.W
open Go.Vl Go.Shelf
set_option maxRecDepth 100000
theorem JrA (s:ByteArray) (c:Int):Tells Tryz.prog 316 [.v (.string s), .v (.int .u8 c)] (.v (.int .i64 (Lib.indexByte s.data.toList c.toNat.toUInt8))):=
 JcA (vs:= [.string s, .int .u8 c]) ⟨_,Tryz.func316,rfl,rfl⟩ fun w=> (Any.stringslite_IndexByte Tryz.lays217 s c w).mono fun e w' ⟨h1,h2⟩=> ⟨h1,by subst h2;exact ⟨rfl,rfl,rfl,Nat.le_refl _,fun _ _=> rfl⟩⟩
theorem Jig (s:ByteArray) (hs:s.size≤1000000):Tells Tryz.prog 177 [Jf s, .fn (.func 178) [] []] (.sl 1 (Lib.goFieldsP JdG s).length fun k=> .v (((Lib.goFieldsP JdG s).map Value.string).getD k undef)):=by
 have h:=JmI (P:=Tryz.prog) (f:=177) (ars:= [Jf s, .fn (.func 178) [] []]) (vs:= [.string s, .func (.func 178) #[] #[]]) (xs:=(Lib.goFieldsP JdG s).map Value.string) (t:=9) ⟨_,Tryz.func177,rfl,rfl⟩ (fun w X g us h1 h2=> by
  match us,h1 with
  | [a,b],_=>
    have ha:=h2 0 _ a rfl rfl
    have hb:=JvU _ _ _ _ (h2 1 _ b rfl rfl)
    generalize a=a' at ha
    generalize b=b' at hb
    cases ha
    cases hb
    rfl) (fun w hk=> by
  rw [List.length_map]
  exact Any.strings_FieldsFunc_grows Tryz.lays229 178 #[] (fun args w=> enters_of Tryz.func178 (by kernel_rfl) rfl args w) JdG s w (by omega) (JlT (fun x _=> Jjr x) w hk) (by kernel_rfl) (by kernel_rfl))
 rw [List.length_map] at h
 exact h
set_option maxHeartbeats 1000000 in
theorem Jlc (s:ByteArray) (b:UInt8) (hne:((⟨#[b]⟩:ByteArray).toList ==s.toList)=false):Tells Tryz.prog 371 [Jf s,Jf ⟨#[b]⟩] (int (Lib.indexByte s.data.toList b)):=by
 have hi:=JrA s (b.toNat:Int)
 have hbb:((b.toNat:Int).toNat.toUInt8)=b:=by simp
 rw [hbb] at hi
 refine Jg Tryz.func371 rfl rfl fun nx=> ?_
 refine stp ?_
 intro c hc
 obtain rfl:c=false:=hc.trans hne
 refine stp ?_
 (conv=> whnf)
 refine ⟨⟨by decide,(show (0:Int) < 1 by decide)⟩, ?_⟩
 refine stp ?_
 refine Jd rfl rfl hi ⟨AVle.refl _,AVle.refl _,trivial⟩ fun nx2=> ?_
 refine stp ?_
 exact Je rfl (AVle.refl _)
set_option maxHeartbeats 1000000 in
theorem Jld (s:ByteArray) (b:UInt8) (hne:((⟨#[b]⟩:ByteArray).toList ==s.toList)=false) (h:Lib.indexByte s.data.toList b=-1):Tells Tryz.prog 251 [Jf s,Jf ⟨#[b]⟩] (.tup [Jf s,Jf ⟨#[]⟩,Jb false]):=by
 have hi:=Jlc s b hne
 rw [h] at hi
 have hc:Tells Tryz.prog 305 [Jf s,Jf ⟨#[b]⟩] (.tup [Jf s,Jf ⟨#[]⟩,Jb false]):=by
  refine Jg Tryz.func305 rfl rfl fun nx=> ?_
  refine stp ?_
  refine Jd rfl rfl hi ⟨AVle.refl _,AVle.refl _,trivial⟩ fun nx2=> ?_
  refine stp ?_
  exact Jl rfl trivial (AVle.refl _)
 refine Jg Tryz.func251 rfl rfl fun nx=> ?_
 refine stp ?_
 refine Jd rfl rfl hc ⟨AVle.refl _,AVle.refl _,trivial⟩ fun nx2=> ?_
 refine stp ?_
 exact Jl rfl trivial (AVle.refl _)
theorem Jjt (s:ByteArray) (b:UInt8) (hne:((⟨#[b]⟩:ByteArray).toList ==s.toList)=false):Tells Tryz.prog 370 [Jf s,Jf ⟨#[b]⟩] (int (Lib.indexByte s.data.toList b)):=by
 have hi:=Jlc s b hne
 refine Jg Tryz.func370 rfl rfl fun nx=> ?_
 refine stp ?_
 refine Jd rfl rfl hi ⟨AVle.refl _,AVle.refl _,trivial⟩ fun nx2=> ?_
 refine stp ?_
 exact Je rfl (AVle.refl _)
end Go.Proofs.W

namespace Go.Proofs.W
open Go.Vl Go.Shelf
set_option maxRecDepth 100000
def JaY:ByteArray:=⟨#[100,101,102,97,117,108,116,32,107,105,108,108]⟩
def lineB:ByteArray:=⟨#[114,101,97,100,32,97,108,108,111,119]⟩
def textAB:ByteArray:=⟨#[100,101,102,97,117,108,116,32,107,105,108,108,10,114,101,97,100,32,97,108,108,111,119]⟩
theorem Jp0 (s:ByteArray):Tells Tryz.prog 175 [Jf s] (.fn (.func 249) [] [.rp [Jf s]]):=by
 refine Jg Tryz.func175 rfl rfl fun nx=> ?_
 (repeat ((conv=>whnf);first|refine ω0 ?_|refine ω1 ?_|refine ω2 ?_|refine ω3 ?_|refine ω4 rfl ?_|refine ω5 rfl ?_|refine ω6 ?_|refine ω7 ?_|refine ⟨rfl,?_⟩|refine ⟨trivial,?_⟩|refine ⟨⟨rfl,Nat.le_of_ble_eq_true rfl⟩,?_⟩|refine ⟨⟨by kernel_rfl,by kernel_rfl⟩,?_⟩|refine ⟨by decide,?_⟩|refine Jfj ?_|refine JeG ?_))
 refine AW.le (Jcl (L:= [(2, .fn (.func 249) [] [.rp [Jf s]])]) (bx:= []) (pm:= []) (nn:=1) [((0,nx), .c [Jf s])] rfl rfl (List.Sublist.refl _) .slnil ⟨Frz.fn trivial ⟨Frz.bp (.head _) rfl,trivial⟩,trivial⟩) ?_
 refine stp ?_
 exact Je rfl (AVle.refl _)
def JbS (a:Nat) (s sep:ByteArray):List (Vl.Id×Own):= [((12,a+2), .c [int 0]),((11,a+1), .c [Jf sep]),((10,a), .c [Jf s])]
def Jnb (a:Nat):AV:= .fn (.func 368) [] [.bp (11,a+1) 0, .bp (10,a) 0, .bp (12,a+2) 0]
theorem Joi (s sep:ByteArray) (nx:Nat):ECall Tryz.prog 304 [Jf s,Jf sep,int 0] ⟨[], [],nx,10⟩ fun r h'=> r=Jnb nx∧h'=⟨JbS nx s sep, [],nx+3,13⟩:=by
 refine JU Tryz.func304 rfl rfl ?_
 refine stp ?_
 exact J7 rfl ⟨rfl,rfl⟩
theorem JlX (s sep:ByteArray) (nx:Nat):ECall Tryz.prog 250 [Jf s,Jf sep] ⟨[], [],nx,10⟩ fun r h'=> r=Jnb nx∧h'=⟨JbS nx s sep, [],nx+3,13⟩:=by
 refine JU Tryz.func250 rfl rfl ?_
 refine stp ?_
 refine JfF (xs:= [Jf s,Jf sep,int 0]) [] [] 13 rfl rfl rfl rfl ⟨AVle.refl _,AVle.refl _,AVle.refl _,trivial⟩ (Joi s sep nx) (BxLe.refl _) (PmEq.refl _) rfl fun r h' hq=> ?_
 obtain ⟨rfl,rfl⟩:=hq
 refine stp ?_
 exact J7 rfl ⟨rfl,rfl⟩
def JwQ:Nat→ByteArray
 | 0=> textAB
 | _=> lineB
set_option maxHeartbeats 2000000 in
theorem Jp1 (a:Nat):Jke Tryz.prog 368 [] [.bp (11,a+1) 0, .bp (10,a) 0, .bp (12,a+2) 0] (fun s:ByteArray=> [Jf s]) [JaY,lineB] (JbS a textAB ⟨#[10]⟩):=by
 intro i σ Cb Cp I hc s0 nx nn h0
 refine ECall.wk (JU Tryz.func368 rfl rfl ?_)
 have hi0:=Jjt textAB 10 (by rw [Lib.toList_data,Lib.toList_data];decide)
 have hi1:=Jjt lineB 10 (by rw [Lib.toList_data,Lib.toList_data];decide)
 rw [show Lib.indexByte textAB.data.toList 10=12 by decide] at hi0
 rw [show Lib.indexByte lineB.data.toList 10=-1 by decide] at hi1
 refine stp ?_
 refine JN (fun y:Nat×σ×Nat=> mk 52 [(0, .yl i),(1, .bp (11,a+1) 0),(2, .bp (10,a) 0),(3, .bp (12,a+2) 0)] ⟨JbS a (JwQ y.1) ⟨#[10]⟩++Cb y.2.1,Cp y.2.1,y.2.2,nn⟩) (fun y=> y.1≤1∧I ([JaY].take y.1) y.2.1) (fun y=> 1 - y.1) ?_ ?_
 ·exact ⟨(0,s0,nx),⟨Nat.zero_le _,h0⟩,Jh _ _ rfl rfl (List.Sublist.refl _) (List.Sublist.refl _) (BxLe.refl _) (PmEq.refl _) ⟨AVle.refl _,AVle.refl _,AVle.refl _,AVle.refl _,trivial⟩⟩
 ·rintro ⟨k,s,nx1⟩ ⟨k1,hI⟩
  dsimp only at k1 hI
  obtain rfl | rfl:k=0∨k=1:=by omega
  ·refine stp ?_
   refine Jd rfl rfl hi0 ⟨AVle.refl _,AVle.refl _,trivial⟩ fun nx2=> ?_
   refine stp ?_
   (conv=> whnf)
   refine ⟨⟨by decide,(by decide:(12:Int)≤23)⟩,JI (b:=Jf JaY) (by kernel_rfl) ?_⟩
   refine stp ?_
   refine Jgr (pre:= []) (x:=JaY) (post:= [lineB]) (s:=s) (JbS a textAB ⟨#[10]⟩) [] rfl rfl rfl hc rfl hI ⟨AVle.refl _,trivial⟩ (fun s' nx' hI'=> ?_) (fun s' nx' hJ=> hJ.elim)
   refine stp ?_
   exact back (1,s',nx') ⟨Nat.le_refl _,hI'⟩ (by dsimp only;omega) (Jh (bx:=JbS a lineB ⟨#[10]⟩++Cb s') _ _ rfl rfl (List.Sublist.refl _) (List.Sublist.refl _) ⟨rfl,OwnLe.refl _,rfl,OwnLe.refl _,rfl,⟨AVle.of_eq (by kernel_rfl),trivial⟩,BxLe.refl _⟩ (PmEq.refl _) ⟨AVle.refl _,AVle.refl _,AVle.refl _,AVle.refl _,trivial⟩)
  ·refine stp ?_
   refine Jd rfl rfl hi1 ⟨AVle.refl _,AVle.refl _,trivial⟩ fun nx2=> ?_
   refine stp ?_
   refine Jgr (pre:= [JaY]) (x:=lineB) (post:= []) (s:=s) (JbS a lineB ⟨#[10]⟩) [] rfl rfl rfl hc rfl hI ⟨AVle.refl _,trivial⟩ (fun s' nx' hI'=> ?_) (fun s' nx' hJ=> hJ.elim)
   refine stp ?_
   refine J7 rfl ⟨_,⟨Cb s',Cp s',nx',0⟩,AVle.refl _, ?_,s',hI',rfl,rfl⟩
   exact Jay _ _ rfl (List.sublist_append_right _ _) (List.Sublist.refl _) (BxLe.refl _) (PmEq.refl _)
end Go.Proofs.W

namespace Go.Proofs.W
open Go.Vl Go.Shelf
set_option maxRecDepth 100000
def JtW (p:ByteArray×Nat):List AV:= [int p.2,Jf p.1]
theorem JfJ {pre post:List ByteArray} {x:ByteArray} (h: [JaY,lineB]=pre++x::post):(pre= []∧x=JaY∧post= [lineB])∨(pre= [JaY]∧x=lineB∧post= []):=by
 match pre,h with
 | [],h=> cases h;exact .inl ⟨rfl,rfl,rfl⟩
 | [_],h=> cases h;exact .inr ⟨rfl,rfl,rfl⟩
 | _::_::pre,h=> simp at h
theorem JwR:Tells Tryz.prog 251 [Jf JaY,Jf ⟨#[35]⟩] (.tup [Jf JaY,Jf ⟨#[]⟩,Jb false]):=Jld JaY 35 (by rw [Lib.toList_data,Lib.toList_data];decide) (by decide)
theorem JwS:Tells Tryz.prog 251 [Jf lineB,Jf ⟨#[35]⟩] (.tup [Jf lineB,Jf ⟨#[]⟩,Jb false]):=Jld lineB 35 (by rw [Lib.toList_data,Lib.toList_data];decide) (by decide)
set_option maxHeartbeats 4000000 in
theorem Jp2:Jke Tryz.prog 249 [] [.rp [Jf textAB]] JtW [(JaY,1),(lineB,2)] []:=by
 intro i σ Cb Cp I hc s0 nx nn h0
 refine ECall.wk (JU Tryz.func249 rfl rfl ?_)
 refine AW.le (E':=mk 21 [(0, .yl i),(1, .rp [Jf textAB])] ⟨Cb s0,Cp s0,nx,0⟩ (some [])) (Jh _ _ rfl rfl (List.Sublist.refl _) (List.Sublist.refl _) (BxLe.refl _) (PmEq.refl _) ⟨AVle.refl _,AVle.refl _,trivial⟩) ?_
 refine stp ?_
 refine JfF (xs:= [Jf textAB,Jf ⟨#[10]⟩]) (bx1:= []) (pm1:= []) (((1,nx+1), .c [int 0])::((0,nx), .c [.yl i])::Cb s0) (Cp s0) 13 rfl rfl rfl (List.append_nil _).symm ⟨AVle.refl _,AVle.refl _,trivial⟩ (JlX textAB ⟨#[10]⟩ (nx+2)) (BxLe.refl _) (PmEq.refl _) rfl fun r h' hq=> ?_
 obtain ⟨rfl,rfl⟩:=hq
 refine JV ?_
 refine AW.le (E':=mk 21 [(2, .bp (0,nx) 0),(3, .bp (1,nx+1) 0),(6,Jnb (nx+2))] ⟨JbS (nx+2) textAB ⟨#[10]⟩++(((1,nx+1), .c [int 0])::((0,nx), .c [.yl i])::Cb s0),Cp s0,nx+5,13⟩ (some [])) (Jh _ _ rfl rfl (List.Sublist.refl _) (List.Sublist.refl _) (BxLe.refl _) (by rw [List.append_nil];exact PmEq.refl _) ⟨AVle.refl _,AVle.refl _,AVle.refl _,trivial⟩) ?_
 refine JV ?_
 refine JoL (σ:=σ×Nat) (e:=fun s:ByteArray=> [Jf s]) (xs:= [JaY,lineB]) (first':= []) (caps':= [.bp (11,nx+2+1) 0, .bp (10,nx+2) 0, .bp (12,nx+2+2) 0]) (JbS (nx+2) textAB ⟨#[10]⟩) (fun y=> ((1,nx+1), .c [int y.2])::((0,nx), .c [.yl i])::Cb y.1) (fun y=> Cp y.1) (fun pre y=> y.2=pre.length∧I (pre.zipIdx 1) y.1) (s0,0) rfl rfl (Jp1 (nx+2)) (LeL.refl _) (LeL.refl _) rfl rfl ⟨rfl,h0⟩ (fun _=> rfl) ?_ ?_
 ·rintro pre x post ⟨s,n⟩ nx3 nn3 hx ⟨hn,hI⟩
  dsimp only at hn hI
  have hcut:Tells Tryz.prog 251 [Jf x,Jf ⟨#[35]⟩] (.tup [Jf x,Jf ⟨#[]⟩,Jb false]):=by
   rcases JfJ hx with ⟨_,rfl,_⟩ | ⟨_,rfl,_⟩
   ·exact JwR
   ·exact JwS
  have hlen:pre.length≤1:=by rcases JfJ hx with ⟨rfl,_⟩ | ⟨rfl,_⟩ <;> decide
  have hX: [(JaY,1),(lineB,2)]=pre.zipIdx 1++(x,n+1)::post.zipIdx (pre.length+2):=by
   rw [hn]
   rcases JfJ hx with ⟨rfl,rfl,rfl⟩ | ⟨rfl,rfl,rfl⟩ <;> rfl
  have hI2:(pre++ [x]).zipIdx 1=pre.zipIdx 1++ [(x,n+1)]:=by
   rw [hn]
   rcases JfJ hx with ⟨rfl,rfl,rfl⟩ | ⟨rfl,rfl,rfl⟩ <;> rfl
  refine JV ?_
  refine Jan ?_
  refine stp ?_
  refine Jd rfl rfl hcut ⟨AVle.refl _,AVle.refl _,trivial⟩ fun nx4=> ?_
  refine stp ?_
  refine Jgr (pre:=pre.zipIdx 1) (x:=(x,n+1)) (post:=post.zipIdx (pre.length+2)) (s:=s) [_,_,_,_] [] rfl rfl rfl hc hX hI ⟨Jk (Js (by omega)),AVle.refl _,trivial⟩ (fun s' nx' hI'=> ?_) (fun s' nx' hJ=> hJ.elim)
  refine stp ?_
  refine ⟨(s',n+1), .inl ⟨rfl,by simp [hn],by rw [hI2];exact hI'⟩, ?_,rfl⟩
  have e:IntKind.i64.wrap ((n:Int)+1)=((n+1:Nat):Int):=Js (by omega)
  show _=_::_::((1,nx+1),Own.c [int ((n+1:Nat):Int)])::((0,nx),Own.c [.yl i])::Cb s'
  rw [← e]
  rfl
 ·rintro ⟨s',n⟩ nx3 nn3 ⟨hn,hI⟩
  dsimp only at hn hI
  refine stp ?_
  refine J7 rfl ⟨_,⟨Cb s',Cp s',nx3,0⟩,AVle.refl _, ?_,s',hI,rfl,rfl⟩
  exact Jay _ _ rfl (.cons _ (.cons _ (.cons _ (List.Sublist.refl _)))) (List.Sublist.refl _) (BxLe.refl _) (PmEq.refl _)
end Go.Proofs.W

namespace Go.Proofs.W
open Go.Vl Go.Shelf
set_option maxRecDepth 100000
def Jb7:ByteArray:=⟨#[100,101,102,97,117,108,116]⟩
def Jdu:ByteArray:=⟨#[107,105,108,108]⟩
def Jct:ByteArray:=⟨#[114,101,97,100]⟩
def JcD:ByteArray:=⟨#[97,108,108,111,119]⟩
def JM (l:List ByteArray):AV:= .sl 1 l.length fun k=> .v ((l.map Value.string).getD k undef)
def Jl4 (p:Nat×List ByteArray):AV:= .ag [int p.1,JM p.2]
def JrB (L:List (Nat×List ByteArray)):AV:= .sl 2 L.length fun k=> Jl4 (L.getD k (0, []))
def Jem (s:ByteArray):List ByteArray:=Lib.goFieldsP JdG s
theorem Jko:Jem JaY= [Jb7,Jdu]:=by decide+kernel
theorem Jkp:Jem lineB= [Jct,JcD]:=by decide+kernel
theorem Jvc:Jna JaY:=by
 intro i hi
 have hi:i < 12:=hi
 rcases (by omega:i=0∨i=1∨i=2∨i=3∨i=4∨i=5∨i=6∨i=7∨i=8∨i=9∨i=10∨i=11) with rfl | rfl | rfl | rfl | rfl | rfl | rfl | rfl | rfl | rfl | rfl | rfl <;> decide
theorem Jvd:Jna lineB:=by
 intro i hi
 have hi:i < 10:=hi
 rcases (by omega:i=0∨i=1∨i=2∨i=3∨i=4∨i=5∨i=6∨i=7∨i=8∨i=9) with rfl | rfl | rfl | rfl | rfl | rfl | rfl | rfl | rfl | rfl <;> decide
def Jtc (L:List (ByteArray×Nat)):List (Nat×List ByteArray):=L.map fun p=> (p.2,Jem p.1)
def Jtd (L:List (ByteArray×Nat)) (k:Nat):AV:=Jl4 ((Jtc L).getD k (0, []))
theorem Jju:Tryz.prog.bytesOf 211=32:=by kernel_rfl
theorem Jp3 {pre post:List (ByteArray×Nat)} {x:ByteArray×Nat} (h: [(JaY,1),(lineB,2)]=pre++x::post):(pre= []∧x=(JaY,1))∨(pre= [(JaY,1)]∧x=(lineB,2)):=by
 match pre,h with
 | [],h=> cases h;exact .inl ⟨rfl,rfl⟩
 | [_],h=> cases h;exact .inr ⟨rfl,rfl⟩
 | _::_::pre,h=> simp at h
set_option maxHeartbeats 4000000 in
theorem JlY:Tells Tryz.prog 97 [Jf textAB] (.tup [JrB (Jtc [(JaY,1),(lineB,2)]),int 0,int 0]):=by
 refine Jg Tryz.func97 rfl rfl fun nx=> ?_
 refine stp ?_
 refine Jd rfl rfl (Jp0 textAB) ⟨AVle.refl _,trivial⟩ fun nx2=> ?_
 refine JV ?_
 refine AW.le (E':=mk 32 [(2, .bp (0,nx) 0),(3, .bp (1,nx+1) 0),(4, .bp (2,nx+2) 0),(5, .bp (3,nx+3) 0),(13, .fn (.func 249) [] [.rp [Jf textAB]])] ⟨[((3,nx+3), .c [.os 2 0 (Jtd []) none]),((2,nx+2), .c [int 0]),((1,nx+1), .c [int 0]),((0,nx), .c [.os 0 0 (fun _=> .any) none])], [],nx2,4⟩ (some [])) (Jh _ _ rfl rfl (List.Sublist.refl _) (List.Sublist.refl _) ⟨rfl,⟨AVle.os_nil,trivial⟩,BxLe.refl _⟩ trivial ⟨AVle.refl _,AVle.refl _,AVle.refl _,AVle.refl _,AVle.refl _,trivial⟩) ?_
 refine JV ?_
 refine JoL (σ:=Nat×(Nat→AV)×Option Vl.Id) (e:=JtW) (xs:= [(JaY,1),(lineB,2)]) (first':= []) (caps':= [.rp [Jf textAB]]) [] (fun y=> [((3,nx+3), .c [.os 2 y.1 y.2.1 y.2.2]),((2,nx+2), .c [int 0]),((1,nx+1), .c [int 0]),((0,nx), .c [.os 0 0 (fun _=> .any) none])]) (fun y=> JbT y.2.2 (y.1 * 2)) (fun pre y=> y.1=pre.length∧(∀k,k < y.1→y.2.1 k=Jtd pre k)∧(y.2.2=none→pre= [])) (0,Jtd [],none) rfl rfl Jp2 (LeL.refl _) (LeL.refl _) rfl rfl ⟨rfl,fun _ _=> rfl,fun _=> rfl⟩ (fun _=> rfl) ?_ ?_
 ·rintro pre x post ⟨L,f,oi⟩ nx3 nn3 hx ⟨hL,hf0,ho⟩
  dsimp only at hL hf0 ho
  subst hL
  rcases Jp3 hx with ⟨rfl,rfl⟩ | ⟨rfl,rfl⟩
  ·have hp:=Jjs JaY Jvc (by decide)
   have hf:Tells Tryz.prog 177 [Jf JaY, .fn (.func 178) [] []] (JM [Jb7,Jdu]):=by rw [← Jko];exact Jig JaY (by decide)
   refine JV ?_
   refine Jan ?_
   refine stp ?_
   refine Jd rfl rfl hp ⟨AVle.refl _,trivial⟩ fun nx4=> ?_
   refine stp ?_
   refine Jd rfl rfl hf ⟨AVle.refl _,AVle.refl _,trivial⟩ fun nx5=> ?_
   refine JV ?_
   refine Jan ?_
   refine JV ?_
   refine JQ (fun n=> match n with | 0=> true | _=> false) 6 ?_
   refine stp ?_
   refine Jex (e:=211) (c:=2) (pm:= []) (n:=0) (oi:=oi) (sz:=2) (f:=f) rfl rfl (.inr ⟨_,rfl⟩) (by kernel_rfl) (by kernel_rfl) (by kernel_rfl) (.inr rfl) (by kernel_rfl) (List.append_nil _).symm (JO rfl) (by rw [Jju];decide) (by decide) ?_
   refine stp ?_
   refine ⟨(0+1,_,some (nn3,nx5)), .inl ⟨rfl,rfl,fun k hk=> ?_,fun h=> by cases h⟩,rfl,rfl⟩
   obtain rfl:k=0:=Nat.lt_one_iff.1 hk
   show _=Jl4 (1,Jem JaY)
   rw [Jko];rfl
  ·have hp:=Jjs lineB Jvd (by decide)
   have hf:Tells Tryz.prog 177 [Jf lineB, .fn (.func 178) [] []] (JM [Jct,JcD]):=by rw [← Jkp];exact Jig lineB (by decide)
   refine JV ?_
   refine Jan ?_
   refine stp ?_
   refine Jd rfl rfl hp ⟨AVle.refl _,trivial⟩ fun nx4=> ?_
   refine stp ?_
   refine Jd rfl rfl hf ⟨AVle.refl _,AVle.refl _,trivial⟩ fun nx5=> ?_
   refine JV ?_
   refine Jan ?_
   refine JV ?_
   refine JQ (fun n=> match n with | 0=> true | _=> false) 6 ?_
   refine stp ?_
   refine Jex (e:=211) (c:=2) (pm:= []) (n:=1) (oi:=oi) (sz:=2) (f:=f) rfl rfl (.inr ⟨_,rfl⟩) (by kernel_rfl) (by kernel_rfl) (by kernel_rfl) (.inr rfl) (by kernel_rfl) (List.append_nil _).symm (JO rfl) (by rw [Jju];decide) (by decide) ?_
   refine stp ?_
   refine ⟨(1+1,_,some (nn3,nx5)), .inl ⟨rfl,rfl,fun k hk=> ?_,fun h=> by cases h⟩,rfl,rfl⟩
   refine Jgq (fun k hk=> ?_) ?_ k hk
   ·obtain rfl:k=0:=Nat.lt_one_iff.1 hk
    exact hf0 0 (by decide)
   ·show _=Jl4 (2,Jem lineB)
    rw [Jkp];rfl
 ·rintro ⟨L,f,oi⟩ nx3 nn3 ⟨hL,hf0,ho⟩
  dsimp only at hL hf0 ho
  subst hL
  refine stp ?_
  exact Jl rfl ⟨⟨rfl,Nat.zero_lt_one⟩,⟨rfl,Nat.zero_lt_one⟩,⟨rfl,Nat.zero_lt_one⟩,trivial⟩ (AVle.tups (cs:= [_,_,_]) ⟨(AVle.os_fun hf0).trans AVle.os_sl,AVle.refl _,AVle.refl _,trivial⟩)
end Go.Proofs.W

namespace Go.Proofs.W
open Go.Vl
set_option maxRecDepth 100000
def kb (k:Nat):Nat:= [2147483648,0,196608,327680,2143289344,2146435072,2147221504,2147418112].getD k 0
def km (k:Nat):Nat:=if k=3 then 4095 else if k=5 then 65535 else 0
theorem Jve (k:Nat) (h:k < 8):∃s m,JcU Je4 k= .ag [.v (.string s), .v (.int .u32 (kb k)),m]∧Tells Tryz.prog 242 [JcU Je4 k] (int (km k)):=by
 have key:=Jgx k h
 rcases k with _ | _ | _ | _ | _ | _ | _ | _ | k
 ·exact ⟨_,_,rfl,Jcd _ _⟩
 ·exact ⟨_,_,rfl,Jcd _ _⟩
 ·exact ⟨_,_,rfl,Jcd _ _⟩
 ·exact ⟨_,_,rfl,JfH _ _ 4096 (by decide)⟩
 ·exact ⟨_,_,rfl,Jcd _ _⟩
 ·exact ⟨_,_,rfl,JfH _ _ 65536 (by decide)⟩
 ·exact ⟨_,_,rfl,Jcd _ _⟩
 ·exact ⟨_,_,rfl,Jcd _ _⟩
 ·omega
theorem JvY {k:Nat} (h:k < 8):kb k+km k < 4294967296:=by
 rcases k with _ | _ | _ | _ | _ | _ | _ | _ | k
 all_goals first | decide | omega
end Go.Proofs.W

namespace Go.Proofs.W
open Go.Vl
set_option maxRecDepth 100000
def JtX (w:ByteArray):AV:= .fn (.func 373) [] [.rp [JM [w]]]
def Jvf (j:Nat):ByteArray:=match JcU Je4 j with
 | .ag (.v (.string s)::_)=> s
 | _=> ⟨#[]⟩
def eqW (w:ByteArray) (j:Nat):Bool:=(Jvf j).toList ==w.toList
def JhN (w:ByteArray):Option Nat:=(List.range 8).find? (eqW w)
theorem Jp4 (w s:ByteArray) (c:Int) (m:AV) (hm:m= .v .nilFunc∨∃n,m=JeI n):Tells Tryz.prog 373 [.ag [.v (.string s), .v (.int .u32 c),m], .rp [JM [w]]] (Jb (s.toList ==w.toList)):=by
 refine Jg Tryz.func373 rfl rfl fun nx=> ?_
 rcases hm with rfl | ⟨n,rfl⟩
 all_goals
  refine stp ?_
  (refine Jag 7 ?_ ?_ ?_ ?_;(· kernel_rfl);(· kernel_rfl);(· kernel_rfl))
  refine stp ?_
  refine ⟨⟨by decide,(show (0:Int) < 1 by decide)⟩, ?_⟩
  refine stp ?_
  intro c hc
  subst hc
  refine stp ?_
  exact Je rfl (AVle.refl _)
set_option maxHeartbeats 1000000 in
theorem JrC (w:ByteArray):Tells Tryz.prog 372 [JpW,JtX w] (int (Jg9 (JhN w))):=by
 refine Jg Tryz.func372 rfl rfl fun nx=> ?_
 refine stp ?_
 refine JN (fun s:Nat×Nat=> mk 19 [(0,JpW),(1,JtX w),(7,int 8),(8,int s.1)] ⟨[], [],s.2,0⟩) (fun s=> s.1≤8∧∀j,j < s.1→eqW w j=false) (fun s=> 8 - s.1) ?_ ?_
 ·exact ⟨(0,nx),⟨by simp,by intro j hj;simp at hj⟩,Ja0 rfl rfl ⟨AVle.refl _,AVle.refl _,AVle.refl _,AVle.refl _,trivial⟩⟩
 ·rintro ⟨i,nx⟩ ⟨h1,h2⟩
  dsimp only at h1 h2
  by_cases hi:i < 8
  ·obtain ⟨s,c0,m,hr1,h4,_⟩:=Jgx i hi
   have hT:=Jp4 w s c0 m h4
   have hes:(s.toList ==w.toList)=eqW w i:=by unfold eqW Jvf;rw [hr1]
   rw [hes] at hT
   rcases h4 with rfl | ⟨n',rfl⟩
   all_goals
    refine stp ?_
    intro c h3;cases c
    ·exact absurd (JC h3) (by dsimp only;omega)
    refine stp ?_
    refine ⟨⟨by dsimp only;omega,by dsimp only;omega⟩,JI (b:= .rp [.v (.string s), .v (.int .u32 c0),_]) (by show AV.rp (JcU Je4 i).cells=_;rw [hr1];rfl) ?_⟩
    refine stp ?_
    refine Jd rfl rfl hT ⟨AVle.refl _,AVle.refl _,trivial⟩ fun nx'=> ?_
    intro c h4;cases c
    ·refine stp ?_
     refine back (i+1,nx') ⟨by dsimp only;omega,fun j hj=> ?_⟩ (by dsimp only;omega) (Ja0 rfl rfl ⟨AVle.refl _,AVle.refl _,AVle.refl _,Jk (Js (by dsimp only;omega)),trivial⟩)
     dsimp only at hj
     rcases Nat.lt_or_ge j i with h | h
     ·exact h2 j h
     ·obtain rfl:j=i:=by omega
      exact h4.symm
    ·refine stp ?_
     refine Je rfl (Jk ?_)
     have:JhN w=some i:=by
      unfold JhN
      rw [List.find?_range_eq_some]
      exact ⟨h4.symm,by simp;omega,fun j hj=> by rw [h2 j hj];rfl⟩
     rw [this];rfl
  ·obtain rfl:i=8:=by omega
   refine stp ?_
   refine Je rfl (Jk ?_)
   have:JhN w=none:=by
    unfold JhN
    rw [List.find?_range_eq_none]
    intro j hj
    rw [h2 j hj];rfl
   rw [this];rfl
set_option maxHeartbeats 1000000 in
theorem Jle (w s:ByteArray) (k:Nat) (c:Int) (hw:JhN w=some k) (hk:k < 8) (hr:JcU Je4 k= .ag [.v (.string s), .v (.int .u32 c), .v .nilFunc]):Tells Tryz.prog 306 [JM [w]] (.tup [act (k+1:Nat) 0,int 1,int 0]):=by
 have hx:=JrC w
 rw [hw] at hx
 have ho:=Jm2 k hk
 rw [hr] at ho
 refine Jg Tryz.func306 rfl rfl fun nx=> ?_
 (refine JV ?_;refine Jan ?_;refine JV ?_)
 refine JbJ (n:=60) (nx:=nx+2) (nn:=2) (pm:= []) (bx:= [((1,nx+1), .c [int 0,int 0])]) (L:= [(1, .rp [JM [w]]),(2, .bp (1,nx+1) 0),(3,int 0),(4,int 0)]) (df:=some []) [((0,nx), .c [JM [w]])] rfl rfl rfl (List.Perm.swap _ _ _) (List.Sublist.refl _) ⟨Frz.bp (.head _) rfl,Frz.refl _,Frz.refl _,Frz.refl _,trivial⟩ ?_
 refine stp ?_
 refine Jd rfl rfl JiG trivial fun nx1=> ?_
 refine stp ?_
 refine Jd rfl rfl hx ⟨AVle.refl _,AVle.refl _,trivial⟩ fun nx2=> ?_
 refine stp ?_
 refine Jd rfl rfl ho ⟨Jk (by show IntKind.i64.wrap (1+(k:Int))=_;rw [JaX (by omega) (by omega)];omega),trivial⟩ fun nx3=> ?_
 refine stp ?_
 exact Jl rfl ⟨rfl,trivial⟩ (AVle.tups (cs:= [_,_,_]) ⟨AVle.ags (cs:= [_,_]) ⟨Jk (by show IntKind.i64.wrap (1+(k:Int))=_;rw [JaX (by omega) (by omega)];omega),AVle.refl _,trivial⟩,AVle.refl _,AVle.refl _,trivial⟩)
theorem JrD:Tells Tryz.prog 306 [JM [Jdu]] (.tup [act 1 0,int 1,int 0]):=Jle Jdu _ 0 _ (by decide+kernel) (by decide) rfl
theorem Jp5:Tells Tryz.prog 306 [JM [JcD]] (.tup [act 8 0,int 1,int 0]):=Jle JcD _ 7 _ (by decide+kernel) (by decide) rfl
end Go.Proofs.W

namespace Go.Proofs.W
open Go.Vl
set_option maxRecDepth 100000
theorem Jih (s:ByteArray) (hs:s.size≤9223372036854775807):Tells Tryz.prog 243 [Jf s] (Jb (Jao s.data.toList)):=by
 have key:∀b,Jao s.data.toList=b→Tells Tryz.prog 243 [Jf s] (Jb b):=fun b hb=> by
  have hr:=JlV s hs b hb
  refine Jg Tryz.func243 rfl rfl fun nx=> ?_
  refine stp ?_
  refine Jd rfl rfl hr ⟨?_,trivial⟩ fun nx1=> ?_
  ·refine AVle.os_sl.trans (AVle.sl_fun fun k hk=> ?_)
   match k,hk with
   | 0,_=> rfl
  cases b
  ·refine stp ?_
   exact Je rfl (AVle.refl _)
  ·refine stp ?_
   exact Je rfl (AVle.refl _)
 exact key _ rfl
theorem Jnc (c:Cnd):Tells Tryz.prog 244 [JL c] (Jb (!JZ c)):=by
 have key:∀b,JZ c=b→Tells Tryz.prog 244 [JL c] (Jb (!b)):=fun b hb=> by
  have hr:=Jdt c
  rw [hb] at hr
  refine Jg Tryz.func244 rfl rfl fun nx=> ?_
  refine stp ?_
  refine Jd rfl rfl hr ⟨AVle.refl _,trivial⟩ fun nx1=> ?_
  cases b
  ·refine stp ?_
   exact Je rfl (AVle.refl _)
  ·refine stp ?_
   exact Je rfl (AVle.refl _)
 exact key _ rfl
def Rul.ok (r:Rul):Prop:=r.name.size≤maxLen∧r.conds.length≤maxLen∧∀c∈r.conds,c.ok
def Jaj (r:Rul):Bool:=Jao r.name.data.toList&& (Jbd r.act.1 r.act.2&& (decide (r.conds.length≤6)&& !(r.conds.any fun c=> !JZ c)))
theorem Joj (r:Rul) (h1:r.name.size≤9223372036854775807):Tells Tryz.prog 170 [Jau r] (Jb (Jaj r)):=by
 have hn:=Jih r.name h1
 have ha:=JiH r.act.1 r.act.2
 have hc:r.conds.length≤1000000000→Tells Tryz.prog 102 [Jbt r.conds,fn0 244] (Jb (r.conds.any fun c=> !JZ c)):=fun hl=> Jm4 r.conds (fun c=> !JZ c) _ hl (fun i _=> Jnc _)
 unfold Jaj
 generalize Jao r.name.data.toList=b1 at hn⊢
 generalize Jbd r.act.1 r.act.2=b2 at ha⊢
 generalize (r.conds.any fun c=> !JZ c)=b3 at hc⊢
 obtain ⟨name,⟨k,n⟩,conds⟩:=r
 dsimp only at hn ha hc⊢
 refine Jg Tryz.func170 rfl rfl fun nx=> ?_
 refine stp ?_
 refine Jd rfl rfl hn ⟨AVle.refl _,trivial⟩ fun nx1=> ?_
 cases b1
 ·refine stp ?_
  exact Je rfl (AVle.refl _)
 refine stp ?_
 refine Jd rfl rfl ha ⟨AVle.refl _,trivial⟩ fun nx2=> ?_
 cases b2
 ·refine stp ?_
  exact Je rfl (AVle.refl _)
 refine stp ?_
 intro c t3;cases c
 ·refine stp ?_
  have e3:¬conds.length≤6:=fun h=> (JC t3:¬((conds.length:Nat):Int)≤6) (by omega)
  exact Je rfl (JF (by show false=(true&& (true&& (decide (conds.length≤6)&& !b3)));rw [decide_eq_false e3];rfl))
 have h3:conds.length≤6:=by have t:((conds.length:Nat):Int)≤6:=JD t3;omega
 have hc:=hc (show conds.length≤1000000000 by omega)
 refine stp ?_
 refine Jd rfl rfl hc ⟨AVle.refl _,AVle.refl _,trivial⟩ fun nx3=> ?_
 cases b3
 ·refine stp ?_
  exact Je rfl (JF (by first | (show true=(true&& (true&& (decide (conds.length≤6)&& !false)));rw [decide_eq_true h3];rfl) | (show true=(true&& (decide (rules.length≤500)&& !false));rw [decide_eq_true h3];rfl)))
 ·refine stp ?_
  exact Je rfl (JF (by first | (show false=(true&& (true&& (decide (conds.length≤6)&& !true)));rw [decide_eq_true h3];rfl) | (show false=(true&& (decide (rules.length≤500)&& !true));rw [decide_eq_true h3];rfl)))
theorem Jnd (r:Rul) (h1:r.name.size≤9223372036854775807):Tells Tryz.prog 169 [Jau r] (Jb (!Jaj r)):=by
 have key:∀b,Jaj r=b→Tells Tryz.prog 169 [Jau r] (Jb (!b)):=fun b hb=> by
  have hr:=Joj r h1
  rw [hb] at hr
  refine Jg Tryz.func169 rfl rfl fun nx=> ?_
  refine stp ?_
  refine Jd rfl rfl hr ⟨AVle.refl _,trivial⟩ fun nx1=> ?_
  cases b
  ·refine stp ?_
   exact Je rfl (AVle.refl _)
  ·refine stp ?_
   exact Je rfl (AVle.refl _)
 exact key _ rfl
def Jbm (p:Pol):Bool:=Jbd p.dflt.1 p.dflt.2&& (decide (p.rules.length≤500)&& !(p.rules.any fun r=> !Jaj r))
def Pol.ok (p:Pol):Prop:=p.rules.length≤maxLen∧∀r∈p.rules,r.ok
theorem Jii (p:Pol) (hp:p.ok):Tells Tryz.prog 91 [Jha p] (Jb (Jbm p)):=by
 have ha:=JiH p.dflt.1 p.dflt.2
 have hc:p.rules.length≤1000000000→Tells Tryz.prog 168 [Jj p.rules,fn0 169] (Jb (p.rules.any fun r=> !Jaj r)):=fun hl=> Jta p.rules (fun r=> !Jaj r) _ hl (fun i hi=> Jnd _ (by
  have:p.rules.getD i Jq∈p.rules:=by simp [List.getD,hi]
  have:=(hp.2 _ this).1
  exact Nat.le_trans this (by decide)))
 unfold Jbm
 generalize Jbd p.dflt.1 p.dflt.2=b2 at ha⊢
 generalize (p.rules.any fun r=> !Jaj r)=b3 at hc⊢
 clear hp
 obtain ⟨⟨k,n⟩,x,rules⟩:=p
 dsimp only at ha hc⊢
 refine Jg Tryz.func91 rfl rfl fun nx=> ?_
 refine stp ?_
 refine Jd rfl rfl ha ⟨AVle.refl _,trivial⟩ fun nx2=> ?_
 cases b2
 ·refine stp ?_
  exact Je rfl (AVle.refl _)
 refine stp ?_
 intro c t3;cases c
 ·refine stp ?_
  have e3:¬rules.length≤500:=fun h=> (JC t3:¬((rules.length:Nat):Int)≤500) (by omega)
  exact Je rfl (JF (by show false=(true&& (decide (rules.length≤500)&& !b3));rw [decide_eq_false e3];rfl))
 have h3:rules.length≤500:=by have t:((rules.length:Nat):Int)≤500:=JD t3;omega
 have hc:=hc (show rules.length≤1000000000 by omega)
 refine stp ?_
 refine Jd rfl rfl hc ⟨AVle.refl _,AVle.refl _,trivial⟩ fun nx3=> ?_
 cases b3
 ·refine stp ?_
  exact Je rfl (JF (by first | (show true=(true&& (true&& (decide (conds.length≤6)&& !false)));rw [decide_eq_true h3];rfl) | (show true=(true&& (decide (rules.length≤500)&& !false));rw [decide_eq_true h3];rfl)))
 ·refine stp ?_
  exact Je rfl (JF (by first | (show false=(true&& (true&& (decide (conds.length≤6)&& !true)));rw [decide_eq_true h3];rfl) | (show false=(true&& (decide (rules.length≤500)&& !true));rw [decide_eq_true h3];rfl)))
end Go.Proofs.W

namespace Go.Proofs.W
open Go.Vl
set_option maxRecDepth 100000
def Jbf (s:Nat) (a b c ru wd:AV) (n:Int):List (Vl.Id×Own):= [((0,s), .c [a,b,c,ru,wd,int n])]
theorem JeM (e:Int):Tells Tryz.prog 252 [Jb true,int e] (.tup []):=by
 refine Jg Tryz.func252 rfl rfl fun nx=> ?_
 refine stp ?_
 exact Je rfl (AVle.refl _)
theorem JrE:Tells Tryz.prog 307 [int 0] (.tup []):=by
 refine Jg Tryz.func307 rfl rfl fun nx=> ?_
 refine stp ?_
 refine Jd rfl rfl (JeM 0) ⟨AVle.refl _,AVle.refl _,trivial⟩ fun nx2=> ?_
 refine stp ?_
 exact Je rfl (AVle.refl _)
theorem Jlf (x:ByteArray) (l:List ByteArray):(AV.sl 1 ((x::l).length - Int.toNat 1) fun k=> (fun k=> AV.v ((List.map Value.string (x::l)).getD k undef)) (Int.toNat 1+k))=JM l:=by
 unfold JM
 rw [show (x::l).length - Int.toNat 1=l.length by simp]
 congr 1
 funext k
 show AV.v ((List.map Value.string (x::l)).getD (1+k) undef)=_
 rw [Nat.add_comm];rfl
theorem Jlg (s:Nat) (a b c ru:AV) (w1 w2:ByteArray) (n:Int) (nx:Nat):ECall Tryz.prog 180 [.bp (0,s) 0] ⟨Jbf s a b c ru (JM [w1,w2]) n, [],nx,1⟩ fun r h'=> r=Jf w1∧h'=⟨Jbf s a b c ru (JM [w2]) n, [],nx,1⟩:=by
 refine JU Tryz.func180 rfl rfl ?_
 refine stp ?_
 refine ⟨⟨by decide,(show (0:Int) < 2 by decide)⟩, ?_⟩
 refine stp ?_
 refine ⟨⟨by decide,(show (1:Int)≤2 by decide)⟩,JI (b:=JM [w2]) (Jlf w1 [w2]) ?_⟩
 refine stp ?_
 exact J7 rfl ⟨rfl,rfl⟩
theorem Jij (s:Nat) (a b c ru:AV) (w:ByteArray) (k:Int) (n:Int) (nx:Nat) (hr:Tells Tryz.prog 306 [JM [w]] (.tup [act k 0,int 1,int 0])):ECall Tryz.prog 253 [.bp (0,s) 0] ⟨Jbf s a b c ru (JM [w]) n, [],nx,1⟩ fun r h'=> r=act k 0∧∃nx',h'=⟨Jbf s a b c ru (JM []) n, [],nx',1⟩:=by
 refine ECall.wk (JU Tryz.func253 rfl rfl ?_)
 refine stp ?_
 refine Jd rfl rfl hr ⟨AVle.refl _,trivial⟩ fun nx2=> ?_
 refine stp ?_
 refine Jd rfl rfl JrE ⟨AVle.refl _,trivial⟩ fun nx3=> ?_
 refine stp ?_
 refine ⟨⟨by decide,(show (1:Int)≤1 by decide)⟩,JI (b:=JM []) (Jlf w []) ?_⟩
 refine stp ?_
 refine Jef rfl ⟨rfl,trivial⟩ ⟨act k 0,⟨Jbf s a b c ru (JM []) n, [],nx3,1⟩,AVle.refl _, ?_,rfl,nx3,rfl⟩
 exact Jay (Jbf s a b c ru (JM []) n) [] rfl (.cons _ (.cons _ (List.Sublist.refl _))) (List.Sublist.refl _) (BxLe.refl _) (PmEq.refl _)
theorem Jp6 (s:Nat) (a b c ru:AV) (w:ByteArray) (k:Int) (nx:Nat) (hr:Tells Tryz.prog 306 [JM [w]] (.tup [act k 0,int 1,int 0])):ECall Tryz.prog 181 [.bp (0,s) 0] ⟨Jbf s a b c ru (JM [w]) 0, [],nx,1⟩ fun r h'=> r= .tup []∧∃nx',h'=⟨Jbf s (int k) (int 0) c ru (JM []) 0, [],nx',1⟩:=by
 refine ECall.wk (JU Tryz.func181 rfl rfl ?_)
 refine stp ?_
 refine Jd rfl rfl (JeM 13) ⟨AVle.refl _,AVle.refl _,trivial⟩ fun nx2=> ?_
 refine stp ?_
 refine JfF (xs:= [.bp (0,s) 0]) (bx1:=Jbf s a b c ru (JM [w]) 0) (pm1:= []) [] [] 1 rfl rfl rfl rfl ⟨AVle.refl _,trivial⟩ (Jij s a b c ru w k 0 nx2 hr) (BxLe.refl _) (PmEq.refl _) rfl fun r h' hq=> ?_
 obtain ⟨rfl,nx3,rfl⟩:=hq
 refine stp ?_
 refine Jd rfl rfl (JeM 13) ⟨AVle.refl _,AVle.refl _,trivial⟩ fun nx4=> ?_
 refine stp ?_
 refine Jef rfl trivial ⟨.tup [],⟨Jbf s (int k) (int 0) c ru (JM []) 0, [],nx4,1⟩,AVle.refl _, ?_,rfl,nx4,rfl⟩
 exact Jay (Jbf s (int k) (int 0) c ru (JM []) 0) [] rfl (List.Sublist.refl _) (List.Sublist.refl _) (BxLe.refl _) (PmEq.refl _)
end Go.Proofs.W

namespace Go.Proofs.W
open Go.Vl
set_option maxRecDepth 100000
def Jbg:AV:= .os 0 0 (fun _=> .any) none
theorem Jok:Tryz.prog.bytesOf 123=56:=by kernel_rfl
set_option maxHeartbeats 4000000 in
theorem JrF (s:Nat) (a b c:AV) (nm w:ByteArray) (k:Int) (nx:Nat) (hn:Jao nm.data.toList=true) (hs:nm.size≤1000) (hr:Tells Tryz.prog 306 [JM [w]] (.tup [act k 0,int 1,int 0])):
 ECall Tryz.prog 184 [.bp (0,s) 0,Jf nm] ⟨Jbf s a b c Jbg (JM [w]) 1, [],nx,1⟩ fun r h'=> r= .tup []∧∃st nx',h'=⟨Jbf s a b c (.os 4 1 (fun _=> Jau ⟨nm,(k,0), []⟩) (some (0,st))) (JM []) 1, [((0,st),4)],nx',1⟩:=by
 have hnm:=Jih nm (by omega)
 rw [hn] at hnm
 refine ECall.wk (JU Tryz.func184 rfl rfl ?_)
 refine stp ?_
 refine Jd rfl rfl hnm ⟨AVle.refl _,trivial⟩ fun nx2=> ?_
 refine stp ?_
 refine Jd rfl rfl (JeM 13) ⟨AVle.refl _,AVle.refl _,trivial⟩ fun nx3=> ?_
 refine stp ?_
 refine Jd rfl rfl (JeM 3) ⟨AVle.refl _,AVle.refl _,trivial⟩ fun nx4=> ?_
 refine stp ?_
 refine JfF (xs:= [.bp (0,s) 0]) (bx1:=Jbf s a b c Jbg (JM [w]) 1) (pm1:= []) [] [] 1 rfl rfl rfl rfl ⟨AVle.refl _,trivial⟩ (Jij s a b c Jbg w k 1 nx4 hr) (BxLe.refl _) (PmEq.refl _) rfl fun r h' hq=> ?_
 obtain ⟨rfl,nx5,rfl⟩:=hq
 refine stp ?_
 refine JN (fun y:Nat=> mk 67 [(0, .bp (0,s) 0),(1,Jf nm),(4, .bp (1,nx5) 0)] ⟨((1,nx5), .c [Jf nm,int k,int 0,Jbt []])::Jbf s a b c Jbg (JM []) 1, [],y,2⟩) (fun _=> True) (fun _=> 0) ?_ ?_
 ·exact ⟨nx5+1,trivial,Jh (pm:= []) (bx:=((1,nx5), .c [Jf nm,int k,int 0,Jbt []])::Jbf s a b c Jbg (JM []) 1) _ _ rfl rfl (List.Sublist.refl _) (List.Sublist.refl _) ⟨rfl,⟨AVle.refl _,AVle.refl _,AVle.refl _,AVle.os_sl0,trivial⟩,BxLe.refl _⟩ trivial ⟨AVle.refl _,AVle.refl _,AVle.refl _,trivial⟩⟩
 ·rintro nx6 -
  refine stp ?_
  refine Jah 9 (((1,nx5), .c [Jf nm,int k,int 0,Jbt []])::Jbf s a b c Jbg (JM []) 1) (fun i=> match i with | 8=> true | _=> false) (fun _=> false) [0,1,2,3,4,5,6,7,8] (by kernel_rfl) (by kernel_rfl) (HB.refl _) ?_
  refine stp ?_
  refine ⟨_,JfP (e:=123) (c:=4) (pm:= []) (n:=0) (oi:=none) (sz:=0) (f:=fun _=> .any) (HB.refl _) rfl rfl rfl (.inr ⟨_,rfl⟩) (by kernel_rfl) (by kernel_rfl) (by kernel_rfl) (.inl ⟨rfl,rfl⟩) (by kernel_rfl) rfl (JO rfl) (by rw [Jok];decide) (by decide),fun r h' hr=> ?_⟩
  obtain ⟨rfl,rfl⟩:=hr
  refine stp ?_
  refine Jef rfl trivial ⟨.tup [],⟨Jbf s a b c (.os 4 1 (fun _=> Jau ⟨nm,(k,0), []⟩) (some (0,nx6))) (JM []) 1, [((0,nx6),4)],nx6+1,1⟩,AVle.refl _, ?_,rfl,nx6,nx6+1,rfl⟩
  exact Jay (Jbf s a b c (.os 4 1 (Jcc 0 (fun _=> .any) _) (some (2,nx6))) (JM []) 1) [((2,nx6),4)] rfl (.cons _ (List.Sublist.refl _)) (List.Sublist.refl _) ⟨rfl,⟨AVle.refl _,AVle.refl _,AVle.refl _,(AVle.os_fun (fun i hi=> by obtain rfl:i=0:=Nat.lt_one_iff.1 hi;rfl)).trans (AVle.os_nm rfl),AVle.refl _,AVle.refl _,trivial⟩,trivial⟩ ⟨rfl,rfl,trivial⟩
end Go.Proofs.W

namespace Go.Proofs.W
open Go.Vl
set_option maxRecDepth 100000
def Jl5 (s:Nat) (a b c ru wd:AV) (n:Int):List (Vl.Id×Own):= [((1,s), .c [a,b,c,ru,wd,int n])]
theorem Jlh {l l':List (Value×AV)} {K:List (Value×AV)→Prop} (h:l=l') (hk:Jf0 l' K):Jf0 l K:=h ▸ hk
def doF (s:Nat):AV:= .fn (.func 181) [.bp (0,s) 0] []
def doX (s:Nat):AV:= .fn (.func 182) [.bp (0,s) 0] []
def doM (s:Nat):List (Value×AV):= [(.string Jb7,doF s),(.string ⟨#[120,51,50]⟩,doX s)]
theorem JrG (x:AV) (h:Heap):DCall Tryz.prog 179 [x] .returning h fun u h'=> u= .returning∧h'=h:=by
 refine JlR Tryz.func179 rfl rfl rfl rfl rfl rfl ?_
 refine stp ?_
 refine JmC rfl (.inr rfl) rfl rfl ?_
 refine stp ?_
 exact J7 rfl ⟨rfl,rfl⟩
def Jjv (s s1 s2 s3 s4:Nat) (nm:ByteArray):List (Vl.Id×Own):= [((4,s4), .mp (doM s)),((3,s3), .c [Jf nm]),((2,s2), .c [int 0]),((1,s1), .c [.bp (0,s) 0])]
theorem Jp7 (s s1 s2 s3 s4 nx:Nat) (a b c:AV) (nm w:ByteArray) (k:Int) (hn:Jao nm.data.toList=true) (hs:nm.size≤1000) (hr:Tells Tryz.prog 306 [JM [w]] (.tup [act k 0,int 1,int 0])):
 ECall Tryz.prog 183 [.bp (1,s1) 0, .bp (3,s3) 0] ⟨Jjv s s1 s2 s3 s4 nm++Jbf s a b c Jbg (JM [w]) 1, [],nx,5⟩ fun r h'=> r= .tup []∧∃st nx',h'=⟨Jjv s s1 s2 s3 s4 nm++Jbf s a b c (.os 4 1 (fun _=> Jau ⟨nm,(k,0), []⟩) (some (0,st))) (JM []) 1, [((0,st),4)],nx',5⟩:=by
 refine JU Tryz.func183 rfl rfl ?_
 refine stp ?_
 refine JS (xs:= [.bp (0,s) 0,Jf nm]) (bx1:=Jbf s a b c Jbg (JM [w]) 1) (pm1:= []) (Jjv s s1 s2 s3 s4 nm) [] 5 rfl rfl rfl rfl ⟨AVle.refl _,AVle.refl _,trivial⟩ (JrF s a b c nm w k nx hn hs hr) (BxLe.refl _) (PmEq.refl _) rfl fun r h' hq=> ?_
 obtain ⟨rfl,st,nx2,rfl⟩:=hq
 refine stp ?_
 exact J7 rfl ⟨rfl,st,nx2,rfl⟩
set_option maxHeartbeats 4000000 in
theorem Jp8 (s:Nat) (nx:Nat):ECall Tryz.prog 98 [.bp (0,s) 0,JM [Jb7,Jdu]] ⟨Jbf s (int 0) (int 0) (Jb false) Jbg Jbg 0, [],nx,1⟩ fun r h'=> r=int 0∧∃nx',h'=⟨Jl5 s (int 1) (int 0) (Jb false) Jbg (JM []) 1, [],nx',1⟩:=by
 refine ECall.wk (JU Tryz.func98 rfl rfl ?_)
 refine stp ?_
 refine JkS rfl rfl rfl ?_
 refine stp ?_
 refine JS (xs:= [.bp (0,s) 0]) (bx1:=Jbf s (int 0) (int 0) (Jb false) Jbg (JM [Jb7,Jdu]) 0) (pm1:= []) [((2,nx+1), .c [int 0]),((1,nx), .c [.bp (0,s) 0])] [] 3 rfl rfl rfl rfl ⟨AVle.refl _,trivial⟩ (Jlg s (int 0) (int 0) (Jb false) Jbg Jb7 Jdu 0 (nx+2)) (BxLe.refl _) (PmEq.refl _) rfl fun r h' hq=> ?_
 obtain ⟨rfl,rfl⟩:=hq
 refine stp ?_
 refine Jlh (l':=doM s) (by kernel_rfl) ?_
 refine stp ?_
 refine JI (b:= .fn (.func 181) [.bp (0,s) 0] []) (by kernel_rfl) ?_
 refine stp ?_
 refine JS (xs:= [.bp (0,s) 0]) (bx1:=Jbf s (int 0) (int 0) (Jb false) Jbg (JM [Jdu]) 0) (pm1:= []) [((4,nx+3), .mp (doM s)),((3,nx+2), .c [Jf Jb7]),((2,nx+1), .c [int 0]),((1,nx), .c [.bp (0,s) 0])] [] 5 rfl rfl rfl rfl ⟨AVle.refl _,trivial⟩ (Jp6 s (int 0) (int 0) (Jb false) Jbg Jdu 1 (nx+4) JrD) (BxLe.refl _) (PmEq.refl _) rfl fun r h' hq=> ?_
 obtain ⟨rfl,nx2,rfl⟩:=hq
 refine stp ?_
 refine DCall.mono (JrG _ _) fun u h' hq=> ?_
 obtain ⟨rfl,rfl⟩:=hq
 refine Jef rfl ⟨⟨rfl,Nat.zero_lt_one⟩,trivial⟩ ⟨int 0,⟨Jl5 s (int 1) (int 0) (Jb false) Jbg (JM []) 1, [],nx2,1⟩,AVle.refl _, ?_,rfl,nx2,rfl⟩
 exact Jay (Jbf s (int 1) (int 0) (Jb false) Jbg (JM []) 1) [] rfl (.cons _ (.cons _ (.cons _ (.cons _ (List.Sublist.refl _))))) (List.Sublist.refl _) ⟨rfl,OwnLe.refl _,trivial⟩ (PmEq.refl _)
set_option maxHeartbeats 4000000 in
theorem JrH (s:Nat) (nx:Nat):ECall Tryz.prog 98 [.bp (0,s) 0,JM [Jct,JcD]] ⟨Jbf s (int 1) (int 0) (Jb false) Jbg (JM []) 1, [],nx,1⟩ fun r h'=> r=int 0∧∃st nx',h'=⟨Jl5 s (int 1) (int 0) (Jb false) (.os 4 1 (fun _=> Jau ⟨Jct,(8,0), []⟩) (some (0,st))) (JM []) 2, [((0,st),4)],nx',1⟩:=by
 refine ECall.wk (JU Tryz.func98 rfl rfl ?_)
 refine stp ?_
 refine JkS rfl rfl rfl ?_
 refine stp ?_
 refine JS (xs:= [.bp (0,s) 0]) (bx1:=Jbf s (int 1) (int 0) (Jb false) Jbg (JM [Jct,JcD]) 1) (pm1:= []) [((2,nx+1), .c [int 0]),((1,nx), .c [.bp (0,s) 0])] [] 3 rfl rfl rfl rfl ⟨AVle.refl _,trivial⟩ (Jlg s (int 1) (int 0) (Jb false) Jbg Jct JcD 1 (nx+2)) (BxLe.refl _) (PmEq.refl _) rfl fun r h' hq=> ?_
 obtain ⟨rfl,rfl⟩:=hq
 refine stp ?_
 refine Jlh (l':=doM s) (by kernel_rfl) ?_
 refine stp ?_
 refine JI (b:= .v .nilFunc) (by kernel_rfl) ?_
 refine stp ?_
 refine JS (xs:= [.bp (1,nx) 0, .bp (3,nx+2) 0]) (bx1:=Jjv s nx (nx+1) (nx+2) (nx+3) Jct++Jbf s (int 1) (int 0) (Jb false) Jbg (JM [JcD]) 1) (pm1:= []) [] [] 5 rfl rfl rfl rfl ⟨AVle.refl _,AVle.refl _,trivial⟩ (Jp7 s nx (nx+1) (nx+2) (nx+3) (nx+4) (int 1) (int 0) (Jb false) Jct JcD 8 (by decide+kernel) (by decide) Jp5) (BxLe.refl _) (PmEq.refl _) rfl fun r h' hq=> ?_
 obtain ⟨rfl,st,nx2,rfl⟩:=hq
 refine stp ?_
 refine DCall.mono (JrG _ _) fun u h' hq=> ?_
 obtain ⟨rfl,rfl⟩:=hq
 refine Jef rfl ⟨⟨rfl,Nat.zero_lt_one⟩,trivial⟩ ⟨int 0,⟨Jl5 s (int 1) (int 0) (Jb false) (.os 4 1 (fun _=> Jau ⟨Jct,(8,0), []⟩) (some (0,st))) (JM []) 2, [((0,st),4)],nx2,1⟩,AVle.refl _, ?_,rfl,st,nx2,rfl⟩
 exact Jay (Jbf s (int 1) (int 0) (Jb false) (.os 4 1 (fun _=> Jau ⟨Jct,(8,0), []⟩) (some (0,st))) (JM []) 2) [((0,st),4)] rfl (.cons _ (.cons _ (.cons _ (.cons _ (List.Sublist.refl _))))) (List.Sublist.refl _) ⟨rfl,OwnLe.refl _,trivial⟩ (PmEq.refl _)
end Go.Proofs.W

namespace Go.Proofs.W
open Go.Vl
set_option maxRecDepth 100000
def pAw:Pol:=⟨(1,0),false, [⟨Jct,(8,0), []⟩]⟩
def LL:List (Nat×List ByteArray):= [(1, [Jb7,Jdu]),(2, [Jct,JcD])]
theorem JvZ:Jtc [(JaY,1),(lineB,2)]=LL:=by
 show [(1,Jem JaY),(2,Jem lineB)]=_
 rw [Jko,Jkp];rfl
def Jkq (k st:Nat):List AV:=match k with
 | 0=> [int 0,int 0,Jb false,Jbg,Jbg,int 0]
 | 1=> [int 1,int 0,Jb false,Jbg,JM [],int 1]
 | _=> [int 1,int 0,Jb false, .os 4 1 (fun _=> Jau ⟨Jct,(8,0), []⟩) (some (0,st)),JM [],int 2]
def Jte (k st:Nat):List (Vl.Id×Nat):=match k with
 | 2=> [((0,st),4)]
 | _=> []
set_option maxHeartbeats 4000000 in
theorem Jp9:Tells Tryz.prog 42 [Jf textAB] (.tup [Jha pAw,int 0,int 0]):=by
 have hl:=JlY
 rw [JvZ] at hl
 refine Jg Tryz.func42 rfl rfl fun nx=> ?_
 refine stp ?_
 refine Jd rfl rfl hl ⟨AVle.refl _,trivial⟩ fun nx2=> ?_
 refine stp ?_
 refine JN (fun y:Nat×Nat×Nat=> mk 52 [(2, .bp (0,nx) 0),(3,int 0),(4,int 0),(8, .bp (1,nx2) 0),(31,JrB LL),(32,int 2),(33,int y.1)] ⟨[((1,nx2), .c (Jkq y.1 y.2.1)),((0,nx), .c [int 0,int 0,Jb false,Jbg])],Jte y.1 y.2.1,y.2.2,2⟩) (fun y=> y.1≤2) (fun y=> 2 - y.1) ?_ ?_
 ·exact ⟨(0,0,nx2+1),Nat.zero_le _,Jh (pm:= []) (bx:= [((1,nx2), .c (Jkq 0 0)),((0,nx), .c [int 0,int 0,Jb false,Jbg])]) _ _ rfl rfl (List.Sublist.refl _) (List.Sublist.refl _) (BxLe.refl _) trivial ⟨AVle.refl _,AVle.refl _,AVle.refl _,AVle.refl _,AVle.refl _,AVle.refl _,AVle.refl _,trivial⟩⟩
 ·rintro ⟨k,st,nx3⟩ h1
  dsimp only at h1
  obtain rfl | rfl | rfl:k=0∨k=1∨k=2:=by omega
  ·refine stp ?_
   refine ⟨⟨(by decide:(0:Int)≤0),(by decide:(0:Int) < 2)⟩,JI (b:= .rp [int 1,JM [Jb7,Jdu]]) rfl ?_⟩
   refine stp ?_
   refine Jk2 (xs:= [.bp (0,nx2) 0,JM [Jb7,Jdu]]) (bx1:= [((1,nx2), .c (Jkq 0 st))]) (pm1:= []) [((2,nx3), .c [int 1,JM [Jb7,Jdu]])] [((0,nx), .c [int 0,int 0,Jb false,Jbg])] [] 3 rfl rfl rfl rfl ⟨AVle.bp_nm rfl,AVle.refl _,trivial⟩ (Jp8 nx2 (nx3+1)) ⟨rfl,OwnLe.refl _,trivial⟩ (PmEq.refl _) rfl fun r h' hq=> ?_
   obtain ⟨rfl,nx4,rfl⟩:=hq
   refine stp ?_
   exact back (1,0,nx4) (by dsimp only;omega) (by dsimp only;omega) (Jh (pm:=Jte 1 0) (bx:= [((1,nx2), .c (Jkq 1 0)),((0,nx), .c [int 0,int 0,Jb false,Jbg])]) _ _ rfl rfl (.cons _ (List.Sublist.refl _)) (List.Sublist.refl _) (BxLe.refl _) (PmEq.refl _) ⟨AVle.refl _,AVle.refl _,AVle.refl _,AVle.refl _,AVle.refl _,AVle.refl _,AVle.refl _,trivial⟩)
  ·refine stp ?_
   refine ⟨⟨(by decide:(0:Int)≤1),(by decide:(1:Int) < 2)⟩,JI (b:= .rp [int 2,JM [Jct,JcD]]) rfl ?_⟩
   refine stp ?_
   refine Jk2 (xs:= [.bp (0,nx2) 0,JM [Jct,JcD]]) (bx1:= [((1,nx2), .c (Jkq 1 st))]) (pm1:= []) [((2,nx3), .c [int 2,JM [Jct,JcD]])] [((0,nx), .c [int 0,int 0,Jb false,Jbg])] [] 3 rfl rfl rfl rfl ⟨AVle.bp_nm rfl,AVle.refl _,trivial⟩ (JrH nx2 (nx3+1)) ⟨rfl,OwnLe.refl _,trivial⟩ (PmEq.refl _) rfl fun r h' hq=> ?_
   obtain ⟨rfl,st',nx4,rfl⟩:=hq
   refine stp ?_
   exact back (2,st',nx4) (by dsimp only;omega) (by dsimp only;omega) (Jh (pm:=Jte 2 st') (bx:= [((1,nx2), .c (Jkq 2 st')),((0,nx), .c [int 0,int 0,Jb false,Jbg])]) _ _ rfl rfl (.cons _ (List.Sublist.refl _)) (List.Sublist.refl _) (BxLe.refl _) (PmEq.refl _) ⟨AVle.refl _,AVle.refl _,AVle.refl _,AVle.refl _,AVle.refl _,AVle.refl _,AVle.refl _,trivial⟩)
  ·refine stp ?_
   exact Jl rfl ⟨rfl,trivial⟩ (AVle.tups (cs:= [_,_,_]) ⟨AVle.ags (cs:= [_,_,_,_]) ⟨AVle.refl _,AVle.refl _,AVle.refl _,(AVle.os_fun (fun i hi=> by obtain rfl:i=0:=Nat.lt_one_iff.1 hi;rfl)).trans AVle.os_sl,trivial⟩,AVle.refl _,AVle.refl _,trivial⟩)
end Go.Proofs.W

namespace Go.Proofs.W
open Go.Vl
set_option maxRecDepth 100000
def JaP (l:List TRow) (s:ByteArray):TRow:=if JaS l s then l.getD (JbC l s) Ji else Ji
set_option maxHeartbeats 2000000 in
theorem JrI (l:List TRow) (s:ByteArray) (hl:l.length≤1000000) (hs:Jgy l s):Tells Tryz.prog 108 [J5 l,Jf s] (.tup [Jb (JaS l s&& decide ((JaP l s).a2≥0)),Jb (decide ((JaP l s).mux > 0))]):=by
 have hf:=Jfq l s hl hs
 unfold Jjp at hf
 unfold JaP
 cases hb:JaS l s with
 | true=>
   rw [hb,if_pos rfl] at hf
   rw [if_pos rfl]
   generalize l.getD (JbC l s) Ji=r at hf⊢
   cases hd:decide (r.a2≥0) with
   | true=>
     refine Jg Tryz.func108 rfl rfl fun nx=> ?_
     refine stp ?_
     refine Jd rfl rfl hf ⟨AVle.refl _,AVle.refl _,trivial⟩ fun nx2=> ?_
     refine stp ?_
     refine Jah 11 _ (fun _=> false) (fun _=> false) [0,1,2,3,4,5,6,7,8,9,10] (by kernel_rfl) (by kernel_rfl) (HB.refl _) ?_
     refine stp ?_
     refine ⟨_,JdO rfl rfl rfl rfl trivial, ?_⟩
     refine stp ?_
     refine ⟨_,JdO rfl rfl rfl rfl (by first | trivial | exact ⟨rfl,Nat.le_of_ble_eq_true rfl⟩ | exact ⟨by decide,by decide⟩), ?_⟩
     refine stp ?_
     refine ⟨_,JdO rfl rfl rfl rfl (by first | trivial | exact ⟨rfl,Nat.le_of_ble_eq_true rfl⟩), ?_⟩
     refine stp ?_
     refine ⟨.v (.bool true),Jk1 rfl rfl rfl rfl trivial hd, ?_⟩
     refine stp ?_
     exact Jl rfl trivial (AVle.refl _)
   | false=>
     refine Jg Tryz.func108 rfl rfl fun nx=> ?_
     refine stp ?_
     refine Jd rfl rfl hf ⟨AVle.refl _,AVle.refl _,trivial⟩ fun nx2=> ?_
     refine stp ?_
     refine Jah 11 _ (fun _=> false) (fun _=> false) [0,1,2,3,4,5,6,7,8,9,10] (by kernel_rfl) (by kernel_rfl) (HB.refl _) ?_
     refine stp ?_
     refine ⟨_,JdO rfl rfl rfl rfl trivial, ?_⟩
     refine stp ?_
     refine ⟨_,JdO rfl rfl rfl rfl (by first | trivial | exact ⟨rfl,Nat.le_of_ble_eq_true rfl⟩ | exact ⟨by decide,by decide⟩), ?_⟩
     refine stp ?_
     refine ⟨_,JdO rfl rfl rfl rfl (by first | trivial | exact ⟨rfl,Nat.le_of_ble_eq_true rfl⟩), ?_⟩
     refine stp ?_
     refine ⟨.v (.bool false),Jk1 rfl rfl rfl rfl trivial hd, ?_⟩
     refine stp ?_
     exact Jl rfl trivial (AVle.refl _)
 | false=>
   rw [hb,if_neg (by decide)] at hf
   rw [if_neg (by decide)]
   refine Jg Tryz.func108 rfl rfl fun nx=> ?_
   refine stp ?_
   refine Jd rfl rfl hf ⟨AVle.refl _,AVle.refl _,trivial⟩ fun nx2=> ?_
   refine stp ?_
   refine Jah 11 _ (fun _=> false) (fun _=> false) [0,1,2,3,4,5,6,7,8,9,10] (by kernel_rfl) (by kernel_rfl) (HB.refl _) ?_
   refine stp ?_
   refine ⟨_,JhL rfl rfl rfl, ?_⟩
   refine stp ?_
   refine ⟨_,JhL rfl rfl rfl, ?_⟩
   refine stp ?_
   refine ⟨_,JhL rfl rfl rfl, ?_⟩
   refine stp ?_
   refine ⟨_,JhL rfl rfl rfl, ?_⟩
   refine stp ?_
   exact Jl rfl trivial (AVle.refl _)
end Go.Proofs.W

namespace Go.Proofs.W
open Go.Vl
set_option maxRecDepth 100000
structure Ct where
 name:ByteArray
 many:Nat
deriving DecidableEq
end Go.Proofs.W

namespace Go.Proofs.W
open Go.Vl
set_option maxRecDepth 100000
end Go.Proofs.W

namespace Go.Proofs.W
open Go.Vl
set_option maxRecDepth 100000
end Go.Proofs.W

namespace Go.Proofs.W
open Go.Vl
set_option maxRecDepth 100000
theorem Juf {a b:Int} (h:a=b):AVle (.v (.int .u32 a)) (u32 b):=h ▸ AVle.refl _
theorem Jqa (k n:Nat) (hk:k < 8) (hn:n≤km k):Tells Tryz.prog 113 [act (k+1:Nat) n] (.tup [u32 (kb k+n:Nat),int 0]):=by
 obtain ⟨s,m,hr1,hr2⟩:=Jve k hk
 obtain ⟨s',c',m',h3,h4,_⟩:=Jgx k hk
 have hm:m=m':=by
  rw [hr1] at h3
  have:=AV.ag.inj h3
  simp at this
  exact this.2.2
 rw [← hm] at h4
 clear h3
 have hle:=JvY hk
 have ho:=Jm2 k hk
 rw [hr1] at ho
 have hR:=JiH ((k+1:Nat):Int) (n:Int)
 have hkm:((km k:Nat):Int)=Jjl ((k+1:Nat):Int):=by
  clear hr1 hr2 h4 hle ho hR hn
  rcases k with _ | _ | _ | _ | _ | _ | _ | _ | k
  all_goals first | decide | omega
 rw [show Jbd ((k+1:Nat):Int) (n:Int)=true by unfold Jbd;rw [← hkm];simp;omega] at hR
 have e1:IntKind.u32.wrap (n:Int)=(n:Int):=by simp [IntKind.wrap,IntKind.signed,IntKind.bits];omega
 have e2:IntKind.u32.wrap ((kb k:Int)+(n:Int))=((kb k+n:Nat):Int):=by
  rw [show (kb k:Int)+(n:Int)=((kb k+n:Nat):Int) by omega]
  simp [IntKind.wrap,IntKind.signed,IntKind.bits];omega
 rcases h4 with rfl | ⟨n',rfl⟩
 all_goals
  refine Jg Tryz.func113 rfl rfl fun nx=> ?_
  refine stp ?_
  refine Jd rfl rfl hR ⟨AVle.refl _,trivial⟩ fun nx1=> ?_
  refine stp ?_
  refine Jd rfl rfl ho ⟨AVle.refl _,trivial⟩ fun nx2=> ?_
  refine stp ?_
  refine Je rfl (AVle.tups ⟨Juf ?_,AVle.refl _,trivial⟩)
  show IntKind.u32.wrap ((kb k:Int)+IntKind.u32.wrap (n:Int))=_
  rw [e1,e2]
end Go.Proofs.W

namespace Go.Proofs.W
open Go.Vl
set_option maxRecDepth 100000
def hB (x:Nat→Nat) (c:Cnd):Bool:=JZ c&& Jf4 c ([x 0,x 1,x 2,x 3,x 4,x 5].getD c.arg.toNat 0)
theorem Jvg {x:Nat→Nat} (hx:∀i,x i < 18446744073709551616) (i:Nat): [x 0,x 1,x 2,x 3,x 4,x 5].getD i 0 < 18446744073709551616:=by
 rcases i with _ | _ | _ | _ | _ | _ | i
 ·exact hx 0
 ·exact hx 1
 ·exact hx 2
 ·exact hx 3
 ·exact hx 4
 ·exact hx 5
 ·exact Nat.zero_lt_succ _
theorem Jli (x:Nat→Nat) (hx:∀i,x i < 18446744073709551616) (c:Cnd) (hc:c.ok):Tells Tryz.prog 39 [JL c,Jki x] (Jb (hB x c)):=JpV c (x 0) (x 1) (x 2) (x 3) (x 4) (x 5) hc (Jvg hx)
end Go.Proofs.W

namespace Go.Proofs.W
open Go.Vl
set_option maxRecDepth 100000
end Go.Proofs.W

namespace Go.Proofs.W
open Go.Vl
set_option maxRecDepth 100000
end Go.Proofs.W

namespace Go.Proofs.W
open Go.Vl
set_option maxRecDepth 100000
end Go.Proofs.W

namespace Go.Proofs.W
open Go.Vl
set_option maxRecDepth 100000
theorem JoT {c d:Cnd}:(c.arg ==d.arg&& (c.op ==d.op&& ((c.mask:Int) ==(d.mask:Int)&& ((c.value:Int) ==(d.value:Int)&& true))))=decide (c=d):=by
 rw [Bool.eq_iff_iff]
 simp only [Bool.and_eq_true,beq_iff_eq,decide_eq_true_eq,and_true]
 obtain ⟨a1,a2,a3,a4⟩:=c
 obtain ⟨b1,b2,b3,b4⟩:=d
 simp
 omega
theorem JrJ {α:Type} {a b:List α} {d:α} (hl:a.length=b.length) (h:∀j,j < a.length→a.getD j d=b.getD j d):a=b:=by
 refine List.ext_getElem hl fun j h1 h2=> ?_
 have:=h j h1
 simpa [List.getD,h1,h2] using this
theorem Jol (a b:List Cnd) (ha:a.length≤1000000):Tells Tryz.prog 196 [Jbt a,Jbt b] (Jb (decide (a=b))):=by
 refine Jg Tryz.func196 rfl rfl fun nx=> ?_
 refine stp ?_
 intro c g1;cases c
 rotate_left
 ·have g1:((a.length:Nat):Int)≠((b.length:Nat):Int):=JaD.1 g1
  refine stp ?_
  exact Je rfl (JF (by rw [eq_comm];exact decide_eq_false (fun h=> g1 (by rw [h]))))
 have g1:((a.length:Nat):Int)=((b.length:Nat):Int):=JaC.1 g1
 have hl:a.length=b.length:=by omega
 refine stp ?_
 refine JN (fun s:Nat×Nat=> mk 26 [(0,Jbt a),(1,Jbt b),(12,int a.length),(13,int s.1)] ⟨[], [],s.2,0⟩) (fun s=> s.1≤a.length∧∀j,j < s.1→a.getD j cnd0=b.getD j cnd0) (fun s=> a.length - s.1) ?_ ?_
 ·exact ⟨(0,nx),⟨Nat.zero_le _,fun j h=> absurd h (Nat.not_lt_zero _)⟩,Ja0 rfl rfl ⟨AVle.refl _,AVle.refl _,AVle.refl _,AVle.refl _,trivial⟩⟩
 ·rintro ⟨i,nx2⟩ ⟨h3,h4⟩
  dsimp only at h3 h4
  refine stp ?_
  intro c h5;cases c
  ·have h6:=JC h5
   dsimp only at h6
   obtain rfl:i=a.length:=by omega
   have he:=JrJ hl h4
   refine stp ?_
   exact Je rfl (JF (by rw [eq_comm];exact decide_eq_true he))
  ·have h6:=JD h5
   dsimp only at h6
   have hi:i < a.length:=by omega
   refine stp ?_
   (refine Jag 9 ?_ ?_ ?_ ?_;(· kernel_rfl);(· kernel_rfl);(· kernel_rfl))
   refine stp ?_
   refine ⟨⟨by dsimp only;omega,by dsimp only;omega⟩, ?_⟩
   refine stp ?_
   refine ⟨⟨by dsimp only;omega,by dsimp only;omega⟩, ?_⟩
   refine stp ?_
   intro c hc
   have hc2:c= !decide (a.getD i cnd0=b.getD i cnd0):=hc.trans (congrArg (!·) JoT)
   cases c
   ·have he:a.getD i cnd0=b.getD i cnd0:=by simpa using hc2
    refine stp ?_
    refine back (i+1,nx2) ⟨by dsimp only;omega,fun j hj=> ?_⟩ (by dsimp only;omega) (Ja0 rfl rfl ⟨AVle.refl _,AVle.refl _,AVle.refl _,Jk (Js (by dsimp only;omega)),trivial⟩)
    dsimp only at hj
    rcases Nat.lt_or_ge j i with h | h
    ·exact h4 j h
    ·obtain rfl:j=i:=by omega
     exact he
   ·have he:¬a.getD i cnd0=b.getD i cnd0:=by simpa using hc2
    refine stp ?_
    exact Je rfl (JF (by rw [eq_comm];exact decide_eq_false (fun h=> he (by rw [h]))))
theorem Jug {a b:A2}:(a.1 ==b.1&& (a.2 ==b.2&& true))=decide (a=b):=by
 rw [Bool.eq_iff_iff]
 simp only [Bool.and_eq_true,beq_iff_eq,decide_eq_true_eq,and_true]
 exact (Prod.ext_iff).symm
end Go.Proofs.W

namespace Go.Proofs.W
open Go.Vl
set_option maxRecDepth 100000
end Go.Proofs.W

namespace Go.Proofs.W
open Go.Vl
set_option maxRecDepth 100000
end Go.Proofs.W

namespace Go.Proofs.W
open Go.Vl
set_option maxRecDepth 100000
end Go.Proofs.W

namespace Go.Proofs.W
open Go.Vl
set_option maxRecDepth 100000
end Go.Proofs.W

namespace Go.Proofs.W
open Go.Vl
set_option maxRecDepth 100000
end Go.Proofs.W

namespace Go.Proofs.W
open Go.Vl
set_option maxRecDepth 100000
end Go.Proofs.W

namespace Go.Proofs.W
open Go.Vl
set_option maxRecDepth 100000
end Go.Proofs.W

namespace Go.Proofs.W
open Go.Vl
set_option maxRecDepth 100000
end Go.Proofs.W

namespace Go.Proofs.W
open Go.Vl
set_option maxRecDepth 100000
def Jfr (r:TRow):Bool:=decide (r.mux < 0)|| (decide (2 < r.mux)|| ((decide (r.mux=0)&& decide (r.sub≠0))|| (decide (0 < r.mux)&& (decide (r.sub < 1)|| decide (255 < r.sub)))))
theorem Jhd (r:TRow):Jce r=(!JeV r&& !Jfr r):=by
 unfold Jce
 congr 1
 unfold Jfr
 by_cases h:r.mux=0
 ·rw [if_pos h,h];simp
 ·rw [if_neg h,Bool.eq_iff_iff];simp;omega
def Jf7 (r s:TRow):Bool:= [0,1,2,3,4].any fun a=> decide (0≤r.num a)&& decide (s.num a=r.num a)
def Jhe (r s:TRow):Bool:=decide (0 < r.mux)&& (decide (s.mux=r.mux)&& decide (s.sub=r.sub))
def JcE (l:List TRow) (i:Nat):Bool:=(l.take i).any fun s=> Jf7 (l.getD i Ji) s|| Jhe (l.getD i Ji) s
def JhO (r:TRow):Bool:=decide (r.a2=102)|| decide (r.a2=117)
def JcY (l:List TRow) (i:Nat):Int:=if Jao (l.getD i Ji).name.data.toList=false then 13 else if JbP l i then 15 else if JeV (l.getD i Ji) then 16 else if Jfr (l.getD i Ji) then 16 else if JhO (l.getD i Ji) then 17 else if JcE l i then 15 else 0
theorem JoU {l:List TRow} {i:Nat} (h:Jao (l.getD i Ji).name.data.toList=false):JcY l i=13:=if_pos h
theorem Jne {l:List TRow} {i:Nat} (h:Jao (l.getD i Ji).name.data.toList=true):JcY l i=if JbP l i then 15 else if JeV (l.getD i Ji) then 16 else if Jfr (l.getD i Ji) then 16 else if JhO (l.getD i Ji) then 17 else if JcE l i then 15 else 0:=if_neg (by rw [h];decide)
theorem Jqb {l:List TRow} {i k:Nat} {r:TRow} (hr:l.getD i Ji=r) (hk:k < i) (hi:i < l.length) (h:(Jf7 r (l.getD k Ji)|| Jhe r (l.getD k Ji))=true):JcE l i=true:=by
 unfold JcE
 rw [hr,List.any_eq_true]
 refine ⟨l.getD k Ji, ?_,h⟩
 rw [List.mem_iff_getElem]
 exact ⟨k,by rw [List.length_take];omega,by rw [List.getElem_take];simp [List.getD,show k < l.length by omega]⟩
def cN (r s:TRow) (a:Nat):Bool:=decide (r.num a≥0)&& decide (s.num a=r.num a)
theorem Jom {r s:TRow} {a:Nat} (ha:a < 5) (h:cN r s a=true):Jf7 r s=true:=by
 unfold Jf7
 rw [List.any_eq_true]
 exact ⟨a,by simp;omega,h⟩
theorem Jtf {r:TRow} {k:Nat} (hk:k < 5) (h:true=JdP (r.num k)):JeV r=true:=by
 rcases (by omega:k=0∨k=1∨k=2∨k=3∨k=4) with rfl | rfl | rfl | rfl | rfl
 all_goals
  have h':JdP (r.num _)=true:=h.symm
  simp only [TRow.num] at h'
  simp [JeV,h']
end Go.Proofs.W

namespace Go.Proofs.W
open Go.Vl
set_option maxRecDepth 100000
def Jf8 (l:List TRow):Int×Int:=if 400 < l.length then (0,3) else match (List.range l.length).find? (fun i=> decide (JcY l i≠0)) with
 | some i=> ((i:Int),JcY l i)
 | none=> (0,0)
theorem Jjw {n:Nat} {p:Nat→Bool} {i:Nat} (hi:i < n) (h:∀j,j < i→p j=false) (hp:p i=true):(List.range n).find? p=some i:=by
 rw [List.find?_range_eq_some]
 exact ⟨hp,List.mem_range.2 hi,fun j hj=> by rw [h j hj];rfl⟩
theorem Jon {n:Nat} {p:Nat→Bool} (h:∀j,j < n→p j=false):(List.range n).find? p=none:=by
 rw [List.find?_eq_none]
 intro x hx
 rw [h x (List.mem_range.1 hx)];decide
end Go.Proofs.W

namespace Go.Proofs.W
open Go.Vl
set_option maxRecDepth 100000
def Jnf (l:List TRow) (k:Nat) (S:Jbu):Prop:=(∀(a:Nat) (n:Int),a < 5→(((a:Int),n)∈S↔n≠-1∧∃j,j < k∧(l.getD j Ji).num a=n))∧(∀m s:Int,m=1∨m=2→((5+m,s)∈S↔∃j,j < k∧(l.getD j Ji).mux=m∧(l.getD j Ji).sub=s))
theorem Jjx {r:TRow} {S:Jbu}:∀ {k:Nat},JaG r S k=none→∃a,a < k∧r.num a≠-1∧((a:Int),r.num a)∈S
 | 0,h=> by unfold JaG at h;cases h
 | k+1,h=> by
   unfold JaG at h
   cases hk:JaG r S k with
   | none=> obtain ⟨a,h1,h2⟩:=Jjx hk;exact ⟨a,by omega,h2⟩
   | some S'=>
     rw [hk] at h
     dsimp only at h
     split at h
     ·cases h
     ·rename_i hn
      split at h
      ·rename_i hm
       refine ⟨k,Nat.lt_succ_self _,hn, ?_⟩
       have:∀ {m:Nat} {S':Jbu},JaG r S m=some S'→∀x∈S',x∈S∨∃a,a < m∧x=((a:Int),r.num a):=by
        intro m
        induction m with
        | zero=> intro S' h x hx;unfold JaG at h;cases h;exact .inl hx
        | succ m ih=>
          intro S' h x hx
          unfold JaG at h
          cases hm:JaG r S m with
          | none=> rw [hm] at h;cases h
          | some S1=>
            rw [hm] at h
            dsimp only at h
            split at h
            ·cases h
             rcases ih hm x hx with q | ⟨a,q1,q2⟩
             ·exact .inl q
             ·exact .inr ⟨a,by omega,q2⟩
            ·split at h
             ·cases h
             ·cases h
              rcases List.mem_append.1 hx with hx | hx
              ·rcases ih hm x hx with q | ⟨a,q1,q2⟩
               ·exact .inl q
               ·exact .inr ⟨a,by omega,q2⟩
              ·exact .inr ⟨m,Nat.lt_succ_self _,List.mem_singleton.1 hx⟩
       rcases this hk _ hm with q | ⟨a,q1,q2⟩
       ·exact q
       ·have:=congrArg Prod.fst q2
        dsimp only at this
        omega
      ·cases h
theorem Jjy {r:TRow} {S:Jbu}:∀ {k:Nat} {S':Jbu},JaG r S k=some S'→(∀x,x∈S'↔x∈S∨∃a,a < k∧r.num a≠-1∧x=((a:Int),r.num a))∧∀a,a < k→r.num a≠-1→¬((a:Int),r.num a)∈S
 | 0,S',h=> by
   unfold JaG at h;cases h
   exact ⟨fun x=> ⟨.inl,fun q=> by rcases q with q | ⟨a,q,_⟩;exact q;omega⟩,fun a ha=> by omega⟩
 | k+1,S',h=> by
   unfold JaG at h
   cases hk:JaG r S k with
   | none=> rw [hk] at h;cases h
   | some S1=>
     rw [hk] at h
     dsimp only at h
     obtain ⟨i1,i2⟩:=Jjy hk
     split at h
     ·rename_i hn
      cases h
      refine ⟨fun x=> (i1 x).trans ⟨fun q=> ?_,fun q=> ?_⟩,fun a ha hna=> ?_⟩
      ·rcases q with q | ⟨a,q1,q2⟩
       ·exact .inl q
       ·exact .inr ⟨a,by omega,q2⟩
      ·rcases q with q | ⟨a,q1,q2⟩
       ·exact .inl q
       ·rcases Nat.lt_or_ge a k with w | w
        ·exact .inr ⟨a,w,q2⟩
        ·rw [show a=k by omega] at q2;exact absurd hn q2.1
      ·rcases Nat.lt_or_ge a k with w | w
       ·exact i2 a w hna
       ·rw [show a=k by omega] at hna;exact absurd hn hna
     ·rename_i hn
      split at h
      ·cases h
      ·rename_i hm
       cases h
       refine ⟨fun x=> ?_,fun a ha hna=> ?_⟩
       ·rw [List.mem_append,i1,List.mem_singleton]
        constructor
        ·rintro ((q | ⟨a,q1,q2⟩) | q)
         ·exact .inl q
         ·exact .inr ⟨a,by omega,q2⟩
         ·exact .inr ⟨k,Nat.lt_succ_self _,hn,q⟩
        ·rintro (q | ⟨a,q1,q2,q3⟩)
         ·exact .inl (.inl q)
         ·rcases Nat.lt_or_ge a k with w | w
          ·exact .inl (.inr ⟨a,w,q2,q3⟩)
          ·rw [show a=k by omega] at q3;exact .inr q3
       ·rcases Nat.lt_or_ge a k with w | w
        ·exact i2 a w hna
        ·rw [show a=k by omega]
         exact fun q=> hm ((i1 _).2 (.inl q))
theorem JfK {l:List TRow} {i:Nat} (hi:i < l.length):JcE l i=true↔∃j,j < i∧((∃a,a < 5∧0≤(l.getD i Ji).num a∧(l.getD j Ji).num a=(l.getD i Ji).num a)∨(0 < (l.getD i Ji).mux∧(l.getD j Ji).mux=(l.getD i Ji).mux∧(l.getD j Ji).sub=(l.getD i Ji).sub)):=by
 constructor
 ·intro h
  unfold JcE at h
  rw [List.any_eq_true] at h
  obtain ⟨s,hs,h⟩:=h
  obtain ⟨j,hj,rfl⟩:=List.mem_iff_getElem.1 hs
  rw [List.length_take] at hj
  rw [List.getElem_take] at h
  have hg:l.getD j Ji=l[j]:=by simp [List.getD,show j < l.length by omega]
  refine ⟨j,by omega, ?_⟩
  rw [hg]
  rw [Bool.or_eq_true] at h
  rcases h with h | h
  ·left
   unfold Jf7 at h
   rw [List.any_eq_true] at h
   obtain ⟨a,ha,h⟩:=h
   rw [Bool.and_eq_true,decide_eq_true_iff,decide_eq_true_iff] at h
   exact ⟨a,by simp at ha;omega,h⟩
  ·right
   unfold Jhe at h
   rw [Bool.and_eq_true,Bool.and_eq_true,decide_eq_true_iff,decide_eq_true_iff,decide_eq_true_iff] at h
   exact h
 ·rintro ⟨j,hj,h⟩
  refine Jqb rfl hj hi ?_
  rw [Bool.or_eq_true]
  rcases h with ⟨a,ha,h1,h2⟩ | ⟨h1,h2,h3⟩
  ·exact .inl (Jom ha (by unfold cN;rw [decide_eq_true h1,decide_eq_true h2];rfl))
  ·exact .inr (by unfold Jhe;rw [decide_eq_true h1,decide_eq_true h2,decide_eq_true h3];rfl)
theorem Juh {r:TRow} (h:JeV r=false) {a:Nat} (ha:a < 5):-1≤r.num a:=by
 have:JdP (r.num a)=false:=by
  cases hq:JdP (r.num a) with
  | false=> rfl
  | true=> rw [Jtf ha hq.symm] at h;cases h
 unfold JdP at this
 rw [Bool.or_eq_false_iff,decide_eq_false_iff_not] at this
 omega
theorem JoV {l:List TRow} {i:Nat} {S:Jbu} (hi:i < l.length) (hS:Jnf l i S):(JcY l i=0→∃S',Jd7 l i S= .ok S'∧Jnf l (i+1) S')∧(JcY l i≠0→∃e,Jd7 l i S= .error e∧e≠0):=by
 obtain ⟨s1,s2⟩:=hS
 cases hn:Jao (l.getD i Ji).name.data.toList with
 | false=> rw [JoU hn];exact ⟨(fun h=> by cases h),fun _=> ⟨13,JoP hn,by decide⟩⟩
 | true=>
   rw [Jne hn]
   cases ho:JbP l i with
   | true=> rw [if_pos rfl];exact ⟨(fun h=> by cases h),fun _=> ⟨15,JoQ hn ho,by decide⟩⟩
   | false=>
     rw [if_neg (by decide)]
     cases hb:JeV (l.getD i Ji) with
     | true=>
       rw [if_pos rfl]
       exact ⟨(fun h=> by cases h),fun _=> ⟨16,Jkk hn ho (by rw [Jhd,hb];rfl),by decide⟩⟩
     | false=>
       rw [if_neg (by decide)]
       cases hm:Jfr (l.getD i Ji) with
       | true=>
         rw [if_pos rfl]
         exact ⟨(fun h=> by cases h),fun _=> ⟨16,Jkk hn ho (by rw [Jhd,hb,hm];rfl),by decide⟩⟩
       | false=>
         rw [if_neg (by decide)]
         have hrg:Jce (l.getD i Ji)=true:=by rw [Jhd,hb,hm];rfl
         cases ha:JhO (l.getD i Ji) with
         | true=>
           rw [if_pos rfl]
           have ha':(l.getD i Ji).a2=102∨(l.getD i Ji).a2=117:=by unfold JhO at ha;simpa using ha
           exact ⟨(fun h=> by cases h),fun _=> ⟨17,Jkl hn ho hrg ha',by decide⟩⟩
         | false=>
           rw [if_neg (by decide)]
           have ha':¬((l.getD i Ji).a2=102∨(l.getD i Ji).a2=117):=fun q=> by
            unfold JhO at ha
            rcases q with q | q
            ·rw [decide_eq_true q] at ha;cases ha
            ·rw [decide_eq_true q,Bool.or_true] at ha;cases ha
           rw [Jlb hn ho hrg ha']
           cases hns:JaG (l.getD i Ji) S 5 with
           | none=>
             obtain ⟨a,h1,h2,h3⟩:=Jjx hns
             obtain ⟨_,j,hj,h4⟩:=(s1 a _ h1).1 h3
             have hc:JcE l i=true:=(JfK hi).2 ⟨j,hj, .inl ⟨a,h1,by have:=Juh hb h1;omega,h4⟩⟩
             rw [hc,if_pos rfl]
             exact ⟨(fun h=> by cases h),fun _=> ⟨15,rfl,by decide⟩⟩
           | some S1=>
             obtain ⟨i1,i2⟩:=Jjy hns
             dsimp only
             have hnoN:∀j,j < i→∀a,a < 5→0≤(l.getD i Ji).num a→(l.getD j Ji).num a≠(l.getD i Ji).num a:=fun j hj a h1 h2 h3=> i2 a h1 (by omega) ((s1 a _ h1).2 ⟨by omega,j,hj,h3⟩)
             have hS1:∀(a:Nat) (n:Int),a < 5→(((a:Int),n)∈S1↔n≠-1∧∃j,j < i+1∧(l.getD j Ji).num a=n):=fun a n h5=> by
              rw [i1,s1 a n h5]
              constructor
              ·rintro (⟨q1,j,q2,q3⟩ | ⟨b,q1,q2,q3⟩)
               ·exact ⟨q1,j,by omega,q3⟩
               ·have e1:a=b:=by have:=congrArg Prod.fst q3;dsimp only at this;omega
                have e2:n=(l.getD i Ji).num b:=congrArg Prod.snd q3
                subst e1
                exact ⟨by rw [e2];exact q2,i,Nat.lt_succ_self _,e2.symm⟩
              ·rintro ⟨q1,j,q2,q3⟩
               rcases Nat.lt_or_ge j i with w | w
               ·exact .inl ⟨q1,j,w,q3⟩
               ·have e:j=i:=by omega
                subst e
                exact .inr ⟨a,h5,by rw [q3];exact q1,by rw [q3]⟩
             unfold Jhc
             by_cases hm0:(l.getD i Ji).mux=0
             ·rw [if_pos hm0]
              have hc:JcE l i=false:=by
               rw [Bool.eq_false_iff,Ne,JfK hi]
               rintro ⟨j,hj,⟨a,h1,h2,h3⟩ | ⟨h1,_⟩⟩
               ·exact hnoN j hj a h1 h2 h3
               ·omega
              rw [hc,if_neg (by decide)]
              refine ⟨fun _=> ⟨S1,rfl,hS1,fun m s hms=> ?_⟩,fun h=> absurd rfl h⟩
              rw [i1,s2 m s hms]
              constructor
              ·rintro (⟨j,q2,q3⟩ | ⟨b,q1,q2,q3⟩)
               ·exact ⟨j,by omega,q3⟩
               ·have:=congrArg Prod.fst q3;dsimp only at this;omega
              ·rintro ⟨j,q2,q3,q4⟩
               rcases Nat.lt_or_ge j i with w | w
               ·exact .inl ⟨j,w,q3,q4⟩
               ·have e:j=i:=by omega
                subst e;omega
             ·rw [if_neg hm0]
              have hm12:=Jjn hrg hm0
              by_cases hin:(5+(l.getD i Ji).mux,(l.getD i Ji).sub)∈S1
              ·rw [if_pos hin]
               have hinS:(5+(l.getD i Ji).mux,(l.getD i Ji).sub)∈S:=by
                rcases (i1 _).1 hin with q | ⟨b,q1,q2,q3⟩
                ·exact q
                ·have:=congrArg Prod.fst q3;dsimp only at this;omega
               obtain ⟨j,hj,q1,q2⟩:=(s2 _ _ hm12).1 hinS
               have hc:JcE l i=true:=(JfK hi).2 ⟨j,hj, .inr ⟨by omega,q1,q2⟩⟩
               rw [hc,if_pos rfl]
               exact ⟨(fun h=> by cases h),fun _=> ⟨15,rfl,by decide⟩⟩
              ·rw [if_neg hin]
               have hc:JcE l i=false:=by
                rw [Bool.eq_false_iff,Ne,JfK hi]
                rintro ⟨j,hj,⟨a,h1,h2,h3⟩ | ⟨h1,h2,h3⟩⟩
                ·exact hnoN j hj a h1 h2 h3
                ·exact hin ((i1 _).2 (.inl ((s2 _ _ hm12).2 ⟨j,hj,h2,h3⟩)))
               rw [hc,if_neg (by decide)]
               refine ⟨fun _=> ⟨_,rfl,fun a n h5=> ?_,fun m s hms=> ?_⟩,fun h=> absurd rfl h⟩
               ·rw [List.mem_append,hS1 a n h5,List.mem_singleton]
                constructor
                ·rintro (q | q)
                 ·exact q
                 ·have:=congrArg Prod.fst q;dsimp only at this;omega
                ·exact .inl
               ·rw [List.mem_append,i1,s2 m s hms,List.mem_singleton]
                constructor
                ·rintro ((⟨j,q2,q3⟩ | ⟨b,q1,q2,q3⟩) | q)
                 ·exact ⟨j,by omega,q3⟩
                 ·have:=congrArg Prod.fst q3;dsimp only at this;omega
                 ·have e1:=congrArg Prod.fst q
                  have e2:=congrArg Prod.snd q
                  dsimp only at e1 e2
                  exact ⟨i,Nat.lt_succ_self _,by omega,e2.symm⟩
                ·rintro ⟨j,q2,q3,q4⟩
                 rcases Nat.lt_or_ge j i with w | w
                 ·exact .inl (.inl ⟨j,w,q3,q4⟩)
                 ·have e:j=i:=by omega
                  subst e
                  exact .inr (by rw [q3,q4])
theorem JiI {l:List TRow}:∀ {k:Nat},k≤l.length→(∀j,j < k→JcY l j=0)→∃S,Jc5 l k= .ok S∧Jnf l k S
 | 0,_,_=> ⟨[],rfl,fun a n _=> by simp,fun m s _=> by simp⟩
 | k+1,hk,h=> by
   obtain ⟨S,h1,h2⟩:=JiI (k:=k) (by omega) fun j hj=> h j (by omega)
   obtain ⟨S',h3,h4⟩:=(JoV (by omega) h2).1 (h k (by omega))
   exact ⟨S',Jla h1 h3,h4⟩
theorem Jlj {l:List TRow}:(∀j,j < l.length→JcY l j=0)∨∃i,i < l.length∧JcY l i≠0∧∀j,j < i→JcY l j=0:=by
 have:∀n,n≤l.length→(∀j,j < n→JcY l j=0)∨∃i,i < l.length∧JcY l i≠0∧∀j,j < i→JcY l j=0:=by
  intro n
  induction n with
  | zero=> exact fun _=> .inl fun j hj=> absurd hj (Nat.not_lt_zero j)
  | succ n ih=>
    intro hn
    rcases ih (by omega) with h | h
    ·by_cases q:JcY l n=0
     ·exact .inl fun j hj=> by rcases Nat.lt_or_ge j n with w | w;exact h j w;rw [show j=n by omega];exact q
     ·exact .inr ⟨n,by omega,q,h⟩
    ·exact .inr h
 exact this _ (Nat.le_refl _)
theorem JrK (l:List TRow):(JbU l).2=0↔(Jf8 l).2=0:=by
 by_cases h4:400 < l.length
 ·unfold JbU Jf8
  rw [if_pos h4,if_pos h4]
 ·rcases Jlj (l:=l) with h | ⟨i,hi,h1,h2⟩
  ·obtain ⟨S,hS,-⟩:=JiI (Nat.le_refl _) h
   rw [Jrz h4 hS]
   unfold Jf8
   rw [if_neg h4,Jon (fun j hj=> decide_eq_false (fun q=> q (h j hj)))]
  ·obtain ⟨S,hS,hs⟩:=JiI (k:=i) (by omega) h2
   obtain ⟨e,he,hne⟩:=(JoV hi hs).2 h1
   rw [JoO h4 hi hS he]
   unfold Jf8
   rw [if_neg h4,Jjw (p:=fun i=> decide (JcY l i≠0)) hi (fun j hj=> decide_eq_false (fun q=> q (h2 j hj))) (decide_eq_true h1)]
   exact ⟨fun q=> absurd q hne,fun q=> absurd q h1⟩
theorem Jd8 {l:List TRow} (h:(JbU l).2=0):l.length≤400∧∀j,j < l.length→JcY l j=0:=by
 rw [JrK] at h
 unfold Jf8 at h
 by_cases h4:400 < l.length
 ·rw [if_pos h4] at h;cases h
 ·rcases Jlj (l:=l) with q | ⟨i,hi,h1,h2⟩
  ·exact ⟨by omega,q⟩
  ·rw [if_neg h4,Jjw (p:=fun i=> decide (JcY l i≠0)) hi (fun j hj=> decide_eq_false (fun q=> q (h2 j hj))) (decide_eq_true h1)] at h
   exact absurd h h1
theorem Jfs {l:List TRow} {i:Nat} (h:JcY l i=0):Jao (l.getD i Ji).name.data.toList=true∧JbP l i=false∧JeV (l.getD i Ji)=false∧Jfr (l.getD i Ji)=false∧JhO (l.getD i Ji)=false∧JcE l i=false:=by
 cases hn:Jao (l.getD i Ji).name.data.toList with
 | false=> rw [JoU hn] at h;cases h
 | true=>
   rw [Jne hn] at h
   split at h
   ·cases h
   split at h
   ·cases h
   split at h
   ·cases h
   split at h
   ·cases h
   split at h
   ·cases h
   simp_all
theorem Jgz {l:List TRow} (h:(JbU l).2=0):Jkn l:=by
 obtain ⟨_,hr⟩:=Jd8 h
 have step:∀i,i+1 < l.length→Go.Sort.ltStr (l.getD i Ji).name.data.toList (l.getD (i+1) Ji).name.data.toList=true:=fun i hi=> by
  have:=(Jfs (hr (i+1) hi)).2.1
  unfold JbP at this
  rw [decide_eq_true (Nat.succ_pos i),Bool.true_and] at this
  exact Jvb this
 intro i j hij hj
 have:∀n,i+1+n < l.length→Go.Sort.ltStr (l.getD i Ji).name.data.toList (l.getD (i+1+n) Ji).name.data.toList=true:=by
  intro n
  induction n with
  | zero=> exact step i
  | succ n ih=> exact fun hn=> Go.Sort.swo_ltStr.trans _ _ _ (ih (by omega)) (step (i+1+n) (by omega))
 have:=this (j - i - 1) (by omega)
 rwa [show i+1+(j - i - 1)=j by omega] at this
end Go.Proofs.W

namespace Go.Proofs.W
open Go.Vl
set_option maxRecDepth 100000
def nameR (l:List TRow) (r:Rec):ByteArray:=(ofI l r).name
def JwT (l:List TRow) (s:ByteArray) (rs:List Rec):List Rec:=rs.filter fun r=> kS s (nameR l r)
def Jtg (l:List TRow) (r:Rec) (k:Nat):Nat:=JwL (ofI l r).abi.toNat r k
def OwnOk (l:List TRow) (rs:List Rec) (g:Gat):Prop:=∃r0 rest,JwT l g.name rs=r0::rest∧g.m=rest.length+1∧(∀k,g.a k=Jtg l r0 k)∧∀k,g.b k=rest.all fun r=> decide (Jtg l r0 k=Jtg l r k)
structure GInv (l:List TRow) (rs:List Rec) (S:List Gat×Bool):Prop where
 nd:(S.1.map Gat.name).Nodup
 nz:∀g∈S.1,g.name.size≠0
 own:∀g∈S.1,OwnOk l rs g
 all:∀r∈rs,(nameR l r).size≠0→∃g∈S.1,g.name=nameR l r
 x:S.2=rs.any fun r=> decide ((nameR l r).size≠0)&& decide ((ofI l r).abi=1)
def RSb (a b:List UInt8):Prop:=Go.Sort.ltStr a b=true
theorem Jkr (x:List UInt8):¬RSb x x:=by unfold RSb;rw [Go.Sort.swo_ltStr.irrefl];decide
theorem Jvh (x y z:List UInt8) (h:RSb x y) (k:RSb y z):RSb x z:=Go.Sort.swo_ltStr.trans x y z h k
theorem Jjz:∀ {a b:List (List UInt8)},a.Pairwise RSb→b.Pairwise RSb→(∀z,z∈a↔z∈b)→a=b
 | [], [],_,_,_=> rfl
 | [],y::b,_,_,h=> by have:=(h y).2 (.head _);cases this
 | x::a, [],_,_,h=> by have:=(h x).1 (.head _);cases this
 | x::a,y::b,ha,hb,h=> by
   rw [List.pairwise_cons] at ha hb
   have hxy:x=y:=by
    rcases List.mem_cons.1 ((h x).1 (.head _)) with e | hx
    ·exact e
    ·rcases List.mem_cons.1 ((h y).2 (.head _)) with e | hy
     ·exact e.symm
     ·exact absurd (Jvh _ _ _ (ha.1 y hy) (hb.1 x hx)) (Jkr x)
   subst hxy
   rw [Jjz ha.2 hb.2 fun z=> ⟨fun hz=> ?_,fun hz=> ?_⟩]
   ·rcases List.mem_cons.1 ((h z).1 (.tail _ hz)) with e | q
    ·subst e;exact absurd (ha.1 _ hz) (Jkr _)
    ·exact q
   ·rcases List.mem_cons.1 ((h z).2 (.tail _ hz)) with e | q
    ·subst e;exact absurd (hb.1 _ hz) (Jkr _)
    ·exact q
end Go.Proofs.W

namespace Go.Proofs.W
open Go.Vl
set_option maxRecDepth 100000
end Go.Proofs.W

namespace Go.Proofs.W
open Go.Vl
set_option maxRecDepth 100000
def Ju (a:A2):Nat:=kb (a.1.toNat - 1)+a.2.toNat
theorem Joo {k n:Int} (h:Jbd k n=true):∃k' n':Nat,k=(k'+1:Nat)∧n=(n':Nat)∧k' < 8∧n'≤km k':=by
 unfold Jbd at h
 simp only [Bool.and_eq_true,decide_eq_true_eq] at h
 obtain ⟨⟨⟨h1,h2⟩,h3⟩,h4⟩:=h
 refine ⟨(k - 1).toNat,n.toNat,by omega,by omega,by omega, ?_⟩
 unfold Jjl at h4
 unfold km
 split at h4
 ·rw [if_pos (by omega)];omega
 ·split at h4
  ·rw [if_neg (by omega),if_pos (by omega)];omega
  ·rw [if_neg (by omega),if_neg (by omega)];omega
theorem JoW (a:A2) (h:Jbd a.1 a.2=true):Tells Tryz.prog 113 [Ju9 a] (.tup [u32 (Ju a:Nat),int 0]):=by
 obtain ⟨k,n⟩:=a
 obtain ⟨k',n',rfl,rfl,h1,h2⟩:=Joo h
 have:=Jqa k' n' h1 h2
 unfold Ju
 dsimp only
 rw [show ((k'+1:Nat):Int).toNat - 1=k' by omega,show ((n':Nat):Int).toNat=n' by omega]
 exact this
theorem Jng {p:Pol} (h:Jbm p=true):Jbd p.dflt.1 p.dflt.2=true∧∀r∈p.rules,Jaj r=true:=by
 unfold Jbm at h
 simp only [Bool.and_eq_true,decide_eq_true_eq,Bool.not_eq_true',List.any_eq_false,Bool.not_eq_false'] at h
 refine ⟨h.1,fun r hr=> ?_⟩
 have:=h.2.2 r hr
 simpa using this
theorem Jqc {r:Rul} (h:Jaj r=true):Jbd r.act.1 r.act.2=true:=by
 unfold Jaj at h
 simp only [Bool.and_eq_true] at h
 exact h.2.1
end Go.Proofs.W

namespace Go.Proofs.W
open Go.Vl
set_option maxRecDepth 100000
structure PRul where
 conds:List Cnd
 code:Nat
deriving DecidableEq
structure PEnt where
 num:Nat
 rules:List PRul
structure PSub where
 num:Nat
 code:Nat
deriving DecidableEq
structure Plan where
 dflt:Nat
 x32:Bool
 ents:Nat→List PEnt
 subs:Nat→List PSub
def JeN (c:Cnd):Bool:=decide ((JaB c).2=2)
def JiJ (c:Cnd):Option Cnd:=if (JaB c).2=0 then some (JaB c).1 else none
def JgA (r:PRul):Option PRul:=if r.conds.any JeN then none else some ⟨r.conds.filterMap JiJ,r.code⟩
def Jks (a:Nat) (r:PRul):Option PRul:=if a=2 then JgA r else some r
def Je5 (a:Nat):List PRul→List PRul
 | []=> []
 | r::l=> match Jks a r with
   | none=> Je5 a l
   | some q=> if q.conds.length=0 then [q] else q::Je5 a l
def Jkt (d:Nat) (l:List PRul):List PRul:=(l.reverse.dropWhile fun r=> decide (r.code=d)).reverse
def JaH (a:Nat) (l:List PRul) (d:Nat):List PRul:=Jkt d (Je5 a l)
theorem Jlk {d:Nat} {l:List PRul} {r:PRul}:Jkt d (l++ [r])=if r.code=d then Jkt d l else l++ [r]:=by
 unfold Jkt
 rw [List.reverse_append,List.reverse_singleton,List.singleton_append,List.dropWhile_cons]
 by_cases h:r.code=d
 ·rw [if_pos (decide_eq_true h),if_pos h]
 ·rw [if_neg (by simpa using h),if_neg h,List.reverse_cons,List.reverse_reverse]
def PRul.ok (r:PRul):Prop:=∀c∈r.conds,c.ok∧NFm c
theorem Jvi {x:Nat→Nat} (hx:∀i,x i < 4294967296) {c:Cnd} (ho:c.ok) (hc:NFm c):((JaB c).2=1→hB x c=true)∧((JaB c).2=2→hB x c=false)∧((JaB c).2=0→hB x (JaB c).1=hB x c):=by
 have h4: [x 0,x 1,x 2,x 3,x 4,x 5].getD c.arg.toNat 0 < 4294967296:=by
  rcases c.arg.toNat with _ | _ | _ | _ | _ | _ | k
  all_goals first | exact hx _ | exact (by decide:(0:Nat) < 4294967296)
 have h:=Jro ho hc h4
 unfold hB
 rw [hc.1,Bool.true_and]
 refine ⟨h.1,h.2.1,fun h0=> ?_⟩
 obtain ⟨k1,k2,k3⟩:=h.2.2 h0
 rw [k1,k2,k3,Bool.true_and]
theorem JjA (c:Cnd):(JaB c).2=0∨(JaB c).2=1∨(JaB c).2=2:=by
 unfold JaB
 repeat' split
 all_goals simp
end Go.Proofs.W

namespace Go.Proofs.W
open Go.Vl
set_option maxRecDepth 100000
end Go.Proofs.W

namespace Go.Proofs.W
open Go.Vl
set_option maxRecDepth 100000
theorem Jen {P:Program} {c:Code} {E:Env} {Q:AExit→Env→Prop} (h:AW P c E (JtM (fun _:Unit=> E) (fun _=> True) (fun _=> 0) () Q)):AW P (.loop c) E Q:=
 JN (fun _:Unit=> E) (fun _=> True) (fun _=> 0) ⟨(),trivial,ELe.refl _⟩ fun _ _=> h
def Jeo (sz:Nat):AV:= .os sz 0 (fun _=> .any) none
theorem Jui:Tells Tryz.prog 209 [u64 0] (int 0):=by
 refine Jg Tryz.func209 rfl rfl fun nx=> ?_
 refine stp ?_
 exact Je rfl (AVle.refl _)
theorem Jqd:Tells Tryz.prog 120 [.v (.int .u64 0)] (int 0):=by
 refine Jg Tryz.func120 rfl rfl fun nx=> ?_
 refine stp ?_
 refine Jd rfl rfl Jui ⟨AVle.refl _,trivial⟩ fun nx=> ?_
 refine stp ?_
 exact Je rfl (AVle.refl _)
theorem Jv0 (n:Nat):Tells Tryz.prog 328 [Jeo 4,int 0,int 0,fn0 n] (.tup []):=by
 refine Jg Tryz.func328 rfl rfl fun nx=> ?_
 refine stp ?_
 refine Jen ?_
 refine stp ?_
 exact Je rfl (AVle.refl _)
theorem Jv1 (n:Nat):Tells Tryz.prog 261 [Jeo 4,int 0,int 0,int 0,fn0 n] (.tup []):=by
 refine Jg Tryz.func261 rfl rfl fun nx=> ?_
 refine stp ?_
 refine Jen ?_
 refine stp ?_
 refine Jd rfl rfl (Jv0 n) ⟨AVle.refl _,AVle.refl _,AVle.refl _,AVle.refl _,trivial⟩ fun nx=> ?_
 refine stp ?_
 exact Je rfl (AVle.refl _)
theorem Jqe (n:Nat):Tells Tryz.prog 192 [Jeo 4,fn0 n] (.tup []):=by
 refine Jg Tryz.func192 rfl rfl fun nx=> ?_
 refine stp ?_
 refine Jd rfl rfl Jqd ⟨AVle.refl _,trivial⟩ fun nx=> ?_
 refine stp ?_
 refine Jd rfl rfl (Jv1 n) ⟨AVle.refl _,AVle.refl _,AVle.refl _,AVle.refl _,AVle.refl _,trivial⟩ fun nx=> ?_
 refine stp ?_
 exact Je rfl (AVle.refl _)
theorem JrL:Tells Tryz.prog 194 [Jeo 4] (Jeo 4):=by
 refine Jg Tryz.func194 rfl rfl fun nx=> ?_
 refine stp ?_
 exact Je rfl (AVle.refl _)
theorem Jth (c:Cnd):(c.arg ==c.arg&& (c.op ==c.op&& ((c.mask:Int) ==(c.mask:Int)&& ((c.value:Int) ==(c.value:Int)&& true))))=true:=by simp
end Go.Proofs.W

namespace Go.Proofs
open Go.Shelf
shelf_lay Lays.n125 Nm 125 at Tryz as Tryz.lays125
end Go.Proofs
namespace Go.Proofs.W
open Go.Vl Go.Shelf
set_option maxRecDepth 100000
theorem Jnh (n:Nat) (hn:n≤1000000000):Tells Tryz.prog 120 [.v (.int .u64 (n:Int))] (.v (.int .i64 (Lib.bitLen n))):=
 JcA (vs:= [.int .u64 (n:Int)]) ⟨_,Tryz.func120,rfl,rfl⟩ fun w=> (Any.bits_Len Tryz.lays125 (n:Int) w (by omega) (by omega)).mono fun e w' ⟨h1,h2⟩=> ⟨h1,by subst h2;exact ⟨rfl,rfl,rfl,Nat.le_refl _,fun _ _=> rfl⟩⟩
end Go.Proofs.W

namespace Go.Proofs.W
open Go.Vl
set_option maxRecDepth 100000
def Jde (a b:Int):Int:=if a < b then -1 else if b < a then 1 else 0
def orL:List Int→Int
 | []=> 0
 | x::l=> if x=0 then orL l else x
theorem Jik (a b:Int):Tells Tryz.prog 263 [int a,int b] (int (Jde a b)):=by
 have hn:∀z:Int,Tells Tryz.prog 336 [int z] (Jb false):=fun z=> by
  refine Jg Tryz.func336 rfl rfl fun nx=> ?_
  refine stp ?_
  (intro c hc;(first | (rw [bne_self_eq_false] at hc;subst hc) | (obtain rfl:c=false:=hc.trans (bne_self_eq_false _)));refine stp ?_)
  exact Je rfl (AVle.refl _)
 refine Jg Tryz.func263 rfl rfl fun nx=> ?_
 refine stp ?_
 refine Jd rfl rfl (hn a) ⟨AVle.refl _,trivial⟩ fun nx1=> ?_
 refine stp ?_
 refine Jd rfl rfl (hn b) ⟨AVle.refl _,trivial⟩ fun nx2=> ?_
 refine stp ?_
 intro c h;cases c
 ·have h:=JC h
  refine stp ?_
  intro c g;cases c
  ·have g:=JC g
   refine stp ?_
   exact Je rfl (Jk (by unfold Jde;rw [if_neg h,if_neg g]))
  ·have g:=JD g
   refine stp ?_
   exact Je rfl (Jk (by unfold Jde;rw [if_neg h,if_pos g]))
 ·have h:=JD h
  refine stp ?_
  exact Je rfl (Jk (by unfold Jde;rw [if_pos h]))
theorem Jil (a b:Nat):Tells Tryz.prog 264 [u64 a,u64 b] (int (Jde a b)):=by
 have hn:∀z:Nat,Tells Tryz.prog 337 [u64 z] (Jb false):=fun z=> by
  refine Jg Tryz.func337 rfl rfl fun nx=> ?_
  refine stp ?_
  (intro c hc;(first | (rw [bne_self_eq_false] at hc;subst hc) | (obtain rfl:c=false:=hc.trans (bne_self_eq_false _)));refine stp ?_)
  exact Je rfl (AVle.refl _)
 refine Jg Tryz.func264 rfl rfl fun nx=> ?_
 refine stp ?_
 refine Jd rfl rfl (hn a) ⟨AVle.refl _,trivial⟩ fun nx1=> ?_
 refine stp ?_
 refine Jd rfl rfl (hn b) ⟨AVle.refl _,trivial⟩ fun nx2=> ?_
 refine stp ?_
 intro c h;cases c
 ·have h:=JC h
  refine stp ?_
  intro c g;cases c
  ·have g:=JC g
   refine stp ?_
   exact Je rfl (Jk (by unfold Jde;rw [if_neg h,if_neg g]))
  ·have g:=JD g
   refine stp ?_
   exact Je rfl (Jk (by unfold Jde;rw [if_neg h,if_pos g]))
 ·have h:=JD h
  refine stp ?_
  exact Je rfl (Jk (by unfold Jde;rw [if_pos h]))
theorem Jvj {l:List Int} {i:Nat} (hi:i < l.length) (h:∀j,j < i→l.getD j 0=0) (hx:l.getD i 0≠0):orL l=l.getD i 0:=by
 induction l generalizing i with
 | nil=> cases hi
 | cons x l ih=>
   cases i with
   | zero=> simp at hx;simp [orL,hx]
   | succ i=>
     have h0:x=0:=by simpa using h 0 (by omega)
     simp only [orL,h0,if_true]
     rw [ih (i:=i) (by simpa using hi) (fun j hj=> by simpa using h (j+1) (by omega)) (by simpa using hx)]
     simp
theorem Jti {l:List Int} (h:∀j,j < l.length→l.getD j 0=0):orL l=0:=by
 induction l with
 | nil=> rfl
 | cons x l ih=>
   have h0:x=0:=by simpa using h 0 (by simp)
   simp only [orL,h0,if_true]
   exact ih (fun j hj=> by simpa using h (j+1) (by simpa using hj))
theorem Juj (l:List Int) (hl:l.length≤1000000):Tells Tryz.prog 262 [JJ 1 int 0 l] (int (orL l)):=by
 refine Jg Tryz.func262 rfl rfl fun nx=> ?_
 refine stp ?_
 refine JN (fun s:Nat×Nat=> mk 18 [(3,int 0),(6,JJ 1 int 0 l),(7,int l.length),(8,int s.1)] ⟨[], [],s.2,0⟩) (fun s=> s.1≤l.length∧∀j,j < s.1→l.getD j 0=0) (fun s=> l.length - s.1) ?_ ?_
 ·exact ⟨(0,nx),⟨by simp,by intro j hj;simp at hj⟩,Ja0 rfl rfl ⟨AVle.refl _,AVle.refl _,AVle.refl _,AVle.refl _,trivial⟩⟩
 ·rintro ⟨i,nx⟩ ⟨h1,h2⟩
  dsimp only at h1 h2
  refine stp ?_
  intro c h3;cases c
  ·have h3:=JC h3
   dsimp only at h3
   refine stp ?_
   exact Je rfl (Jk (Jti (fun j hj=> h2 j (by omega))).symm)
  ·have h3:=JD h3
   dsimp only at h3
   have hi:i < l.length:=by omega
   refine stp ?_
   refine ⟨⟨by first | omega | (dsimp only;omega),by first | omega | (dsimp only;omega)⟩, ?_⟩
   refine stp ?_
   intro c h4;cases c
   ·have h4:l.getD i 0=0:=by simpa using h4
    refine stp ?_
    exact back (i+1,nx) ⟨hi,fun j hj=> by rcases Nat.lt_or_ge j i with q | q;exact h2 j q;rw [show j=i by omega];exact h4⟩ (by dsimp only;omega) (Ja0 rfl rfl ⟨AVle.refl _,AVle.refl _,AVle.refl _,Jk (Js (by dsimp only;omega)),trivial⟩)
   ·have h4:l.getD i 0≠0:=by simpa using h4
    refine stp ?_
    exact Je rfl (Jk (Jvj hi h2 h4).symm)
def Jni (a b:Cnd):Int:=orL [Jde a.arg b.arg,Jde a.op b.op,Jde a.mask b.mask,Jde a.value b.value]
theorem Jqf (a b:Cnd):Tells Tryz.prog 193 [JL a,JL b] (int (Jni a b)):=by
 refine Jg Tryz.func193 rfl rfl fun nx=> ?_
 refine stp ?_
 (refine Jag 22 ?_ ?_ ?_ ?_;(· kernel_rfl);(· kernel_rfl);(· kernel_rfl))
 refine stp ?_
 refine Ja3 (J8 rfl rfl (Jik a.arg b.arg) ⟨AVle.refl _,AVle.refl _,trivial⟩ (NoId.v _)) ?_
 refine stp ?_
 refine Ja3 (J8 rfl rfl (Jik a.op b.op) ⟨AVle.refl _,AVle.refl _,trivial⟩ (NoId.v _)) ?_
 refine stp ?_
 refine Ja3 (J8 rfl rfl (Jil a.mask b.mask) ⟨AVle.refl _,AVle.refl _,trivial⟩ (NoId.v _)) ?_
 refine stp ?_
 refine Ja3 (J8 rfl rfl (Jil a.value b.value) ⟨AVle.refl _,AVle.refl _,trivial⟩ (NoId.v _)) ?_
 refine stp ?_
 refine Ja3 (J8 rfl rfl (Juj [Jde a.arg b.arg,Jde a.op b.op,Jde a.mask b.mask,Jde a.value b.value] (by show 4≤1000000;omega)) ⟨?_,trivial⟩ (NoId.v _)) ?_
 ·(conv=> arg 1;whnf)
  refine AVle.trans AVle.os_sl (AVle.sl_fun fun k hk=> ?_)
  rcases (show k=0∨k=1∨k=2∨k=3 by have hk:k < 4:=hk;omega) with rfl | rfl | rfl | rfl <;> rfl
 refine stp ?_
 exact Je rfl (AVle.refl _)
end Go.Proofs.W

namespace Go.Proofs.W
open Go.Vl
set_option maxRecDepth 100000
instance:Inhabited Cnd:=⟨cnd0⟩
def eC (c:Cnd):List AV:= [int c.arg,int c.op,u64 c.mask,u64 c.value]
theorem Jbn (x:Cnd):(eC x).length=4:=rfl
theorem c_cnd:Tryz.prog.cellsOf 86=4:=by kernel_rfl
theorem Je6:(Tryz.prog.underlying 86).map agD=some true:=by kernel_rfl
def JbG (s:Nat) (d:Array Cnd) (tl:List AV):List (Vl.Id×Own):= [((0,s), .c (J6 eC d tl))]
set_option maxHeartbeats 4000000 in
theorem Juk (f:Nat) (lt:Cnd→Cnd→Bool) (cf:Cnd→Cnd→Int) (hf:∀a b,Tells Tryz.prog f [JL a,JL b] (int (cf a b))) (hlt:∀a b,lt a b=decide (cf a b < 0)) (d0:Array Cnd) (tl:List AV) (n a b:Nat) (hn:d0.size=n) (hab:a≤b) (hb:b≤n) (hsz:n≤1000000) (s cap nx:Nat):
 ECall Tryz.prog 328 [.hs (0,s) 0 n cap,int a,int b,fn0 f] ⟨JbG s d0 tl, [],nx,1⟩ (fun r h'=> ∃nx' nn',h'=⟨JbG s (Go.Sort.insertionSort lt d0 a b) tl, [],nx',nn'⟩):=by
 refine ECall.wk (JU Tryz.func328 rfl rfl ?_)
 refine stp ?_
 refine JN (fun y:Array Cnd×Nat×Nat=> mk 53 [(0, .hs (0,s) 0 n cap),(1,int a),(2,int b),(3,fn0 f),(8,int y.2.1)] ⟨JbG s y.1 tl, [],y.2.2,1⟩) (fun y=> y.1.size=n∧a+1≤y.2.1∧y.2.1≤b+1∧Go.Sort.insOuter lt a b y.2.1 y.1=Go.Sort.insertionSort lt d0 a b) (fun y=> b+1 - y.2.1) ?_ ?_
 ·exact ⟨(d0,a+1,nx),⟨hn,Nat.le_refl _,by dsimp only;omega,rfl⟩,Jh _ _ rfl rfl (List.Sublist.refl _) .slnil (BxLe.refl _) trivial ⟨AVle.refl _,AVle.refl _,AVle.refl _,AVle.refl _,Jk (Js (by first | omega | (dsimp only;omega))),trivial⟩⟩
 ·rintro ⟨d,i,nx1⟩ ⟨h1,h2,h3,h4⟩
  dsimp only at h1 h2 h3 h4
  refine stp ?_
  intro c g;cases c
  ·have g:=JC g
   try dsimp only at g
   rw [Go.Sort.insOuter,if_neg (by omega)] at h4
   subst h4
   refine stp ?_
   exact J7 rfl ⟨_,_,AVle.refl _,Jay (JbG s (Go.Sort.insertionSort lt d0 a b) tl) [] rfl (List.Sublist.refl _) .slnil (BxLe.refl _) (PmEq.refl _),_,1,rfl⟩
  ·have g:=JD g
   try dsimp only at g
   have hi:i < b:=by omega
   rw [Go.Sort.insOuter,if_pos hi] at h4
   refine stp ?_
   refine JN (fun y:Array Cnd×Nat×Nat=> mk 53 [(0, .hs (0,s) 0 n cap),(1,int a),(2,int b),(3,fn0 f),(8,int i),(9,int y.2.1)] ⟨JbG s y.1 tl, [],y.2.2,1⟩) (fun y=> y.1.size=n∧y.2.1≤i∧Go.Sort.insInner lt a y.2.1 y.1=Go.Sort.insInner lt a i d) (fun y=> y.2.1) ?_ ?_
   ·exact ⟨(d,i,nx1),⟨h1,Nat.le_refl _,rfl⟩,Jh _ _ rfl rfl (List.Sublist.refl _) .slnil (BxLe.refl _) trivial ⟨AVle.refl _,AVle.refl _,AVle.refl _,AVle.refl _,AVle.refl _,AVle.refl _,trivial⟩⟩
   ·rintro ⟨e,j,nx2⟩ ⟨k1,k2,k3⟩
    dsimp only at k1 k2 k3
    by_cases hja:a < j
    ·have hd:decide ((j:Int) > (a:Int))=true:=decide_eq_true (by omega)
     have hj1:IntKind.i64.wrap ((j:Int) - 1)=((j - 1:Nat):Int):=by rw [JaX (by omega) (by omega)];omega
     refine stp ?_
     (refine Jag 16 ?_ ?_ ?_ ?_;(· kernel_rfl);(· kernel_rfl);(· kernel_rfl))
     refine stp ?_
     (conv=> whnf)
     refine JeJ hd ?_
     refine stp ?_
     refine ⟨⟨JcW (i:=j) (rfl),Jdb (i:=j) (rfl) (by omega)⟩,JI (b:= .bp (0,s) (j * 4)) (congrArg (AV.bp (0,s)) (Jgu (i:=j) c_cnd (rfl))) ?_⟩
     (conv=> whnf)
     generalize hX:Jar _ _ _=X
     have hX2:X=some (some (s=s), .ag (eC e[j]!)):=hX.symm.trans (Jdr Jbn (E:=eC) (d:=e) (tl:=tl) (j:=j) rfl rfl rfl rfl Je6 c_cnd (by omega))
     clear hX;subst hX2
     refine ⟨rfl, ?_⟩
     refine stp ?_
     refine ⟨⟨JcW (i:=j - 1) (hj1),Jdb (i:=j - 1) (hj1) (by omega)⟩,JI (b:= .bp (0,s) ((j - 1) * 4)) (congrArg (AV.bp (0,s)) (Jgu (i:=j - 1) c_cnd (hj1))) ?_⟩
     (conv=> whnf)
     generalize hX:Jar _ _ _=X
     have hX2:X=some (some (s=s), .ag (eC e[j - 1]!)):=hX.symm.trans (Jdr Jbn (E:=eC) (d:=e) (tl:=tl) (j:=j - 1) rfl rfl rfl rfl Je6 c_cnd (by omega))
     clear hX;subst hX2
     refine ⟨rfl, ?_⟩
     refine stp ?_
     refine Ja3 (J8 rfl rfl (hf e[j]! e[j - 1]!) ⟨AVle.refl _,AVle.refl _,trivial⟩ (NoId.v _)) ?_
     refine stp ?_
     intro c hl;cases c
     ·have hl:lt e[j]! e[j - 1]! =false:=(hlt _ _).trans hl.symm
      rw [Jtb hl] at k3
      subst k3
      refine stp ?_
      exact back (_,i+1,nx2) ⟨k1,by dsimp only;omega,by dsimp only;omega,h4⟩ (by dsimp only;omega) (Jh _ _ rfl rfl (List.Sublist.refl _) .slnil (BxLe.refl _) trivial ⟨AVle.refl _,AVle.refl _,AVle.refl _,AVle.refl _,Jk (Js (by first | omega | (dsimp only;omega))),trivial⟩)
     ·have hl:lt e[j]! e[j - 1]! =true:=(hlt _ _).trans hl.symm
      rw [Jt9 hja hl] at k3
      refine stp ?_
      refine Jt4 18 (fun i=> match i with | 15=> true | 17=> true | _=> false) (fun i=> match i with | 9=> true | 13=> true | _=> false) [0,1,2,3,4,5,6,7,8,10,11,12,9,13,14,15,16,17] (by kernel_rfl) (by kernel_rfl) ?_
      (conv=> whnf)
      refine ⟨⟨JcW (i:=j - 1) (hj1),Jdb (i:=j - 1) (hj1) (by omega)⟩, ?_⟩
      (conv=> whnf)
      refine ⟨⟨JcW (i:=j) (rfl),Jdb (i:=j) (rfl) (by omega)⟩, ?_⟩
      (conv=> whnf)
      refine ⟨.ag (eC e[j - 1]!),JmR Jbn (E:=eC) (d:=e) (tl:=tl) (j:=j - 1) rfl rfl rfl (Jgu (i:=j - 1) c_cnd (hj1)) rfl Je6 c_cnd (by omega), ?_⟩
      (conv=> whnf)
      refine ⟨.ag (eC e[j]!),JmR Jbn (E:=eC) (d:=e) (tl:=tl) (j:=j) rfl rfl rfl (Jgu (i:=j) c_cnd (rfl)) rfl Je6 c_cnd (by omega), ?_⟩
      (conv=> whnf)
      refine ⟨⟨JcW (i:=j) (rfl),Jdb (i:=j) (rfl) (by omega)⟩, ?_⟩
      (conv=> whnf)
      refine ⟨_,JmS Jbn (E:=eC) (d:=e) (tl:=tl) (j:=j) (z:=e[j - 1]!) rfl rfl rfl rfl (Jgu (i:=j) c_cnd (rfl)) rfl rfl rfl rfl (by kernel_rfl) c_cnd (by omega),fun r0 h0 hr0=> ?_⟩
      subst hr0
      (conv=> whnf)
      refine ⟨⟨JcW (i:=j - 1) (hj1),Jdb (i:=j - 1) (hj1) (by omega)⟩, ?_⟩
      (conv=> whnf)
      refine ⟨_,JmS Jbn (E:=eC) (d:=e.setIfInBounds j e[j - 1]!) (tl:=tl) (j:=j - 1) (z:=e[j]!) rfl rfl rfl rfl (Jgu (i:=j - 1) c_cnd (hj1)) rfl rfl rfl rfl (by kernel_rfl) c_cnd (by simp;omega),fun r0 h0 hr0=> ?_⟩
      subst hr0
      refine stp ?_
      exact back (Go.Sort.swp e j (j - 1),j - 1,nx2) ⟨by dsimp only;rw [← k1];simp [Go.Sort.swp],by dsimp only;omega,k3⟩ (by dsimp only;omega) (Jh _ _ rfl rfl (List.Sublist.refl _) .slnil (BxLe.refl _) trivial ⟨AVle.refl _,AVle.refl _,AVle.refl _,AVle.refl _,AVle.refl _,Jk hj1,trivial⟩)
    ·have hd:decide ((j:Int) > (a:Int))=false:=decide_eq_false (by omega)
     rw [Jru hja] at k3
     subst k3
     refine stp ?_
     (refine Jag 16 ?_ ?_ ?_ ?_;(· kernel_rfl);(· kernel_rfl);(· kernel_rfl))
     refine stp ?_
     (conv=> whnf)
     refine JeJ hd ?_
     refine stp ?_
     exact back (_,i+1,nx2) ⟨k1,by dsimp only;omega,by dsimp only;omega,h4⟩ (by dsimp only;omega) (Jh _ _ rfl rfl (List.Sublist.refl _) .slnil (BxLe.refl _) trivial ⟨AVle.refl _,AVle.refl _,AVle.refl _,AVle.refl _,Jk (Js (by first | omega | (dsimp only;omega))),trivial⟩)
theorem Jul (f:Nat) (lt:Cnd→Cnd→Bool) (cf:Cnd→Cnd→Int) (hf:∀a b,Tells Tryz.prog f [JL a,JL b] (int (cf a b))) (hlt:∀a b,lt a b=decide (cf a b < 0)) (d0:Array Cnd) (tl:List AV) (n:Nat) (hn:d0.size=n) (hsz:n≤12) (s cap nx:Nat) (z:Int):
 ECall Tryz.prog 261 [.hs (0,s) 0 n cap,int 0,int n,int z,fn0 f] ⟨JbG s d0 tl, [],nx,1⟩ (fun r h'=> ∃nx' nn',h'=⟨JbG s (Go.Sort.insertionSort lt d0 0 n) tl, [],nx',nn'⟩):=by
 refine ECall.wk (JU Tryz.func261 rfl rfl ?_)
 refine stp ?_
 refine Jen ?_
 have hw:IntKind.i64.wrap ((n:Int) - 0)=(n:Int):=by rw [Int.sub_zero];exact JaX (by omega) (by omega)
 refine stp ?_
 intro c hc
 have hc2:c=true:=hc.trans (decide_eq_true (by show IntKind.i64.wrap ((n:Int) - 0)≤12;rw [hw];omega))
 clear hc;subst hc2
 refine stp ?_
 refine JS (xs:= [.hs (0,s) 0 n cap,int ((0:Nat):Int),int n,fn0 f]) [] [] 1 rfl rfl rfl rfl ⟨AVle.refl _,AVle.refl _,AVle.refl _,AVle.refl _,trivial⟩ (Juk f lt cf hf hlt d0 tl n 0 n hn (Nat.zero_le _) (Nat.le_refl _) (by omega) s cap _) (BxLe.refl _) (PmEq.refl _) rfl fun r h' hq=> ?_
 obtain ⟨nx2,nn2,rfl⟩:=hq
 refine stp ?_
 exact J7 rfl ⟨_,_,AVle.refl _,Jay (JbG s (Go.Sort.insertionSort lt d0 0 n) tl) [] rfl (List.Sublist.refl _) .slnil (BxLe.refl _) (PmEq.refl _),_,1,rfl⟩
theorem Jnj (f:Nat) (lt:Cnd→Cnd→Bool) (cf:Cnd→Cnd→Int) (hf:∀a b,Tells Tryz.prog f [JL a,JL b] (int (cf a b))) (hlt:∀a b,lt a b=decide (cf a b < 0)) (d0:Array Cnd) (tl:List AV) (n:Nat) (hn:d0.size=n) (hsz:n≤12) (s cap nx:Nat):
 ECall Tryz.prog 192 [.hs (0,s) 0 n cap,fn0 f] ⟨JbG s d0 tl, [],nx,1⟩ (fun r h'=> ∃nx' nn',h'=⟨JbG s (Go.Sort.insertionSort lt d0 0 n) tl, [],nx',nn'⟩):=by
 refine ECall.wk (JU Tryz.func192 rfl rfl ?_)
 refine stp ?_
 have hw:IntKind.u64.wrap (n:Int)=(n:Int):=by simp [IntKind.wrap,IntKind.bits,IntKind.signed];omega
 refine Jd rfl rfl (Jnh n (by omega)) ⟨AVle.of_eq (congrArg (fun z:Int=> AV.v (.int .u64 z)) hw),trivial⟩ fun nx1=> ?_
 refine stp ?_
 refine JS (xs:= [.hs (0,s) 0 n cap,int 0,int n,int (Lib.bitLen n),fn0 f]) [] [] 1 rfl rfl rfl rfl ⟨AVle.refl _,AVle.refl _,AVle.refl _,AVle.refl _,AVle.refl _,trivial⟩ (Jul f lt cf hf hlt d0 tl n hn hsz s cap _ _) (BxLe.refl _) (PmEq.refl _) rfl fun r h' hq=> ?_
 obtain ⟨nx2,nn2,rfl⟩:=hq
 refine stp ?_
 exact J7 rfl ⟨_,_,AVle.refl _,Jay (JbG s (Go.Sort.insertionSort lt d0 0 n) tl) [] rfl (List.Sublist.refl _) .slnil (BxLe.refl _) (PmEq.refl _),_,1,rfl⟩
end Go.Proofs.W

namespace Go.Proofs.W
open Go.Vl
set_option maxRecDepth 100000
def cU (d:Array Cnd):Nat→List Cnd
 | 0=> []
 | m+1=> if m=0∨d[m]! ≠d[m - 1]! then cU d m++ [d[m]!] else cU d m
theorem Jqg (d:Array Cnd):∀m,(cU d m).length≤m
 | 0=> Nat.le_refl _
 | m+1=> by
   have:=Jqg d m
   unfold cU
   split
   ·simp;omega
   ·omega
theorem JgB {d:Array Cnd}:∀ {m:Nat},m≤d.size→(∀j,1≤j→j < m→d[j]! ≠d[j - 1]!)→cU d m=d.toList.take m
 | 0,_,_=> rfl
 | m+1,hm,h=> by
   have ih:=JgB (m:=m) (by omega) fun j h1 h2=> h j h1 (by omega)
   have hc:m=0∨d[m]! ≠d[m - 1]! :=by
    rcases Nat.eq_zero_or_pos m with h0 | h0
    ·exact .inl h0
    ·exact .inr (h m h0 (by omega))
   rw [cU,if_pos hc,ih,List.take_add_one,show d[m]! =d[m] by simp [show m < d.size by omega]]
   simp [show m < d.size by omega]
theorem JoX {d:Array Cnd} {m:Nat} (h0:m≠0) (h:d[m]! =d[m - 1]!):cU d (m+1)=cU d m:=by
 rw [cU,if_neg (by intro hh;rcases hh with hh | hh;exact h0 hh;exact hh h)]
theorem Jum {d:Array Cnd} {m:Nat} (h:d[m]! ≠d[m - 1]!):cU d (m+1)=cU d m++ [d[m]!]:=by
 rw [cU,if_pos (.inr h)]
theorem Jtj {d:Array Cnd} {i j:Nat} {x:Cnd} (hi:i < d.size):(d.setIfInBounds i x)[j]! =if j=i then x else d[j]! :=by
 by_cases h:j=i
 ·subst h;simp [hi]
 ·rw [if_neg h]
  by_cases hj:j < d.size
  ·simp [hj,Array.getElem_setIfInBounds,Ne.symm h]
  ·simp [hj]
theorem JrM {d:Array Cnd} {k:Nat} {x:Cnd} (h:k < d.size):(d.setIfInBounds k x).toList.take (k+1)=d.toList.take k++ [x]:=by
 rw [Array.toList_setIfInBounds,List.take_add_one]
 simp [h,List.take_set_of_le]
theorem Jvk {x y:Cnd}:(x.arg ==y.arg&& (x.op ==y.op&& ((x.mask:Int) ==(y.mask:Int)&& ((x.value:Int) ==(y.value:Int)&& true))))=decide (x=y):=JoT
theorem Jtk {d:Array Cnd} {tl:List AV} {k:Nat} (h:k≤d.size):JX (J6 eC d tl) (k * 4) (List.replicate ((d.size - k) * 4) .any)=J6 eC (d.toList.take k).toArray (List.replicate ((d.size - k) * 4) .any++tl):=by
 have e:d.toList=d.toList.take k++d.toList.drop k:=(List.take_append_drop k d.toList).symm
 have e1:((d.toList.take k).flatMap eC).length=k * 4:=by rw [Jdc Jbn];simp [h]
 have e2:((d.toList.drop k).flatMap eC).length=(d.size - k) * 4:=by rw [Jdc Jbn];simp
 unfold J6
 conv=> lhs;rw [e]
 rw [List.flatMap_append,List.append_assoc,← e1]
 have:=Je2 (a:=(d.toList.take k).flatMap eC) (b:=(d.toList.drop k).flatMap eC++tl) (off:=0) (vs:=List.replicate ((d.size - k) * 4) .any)
 rw [Nat.add_zero] at this
 rw [this,Jg5 (by rw [e2];simp)]
def Jqh (d:Array Cnd) (n s cap:Nat) (r:AV) (h':Heap):Prop:=∃tl' nx' nn',r= .hs (0,s) 0 (cU d n).length cap∧h'=⟨JbG s (cU d n).toArray tl', [],nx',nn'⟩
theorem JrN {d:Array Cnd} {n s cap nx nn q:Nat} {tl:List AV} (h:(cU d n).length=q):Jqh d n s cap (.hs (0,s) 0 q cap) ⟨JbG s (cU d n).toArray tl, [],nx,nn⟩:=⟨tl,nx,nn,by rw [h],rfl⟩
theorem Jnk {o o':Own} (h:o=o'):OwnLe o o':=h ▸ OwnLe.refl _
theorem Jtl {x:Int} {i c k m:Nat} (hc:c=k) (h:x=(i:Int)):m * c+x.toNat * c=(m+i) * k:=by subst hc;subst h;simp [Nat.add_mul]
theorem Jll {d:Array Cnd} {n s cap nx nn:Nat} {tl:List AV} (hn:d.size=n) (e:cU d n=d.toList):Jqh d n s cap (.hs (0,s) 0 n cap) ⟨JbG s d tl, [],nx,nn⟩:=⟨tl,nx,nn,by rw [e];simp [hn],by rw [e]⟩
theorem Jv2:∃z,(Tryz.prog.info? 86).bind (·.zero)=some z∧z.cells.size=Tryz.prog.cellsOf 86∧z.cells.all (·.oneCell')=true:=⟨.agg #[.int .i64 0, .int .i64 0, .int .u64 0, .int .u64 0],by kernel_rfl,by kernel_rfl,by kernel_rfl⟩
set_option maxHeartbeats 4000000 in
theorem Jop (d:Array Cnd) (tl:List AV) (n:Nat) (hn:d.size=n) (hn0:0 < n) (hsz:n≤1000000) (s cap nx:Nat) (hcap:n≤cap):
 ECall Tryz.prog 194 [.hs (0,s) 0 n cap] ⟨JbG s d tl, [],nx,1⟩ (Jqh d n s cap):=by
 refine ECall.wk (JU Tryz.func194 rfl rfl ?_)
 refine stp ?_
 intro c g;cases c
 rotate_left
 ·have g:=JD g
  try dsimp only at g
  have hn1:n=1:=by omega
  subst hn1
  have e:cU d 1=d.toList:=by
   rw [JgB (by omega) (fun j h1 h2=> by omega),List.take_of_length_le (by simp [hn])]
  refine stp ?_
  exact J7 rfl ⟨_,_,AVle.refl _,Jay (nn:=1) (JbG s d tl) [] rfl (List.Sublist.refl _) .slnil (BxLe.refl _) (PmEq.refl _),Jll hn e⟩
 have g:=JC g
 try dsimp only at g
 have hn2:2≤n:=by omega
 refine stp ?_
 refine JN (fun y:Nat×Nat=> mk 61 [(0, .hs (0,s) 0 n cap),(3,int y.1)] ⟨JbG s d tl, [],y.2,1⟩) (fun y=> 1≤y.1∧y.1≤n∧∀j,1≤j→j < y.1→d[j]! ≠d[j - 1]!) (fun y=> n - y.1) ?_ ?_
 ·exact ⟨(1,nx),⟨Nat.le_refl _,by dsimp only;omega,fun j h1 h2=> absurd h2 (by dsimp only;omega)⟩,Jh _ _ rfl rfl (List.Sublist.refl _) .slnil (BxLe.refl _) trivial ⟨AVle.refl _,AVle.refl _,trivial⟩⟩
 ·rintro ⟨k,nx1⟩ ⟨h1,h2,h3⟩
  dsimp only at h1 h2 h3
  refine stp ?_
  intro c g;cases c
  ·have g:=JC g
   try dsimp only at g
   have hk:k=n:=by omega
   subst hk
   have e:cU d k=d.toList:=by
    rw [JgB (by omega) h3,List.take_of_length_le (by simp [hn])]
   refine stp ?_
   exact J7 rfl ⟨_,_,AVle.refl _,Jay (nn:=1) (JbG s d tl) [] rfl (List.Sublist.refl _) .slnil (BxLe.refl _) (PmEq.refl _),Jll hn e⟩
  ·have g:=JD g
   try dsimp only at g
   have hk:k < n:=by omega
   have hk1:IntKind.i64.wrap ((k:Int) - 1)=((k - 1:Nat):Int):=by rw [JaX (by omega) (by omega)];omega
   refine stp ?_
   (refine Jag 10 ?_ ?_ ?_ ?_;(· kernel_rfl);(· kernel_rfl);(· kernel_rfl))
   refine stp ?_
   refine ⟨⟨JcW (i:=k) (rfl),Jdb (i:=k) (rfl) (by omega)⟩,JI (b:= .bp (0,s) (k * 4)) (congrArg (AV.bp (0,s)) (Jgu (i:=k) c_cnd (rfl))) ?_⟩
   (conv=> whnf)
   generalize hX:Jar _ _ _=X
   have hX2:X=some (some (s=s), .ag (eC d[k]!)):=hX.symm.trans (Jdr Jbn (E:=eC) (d:=d) (tl:=tl) (j:=k) rfl rfl rfl rfl Je6 c_cnd (by omega))
   clear hX;subst hX2
   refine ⟨rfl, ?_⟩
   refine stp ?_
   refine ⟨⟨JcW (i:=k - 1) (hk1),Jdb (i:=k - 1) (hk1) (by omega)⟩,JI (b:= .bp (0,s) ((k - 1) * 4)) (congrArg (AV.bp (0,s)) (Jgu (i:=k - 1) c_cnd (hk1))) ?_⟩
   (conv=> whnf)
   generalize hX:Jar _ _ _=X
   have hX2:X=some (some (s=s), .ag (eC d[k - 1]!)):=hX.symm.trans (Jdr Jbn (E:=eC) (d:=d) (tl:=tl) (j:=k - 1) rfl rfl rfl rfl Je6 c_cnd (by omega))
   clear hX;subst hX2
   refine ⟨rfl, ?_⟩
   refine stp ?_
   intro c hc
   have hc2:c=decide (d[k]! =d[k - 1]!):=hc.trans Jvk
   clear hc
   cases c
   ·have hne:¬d[k]! =d[k - 1]! :=of_decide_eq_false hc2.symm
    refine stp ?_
    exact back (k+1,nx1) ⟨by dsimp only;omega,hk,fun j q1 q2=> by dsimp only at q2;rcases Nat.lt_or_ge j k with q | q;exact h3 j q1 q;rw [show j=k by omega];exact hne⟩ (by dsimp only;omega) (Jh _ _ rfl rfl (List.Sublist.refl _) .slnil (BxLe.refl _) trivial ⟨AVle.refl _,Jk (Js (by first | omega | (dsimp only;omega))),trivial⟩)
   ·have heq:d[k]! =d[k - 1]! :=of_decide_eq_true hc2.symm
    clear hc2
    have hU0:cU d k=d.toList.take k:=JgB (by omega) h3
    have hU1:cU d (k+1)=d.toList.take k:=(JoX (by omega) heq).trans hU0
    refine JV ?_
    refine JQ (fun i=> match i with | 1=> true | _=> false) 4 ?_
    refine stp ?_
    refine AOp.of_yields (Jg6 (l:=k) rfl rfl rfl Tryz.underlying116 Tryz.underlying86 (by omega) hcap (by omega)) ?_
    refine stp ?_
    refine JN (fun y:Array Cnd×Nat×Nat×Nat=> mk 61 [(0, .hs (0,s) 0 n cap),(3,int y.2.1),(4, .hs (0,s) (k * 4) (n - k) (cap - k)),(5,int y.2.2.1)] ⟨JbG s y.1 tl, [],y.2.2.2,1⟩) (fun y=> y.1.size=n∧k≤y.2.1∧1≤y.2.2.1∧y.2.1+1≤k+y.2.2.1∧k+y.2.2.1≤n∧(∀j,k+y.2.2.1≤j+1→y.1[j]! =d[j]!)∧cU d (k+y.2.2.1)=y.1.toList.take y.2.1) (fun y=> n - y.2.2.1) ?_ ?_
    ·exact ⟨(d,k,1,nx1),⟨hn,Nat.le_refl _,Nat.le_refl _,Nat.le_refl _,hk,fun _ _=> rfl,hU1⟩,Jh _ _ rfl rfl (List.Sublist.refl _) .slnil (BxLe.refl _) trivial ⟨AVle.refl _,AVle.refl _,AVle.of_eq (congrArg (fun c=> AV.hs (0,s) (k * c) (n - k) (cap - k)) c_cnd),AVle.refl _,trivial⟩⟩
    ·rintro ⟨e,q,k2,nx2⟩ ⟨p1,p2,p3,p4,p5,p6,p7⟩
     dsimp only at p1 p2 p3 p4 p5 p6 p7
     refine stp ?_
     intro c g2;cases c
     ·have g2:=JC g2
      try dsimp only at g2
      have hk2:k+k2=n:=by omega
      rw [hk2] at p7
      have hq:q < n:=by omega
      refine JV ?_
      refine JQ (fun i=> match i with | 1=> true | 0=> true | _=> false) 4 ?_
      refine stp ?_
      refine AOp.of_yields (Jg6 (l:=q) rfl rfl rfl Tryz.underlying116 Tryz.underlying86 (by omega) hcap (by omega)) ?_
      refine stp ?_
      obtain ⟨z,hz1,hz2,hz3⟩:=Jv2
      refine Jpz (n:=n - q) rfl rfl rfl (by omega) Tryz.underlying116 hz1 hz2 hz3 (by rfl) (by show q * Tryz.prog.cellsOf 86+(n - q) * Tryz.prog.cellsOf 86≤(J6 eC e tl).length;rw [Jgt Jbn,c_cnd,p1];omega) ?_
      refine AW.le (E':=mk 61 [(0, .hs (0,s) 0 n cap),(3,int q)] ⟨JbG s (cU d n).toArray (List.replicate ((n - q) * 4) .any++tl), [],nx2,1⟩) ?_ ?_
      ·exact Jh [((0,s), .c (JX (J6 eC e tl) (q * Tryz.prog.cellsOf 86) (List.replicate ((n - q) * Tryz.prog.cellsOf 86) .any)))] [] rfl rfl (List.Sublist.refl _) .slnil ⟨rfl,Jnk (congrArg Own.c (by rw [c_cnd,p7,← p1];exact Jtk (by omega))),trivial⟩ trivial ⟨AVle.refl _,AVle.refl _,trivial⟩
      refine JV ?_
      refine JQ (fun i=> match i with | 1=> true | _=> false) 4 ?_
      refine stp ?_
      refine JmO (l:=q) rfl rfl rfl Tryz.underlying116 Tryz.underlying86 (by omega) (by omega) ?_
      refine stp ?_
      exact J7 rfl ⟨_,_,AVle.refl _,Jay (nn:=1) (JbG s (cU d n).toArray (List.replicate ((n - q) * 4) .any++tl)) [] rfl (List.Sublist.refl _) .slnil (BxLe.refl _) (PmEq.refl _),JrN (by rw [p7];simp;omega)⟩
     ·have g2:=JD g2
      try dsimp only at g2
      have hk2:k+k2 < n:=by omega
      have hj1:IntKind.i64.wrap ((k2:Int) - 1)=((k2 - 1:Nat):Int):=by rw [JaX (by omega) (by omega)];omega
      refine stp ?_
      (refine Jag 10 ?_ ?_ ?_ ?_;(· kernel_rfl);(· kernel_rfl);(· kernel_rfl))
      refine stp ?_
      refine ⟨⟨JcW (i:=k2) (rfl),Jdb (i:=k2) (rfl) (by omega)⟩,JI (b:= .bp (0,s) ((k+k2) * 4)) (congrArg (AV.bp (0,s)) (Jtl c_cnd (rfl))) ?_⟩
      (conv=> whnf)
      generalize hX:Jar _ _ _=X
      have hX2:X=some (some (s=s), .ag (eC e[k+k2]!)):=hX.symm.trans (Jdr Jbn (E:=eC) (d:=e) (tl:=tl) (j:=k+k2) rfl rfl rfl rfl Je6 c_cnd (by omega))
      clear hX;subst hX2
      refine ⟨rfl, ?_⟩
      refine stp ?_
      refine ⟨⟨JcW (i:=k2 - 1) (hj1),Jdb (i:=k2 - 1) (hj1) (by omega)⟩,JI (b:= .bp (0,s) ((k+(k2 - 1)) * 4)) (congrArg (AV.bp (0,s)) (Jtl c_cnd (hj1))) ?_⟩
      (conv=> whnf)
      generalize hX:Jar _ _ _=X
      have hX2:X=some (some (s=s), .ag (eC e[k+(k2 - 1)]!)):=hX.symm.trans (Jdr Jbn (E:=eC) (d:=e) (tl:=tl) (j:=k+(k2 - 1)) rfl rfl rfl rfl Je6 c_cnd (by omega))
      clear hX;subst hX2
      refine ⟨rfl, ?_⟩
      refine stp ?_
      have e1:e[k+k2]! =d[k+k2]! :=p6 _ (by omega)
      have e2:e[k+(k2 - 1)]! =d[k+k2 - 1]! :=by rw [p6 _ (by omega)];congr 1;omega
      intro c hc
      have hc2:c= !decide (d[k+k2]! =d[k+k2 - 1]!):=by rw [← e1,← e2];exact hc.trans (congrArg (!·) Jvk)
      clear hc
      cases c
      ·have heq2:d[k+k2]! =d[k+k2 - 1]! :=by simpa using hc2
       have hU2:=(JoX (by omega) heq2).trans p7
       refine stp ?_
       exact back (e,q,k2+1,nx2) ⟨p1,p2,by dsimp only;omega,by dsimp only;omega,by dsimp only;omega,fun j hj=> p6 j (by dsimp only at hj;omega),hU2⟩ (by dsimp only;omega) (Jh _ _ rfl rfl (List.Sublist.refl _) .slnil (BxLe.refl _) trivial ⟨AVle.refl _,AVle.refl _,AVle.refl _,Jk (Js (by first | omega | (dsimp only;omega))),trivial⟩)
      ·have hne:¬d[k+k2]! =d[k+k2 - 1]! :=by simpa using hc2
       have hU2:=Jum hne
       rw [p7,← e1,← JrM (k:=q) (x:=e[k+k2]!) (by omega)] at hU2
       refine JV ?_
       refine JQ (fun i=> match i with | 0=> true | 2=> true | _=> false) 8 ?_
       refine stp ?_
       refine ⟨⟨JcW (i:=k2) (rfl),Jdb (i:=k2) (rfl) (by omega)⟩,JI (b:= .bp (0,s) ((k+k2) * 4)) (congrArg (AV.bp (0,s)) (Jtl c_cnd (rfl))) ?_⟩
       (conv=> whnf)
       refine AOp.of_yields (Joc Jbn (E:=eC) (d:=e) (tl:=tl) (j:=k+k2) rfl rfl rfl rfl Je6 c_cnd (by omega)) ?_
       refine stp ?_
       refine ⟨⟨JcW (i:=q) (rfl),Jdb (i:=q) (rfl) (by omega)⟩,JI (b:= .bp (0,s) (q * 4)) (congrArg (AV.bp (0,s)) (Jgu c_cnd (rfl))) ?_⟩
       (conv=> whnf)
       refine Jpy Jbn (E:=eC) (d:=e) (tl:=tl) (j:=q) (z:=e[k+k2]!) rfl rfl rfl rfl rfl rfl rfl rfl (by kernel_rfl) c_cnd (by omega) ?_
       refine stp ?_
       exact back (e.setIfInBounds q e[k+k2]!,q+1,k2+1,nx2) ⟨by simpa using p1,by dsimp only;omega,by dsimp only;omega,by dsimp only;omega,by dsimp only;omega,fun j hj=> by
        dsimp only at hj⊢
        rw [Jtj (by omega),if_neg (by omega)]
        exact p6 j (by omega),hU2⟩ (by dsimp only;omega) (Jh _ _ rfl rfl (List.Sublist.refl _) .slnil (BxLe.refl _) trivial ⟨AVle.refl _,Jk (Js (by first | omega | (dsimp only;omega))),AVle.refl _,Jk (Js (by first | omega | (dsimp only;omega))),trivial⟩)
end Go.Proofs.W

namespace Go.Proofs.W
open Go.Vl
set_option maxRecDepth 100000
def JcR (c:Cnd):Bool:=decide ((Jaa c).2=2)
def JgC (c:Cnd):Option Cnd:=if (Jaa c).2=0 then some (Jaa c).1 else none
def JbK (cs:List Cnd):List Cnd:=cs.filterMap JgC
def ltC (a b:Cnd):Bool:=decide (Jni a b < 0)
def JcZ (L:List Cnd):List Cnd:=cU (Go.Sort.insertionSort ltC L.toArray 0 L.length) L.length
def Jbo (r:Rul):Option Rul:=if r.conds.any JcR then none else some ⟨r.name,r.act,JcZ (JbK r.conds)⟩
def Jvl:Option Rul→AV
 | none=> .tup [Jau Jq,Jb false]
 | some n=> .tup [Jau n,Jb true]
theorem Jvm {c:Cnd} (h:(Jaa c).2=0):JgC c=some (Jaa c).1:=if_pos h
theorem Jvn {c:Cnd} (h:(Jaa c).2≠0):JgC c=none:=if_neg h
theorem JrO {cs:List Cnd} {i:Nat} (hi:i < cs.length):JbK (cs.take (i+1))=JbK (cs.take i)++(JgC (cs.getD i cnd0)).toList:=by
 unfold JbK
 rw [Jb1 cnd0 hi,List.filterMap_append]
 congr 1
theorem Jnl (cs:List Cnd):(JbK cs).length≤cs.length:=List.length_filterMap_le _ _
theorem Jtm {cs:List Cnd} (h:∀j,j < cs.length→JcR (cs.getD j cnd0)=false):cs.any JcR=false:=by
 rw [Bool.eq_false_iff]
 intro ha
 obtain ⟨c,hc,hb⟩:=List.any_eq_true.1 ha
 obtain ⟨j,hj,rfl⟩:=List.getElem_of_mem hc
 have:=h j hj
 rw [show cs.getD j cnd0=cs[j] by simp [List.getD,hj]] at this
 rw [this] at hb;cases hb
theorem Jvo {cs:List Cnd} {i:Nat} (hi:i < cs.length) (h:JcR (cs.getD i cnd0)=true):cs.any JcR=true:=by
 refine List.any_eq_true.2 ⟨cs.getD i cnd0, ?_,h⟩
 simp [List.getD,hi]
theorem Jnm {cs:List Cnd} (h:∀c∈cs,c.ok) {i:Nat} (hi:i < cs.length):(cs.getD i cnd0).ok:=h _ (by simp [List.getD,hi])
theorem JrP:Ja4 Tryz.prog 86=true:=by kernel_rfl
theorem JrQ:Tryz.prog.bytesOf 86=32:=by kernel_rfl
def ruO (nx:Nat) (s:ByteArray) (k n:Int) (x:AV):Vl.Id×Own:=((2,nx+2), .c [Jf s,int k,int n,x])
def ruZ (nx:Nat):Vl.Id×Own:=((1,nx+1), .c [Jf ⟨#[]⟩,int 0,int 0,Jeo 4])
def ruB (nx:Nat) (s:ByteArray) (k n:Int) (L:List Cnd):Option (Nat×Nat×List AV)→List (Vl.Id×Own)
 | none=> [ruO nx s k n (Jeo 4),ruZ nx]
 | some (s1,cap,tl)=> [ruO nx s k n (.hs (0,s1) 0 L.length cap),ruZ nx,((0,s1), .c (J6 eC L.toArray tl))]
def ruI (L:List Cnd):Option (Nat×Nat×List AV)→Prop
 | none=> L= []
 | some (_,cap,tl)=> 1≤L.length∧L.length≤cap∧cap * 4≤L.length * 4+tl.length
theorem Jun {a b:Cnd}:Jni a b < 0↔a.arg < b.arg∨(a.arg=b.arg∧(a.op < b.op∨(a.op=b.op∧(a.mask < b.mask∨(a.mask=b.mask∧a.value < b.value))))):=by
 unfold Jni Jde
 simp only [orL]
 repeat' split
 all_goals omega
theorem JhP {a b:Cnd}:ltC a b=true↔a.arg < b.arg∨(a.arg=b.arg∧(a.op < b.op∨(a.op=b.op∧(a.mask < b.mask∨(a.mask=b.mask∧a.value < b.value))))):=by
 unfold ltC;rw [decide_eq_true_iff];exact Jun
theorem Jhf {a b:Cnd}:ltC a b=false↔¬(a.arg < b.arg∨(a.arg=b.arg∧(a.op < b.op∨(a.op=b.op∧(a.mask < b.mask∨(a.mask=b.mask∧a.value < b.value)))))):=by
 rw [← JhP,Bool.not_eq_true]
theorem swo_ltC:Go.Sort.SWO ltC:=⟨fun x=> by rw [Jhf];omega,fun x y z=> by rw [JhP,JhP,JhP];omega,fun x y z=> by rw [Jhf,Jhf,Jhf];omega⟩
theorem Juo {a b:Cnd} (h1:ltC a b=false) (h2:ltC b a=false):a=b:=by
 rw [Jhf] at h1 h2
 obtain ⟨a1,a2,a3,a4⟩:=a
 obtain ⟨b1,b2,b3,b4⟩:=b
 dsimp only at h1 h2
 have e1:a1=b1:=by omega
 have e2:a2=b2:=by omega
 have e3:a3=b3:=by omega
 have e4:a4=b4:=by omega
 subst e1 e2 e3 e4;rfl
theorem Jvp {nx s1:Nat} {s:ByteArray} {k n:Int} {x y:AV} (h:AVle x y) {c d:List AV} (hc:c=d):BxLe [ruO nx s k n x,ruZ nx,((0,s1), .c c)] [ruO nx s k n y,ruZ nx,((0,s1), .c d)]:=by
 subst hc
 exact ⟨rfl,⟨AVle.refl _,AVle.refl _,AVle.refl _,h,trivial⟩,BxLe.refl _⟩
theorem Jqi {l:List Cnd} {x:Cnd} {tl:List AV} (h:4≤tl.length):JX (J6 eC l.toArray tl) (l.length * Tryz.prog.cellsOf 86) (eC x)=J6 eC (l++ [x]).toArray (tl.drop 4):=by
 rw [c_cnd];exact JkZ Jbn h
theorem JrR {i j:Vl.Id} {L:List Cnd} {x:Cnd} {cap:Nat} (h:i.2=j.2):AVle (.hs i 0 (L.length+1) cap) (.hs j 0 (L++ [x]).length cap):=by
 rw [List.length_append];exact AVle.hs_nm h
theorem Jup {x:Cnd} {m:Nat}:eC x++List.replicate (m * Tryz.prog.cellsOf 86) AV.any=J6 eC #[x] (List.replicate (m * 4) .any):=by
 rw [c_cnd];simp [J6]
theorem Jtn {l:List Cnd} {x:Cnd} {tl:List AV} {m:Nat}:(J6 eC l.toArray tl).take (l.length * Tryz.prog.cellsOf 86)++eC x++List.replicate (m * Tryz.prog.cellsOf 86) .any=J6 eC (l++ [x]).toArray (List.replicate (m * 4) .any):=by
 rw [c_cnd,Jk0 Jbn];exact JmT
set_option maxHeartbeats 8000000 in
theorem Joq (r:Rul) (hok:∀c∈r.conds,c.ok) (hl:r.conds.length≤12):Tells Tryz.prog 109 [Jau r] (Jvl (Jbo r)):=by
 obtain ⟨s,⟨k,n⟩,cs⟩:=r
 dsimp only at hok hl
 refine Jg Tryz.func109 rfl rfl fun nx=> ?_
 refine stp ?_
 refine JN (fun y:Nat×List Cnd×Option (Nat×Nat×List AV)×Nat=> mk 47 [(2, .bp (1,nx+1) 0),(4, .bp (2,nx+2) 0),(15,Jbt cs),(16,int cs.length),(17,int y.1)] ⟨ruB nx s k n y.2.1 y.2.2.1, [],y.2.2.2,4⟩) (fun y=> y.1≤cs.length∧y.2.1=JbK (cs.take y.1)∧ruI y.2.1 y.2.2.1∧∀j,j < y.1→JcR (cs.getD j cnd0)=false) (fun y=> cs.length - y.1) ?_ ?_
 ·exact ⟨(0, [],none,nx+3),⟨Nat.zero_le _,rfl,rfl,fun j h=> absurd h (Nat.not_lt_zero _)⟩,Jh (pm:= []) [((2,nx+2), .c [Jf s,int k,int n, .os 0 0 (fun _=> .any) none]),((1,nx+1), .c [Jf ⟨#[]⟩,int 0,int 0, .os 0 0 (fun _=> .any) none])] [] rfl rfl (.cons_cons _ (.cons_cons _ (.cons _ .slnil))) (List.Sublist.refl _) ⟨rfl,⟨AVle.refl _,AVle.refl _,AVle.refl _,AVle.os_nil,trivial⟩,rfl,⟨AVle.refl _,AVle.refl _,AVle.refl _,AVle.os_nil,trivial⟩,trivial⟩ trivial ⟨AVle.refl _,AVle.refl _,AVle.refl _,AVle.refl _,AVle.refl _,trivial⟩⟩
 ·rintro ⟨i,L,md,nx1⟩ ⟨h1,hL,h2,h3⟩
  dsimp only at h1 hL h2 h3
  have hal:=Jnl (cs.take i)
  rw [List.length_take,Nat.min_eq_left h1,← hL] at hal
  refine stp ?_
  intro c g;cases c
  ·have g:=JC g
   try dsimp only at g
   have hi:i=cs.length:=by omega
   subst hi
   rw [List.take_length] at hL
   have hR:Jbo ⟨s,(k,n),cs⟩=some ⟨s,(k,n),JcZ L⟩:=by
    unfold Jbo
    dsimp only
    rw [Jtm h3,hL];rfl
   rw [hR]
   rcases md with _ | ⟨s1,cap,tl⟩
   ·obtain rfl:L= []:=h2
    refine stp ?_
    refine Jd rfl rfl (Jqe 193) ⟨AVle.refl _,AVle.refl _,trivial⟩ fun nx2=> ?_
    refine stp ?_
    refine Jd rfl rfl JrL ⟨AVle.refl _,trivial⟩ fun nx2=> ?_
    refine stp ?_
    exact Jl rfl ⟨rfl,trivial⟩ (AVle.tups (cs:= [_,_]) ⟨AVle.ags (cs:= [_,_,_,_]) ⟨AVle.refl _,AVle.refl _,AVle.refl _,AVle.os_sl0,trivial⟩,AVle.refl _,trivial⟩)
   ·obtain ⟨q1,q2,q3⟩:=h2
    refine stp ?_
    refine JS (xs:= [.hs (0,s1) 0 L.length cap,fn0 193]) [ruO nx s k n (.hs (0,s1) 0 L.length cap),ruZ nx] [] 4 rfl rfl rfl rfl ⟨AVle.refl _,AVle.refl _,trivial⟩ (Jnj 193 ltC Jni Jqf (fun _ _=> rfl) L.toArray tl L.length (by simp) (by omega) s1 cap _) (BxLe.refl _) (PmEq.refl _) rfl fun r h' hq=> ?_
    obtain ⟨nx2,nn2,rfl⟩:=hq
    have hds:(Go.Sort.insertionSort ltC L.toArray 0 L.length).size=L.length:=by
     have:=(Go.Sort.insertionSort_holds (lt:=ltC) swo_ltC L.toArray 0 L.length (Nat.zero_le _) (by simp)).1.1
     simpa using this
    refine stp ?_
    refine JS (xs:= [.hs (0,s1) 0 L.length cap]) [ruO nx s k n (.hs (0,s1) 0 L.length cap),ruZ nx] [] 4 rfl rfl rfl rfl ⟨AVle.refl _,trivial⟩ (Jop (Go.Sort.insertionSort ltC L.toArray 0 L.length) tl L.length hds (by omega) (by omega) s1 cap _ q2) (BxLe.refl _) (PmEq.refl _) rfl fun r h' hq=> ?_
    obtain ⟨tl2,nx3,nn3,rfl,rfl⟩:=hq
    have hcl:(JcZ L).length≤cap:=Nat.le_trans (Jqg _ _) q2
    refine JV ?_
    refine JbJ (n:=47) (nx:=nx3) (nn:=4) (pm:= []) (bx:= [ruZ nx]) (L:= [(2, .bp (1,nx+1) 0),(4, .rp [Jf s,int k,int n,Jbt (JcZ L)])]) (df:=some []) [((2,nx+2), .c [Jf s,int k,int n, .hs (0,s1) 0 (JcZ L).length cap]),((0,s1), .c (J6 eC (JcZ L).toArray tl2))] rfl rfl rfl (.cons _ (.swap _ _ _)) (List.Sublist.refl _) ⟨Frz.refl _,(Frz.bp (.head _) rfl).trans (Frz.rp ⟨Frz.refl _,Frz.refl _,Frz.refl _,Jgw Jbn (fun _=> rfl) rfl (.tail _ (.head _)) hcl,trivial⟩),trivial⟩ ?_
    refine stp ?_
    exact Jl rfl ⟨rfl,trivial⟩ (AVle.refl _)
  ·have g:=JD g
   try dsimp only at g
   have hi:i < cs.length:=by omega
   have hcs:=Jk8 (cs.getD i cnd0) (Jnm hok hi)
   have ha:=JrO hi
   have hnv:JcR (cs.getD i cnd0)=decide ((Jaa (cs.getD i cnd0)).2=2):=rfl
   have hak0:=Jvm (c:=cs.getD i cnd0)
   have hak1:=Jvn (c:=cs.getD i cnd0)
   generalize Jaa (cs.getD i cnd0)=N at hcs hnv hak0 hak1
   obtain ⟨⟨qa,qo,qm,qv⟩,st⟩:=N
   dsimp only at hnv hak0 hak1
   refine stp ?_
   refine ⟨⟨by first | omega | (dsimp only;omega),by first | omega | (dsimp only;omega)⟩, ?_⟩
   refine stp ?_
   refine Jd rfl rfl hcs ⟨AVle.refl _,trivial⟩ fun nx2=> ?_
   refine stp ?_
   intro c g2;cases c
   ·have g2:st≠2:=fun h=> by subst h;cases g2
    rw [decide_eq_false g2] at hnv
    have h3':∀j,j < i+1→JcR (cs.getD j cnd0)=false:=fun j hj=> by
     rcases Nat.lt_or_ge j i with q | q
     ·exact h3 j q
     ·rw [show j=i by omega];exact hnv
    refine stp ?_
    intro c g3;cases c
    ·have g3:st≠0:=fun h=> by subst h;cases g3
     rw [hak1 g3,← hL] at ha
     refine stp ?_
     exact back (i + 1, L, md, _) ⟨hi, ha.symm.trans (List.append_nil _).symm |>.symm |> (fun e => by simpa using ha.symm), h2, h3'⟩ (by dsimp only; omega) (Jh (bx := ruB nx s k n L md) _ _ rfl rfl (.cons _ (.cons _ (List.Sublist.refl _))) (List.Sublist.refl _) (BxLe.refl _) trivial ⟨AVle.refl _, AVle.refl _, AVle.refl _, AVle.refl _, Jk (Js (by first | omega | (dsimp only; omega))), trivial⟩)
    ·have g3:st=0:=by
      by_cases h:st=0
      ·exact h
      ·exfalso
       have:((st:Int) ==0)=false:=beq_eq_false_iff_ne.2 (by omega)
       exact absurd (g3.trans this) (by decide)
     rw [hak0 g3,← hL] at ha
     have ha:L++ [⟨qa,qo,qm,qv⟩]=JbK (cs.take (i+1)):=ha.symm
     rcases md with _ | ⟨s1,cap,tl⟩
     ·obtain rfl:L= []:=h2
      refine JV ?_
      refine JQ (fun i=> match i with | 0=> true | _=> false) 5 ?_
      refine stp ?_
      refine Jfm (m:=1) rfl rfl (.inr ⟨_,rfl⟩) Tryz.underlying116 JrP c_cnd.symm (by decide) (JO rfl) (by rw [JrQ];omega) (by omega) fun ncap hcap=> ?_
      refine stp ?_
      exact back (i+1, [⟨qa,qo,qm,qv⟩],some (nx2+1,ncap,List.replicate ((ncap - 1) * 4) .any),nx2+1+1) ⟨hi,ha,⟨Nat.le_refl _,hcap,by simp;omega⟩,h3'⟩ (by dsimp only;omega) (Jn (pm:= []) (bx:= [ruO nx s k n (.hs (0,nx2+1) 0 1 ncap),ruZ nx,((0,nx2+1), .c (J6 eC #[⟨qa,qo,qm,qv⟩] (List.replicate ((ncap - 1) * 4) .any)))]) _ [ruO nx s k n (.hs (6,nx2+1) 0 1 ncap),ruZ nx,((6,nx2+1), .c (eC ⟨qa,qo,qm,qv⟩++List.replicate ((ncap - 1) * Tryz.prog.cellsOf 86) .any))] [] rfl rfl (List.perm_append_singleton _ _) (.cons _ (.cons _ (.cons_cons _ (.cons_cons _ (.cons_cons _ .slnil))))) .slnil ⟨rfl,⟨AVle.refl _,AVle.refl _,AVle.refl _,AVle.hs_nm rfl,trivial⟩,rfl,OwnLe.refl _,rfl,Jnk (congrArg Own.c Jup),trivial⟩ trivial ⟨AVle.refl _,AVle.refl _,AVle.refl _,AVle.refl _,Jk (Js (by first | omega | (dsimp only;omega))),trivial⟩)
     ·obtain ⟨q1,q2,q3⟩:=h2
      refine JV ?_
      refine JQ (fun i=> match i with | 0=> true | _=> false) 5 ?_
      refine stp ?_
      refine Jey (m:=1) (szx:=4) (n:=L.length) (cap:=cap) (cs:=J6 eC L.toArray tl) (i:=(0,s1)) rfl rfl (.inr ⟨_,rfl⟩) Tryz.underlying116 JrP (.inr c_cnd.symm) (by rfl) q2 (by rw [c_cnd,Jgt Jbn];simpa using q3) (JO rfl) (fun _=> by rw [JrQ];omega) (fun _=> by omega) (fun hm=> absurd hm (by decide)) (fun hm hfit=> ?_) (fun hm hfit ncap hcap=> ?_)
      ·refine stp ?_
       (conv=> whnf)
       refine back (i+1,L++ [(⟨qa,qo,qm,qv⟩:Cnd)],some (s1,cap,tl.drop 4),nx2+1) ?_ (by dsimp only;omega) ?_
       ·exact ⟨hi,ha,⟨by simp,by simpa using hfit,by simp;omega⟩,h3'⟩
       ·exact (Jh (pm:= []) (bx:= [ruO nx s k n (.hs (0,s1) 0 (L++ [(⟨qa,qo,qm,qv⟩:Cnd)]).length cap),ruZ nx,((0,s1), .c (J6 eC (L++ [(⟨qa,qo,qm,qv⟩:Cnd)]).toArray (tl.drop 4)))]) [ruO nx s k n (.hs (0,s1) 0 (L.length+1) cap),ruZ nx,((0,s1), .c (JX (J6 eC L.toArray tl) (L.length * Tryz.prog.cellsOf 86) (eC ⟨qa,qo,qm,qv⟩)))] [] rfl rfl (.cons _ (.cons _ (.cons_cons _ (.cons_cons _ (.cons_cons _ .slnil))))) .slnil (Jvp (JrR rfl) (Jqi (tl:=tl) (by have:=hfit;omega))) trivial ⟨AVle.refl _,AVle.refl _,AVle.refl _,AVle.refl _,Jk (Js (by first | omega | (dsimp only;omega))),trivial⟩)
      ·refine stp ?_
       (conv=> whnf)
       refine back (i+1,L++ [(⟨qa,qo,qm,qv⟩:Cnd)],some (nx2+1,ncap,List.replicate ((ncap - (L.length+1)) * 4) .any),nx2+1+1) ?_ (by dsimp only;omega) ?_
       ·exact ⟨hi,ha,⟨by simp,by simpa using hcap,by simp;omega⟩,h3'⟩
       ·exact (Jn (pm:= []) (bx:= [ruO nx s k n (.hs (0,nx2+1) 0 (L++ [(⟨qa,qo,qm,qv⟩:Cnd)]).length ncap),ruZ nx,((0,nx2+1), .c (J6 eC (L++ [(⟨qa,qo,qm,qv⟩:Cnd)]).toArray (List.replicate ((ncap - (L.length+1)) * 4) .any)))]) _ [ruO nx s k n (.hs (6,nx2+1) 0 (L.length+1) ncap),ruZ nx,((6,nx2+1), .c ((J6 eC L.toArray tl).take (L.length * Tryz.prog.cellsOf 86)++eC ⟨qa,qo,qm,qv⟩++List.replicate ((ncap - (L.length+1)) * Tryz.prog.cellsOf 86) .any))] [] rfl rfl (List.perm_append_singleton _ _) (.cons _ (.cons _ (.cons_cons _ (.cons_cons _ (.cons _ (.cons_cons _ .slnil)))))) .slnil ⟨rfl,⟨AVle.refl _,AVle.refl _,AVle.refl _,JrR rfl,trivial⟩,rfl,OwnLe.refl _,rfl,Jnk (congrArg Own.c Jtn),trivial⟩ trivial ⟨AVle.refl _,AVle.refl _,AVle.refl _,AVle.refl _,Jk (Js (by first | omega | (dsimp only;omega))),trivial⟩)
   ·have g2:st=2:=by
     by_cases h:st=2
     ·exact h
     ·exfalso
      have:((st:Int) ==2)=false:=beq_eq_false_iff_ne.2 (by omega)
      exact absurd (g2.trans this) (by decide)
    have hR:Jbo ⟨s,(k,n),cs⟩=none:=by
     unfold Jbo
     dsimp only
     rw [Jvo hi (by rw [hnv];exact decide_eq_true g2)];rfl
    rw [hR]
    rcases md with _ | ⟨s1,cap,tl⟩
    all_goals
     refine stp ?_
     exact Jl rfl ⟨rfl,trivial⟩ (AVle.tups (cs:= [_,_]) ⟨AVle.ags (cs:= [_,_,_,_]) ⟨AVle.refl _,AVle.refl _,AVle.refl _,AVle.os_sl0,trivial⟩,AVle.refl _,trivial⟩)
end Go.Proofs.W

namespace Go.Proofs.W
open Go.Vl
set_option maxRecDepth 100000
def JjB (r:Rul):List AV:= [Jf r.name,int r.act.1,int r.act.2,Jbt r.conds]
theorem JrS (l:List Rul) (p:Rul→Bool) (f:Nat) (n:Rul) (hl:l.length≤1000000000) (hp:∀i,i < l.length→Tells Tryz.prog f [Jau (l.getD i Jq), .rp (JjB n)] (Jb (p (l.getD i Jq)))):
 Tells Tryz.prog 106 [JJ 4 Jau Jq l,(.fn (.func f) [] [.rp (JjB n)])] (int (Jg9 (l.findIdx? p))):=by
 refine Jg Tryz.func106 rfl rfl fun nx=> ?_
 refine stp ?_
 refine JN (fun s:Nat×Nat=> mk 19 [(0,JJ 4 Jau Jq l),(1,(.fn (.func f) [] [.rp (JjB n)])),(7,int l.length),(8,int s.1)] ⟨[], [],s.2,0⟩) (fun s=> s.1≤l.length∧∀j,j < s.1→p (l.getD j Jq)=false) (fun s=> l.length - s.1) ?_ ?_
 ·exact ⟨(0,nx),⟨by simp,by intro j hj;simp at hj⟩,Ja0 rfl rfl ⟨AVle.refl _,AVle.refl _,AVle.refl _,AVle.refl _,trivial⟩⟩
 ·rintro ⟨i,nx⟩ ⟨h1,h2⟩
  dsimp only at h1 h2
  refine stp ?_
  intro c h3;cases c
  ·have h3:=JC h3
   dsimp only at h3
   refine stp ?_
   refine Je rfl (Jk ?_)
   rw [Jfo Jq (fun j hj=> h2 j (by omega))];rfl
  ·have h3:=JD h3
   dsimp only at h3
   have hi:i < l.length:=by omega
   refine stp ?_
   refine ⟨⟨by dsimp only;omega,by dsimp only;omega⟩, ?_⟩
   refine stp ?_
   refine Jd rfl rfl (hp i hi) ⟨AVle.refl _,AVle.refl _,trivial⟩ fun nx'=> ?_
   intro c h4;cases c
   ·refine stp ?_
    refine back (i+1,nx') ⟨by dsimp only;omega,fun j hj=> ?_⟩ (by dsimp only;omega) (Ja0 rfl rfl ⟨AVle.refl _,AVle.refl _,AVle.refl _,Jk (Js (by dsimp only;omega)),trivial⟩)
    dsimp only at hj
    rcases Nat.lt_or_ge j i with h | h
    ·exact h2 j h
    ·obtain rfl:j=i:=by omega
     exact h4.symm
   ·refine stp ?_
    refine Je rfl (Jk ?_)
    rw [Jg8 Jq hi h2 h4.symm];rfl
theorem JrT (l:List Rul) (p:Rul→Bool) (f:Nat) (n:Rul) (hl:l.length≤1000000000) (hp:∀i,i < l.length→Tells Tryz.prog f [Jau (l.getD i Jq), .rp (JjB n)] (Jb (p (l.getD i Jq)))):
 Tells Tryz.prog 168 [JJ 4 Jau Jq l,(.fn (.func f) [] [.rp (JjB n)])] (Jb (l.any p)):=by
 refine Jg Tryz.func168 rfl rfl fun nx=> ?_
 refine stp ?_
 refine Jd rfl rfl (JrS l p f n hl hp) ⟨AVle.refl _,AVle.refl _,trivial⟩ fun nx'=> ?_
 refine stp ?_
 intro c h;cases c
 all_goals
  refine stp ?_
  refine Je rfl (JF ?_)
  rw [h,← List.findIdx?_isSome]
  exact Jez _
def JiK (n x:Rul):Bool:=decide (x.conds= [])|| decide (x.conds=n.conds)
def Jft (l:List Rul) (n:Rul):Bool:=l.any (JiK n)
theorem JrU (x n:Rul) (hx:x.conds.length≤1000000):Tells Tryz.prog 195 [Jau x, .rp [Jf n.name,int n.act.1,int n.act.2,Jbt n.conds]] (Jb (JiK n x)):=by
 refine Jg Tryz.func195 rfl rfl fun nx=> ?_
 by_cases h:x.conds= []
 ·have e:JiK n x=true:=by unfold JiK;rw [h];rfl
  rw [e]
  refine stp ?_
  intro c hc
  have hc2:c=true:=hc.trans (beq_iff_eq.2 (congrArg (fun l:List Cnd=> Int.ofNat l.length) h))
  clear hc;subst hc2
  refine stp ?_
  exact Je rfl (AVle.refl _)
 ·have e:JiK n x=decide (x.conds=n.conds):=by unfold JiK;rw [decide_eq_false h];rfl
  rw [e]
  refine stp ?_
  intro c hc
  have hne:¬Int.ofNat x.conds.length=0:=fun hh=> h (List.eq_nil_of_length_eq_zero (Int.ofNat.inj hh))
  have hc2:c=false:=hc.trans (beq_eq_false_iff_ne.2 hne)
  clear hc;subst hc2
  refine stp ?_
  refine Jd rfl rfl (Jol x.conds n.conds hx) ⟨AVle.refl _,AVle.refl _,trivial⟩ fun nx2=> ?_
  intro c h9;cases c
  all_goals
   refine stp ?_
   exact Je rfl (JF h9)
theorem Jim (l:List Rul) (n:Rul) (hl:l.length≤1000000) (hc:∀r∈l,r.conds.length≤1000000):Tells Tryz.prog 110 [Jj l,Jau n] (Jb (Jft l n)):=by
 refine Jg Tryz.func110 rfl rfl fun nx=> ?_
 (refine JV ?_;refine Jan ?_;refine JV ?_)
 refine AW.le (Jcl (L:= [(0,Jj l),(3, .rp [Jf n.name,int n.act.1,int n.act.2,Jbt n.conds])]) (bx:= []) (pm:= []) (nn:=1) [((0,nx), .c [Jf n.name,int n.act.1,int n.act.2,Jbt n.conds])] rfl rfl (List.Sublist.refl _) .slnil ⟨Frz.refl _,Frz.bp (.head _) rfl,trivial⟩) ?_
 refine stp ?_
 refine Jd rfl rfl (JrT l (JiK n) 195 n (by omega) (fun i hi=> JrU _ _ (hc _ (by simp [List.getD,hi])))) ⟨AVle.refl _,AVle.refl _,trivial⟩ fun nx2=> ?_
 intro c h9;cases c
 all_goals
  refine stp ?_
  exact Je rfl (JF h9)
end Go.Proofs.W

namespace Go.Proofs
open Go.Shelf
shelf_lay_g SlLaysM.n6 Slgm 6 at Tryz 189 as Tryz.laysM6k16
end Go.Proofs
namespace Go.Proofs.W
open Go.Vl Go.Shelf
set_option maxRecDepth 100000
theorem Jor (es:List (Value×AV)) (hky:∀p∈es,∃z,p.1= .string z):Jf3 Tryz.prog 198 [] [.rp [.fm es]] (fun v:Value=> [.v v]) (fun xs=> xs.Perm (es.map (·.1))):=by
 intro i σ Cb Cp I J hc s0 nx nn h0
 refine ECall.wk (JU Tryz.func198 rfl rfl ?_)
 refine JV ?_
 refine JQ (fun n=> match n with | 0=> true | _=> false) 2 ?_
 refine stp ?_
 refine Jps rfl Tryz.underlying223 rfl ?_
 refine stp ?_
 refine JN (fun y:List Nat×σ×Nat=> mk 14 [(0, .yl i),(5, .bp (nn,nx) 0)] ⟨((nn,nx), .it es y.1)::Cb y.2.1,Cp y.2.1,y.2.2,nn+1⟩) (fun y=> y.1.Nodup∧(∀j∈y.1,j < es.length)∧I (y.1.map (Jd6 es)) y.2.1) (fun y=> es.length - y.1.length) ?_ ?_
 ·exact ⟨([],s0,nx+1),⟨List.nodup_nil,(fun j (h:j∈ [])=> by cases h),h0⟩,Jh _ _ rfl rfl (List.Sublist.refl _) (List.Sublist.refl _) ⟨rfl,OwnLe.refl _,BxLe.refl _⟩ (PmEq.refl _) ⟨AVle.refl _,AVle.refl _,trivial⟩⟩
 ·rintro ⟨seen,s,nx1⟩ ⟨h1,h2,h3⟩
  dsimp only at h1 h2 h3
  refine JV ?_
  refine JQ (fun n=> match n with | 0=> true | _=> false) 1 ?_
  refine Jrd (i:=(nn,nx)) (es:=es) (seen:=seen) (R:=Cb s) rfl rfl rfl (fun k p hk hn=> ?_) (fun hall=> ?_)
  ·obtain ⟨z,hz⟩:=hky p (List.mem_of_getElem? hk)
   obtain ⟨key,val⟩:=p
   dsimp only at hz
   subst hz
   have hk2:k < es.length:=(List.getElem?_eq_some_iff.1 hk).1
   have hka:Jd6 es k= .string z:=JpZ hk
   obtain ⟨post,hperm⟩:=Jrg h1 h2 hk2 hn
   have hS:(seen.map (Jd6 es)++(.string z)::post.map (Jd6 es)).Perm (es.map (·.1)):=by
    rw [← Jk9,← hka]
    simpa using hperm.map (Jd6 es)
   have hlen:=hperm.length_eq
   have hnd:(seen++ [k]).Nodup:=by
    rw [List.nodup_append]
    exact ⟨h1,by simp,fun a ha b hb hab=> by rw [List.mem_singleton] at hb;subst hb;subst hab;exact hn ha⟩
   have hlt:∀j∈seen++ [k],j < es.length:=fun j hj=> by
    rcases List.mem_append.1 hj with h | h
    ·exact h2 j h
    ·rw [List.mem_singleton] at h;omega
   have hmk:(seen++ [k]).map (Jd6 es)=seen.map (Jd6 es)++ [.string z]:=by rw [List.map_append,← hka];rfl
   have hlen2:seen.length < es.length:=by simp at hlen;omega
   refine JV ?_
   refine JQ (fun n=> match n with | 0=> true | _=> false) 1 ?_
   refine Jpt (i:=(nn,nx)) (seen:=seen) (k:=k) (R:=Cb s) rfl rfl rfl hk ?_
   refine JV ?_
   refine JQ (fun n=> match n with | 0=> true | _=> false) 3 ?_
   refine stp ?_
   refine Jgr [((nn,nx), .it es (seen++ [k]))] [] rfl rfl rfl (hc _ hS) rfl h3 ⟨AVle.refl _,trivial⟩ (fun s' nx' hI=> ?_) (fun s' nx' hJ=> ?_)
   ·refine stp ?_
    exact back (seen++ [k],s',nx') ⟨hnd,hlt,by dsimp only;rw [hmk];exact hI⟩ (by simp;omega) (Jh _ _ rfl rfl (List.Sublist.refl _) (List.Sublist.refl _) (BxLe.refl _) (PmEq.refl _) ⟨AVle.refl _,AVle.refl _,trivial⟩)
   ·refine stp ?_
    exact J7 rfl ⟨_,⟨Cb s',Cp s',nx',nn⟩,AVle.refl _,Jay _ _ rfl (.cons _ (List.Sublist.refl _)) (List.Sublist.refl _) (BxLe.refl _) (PmEq.refl _),_,s',hS, .inr ⟨_,_,_,rfl,hJ⟩,rfl,rfl⟩
  ·refine stp ?_
   refine J7 rfl ⟨_,⟨Cb s,Cp s,nx1,nn⟩,AVle.refl _,Jay _ _ rfl (.cons _ (List.Sublist.refl _)) (List.Sublist.refl _) (BxLe.refl _) (PmEq.refl _),_,s, ?_, .inl h3,rfl,rfl⟩
   rw [← Jk9]
   exact (Jrh h1 h2 hall).map _
def Jcf (l:List Value) (k:Nat):AV:= .v (l.getD k (.bool false))
theorem Jto:Tryz.prog.bytesOf 9=16:=by kernel_rfl
theorem JjC (es:List (Value×AV)):Tells Tryz.prog 112 [.fm es] (.fn (.func 198) [] [.rp [.fm es]]):=by
 refine Jg Tryz.func112 rfl rfl fun nx=> ?_
 (repeat ((conv=>whnf);first|refine ω0 ?_|refine ω1 ?_|refine ω2 ?_|refine ω3 ?_|refine ω4 rfl ?_|refine ω5 rfl ?_|refine ω6 ?_|refine ω7 ?_|refine ⟨rfl,?_⟩|refine ⟨trivial,?_⟩|refine ⟨⟨rfl,Nat.le_of_ble_eq_true rfl⟩,?_⟩|refine ⟨⟨by kernel_rfl,by kernel_rfl⟩,?_⟩|refine ⟨by decide,?_⟩|refine Jfj ?_|refine JeG ?_))
 refine AW.le (Jcl (L:= [(2, .fn (.func 198) [] [.rp [.fm es]])]) (bx:= []) (pm:= []) (nn:=1) [((0,nx), .c [.fm es])] rfl rfl (List.Sublist.refl _) .slnil ⟨Frz.fn trivial ⟨Frz.bp (.head _) rfl,trivial⟩,trivial⟩) ?_
 refine stp ?_
 exact Je rfl (AVle.refl _)
set_option maxHeartbeats 1000000 in
theorem JiL {it:FuncId} {es:List (Value×AV)} {S:List Value→Prop} (hit:Jf3 Tryz.prog it [] [.rp [.fm es]] (fun v:Value=> [.v v]) S) (hS:∀xs,S xs→xs.length≤1000000∧∀v∈xs,∃z,v= .string z) (nx:Nat):
 ECall Tryz.prog 265 [.os 0 0 (fun _=> .any) none, .fn (.func it) [] [.rp [.fm es]]] ⟨[], [],nx,0⟩ fun r h'=> ∃xs oi nx' nn',S xs∧(oi=none→xs= [])∧r= .os 1 xs.length (Jcf xs) oi∧h'=⟨[],JbT oi (xs.length * 1),nx',nn'⟩:=by
 refine ECall.wk (JU Tryz.func265 rfl rfl ?_)
 refine stp ?_
 refine AW.le (E':=mk 13 [(2, .bp (0,nx) 0),(6, .fn (.func it) [] [.rp [.fm es]])] ⟨[((0,nx), .c [.os 1 0 (Jcf []) none])], [],nx+1,1⟩) ?_ ?_
 ·exact Jh _ _ rfl rfl (List.Sublist.refl _) .slnil ⟨rfl,⟨AVle.os_nil,trivial⟩,trivial⟩ trivial ⟨AVle.refl _,AVle.refl _,trivial⟩
 refine Jt3 (σ:=Nat×(Nat→AV)×Option Vl.Id) (α:=Value) (e:=fun v=> [.v v]) (S:=S) (first':= []) (caps':= [.rp [.fm es]]) (fun x=> [((0,nx), .c [.os 1 x.1 x.2.1 x.2.2])]) (fun x=> JbT x.2.2 (x.1 * 1)) (fun pre x=> x.1=pre.length∧(∀k,k < x.1→x.2.1 k=Jcf pre k)∧(x.2.2=none→pre= [])) (0,Jcf [],none) rfl rfl hit (LeL.refl _) (LeL.refl _) rfl rfl ⟨rfl,fun _ _=> rfl,fun _=> rfl⟩ (fun _=> rfl) ?_ ?_
 ·rintro pre x post ⟨n,f,oi⟩ nx3 nn3 hx ⟨hp,hf,ho⟩
  dsimp only at hp hf ho
  subst hp
  obtain ⟨hlen,hty⟩:=hS _ hx
  obtain ⟨z,rfl⟩:=hty x (by simp)
  simp at hlen
  refine JV ?_
  refine Jan ?_
  refine JV ?_
  refine JQ (fun n=> match n with | 0=> true | _=> false) 4 ?_
  refine stp ?_
  refine Jex (e:=9) (c:=1) (pm:= []) (n:=pre.length) (oi:=oi) (sz:=1) (f:=f) rfl rfl (.inr ⟨_,rfl⟩) (by kernel_rfl) (by kernel_rfl) (by kernel_rfl) (.inr rfl) (by kernel_rfl) (List.append_nil _).symm (JO rfl) (by rw [Jto];omega) (by omega) ?_
  refine stp ?_
  refine ⟨(pre.length+1,_,some (nn3,nx3)), .inl ⟨rfl,by simp,fun k hk=> ?_,fun h=> by cases h⟩,rfl,rfl⟩
  refine Jgq (fun k hk=> ?_) ?_ k hk
  ·rw [hf k hk];simp [Jcf,List.getD,List.getElem?_append_left hk,hk]
  ·simp [Jcf,List.getD];rfl
 ·rintro xs ⟨n,f,oi⟩ nx3 nn3 hx ⟨hp,hf,ho⟩
  dsimp only at hp hf ho
  subst hp
  refine stp ?_
  refine J7 rfl ⟨.os 1 xs.length (Jcf xs) oi,⟨[],JbT oi (xs.length * 1),nx3,0⟩,AVle.os_fun hf, ?_,xs,oi,nx3,0,hx,ho,rfl,rfl⟩
  exact Jay [] _ rfl (List.nil_sublist _) (List.Sublist.refl _) trivial (PmEq.refl _)
theorem Jku (es:List (Value×AV)) (hl:es.length≤1000000) (hky:∀p∈es,∃z,p.1= .string z) (nx:Nat):
 ECall Tryz.prog 197 [.fn (.func 198) [] [.rp [.fm es]]] ⟨[], [],nx,0⟩ (JtP (fun n f=> ∃xs:List Value,xs.Perm (es.map (·.1))∧n=xs.length∧∀k,k < n→f k=Jcf xs k) 1):=by
 refine Jpx (by decide) (fun n f ⟨xs,_,_,hf⟩ k hk c hc=> ?_) ?_
 ·rw [hf k hk] at hc
  obtain rfl:c=Jcf xs k:=by simpa [Jcf,AV.cells] using hc
  exact Flat.v _
 refine ECall.wk (JU Tryz.func197 rfl rfl ?_)
 refine stp ?_
 refine Jc7 rfl rfl (ECall.args (bs:= [.os 0 0 (fun _=> .any) none, .fn (.func 198) [] [.rp [.fm es]]]) ⟨AVle.refl _,AVle.refl _,trivial⟩ (JiL (Jor es hky) (fun xs hx=> ⟨by have:=hx.length_eq;simp at this;omega,fun v hv=> ?_⟩) nx)) fun r h' hq=> ?_
 ·obtain ⟨p,hp,rfl⟩:=List.mem_map.1 (hx.mem_iff.1 hv)
  exact hky p hp
 obtain ⟨xs,oi,nx',nn',hS,ho,rfl,rfl⟩:=hq
 refine Named.same ?_
 refine stp ?_
 exact J7 rfl ⟨_,_,AVle.refl _,HLe.refl _,xs.length,Jcf xs,oi,nx',_,⟨xs,hS,rfl,fun _ _=> rfl⟩,(fun h=> by rw [ho h];rfl),rfl,rfl⟩
def Jcn (z:List UInt8):AV:= .v (encStr z)
def JfS (s:Nat) (d:Array (List UInt8)) (tl:List AV):List (Vl.Id×Own):= [((0,s), .c (Jbe Jcn d tl))]
theorem JjD (l:List (List UInt8)):l.mergeSort (fun x y=> decide (x≤y))=Jai Go.Sort.ltStr l:=by
 unfold Jai
 congr 1
 funext x y
 simp only [Go.Sort.ltStr]
 by_cases h:x≤y
 ·rw [decide_eq_true h,decide_eq_false (List.not_lt.2 h)];rfl
 ·rw [decide_eq_false h,decide_eq_true (List.not_le.1 h)];rfl
theorem Jhg:∀x y:List UInt8,Go.Sort.ltStr x y=false→Go.Sort.ltStr y x=false→x=y:=fun x y h1 h2=> by
 simp only [Go.Sort.ltStr,decide_eq_false_iff_not,List.not_lt] at h1 h2
 exact List.le_antisymm h2 h1
theorem Jnn (d0:Array (List UInt8)) (tl:List AV) (n:Nat) (hn:d0.size=n) (hsz:n≤1000000) (s cap nx:Nat):
 ECall Tryz.prog 189 [.hs (0,s) 0 n cap] ⟨JfS s d0 tl, [],nx,1⟩ (fun r h'=> ∃nx' nn',h'=⟨JfS s (Jai Go.Sort.ltStr d0.toList).toArray tl, [],nx',nn'⟩):=by
 subst hn
 have h:=Jid (P:=Tryz.prog) (enc:=encStr) (d:=d0) (d':=(Jai Go.Sort.ltStr d0.toList).toArray) (tl:=tl) (nm:=0) (s:=s) (cap:=cap) (nx:=nx) (nn:=1) (f:=189) ⟨_,Tryz.func189,rfl,rfl⟩ (by simp [Jbr]) (fun w blk hH hb=> by
  have k:=AnyM.slices_Sort_string Tryz.laysM6k16 blk 0 cap d0.toList w hH hb (by simp;omega)
  rw [JjD] at k
  exact k)
 exact h.mono fun r h' ⟨_,h2⟩=> ⟨nx,1,h2⟩
theorem Jno (F:Nat→AV):Tells Tryz.prog 189 [.os 1 0 F none] (.tup []):=
 Jie (nx:=0) ⟨_,Tryz.func189,rfl,rfl⟩ fun p cap w=> AnyM.slices_Sort_string_none Tryz.laysM6k16 p cap w
def JjE:Value→List UInt8
 | .string z=> z.data.toList
 | _=> []
theorem JlZ (es:List (Value×AV)) (zs:List (List UInt8)) (hz:es.map (·.1)=zs.map encStr) (hl:es.length≤1000000):
 Tells Tryz.prog 111 [.fn (.func 198) [] [.rp [.fm es]]] (JJ 1 Jcn [] (Jai Go.Sort.ltStr zs)):=by
 have hky:∀p∈es,∃z,p.1=encStr z:=fun p hp=> by
  have:p.1∈zs.map encStr:=hz ▸ List.mem_map_of_mem hp
  obtain ⟨z,_,h⟩:=List.mem_map.1 this
  exact ⟨z,h.symm⟩
 refine Jg Tryz.func111 rfl rfl fun nx=> ?_
 refine stp ?_
 refine Jc7 rfl rfl (Jku es hl (fun p hp=> let ⟨z,h⟩:=hky p hp;⟨⟨z.toArray⟩,h⟩) nx) fun r h' hq=> ?_
 obtain ⟨n,f,⟨xs,hxp,hxn,hxf⟩,hq⟩:=hq
 obtain ⟨ys,rfl⟩:∃ys:List (List UInt8),xs=ys.map encStr:=by
  have hall:∀v∈xs,∃z,v=encStr z:=fun v hv=> by
   have hv2:=hxp.mem_iff.1 hv
   rw [hz] at hv2
   obtain ⟨z,_,h⟩:=List.mem_map.1 hv2
   exact ⟨z,h.symm⟩
  clear hxp hxn hxf hq
  induction xs with
  | nil=> exact ⟨[],rfl⟩
  | cons x xs ih=>
    obtain ⟨z,rfl⟩:=hall x (by simp)
    obtain ⟨ys,rfl⟩:=ih fun v hv=> hall v (by simp [hv])
    exact ⟨z::ys,rfl⟩
 have hperm:ys.Perm zs:=by
  rw [hz] at hxp
  have h2:=hxp.map JjE
  rwa [List.map_map,List.map_map,show (JjE∘encStr)=id from rfl,List.map_id,List.map_id] at h2
 have hsz:n≤1000000:=by
  have:=hxp.length_eq
  simp at this
  rw [hxn];simp;omega
 rcases hq with ⟨rfl,hb,hp,rfl⟩ | ⟨s,cap,more,nx',nn',hcap,hmore,rfl,rfl⟩
 ·have hys:ys= []:=by cases ys with | nil=> rfl | cons y ys=> simp at hxn
  subst hys
  have hzs:zs= []:=hperm.symm.eq_nil
  subst hzs
  rw [show Jai Go.Sort.ltStr ([]:List (List UInt8))= [] from List.eq_nil_of_length_eq_zero Jbr]
  obtain ⟨bx,pm,nxx,nnn⟩:=h'
  dsimp only at hb hp
  subst hb;subst hp
  refine Named.same ?_
  refine stp ?_
  refine Jd rfl rfl (Jno f) ⟨AVle.refl _,trivial⟩ fun nx2=> ?_
  refine stp ?_
  exact Je rfl AVle.os_sl0
 ·refine Named.same ?_
  have hcells:JK n f=ys.toArray.toList.map Jcn:=by
   have key:∀m,m≤n→JK m f=(ys.take m).map Jcn:=by
    intro m
    induction m with
    | zero=> intro _;rfl
    | succ m ih=>
      intro hm
      have hm':m < ys.length:=by simp at hxn;omega
      have e:JK (m+1) f=JK m f++(f m).cells:=by unfold JK;rw [List.range_succ,List.flatMap_append];simp
      rw [e,ih (by omega),hxf m (by omega),List.take_add_one,List.map_append]
      simp [Jcf,List.getD,hm',AV.cells,Jcn]
   rw [key n (Nat.le_refl _),List.take_of_length_le (by simp at hxn;omega)]
  have hnn:ys.toArray.size=n:=by simp at hxn;simp [hxn]
  rw [hcells]
  refine JV ?_
  refine AW.le (E':=mk 9 [(3, .hs (0,s) 0 n cap)] ⟨JfS s ys.toArray (List.replicate more .any), [],nx',1⟩) (Jh _ _ rfl rfl (List.Sublist.refl _) .slnil (BxLe.refl _) trivial ⟨AVle.refl _,trivial⟩) ?_
  refine stp ?_
  refine JS (xs:= [.hs (0,s) 0 n cap]) [] [] 1 rfl rfl rfl rfl ⟨AVle.refl _,trivial⟩ (Jnn ys.toArray _ n hnn hsz s cap _) (BxLe.refl _) (PmEq.refl _) rfl fun r h' hq=> ?_
  obtain ⟨nx2,nn2,rfl⟩:=hq
  have hd:(Jai Go.Sort.ltStr ys.toArray.toList).toArray.toList=Jai Go.Sort.ltStr zs:=by
   show Jai Go.Sort.ltStr ys=_
   exact Jkj Go.Sort.swo_ltStr Jhg hperm
  generalize (Jai Go.Sort.ltStr ys.toArray.toList).toArray=d' at hd⊢
  have hdn:d'.size=n:=by
   rw [← Array.length_toList,hd,Jbr,← hperm.length_eq]
   simpa using hnn
  have hln:(Jai Go.Sort.ltStr zs).length=n:=by rw [← hd];simpa using hdn
  refine JV ?_
  refine AW.le (Jcl (L:= [(3,JJ 1 Jcn [] (Jai Go.Sort.ltStr zs))]) (bx:= []) (pm:= []) (nn:=1) [((0,s), .c (Jbe Jcn d' (List.replicate more .any)))] rfl rfl (List.Sublist.refl _) .slnil ⟨?_,trivial⟩) ?_
  ·unfold JJ
   rw [hln]
   refine Frz.hs1 (.head _) hcap (by rw [Jgs];omega) (fun k _=> rfl) (fun k hk=> ?_)
   unfold Jbe
   rw [List.getElem?_append_left (by simpa [hdn] using hk),List.getElem?_map,← hd]
   have:k < d'.size:=by omega
   simp [List.getD,this]
  ·refine stp ?_
   exact Je rfl (AVle.refl _)
end Go.Proofs.W

namespace Go.Proofs.W
open Go.Vl
set_option maxRecDepth 100000
def Jab (s t:ByteArray):Bool:=s.toList ==t.toList
theorem JcF {s t:ByteArray}:Jab s t=true↔s=t:=by
 unfold Jab
 rw [beq_iff_eq,Lib.toList_data,Lib.toList_data]
 constructor
 ·intro h
  obtain ⟨⟨a⟩⟩:=s
  obtain ⟨⟨b⟩⟩:=t
  simpa using h
 ·rintro rfl;rfl
def Ja8:List (ByteArray×List Rul)→ByteArray→List Rul
 | [],_=> []
 | h::H,s=> if Jab s h.1 then h.2 else Ja8 H s
def Jc0:List (ByteArray×List Rul)→ByteArray→Rul→List (ByteArray×List Rul)
 | [],s,n=> [(s, [n])]
 | h::H,s,n=> if Jab s h.1 then (h.1,h.2++ [n])::H else h::Jc0 H s n
def JcL (H:List (ByteArray×List Rul)) (r:Rul):List (ByteArray×List Rul):=
 match Jbo r with
 | none=> H
 | some n=> if Jft (Ja8 H r.name) n then H else Jc0 H r.name n
def Jaz (rs:List Rul):List (ByteArray×List Rul):=rs.foldl JcL []
theorem Jl0 {rs:List Rul} {i:Nat} (h:i < rs.length):Jaz (rs.take (i+1))=JcL (Jaz (rs.take i)) (rs.getD i Jq):=by
 unfold Jaz;rw [Jb1 Jq h,List.foldl_append];rfl
def Ja1 (R:List Rul) (k:Nat):AV:=Jau (R.getD k Jq)
abbrev Grp:=ByteArray×List Rul×Nat
def gE (g:Grp):Value×AV:=(.string g.1, .os 4 g.2.1.length (Ja1 g.2.1) (some (g.2.2,g.2.2)))
def gF (g:Grp):Value×AV:=(.string g.1,Jj g.2.1)
def gP (g:Grp):Vl.Id×Nat:=((g.2.2,g.2.2),g.2.1.length * 4)
def JbV (G:List Grp):List (ByteArray×List Rul):=G.map fun g=> (g.1,g.2.1)
theorem Jf9 (G:List Grp):JaU .string (G.map gE)=true:=by simp [JaU,gE,JaK]
theorem Jvq (G:List Grp):JaU .string (G.map gF)=true:=by simp [JaU,gF,JaK]
theorem JjF {s:ByteArray} {e:Grp→Value×AV} (he:∀g,(e g).1= .string g.1):∀ {G:List Grp},(∀g∈G,Jab s g.1=false)→Ja6 (.string s) (G.map e)=none
 | [],_=> rfl
 | g::G,h=> by
   have h0:(s.toList ==g.1.toList)=false:=h g (.head _)
   show (bif Jc3 (.string s) (e g).1 then _ else Ja6 (.string s) (G.map e))=none
   rw [he g]
   show (bif s.toList ==g.1.toList then _ else Ja6 (.string s) (G.map e))=none
   rw [h0]
   exact JjF he fun g' hg=> h g' (.tail _ hg)
theorem JiM {s:ByteArray} {e:Grp→Value×AV} (he:∀g,(e g).1= .string g.1) {l:List Rul} {st:Nat} {G2:List Grp}:∀ {G1:List Grp},(∀g∈G1,Jab s g.1=false)→Ja6 (.string s) ((G1++(s,l,st)::G2).map e)=some (e (s,l,st)).2
 | [],_=> by
   show (bif Jc3 (.string s) (e (s,l,st)).1 then _ else _)=_
   rw [he]
   show (bif s.toList ==s.toList then _ else _)=_
   rw [beq_self_eq_true];rfl
 | g::G,h=> by
   have h0:(s.toList ==g.1.toList)=false:=h g (.head _)
   show (bif Jc3 (.string s) (e g).1 then _ else Ja6 (.string s) ((G++(s,l,st)::G2).map e))=_
   rw [he g]
   show (bif s.toList ==g.1.toList then _ else _)=_
   rw [h0]
   exact JiM he fun g' hg=> h g' (.tail _ hg)
theorem JdW {s:ByteArray} {v:AV}:∀ {G:List Grp},(∀g∈G,Jab s g.1=false)→Jcw (.string s) v (G.map gE)=G.map gE++ [(.string s,v)]
 | [],_=> rfl
 | g::G,h=> by
   have h0:(s.toList ==g.1.toList)=false:=h g (.head _)
   show (bif s.toList ==g.1.toList then _ else gE g::Jcw (.string s) v (G.map gE))=_
   rw [h0,JdW fun g' hg=> h g' (.tail _ hg)];rfl
theorem JoY {s:ByteArray} {v:AV} {l:List Rul} {st:Nat} {G2:List Grp}:∀ {G1:List Grp},(∀g∈G1,Jab s g.1=false)→Jcw (.string s) v ((G1++(s,l,st)::G2).map gE)=G1.map gE++(.string s,v)::G2.map gE
 | [],_=> by
   show (bif s.toList ==s.toList then _ else _)=_
   rw [beq_self_eq_true];rfl
 | g::G,h=> by
   have h0:(s.toList ==g.1.toList)=false:=h g (.head _)
   show (bif s.toList ==g.1.toList then _ else gE g::Jcw (.string s) v ((G++(s,l,st)::G2).map gE))=_
   rw [h0,JoY fun g' hg=> h g' (.tail _ hg)];rfl
theorem Jlm {s:ByteArray}:∀ {G:List Grp},(∀g∈G,Jab s g.1=false)→Ja8 (JbV G) s= []
 | [],_=> rfl
 | g::G,h=> by
   show (if Jab s g.1=true then _ else Ja8 (JbV G) s)=_
   rw [if_neg (by rw [h g (.head _)];decide)]
   exact Jlm fun g' hg=> h g' (.tail _ hg)
theorem Jkv {s:ByteArray} {l:List Rul} {st:Nat} {G2:List Grp}:∀ {G1:List Grp},(∀g∈G1,Jab s g.1=false)→Ja8 (JbV (G1++(s,l,st)::G2)) s=l
 | [],_=> if_pos (JcF.2 rfl)
 | g::G,h=> by
   show (if Jab s g.1=true then _ else Ja8 (JbV (G++_)) s)=_
   rw [if_neg (by rw [h g (.head _)];decide)]
   exact Jkv fun g' hg=> h g' (.tail _ hg)
theorem Jln {s:ByteArray} {n:Rul} {st:Nat}:∀ {G:List Grp},(∀g∈G,Jab s g.1=false)→Jc0 (JbV G) s n=JbV (G++ [(s, [n],st)])
 | [],_=> rfl
 | g::G,h=> by
   show (if Jab s g.1=true then _ else _::Jc0 (JbV G) s n)=_
   rw [if_neg (by rw [h g (.head _)];decide),Jln (st:=st) fun g' hg=> h g' (.tail _ hg)];rfl
theorem JoZ {s:ByteArray} {n:Rul} {l:List Rul} {st st':Nat} {G2:List Grp}:∀ {G1:List Grp},(∀g∈G1,Jab s g.1=false)→Jc0 (JbV (G1++(s,l,st)::G2)) s n=JbV (G1++(s,l++ [n],st')::G2)
 | [],_=> if_pos (JcF.2 rfl)
 | g::G,h=> by
   show (if Jab s g.1=true then _ else _::Jc0 (JbV (G++(s,l,st)::G2)) s n)=_
   rw [if_neg (by rw [h g (.head _)];decide),JoZ (st':=st') fun g' hg=> h g' (.tail _ hg)];rfl
theorem Jhh (s:ByteArray):∀(G:List Grp),(∀g∈G,Jab s g.1=false)∨∃G1 l st G2,G=G1++(s,l,st)::G2∧∀g∈G1,Jab s g.1=false
 | []=> .inl (by simp)
 | g::G=> by
   cases hk:Jab s g.1 with
   | true=>
     obtain ⟨t,l,st⟩:=g
     obtain rfl:s=t:=JcF.1 hk
     exact .inr ⟨[],l,st,G,rfl,by simp⟩
   | false=>
     rcases Jhh s G with h | ⟨G1,l,st,G2,rfl,h⟩
     ·exact .inl fun g' hg=> by rcases List.mem_cons.1 hg with rfl | hg;exact hk;exact h g' hg
     ·exact .inr ⟨g::G1,l,st,G2,rfl,fun g' hg=> by rcases List.mem_cons.1 hg with rfl | hg;exact hk;exact h g' hg⟩
theorem JjG {s:ByteArray} {l:List Rul} {st:Nat} {G2:List Grp}:∀ {G1:List Grp},((G1++(s,l,st)::G2).map (·.2.2)).Nodup→JaW st ((G1++(s,l,st)::G2).map gP)=some (st,l.length * 4)
 | [],_=> by
   show (bif Nat.beq st st then _ else _)=_
   rw [Nat.beq_refl];rfl
 | g::G,h=> by
   simp only [List.cons_append,List.map_cons,List.nodup_cons] at h
   have h0:Nat.beq g.2.2 st=false:=by
    cases hb:Nat.beq g.2.2 st with
    | false=> rfl
    | true=> exact absurd (by simp [Nat.eq_of_beq_eq_true hb]) h.1
   show (bif Nat.beq g.2.2 st then _ else JaW st ((G++(s,l,st)::G2).map gP))=_
   rw [h0]
   exact JjG h.2
theorem Jhi {s:ByteArray} {l:List Rul} {st:Nat} {G2:List Grp}:∀ {G1:List Grp},((G1++(s,l,st)::G2).map (·.2.2)).Nodup→Jbq st ((G1++(s,l,st)::G2).map gP)=(G1++G2).map gP
 | [],_=> by
   show (bif Nat.beq st st then _ else _)=_
   rw [Nat.beq_refl];rfl
 | g::G,h=> by
   simp only [List.cons_append,List.map_cons,List.nodup_cons] at h
   have h0:Nat.beq g.2.2 st=false:=by
    cases hb:Nat.beq g.2.2 st with
    | false=> rfl
    | true=> exact absurd (by simp [Nat.eq_of_beq_eq_true hb]) h.1
   show (bif Nat.beq g.2.2 st then _ else gP g::Jbq st ((G++(s,l,st)::G2).map gP))=_
   rw [h0,Jhi h.2];rfl
theorem MpLe.appK16:∀ {a b c d:List (Value×AV)},MpLe a b→MpLe c d→MpLe (a++c) (b++d)
 | [], [],_,_,_,h=> h
 | _::_,_::_,_,_,h,k=> ⟨h.1,h.2.1,MpLe.appK16 h.2.2 k⟩
 | [],_::_,_,_,h,_=> h.elim
 | _::_, [],_,_,h,_=> h.elim
theorem Juq {s:ByteArray} {n:Rul} {st:Nat} {v:AV} {G:List Grp} (h:∀g∈G,Jab s g.1=false) (hv:AVle v (.os 4 1 (Ja1 [n]) (some (st,st)))):OwnLe (.mp (Jcw (.string s) v (G.map gE))) (.mp ((G++ [(s, [n],st)]).map gE)):=by
 rw [JdW h,List.map_append]
 exact MpLe.appK16 (MpLe.refl _) ⟨rfl,hv,trivial⟩
theorem Jv3 {s:ByteArray} {l l':List Rul} {st st':Nat} {v:AV} {G1 G2:List Grp} (h:∀g∈G1,Jab s g.1=false) (hv:AVle v (.os 4 l'.length (Ja1 l') (some (st',st')))):OwnLe (.mp (Jcw (.string s) v ((G1++(s,l,st)::G2).map gE))) (.mp ((G1++(s,l',st')::G2).map gE)):=by
 rw [JoY h,List.map_append]
 exact MpLe.appK16 (MpLe.refl _) ⟨rfl,hv,MpLe.refl _⟩
theorem JrV:∀(G:List Grp),MpLe (G.map gE) (G.map gF)
 | []=> trivial
 | g::G=> ⟨rfl,AVle.os_sl,JrV G⟩
theorem Jtp {P:Program} {c:Code} {E:Env} {Q:AExit→Env→Prop} (h:(E.h.pm.map (·.1.2)).Nodup→AW P c E Q):AW P c E Q:=by
 have h2:=h
 unfold AW at h2⊢
 intro ro X M w0 a w g g0 hg hs
 refine h2 ?_ ro X M w0 a w g g0 hg hs
 have:=hs.hok.nodup
 unfold Heap.ids at this
 rw [List.map_append] at this
 have h3:=(List.nodup_append.1 this).2.1
 have:((E.h.pm.map (·.1.2)).map (fun i=> g[i]?)).Nodup:=h3
 exact (List.pairwise_map.1 this).imp fun h e=> h (congrArg (fun i=> g[i]?) e)
theorem Jlo {E:Env} {n:Nat} {bx:List (Vl.Id×Own)} {pm pm':List (Vl.Id×Nat)} {nx nn:Nat} {L:List (Nat×AV)} (bx':List (Vl.Id×Own)) (hn:E.n=n) (hx:E.h.nx=nx) (hb:bx'.Sublist E.h.bx) (hp:E.h.pm=pm') (hq:(pm.map (fun p=> (p.1.2,p.2))).Perm (pm'.map (fun p=> (p.1.2,p.2))))
 (eb:BxLe bx' bx) (hL:LeT E.t L):ELe E (mk n L ⟨bx,pm,nx,nn⟩ E.df):=by
 subst hp
 refine ELe.trans (Jh (bx:=bx) (pm:=E.h.pm) (nn:=nn) (L:=L) bx' E.h.pm hn hx hb (List.Sublist.refl _) eb (PmEq.refl _) hL) ?_
 exact Jed (E:=mk n L ⟨bx,E.h.pm,nx,nn⟩ E.df) (h':=⟨bx,pm,nx,nn⟩) ⟨.refl _,hq,rfl⟩
theorem Jo0 {L:List Rul} {c:Rul} {f':Nat→AV} {i j:Vl.Id} (hf:f' 0=Jau c:=by rfl) (h:i.2=j.2:=by rfl):AVle (.os 4 (L.length+1) (Jcc L.length (Ja1 L) f') (some i)) (.os 4 (L++ [c]).length (Ja1 (L++ [c])) (some j)):=by
 rw [List.length_append]
 refine (AVle.os_fun (Jgq (fun k hk=> ?_) ?_)).trans (AVle.os_nm h)
 ·simp [Ja1,List.getD,List.getElem?_append_left hk,hk]
 ·rw [hf];simp [Ja1,List.getD]
end Go.Proofs.W

namespace Go.Proofs.W
open Go.Vl
set_option maxRecDepth 100000
def Jdf (d:A2) (l:List Rul):List Rul:=(l.reverse.dropWhile fun r=> decide (r.act=d)).reverse
def JeO (H:List (ByteArray×List Rul)):List (List UInt8):=Jai Go.Sort.ltStr (H.map fun h=> h.1.data.toList)
def JgD (d:A2) (H:List (ByteArray×List Rul)) (N:List (List UInt8)):List Rul:=N.flatMap fun nm=> Jdf d (Ja8 H ⟨nm.toArray⟩)
def Jc (p:Pol):Pol:=⟨p.dflt,p.x32,JgD p.dflt (Jaz p.rules) (JeO (Jaz p.rules))⟩
def JwU:Pol:=⟨(0,0),false, []⟩
def Jl6 (p:Pol):AV:=if Jbm p then .tup [Jha (Jc p),int 0] else .tup [Jha JwU,int 13]
theorem JrW {d:A2} {l:List Rul} {r:Rul}:Jdf d (l++ [r])=if r.act=d then Jdf d l else l++ [r]:=by
 unfold Jdf
 rw [List.reverse_append]
 show (List.dropWhile _ (r::l.reverse)).reverse=_
 by_cases h:r.act=d
 ·rw [List.dropWhile_cons,if_pos (by simpa using h),if_pos h]
 ·rw [List.dropWhile_cons,if_neg (by simpa using h),if_neg h];simp
theorem Jlp {l:List Rul} {m:Nat} (h0:0 < m) (h:m≤l.length):l.take m=l.take (m - 1)++ [l.getD (m - 1) Jq]:=by
 obtain ⟨k,rfl⟩:∃k,m=k+1:=⟨m - 1,by omega⟩
 exact Jb1 Jq (by omega)
def JdK:List AV:= [int 0,int 0,Jb false, .os 0 0 (fun _=> .any) none]
def JeW (p:Pol):List AV:= [int p.dflt.1,int p.dflt.2,Jb p.x32,Jj p.rules]
theorem JbL {p:Pol} (h:Jbm p=true):p.rules.length≤500∧∀r∈p.rules,r.conds.length≤6:=by
 unfold Jbm at h
 simp only [Bool.and_eq_true,decide_eq_true_eq,Bool.not_eq_true',List.any_eq_false] at h
 refine ⟨h.2.1,fun r hr=> ?_⟩
 have:Jaj r=true:=by have:=h.2.2 r hr;simpa using this
 unfold Jaj at this
 simp only [Bool.and_eq_true,decide_eq_true_eq] at this
 exact this.2.2.1
theorem JcT {r n:Rul} (h:Jbo r=some n):n.conds.length≤r.conds.length∧n.name=r.name∧n.act=r.act:=by
 unfold Jbo at h
 split at h
 ·cases h
 ·cases h
  exact ⟨Nat.le_trans (Jqg _ _) (Jnl _),rfl,rfl⟩
theorem Jga:Ja4 Tryz.prog 123=true:=by kernel_rfl
theorem gc_rul:Tryz.prog.cellsOf 123=4:=by kernel_rfl
theorem Jgb:Tryz.prog.bytesOf 123=56:=by kernel_rfl
theorem Jur {s:ByteArray} {l:List Rul} {n:Rul} {st st' nm:Nat} {G1 G2:List Grp} (hnd:((G1++(s,l,st)::G2).map (·.2.2)).Nodup):
 (((G1++(s,l++ [n],st')::G2).map gP).map (fun p=> (p.1.2,p.2))).Perm ((((nm,st'),(l.length+1) * Tryz.prog.cellsOf 123)::Jbq st ((G1++(s,l,st)::G2).map gP)).map (fun p=> (p.1.2,p.2))):=by
 rw [Jhi hnd,gc_rul,List.map_append,List.map_cons,List.map_append,List.map_append,List.map_cons,List.map_cons,List.map_append]
 refine List.perm_middle.trans (.of_eq ?_)
 simp [gP]
theorem JhQ (r:Rul):(Jau r).cells.all Ja2=true:=rfl
theorem JhR {R l:List Rul} {m:Nat} {i j:Vl.Id} (hm:m≤l.length) (h:i.2=j.2):AVle (.os 4 (R.length+m) (Jcc R.length (Ja1 R) (Ja1 l)) (some i)) (.os 4 (R++l.take m).length (Ja1 (R++l.take m)) (some j)):=by
 rw [List.length_append,List.length_take,Nat.min_eq_left hm]
 refine (AVle.os_fun (fun k hk=> ?_)).trans (AVle.os_nm h)
 unfold Jcc
 by_cases hk2:k < R.length
 ·rw [show Nat.blt k R.length=true from Nat.ble_eq_true_of_le hk2]
  simp [Ja1,List.getD,List.getElem?_append_left hk2]
 ·rw [show Nat.blt k R.length=false from by cases hb:Nat.blt k R.length with | false=> rfl | true=> exact absurd (Nat.le_of_ble_eq_true hb) (by omega)]
  simp only [Ja1,List.getD,cond_false]
  rw [List.getElem?_append_right (by omega),List.getElem?_take,if_pos (by omega)]
theorem JeP {a b c d:List Rul} (h:a=b) (k:c=d):a++c=b++d:=by rw [h,k]
theorem Jb2 {a b:AV} {K:AV→Prop} (h:a=b) (hk:Jcj b K):Jcj a K:=h ▸ hk
set_option maxHeartbeats 8000000 in
theorem Jl1 (p:Pol) (hp:p.ok):Tells Tryz.prog 45 [Jha p] (Jl6 p):=by
 have hr:=Jii p hp
 cases hb:Jbm p with
 | false=>
   rw [hb] at hr
   unfold Jl6
   rw [hb,if_neg (by decide)]
   refine Jg Tryz.func45 rfl rfl fun nx=> ?_
   refine stp ?_
   refine Jd rfl rfl hr ⟨AVle.refl _,trivial⟩ fun nx2=> ?_
   refine stp ?_
   exact Jl rfl ⟨rfl,trivial⟩ (AVle.tups (cs:= [_,_]) ⟨AVle.ags (cs:= [_,_,_,_]) ⟨AVle.refl _,AVle.refl _,AVle.refl _,AVle.os_sl0,trivial⟩,AVle.refl _,trivial⟩)
 | true=>
   rw [hb] at hr
   obtain ⟨hl,hc6⟩:=JbL hb
   unfold Jl6
   rw [hb,if_pos rfl]
   refine Jg Tryz.func45 rfl rfl fun nx=> ?_
   refine stp ?_
   refine Jd rfl rfl hr ⟨AVle.refl _,trivial⟩ fun nx2=> ?_
   refine stp ?_
   refine JN (fun y:Nat×List Grp×Nat=> mk 94 [(1, .bp (0,nx) 0),(2, .bp (1,nx+1) 0),(4, .om (2,nx2)),(19,Jj p.rules),(20,int p.rules.length),(21,int y.1)] ⟨[((2,nx2), .mp (y.2.1.map gE)),((1,nx+1), .c JdK),((0,nx), .c (JeW p))],y.2.1.map gP,y.2.2,3⟩)
    (fun y=> y.1≤p.rules.length∧JbV y.2.1=Jaz (p.rules.take y.1)∧y.2.1.length≤y.1∧∀g∈y.2.1,g.2.1.length≤y.1∧∀r∈g.2.1,r.conds.length≤6) (fun y=> p.rules.length - y.1) ?_ ?_
   ·exact ⟨(0, [],nx2+1),⟨Nat.zero_le _,rfl,Nat.le_refl _,by simp⟩,Jh _ _ rfl rfl (List.Sublist.refl _) (List.Sublist.refl _) (BxLe.refl _) trivial ⟨AVle.refl _,AVle.refl _,AVle.refl _,AVle.refl _,AVle.refl _,AVle.refl _,trivial⟩⟩
   ·rintro ⟨i,G,nx3⟩ ⟨h1,h2,h3,h4⟩
    dsimp only at h1 h2 h3 h4
    refine stp ?_
    intro c g;cases c
    ·have g:=JC g
     try dsimp only at g
     have hi:i=p.rules.length:=by omega
     subst hi
     rw [List.take_length] at h2
     refine JV ?_
     refine AW.le (E':=mk 94 [(1, .bp (0,nx) 0),(2, .bp (1,nx+1) 0),(4, .om (2,nx2))] ⟨[((2,nx2), .mp (G.map gF)),((1,nx+1), .c JdK),((0,nx), .c (JeW p))], [],nx3,3⟩) (Jh _ [] rfl rfl (List.Sublist.refl _) (List.nil_sublist _) ⟨rfl,JrV G,BxLe.refl _⟩ trivial ⟨AVle.refl _,AVle.refl _,AVle.refl _,trivial⟩) ?_
     refine JbJ (n:=94) (nx:=nx3) (nn:=3) (pm:= []) (bx:= [((1,nx+1), .c JdK),((0,nx), .c (JeW p))]) (L:= [(1, .bp (0,nx) 0),(2, .bp (1,nx+1) 0),(4, .fm (G.map gF))]) (df:=some []) [((2,nx2), .mp (G.map gF))] rfl rfl rfl (.refl _) (List.Sublist.refl _) ⟨Frz.refl _,Frz.refl _,Frz.om (.head _),trivial⟩ ?_
     have hzs:(G.map gF).map (·.1)=(G.map fun g:Grp=> g.1.data.toList).map encStr:=by
      rw [List.map_map,List.map_map];rfl
     have hsort:=JlZ (G.map gF) (G.map fun g:Grp=> g.1.data.toList) hzs (by rw [List.length_map];omega)
     have hkeys:JeO (Jaz p.rules)=Jai Go.Sort.ltStr (G.map fun g:Grp=> g.1.data.toList):=by
      rw [← h2];unfold JeO JbV;rw [List.map_map];rfl
     have hNl:(Jai Go.Sort.ltStr (G.map fun g:Grp=> g.1.data.toList)).length≤500:=by rw [Jbr,List.length_map];omega
     have hNm:∀z,z∈Jai Go.Sort.ltStr (G.map fun g:Grp=> g.1.data.toList)→∃g∈G,g.1.data.toList=z:=fun z hz=> by
      rw [Jjm] at hz
      obtain ⟨g,hg,h⟩:=List.mem_map.1 hz
      exact ⟨g,hg,h⟩
     unfold Jc
     rw [hkeys,← h2]
     generalize Jai Go.Sort.ltStr (G.map fun g:Grp=> g.1.data.toList)=N at hsort hNl hNm⊢
     refine stp ?_
     intro c hc
     subst hc
     refine stp ?_
     refine Jd rfl rfl (JjC (G.map gF)) ⟨AVle.refl _,trivial⟩ fun nx4=> ?_
     refine stp ?_
     refine Jd rfl rfl hsort ⟨AVle.refl _,trivial⟩ fun nx5=> ?_
     refine stp ?_
     refine JN (fun y:Nat×List Rul×Option Nat×Nat=> mk 94 [(1, .bp (0,nx) 0),(2, .bp (1,nx+1) 0),(4, .fm (G.map gF)),(9, .bp (3,nx3) 0),(58,JJ 1 Jcn [] N),(59,int N.length),(60,int y.1)] ⟨[((3,nx3), .c [int p.dflt.1,int p.dflt.2,Jb p.x32, .os 4 y.2.1.length (Ja1 y.2.1) (nmd y.2.2.1)]),((1,nx+1), .c JdK),((0,nx), .c (JeW p))],JbT (nmd y.2.2.1) (y.2.1.length * 4),y.2.2.2,4⟩)
      (fun y=> y.1≤N.length∧(y.2.2.1=none→y.2.1= [])∧y.2.1=JgD p.dflt (JbV G) (N.take y.1)∧y.2.1.length≤y.1 * 500) (fun y=> N.length - y.1) ?_ ?_
     ·exact ⟨(0, [],none,nx5),⟨Nat.zero_le _,fun _=> rfl,rfl,Nat.zero_le _⟩,Jh (pm:= []) (bx:= [((3,nx3), .c [int p.dflt.1,int p.dflt.2,Jb p.x32, .os 4 0 (Ja1 []) none]),((1,nx+1), .c JdK),((0,nx), .c (JeW p))]) _ _ rfl rfl (List.Sublist.refl _) (List.Sublist.refl _) ⟨rfl,⟨AVle.refl _,AVle.refl _,AVle.refl _,AVle.os_nil,trivial⟩,BxLe.refl _⟩ trivial ⟨AVle.refl _,AVle.refl _,AVle.refl _,AVle.refl _,AVle.refl _,AVle.refl _,AVle.refl _,trivial⟩⟩
     ·rintro ⟨j,R,oi,nx6⟩ ⟨k1,k2,k3,k4⟩
      dsimp only at k1 k2 k3 k4
      refine stp ?_
      intro c gg;cases c
      ·have gg:=JC gg
       try dsimp only at gg
       have hj:j=N.length:=by omega
       subst hj
       rw [List.take_length] at k3
       rw [← k3]
       refine stp ?_
       exact Jl rfl ⟨rfl,trivial⟩ (AVle.tups (cs:= [_,_]) ⟨AVle.ags (cs:= [_,_,_,_]) ⟨AVle.refl _,AVle.refl _,AVle.refl _,AVle.os_sl,trivial⟩,AVle.refl _,trivial⟩)
      ·have gg:=JD gg
       try dsimp only at gg
       have hj:j < N.length:=by omega
       have hNj:N.getD j []∈N:=by simp [List.getD,hj]
       rcases Jhh ⟨(N.getD j []).toArray⟩ G with hno | ⟨G1,l,st,G2,hG,hno⟩
       ·exfalso
        obtain ⟨g,hg,hge⟩:=hNm _ hNj
        have:=hno g hg
        rw [Bool.eq_false_iff] at this
        exact this (JcF.2 (by rw [← hge]))
       have hlk:=JiM (e:=gF) (fun _=> rfl) (l:=l) (st:=st) (G2:=G2) hno
       have hgl:=(h4 (⟨(N.getD j []).toArray⟩,l,st) (by rw [hG];simp)).1
       dsimp only at hgl
       have hgg:Ja8 (JbV G) ⟨(N.getD j []).toArray⟩=l:=by rw [hG];exact Jkv hno
       have hout:JgD p.dflt (JbV G) (N.take (j+1))=JgD p.dflt (JbV G) (N.take j)++Jdf p.dflt l:=by
        unfold JgD
        rw [Jb1 [] hj,List.flatMap_append]
        simp only [List.flatMap_cons,List.flatMap_nil,List.append_nil]
        rw [hgg]
       rw [← hG] at hlk
       refine stp ?_
       refine ⟨⟨by first | omega | (dsimp only;omega),by first | omega | (dsimp only;omega)⟩, ?_⟩
       refine Jbs ?_
       refine ⟨Jvq G,JI (b:=Jj l) (congrArg (fun o:Option AV=> o.getD (.os 0 0 (fun _=> .any) none)) hlk) ?_⟩
       refine Jbs ?_
       refine JN (fun y:Nat×Nat=> mk 94 [(1, .bp (0,nx) 0),(2, .bp (1,nx+1) 0),(4, .fm (G.map gF)),(9, .bp (3,nx3) 0),(58,JJ 1 Jcn [] N),(59,int N.length),(60,int j),(12, .sl 4 y.1 (Ja1 l))] ⟨[((3,nx3), .c [int p.dflt.1,int p.dflt.2,Jb p.x32, .os 4 R.length (Ja1 R) (nmd oi)]),((1,nx+1), .c JdK),((0,nx), .c (JeW p))],JbT (nmd oi) (R.length * 4),nx6,4⟩)
        (fun y=> y.1≤l.length∧Jdf p.dflt l=Jdf p.dflt (l.take y.1)) (fun y=> y.1) ?_ ?_
       ·exact ⟨(l.length,0),⟨Nat.le_refl _,by rw [List.take_length]⟩,Jh _ _ rfl rfl (List.Sublist.refl _) (List.Sublist.refl _) (BxLe.refl _) (PmEq.refl _) ⟨AVle.refl _,AVle.refl _,AVle.refl _,AVle.refl _,AVle.refl _,AVle.refl _,AVle.refl _,AVle.refl _,trivial⟩⟩
       ·rintro ⟨m,zz⟩ ⟨hml,hcut⟩
        dsimp only at hml hcut
        have hlm:(l.take m).length=m:=by rw [List.length_take];omega
        by_cases hm0:0 < m
        ·have hd:decide ((m:Int) > 0)=true:=decide_eq_true (by omega)
         have hm1:IntKind.i64.wrap ((m:Int) - 1)=((m - 1:Nat):Int):=by rw [JaX (by omega) (by omega)];omega
         rw [Jlp hm0 hml,JrW] at hcut
         refine stp ?_
         (refine Jag 15 ?_ ?_ ?_ ?_;(· kernel_rfl);(· kernel_rfl);(· kernel_rfl))
         refine stp ?_
         (conv=> whnf)
         refine JeJ hd ?_
         refine stp ?_
         refine ⟨⟨JcW (i:=m - 1) hm1,Jdb (i:=m - 1) hm1 (by omega)⟩,JI (b:= .rp (Jau (l.getD (m - 1) Jq)).cells) (congrArg (fun z:Int=> AV.rp (Ja1 l z.toNat).cells) hm1) ?_⟩
         refine stp ?_
         intro c hc
         have hc2:c=decide ((l.getD (m - 1) Jq).act=p.dflt):=hc.trans Jug
         clear hc
         cases c
         ·have hne:¬(l.getD (m - 1) Jq).act=p.dflt:=of_decide_eq_false hc2.symm
          rw [if_neg hne,← Jlp hm0 hml] at hcut
          have hct:=hcut
          clear hc2
          refine JV ?_
          refine JQ (fun i=> match i with | 0=> true | _=> false) 4 ?_
          refine stp ?_
          rcases oi with _ | o1
          ·obtain rfl:=k2 rfl
           refine AOp.any (Jci (e:=123) (n:=0) (oi:=none) (sz:=4) (f:=Ja1 []) (m:=m) (szx:=4) (f':=Ja1 l) rfl rfl (.inl rfl) Tryz.underlying45 Jga (.inl ⟨rfl,rfl⟩) (.inr gc_rul.symm) (fun i h=> by cases h) (fun k _=> JhQ _) (fun _=> by rw [Jgb];omega) (fun _=> by omega) (fun hm=> ?_) (fun hm=> ?_))
           ·subst hm
            refine stp ?_
            exact back (j+1, [],none,nx6) ⟨hj,fun _=> rfl,by rw [hout];exact (List.append_nil _).symm.trans (JeP k3 hct.symm),by dsimp only;omega⟩ (by dsimp only;omega) (Jh _ _ rfl rfl (List.Sublist.refl _) (List.Sublist.refl _) (BxLe.refl _) trivial ⟨AVle.refl _,AVle.refl _,AVle.refl _,AVle.refl _,AVle.refl _,AVle.refl _,Jk (Js (by first | omega | (dsimp only;omega))),trivial⟩)
           ·refine stp ?_
            exact back (j+1,l.take m,some nx6,nx6+1) ⟨hj,(fun h=> by cases h),by rw [hout];exact JeP k3 hct.symm,by dsimp only;rw [hlm];omega⟩ (by dsimp only;omega) (Jh (pm:= [((0,nx6),(l.take m).length * 4)]) (bx:= [((3,nx3), .c [int p.dflt.1,int p.dflt.2,Jb p.x32, .os 4 (l.take m).length (Ja1 (l.take m)) (some (0,nx6))]),((1,nx+1), .c JdK),((0,nx), .c (JeW p))]) _ _ rfl rfl (List.Sublist.refl _) (List.Sublist.refl _) ⟨rfl,⟨AVle.refl _,AVle.refl _,AVle.refl _,JhR (R:= []) hml rfl,trivial⟩,BxLe.refl _⟩ ⟨rfl,show (0+m) * Tryz.prog.cellsOf 123=(l.take m).length * 4 by rw [hlm,gc_rul,Nat.zero_add],trivial⟩ ⟨AVle.refl _,AVle.refl _,AVle.refl _,AVle.refl _,AVle.refl _,AVle.refl _,Jk (Js (by first | omega | (dsimp only;omega))),trivial⟩)
          ·refine AOp.any (Jci (e:=123) (n:=R.length) (oi:=some (0,o1)) (sz:=4) (f:=Ja1 R) (m:=m) (szx:=4) (f':=Ja1 l) rfl rfl (.inl rfl) Tryz.underlying45 Jga (.inr gc_rul.symm) (.inr gc_rul.symm) (fun i h=> by cases h;rw [gc_rul];rfl) (fun k _=> JhQ _) (fun _=> by rw [Jgb];omega) (fun _=> by omega) (fun hm=> ?_) (fun hm=> ?_))
           ·subst hm
            refine stp ?_
            exact back (j+1,R,some o1,nx6) ⟨hj,(fun h=> by cases h),by rw [hout];exact (List.append_nil _).symm.trans (JeP k3 hct.symm),by dsimp only;omega⟩ (by dsimp only;omega) (Jh _ _ rfl rfl (List.Sublist.refl _) (List.Sublist.refl _) (BxLe.refl _) (PmEq.refl _) ⟨AVle.refl _,AVle.refl _,AVle.refl _,AVle.refl _,AVle.refl _,AVle.refl _,Jk (Js (by first | omega | (dsimp only;omega))),trivial⟩)
           ·refine stp ?_
            exact back (j+1,R++l.take m,some nx6,nx6+1) ⟨hj,(fun h=> by cases h),by rw [hout];exact JeP k3 hct.symm,by dsimp only;rw [List.length_append,hlm];omega⟩ (by dsimp only;omega) (Jh (pm:= [((0,nx6),(R++l.take m).length * 4)]) (bx:= [((3,nx3), .c [int p.dflt.1,int p.dflt.2,Jb p.x32, .os 4 (R++l.take m).length (Ja1 (R++l.take m)) (some (0,nx6))]),((1,nx+1), .c JdK),((0,nx), .c (JeW p))]) _ _ rfl rfl (List.Sublist.refl _) (List.Sublist.refl _) ⟨rfl,⟨AVle.refl _,AVle.refl _,AVle.refl _,JhR hml rfl,trivial⟩,BxLe.refl _⟩ ⟨rfl,by rw [List.length_append,hlm,gc_rul],trivial⟩ ⟨AVle.refl _,AVle.refl _,AVle.refl _,AVle.refl _,AVle.refl _,AVle.refl _,Jk (Js (by first | omega | (dsimp only;omega))),trivial⟩)
         ·have heq:(l.getD (m - 1) Jq).act=p.dflt:=of_decide_eq_true hc2.symm
          rw [if_pos heq] at hcut
          clear hc2
          refine stp ?_
          refine ⟨⟨JcW (i:=m - 1) hm1,Int.le_of_lt (Jdb (i:=m - 1) hm1 (by omega))⟩, ?_⟩
          refine stp ?_
          exact back (m - 1,0) ⟨by dsimp only;omega,hcut⟩ (by dsimp only;omega) (Jh _ _ rfl rfl (List.Sublist.refl _) (List.Sublist.refl _) (BxLe.refl _) (PmEq.refl _) ⟨AVle.refl _,AVle.refl _,AVle.refl _,AVle.refl _,AVle.refl _,AVle.refl _,AVle.refl _,AVle.of_eq (congrArg (fun z:Int=> AV.sl 4 z.toNat (Ja1 l)) hm1),trivial⟩)
        ·have hd:decide ((m:Int) > 0)=false:=decide_eq_false (by omega)
         have hm00:m=0:=by omega
         have hct:Jdf p.dflt l=l.take m:=by rw [hcut,hm00];rfl
         refine stp ?_
         (refine Jag 15 ?_ ?_ ?_ ?_;(· kernel_rfl);(· kernel_rfl);(· kernel_rfl))
         refine stp ?_
         (conv=> whnf)
         refine JeJ hd ?_
         refine JV ?_
         refine JQ (fun i=> match i with | 0=> true | _=> false) 4 ?_
         refine stp ?_
         rcases oi with _ | o1
         ·obtain rfl:=k2 rfl
          refine AOp.any (Jci (e:=123) (n:=0) (oi:=none) (sz:=4) (f:=Ja1 []) (m:=m) (szx:=4) (f':=Ja1 l) rfl rfl (.inl rfl) Tryz.underlying45 Jga (.inl ⟨rfl,rfl⟩) (.inr gc_rul.symm) (fun i h=> by cases h) (fun k _=> JhQ _) (fun _=> by rw [Jgb];omega) (fun _=> by omega) (fun hm=> ?_) (fun hm=> ?_))
          ·subst hm
           refine stp ?_
           exact back (j+1, [],none,nx6) ⟨hj,fun _=> rfl,by rw [hout];exact (List.append_nil _).symm.trans (JeP k3 hct.symm),by dsimp only;omega⟩ (by dsimp only;omega) (Jh _ _ rfl rfl (List.Sublist.refl _) (List.Sublist.refl _) (BxLe.refl _) trivial ⟨AVle.refl _,AVle.refl _,AVle.refl _,AVle.refl _,AVle.refl _,AVle.refl _,Jk (Js (by first | omega | (dsimp only;omega))),trivial⟩)
          ·refine stp ?_
           exact back (j+1,l.take m,some nx6,nx6+1) ⟨hj,(fun h=> by cases h),by rw [hout];exact JeP k3 hct.symm,by dsimp only;rw [hlm];omega⟩ (by dsimp only;omega) (Jh (pm:= [((0,nx6),(l.take m).length * 4)]) (bx:= [((3,nx3), .c [int p.dflt.1,int p.dflt.2,Jb p.x32, .os 4 (l.take m).length (Ja1 (l.take m)) (some (0,nx6))]),((1,nx+1), .c JdK),((0,nx), .c (JeW p))]) _ _ rfl rfl (List.Sublist.refl _) (List.Sublist.refl _) ⟨rfl,⟨AVle.refl _,AVle.refl _,AVle.refl _,JhR (R:= []) hml rfl,trivial⟩,BxLe.refl _⟩ ⟨rfl,show (0+m) * Tryz.prog.cellsOf 123=(l.take m).length * 4 by rw [hlm,gc_rul,Nat.zero_add],trivial⟩ ⟨AVle.refl _,AVle.refl _,AVle.refl _,AVle.refl _,AVle.refl _,AVle.refl _,Jk (Js (by first | omega | (dsimp only;omega))),trivial⟩)
         ·refine AOp.any (Jci (e:=123) (n:=R.length) (oi:=some (0,o1)) (sz:=4) (f:=Ja1 R) (m:=m) (szx:=4) (f':=Ja1 l) rfl rfl (.inl rfl) Tryz.underlying45 Jga (.inr gc_rul.symm) (.inr gc_rul.symm) (fun i h=> by cases h;rw [gc_rul];rfl) (fun k _=> JhQ _) (fun _=> by rw [Jgb];omega) (fun _=> by omega) (fun hm=> ?_) (fun hm=> ?_))
          ·subst hm
           refine stp ?_
           exact back (j+1,R,some o1,nx6) ⟨hj,(fun h=> by cases h),by rw [hout];exact (List.append_nil _).symm.trans (JeP k3 hct.symm),by dsimp only;omega⟩ (by dsimp only;omega) (Jh _ _ rfl rfl (List.Sublist.refl _) (List.Sublist.refl _) (BxLe.refl _) (PmEq.refl _) ⟨AVle.refl _,AVle.refl _,AVle.refl _,AVle.refl _,AVle.refl _,AVle.refl _,Jk (Js (by first | omega | (dsimp only;omega))),trivial⟩)
          ·refine stp ?_
           exact back (j+1,R++l.take m,some nx6,nx6+1) ⟨hj,(fun h=> by cases h),by rw [hout];exact JeP k3 hct.symm,by dsimp only;rw [List.length_append,hlm];omega⟩ (by dsimp only;omega) (Jh (pm:= [((0,nx6),(R++l.take m).length * 4)]) (bx:= [((3,nx3), .c [int p.dflt.1,int p.dflt.2,Jb p.x32, .os 4 (R++l.take m).length (Ja1 (R++l.take m)) (some (0,nx6))]),((1,nx+1), .c JdK),((0,nx), .c (JeW p))]) _ _ rfl rfl (List.Sublist.refl _) (List.Sublist.refl _) ⟨rfl,⟨AVle.refl _,AVle.refl _,AVle.refl _,JhR hml rfl,trivial⟩,BxLe.refl _⟩ ⟨rfl,by rw [List.length_append,hlm,gc_rul],trivial⟩ ⟨AVle.refl _,AVle.refl _,AVle.refl _,AVle.refl _,AVle.refl _,AVle.refl _,Jk (Js (by first | omega | (dsimp only;omega))),trivial⟩)
    ·have g:=JD g
     try dsimp only at g
     have hi:i < p.rules.length:=by omega
     have hmem:p.rules.getD i Jq∈p.rules:=by simp [List.getD,hi]
     have hrs:=Joq (p.rules.getD i Jq) (hp.2 _ hmem).2.2 (by have:=hc6 _ hmem;omega)
     have hgn:=Jl0 hi
     have hnl:=hc6 _ hmem
     rw [← h2] at hgn
     refine Jtp fun hnd=> ?_
     have hnd:(G.map (·.2.2)).Nodup:=by
      have:((G.map gP).map (·.1.2)).Nodup:=hnd
      rwa [List.map_map] at this
     refine stp ?_
     refine ⟨⟨by first | omega | (dsimp only;omega),by first | omega | (dsimp only;omega)⟩, ?_⟩
     refine stp ?_
     cases hN:Jbo (p.rules.getD i Jq) with
     | none=>
       rw [hN] at hrs
       have hgn:Jaz (p.rules.take (i+1))=JbV G:=by rw [hgn];unfold JcL;rw [hN]
       refine Jd rfl rfl hrs ⟨AVle.refl _,trivial⟩ fun nx4=> ?_
       refine stp ?_
       exact back (i+1,G,nx4+1) ⟨hi,hgn.symm,by dsimp only;omega,fun g hg=> ⟨by have:=(h4 g hg).1;dsimp only;omega,(h4 g hg).2⟩⟩ (by dsimp only;omega) (Jh _ _ rfl rfl (.cons _ (.cons _ (List.Sublist.refl _))) (List.Sublist.refl _) (BxLe.refl _) (PmEq.refl _) ⟨AVle.refl _,AVle.refl _,AVle.refl _,AVle.refl _,AVle.refl _,Jk (Js (by first | omega | (dsimp only;omega))),trivial⟩)
     | some n=>
       rw [hN] at hrs
       obtain ⟨hn1,hn2,hn3⟩:=JcT hN
       rcases Jhh (p.rules.getD i Jq).name G with hno | ⟨G1,l,st,G2,hG,hno⟩
       ·have hgn:Jaz (p.rules.take (i+1))=Jc0 (JbV G) (p.rules.getD i Jq).name n:=by
         rw [hgn];unfold JcL;rw [hN]
         dsimp only
         rw [Jlm hno];rfl
        have hlk:=JjF (e:=gE) (fun _=> rfl) hno
        have hhd:=Jim [] n (by decide) (by simp)
        refine Jd rfl rfl hrs ⟨AVle.refl _,trivial⟩ fun nx4=> ?_
        refine Jbs ?_
        refine ⟨⟨rfl,Jf9 G⟩,JI (b:= .os 0 0 (fun _=> .any) none) (congrArg (fun o:Option AV=> o.getD (.os 0 0 (fun _=> .any) none)) hlk) ?_⟩
        refine Jbs ?_
        refine JI (b:=Jau n) rfl ?_
        refine Jbs ?_
        refine Jd rfl rfl hhd ⟨AVle.os_sl0,AVle.refl _,trivial⟩ fun nx5=> ?_
        intro c hc
        have hc2:c=false:=hc
        clear hc;subst hc2
        refine Jbs ?_
        refine Jah 10 _ (fun i=> match i with | 9=> true | _=> false) (fun i=> match i with | 6=> true | _=> false) [0,1,2,3,4,5,6,7,8,9] (by kernel_rfl) (by kernel_rfl) (HB.refl _) ?_
        refine Jbs ?_
        refine ⟨Jet (Ja6 (.string (p.rules.getD i Jq).name) (G.map gE)) (.os 0 0 (fun _=> .any) none) false,Je1 rfl (C:=some (nx2=nx2∧JaU .string (G.map gE)=true)) rfl ⟨rfl,Jf9 G⟩,Jb2 (b:= .os 0 0 (fun _=> .any) none) (congrArg (fun o:Option AV=> o.getD (.os 0 0 (fun _=> .any) none)) hlk) ?_⟩
        refine Jbs ?_
        refine Jb2 (b:=Jau n) rfl ?_
        refine Jbs ?_
        refine ⟨_,Jjc (e:=123) (n:=0) (oi:=none) (sz:=0) (f:=fun _=> .any) (m:=1) (szx:=4) (HB.refl _) rfl rfl rfl (.inr ⟨_,rfl⟩) Tryz.underlying45 Jga (.inl ⟨rfl,rfl⟩) (.inr gc_rul.symm) (fun i h=> by cases h) (JO rfl) (fun _=> by rw [Jgb];omega) (fun _=> by omega),fun r h' hr=> ?_⟩
        rcases hr with ⟨hr,-⟩ | ⟨-,rfl,rfl⟩
        ·exact absurd hr (by decide)
        refine Jbs ?_
        refine ⟨⟨rfl,Jf9 G⟩, ?_⟩
        refine Jbs ?_
        refine Jd4 ?_
        refine Jbs ?_
        exact back (i+1,G++ [((p.rules.getD i Jq).name, [n],nx5)],nx5+1) ⟨hi,(hgn.trans (Jln hno)).symm,by simp;omega,fun g hg=> by
         rcases List.mem_append.1 hg with hg | hg
         ·exact ⟨by have:=(h4 g hg).1;dsimp only;omega,(h4 g hg).2⟩
         ·rw [List.mem_singleton.1 hg]
          exact ⟨by simp, fun r hr => by rw [List.mem_singleton.1 hr]; omega⟩⟩ (by dsimp only; omega) (Jlo (bx := [((2, nx2), .mp ((G ++ [((p.rules.getD i Jq).name, [n], nx5)]).map gE)), ((1, nx + 1), .c JdK), ((0, nx), .c (JeW p))]) _ rfl rfl (.cons _ (.cons _ (List.Sublist.refl _))) rfl (by rw [List.map_append]; exact (List.perm_append_singleton _ _).map _ |>.trans (.of_eq (by rw [gc_rul]; rfl))) ⟨rfl, Juq hno (Jo0 (L := [])), BxLe.refl _⟩ ⟨AVle.refl _, AVle.refl _, AVle.refl _, AVle.refl _, AVle.refl _, Jk (Js (by first | omega | (dsimp only; omega))), trivial⟩)
       ·subst hG
        have hlk:=JiM (e:=gE) (fun _=> rfl) (l:=l) (st:=st) (G2:=G2) hno
        have hgl:=h4 ((p.rules.getD i Jq).name,l,st) (by simp)
        dsimp only at hgl
        have hhd:=Jim l n (by omega) (fun r hr=> by have:=hgl.2 r hr;omega)
        have hgg:Ja8 (JbV (G1++((p.rules.getD i Jq).name,l,st)::G2)) (p.rules.getD i Jq).name=l:=Jkv hno
        unfold JcL at hgn
        rw [hN] at hgn
        dsimp only at hgn
        rw [hgg] at hgn
        refine Jd rfl rfl hrs ⟨AVle.refl _,trivial⟩ fun nx4=> ?_
        refine Jbs ?_
        refine ⟨⟨rfl,Jf9 _⟩,JI (b:= .os 4 l.length (Ja1 l) (some (st,st))) (congrArg (fun o:Option AV=> o.getD (.os 0 0 (fun _=> .any) none)) hlk) ?_⟩
        refine Jbs ?_
        refine JI (b:=Jau n) rfl ?_
        refine Jbs ?_
        refine Jd rfl rfl hhd ⟨AVle.os_sl,AVle.refl _,trivial⟩ fun nx5=> ?_
        intro c hh;cases c
        ·have hh:Jft l n=false:=hh.symm
         rw [hh,if_neg (by decide)] at hgn
         refine Jbs ?_
         refine Jah 10 _ (fun i=> match i with | 9=> true | _=> false) (fun i=> match i with | 6=> true | _=> false) [0,1,2,3,4,5,6,7,8,9] (by kernel_rfl) (by kernel_rfl) (HB.refl _) ?_
         refine Jbs ?_
         refine ⟨Jet (Ja6 (.string (p.rules.getD i Jq).name) ((G1++((p.rules.getD i Jq).name,l,st)::G2).map gE)) (.os 0 0 (fun _=> .any) none) false,Je1 rfl (C:=some (nx2=nx2∧JaU .string ((G1++((p.rules.getD i Jq).name,l,st)::G2).map gE)=true)) rfl ⟨rfl,Jf9 _⟩,Jb2 (b:= .os 4 l.length (Ja1 l) (some (st,st))) (congrArg (fun o:Option AV=> o.getD (.os 0 0 (fun _=> .any) none)) hlk) ?_⟩
         refine Jbs ?_
         refine Jb2 (b:=Jau n) rfl ?_
         refine Jbs ?_
         refine ⟨_,Jjc (e:=123) (n:=l.length) (oi:=some (st,st)) (sz:=4) (f:=Ja1 l) (m:=1) (szx:=4) (HB.refl _) rfl rfl rfl (.inr ⟨_,rfl⟩) Tryz.underlying45 Jga (.inr gc_rul.symm) (.inr gc_rul.symm) (fun i h=> by cases h;rw [gc_rul];exact JjG hnd) (JO rfl) (fun _=> by rw [Jgb];omega) (fun _=> by omega),fun r h' hr=> ?_⟩
         rcases hr with ⟨hr,-⟩ | ⟨-,rfl,rfl⟩
         ·exact absurd hr (by decide)
         refine Jbs ?_
         refine ⟨⟨rfl,Jf9 _⟩, ?_⟩
         refine Jbs ?_
         refine Jd4 ?_
         refine Jbs ?_
         exact back (i+1,G1++((p.rules.getD i Jq).name,l++ [n],nx5)::G2,nx5+1) ⟨hi,(hgn.trans (JoZ hno)).symm,by simp at h3⊢;omega,fun g hg=> by
          rcases List.mem_append.1 hg with hg | hg
          ·have:=h4 g (List.mem_append_left _ hg);exact ⟨by have:=this.1;dsimp only;omega,this.2⟩
          ·rcases List.mem_cons.1 hg with rfl | hg
           ·exact ⟨by simp;omega,fun r hr=> by
             rcases List.mem_append.1 hr with hr | hr
             ·exact hgl.2 r hr
             ·rw [List.mem_singleton.1 hr];omega⟩
           ·have:=h4 g (List.mem_append_right _ (.tail _ hg));exact ⟨by have:=this.1;dsimp only;omega,this.2⟩⟩ (by dsimp only;omega) (Jlo (bx:= [((2,nx2), .mp ((G1++((p.rules.getD i Jq).name,l++ [n],nx5)::G2).map gE)),((1,nx+1), .c JdK),((0,nx), .c (JeW p))]) _ rfl rfl (.cons _ (.cons _ (List.Sublist.refl _))) rfl (Jur hnd) ⟨rfl,Jv3 hno Jo0,BxLe.refl _⟩ ⟨AVle.refl _,AVle.refl _,AVle.refl _,AVle.refl _,AVle.refl _,Jk (Js (by first | omega | (dsimp only;omega))),trivial⟩)
        ·have hh:Jft l n=true:=hh.symm
         rw [hh,if_pos rfl] at hgn
         refine Jbs ?_
         exact back (i+1,G1++((p.rules.getD i Jq).name,l,st)::G2,nx5) ⟨hi,hgn.symm,by dsimp only;omega,fun g hg=> ⟨by have:=(h4 g hg).1;dsimp only;omega,(h4 g hg).2⟩⟩ (by dsimp only;omega) (Jh _ _ rfl rfl (.cons _ (.cons _ (List.Sublist.refl _))) (List.Sublist.refl _) (BxLe.refl _) (PmEq.refl _) ⟨AVle.refl _,AVle.refl _,AVle.refl _,AVle.refl _,AVle.refl _,Jk (Js (by first | omega | (dsimp only;omega))),trivial⟩)
end Go.Proofs.W

namespace Go.Proofs.W
open Go.Vl
set_option maxRecDepth 100000
theorem Jnp {c:Cnd} (ho:c.ok):(Jaa c).1.ok:=by
 obtain ⟨o1,o2⟩:=ho
 unfold Jaa Jbl JaR Jbk Jds isC asC cnd0 Cnd.ok
 repeat' split
 all_goals (refine ⟨?_, ?_⟩ <;> dsimp only <;> omega)
end Go.Proofs.W

namespace Go.Proofs.W
open Go.Vl
set_option maxRecDepth 100000
theorem Jlq {α:Type} {R:α→α→Prop} (hi:∀x,¬R x x) (ht:∀x y z,R x y→R y z→R x z):∀ {l l':List α},l.Pairwise R→l'.Pairwise R→(∀x,x∈l↔x∈l')→l=l'
 | [], [],_,_,_=> rfl
 | [],y::l',_,_,h=> absurd ((h y).2 (.head _)) (by simp)
 | x::l, [],_,_,h=> absurd ((h x).1 (.head _)) (by simp)
 | x::l,y::l',h1,h2,h=> by
   rw [List.pairwise_cons] at h1 h2
   have hxy:x=y:=by
    rcases List.mem_cons.1 ((h x).1 (.head _)) with e | e
    ·exact e
    ·rcases List.mem_cons.1 ((h y).2 (.head _)) with e' | e'
     ·exact e'.symm
     ·exact absurd (ht _ _ _ (h1.1 _ e') (h2.1 _ e)) (hi x)
   subst hxy
   have hnx:∀ {m:List α},(∀z∈m,R x z)→x∉m:=fun hm hx=> hi x (hm x hx)
   rw [Jlq hi ht h1.2 h2.2 fun z=> ?_]
   constructor
   ·intro hz
    rcases List.mem_cons.1 ((h z).1 (.tail _ hz)) with e | e
    ·subst e;exact absurd hz (hnx h1.1)
    ·exact e
   ·intro hz
    rcases List.mem_cons.1 ((h z).2 (.tail _ hz)) with e | e
    ·subst e;exact absurd hz (hnx h2.1)
    ·exact e
def RC (a b:Cnd):Prop:=ltC a b=true
theorem Jvr (x:Cnd):¬RC x x:=by unfold RC;rw [swo_ltC.irrefl];decide
theorem Jv4 (x y z:Cnd) (h:RC x y) (k:RC y z):RC x z:=swo_ltC.trans x y z h k
theorem Jo1 {d:Array Cnd}:∀ {m:Nat},m≤d.size→(∀i j,i < j→j < m→ltC d[j]! d[i]! =false)→(cU d m).Pairwise RC∧∀x,x∈cU d m↔∃j,j < m∧d[j]! =x
 | 0,_,_=> ⟨List.Pairwise.nil,fun x=> by simp [cU]⟩
 | m+1,hm,hs=> by
   obtain ⟨h1,h2⟩:=Jo1 (m:=m) (by omega) fun i j a b=> hs i j a (by omega)
   by_cases hc:m=0∨d[m]! ≠d[m - 1]!
   ·rw [cU,if_pos hc]
    refine ⟨?_,fun x=> ?_⟩
    ·rw [List.pairwise_append]
     refine ⟨h1,List.pairwise_singleton _ _,fun a ha b hb=> ?_⟩
     rw [List.mem_singleton] at hb
     subst hb
     obtain ⟨j,hj,rfl⟩:=(h2 a).1 ha
     cases hlt:ltC d[j]! d[m]! with
     | true=> exact hlt
     | false=>
       exfalso
       have h3:=hs (m - 1) m (by omega) (by omega)
       have h4:ltC d[m - 1]! d[m]! =false:=by
        rcases Nat.lt_or_ge j (m - 1) with q | q
        ·exact swo_ltC.ntrans _ _ _ (hs j (m - 1) q (by omega)) hlt
        ·rw [show m - 1=j by omega];exact hlt
       rcases hc with hc | hc
       ·omega
       ·exact hc (Juo h3 h4)
    ·rw [List.mem_append,h2,List.mem_singleton]
     constructor
     ·rintro (⟨j,hj,rfl⟩ | rfl)
      ·exact ⟨j,by omega,rfl⟩
      ·exact ⟨m,by omega,rfl⟩
     ·rintro ⟨j,hj,rfl⟩
      rcases Nat.lt_or_ge j m with q | q
      ·exact .inl ⟨j,q,rfl⟩
      ·exact .inr (by rw [show j=m by omega])
   ·rw [cU,if_neg hc]
    refine ⟨h1,fun x=> ?_⟩
    rw [h2]
    constructor
    ·rintro ⟨j,hj,rfl⟩;exact ⟨j,by omega,rfl⟩
    ·rintro ⟨j,hj,rfl⟩
     rcases Nat.lt_or_ge j m with q | q
     ·exact ⟨j,q,rfl⟩
     ·have hj':j=m:=by omega
      subst hj'
      have:j≠0:=fun h=> hc (.inl h)
      exact ⟨j - 1,by omega,by by_cases he:d[j]! =d[j - 1]!;exact he.symm;exact absurd (.inr he) hc⟩
theorem Jdg (L:List Cnd):(JcZ L).Pairwise RC∧∀x,x∈JcZ L↔x∈L:=by
 have h:=Go.Sort.insertionSort_holds (lt:=ltC) swo_ltC L.toArray 0 L.length (Nat.zero_le _) (by simp)
 have hsz:(Go.Sort.insertionSort ltC L.toArray 0 L.length).size=L.length:=by have:=h.1.1;simpa using this
 obtain ⟨h1,h2⟩:=Jo1 (d:=Go.Sort.insertionSort ltC L.toArray 0 L.length) (m:=L.length) (by omega) fun i j a b=> h.2 i j (Nat.zero_le _) a b
 refine ⟨h1,fun x=> (h2 x).trans ?_⟩
 have hp:=h.1.2.2.mem_iff (a:=x)
 clear h h1 h2
 generalize Go.Sort.insertionSort ltC L.toArray 0 L.length=d at hsz hp⊢
 have e1:(d.extract 0 L.length).toList=d.toList:=by rw [← hsz];simp
 have e2:(L.toArray.extract 0 L.length).toList=L:=by simp
 rw [e1,e2] at hp
 rw [← hp,List.mem_iff_getElem]
 constructor
 ·rintro ⟨j,hj,rfl⟩
  have hj':j < d.size:=by omega
  exact ⟨j,by simpa using hj',by simp [hj']⟩
 ·rintro ⟨j,hj,rfl⟩
  have hj':j < d.size:=by simpa using hj
  exact ⟨j,by omega,by simp [hj']⟩
theorem Jus {L L':List Cnd} (h:∀x,x∈L↔x∈L'):JcZ L=JcZ L':=
 Jlq Jvr Jv4 (Jdg L).1 (Jdg L').1 fun x=> ((Jdg L).2 x).trans ((h x).trans ((Jdg L').2 x).symm)
theorem JrX (L:List Cnd):JcZ (JcZ L)=JcZ L:=Jus fun x=> (Jdg L).2 x
theorem Jdh {arg:Int} {op:Int} {v:Nat} (h0:0≤arg) (h5:arg≤5) (h1:1≤op) (h7:op≤7):JZ ⟨arg,op,0,v⟩=true:=Jaf.2 ⟨h0,h5,h1,h7, .inr rfl⟩
theorem Jkw {arg:Int} {v:Nat} (h0:0≤arg) (h5:arg≤5):Jaa ⟨arg,1,0,v⟩=(⟨arg,1,0,v⟩,0):=by
 unfold Jaa;rw [if_pos (Jdh h0 h5 (by decide) (by decide))];simp [Jbl]
theorem Jut {arg:Int} {v:Nat} (h0:0≤arg) (h5:arg≤5) (hv:¬v=0) (hv1:¬v=1):Jaa ⟨arg,3,0,v⟩=(⟨arg,3,0,v⟩,0):=by
 unfold Jaa;rw [if_pos (Jdh h0 h5 (by decide) (by decide))];simp [Jbl,JaR,hv,hv1,asC]
theorem Juu {arg:Int} {v:Nat} (h0:0≤arg) (h5:arg≤5) (hv:¬v=0) (hv1:¬v=18446744073709551615):Jaa ⟨arg,6,0,v⟩=(⟨arg,6,0,v⟩,0):=by
 unfold Jaa;rw [if_pos (Jdh h0 h5 (by decide) (by decide))];simp [Jbl,Jbk,hv,hv1,asC]
theorem Jin {c:Cnd} {v:Nat} (h0:0≤c.arg) (h5:c.arg≤5) (h:(JaR c v).2=0):JZ (JaR c v).1=true∧Jaa (JaR c v).1=((JaR c v).1,0):=by
 unfold JaR at h⊢
 by_cases e0:v=0
 ·rw [if_pos e0] at h;simp [isC] at h
 ·rw [if_neg e0] at h⊢
  by_cases e1:v=1
  ·rw [if_pos e1];exact ⟨Jdh h0 h5 (by decide) (by decide),Jkw h0 h5⟩
  ·rw [if_neg e1];exact ⟨Jdh h0 h5 (by decide) (by decide),Jut h0 h5 e0 e1⟩
theorem JjH {c:Cnd} {v:Nat} (h0:0≤c.arg) (h5:c.arg≤5) (h:(Jbk c v).2=0):JZ (Jbk c v).1=true∧Jaa (Jbk c v).1=((Jbk c v).1,0):=by
 unfold Jbk at h⊢
 by_cases e0:v=0
 ·rw [if_pos e0] at h;simp [isC] at h
 ·rw [if_neg e0] at h⊢
  by_cases e1:v=18446744073709551615
  ·rw [if_pos e1];exact ⟨Jdh h0 h5 (by decide) (by decide),Jkw h0 h5⟩
  ·rw [if_neg e1];exact ⟨Jdh h0 h5 (by decide) (by decide),Juu h0 h5 e0 e1⟩
theorem Jos {c:Cnd} (h:(Jaa c).2=0):JZ (Jaa c).1=true∧Jaa (Jaa c).1=((Jaa c).1,0):=by
 have hr:JZ c=true:=by
  cases hr:JZ c with
  | true=> rfl
  | false=>
    unfold Jaa at h
    rw [hr,if_neg (by decide)] at h
    simp [isC] at h
 have hrc:=Jaf.1 hr
 have e:Jaa c=Jbl c:=if_pos hr
 by_cases e3:c.op=3
 ·have e2:Jbl c=JaR c c.value:=if_pos e3
  rw [e,e2] at h⊢;exact Jin hrc.1 hrc.2.1 h
 by_cases e6:c.op=6
 ·have e2:Jbl c=Jbk c c.value:=by unfold Jbl;rw [if_neg e3,if_pos e6]
  rw [e,e2] at h⊢;exact JjH hrc.1 hrc.2.1 h
 by_cases e7:c.op=7
 ·have e2:Jbl c=Jds c:=by unfold Jbl;rw [if_neg e3,if_neg e6,if_pos e7]
  rw [e,e2] at h⊢
  unfold Jds at h⊢
  by_cases b0:JfQ c.value c.mask≠0
  ·rw [if_pos b0] at h;simp [isC] at h
  ·rw [if_neg b0] at h⊢
   by_cases b1:c.mask=0
   ·rw [if_pos b1] at h;simp [isC] at h
   ·rw [if_neg b1] at h⊢
    by_cases b2:c.mask=18446744073709551615
    ·rw [if_pos b2];exact ⟨Jdh hrc.1 hrc.2.1 (by decide) (by decide),Jkw hrc.1 hrc.2.1⟩
    ·rw [if_neg b2]
     refine ⟨hr, ?_⟩
     rw [e,e2];unfold Jds;rw [if_neg b0,if_neg b1,if_neg b2]
 by_cases e4:c.op=4
 ·by_cases v:c.value=18446744073709551615
  ·have e2:Jbl c=isC true:=by unfold Jbl;rw [if_neg e3,if_neg e6,if_neg e7,if_pos e4,if_pos v]
   rw [e,e2] at h;simp [isC] at h
  ·have e2:Jbl c=JaR c (c.value+1):=by unfold Jbl;rw [if_neg e3,if_neg e6,if_neg e7,if_pos e4,if_neg v]
   rw [e,e2] at h⊢;exact Jin hrc.1 hrc.2.1 h
 by_cases e5:c.op=5
 ·by_cases v:c.value=18446744073709551615
  ·have e2:Jbl c=isC false:=by unfold Jbl;rw [if_neg e3,if_neg e6,if_neg e7,if_neg e4,if_pos e5,if_pos v]
   rw [e,e2] at h;simp [isC] at h
  ·have e2:Jbl c=Jbk c (c.value+1):=by unfold Jbl;rw [if_neg e3,if_neg e6,if_neg e7,if_neg e4,if_pos e5,if_neg v]
   rw [e,e2] at h⊢;exact JjH hrc.1 hrc.2.1 h
 have e2:Jbl c=(c,0):=by unfold Jbl;rw [if_neg e3,if_neg e6,if_neg e7,if_neg e4,if_neg e5]
 rw [e,e2]
 exact ⟨hr,e.trans e2⟩
theorem Jqj {cs:List Cnd} {x:Cnd} (h:x∈JbK cs):JZ x=true∧JcR x=false∧JgC x=some x:=by
 unfold JbK at h
 obtain ⟨c,hc,hx⟩:=List.mem_filterMap.1 h
 unfold JgC at hx
 split at hx
 ·rename_i h0
  cases hx
  obtain ⟨h1,h2⟩:=Jos h0
  refine ⟨h1, ?_, ?_⟩
  ·unfold JcR;rw [h2];rfl
  ·unfold JgC;rw [h2];rfl
 ·cases hx
theorem Jio {r n:Rul} (h:Jbo r=some n):Jbo n=some n∧(Jaj r=true→Jaj n=true)∧((∀c∈r.conds,c.ok)→∀c∈n.conds,c.ok):=by
 have hc:=JcT h
 unfold Jbo at h
 split at h
 ·cases h
 ·cases h
  have hm:∀x,x∈JcZ (JbK r.conds)→JZ x=true∧JcR x=false∧JgC x=some x:=fun x hx=> Jqj (((Jdg _).2 x).1 hx)
  refine ⟨?_,fun hr=> ?_,fun ho x hx=> ?_⟩
  ·unfold Jbo
   dsimp only
   have e1:(JcZ (JbK r.conds)).any JcR=false:=by
    rw [List.any_eq_false]
    intro x hx;rw [(hm x hx).2.1];decide
   have e2:JbK (JcZ (JbK r.conds))=JcZ (JbK r.conds):=by
    generalize JcZ (JbK r.conds)=l at hm
    unfold JbK
    induction l with
    | nil=> rfl
    | cons x l ih=>
      rw [List.filterMap_cons,(hm x (.head _)).2.2]
      dsimp only
      rw [ih fun y hy=> hm y (.tail _ hy)]
   rw [e1,e2,JrX];rfl
  ·unfold Jaj at hr⊢
   simp only [Bool.and_eq_true,decide_eq_true_eq] at hr⊢
   refine ⟨hr.1,hr.2.1,Nat.le_trans hc.1 hr.2.2.1, ?_⟩
   rw [Bool.not_eq_true',List.any_eq_false]
   intro x hx;rw [(hm x hx).1];decide
  ·have hx2:=((Jdg _).2 x).1 hx
   unfold JbK at hx2
   obtain ⟨c,hc,hy⟩:=List.mem_filterMap.1 hx2
   unfold JgC at hy
   split at hy
   ·cases hy;exact Jnp (ho c hc)
   ·cases hy
end Go.Proofs.W

namespace Go.Proofs.W
open Go.Vl
set_option maxRecDepth 100000
def JfT (l:List Rul) (r:Rul):List Rul:=
 match Jbo r with
 | none=> l
 | some n=> if Jft l n then l else l++ [n]
def gOf (s:ByteArray) (rs:List Rul):List Rul:=rs.foldl (fun l r=> if Jab s r.name then JfT l r else l) []
theorem Jlr (s:ByteArray):Jab s s=true:=JcF.2 rfl
theorem Jhj {s t:ByteArray} {n:Rul}:∀ {H:List (ByteArray×List Rul)},Ja8 (Jc0 H t n) s=if Jab s t then Ja8 H s++ [n] else Ja8 H s
 | []=> by
   show (if Jab s t=true then [n] else [])=_
   by_cases h:Jab s t=true
   ·rw [if_pos h,if_pos h];rfl
   ·rw [if_neg h,if_neg h];rfl
 | h::H=> by
   unfold Jc0
   by_cases ht:Jab t h.1=true
   ·rw [if_pos ht]
    obtain rfl:=JcF.1 ht
    show (if Jab s h.1=true then _ else Ja8 H s)=_
    by_cases hs:Jab s h.1=true
    ·rw [if_pos hs,if_pos hs];show _=(if Jab s h.1=true then _ else _)++_;rw [if_pos hs]
    ·rw [if_neg hs,if_neg hs];show _=(if Jab s h.1=true then _ else _);rw [if_neg hs]
   ·rw [if_neg ht]
    show (if Jab s h.1=true then h.2 else Ja8 (Jc0 H t n) s)=if Jab s t=true then (if Jab s h.1=true then h.2 else Ja8 H s)++ [n] else (if Jab s h.1=true then h.2 else Ja8 H s)
    by_cases hs:Jab s h.1=true
    ·rw [if_pos hs,if_pos hs]
     have:¬Jab s t=true:=fun k=> ht (by rw [← JcF.1 k];exact hs)
     rw [if_neg this]
    ·rw [if_neg hs,if_neg hs,Jhj]
theorem Jqk {s:ByteArray} {H:List (ByteArray×List Rul)} {r:Rul}:Ja8 (JcL H r) s=if Jab s r.name then JfT (Ja8 H s) r else Ja8 H s:=by
 unfold JcL JfT
 cases hN:Jbo r with
 | none=> simp
 | some n=>
   dsimp only
   by_cases hs:Jab s r.name=true
   ·obtain rfl:=JcF.1 hs
    rw [if_pos hs]
    by_cases hh:Jft (Ja8 H r.name) n=true
    ·rw [if_pos hh,if_pos hh]
    ·rw [if_neg hh,if_neg hh,Jhj,if_pos hs]
   ·rw [if_neg hs]
    by_cases hh:Jft (Ja8 H r.name) n=true
    ·rw [if_pos hh]
    ·rw [if_neg hh,Jhj,if_neg hs]
theorem Jls {s:ByteArray}:∀(rs:List Rul) (H:List (ByteArray×List Rul)),Ja8 (rs.foldl JcL H) s=rs.foldl (fun l r=> if Jab s r.name then JfT l r else l) (Ja8 H s)
 | [],_=> rfl
 | r::rs,H=> by
   rw [List.foldl_cons,Jls rs,List.foldl_cons,Jqk]
theorem Jip (s:ByteArray) (rs:List Rul):Ja8 (Jaz rs) s=gOf s rs:=Jls rs []
theorem Jlt {t:ByteArray} {n:Rul}:∀ {H:List (ByteArray×List Rul)} {s:ByteArray},s∈(Jc0 H t n).map (·.1)↔s=t∨s∈H.map (·.1)
 | [],s=> by simp [Jc0]
 | h::H,s=> by
   unfold Jc0
   by_cases ht:Jab t h.1=true
   ·rw [if_pos ht]
    obtain rfl:=JcF.1 ht
    simp
   ·rw [if_neg ht,List.map_cons,List.mem_cons,Jlt,List.map_cons,List.mem_cons]
    constructor
    ·rintro (h | h | h)
     ·exact .inr (.inl h)
     ·exact .inl h
     ·exact .inr (.inr h)
    ·rintro (h | h | h)
     ·exact .inr (.inl h)
     ·exact .inl h
     ·exact .inr (.inr h)
theorem JjI {t:ByteArray} {n:Rul}:∀ {H:List (ByteArray×List Rul)},(H.map (·.1)).Nodup→((Jc0 H t n).map (·.1)).Nodup
 | [],_=> by simp [Jc0]
 | h::H,hn=> by
   unfold Jc0
   by_cases ht:Jab t h.1=true
   ·rw [if_pos ht];exact hn
   ·rw [if_neg ht]
    rw [List.map_cons,List.nodup_cons] at hn⊢
    refine ⟨fun hm=> ?_,JjI hn.2⟩
    rcases Jlt.1 hm with e | e
    ·exact ht (by rw [← e];exact Jlr _)
    ·exact hn.1 e
theorem Jot {H:List (ByteArray×List Rul)} {r:Rul} (h:(H.map (·.1)).Nodup):((JcL H r).map (·.1)).Nodup:=by
 unfold JcL
 cases Jbo r with
 | none=> exact h
 | some n=>
   dsimp only
   split
   ·exact h
   ·exact JjI h
theorem Jhk (rs:List Rul):((Jaz rs).map (·.1)).Nodup:=by
 have key:∀(rs:List Rul) (H:List (ByteArray×List Rul)),(H.map (·.1)).Nodup→((rs.foldl JcL H).map (·.1)).Nodup:=by
  intro rs
  induction rs with
  | nil=> intro H h;exact h
  | cons r rs ih=> intro H h;exact ih _ (Jot h)
 exact key rs [] List.nodup_nil
def RS (a b:List UInt8):Prop:=Go.Sort.ltStr a b=true
theorem Jvs (x:List UInt8):¬RS x x:=by unfold RS;rw [Go.Sort.swo_ltStr.irrefl];decide
theorem Jv5 (x y z:List UInt8) (h:RS x y) (k:RS y z):RS x z:=Go.Sort.swo_ltStr.trans x y z h k
theorem Jnq {s t:ByteArray} (h:s.data.toList=t.data.toList):s=t:=by
 obtain ⟨⟨a⟩⟩:=s;obtain ⟨⟨b⟩⟩:=t;simpa using h
theorem Jou {H:List (ByteArray×List Rul)} (hn:(H.map (·.1)).Nodup):(JeO H).Pairwise RS:=by
 have h1:=JeA Go.Sort.swo_ltStr (H.map fun h=> h.1.data.toList)
 have h2:(JeO H).Nodup:=by
  refine (List.mergeSort_perm _ _).nodup_iff.2 ?_
  have:(H.map fun h=> h.1.data.toList)=(H.map (·.1)).map (fun s:ByteArray=> s.data.toList):=by rw [List.map_map];rfl
  rw [this]
  exact List.pairwise_map.2 (hn.imp fun h e=> h (Jnq e))
 refine (h1.and h2).imp fun {a b} h=> ?_
 unfold RS
 cases hl:Go.Sort.ltStr a b with
 | true=> rfl
 | false=> exact absurd (Jhg _ _ hl h.1) h.2
theorem Jql (s:ByteArray) (rs:List Rul):gOf s rs=(rs.filter fun r=> Jab s r.name).foldl JfT []:=by
 unfold gOf
 have key:∀(rs:List Rul) (l:List Rul),rs.foldl (fun l r=> if Jab s r.name then JfT l r else l) l=(rs.filter fun r=> Jab s r.name).foldl JfT l:=by
  intro rs
  induction rs with
  | nil=> intro l;rfl
  | cons r rs ih=>
    intro l
    rw [List.foldl_cons,ih,List.filter_cons]
    by_cases h:Jab s r.name=true
    ·rw [if_pos h,if_pos h];rfl
    ·rw [if_neg h,if_neg h]
 exact key rs []
theorem JjJ (d:A2) (l:List Rul):∃t,l=Jdf d l++t:=by
 unfold Jdf
 refine ⟨(l.reverse.takeWhile fun r=> decide (r.act=d)).reverse, ?_⟩
 rw [← List.reverse_append,List.takeWhile_append_dropWhile,List.reverse_reverse]
theorem Juv (d:A2) (l:List Rul):(Jdf d l).length≤l.length:=by
 obtain ⟨t,h⟩:=JjJ d l
 have:=congrArg List.length h
 rw [List.length_append] at this
 omega
theorem Jtq {l:List Rul} {r n:Rul} (h:n∈JfT l r):n∈l∨Jbo r=some n:=by
 unfold JfT at h
 cases hN:Jbo r with
 | none=> rw [hN] at h;exact .inl h
 | some m=>
   rw [hN] at h
   dsimp only at h
   split at h
   ·exact .inl h
   ·rcases List.mem_append.1 h with h | h
    ·exact .inl h
    ·rw [List.mem_singleton.1 h];exact .inr rfl
theorem Jnr:∀(rs l:List Rul) {n:Rul},n∈rs.foldl JfT l→n∈l∨∃r∈rs,Jbo r=some n
 | [],_,_,h=> .inl h
 | r::rs,l,n,h=> by
   rcases Jnr rs _ h with h | ⟨x,hx,h⟩
   ·rcases Jtq h with h | h
    ·exact .inl h
    ·exact .inr ⟨r, .head _,h⟩
   ·exact .inr ⟨x, .tail _ hx,h⟩
theorem Jo2 {s:ByteArray} {rs:List Rul} {n:Rul} (h:n∈gOf s rs):n.name=s∧∃r∈rs,Jbo r=some n:=by
 rw [Jql] at h
 rcases Jnr _ _ h with h | ⟨r,hr,h⟩
 ·cases h
 ·obtain ⟨h1,h2⟩:=List.mem_filter.1 hr
  exact ⟨(JcT h).2.1.trans (JcF.1 h2).symm,r,h1,h⟩
theorem Jns {d:A2} {l:List Rul} {x:Rul} (h:x∈Jdf d l):x∈l:=by
 obtain ⟨t,ht⟩:=JjJ d l
 rw [ht];exact List.mem_append_left _ h
theorem Jo3 {d:A2} {rs:List Rul} {N:List (List UInt8)} {n:Rul} (h:n∈JgD d (Jaz rs) N):∃r∈rs,Jbo r=some n:=by
 unfold JgD at h
 obtain ⟨z,hz,h⟩:=List.mem_flatMap.1 h
 have:=Jns h
 rw [Jip] at this
 exact (Jo2 this).2
def Jfu (H:List (ByteArray×List Rul)):Nat:=(H.map fun h=> h.2.length).sum
theorem Jnt {t:ByteArray} {n:Rul}:∀H:List (ByteArray×List Rul),Jfu (Jc0 H t n)=Jfu H+1
 | []=> rfl
 | h::H=> by
   unfold Jc0
   by_cases ht:Jab t h.1=true
   ·rw [if_pos ht];unfold Jfu;simp;omega
   ·rw [if_neg ht]
    have:=Jnt (t:=t) (n:=n) H
    unfold Jfu at this⊢
    rw [List.map_cons,List.sum_cons,this,List.map_cons,List.sum_cons];omega
theorem JrY {H:List (ByteArray×List Rul)} {r:Rul}:Jfu (JcL H r)≤Jfu H+1:=by
 unfold JcL
 cases Jbo r with
 | none=> exact Nat.le_succ _
 | some n=>
   dsimp only
   split
   ·exact Nat.le_succ _
   ·rw [Jnt];exact Nat.le_refl _
theorem Jqm (rs:List Rul):Jfu (Jaz rs)≤rs.length:=by
 have key:∀(rs:List Rul) (H:List (ByteArray×List Rul)),Jfu (rs.foldl JcL H)≤Jfu H+rs.length:=by
  intro rs
  induction rs with
  | nil=> intro H;exact Nat.le_refl _
  | cons r rs ih=>
    intro H
    have h1:=ih (JcL H r)
    have h2:=JrY (H:=H) (r:=r)
    rw [List.foldl_cons,List.length_cons];omega
 have:=key rs []
 rw [show Jfu []=0 from rfl,Nat.zero_add] at this
 exact this
theorem Jnu:∀ {H:List (ByteArray×List Rul)},(H.map (·.1)).Nodup→∀h∈H,Ja8 H h.1=h.2
 | [],_,_,hm=> by cases hm
 | g::H,hn,h,hm=> by
   rw [List.map_cons,List.nodup_cons] at hn
   rcases List.mem_cons.1 hm with rfl | hm
   ·exact if_pos (Jlr _)
   ·have:¬Jab h.1 g.1=true:=fun hk=> hn.1 (by rw [← JcF.1 hk];exact List.mem_map_of_mem hm)
    show (if Jab h.1 g.1=true then g.2 else Ja8 H h.1)=_
    rw [if_neg this];exact Jnu hn.2 h hm
theorem Juw (d:A2) (rs:List Rul):(JgD d (Jaz rs) (JeO (Jaz rs))).length≤rs.length:=by
 refine Nat.le_trans ?_ (Jqm rs)
 have hn:=Jhk rs
 generalize Jaz rs=H at hn
 unfold JgD
 have hp:(JeO H).Perm (H.map fun h=> h.1.data.toList):=List.mergeSort_perm _ _
 rw [List.length_flatMap,(hp.map _).sum_nat,List.map_map]
 unfold Jfu
 have e:∀h∈H,((fun a:List UInt8=> (Jdf d (Ja8 H ⟨a.toArray⟩)).length)∘fun h:ByteArray×List Rul=> h.1.data.toList) h≤h.2.length:=fun h hh=> by
  show (Jdf d (Ja8 H ⟨h.1.data.toList.toArray⟩)).length≤_
  have es:(⟨h.1.data.toList.toArray⟩:ByteArray)=h.1:=by obtain ⟨⟨⟨a⟩⟩,b⟩:=h;rfl
  rw [es,Jnu hn h hh]
  exact Juv d h.2
 clear hp hn
 generalize (fun a:List UInt8=> (Jdf d (Ja8 H ⟨a.toArray⟩)).length)∘(fun h:ByteArray×List Rul=> h.1.data.toList)=f at e
 induction H with
 | nil=> simp
 | cons h H ih=>
   rw [List.map_cons,List.sum_cons,List.map_cons,List.sum_cons]
   have h1:=e h (.head _)
   have h2:=ih fun x hx=> e x (.tail _ hx)
   omega
theorem Jqn {p:Pol} (h:Jbm p=true):Jbm (Jc p)=true:=by
 unfold Jbm at h⊢
 simp only [Bool.and_eq_true,decide_eq_true_eq,Bool.not_eq_true',List.any_eq_false] at h⊢
 have hl:=Juw p.dflt p.rules
 refine ⟨h.1,Nat.le_trans hl h.2.1,fun n hn=> ?_⟩
 obtain ⟨r,hr,hN⟩:=Jo3 hn
 have h2:=h.2.2 r hr
 have:Jaj r=true:=by simpa using h2
 rw [(Jio hN).2.1 this];decide
end Go.Proofs.W

namespace Go.Proofs.W
open Go.Vl
set_option maxRecDepth 100000
def nmL (s:ByteArray):List UInt8:=s.data.toList
def JhS (r:Rul):List (ByteArray×List Rul)→List (ByteArray×List Rul)
 | (s,L)::t=> if kS s r.name then (s,r::L)::t else (r.name, [r])::(s,L)::t
 | []=> [(r.name, [r])]
def JT (l:List Rul):List (ByteArray×List Rul):=l.foldr JhS []
def JrZ (l:List Rul):Prop:=l.Pairwise fun a b=> Go.Sort.ltStr (nmL b.name) (nmL a.name)=false
structure GOk (l:List Rul) (gs:List (ByteArray×List Rul)):Prop where
 up:gs.Pairwise fun a b=> Go.Sort.ltStr (nmL a.1) (nmL b.1)=true
 rows:∀g∈gs,g.2=l.filter (fun r=> kS r.name g.1)∧g.2≠ []
 all:∀r∈l,∃g∈gs,g.1=r.name
theorem Jlu (s t:ByteArray):kS s t=kS t s:=by
 rw [Bool.eq_iff_iff,Jbw,Jbw]
 exact ⟨Eq.symm,Eq.symm⟩
theorem JgE (s:List UInt8):Go.Sort.ltStr s s=false:=Go.Sort.swo_ltStr.irrefl s
theorem Jv6 {s t:ByteArray} (h:Go.Sort.ltStr (nmL t) (nmL s)=false) (hne:s≠t):Go.Sort.ltStr (nmL s) (nmL t)=true:=by
 cases hl:Go.Sort.ltStr (nmL s) (nmL t) with
 | true=> rfl
 | false=> exact absurd (Jnq (Jrv _ _ hl h)) hne
theorem Jhl:∀ {l:List Rul},JrZ l→GOk l (JT l)
 | [],_=> ⟨List.Pairwise.nil,fun g hg=> (by cases hg),fun r hr=> (by cases hr)⟩
 | r::l,h=> by
   obtain ⟨h1,h2⟩:=List.pairwise_cons.1 h
   have ih:=Jhl h2
   unfold JT at ih⊢
   rw [List.foldr_cons]
   generalize l.foldr JhS []=gs at ih
   have hrow:∀g∈gs,g.1≠r.name→g.2=(r::l).filter (fun q=> kS q.name g.1)∧g.2≠ []:=fun g hg hne=> by
    obtain ⟨k1,k2⟩:=ih.rows g hg
    refine ⟨?_,k2⟩
    rw [List.filter_cons,if_neg (by rw [Jlu];exact fun e=> hne (Jbw.1 e))]
    exact k1
   have hge:∀g∈gs,Go.Sort.ltStr (nmL g.1) (nmL r.name)=false:=fun g hg=> by
    obtain ⟨k1,k2⟩:=ih.rows g hg
    obtain ⟨q,hq⟩:=List.exists_mem_of_ne_nil _ k2
    rw [k1] at hq
    obtain ⟨q1,q2⟩:=List.mem_filter.1 hq
    rw [← Jbw.1 q2]
    exact h1 q q1
   cases gs with
   | nil=>
     have hl:l= []:=List.eq_nil_iff_forall_not_mem.2 fun q hq=> by obtain ⟨g,hg,_⟩:=ih.all q hq;cases hg
     subst hl
     refine ⟨List.pairwise_singleton _ _,fun g hg=> ?_,fun q hq=> ?_⟩
     ·rw [List.mem_singleton.1 hg]
      refine ⟨?_,List.cons_ne_nil _ _⟩
      rw [List.filter_cons,if_pos (Jbw.2 rfl)]
      rfl
     ·exact ⟨_, .head _,by rw [List.mem_singleton.1 hq]⟩
   | cons g t=>
     obtain ⟨s,L⟩:=g
     show GOk (r::l) (if kS s r.name then (s,r::L)::t else (r.name, [r])::(s,L)::t)
     obtain ⟨u1,u2⟩:=List.pairwise_cons.1 ih.up
     by_cases hs:kS s r.name=true
     ·rw [if_pos hs]
      have es:s=r.name:=Jbw.1 hs
      refine ⟨List.pairwise_cons.2 ⟨u1,u2⟩,fun g hg=> ?_,fun q hq=> ?_⟩
      ·rcases List.mem_cons.1 hg with rfl | hg
       ·refine ⟨?_,List.cons_ne_nil _ _⟩
        have:=(ih.rows (s,L) (.head _)).1
        rw [List.filter_cons,if_pos (by rw [Jlu];exact hs)]
        exact congrArg _ this
       ·refine hrow g (.tail _ hg) fun e=> ?_
        have:=u1 g hg
        rw [e,← es,JgE] at this
        cases this
      ·rcases List.mem_cons.1 hq with rfl | hq
       ·exact ⟨_, .head _,es⟩
       ·obtain ⟨g,hg,e⟩:=ih.all q hq
        rcases List.mem_cons.1 hg with rfl | hg
        ·exact ⟨_, .head _,e⟩
        ·exact ⟨g, .tail _ hg,e⟩
     ·rw [if_neg hs]
      have hne:s≠r.name:=fun e=> hs (Jbw.2 e)
      have hlt:∀g∈(s,L)::t,Go.Sort.ltStr (nmL r.name) (nmL g.1)=true:=fun g hg=> by
       have hs0:=Jv6 (hge (s,L) (.head _)) hne.symm
       rcases List.mem_cons.1 hg with rfl | hg
       ·exact hs0
       ·exact Go.Sort.swo_ltStr.trans _ _ _ hs0 (u1 g hg)
      have hno:∀g∈(s,L)::t,g.1≠r.name:=fun g hg e=> by
       have:=hlt g hg
       rw [e,JgE] at this
       cases this
      refine ⟨List.pairwise_cons.2 ⟨hlt,ih.up⟩,fun g hg=> ?_,fun q hq=> ?_⟩
      ·rcases List.mem_cons.1 hg with rfl | hg
       ·refine ⟨?_,List.cons_ne_nil _ _⟩
        rw [List.filter_cons,if_pos (Jbw.2 rfl)]
        refine congrArg _ (List.filter_eq_nil_iff.2 fun q hq e=> ?_).symm
        obtain ⟨g,hg,e2⟩:=ih.all q hq
        exact hno g hg (e2.trans (Jbw.1 e))
       ·exact hrow g hg (hno g hg)
      ·rcases List.mem_cons.1 hq with rfl | hq
       ·exact ⟨_, .head _,rfl⟩
       ·obtain ⟨g,hg,e⟩:=ih.all q hq
        exact ⟨g, .tail _ hg,e⟩
end Go.Proofs.W

namespace Go.Proofs.W
open Go.Vl
set_option maxRecDepth 100000
def J9 (r:Rul):PRul:=⟨r.conds,Ju r.act⟩
theorem Jov (m:Rul) (M:List Rul):∃L t,JT (m::M)=(m.name,L)::t:=by
 show ∃L t,JhS m (JT M)=(m.name,L)::t
 cases JT M with
 | nil=> exact ⟨_,_,rfl⟩
 | cons g t=>
   obtain ⟨s,L⟩:=g
   show ∃L' t',(if kS s m.name then (s,m::L)::t else (m.name, [m])::(s,L)::t)=(m.name,L')::t'
   by_cases h:kS s m.name=true
   ·rw [if_pos h,Jbw.1 h];exact ⟨_,_,rfl⟩
   ·rw [if_neg h];exact ⟨_,_,rfl⟩
def Jtr (s:ByteArray) (M:List Rul):Prop:=∀m∈M.head?,m.name≠s
theorem JjK {s:ByteArray} {M:List Rul} (hM:Jtr s M):∀ {L:List Rul},L≠ []→(∀r∈L,r.name=s)→JT (L++M)=(s,L)::JT M
 | [],h,_=> absurd rfl h
 | [r],_,h=> by
   show JhS r (JT M)=_
   have hr:=h r (.head _)
   cases M with
   | nil=> rw [← hr];rfl
   | cons m M=>
     obtain ⟨L,t,e⟩:=Jov m M
     rw [e]
     show (if kS m.name r.name then _ else _)=_
     rw [if_neg (fun k=> hM m (by simp) ((Jbw.1 k).trans hr)),hr]
 | r::q::L,_,h=> by
   have ih:=JjK hM (L:=q::L) (by simp) fun x hx=> h x (.tail _ hx)
   show JhS r (JT (q::L++M))=_
   rw [ih]
   show (if kS s r.name then _ else _)=_
   rw [if_pos (Jbw.2 (h r (.head _)).symm)]
def Jaq (a:Nat) (n:Int):Nat:=if a=1 then n.toNat||| 1073741824 else n.toNat
def Jas (a d:Nat) (x:Bool) (row:TRow) (rs:List PRul):List PEnt:=
 if row.num a < 0∨(a=1∧x=false)∨JaH a rs d= [] then [] else [⟨Jaq a (row.num a),JaH a rs d⟩]
def Jb9 (m:Nat) (row:TRow) (rs:List PRul):List PSub:=if row.mux=(m:Int)+1 then [⟨row.sub.toNat,(rs.getD 0 ⟨[],0⟩).code⟩] else []
def JbH (p:Pol) (l:List TRow) (gs:List (ByteArray×List Rul)) (a:Nat):List PEnt:=gs.flatMap fun g=> Jas a (Ju p.dflt) p.x32 (JaP l g.1) (g.2.map J9)
def JcM (l:List TRow) (gs:List (ByteArray×List Rul)) (m:Nat):List PSub:=gs.flatMap fun g=> Jb9 m (JaP l g.1) (g.2.map J9)
theorem Jqo (p:Pol) (l:List TRow) (gs:List (ByteArray×List Rul)) (g:ByteArray×List Rul) (a:Nat):JbH p l (gs++ [g]) a=JbH p l gs a++Jas a (Ju p.dflt) p.x32 (JaP l g.1) (g.2.map J9):=by
 unfold JbH;rw [List.flatMap_append];simp
theorem Jqp (l:List TRow) (gs:List (ByteArray×List Rul)) (g:ByteArray×List Rul) (m:Nat):JcM l (gs++ [g]) m=JcM l gs m++Jb9 m (JaP l g.1) (g.2.map J9):=by
 unfold JcM;rw [List.flatMap_append];simp
def JbN (s:ByteArray) (l:List Rul):List Rul:=l.takeWhile fun r=> kS r.name s
theorem Jlv (s:ByteArray):∀(l:List Rul),∀r∈JbN s l,r.name=s
 | [],r,hr=> by cases hr
 | q::l,r,hr=> by
   unfold JbN at hr
   rw [List.takeWhile_cons] at hr
   by_cases h:kS q.name s=true
   ·rw [if_pos h] at hr
    rcases List.mem_cons.1 hr with rfl | hr
    ·exact Jbw.1 h
    ·exact Jlv s l r hr
   ·rw [if_neg h] at hr;cases hr
theorem Jts (s:ByteArray) (l:List Rul):Jtr s (l.drop (JbN s l).length):=by
 unfold JbN Jtr
 induction l with
 | nil=> intro m hm;simp at hm
 | cons r l ih=>
   rw [List.takeWhile_cons]
   by_cases h:kS r.name s=true
   ·rw [if_pos h];simpa using ih
   ·rw [if_neg h]
    intro m hm
    obtain rfl:r=m:=by simpa using hm
    exact fun e=> h (Jbw.2 e)
end Go.Proofs.W

namespace Go.Proofs.W
open Go.Vl
set_option maxRecDepth 100000
theorem JfU {α:Type} {key:α→Nat}:∀ {l m:List α},l.Perm m→l.Pairwise (fun a b=> key a≤key b)→m.Pairwise (fun a b=> key a≤key b)→(l.map key).Nodup→l=m
 | [],m,hp,_,_,_=> (List.nil_perm.1 hp).symm
 | a::l, [],hp,_,_,_=> by cases hp.length_eq
 | a::l,b::m,hp,h1,h2,hn=> by
   obtain ⟨a1,a2⟩:=List.pairwise_cons.1 h1
   obtain ⟨b1,b2⟩:=List.pairwise_cons.1 h2
   have hb:b∈a::l:=hp.mem_iff.2 (.head _)
   have ha:a∈b::m:=hp.mem_iff.1 (.head _)
   have e:a=b:=by
    rcases List.mem_cons.1 hb with h | h
    ·exact h.symm
    ·rcases List.mem_cons.1 ha with k | k
     ·exact k
     ·have:=a1 b h
      have:=b1 a k
      have hk:key a=key b:=by omega
      rw [List.map_cons,List.nodup_cons] at hn
      exact absurd (hk ▸ List.mem_map_of_mem h) hn.1
   subst e
   rw [JfU ((List.perm_cons a).1 hp) a2 b2 (List.nodup_cons.1 hn).2]
def JeB (l:List PEnt):List PEnt:=l.mergeSort fun a b=> decide (a.num≤b.num)
def JhT (l:List PSub):List PSub:=l.mergeSort fun a b=> decide (a.num≤b.num)
theorem Jqq (l:List PEnt):(JeB l).Perm l:=List.mergeSort_perm _ _
theorem Jqr (l:List PSub):(JhT l).Perm l:=List.mergeSort_perm _ _
theorem Jtt (l:List PEnt):(JeB l).Pairwise fun a b=> a.num≤b.num:=
 (List.pairwise_mergeSort (le:=fun a b:PEnt=> decide (a.num≤b.num)) (fun a b c h1 h2=> decide_eq_true (Nat.le_trans (of_decide_eq_true h1) (of_decide_eq_true h2))) (fun a b=> by simpa using Nat.le_total a.num b.num) l).imp fun h=> of_decide_eq_true h
theorem Jtu (l:List PSub):(JhT l).Pairwise fun a b=> a.num≤b.num:=
 (List.pairwise_mergeSort (le:=fun a b:PSub=> decide (a.num≤b.num)) (fun a b c h1 h2=> decide_eq_true (Nat.le_trans (of_decide_eq_true h1) (of_decide_eq_true h2))) (fun a b=> by simpa using Nat.le_total a.num b.num) l).imp fun h=> of_decide_eq_true h
theorem Jux {l:List TRow} (h:(JbU l).2=0) {a i j:Nat} (ha:a < 5) (hi:i < l.length) (hj:j < l.length) (h0:0≤(l.getD i Ji).num a) (e:(l.getD j Ji).num a=(l.getD i Ji).num a):i=j:=by
 have key:∀i j,i < l.length→j < i→0≤(l.getD i Ji).num a→(l.getD j Ji).num a=(l.getD i Ji).num a→False:=fun i j hi hji h0 e=> by
  have hc:=(Jfs ((Jd8 h).2 i hi)).2.2.2.2.2
  unfold JcE at hc
  rw [List.any_eq_false] at hc
  have:=hc (l.getD j Ji) (by
   rw [show l.getD j Ji=(l.take i)[j]'(by rw [List.length_take];omega) by simp [List.getD,show j < l.length by omega]]
   exact List.getElem_mem _)
  apply this
  rw [Bool.or_eq_true]
  left
  unfold Jf7
  refine List.any_eq_true.2 ⟨a, ?_, ?_⟩
  ·rcases (by omega:a=0∨a=1∨a=2∨a=3∨a=4) with rfl | rfl | rfl | rfl | rfl <;> simp
  ·rw [decide_eq_true h0,decide_eq_true e];rfl
 rcases Nat.lt_trichotomy i j with q | q | q
 ·exact (key j i hj q (by rw [e];exact h0) e.symm).elim
 ·exact q
 ·exact (key i j hi q h0 e).elim
theorem Juy {l:List TRow} (h:(JbU l).2=0) {i j:Nat} (hi:i < l.length) (hj:j < l.length) (h0:0 < (l.getD i Ji).mux) (e:(l.getD j Ji).mux=(l.getD i Ji).mux) (e2:(l.getD j Ji).sub=(l.getD i Ji).sub):i=j:=by
 have key:∀i j,i < l.length→j < i→0 < (l.getD i Ji).mux→(l.getD j Ji).mux=(l.getD i Ji).mux→(l.getD j Ji).sub=(l.getD i Ji).sub→False:=fun i j hi hji h0 e e2=> by
  have hc:=(Jfs ((Jd8 h).2 i hi)).2.2.2.2.2
  unfold JcE at hc
  rw [List.any_eq_false] at hc
  have:=hc (l.getD j Ji) (by
   rw [show l.getD j Ji=(l.take i)[j]'(by rw [List.length_take];omega) by simp [List.getD,show j < l.length by omega]]
   exact List.getElem_mem _)
  apply this
  rw [Bool.or_eq_true]
  right
  unfold Jhe
  rw [decide_eq_true h0,decide_eq_true e,decide_eq_true e2];rfl
 rcases Nat.lt_trichotomy i j with q | q | q
 ·exact (key j i hj q (by rw [e];exact h0) e.symm e2.symm).elim
 ·exact q
 ·exact (key i j hi q h0 e e2).elim
end Go.Proofs.W

namespace Go.Proofs.W
open Go.Vl
set_option maxRecDepth 100000
theorem JjL {a:Nat} {z:Int} (h0:0≤z) (h1:z < 1073741824):Jaq a z=if a=1 then z.toNat+1073741824 else z.toNat:=by
 unfold Jaq
 split
 ·have h:z.toNat < 2 ^ 30:=by omega
  have:=Nat.two_pow_add_eq_or_of_lt h 1
  rw [Nat.mul_one] at this
  rw [Nat.or_comm,show (1073741824:Nat)=2 ^ 30 by decide,← this];omega
 ·rfl
theorem Jhm {l:List TRow} (h:(JbU l).2=0) {i a:Nat} (hi:i < l.length):(l.getD i Ji).num a < 1073741824∧-1≤(l.getD i Ji).num a:=by
 have:=(Jfs ((Jd8 h).2 i hi)).2.2.1
 generalize l.getD i Ji=r at this
 unfold JeV at this
 rw [List.any_eq_false] at this
 have hb:∀n∈ [r.a0,r.a1,r.a2,r.a3,r.a4],n < 1073741824∧-1≤n:=fun n hn=> by
  have:=this n hn
  unfold JdP at this
  simp only [Bool.or_eq_true,decide_eq_true_eq,not_or] at this
  omega
 match a with
 | 0=> exact hb r.a0 (by simp)
 | 1=> exact hb r.a1 (by simp)
 | 2=> exact hb r.a2 (by simp)
 | 3=> exact hb r.a3 (by simp)
 | a+4=> exact hb r.a4 (by simp)
theorem Jkx {l:List TRow} (h:(JbU l).2=0) {i:Nat} (hi:i < l.length):((l.getD i Ji).mux=0∨(l.getD i Ji).mux=1∨(l.getD i Ji).mux=2)∧0≤(l.getD i Ji).sub∧(l.getD i Ji).sub≤255:=by
 have:=(Jfs ((Jd8 h).2 i hi)).2.2.2.1
 unfold Jfr at this
 simp only [Bool.or_eq_false_iff,Bool.and_eq_false_iff,decide_eq_false_iff_not] at this
 omega
def Jnv (l:List TRow) (s:ByteArray):Prop:=∃i,i < l.length∧JaP l s=l.getD i Ji∧(l.getD i Ji).name=s
theorem Jlw {a d:Nat} {x:Bool} {row:TRow} {rs:List PRul} {e:PEnt} (h:e∈Jas a d x row rs):¬row.num a < 0∧e.num=Jaq a (row.num a):=by
 unfold Jas at h
 split at h
 ·cases h
 ·rename_i q
  rw [List.mem_singleton.1 h]
  exact ⟨fun k=> q (.inl k),rfl⟩
theorem Jlx {m:Nat} {row:TRow} {rs:List PRul} {e:PSub} (h:e∈Jb9 m row rs):row.mux=(m:Int)+1∧e.num=row.sub.toNat:=by
 unfold Jb9 at h
 split at h
 ·rename_i q
  rw [List.mem_singleton.1 h]
  exact ⟨q,rfl⟩
 ·cases h
theorem Jr0 {a d:Nat} {x:Bool} {row:TRow} {rs:List PRul}:((Jas a d x row rs).map (·.num)).Nodup:=by
 unfold Jas
 split
 ·exact List.nodup_nil
 ·simp
theorem Jr1 {m:Nat} {row:TRow} {rs:List PRul}:((Jb9 m row rs).map (·.num)).Nodup:=by
 unfold Jb9
 split
 ·simp
 ·exact List.nodup_nil
theorem JjM {p:Pol} {l:List TRow} (ht:(JbU l).2=0) {a:Nat} (ha:a < 5):∀ {gs:List (ByteArray×List Rul)},(gs.Pairwise fun x y=> x.1≠y.1)→(∀g∈gs,Jnv l g.1)→((JbH p l gs a).map (·.num)).Nodup
 | [],_,_=> List.nodup_nil
 | g::gs,h1,h2=> by
   obtain ⟨q1,q2⟩:=List.pairwise_cons.1 h1
   have ih:=JjM (p:=p) ht ha q2 fun g hg=> h2 g (.tail _ hg)
   show (((Jas a (Ju p.dflt) p.x32 (JaP l g.1) (g.2.map J9))++JbH p l gs a).map (·.num)).Nodup
   rw [List.map_append,List.nodup_append]
   refine ⟨Jr0,ih,fun n hn n' hn'=> ?_⟩
   rintro rfl
   obtain ⟨e,he,rfl⟩:=List.mem_map.1 hn
   obtain ⟨e',he',hee⟩:=List.mem_map.1 hn'
   unfold JbH at he'
   obtain ⟨g',hg',he'⟩:=List.mem_flatMap.1 he'
   obtain ⟨i,hi,r1,n1⟩:=h2 g (.head _)
   obtain ⟨j,hj,r2,n2⟩:=h2 g' (.tail _ hg')
   obtain ⟨k1,k2⟩:=Jlw he
   obtain ⟨k3,k4⟩:=Jlw he'
   rw [r1] at k1 k2
   rw [r2] at k3 k4
   have b1:=Jhm ht (a:=a) hi
   have b2:=Jhm ht (a:=a) hj
   rw [k2,k4,JjL (by omega) b2.1,JjL (by omega) b1.1] at hee
   have hnum:(l.getD j Ji).num a=(l.getD i Ji).num a:=by
    split at hee <;> omega
   have:=Jux ht ha hi hj (by omega) hnum
   subst this
   exact q1 g' hg' (n1.symm.trans n2)
theorem JjN {l:List TRow} (ht:(JbU l).2=0) {m:Nat}:∀ {gs:List (ByteArray×List Rul)},(gs.Pairwise fun x y=> x.1≠y.1)→(∀g∈gs,Jnv l g.1)→((JcM l gs m).map (·.num)).Nodup
 | [],_,_=> List.nodup_nil
 | g::gs,h1,h2=> by
   obtain ⟨q1,q2⟩:=List.pairwise_cons.1 h1
   have ih:=JjN ht (m:=m) q2 fun g hg=> h2 g (.tail _ hg)
   show (((Jb9 m (JaP l g.1) (g.2.map J9))++JcM l gs m).map (·.num)).Nodup
   rw [List.map_append,List.nodup_append]
   refine ⟨Jr1,ih,fun n hn n' hn'=> ?_⟩
   rintro rfl
   obtain ⟨e,he,rfl⟩:=List.mem_map.1 hn
   obtain ⟨e',he',hee⟩:=List.mem_map.1 hn'
   unfold JcM at he'
   obtain ⟨g',hg',he'⟩:=List.mem_flatMap.1 he'
   obtain ⟨i,hi,r1,n1⟩:=h2 g (.head _)
   obtain ⟨j,hj,r2,n2⟩:=h2 g' (.tail _ hg')
   obtain ⟨k1,k2⟩:=Jlx he
   obtain ⟨k3,k4⟩:=Jlx he'
   rw [r1] at k1 k2
   rw [r2] at k3 k4
   have b1:=Jkx ht hi
   have b2:=Jkx ht hj
   have:=Juy ht hi hj (by omega) (by omega) (by omega)
   subst this
   exact q1 g' hg' (n1.symm.trans n2)
end Go.Proofs.W

namespace Go.Proofs
open Go.Shelf
shelf_lay LaysM.n171 Nm 171 at Tryz as Tryz.laysM171
end Go.Proofs
namespace Go.Proofs.W
open Go.Vl Go.Shelf Go.RowKit
set_option maxRecDepth 100000
theorem Jo4 {w : World} (h : Kn w none2) : Lib.TabIs Tryz.prog w "internal/strconv.uint64pow10" .u64 Lib.pow10Tab := by
 obtain ⟨⟨e,fz,h1⟩,_⟩:=h (1,(Go.Lib.pow10Tab.map fun z=> Value.int .u64 z).toArray) (by unfold Jsv;exact List.mem_cons_self)
 unfold Lib.TabIs World.var?
 rw [show Tryz.prog.globalNamed "internal/strconv.uint64pow10" = some 1 from by kernel_rfl]
 simp only [Option.bind_some]
 rw [h1]
theorem Jr2 {W : World} (h : Lib.TabIs Tryz.prog W "internal/strconv.uint64pow10" .u64 Lib.pow10Tab) : Kn W none2 := by
 unfold Lib.TabIs World.var? at h
 rw [show Tryz.prog.globalNamed "internal/strconv.uint64pow10" = some 1 from by kernel_rfl, Option.bind_some] at h
 intro p hp
 unfold Jsv at hp
 obtain rfl:=List.mem_singleton.1 hp
 refine ⟨?_,fun _ h=> h⟩
 split at h
 ·rename_i cs e fz hb
  cases h
  exact ⟨_,_,hb⟩
 ·cases h
theorem Jiq (w:World):∀n,Below w.heap.size w (w.drewN n)
 | 0=> Below.refl _ _
 | n+1=> (Jiq w n).drew
theorem Jow (w:World) (k:Nat) (os:Array Obj):Below w.heap.size w (Sort.grow (w.drewN k) os):=by
 have h:=Jiq w k
 refine ⟨h.os,h.tape,h.output,Nat.le_trans h.size (by simp [Sort.grow]),fun j hj=> ?_⟩
 rw [Sort.heap_grow_old _ _ (Nat.lt_of_lt_of_le hj h.size)]
 exact h.block j hj
def Jc1 (n:Nat):ByteArray:=⟨(Lib.decDigits n).toArray⟩
theorem Jtv (n:Nat):Lib.itoa (n:Int)=Lib.decDigits n:=by
 unfold Lib.itoa
 rw [if_neg (by omega)]
 rfl
theorem Jr3 (n:Nat) (hn:n≤9223372036854775807):Tells Tryz.prog 173 [int n] (Jf (Jc1 n)):=
 Jc4 (vs:= [.int .i64 n]) ⟨_,Tryz.func173,rfl,rfl⟩ fun w hk=> (Any.strconv_Itoa Tryz.laysM171 n (by omega) (by omega) w (Jo4 hk)).mono fun e w' ⟨h1,k,os,h2⟩=> ⟨by rw [h1,Jtv];rfl,by rw [h2];exact Jow w k os⟩
end Go.Proofs.W

namespace Go.Proofs.W
open Go.Vl
set_option maxRecDepth 100000
abbrev Bts:=List UInt8
theorem JdQ {x:UInt8}:∀ {a b r s:Bts},x∉a→x∉b→a++x::r=b++x::s→a=b∧r=s
 | [], [],r,s,_,_,h=> ⟨rfl,(List.cons.inj h).2⟩
 | [],y::b,r,s,_,hb,h=> absurd (List.mem_cons.2 (.inl (List.cons.inj h).1)) hb
 | y::a, [],r,s,ha,_,h=> absurd (List.mem_cons.2 (.inl (List.cons.inj h).1.symm)) ha
 | y::a,z::b,r,s,ha,hb,h=> by
   obtain ⟨h1,h2⟩:=List.cons.inj h
   obtain ⟨h3,h4⟩:=JdQ (fun q=> ha (List.mem_cons_of_mem _ q)) (fun q=> hb (List.mem_cons_of_mem _ q)) h2
   exact ⟨by rw [h1,h3],h4⟩
def Jvt (l:Bts):Nat:=l.foldl (fun v b=> 10 * v+(b.toNat - 48)) 0
theorem JhU {n:Nat} (h:n < 10):(UInt8.ofNat (48+n)).toNat=48+n:=by
 rw [UInt8.toNat_ofNat']
 exact Nat.mod_eq_of_lt (by omega)
theorem Jo5:∀n:Nat,Jvt (Lib.decDigits n)=n:=by
 intro n
 induction n using Nat.strongRecOn with
 | ind n ih=>
   rw [Lib.decDigits]
   split
   ·rename_i h
    show 10 * 0+((UInt8.ofNat (48+n)).toNat - 48)=n
    rw [JhU h]
    omega
   ·have:=ih (n / 10) (by omega)
    unfold Jvt at this⊢
    rw [List.foldl_append,this]
    show 10 * (n / 10)+((UInt8.ofNat (48+n % 10)).toNat - 48)=n
    rw [JhU (Nat.mod_lt _ (by decide))]
    omega
theorem JhV {m n:Nat} (h:Lib.decDigits m=Lib.decDigits n):m=n:=by rw [← Jo5 m,h,Jo5]
theorem Juz:∀ {n:Nat} {b:UInt8},b∈Lib.decDigits n→48≤b.toNat∧b.toNat≤57:=by
 intro n
 induction n using Nat.strongRecOn with
 | ind n ih=>
   intro b hb
   rw [Lib.decDigits] at hb
   split at hb
   ·rename_i h
    rw [List.mem_singleton.1 hb,JhU h]
    omega
   ·rcases List.mem_append.1 hb with h | h
    ·exact ih (n / 10) (by omega) h
    ·rw [List.mem_singleton.1 h,JhU (Nat.mod_lt _ (by decide))]
     have:=Nat.mod_lt n (by decide:0 < 10)
     omega
theorem Jhn {n:Nat} {b:UInt8} (h:b.toNat < 48∨57 < b.toNat):b∉Lib.decDigits n:=fun q=> by
 have:=Juz q
 omega
def opsT:List Bts:= [[61,61], [33,61], [60], [60,61], [62], [62,61], [38]]
def opT (k:Nat):Bts:=opsT.getD k []
def J3 (c:Cnd):Bts:= [97]++(Lib.decDigits c.arg.toNat++32::(opT (c.op.toNat - 1)++32::(if c.op=7 then Lib.decDigits c.mask++32::(61::61::32::Lib.decDigits c.value) else Lib.decDigits c.value)))
theorem Jnw:∀k:Nat,k < 7→(32:UInt8)∉opT k∧(59:UInt8)∉opT k:=by decide
theorem JuA:∀j:Nat,j < 7→∀k:Nat,k < 7→opT j=opT k→j=k:=by decide
theorem Jly {c d:Cnd} (hc:JZ c=true) (hd:JZ d=true) (h:J3 c=J3 d):c=d:=by
 obtain ⟨a1,a2,a3,a4,a5⟩:=Jaf.1 hc
 obtain ⟨b1,b2,b3,b4,b5⟩:=Jaf.1 hd
 unfold J3 at h
 obtain ⟨_,h⟩:=List.cons.inj h
 obtain ⟨h1,h⟩:=JdQ (Jhn (by decide)) (Jhn (by decide)) h
 obtain ⟨h2,h⟩:=JdQ (Jnw _ (by omega)).1 (Jnw _ (by omega)).1 h
 have e1:c.arg=d.arg:=by have:=JhV h1;omega
 have e2:c.op=d.op:=by have:=JuA _ (by omega) _ (by omega) h2;omega
 obtain ⟨carg,cop,cm,cv⟩:=c
 obtain ⟨darg,dop,dm,dv⟩:=d
 dsimp only at *
 subst e1;subst e2
 by_cases h7:cop=7
 ·rw [if_pos h7,if_pos h7] at h
  obtain ⟨h3,h⟩:=JdQ (Jhn (by decide)) (Jhn (by decide)) h
  have h4:=(List.cons.inj (List.cons.inj (List.cons.inj h).2).2).2
  rw [JhV h3,JhV h4]
 ·rw [if_neg h7,if_neg h7] at h
  rw [JhV h]
  have q1:cm=0:=a5.resolve_left h7
  have q2:dm=0:=b5.resolve_left h7
  rw [q1,q2]
theorem Jtw {c:Cnd} (hc:JZ c=true):(59:UInt8)∉J3 c:=by
 obtain ⟨a1,a2,a3,a4,a5⟩:=Jaf.1 hc
 have hd:∀n:Nat,(59:UInt8)∉Lib.decDigits n:=fun n=> Jhn (by decide)
 have ho:=(Jnw (c.op.toNat - 1) (by omega)).2
 unfold J3
 split
 ·simp [hd,ho]
 ·simp [hd,ho]
theorem Jnx (c:Cnd):J3 c≠ []:=List.cons_ne_nil _ _
def Jd9 (x:UInt8):List Bts→Bts
 | []=> []
 | [a]=> a
 | a::b::l=> a++x::Jd9 x (b::l)
theorem JbW {x:UInt8} {a:Bts} {l:List Bts} (h:l≠ []):Jd9 x (a::l)=a++x::Jd9 x l:=by
 cases l with
 | nil=> exact absurd rfl h
 | cons b l=> rfl
theorem Jlz {x:UInt8}:∀ {l m:List Bts},(∀a∈l,x∉a∧a≠ [])→(∀a∈m,x∉a∧a≠ [])→Jd9 x l=Jd9 x m→l=m
 | [], [],_,_,_=> rfl
 | [],b::m,_,hm,h=> by
   exfalso
   have hb:=(hm b (.head _)).2
   cases m with
   | nil=> exact hb h.symm
   | cons c m=> rw [JbW (List.cons_ne_nil _ _)] at h;exact hb (List.append_eq_nil_iff.1 h.symm).1
 | a::l, [],hl,_,h=> by
   exfalso
   have ha:=(hl a (.head _)).2
   cases l with
   | nil=> exact ha h
   | cons c l=> rw [JbW (List.cons_ne_nil _ _)] at h;exact ha (List.append_eq_nil_iff.1 h).1
 | a::l,b::m,hl,hm,h=> by
   have ha:=(hl a (.head _)).1
   have hb:=(hm b (.head _)).1
   cases l with
   | nil=>
     cases m with
     | nil=> rw [show a=b from h]
     | cons c m=>
       exfalso
       rw [JbW (l:=c::m) (List.cons_ne_nil _ _)] at h
       exact ha (by rw [show a=b++x::Jd9 x (c::m) from h];simp)
   | cons c l=>
     cases m with
     | nil=>
       exfalso
       rw [JbW (l:=c::l) (List.cons_ne_nil _ _)] at h
       exact hb (by rw [← show a++x::Jd9 x (c::l)=b from h];simp)
     | cons d m=>
       rw [JbW (List.cons_ne_nil _ _),JbW (List.cons_ne_nil _ _)] at h
       obtain ⟨h1,h2⟩:=JdQ ha hb h
       rw [h1,Jlz (fun q hq=> hl q (.tail _ hq)) (fun q hq=> hm q (.tail _ hq)) h2]
end Go.Proofs.W

namespace Go.Proofs.W
open Go.Vl
set_option maxRecDepth 100000
def cUs (d:Array Bts):Nat→List Bts
 | 0=> []
 | m+1=> if m=0∨d[m]! ≠d[m - 1]! then cUs d m++ [d[m]!] else cUs d m
theorem Jny (d:Array Bts):∀m,(cUs d m).length≤m
 | 0=> Nat.le_refl _
 | m+1=> by
   have:=Jny d m
   unfold cUs
   split
   ·simp;omega
   ·omega
theorem Jnz {d:Array Bts}:∀ {m:Nat},m≤d.size→(∀i j,i < j→j < m→Go.Sort.ltStr d[j]! d[i]! =false)→(cUs d m).Pairwise RSb∧∀x,x∈cUs d m↔∃j,j < m∧d[j]! =x
 | 0,_,_=> ⟨List.Pairwise.nil,fun x=> by simp [cUs]⟩
 | m+1,hm,hs=> by
   obtain ⟨h1,h2⟩:=Jnz (m:=m) (by omega) fun i j a b=> hs i j a (by omega)
   by_cases hc:m=0∨d[m]! ≠d[m - 1]!
   ·rw [cUs,if_pos hc]
    refine ⟨?_,fun x=> ?_⟩
    ·rw [List.pairwise_append]
     refine ⟨h1,List.pairwise_singleton _ _,fun a ha b hb=> ?_⟩
     rw [List.mem_singleton] at hb
     subst hb
     obtain ⟨j,hj,rfl⟩:=(h2 a).1 ha
     cases hlt:Go.Sort.ltStr d[j]! d[m]! with
     | true=> exact hlt
     | false=>
       exfalso
       have h3:=hs (m - 1) m (by omega) (by omega)
       have h4:Go.Sort.ltStr d[m - 1]! d[m]! =false:=by
        rcases Nat.lt_or_ge j (m - 1) with q | q
        ·exact Go.Sort.swo_ltStr.ntrans _ _ _ (hs j (m - 1) q (by omega)) hlt
        ·rw [show m - 1=j by omega];exact hlt
       rcases hc with hc | hc
       ·omega
       ·exact hc (Jjq _ _ h3 h4)
    ·rw [List.mem_append,h2,List.mem_singleton]
     constructor
     ·rintro (⟨j,hj,rfl⟩ | rfl)
      ·exact ⟨j,by omega,rfl⟩
      ·exact ⟨m,by omega,rfl⟩
     ·rintro ⟨j,hj,rfl⟩
      rcases Nat.lt_or_ge j m with q | q
      ·exact .inl ⟨j,q,rfl⟩
      ·exact .inr (by rw [show j=m by omega])
   ·rw [cUs,if_neg hc]
    refine ⟨h1,fun x=> ?_⟩
    rw [h2]
    constructor
    ·rintro ⟨j,hj,rfl⟩;exact ⟨j,by omega,rfl⟩
    ·rintro ⟨j,hj,rfl⟩
     rcases Nat.lt_or_ge j m with q | q
     ·exact ⟨j,q,rfl⟩
     ·have hj':j=m:=by omega
      subst hj'
      have:j≠0:=fun h=> hc (.inl h)
      exact ⟨j - 1,by omega,by by_cases he:d[j]! =d[j - 1]!;exact he.symm;exact absurd (.inr he) hc⟩
def Je7 (l:List Bts):List Bts:=Jai Go.Sort.ltStr l
def Jca (l:List Bts):List Bts:=cUs (Je7 l).toArray (Je7 l).length
theorem Jbp (l:List Bts):(Jca l).Pairwise RSb∧∀x,x∈Jca l↔x∈l:=by
 have hp:=JeA Go.Sort.swo_ltStr l
 have hm:∀x,x∈Je7 l↔x∈l:=fun x=> Jjm
 unfold Jca
 have hp':(Je7 l).Pairwise fun a b=> Go.Sort.ltStr b a=false:=hp
 generalize Je7 l=S at hm hp'
 obtain ⟨h1,h2⟩:=Jnz (d:=S.toArray) (m:=S.length) (by simp) fun i j hij hj=> by
  have hi:i < S.length:=by omega
  have:=List.pairwise_iff_getElem.1 hp' i j hi hj hij
  simpa [hi,hj] using this
 refine ⟨h1,fun x=> (h2 x).trans ?_⟩
 rw [← hm,List.mem_iff_getElem]
 constructor
 ·rintro ⟨j,hj,rfl⟩
  exact ⟨j,hj,by simp [hj]⟩
 ·rintro ⟨j,hj,rfl⟩
  exact ⟨j,hj,by simp [hj]⟩
def JfV (cs:List Cnd):Bts:=Jd9 59 (Jca (cs.map J3))
theorem JjO {cs:List Cnd} (h:∀c∈cs,JZ c=true):∀a∈Jca (cs.map J3),(59:UInt8)∉a∧a≠ []:=fun a ha=> by
 obtain ⟨c,hc,rfl⟩:=List.mem_map.1 (((Jbp _).2 a).1 ha)
 exact ⟨Jtw (h c hc),Jnx c⟩
theorem JnA {cs ds:List Cnd} (hc:∀c∈cs,JZ c=true) (hd:∀c∈ds,JZ c=true):JfV cs=JfV ds↔∀c,c∈cs↔c∈ds:=by
 constructor
 ·intro h c
  have e:=Jlz (JjO hc) (JjO hd) h
  have hm:∀x,x∈cs.map J3↔x∈ds.map J3:=fun x=> by rw [← (Jbp _).2,e,(Jbp _).2]
  constructor
  ·intro q
   obtain ⟨d,hd1,hd2⟩:=List.mem_map.1 ((hm (J3 c)).1 (List.mem_map_of_mem q))
   rw [← Jly (hd d hd1) (hc c q) hd2]
   exact hd1
  ·intro q
   obtain ⟨d,hd1,hd2⟩:=List.mem_map.1 ((hm (J3 c)).2 (List.mem_map_of_mem q))
   rw [← Jly (hc d hd1) (hd c q) hd2]
   exact hd1
 ·intro h
  unfold JfV
  refine congrArg _ (Jjz (Jbp _).1 (Jbp _).1 fun z=> ?_)
  rw [(Jbp _).2,(Jbp _).2,List.mem_map,List.mem_map]
  exact ⟨fun ⟨c,q1,q2⟩=> ⟨c,(h c).1 q1,q2⟩,fun ⟨c,q1,q2⟩=> ⟨c,(h c).2 q1,q2⟩⟩
theorem JiN {cs:List Cnd}:JfV cs= []↔cs= []:=by
 constructor
 ·intro h
  cases cs with
  | nil=> rfl
  | cons c cs=>
    exfalso
    have hm:=((Jbp ((c::cs).map J3)).2 (J3 c)).2 (by simp)
    unfold JfV at h
    have hne:∀a∈Jca ((c::cs).map J3),a≠ []:=fun a ha=> by
     obtain ⟨d,_,rfl⟩:=List.mem_map.1 (((Jbp _).2 a).1 ha)
     exact Jnx d
    generalize Jca ((c::cs).map J3)=L at h hm hne
    cases L with
    | nil=> cases hm
    | cons a L=>
      cases L with
      | nil=> exact hne a (.head _) h
      | cons b L=>
        rw [JbW (List.cons_ne_nil _ _)] at h
        exact hne a (.head _) (List.append_eq_nil_iff.1 h).1
 ·rintro rfl
  have h:Jca (([]:List Cnd).map J3)= []:=List.eq_nil_iff_forall_not_mem.2 fun x hx=> by cases ((Jbp _).2 x).1 hx
  unfold JfV
  rw [h]
  rfl
end Go.Proofs.W

namespace Go.Proofs.W
open Go.Vl
set_option maxRecDepth 100000
def JeX (c:Cnd):Bool:=decide (c.op=7)&& decide (JfQ c.value c.mask≠0)
def JjP (a b:List Cnd):Bool:=(a.all fun c=> decide (c∈b))&& b.all fun c=> decide (c∈a)
def JfW (r q:Rul):Bool:=kS q.name r.name&& (decide (q.conds.length=0)|| JjP q.conds r.conds)
def Jco (l:List TRow) (rs:List Rul) (i:Nat):Int:=if JaS l (rs.getD i Jq).name=false then 14 else if (rs.getD i Jq).conds.any JeX=true then 16 else if (rs.take i).any (JfW (rs.getD i Jq))=true then 15 else 0
def JeQ (l:List TRow) (rs:List Rul):Option Nat:=(List.range rs.length).find? fun i=> decide (Jco l rs i≠0)
def JaF (p:Pol) (l:List TRow):Int×Int:=if Jbm p=false then (0,13) else if (JbU l).2≠0 then (0,18) else match JeQ l p.rules with
 | some i=> ((i:Int),Jco l p.rules i)
 | none=> (0,0)
def JgF (r:Rul):Bts:=r.name.data.toList
def JgG (r:Rul):Bts:=JgF r++58::JfV r.conds
theorem JuB {l:List UInt8} (h:Jao l=true):(58:UInt8)∉l:=fun q=> by
 unfold Jao at h
 simp only [Bool.and_eq_true] at h
 have:=List.all_eq_true.1 h.2.2.2.2.1 58 q
 revert this
 decide
theorem JfL {r:Rul} (h:Jaj r=true):(58:UInt8)∉JgF r:=JuB (by
 unfold Jaj at h
 simp only [Bool.and_eq_true] at h
 exact h.1)
theorem Jdv {r:Rul} (h:Jaj r=true):∀c∈r.conds,JZ c=true:=fun c hc=> by
 unfold Jaj at h
 simp only [Bool.and_eq_true] at h
 have:=h.2.2.2
 simp only [Bool.not_eq_true',List.any_eq_false] at this
 simpa using this c hc
theorem JlA {a b:List Cnd}:JjP a b=true↔∀c,c∈a↔c∈b:=by
 unfold JjP
 simp only [Bool.and_eq_true,List.all_eq_true,decide_eq_true_eq]
 exact ⟨fun h c=> ⟨h.1 c,h.2 c⟩,fun h=> ⟨fun c=> (h c).1,fun c=> (h c).2⟩⟩
theorem JnB {q r:Rul} (hq:Jaj q=true) (hr:Jaj r=true):JgG q=JgG r↔kS q.name r.name=true∧JjP q.conds r.conds=true:=by
 unfold JgG
 constructor
 ·intro h
  obtain ⟨h1,h2⟩:=JdQ (JfL hq) (JfL hr) h
  exact ⟨Jbw.2 (JfI h1),JlA.2 ((JnA (Jdv hq) (Jdv hr)).1 h2)⟩
 ·rintro ⟨h1,h2⟩
  unfold JgF
  rw [Jbw.1 h1,(JnA (Jdv hq) (Jdv hr)).2 (JlA.1 h2)]
theorem JnC {q r:Rul} (hq:Jaj q=true) (hr:Jaj r=true):JgG q=JgF r++ [58]↔kS q.name r.name=true∧q.conds.length=0:=by
 unfold JgG
 constructor
 ·intro h
  obtain ⟨h1,h2⟩:=JdQ (JfL hq) (JfL hr) h
  exact ⟨Jbw.2 (JfI h1),List.length_eq_zero_iff.2 (JiN.1 h2)⟩
 ·rintro ⟨h1,h2⟩
  unfold JgF
  rw [Jbw.1 h1,JiN.2 (List.length_eq_zero_iff.1 h2)]
def JjQ (rs:List Rul) (i:Nat):List Bts:=(rs.take i).map JgG
theorem Jr4 {rs:List Rul} (h:∀r∈rs,Jaj r=true) {i:Nat} {r:Rul} (hr:Jaj r=true):(JgF r++ [58]∈JjQ rs i∨JgG r∈JjQ rs i)↔(rs.take i).any (JfW r)=true:=by
 unfold JjQ
 rw [List.any_eq_true]
 constructor
 ·rintro (q | q)
  ·obtain ⟨x,hx,he⟩:=List.mem_map.1 q
   obtain ⟨k1,k2⟩:=(JnC (h x (List.mem_of_mem_take hx)) hr).1 he
   exact ⟨x,hx,by unfold JfW;rw [k1,decide_eq_true k2];rfl⟩
  ·obtain ⟨x,hx,he⟩:=List.mem_map.1 q
   obtain ⟨k1,k2⟩:=(JnB (h x (List.mem_of_mem_take hx)) hr).1 he
   exact ⟨x,hx,by unfold JfW;rw [k1,k2,Bool.or_true];rfl⟩
 ·rintro ⟨x,hx,he⟩
  unfold JfW at he
  rw [Bool.and_eq_true,Bool.or_eq_true,decide_eq_true_iff] at he
  have hxr:=h x (List.mem_of_mem_take hx)
  rcases he with ⟨k1,k2 | k2⟩
  ·exact .inl (List.mem_map.2 ⟨x,hx,(JnC hxr hr).2 ⟨k1,k2⟩⟩)
  ·exact .inr (List.mem_map.2 ⟨x,hx,(JnB hxr hr).2 ⟨k1,k2⟩⟩)
theorem Jtx {l:List TRow} {rs:List Rul} {i:Nat} (hi:i < rs.length) (h:∀j,j < i→Jco l rs j=0) (hv:Jco l rs i≠0):JeQ l rs=some i:=by
 unfold JeQ
 rw [List.find?_eq_some_iff_getElem]
 refine ⟨by simpa using hv,i,by simpa using hi,by simp,fun j hj=> ?_⟩
 simp [h j hj]
theorem JjR {l:List TRow} {rs:List Rul} (h:∀j,j < rs.length→Jco l rs j=0):JeQ l rs=none:=by
 unfold JeQ
 rw [List.find?_eq_none]
 intro j hj
 simp [h j (List.mem_range.1 hj)]
end Go.Proofs.W

namespace Go.Proofs.W
open Go.Vl
set_option maxRecDepth 100000
theorem JbD {p:Pol} {l:List TRow}:(JaF p l).2=0↔Jbm p=true∧(JbU l).2=0∧∀i,i < p.rules.length→Jco l p.rules i=0:=by
 unfold JaF
 by_cases h1:Jbm p=false
 ·rw [if_pos h1]
  exact ⟨fun h=> absurd h (by decide),fun h=> by rw [h1] at h;cases h.1⟩
 rw [if_neg h1]
 by_cases h2:(JbU l).2≠0
 ·rw [if_pos h2]
  exact ⟨fun h=> absurd h (by decide),fun h=> absurd h.2.1 h2⟩
 rw [if_neg h2]
 constructor
 ·intro h
  refine ⟨by simpa using h1,by simpa using h2,fun i hi=> ?_⟩
  cases hf:JeQ l p.rules with
  | none=>
    unfold JeQ at hf
    have:=List.find?_eq_none.1 hf i (List.mem_range.2 hi)
    simpa using this
  | some j=>
    rw [hf] at h
    unfold JeQ at hf
    have:=List.find?_some hf
    exact absurd h (by simpa using this)
 ·rintro ⟨_,_,h⟩
  rw [JjR h]
theorem Jr5 {p:Pol} {l:List TRow} (h:(JaF p l).2=0):JaF p l=(0,0):=by
 obtain ⟨h1,h2,h3⟩:=JbD.1 h
 unfold JaF
 rw [if_neg (by rw [h1];decide),if_neg (by omega),JjR h3]
theorem Jr6 {p:Pol} {l:List TRow} (h1:Jbm p=true) (h2:(JbU l).2=0) {i:Nat} (hi:i < p.rules.length) (h3:∀j,j < i→Jco l p.rules j=0) {v:Int} (h4:Jco l p.rules i=v) (h5:v≠0):JaF p l=((i:Int),v):=by
 unfold JaF
 rw [if_neg (by rw [h1];decide),if_neg (by omega),Jtx hi h3 (by rw [h4];exact h5)]
 exact congrArg _ h4
theorem JuC {l:List TRow} {rs:List Rul} {i:Nat}:Jco l rs i=0↔JaS l (rs.getD i Jq).name=true∧(rs.getD i Jq).conds.any JeX=false∧(rs.take i).any (JfW (rs.getD i Jq))=false:=by
 unfold Jco
 by_cases h1:JaS l (rs.getD i Jq).name=false
 ·rw [if_pos h1];exact ⟨fun h=> absurd h (by decide),fun h=> by rw [h1] at h;cases h.1⟩
 rw [if_neg h1]
 by_cases h2:(rs.getD i Jq).conds.any JeX=true
 ·rw [if_pos h2];exact ⟨fun h=> absurd h (by decide),fun h=> by rw [h2] at h;cases h.2.1⟩
 rw [if_neg h2]
 by_cases h3:(rs.take i).any (JfW (rs.getD i Jq))=true
 ·rw [if_pos h3];exact ⟨fun h=> absurd h (by decide),fun h=> by rw [h3] at h;cases h.2.2⟩
 rw [if_neg h3]
 exact ⟨fun _=> ⟨by simpa using h1,by simpa using h2,by simpa using h3⟩,fun _=> rfl⟩
theorem JjS {p:Pol}:Jbm p=true↔Jbd p.dflt.1 p.dflt.2=true∧p.rules.length≤500∧∀r∈p.rules,Jaj r=true:=by
 unfold Jbm
 simp only [Bool.and_eq_true,decide_eq_true_eq,Bool.not_eq_true',List.any_eq_false,Bool.not_eq_false']
 exact ⟨fun h=> ⟨h.1,h.2.1,fun r hr=> by simpa using h.2.2 r hr⟩,fun h=> ⟨h.1,h.2.1,fun r hr=> by simpa using h.2.2 r hr⟩⟩
end Go.Proofs.W

namespace Go.Proofs.W
open Go.Vl
set_option maxRecDepth 100000
theorem JlB {l:List TRow} {s:ByteArray} (h:JaS l s=true):Jnv l s:=by
 have h1:JaP l s=l.getD (JbC l s) Ji:=if_pos h
 unfold JaS at h
 simp only [Bool.and_eq_true,decide_eq_true_eq] at h
 exact ⟨_,h.1,h1,Jue.1 h.2⟩
theorem JiO {p:Pol} {n:Rul} (h:n∈(Jc p).rules):∃r∈p.rules,Jbo r=some n:=Jo3 h
theorem JjT (p:Pol):JrZ (Jc p).rules:=by
 show ((JeO (Jaz p.rules)).flatMap fun nm=> Jdf p.dflt (Ja8 (Jaz p.rules) ⟨nm.toArray⟩)).Pairwise _
 have hname:∀(z:List UInt8) (r:Rul),r∈Jdf p.dflt (Ja8 (Jaz p.rules) ⟨z.toArray⟩)→nmL r.name=z:=fun z r hr=> by
  have h:=Jns hr
  rw [Jip] at h
  rw [(Jo2 h).1]
  unfold nmL
  simp
 rw [List.pairwise_flatMap]
 refine ⟨fun z _=> ?_,(Jou (Jhk p.rules)).imp fun {a b} h x hx y hy=> ?_⟩
 ·refine List.pairwise_of_forall_mem_list fun x hx y hy=> ?_
  rw [hname z x hx,hname z y hy,JgE]
 ·rw [hname a x hx,hname b y hy]
  cases hl:Go.Sort.ltStr b a with
  | false=> rfl
  | true=> exact absurd (Jv5 _ _ _ h hl) (Jvs _)
theorem Jho {p:Pol}:(JT (Jc p).rules).Pairwise fun x y=> x.1≠y.1:=
 (Jhl (JjT p)).up.imp fun h e=> by rw [e,JgE] at h;cases h
theorem JjU {p:Pol} {l:List TRow} (h:∀r∈p.rules,JaS l r.name=true):∀g∈JT (Jc p).rules,Jnv l g.1:=fun g hg=> by
 obtain ⟨k1,k2⟩:=(Jhl (JjT p)).rows g hg
 obtain ⟨q,hq⟩:=List.exists_mem_of_ne_nil _ k2
 rw [k1] at hq
 obtain ⟨q1,q2⟩:=List.mem_filter.1 hq
 obtain ⟨r,hr,hn⟩:=JiO q1
 rw [← Jbw.1 q2,(JcT hn).2.1]
 exact JlB (h r hr)
theorem JfX {p:Pol} {l:List TRow} (h:(JaF p l).2=0):∀r∈p.rules,JaS l r.name=true:=fun r hr=> by
 obtain ⟨_,_,h3⟩:=JbD.1 h
 obtain ⟨i,hi,rfl⟩:=List.getElem_of_mem hr
 have:=h3 i hi
 unfold Jco at this
 rw [show p.rules.getD i Jq=p.rules[i] by simp [List.getD,hi]] at this
 cases hf:JaS l p.rules[i].name with
 | true=> rfl
 | false=> rw [if_pos hf] at this;cases this
def JbO (p:Pol) (l:List TRow):Plan:=⟨Ju p.dflt,p.x32,fun a=> JeB (JbH (Jc p) l (JT (Jc p).rules) a),fun m=> JhT (JcM l (JT (Jc p).rules) m)⟩
theorem Jr7 {p:Pol} {l:List TRow} (h:(JaF p l).2=0) {a:Nat} (ha:a < 5) {D:List (Nat×AV)} (e:PEnt→Nat×AV) (he:∀x,(e x).1=x.num) (hp:D.Perm ((JbH (Jc p) l (JT (Jc p).rules) a).map e)) (hs:D.Pairwise fun x y=> x.1≤y.1):D=((JbO p l).ents a).map e:=by
 have hn:=JjM (p:=Jc p) (JbD.1 h).2.1 ha Jho (JjU (p:=p) (JfX h))
 refine JfU (key:=(·.1)) (hp.trans ((Jqq _).symm.map e)) hs ?_ ?_
 ·rw [List.pairwise_map]
  exact (Jtt _).imp fun h=> by rw [he,he];exact h
 ·refine (hp.map (·.1)).nodup_iff.2 ?_
  rw [List.map_map,show ((fun x:Nat×AV=> x.1)∘e)=(fun x:PEnt=> x.num) from funext he]
  exact hn
theorem Jr8 {p:Pol} {l:List TRow} (h:(JaF p l).2=0) {a:Nat} {D:List (Nat×AV)} (e:PSub→Nat×AV) (he:∀x,(e x).1=x.num) (hp:D.Perm ((JcM l (JT (Jc p).rules) a).map e)) (hs:D.Pairwise fun x y=> x.1≤y.1):D=((JbO p l).subs a).map e:=by
 have hn:=JjN (m:=a) (JbD.1 h).2.1 Jho (JjU (p:=p) (JfX h))
 refine JfU (key:=(·.1)) (hp.trans ((Jqr _).symm.map e)) hs ?_ ?_
 ·rw [List.pairwise_map]
  exact (Jtu _).imp fun h=> by rw [he,he];exact h
 ·refine (hp.map (·.1)).nodup_iff.2 ?_
  rw [List.map_map,show ((fun x:Nat×AV=> x.1)∘e)=(fun x:PSub=> x.num) from funext he]
  exact hn
end Go.Proofs.W

namespace Go.Proofs.W
open Go.Vl
set_option maxRecDepth 100000
theorem JnD {arg op:Int} {mask value:Nat} (h:value > 4294967295):JaB ⟨arg,op,mask,value⟩=(cnd0,if op=2∨op=3 then 1 else 2):=if_pos h
theorem Jep {arg op:Int} {mask value:Nat} (h:¬value > 4294967295):JaB ⟨arg,op,mask,value⟩=if op=7 then (if mask&&& 4294967295=0 then (cnd0,1) else (⟨arg,op,mask&&& 4294967295,value⟩,0)) else (⟨arg,op,mask,value⟩,0):=if_neg h
theorem JgO (c:Cnd) (ho:c.ok):Tells Tryz.prog 37 [JL c] (.tup [JL (JaB c).1,int (JaB c).2]):=by
 obtain ⟨arg,op,mask,value⟩:=c
 refine Jg Tryz.func37 rfl rfl fun nx=> ?_
 have hb:Jbv .and .u64 mask 4294967295=((mask&&& 4294967295:Nat):Int):=JoN ho.1 (by decide)
 (repeat' (refine stp ?_;intro c h;cases c))
 all_goals
  refine stp ?_
  refine Jl rfl ⟨rfl,trivial⟩ (AVle.of_eq ?_)
  (try simp only [JaL, JaM, JaN, JaO, JaC, JaD] at *)
  first
   | (rw [JnD (by omega)];first | (rw [if_pos (by omega)];rfl) | (rw [if_neg (by omega)];rfl))
   | (exfalso;omega)
   | (rw [Jep (by omega),if_neg (by omega)];rfl)
   | (rw [Jep (by omega),if_pos (by omega),if_pos (by omega)];rfl)
   | (rw [Jep (by omega),if_pos (by omega),if_neg (by omega)];refine Eq.trans ?_ (congrArg (fun z:Int=> AV.tup [.ag [int arg,int op, .v (.int .u64 z), .v (.int .u64 value)],int 0]) hb);rfl)
theorem Jir (a:A2) (h:Jbd a.1 a.2=true):Tells Tryz.prog 46 [Ju9 a] (u32 (Ju a:Nat)):=by
 refine Jg Tryz.func46 rfl rfl fun nx=> ?_
 refine stp ?_
 refine Jd rfl rfl (JoW a h) ⟨AVle.refl _,trivial⟩ fun nx2=> ?_
 refine stp ?_
 exact Je rfl (AVle.refl _)
def Jx:PRul:=⟨[],0⟩
def Jcu (r:PRul):AV:= .ag [Jbt r.conds,u32 (r.code:Nat)]
def Jr (l:List PRul):AV:=JJ 2 Jcu Jx l
def JwV:Option PRul→AV
 | none=> .tup [Jcu Jx,Jb false]
 | some q=> .tup [Jcu q,Jb true]
theorem JgH {α:Type} {e:α→AV} {d:α} {sz:Nat} {l:List α} {x:α} {f':Nat→AV} {i j:Vl.Id} (hf:f' 0=e x) (h:i.2=j.2):AVle (.os sz (l.length+1) (Jcc l.length (fun k=> e (l.getD k d)) f') (some i)) (.os sz (l++ [x]).length (fun k=> e ((l++ [x]).getD k d)) (some j)):=by
 rw [List.length_append]
 refine (AVle.os_fun (Jgq (fun k hk=> ?_) ?_)).trans (AVle.os_nm h)
 ·rw [show (l++ [x]).getD k d=l.getD k d by simp [List.getD,List.getElem?_append_left hk]]
 ·rw [hf,show (l++ [x]).getD l.length d=x by simp [List.getD]]
theorem Jqs {cs:List Cnd} {i:Nat} (hi:i < cs.length):(cs.take (i+1)).filterMap JiJ=(cs.take i).filterMap JiJ++(JiJ (cs.getD i cnd0)).toList:=by
 rw [Jb1 cnd0 hi,List.filterMap_append]
 congr 1
theorem Jqt {cs:List Cnd} (h:∀j,j < cs.length→JeN (cs.getD j cnd0)=false):cs.any JeN=false:=by
 rw [Bool.eq_false_iff]
 intro ha
 obtain ⟨c,hc,hb⟩:=List.any_eq_true.1 ha
 obtain ⟨j,hj,rfl⟩:=List.getElem_of_mem hc
 have:=h j hj
 rw [show cs.getD j cnd0=cs[j] by simp [List.getD,hj]] at this
 rw [this] at hb;cases hb
theorem Jty {cs:List Cnd} {i:Nat} (hi:i < cs.length) (h:JeN (cs.getD i cnd0)=true):cs.any JeN=true:=by
 refine List.any_eq_true.2 ⟨cs.getD i cnd0, ?_,h⟩
 simp [List.getD,hi]
theorem JnE {oi:Option Vl.Id} {n:Nat}:Jmn oi n (JbT oi n):=by
 have:=Jn6 (oi:=oi) (n:=n) (pm:= [])
 rwa [List.append_nil] at this
def Jqu (l:List Cnd):Nat→AV:=fun k=> JL (l.getD k cnd0)
set_option maxHeartbeats 2000000 in
theorem Jky (r:PRul) (hok:∀c∈r.conds,c.ok) (hl:r.conds.length≤1000000):Tells Tryz.prog 114 [Jcu r] (JwV (JgA r)):=by
 obtain ⟨cs,k⟩:=r
 dsimp only at hok hl
 refine Jg Tryz.func114 rfl rfl fun nx=> ?_
 refine stp ?_
 refine JN (fun y:Nat×List Cnd×Option Nat×Nat=> mk 38 [(1, .bp (0,nx) 0),(2, .bp (1,nx+1) 0),(3,Jb false),(4, .bp (2,nx+2) 0),(13,Jbt cs),(14,int cs.length),(15,int y.1)] ⟨[((2,nx+2), .c [.os 4 y.2.1.length (Jqu y.2.1) (nmd y.2.2.1),u32 (k:Nat)]),((1,nx+1), .c [.os 0 0 (fun _=> .any) none,u32 0]),((0,nx), .c [Jbt cs,u32 (k:Nat)])],JbT (nmd y.2.2.1) (y.2.1.length * 4),y.2.2.2,3⟩)
  (fun y=> y.1≤cs.length∧y.2.1=(cs.take y.1).filterMap JiJ∧(y.2.2.1=none→y.2.1= [])∧∀j,j < y.1→JeN (cs.getD j cnd0)=false) (fun y=> cs.length - y.1) ?_ ?_
 ·exact ⟨(0, [],none,nx+3),⟨Nat.zero_le _,rfl,fun _=> rfl,fun j h=> absurd h (Nat.not_lt_zero _)⟩,Jh (pm:= []) _ [] rfl rfl (List.Sublist.refl _) (List.Sublist.refl _) ⟨rfl,⟨AVle.os_nil,AVle.refl _,trivial⟩,BxLe.refl _⟩ trivial ⟨AVle.refl _,AVle.refl _,AVle.refl _,AVle.refl _,AVle.refl _,AVle.refl _,AVle.refl _,trivial⟩⟩
 ·rintro ⟨i,L,oi,nx1⟩ ⟨h1,hL,h2,h3⟩
  dsimp only at h1 hL h2 h3
  have hal:L.length≤i:=by rw [hL];exact Nat.le_trans (List.length_filterMap_le _ _) (by simp;omega)
  refine stp ?_
  intro c g;cases c
  ·have g:=JC g
   try dsimp only at g
   have hi:i=cs.length:=by omega
   subst hi
   rw [List.take_length] at hL
   have hR:JgA ⟨cs,k⟩=some ⟨L,k⟩:=by
    unfold JgA
    dsimp only
    rw [Jqt h3,hL];rfl
   rw [hR]
   refine stp ?_
   exact Jl rfl ⟨rfl,trivial⟩ (AVle.tups (cs:= [_,_]) ⟨AVle.ags (cs:= [_,_]) ⟨AVle.os_sl,AVle.refl _,trivial⟩,AVle.refl _,trivial⟩)
  ·have g:=JD g
   try dsimp only at g
   have hi:i < cs.length:=by omega
   have hn:=JgO (cs.getD i cnd0) (Jnm hok hi)
   have hnx:=Jqs hi
   have hst:=JjA (cs.getD i cnd0)
   refine stp ?_
   refine ⟨⟨by first | omega | (dsimp only;omega),by first | omega | (dsimp only;omega)⟩, ?_⟩
   refine stp ?_
   refine Jd rfl rfl hn ⟨AVle.refl _,trivial⟩ fun nx2=> ?_
   refine stp ?_
   intro c t2;cases c
   ·have ht2:(JaB (cs.getD i cnd0)).2≠2:=fun e=> by rw [e] at t2;cases t2
    have hnev:JeN (cs.getD i cnd0)=false:=decide_eq_false ht2
    have hlast:∀j,j < i+1→JeN (cs.getD j cnd0)=false:=fun j hj=> by
     rcases Nat.lt_or_ge j i with h | h
     ·exact h3 j h
     ·obtain rfl:j=i:=by omega
      exact hnev
    refine stp ?_
    intro c t0;cases c
    ·have ht0:(JaB (cs.getD i cnd0)).2≠0:=fun e=> by rw [e] at t0;cases t0
     rw [show JiJ (cs.getD i cnd0)=none from if_neg ht0] at hnx
     refine stp ?_
     exact back (i+1,L,oi,nx2+1) ⟨hi,by dsimp only;rw [hnx,← hL];exact (List.append_nil _).symm,h2,hlast⟩ (by dsimp only;omega) (Jh _ _ rfl rfl (.cons _ (.cons _ (List.Sublist.refl _))) (List.Sublist.refl _) (BxLe.refl _) (PmEq.refl _) ⟨AVle.refl _,AVle.refl _,AVle.refl _,AVle.refl _,AVle.refl _,AVle.refl _,Jk (Js (by first | omega | (dsimp only;omega))),trivial⟩)
    ·have ht0:(JaB (cs.getD i cnd0)).2=0:=by
      have:=of_decide_eq_true (p:=((JaB (cs.getD i cnd0)).2:Int)=0) t0.symm
      omega
     rw [show JiJ (cs.getD i cnd0)=some (JaB (cs.getD i cnd0)).1 from if_pos ht0] at hnx
     refine stp ?_
     refine ⟨JnE,JO rfl,by show (L.length+1) * 32≤_;omega,by show L.length+1≤_;omega, ?_⟩
     refine stp ?_
     exact back (i+1,L++ [(JaB (cs.getD i cnd0)).1],some (nx2+1),nx2+2) ⟨hi,by dsimp only;rw [hnx,← hL];rfl,(fun h=> by cases h),hlast⟩ (by dsimp only;omega) (Jh (bx:= [((2,nx+2), .c [.os 4 (L++ [(JaB (cs.getD i cnd0)).1]).length (Jqu (L++ [(JaB (cs.getD i cnd0)).1])) (some (0,nx2+1)),u32 (k:Nat)]),((1,nx+1), .c [.os 0 0 (fun _=> .any) none,u32 0]),((0,nx), .c [Jbt cs,u32 (k:Nat)])]) _ [((5,nx2+1),(L.length+1) * 4)] rfl rfl (.cons _ (.cons _ (List.Sublist.refl _))) (.cons_cons _ (List.nil_sublist _)) ⟨rfl,⟨JgH (e:=JL) rfl rfl,AVle.refl _,trivial⟩,BxLe.refl _⟩ ⟨rfl,by rw [List.length_append];rfl,trivial⟩ ⟨AVle.refl _,AVle.refl _,AVle.refl _,AVle.refl _,AVle.refl _,AVle.refl _,Jk (Js (by first | omega | (dsimp only;omega))),trivial⟩)
   ·have ht2:(JaB (cs.getD i cnd0)).2=2:=by
     have:=of_decide_eq_true (p:=((JaB (cs.getD i cnd0)).2:Int)=2) t2.symm
     omega
    have hR:JgA ⟨cs,k⟩=none:=if_pos (Jty hi (decide_eq_true ht2))
    rw [hR]
    refine stp ?_
    exact Jl rfl ⟨rfl,trivial⟩ (AVle.tups (cs:= [_,_]) ⟨AVle.ags (cs:= [_,_]) ⟨AVle.os_sl0,AVle.refl _,trivial⟩,AVle.refl _,trivial⟩)
end Go.Proofs.W

namespace Go.Proofs.W
open Go.Vl
set_option maxRecDepth 100000
def JeR (l:List TRow) (r:Rul):Bool:=decide ((JaP l r.name).mux > 0)&& decide (0 < r.conds.length)
theorem Jr9 (l:List TRow) (r:Rul) (hl:l.length≤1000000) (hs:Jgy l r.name):Tells Tryz.prog 107 (Jau r:: [.rp [J5 l]]) (Jb (JeR l r)):=by
 have hw:=JrI l r.name hl hs
 unfold JeR
 generalize decide ((JaP l r.name).mux > 0)=b at hw⊢
 generalize (JaS l r.name&& decide ((JaP l r.name).a2≥0))=b2 at hw
 refine Jg Tryz.func107 rfl rfl fun nx=> ?_
 refine stp ?_
 refine Jd rfl rfl hw ⟨AVle.refl _,AVle.refl _,trivial⟩ fun nx2=> ?_
 refine stp ?_
 intro c1 hc1
 subst hc1
 refine stp ?_
 intro c e1;cases c
 ·have hb:b=false:=e1.symm
  subst hb
  refine stp ?_
  exact Je rfl (AVle.refl _)
 ·have hb:b=true:=e1.symm
  subst hb
  refine stp ?_
  intro c2 hc2
  have e2:decide (0 < r.conds.length)=c2:=by
   rw [hc2]
   by_cases h0:0 < r.conds.length
   ·rw [decide_eq_true h0];exact (decide_eq_true (by omega)).symm
   ·rw [decide_eq_false h0];exact (decide_eq_false (by omega)).symm
  rw [e2]
  clear hc2 e2
  cases c2 <;> (refine stp ?_;exact Je rfl (AVle.refl _))
theorem Jsa (x:List AV) (l:List Rul) (p:Rul→Bool) (f:Nat) (hl:l.length≤1000000000) (hp:∀i,i < l.length→Tells Tryz.prog f (Jau (l.getD i Jq):: [.rp x]) (Jb (p (l.getD i Jq)))):
 Tells Tryz.prog 106 [JJ 4 Jau Jq l,(.fn (.func f) [] [.rp x])] (int (Jg9 (l.findIdx? p))):=by
 refine Jg Tryz.func106 rfl rfl fun nx=> ?_
 refine stp ?_
 refine JN (fun s:Nat×Nat=> mk 19 [(0,JJ 4 Jau Jq l),(1,(.fn (.func f) [] [.rp x])),(7,int l.length),(8,int s.1)] ⟨[], [],s.2,0⟩) (fun s=> s.1≤l.length∧∀j,j < s.1→p (l.getD j Jq)=false) (fun s=> l.length - s.1) ?_ ?_
 ·exact ⟨(0,nx),⟨by simp,by intro j hj;simp at hj⟩,Ja0 rfl rfl ⟨AVle.refl _,AVle.refl _,AVle.refl _,AVle.refl _,trivial⟩⟩
 ·rintro ⟨i,nx⟩ ⟨h1,h2⟩
  dsimp only at h1 h2
  refine stp ?_
  intro c h3;cases c
  ·have h3:=JC h3
   dsimp only at h3
   refine stp ?_
   refine Je rfl (Jk ?_)
   rw [Jfo Jq (fun j hj=> h2 j (by omega))];rfl
  ·have h3:=JD h3
   dsimp only at h3
   have hi:i < l.length:=by omega
   refine stp ?_
   refine ⟨⟨by dsimp only;omega,by dsimp only;omega⟩, ?_⟩
   refine stp ?_
   refine Jd rfl rfl (hp i hi) ⟨AVle.refl _,AVle.refl _,trivial⟩ fun nx'=> ?_
   intro c h4;cases c
   ·refine stp ?_
    refine back (i+1,nx') ⟨by dsimp only;omega,fun j hj=> ?_⟩ (by dsimp only;omega) (Ja0 rfl rfl ⟨AVle.refl _,AVle.refl _,AVle.refl _,Jk (Js (by dsimp only;omega)),trivial⟩)
    dsimp only at hj
    rcases Nat.lt_or_ge j i with h | h
    ·exact h2 j h
    ·obtain rfl:j=i:=by omega
     exact h4.symm
   ·refine stp ?_
    refine Je rfl (Jk ?_)
    rw [Jg8 Jq hi h2 h4.symm];rfl
theorem JuD {α:Type} {l:List α} {p:α→Bool} {i:Nat} (h:l.findIdx? p=some i):i < l.length:=(List.findIdx?_eq_some_iff_getElem.1 h).1
def Jtz (p:Pol) (l:List TRow):AV:=match p.rules.findIdx? (JeR l) with
 | none=> .tup [int 0,Jb true]
 | some i=> .tup [int i,Jb false]
theorem Jkz (p:Pol) (l:List TRow) (hp:p.rules.length≤1000000) (hl:l.length≤1000000) (hs:Jkn l):Tells Tryz.prog 44 [Jha p,J5 l] (Jtz p l):=by
 have hx:=Jsa [J5 l] p.rules (JeR l) 107 (by omega) fun i _=> Jr9 l _ hl (JfR hs _)
 unfold Jtz
 cases hi:p.rules.findIdx? (JeR l) with
 | none=>
   rw [hi] at hx
   refine Jg Tryz.func44 rfl rfl fun nx=> ?_
   (refine JV ?_;refine Jan ?_;refine JV ?_)
   refine JbJ (n:=15) (nx:=nx+2) (nn:=2) (pm:= []) (bx:= []) (L:= [(2, .rp [int p.dflt.1,int p.dflt.2,Jb p.x32,Jj p.rules]),(3, .rp [J5 l]),(4,int 0),(5,Jb false)]) (df:=some []) [((1,nx+1), .c [J5 l]),((0,nx), .c [int p.dflt.1,int p.dflt.2,Jb p.x32,Jj p.rules])] rfl rfl rfl (List.Perm.refl _) (List.Sublist.refl _) ⟨Frz.bp (.tail _ (.head _)) rfl,Frz.bp (.head _) rfl,Frz.refl _,Frz.refl _,trivial⟩ ?_
   refine stp ?_
   refine Jd rfl rfl hx ⟨AVle.refl _,AVle.refl _,trivial⟩ fun nx2=> ?_
   refine stp ?_
   exact Jl rfl trivial (AVle.of_eq rfl)
 | some i=>
   have hlt:=JuD hi
   rw [hi] at hx
   refine Jg Tryz.func44 rfl rfl fun nx=> ?_
   (refine JV ?_;refine Jan ?_;refine JV ?_)
   refine JbJ (n:=15) (nx:=nx+2) (nn:=2) (pm:= []) (bx:= []) (L:= [(2, .rp [int p.dflt.1,int p.dflt.2,Jb p.x32,Jj p.rules]),(3, .rp [J5 l]),(4,int 0),(5,Jb false)]) (df:=some []) [((1,nx+1), .c [J5 l]),((0,nx), .c [int p.dflt.1,int p.dflt.2,Jb p.x32,Jj p.rules])] rfl rfl rfl (List.Perm.refl _) (List.Sublist.refl _) ⟨Frz.bp (.tail _ (.head _)) rfl,Frz.bp (.head _) rfl,Frz.refl _,Frz.refl _,trivial⟩ ?_
   refine stp ?_
   refine Jd rfl rfl hx ⟨AVle.refl _,AVle.refl _,trivial⟩ fun nx2=> ?_
   refine stp ?_
   exact Jl rfl trivial (AVle.tups (cs:= [_,_]) ⟨Jk (if_neg (show ¬(0:Int) > (i:Int) by omega)),AVle.refl _,trivial⟩)
end Go.Proofs.W

namespace Go.Proofs.W
open Go.Vl
set_option maxRecDepth 100000
theorem Jis (l:List Cnd):NoId (Jbt l):=NoId.sl fun i _ c hc=> by
 simp only [JL,AV.cells,List.mem_cons,List.not_mem_nil,or_false] at hc
 rcases hc with rfl | rfl | rfl | rfl <;> exact NoId.v _
theorem JnF (ts:List Cnd) (hl:ts.length≤1000000):Tells Tryz.prog 115 [Jbt ts] (Jbt ts):=by
 refine Jg Tryz.func115 rfl rfl fun nx=> ?_
 refine stp ?_
 refine JmB (e:=86) rfl (.inl rfl) (by kernel_rfl) (.inl rfl) fun c hc=> ?_
 cases c
 ·refine stp ?_
  (conv=> whnf)
  refine Ji2 (fun hm=> ?_) fun hm=> ?_
  ·refine stp ?_
   obtain rfl:ts= []:=List.eq_nil_of_length_eq_zero hm
   exact Jl rfl trivial AVle.os_sl0
  ·refine ⟨fun k hk=> rfl,by show (0+ts.length) * 32≤_;omega,by omega, ?_⟩
   refine stp ?_
   have e5:0+ts.length=ts.length:=Nat.zero_add _
   refine Jl rfl trivial ?_
   exact AVle.trans (b:= .os 4 ts.length (Jqu ts) (some (0,nx))) (AVle.trans (b:= .os 4 (0+ts.length) (Jqu ts) (some (0,nx))) (AVle.os_fun fun k hk=> rfl) (AVle.of_eq (by rw [e5]))) AVle.os_sl
 ·obtain rfl:ts= []:=List.eq_nil_of_length_eq_zero (hc rfl)
  refine stp ?_
  exact Jl rfl trivial AVle.os_sl0
def Jcv (l:List PRul):Nat→AV:=fun k=> Jcu (l.getD k Jx)
theorem JtA {L:List PRul} {m:Nat} (hm:m≤L.length):AVle (.sl 2 m (Jcv L)) (Jr (L.take m)):=by
 unfold Jr JJ
 rw [List.length_take,Nat.min_eq_left hm]
 refine AVle.sl_fun fun k hk=> ?_
 show Jcu (L.getD k Jx)=Jcu ((L.take m).getD k Jx)
 rw [show (L.take m).getD k Jx=L.getD k Jx by simp [List.getD,List.getElem?_take,hk]]
theorem Jqv {a:Nat} {l:List PRul} {i:Nat} (hi:i < l.length):Je5 a (l.drop i)=match Jks a (l.getD i Jx) with
 | none=> Je5 a (l.drop (i+1))
 | some q=> if q.conds.length=0 then [q] else q::Je5 a (l.drop (i+1)):=by
 rw [List.drop_eq_getElem_cons hi,show l.getD i Jx=l[i] by simp [List.getD,hi]]
 rfl
theorem JjV:Tryz.prog.bytesOf 118=32:=by kernel_rfl
theorem JuE {r q:PRul} (h:JgA r=some q):q.conds.length≤r.conds.length∧q.code=r.code:=by
 unfold JgA at h
 split at h
 ·cases h
 ·cases h;exact ⟨List.length_filterMap_le _ _,rfl⟩
theorem JuF {a:Nat} {r q:PRul} (h:Jks a r=some q):q.conds.length≤r.conds.length∧q.code=r.code:=by
 unfold Jks at h
 split at h
 ·exact JuE h
 ·cases h;exact ⟨Nat.le_refl _,rfl⟩
def Jsb (nx:Nat):Option PRul→List (Vl.Id×Own)
 | none=> [((0,nx), .c [Jbt [],u32 0])]
 | some q=> [((0,nx), .c [Jbt q.conds,u32 (q.code:Nat)])]
set_option maxHeartbeats 4000000 in
theorem Jb3 (a:Nat) (l:List PRul) (d:Nat) (ha:a < 5) (hl:l.length≤1000000) (hc:∀r∈l,r.conds.length≤1000000∧∀c∈r.conds,c.ok):Tells Tryz.prog 48 [int a,Jr l,u32 (d:Nat)] (Jr (JaH a l d)):=by
 refine Jg Tryz.func48 rfl rfl fun nx=> ?_
 refine stp ?_
 refine JcS (fun y:List PRul×Option Nat×Nat=> mk 62 [(0,int a),(2,u32 (d:Nat)),(7, .os 2 y.1.length (Jcv y.1) (nmd y.2.1))] ⟨[],JbT (nmd y.2.1) (y.1.length * 2),y.2.2,0⟩) (fun y=> y.1=Je5 a l∧(y.2.1=none→y.1= [])∧y.1.length≤l.length) ?_ ?_
 ·refine JN (fun y:Nat×List PRul×Option Nat×Nat=> mk 62 [(0,int a),(2,u32 (d:Nat)),(7, .os 2 y.2.1.length (Jcv y.2.1) (nmd y.2.2.1)),(11,Jr l),(12,int l.length),(13,int y.1)] ⟨[],JbT (nmd y.2.2.1) (y.2.1.length * 2),y.2.2.2,0⟩)
   (fun y=> y.1≤l.length∧y.2.1++Je5 a (l.drop y.1)=Je5 a l∧(y.2.2.1=none→y.2.1= [])∧y.2.1.length≤y.1) (fun y=> l.length - y.1) ?_ ?_
  ·exact ⟨(0, [],none,nx),⟨Nat.zero_le _,rfl,fun _=> rfl,Nat.le_refl _⟩,Jh (pm:= []) (bx:= []) _ [] rfl rfl (List.Sublist.refl _) (List.Sublist.refl _) trivial trivial ⟨AVle.refl _,AVle.refl _,AVle.os_nil,AVle.refl _,AVle.refl _,AVle.refl _,trivial⟩⟩
  ·rintro ⟨i,L,oi,nx1⟩ ⟨h1,hL,h2,h3⟩
   dsimp only at h1 hL h2 h3
   refine stp ?_
   intro c g;cases c
   ·have g:=JC g
    try dsimp only at g
    have hi:i=l.length:=by omega
    subst hi
    rw [List.drop_length] at hL
    refine stp ?_
    exact ⟨(L,oi,nx1),⟨by rw [← hL];exact (List.append_nil _).symm,h2,h3⟩,Jh _ _ rfl rfl (List.Sublist.refl _) (List.Sublist.refl _) trivial (PmEq.refl _) ⟨AVle.refl _,AVle.refl _,AVle.refl _,trivial⟩⟩
   ·have g:=JD g
    try dsimp only at g
    have hi:i < l.length:=by omega
    have hnx:=Jqv (a:=a) hi
    have hr:l.getD i Jx∈l:=by simp [List.getD,hi]
    have hn:=Jky (l.getD i Jx) (hc _ hr).2 (hc _ hr).1
    have hcl:=(hc _ hr).1
    rw [hnx] at hL
    clear hnx
    refine stp ?_
    refine ⟨⟨by first | omega | (dsimp only;omega),by first | omega | (dsimp only;omega)⟩, ?_⟩
    refine stp ?_
    intro c6 hc6
    refine stp ?_
    refine Jri (fun y:Option PRul×Nat=> mk 62 [(0,int a),(2,u32 (d:Nat)),(7, .os 2 L.length (Jcv L) (nmd oi)),(9, .bp (0,nx1) 0),(10,Jb y.1.isSome),(11,Jr l),(12,int l.length),(13,int i)] ⟨Jsb nx1 y.1,JbT (nmd oi) (L.length * 2),y.2,1⟩) (fun y=> y.1=Jks a (l.getD i Jx)) ?_ ?_
    ·cases c6
     ·have ha2:a≠2:=fun e=> by subst e;cases hc6
      refine stp ?_
      exact ⟨(some (l.getD i Jx),nx1+1),(if_neg ha2).symm,Jh _ _ rfl rfl (List.Sublist.refl _) (List.Sublist.refl _) (BxLe.refl _) (PmEq.refl _) ⟨AVle.refl _,AVle.refl _,AVle.refl _,AVle.refl _,AVle.refl _,AVle.refl _,AVle.refl _,AVle.refl _,trivial⟩⟩
     ·have ha2:a=2:=by
       have:=of_decide_eq_true (p:=(a:Int)=2) hc6.symm
       omega
      refine stp ?_
      refine Jd rfl rfl hn ⟨AVle.refl _,trivial⟩ fun nx2=> ?_
      have hab:Jks a (l.getD i Jx)=JgA (l.getD i Jx):=if_pos ha2
      rw [hab]
      cases JgA (l.getD i Jx) with
      | none=>
        refine stp ?_
        exact ⟨(none,nx2),rfl,Jh _ _ rfl rfl (List.Sublist.refl _) (List.Sublist.refl _) (BxLe.refl _) (PmEq.refl _) ⟨AVle.refl _,AVle.refl _,AVle.refl _,AVle.refl _,AVle.refl _,AVle.refl _,AVle.refl _,AVle.refl _,trivial⟩⟩
      | some q=>
        refine stp ?_
        exact ⟨(some q,nx2),rfl,Jh _ _ rfl rfl (List.Sublist.refl _) (List.Sublist.refl _) (BxLe.refl _) (PmEq.refl _) ⟨AVle.refl _,AVle.refl _,AVle.refl _,AVle.refl _,AVle.refl _,AVle.refl _,AVle.refl _,AVle.refl _,trivial⟩⟩
    ·rintro ⟨oq,nx3⟩ hoq
     dsimp only at hoq
     rw [← hoq] at hL
     cases oq with
     | none=>
       dsimp only at hL
       refine stp ?_
       exact back (i+1,L,oi,nx3) ⟨hi,hL,h2,by dsimp only;omega⟩ (by dsimp only;omega) (Jh _ _ rfl rfl (.cons _ (List.Sublist.refl _)) (List.Sublist.refl _) trivial (PmEq.refl _) ⟨AVle.refl _,AVle.refl _,AVle.refl _,AVle.refl _,AVle.refl _,Jk (Js (by first | omega | (dsimp only;omega))),trivial⟩)
     | some q=>
       dsimp only at hL
       have hqc:=(JuF hoq.symm).1
       have hcq:=JnF q.conds (by omega)
       refine stp ?_
       refine Jah 9 (Jsb nx1 (some q)) (fun i=> match i with | 8=> true | _=> false) (fun i=> match i with | 3=> true | _=> false) [0,1,2,3,4,5,6,7,8] (by kernel_rfl) (by kernel_rfl) (HB.refl _) ?_
       refine stp ?_
       refine ⟨_,Jae rfl rfl rfl hcq ⟨AVle.refl _,trivial⟩ (Jis _), ?_⟩
       refine stp ?_
       refine ⟨_,JfP (e:=118) (c:=2) (pm:= []) (n:=L.length) (oi:=nmd oi) (sz:=2) (f:=Jcv L) (HB.refl _) rfl rfl rfl (.inr ⟨_,rfl⟩) (by kernel_rfl) (by kernel_rfl) (by kernel_rfl) (.inr rfl) (by kernel_rfl) (List.append_nil _).symm (JO rfl) (by rw [JjV];omega) (by omega),fun r h' hr=> ?_⟩
       obtain ⟨rfl,rfl⟩:=hr
       refine stp ?_
       intro c e;cases c
       ·have hne:¬q.conds.length=0:=fun h=> by
         have:=of_decide_eq_false (p:=(q.conds.length:Int)=0) e.symm
         omega
        rw [if_neg hne] at hL
        refine stp ?_
        exact back (i+1,L++ [q],some nx3,nx3+1) ⟨hi,by dsimp only;rw [List.append_assoc];exact hL,(fun h=> by cases h),by dsimp only;rw [List.length_append,List.length_singleton];omega⟩ (by dsimp only;omega) (Jh (bx:= []) (pm:= [((0,nx3),(L++ [q]).length * 2)]) _ _ rfl rfl (.cons _ (List.Sublist.refl _)) (List.Sublist.refl _) trivial ⟨rfl,by rw [List.length_append];rfl,trivial⟩ ⟨AVle.refl _,AVle.refl _,JgH (e:=Jcu) rfl rfl,AVle.refl _,AVle.refl _,Jk (Js (by first | omega | (dsimp only;omega))),trivial⟩)
       ·have he:q.conds.length=0:=by
         have:=of_decide_eq_true (p:=(q.conds.length:Int)=0) e.symm
         omega
        rw [if_pos he] at hL
        refine stp ?_
        exact ⟨(L++ [q],some nx3,nx3+1),⟨hL,(fun h=> by cases h),by dsimp only;rw [List.length_append,List.length_singleton];omega⟩,Jh (bx:= []) (pm:= [((0,nx3),(L++ [q]).length * 2)]) _ _ rfl rfl (.cons _ (List.Sublist.refl _)) (List.Sublist.refl _) trivial ⟨rfl,by rw [List.length_append];rfl,trivial⟩ ⟨AVle.refl _,AVle.refl _,JgH (e:=Jcu) rfl rfl,trivial⟩⟩
 ·rintro ⟨L,oi,nx1⟩ ⟨hL,h2,h3⟩
  dsimp only at hL h2 h3
  refine stp ?_
  refine JN (fun y:Nat×Nat=> mk 62 [(2,u32 (d:Nat)),(7, .sl 2 y.1 (Jcv L))] ⟨[], [],y.2,0⟩)
   (fun y=> y.1≤L.length∧Jkt d L=Jkt d (L.take y.1)) (fun y=> y.1) ?_ ?_
  ·exact ⟨(L.length,nx1),⟨Nat.le_refl _,by rw [List.take_length]⟩,Jh (pm:= []) (bx:= []) _ [] rfl rfl (List.Sublist.refl _) (List.nil_sublist _) trivial trivial ⟨AVle.refl _,AVle.os_sl,trivial⟩⟩
  ·rintro ⟨m,nx2⟩ ⟨hm,hcut⟩
   dsimp only at hm hcut
   refine stp ?_
   intro c g;cases c
   ·have g:=JC g
    try dsimp only at g
    have hm0:m=0:=by omega
    subst hm0
    have hS:JaH a l d= []:=by unfold JaH;rw [← hL,hcut];rfl
    rw [hS]
    refine stp ?_
    exact Jl rfl trivial (AVle.sl_fun fun k hk=> absurd hk (Nat.not_lt_zero k))
   ·have g:=JD g
    try dsimp only at g
    have hm0:0 < m:=by omega
    have hm1:IntKind.i64.wrap ((m:Int) - 1)=((m - 1:Nat):Int):=by rw [JaX (by omega) (by omega)];omega
    have htk:L.take m=L.take (m - 1)++ [L.getD (m - 1) Jx]:=by
     obtain ⟨k,rfl⟩:∃k,m=k+1:=⟨m - 1,by omega⟩
     exact Jb1 Jx (by omega)
    refine stp ?_
    refine ⟨⟨JcW (i:=m - 1) hm1,Jdb (i:=m - 1) hm1 (by omega)⟩,JI (b:= .rp (Jcu (L.getD (m - 1) Jx)).cells) (congrArg (fun z:Int=> AV.rp (Jcv L z.toNat).cells) hm1) ?_⟩
    refine stp ?_
    intro c e;cases c
    ·have e:¬(L.getD (m - 1) Jx).code=d:=fun h=> by
      have:=of_decide_eq_false (p:=((L.getD (m - 1) Jx).code:Int)=d) e.symm
      omega
     rw [htk,Jlk,if_neg e,← htk] at hcut
     have hS:JaH a l d=L.take m:=by unfold JaH;rw [← hL,hcut]
     rw [hS]
     refine stp ?_
     exact Jl rfl trivial (JtA hm)
    ·have e:(L.getD (m - 1) Jx).code=d:=by
      have:=of_decide_eq_true (p:=((L.getD (m - 1) Jx).code:Int)=d) e.symm
      omega
     rw [htk,Jlk,if_pos e] at hcut
     refine stp ?_
     refine ⟨⟨JcW (i:=m - 1) hm1,by rw [hm1];dsimp only;omega⟩,JI (b:= .sl 2 (m - 1) (Jcv L)) (congrArg (fun z:Int=> AV.sl 2 z.toNat (Jcv L)) hm1) ?_⟩
     refine stp ?_
     exact back (m - 1,nx2) ⟨by dsimp only;omega,hcut⟩ (by dsimp only;omega) (Jh _ _ rfl rfl (List.Sublist.refl _) (List.Sublist.refl _) trivial trivial ⟨AVle.refl _,AVle.refl _,trivial⟩)
end Go.Proofs.W
