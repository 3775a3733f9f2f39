import Derived.Test.YtmipfkagmedcnaaGreatDoorJD
import Derived.Test.YtmipfkagmedcnaaGreatDoorJC
import Derived.Ground.NamesProg
import Derived.Shelf.Lay
import Derived.Shelf.Small.Bits
import Derived.Lib.ItoaNum
import Derived.Sort.LotA
import Derived.Shelf.SortM.Plain
import Derived.Shelf.SortM.SortNone
import Derived.Shelf.SlGeneric
import Derived.Ground.SlgmProg
import Derived.Shelf.Strconv.Itoa3
import Derived.Test.YtmipfkagmedcnaaGreatDoorProg
set_option linter.unusedVariables false
set_option linter.unusedSimpArgs false
namespace Go.Proofs.W
open Go.Vl Go.Shelf
set_option maxRecDepth 100000
def JwD (p:ByteArray×Nat):List AV:= [int p.2,Jh p.1]
theorem JgD {pre post:List ByteArray} {x:ByteArray} (h: [Ja7,lineB]=pre++x::post):(pre= []∧x=Ja7∧post= [lineB])∨(pre= [Ja7]∧x=lineB∧post= []):=by
 match pre,h with
 | [],h=> cases h;exact .inl ⟨rfl,rfl,rfl⟩
 | [_],h=> cases h;exact .inr ⟨rfl,rfl,rfl⟩
 | _::_::pre,h=> simp at h
theorem Jy8:Tells Tryz.prog 251 [Jh Ja7,Jh ⟨#[35]⟩] (.tup [Jh Ja7,Jh ⟨#[]⟩,Jb false]):=Jmt Ja7 35 (by rw [Lib.toList_data,Lib.toList_data];decide) Dc
theorem Jy9:Tells Tryz.prog 251 [Jh lineB,Jh ⟨#[35]⟩] (.tup [Jh lineB,Jh ⟨#[]⟩,Jb false]):=Jmt lineB 35 (by rw [Lib.toList_data,Lib.toList_data];decide) Dc
set_option maxHeartbeats 4000000 in
theorem JrY:Jlp Tryz.prog 249 [] [.rp [Jh textAB]] JwD [(Ja7,1),(lineB,2)] []:=by
 intro i σ Cb Cp I hc s0 nx nn h0
 refine ECall.wk (J0 Tryz.func249 rfl rfl ?_)
 refine AW.le (E':=mk 21 [(0, .yl i),(1, .rp [Jh textAB])] ⟨Cb s0,Cp s0,nx,0⟩ (some [])) (Et rfl rfl Bf Pf ⟨Rf,Rf,trivial⟩) ?_
 refine stp ?_
 refine Jgz (xs:= [Jh textAB,Jh ⟨#[10]⟩]) (bx1:= []) (pm1:= []) (((1,nx+1), .c [int 0])::((0,nx), .c [.yl i])::Cb s0) (Cp s0) 13 rfl rfl rfl (List.append_nil _).symm ⟨Rf,Rf,trivial⟩ (Jnj textAB ⟨#[10]⟩ (nx+2)) Bf Pf rfl fun r h' hq=> ?_
 obtain ⟨rfl,rfl⟩:=hq
 refine JW ?_
 refine AW.le (E':=mk 21 [(2, .bp (0,nx) 0),(3, .bp (1,nx+1) 0),(6,JoL (nx+2))] ⟨JcI (nx+2) textAB ⟨#[10]⟩++(((1,nx+1), .c [int 0])::((0,nx), .c [.yl i])::Cb s0),Cp s0,nx+5,13⟩ (some [])) (Et rfl rfl Bf (by rw [List.append_nil];exact Pf) ⟨Rf,Rf,Rf,trivial⟩) ?_
 refine JW ?_
 refine Jqy (σ:=σ×Nat) (e:=fun s:ByteArray=> [Jh s]) (xs:= [Ja7,lineB]) (first':= []) (caps':= [.bp (11,nx+2+1) 0, .bp (10,nx+2) 0, .bp (12,nx+2+2) 0]) (JcI (nx+2) textAB ⟨#[10]⟩) (fun y=> ((1,nx+1), .c [int y.2])::((0,nx), .c [.yl i])::Cb y.1) (fun y=> Cp y.1) (fun pre y=> y.2=pre.length∧I (pre.zipIdx 1) y.1) (s0,0) rfl rfl (JrX (nx+2)) (LeL.refl _) (LeL.refl _) rfl rfl ⟨rfl,h0⟩ (fun _=> rfl) ?_ ?_
 ·rintro pre x post ⟨s,n⟩ nx3 nn3 hx ⟨hn,hI⟩
  dsimp only at hn hI
  have hcut:Tells Tryz.prog 251 [Jh x,Jh ⟨#[35]⟩] (.tup [Jh x,Jh ⟨#[]⟩,Jb false]):=by
   rcases JgD hx with ⟨_,rfl,_⟩ | ⟨_,rfl,_⟩
   ·exact Jy8
   ·exact Jy9
  have hlen:pre.length≤1:=by rcases JgD hx with ⟨rfl,_⟩ | ⟨rfl,_⟩ <;> decide
  have hX: [(Ja7,1),(lineB,2)]=pre.zipIdx 1++(x,n+1)::post.zipIdx (pre.length+2):=by
   rw [hn]
   rcases JgD hx with ⟨rfl,rfl,rfl⟩ | ⟨rfl,rfl,rfl⟩ <;> rfl
  have hI2:(pre++ [x]).zipIdx 1=pre.zipIdx 1++ [(x,n+1)]:=by
   rw [hn]
   rcases JgD hx with ⟨rfl,rfl,rfl⟩ | ⟨rfl,rfl,rfl⟩ <;> rfl
  refine JW ?_
  refine Jae ?_
  refine stp ?_
  refine Je rfl rfl hcut ⟨Rf,Rf,trivial⟩ fun nx4=> ?_
  refine stp ?_
  refine Jdd (pre:=pre.zipIdx 1) (x:=(x,n+1)) (post:=post.zipIdx (pre.length+2)) (s:=s) [_,_,_,_] [] rfl rfl rfl hc hX hI ⟨Jk (J4 Om),Rf,trivial⟩ (fun s' nx' hI'=> ?_) (fun s' nx' hJ=> hJ.elim)
  refine stp ?_
  refine ⟨(s',n+1), .inl ⟨rfl,by simp [hn],by rw [hI2];exact hI'⟩, ?_,rfl⟩
  have e:IntKind.i64.wrap ((n:Int)+1)=((n+1:Nat):Int):=J4 Om
  show _=_::_::((1,nx+1),Own.c [int ((n+1:Nat):Int)])::((0,nx),Own.c [.yl i])::Cb s'
  rw [← e]
  rfl
 ·rintro ⟨s',n⟩ nx3 nn3 ⟨hn,hI⟩
  dsimp only at hn hI
  refine stp ?_
  refine Jac rfl ⟨_,⟨Cb s',Cp s',nx3,0⟩,Rf, ?_,s',hI,rfl,rfl⟩
  exact JM _ _ rfl (.cons _ (.cons _ (.cons _ Sf))) Sf Bf Pf
end Go.Proofs.W

namespace Go.Proofs.W
open Go.Vl Go.Shelf
set_option maxRecDepth 100000
def Jcw:ByteArray:=⟨#[100,101,102,97,117,108,116]⟩
def JdW:ByteArray:=⟨#[107,105,108,108]⟩
def JcT:ByteArray:=⟨#[114,101,97,100]⟩
def JcZ:ByteArray:=⟨#[97,108,108,111,119]⟩
def JQ (l:List ByteArray):AV:= .sl 1 l.length fun k=> .v ((l.map Value.string).getD k undef)
def JnC (p:Nat×List ByteArray):AV:= .ag [int p.1,JQ p.2]
def JtJ (L:List (Nat×List ByteArray)):AV:= .sl 2 L.length fun k=> JnC (L.getD k (0, []))
def JeY (s:ByteArray):List ByteArray:=Lib.goFieldsP Jd7 s
theorem JlB:JeY Ja7= [Jcw,JdW]:=by decide+kernel
theorem JlC:JeY lineB= [JcT,JcZ]:=by decide+kernel
theorem Jx6:JoK Ja7:=by
 intro i hi
 have hi:i < 12:=hi
 rcases (by omega:i=0∨i=1∨i=2∨i=3∨i=4∨i=5∨i=6∨i=7∨i=8∨i=9∨i=10∨i=11) with rfl | rfl | rfl | rfl | rfl | rfl | rfl | rfl | rfl | rfl | rfl | rfl <;> decide
theorem Jx7:JoK lineB:=by
 intro i hi
 have hi:i < 10:=hi
 rcases (by omega:i=0∨i=1∨i=2∨i=3∨i=4∨i=5∨i=6∨i=7∨i=8∨i=9) with rfl | rfl | rfl | rfl | rfl | rfl | rfl | rfl | rfl | rfl <;> decide
def JvC (L:List (ByteArray×Nat)):List (Nat×List ByteArray):=L.map fun p=> (p.2,JeY p.1)
def JvD (L:List (ByteArray×Nat)) (k:Nat):AV:=JnC ((JvC L).getD k (0, []))
theorem Jkz:Tryz.prog.bytesOf 211=32:=by kernel_rfl
theorem JrZ {pre post:List (ByteArray×Nat)} {x:ByteArray×Nat} (h: [(Ja7,1),(lineB,2)]=pre++x::post):(pre= []∧x=(Ja7,1))∨(pre= [(Ja7,1)]∧x=(lineB,2)):=by
 match pre,h with
 | [],h=> cases h;exact .inl ⟨rfl,rfl⟩
 | [_],h=> cases h;exact .inr ⟨rfl,rfl⟩
 | _::_::pre,h=> simp at h
set_option maxHeartbeats 4000000 in
theorem Jnk:Tells Tryz.prog 97 [Jh textAB] (.tup [JtJ (JvC [(Ja7,1),(lineB,2)]),int 0,int 0]):=by
 refine Jf Tryz.func97 rfl rfl fun nx=> ?_
 refine stp ?_
 refine Je rfl rfl (JrW textAB) ⟨Rf,trivial⟩ fun nx2=> ?_
 refine JW ?_
 refine AW.le (E':=mk 32 [(2, .bp (0,nx) 0),(3, .bp (1,nx+1) 0),(4, .bp (2,nx+2) 0),(5, .bp (3,nx+3) 0),(13, .fn (.func 249) [] [.rp [Jh textAB]])] ⟨[((3,nx+3), .c [.os 2 0 (JvD []) none]),((2,nx+2), .c [int 0]),((1,nx+1), .c [int 0]),((0,nx), .c [.os 0 0 (fun _=> .any) none])], [],nx2,4⟩ (some [])) (Et rfl rfl ⟨rfl,⟨AVle.os_nil,trivial⟩,Bf⟩ trivial ⟨Rf,Rf,Rf,Rf,Rf,trivial⟩) ?_
 refine JW ?_
 refine Jqy (σ:=Nat×(Nat→AV)×Option Vl.Id) (e:=JwD) (xs:= [(Ja7,1),(lineB,2)]) (first':= []) (caps':= [.rp [Jh textAB]]) [] (fun y=> [((3,nx+3), .c [.os 2 y.1 y.2.1 y.2.2]),((2,nx+2), .c [int 0]),((1,nx+1), .c [int 0]),((0,nx), .c [.os 0 0 (fun _=> .any) none])]) (fun y=> JbH y.2.2 (y.1 * 2)) (fun pre y=> y.1=pre.length∧(∀k,k < y.1→y.2.1 k=JvD pre k)∧(y.2.2=none→pre= [])) (0,JvD [],none) rfl rfl JrY (LeL.refl _) (LeL.refl _) rfl rfl ⟨rfl,fun _ _=> rfl,fun _=> rfl⟩ (fun _=> rfl) ?_ ?_
 ·rintro pre x post ⟨L,f,oi⟩ nx3 nn3 hx ⟨hL,hf0,ho⟩
  dsimp only at hL hf0 ho
  subst hL
  rcases JrZ hx with ⟨rfl,rfl⟩ | ⟨rfl,rfl⟩
  ·have hp:=Jkx Ja7 Jx6 Dc
   have hf:Tells Tryz.prog 177 [Jh Ja7, .fn (.func 178) [] []] (JQ [Jcw,JdW]):=by rw [← JlB];exact Jje Ja7 Dc
   refine JW ?_
   refine Jae ?_
   refine stp ?_
   refine Je rfl rfl hp ⟨Rf,trivial⟩ fun nx4=> ?_
   refine stp ?_
   refine Je rfl rfl hf ⟨Rf,Rf,trivial⟩ fun nx5=> ?_
   refine JW ?_
   refine Jae ?_
   refine JW ?_
   refine JU (fun n=> match n with | 0=> true | _=> false) 6 ?_
   refine stp ?_
   refine Jfe (e:=211) (c:=2) (pm:= []) (n:=0) (oi:=oi) (sz:=2) (f:=f) rfl rfl (.inr ⟨_,rfl⟩) (by kernel_rfl) (by kernel_rfl) (by kernel_rfl) (.inr rfl) (by kernel_rfl) (List.append_nil _).symm (JC rfl) (by rw [Jkz];decide) Dc ?_
   refine stp ?_
   refine ⟨(0+1,_,some (nn3,nx5)), .inl ⟨rfl,rfl,fun k hk=> ?_,fun h=> by cases h⟩,rfl,rfl⟩
   obtain rfl:k=0:=Nat.lt_one_iff.1 hk
   show _=JnC (1,JeY Ja7)
   rw [JlB];rfl
  ·have hp:=Jkx lineB Jx7 Dc
   have hf:Tells Tryz.prog 177 [Jh lineB, .fn (.func 178) [] []] (JQ [JcT,JcZ]):=by rw [← JlC];exact Jje lineB Dc
   refine JW ?_
   refine Jae ?_
   refine stp ?_
   refine Je rfl rfl hp ⟨Rf,trivial⟩ fun nx4=> ?_
   refine stp ?_
   refine Je rfl rfl hf ⟨Rf,Rf,trivial⟩ fun nx5=> ?_
   refine JW ?_
   refine Jae ?_
   refine JW ?_
   refine JU (fun n=> match n with | 0=> true | _=> false) 6 ?_
   refine stp ?_
   refine Jfe (e:=211) (c:=2) (pm:= []) (n:=1) (oi:=oi) (sz:=2) (f:=f) rfl rfl (.inr ⟨_,rfl⟩) (by kernel_rfl) (by kernel_rfl) (by kernel_rfl) (.inr rfl) (by kernel_rfl) (List.append_nil _).symm (JC rfl) (by rw [Jkz];decide) Dc ?_
   refine stp ?_
   refine ⟨(1+1,_,some (nn3,nx5)), .inl ⟨rfl,rfl,fun k hk=> ?_,fun h=> by cases h⟩,rfl,rfl⟩
   refine Jb8 (fun k hk=> ?_) ?_ k hk
   ·obtain rfl:k=0:=Nat.lt_one_iff.1 hk
    exact hf0 0 Dc
   ·show _=JnC (2,JeY lineB)
    rw [JlC];rfl
 ·rintro ⟨L,f,oi⟩ nx3 nn3 ⟨hL,hf0,ho⟩
  dsimp only at hL hf0 ho
  subst hL
  refine stp ?_
  exact Jj rfl ⟨⟨rfl,Nat.zero_lt_one⟩,⟨rfl,Nat.zero_lt_one⟩,⟨rfl,Nat.zero_lt_one⟩,trivial⟩ (AVle.tups (cs:= [_,_,_]) ⟨(AVle.os_fun hf0).trans AVle.os_sl,Rf,Rf,trivial⟩)
end Go.Proofs.W

namespace Go.Proofs.W
open Go.Vl
set_option maxRecDepth 100000
def kb (k:Nat):Nat:= [2147483648,0,196608,327680,2143289344,2146435072,2147221504,2147418112].getD k 0
def km (k:Nat):Nat:=if k=3 then 4095 else if k=5 then 65535 else 0
theorem Jx8 (k:Nat) (h:k < 8):∃s m,Jdo JfO k= .ag [.v (.string s), .v (.int .u32 (kb k)),m]∧Tells Tryz.prog 242 [Jdo JfO k] (int (km k)):=by
 have key:=Jhu k h
 rcases k with _ | _ | _ | _ | _ | _ | _ | _ | k
 ·exact ⟨_,_,rfl,JcC _ _⟩
 ·exact ⟨_,_,rfl,JcC _ _⟩
 ·exact ⟨_,_,rfl,JcC _ _⟩
 ·exact ⟨_,_,rfl,JgB _ _ 4096 Dc⟩
 ·exact ⟨_,_,rfl,JcC _ _⟩
 ·exact ⟨_,_,rfl,JgB _ _ 65536 Dc⟩
 ·exact ⟨_,_,rfl,JcC _ _⟩
 ·exact ⟨_,_,rfl,JcC _ _⟩
 ·omega
theorem Jr0 {k:Nat} (h:k < 8):kb k+km k < 4294967296:=by
 rcases k with _ | _ | _ | _ | _ | _ | _ | _ | k
 all_goals first | decide | omega
end Go.Proofs.W

namespace Go.Proofs.W
open Go.Vl
set_option maxRecDepth 100000
def JwE (w:ByteArray):AV:= .fn (.func 373) [] [.rp [JQ [w]]]
def Jx9 (j:Nat):ByteArray:=match Jdo JfO j with
 | .ag (.v (.string s)::_)=> s
 | _=> ⟨#[]⟩
def eqW (w:ByteArray) (j:Nat):Bool:=(Jx9 j).toList ==w.toList
def JiL (w:ByteArray):Option Nat:=(List.range 8).find? (eqW w)
theorem Jr1 (w s:ByteArray) (c:Int) (m:AV) (hm:m= .v .nilFunc∨∃n,m=Jfo n):Tells Tryz.prog 373 [.ag [.v (.string s), .v (.int .u32 c),m], .rp [JQ [w]]] (Jb (s.toList ==w.toList)):=by
 refine Jf Tryz.func373 rfl rfl fun nx=> ?_
 rcases hm with rfl | ⟨n,rfl⟩
 all_goals
  refine stp ?_
  (refine JY 7 ?_ ?_ ?_ ?_;(· kernel_rfl);(· kernel_rfl);(· kernel_rfl))
  refine stp ?_
  refine ⟨⟨by decide,(show (0:Int) < 1 by decide)⟩, ?_⟩
  refine stp ?_
  intro c hc
  subst hc
  refine stp ?_
  exact Jd rfl Rf
set_option maxHeartbeats 1000000 in
theorem JtK (w:ByteArray):Tells Tryz.prog 372 [JrQ,JwE w] (int (JdI (JiL w))):=by
 refine Jf Tryz.func372 rfl rfl fun nx=> ?_
 refine stp ?_
 refine Jx (fun s:Nat×Nat=> mk 19 [(0,JrQ),(1,JwE w),(7,int 8),(8,int s.1)] ⟨[], [],s.2,0⟩) (fun s=> s.1≤8∧∀j,j < s.1→eqW w j=false) (fun s=> 8 - s.1) ?_ ?_
 ·exact ⟨(0,nx),⟨by simp,by intro j hj;simp at hj⟩,Jaz rfl rfl ⟨Rf,Rf,Rf,Rf,trivial⟩⟩
 ·rintro ⟨i,nx⟩ ⟨h1,h2⟩
  dsimp only at h1 h2
  by_cases hi:i < 8
  ·obtain ⟨s,c0,m,hr1,h4,_⟩:=Jhu i hi
   have hT:=Jr1 w s c0 m h4
   have hes:(s.toList ==w.toList)=eqW w i:=by unfold eqW Jx9;rw [hr1]
   rw [hes] at hT
   rcases h4 with rfl | ⟨n',rfl⟩
   all_goals
    refine stp ?_
    intro c h3;cases c
    ·exact absurd (Jt h3) Dm
    refine stp ?_
    refine ⟨⟨by dsimp only;omega,by dsimp only;omega⟩,Jr (b:= .rp [.v (.string s), .v (.int .u32 c0),_]) (by show AV.rp (Jdo JfO i).cells=_;rw [hr1];rfl) ?_⟩
    refine stp ?_
    refine Je rfl rfl hT ⟨Rf,Rf,trivial⟩ fun nx'=> ?_
    intro c h4;cases c
    ·refine stp ?_
     refine back (i+1,nx') ⟨by dsimp only;omega,fun j hj=> ?_⟩ Dm (Jaz rfl rfl ⟨Rf,Rf,Rf,Jk (J4 Dm),trivial⟩)
     dsimp only at hj
     rcases Nat.lt_or_ge j i with h | h
     ·exact h2 j h
     ·obtain rfl:j=i:=by omega
      exact h4.symm
    ·refine stp ?_
     refine Jd rfl (Jk ?_)
     have:JiL w=some i:=by
      unfold JiL
      rw [List.find?_range_eq_some]
      exact ⟨h4.symm,by simp;omega,fun j hj=> by rw [h2 j hj];rfl⟩
     rw [this];rfl
  ·obtain rfl:i=8:=by omega
   refine stp ?_
   refine Jd rfl (Jk ?_)
   have:JiL w=none:=by
    unfold JiL
    rw [List.find?_range_eq_none]
    intro j hj
    rw [h2 j hj];rfl
   rw [this];rfl
set_option maxHeartbeats 1000000 in
theorem Jmu (w s:ByteArray) (k:Nat) (c:Int) (hw:JiL w=some k) (hk:k < 8) (hr:Jdo JfO k= .ag [.v (.string s), .v (.int .u32 c), .v .nilFunc]):Tells Tryz.prog 306 [JQ [w]] (.tup [act (k+1:Nat) 0,int 1,int 0]):=by
 have hx:=JtK w
 rw [hw] at hx
 have ho:=JoB k hk
 rw [hr] at ho
 refine Jf Tryz.func306 rfl rfl fun nx=> ?_
 (refine JW ?_;refine Jae ?_;refine JW ?_)
 refine JbD (n:=60) (nx:=nx+2) (nn:=2) (pm:= []) (bx:= [((1,nx+1), .c [int 0,int 0])]) (L:= [(1, .rp [JQ [w]]),(2, .bp (1,nx+1) 0),(3,int 0),(4,int 0)]) (df:=some []) [((0,nx), .c [JQ [w]])] rfl rfl rfl (List.Perm.swap _ _ _) Sf ⟨Frz.bp (.head _) rfl,Frz.refl _,Frz.refl _,Frz.refl _,trivial⟩ ?_
 refine stp ?_
 refine Je rfl rfl JjG trivial fun nx1=> ?_
 refine stp ?_
 refine Je rfl rfl hx ⟨Rf,Rf,trivial⟩ fun nx2=> ?_
 refine stp ?_
 refine Je rfl rfl ho ⟨Jk (by show IntKind.i64.wrap (1+(k:Int))=_;rw [Jai Om Om];omega),trivial⟩ fun nx3=> ?_
 refine stp ?_
 exact Jj rfl ⟨rfl,trivial⟩ (AVle.tups (cs:= [_,_,_]) ⟨AVle.ags (cs:= [_,_]) ⟨Jk (by show IntKind.i64.wrap (1+(k:Int))=_;rw [Jai Om Om];omega),Rf,trivial⟩,Rf,Rf,trivial⟩)
theorem JtL:Tells Tryz.prog 306 [JQ [JdW]] (.tup [act 1 0,int 1,int 0]):=Jmu JdW _ 0 _ (by decide+kernel) Dc rfl
theorem Jr2:Tells Tryz.prog 306 [JQ [JcZ]] (.tup [act 8 0,int 1,int 0]):=Jmu JcZ _ 7 _ (by decide+kernel) Dc rfl
end Go.Proofs.W

namespace Go.Proofs.W
open Go.Vl
set_option maxRecDepth 100000
theorem Jjf (s:ByteArray) (hs:s.size≤9223372036854775807):Tells Tryz.prog 243 [Jh s] (Jb (Jay s.data.toList)):=by
 have key:∀b,Jay s.data.toList=b→Tells Tryz.prog 243 [Jh s] (Jb b):=fun b hb=> by
  have hr:=Jnh s hs b hb
  refine Jf Tryz.func243 rfl rfl fun nx=> ?_
  refine stp ?_
  refine Je rfl rfl hr ⟨?_,trivial⟩ fun nx1=> ?_
  ·refine AVle.os_sl.trans (AVle.sl_fun fun k hk=> ?_)
   match k,hk with
   | 0,_=> rfl
  cases b
  ·refine stp ?_
   exact Jd rfl Rf
  ·refine stp ?_
   exact Jd rfl Rf
 exact key _ rfl
theorem JoM (c:Cnd):Tells Tryz.prog 244 [JG c] (Jb (!JK c)):=by
 have key:∀b,JK c=b→Tells Tryz.prog 244 [JG c] (Jb (!b)):=fun b hb=> by
  have hr:=JdV c
  rw [hb] at hr
  refine Jf Tryz.func244 rfl rfl fun nx=> ?_
  refine stp ?_
  refine Je rfl rfl hr ⟨Rf,trivial⟩ fun nx1=> ?_
  cases b
  ·refine stp ?_
   exact Jd rfl Rf
  ·refine stp ?_
   exact Jd rfl Rf
 exact key _ rfl
def Rul.ok (r:Rul):Prop:=r.name.size≤maxLen∧r.conds.length≤maxLen∧∀c∈r.conds,c.ok
def Jax (r:Rul):Bool:=Jay r.name.data.toList&& (JaI r.act.1 r.act.2&& (decide (r.conds.length≤6)&& !(r.conds.any fun c=> !JK c)))
theorem Jp5 (r:Rul) (h1:r.name.size≤9223372036854775807):Tells Tryz.prog 170 [Jap r] (Jb (Jax r)):=by
 have hn:=Jjf r.name h1
 have ha:=JjH r.act.1 r.act.2
 have hc:r.conds.length≤1000000000→Tells Tryz.prog 102 [Jam r.conds,fn0 244] (Jb (r.conds.any fun c=> !JK c)):=fun hl=> JoD r.conds (fun c=> !JK c) _ hl (fun i _=> JoM _)
 unfold Jax
 generalize Jay r.name.data.toList=b1 at hn⊢
 generalize JaI r.act.1 r.act.2=b2 at ha⊢
 generalize (r.conds.any fun c=> !JK c)=b3 at hc⊢
 obtain ⟨name,⟨k,n⟩,conds⟩:=r
 dsimp only at hn ha hc⊢
 refine Jf Tryz.func170 rfl rfl fun nx=> ?_
 refine stp ?_
 refine Je rfl rfl hn ⟨Rf,trivial⟩ fun nx1=> ?_
 cases b1
 ·refine stp ?_
  exact Jd rfl Rf
 refine stp ?_
 refine Je rfl rfl ha ⟨Rf,trivial⟩ fun nx2=> ?_
 cases b2
 ·refine stp ?_
  exact Jd rfl Rf
 refine stp ?_
 intro c t3;cases c
 ·refine stp ?_
  have e3:¬conds.length≤6:=fun h=> (Jt t3:¬((conds.length:Nat):Int)≤6) Om
  exact Jd rfl (JB (by show false=(true&& (true&& (decide (conds.length≤6)&& !b3)));rw [decide_eq_false e3];rfl))
 have h3:conds.length≤6:=by have t:((conds.length:Nat):Int)≤6:=Ju t3;omega
 have hc:=hc (show conds.length≤1000000000 by omega)
 refine stp ?_
 refine Je rfl rfl hc ⟨Rf,Rf,trivial⟩ fun nx3=> ?_
 cases b3
 ·refine stp ?_
  exact Jd rfl (JB (by first | (show true=(true&& (true&& (decide (conds.length≤6)&& !false)));rw [decide_eq_true h3];rfl) | (show true=(true&& (decide (rules.length≤500)&& !false));rw [decide_eq_true h3];rfl)))
 ·refine stp ?_
  exact Jd rfl (JB (by first | (show false=(true&& (true&& (decide (conds.length≤6)&& !true)));rw [decide_eq_true h3];rfl) | (show false=(true&& (decide (rules.length≤500)&& !true));rw [decide_eq_true h3];rfl)))
theorem JoN (r:Rul) (h1:r.name.size≤9223372036854775807):Tells Tryz.prog 169 [Jap r] (Jb (!Jax r)):=by
 have key:∀b,Jax r=b→Tells Tryz.prog 169 [Jap r] (Jb (!b)):=fun b hb=> by
  have hr:=Jp5 r h1
  rw [hb] at hr
  refine Jf Tryz.func169 rfl rfl fun nx=> ?_
  refine stp ?_
  refine Je rfl rfl hr ⟨Rf,trivial⟩ fun nx1=> ?_
  cases b
  ·refine stp ?_
   exact Jd rfl Rf
  ·refine stp ?_
   exact Jd rfl Rf
 exact key _ rfl
def JaJ (p:Pol):Bool:=JaI p.dflt.1 p.dflt.2&& (decide (p.rules.length≤500)&& !(p.rules.any fun r=> !Jax r))
def Pol.ok (p:Pol):Prop:=p.rules.length≤maxLen∧∀r∈p.rules,r.ok
theorem Jjg (p:Pol) (hp:p.ok):Tells Tryz.prog 91 [JbR p] (Jb (JaJ p)):=by
 have ha:=JjH p.dflt.1 p.dflt.2
 have hc:p.rules.length≤1000000000→Tells Tryz.prog 168 [Ji p.rules,fn0 169] (Jb (p.rules.any fun r=> !Jax r)):=fun hl=> Jvw p.rules (fun r=> !Jax r) _ hl (fun i hi=> JoN _ (by
  have:p.rules.getD i Jl∈p.rules:=by simp [List.getD,hi]
  have:=(hp.2 _ this).1
  exact Nat.le_trans this Dc))
 unfold JaJ
 generalize JaI p.dflt.1 p.dflt.2=b2 at ha⊢
 generalize (p.rules.any fun r=> !Jax r)=b3 at hc⊢
 clear hp
 obtain ⟨⟨k,n⟩,x,rules⟩:=p
 dsimp only at ha hc⊢
 refine Jf Tryz.func91 rfl rfl fun nx=> ?_
 refine stp ?_
 refine Je rfl rfl ha ⟨Rf,trivial⟩ fun nx2=> ?_
 cases b2
 ·refine stp ?_
  exact Jd rfl Rf
 refine stp ?_
 intro c t3;cases c
 ·refine stp ?_
  have e3:¬rules.length≤500:=fun h=> (Jt t3:¬((rules.length:Nat):Int)≤500) Om
  exact Jd rfl (JB (by show false=(true&& (decide (rules.length≤500)&& !b3));rw [decide_eq_false e3];rfl))
 have h3:rules.length≤500:=by have t:((rules.length:Nat):Int)≤500:=Ju t3;omega
 have hc:=hc (show rules.length≤1000000000 by omega)
 refine stp ?_
 refine Je rfl rfl hc ⟨Rf,Rf,trivial⟩ fun nx3=> ?_
 cases b3
 ·refine stp ?_
  exact Jd rfl (JB (by first | (show true=(true&& (true&& (decide (conds.length≤6)&& !false)));rw [decide_eq_true h3];rfl) | (show true=(true&& (decide (rules.length≤500)&& !false));rw [decide_eq_true h3];rfl)))
 ·refine stp ?_
  exact Jd rfl (JB (by first | (show false=(true&& (true&& (decide (conds.length≤6)&& !true)));rw [decide_eq_true h3];rfl) | (show false=(true&& (decide (rules.length≤500)&& !true));rw [decide_eq_true h3];rfl)))
def Jd8 (r:Rul):Bool:=decide (r.name.size≤60)&& decide (r.conds.length≤12)
def Jft (p:Pol):Bool:=decide (p.rules.length≤40)&& p.rules.all Jd8
end Go.Proofs.W

namespace Go.Proofs.W
open Go.Vl
set_option maxRecDepth 100000
def Jbs (s:Nat) (a b c ru wd:AV) (n:Int):List (Vl.Id×Own):= [((0,s), .c [a,b,c,ru,wd,int n])]
theorem Jfu (e:Int):Tells Tryz.prog 252 [Jb true,int e] (.tup []):=by
 refine Jf Tryz.func252 rfl rfl fun nx=> ?_
 refine stp ?_
 exact Jd rfl Rf
theorem JtM:Tells Tryz.prog 307 [int 0] (.tup []):=by
 refine Jf Tryz.func307 rfl rfl fun nx=> ?_
 refine stp ?_
 refine Je rfl rfl (Jfu 0) ⟨Rf,Rf,trivial⟩ fun nx2=> ?_
 refine stp ?_
 exact Jd rfl Rf
theorem Jmv (x:ByteArray) (l:List ByteArray):(AV.sl 1 ((x::l).length - Int.toNat 1) fun k=> (fun k=> AV.v ((List.map Value.string (x::l)).getD k undef)) (Int.toNat 1+k))=JQ l:=by
 unfold JQ
 rw [show (x::l).length - Int.toNat 1=l.length by simp]
 congr 1
 funext k
 show AV.v ((List.map Value.string (x::l)).getD (1+k) undef)=_
 rw [Nat.add_comm];rfl
theorem Jmw (s:Nat) (a b c ru:AV) (w1 w2:ByteArray) (n:Int) (nx:Nat):ECall Tryz.prog 180 [.bp (0,s) 0] ⟨Jbs s a b c ru (JQ [w1,w2]) n, [],nx,1⟩ fun r h'=> r=Jh w1∧h'=⟨Jbs s a b c ru (JQ [w2]) n, [],nx,1⟩:=by
 refine J0 Tryz.func180 rfl rfl ?_
 refine stp ?_
 refine ⟨⟨by decide,(show (0:Int) < 2 by decide)⟩, ?_⟩
 refine stp ?_
 refine ⟨⟨by decide,(show (1:Int)≤2 by decide)⟩,Jr (b:=JQ [w2]) (Jmv w1 [w2]) ?_⟩
 refine stp ?_
 exact Jac rfl ⟨rfl,rfl⟩
theorem Jjh (s:Nat) (a b c ru:AV) (w:ByteArray) (k:Int) (n:Int) (nx:Nat) (hr:Tells Tryz.prog 306 [JQ [w]] (.tup [act k 0,int 1,int 0])):ECall Tryz.prog 253 [.bp (0,s) 0] ⟨Jbs s a b c ru (JQ [w]) n, [],nx,1⟩ fun r h'=> r=act k 0∧∃nx',h'=⟨Jbs s a b c ru (JQ []) n, [],nx',1⟩:=by
 refine ECall.wk (J0 Tryz.func253 rfl rfl ?_)
 refine stp ?_
 refine Je rfl rfl hr ⟨Rf,trivial⟩ fun nx2=> ?_
 refine stp ?_
 refine Je rfl rfl JtM ⟨Rf,trivial⟩ fun nx3=> ?_
 refine stp ?_
 refine ⟨⟨by decide,(show (1:Int)≤1 by decide)⟩,Jr (b:=JQ []) (Jmv w []) ?_⟩
 refine stp ?_
 refine JeU rfl ⟨rfl,trivial⟩ ⟨act k 0,⟨Jbs s a b c ru (JQ []) n, [],nx3,1⟩,Rf, ?_,rfl,nx3,rfl⟩
 exact JM (Jbs s a b c ru (JQ []) n) [] rfl (.cons _ (.cons _ Sf)) Sf Bf Pf
theorem Jr3 (s:Nat) (a b c ru:AV) (w:ByteArray) (k:Int) (nx:Nat) (hr:Tells Tryz.prog 306 [JQ [w]] (.tup [act k 0,int 1,int 0])):ECall Tryz.prog 181 [.bp (0,s) 0] ⟨Jbs s a b c ru (JQ [w]) 0, [],nx,1⟩ fun r h'=> r= .tup []∧∃nx',h'=⟨Jbs s (int k) (int 0) c ru (JQ []) 0, [],nx',1⟩:=by
 refine ECall.wk (J0 Tryz.func181 rfl rfl ?_)
 refine stp ?_
 refine Je rfl rfl (Jfu 13) ⟨Rf,Rf,trivial⟩ fun nx2=> ?_
 refine stp ?_
 refine Jgz (xs:= [.bp (0,s) 0]) (bx1:=Jbs s a b c ru (JQ [w]) 0) (pm1:= []) [] [] 1 rfl rfl rfl rfl ⟨Rf,trivial⟩ (Jjh s a b c ru w k 0 nx2 hr) Bf Pf rfl fun r h' hq=> ?_
 obtain ⟨rfl,nx3,rfl⟩:=hq
 refine stp ?_
 refine Je rfl rfl (Jfu 13) ⟨Rf,Rf,trivial⟩ fun nx4=> ?_
 refine stp ?_
 refine JeU rfl trivial ⟨.tup [],⟨Jbs s (int k) (int 0) c ru (JQ []) 0, [],nx4,1⟩,Rf, ?_,rfl,nx4,rfl⟩
 exact JM (Jbs s (int k) (int 0) c ru (JQ []) 0) [] rfl Sf Sf Bf Pf
end Go.Proofs.W

namespace Go.Proofs.W
open Go.Vl
set_option maxRecDepth 100000
def Jbt:AV:= .os 0 0 (fun _=> .any) none
theorem Jp6:Tryz.prog.bytesOf 123=56:=by kernel_rfl
set_option maxHeartbeats 4000000 in
theorem JtN (s:Nat) (a b c:AV) (nm w:ByteArray) (k:Int) (nx:Nat) (hn:Jay nm.data.toList=true) (hs:nm.size≤1000) (hr:Tells Tryz.prog 306 [JQ [w]] (.tup [act k 0,int 1,int 0])):
 ECall Tryz.prog 184 [.bp (0,s) 0,Jh nm] ⟨Jbs s a b c Jbt (JQ [w]) 1, [],nx,1⟩ fun r h'=> r= .tup []∧∃st nx',h'=⟨Jbs s a b c (.os 4 1 (fun _=> Jap ⟨nm,(k,0), []⟩) (some (0,st))) (JQ []) 1, [((0,st),4)],nx',1⟩:=by
 have hnm:=Jjf nm Om
 rw [hn] at hnm
 refine ECall.wk (J0 Tryz.func184 rfl rfl ?_)
 refine stp ?_
 refine Je rfl rfl hnm ⟨Rf,trivial⟩ fun nx2=> ?_
 refine stp ?_
 refine Je rfl rfl (Jfu 13) ⟨Rf,Rf,trivial⟩ fun nx3=> ?_
 refine stp ?_
 refine Je rfl rfl (Jfu 3) ⟨Rf,Rf,trivial⟩ fun nx4=> ?_
 refine stp ?_
 refine Jgz (xs:= [.bp (0,s) 0]) (bx1:=Jbs s a b c Jbt (JQ [w]) 1) (pm1:= []) [] [] 1 rfl rfl rfl rfl ⟨Rf,trivial⟩ (Jjh s a b c Jbt w k 1 nx4 hr) Bf Pf rfl fun r h' hq=> ?_
 obtain ⟨rfl,nx5,rfl⟩:=hq
 refine stp ?_
 refine Jx (fun y:Nat=> mk 67 [(0, .bp (0,s) 0),(1,Jh nm),(4, .bp (1,nx5) 0)] ⟨((1,nx5), .c [Jh nm,int k,int 0,Jam []])::Jbs s a b c Jbt (JQ []) 1, [],y,2⟩) (fun _=> True) (fun _=> 0) ?_ ?_
 ·exact ⟨nx5+1,trivial,Et (pm:= []) (bx:=((1,nx5), .c [Jh nm,int k,int 0,Jam []])::Jbs s a b c Jbt (JQ []) 1) rfl rfl ⟨rfl,⟨Rf,Rf,Rf,AVle.os_sl0,trivial⟩,Bf⟩ trivial ⟨Rf,Rf,Rf,trivial⟩⟩
 ·rintro nx6 -
  refine stp ?_
  refine J1 9 (((1,nx5), .c [Jh nm,int k,int 0,Jam []])::Jbs s a b c Jbt (JQ []) 1) (fun i=> match i with | 8=> true | _=> false) (fun _=> false) [0,1,2,3,4,5,6,7,8] (by kernel_rfl) (by kernel_rfl) (HB.refl _) ?_
  refine stp ?_
  refine ⟨_,Jbe (e:=123) (c:=4) (pm:= []) (n:=0) (oi:=none) (sz:=0) (f:=fun _=> .any) (HB.refl _) rfl rfl rfl (.inr ⟨_,rfl⟩) (by kernel_rfl) (by kernel_rfl) (by kernel_rfl) (.inl ⟨rfl,rfl⟩) (by kernel_rfl) rfl (JC rfl) (by rw [Jp6];decide) Dc,fun r h' hr=> ?_⟩
  obtain ⟨rfl,rfl⟩:=hr
  refine stp ?_
  refine JeU rfl trivial ⟨.tup [],⟨Jbs s a b c (.os 4 1 (fun _=> Jap ⟨nm,(k,0), []⟩) (some (0,nx6))) (JQ []) 1, [((0,nx6),4)],nx6+1,1⟩,Rf, ?_,rfl,nx6,nx6+1,rfl⟩
  exact JM (Jbs s a b c (.os 4 1 (JcP 0 (fun _=> .any) _) (some (2,nx6))) (JQ []) 1) [((2,nx6),4)] rfl (.cons _ Sf) Sf ⟨rfl,⟨Rf,Rf,Rf,(AVle.os_fun (fun i hi=> by obtain rfl:i=0:=Nat.lt_one_iff.1 hi;rfl)).trans (AVle.os_nm rfl),Rf,Rf,trivial⟩,trivial⟩ ⟨rfl,rfl,trivial⟩
end Go.Proofs.W

namespace Go.Proofs.W
open Go.Vl
set_option maxRecDepth 100000
def JnD (s:Nat) (a b c ru wd:AV) (n:Int):List (Vl.Id×Own):= [((1,s), .c [a,b,c,ru,wd,int n])]
theorem Jmx {l l':List (Value×AV)} {K:List (Value×AV)→Prop} (h:l=l') (hk:JgY l' K):JgY l K:=h ▸ hk
def doF (s:Nat):AV:= .fn (.func 181) [.bp (0,s) 0] []
def doX (s:Nat):AV:= .fn (.func 182) [.bp (0,s) 0] []
def doM (s:Nat):List (Value×AV):= [(.string Jcw,doF s),(.string ⟨#[120,51,50]⟩,doX s)]
theorem JtO (x:AV) (h:Heap):DCall Tryz.prog 179 [x] .returning h fun u h'=> u= .returning∧h'=h:=by
 refine Jnd Tryz.func179 rfl rfl rfl rfl rfl rfl ?_
 refine stp ?_
 refine Jod rfl (.inr rfl) rfl rfl ?_
 refine stp ?_
 exact Jac rfl ⟨rfl,rfl⟩
def JkA (s s1 s2 s3 s4:Nat) (nm:ByteArray):List (Vl.Id×Own):= [((4,s4), .mp (doM s)),((3,s3), .c [Jh nm]),((2,s2), .c [int 0]),((1,s1), .c [.bp (0,s) 0])]
theorem Jr4 (s s1 s2 s3 s4 nx:Nat) (a b c:AV) (nm w:ByteArray) (k:Int) (hn:Jay nm.data.toList=true) (hs:nm.size≤1000) (hr:Tells Tryz.prog 306 [JQ [w]] (.tup [act k 0,int 1,int 0])):
 ECall Tryz.prog 183 [.bp (1,s1) 0, .bp (3,s3) 0] ⟨JkA s s1 s2 s3 s4 nm++Jbs s a b c Jbt (JQ [w]) 1, [],nx,5⟩ fun r h'=> r= .tup []∧∃st nx',h'=⟨JkA s s1 s2 s3 s4 nm++Jbs s a b c (.os 4 1 (fun _=> Jap ⟨nm,(k,0), []⟩) (some (0,st))) (JQ []) 1, [((0,st),4)],nx',5⟩:=by
 refine J0 Tryz.func183 rfl rfl ?_
 refine stp ?_
 refine J2 (xs:= [.bp (0,s) 0,Jh nm]) (bx1:=Jbs s a b c Jbt (JQ [w]) 1) (pm1:= []) (JkA s s1 s2 s3 s4 nm) [] 5 rfl rfl rfl rfl ⟨Rf,Rf,trivial⟩ (JtN s a b c nm w k nx hn hs hr) Bf Pf rfl fun r h' hq=> ?_
 obtain ⟨rfl,st,nx2,rfl⟩:=hq
 refine stp ?_
 exact Jac rfl ⟨rfl,st,nx2,rfl⟩
set_option maxHeartbeats 4000000 in
theorem Jr5 (s:Nat) (nx:Nat):ECall Tryz.prog 98 [.bp (0,s) 0,JQ [Jcw,JdW]] ⟨Jbs s (int 0) (int 0) (Jb false) Jbt Jbt 0, [],nx,1⟩ fun r h'=> r=int 0∧∃nx',h'=⟨JnD s (int 1) (int 0) (Jb false) Jbt (JQ []) 1, [],nx',1⟩:=by
 refine ECall.wk (J0 Tryz.func98 rfl rfl ?_)
 refine stp ?_
 refine Jl7 rfl rfl rfl ?_
 refine stp ?_
 refine J2 (xs:= [.bp (0,s) 0]) (bx1:=Jbs s (int 0) (int 0) (Jb false) Jbt (JQ [Jcw,JdW]) 0) (pm1:= []) [((2,nx+1), .c [int 0]),((1,nx), .c [.bp (0,s) 0])] [] 3 rfl rfl rfl rfl ⟨Rf,trivial⟩ (Jmw s (int 0) (int 0) (Jb false) Jbt Jcw JdW 0 (nx+2)) Bf Pf rfl fun r h' hq=> ?_
 obtain ⟨rfl,rfl⟩:=hq
 refine stp ?_
 refine Jmx (l':=doM s) (by kernel_rfl) ?_
 refine stp ?_
 refine Jr (b:= .fn (.func 181) [.bp (0,s) 0] []) (by kernel_rfl) ?_
 refine stp ?_
 refine J2 (xs:= [.bp (0,s) 0]) (bx1:=Jbs s (int 0) (int 0) (Jb false) Jbt (JQ [JdW]) 0) (pm1:= []) [((4,nx+3), .mp (doM s)),((3,nx+2), .c [Jh Jcw]),((2,nx+1), .c [int 0]),((1,nx), .c [.bp (0,s) 0])] [] 5 rfl rfl rfl rfl ⟨Rf,trivial⟩ (Jr3 s (int 0) (int 0) (Jb false) Jbt JdW 1 (nx+4) JtL) Bf Pf rfl fun r h' hq=> ?_
 obtain ⟨rfl,nx2,rfl⟩:=hq
 refine stp ?_
 refine DCall.mono (JtO _ _) fun u h' hq=> ?_
 obtain ⟨rfl,rfl⟩:=hq
 refine JeU rfl ⟨⟨rfl,Nat.zero_lt_one⟩,trivial⟩ ⟨int 0,⟨JnD s (int 1) (int 0) (Jb false) Jbt (JQ []) 1, [],nx2,1⟩,Rf, ?_,rfl,nx2,rfl⟩
 exact JM (Jbs s (int 1) (int 0) (Jb false) Jbt (JQ []) 1) [] rfl (.cons _ (.cons _ (.cons _ (.cons _ Sf)))) Sf ⟨rfl,OwnLe.refl _,trivial⟩ Pf
set_option maxHeartbeats 4000000 in
theorem JtP (s:Nat) (nx:Nat):ECall Tryz.prog 98 [.bp (0,s) 0,JQ [JcT,JcZ]] ⟨Jbs s (int 1) (int 0) (Jb false) Jbt (JQ []) 1, [],nx,1⟩ fun r h'=> r=int 0∧∃st nx',h'=⟨JnD s (int 1) (int 0) (Jb false) (.os 4 1 (fun _=> Jap ⟨JcT,(8,0), []⟩) (some (0,st))) (JQ []) 2, [((0,st),4)],nx',1⟩:=by
 refine ECall.wk (J0 Tryz.func98 rfl rfl ?_)
 refine stp ?_
 refine Jl7 rfl rfl rfl ?_
 refine stp ?_
 refine J2 (xs:= [.bp (0,s) 0]) (bx1:=Jbs s (int 1) (int 0) (Jb false) Jbt (JQ [JcT,JcZ]) 1) (pm1:= []) [((2,nx+1), .c [int 0]),((1,nx), .c [.bp (0,s) 0])] [] 3 rfl rfl rfl rfl ⟨Rf,trivial⟩ (Jmw s (int 1) (int 0) (Jb false) Jbt JcT JcZ 1 (nx+2)) Bf Pf rfl fun r h' hq=> ?_
 obtain ⟨rfl,rfl⟩:=hq
 refine stp ?_
 refine Jmx (l':=doM s) (by kernel_rfl) ?_
 refine stp ?_
 refine Jr (b:= .v .nilFunc) (by kernel_rfl) ?_
 refine stp ?_
 refine J2 (xs:= [.bp (1,nx) 0, .bp (3,nx+2) 0]) (bx1:=JkA s nx (nx+1) (nx+2) (nx+3) JcT++Jbs s (int 1) (int 0) (Jb false) Jbt (JQ [JcZ]) 1) (pm1:= []) [] [] 5 rfl rfl rfl rfl ⟨Rf,Rf,trivial⟩ (Jr4 s nx (nx+1) (nx+2) (nx+3) (nx+4) (int 1) (int 0) (Jb false) JcT JcZ 8 (by decide+kernel) Dc Jr2) Bf Pf rfl fun r h' hq=> ?_
 obtain ⟨rfl,st,nx2,rfl⟩:=hq
 refine stp ?_
 refine DCall.mono (JtO _ _) fun u h' hq=> ?_
 obtain ⟨rfl,rfl⟩:=hq
 refine JeU rfl ⟨⟨rfl,Nat.zero_lt_one⟩,trivial⟩ ⟨int 0,⟨JnD s (int 1) (int 0) (Jb false) (.os 4 1 (fun _=> Jap ⟨JcT,(8,0), []⟩) (some (0,st))) (JQ []) 2, [((0,st),4)],nx2,1⟩,Rf, ?_,rfl,st,nx2,rfl⟩
 exact JM (Jbs s (int 1) (int 0) (Jb false) (.os 4 1 (fun _=> Jap ⟨JcT,(8,0), []⟩) (some (0,st))) (JQ []) 2) [((0,st),4)] rfl (.cons _ (.cons _ (.cons _ (.cons _ Sf)))) Sf ⟨rfl,OwnLe.refl _,trivial⟩ Pf
end Go.Proofs.W

namespace Go.Proofs.W
open Go.Vl
set_option maxRecDepth 100000
def pAw:Pol:=⟨(1,0),false, [⟨JcT,(8,0), []⟩]⟩
def LL:List (Nat×List ByteArray):= [(1, [Jcw,JdW]),(2, [JcT,JcZ])]
theorem JyI:JvC [(Ja7,1),(lineB,2)]=LL:=by
 show [(1,JeY Ja7),(2,JeY lineB)]=_
 rw [JlB,JlC];rfl
def JlD (k st:Nat):List AV:=match k with
 | 0=> [int 0,int 0,Jb false,Jbt,Jbt,int 0]
 | 1=> [int 1,int 0,Jb false,Jbt,JQ [],int 1]
 | _=> [int 1,int 0,Jb false, .os 4 1 (fun _=> Jap ⟨JcT,(8,0), []⟩) (some (0,st)),JQ [],int 2]
def JvE (k st:Nat):List (Vl.Id×Nat):=match k with
 | 2=> [((0,st),4)]
 | _=> []
set_option maxHeartbeats 4000000 in
theorem Jr6:Tells Tryz.prog 42 [Jh textAB] (.tup [JbR pAw,int 0,int 0]):=by
 have hl:=Jnk
 rw [JyI] at hl
 refine Jf Tryz.func42 rfl rfl fun nx=> ?_
 refine stp ?_
 refine Je rfl rfl hl ⟨Rf,trivial⟩ fun nx2=> ?_
 refine stp ?_
 refine Jx (fun y:Nat×Nat×Nat=> mk 52 [(2, .bp (0,nx) 0),(3,int 0),(4,int 0),(8, .bp (1,nx2) 0),(31,JtJ LL),(32,int 2),(33,int y.1)] ⟨[((1,nx2), .c (JlD y.1 y.2.1)),((0,nx), .c [int 0,int 0,Jb false,Jbt])],JvE y.1 y.2.1,y.2.2,2⟩) (fun y=> y.1≤2) (fun y=> 2 - y.1) ?_ ?_
 ·exact ⟨(0,0,nx2+1),Nat.zero_le _,Et (pm:= []) (bx:= [((1,nx2), .c (JlD 0 0)),((0,nx), .c [int 0,int 0,Jb false,Jbt])]) rfl rfl Bf trivial ⟨Rf,Rf,Rf,Rf,Rf,Rf,Rf,trivial⟩⟩
 ·rintro ⟨k,st,nx3⟩ h1
  dsimp only at h1
  obtain rfl | rfl | rfl:k=0∨k=1∨k=2:=by omega
  ·refine stp ?_
   refine ⟨⟨(by decide:(0:Int)≤0),(by decide:(0:Int) < 2)⟩,Jr (b:= .rp [int 1,JQ [Jcw,JdW]]) rfl ?_⟩
   refine stp ?_
   refine Jmh (xs:= [.bp (0,nx2) 0,JQ [Jcw,JdW]]) (bx1:= [((1,nx2), .c (JlD 0 st))]) (pm1:= []) [((2,nx3), .c [int 1,JQ [Jcw,JdW]])] [((0,nx), .c [int 0,int 0,Jb false,Jbt])] [] 3 rfl rfl rfl rfl ⟨AVle.bp_nm rfl,Rf,trivial⟩ (Jr5 nx2 (nx3+1)) ⟨rfl,OwnLe.refl _,trivial⟩ Pf rfl fun r h' hq=> ?_
   obtain ⟨rfl,nx4,rfl⟩:=hq
   refine stp ?_
   exact back (1,0,nx4) Dm Dm (Jm (pm:=JvE 1 0) (bx:= [((1,nx2), .c (JlD 1 0)),((0,nx), .c [int 0,int 0,Jb false,Jbt])]) _ _ rfl rfl (.cons _ Sf) Sf Bf Pf ⟨Rf,Rf,Rf,Rf,Rf,Rf,Rf,trivial⟩)
  ·refine stp ?_
   refine ⟨⟨(by decide:(0:Int)≤1),(by decide:(1:Int) < 2)⟩,Jr (b:= .rp [int 2,JQ [JcT,JcZ]]) rfl ?_⟩
   refine stp ?_
   refine Jmh (xs:= [.bp (0,nx2) 0,JQ [JcT,JcZ]]) (bx1:= [((1,nx2), .c (JlD 1 st))]) (pm1:= []) [((2,nx3), .c [int 2,JQ [JcT,JcZ]])] [((0,nx), .c [int 0,int 0,Jb false,Jbt])] [] 3 rfl rfl rfl rfl ⟨AVle.bp_nm rfl,Rf,trivial⟩ (JtP nx2 (nx3+1)) ⟨rfl,OwnLe.refl _,trivial⟩ Pf rfl fun r h' hq=> ?_
   obtain ⟨rfl,st',nx4,rfl⟩:=hq
   refine stp ?_
   exact back (2,st',nx4) Dm Dm (Jm (pm:=JvE 2 st') (bx:= [((1,nx2), .c (JlD 2 st')),((0,nx), .c [int 0,int 0,Jb false,Jbt])]) _ _ rfl rfl (.cons _ Sf) Sf Bf Pf ⟨Rf,Rf,Rf,Rf,Rf,Rf,Rf,trivial⟩)
  ·refine stp ?_
   exact Jj rfl ⟨rfl,trivial⟩ (AVle.tups (cs:= [_,_,_]) ⟨AVle.ags (cs:= [_,_,_,_]) ⟨Rf,Rf,Rf,(AVle.os_fun (fun i hi=> by obtain rfl:i=0:=Nat.lt_one_iff.1 hi;rfl)).trans AVle.os_sl,trivial⟩,Rf,Rf,trivial⟩)
end Go.Proofs.W

namespace Go.Proofs.W
open Go.Vl
set_option maxRecDepth 100000
def Jau (l:List TRow) (s:ByteArray):TRow:=if Ja2 l s then l.getD (Jbr l s) Jg else Jg
set_option maxHeartbeats 2000000 in
theorem JtQ (l:List TRow) (s:ByteArray) (hl:l.length≤1000000) (hs:Jhw l s):Tells Tryz.prog 108 [JJ l,Jh s] (.tup [Jb (Ja2 l s&& decide ((Jau l s).a2≥0)),Jb (decide ((Jau l s).mux > 0))]):=by
 have hf:=Jgk l s hl hs
 unfold Jku at hf
 unfold Jau
 cases hb:Ja2 l s with
 | true=>
   rw [hb,if_pos rfl] at hf
   rw [if_pos rfl]
   generalize l.getD (Jbr l s) Jg=r at hf⊢
   cases hd:decide (r.a2≥0) with
   | true=>
     refine Jf Tryz.func108 rfl rfl fun nx=> ?_
     refine stp ?_
     refine Je rfl rfl hf ⟨Rf,Rf,trivial⟩ fun nx2=> ?_
     refine stp ?_
     refine J1 11 _ (fun _=> false) (fun _=> false) [0,1,2,3,4,5,6,7,8,9,10] (by kernel_rfl) (by kernel_rfl) (HB.refl _) ?_
     refine stp ?_
     refine ⟨_,Jek rfl rfl rfl rfl trivial, ?_⟩
     refine stp ?_
     refine ⟨_,Jek rfl rfl rfl rfl (by first | trivial | exact ⟨rfl,Nat.le_of_ble_eq_true rfl⟩ | exact ⟨by decide,by decide⟩), ?_⟩
     refine stp ?_
     refine ⟨_,Jek rfl rfl rfl rfl (by first | trivial | exact ⟨rfl,Nat.le_of_ble_eq_true rfl⟩), ?_⟩
     refine stp ?_
     refine ⟨.v (.bool true),Jmg rfl rfl rfl rfl trivial hd, ?_⟩
     refine stp ?_
     exact Jj rfl trivial Rf
   | false=>
     refine Jf Tryz.func108 rfl rfl fun nx=> ?_
     refine stp ?_
     refine Je rfl rfl hf ⟨Rf,Rf,trivial⟩ fun nx2=> ?_
     refine stp ?_
     refine J1 11 _ (fun _=> false) (fun _=> false) [0,1,2,3,4,5,6,7,8,9,10] (by kernel_rfl) (by kernel_rfl) (HB.refl _) ?_
     refine stp ?_
     refine ⟨_,Jek rfl rfl rfl rfl trivial, ?_⟩
     refine stp ?_
     refine ⟨_,Jek rfl rfl rfl rfl (by first | trivial | exact ⟨rfl,Nat.le_of_ble_eq_true rfl⟩ | exact ⟨by decide,by decide⟩), ?_⟩
     refine stp ?_
     refine ⟨_,Jek rfl rfl rfl rfl (by first | trivial | exact ⟨rfl,Nat.le_of_ble_eq_true rfl⟩), ?_⟩
     refine stp ?_
     refine ⟨.v (.bool false),Jmg rfl rfl rfl rfl trivial hd, ?_⟩
     refine stp ?_
     exact Jj rfl trivial Rf
 | false=>
   rw [hb,if_neg Dc] at hf
   rw [if_neg Dc]
   refine Jf Tryz.func108 rfl rfl fun nx=> ?_
   refine stp ?_
   refine Je rfl rfl hf ⟨Rf,Rf,trivial⟩ fun nx2=> ?_
   refine stp ?_
   refine J1 11 _ (fun _=> false) (fun _=> false) [0,1,2,3,4,5,6,7,8,9,10] (by kernel_rfl) (by kernel_rfl) (HB.refl _) ?_
   refine stp ?_
   refine ⟨_,JiH rfl rfl rfl, ?_⟩
   refine stp ?_
   refine ⟨_,JiH rfl rfl rfl, ?_⟩
   refine stp ?_
   refine ⟨_,JiH rfl rfl rfl, ?_⟩
   refine stp ?_
   refine ⟨_,JiH rfl rfl rfl, ?_⟩
   refine stp ?_
   exact Jj rfl trivial Rf
end Go.Proofs.W

namespace Go.Proofs.W
open Go.Vl
set_option maxRecDepth 100000
structure Ct where
 name:ByteArray
 many:Nat
deriving DecidableEq
end Go.Proofs.W

namespace Go.Proofs.W
open Go.Vl
set_option maxRecDepth 100000
end Go.Proofs.W

namespace Go.Proofs.W
open Go.Vl
set_option maxRecDepth 100000
end Go.Proofs.W

namespace Go.Proofs.W
open Go.Vl
set_option maxRecDepth 100000
theorem Jw0 {a b:Int} (h:a=b):AVle (.v (.int .u32 a)) (u32 b):=h ▸ Rf
theorem Jya:Jcj Tryz.prog 139 9 [(0,int 0),(1,int 2147483648),(2,int 0),(3,int 196608),(4,int 327680),(5,int 2143289344),(6,int 2146435072),(7,int 2147221504),(8,int 2147418112)]=some (3, [int 0,int 2147483648,int 0,int 196608,int 327680,int 2143289344,int 2146435072,int 2147221504,int 2147418112]):=by kernel_rfl
theorem JtR (k:Nat) (hk:k < 8):Tells Tryz.prog 81 [int (k+1:Nat)] (int (kb k)):=by
 refine Jf Tryz.func81 rfl rfl fun nx=> ?_
 (refine JW ?_;refine Jae ?_;refine JW ?_)
 refine JU (fun n=> match n with | 0=> true | _=> false) 1 ?_
 refine Jh4 rfl Jya ?_
 refine stp ?_
 refine ⟨⟨by omega,by omega⟩, ?_⟩
 rcases k with _ | _ | _ | _ | _ | _ | _ | _ | k
 iterate 8
  ·refine stp ?_
   exact Jd rfl Rf
 omega
theorem Jr7 (k n:Nat) (hk:k < 8) (hn:n≤km k):Tells Tryz.prog 113 [act (k+1:Nat) n] (.tup [u32 (kb k+n:Nat),int 0]):=by
 obtain ⟨s,m,hr1,hr2⟩:=Jx8 k hk
 obtain ⟨s',c',m',h3,h4,_⟩:=Jhu k hk
 have hm:m=m':=by
  rw [hr1] at h3
  have:=AV.ag.inj h3
  simp at this
  exact this.2.2
 rw [← hm] at h4
 clear h3
 have hle:=Jr0 hk
 have ho:=JoB k hk
 rw [hr1] at ho
 have hR:=JjH ((k+1:Nat):Int) (n:Int)
 have hkm:((km k:Nat):Int)=Jkr ((k+1:Nat):Int):=by
  clear hr1 hr2 h4 hle ho hR hn
  rcases k with _ | _ | _ | _ | _ | _ | _ | _ | k
  all_goals first | decide | omega
 rw [show JaI ((k+1:Nat):Int) (n:Int)=true by unfold JaI;rw [← hkm];simp;omega] at hR
 have e1:IntKind.u32.wrap (n:Int)=(n:Int):=by simp [IntKind.wrap,IntKind.signed,IntKind.bits];omega
 have e2:IntKind.u32.wrap ((kb k:Int)+(n:Int))=((kb k+n:Nat):Int):=by
  rw [show (kb k:Int)+(n:Int)=((kb k+n:Nat):Int) by omega]
  simp [IntKind.wrap,IntKind.signed,IntKind.bits];omega
 rcases h4 with rfl | ⟨n',rfl⟩
 all_goals
  refine Jf Tryz.func113 rfl rfl fun nx=> ?_
  refine stp ?_
  refine Je rfl rfl hR ⟨Rf,trivial⟩ fun nx1=> ?_
  refine stp ?_
  refine Je rfl rfl ho ⟨Rf,trivial⟩ fun nx2=> ?_
  refine stp ?_
  refine Jd rfl (AVle.tups ⟨Jw0 ?_,Rf,trivial⟩)
  show IntKind.u32.wrap ((kb k:Int)+IntKind.u32.wrap (n:Int))=_
  rw [e1,e2]
theorem Jr8 (k n:Nat) (hk:k < 8) (hn:n≤km k):Tells Tryz.prog 30 [act (k+1:Nat) n] (int (kb k+n:Nat)):=by
 have hle:=Jr0 hk
 refine Jf Tryz.func30 rfl rfl fun nx=> ?_
 refine stp ?_
 (refine JY 6 ?_ ?_ ?_ ?_;(· kernel_rfl);(· kernel_rfl);(· kernel_rfl))
 refine stp ?_
 refine Jan (JV rfl rfl (JtR k hk) ⟨Rf,trivial⟩ (NoId.v _)) ?_
 refine stp ?_
 refine Jd rfl (Jk ?_)
 rw [Jai Om Om]
 omega
end Go.Proofs.W

namespace Go.Proofs.W
open Go.Vl
set_option maxRecDepth 100000
def hB (x:Nat→Nat) (c:Cnd):Bool:=JK c&& JaC c ([x 0,x 1,x 2,x 3,x 4,x 5].getD c.arg.toNat 0)
def Jb1 (x:Nat→Nat) (r:Rul):Bool:=r.conds.all (hB x)
theorem JtS {x:Nat→Nat} (hx:∀i,x i < 18446744073709551616) (i:Nat): [x 0,x 1,x 2,x 3,x 4,x 5].getD i 0 < 18446744073709551616:=by
 rcases i with _ | _ | _ | _ | _ | _ | i
 ·exact hx 0
 ·exact hx 1
 ·exact hx 2
 ·exact hx 3
 ·exact hx 4
 ·exact hx 5
 ·exact Nat.zero_lt_succ _
theorem JtT (x:Nat→Nat) (hx:∀i,x i < 18446744073709551616) (c:Cnd) (hc:c.ok):Tells Tryz.prog 39 [JG c,JrU x] (Jb (hB x c)):=JrP c (x 0) (x 1) (x 2) (x 3) (x 4) (x 5) hc (JtS hx)
def JjK (x:Nat→Nat):AV:= .rp [u64 (x 0),u64 (x 1),u64 (x 2),u64 (x 3),u64 (x 4),u64 (x 5)]
theorem JtU (x:Nat→Nat) (hx:∀i,x i < 18446744073709551616) (c:Cnd) (hc:c.ok):Tells Tryz.prog 166 [JG c,JjK x] (Jb (!hB x c)):=by
 have hh:=JtT x hx c hc
 generalize hB x c=b at hh
 refine Jf Tryz.func166 rfl rfl fun nx=> ?_
 refine stp ?_
 refine Jr (b:=JG c) rfl ?_
 refine stp ?_
 refine Je rfl rfl hh ⟨Rf,Rf,trivial⟩ fun nx2=> ?_
 cases b
 ·refine stp ?_
  exact Jd rfl Rf
 ·refine stp ?_
  exact Jd rfl Rf
theorem JvF (l:List Cnd) (p:Cnd→Bool) (f:Nat) (x:Nat→Nat) (hl:l.length≤1000000000) (hp:∀i,i < l.length→Tells Tryz.prog f (JG (l.getD i cnd0):: [JjK x]) (Jb (p (l.getD i cnd0)))):
 Tells Tryz.prog 188 [JT 4 JG cnd0 l,(.fn (.func f) [] [JjK x])] (int (JdI (l.findIdx? p))):=by
 refine Jf Tryz.func188 rfl rfl fun nx=> ?_
 refine stp ?_
 refine Jx (fun s:Nat×Nat=> mk 19 [(0,JT 4 JG cnd0 l),(1,(.fn (.func f) [] [JjK x])),(7,int l.length),(8,int s.1)] ⟨[], [],s.2,0⟩) (fun s=> s.1≤l.length∧∀j,j < s.1→p (l.getD j cnd0)=false) (fun s=> l.length - s.1) ?_ ?_
 ·exact ⟨(0,nx),⟨by simp,by intro j hj;simp at hj⟩,Jaz rfl rfl ⟨Rf,Rf,Rf,Rf,trivial⟩⟩
 ·rintro ⟨i,nx⟩ ⟨h1,h2⟩
  dsimp only at h1 h2
  refine stp ?_
  intro c h3;cases c
  ·have h3:=Jt h3
   dsimp only at h3
   refine stp ?_
   refine Jd rfl (Jk ?_)
   rw [JdH cnd0 (fun j hj=> h2 j Om)];rfl
  ·have h3:=Ju h3
   dsimp only at h3
   have hi:i < l.length:=by omega
   refine stp ?_
   refine ⟨⟨by dsimp only;omega,by dsimp only;omega⟩, ?_⟩
   refine stp ?_
   refine Je rfl rfl (hp i hi) ⟨Rf,Rf,trivial⟩ fun nx'=> ?_
   intro c h4;cases c
   ·refine stp ?_
    refine back (i+1,nx') ⟨by dsimp only;omega,fun j hj=> ?_⟩ Dm (Jaz rfl rfl ⟨Rf,Rf,Rf,Jk (J4 Dm),trivial⟩)
    dsimp only at hj
    rcases Nat.lt_or_ge j i with h | h
    ·exact h2 j h
    ·obtain rfl:j=i:=by omega
     exact h4.symm
   ·refine stp ?_
    refine Jd rfl (Jk ?_)
    rw [Jfp cnd0 hi h2 h4.symm];rfl
theorem JvG (l:List Cnd) (p:Cnd→Bool) (f:Nat) (x:Nat→Nat) (hl:l.length≤1000000000) (hp:∀i,i < l.length→Tells Tryz.prog f (JG (l.getD i cnd0):: [JjK x]) (Jb (p (l.getD i cnd0)))):
 Tells Tryz.prog 102 [JT 4 JG cnd0 l,(.fn (.func f) [] [JjK x])] (Jb (l.any p)):=by
 refine Jf Tryz.func102 rfl rfl fun nx=> ?_
 refine stp ?_
 refine Je rfl rfl (JvF l p f x hl hp) ⟨Rf,Rf,trivial⟩ fun nx'=> ?_
 refine stp ?_
 intro c h;cases c
 all_goals
  refine stp ?_
  refine Jd rfl (JB ?_)
  rw [h,← List.findIdx?_isSome]
  exact Jd6 _
theorem Jgl (x:Nat→Nat) (hx:∀i,x i < 18446744073709551616) (l:List Cnd) (hl:l.length≤1000000000) (hc:∀c∈l,c.ok):Tells Tryz.prog 90 [Jam l,JrU x] (Jb (l.all (hB x))):=by
 have hcn:=JvG l (fun c=> !hB x c) 166 x hl (fun i hi=> JtU x hx _ (hc _ (by simp [List.getD,hi])))
 have he:(l.any fun c=> !hB x c)= !(l.all (hB x)):=by rw [List.all_eq_not_any_not,Bool.not_not]
 rw [he] at hcn
 generalize l.all (hB x)=b at hcn
 refine Jf Tryz.func90 rfl rfl fun nx=> ?_
 (refine JW ?_;refine Jae ?_;refine JW ?_)
 refine JbD (n:=9) (nx:=nx+1) (nn:=1) (pm:= []) (bx:= []) (L:= [(0,Jam l),(3,JjK x),(4,Jb false)]) (df:=some []) [((0,nx), .c [u64 (x 0),u64 (x 1),u64 (x 2),u64 (x 3),u64 (x 4),u64 (x 5)])] rfl rfl rfl (List.Perm.refl _) Sf ⟨Frz.refl _,Frz.bp (.head _) rfl,Frz.refl _,trivial⟩ ?_
 refine stp ?_
 refine Je rfl rfl hcn ⟨Rf,Rf,trivial⟩ fun nx2=> ?_
 cases b
 ·refine stp ?_
  exact Jd rfl Rf
 ·refine stp ?_
  exact Jd rfl Rf
theorem JkB {l:List Rul} {q:Rul→Bool} {i:Nat} (hi:i < l.length) (h:∀j,j < i→q (l.getD j Jl)=false) (hq:q (l.getD i Jl)=true):l.find? q=some (l.getD i Jl):=by
 have e:l.getD i Jl=l[i]:=by simp [List.getD,hi]
 rw [e] at hq⊢
 rw [List.find?_eq_some_iff_getElem]
 refine ⟨hq,i,hi,rfl,fun j hj=> ?_⟩
 have:=h j hj
 rw [show l.getD j Jl=l[j] by simp [List.getD,show j < l.length by omega]] at this
 rw [this];rfl
def Jd2 (p:Pol) (nm:ByteArray) (x:Nat→Nat):A2:=match p.rules.find? (fun r=> kS r.name nm&& Jb1 x r) with
 | some r=> r.act
 | none=> p.dflt
def Ja8 (p:Pol) (nm:ByteArray):A2:=match p.rules.find? (fun r=> kS r.name nm) with
 | some r=> if r.conds.length=0 then r.act else p.dflt
 | none=> p.dflt
end Go.Proofs.W

namespace Go.Proofs.W
open Go.Vl
set_option maxRecDepth 100000
end Go.Proofs.W

namespace Go.Proofs.W
open Go.Vl
set_option maxRecDepth 100000
def JjL (l:List TRow):Bool:=decide (l.length≤40)&& !l.any fun r=> decide (60 < r.name.size)
end Go.Proofs.W

namespace Go.Proofs.W
open Go.Vl
set_option maxRecDepth 100000
end Go.Proofs.W

namespace Go.Proofs.W
open Go.Vl
set_option maxRecDepth 100000
theorem JqF {c d:Cnd}:(c.arg ==d.arg&& (c.op ==d.op&& ((c.mask:Int) ==(d.mask:Int)&& ((c.value:Int) ==(d.value:Int)&& true))))=decide (c=d):=by
 rw [Bool.eq_iff_iff]
 simp only [Bool.and_eq_true,beq_iff_eq,decide_eq_true_eq,and_true]
 obtain ⟨a1,a2,a3,a4⟩:=c
 obtain ⟨b1,b2,b3,b4⟩:=d
 simp
 omega
theorem JtV {α:Type} {a b:List α} {d:α} (hl:a.length=b.length) (h:∀j,j < a.length→a.getD j d=b.getD j d):a=b:=by
 refine List.ext_getElem hl fun j h1 h2=> ?_
 have:=h j h1
 simpa [List.getD,h1,h2] using this
theorem Jp7 (a b:List Cnd) (ha:a.length≤1000000):Tells Tryz.prog 196 [Jam a,Jam b] (Jb (decide (a=b))):=by
 refine Jf Tryz.func196 rfl rfl fun nx=> ?_
 refine stp ?_
 intro c g1;cases c
 rotate_left
 ·have g1:((a.length:Nat):Int)≠((b.length:Nat):Int):=JaO.1 g1
  refine stp ?_
  exact Jd rfl (JB (by rw [eq_comm];exact decide_eq_false (fun h=> g1 (by rw [h]))))
 have g1:((a.length:Nat):Int)=((b.length:Nat):Int):=JaN.1 g1
 have hl:a.length=b.length:=by omega
 refine stp ?_
 refine Jx (fun s:Nat×Nat=> mk 26 [(0,Jam a),(1,Jam b),(12,int a.length),(13,int s.1)] ⟨[], [],s.2,0⟩) (fun s=> s.1≤a.length∧∀j,j < s.1→a.getD j cnd0=b.getD j cnd0) (fun s=> a.length - s.1) ?_ ?_
 ·exact ⟨(0,nx),⟨Nat.zero_le _,fun j h=> absurd h (Nat.not_lt_zero _)⟩,Jaz rfl rfl ⟨Rf,Rf,Rf,Rf,trivial⟩⟩
 ·rintro ⟨i,nx2⟩ ⟨h3,h4⟩
  dsimp only at h3 h4
  refine stp ?_
  intro c h5;cases c
  ·have h6:=Jt h5
   dsimp only at h6
   obtain rfl:i=a.length:=by omega
   have he:=JtV hl h4
   refine stp ?_
   exact Jd rfl (JB (by rw [eq_comm];exact decide_eq_true he))
  ·have h6:=Ju h5
   dsimp only at h6
   have hi:i < a.length:=by omega
   refine stp ?_
   (refine JY 9 ?_ ?_ ?_ ?_;(· kernel_rfl);(· kernel_rfl);(· kernel_rfl))
   refine stp ?_
   refine ⟨⟨by dsimp only;omega,by dsimp only;omega⟩, ?_⟩
   refine stp ?_
   refine ⟨⟨by dsimp only;omega,by dsimp only;omega⟩, ?_⟩
   refine stp ?_
   intro c hc
   have hc2:c= !decide (a.getD i cnd0=b.getD i cnd0):=hc.trans (congrArg (!·) JqF)
   cases c
   ·have he:a.getD i cnd0=b.getD i cnd0:=by simpa using hc2
    refine stp ?_
    refine back (i+1,nx2) ⟨by dsimp only;omega,fun j hj=> ?_⟩ Dm (Jaz rfl rfl ⟨Rf,Rf,Rf,Jk (J4 Dm),trivial⟩)
    dsimp only at hj
    rcases Nat.lt_or_ge j i with h | h
    ·exact h4 j h
    ·obtain rfl:j=i:=by omega
     exact he
   ·have he:¬a.getD i cnd0=b.getD i cnd0:=by simpa using hc2
    refine stp ?_
    exact Jd rfl (JB (by rw [eq_comm];exact decide_eq_false (fun h=> he (by rw [h]))))
theorem Jw1 {a b:A2}:(a.1 ==b.1&& (a.2 ==b.2&& true))=decide (a=b):=by
 rw [Bool.eq_iff_iff]
 simp only [Bool.and_eq_true,beq_iff_eq,decide_eq_true_eq,and_true]
 exact (Prod.ext_iff).symm
end Go.Proofs.W

namespace Go.Proofs.W
open Go.Vl
set_option maxRecDepth 100000
def okN (n:Nat):Bool:=(decide (97≤n)&& decide (n≤122))|| (decide (48≤n)&& decide (n≤57))|| decide (n=95)
theorem JtW:∀n,n < 256→signsB.data.toList.contains (UInt8.ofNat n)=okN n:=by decide+kernel
theorem Jp8:∀n,n < 256→lettersB.data.toList.contains (UInt8.ofNat n)=(decide (97≤n)&& decide (n≤122)):=by decide+kernel
theorem JvH (b:UInt8):signsB.data.toList.contains b=okN b.toNat:=by
 have:=JtW b.toNat b.toNat_lt
 rwa [UInt8.ofNat_toNat] at this
theorem Jr9 (b:UInt8):lettersB.data.toList.contains b=(decide (97≤b.toNat)&& decide (b.toNat≤122)):=by
 have:=Jp8 b.toNat b.toNat_lt
 rwa [UInt8.ofNat_toNat] at this
theorem JtX (l:List UInt8):Jay l=true↔l.length≠0∧l.length≤30∧97≤(l.headD 0).toNat∧(l.headD 0).toNat≤122∧l≠Jht∧l≠JrB∧∀j,j < l.length→okN (l.getD j 0).toNat=true:=by
 unfold Jay
 simp only [Bool.and_eq_true,Bool.not_eq_true',beq_eq_false_iff_ne,decide_eq_true_eq,Jr9,List.all_eq_true,JvH]
 constructor
 ·rintro ⟨h1,h2,h3,h4,h5,h6,h7⟩
  refine ⟨fun h=> h1 (List.length_eq_zero_iff.1 h),h4,h6,h7,h2,h3,fun j hj=> ?_⟩
  exact h5 _ (by simp [List.getD,hj])
 ·rintro ⟨h1,h2,h3,h4,h5,h6,h7⟩
  refine ⟨fun h=> h1 (by rw [h];rfl),h5,h6,h2,fun x hx=> ?_,h3,h4⟩
  obtain ⟨j,hj,rfl⟩:=List.getElem_of_mem hx
  have:=h7 j hj
  simpa [List.getD,hj] using this
end Go.Proofs.W

namespace Go.Proofs.W
open Go.Vl
set_option maxRecDepth 100000
end Go.Proofs.W

namespace Go.Proofs.W
open Go.Vl
set_option maxRecDepth 100000
end Go.Proofs.W

namespace Go.Proofs.W
open Go.Vl
set_option maxRecDepth 100000
theorem JyJ (n:Nat):decide (n&&& 1073741824≠0)=decide (n / 1073741824 % 2=1):=by
 have hlo:n % 1073741824 < 2 ^ 30:=Nat.mod_lt _ Dc
 have e1:n=2 ^ 30 * (n / 1073741824)+n % 1073741824:=by have:=Nat.div_add_mod n 1073741824;show n=1073741824 * _+_;omega
 have hs:=JtC (c:=n / 1073741824) (lo:=n % 1073741824) (d:=1) (m:=0) (i:=30) hlo Dc
 rw [← e1,Nat.and_one_is_mod,Nat.and_zero,show (2 ^ 30 * 1+0:Nat)=1073741824 by decide] at hs
 rw [hs]
 have:n / 1073741824 % 2=0∨n / 1073741824 % 2=1:=by omega
 rcases this with q | q <;> rw [q] <;> decide
theorem JoO (n:Nat):JbM n=(decide (n≠4294967295)&& decide (n / 1073741824 % 2=1)):=by
 unfold JbM;rw [JyJ,Bool.and_comm]
theorem JwF {n:Nat} (h:n < 4294967296):(IntKind.u32.wrap ((n:Int).tdiv 1073741824)).tmod 2=((n / 1073741824 % 2:Nat):Int):=by
 have e:(n:Int).tdiv 1073741824=((n / 1073741824:Nat):Int):=(Int.ofNat_tdiv n 1073741824).symm
 rw [e]
 have e2:IntKind.u32.wrap ((n / 1073741824:Nat):Int)=((n / 1073741824:Nat):Int):=by
  have:n / 1073741824 < 4:=by omega
  simp [IntKind.wrap,IntKind.signed,IntKind.bits];omega
 rw [e2]
 exact (Int.ofNat_tmod (n / 1073741824) 2).symm
def Jbu (arch num:Nat):Int:=match Jcv arch num with
 | some a=> a
 | none=> -1
theorem JyK (num:Nat):Jbu 1073741827 num=2:=by unfold Jbu Jcv;cases JbM num <;> rfl
theorem JyL (num:Nat):Jbu 3221225655 num=3:=by unfold Jbu Jcv;cases JbM num <;> rfl
theorem JyM (num:Nat):Jbu 3221225715 num=4:=by unfold Jbu Jcv;cases JbM num <;> rfl
theorem Jyb (num:Nat):Jbu 3221225534 num=if JbM num then 1 else 0:=by unfold Jbu Jcv;cases JbM num <;> rfl
theorem JyN {arch num:Nat} (h2:arch≠1073741827) (h3:arch≠3221225655) (h4:arch≠3221225715) (h0:arch≠3221225534):Jbu arch num=-1:=by
 unfold Jbu Jcv
 have:infN.find? (Jcu arch (JbM num))=none:=by
  refine List.find?_eq_none.2 fun x hx=> ?_
  unfold infN at hx
  simp only [List.mem_cons,List.not_mem_nil,or_false] at hx
  rw [Bool.not_eq_true]
  unfold Jcu
  rw [Bool.and_eq_false_iff]
  left
  rw [decide_eq_false_iff_not]
  rcases hx with rfl | rfl | rfl | rfl | rfl <;> (intro e;exact absurd e.symm (by assumption))
 rw [this];rfl
theorem Jnl (arch num:Nat) (ha:arch < 4294967296) (hn:num < 4294967296):Tells Tryz.prog 137 [u32 arch,u32 num] (int (Jbu arch num)):=by
 by_cases h2:arch=1073741827
 ·subst h2
  rw [JyK]
  refine Jf Tryz.func137 rfl rfl fun nx=> ?_
  refine stp ?_
  exact Jd rfl Rf
 by_cases h3:arch=3221225655
 ·subst h3
  rw [JyL]
  refine Jf Tryz.func137 rfl rfl fun nx=> ?_
  refine stp ?_
  exact Jd rfl Rf
 by_cases h4:arch=3221225715
 ·subst h4
  rw [JyM]
  refine Jf Tryz.func137 rfl rfl fun nx=> ?_
  refine stp ?_
  exact Jd rfl Rf
 by_cases h0:arch=3221225534
 ·subst h0
  rw [Jyb,JoO]
  refine Jf Tryz.func137 rfl rfl fun nx=> ?_
  refine stp ?_
  intro c hc
  have hc2:c=decide (num≠4294967295):=by rw [hc,Bool.eq_iff_iff];simp;omega
  clear hc
  rw [← hc2]
  clear hc2
  cases c
  ·refine stp ?_
   exact Jd rfl Rf
  ·refine stp ?_
   intro c hc
   have hc2:c=decide (num / 1073741824 % 2=1):=by rw [hc,JwF hn,Bool.eq_iff_iff];simp;omega
   clear hc
   rw [← hc2]
   clear hc2
   cases c
   all_goals
    refine stp ?_
    exact Jd rfl Rf
 ·rw [JyN h2 h3 h4 h0]
  refine Jf Tryz.func137 rfl rfl fun nx=> ?_
  refine stp ?_
  intro c hc
  obtain rfl:c=false:=hc.trans (by simp;omega)
  refine stp ?_
  intro c hc
  obtain rfl:c=false:=hc.trans (by simp;omega)
  refine stp ?_
  intro c hc
  obtain rfl:c=false:=hc.trans (by simp;omega)
  refine stp ?_
  intro c hc
  obtain rfl:c=false:=hc.trans (by simp;omega)
  refine stp ?_
  exact Jd rfl Rf
theorem Jnm (a num:Nat) (hn:num < 4294967296):Tells Tryz.prog 140 [int a,u32 num] (u32 (JeD a num)):=by
 unfold JeD
 by_cases h:a=1
 ·subst h
  refine Jf Tryz.func140 rfl rfl fun nx=> ?_
  refine stp ?_
  intro c hc
  have hc2:c=decide (num / 1073741824 % 2=1):=by rw [hc,JwF hn,Bool.eq_iff_iff];simp;omega
  clear hc
  cases c
  ·rw [if_neg (fun q=> by rw [decide_eq_true q.2] at hc2;cases hc2)]
   refine stp ?_
   exact Jd rfl Rf
  ·have q:num / 1073741824 % 2=1:=of_decide_eq_true hc2.symm
   rw [if_pos ⟨rfl,q⟩]
   clear hc2
   refine stp ?_
   refine Jd rfl (AVle.of_eq (congrArg u32 ?_))
   show IntKind.u32.wrap ((num:Int) - 1073741824)=_
   have h1:1073741824≤num:=by omega
   simp [IntKind.wrap,IntKind.signed,IntKind.bits];omega
 ·rw [if_neg (fun q=> h q.1)]
  refine Jf Tryz.func140 rfl rfl fun nx=> ?_
  refine stp ?_
  intro c hc
  obtain rfl:c=false:=hc.trans (by simp;omega)
  refine stp ?_
  exact Jd rfl Rf
theorem Jnn (a:Int) (x:Nat) (hx:x < 18446744073709551616):Tells Tryz.prog 142 [int a,u64 (x:Nat)] (u64 ((if a=2 then x % 4294967296 else x:Nat):Nat)):=by
 refine Jf Tryz.func142 rfl rfl fun nx=> ?_
 refine stp ?_
 intro c t;cases c
 ·have t:¬a=2:=by simpa using t
  rw [if_neg t]
  refine stp ?_
  exact Jd rfl Rf
 ·have t:a=2:=by simpa using t
  rw [if_pos t]
  refine stp ?_
  refine Jd rfl (AVle.of_eq (congrArg u64 ?_))
  exact (Int.ofNat_tmod x 4294967296).symm
end Go.Proofs.W

namespace Go.Proofs.W
open Go.Vl
set_option maxRecDepth 100000
theorem Jbn:Tryz.prog.cellsOf 3=1:=by kernel_rfl
def Jsa (r:TRow) (a i:Nat):Int:=if 0≤r.num a then r.num a else -1 - (i:Int)
theorem Jno (l:List TRow) (a i:Nat) (ha:a < 5) (hi:i < l.length) (hl:l.length≤1000000):Tells Tryz.prog 232 [JJ l,int a,int i] (int (Jsa (l.getD i Jg) a i)):=by
 unfold Jsa
 refine Jf Tryz.func232 rfl rfl fun nx=> ?_
 rcases (by omega:a=0∨a=1∨a=2∨a=3∨a=4) with rfl | rfl | rfl | rfl | rfl
 ·refine stp ?_
  refine ⟨Bd, ?_⟩
  refine stp ?_
  refine ⟨⟨by decide,by decide,by rw [Jbn];exact Nat.le_of_ble_eq_true rfl⟩,Jr (b:= .rp (List.drop (1+0) (Ja1 (l.getD i Jg)))) (congrArg AV.rp (by rw [Jbn];rfl)) ?_⟩
  refine stp ?_
  intro c t;cases c
  ·have t:=Jt t
   try dsimp only at t
   rw [if_neg (show ¬0≤(l.getD i Jg).num 0 by show ¬0≤(l.getD i Jg).a0;omega)]
   refine stp ?_
   refine Jd rfl (Jk (Jai Om Om))
  ·have t:=Ju t
   try dsimp only at t
   rw [if_pos (show 0≤(l.getD i Jg).num 0 by show 0≤(l.getD i Jg).a0;omega)]
   refine stp ?_
   refine ⟨Bd, ?_⟩
   refine stp ?_
   refine ⟨⟨by decide,by decide,by rw [Jbn];exact Nat.le_of_ble_eq_true rfl⟩,Jr (b:= .rp (List.drop (1+0) (Ja1 (l.getD i Jg)))) (congrArg AV.rp (by rw [Jbn];rfl)) ?_⟩
   refine stp ?_
   exact Jd rfl Rf
 ·refine stp ?_
  refine ⟨Bd, ?_⟩
  refine stp ?_
  refine ⟨⟨by decide,by decide,by rw [Jbn];exact Nat.le_of_ble_eq_true rfl⟩,Jr (b:= .rp (List.drop (1+1) (Ja1 (l.getD i Jg)))) (congrArg AV.rp (by rw [Jbn];rfl)) ?_⟩
  refine stp ?_
  intro c t;cases c
  ·have t:=Jt t
   try dsimp only at t
   rw [if_neg (show ¬0≤(l.getD i Jg).num 1 by show ¬0≤(l.getD i Jg).a1;omega)]
   refine stp ?_
   refine Jd rfl (Jk (Jai Om Om))
  ·have t:=Ju t
   try dsimp only at t
   rw [if_pos (show 0≤(l.getD i Jg).num 1 by show 0≤(l.getD i Jg).a1;omega)]
   refine stp ?_
   refine ⟨Bd, ?_⟩
   refine stp ?_
   refine ⟨⟨by decide,by decide,by rw [Jbn];exact Nat.le_of_ble_eq_true rfl⟩,Jr (b:= .rp (List.drop (1+1) (Ja1 (l.getD i Jg)))) (congrArg AV.rp (by rw [Jbn];rfl)) ?_⟩
   refine stp ?_
   exact Jd rfl Rf
 ·refine stp ?_
  refine ⟨Bd, ?_⟩
  refine stp ?_
  refine ⟨⟨by decide,by decide,by rw [Jbn];exact Nat.le_of_ble_eq_true rfl⟩,Jr (b:= .rp (List.drop (1+2) (Ja1 (l.getD i Jg)))) (congrArg AV.rp (by rw [Jbn];rfl)) ?_⟩
  refine stp ?_
  intro c t;cases c
  ·have t:=Jt t
   try dsimp only at t
   rw [if_neg (show ¬0≤(l.getD i Jg).num 2 by show ¬0≤(l.getD i Jg).a2;omega)]
   refine stp ?_
   refine Jd rfl (Jk (Jai Om Om))
  ·have t:=Ju t
   try dsimp only at t
   rw [if_pos (show 0≤(l.getD i Jg).num 2 by show 0≤(l.getD i Jg).a2;omega)]
   refine stp ?_
   refine ⟨Bd, ?_⟩
   refine stp ?_
   refine ⟨⟨by decide,by decide,by rw [Jbn];exact Nat.le_of_ble_eq_true rfl⟩,Jr (b:= .rp (List.drop (1+2) (Ja1 (l.getD i Jg)))) (congrArg AV.rp (by rw [Jbn];rfl)) ?_⟩
   refine stp ?_
   exact Jd rfl Rf
 ·refine stp ?_
  refine ⟨Bd, ?_⟩
  refine stp ?_
  refine ⟨⟨by decide,by decide,by rw [Jbn];exact Nat.le_of_ble_eq_true rfl⟩,Jr (b:= .rp (List.drop (1+3) (Ja1 (l.getD i Jg)))) (congrArg AV.rp (by rw [Jbn];rfl)) ?_⟩
  refine stp ?_
  intro c t;cases c
  ·have t:=Jt t
   try dsimp only at t
   rw [if_neg (show ¬0≤(l.getD i Jg).num 3 by show ¬0≤(l.getD i Jg).a3;omega)]
   refine stp ?_
   refine Jd rfl (Jk (Jai Om Om))
  ·have t:=Ju t
   try dsimp only at t
   rw [if_pos (show 0≤(l.getD i Jg).num 3 by show 0≤(l.getD i Jg).a3;omega)]
   refine stp ?_
   refine ⟨Bd, ?_⟩
   refine stp ?_
   refine ⟨⟨by decide,by decide,by rw [Jbn];exact Nat.le_of_ble_eq_true rfl⟩,Jr (b:= .rp (List.drop (1+3) (Ja1 (l.getD i Jg)))) (congrArg AV.rp (by rw [Jbn];rfl)) ?_⟩
   refine stp ?_
   exact Jd rfl Rf
 ·refine stp ?_
  refine ⟨Bd, ?_⟩
  refine stp ?_
  refine ⟨⟨by decide,by decide,by rw [Jbn];exact Nat.le_of_ble_eq_true rfl⟩,Jr (b:= .rp (List.drop (1+4) (Ja1 (l.getD i Jg)))) (congrArg AV.rp (by rw [Jbn];rfl)) ?_⟩
  refine stp ?_
  intro c t;cases c
  ·have t:=Jt t
   try dsimp only at t
   rw [if_neg (show ¬0≤(l.getD i Jg).num 4 by show ¬0≤(l.getD i Jg).a4;omega)]
   refine stp ?_
   refine Jd rfl (Jk (Jai Om Om))
  ·have t:=Ju t
   try dsimp only at t
   rw [if_pos (show 0≤(l.getD i Jg).num 4 by show 0≤(l.getD i Jg).a4;omega)]
   refine stp ?_
   refine ⟨Bd, ?_⟩
   refine stp ?_
   refine ⟨⟨by decide,by decide,by rw [Jbn];exact Nat.le_of_ble_eq_true rfl⟩,Jr (b:= .rp (List.drop (1+4) (Ja1 (l.getD i Jg)))) (congrArg AV.rp (by rw [Jbn];rfl)) ?_⟩
   refine stp ?_
   exact Jd rfl Rf
end Go.Proofs.W

namespace Go.Proofs.W
open Go.Vl
set_option maxRecDepth 100000
theorem Jw2 {r:TRow} {a i:Nat} {n:Int} (hn:0≤n):(Jsa r a i ==n)=Jdl a n r:=by
 unfold Jsa Jdl
 rw [Bool.eq_iff_iff]
 simp only [beq_iff_eq,decide_eq_true_eq]
 split
 ·exact Iff.rfl
 ·constructor
  ·intro h;omega
  ·intro h;omega
theorem JoP (l:List TRow) (a:Nat) (ha:a < 5) (n:Int) (hn:0≤n) (hl:l.length≤1000000):Tells Tryz.prog 139 [JJ l,int a,int n] (int (JdI (l.findIdx? (Jdl a n)))):=by
 refine Jf Tryz.func139 rfl rfl fun nx=> ?_
 refine stp ?_
 refine Jx (fun s:Nat×Nat=> mk 21 [(0,JJ l),(1,int a),(2,int n),(7,int s.1)] ⟨[], [],s.2,0⟩) (fun s=> s.1≤l.length∧∀j,j < s.1→Jdl a n (l.getD j Jg)=false) (fun s=> l.length - s.1) ?_ ?_
 ·exact ⟨(0,nx),⟨Nat.zero_le _,fun j hj=> absurd hj (Nat.not_lt_zero j)⟩,Jaz rfl rfl ⟨Rf,Rf,Rf,Rf,trivial⟩⟩
 ·rintro ⟨i,nx2⟩ ⟨h3,h4⟩
  dsimp only at h3 h4
  refine stp ?_
  intro c h5;cases c
  ·have h6:=Jt h5
   dsimp only at h6
   obtain rfl:i=l.length:=by omega
   refine stp ?_
   refine Jd rfl (Jk ?_)
   rw [JdH Jg h4];rfl
  ·have h6:=Ju h5
   dsimp only at h6
   have hi:i < l.length:=by omega
   have hnum:=Jno l a i ha hi hl
   refine stp ?_
   refine Je rfl rfl hnum ⟨Rf,Rf,Rf,trivial⟩ fun nx3=> ?_
   refine stp ?_
   intro c hc
   have hc2:c=Jdl a n (l.getD i Jg):=hc.trans (Jw2 hn)
   clear hc
   cases c
   ·refine stp ?_
    exact back (i+1,nx3) ⟨hi,fun j hj=> by dsimp only at hj;rcases Nat.lt_or_ge j i with q | q;exact h4 j q;rw [show j=i by omega];exact hc2.symm⟩ Dm (Jaz rfl rfl ⟨Rf,Rf,Rf,Jk (J4 Dm),trivial⟩)
   ·refine stp ?_
    refine Jd rfl (Jk ?_)
    rw [Jfp Jg hi h4 hc2.symm];rfl
theorem Jw3 {r:TRow} {m s:Int} (hm:m=1∨m=2):JeX m s r=(decide (r.mux=m)&& decide (r.sub=s)):=by
 unfold JeX
 rw [decide_eq_true (by omega:m≠0),Bool.and_true]
set_option maxHeartbeats 2000000 in
theorem JhM (l:List TRow) (m:Int) (hm:m=1∨m=2) (s:Int) (hl:l.length≤1000000):Tells Tryz.prog 138 [JJ l,int m,int s] (int (JdI (l.findIdx? (JeX m s)))):=by
 have hge:decide (m≥1)=true:=decide_eq_true Om
 have hle:decide (m≤2)=true:=decide_eq_true Om
 refine Jf Tryz.func138 rfl rfl fun nx=> ?_
 refine stp ?_
 refine Jx (fun q:Nat×Nat=> mk 39 [(0,JJ l),(1,int m),(2,int s),(7,int q.1)] ⟨[], [],q.2,0⟩) (fun q=> q.1≤l.length∧∀j,j < q.1→JeX m s (l.getD j Jg)=false) (fun q=> l.length - q.1) ?_ ?_
 ·exact ⟨(0,nx),⟨Nat.zero_le _,fun j hj=> absurd hj (Nat.not_lt_zero j)⟩,Jaz rfl rfl ⟨Rf,Rf,Rf,Rf,trivial⟩⟩
 ·rintro ⟨i,nx2⟩ ⟨h3,h4⟩
  dsimp only at h3 h4
  refine stp ?_
  intro c h5;cases c
  ·have h6:=Jt h5
   dsimp only at h6
   obtain rfl:i=l.length:=by omega
   refine stp ?_
   refine Jd rfl (Jk ?_)
   rw [JdH Jg h4];rfl
  ·have h6:=Ju h5
   dsimp only at h6
   have hi:i < l.length:=by omega
   have hsub:=Jw3 (r:=l.getD i Jg) (s:=s) hm
   refine stp ?_
   intro c hc
   obtain rfl:c=true:=hc.trans hge
   refine stp ?_
   intro c hc
   obtain rfl:c=true:=hc.trans hle
   refine stp ?_
   refine ⟨Bd, ?_⟩
   refine stp ?_
   intro c hc
   have hc2:c=decide ((l.getD i Jg).mux=m):=by rw [hc,Bool.eq_iff_iff];simp [Int.toNat_natCast]
   clear hc
   rw [← hc2] at hsub
   clear hc2
   cases c
   ·refine stp ?_
    exact back (i+1,nx2) ⟨hi,fun j hj=> by dsimp only at hj;rcases Nat.lt_or_ge j i with q | q;exact h4 j q;rw [show j=i by omega];exact hsub⟩ Dm (Jaz rfl rfl ⟨Rf,Rf,Rf,Jk (J4 Dm),trivial⟩)
   ·rw [Bool.true_and] at hsub
    refine stp ?_
    refine ⟨Bd, ?_⟩
    refine stp ?_
    intro c hc
    have hc2:c=decide ((l.getD i Jg).sub=s):=by rw [hc,Bool.eq_iff_iff];simp [Int.toNat_natCast]
    clear hc
    rw [← hc2] at hsub
    clear hc2
    cases c
    ·refine stp ?_
     exact back (i+1,nx2) ⟨hi,fun j hj=> by dsimp only at hj;rcases Nat.lt_or_ge j i with q | q;exact h4 j q;rw [show j=i by omega];exact hsub⟩ Dm (Jaz rfl rfl ⟨Rf,Rf,Rf,Jk (J4 Dm),trivial⟩)
    ·refine stp ?_
     refine Jd rfl (Jk ?_)
     rw [Jfp Jg hi h4 hsub];rfl
end Go.Proofs.W

namespace Go.Proofs.W
open Go.Vl
set_option maxRecDepth 100000
def atO (l:List TRow) (r:Rec):Option Nat:=match Jcv r.arch r.num with
 | none=> none
 | some a=> if 0 < JcS a r.num then l.findIdx? (JeX (JcS a r.num) ((r.a0 % 4294967296:Nat):Int)) else l.findIdx? (Jdl a ((JeD a r.num:Nat):Int))
def JjM (r:Rec):Bool:=match Jcv r.arch r.num with
 | none=> false
 | some a=> decide (0 < JcS a r.num)
def Jsb (l:List TRow) (r:Rec):AV:= .ag [int (Jbu r.arch r.num),int (JdI (atO l r)),Jb (JjM r)]
theorem JwG {x:Nat} (h:x < 18446744073709551616):IntKind.i64.wrap ((x:Int).tmod 4294967296)=((x % 4294967296:Nat):Int):=by
 have e:(x:Int).tmod 4294967296=((x % 4294967296:Nat):Int):=(Int.ofNat_tmod x 4294967296).symm
 rw [e]
 exact Jai Om Om
set_option maxHeartbeats 4000000 in
theorem JtY (l:List TRow) (r:Rec) (hr:r.ok) (hl:l.length≤1000000):Tells Tryz.prog 73 [JJ l,Jgi r] (Jsb l r):=by
 have hsel:=Jnl r.arch r.num hr.2.1 hr.1
 unfold Jsb atO JjM
 unfold Jbu at hsel⊢
 cases hso:Jcv r.arch r.num with
 | none=>
   rw [hso] at hsel
   dsimp only at hsel⊢
   refine Jf Tryz.func73 rfl rfl fun nx=> ?_
   refine stp ?_
   refine Je rfl rfl hsel ⟨Rf,Rf,trivial⟩ fun nx2=> ?_
   refine stp ?_
   exact Jj rfl ⟨rfl,trivial⟩ Rf
 | some a=>
   rw [hso] at hsel
   dsimp only at hsel⊢
   have ha5:=Jlv hso
   have hat:=JoP l a ha5 ((JeD a r.num:Nat):Int) (Int.natCast_nonneg _) hl
   have hown:=Jnm a r.num hr.1
   have hown2:JeD a r.num < 4294967296:=by have:=hr.1;unfold JeD;split <;> omega
   have ha0:=hr.2.2.2.1
   have h102:=JhM l 1 (.inl rfl) ((r.a0 % 4294967296:Nat):Int) hl
   have h117:=JhM l 2 (.inr rfl) ((r.a0 % 4294967296:Nat):Int) hl
   clear hso
   have hkd:JcS a r.num=if a=2 then JeE r.num else 0:=rfl
   unfold JeE at hkd
   by_cases h2:a=2
   ·subst h2
    rw [if_pos rfl] at hkd
    by_cases q1:r.num=102
    ·rw [if_pos q1] at hkd
     rw [hkd]
     refine Jf Tryz.func73 rfl rfl fun nx=> ?_
     refine stp ?_
     refine Je rfl rfl hsel ⟨Rf,Rf,trivial⟩ fun nx2=> ?_
     refine stp ?_
     intro c hc
     obtain rfl:c=true:=hc.trans (by simp;omega)
     refine stp ?_
     refine Je rfl rfl h102 ⟨Rf,Rf,Jk (by rw [JwG ha0]),trivial⟩ fun nx3=> ?_
     refine stp ?_
     exact Jj rfl ⟨rfl,trivial⟩ Rf
    ·rw [if_neg q1] at hkd
     by_cases q2:r.num=117
     ·rw [if_pos q2] at hkd
      rw [hkd]
      refine Jf Tryz.func73 rfl rfl fun nx=> ?_
      refine stp ?_
      refine Je rfl rfl hsel ⟨Rf,Rf,trivial⟩ fun nx2=> ?_
      refine stp ?_
      intro c hc
      obtain rfl:c=false:=hc.trans (by simp;omega)
      refine stp ?_
      intro c hc
      obtain rfl:c=true:=hc.trans (by simp;omega)
      refine stp ?_
      refine Je rfl rfl h117 ⟨Rf,Rf,Jk (by rw [JwG ha0]),trivial⟩ fun nx3=> ?_
      refine stp ?_
      exact Jj rfl ⟨rfl,trivial⟩ Rf
     ·rw [if_neg q2] at hkd
      rw [hkd]
      refine Jf Tryz.func73 rfl rfl fun nx=> ?_
      refine stp ?_
      refine Je rfl rfl hsel ⟨Rf,Rf,trivial⟩ fun nx2=> ?_
      refine stp ?_
      intro c hc
      obtain rfl:c=false:=hc.trans (by simp;omega)
      refine stp ?_
      intro c hc
      obtain rfl:c=false:=hc.trans (by simp;omega)
      refine stp ?_
      refine Je rfl rfl hown ⟨Rf,Rf,trivial⟩ fun nx3=> ?_
      refine stp ?_
      refine Je rfl rfl hat ⟨Rf,Rf,Jk (Jai Om Om),trivial⟩ fun nx4=> ?_
      refine stp ?_
      exact Jj rfl ⟨rfl,trivial⟩ Rf
   ·rw [if_neg h2] at hkd
    rw [hkd]
    refine Jf Tryz.func73 rfl rfl fun nx=> ?_
    refine stp ?_
    refine Je rfl rfl hsel ⟨Rf,Rf,trivial⟩ fun nx2=> ?_
    refine stp ?_
    intro c hc
    obtain rfl:c=false:=hc.trans (by simp;omega)
    refine stp ?_
    intro c hc
    obtain rfl:c=false:=hc.trans (by simp;omega)
    refine stp ?_
    refine Je rfl rfl hown ⟨Rf,Rf,trivial⟩ fun nx3=> ?_
    refine stp ?_
    refine Je rfl rfl hat ⟨Rf,Rf,Jk (Jai Om Om),trivial⟩ fun nx4=> ?_
    refine stp ?_
    exact Jj rfl ⟨rfl,trivial⟩ Rf
end Go.Proofs.W

namespace Go.Proofs.W
open Go.Vl
set_option maxRecDepth 100000
theorem JtZ {r:Rec} (h:r.ok) (k:Nat):r.arg k < 18446744073709551616:=by
 obtain ⟨_,_,_,h0,h1,h2,h3,h4,h5⟩:=h
 unfold Rec.arg;split <;> assumption
end Go.Proofs.W

namespace Go.Proofs.W
open Go.Vl
set_option maxRecDepth 100000
def Jgm (r:TRow):Bool:=decide (r.mux < 0)|| (decide (2 < r.mux)|| ((decide (r.mux=0)&& decide (r.sub≠0))|| (decide (0 < r.mux)&& (decide (r.sub < 1)|| decide (255 < r.sub)))))
theorem Jib (r:TRow):JcD r=(!JfC r&& !Jgm r):=by
 unfold JcD
 congr 1
 unfold Jgm
 by_cases h:r.mux=0
 ·rw [if_pos h,h];simp
 ·rw [if_neg h,Bool.eq_iff_iff];simp;omega
def Jg6 (r s:TRow):Bool:= [0,1,2,3,4].any fun a=> decide (0≤r.num a)&& decide (s.num a=r.num a)
def Jic (r s:TRow):Bool:=decide (0 < r.mux)&& (decide (s.mux=r.mux)&& decide (s.sub=r.sub))
def Jc0 (l:List TRow) (i:Nat):Bool:=(l.take i).any fun s=> Jg6 (l.getD i Jg) s|| Jic (l.getD i Jg) s
def JiM (r:TRow):Bool:=decide (r.a2=102)|| decide (r.a2=117)
def Jdr (l:List TRow) (i:Nat):Int:=if Jay (l.getD i Jg).name.data.toList=false then 13 else if Jcp l i then 15 else if JfC (l.getD i Jg) then 16 else if Jgm (l.getD i Jg) then 16 else if JiM (l.getD i Jg) then 17 else if Jc0 l i then 15 else 0
theorem JqG {l:List TRow} {i:Nat} (h:Jay (l.getD i Jg).name.data.toList=false):Jdr l i=13:=if_pos h
theorem JoQ {l:List TRow} {i:Nat} (h:Jay (l.getD i Jg).name.data.toList=true):Jdr l i=if Jcp l i then 15 else if JfC (l.getD i Jg) then 16 else if Jgm (l.getD i Jg) then 16 else if JiM (l.getD i Jg) then 17 else if Jc0 l i then 15 else 0:=if_neg (by rw [h];decide)
theorem Jsc {l:List TRow} {i k:Nat} {r:TRow} (hr:l.getD i Jg=r) (hk:k < i) (hi:i < l.length) (h:(Jg6 r (l.getD k Jg)|| Jic r (l.getD k Jg))=true):Jc0 l i=true:=by
 unfold Jc0
 rw [hr,List.any_eq_true]
 refine ⟨l.getD k Jg, ?_,h⟩
 rw [List.mem_iff_getElem]
 exact ⟨k,by rw [List.length_take];omega,by rw [List.getElem_take];simp [List.getD,show k < l.length by omega]⟩
def cN (r s:TRow) (a:Nat):Bool:=decide (r.num a≥0)&& decide (s.num a=r.num a)
theorem Jp9 {r s:TRow} {a:Nat} (ha:a < 5) (h:cN r s a=true):Jg6 r s=true:=by
 unfold Jg6
 rw [List.any_eq_true]
 exact ⟨a,by simp;omega,h⟩
theorem JvI {r:TRow} {k:Nat} (hk:k < 5) (h:true=Jel (r.num k)):JfC r=true:=by
 rcases (by omega:k=0∨k=1∨k=2∨k=3∨k=4) with rfl | rfl | rfl | rfl | rfl
 all_goals
  have h':Jel (r.num _)=true:=h.symm
  simp only [TRow.num] at h'
  simp [JfC,h']
end Go.Proofs.W

namespace Go.Proofs.W
open Go.Vl
set_option maxRecDepth 100000
def Jg7 (l:List TRow):Int×Int:=if 400 < l.length then (0,3) else match (List.range l.length).find? (fun i=> decide (Jdr l i≠0)) with
 | some i=> ((i:Int),Jdr l i)
 | none=> (0,0)
theorem JkC {n:Nat} {p:Nat→Bool} {i:Nat} (hi:i < n) (h:∀j,j < i→p j=false) (hp:p i=true):(List.range n).find? p=some i:=by
 rw [List.find?_range_eq_some]
 exact ⟨hp,List.mem_range.2 hi,fun j hj=> by rw [h j hj];rfl⟩
theorem Jqa {n:Nat} {p:Nat→Bool} (h:∀j,j < n→p j=false):(List.range n).find? p=none:=by
 rw [List.find?_eq_none]
 intro x hx
 rw [h x (List.mem_range.1 hx)];decide
end Go.Proofs.W

namespace Go.Proofs.W
open Go.Vl
set_option maxRecDepth 100000
def JoR (l:List TRow) (k:Nat) (S:JbJ):Prop:=(∀(a:Nat) (n:Int),a < 5→(((a:Int),n)∈S↔n≠-1∧∃j,j < k∧(l.getD j Jg).num a=n))∧(∀m s:Int,m=1∨m=2→((5+m,s)∈S↔∃j,j < k∧(l.getD j Jg).mux=m∧(l.getD j Jg).sub=s))
theorem JkD {r:TRow} {S:JbJ}:∀ {k:Nat},JaQ r S k=none→∃a,a < k∧r.num a≠-1∧((a:Int),r.num a)∈S
 | 0,h=> by unfold JaQ at h;cases h
 | k+1,h=> by
   unfold JaQ at h
   cases hk:JaQ r S k with
   | none=> obtain ⟨a,h1,h2⟩:=JkD hk;exact ⟨a,by omega,h2⟩
   | some S'=>
     rw [hk] at h
     dsimp only at h
     split at h
     ·cases h
     ·rename_i hn
      split at h
      ·rename_i hm
       refine ⟨k,Nat.lt_succ_self _,hn, ?_⟩
       have:∀ {m:Nat} {S':JbJ},JaQ r S m=some S'→∀x∈S',x∈S∨∃a,a < m∧x=((a:Int),r.num a):=by
        intro m
        induction m with
        | zero=> intro S' h x hx;unfold JaQ at h;cases h;exact .inl hx
        | succ m ih=>
          intro S' h x hx
          unfold JaQ at h
          cases hm:JaQ r S m with
          | none=> rw [hm] at h;cases h
          | some S1=>
            rw [hm] at h
            dsimp only at h
            split at h
            ·cases h
             rcases ih hm x hx with q | ⟨a,q1,q2⟩
             ·exact .inl q
             ·exact .inr ⟨a,by omega,q2⟩
            ·split at h
             ·cases h
             ·cases h
              rcases List.mem_append.1 hx with hx | hx
              ·rcases ih hm x hx with q | ⟨a,q1,q2⟩
               ·exact .inl q
               ·exact .inr ⟨a,by omega,q2⟩
              ·exact .inr ⟨m,Nat.lt_succ_self _,List.mem_singleton.1 hx⟩
       rcases this hk _ hm with q | ⟨a,q1,q2⟩
       ·exact q
       ·have:=congrArg Prod.fst q2
        dsimp only at this
        omega
      ·cases h
theorem JkE {r:TRow} {S:JbJ}:∀ {k:Nat} {S':JbJ},JaQ r S k=some S'→(∀x,x∈S'↔x∈S∨∃a,a < k∧r.num a≠-1∧x=((a:Int),r.num a))∧∀a,a < k→r.num a≠-1→¬((a:Int),r.num a)∈S
 | 0,S',h=> by
   unfold JaQ at h;cases h
   exact ⟨fun x=> ⟨.inl,fun q=> by rcases q with q | ⟨a,q,_⟩;exact q;omega⟩,fun a ha=> by omega⟩
 | k+1,S',h=> by
   unfold JaQ at h
   cases hk:JaQ r S k with
   | none=> rw [hk] at h;cases h
   | some S1=>
     rw [hk] at h
     dsimp only at h
     obtain ⟨i1,i2⟩:=JkE hk
     split at h
     ·rename_i hn
      cases h
      refine ⟨fun x=> (i1 x).trans ⟨fun q=> ?_,fun q=> ?_⟩,fun a ha hna=> ?_⟩
      ·rcases q with q | ⟨a,q1,q2⟩
       ·exact .inl q
       ·exact .inr ⟨a,by omega,q2⟩
      ·rcases q with q | ⟨a,q1,q2⟩
       ·exact .inl q
       ·rcases Nat.lt_or_ge a k with w | w
        ·exact .inr ⟨a,w,q2⟩
        ·rw [show a=k by omega] at q2;exact absurd hn q2.1
      ·rcases Nat.lt_or_ge a k with w | w
       ·exact i2 a w hna
       ·rw [show a=k by omega] at hna;exact absurd hn hna
     ·rename_i hn
      split at h
      ·cases h
      ·rename_i hm
       cases h
       refine ⟨fun x=> ?_,fun a ha hna=> ?_⟩
       ·rw [List.mem_append,i1,List.mem_singleton]
        constructor
        ·rintro ((q | ⟨a,q1,q2⟩) | q)
         ·exact .inl q
         ·exact .inr ⟨a,by omega,q2⟩
         ·exact .inr ⟨k,Nat.lt_succ_self _,hn,q⟩
        ·rintro (q | ⟨a,q1,q2,q3⟩)
         ·exact .inl (.inl q)
         ·rcases Nat.lt_or_ge a k with w | w
          ·exact .inl (.inr ⟨a,w,q2,q3⟩)
          ·rw [show a=k by omega] at q3;exact .inr q3
       ·rcases Nat.lt_or_ge a k with w | w
        ·exact i2 a w hna
        ·rw [show a=k by omega]
         exact fun q=> hm ((i1 _).2 (.inl q))
theorem JgE {l:List TRow} {i:Nat} (hi:i < l.length):Jc0 l i=true↔∃j,j < i∧((∃a,a < 5∧0≤(l.getD i Jg).num a∧(l.getD j Jg).num a=(l.getD i Jg).num a)∨(0 < (l.getD i Jg).mux∧(l.getD j Jg).mux=(l.getD i Jg).mux∧(l.getD j Jg).sub=(l.getD i Jg).sub)):=by
 constructor
 ·intro h
  unfold Jc0 at h
  rw [List.any_eq_true] at h
  obtain ⟨s,hs,h⟩:=h
  obtain ⟨j,hj,rfl⟩:=List.mem_iff_getElem.1 hs
  rw [List.length_take] at hj
  rw [List.getElem_take] at h
  have hg:l.getD j Jg=l[j]:=by simp [List.getD,show j < l.length by omega]
  refine ⟨j,by omega, ?_⟩
  rw [hg]
  rw [Bool.or_eq_true] at h
  rcases h with h | h
  ·left
   unfold Jg6 at h
   rw [List.any_eq_true] at h
   obtain ⟨a,ha,h⟩:=h
   rw [Bool.and_eq_true,decide_eq_true_iff,decide_eq_true_iff] at h
   exact ⟨a,by simp at ha;omega,h⟩
  ·right
   unfold Jic at h
   rw [Bool.and_eq_true,Bool.and_eq_true,decide_eq_true_iff,decide_eq_true_iff,decide_eq_true_iff] at h
   exact h
 ·rintro ⟨j,hj,h⟩
  refine Jsc rfl hj hi ?_
  rw [Bool.or_eq_true]
  rcases h with ⟨a,ha,h1,h2⟩ | ⟨h1,h2,h3⟩
  ·exact .inl (Jp9 ha (by unfold cN;rw [decide_eq_true h1,decide_eq_true h2];rfl))
  ·exact .inr (by unfold Jic;rw [decide_eq_true h1,decide_eq_true h2,decide_eq_true h3];rfl)
theorem Jw4 {r:TRow} (h:JfC r=false) {a:Nat} (ha:a < 5):-1≤r.num a:=by
 have:Jel (r.num a)=false:=by
  cases hq:Jel (r.num a) with
  | false=> rfl
  | true=> rw [JvI ha hq.symm] at h;cases h
 unfold Jel at this
 rw [Bool.or_eq_false_iff,decide_eq_false_iff_not] at this
 omega
theorem JqH {l:List TRow} {i:Nat} {S:JbJ} (hi:i < l.length) (hS:JoR l i S):(Jdr l i=0→∃S',JeH l i S= .ok S'∧JoR l (i+1) S')∧(Jdr l i≠0→∃e,JeH l i S= .error e∧e≠0):=by
 obtain ⟨s1,s2⟩:=hS
 cases hn:Jay (l.getD i Jg).name.data.toList with
 | false=> rw [JqG hn];exact ⟨(fun h=> by cases h),fun _=> ⟨13,JqB hn,by decide⟩⟩
 | true=>
   rw [JoQ hn]
   cases ho:Jcp l i with
   | true=> rw [if_pos rfl];exact ⟨(fun h=> by cases h),fun _=> ⟨15,JqC hn ho,by decide⟩⟩
   | false=>
     rw [if_neg Dc]
     cases hb:JfC (l.getD i Jg) with
     | true=>
       rw [if_pos rfl]
       exact ⟨(fun h=> by cases h),fun _=> ⟨16,Jlw hn ho (by rw [Jib,hb];rfl),by decide⟩⟩
     | false=>
       rw [if_neg Dc]
       cases hm:Jgm (l.getD i Jg) with
       | true=>
         rw [if_pos rfl]
         exact ⟨(fun h=> by cases h),fun _=> ⟨16,Jlw hn ho (by rw [Jib,hb,hm];rfl),by decide⟩⟩
       | false=>
         rw [if_neg Dc]
         have hrg:JcD (l.getD i Jg)=true:=by rw [Jib,hb,hm];rfl
         cases ha:JiM (l.getD i Jg) with
         | true=>
           rw [if_pos rfl]
           have ha':(l.getD i Jg).a2=102∨(l.getD i Jg).a2=117:=by unfold JiM at ha;simpa using ha
           exact ⟨(fun h=> by cases h),fun _=> ⟨17,Jlx hn ho hrg ha',by decide⟩⟩
         | false=>
           rw [if_neg Dc]
           have ha':¬((l.getD i Jg).a2=102∨(l.getD i Jg).a2=117):=fun q=> by
            unfold JiM at ha
            rcases q with q | q
            ·rw [decide_eq_true q] at ha;cases ha
            ·rw [decide_eq_true q,Bool.or_true] at ha;cases ha
           rw [Jmr hn ho hrg ha']
           cases hns:JaQ (l.getD i Jg) S 5 with
           | none=>
             obtain ⟨a,h1,h2,h3⟩:=JkD hns
             obtain ⟨_,j,hj,h4⟩:=(s1 a _ h1).1 h3
             have hc:Jc0 l i=true:=(JgE hi).2 ⟨j,hj, .inl ⟨a,h1,by have:=Jw4 hb h1;omega,h4⟩⟩
             rw [hc,if_pos rfl]
             exact ⟨(fun h=> by cases h),fun _=> ⟨15,rfl,by decide⟩⟩
           | some S1=>
             obtain ⟨i1,i2⟩:=JkE hns
             dsimp only
             have hnoN:∀j,j < i→∀a,a < 5→0≤(l.getD i Jg).num a→(l.getD j Jg).num a≠(l.getD i Jg).num a:=fun j hj a h1 h2 h3=> i2 a h1 Om ((s1 a _ h1).2 ⟨by omega,j,hj,h3⟩)
             have hS1:∀(a:Nat) (n:Int),a < 5→(((a:Int),n)∈S1↔n≠-1∧∃j,j < i+1∧(l.getD j Jg).num a=n):=fun a n h5=> by
              rw [i1,s1 a n h5]
              constructor
              ·rintro (⟨q1,j,q2,q3⟩ | ⟨b,q1,q2,q3⟩)
               ·exact ⟨q1,j,by omega,q3⟩
               ·have e1:a=b:=by have:=congrArg Prod.fst q3;dsimp only at this;omega
                have e2:n=(l.getD i Jg).num b:=congrArg Prod.snd q3
                subst e1
                exact ⟨by rw [e2];exact q2,i,Nat.lt_succ_self _,e2.symm⟩
              ·rintro ⟨q1,j,q2,q3⟩
               rcases Nat.lt_or_ge j i with w | w
               ·exact .inl ⟨q1,j,w,q3⟩
               ·have e:j=i:=by omega
                subst e
                exact .inr ⟨a,h5,by rw [q3];exact q1,by rw [q3]⟩
             unfold Jia
             by_cases hm0:(l.getD i Jg).mux=0
             ·rw [if_pos hm0]
              have hc:Jc0 l i=false:=by
               rw [Bool.eq_false_iff,Ne,JgE hi]
               rintro ⟨j,hj,⟨a,h1,h2,h3⟩ | ⟨h1,_⟩⟩
               ·exact hnoN j hj a h1 h2 h3
               ·omega
              rw [hc,if_neg Dc]
              refine ⟨fun _=> ⟨S1,rfl,hS1,fun m s hms=> ?_⟩,fun h=> absurd rfl h⟩
              rw [i1,s2 m s hms]
              constructor
              ·rintro (⟨j,q2,q3⟩ | ⟨b,q1,q2,q3⟩)
               ·exact ⟨j,by omega,q3⟩
               ·have:=congrArg Prod.fst q3;dsimp only at this;omega
              ·rintro ⟨j,q2,q3,q4⟩
               rcases Nat.lt_or_ge j i with w | w
               ·exact .inl ⟨j,w,q3,q4⟩
               ·have e:j=i:=by omega
                subst e;omega
             ·rw [if_neg hm0]
              have hm12:=Jks hrg hm0
              by_cases hin:(5+(l.getD i Jg).mux,(l.getD i Jg).sub)∈S1
              ·rw [if_pos hin]
               have hinS:(5+(l.getD i Jg).mux,(l.getD i Jg).sub)∈S:=by
                rcases (i1 _).1 hin with q | ⟨b,q1,q2,q3⟩
                ·exact q
                ·have:=congrArg Prod.fst q3;dsimp only at this;omega
               obtain ⟨j,hj,q1,q2⟩:=(s2 _ _ hm12).1 hinS
               have hc:Jc0 l i=true:=(JgE hi).2 ⟨j,hj, .inr ⟨by omega,q1,q2⟩⟩
               rw [hc,if_pos rfl]
               exact ⟨(fun h=> by cases h),fun _=> ⟨15,rfl,by decide⟩⟩
              ·rw [if_neg hin]
               have hc:Jc0 l i=false:=by
                rw [Bool.eq_false_iff,Ne,JgE hi]
                rintro ⟨j,hj,⟨a,h1,h2,h3⟩ | ⟨h1,h2,h3⟩⟩
                ·exact hnoN j hj a h1 h2 h3
                ·exact hin ((i1 _).2 (.inl ((s2 _ _ hm12).2 ⟨j,hj,h2,h3⟩)))
               rw [hc,if_neg Dc]
               refine ⟨fun _=> ⟨_,rfl,fun a n h5=> ?_,fun m s hms=> ?_⟩,fun h=> absurd rfl h⟩
               ·rw [List.mem_append,hS1 a n h5,List.mem_singleton]
                constructor
                ·rintro (q | q)
                 ·exact q
                 ·have:=congrArg Prod.fst q;dsimp only at this;omega
                ·exact .inl
               ·rw [List.mem_append,i1,s2 m s hms,List.mem_singleton]
                constructor
                ·rintro ((⟨j,q2,q3⟩ | ⟨b,q1,q2,q3⟩) | q)
                 ·exact ⟨j,by omega,q3⟩
                 ·have:=congrArg Prod.fst q3;dsimp only at this;omega
                 ·have e1:=congrArg Prod.fst q
                  have e2:=congrArg Prod.snd q
                  dsimp only at e1 e2
                  exact ⟨i,Nat.lt_succ_self _,by omega,e2.symm⟩
                ·rintro ⟨j,q2,q3,q4⟩
                 rcases Nat.lt_or_ge j i with w | w
                 ·exact .inl (.inl ⟨j,w,q3,q4⟩)
                 ·have e:j=i:=by omega
                  subst e
                  exact .inr (by rw [q3,q4])
theorem JjN {l:List TRow}:∀ {k:Nat},k≤l.length→(∀j,j < k→Jdr l j=0)→∃S,Jdy l k= .ok S∧JoR l k S
 | 0,_,_=> ⟨[],rfl,fun a n _=> by simp,fun m s _=> by simp⟩
 | k+1,hk,h=> by
   obtain ⟨S,h1,h2⟩:=JjN (k:=k) Om fun j hj=> h j Om
   obtain ⟨S',h3,h4⟩:=(JqH Om h2).1 (h k Om)
   exact ⟨S',Jmq h1 h3,h4⟩
theorem Jmy {l:List TRow}:(∀j,j < l.length→Jdr l j=0)∨∃i,i < l.length∧Jdr l i≠0∧∀j,j < i→Jdr l j=0:=by
 have:∀n,n≤l.length→(∀j,j < n→Jdr l j=0)∨∃i,i < l.length∧Jdr l i≠0∧∀j,j < i→Jdr l j=0:=by
  intro n
  induction n with
  | zero=> exact fun _=> .inl fun j hj=> absurd hj (Nat.not_lt_zero j)
  | succ n ih=>
    intro hn
    rcases ih Om with h | h
    ·by_cases q:Jdr l n=0
     ·exact .inl fun j hj=> by rcases Nat.lt_or_ge j n with w | w;exact h j w;rw [show j=n by omega];exact q
     ·exact .inr ⟨n,by omega,q,h⟩
    ·exact .inr h
 exact this _ (Nat.le_refl _)
theorem Jt0 (l:List TRow):(JbK l).2=0↔(Jg7 l).2=0:=by
 by_cases h4:400 < l.length
 ·unfold JbK Jg7
  rw [if_pos h4,if_pos h4]
 ·rcases Jmy (l:=l) with h | ⟨i,hi,h1,h2⟩
  ·obtain ⟨S,hS,-⟩:=JjN (Nat.le_refl _) h
   rw [JtH h4 hS]
   unfold Jg7
   rw [if_neg h4,Jqa (fun j hj=> decide_eq_false (fun q=> q (h j hj)))]
  ·obtain ⟨S,hS,hs⟩:=JjN (k:=i) Om h2
   obtain ⟨e,he,hne⟩:=(JqH hi hs).2 h1
   rw [JqA h4 hi hS he]
   unfold Jg7
   rw [if_neg h4,JkC (p:=fun i=> decide (Jdr l i≠0)) hi (fun j hj=> decide_eq_false (fun q=> q (h2 j hj))) (decide_eq_true h1)]
   exact ⟨fun q=> absurd q hne,fun q=> absurd q h1⟩
theorem Jdh {l:List TRow} (h:(JbK l).2=0):l.length≤400∧∀j,j < l.length→Jdr l j=0:=by
 rw [Jt0] at h
 unfold Jg7 at h
 by_cases h4:400 < l.length
 ·rw [if_pos h4] at h;cases h
 ·rcases Jmy (l:=l) with q | ⟨i,hi,h1,h2⟩
  ·exact ⟨by omega,q⟩
  ·rw [if_neg h4,JkC (p:=fun i=> decide (Jdr l i≠0)) hi (fun j hj=> decide_eq_false (fun q=> q (h2 j hj))) (decide_eq_true h1)] at h
   exact absurd h h1
theorem Jen {l:List TRow} {i:Nat} (h:Jdr l i=0):Jay (l.getD i Jg).name.data.toList=true∧Jcp l i=false∧JfC (l.getD i Jg)=false∧Jgm (l.getD i Jg)=false∧JiM (l.getD i Jg)=false∧Jc0 l i=false:=by
 cases hn:Jay (l.getD i Jg).name.data.toList with
 | false=> rw [JqG hn] at h;cases h
 | true=>
   rw [JoQ hn] at h
   split at h
   ·cases h
   split at h
   ·cases h
   split at h
   ·cases h
   split at h
   ·cases h
   split at h
   ·cases h
   simp_all
theorem JfP {l:List TRow} (h:(JbK l).2=0):JlA l:=by
 obtain ⟨_,hr⟩:=Jdh h
 have step:∀i,i+1 < l.length→Go.Sort.ltStr (l.getD i Jg).name.data.toList (l.getD (i+1) Jg).name.data.toList=true:=fun i hi=> by
  have:=(Jen (hr (i+1) hi)).2.1
  unfold Jcp at this
  rw [decide_eq_true (Nat.succ_pos i),Bool.true_and] at this
  exact Jx5 this
 intro i j hij hj
 have:∀n,i+1+n < l.length→Go.Sort.ltStr (l.getD i Jg).name.data.toList (l.getD (i+1+n) Jg).name.data.toList=true:=by
  intro n
  induction n with
  | zero=> exact step i
  | succ n ih=> exact fun hn=> Go.Sort.swo_ltStr.trans _ _ _ (ih Om) (step (i+1+n) Om)
 have:=this (j - i - 1) Om
 rwa [show i+1+(j - i - 1)=j by omega] at this
theorem JvJ {l:List TRow} (h:(JbK l).2=0) {i:Nat} (hi:i < l.length):(l.getD i Jg).name.size≠0:=by
 have:=(Jen ((Jdh h).2 i hi)).1
 have:=((JtX _).1 this).1
 exact this
end Go.Proofs.W

namespace Go.Proofs.W
open Go.Vl
set_option maxRecDepth 100000
def nameR (l:List TRow) (r:Rec):ByteArray:=(ofI l r).name
def Jza (l:List TRow) (s:ByteArray) (rs:List Rec):List Rec:=rs.filter fun r=> kS s (nameR l r)
def JvK (l:List TRow) (r:Rec) (k:Nat):Nat:=JA (ofI l r).abi.toNat r k
def OwnOk (l:List TRow) (rs:List Rec) (g:Gat):Prop:=∃r0 rest,Jza l g.name rs=r0::rest∧g.m=rest.length+1∧(∀k,g.a k=JvK l r0 k)∧∀k,g.b k=rest.all fun r=> decide (JvK l r0 k=JvK l r k)
structure GInv (l:List TRow) (rs:List Rec) (S:List Gat×Bool):Prop where
 nd:(S.1.map Gat.name).Nodup
 nz:∀g∈S.1,g.name.size≠0
 own:∀g∈S.1,OwnOk l rs g
 all:∀r∈rs,(nameR l r).size≠0→∃g∈S.1,g.name=nameR l r
 x:S.2=rs.any fun r=> decide ((nameR l r).size≠0)&& decide ((ofI l r).abi=1)
def RSb (a b:List UInt8):Prop:=Go.Sort.ltStr a b=true
theorem JiN (x:List UInt8):¬RSb x x:=by unfold RSb;rw [Go.Sort.swo_ltStr.irrefl];decide
theorem Jyc (x y z:List UInt8) (h:RSb x y) (k:RSb y z):RSb x z:=Go.Sort.swo_ltStr.trans x y z h k
theorem JkF:∀ {a b:List (List UInt8)},a.Pairwise RSb→b.Pairwise RSb→(∀z,z∈a↔z∈b)→a=b
 | [], [],_,_,_=> rfl
 | [],y::b,_,_,h=> by have:=(h y).2 (.head _);cases this
 | x::a, [],_,_,h=> by have:=(h x).1 (.head _);cases this
 | x::a,y::b,ha,hb,h=> by
   rw [List.pairwise_cons] at ha hb
   have hxy:x=y:=by
    rcases List.mem_cons.1 ((h x).1 (.head _)) with e | hx
    ·exact e
    ·rcases List.mem_cons.1 ((h y).2 (.head _)) with e | hy
     ·exact e.symm
     ·exact absurd (Jyc _ _ _ (ha.1 y hy) (hb.1 x hx)) (JiN x)
   subst hxy
   rw [JkF ha.2 hb.2 fun z=> ⟨fun hz=> ?_,fun hz=> ?_⟩]
   ·rcases List.mem_cons.1 ((h z).1 (.tail _ hz)) with e | q
    ·subst e;exact absurd (ha.1 _ hz) (JiN _)
    ·exact q
   ·rcases List.mem_cons.1 ((h z).2 (.tail _ hz)) with e | q
    ·subst e;exact absurd (hb.1 _ hz) (JiN _)
    ·exact q
end Go.Proofs.W

namespace Go.Proofs.W
open Go.Vl
set_option maxRecDepth 100000
theorem Jt1 {l:List TRow} {r:Rec} {i:Nat} (h:atO l r=some i):i < l.length:=by
 unfold atO at h
 cases hs:Jcv r.arch r.num with
 | none=> rw [hs] at h;cases h
 | some a=>
   rw [hs] at h
   dsimp only at h
   split at h <;> exact Jx4 h
end Go.Proofs.W

namespace Go.Proofs.W
open Go.Vl
set_option maxRecDepth 100000
def JdX (p:Pol) (l:List TRow) (r:Rec):A2:=if (!(ofI l r).some|| (decide ((ofI l r).abi=1)&& !p.x32))=true then (1,0) else if (ofI l r).name.size=0 then p.dflt else if (ofI l r).muxed=true then Ja8 p (ofI l r).name else Jd2 p (ofI l r).name (JA (ofI l r).abi.toNat r)
def Jsd (p:Pol):Prop:=p.rules.length≤1000000∧∀r∈p.rules,r.conds.length≤1000000∧∀c∈r.conds,c.ok
theorem Jf1 {r:Rec} (h:r.ok) (a k:Nat):JA a r k < 18446744073709551616:=by
 have:=JtZ h k
 unfold JA;split <;> omega
def Jp (a:A2):Nat:=kb (a.1.toNat - 1)+a.2.toNat
theorem JgQ {k n:Int} (h:JaI k n=true):∃k' n':Nat,k=(k'+1:Nat)∧n=(n':Nat)∧k' < 8∧n'≤km k':=by
 unfold JaI at h
 simp only [Bool.and_eq_true,decide_eq_true_eq] at h
 obtain ⟨⟨⟨h1,h2⟩,h3⟩,h4⟩:=h
 refine ⟨(k - 1).toNat,n.toNat,by omega,by omega,by omega, ?_⟩
 unfold Jkr at h4
 unfold km
 split at h4
 ·rw [if_pos Om];omega
 ·split at h4
  ·rw [if_neg Om,if_pos Om];omega
  ·rw [if_neg Om,if_neg Om];omega
theorem JqI (a:A2) (h:JaI a.1 a.2=true):Tells Tryz.prog 113 [Jlt a] (.tup [u32 (Jp a:Nat),int 0]):=by
 obtain ⟨k,n⟩:=a
 obtain ⟨k',n',rfl,rfl,h1,h2⟩:=JgQ h
 have:=Jr7 k' n' h1 h2
 unfold Jp
 dsimp only
 rw [show ((k'+1:Nat):Int).toNat - 1=k' by omega,show ((n':Nat):Int).toNat=n' by omega]
 exact this
theorem JvL {a:A2} (h:JaI a.1 a.2=true):Jp a < 4294967296:=by
 obtain ⟨k,n⟩:=a
 obtain ⟨k',n',rfl,rfl,h1,h2⟩:=JgQ h
 have:=Jr0 h1
 unfold Jp
 dsimp only
 rw [show ((k'+1:Nat):Int).toNat - 1=k' by omega,show ((n':Nat):Int).toNat=n' by omega]
 omega
theorem JeI {p:Pol} (h:JaJ p=true):JaI p.dflt.1 p.dflt.2=true∧∀r∈p.rules,Jax r=true:=by
 unfold JaJ at h
 simp only [Bool.and_eq_true,decide_eq_true_eq,Bool.not_eq_true',List.any_eq_false,Bool.not_eq_false'] at h
 refine ⟨h.1,fun r hr=> ?_⟩
 have:=h.2.2 r hr
 simpa using this
theorem JfQ {r:Rul} (h:Jax r=true):JaI r.act.1 r.act.2=true:=by
 unfold Jax at h
 simp only [Bool.and_eq_true] at h
 exact h.2.1
theorem Jji {p:Pol} (h:JaJ p=true) (nm:ByteArray):JaI (Ja8 p nm).1 (Ja8 p nm).2=true:=by
 obtain ⟨h1,h2⟩:=JeI h
 unfold Ja8
 cases hf:p.rules.find? (fun r=> kS r.name nm) with
 | none=> exact h1
 | some r=>
   dsimp only
   split
   ·exact JfQ (h2 r (List.mem_of_find?_eq_some hf))
   ·exact h1
theorem Jt2 {p:Pol} (h:JaJ p=true) (nm:ByteArray) (x:Nat→Nat):JaI (Jd2 p nm x).1 (Jd2 p nm x).2=true:=by
 obtain ⟨h1,h2⟩:=JeI h
 unfold Jd2
 cases hf:p.rules.find? (fun r=> kS r.name nm&& Jb1 x r) with
 | none=> exact h1
 | some r=> exact JfQ (h2 r (List.mem_of_find?_eq_some hf))
theorem JoS {p:Pol} (h:JaJ p=true) (l:List TRow) (r:Rec):JaI (JdX p l r).1 (JdX p l r).2=true:=by
 unfold JdX
 split
 ·decide
 ·split
  ·exact (JeI h).1
  ·split
   ·exact Jji h _
   ·exact Jt2 h _ _
end Go.Proofs.W

namespace Go.Proofs.W
open Go.Vl
set_option maxRecDepth 100000
structure PRul where
 conds:List Cnd
 code:Nat
deriving DecidableEq
structure PEnt where
 num:Nat
 rules:List PRul
structure PSub where
 num:Nat
 code:Nat
deriving DecidableEq
structure Plan where
 dflt:Nat
 x32:Bool
 ents:Nat→List PEnt
 subs:Nat→List PSub
def Jc1 (c:Cnd):Bool:=decide ((Ja3 c).2=2)
def JgR (c:Cnd):Option Cnd:=if (Ja3 c).2=0 then some (Ja3 c).1 else none
def JeJ (r:PRul):Option PRul:=if r.conds.any Jc1 then none else some ⟨r.conds.filterMap JgR,r.code⟩
def Jds (a:Nat) (r:PRul):Option PRul:=if a=2 then JeJ r else some r
def Jb3 (a:Nat):List PRul→List PRul
 | []=> []
 | r::l=> match Jds a r with
   | none=> Jb3 a l
   | some q=> if q.conds.length=0 then [q] else q::Jb3 a l
def Jhx (d:Nat) (l:List PRul):List PRul:=(l.reverse.dropWhile fun r=> decide (r.code=d)).reverse
def Jaj (a:Nat) (l:List PRul) (d:Nat):List PRul:=Jhx d (Jb3 a l)
def Jaq (x:Nat→Nat) (l:List PRul):Option Nat:=(l.find? fun r=> r.conds.all (hB x)).map (·.code)
theorem Jse {x:Nat→Nat} (l m:List PRul):Jaq x (l++m)=(Jaq x l).or (Jaq x m):=by
 unfold Jaq
 rw [List.find?_append]
 cases l.find? fun r=> r.conds.all (hB x) <;> rfl
theorem Jid {d:Nat} {l:List PRul} {r:PRul}:Jhx d (l++ [r])=if r.code=d then Jhx d l else l++ [r]:=by
 unfold Jhx
 rw [List.reverse_append,List.reverse_singleton,List.singleton_append,List.dropWhile_cons]
 by_cases h:r.code=d
 ·rw [if_pos (decide_eq_true h),if_pos h]
 ·rw [if_neg (by simpa using h),if_neg h,List.reverse_cons,List.reverse_reverse]
theorem JkG {x:Nat→Nat} {d:Nat}:∀(k:Nat) (l:List PRul),l.length≤k→(Jaq x (Jhx d l)).getD d=(Jaq x l).getD d
 | 0,l,h=> by rw [List.length_eq_zero_iff.1 (by omega:l.length=0)];rfl
 | k+1,l,h=> by
   rcases List.eq_nil_or_concat l with rfl | ⟨l',r,rfl⟩
   ·rfl
   ·rw [List.concat_eq_append] at h⊢
    rw [Jid]
    split
    ·rename_i hd
     rw [List.length_append,List.length_singleton] at h
     rw [JkG k l' Om,Jse]
     cases Jaq x l' with
     | some a=> rfl
     | none=>
       unfold Jaq
       rw [List.find?_cons]
       cases r.conds.all (hB x) <;> simp [hd]
    ·rfl
def PRul.ok (r:PRul):Prop:=∀c∈r.conds,c.ok∧NFm c
theorem Jt3 {x:Nat→Nat} (hx:∀i,x i < 4294967296) {c:Cnd} (ho:c.ok) (hc:NFm c):((Ja3 c).2=1→hB x c=true)∧((Ja3 c).2=2→hB x c=false)∧((Ja3 c).2=0→hB x (Ja3 c).1=hB x c):=by
 have h4: [x 0,x 1,x 2,x 3,x 4,x 5].getD c.arg.toNat 0 < 4294967296:=by
  rcases c.arg.toNat with _ | _ | _ | _ | _ | _ | k
  all_goals first | exact hx _ | exact (by decide:(0:Nat) < 4294967296)
 have h:=Jtt ho hc h4
 unfold hB
 rw [hc.1,Bool.true_and]
 refine ⟨h.1,h.2.1,fun h0=> ?_⟩
 obtain ⟨k1,k2,k3⟩:=h.2.2 h0
 rw [k1,k2,k3,Bool.true_and]
theorem JkH (c:Cnd):(Ja3 c).2=0∨(Ja3 c).2=1∨(Ja3 c).2=2:=by
 unfold Ja3
 repeat' split
 all_goals simp
theorem Jt4 {x:Nat→Nat} (hx:∀i,x i < 4294967296) {r:PRul} (ho:r.ok) (h:JeJ r=none):r.conds.all (hB x)=false:=by
 unfold JeJ at h
 by_cases ha:r.conds.any Jc1=true
 ·obtain ⟨c,h1,h2⟩:=List.any_eq_true.1 ha
  rw [List.all_eq_false]
  exact ⟨c,h1,by rw [(Jt3 hx (ho c h1).1 (ho c h1).2).2.1 (of_decide_eq_true h2)];decide⟩
 ·rw [if_neg ha] at h;cases h
theorem JqJ {x:Nat→Nat} (hx:∀i,x i < 4294967296):∀(l:List Cnd),(∀c∈l,c.ok∧NFm c)→l.any Jc1=false→(l.filterMap JgR).all (hB x)=l.all (hB x)
 | [],_,_=> rfl
 | c::l,hc,hn=> by
   have ih:=JqJ hx l (fun d hd=> hc d (List.mem_cons_of_mem _ hd)) (by simp at hn⊢;exact hn.2)
   have hcn:Jc1 c=false:=by simp at hn;simpa using hn.1
   have h:=Jt3 hx (hc c List.mem_cons_self).1 (hc c List.mem_cons_self).2
   rcases JkH c with h0 | h0 | h0
   ·rw [List.filterMap_cons,show JgR c=some (Ja3 c).1 from if_pos h0,List.all_cons,List.all_cons,ih,h.2.2 h0]
   ·rw [List.filterMap_cons,show JgR c=none from if_neg Om,List.all_cons,ih,h.1 h0,Bool.true_and]
   ·unfold Jc1 at hcn;rw [h0] at hcn;cases hcn
theorem Jt5 {x:Nat→Nat} (hx:∀i,x i < 4294967296) {r q:PRul} (ho:r.ok) (h:JeJ r=some q):q.conds.all (hB x)=r.conds.all (hB x)∧q.code=r.code:=by
 unfold JeJ at h
 by_cases ha:r.conds.any Jc1=true
 ·rw [if_pos ha] at h;cases h
 ·rw [if_neg ha] at h
  obtain rfl:=Option.some.inj h
  exact ⟨JqJ hx r.conds ho (Bool.eq_false_iff.2 ha),rfl⟩
theorem JkI {x:Nat→Nat} {a:Nat} (hx:a=2→∀i,x i < 4294967296):∀(l:List PRul),(∀r∈l,r.ok)→Jaq x (Jb3 a l)=Jaq x l
 | [],_=> rfl
 | r::l,h=> by
   have ih:=JkI hx l fun q hq=> h q (List.mem_cons_of_mem _ hq)
   have key:∀q:PRul,q.conds.all (hB x)=r.conds.all (hB x)→q.code=r.code→Jaq x (if q.conds.length=0 then [q] else q::Jb3 a l)=Jaq x (r::l):=fun q h1 h2=> by
    split
    ·rename_i h0
     have hq:q.conds.all (hB x)=true:=by rw [List.length_eq_zero_iff.1 h0];rfl
     unfold Jaq
     rw [List.find?_cons,List.find?_cons,← h1,hq]
     exact congrArg some h2
    ·unfold Jaq at ih⊢
     rw [List.find?_cons,List.find?_cons,h1]
     cases r.conds.all (hB x) with
     | true=> exact congrArg some h2
     | false=> exact ih
   unfold Jb3 Jds
   by_cases ha:a=2
   ·rw [if_pos ha]
    cases hn:JeJ r with
    | none=>
      show Jaq x (Jb3 a l)=_
      rw [ih,show Jaq x (r::l)=Jaq x l from by unfold Jaq;rw [List.find?_cons,Jt4 (hx ha) (h r List.mem_cons_self) hn]]
    | some q=>
      obtain ⟨h1,h2⟩:=Jt5 (hx ha) (h r List.mem_cons_self) hn
      exact key q h1 h2
   ·rw [if_neg ha]
    exact key r rfl rfl
theorem Jqb {x:Nat→Nat} {a d:Nat} (hx:a=2→∀i,x i < 4294967296) (l:List PRul) (h:∀r∈l,r.ok):(Jaq x (Jaj a l d)).getD d=(Jaq x l).getD d:=by
 unfold Jaj
 rw [JkG _ _ (Nat.le_refl _),JkI hx l h]
end Go.Proofs.W

namespace Go.Proofs.W
open Go.Vl
set_option maxRecDepth 100000
end Go.Proofs.W

namespace Go.Proofs.W
open Go.Vl
set_option maxRecDepth 100000
theorem JeZ {P:Program} {c:Code} {E:Env} {Q:AExit→Env→Prop} (h:AW P c E (Jwy (fun _:Unit=> E) (fun _=> True) (fun _=> 0) () Q)):AW P (.loop c) E Q:=
 Jx (fun _:Unit=> E) (fun _=> True) (fun _=> 0) ⟨(),trivial,ELe.refl _⟩ fun _ _=> h
def Je0 (sz:Nat):AV:= .os sz 0 (fun _=> .any) none
theorem Jw5:Tells Tryz.prog 209 [u64 0] (int 0):=by
 refine Jf Tryz.func209 rfl rfl fun nx=> ?_
 refine stp ?_
 exact Jd rfl Rf
theorem Jsf:Tells Tryz.prog 120 [.v (.int .u64 0)] (int 0):=by
 refine Jf Tryz.func120 rfl rfl fun nx=> ?_
 refine stp ?_
 refine Je rfl rfl Jw5 ⟨Rf,trivial⟩ fun nx=> ?_
 refine stp ?_
 exact Jd rfl Rf
theorem JyO (n:Nat):Tells Tryz.prog 328 [Je0 4,int 0,int 0,fn0 n] (.tup []):=by
 refine Jf Tryz.func328 rfl rfl fun nx=> ?_
 refine stp ?_
 refine JeZ ?_
 refine stp ?_
 exact Jd rfl Rf
theorem JyP (n:Nat):Tells Tryz.prog 261 [Je0 4,int 0,int 0,int 0,fn0 n] (.tup []):=by
 refine Jf Tryz.func261 rfl rfl fun nx=> ?_
 refine stp ?_
 refine JeZ ?_
 refine stp ?_
 refine Je rfl rfl (JyO n) ⟨Rf,Rf,Rf,Rf,trivial⟩ fun nx=> ?_
 refine stp ?_
 exact Jd rfl Rf
theorem Jsg (n:Nat):Tells Tryz.prog 192 [Je0 4,fn0 n] (.tup []):=by
 refine Jf Tryz.func192 rfl rfl fun nx=> ?_
 refine stp ?_
 refine Je rfl rfl Jsf ⟨Rf,trivial⟩ fun nx=> ?_
 refine stp ?_
 refine Je rfl rfl (JyP n) ⟨Rf,Rf,Rf,Rf,Rf,trivial⟩ fun nx=> ?_
 refine stp ?_
 exact Jd rfl Rf
theorem Jt6:Tells Tryz.prog 194 [Je0 4] (Je0 4):=by
 refine Jf Tryz.func194 rfl rfl fun nx=> ?_
 refine stp ?_
 exact Jd rfl Rf
end Go.Proofs.W

namespace Go.Proofs
open Go.Shelf
shelf_lay Lays.n125 Nm 125 at Tryz as Tryz.lays125
end Go.Proofs
namespace Go.Proofs.W
open Go.Vl Go.Shelf
set_option maxRecDepth 100000
theorem JoT (n:Nat) (hn:n≤1000000000):Tells Tryz.prog 120 [.v (.int .u64 (n:Int))] (.v (.int .i64 (Lib.bitLen n))):=
 JcX (vs:= [.int .u64 (n:Int)]) ⟨_,Tryz.func120,rfl,rfl⟩ fun w=> (Any.bits_Len Tryz.lays125 (n:Int) w Om Om).mono fun e w' ⟨h1,h2⟩=> ⟨h1,by subst h2;exact ⟨rfl,rfl,rfl,Nat.le_refl _,fun _ _=> rfl⟩⟩
end Go.Proofs.W

namespace Go.Proofs.W
open Go.Vl
set_option maxRecDepth 100000
def JdJ (a b:Int):Int:=if a < b then -1 else if b < a then 1 else 0
def orL:List Int→Int
 | []=> 0
 | x::l=> if x=0 then orL l else x
theorem Jjj (a b:Int):Tells Tryz.prog 263 [int a,int b] (int (JdJ a b)):=by
 have hn:∀z:Int,Tells Tryz.prog 336 [int z] (Jb false):=fun z=> by
  refine Jf Tryz.func336 rfl rfl fun nx=> ?_
  refine stp ?_
  (intro c hc;(first | (rw [bne_self_eq_false] at hc;subst hc) | (obtain rfl:c=false:=hc.trans (bne_self_eq_false _)));refine stp ?_)
  exact Jd rfl Rf
 refine Jf Tryz.func263 rfl rfl fun nx=> ?_
 refine stp ?_
 refine Je rfl rfl (hn a) ⟨Rf,trivial⟩ fun nx1=> ?_
 refine stp ?_
 refine Je rfl rfl (hn b) ⟨Rf,trivial⟩ fun nx2=> ?_
 refine stp ?_
 intro c h;cases c
 ·have h:=Jt h
  refine stp ?_
  intro c g;cases c
  ·have g:=Jt g
   refine stp ?_
   exact Jd rfl (Jk (by unfold JdJ;rw [if_neg h,if_neg g]))
  ·have g:=Ju g
   refine stp ?_
   exact Jd rfl (Jk (by unfold JdJ;rw [if_neg h,if_pos g]))
 ·have h:=Ju h
  refine stp ?_
  exact Jd rfl (Jk (by unfold JdJ;rw [if_pos h]))
theorem Jjk (a b:Nat):Tells Tryz.prog 264 [u64 a,u64 b] (int (JdJ a b)):=by
 have hn:∀z:Nat,Tells Tryz.prog 337 [u64 z] (Jb false):=fun z=> by
  refine Jf Tryz.func337 rfl rfl fun nx=> ?_
  refine stp ?_
  (intro c hc;(first | (rw [bne_self_eq_false] at hc;subst hc) | (obtain rfl:c=false:=hc.trans (bne_self_eq_false _)));refine stp ?_)
  exact Jd rfl Rf
 refine Jf Tryz.func264 rfl rfl fun nx=> ?_
 refine stp ?_
 refine Je rfl rfl (hn a) ⟨Rf,trivial⟩ fun nx1=> ?_
 refine stp ?_
 refine Je rfl rfl (hn b) ⟨Rf,trivial⟩ fun nx2=> ?_
 refine stp ?_
 intro c h;cases c
 ·have h:=Jt h
  refine stp ?_
  intro c g;cases c
  ·have g:=Jt g
   refine stp ?_
   exact Jd rfl (Jk (by unfold JdJ;rw [if_neg h,if_neg g]))
  ·have g:=Ju g
   refine stp ?_
   exact Jd rfl (Jk (by unfold JdJ;rw [if_neg h,if_pos g]))
 ·have h:=Ju h
  refine stp ?_
  exact Jd rfl (Jk (by unfold JdJ;rw [if_pos h]))
theorem Jyd {l:List Int} {i:Nat} (hi:i < l.length) (h:∀j,j < i→l.getD j 0=0) (hx:l.getD i 0≠0):orL l=l.getD i 0:=by
 induction l generalizing i with
 | nil=> cases hi
 | cons x l ih=>
   cases i with
   | zero=> simp at hx;simp [orL,hx]
   | succ i=>
     have h0:x=0:=by simpa using h 0 Om
     simp only [orL,h0,if_true]
     rw [ih (i:=i) (by simpa using hi) (fun j hj=> by simpa using h (j+1) Om) (by simpa using hx)]
     simp
theorem JvM {l:List Int} (h:∀j,j < l.length→l.getD j 0=0):orL l=0:=by
 induction l with
 | nil=> rfl
 | cons x l ih=>
   have h0:x=0:=by simpa using h 0 (by simp)
   simp only [orL,h0,if_true]
   exact ih (fun j hj=> by simpa using h (j+1) (by simpa using hj))
theorem Jw6 (l:List Int) (hl:l.length≤1000000):Tells Tryz.prog 262 [JT 1 int 0 l] (int (orL l)):=by
 refine Jf Tryz.func262 rfl rfl fun nx=> ?_
 refine stp ?_
 refine Jx (fun s:Nat×Nat=> mk 18 [(3,int 0),(6,JT 1 int 0 l),(7,int l.length),(8,int s.1)] ⟨[], [],s.2,0⟩) (fun s=> s.1≤l.length∧∀j,j < s.1→l.getD j 0=0) (fun s=> l.length - s.1) ?_ ?_
 ·exact ⟨(0,nx),⟨by simp,by intro j hj;simp at hj⟩,Jaz rfl rfl ⟨Rf,Rf,Rf,Rf,trivial⟩⟩
 ·rintro ⟨i,nx⟩ ⟨h1,h2⟩
  dsimp only at h1 h2
  refine stp ?_
  intro c h3;cases c
  ·have h3:=Jt h3
   dsimp only at h3
   refine stp ?_
   exact Jd rfl (Jk (JvM (fun j hj=> h2 j Om)).symm)
  ·have h3:=Ju h3
   dsimp only at h3
   have hi:i < l.length:=by omega
   refine stp ?_
   refine ⟨Bd, ?_⟩
   refine stp ?_
   intro c h4;cases c
   ·have h4:l.getD i 0=0:=by simpa using h4
    refine stp ?_
    exact back (i+1,nx) ⟨hi,fun j hj=> by rcases Nat.lt_or_ge j i with q | q;exact h2 j q;rw [show j=i by omega];exact h4⟩ Dm (Jaz rfl rfl ⟨Rf,Rf,Rf,Jk (J4 Dm),trivial⟩)
   ·have h4:l.getD i 0≠0:=by simpa using h4
    refine stp ?_
    exact Jd rfl (Jk (Jyd hi h2 h4).symm)
def JoU (a b:Cnd):Int:=orL [JdJ a.arg b.arg,JdJ a.op b.op,JdJ a.mask b.mask,JdJ a.value b.value]
theorem Jsh (a b:Cnd):Tells Tryz.prog 193 [JG a,JG b] (int (JoU a b)):=by
 refine Jf Tryz.func193 rfl rfl fun nx=> ?_
 refine stp ?_
 (refine JY 22 ?_ ?_ ?_ ?_;(· kernel_rfl);(· kernel_rfl);(· kernel_rfl))
 refine stp ?_
 refine Jan (JV rfl rfl (Jjj a.arg b.arg) ⟨Rf,Rf,trivial⟩ (NoId.v _)) ?_
 refine stp ?_
 refine Jan (JV rfl rfl (Jjj a.op b.op) ⟨Rf,Rf,trivial⟩ (NoId.v _)) ?_
 refine stp ?_
 refine Jan (JV rfl rfl (Jjk a.mask b.mask) ⟨Rf,Rf,trivial⟩ (NoId.v _)) ?_
 refine stp ?_
 refine Jan (JV rfl rfl (Jjk a.value b.value) ⟨Rf,Rf,trivial⟩ (NoId.v _)) ?_
 refine stp ?_
 refine Jan (JV rfl rfl (Jw6 [JdJ a.arg b.arg,JdJ a.op b.op,JdJ a.mask b.mask,JdJ a.value b.value] (by show 4≤1000000;omega)) ⟨?_,trivial⟩ (NoId.v _)) ?_
 ·(conv=> arg 1;whnf)
  refine AVle.trans AVle.os_sl (AVle.sl_fun fun k hk=> ?_)
  rcases (show k=0∨k=1∨k=2∨k=3 by have hk:k < 4:=hk;omega) with rfl | rfl | rfl | rfl <;> rfl
 refine stp ?_
 exact Jd rfl Rf
end Go.Proofs.W

namespace Go.Proofs.W
open Go.Vl
set_option maxRecDepth 100000
instance:Inhabited Cnd:=⟨cnd0⟩
def eC (c:Cnd):List AV:= [int c.arg,int c.op,u64 c.mask,u64 c.value]
theorem Jbz (x:Cnd):(eC x).length=4:=rfl
theorem c_cnd:Tryz.prog.cellsOf 86=4:=by kernel_rfl
theorem JfR:(Tryz.prog.underlying 86).map agD=some true:=by kernel_rfl
def JbW (s:Nat) (d:Array Cnd) (tl:List AV):List (Vl.Id×Own):= [((0,s), .c (Jal eC d tl))]
set_option maxHeartbeats 4000000 in
theorem Jw7 (f:Nat) (lt:Cnd→Cnd→Bool) (cf:Cnd→Cnd→Int) (hf:∀a b,Tells Tryz.prog f [JG a,JG b] (int (cf a b))) (hlt:∀a b,lt a b=decide (cf a b < 0)) (d0:Array Cnd) (tl:List AV) (n a b:Nat) (hn:d0.size=n) (hab:a≤b) (hb:b≤n) (hsz:n≤1000000) (s cap nx:Nat):
 ECall Tryz.prog 328 [.hs (0,s) 0 n cap,int a,int b,fn0 f] ⟨JbW s d0 tl, [],nx,1⟩ (fun r h'=> ∃nx' nn',h'=⟨JbW s (Go.Sort.insertionSort lt d0 a b) tl, [],nx',nn'⟩):=by
 refine ECall.wk (J0 Tryz.func328 rfl rfl ?_)
 refine stp ?_
 refine Jx (fun y:Array Cnd×Nat×Nat=> mk 53 [(0, .hs (0,s) 0 n cap),(1,int a),(2,int b),(3,fn0 f),(8,int y.2.1)] ⟨JbW s y.1 tl, [],y.2.2,1⟩) (fun y=> y.1.size=n∧a+1≤y.2.1∧y.2.1≤b+1∧Go.Sort.insOuter lt a b y.2.1 y.1=Go.Sort.insertionSort lt d0 a b) (fun y=> b+1 - y.2.1) ?_ ?_
 ·exact ⟨(d0,a+1,nx),⟨hn,Nat.le_refl _,by dsimp only;omega,rfl⟩,Jm _ _ rfl rfl Sf .slnil Bf trivial ⟨Rf,Rf,Rf,Rf,Lw,trivial⟩⟩
 ·rintro ⟨d,i,nx1⟩ ⟨h1,h2,h3,h4⟩
  dsimp only at h1 h2 h3 h4
  refine stp ?_
  intro c g;cases c
  ·have g:=Jt g
   try dsimp only at g
   rw [Go.Sort.insOuter,if_neg Om] at h4
   subst h4
   refine stp ?_
   exact Jac rfl ⟨_,_,Rf,JM (JbW s (Go.Sort.insertionSort lt d0 a b) tl) [] rfl Sf .slnil Bf Pf,_,1,rfl⟩
  ·have g:=Ju g
   try dsimp only at g
   have hi:i < b:=by omega
   rw [Go.Sort.insOuter,if_pos hi] at h4
   refine stp ?_
   refine Jx (fun y:Array Cnd×Nat×Nat=> mk 53 [(0, .hs (0,s) 0 n cap),(1,int a),(2,int b),(3,fn0 f),(8,int i),(9,int y.2.1)] ⟨JbW s y.1 tl, [],y.2.2,1⟩) (fun y=> y.1.size=n∧y.2.1≤i∧Go.Sort.insInner lt a y.2.1 y.1=Go.Sort.insInner lt a i d) (fun y=> y.2.1) ?_ ?_
   ·exact ⟨(d,i,nx1),⟨h1,Nat.le_refl _,rfl⟩,Jm _ _ rfl rfl Sf .slnil Bf trivial ⟨Rf,Rf,Rf,Rf,Rf,Rf,trivial⟩⟩
   ·rintro ⟨e,j,nx2⟩ ⟨k1,k2,k3⟩
    dsimp only at k1 k2 k3
    by_cases hja:a < j
    ·have hd:decide ((j:Int) > (a:Int))=true:=decide_eq_true Om
     have hj1:IntKind.i64.wrap ((j:Int) - 1)=((j - 1:Nat):Int):=by rw [Jai Om Om];omega
     refine stp ?_
     (refine JY 16 ?_ ?_ ?_ ?_;(· kernel_rfl);(· kernel_rfl);(· kernel_rfl))
     refine stp ?_
     (conv=> whnf)
     refine Jfq hd ?_
     refine stp ?_
     refine ⟨⟨Jdp (i:=j) (rfl),JdE (i:=j) (rfl) Om⟩,Jr (b:= .bp (0,s) (j * 4)) (congrArg (AV.bp (0,s)) (Jhq (i:=j) c_cnd (rfl))) ?_⟩
     (conv=> whnf)
     generalize hX:Jbp _ _ _=X
     have hX2:X=some (some (s=s), .ag (eC e[j]!)):=hX.symm.trans (JdU Jbz (E:=eC) (d:=e) (tl:=tl) (j:=j) rfl rfl rfl rfl JfR c_cnd Om)
     clear hX;subst hX2
     refine ⟨rfl, ?_⟩
     refine stp ?_
     refine ⟨⟨Jdp (i:=j - 1) (hj1),JdE (i:=j - 1) (hj1) Om⟩,Jr (b:= .bp (0,s) ((j - 1) * 4)) (congrArg (AV.bp (0,s)) (Jhq (i:=j - 1) c_cnd (hj1))) ?_⟩
     (conv=> whnf)
     generalize hX:Jbp _ _ _=X
     have hX2:X=some (some (s=s), .ag (eC e[j - 1]!)):=hX.symm.trans (JdU Jbz (E:=eC) (d:=e) (tl:=tl) (j:=j - 1) rfl rfl rfl rfl JfR c_cnd Om)
     clear hX;subst hX2
     refine ⟨rfl, ?_⟩
     refine stp ?_
     refine Jan (JV rfl rfl (hf e[j]! e[j - 1]!) ⟨Rf,Rf,trivial⟩ (NoId.v _)) ?_
     refine stp ?_
     intro c hl;cases c
     ·have hl:lt e[j]! e[j - 1]! =false:=(hlt _ _).trans hl.symm
      rw [JvB hl] at k3
      subst k3
      refine stp ?_
      exact back (_,i+1,nx2) ⟨k1,by dsimp only;omega,by dsimp only;omega,h4⟩ Dm (Jm _ _ rfl rfl Sf .slnil Bf trivial ⟨Rf,Rf,Rf,Rf,Lw,trivial⟩)
     ·have hl:lt e[j]! e[j - 1]! =true:=(hlt _ _).trans hl.symm
      rw [JwV hja hl] at k3
      refine stp ?_
      refine JwR 18 (fun i=> match i with | 15=> true | 17=> true | _=> false) (fun i=> match i with | 9=> true | 13=> true | _=> false) [0,1,2,3,4,5,6,7,8,10,11,12,9,13,14,15,16,17] (by kernel_rfl) (by kernel_rfl) ?_
      (conv=> whnf)
      refine ⟨⟨Jdp (i:=j - 1) (hj1),JdE (i:=j - 1) (hj1) Om⟩, ?_⟩
      (conv=> whnf)
      refine ⟨⟨Jdp (i:=j) (rfl),JdE (i:=j) (rfl) Om⟩, ?_⟩
      (conv=> whnf)
      refine ⟨.ag (eC e[j - 1]!),Joq Jbz (E:=eC) (d:=e) (tl:=tl) (j:=j - 1) rfl rfl rfl (Jhq (i:=j - 1) c_cnd (hj1)) rfl JfR c_cnd Om, ?_⟩
      (conv=> whnf)
      refine ⟨.ag (eC e[j]!),Joq Jbz (E:=eC) (d:=e) (tl:=tl) (j:=j) rfl rfl rfl (Jhq (i:=j) c_cnd (rfl)) rfl JfR c_cnd Om, ?_⟩
      (conv=> whnf)
      refine ⟨⟨Jdp (i:=j) (rfl),JdE (i:=j) (rfl) Om⟩, ?_⟩
      (conv=> whnf)
      refine ⟨_,Jor Jbz (E:=eC) (d:=e) (tl:=tl) (j:=j) (z:=e[j - 1]!) rfl rfl rfl rfl (Jhq (i:=j) c_cnd (rfl)) rfl rfl rfl rfl (by kernel_rfl) c_cnd Om,fun r0 h0 hr0=> ?_⟩
      subst hr0
      (conv=> whnf)
      refine ⟨⟨Jdp (i:=j - 1) (hj1),JdE (i:=j - 1) (hj1) Om⟩, ?_⟩
      (conv=> whnf)
      refine ⟨_,Jor Jbz (E:=eC) (d:=e.setIfInBounds j e[j - 1]!) (tl:=tl) (j:=j - 1) (z:=e[j]!) rfl rfl rfl rfl (Jhq (i:=j - 1) c_cnd (hj1)) rfl rfl rfl rfl (by kernel_rfl) c_cnd (by simp;omega),fun r0 h0 hr0=> ?_⟩
      subst hr0
      refine stp ?_
      exact back (Go.Sort.swp e j (j - 1),j - 1,nx2) ⟨by dsimp only;rw [← k1];simp [Go.Sort.swp],by dsimp only;omega,k3⟩ Dm (Jm _ _ rfl rfl Sf .slnil Bf trivial ⟨Rf,Rf,Rf,Rf,Rf,Jk hj1,trivial⟩)
    ·have hd:decide ((j:Int) > (a:Int))=false:=decide_eq_false Om
     rw [JtB hja] at k3
     subst k3
     refine stp ?_
     (refine JY 16 ?_ ?_ ?_ ?_;(· kernel_rfl);(· kernel_rfl);(· kernel_rfl))
     refine stp ?_
     (conv=> whnf)
     refine Jfq hd ?_
     refine stp ?_
     exact back (_,i+1,nx2) ⟨k1,by dsimp only;omega,by dsimp only;omega,h4⟩ Dm (Jm _ _ rfl rfl Sf .slnil Bf trivial ⟨Rf,Rf,Rf,Rf,Lw,trivial⟩)
theorem Jw8 (f:Nat) (lt:Cnd→Cnd→Bool) (cf:Cnd→Cnd→Int) (hf:∀a b,Tells Tryz.prog f [JG a,JG b] (int (cf a b))) (hlt:∀a b,lt a b=decide (cf a b < 0)) (d0:Array Cnd) (tl:List AV) (n:Nat) (hn:d0.size=n) (hsz:n≤12) (s cap nx:Nat) (z:Int):
 ECall Tryz.prog 261 [.hs (0,s) 0 n cap,int 0,int n,int z,fn0 f] ⟨JbW s d0 tl, [],nx,1⟩ (fun r h'=> ∃nx' nn',h'=⟨JbW s (Go.Sort.insertionSort lt d0 0 n) tl, [],nx',nn'⟩):=by
 refine ECall.wk (J0 Tryz.func261 rfl rfl ?_)
 refine stp ?_
 refine JeZ ?_
 have hw:IntKind.i64.wrap ((n:Int) - 0)=(n:Int):=by rw [Int.sub_zero];exact Jai Om Om
 refine stp ?_
 intro c hc
 have hc2:c=true:=hc.trans (decide_eq_true (by show IntKind.i64.wrap ((n:Int) - 0)≤12;rw [hw];omega))
 clear hc;subst hc2
 refine stp ?_
 refine J2 (xs:= [.hs (0,s) 0 n cap,int ((0:Nat):Int),int n,fn0 f]) [] [] 1 rfl rfl rfl rfl ⟨Rf,Rf,Rf,Rf,trivial⟩ (Jw7 f lt cf hf hlt d0 tl n 0 n hn (Nat.zero_le _) (Nat.le_refl _) Om s cap _) Bf Pf rfl fun r h' hq=> ?_
 obtain ⟨nx2,nn2,rfl⟩:=hq
 refine stp ?_
 exact Jac rfl ⟨_,_,Rf,JM (JbW s (Go.Sort.insertionSort lt d0 0 n) tl) [] rfl Sf .slnil Bf Pf,_,1,rfl⟩
theorem JoV (f:Nat) (lt:Cnd→Cnd→Bool) (cf:Cnd→Cnd→Int) (hf:∀a b,Tells Tryz.prog f [JG a,JG b] (int (cf a b))) (hlt:∀a b,lt a b=decide (cf a b < 0)) (d0:Array Cnd) (tl:List AV) (n:Nat) (hn:d0.size=n) (hsz:n≤12) (s cap nx:Nat):
 ECall Tryz.prog 192 [.hs (0,s) 0 n cap,fn0 f] ⟨JbW s d0 tl, [],nx,1⟩ (fun r h'=> ∃nx' nn',h'=⟨JbW s (Go.Sort.insertionSort lt d0 0 n) tl, [],nx',nn'⟩):=by
 refine ECall.wk (J0 Tryz.func192 rfl rfl ?_)
 refine stp ?_
 have hw:IntKind.u64.wrap (n:Int)=(n:Int):=by simp [IntKind.wrap,IntKind.bits,IntKind.signed];omega
 refine Je rfl rfl (JoT n Om) ⟨AVle.of_eq (congrArg (fun z:Int=> AV.v (.int .u64 z)) hw),trivial⟩ fun nx1=> ?_
 refine stp ?_
 refine J2 (xs:= [.hs (0,s) 0 n cap,int 0,int n,int (Lib.bitLen n),fn0 f]) [] [] 1 rfl rfl rfl rfl ⟨Rf,Rf,Rf,Rf,Rf,trivial⟩ (Jw8 f lt cf hf hlt d0 tl n hn hsz s cap _ _) Bf Pf rfl fun r h' hq=> ?_
 obtain ⟨nx2,nn2,rfl⟩:=hq
 refine stp ?_
 exact Jac rfl ⟨_,_,Rf,JM (JbW s (Go.Sort.insertionSort lt d0 0 n) tl) [] rfl Sf .slnil Bf Pf,_,1,rfl⟩
end Go.Proofs.W

namespace Go.Proofs.W
open Go.Vl
set_option maxRecDepth 100000
def cU (d:Array Cnd):Nat→List Cnd
 | 0=> []
 | m+1=> if m=0∨d[m]! ≠d[m - 1]! then cU d m++ [d[m]!] else cU d m
theorem Jsi (d:Array Cnd):∀m,(cU d m).length≤m
 | 0=> Nat.le_refl _
 | m+1=> by
   have:=Jsi d m
   unfold cU
   split
   ·simp;omega
   ·omega
theorem Jhy {d:Array Cnd}:∀ {m:Nat},m≤d.size→(∀j,1≤j→j < m→d[j]! ≠d[j - 1]!)→cU d m=d.toList.take m
 | 0,_,_=> rfl
 | m+1,hm,h=> by
   have ih:=Jhy (m:=m) Om fun j h1 h2=> h j h1 Om
   have hc:m=0∨d[m]! ≠d[m - 1]! :=by
    rcases Nat.eq_zero_or_pos m with h0 | h0
    ·exact .inl h0
    ·exact .inr (h m h0 Om)
   rw [cU,if_pos hc,ih,List.take_add_one,show d[m]! =d[m] by simp [show m < d.size by omega]]
   simp [show m < d.size by omega]
theorem JqK {d:Array Cnd} {m:Nat} (h0:m≠0) (h:d[m]! =d[m - 1]!):cU d (m+1)=cU d m:=by
 rw [cU,if_neg (by intro hh;rcases hh with hh | hh;exact h0 hh;exact hh h)]
theorem Jw9 {d:Array Cnd} {m:Nat} (h:d[m]! ≠d[m - 1]!):cU d (m+1)=cU d m++ [d[m]!]:=by
 rw [cU,if_pos (.inr h)]
theorem JvN {d:Array Cnd} {i j:Nat} {x:Cnd} (hi:i < d.size):(d.setIfInBounds i x)[j]! =if j=i then x else d[j]! :=by
 by_cases h:j=i
 ·subst h;simp [hi]
 ·rw [if_neg h]
  by_cases hj:j < d.size
  ·simp [hj,Array.getElem_setIfInBounds,Ne.symm h]
  ·simp [hj]
theorem Jt7 {d:Array Cnd} {k:Nat} {x:Cnd} (h:k < d.size):(d.setIfInBounds k x).toList.take (k+1)=d.toList.take k++ [x]:=by
 rw [Array.toList_setIfInBounds,List.take_add_one]
 simp [h,List.take_set_of_le]
theorem Jye {x y:Cnd}:(x.arg ==y.arg&& (x.op ==y.op&& ((x.mask:Int) ==(y.mask:Int)&& ((x.value:Int) ==(y.value:Int)&& true))))=decide (x=y):=JqF
theorem JvO {d:Array Cnd} {tl:List AV} {k:Nat} (h:k≤d.size):Jas (Jal eC d tl) (k * 4) (List.replicate ((d.size - k) * 4) .any)=Jal eC (d.toList.take k).toArray (List.replicate ((d.size - k) * 4) .any++tl):=by
 have e:d.toList=d.toList.take k++d.toList.drop k:=(List.take_append_drop k d.toList).symm
 have e1:((d.toList.take k).flatMap eC).length=k * 4:=by rw [JdF Jbz];simp [h]
 have e2:((d.toList.drop k).flatMap eC).length=(d.size - k) * 4:=by rw [JdF Jbz];simp
 unfold Jal
 conv=> lhs;rw [e]
 rw [List.flatMap_append,List.append_assoc,← e1]
 have:=JfM (a:=(d.toList.take k).flatMap eC) (b:=(d.toList.drop k).flatMap eC++tl) (off:=0) (vs:=List.replicate ((d.size - k) * 4) .any)
 rw [Nat.add_zero] at this
 rw [this,Jh5 (by rw [e2];simp)]
def Jsj (d:Array Cnd) (n s cap:Nat) (r:AV) (h':Heap):Prop:=∃tl' nx' nn',r= .hs (0,s) 0 (cU d n).length cap∧h'=⟨JbW s (cU d n).toArray tl', [],nx',nn'⟩
theorem Jt8 {d:Array Cnd} {n s cap nx nn q:Nat} {tl:List AV} (h:(cU d n).length=q):Jsj d n s cap (.hs (0,s) 0 q cap) ⟨JbW s (cU d n).toArray tl, [],nx,nn⟩:=⟨tl,nx,nn,by rw [h],rfl⟩
theorem JoW {o o':Own} (h:o=o'):OwnLe o o':=h ▸ OwnLe.refl _
theorem JvP {x:Int} {i c k m:Nat} (hc:c=k) (h:x=(i:Int)):m * c+x.toNat * c=(m+i) * k:=by subst hc;subst h;simp [Nat.add_mul]
theorem Jmz {d:Array Cnd} {n s cap nx nn:Nat} {tl:List AV} (hn:d.size=n) (e:cU d n=d.toList):Jsj d n s cap (.hs (0,s) 0 n cap) ⟨JbW s d tl, [],nx,nn⟩:=⟨tl,nx,nn,by rw [e];simp [hn],by rw [e]⟩
theorem JyQ:∃z,(Tryz.prog.info? 86).bind (·.zero)=some z∧z.cells.size=Tryz.prog.cellsOf 86∧z.cells.all (·.oneCell')=true:=⟨.agg #[.int .i64 0, .int .i64 0, .int .u64 0, .int .u64 0],by kernel_rfl,by kernel_rfl,by kernel_rfl⟩
set_option maxHeartbeats 4000000 in
theorem Jqc (d:Array Cnd) (tl:List AV) (n:Nat) (hn:d.size=n) (hn0:0 < n) (hsz:n≤1000000) (s cap nx:Nat) (hcap:n≤cap):
 ECall Tryz.prog 194 [.hs (0,s) 0 n cap] ⟨JbW s d tl, [],nx,1⟩ (Jsj d n s cap):=by
 refine ECall.wk (J0 Tryz.func194 rfl rfl ?_)
 refine stp ?_
 intro c g;cases c
 rotate_left
 ·have g:=Ju g
  try dsimp only at g
  have hn1:n=1:=by omega
  subst hn1
  have e:cU d 1=d.toList:=by
   rw [Jhy Om (fun j h1 h2=> by omega),List.take_of_length_le (by simp [hn])]
  refine stp ?_
  exact Jac rfl ⟨_,_,Rf,JM (nn:=1) (JbW s d tl) [] rfl Sf .slnil Bf Pf,Jmz hn e⟩
 have g:=Jt g
 try dsimp only at g
 have hn2:2≤n:=by omega
 refine stp ?_
 refine Jx (fun y:Nat×Nat=> mk 61 [(0, .hs (0,s) 0 n cap),(3,int y.1)] ⟨JbW s d tl, [],y.2,1⟩) (fun y=> 1≤y.1∧y.1≤n∧∀j,1≤j→j < y.1→d[j]! ≠d[j - 1]!) (fun y=> n - y.1) ?_ ?_
 ·exact ⟨(1,nx),⟨Nat.le_refl _,by dsimp only;omega,fun j h1 h2=> absurd h2 Dm⟩,Jm _ _ rfl rfl Sf .slnil Bf trivial ⟨Rf,Rf,trivial⟩⟩
 ·rintro ⟨k,nx1⟩ ⟨h1,h2,h3⟩
  dsimp only at h1 h2 h3
  refine stp ?_
  intro c g;cases c
  ·have g:=Jt g
   try dsimp only at g
   have hk:k=n:=by omega
   subst hk
   have e:cU d k=d.toList:=by
    rw [Jhy Om h3,List.take_of_length_le (by simp [hn])]
   refine stp ?_
   exact Jac rfl ⟨_,_,Rf,JM (nn:=1) (JbW s d tl) [] rfl Sf .slnil Bf Pf,Jmz hn e⟩
  ·have g:=Ju g
   try dsimp only at g
   have hk:k < n:=by omega
   have hk1:IntKind.i64.wrap ((k:Int) - 1)=((k - 1:Nat):Int):=by rw [Jai Om Om];omega
   refine stp ?_
   (refine JY 10 ?_ ?_ ?_ ?_;(· kernel_rfl);(· kernel_rfl);(· kernel_rfl))
   refine stp ?_
   refine ⟨⟨Jdp (i:=k) (rfl),JdE (i:=k) (rfl) Om⟩,Jr (b:= .bp (0,s) (k * 4)) (congrArg (AV.bp (0,s)) (Jhq (i:=k) c_cnd (rfl))) ?_⟩
   (conv=> whnf)
   generalize hX:Jbp _ _ _=X
   have hX2:X=some (some (s=s), .ag (eC d[k]!)):=hX.symm.trans (JdU Jbz (E:=eC) (d:=d) (tl:=tl) (j:=k) rfl rfl rfl rfl JfR c_cnd Om)
   clear hX;subst hX2
   refine ⟨rfl, ?_⟩
   refine stp ?_
   refine ⟨⟨Jdp (i:=k - 1) (hk1),JdE (i:=k - 1) (hk1) Om⟩,Jr (b:= .bp (0,s) ((k - 1) * 4)) (congrArg (AV.bp (0,s)) (Jhq (i:=k - 1) c_cnd (hk1))) ?_⟩
   (conv=> whnf)
   generalize hX:Jbp _ _ _=X
   have hX2:X=some (some (s=s), .ag (eC d[k - 1]!)):=hX.symm.trans (JdU Jbz (E:=eC) (d:=d) (tl:=tl) (j:=k - 1) rfl rfl rfl rfl JfR c_cnd Om)
   clear hX;subst hX2
   refine ⟨rfl, ?_⟩
   refine stp ?_
   intro c hc
   have hc2:c=decide (d[k]! =d[k - 1]!):=hc.trans Jye
   clear hc
   cases c
   ·have hne:¬d[k]! =d[k - 1]! :=of_decide_eq_false hc2.symm
    refine stp ?_
    exact back (k+1,nx1) ⟨by dsimp only;omega,hk,fun j q1 q2=> by dsimp only at q2;rcases Nat.lt_or_ge j k with q | q;exact h3 j q1 q;rw [show j=k by omega];exact hne⟩ Dm (Jm _ _ rfl rfl Sf .slnil Bf trivial ⟨Rf,Lw,trivial⟩)
   ·have heq:d[k]! =d[k - 1]! :=of_decide_eq_true hc2.symm
    clear hc2
    have hU0:cU d k=d.toList.take k:=Jhy Om h3
    have hU1:cU d (k+1)=d.toList.take k:=(JqK Om heq).trans hU0
    refine JW ?_
    refine JU (fun i=> match i with | 1=> true | _=> false) 4 ?_
    refine stp ?_
    refine AOp.of_yields (Jh6 (l:=k) rfl rfl rfl Tryz.underlying116 Tryz.underlying86 Om hcap Om) ?_
    refine stp ?_
    refine Jx (fun y:Array Cnd×Nat×Nat×Nat=> mk 61 [(0, .hs (0,s) 0 n cap),(3,int y.2.1),(4, .hs (0,s) (k * 4) (n - k) (cap - k)),(5,int y.2.2.1)] ⟨JbW s y.1 tl, [],y.2.2.2,1⟩) (fun y=> y.1.size=n∧k≤y.2.1∧1≤y.2.2.1∧y.2.1+1≤k+y.2.2.1∧k+y.2.2.1≤n∧(∀j,k+y.2.2.1≤j+1→y.1[j]! =d[j]!)∧cU d (k+y.2.2.1)=y.1.toList.take y.2.1) (fun y=> n - y.2.2.1) ?_ ?_
    ·exact ⟨(d,k,1,nx1),⟨hn,Nat.le_refl _,Nat.le_refl _,Nat.le_refl _,hk,fun _ _=> rfl,hU1⟩,Jm _ _ rfl rfl Sf .slnil Bf trivial ⟨Rf,Rf,AVle.of_eq (congrArg (fun c=> AV.hs (0,s) (k * c) (n - k) (cap - k)) c_cnd),Rf,trivial⟩⟩
    ·rintro ⟨e,q,k2,nx2⟩ ⟨p1,p2,p3,p4,p5,p6,p7⟩
     dsimp only at p1 p2 p3 p4 p5 p6 p7
     refine stp ?_
     intro c g2;cases c
     ·have g2:=Jt g2
      try dsimp only at g2
      have hk2:k+k2=n:=by omega
      rw [hk2] at p7
      have hq:q < n:=by omega
      refine JW ?_
      refine JU (fun i=> match i with | 1=> true | 0=> true | _=> false) 4 ?_
      refine stp ?_
      refine AOp.of_yields (Jh6 (l:=q) rfl rfl rfl Tryz.underlying116 Tryz.underlying86 Om hcap Om) ?_
      refine stp ?_
      obtain ⟨z,hz1,hz2,hz3⟩:=JyQ
      refine Jrs (n:=n - q) rfl rfl rfl Om Tryz.underlying116 hz1 hz2 hz3 (by rfl) (by show q * Tryz.prog.cellsOf 86+(n - q) * Tryz.prog.cellsOf 86≤(Jal eC e tl).length;rw [Jhp Jbz,c_cnd,p1];omega) ?_
      refine AW.le (E':=mk 61 [(0, .hs (0,s) 0 n cap),(3,int q)] ⟨JbW s (cU d n).toArray (List.replicate ((n - q) * 4) .any++tl), [],nx2,1⟩) ?_ ?_
      ·exact Jm [((0,s), .c (Jas (Jal eC e tl) (q * Tryz.prog.cellsOf 86) (List.replicate ((n - q) * Tryz.prog.cellsOf 86) .any)))] [] rfl rfl Sf .slnil ⟨rfl,JoW (congrArg Own.c (by rw [c_cnd,p7,← p1];exact JvO Om)),trivial⟩ trivial ⟨Rf,Rf,trivial⟩
      refine JW ?_
      refine JU (fun i=> match i with | 1=> true | _=> false) 4 ?_
      refine stp ?_
      refine Jon (l:=q) rfl rfl rfl Tryz.underlying116 Tryz.underlying86 Om Om ?_
      refine stp ?_
      exact Jac rfl ⟨_,_,Rf,JM (nn:=1) (JbW s (cU d n).toArray (List.replicate ((n - q) * 4) .any++tl)) [] rfl Sf .slnil Bf Pf,Jt8 (by rw [p7];simp;omega)⟩
     ·have g2:=Ju g2
      try dsimp only at g2
      have hk2:k+k2 < n:=by omega
      have hj1:IntKind.i64.wrap ((k2:Int) - 1)=((k2 - 1:Nat):Int):=by rw [Jai Om Om];omega
      refine stp ?_
      (refine JY 10 ?_ ?_ ?_ ?_;(· kernel_rfl);(· kernel_rfl);(· kernel_rfl))
      refine stp ?_
      refine ⟨⟨Jdp (i:=k2) (rfl),JdE (i:=k2) (rfl) Om⟩,Jr (b:= .bp (0,s) ((k+k2) * 4)) (congrArg (AV.bp (0,s)) (JvP c_cnd (rfl))) ?_⟩
      (conv=> whnf)
      generalize hX:Jbp _ _ _=X
      have hX2:X=some (some (s=s), .ag (eC e[k+k2]!)):=hX.symm.trans (JdU Jbz (E:=eC) (d:=e) (tl:=tl) (j:=k+k2) rfl rfl rfl rfl JfR c_cnd Om)
      clear hX;subst hX2
      refine ⟨rfl, ?_⟩
      refine stp ?_
      refine ⟨⟨Jdp (i:=k2 - 1) (hj1),JdE (i:=k2 - 1) (hj1) Om⟩,Jr (b:= .bp (0,s) ((k+(k2 - 1)) * 4)) (congrArg (AV.bp (0,s)) (JvP c_cnd (hj1))) ?_⟩
      (conv=> whnf)
      generalize hX:Jbp _ _ _=X
      have hX2:X=some (some (s=s), .ag (eC e[k+(k2 - 1)]!)):=hX.symm.trans (JdU Jbz (E:=eC) (d:=e) (tl:=tl) (j:=k+(k2 - 1)) rfl rfl rfl rfl JfR c_cnd Om)
      clear hX;subst hX2
      refine ⟨rfl, ?_⟩
      refine stp ?_
      have e1:e[k+k2]! =d[k+k2]! :=p6 _ Om
      have e2:e[k+(k2 - 1)]! =d[k+k2 - 1]! :=by rw [p6 _ Om];congr 1;omega
      intro c hc
      have hc2:c= !decide (d[k+k2]! =d[k+k2 - 1]!):=by rw [← e1,← e2];exact hc.trans (congrArg (!·) Jye)
      clear hc
      cases c
      ·have heq2:d[k+k2]! =d[k+k2 - 1]! :=by simpa using hc2
       have hU2:=(JqK Om heq2).trans p7
       refine stp ?_
       exact back (e,q,k2+1,nx2) ⟨p1,p2,by dsimp only;omega,by dsimp only;omega,by dsimp only;omega,fun j hj=> p6 j (by dsimp only at hj;omega),hU2⟩ Dm (Jm _ _ rfl rfl Sf .slnil Bf trivial ⟨Rf,Rf,Rf,Lw,trivial⟩)
      ·have hne:¬d[k+k2]! =d[k+k2 - 1]! :=by simpa using hc2
       have hU2:=Jw9 hne
       rw [p7,← e1,← Jt7 (k:=q) (x:=e[k+k2]!) Om] at hU2
       refine JW ?_
       refine JU (fun i=> match i with | 0=> true | 2=> true | _=> false) 8 ?_
       refine stp ?_
       refine ⟨⟨Jdp (i:=k2) (rfl),JdE (i:=k2) (rfl) Om⟩,Jr (b:= .bp (0,s) ((k+k2) * 4)) (congrArg (AV.bp (0,s)) (JvP c_cnd (rfl))) ?_⟩
       (conv=> whnf)
       refine AOp.of_yields (JpX Jbz (E:=eC) (d:=e) (tl:=tl) (j:=k+k2) rfl rfl rfl rfl JfR c_cnd Om) ?_
       refine stp ?_
       refine ⟨⟨Jdp (i:=q) (rfl),JdE (i:=q) (rfl) Om⟩,Jr (b:= .bp (0,s) (q * 4)) (congrArg (AV.bp (0,s)) (Jhq c_cnd (rfl))) ?_⟩
       (conv=> whnf)
       refine Jrr Jbz (E:=eC) (d:=e) (tl:=tl) (j:=q) (z:=e[k+k2]!) rfl rfl rfl rfl rfl rfl rfl rfl (by kernel_rfl) c_cnd Om ?_
       refine stp ?_
       exact back (e.setIfInBounds q e[k+k2]!,q+1,k2+1,nx2) ⟨by simpa using p1,by dsimp only;omega,by dsimp only;omega,by dsimp only;omega,by dsimp only;omega,fun j hj=> by
        dsimp only at hj⊢
        rw [JvN Om,if_neg Om]
        exact p6 j Om,hU2⟩ Dm (Jm _ _ rfl rfl Sf .slnil Bf trivial ⟨Rf,Lw,Rf,Lw,trivial⟩)
end Go.Proofs.W

namespace Go.Proofs.W
open Go.Vl
set_option maxRecDepth 100000
def JbO (c:Cnd):Bool:=decide ((J3 c).2=2)
def Jhz (c:Cnd):Option Cnd:=if (J3 c).2=0 then some (J3 c).1 else none
def Jbo (cs:List Cnd):List Cnd:=cs.filterMap Jhz
def ltC (a b:Cnd):Bool:=decide (JoU a b < 0)
def Jdt (L:List Cnd):List Cnd:=cU (Go.Sort.insertionSort ltC L.toArray 0 L.length) L.length
def JaF (r:Rul):Option Rul:=if r.conds.any JbO then none else some ⟨r.name,r.act,Jdt (Jbo r.conds)⟩
def Jyf:Option Rul→AV
 | none=> .tup [Jap Jl,Jb false]
 | some n=> .tup [Jap n,Jb true]
theorem JoX {c:Cnd} (h:(J3 c).2=0):Jhz c=some (J3 c).1:=if_pos h
theorem JkJ {c:Cnd} (h:(J3 c).2≠0):Jhz c=none:=if_neg h
theorem Jt9 {cs:List Cnd} {i:Nat} (hi:i < cs.length):Jbo (cs.take (i+1))=Jbo (cs.take i)++(Jhz (cs.getD i cnd0)).toList:=by
 unfold Jbo
 rw [Jb0 cnd0 hi,List.filterMap_append]
 congr 1
theorem JoY (cs:List Cnd):(Jbo cs).length≤cs.length:=List.length_filterMap_le _ _
theorem JvQ {cs:List Cnd} (h:∀j,j < cs.length→JbO (cs.getD j cnd0)=false):cs.any JbO=false:=by
 rw [Bool.eq_false_iff]
 intro ha
 obtain ⟨c,hc,hb⟩:=List.any_eq_true.1 ha
 obtain ⟨j,hj,rfl⟩:=List.getElem_of_mem hc
 have:=h j hj
 rw [show cs.getD j cnd0=cs[j] by simp [List.getD,hj]] at this
 rw [this] at hb;cases hb
theorem Jyg {cs:List Cnd} {i:Nat} (hi:i < cs.length) (h:JbO (cs.getD i cnd0)=true):cs.any JbO=true:=by
 refine List.any_eq_true.2 ⟨cs.getD i cnd0, ?_,h⟩
 simp [List.getD,hi]
theorem JoZ {cs:List Cnd} (h:∀c∈cs,c.ok) {i:Nat} (hi:i < cs.length):(cs.getD i cnd0).ok:=h _ (by simp [List.getD,hi])
theorem Jua:Jbm Tryz.prog 86=true:=by kernel_rfl
theorem Jub:Tryz.prog.bytesOf 86=32:=by kernel_rfl
def ruO (nx:Nat) (s:ByteArray) (k n:Int) (x:AV):Vl.Id×Own:=((2,nx+2), .c [Jh s,int k,int n,x])
def ruZ (nx:Nat):Vl.Id×Own:=((1,nx+1), .c [Jh ⟨#[]⟩,int 0,int 0,Je0 4])
def ruB (nx:Nat) (s:ByteArray) (k n:Int) (L:List Cnd):Option (Nat×Nat×List AV)→List (Vl.Id×Own)
 | none=> [ruO nx s k n (Je0 4),ruZ nx]
 | some (s1,cap,tl)=> [ruO nx s k n (.hs (0,s1) 0 L.length cap),ruZ nx,((0,s1), .c (Jal eC L.toArray tl))]
def ruI (L:List Cnd):Option (Nat×Nat×List AV)→Prop
 | none=> L= []
 | some (_,cap,tl)=> 1≤L.length∧L.length≤cap∧cap * 4≤L.length * 4+tl.length
theorem Jxa {a b:Cnd}:JoU a b < 0↔a.arg < b.arg∨(a.arg=b.arg∧(a.op < b.op∨(a.op=b.op∧(a.mask < b.mask∨(a.mask=b.mask∧a.value < b.value))))):=by
 unfold JoU JdJ
 simp only [orL]
 repeat' split
 all_goals omega
theorem JiO {a b:Cnd}:ltC a b=true↔a.arg < b.arg∨(a.arg=b.arg∧(a.op < b.op∨(a.op=b.op∧(a.mask < b.mask∨(a.mask=b.mask∧a.value < b.value))))):=by
 unfold ltC;rw [decide_eq_true_iff];exact Jxa
theorem Jie {a b:Cnd}:ltC a b=false↔¬(a.arg < b.arg∨(a.arg=b.arg∧(a.op < b.op∨(a.op=b.op∧(a.mask < b.mask∨(a.mask=b.mask∧a.value < b.value)))))):=by
 rw [← JiO,Bool.not_eq_true]
theorem swo_ltC:Go.Sort.SWO ltC:=⟨fun x=> by rw [Jie];omega,fun x y z=> by rw [JiO,JiO,JiO];omega,fun x y z=> by rw [Jie,Jie,Jie];omega⟩
theorem Jxb {a b:Cnd} (h1:ltC a b=false) (h2:ltC b a=false):a=b:=by
 rw [Jie] at h1 h2
 obtain ⟨a1,a2,a3,a4⟩:=a
 obtain ⟨b1,b2,b3,b4⟩:=b
 dsimp only at h1 h2
 have e1:a1=b1:=by omega
 have e2:a2=b2:=by omega
 have e3:a3=b3:=by omega
 have e4:a4=b4:=by omega
 subst e1 e2 e3 e4;rfl
theorem Jyh {nx s1:Nat} {s:ByteArray} {k n:Int} {x y:AV} (h:AVle x y) {c d:List AV} (hc:c=d):BxLe [ruO nx s k n x,ruZ nx,((0,s1), .c c)] [ruO nx s k n y,ruZ nx,((0,s1), .c d)]:=by
 subst hc
 exact ⟨rfl,⟨Rf,Rf,Rf,h,trivial⟩,Bf⟩
theorem Jsk {l:List Cnd} {x:Cnd} {tl:List AV} (h:4≤tl.length):Jas (Jal eC l.toArray tl) (l.length * Tryz.prog.cellsOf 86) (eC x)=Jal eC (l++ [x]).toArray (tl.drop 4):=by
 rw [c_cnd];exact Jme Jbz h
theorem Juc {i j:Vl.Id} {L:List Cnd} {x:Cnd} {cap:Nat} (h:i.2=j.2):AVle (.hs i 0 (L.length+1) cap) (.hs j 0 (L++ [x]).length cap):=by
 rw [List.length_append];exact AVle.hs_nm h
theorem Jxc {x:Cnd} {m:Nat}:eC x++List.replicate (m * Tryz.prog.cellsOf 86) AV.any=Jal eC #[x] (List.replicate (m * 4) .any):=by
 rw [c_cnd];simp [Jal]
theorem JvR {l:List Cnd} {x:Cnd} {tl:List AV} {m:Nat}:(Jal eC l.toArray tl).take (l.length * Tryz.prog.cellsOf 86)++eC x++List.replicate (m * Tryz.prog.cellsOf 86) .any=Jal eC (l++ [x]).toArray (List.replicate (m * 4) .any):=by
 rw [c_cnd,Jmf Jbz];exact Jos
set_option maxHeartbeats 8000000 in
theorem Jqd (r:Rul) (hok:∀c∈r.conds,c.ok) (hl:r.conds.length≤12):Tells Tryz.prog 109 [Jap r] (Jyf (JaF r)):=by
 obtain ⟨s,⟨k,n⟩,cs⟩:=r
 dsimp only at hok hl
 refine Jf Tryz.func109 rfl rfl fun nx=> ?_
 refine stp ?_
 refine Jx (fun y:Nat×List Cnd×Option (Nat×Nat×List AV)×Nat=> mk 47 [(2, .bp (1,nx+1) 0),(4, .bp (2,nx+2) 0),(15,Jam cs),(16,int cs.length),(17,int y.1)] ⟨ruB nx s k n y.2.1 y.2.2.1, [],y.2.2.2,4⟩) (fun y=> y.1≤cs.length∧y.2.1=Jbo (cs.take y.1)∧ruI y.2.1 y.2.2.1∧∀j,j < y.1→JbO (cs.getD j cnd0)=false) (fun y=> cs.length - y.1) ?_ ?_
 ·exact ⟨(0, [],none,nx+3),⟨Nat.zero_le _,rfl,rfl,fun j h=> absurd h (Nat.not_lt_zero _)⟩,Jm (pm:= []) [((2,nx+2), .c [Jh s,int k,int n, .os 0 0 (fun _=> .any) none]),((1,nx+1), .c [Jh ⟨#[]⟩,int 0,int 0, .os 0 0 (fun _=> .any) none])] [] rfl rfl (.cons_cons _ (.cons_cons _ (.cons _ .slnil))) Sf ⟨rfl,⟨Rf,Rf,Rf,AVle.os_nil,trivial⟩,rfl,⟨Rf,Rf,Rf,AVle.os_nil,trivial⟩,trivial⟩ trivial ⟨Rf,Rf,Rf,Rf,Rf,trivial⟩⟩
 ·rintro ⟨i,L,md,nx1⟩ ⟨h1,hL,h2,h3⟩
  dsimp only at h1 hL h2 h3
  have hal:=JoY (cs.take i)
  rw [List.length_take,Nat.min_eq_left h1,← hL] at hal
  refine stp ?_
  intro c g;cases c
  ·have g:=Jt g
   try dsimp only at g
   have hi:i=cs.length:=by omega
   subst hi
   rw [List.take_length] at hL
   have hR:JaF ⟨s,(k,n),cs⟩=some ⟨s,(k,n),Jdt L⟩:=by
    unfold JaF
    dsimp only
    rw [JvQ h3,hL];rfl
   rw [hR]
   rcases md with _ | ⟨s1,cap,tl⟩
   ·obtain rfl:L= []:=h2
    refine stp ?_
    refine Je rfl rfl (Jsg 193) ⟨Rf,Rf,trivial⟩ fun nx2=> ?_
    refine stp ?_
    refine Je rfl rfl Jt6 ⟨Rf,trivial⟩ fun nx2=> ?_
    refine stp ?_
    exact Jj rfl ⟨rfl,trivial⟩ (AVle.tups (cs:= [_,_]) ⟨AVle.ags (cs:= [_,_,_,_]) ⟨Rf,Rf,Rf,AVle.os_sl0,trivial⟩,Rf,trivial⟩)
   ·obtain ⟨q1,q2,q3⟩:=h2
    refine stp ?_
    refine J2 (xs:= [.hs (0,s1) 0 L.length cap,fn0 193]) [ruO nx s k n (.hs (0,s1) 0 L.length cap),ruZ nx] [] 4 rfl rfl rfl rfl ⟨Rf,Rf,trivial⟩ (JoV 193 ltC JoU Jsh (fun _ _=> rfl) L.toArray tl L.length (by simp) Om s1 cap _) Bf Pf rfl fun r h' hq=> ?_
    obtain ⟨nx2,nn2,rfl⟩:=hq
    have hds:(Go.Sort.insertionSort ltC L.toArray 0 L.length).size=L.length:=by
     have:=(Go.Sort.insertionSort_holds (lt:=ltC) swo_ltC L.toArray 0 L.length (Nat.zero_le _) (by simp)).1.1
     simpa using this
    refine stp ?_
    refine J2 (xs:= [.hs (0,s1) 0 L.length cap]) [ruO nx s k n (.hs (0,s1) 0 L.length cap),ruZ nx] [] 4 rfl rfl rfl rfl ⟨Rf,trivial⟩ (Jqc (Go.Sort.insertionSort ltC L.toArray 0 L.length) tl L.length hds Om Om s1 cap _ q2) Bf Pf rfl fun r h' hq=> ?_
    obtain ⟨tl2,nx3,nn3,rfl,rfl⟩:=hq
    have hcl:(Jdt L).length≤cap:=Nat.le_trans (Jsi _ _) q2
    refine JW ?_
    refine JbD (n:=47) (nx:=nx3) (nn:=4) (pm:= []) (bx:= [ruZ nx]) (L:= [(2, .bp (1,nx+1) 0),(4, .rp [Jh s,int k,int n,Jam (Jdt L)])]) (df:=some []) [((2,nx+2), .c [Jh s,int k,int n, .hs (0,s1) 0 (Jdt L).length cap]),((0,s1), .c (Jal eC (Jdt L).toArray tl2))] rfl rfl rfl (.cons _ (.swap _ _ _)) Sf ⟨Frz.refl _,(Frz.bp (.head _) rfl).trans (Frz.rp ⟨Frz.refl _,Frz.refl _,Frz.refl _,Jhs Jbz (fun _=> rfl) rfl (.tail _ (.head _)) hcl,trivial⟩),trivial⟩ ?_
    refine stp ?_
    exact Jj rfl ⟨rfl,trivial⟩ Rf
  ·have g:=Ju g
   try dsimp only at g
   have hi:i < cs.length:=by omega
   have hcs:=Jtx (cs.getD i cnd0) (JoZ hok hi)
   have ha:=Jt9 hi
   have hnv:JbO (cs.getD i cnd0)=decide ((J3 (cs.getD i cnd0)).2=2):=rfl
   have hak0:=JoX (c:=cs.getD i cnd0)
   have hak1:=JkJ (c:=cs.getD i cnd0)
   generalize J3 (cs.getD i cnd0)=N at hcs hnv hak0 hak1
   obtain ⟨⟨qa,qo,qm,qv⟩,st⟩:=N
   dsimp only at hnv hak0 hak1
   refine stp ?_
   refine ⟨Bd, ?_⟩
   refine stp ?_
   refine Je rfl rfl hcs ⟨Rf,trivial⟩ fun nx2=> ?_
   refine stp ?_
   intro c g2;cases c
   ·have g2:st≠2:=fun h=> by subst h;cases g2
    rw [decide_eq_false g2] at hnv
    have h3':∀j,j < i+1→JbO (cs.getD j cnd0)=false:=fun j hj=> by
     rcases Nat.lt_or_ge j i with q | q
     ·exact h3 j q
     ·rw [show j=i by omega];exact hnv
    refine stp ?_
    intro c g3;cases c
    ·have g3:st≠0:=fun h=> by subst h;cases g3
     rw [hak1 g3,← hL] at ha
     refine stp ?_
     exact back (i + 1, L, md, _) ⟨hi, ha.symm.trans (List.append_nil _).symm |>.symm |> (fun e => by simpa using ha.symm), h2, h3'⟩ Dm (Jm (bx := ruB nx s k n L md) _ _ rfl rfl (.cons _ (.cons _ Sf)) Sf Bf trivial ⟨Rf, Rf, Rf, Rf, Lw, trivial⟩)
    ·have g3:st=0:=by
      by_cases h:st=0
      ·exact h
      ·exfalso
       have:((st:Int) ==0)=false:=beq_eq_false_iff_ne.2 Om
       exact absurd (g3.trans this) Dc
     rw [hak0 g3,← hL] at ha
     have ha:L++ [⟨qa,qo,qm,qv⟩]=Jbo (cs.take (i+1)):=ha.symm
     rcases md with _ | ⟨s1,cap,tl⟩
     ·obtain rfl:L= []:=h2
      refine JW ?_
      refine JU (fun i=> match i with | 0=> true | _=> false) 5 ?_
      refine stp ?_
      refine Jgg (m:=1) rfl rfl (.inr ⟨_,rfl⟩) Tryz.underlying116 Jua c_cnd.symm Dc (JC rfl) (by rw [Jub];omega) Om fun ncap hcap=> ?_
      refine stp ?_
      exact back (i+1, [⟨qa,qo,qm,qv⟩],some (nx2+1,ncap,List.replicate ((ncap - 1) * 4) .any),nx2+1+1) ⟨hi,ha,⟨Nat.le_refl _,hcap,by simp;omega⟩,h3'⟩ Dm (Jo (pm:= []) (bx:= [ruO nx s k n (.hs (0,nx2+1) 0 1 ncap),ruZ nx,((0,nx2+1), .c (Jal eC #[⟨qa,qo,qm,qv⟩] (List.replicate ((ncap - 1) * 4) .any)))]) _ [ruO nx s k n (.hs (6,nx2+1) 0 1 ncap),ruZ nx,((6,nx2+1), .c (eC ⟨qa,qo,qm,qv⟩++List.replicate ((ncap - 1) * Tryz.prog.cellsOf 86) .any))] [] rfl rfl (List.perm_append_singleton _ _) (.cons _ (.cons _ (.cons_cons _ (.cons_cons _ (.cons_cons _ .slnil))))) .slnil ⟨rfl,⟨Rf,Rf,Rf,AVle.hs_nm rfl,trivial⟩,rfl,OwnLe.refl _,rfl,JoW (congrArg Own.c Jxc),trivial⟩ trivial ⟨Rf,Rf,Rf,Rf,Lw,trivial⟩)
     ·obtain ⟨q1,q2,q3⟩:=h2
      refine JW ?_
      refine JU (fun i=> match i with | 0=> true | _=> false) 5 ?_
      refine stp ?_
      refine Jff (m:=1) (szx:=4) (n:=L.length) (cap:=cap) (cs:=Jal eC L.toArray tl) (i:=(0,s1)) rfl rfl (.inr ⟨_,rfl⟩) Tryz.underlying116 Jua (.inr c_cnd.symm) (by rfl) q2 (by rw [c_cnd,Jhp Jbz];simpa using q3) (JC rfl) (fun _=> by rw [Jub];omega) (fun _=> by omega) (fun hm=> absurd hm Dc) (fun hm hfit=> ?_) (fun hm hfit ncap hcap=> ?_)
      ·refine stp ?_
       (conv=> whnf)
       refine back (i+1,L++ [(⟨qa,qo,qm,qv⟩:Cnd)],some (s1,cap,tl.drop 4),nx2+1) ?_ Dm ?_
       ·exact ⟨hi,ha,⟨by simp,by simpa using hfit,by simp;omega⟩,h3'⟩
       ·exact (Jm (pm:= []) (bx:= [ruO nx s k n (.hs (0,s1) 0 (L++ [(⟨qa,qo,qm,qv⟩:Cnd)]).length cap),ruZ nx,((0,s1), .c (Jal eC (L++ [(⟨qa,qo,qm,qv⟩:Cnd)]).toArray (tl.drop 4)))]) [ruO nx s k n (.hs (0,s1) 0 (L.length+1) cap),ruZ nx,((0,s1), .c (Jas (Jal eC L.toArray tl) (L.length * Tryz.prog.cellsOf 86) (eC ⟨qa,qo,qm,qv⟩)))] [] rfl rfl (.cons _ (.cons _ (.cons_cons _ (.cons_cons _ (.cons_cons _ .slnil))))) .slnil (Jyh (Juc rfl) (Jsk (tl:=tl) (by have:=hfit;omega))) trivial ⟨Rf,Rf,Rf,Rf,Lw,trivial⟩)
      ·refine stp ?_
       (conv=> whnf)
       refine back (i+1,L++ [(⟨qa,qo,qm,qv⟩:Cnd)],some (nx2+1,ncap,List.replicate ((ncap - (L.length+1)) * 4) .any),nx2+1+1) ?_ Dm ?_
       ·exact ⟨hi,ha,⟨by simp,by simpa using hcap,by simp;omega⟩,h3'⟩
       ·exact (Jo (pm:= []) (bx:= [ruO nx s k n (.hs (0,nx2+1) 0 (L++ [(⟨qa,qo,qm,qv⟩:Cnd)]).length ncap),ruZ nx,((0,nx2+1), .c (Jal eC (L++ [(⟨qa,qo,qm,qv⟩:Cnd)]).toArray (List.replicate ((ncap - (L.length+1)) * 4) .any)))]) _ [ruO nx s k n (.hs (6,nx2+1) 0 (L.length+1) ncap),ruZ nx,((6,nx2+1), .c ((Jal eC L.toArray tl).take (L.length * Tryz.prog.cellsOf 86)++eC ⟨qa,qo,qm,qv⟩++List.replicate ((ncap - (L.length+1)) * Tryz.prog.cellsOf 86) .any))] [] rfl rfl (List.perm_append_singleton _ _) (.cons _ (.cons _ (.cons_cons _ (.cons_cons _ (.cons _ (.cons_cons _ .slnil)))))) .slnil ⟨rfl,⟨Rf,Rf,Rf,Juc rfl,trivial⟩,rfl,OwnLe.refl _,rfl,JoW (congrArg Own.c JvR),trivial⟩ trivial ⟨Rf,Rf,Rf,Rf,Lw,trivial⟩)
   ·have g2:st=2:=by
     by_cases h:st=2
     ·exact h
     ·exfalso
      have:((st:Int) ==2)=false:=beq_eq_false_iff_ne.2 Om
      exact absurd (g2.trans this) Dc
    have hR:JaF ⟨s,(k,n),cs⟩=none:=by
     unfold JaF
     dsimp only
     rw [Jyg hi (by rw [hnv];exact decide_eq_true g2)];rfl
    rw [hR]
    rcases md with _ | ⟨s1,cap,tl⟩
    all_goals
     refine stp ?_
     exact Jj rfl ⟨rfl,trivial⟩ (AVle.tups (cs:= [_,_]) ⟨AVle.ags (cs:= [_,_,_,_]) ⟨Rf,Rf,Rf,AVle.os_sl0,trivial⟩,Rf,trivial⟩)
end Go.Proofs.W

namespace Go.Proofs.W
open Go.Vl
set_option maxRecDepth 100000
def JkK (r:Rul):List AV:= [Jh r.name,int r.act.1,int r.act.2,Jam r.conds]
theorem Jud (l:List Rul) (p:Rul→Bool) (f:Nat) (n:Rul) (hl:l.length≤1000000000) (hp:∀i,i < l.length→Tells Tryz.prog f [Jap (l.getD i Jl), .rp (JkK n)] (Jb (p (l.getD i Jl)))):
 Tells Tryz.prog 106 [JT 4 Jap Jl l,(.fn (.func f) [] [.rp (JkK n)])] (int (JdI (l.findIdx? p))):=by
 refine Jf Tryz.func106 rfl rfl fun nx=> ?_
 refine stp ?_
 refine Jx (fun s:Nat×Nat=> mk 19 [(0,JT 4 Jap Jl l),(1,(.fn (.func f) [] [.rp (JkK n)])),(7,int l.length),(8,int s.1)] ⟨[], [],s.2,0⟩) (fun s=> s.1≤l.length∧∀j,j < s.1→p (l.getD j Jl)=false) (fun s=> l.length - s.1) ?_ ?_
 ·exact ⟨(0,nx),⟨by simp,by intro j hj;simp at hj⟩,Jaz rfl rfl ⟨Rf,Rf,Rf,Rf,trivial⟩⟩
 ·rintro ⟨i,nx⟩ ⟨h1,h2⟩
  dsimp only at h1 h2
  refine stp ?_
  intro c h3;cases c
  ·have h3:=Jt h3
   dsimp only at h3
   refine stp ?_
   refine Jd rfl (Jk ?_)
   rw [JdH Jl (fun j hj=> h2 j Om)];rfl
  ·have h3:=Ju h3
   dsimp only at h3
   have hi:i < l.length:=by omega
   refine stp ?_
   refine ⟨⟨by dsimp only;omega,by dsimp only;omega⟩, ?_⟩
   refine stp ?_
   refine Je rfl rfl (hp i hi) ⟨Rf,Rf,trivial⟩ fun nx'=> ?_
   intro c h4;cases c
   ·refine stp ?_
    refine back (i+1,nx') ⟨by dsimp only;omega,fun j hj=> ?_⟩ Dm (Jaz rfl rfl ⟨Rf,Rf,Rf,Jk (J4 Dm),trivial⟩)
    dsimp only at hj
    rcases Nat.lt_or_ge j i with h | h
    ·exact h2 j h
    ·obtain rfl:j=i:=by omega
     exact h4.symm
   ·refine stp ?_
    refine Jd rfl (Jk ?_)
    rw [Jfp Jl hi h2 h4.symm];rfl
theorem Jue (l:List Rul) (p:Rul→Bool) (f:Nat) (n:Rul) (hl:l.length≤1000000000) (hp:∀i,i < l.length→Tells Tryz.prog f [Jap (l.getD i Jl), .rp (JkK n)] (Jb (p (l.getD i Jl)))):
 Tells Tryz.prog 168 [JT 4 Jap Jl l,(.fn (.func f) [] [.rp (JkK n)])] (Jb (l.any p)):=by
 refine Jf Tryz.func168 rfl rfl fun nx=> ?_
 refine stp ?_
 refine Je rfl rfl (Jud l p f n hl hp) ⟨Rf,Rf,trivial⟩ fun nx'=> ?_
 refine stp ?_
 intro c h;cases c
 all_goals
  refine stp ?_
  refine Jd rfl (JB ?_)
  rw [h,← List.findIdx?_isSome]
  exact Jd6 _
def Jif (n x:Rul):Bool:=decide (x.conds= [])|| decide (x.conds=n.conds)
def Jdm (l:List Rul) (n:Rul):Bool:=l.any (Jif n)
theorem Juf (x n:Rul) (hx:x.conds.length≤1000000):Tells Tryz.prog 195 [Jap x, .rp [Jh n.name,int n.act.1,int n.act.2,Jam n.conds]] (Jb (Jif n x)):=by
 refine Jf Tryz.func195 rfl rfl fun nx=> ?_
 by_cases h:x.conds= []
 ·have e:Jif n x=true:=by unfold Jif;rw [h];rfl
  rw [e]
  refine stp ?_
  intro c hc
  have hc2:c=true:=hc.trans (beq_iff_eq.2 (congrArg (fun l:List Cnd=> Int.ofNat l.length) h))
  clear hc;subst hc2
  refine stp ?_
  exact Jd rfl Rf
 ·have e:Jif n x=decide (x.conds=n.conds):=by unfold Jif;rw [decide_eq_false h];rfl
  rw [e]
  refine stp ?_
  intro c hc
  have hne:¬Int.ofNat x.conds.length=0:=fun hh=> h (List.eq_nil_of_length_eq_zero (Int.ofNat.inj hh))
  have hc2:c=false:=hc.trans (beq_eq_false_iff_ne.2 hne)
  clear hc;subst hc2
  refine stp ?_
  refine Je rfl rfl (Jp7 x.conds n.conds hx) ⟨Rf,Rf,trivial⟩ fun nx2=> ?_
  intro c h9;cases c
  all_goals
   refine stp ?_
   exact Jd rfl (JB h9)
theorem Jjl (l:List Rul) (n:Rul) (hl:l.length≤1000000) (hc:∀r∈l,r.conds.length≤1000000):Tells Tryz.prog 110 [Ji l,Jap n] (Jb (Jdm l n)):=by
 refine Jf Tryz.func110 rfl rfl fun nx=> ?_
 (refine JW ?_;refine Jae ?_;refine JW ?_)
 refine AW.le (JcJ (L:= [(0,Ji l),(3, .rp [Jh n.name,int n.act.1,int n.act.2,Jam n.conds])]) (bx:= []) (pm:= []) (nn:=1) [((0,nx), .c [Jh n.name,int n.act.1,int n.act.2,Jam n.conds])] rfl rfl Sf .slnil ⟨Frz.refl _,Frz.bp (.head _) rfl,trivial⟩) ?_
 refine stp ?_
 refine Je rfl rfl (Jue l (Jif n) 195 n Om (fun i hi=> Juf _ _ (hc _ (by simp [List.getD,hi])))) ⟨Rf,Rf,trivial⟩ fun nx2=> ?_
 intro c h9;cases c
 all_goals
  refine stp ?_
  exact Jd rfl (JB h9)
end Go.Proofs.W

namespace Go.Proofs
open Go.Shelf
shelf_lay_g SlLaysM.n6 Slgm 6 at Tryz 189 as Tryz.laysM6k16
end Go.Proofs
namespace Go.Proofs.W
open Go.Vl Go.Shelf
set_option maxRecDepth 100000
theorem Jqe (es:List (Value×AV)) (hky:∀p∈es,∃z,p.1= .string z):Jg1 Tryz.prog 198 [] [.rp [.fm es]] (fun v:Value=> [.v v]) (fun xs=> xs.Perm (es.map (·.1))):=by
 intro i σ Cb Cp I J hc s0 nx nn h0
 refine ECall.wk (J0 Tryz.func198 rfl rfl ?_)
 refine JW ?_
 refine JU (fun n=> match n with | 0=> true | _=> false) 2 ?_
 refine stp ?_
 refine Jrl rfl Tryz.underlying223 rfl ?_
 refine stp ?_
 refine Jx (fun y:List Nat×σ×Nat=> mk 14 [(0, .yl i),(5, .bp (nn,nx) 0)] ⟨((nn,nx), .it es y.1)::Cb y.2.1,Cp y.2.1,y.2.2,nn+1⟩) (fun y=> y.1.Nodup∧(∀j∈y.1,j < es.length)∧I (y.1.map (JeG es)) y.2.1) (fun y=> es.length - y.1.length) ?_ ?_
 ·exact ⟨([],s0,nx+1),⟨List.nodup_nil,(fun j (h:j∈ [])=> by cases h),h0⟩,Et rfl rfl ⟨rfl,OwnLe.refl _,Bf⟩ Pf ⟨Rf,Rf,trivial⟩⟩
 ·rintro ⟨seen,s,nx1⟩ ⟨h1,h2,h3⟩
  dsimp only at h1 h2 h3
  refine JW ?_
  refine JU (fun n=> match n with | 0=> true | _=> false) 1 ?_
  refine Jti (i:=(nn,nx)) (es:=es) (seen:=seen) (R:=Cb s) rfl rfl rfl (fun k p hk hn=> ?_) (fun hall=> ?_)
  ·obtain ⟨z,hz⟩:=hky p (List.mem_of_getElem? hk)
   obtain ⟨key,val⟩:=p
   dsimp only at hz
   subst hz
   have hk2:k < es.length:=(List.getElem?_eq_some_iff.1 hk).1
   have hka:JeG es k= .string z:=JrV hk
   obtain ⟨post,hperm⟩:=Jtl h1 h2 hk2 hn
   have hS:(seen.map (JeG es)++(.string z)::post.map (JeG es)).Perm (es.map (·.1)):=by
    rw [← Jmp,← hka]
    simpa using hperm.map (JeG es)
   have hlen:=hperm.length_eq
   have hnd:(seen++ [k]).Nodup:=by
    rw [List.nodup_append]
    exact ⟨h1,by simp,fun a ha b hb hab=> by rw [List.mem_singleton] at hb;subst hb;subst hab;exact hn ha⟩
   have hlt:∀j∈seen++ [k],j < es.length:=fun j hj=> by
    rcases List.mem_append.1 hj with h | h
    ·exact h2 j h
    ·rw [List.mem_singleton] at h;omega
   have hmk:(seen++ [k]).map (JeG es)=seen.map (JeG es)++ [.string z]:=by rw [List.map_append,← hka];rfl
   have hlen2:seen.length < es.length:=by simp at hlen;omega
   refine JW ?_
   refine JU (fun n=> match n with | 0=> true | _=> false) 1 ?_
   refine Jrm (i:=(nn,nx)) (seen:=seen) (k:=k) (R:=Cb s) rfl rfl rfl hk ?_
   refine JW ?_
   refine JU (fun n=> match n with | 0=> true | _=> false) 3 ?_
   refine stp ?_
   refine Jdd [((nn,nx), .it es (seen++ [k]))] [] rfl rfl rfl (hc _ hS) rfl h3 ⟨Rf,trivial⟩ (fun s' nx' hI=> ?_) (fun s' nx' hJ=> ?_)
   ·refine stp ?_
    exact back (seen++ [k],s',nx') ⟨hnd,hlt,by dsimp only;rw [hmk];exact hI⟩ (by simp;omega) (Et rfl rfl Bf Pf ⟨Rf,Rf,trivial⟩)
   ·refine stp ?_
    exact Jac rfl ⟨_,⟨Cb s',Cp s',nx',nn⟩,Rf,JM _ _ rfl (.cons _ Sf) Sf Bf Pf,_,s',hS, .inr ⟨_,_,_,rfl,hJ⟩,rfl,rfl⟩
  ·refine stp ?_
   refine Jac rfl ⟨_,⟨Cb s,Cp s,nx1,nn⟩,Rf,JM _ _ rfl (.cons _ Sf) Sf Bf Pf,_,s, ?_, .inl h3,rfl,rfl⟩
   rw [← Jmp]
   exact (Jtm h1 h2 hall).map _
def JcE (l:List Value) (k:Nat):AV:= .v (l.getD k (.bool false))
theorem JvS:Tryz.prog.bytesOf 9=16:=by kernel_rfl
theorem JkL (es:List (Value×AV)):Tells Tryz.prog 112 [.fm es] (.fn (.func 198) [] [.rp [.fm es]]):=by
 refine Jf Tryz.func112 rfl rfl fun nx=> ?_
 (repeat ((conv=>whnf);first|refine ω0 ?_|refine ω1 ?_|refine ω2 ?_|refine ω3 ?_|refine ω4 rfl ?_|refine ω5 rfl ?_|refine ω6 ?_|refine ω7 ?_|refine ⟨rfl,?_⟩|refine ⟨trivial,?_⟩|refine ⟨⟨rfl,Nat.le_of_ble_eq_true rfl⟩,?_⟩|refine ⟨⟨by kernel_rfl,by kernel_rfl⟩,?_⟩|refine ⟨by decide,?_⟩|refine Jge ?_|refine Jfm ?_))
 refine AW.le (JcJ (L:= [(2, .fn (.func 198) [] [.rp [.fm es]])]) (bx:= []) (pm:= []) (nn:=1) [((0,nx), .c [.fm es])] rfl rfl Sf .slnil ⟨Frz.fn trivial ⟨Frz.bp (.head _) rfl,trivial⟩,trivial⟩) ?_
 refine stp ?_
 exact Jd rfl Rf
set_option maxHeartbeats 1000000 in
theorem JjO {it:FuncId} {es:List (Value×AV)} {S:List Value→Prop} (hit:Jg1 Tryz.prog it [] [.rp [.fm es]] (fun v:Value=> [.v v]) S) (hS:∀xs,S xs→xs.length≤1000000∧∀v∈xs,∃z,v= .string z) (nx:Nat):
 ECall Tryz.prog 265 [.os 0 0 (fun _=> .any) none, .fn (.func it) [] [.rp [.fm es]]] ⟨[], [],nx,0⟩ fun r h'=> ∃xs oi nx' nn',S xs∧(oi=none→xs= [])∧r= .os 1 xs.length (JcE xs) oi∧h'=⟨[],JbH oi (xs.length * 1),nx',nn'⟩:=by
 refine ECall.wk (J0 Tryz.func265 rfl rfl ?_)
 refine stp ?_
 refine AW.le (E':=mk 13 [(2, .bp (0,nx) 0),(6, .fn (.func it) [] [.rp [.fm es]])] ⟨[((0,nx), .c [.os 1 0 (JcE []) none])], [],nx+1,1⟩) ?_ ?_
 ·exact Jm _ _ rfl rfl Sf .slnil ⟨rfl,⟨AVle.os_nil,trivial⟩,trivial⟩ trivial ⟨Rf,Rf,trivial⟩
 refine JwQ (σ:=Nat×(Nat→AV)×Option Vl.Id) (α:=Value) (e:=fun v=> [.v v]) (S:=S) (first':= []) (caps':= [.rp [.fm es]]) (fun x=> [((0,nx), .c [.os 1 x.1 x.2.1 x.2.2])]) (fun x=> JbH x.2.2 (x.1 * 1)) (fun pre x=> x.1=pre.length∧(∀k,k < x.1→x.2.1 k=JcE pre k)∧(x.2.2=none→pre= [])) (0,JcE [],none) rfl rfl hit (LeL.refl _) (LeL.refl _) rfl rfl ⟨rfl,fun _ _=> rfl,fun _=> rfl⟩ (fun _=> rfl) ?_ ?_
 ·rintro pre x post ⟨n,f,oi⟩ nx3 nn3 hx ⟨hp,hf,ho⟩
  dsimp only at hp hf ho
  subst hp
  obtain ⟨hlen,hty⟩:=hS _ hx
  obtain ⟨z,rfl⟩:=hty x (by simp)
  simp at hlen
  refine JW ?_
  refine Jae ?_
  refine JW ?_
  refine JU (fun n=> match n with | 0=> true | _=> false) 4 ?_
  refine stp ?_
  refine Jfe (e:=9) (c:=1) (pm:= []) (n:=pre.length) (oi:=oi) (sz:=1) (f:=f) rfl rfl (.inr ⟨_,rfl⟩) (by kernel_rfl) (by kernel_rfl) (by kernel_rfl) (.inr rfl) (by kernel_rfl) (List.append_nil _).symm (JC rfl) (by rw [JvS];omega) Om ?_
  refine stp ?_
  refine ⟨(pre.length+1,_,some (nn3,nx3)), .inl ⟨rfl,by simp,fun k hk=> ?_,fun h=> by cases h⟩,rfl,rfl⟩
  refine Jb8 (fun k hk=> ?_) ?_ k hk
  ·rw [hf k hk];simp [JcE,List.getD,List.getElem?_append_left hk,hk]
  ·simp [JcE,List.getD];rfl
 ·rintro xs ⟨n,f,oi⟩ nx3 nn3 hx ⟨hp,hf,ho⟩
  dsimp only at hp hf ho
  subst hp
  refine stp ?_
  refine Jac rfl ⟨.os 1 xs.length (JcE xs) oi,⟨[],JbH oi (xs.length * 1),nx3,0⟩,AVle.os_fun hf, ?_,xs,oi,nx3,0,hx,ho,rfl,rfl⟩
  exact JM [] _ rfl (List.nil_sublist _) Sf trivial Pf
theorem JlE (es:List (Value×AV)) (hl:es.length≤1000000) (hky:∀p∈es,∃z,p.1= .string z) (nx:Nat):
 ECall Tryz.prog 197 [.fn (.func 198) [] [.rp [.fm es]]] ⟨[], [],nx,0⟩ (Jwz (fun n f=> ∃xs:List Value,xs.Perm (es.map (·.1))∧n=xs.length∧∀k,k < n→f k=JcE xs k) 1):=by
 refine Jrq Dc (fun n f ⟨xs,_,_,hf⟩ k hk c hc=> ?_) ?_
 ·rw [hf k hk] at hc
  obtain rfl:c=JcE xs k:=by simpa [JcE,AV.cells] using hc
  exact Flat.v _
 refine ECall.wk (J0 Tryz.func197 rfl rfl ?_)
 refine stp ?_
 refine JeS rfl rfl (ECall.args (bs:= [.os 0 0 (fun _=> .any) none, .fn (.func 198) [] [.rp [.fm es]]]) ⟨Rf,Rf,trivial⟩ (JjO (Jqe es hky) (fun xs hx=> ⟨by have:=hx.length_eq;simp at this;omega,fun v hv=> ?_⟩) nx)) fun r h' hq=> ?_
 ·obtain ⟨p,hp,rfl⟩:=List.mem_map.1 (hx.mem_iff.1 hv)
  exact hky p hp
 obtain ⟨xs,oi,nx',nn',hS,ho,rfl,rfl⟩:=hq
 refine Named.same ?_
 refine stp ?_
 exact Jac rfl ⟨_,_,Rf,HLe.refl _,xs.length,JcE xs,oi,nx',_,⟨xs,hS,rfl,fun _ _=> rfl⟩,(fun h=> by rw [ho h];rfl),rfl,rfl⟩
def JcK (z:List UInt8):AV:= .v (encStr z)
def JgS (s:Nat) (d:Array (List UInt8)) (tl:List AV):List (Vl.Id×Own):= [((0,s), .c (Jde JcK d tl))]
theorem JkM (l:List (List UInt8)):l.mergeSort (fun x y=> decide (x≤y))=JaA Go.Sort.ltStr l:=by
 unfold JaA
 congr 1
 funext x y
 simp only [Go.Sort.ltStr]
 by_cases h:x≤y
 ·rw [decide_eq_true h,decide_eq_false (List.not_lt.2 h)];rfl
 ·rw [decide_eq_false h,decide_eq_true (List.not_le.1 h)];rfl
theorem Jig:∀x y:List UInt8,Go.Sort.ltStr x y=false→Go.Sort.ltStr y x=false→x=y:=fun x y h1 h2=> by
 simp only [Go.Sort.ltStr,decide_eq_false_iff_not,List.not_lt] at h1 h2
 exact List.le_antisymm h2 h1
theorem Jo0 (d0:Array (List UInt8)) (tl:List AV) (n:Nat) (hn:d0.size=n) (hsz:n≤1000000) (s cap nx:Nat):
 ECall Tryz.prog 189 [.hs (0,s) 0 n cap] ⟨JgS s d0 tl, [],nx,1⟩ (fun r h'=> ∃nx' nn',h'=⟨JgS s (JaA Go.Sort.ltStr d0.toList).toArray tl, [],nx',nn'⟩):=by
 subst hn
 have h:=Jjb (P:=Tryz.prog) (enc:=encStr) (d:=d0) (d':=(JaA Go.Sort.ltStr d0.toList).toArray) (tl:=tl) (nm:=0) (s:=s) (cap:=cap) (nx:=nx) (nn:=1) (f:=189) ⟨_,Tryz.func189,rfl,rfl⟩ (by simp [JbE]) (fun w blk hH hb=> by
  have k:=AnyM.slices_Sort_string Tryz.laysM6k16 blk 0 cap d0.toList w hH hb (by simp;omega)
  rw [JkM] at k
  exact k)
 exact h.mono fun r h' ⟨_,h2⟩=> ⟨nx,1,h2⟩
theorem Jo1 (F:Nat→AV):Tells Tryz.prog 189 [.os 1 0 F none] (.tup []):=
 Jjc (nx:=0) ⟨_,Tryz.func189,rfl,rfl⟩ fun p cap w=> AnyM.slices_Sort_string_none Tryz.laysM6k16 p cap w
def JkN:Value→List UInt8
 | .string z=> z.data.toList
 | _=> []
theorem Jnp (es:List (Value×AV)) (zs:List (List UInt8)) (hz:es.map (·.1)=zs.map encStr) (hl:es.length≤1000000):
 Tells Tryz.prog 111 [.fn (.func 198) [] [.rp [.fm es]]] (JT 1 JcK [] (JaA Go.Sort.ltStr zs)):=by
 have hky:∀p∈es,∃z,p.1=encStr z:=fun p hp=> by
  have:p.1∈zs.map encStr:=hz ▸ List.mem_map_of_mem hp
  obtain ⟨z,_,h⟩:=List.mem_map.1 this
  exact ⟨z,h.symm⟩
 refine Jf Tryz.func111 rfl rfl fun nx=> ?_
 refine stp ?_
 refine JeS rfl rfl (JlE es hl (fun p hp=> let ⟨z,h⟩:=hky p hp;⟨⟨z.toArray⟩,h⟩) nx) fun r h' hq=> ?_
 obtain ⟨n,f,⟨xs,hxp,hxn,hxf⟩,hq⟩:=hq
 obtain ⟨ys,rfl⟩:∃ys:List (List UInt8),xs=ys.map encStr:=by
  have hall:∀v∈xs,∃z,v=encStr z:=fun v hv=> by
   have hv2:=hxp.mem_iff.1 hv
   rw [hz] at hv2
   obtain ⟨z,_,h⟩:=List.mem_map.1 hv2
   exact ⟨z,h.symm⟩
  clear hxp hxn hxf hq
  induction xs with
  | nil=> exact ⟨[],rfl⟩
  | cons x xs ih=>
    obtain ⟨z,rfl⟩:=hall x (by simp)
    obtain ⟨ys,rfl⟩:=ih fun v hv=> hall v (by simp [hv])
    exact ⟨z::ys,rfl⟩
 have hperm:ys.Perm zs:=by
  rw [hz] at hxp
  have h2:=hxp.map JkN
  rwa [List.map_map,List.map_map,show (JkN∘encStr)=id from rfl,List.map_id,List.map_id] at h2
 have hsz:n≤1000000:=by
  have:=hxp.length_eq
  simp at this
  rw [hxn];simp;omega
 rcases hq with ⟨rfl,hb,hp,rfl⟩ | ⟨s,cap,more,nx',nn',hcap,hmore,rfl,rfl⟩
 ·have hys:ys= []:=by cases ys with | nil=> rfl | cons y ys=> simp at hxn
  subst hys
  have hzs:zs= []:=hperm.symm.eq_nil
  subst hzs
  rw [show JaA Go.Sort.ltStr ([]:List (List UInt8))= [] from List.eq_nil_of_length_eq_zero JbE]
  obtain ⟨bx,pm,nxx,nnn⟩:=h'
  dsimp only at hb hp
  subst hb;subst hp
  refine Named.same ?_
  refine stp ?_
  refine Je rfl rfl (Jo1 f) ⟨Rf,trivial⟩ fun nx2=> ?_
  refine stp ?_
  exact Jd rfl AVle.os_sl0
 ·refine Named.same ?_
  have hcells:JO n f=ys.toArray.toList.map JcK:=by
   have key:∀m,m≤n→JO m f=(ys.take m).map JcK:=by
    intro m
    induction m with
    | zero=> intro _;rfl
    | succ m ih=>
      intro hm
      have hm':m < ys.length:=by simp at hxn;omega
      have e:JO (m+1) f=JO m f++(f m).cells:=by unfold JO;rw [List.range_succ,List.flatMap_append];simp
      rw [e,ih Om,hxf m Om,List.take_add_one,List.map_append]
      simp [JcE,List.getD,hm',AV.cells,JcK]
   rw [key n (Nat.le_refl _),List.take_of_length_le (by simp at hxn;omega)]
  have hnn:ys.toArray.size=n:=by simp at hxn;simp [hxn]
  rw [hcells]
  refine JW ?_
  refine AW.le (E':=mk 9 [(3, .hs (0,s) 0 n cap)] ⟨JgS s ys.toArray (List.replicate more .any), [],nx',1⟩) (Jm _ _ rfl rfl Sf .slnil Bf trivial ⟨Rf,trivial⟩) ?_
  refine stp ?_
  refine J2 (xs:= [.hs (0,s) 0 n cap]) [] [] 1 rfl rfl rfl rfl ⟨Rf,trivial⟩ (Jo0 ys.toArray _ n hnn hsz s cap _) Bf Pf rfl fun r h' hq=> ?_
  obtain ⟨nx2,nn2,rfl⟩:=hq
  have hd:(JaA Go.Sort.ltStr ys.toArray.toList).toArray.toList=JaA Go.Sort.ltStr zs:=by
   show JaA Go.Sort.ltStr ys=_
   exact Jlu Go.Sort.swo_ltStr Jig hperm
  generalize (JaA Go.Sort.ltStr ys.toArray.toList).toArray=d' at hd⊢
  have hdn:d'.size=n:=by
   rw [← Array.length_toList,hd,JbE,← hperm.length_eq]
   simpa using hnn
  have hln:(JaA Go.Sort.ltStr zs).length=n:=by rw [← hd];simpa using hdn
  refine JW ?_
  refine AW.le (JcJ (L:= [(3,JT 1 JcK [] (JaA Go.Sort.ltStr zs))]) (bx:= []) (pm:= []) (nn:=1) [((0,s), .c (Jde JcK d' (List.replicate more .any)))] rfl rfl Sf .slnil ⟨?_,trivial⟩) ?_
  ·unfold JT
   rw [hln]
   refine Frz.hs1 (.head _) hcap (by rw [Jol];omega) (fun k _=> rfl) (fun k hk=> ?_)
   unfold Jde
   rw [List.getElem?_append_left (by simpa [hdn] using hk),List.getElem?_map,← hd]
   have:k < d'.size:=by omega
   simp [List.getD,this]
  ·refine stp ?_
   exact Jd rfl Rf
end Go.Proofs.W

namespace Go.Proofs.W
open Go.Vl
set_option maxRecDepth 100000
def J6 (s t:ByteArray):Bool:=s.toList ==t.toList
theorem Jb4 {s t:ByteArray}:J6 s t=true↔s=t:=by
 unfold J6
 rw [beq_iff_eq,Lib.toList_data,Lib.toList_data]
 constructor
 ·intro h
  obtain ⟨⟨a⟩⟩:=s
  obtain ⟨⟨b⟩⟩:=t
  simpa using h
 ·rintro rfl;rfl
def JaT:List (ByteArray×List Rul)→ByteArray→List Rul
 | [],_=> []
 | h::H,s=> if J6 s h.1 then h.2 else JaT H s
def Jdu:List (ByteArray×List Rul)→ByteArray→Rul→List (ByteArray×List Rul)
 | [],s,n=> [(s, [n])]
 | h::H,s,n=> if J6 s h.1 then (h.1,h.2++ [n])::H else h::Jdu H s n
def Jdi (H:List (ByteArray×List Rul)) (r:Rul):List (ByteArray×List Rul):=
 match JaF r with
 | none=> H
 | some n=> if Jdm (JaT H r.name) n then H else Jdu H r.name n
def Jaa (rs:List Rul):List (ByteArray×List Rul):=rs.foldl Jdi []
theorem Jnq {rs:List Rul} {i:Nat} (h:i < rs.length):Jaa (rs.take (i+1))=Jdi (Jaa (rs.take i)) (rs.getD i Jl):=by
 unfold Jaa;rw [Jb0 Jl h,List.foldl_append];rfl
def Ja9 (R:List Rul) (k:Nat):AV:=Jap (R.getD k Jl)
abbrev Grp:=ByteArray×List Rul×Nat
def gE (g:Grp):Value×AV:=(.string g.1, .os 4 g.2.1.length (Ja9 g.2.1) (some (g.2.2,g.2.2)))
def gF (g:Grp):Value×AV:=(.string g.1,Ji g.2.1)
def gP (g:Grp):Vl.Id×Nat:=((g.2.2,g.2.2),g.2.1.length * 4)
def Jcc (G:List Grp):List (ByteArray×List Rul):=G.map fun g=> (g.1,g.2.1)
theorem Jg8 (G:List Grp):Ja6 .string (G.map gE)=true:=by simp [Ja6,gE,JaU]
theorem Jyi (G:List Grp):Ja6 .string (G.map gF)=true:=by simp [Ja6,gF,JaU]
theorem JkO {s:ByteArray} {e:Grp→Value×AV} (he:∀g,(e g).1= .string g.1):∀ {G:List Grp},(∀g∈G,J6 s g.1=false)→Jbg (.string s) (G.map e)=none
 | [],_=> rfl
 | g::G,h=> by
   have h0:(s.toList ==g.1.toList)=false:=h g (.head _)
   show (bif Jdw (.string s) (e g).1 then _ else Jbg (.string s) (G.map e))=none
   rw [he g]
   show (bif s.toList ==g.1.toList then _ else Jbg (.string s) (G.map e))=none
   rw [h0]
   exact JkO he fun g' hg=> h g' (.tail _ hg)
theorem JjP {s:ByteArray} {e:Grp→Value×AV} (he:∀g,(e g).1= .string g.1) {l:List Rul} {st:Nat} {G2:List Grp}:∀ {G1:List Grp},(∀g∈G1,J6 s g.1=false)→Jbg (.string s) ((G1++(s,l,st)::G2).map e)=some (e (s,l,st)).2
 | [],_=> by
   show (bif Jdw (.string s) (e (s,l,st)).1 then _ else _)=_
   rw [he]
   show (bif s.toList ==s.toList then _ else _)=_
   rw [beq_self_eq_true];rfl
 | g::G,h=> by
   have h0:(s.toList ==g.1.toList)=false:=h g (.head _)
   show (bif Jdw (.string s) (e g).1 then _ else Jbg (.string s) ((G++(s,l,st)::G2).map e))=_
   rw [he g]
   show (bif s.toList ==g.1.toList then _ else _)=_
   rw [h0]
   exact JjP he fun g' hg=> h g' (.tail _ hg)
theorem Jet {s:ByteArray} {v:AV}:∀ {G:List Grp},(∀g∈G,J6 s g.1=false)→JcV (.string s) v (G.map gE)=G.map gE++ [(.string s,v)]
 | [],_=> rfl
 | g::G,h=> by
   have h0:(s.toList ==g.1.toList)=false:=h g (.head _)
   show (bif s.toList ==g.1.toList then _ else gE g::JcV (.string s) v (G.map gE))=_
   rw [h0,Jet fun g' hg=> h g' (.tail _ hg)];rfl
theorem JqL {s:ByteArray} {v:AV} {l:List Rul} {st:Nat} {G2:List Grp}:∀ {G1:List Grp},(∀g∈G1,J6 s g.1=false)→JcV (.string s) v ((G1++(s,l,st)::G2).map gE)=G1.map gE++(.string s,v)::G2.map gE
 | [],_=> by
   show (bif s.toList ==s.toList then _ else _)=_
   rw [beq_self_eq_true];rfl
 | g::G,h=> by
   have h0:(s.toList ==g.1.toList)=false:=h g (.head _)
   show (bif s.toList ==g.1.toList then _ else gE g::JcV (.string s) v ((G++(s,l,st)::G2).map gE))=_
   rw [h0,JqL fun g' hg=> h g' (.tail _ hg)];rfl
theorem JmA {s:ByteArray}:∀ {G:List Grp},(∀g∈G,J6 s g.1=false)→JaT (Jcc G) s= []
 | [],_=> rfl
 | g::G,h=> by
   show (if J6 s g.1=true then _ else JaT (Jcc G) s)=_
   rw [if_neg (by rw [h g (.head _)];decide)]
   exact JmA fun g' hg=> h g' (.tail _ hg)
theorem JlF {s:ByteArray} {l:List Rul} {st:Nat} {G2:List Grp}:∀ {G1:List Grp},(∀g∈G1,J6 s g.1=false)→JaT (Jcc (G1++(s,l,st)::G2)) s=l
 | [],_=> if_pos (Jb4.2 rfl)
 | g::G,h=> by
   show (if J6 s g.1=true then _ else JaT (Jcc (G++_)) s)=_
   rw [if_neg (by rw [h g (.head _)];decide)]
   exact JlF fun g' hg=> h g' (.tail _ hg)
theorem JmB {s:ByteArray} {n:Rul} {st:Nat}:∀ {G:List Grp},(∀g∈G,J6 s g.1=false)→Jdu (Jcc G) s n=Jcc (G++ [(s, [n],st)])
 | [],_=> rfl
 | g::G,h=> by
   show (if J6 s g.1=true then _ else _::Jdu (Jcc G) s n)=_
   rw [if_neg (by rw [h g (.head _)];decide),JmB (st:=st) fun g' hg=> h g' (.tail _ hg)];rfl
theorem JqM {s:ByteArray} {n:Rul} {l:List Rul} {st st':Nat} {G2:List Grp}:∀ {G1:List Grp},(∀g∈G1,J6 s g.1=false)→Jdu (Jcc (G1++(s,l,st)::G2)) s n=Jcc (G1++(s,l++ [n],st')::G2)
 | [],_=> if_pos (Jb4.2 rfl)
 | g::G,h=> by
   show (if J6 s g.1=true then _ else _::Jdu (Jcc (G++(s,l,st)::G2)) s n)=_
   rw [if_neg (by rw [h g (.head _)];decide),JqM (st':=st') fun g' hg=> h g' (.tail _ hg)];rfl
theorem Jih (s:ByteArray):∀(G:List Grp),(∀g∈G,J6 s g.1=false)∨∃G1 l st G2,G=G1++(s,l,st)::G2∧∀g∈G1,J6 s g.1=false
 | []=> .inl (by simp)
 | g::G=> by
   cases hk:J6 s g.1 with
   | true=>
     obtain ⟨t,l,st⟩:=g
     obtain rfl:s=t:=Jb4.1 hk
     exact .inr ⟨[],l,st,G,rfl,by simp⟩
   | false=>
     rcases Jih s G with h | ⟨G1,l,st,G2,rfl,h⟩
     ·exact .inl fun g' hg=> by rcases List.mem_cons.1 hg with rfl | hg;exact hk;exact h g' hg
     ·exact .inr ⟨g::G1,l,st,G2,rfl,fun g' hg=> by rcases List.mem_cons.1 hg with rfl | hg;exact hk;exact h g' hg⟩
theorem JkP {s:ByteArray} {l:List Rul} {st:Nat} {G2:List Grp}:∀ {G1:List Grp},((G1++(s,l,st)::G2).map (·.2.2)).Nodup→Jbc st ((G1++(s,l,st)::G2).map gP)=some (st,l.length * 4)
 | [],_=> by
   show (bif Nat.beq st st then _ else _)=_
   rw [Nat.beq_refl];rfl
 | g::G,h=> by
   simp only [List.cons_append,List.map_cons,List.nodup_cons] at h
   have h0:Nat.beq g.2.2 st=false:=by
    cases hb:Nat.beq g.2.2 st with
    | false=> rfl
    | true=> exact absurd (by simp [Nat.eq_of_beq_eq_true hb]) h.1
   show (bif Nat.beq g.2.2 st then _ else Jbc st ((G++(s,l,st)::G2).map gP))=_
   rw [h0]
   exact JkP h.2
theorem Jii {s:ByteArray} {l:List Rul} {st:Nat} {G2:List Grp}:∀ {G1:List Grp},((G1++(s,l,st)::G2).map (·.2.2)).Nodup→JbC st ((G1++(s,l,st)::G2).map gP)=(G1++G2).map gP
 | [],_=> by
   show (bif Nat.beq st st then _ else _)=_
   rw [Nat.beq_refl];rfl
 | g::G,h=> by
   simp only [List.cons_append,List.map_cons,List.nodup_cons] at h
   have h0:Nat.beq g.2.2 st=false:=by
    cases hb:Nat.beq g.2.2 st with
    | false=> rfl
    | true=> exact absurd (by simp [Nat.eq_of_beq_eq_true hb]) h.1
   show (bif Nat.beq g.2.2 st then _ else gP g::JbC st ((G++(s,l,st)::G2).map gP))=_
   rw [h0,Jii h.2];rfl
theorem MpLe.appK16:∀ {a b c d:List (Value×AV)},MpLe a b→MpLe c d→MpLe (a++c) (b++d)
 | [], [],_,_,_,h=> h
 | _::_,_::_,_,_,h,k=> ⟨h.1,h.2.1,MpLe.appK16 h.2.2 k⟩
 | [],_::_,_,_,h,_=> h.elim
 | _::_, [],_,_,h,_=> h.elim
theorem Jxd {s:ByteArray} {n:Rul} {st:Nat} {v:AV} {G:List Grp} (h:∀g∈G,J6 s g.1=false) (hv:AVle v (.os 4 1 (Ja9 [n]) (some (st,st)))):OwnLe (.mp (JcV (.string s) v (G.map gE))) (.mp ((G++ [(s, [n],st)]).map gE)):=by
 rw [Jet h,List.map_append]
 exact MpLe.appK16 (MpLe.refl _) ⟨rfl,hv,trivial⟩
theorem JyR {s:ByteArray} {l l':List Rul} {st st':Nat} {v:AV} {G1 G2:List Grp} (h:∀g∈G1,J6 s g.1=false) (hv:AVle v (.os 4 l'.length (Ja9 l') (some (st',st')))):OwnLe (.mp (JcV (.string s) v ((G1++(s,l,st)::G2).map gE))) (.mp ((G1++(s,l',st')::G2).map gE)):=by
 rw [JqL h,List.map_append]
 exact MpLe.appK16 (MpLe.refl _) ⟨rfl,hv,MpLe.refl _⟩
theorem Jug:∀(G:List Grp),MpLe (G.map gE) (G.map gF)
 | []=> trivial
 | g::G=> ⟨rfl,AVle.os_sl,Jug G⟩
theorem JvT {P:Program} {c:Code} {E:Env} {Q:AExit→Env→Prop} (h:(E.h.pm.map (·.1.2)).Nodup→AW P c E Q):AW P c E Q:=by
 have h2:=h
 unfold AW at h2⊢
 intro ro X M w0 a w g g0 hg hs
 refine h2 ?_ ro X M w0 a w g g0 hg hs
 have:=hs.hok.nodup
 unfold Heap.ids at this
 rw [List.map_append] at this
 have h3:=(List.nodup_append.1 this).2.1
 have:((E.h.pm.map (·.1.2)).map (fun i=> g[i]?)).Nodup:=h3
 exact (List.pairwise_map.1 this).imp fun h e=> h (congrArg (fun i=> g[i]?) e)
theorem JmC {E:Env} {n:Nat} {bx:List (Vl.Id×Own)} {pm pm':List (Vl.Id×Nat)} {nx nn:Nat} {L:List (Nat×AV)} (bx':List (Vl.Id×Own)) (hn:E.n=n) (hx:E.h.nx=nx) (hb:bx'.Sublist E.h.bx) (hp:E.h.pm=pm') (hq:(pm.map (fun p=> (p.1.2,p.2))).Perm (pm'.map (fun p=> (p.1.2,p.2))))
 (eb:BxLe bx' bx) (hL:LeT E.t L):ELe E (mk n L ⟨bx,pm,nx,nn⟩ E.df):=by
 subst hp
 refine ELe.trans (Jm (bx:=bx) (pm:=E.h.pm) (nn:=nn) (L:=L) bx' E.h.pm hn hx hb Sf eb Pf hL) ?_
 exact Jf8 (E:=mk n L ⟨bx,E.h.pm,nx,nn⟩ E.df) (h':=⟨bx,pm,nx,nn⟩) ⟨.refl _,hq,rfl⟩
theorem JqN {L:List Rul} {c:Rul} {f':Nat→AV} {i j:Vl.Id} (hf:f' 0=Jap c:=by rfl) (h:i.2=j.2:=by rfl):AVle (.os 4 (L.length+1) (JcP L.length (Ja9 L) f') (some i)) (.os 4 (L++ [c]).length (Ja9 (L++ [c])) (some j)):=by
 rw [List.length_append]
 refine (AVle.os_fun (Jb8 (fun k hk=> ?_) ?_)).trans (AVle.os_nm h)
 ·simp [Ja9,List.getD,List.getElem?_append_left hk,hk]
 ·rw [hf];simp [Ja9,List.getD]
end Go.Proofs.W

namespace Go.Proofs.W
open Go.Vl
set_option maxRecDepth 100000
def JcB (d:A2) (l:List Rul):List Rul:=(l.reverse.dropWhile fun r=> decide (r.act=d)).reverse
def Jc2 (H:List (ByteArray×List Rul)):List (List UInt8):=JaA Go.Sort.ltStr (H.map fun h=> h.1.data.toList)
def JfD (d:A2) (H:List (ByteArray×List Rul)) (N:List (List UInt8)):List Rul:=N.flatMap fun nm=> JcB d (JaT H ⟨nm.toArray⟩)
def Jc (p:Pol):Pol:=⟨p.dflt,p.x32,JfD p.dflt (Jaa p.rules) (Jc2 (Jaa p.rules))⟩
def Jzb:Pol:=⟨(0,0),false, []⟩
def JnE (p:Pol):AV:=if JaJ p then .tup [JbR (Jc p),int 0] else .tup [JbR Jzb,int 13]
theorem JmD {d:A2} {l:List Rul} {r:Rul}:JcB d (l++ [r])=if r.act=d then JcB d l else l++ [r]:=by
 unfold JcB
 rw [List.reverse_append]
 show (List.dropWhile _ (r::l.reverse)).reverse=_
 by_cases h:r.act=d
 ·rw [List.dropWhile_cons,if_pos (by simpa using h),if_pos h]
 ·rw [List.dropWhile_cons,if_neg (by simpa using h),if_neg h];simp
theorem JmE {l:List Rul} {m:Nat} (h0:0 < m) (h:m≤l.length):l.take m=l.take (m - 1)++ [l.getD (m - 1) Jl]:=by
 obtain ⟨k,rfl⟩:∃k,m=k+1:=⟨m - 1,by omega⟩
 exact Jb0 Jl Om
def Jef:List AV:= [int 0,int 0,Jb false, .os 0 0 (fun _=> .any) none]
def JfE (p:Pol):List AV:= [int p.dflt.1,int p.dflt.2,Jb p.x32,Ji p.rules]
theorem JbA {p:Pol} (h:JaJ p=true):p.rules.length≤500∧∀r∈p.rules,r.conds.length≤6:=by
 unfold JaJ at h
 simp only [Bool.and_eq_true,decide_eq_true_eq,Bool.not_eq_true',List.any_eq_false] at h
 refine ⟨h.2.1,fun r hr=> ?_⟩
 have:Jax r=true:=by have:=h.2.2 r hr;simpa using this
 unfold Jax at this
 simp only [Bool.and_eq_true,decide_eq_true_eq] at this
 exact this.2.2.1
theorem Jbv {r n:Rul} (h:JaF r=some n):n.conds.length≤r.conds.length∧n.name=r.name∧n.act=r.act:=by
 unfold JaF at h
 split at h
 ·cases h
 ·cases h
  exact ⟨Nat.le_trans (Jsi _ _) (JoY _),rfl,rfl⟩
theorem Jg9:Jbm Tryz.prog 123=true:=by kernel_rfl
theorem gc_rul:Tryz.prog.cellsOf 123=4:=by kernel_rfl
theorem Jha:Tryz.prog.bytesOf 123=56:=by kernel_rfl
theorem Jxe {s:ByteArray} {l:List Rul} {n:Rul} {st st' nm:Nat} {G1 G2:List Grp} (hnd:((G1++(s,l,st)::G2).map (·.2.2)).Nodup):
 (((G1++(s,l++ [n],st')::G2).map gP).map (fun p=> (p.1.2,p.2))).Perm ((((nm,st'),(l.length+1) * Tryz.prog.cellsOf 123)::JbC st ((G1++(s,l,st)::G2).map gP)).map (fun p=> (p.1.2,p.2))):=by
 rw [Jii hnd,gc_rul,List.map_append,List.map_cons,List.map_append,List.map_append,List.map_cons,List.map_cons,List.map_append]
 refine List.perm_middle.trans (.of_eq ?_)
 simp [gP]
theorem JiP (r:Rul):(Jap r).cells.all Jcb=true:=rfl
theorem JiQ {R l:List Rul} {m:Nat} {i j:Vl.Id} (hm:m≤l.length) (h:i.2=j.2):AVle (.os 4 (R.length+m) (JcP R.length (Ja9 R) (Ja9 l)) (some i)) (.os 4 (R++l.take m).length (Ja9 (R++l.take m)) (some j)):=by
 rw [List.length_append,List.length_take,Nat.min_eq_left hm]
 refine (AVle.os_fun (fun k hk=> ?_)).trans (AVle.os_nm h)
 unfold JcP
 by_cases hk2:k < R.length
 ·rw [show Nat.blt k R.length=true from Nat.ble_eq_true_of_le hk2]
  simp [Ja9,List.getD,List.getElem?_append_left hk2]
 ·rw [show Nat.blt k R.length=false from by cases hb:Nat.blt k R.length with | false=> rfl | true=> exact absurd (Nat.le_of_ble_eq_true hb) Om]
  simp only [Ja9,List.getD,cond_false]
  rw [List.getElem?_append_right Om,List.getElem?_take,if_pos Om]
theorem Jfv {a b c d:List Rul} (h:a=b) (k:c=d):a++c=b++d:=by rw [h,k]
theorem Jck {a b:AV} {K:AV→Prop} (h:a=b) (hk:Jcr b K):Jcr a K:=h ▸ hk
set_option maxHeartbeats 8000000 in
theorem Jnr (p:Pol) (hp:p.ok):Tells Tryz.prog 45 [JbR p] (JnE p):=by
 have hr:=Jjg p hp
 cases hb:JaJ p with
 | false=>
   rw [hb] at hr
   unfold JnE
   rw [hb,if_neg Dc]
   refine Jf Tryz.func45 rfl rfl fun nx=> ?_
   refine stp ?_
   refine Je rfl rfl hr ⟨Rf,trivial⟩ fun nx2=> ?_
   refine stp ?_
   exact Jj rfl ⟨rfl,trivial⟩ (AVle.tups (cs:= [_,_]) ⟨AVle.ags (cs:= [_,_,_,_]) ⟨Rf,Rf,Rf,AVle.os_sl0,trivial⟩,Rf,trivial⟩)
 | true=>
   rw [hb] at hr
   obtain ⟨hl,hc6⟩:=JbA hb
   unfold JnE
   rw [hb,if_pos rfl]
   refine Jf Tryz.func45 rfl rfl fun nx=> ?_
   refine stp ?_
   refine Je rfl rfl hr ⟨Rf,trivial⟩ fun nx2=> ?_
   refine stp ?_
   refine Jx (fun y:Nat×List Grp×Nat=> mk 94 [(1, .bp (0,nx) 0),(2, .bp (1,nx+1) 0),(4, .om (2,nx2)),(19,Ji p.rules),(20,int p.rules.length),(21,int y.1)] ⟨[((2,nx2), .mp (y.2.1.map gE)),((1,nx+1), .c Jef),((0,nx), .c (JfE p))],y.2.1.map gP,y.2.2,3⟩)
    (fun y=> y.1≤p.rules.length∧Jcc y.2.1=Jaa (p.rules.take y.1)∧y.2.1.length≤y.1∧∀g∈y.2.1,g.2.1.length≤y.1∧∀r∈g.2.1,r.conds.length≤6) (fun y=> p.rules.length - y.1) ?_ ?_
   ·exact ⟨(0, [],nx2+1),⟨Nat.zero_le _,rfl,Nat.le_refl _,by simp⟩,Et rfl rfl Bf trivial ⟨Rf,Rf,Rf,Rf,Rf,Rf,trivial⟩⟩
   ·rintro ⟨i,G,nx3⟩ ⟨h1,h2,h3,h4⟩
    dsimp only at h1 h2 h3 h4
    refine stp ?_
    intro c g;cases c
    ·have g:=Jt g
     try dsimp only at g
     have hi:i=p.rules.length:=by omega
     subst hi
     rw [List.take_length] at h2
     refine JW ?_
     refine AW.le (E':=mk 94 [(1, .bp (0,nx) 0),(2, .bp (1,nx+1) 0),(4, .om (2,nx2))] ⟨[((2,nx2), .mp (G.map gF)),((1,nx+1), .c Jef),((0,nx), .c (JfE p))], [],nx3,3⟩) (Jm _ [] rfl rfl Sf (List.nil_sublist _) ⟨rfl,Jug G,Bf⟩ trivial ⟨Rf,Rf,Rf,trivial⟩) ?_
     refine JbD (n:=94) (nx:=nx3) (nn:=3) (pm:= []) (bx:= [((1,nx+1), .c Jef),((0,nx), .c (JfE p))]) (L:= [(1, .bp (0,nx) 0),(2, .bp (1,nx+1) 0),(4, .fm (G.map gF))]) (df:=some []) [((2,nx2), .mp (G.map gF))] rfl rfl rfl (.refl _) Sf ⟨Frz.refl _,Frz.refl _,Frz.om (.head _),trivial⟩ ?_
     have hzs:(G.map gF).map (·.1)=(G.map fun g:Grp=> g.1.data.toList).map encStr:=by
      rw [List.map_map,List.map_map];rfl
     have hsort:=Jnp (G.map gF) (G.map fun g:Grp=> g.1.data.toList) hzs (by rw [List.length_map];omega)
     have hkeys:Jc2 (Jaa p.rules)=JaA Go.Sort.ltStr (G.map fun g:Grp=> g.1.data.toList):=by
      rw [← h2];unfold Jc2 Jcc;rw [List.map_map];rfl
     have hNl:(JaA Go.Sort.ltStr (G.map fun g:Grp=> g.1.data.toList)).length≤500:=by rw [JbE,List.length_map];omega
     have hNm:∀z,z∈JaA Go.Sort.ltStr (G.map fun g:Grp=> g.1.data.toList)→∃g∈G,g.1.data.toList=z:=fun z hz=> by
      rw [Jhv] at hz
      obtain ⟨g,hg,h⟩:=List.mem_map.1 hz
      exact ⟨g,hg,h⟩
     unfold Jc
     rw [hkeys,← h2]
     generalize JaA Go.Sort.ltStr (G.map fun g:Grp=> g.1.data.toList)=N at hsort hNl hNm⊢
     refine stp ?_
     intro c hc
     subst hc
     refine stp ?_
     refine Je rfl rfl (JkL (G.map gF)) ⟨Rf,trivial⟩ fun nx4=> ?_
     refine stp ?_
     refine Je rfl rfl hsort ⟨Rf,trivial⟩ fun nx5=> ?_
     refine stp ?_
     refine Jx (fun y:Nat×List Rul×Option Nat×Nat=> mk 94 [(1, .bp (0,nx) 0),(2, .bp (1,nx+1) 0),(4, .fm (G.map gF)),(9, .bp (3,nx3) 0),(58,JT 1 JcK [] N),(59,int N.length),(60,int y.1)] ⟨[((3,nx3), .c [int p.dflt.1,int p.dflt.2,Jb p.x32, .os 4 y.2.1.length (Ja9 y.2.1) (nmd y.2.2.1)]),((1,nx+1), .c Jef),((0,nx), .c (JfE p))],JbH (nmd y.2.2.1) (y.2.1.length * 4),y.2.2.2,4⟩)
      (fun y=> y.1≤N.length∧(y.2.2.1=none→y.2.1= [])∧y.2.1=JfD p.dflt (Jcc G) (N.take y.1)∧y.2.1.length≤y.1 * 500) (fun y=> N.length - y.1) ?_ ?_
     ·exact ⟨(0, [],none,nx5),⟨Nat.zero_le _,fun _=> rfl,rfl,Nat.zero_le _⟩,Et (pm:= []) (bx:= [((3,nx3), .c [int p.dflt.1,int p.dflt.2,Jb p.x32, .os 4 0 (Ja9 []) none]),((1,nx+1), .c Jef),((0,nx), .c (JfE p))]) rfl rfl ⟨rfl,⟨Rf,Rf,Rf,AVle.os_nil,trivial⟩,Bf⟩ trivial ⟨Rf,Rf,Rf,Rf,Rf,Rf,Rf,trivial⟩⟩
     ·rintro ⟨j,R,oi,nx6⟩ ⟨k1,k2,k3,k4⟩
      dsimp only at k1 k2 k3 k4
      refine stp ?_
      intro c gg;cases c
      ·have gg:=Jt gg
       try dsimp only at gg
       have hj:j=N.length:=by omega
       subst hj
       rw [List.take_length] at k3
       rw [← k3]
       refine stp ?_
       exact Jj rfl ⟨rfl,trivial⟩ (AVle.tups (cs:= [_,_]) ⟨AVle.ags (cs:= [_,_,_,_]) ⟨Rf,Rf,Rf,AVle.os_sl,trivial⟩,Rf,trivial⟩)
      ·have gg:=Ju gg
       try dsimp only at gg
       have hj:j < N.length:=by omega
       have hNj:N.getD j []∈N:=by simp [List.getD,hj]
       rcases Jih ⟨(N.getD j []).toArray⟩ G with hno | ⟨G1,l,st,G2,hG,hno⟩
       ·exfalso
        obtain ⟨g,hg,hge⟩:=hNm _ hNj
        have:=hno g hg
        rw [Bool.eq_false_iff] at this
        exact this (Jb4.2 (by rw [← hge]))
       have hlk:=JjP (e:=gF) (fun _=> rfl) (l:=l) (st:=st) (G2:=G2) hno
       have hgl:=(h4 (⟨(N.getD j []).toArray⟩,l,st) (by rw [hG];simp)).1
       dsimp only at hgl
       have hgg:JaT (Jcc G) ⟨(N.getD j []).toArray⟩=l:=by rw [hG];exact JlF hno
       have hout:JfD p.dflt (Jcc G) (N.take (j+1))=JfD p.dflt (Jcc G) (N.take j)++JcB p.dflt l:=by
        unfold JfD
        rw [Jb0 [] hj,List.flatMap_append]
        simp only [List.flatMap_cons,List.flatMap_nil,List.append_nil]
        rw [hgg]
       rw [← hG] at hlk
       refine stp ?_
       refine ⟨Bd, ?_⟩
       refine JbI ?_
       refine ⟨Jyi G,Jr (b:=Ji l) (congrArg (fun o:Option AV=> o.getD (.os 0 0 (fun _=> .any) none)) hlk) ?_⟩
       refine JbI ?_
       refine Jx (fun y:Nat×Nat=> mk 94 [(1, .bp (0,nx) 0),(2, .bp (1,nx+1) 0),(4, .fm (G.map gF)),(9, .bp (3,nx3) 0),(58,JT 1 JcK [] N),(59,int N.length),(60,int j),(12, .sl 4 y.1 (Ja9 l))] ⟨[((3,nx3), .c [int p.dflt.1,int p.dflt.2,Jb p.x32, .os 4 R.length (Ja9 R) (nmd oi)]),((1,nx+1), .c Jef),((0,nx), .c (JfE p))],JbH (nmd oi) (R.length * 4),nx6,4⟩)
        (fun y=> y.1≤l.length∧JcB p.dflt l=JcB p.dflt (l.take y.1)) (fun y=> y.1) ?_ ?_
       ·exact ⟨(l.length,0),⟨Nat.le_refl _,by rw [List.take_length]⟩,Et rfl rfl Bf Pf ⟨Rf,Rf,Rf,Rf,Rf,Rf,Rf,Rf,trivial⟩⟩
       ·rintro ⟨m,zz⟩ ⟨hml,hcut⟩
        dsimp only at hml hcut
        have hlm:(l.take m).length=m:=by rw [List.length_take];omega
        by_cases hm0:0 < m
        ·have hd:decide ((m:Int) > 0)=true:=decide_eq_true Om
         have hm1:IntKind.i64.wrap ((m:Int) - 1)=((m - 1:Nat):Int):=by rw [Jai Om Om];omega
         rw [JmE hm0 hml,JmD] at hcut
         refine stp ?_
         (refine JY 15 ?_ ?_ ?_ ?_;(· kernel_rfl);(· kernel_rfl);(· kernel_rfl))
         refine stp ?_
         (conv=> whnf)
         refine Jfq hd ?_
         refine stp ?_
         refine ⟨⟨Jdp (i:=m - 1) hm1,JdE (i:=m - 1) hm1 Om⟩,Jr (b:= .rp (Jap (l.getD (m - 1) Jl)).cells) (congrArg (fun z:Int=> AV.rp (Ja9 l z.toNat).cells) hm1) ?_⟩
         refine stp ?_
         intro c hc
         have hc2:c=decide ((l.getD (m - 1) Jl).act=p.dflt):=hc.trans Jw1
         clear hc
         cases c
         ·have hne:¬(l.getD (m - 1) Jl).act=p.dflt:=of_decide_eq_false hc2.symm
          rw [if_neg hne,← JmE hm0 hml] at hcut
          have hct:=hcut
          clear hc2
          refine JW ?_
          refine JU (fun i=> match i with | 0=> true | _=> false) 4 ?_
          refine stp ?_
          rcases oi with _ | o1
          ·obtain rfl:=k2 rfl
           refine AOp.any (JcH (e:=123) (n:=0) (oi:=none) (sz:=4) (f:=Ja9 []) (m:=m) (szx:=4) (f':=Ja9 l) rfl rfl (.inl rfl) Tryz.underlying45 Jg9 (.inl ⟨rfl,rfl⟩) (.inr gc_rul.symm) (fun i h=> by cases h) (fun k _=> JiP _) (fun _=> by rw [Jha];omega) (fun _=> by omega) (fun hm=> ?_) (fun hm=> ?_))
           ·subst hm
            refine stp ?_
            exact back (j+1, [],none,nx6) ⟨hj,fun _=> rfl,by rw [hout];exact (List.append_nil _).symm.trans (Jfv k3 hct.symm),by dsimp only;omega⟩ Dm (Et rfl rfl Bf trivial ⟨Rf,Rf,Rf,Rf,Rf,Rf,Lw,trivial⟩)
           ·refine stp ?_
            exact back (j+1,l.take m,some nx6,nx6+1) ⟨hj,(fun h=> by cases h),by rw [hout];exact Jfv k3 hct.symm,by dsimp only;rw [hlm];omega⟩ Dm (Et (pm:= [((0,nx6),(l.take m).length * 4)]) (bx:= [((3,nx3), .c [int p.dflt.1,int p.dflt.2,Jb p.x32, .os 4 (l.take m).length (Ja9 (l.take m)) (some (0,nx6))]),((1,nx+1), .c Jef),((0,nx), .c (JfE p))]) rfl rfl ⟨rfl,⟨Rf,Rf,Rf,JiQ (R:= []) hml rfl,trivial⟩,Bf⟩ ⟨rfl,show (0+m) * Tryz.prog.cellsOf 123=(l.take m).length * 4 by rw [hlm,gc_rul,Nat.zero_add],trivial⟩ ⟨Rf,Rf,Rf,Rf,Rf,Rf,Lw,trivial⟩)
          ·refine AOp.any (JcH (e:=123) (n:=R.length) (oi:=some (0,o1)) (sz:=4) (f:=Ja9 R) (m:=m) (szx:=4) (f':=Ja9 l) rfl rfl (.inl rfl) Tryz.underlying45 Jg9 (.inr gc_rul.symm) (.inr gc_rul.symm) (fun i h=> by cases h;rw [gc_rul];rfl) (fun k _=> JiP _) (fun _=> by rw [Jha];omega) (fun _=> by omega) (fun hm=> ?_) (fun hm=> ?_))
           ·subst hm
            refine stp ?_
            exact back (j+1,R,some o1,nx6) ⟨hj,(fun h=> by cases h),by rw [hout];exact (List.append_nil _).symm.trans (Jfv k3 hct.symm),by dsimp only;omega⟩ Dm (Et rfl rfl Bf Pf ⟨Rf,Rf,Rf,Rf,Rf,Rf,Lw,trivial⟩)
           ·refine stp ?_
            exact back (j+1,R++l.take m,some nx6,nx6+1) ⟨hj,(fun h=> by cases h),by rw [hout];exact Jfv k3 hct.symm,by dsimp only;rw [List.length_append,hlm];omega⟩ Dm (Et (pm:= [((0,nx6),(R++l.take m).length * 4)]) (bx:= [((3,nx3), .c [int p.dflt.1,int p.dflt.2,Jb p.x32, .os 4 (R++l.take m).length (Ja9 (R++l.take m)) (some (0,nx6))]),((1,nx+1), .c Jef),((0,nx), .c (JfE p))]) rfl rfl ⟨rfl,⟨Rf,Rf,Rf,JiQ hml rfl,trivial⟩,Bf⟩ ⟨rfl,by rw [List.length_append,hlm,gc_rul],trivial⟩ ⟨Rf,Rf,Rf,Rf,Rf,Rf,Lw,trivial⟩)
         ·have heq:(l.getD (m - 1) Jl).act=p.dflt:=of_decide_eq_true hc2.symm
          rw [if_pos heq] at hcut
          clear hc2
          refine stp ?_
          refine ⟨⟨Jdp (i:=m - 1) hm1,Int.le_of_lt (JdE (i:=m - 1) hm1 Om)⟩, ?_⟩
          refine stp ?_
          exact back (m - 1,0) ⟨by dsimp only;omega,hcut⟩ Dm (Et rfl rfl Bf Pf ⟨Rf,Rf,Rf,Rf,Rf,Rf,Rf,AVle.of_eq (congrArg (fun z:Int=> AV.sl 4 z.toNat (Ja9 l)) hm1),trivial⟩)
        ·have hd:decide ((m:Int) > 0)=false:=decide_eq_false Om
         have hm00:m=0:=by omega
         have hct:JcB p.dflt l=l.take m:=by rw [hcut,hm00];rfl
         refine stp ?_
         (refine JY 15 ?_ ?_ ?_ ?_;(· kernel_rfl);(· kernel_rfl);(· kernel_rfl))
         refine stp ?_
         (conv=> whnf)
         refine Jfq hd ?_
         refine JW ?_
         refine JU (fun i=> match i with | 0=> true | _=> false) 4 ?_
         refine stp ?_
         rcases oi with _ | o1
         ·obtain rfl:=k2 rfl
          refine AOp.any (JcH (e:=123) (n:=0) (oi:=none) (sz:=4) (f:=Ja9 []) (m:=m) (szx:=4) (f':=Ja9 l) rfl rfl (.inl rfl) Tryz.underlying45 Jg9 (.inl ⟨rfl,rfl⟩) (.inr gc_rul.symm) (fun i h=> by cases h) (fun k _=> JiP _) (fun _=> by rw [Jha];omega) (fun _=> by omega) (fun hm=> ?_) (fun hm=> ?_))
          ·subst hm
           refine stp ?_
           exact back (j+1, [],none,nx6) ⟨hj,fun _=> rfl,by rw [hout];exact (List.append_nil _).symm.trans (Jfv k3 hct.symm),by dsimp only;omega⟩ Dm (Et rfl rfl Bf trivial ⟨Rf,Rf,Rf,Rf,Rf,Rf,Lw,trivial⟩)
          ·refine stp ?_
           exact back (j+1,l.take m,some nx6,nx6+1) ⟨hj,(fun h=> by cases h),by rw [hout];exact Jfv k3 hct.symm,by dsimp only;rw [hlm];omega⟩ Dm (Et (pm:= [((0,nx6),(l.take m).length * 4)]) (bx:= [((3,nx3), .c [int p.dflt.1,int p.dflt.2,Jb p.x32, .os 4 (l.take m).length (Ja9 (l.take m)) (some (0,nx6))]),((1,nx+1), .c Jef),((0,nx), .c (JfE p))]) rfl rfl ⟨rfl,⟨Rf,Rf,Rf,JiQ (R:= []) hml rfl,trivial⟩,Bf⟩ ⟨rfl,show (0+m) * Tryz.prog.cellsOf 123=(l.take m).length * 4 by rw [hlm,gc_rul,Nat.zero_add],trivial⟩ ⟨Rf,Rf,Rf,Rf,Rf,Rf,Lw,trivial⟩)
         ·refine AOp.any (JcH (e:=123) (n:=R.length) (oi:=some (0,o1)) (sz:=4) (f:=Ja9 R) (m:=m) (szx:=4) (f':=Ja9 l) rfl rfl (.inl rfl) Tryz.underlying45 Jg9 (.inr gc_rul.symm) (.inr gc_rul.symm) (fun i h=> by cases h;rw [gc_rul];rfl) (fun k _=> JiP _) (fun _=> by rw [Jha];omega) (fun _=> by omega) (fun hm=> ?_) (fun hm=> ?_))
          ·subst hm
           refine stp ?_
           exact back (j+1,R,some o1,nx6) ⟨hj,(fun h=> by cases h),by rw [hout];exact (List.append_nil _).symm.trans (Jfv k3 hct.symm),by dsimp only;omega⟩ Dm (Et rfl rfl Bf Pf ⟨Rf,Rf,Rf,Rf,Rf,Rf,Lw,trivial⟩)
          ·refine stp ?_
           exact back (j+1,R++l.take m,some nx6,nx6+1) ⟨hj,(fun h=> by cases h),by rw [hout];exact Jfv k3 hct.symm,by dsimp only;rw [List.length_append,hlm];omega⟩ Dm (Et (pm:= [((0,nx6),(R++l.take m).length * 4)]) (bx:= [((3,nx3), .c [int p.dflt.1,int p.dflt.2,Jb p.x32, .os 4 (R++l.take m).length (Ja9 (R++l.take m)) (some (0,nx6))]),((1,nx+1), .c Jef),((0,nx), .c (JfE p))]) rfl rfl ⟨rfl,⟨Rf,Rf,Rf,JiQ hml rfl,trivial⟩,Bf⟩ ⟨rfl,by rw [List.length_append,hlm,gc_rul],trivial⟩ ⟨Rf,Rf,Rf,Rf,Rf,Rf,Lw,trivial⟩)
    ·have g:=Ju g
     try dsimp only at g
     have hi:i < p.rules.length:=by omega
     have hmem:p.rules.getD i Jl∈p.rules:=by simp [List.getD,hi]
     have hrs:=Jqd (p.rules.getD i Jl) (hp.2 _ hmem).2.2 (by have:=hc6 _ hmem;omega)
     have hgn:=Jnq hi
     have hnl:=hc6 _ hmem
     rw [← h2] at hgn
     refine JvT fun hnd=> ?_
     have hnd:(G.map (·.2.2)).Nodup:=by
      have:((G.map gP).map (·.1.2)).Nodup:=hnd
      rwa [List.map_map] at this
     refine stp ?_
     refine ⟨Bd, ?_⟩
     refine stp ?_
     cases hN:JaF (p.rules.getD i Jl) with
     | none=>
       rw [hN] at hrs
       have hgn:Jaa (p.rules.take (i+1))=Jcc G:=by rw [hgn];unfold Jdi;rw [hN]
       refine Je rfl rfl hrs ⟨Rf,trivial⟩ fun nx4=> ?_
       refine stp ?_
       exact back (i+1,G,nx4+1) ⟨hi,hgn.symm,by dsimp only;omega,fun g hg=> ⟨by have:=(h4 g hg).1;dsimp only;omega,(h4 g hg).2⟩⟩ Dm (Jm _ _ rfl rfl (.cons _ (.cons _ Sf)) Sf Bf Pf ⟨Rf,Rf,Rf,Rf,Rf,Lw,trivial⟩)
     | some n=>
       rw [hN] at hrs
       obtain ⟨hn1,hn2,hn3⟩:=Jbv hN
       rcases Jih (p.rules.getD i Jl).name G with hno | ⟨G1,l,st,G2,hG,hno⟩
       ·have hgn:Jaa (p.rules.take (i+1))=Jdu (Jcc G) (p.rules.getD i Jl).name n:=by
         rw [hgn];unfold Jdi;rw [hN]
         dsimp only
         rw [JmA hno];rfl
        have hlk:=JkO (e:=gE) (fun _=> rfl) hno
        have hhd:=Jjl [] n Dc (by simp)
        refine Je rfl rfl hrs ⟨Rf,trivial⟩ fun nx4=> ?_
        refine JbI ?_
        refine ⟨⟨rfl,Jg8 G⟩,Jr (b:= .os 0 0 (fun _=> .any) none) (congrArg (fun o:Option AV=> o.getD (.os 0 0 (fun _=> .any) none)) hlk) ?_⟩
        refine JbI ?_
        refine Jr (b:=Jap n) rfl ?_
        refine JbI ?_
        refine Je rfl rfl hhd ⟨AVle.os_sl0,Rf,trivial⟩ fun nx5=> ?_
        intro c hc
        have hc2:c=false:=hc
        clear hc;subst hc2
        refine JbI ?_
        refine J1 10 _ (fun i=> match i with | 9=> true | _=> false) (fun i=> match i with | 6=> true | _=> false) [0,1,2,3,4,5,6,7,8,9] (by kernel_rfl) (by kernel_rfl) (HB.refl _) ?_
        refine JbI ?_
        refine ⟨Je8 (Jbg (.string (p.rules.getD i Jl).name) (G.map gE)) (.os 0 0 (fun _=> .any) none) false,Jho rfl (C:=some (nx2=nx2∧Ja6 .string (G.map gE)=true)) rfl ⟨rfl,Jg8 G⟩,Jck (b:= .os 0 0 (fun _=> .any) none) (congrArg (fun o:Option AV=> o.getD (.os 0 0 (fun _=> .any) none)) hlk) ?_⟩
        refine JbI ?_
        refine Jck (b:=Jap n) rfl ?_
        refine JbI ?_
        refine ⟨_,Jkh (e:=123) (n:=0) (oi:=none) (sz:=0) (f:=fun _=> .any) (m:=1) (szx:=4) (HB.refl _) rfl rfl rfl (.inr ⟨_,rfl⟩) Tryz.underlying45 Jg9 (.inl ⟨rfl,rfl⟩) (.inr gc_rul.symm) (fun i h=> by cases h) (JC rfl) (fun _=> by rw [Jha];omega) (fun _=> by omega),fun r h' hr=> ?_⟩
        rcases hr with ⟨hr,-⟩ | ⟨-,rfl,rfl⟩
        ·exact absurd hr Dc
        refine JbI ?_
        refine ⟨⟨rfl,Jg8 G⟩, ?_⟩
        refine JbI ?_
        refine JeB ?_
        refine JbI ?_
        exact back (i+1,G++ [((p.rules.getD i Jl).name, [n],nx5)],nx5+1) ⟨hi,(hgn.trans (JmB hno)).symm,by simp;omega,fun g hg=> by
         rcases List.mem_append.1 hg with hg | hg
         ·exact ⟨by have:=(h4 g hg).1;dsimp only;omega,(h4 g hg).2⟩
         ·rw [List.mem_singleton.1 hg]
          exact ⟨by simp, fun r hr => by rw [List.mem_singleton.1 hr]; omega⟩⟩ Dm (JmC (bx := [((2, nx2), .mp ((G ++ [((p.rules.getD i Jl).name, [n], nx5)]).map gE)), ((1, nx + 1), .c Jef), ((0, nx), .c (JfE p))]) _ rfl rfl (.cons _ (.cons _ Sf)) rfl (by rw [List.map_append]; exact (List.perm_append_singleton _ _).map _ |>.trans (.of_eq (by rw [gc_rul]; rfl))) ⟨rfl, Jxd hno (JqN (L := [])), Bf⟩ ⟨Rf, Rf, Rf, Rf, Rf, Lw, trivial⟩)
       ·subst hG
        have hlk:=JjP (e:=gE) (fun _=> rfl) (l:=l) (st:=st) (G2:=G2) hno
        have hgl:=h4 ((p.rules.getD i Jl).name,l,st) (by simp)
        dsimp only at hgl
        have hhd:=Jjl l n Om (fun r hr=> by have:=hgl.2 r hr;omega)
        have hgg:JaT (Jcc (G1++((p.rules.getD i Jl).name,l,st)::G2)) (p.rules.getD i Jl).name=l:=JlF hno
        unfold Jdi at hgn
        rw [hN] at hgn
        dsimp only at hgn
        rw [hgg] at hgn
        refine Je rfl rfl hrs ⟨Rf,trivial⟩ fun nx4=> ?_
        refine JbI ?_
        refine ⟨⟨rfl,Jg8 _⟩,Jr (b:= .os 4 l.length (Ja9 l) (some (st,st))) (congrArg (fun o:Option AV=> o.getD (.os 0 0 (fun _=> .any) none)) hlk) ?_⟩
        refine JbI ?_
        refine Jr (b:=Jap n) rfl ?_
        refine JbI ?_
        refine Je rfl rfl hhd ⟨AVle.os_sl,Rf,trivial⟩ fun nx5=> ?_
        intro c hh;cases c
        ·have hh:Jdm l n=false:=hh.symm
         rw [hh,if_neg Dc] at hgn
         refine JbI ?_
         refine J1 10 _ (fun i=> match i with | 9=> true | _=> false) (fun i=> match i with | 6=> true | _=> false) [0,1,2,3,4,5,6,7,8,9] (by kernel_rfl) (by kernel_rfl) (HB.refl _) ?_
         refine JbI ?_
         refine ⟨Je8 (Jbg (.string (p.rules.getD i Jl).name) ((G1++((p.rules.getD i Jl).name,l,st)::G2).map gE)) (.os 0 0 (fun _=> .any) none) false,Jho rfl (C:=some (nx2=nx2∧Ja6 .string ((G1++((p.rules.getD i Jl).name,l,st)::G2).map gE)=true)) rfl ⟨rfl,Jg8 _⟩,Jck (b:= .os 4 l.length (Ja9 l) (some (st,st))) (congrArg (fun o:Option AV=> o.getD (.os 0 0 (fun _=> .any) none)) hlk) ?_⟩
         refine JbI ?_
         refine Jck (b:=Jap n) rfl ?_
         refine JbI ?_
         refine ⟨_,Jkh (e:=123) (n:=l.length) (oi:=some (st,st)) (sz:=4) (f:=Ja9 l) (m:=1) (szx:=4) (HB.refl _) rfl rfl rfl (.inr ⟨_,rfl⟩) Tryz.underlying45 Jg9 (.inr gc_rul.symm) (.inr gc_rul.symm) (fun i h=> by cases h;rw [gc_rul];exact JkP hnd) (JC rfl) (fun _=> by rw [Jha];omega) (fun _=> by omega),fun r h' hr=> ?_⟩
         rcases hr with ⟨hr,-⟩ | ⟨-,rfl,rfl⟩
         ·exact absurd hr Dc
         refine JbI ?_
         refine ⟨⟨rfl,Jg8 _⟩, ?_⟩
         refine JbI ?_
         refine JeB ?_
         refine JbI ?_
         exact back (i+1,G1++((p.rules.getD i Jl).name,l++ [n],nx5)::G2,nx5+1) ⟨hi,(hgn.trans (JqM hno)).symm,by simp at h3⊢;omega,fun g hg=> by
          rcases List.mem_append.1 hg with hg | hg
          ·have:=h4 g (List.mem_append_left _ hg);exact ⟨by have:=this.1;dsimp only;omega,this.2⟩
          ·rcases List.mem_cons.1 hg with rfl | hg
           ·exact ⟨by simp;omega,fun r hr=> by
             rcases List.mem_append.1 hr with hr | hr
             ·exact hgl.2 r hr
             ·rw [List.mem_singleton.1 hr];omega⟩
           ·have:=h4 g (List.mem_append_right _ (.tail _ hg));exact ⟨by have:=this.1;dsimp only;omega,this.2⟩⟩ Dm (JmC (bx:= [((2,nx2), .mp ((G1++((p.rules.getD i Jl).name,l++ [n],nx5)::G2).map gE)),((1,nx+1), .c Jef),((0,nx), .c (JfE p))]) _ rfl rfl (.cons _ (.cons _ Sf)) rfl (Jxe hnd) ⟨rfl,JyR hno JqN,Bf⟩ ⟨Rf,Rf,Rf,Rf,Rf,Lw,trivial⟩)
        ·have hh:Jdm l n=true:=hh.symm
         rw [hh,if_pos rfl] at hgn
         refine JbI ?_
         exact back (i+1,G1++((p.rules.getD i Jl).name,l,st)::G2,nx5) ⟨hi,hgn.symm,by dsimp only;omega,fun g hg=> ⟨by have:=(h4 g hg).1;dsimp only;omega,(h4 g hg).2⟩⟩ Dm (Jm _ _ rfl rfl (.cons _ (.cons _ Sf)) Sf Bf Pf ⟨Rf,Rf,Rf,Rf,Rf,Lw,trivial⟩)
end Go.Proofs.W

namespace Go.Proofs.W
open Go.Vl
set_option maxRecDepth 100000
theorem Jjm (c:Cnd):(J3 c).2=0∨(J3 c).2=1∨(J3 c).2=2:=by
 unfold J3 JaL JaH Jba Jdf isC asC
 repeat' split
 all_goals simp
theorem JvU {c:Cnd} (ho:c.ok):(J3 c).1.ok:=by
 obtain ⟨o1,o2⟩:=ho
 unfold J3 JaL JaH Jba Jdf isC asC cnd0 Cnd.ok
 repeat' split
 all_goals (refine ⟨?_, ?_⟩ <;> dsimp only <;> omega)
end Go.Proofs.W

namespace Go.Proofs.W
open Go.Vl
set_option maxRecDepth 100000
theorem JmF {α:Type} {R:α→α→Prop} (hi:∀x,¬R x x) (ht:∀x y z,R x y→R y z→R x z):∀ {l l':List α},l.Pairwise R→l'.Pairwise R→(∀x,x∈l↔x∈l')→l=l'
 | [], [],_,_,_=> rfl
 | [],y::l',_,_,h=> absurd ((h y).2 (.head _)) (by simp)
 | x::l, [],_,_,h=> absurd ((h x).1 (.head _)) (by simp)
 | x::l,y::l',h1,h2,h=> by
   rw [List.pairwise_cons] at h1 h2
   have hxy:x=y:=by
    rcases List.mem_cons.1 ((h x).1 (.head _)) with e | e
    ·exact e
    ·rcases List.mem_cons.1 ((h y).2 (.head _)) with e' | e'
     ·exact e'.symm
     ·exact absurd (ht _ _ _ (h1.1 _ e') (h2.1 _ e)) (hi x)
   subst hxy
   have hnx:∀ {m:List α},(∀z∈m,R x z)→x∉m:=fun hm hx=> hi x (hm x hx)
   rw [JmF hi ht h1.2 h2.2 fun z=> ?_]
   constructor
   ·intro hz
    rcases List.mem_cons.1 ((h z).1 (.tail _ hz)) with e | e
    ·subst e;exact absurd hz (hnx h1.1)
    ·exact e
   ·intro hz
    rcases List.mem_cons.1 ((h z).2 (.tail _ hz)) with e | e
    ·subst e;exact absurd hz (hnx h2.1)
    ·exact e
def RC (a b:Cnd):Prop:=ltC a b=true
theorem Jyj (x:Cnd):¬RC x x:=by unfold RC;rw [swo_ltC.irrefl];decide
theorem JyS (x y z:Cnd) (h:RC x y) (k:RC y z):RC x z:=swo_ltC.trans x y z h k
theorem JqO {d:Array Cnd}:∀ {m:Nat},m≤d.size→(∀i j,i < j→j < m→ltC d[j]! d[i]! =false)→(cU d m).Pairwise RC∧∀x,x∈cU d m↔∃j,j < m∧d[j]! =x
 | 0,_,_=> ⟨List.Pairwise.nil,fun x=> by simp [cU]⟩
 | m+1,hm,hs=> by
   obtain ⟨h1,h2⟩:=JqO (m:=m) Om fun i j a b=> hs i j a Om
   by_cases hc:m=0∨d[m]! ≠d[m - 1]!
   ·rw [cU,if_pos hc]
    refine ⟨?_,fun x=> ?_⟩
    ·rw [List.pairwise_append]
     refine ⟨h1,List.pairwise_singleton _ _,fun a ha b hb=> ?_⟩
     rw [List.mem_singleton] at hb
     subst hb
     obtain ⟨j,hj,rfl⟩:=(h2 a).1 ha
     cases hlt:ltC d[j]! d[m]! with
     | true=> exact hlt
     | false=>
       exfalso
       have h3:=hs (m - 1) m Om Om
       have h4:ltC d[m - 1]! d[m]! =false:=by
        rcases Nat.lt_or_ge j (m - 1) with q | q
        ·exact swo_ltC.ntrans _ _ _ (hs j (m - 1) q Om) hlt
        ·rw [show m - 1=j by omega];exact hlt
       rcases hc with hc | hc
       ·omega
       ·exact hc (Jxb h3 h4)
    ·rw [List.mem_append,h2,List.mem_singleton]
     constructor
     ·rintro (⟨j,hj,rfl⟩ | rfl)
      ·exact ⟨j,by omega,rfl⟩
      ·exact ⟨m,by omega,rfl⟩
     ·rintro ⟨j,hj,rfl⟩
      rcases Nat.lt_or_ge j m with q | q
      ·exact .inl ⟨j,q,rfl⟩
      ·exact .inr (by rw [show j=m by omega])
   ·rw [cU,if_neg hc]
    refine ⟨h1,fun x=> ?_⟩
    rw [h2]
    constructor
    ·rintro ⟨j,hj,rfl⟩;exact ⟨j,by omega,rfl⟩
    ·rintro ⟨j,hj,rfl⟩
     rcases Nat.lt_or_ge j m with q | q
     ·exact ⟨j,q,rfl⟩
     ·have hj':j=m:=by omega
      subst hj'
      have:j≠0:=fun h=> hc (.inl h)
      exact ⟨j - 1,by omega,by by_cases he:d[j]! =d[j - 1]!;exact he.symm;exact absurd (.inr he) hc⟩
theorem Jcl (L:List Cnd):(Jdt L).Pairwise RC∧∀x,x∈Jdt L↔x∈L:=by
 have h:=Go.Sort.insertionSort_holds (lt:=ltC) swo_ltC L.toArray 0 L.length (Nat.zero_le _) (by simp)
 have hsz:(Go.Sort.insertionSort ltC L.toArray 0 L.length).size=L.length:=by have:=h.1.1;simpa using this
 obtain ⟨h1,h2⟩:=JqO (d:=Go.Sort.insertionSort ltC L.toArray 0 L.length) (m:=L.length) Om fun i j a b=> h.2 i j (Nat.zero_le _) a b
 refine ⟨h1,fun x=> (h2 x).trans ?_⟩
 have hp:=h.1.2.2.mem_iff (a:=x)
 clear h h1 h2
 generalize Go.Sort.insertionSort ltC L.toArray 0 L.length=d at hsz hp⊢
 have e1:(d.extract 0 L.length).toList=d.toList:=by rw [← hsz];simp
 have e2:(L.toArray.extract 0 L.length).toList=L:=by simp
 rw [e1,e2] at hp
 rw [← hp,List.mem_iff_getElem]
 constructor
 ·rintro ⟨j,hj,rfl⟩
  have hj':j < d.size:=by omega
  exact ⟨j,by simpa using hj',by simp [hj']⟩
 ·rintro ⟨j,hj,rfl⟩
  have hj':j < d.size:=by simpa using hj
  exact ⟨j,by omega,by simp [hj']⟩
theorem Jxf {L L':List Cnd} (h:∀x,x∈L↔x∈L'):Jdt L=Jdt L':=
 JmF Jyj JyS (Jcl L).1 (Jcl L').1 fun x=> ((Jcl L).2 x).trans ((h x).trans ((Jcl L').2 x).symm)
theorem Juh (L:List Cnd):Jdt (Jdt L)=Jdt L:=Jxf fun x=> (Jcl L).2 x
theorem JdK {arg:Int} {op:Int} {v:Nat} (h0:0≤arg) (h5:arg≤5) (h1:1≤op) (h7:op≤7):JK ⟨arg,op,0,v⟩=true:=J8.2 ⟨h0,h5,h1,h7, .inr rfl⟩
theorem JlG {arg:Int} {v:Nat} (h0:0≤arg) (h5:arg≤5):J3 ⟨arg,1,0,v⟩=(⟨arg,1,0,v⟩,0):=by
 unfold J3;rw [if_pos (JdK h0 h5 Dc Dc)];simp [JaL]
theorem Jxg {arg:Int} {v:Nat} (h0:0≤arg) (h5:arg≤5) (hv:¬v=0) (hv1:¬v=1):J3 ⟨arg,3,0,v⟩=(⟨arg,3,0,v⟩,0):=by
 unfold J3;rw [if_pos (JdK h0 h5 Dc Dc)];simp [JaL,JaH,hv,hv1,asC]
theorem Jxh {arg:Int} {v:Nat} (h0:0≤arg) (h5:arg≤5) (hv:¬v=0) (hv1:¬v=18446744073709551615):J3 ⟨arg,6,0,v⟩=(⟨arg,6,0,v⟩,0):=by
 unfold J3;rw [if_pos (JdK h0 h5 Dc Dc)];simp [JaL,Jba,hv,hv1,asC]
theorem Jjn {c:Cnd} {v:Nat} (h0:0≤c.arg) (h5:c.arg≤5) (h:(JaH c v).2=0):JK (JaH c v).1=true∧J3 (JaH c v).1=((JaH c v).1,0):=by
 unfold JaH at h⊢
 by_cases e0:v=0
 ·rw [if_pos e0] at h;simp [isC] at h
 ·rw [if_neg e0] at h⊢
  by_cases e1:v=1
  ·rw [if_pos e1];exact ⟨JdK h0 h5 Dc Dc,JlG h0 h5⟩
  ·rw [if_neg e1];exact ⟨JdK h0 h5 Dc Dc,Jxg h0 h5 e0 e1⟩
theorem JkQ {c:Cnd} {v:Nat} (h0:0≤c.arg) (h5:c.arg≤5) (h:(Jba c v).2=0):JK (Jba c v).1=true∧J3 (Jba c v).1=((Jba c v).1,0):=by
 unfold Jba at h⊢
 by_cases e0:v=0
 ·rw [if_pos e0] at h;simp [isC] at h
 ·rw [if_neg e0] at h⊢
  by_cases e1:v=18446744073709551615
  ·rw [if_pos e1];exact ⟨JdK h0 h5 Dc Dc,JlG h0 h5⟩
  ·rw [if_neg e1];exact ⟨JdK h0 h5 Dc Dc,Jxh h0 h5 e0 e1⟩
theorem Jqf {c:Cnd} (h:(J3 c).2=0):JK (J3 c).1=true∧J3 (J3 c).1=((J3 c).1,0):=by
 have hr:JK c=true:=by
  cases hr:JK c with
  | true=> rfl
  | false=>
    unfold J3 at h
    rw [hr,if_neg Dc] at h
    simp [isC] at h
 have hrc:=J8.1 hr
 have e:J3 c=JaL c:=if_pos hr
 by_cases e3:c.op=3
 ·have e2:JaL c=JaH c c.value:=if_pos e3
  rw [e,e2] at h⊢;exact Jjn hrc.1 hrc.2.1 h
 by_cases e6:c.op=6
 ·have e2:JaL c=Jba c c.value:=by unfold JaL;rw [if_neg e3,if_pos e6]
  rw [e,e2] at h⊢;exact JkQ hrc.1 hrc.2.1 h
 by_cases e7:c.op=7
 ·have e2:JaL c=Jdf c:=by unfold JaL;rw [if_neg e3,if_neg e6,if_pos e7]
  rw [e,e2] at h⊢
  unfold Jdf at h⊢
  by_cases b0:JgP c.value c.mask≠0
  ·rw [if_pos b0] at h;simp [isC] at h
  ·rw [if_neg b0] at h⊢
   by_cases b1:c.mask=0
   ·rw [if_pos b1] at h;simp [isC] at h
   ·rw [if_neg b1] at h⊢
    by_cases b2:c.mask=18446744073709551615
    ·rw [if_pos b2];exact ⟨JdK hrc.1 hrc.2.1 Dc Dc,JlG hrc.1 hrc.2.1⟩
    ·rw [if_neg b2]
     refine ⟨hr, ?_⟩
     rw [e,e2];unfold Jdf;rw [if_neg b0,if_neg b1,if_neg b2]
 by_cases e4:c.op=4
 ·by_cases v:c.value=18446744073709551615
  ·have e2:JaL c=isC true:=by unfold JaL;rw [if_neg e3,if_neg e6,if_neg e7,if_pos e4,if_pos v]
   rw [e,e2] at h;simp [isC] at h
  ·have e2:JaL c=JaH c (c.value+1):=by unfold JaL;rw [if_neg e3,if_neg e6,if_neg e7,if_pos e4,if_neg v]
   rw [e,e2] at h⊢;exact Jjn hrc.1 hrc.2.1 h
 by_cases e5:c.op=5
 ·by_cases v:c.value=18446744073709551615
  ·have e2:JaL c=isC false:=by unfold JaL;rw [if_neg e3,if_neg e6,if_neg e7,if_neg e4,if_pos e5,if_pos v]
   rw [e,e2] at h;simp [isC] at h
  ·have e2:JaL c=Jba c (c.value+1):=by unfold JaL;rw [if_neg e3,if_neg e6,if_neg e7,if_neg e4,if_pos e5,if_neg v]
   rw [e,e2] at h⊢;exact JkQ hrc.1 hrc.2.1 h
 have e2:JaL c=(c,0):=by unfold JaL;rw [if_neg e3,if_neg e6,if_neg e7,if_neg e4,if_neg e5]
 rw [e,e2]
 exact ⟨hr,e.trans e2⟩
theorem Jsl {cs:List Cnd} {x:Cnd} (h:x∈Jbo cs):JK x=true∧JbO x=false∧Jhz x=some x:=by
 unfold Jbo at h
 obtain ⟨c,hc,hx⟩:=List.mem_filterMap.1 h
 unfold Jhz at hx
 split at hx
 ·rename_i h0
  cases hx
  obtain ⟨h1,h2⟩:=Jqf h0
  refine ⟨h1, ?_, ?_⟩
  ·unfold JbO;rw [h2];rfl
  ·unfold Jhz;rw [h2];rfl
 ·cases hx
theorem Jd9 {r n:Rul} (h:JaF r=some n):JaF n=some n∧(Jax r=true→Jax n=true)∧((∀c∈r.conds,c.ok)→∀c∈n.conds,c.ok):=by
 have hc:=Jbv h
 unfold JaF at h
 split at h
 ·cases h
 ·cases h
  have hm:∀x,x∈Jdt (Jbo r.conds)→JK x=true∧JbO x=false∧Jhz x=some x:=fun x hx=> Jsl (((Jcl _).2 x).1 hx)
  refine ⟨?_,fun hr=> ?_,fun ho x hx=> ?_⟩
  ·unfold JaF
   dsimp only
   have e1:(Jdt (Jbo r.conds)).any JbO=false:=by
    rw [List.any_eq_false]
    intro x hx;rw [(hm x hx).2.1];decide
   have e2:Jbo (Jdt (Jbo r.conds))=Jdt (Jbo r.conds):=by
    generalize Jdt (Jbo r.conds)=l at hm
    unfold Jbo
    induction l with
    | nil=> rfl
    | cons x l ih=>
      rw [List.filterMap_cons,(hm x (.head _)).2.2]
      dsimp only
      rw [ih fun y hy=> hm y (.tail _ hy)]
   rw [e1,e2,Juh];rfl
  ·unfold Jax at hr⊢
   simp only [Bool.and_eq_true,decide_eq_true_eq] at hr⊢
   refine ⟨hr.1,hr.2.1,Nat.le_trans hc.1 hr.2.2.1, ?_⟩
   rw [Bool.not_eq_true',List.any_eq_false]
   intro x hx;rw [(hm x hx).1];decide
  ·have hx2:=((Jcl _).2 x).1 hx
   unfold Jbo at hx2
   obtain ⟨c,hc,hy⟩:=List.mem_filterMap.1 hx2
   unfold Jhz at hy
   split at hy
   ·cases hy;exact JvU (ho c hc)
   ·cases hy
end Go.Proofs.W

namespace Go.Proofs.W
open Go.Vl
set_option maxRecDepth 100000
def Jc3 (l:List Rul) (r:Rul):List Rul:=
 match JaF r with
 | none=> l
 | some n=> if Jdm l n then l else l++ [n]
def gOf (s:ByteArray) (rs:List Rul):List Rul:=rs.foldl (fun l r=> if J6 s r.name then Jc3 l r else l) []
theorem Jij (s:ByteArray):J6 s s=true:=Jb4.2 rfl
theorem Jik {s t:ByteArray} {n:Rul}:∀ {H:List (ByteArray×List Rul)},JaT (Jdu H t n) s=if J6 s t then JaT H s++ [n] else JaT H s
 | []=> by
   show (if J6 s t=true then [n] else [])=_
   by_cases h:J6 s t=true
   ·rw [if_pos h,if_pos h];rfl
   ·rw [if_neg h,if_neg h];rfl
 | h::H=> by
   unfold Jdu
   by_cases ht:J6 t h.1=true
   ·rw [if_pos ht]
    obtain rfl:=Jb4.1 ht
    show (if J6 s h.1=true then _ else JaT H s)=_
    by_cases hs:J6 s h.1=true
    ·rw [if_pos hs,if_pos hs];show _=(if J6 s h.1=true then _ else _)++_;rw [if_pos hs]
    ·rw [if_neg hs,if_neg hs];show _=(if J6 s h.1=true then _ else _);rw [if_neg hs]
   ·rw [if_neg ht]
    show (if J6 s h.1=true then h.2 else JaT (Jdu H t n) s)=if J6 s t=true then (if J6 s h.1=true then h.2 else JaT H s)++ [n] else (if J6 s h.1=true then h.2 else JaT H s)
    by_cases hs:J6 s h.1=true
    ·rw [if_pos hs,if_pos hs]
     have:¬J6 s t=true:=fun k=> ht (by rw [← Jb4.1 k];exact hs)
     rw [if_neg this]
    ·rw [if_neg hs,if_neg hs,Jik]
theorem Jsm {s:ByteArray} {H:List (ByteArray×List Rul)} {r:Rul}:JaT (Jdi H r) s=if J6 s r.name then Jc3 (JaT H s) r else JaT H s:=by
 unfold Jdi Jc3
 cases hN:JaF r with
 | none=> simp
 | some n=>
   dsimp only
   by_cases hs:J6 s r.name=true
   ·obtain rfl:=Jb4.1 hs
    rw [if_pos hs]
    by_cases hh:Jdm (JaT H r.name) n=true
    ·rw [if_pos hh,if_pos hh]
    ·rw [if_neg hh,if_neg hh,Jik,if_pos hs]
   ·rw [if_neg hs]
    by_cases hh:Jdm (JaT H r.name) n=true
    ·rw [if_pos hh]
    ·rw [if_neg hh,Jik,if_neg hs]
theorem JmG {s:ByteArray}:∀(rs:List Rul) (H:List (ByteArray×List Rul)),JaT (rs.foldl Jdi H) s=rs.foldl (fun l r=> if J6 s r.name then Jc3 l r else l) (JaT H s)
 | [],_=> rfl
 | r::rs,H=> by
   rw [List.foldl_cons,JmG rs,List.foldl_cons,Jsm]
theorem Jfi (s:ByteArray) (rs:List Rul):JaT (Jaa rs) s=gOf s rs:=JmG rs []
theorem JmH {t:ByteArray} {n:Rul}:∀ {H:List (ByteArray×List Rul)} {s:ByteArray},s∈(Jdu H t n).map (·.1)↔s=t∨s∈H.map (·.1)
 | [],s=> by simp [Jdu]
 | h::H,s=> by
   unfold Jdu
   by_cases ht:J6 t h.1=true
   ·rw [if_pos ht]
    obtain rfl:=Jb4.1 ht
    simp
   ·rw [if_neg ht,List.map_cons,List.mem_cons,JmH,List.map_cons,List.mem_cons]
    constructor
    ·rintro (h | h | h)
     ·exact .inr (.inl h)
     ·exact .inl h
     ·exact .inr (.inr h)
    ·rintro (h | h | h)
     ·exact .inr (.inl h)
     ·exact .inl h
     ·exact .inr (.inr h)
theorem JkR {t:ByteArray} {n:Rul}:∀ {H:List (ByteArray×List Rul)},(H.map (·.1)).Nodup→((Jdu H t n).map (·.1)).Nodup
 | [],_=> by simp [Jdu]
 | h::H,hn=> by
   unfold Jdu
   by_cases ht:J6 t h.1=true
   ·rw [if_pos ht];exact hn
   ·rw [if_neg ht]
    rw [List.map_cons,List.nodup_cons] at hn⊢
    refine ⟨fun hm=> ?_,JkR hn.2⟩
    rcases JmH.1 hm with e | e
    ·exact ht (by rw [← e];exact Jij _)
    ·exact hn.1 e
theorem Jqg {H:List (ByteArray×List Rul)} {r:Rul} (h:(H.map (·.1)).Nodup):((Jdi H r).map (·.1)).Nodup:=by
 unfold Jdi
 cases JaF r with
 | none=> exact h
 | some n=>
   dsimp only
   split
   ·exact h
   ·exact JkR h
theorem Jgn (rs:List Rul):((Jaa rs).map (·.1)).Nodup:=by
 have key:∀(rs:List Rul) (H:List (ByteArray×List Rul)),(H.map (·.1)).Nodup→((rs.foldl Jdi H).map (·.1)).Nodup:=by
  intro rs
  induction rs with
  | nil=> intro H h;exact h
  | cons r rs ih=> intro H h;exact ih _ (Jqg h)
 exact key rs [] List.nodup_nil
theorem Jo2 {s:ByteArray}:∀ {H:List (ByteArray×List Rul)},JaT H s≠ []→s∈H.map (·.1)
 | [],h=> absurd rfl h
 | h::H,hne=> by
   by_cases hs:J6 s h.1=true
   ·rw [Jb4.1 hs];simp
   ·have:JaT (h::H) s=JaT H s:=if_neg hs
    rw [this] at hne
    exact List.mem_cons_of_mem _ (Jo2 hne)
def RS (a b:List UInt8):Prop:=Go.Sort.ltStr a b=true
theorem Jui (x:List UInt8):¬RS x x:=by unfold RS;rw [Go.Sort.swo_ltStr.irrefl];decide
theorem JyT (x y z:List UInt8) (h:RS x y) (k:RS y z):RS x z:=Go.Sort.swo_ltStr.trans x y z h k
theorem JjQ {s t:ByteArray} (h:s.data.toList=t.data.toList):s=t:=by
 obtain ⟨⟨a⟩⟩:=s;obtain ⟨⟨b⟩⟩:=t;simpa using h
theorem Jjo {H:List (ByteArray×List Rul)} (hn:(H.map (·.1)).Nodup):(Jc2 H).Pairwise RS:=by
 have h1:=Jfg Go.Sort.swo_ltStr (H.map fun h=> h.1.data.toList)
 have h2:(Jc2 H).Nodup:=by
  refine (List.mergeSort_perm _ _).nodup_iff.2 ?_
  have:(H.map fun h=> h.1.data.toList)=(H.map (·.1)).map (fun s:ByteArray=> s.data.toList):=by rw [List.map_map];rfl
  rw [this]
  exact List.pairwise_map.2 (hn.imp fun h e=> h (JjQ e))
 refine (h1.and h2).imp fun {a b} h=> ?_
 unfold RS
 cases hl:Go.Sort.ltStr a b with
 | true=> rfl
 | false=> exact absurd (Jig _ _ hl h.1) h.2
theorem Jqh {H:List (ByteArray×List Rul)} {s:ByteArray}:s.data.toList∈Jc2 H↔s∈H.map (·.1):=by
 unfold Jc2
 rw [Jhv,List.mem_map,List.mem_map]
 constructor
 ·rintro ⟨h,hh,e⟩;exact ⟨h,hh,JjQ e⟩
 ·rintro ⟨h,hh,e⟩;exact ⟨h,hh,by rw [e]⟩
theorem JfS (s:ByteArray) (rs:List Rul):gOf s rs=(rs.filter fun r=> J6 s r.name).foldl Jc3 []:=by
 unfold gOf
 have key:∀(rs:List Rul) (l:List Rul),rs.foldl (fun l r=> if J6 s r.name then Jc3 l r else l) l=(rs.filter fun r=> J6 s r.name).foldl Jc3 l:=by
  intro rs
  induction rs with
  | nil=> intro l;rfl
  | cons r rs ih=>
    intro l
    rw [List.foldl_cons,ih,List.filter_cons]
    by_cases h:J6 s r.name=true
    ·rw [if_pos h,if_pos h];rfl
    ·rw [if_neg h,if_neg h]
 exact key rs []
theorem JgT (l:List Rul):l= []∨∃l' x,l=l'++ [x]:=by
 rcases List.eq_nil_or_concat l with h | ⟨l',x,h⟩
 ·exact .inl h
 ·exact .inr ⟨l',x,by rw [h,List.concat_eq_append]⟩
def JdY (l:List Rul):Prop:=∀a n b,l=a++n::b→JaF n=some n∧Jdm a n=false
theorem JvV:JdY []:=fun a n b h=> by simp at h
theorem Juj {l:List Rul} {n:Rul} (h:JdY l) (h1:JaF n=some n) (h2:Jdm l n=false):JdY (l++ [n]):=fun a m b he=> by
 rcases JgT b with rfl | ⟨b',x,rfl⟩
 ·have:=List.append_inj' he rfl
  obtain ⟨rfl,hh⟩:=this
  cases hh
  exact ⟨h1,h2⟩
 ·rw [show a++m::(b'++ [x])=(a++m::b')++ [x] by simp] at he
  have:=List.append_inj' he rfl
  exact h a m b' this.1
theorem JkS {l t:List Rul} (h:JdY (l++t)):JdY l:=fun a n b he=> h a n (b++t) (by rw [he];simp)
theorem Juk {l:List Rul} {r:Rul} (h:JdY l):JdY (Jc3 l r):=by
 unfold Jc3
 cases hN:JaF r with
 | none=> exact h
 | some n=>
   dsimp only
   by_cases hh:Jdm l n=true
   ·rw [if_pos hh];exact h
   ·rw [if_neg hh];exact Juj h (Jd9 hN).1 (by simpa using hh)
theorem JmI:∀(rs l:List Rul),JdY l→JdY (rs.foldl Jc3 l)
 | [],_,h=> h
 | r::rs,l,h=> JmI rs _ (Juk h)
theorem JvW (s:ByteArray) (rs:List Rul):JdY (gOf s rs):=by rw [JfS];exact JmI _ _ JvV
theorem Jul {l:List Rul} (h:JdY l):l.foldl Jc3 []=l:=by
 have key:∀(k:Nat) (l:List Rul),l.length=k→JdY l→l.foldl Jc3 []=l:=by
  intro k
  induction k with
  | zero=> intro l hk _;rw [List.eq_nil_of_length_eq_zero hk];rfl
  | succ k ih=>
    intro l hk h
    rcases JgT l with rfl | ⟨l',x,rfl⟩
    ·simp at hk
    ·rw [List.foldl_append,ih l' (by simpa using hk) (JkS h)]
     obtain ⟨h1,h2⟩:=h l' x [] rfl
     show Jc3 l' x=_
     unfold Jc3
     rw [h1]
     dsimp only
     rw [if_neg (by rw [h2];decide)]
 exact key _ l rfl h
theorem JhA (d:A2) (l:List Rul):∃t,l=JcB d l++t:=by
 unfold JcB
 refine ⟨(l.reverse.takeWhile fun r=> decide (r.act=d)).reverse, ?_⟩
 rw [← List.reverse_append,List.takeWhile_append_dropWhile,List.reverse_reverse]
theorem Jxi (d:A2) (l:List Rul):(JcB d l).length≤l.length:=by
 obtain ⟨t,h⟩:=JhA d l
 have:=congrArg List.length h
 rw [List.length_append] at this
 omega
theorem JvX {l:List Rul} {r n:Rul} (h:n∈Jc3 l r):n∈l∨JaF r=some n:=by
 unfold Jc3 at h
 cases hN:JaF r with
 | none=> rw [hN] at h;exact .inl h
 | some m=>
   rw [hN] at h
   dsimp only at h
   split at h
   ·exact .inl h
   ·rcases List.mem_append.1 h with h | h
    ·exact .inl h
    ·rw [List.mem_singleton.1 h];exact .inr rfl
theorem Jo3:∀(rs l:List Rul) {n:Rul},n∈rs.foldl Jc3 l→n∈l∨∃r∈rs,JaF r=some n
 | [],_,_,h=> .inl h
 | r::rs,l,n,h=> by
   rcases Jo3 rs _ h with h | ⟨x,hx,h⟩
   ·rcases JvX h with h | h
    ·exact .inl h
    ·exact .inr ⟨r, .head _,h⟩
   ·exact .inr ⟨x, .tail _ hx,h⟩
theorem JiR {s:ByteArray} {rs:List Rul} {n:Rul} (h:n∈gOf s rs):n.name=s∧∃r∈rs,JaF r=some n:=by
 rw [JfS] at h
 rcases Jo3 _ _ h with h | ⟨r,hr,h⟩
 ·cases h
 ·obtain ⟨h1,h2⟩:=List.mem_filter.1 hr
  exact ⟨(Jbv h).2.1.trans (Jb4.1 h2).symm,r,h1,h⟩
theorem JhB {d:A2} {l:List Rul} {x:Rul} (h:x∈JcB d l):x∈l:=by
 obtain ⟨t,ht⟩:=JhA d l
 rw [ht];exact List.mem_append_left _ h
theorem JiS {d:A2} {rs:List Rul} {N:List (List UInt8)} {n:Rul} (h:n∈JfD d (Jaa rs) N):∃r∈rs,JaF r=some n:=by
 unfold JfD at h
 obtain ⟨z,hz,h⟩:=List.mem_flatMap.1 h
 have:=JhB h
 rw [Jfi] at this
 exact (JiR this).2
theorem Jo4 {X:List Rul} {z0:List UInt8}:∀ {N:List (List UInt8)},N.Pairwise RS→N.flatMap (fun z=> if z=z0 then X else [])=if z0∈N then X else []
 | [],_=> by simp
 | z::N,h=> by
   rw [List.pairwise_cons] at h
   rw [List.flatMap_cons,Jo4 h.2]
   by_cases hz:z=z0
   ·subst hz
    have:z∉N:=fun hm=> Jui z (h.1 z hm)
    simp [this]
   ·rw [if_neg hz,List.nil_append]
    simp [Ne.symm hz]
theorem Jjp (s:ByteArray) (F:List UInt8→List Rul):∀N:List (List UInt8),(N.flatMap F).filter (fun r=> J6 s r.name)=N.flatMap fun z=> (F z).filter fun r=> J6 s r.name
 | []=> rfl
 | z::N=> by rw [List.flatMap_cons,List.filter_append,Jjp s F N,List.flatMap_cons]
theorem Jxj (d:A2) (rs:List Rul) (s:ByteArray):gOf s (JfD d (Jaa rs) (Jc2 (Jaa rs)))=JcB d (gOf s rs):=by
 rw [JfS]
 unfold JfD
 rw [Jjp]
 have e:(fun z:List UInt8=> (JcB d (JaT (Jaa rs) ⟨z.toArray⟩)).filter fun r=> J6 s r.name)=fun z=> if z=s.data.toList then JcB d (gOf s rs) else []:=by
  funext z
  rw [Jfi]
  by_cases hz:z=s.data.toList
  ·subst hz
   rw [if_pos rfl]
   have es:(⟨s.data.toList.toArray⟩:ByteArray)=s:=by obtain ⟨⟨a⟩⟩:=s;rfl
   rw [es,List.filter_eq_self]
   intro n hn
   rw [(JiR (JhB hn)).1];exact Jij s
  ·rw [if_neg hz,List.filter_eq_nil_iff]
   intro n hn hk
   have:=(JiR (JhB hn)).1
   rw [this] at hk
   exact hz (by rw [Jb4.1 hk])
 rw [e,Jo4 (Jjo (Jgn rs))]
 have hg:JdY (JcB d (gOf s rs)):=by
  obtain ⟨t,ht⟩:=JhA d (gOf s rs)
  have:=JvW s rs
  rw [ht] at this
  exact JkS this
 by_cases hm:s.data.toList∈Jc2 (Jaa rs)
 ·rw [if_pos hm];exact Jul hg
 ·rw [if_neg hm]
  have:JaT (Jaa rs) s= []:=by
   by_cases h:JaT (Jaa rs) s= []
   ·exact h
   ·exact absurd (Jqh.2 (Jo2 h)) hm
  rw [Jfi] at this
  rw [this];rfl
def Jgo (H:List (ByteArray×List Rul)):Nat:=(H.map fun h=> h.2.length).sum
theorem Jo5 {t:ByteArray} {n:Rul}:∀H:List (ByteArray×List Rul),Jgo (Jdu H t n)=Jgo H+1
 | []=> rfl
 | h::H=> by
   unfold Jdu
   by_cases ht:J6 t h.1=true
   ·rw [if_pos ht];unfold Jgo;simp;omega
   ·rw [if_neg ht]
    have:=Jo5 (t:=t) (n:=n) H
    unfold Jgo at this⊢
    rw [List.map_cons,List.sum_cons,this,List.map_cons,List.sum_cons];omega
theorem Jum {H:List (ByteArray×List Rul)} {r:Rul}:Jgo (Jdi H r)≤Jgo H+1:=by
 unfold Jdi
 cases JaF r with
 | none=> exact Nat.le_succ _
 | some n=>
   dsimp only
   split
   ·exact Nat.le_succ _
   ·rw [Jo5];exact Nat.le_refl _
theorem Jsn (rs:List Rul):Jgo (Jaa rs)≤rs.length:=by
 have key:∀(rs:List Rul) (H:List (ByteArray×List Rul)),Jgo (rs.foldl Jdi H)≤Jgo H+rs.length:=by
  intro rs
  induction rs with
  | nil=> intro H;exact Nat.le_refl _
  | cons r rs ih=>
    intro H
    have h1:=ih (Jdi H r)
    have h2:=Jum (H:=H) (r:=r)
    rw [List.foldl_cons,List.length_cons];omega
 have:=key rs []
 rw [show Jgo []=0 from rfl,Nat.zero_add] at this
 exact this
theorem Jo6:∀ {H:List (ByteArray×List Rul)},(H.map (·.1)).Nodup→∀h∈H,JaT H h.1=h.2
 | [],_,_,hm=> by cases hm
 | g::H,hn,h,hm=> by
   rw [List.map_cons,List.nodup_cons] at hn
   rcases List.mem_cons.1 hm with rfl | hm
   ·exact if_pos (Jij _)
   ·have:¬J6 h.1 g.1=true:=fun hk=> hn.1 (by rw [← Jb4.1 hk];exact List.mem_map_of_mem hm)
    show (if J6 h.1 g.1=true then g.2 else JaT H h.1)=_
    rw [if_neg this];exact Jo6 hn.2 h hm
theorem Jxk (d:A2) (rs:List Rul):(JfD d (Jaa rs) (Jc2 (Jaa rs))).length≤rs.length:=by
 refine Nat.le_trans ?_ (Jsn rs)
 have hn:=Jgn rs
 generalize Jaa rs=H at hn
 unfold JfD
 have hp:(Jc2 H).Perm (H.map fun h=> h.1.data.toList):=List.mergeSort_perm _ _
 rw [List.length_flatMap,(hp.map _).sum_nat,List.map_map]
 unfold Jgo
 have e:∀h∈H,((fun a:List UInt8=> (JcB d (JaT H ⟨a.toArray⟩)).length)∘fun h:ByteArray×List Rul=> h.1.data.toList) h≤h.2.length:=fun h hh=> by
  show (JcB d (JaT H ⟨h.1.data.toList.toArray⟩)).length≤_
  have es:(⟨h.1.data.toList.toArray⟩:ByteArray)=h.1:=by obtain ⟨⟨⟨a⟩⟩,b⟩:=h;rfl
  rw [es,Jo6 hn h hh]
  exact Jxi d h.2
 clear hp hn
 generalize (fun a:List UInt8=> (JcB d (JaT H ⟨a.toArray⟩)).length)∘(fun h:ByteArray×List Rul=> h.1.data.toList)=f at e
 induction H with
 | nil=> simp
 | cons h H ih=>
   rw [List.map_cons,List.sum_cons,List.map_cons,List.sum_cons]
   have h1:=e h (.head _)
   have h2:=ih fun x hx=> e x (.tail _ hx)
   omega
theorem JkT {p:Pol} (h:JaJ p=true):JaJ (Jc p)=true:=by
 unfold JaJ at h⊢
 simp only [Bool.and_eq_true,decide_eq_true_eq,Bool.not_eq_true',List.any_eq_false] at h⊢
 have hl:=Jxk p.dflt p.rules
 refine ⟨h.1,Nat.le_trans hl h.2.1,fun n hn=> ?_⟩
 obtain ⟨r,hr,hN⟩:=JiS hn
 have h2:=h.2.2 r hr
 have:Jax r=true:=by simpa using h2
 rw [(Jd9 hN).2.1 this];decide
end Go.Proofs.W

namespace Go.Proofs.W
open Go.Vl
set_option maxRecDepth 100000
def nmL (s:ByteArray):List UInt8:=s.data.toList
def JiT (r:Rul):List (ByteArray×List Rul)→List (ByteArray×List Rul)
 | (s,L)::t=> if kS s r.name then (s,r::L)::t else (r.name, [r])::(s,L)::t
 | []=> [(r.name, [r])]
def JN (l:List Rul):List (ByteArray×List Rul):=l.foldr JiT []
def Jun (l:List Rul):Prop:=l.Pairwise fun a b=> Go.Sort.ltStr (nmL b.name) (nmL a.name)=false
structure GOk (l:List Rul) (gs:List (ByteArray×List Rul)):Prop where
 up:gs.Pairwise fun a b=> Go.Sort.ltStr (nmL a.1) (nmL b.1)=true
 rows:∀g∈gs,g.2=l.filter (fun r=> kS r.name g.1)∧g.2≠ []
 all:∀r∈l,∃g∈gs,g.1=r.name
theorem JmJ (s t:ByteArray):kS s t=kS t s:=by
 rw [Bool.eq_iff_iff,Ja4,Ja4]
 exact ⟨Eq.symm,Eq.symm⟩
theorem JhC (s:List UInt8):Go.Sort.ltStr s s=false:=Go.Sort.swo_ltStr.irrefl s
theorem JyU {s t:ByteArray} (h:Go.Sort.ltStr (nmL t) (nmL s)=false) (hne:s≠t):Go.Sort.ltStr (nmL s) (nmL t)=true:=by
 cases hl:Go.Sort.ltStr (nmL s) (nmL t) with
 | true=> rfl
 | false=> exact absurd (JjQ (JtD _ _ hl h)) hne
theorem Jcm:∀ {l:List Rul},Jun l→GOk l (JN l)
 | [],_=> ⟨List.Pairwise.nil,fun g hg=> (by cases hg),fun r hr=> (by cases hr)⟩
 | r::l,h=> by
   obtain ⟨h1,h2⟩:=List.pairwise_cons.1 h
   have ih:=Jcm h2
   unfold JN at ih⊢
   rw [List.foldr_cons]
   generalize l.foldr JiT []=gs at ih
   have hrow:∀g∈gs,g.1≠r.name→g.2=(r::l).filter (fun q=> kS q.name g.1)∧g.2≠ []:=fun g hg hne=> by
    obtain ⟨k1,k2⟩:=ih.rows g hg
    refine ⟨?_,k2⟩
    rw [List.filter_cons,if_neg (by rw [JmJ];exact fun e=> hne (Ja4.1 e))]
    exact k1
   have hge:∀g∈gs,Go.Sort.ltStr (nmL g.1) (nmL r.name)=false:=fun g hg=> by
    obtain ⟨k1,k2⟩:=ih.rows g hg
    obtain ⟨q,hq⟩:=List.exists_mem_of_ne_nil _ k2
    rw [k1] at hq
    obtain ⟨q1,q2⟩:=List.mem_filter.1 hq
    rw [← Ja4.1 q2]
    exact h1 q q1
   cases gs with
   | nil=>
     have hl:l= []:=List.eq_nil_iff_forall_not_mem.2 fun q hq=> by obtain ⟨g,hg,_⟩:=ih.all q hq;cases hg
     subst hl
     refine ⟨List.pairwise_singleton _ _,fun g hg=> ?_,fun q hq=> ?_⟩
     ·rw [List.mem_singleton.1 hg]
      refine ⟨?_,List.cons_ne_nil _ _⟩
      rw [List.filter_cons,if_pos (Ja4.2 rfl)]
      rfl
     ·exact ⟨_, .head _,by rw [List.mem_singleton.1 hq]⟩
   | cons g t=>
     obtain ⟨s,L⟩:=g
     show GOk (r::l) (if kS s r.name then (s,r::L)::t else (r.name, [r])::(s,L)::t)
     obtain ⟨u1,u2⟩:=List.pairwise_cons.1 ih.up
     by_cases hs:kS s r.name=true
     ·rw [if_pos hs]
      have es:s=r.name:=Ja4.1 hs
      refine ⟨List.pairwise_cons.2 ⟨u1,u2⟩,fun g hg=> ?_,fun q hq=> ?_⟩
      ·rcases List.mem_cons.1 hg with rfl | hg
       ·refine ⟨?_,List.cons_ne_nil _ _⟩
        have:=(ih.rows (s,L) (.head _)).1
        rw [List.filter_cons,if_pos (by rw [JmJ];exact hs)]
        exact congrArg _ this
       ·refine hrow g (.tail _ hg) fun e=> ?_
        have:=u1 g hg
        rw [e,← es,JhC] at this
        cases this
      ·rcases List.mem_cons.1 hq with rfl | hq
       ·exact ⟨_, .head _,es⟩
       ·obtain ⟨g,hg,e⟩:=ih.all q hq
        rcases List.mem_cons.1 hg with rfl | hg
        ·exact ⟨_, .head _,e⟩
        ·exact ⟨g, .tail _ hg,e⟩
     ·rw [if_neg hs]
      have hne:s≠r.name:=fun e=> hs (Ja4.2 e)
      have hlt:∀g∈(s,L)::t,Go.Sort.ltStr (nmL r.name) (nmL g.1)=true:=fun g hg=> by
       have hs0:=JyU (hge (s,L) (.head _)) hne.symm
       rcases List.mem_cons.1 hg with rfl | hg
       ·exact hs0
       ·exact Go.Sort.swo_ltStr.trans _ _ _ hs0 (u1 g hg)
      have hno:∀g∈(s,L)::t,g.1≠r.name:=fun g hg e=> by
       have:=hlt g hg
       rw [e,JhC] at this
       cases this
      refine ⟨List.pairwise_cons.2 ⟨hlt,ih.up⟩,fun g hg=> ?_,fun q hq=> ?_⟩
      ·rcases List.mem_cons.1 hg with rfl | hg
       ·refine ⟨?_,List.cons_ne_nil _ _⟩
        rw [List.filter_cons,if_pos (Ja4.2 rfl)]
        refine congrArg _ (List.filter_eq_nil_iff.2 fun q hq e=> ?_).symm
        obtain ⟨g,hg,e2⟩:=ih.all q hq
        exact hno g hg (e2.trans (Ja4.1 e))
       ·exact hrow g hg (hno g hg)
      ·rcases List.mem_cons.1 hq with rfl | hq
       ·exact ⟨_, .head _,rfl⟩
       ·obtain ⟨g,hg,e⟩:=ih.all q hq
        exact ⟨g, .tail _ hg,e⟩
end Go.Proofs.W

namespace Go.Proofs.W
open Go.Vl
set_option maxRecDepth 100000
def JP (r:Rul):PRul:=⟨r.conds,Jp r.act⟩
theorem Jqi (m:Rul) (M:List Rul):∃L t,JN (m::M)=(m.name,L)::t:=by
 show ∃L t,JiT m (JN M)=(m.name,L)::t
 cases JN M with
 | nil=> exact ⟨_,_,rfl⟩
 | cons g t=>
   obtain ⟨s,L⟩:=g
   show ∃L' t',(if kS s m.name then (s,m::L)::t else (m.name, [m])::(s,L)::t)=(m.name,L')::t'
   by_cases h:kS s m.name=true
   ·rw [if_pos h,Ja4.1 h];exact ⟨_,_,rfl⟩
   ·rw [if_neg h];exact ⟨_,_,rfl⟩
def JvY (s:ByteArray) (M:List Rul):Prop:=∀m∈M.head?,m.name≠s
theorem JkU {s:ByteArray} {M:List Rul} (hM:JvY s M):∀ {L:List Rul},L≠ []→(∀r∈L,r.name=s)→JN (L++M)=(s,L)::JN M
 | [],h,_=> absurd rfl h
 | [r],_,h=> by
   show JiT r (JN M)=_
   have hr:=h r (.head _)
   cases M with
   | nil=> rw [← hr];rfl
   | cons m M=>
     obtain ⟨L,t,e⟩:=Jqi m M
     rw [e]
     show (if kS m.name r.name then _ else _)=_
     rw [if_neg (fun k=> hM m (by simp) ((Ja4.1 k).trans hr)),hr]
 | r::q::L,_,h=> by
   have ih:=JkU hM (L:=q::L) (by simp) fun x hx=> h x (.tail _ hx)
   show JiT r (JN (q::L++M))=_
   rw [ih]
   show (if kS s r.name then _ else _)=_
   rw [if_pos (Ja4.2 (h r (.head _)).symm)]
def Jat (a:Nat) (n:Int):Nat:=if a=1 then n.toNat||| 1073741824 else n.toNat
def Jav (a d:Nat) (x:Bool) (row:TRow) (rs:List PRul):List PEnt:=
 if row.num a < 0∨(a=1∧x=false)∨Jaj a rs d= [] then [] else [⟨Jat a (row.num a),Jaj a rs d⟩]
def Jbq (m:Nat) (row:TRow) (rs:List PRul):List PSub:=if row.mux=(m:Int)+1 then [⟨row.sub.toNat,(rs.getD 0 ⟨[],0⟩).code⟩] else []
def Jbh (p:Pol) (l:List TRow) (gs:List (ByteArray×List Rul)) (a:Nat):List PEnt:=gs.flatMap fun g=> Jav a (Jp p.dflt) p.x32 (Jau l g.1) (g.2.map JP)
def Jcd (l:List TRow) (gs:List (ByteArray×List Rul)) (m:Nat):List PSub:=gs.flatMap fun g=> Jbq m (Jau l g.1) (g.2.map JP)
theorem Jso (p:Pol) (l:List TRow) (gs:List (ByteArray×List Rul)) (g:ByteArray×List Rul) (a:Nat):Jbh p l (gs++ [g]) a=Jbh p l gs a++Jav a (Jp p.dflt) p.x32 (Jau l g.1) (g.2.map JP):=by
 unfold Jbh;rw [List.flatMap_append];simp
theorem Jsp (l:List TRow) (gs:List (ByteArray×List Rul)) (g:ByteArray×List Rul) (m:Nat):Jcd l (gs++ [g]) m=Jcd l gs m++Jbq m (Jau l g.1) (g.2.map JP):=by
 unfold Jcd;rw [List.flatMap_append];simp
def Jb5 (s:ByteArray) (l:List Rul):List Rul:=l.takeWhile fun r=> kS r.name s
theorem JmK (s:ByteArray):∀(l:List Rul),∀r∈Jb5 s l,r.name=s
 | [],r,hr=> by cases hr
 | q::l,r,hr=> by
   unfold Jb5 at hr
   rw [List.takeWhile_cons] at hr
   by_cases h:kS q.name s=true
   ·rw [if_pos h] at hr
    rcases List.mem_cons.1 hr with rfl | hr
    ·exact Ja4.1 h
    ·exact JmK s l r hr
   ·rw [if_neg h] at hr;cases hr
theorem JvZ (s:ByteArray) (l:List Rul):JvY s (l.drop (Jb5 s l).length):=by
 unfold Jb5 JvY
 induction l with
 | nil=> intro m hm;simp at hm
 | cons r l ih=>
   rw [List.takeWhile_cons]
   by_cases h:kS r.name s=true
   ·rw [if_pos h];simpa using ih
   ·rw [if_neg h]
    intro m hm
    obtain rfl:r=m:=by simpa using hm
    exact fun e=> h (Ja4.2 e)
end Go.Proofs.W

namespace Go.Proofs.W
open Go.Vl
set_option maxRecDepth 100000
theorem JgU {α:Type} {key:α→Nat}:∀ {l m:List α},l.Perm m→l.Pairwise (fun a b=> key a≤key b)→m.Pairwise (fun a b=> key a≤key b)→(l.map key).Nodup→l=m
 | [],m,hp,_,_,_=> (List.nil_perm.1 hp).symm
 | a::l, [],hp,_,_,_=> by cases hp.length_eq
 | a::l,b::m,hp,h1,h2,hn=> by
   obtain ⟨a1,a2⟩:=List.pairwise_cons.1 h1
   obtain ⟨b1,b2⟩:=List.pairwise_cons.1 h2
   have hb:b∈a::l:=hp.mem_iff.2 (.head _)
   have ha:a∈b::m:=hp.mem_iff.1 (.head _)
   have e:a=b:=by
    rcases List.mem_cons.1 hb with h | h
    ·exact h.symm
    ·rcases List.mem_cons.1 ha with k | k
     ·exact k
     ·have:=a1 b h
      have:=b1 a k
      have hk:key a=key b:=by omega
      rw [List.map_cons,List.nodup_cons] at hn
      exact absurd (hk ▸ List.mem_map_of_mem h) hn.1
   subst e
   rw [JgU ((List.perm_cons a).1 hp) a2 b2 (List.nodup_cons.1 hn).2]
def Jfj (l:List PEnt):List PEnt:=l.mergeSort fun a b=> decide (a.num≤b.num)
def JiU (l:List PSub):List PSub:=l.mergeSort fun a b=> decide (a.num≤b.num)
theorem JfT (l:List PEnt):(Jfj l).Perm l:=List.mergeSort_perm _ _
theorem JfU (l:List PSub):(JiU l).Perm l:=List.mergeSort_perm _ _
theorem Jo7 (l:List PEnt):(Jfj l).Pairwise fun a b=> a.num≤b.num:=
 (List.pairwise_mergeSort (le:=fun a b:PEnt=> decide (a.num≤b.num)) (fun a b c h1 h2=> decide_eq_true (Nat.le_trans (of_decide_eq_true h1) (of_decide_eq_true h2))) (fun a b=> by simpa using Nat.le_total a.num b.num) l).imp fun h=> of_decide_eq_true h
theorem Jo8 (l:List PSub):(JiU l).Pairwise fun a b=> a.num≤b.num:=
 (List.pairwise_mergeSort (le:=fun a b:PSub=> decide (a.num≤b.num)) (fun a b c h1 h2=> decide_eq_true (Nat.le_trans (of_decide_eq_true h1) (of_decide_eq_true h2))) (fun a b=> by simpa using Nat.le_total a.num b.num) l).imp fun h=> of_decide_eq_true h
theorem JlH {l:List TRow} (h:(JbK l).2=0) {a i j:Nat} (ha:a < 5) (hi:i < l.length) (hj:j < l.length) (h0:0≤(l.getD i Jg).num a) (e:(l.getD j Jg).num a=(l.getD i Jg).num a):i=j:=by
 have key:∀i j,i < l.length→j < i→0≤(l.getD i Jg).num a→(l.getD j Jg).num a=(l.getD i Jg).num a→False:=fun i j hi hji h0 e=> by
  have hc:=(Jen ((Jdh h).2 i hi)).2.2.2.2.2
  unfold Jc0 at hc
  rw [List.any_eq_false] at hc
  have:=hc (l.getD j Jg) (by
   rw [show l.getD j Jg=(l.take i)[j]'(by rw [List.length_take];omega) by simp [List.getD,show j < l.length by omega]]
   exact List.getElem_mem _)
  apply this
  rw [Bool.or_eq_true]
  left
  unfold Jg6
  refine List.any_eq_true.2 ⟨a, ?_, ?_⟩
  ·rcases (by omega:a=0∨a=1∨a=2∨a=3∨a=4) with rfl | rfl | rfl | rfl | rfl <;> simp
  ·rw [decide_eq_true h0,decide_eq_true e];rfl
 rcases Nat.lt_trichotomy i j with q | q | q
 ·exact (key j i hj q (by rw [e];exact h0) e.symm).elim
 ·exact q
 ·exact (key i j hi q h0 e).elim
theorem JlI {l:List TRow} (h:(JbK l).2=0) {i j:Nat} (hi:i < l.length) (hj:j < l.length) (h0:0 < (l.getD i Jg).mux) (e:(l.getD j Jg).mux=(l.getD i Jg).mux) (e2:(l.getD j Jg).sub=(l.getD i Jg).sub):i=j:=by
 have key:∀i j,i < l.length→j < i→0 < (l.getD i Jg).mux→(l.getD j Jg).mux=(l.getD i Jg).mux→(l.getD j Jg).sub=(l.getD i Jg).sub→False:=fun i j hi hji h0 e e2=> by
  have hc:=(Jen ((Jdh h).2 i hi)).2.2.2.2.2
  unfold Jc0 at hc
  rw [List.any_eq_false] at hc
  have:=hc (l.getD j Jg) (by
   rw [show l.getD j Jg=(l.take i)[j]'(by rw [List.length_take];omega) by simp [List.getD,show j < l.length by omega]]
   exact List.getElem_mem _)
  apply this
  rw [Bool.or_eq_true]
  right
  unfold Jic
  rw [decide_eq_true h0,decide_eq_true e,decide_eq_true e2];rfl
 rcases Nat.lt_trichotomy i j with q | q | q
 ·exact (key j i hj q (by rw [e];exact h0) e.symm e2.symm).elim
 ·exact q
 ·exact (key i j hi q h0 e e2).elim
end Go.Proofs.W

namespace Go.Proofs.W
open Go.Vl
set_option maxRecDepth 100000
theorem JeK {a:Nat} {z:Int} (h0:0≤z) (h1:z < 1073741824):Jat a z=if a=1 then z.toNat+1073741824 else z.toNat:=by
 unfold Jat
 split
 ·have h:z.toNat < 2 ^ 30:=by omega
  have:=Nat.two_pow_add_eq_or_of_lt h 1
  rw [Nat.mul_one] at this
  rw [Nat.or_comm,show (1073741824:Nat)=2 ^ 30 by decide,← this];omega
 ·rfl
theorem Jc8 {l:List TRow} (h:(JbK l).2=0) {i a:Nat} (hi:i < l.length):(l.getD i Jg).num a < 1073741824∧-1≤(l.getD i Jg).num a:=by
 have:=(Jen ((Jdh h).2 i hi)).2.2.1
 generalize l.getD i Jg=r at this
 unfold JfC at this
 rw [List.any_eq_false] at this
 have hb:∀n∈ [r.a0,r.a1,r.a2,r.a3,r.a4],n < 1073741824∧-1≤n:=fun n hn=> by
  have:=this n hn
  unfold Jel at this
  simp only [Bool.or_eq_true,decide_eq_true_eq,not_or] at this
  omega
 match a with
 | 0=> exact hb r.a0 (by simp)
 | 1=> exact hb r.a1 (by simp)
 | 2=> exact hb r.a2 (by simp)
 | 3=> exact hb r.a3 (by simp)
 | a+4=> exact hb r.a4 (by simp)
theorem Jdn {l:List TRow} (h:(JbK l).2=0) {i:Nat} (hi:i < l.length):((l.getD i Jg).mux=0∨(l.getD i Jg).mux=1∨(l.getD i Jg).mux=2)∧0≤(l.getD i Jg).sub∧(l.getD i Jg).sub≤255:=by
 have:=(Jen ((Jdh h).2 i hi)).2.2.2.1
 unfold Jgm at this
 simp only [Bool.or_eq_false_iff,Bool.and_eq_false_iff,decide_eq_false_iff_not] at this
 omega
def Jo9 (l:List TRow) (s:ByteArray):Prop:=∃i,i < l.length∧Jau l s=l.getD i Jg∧(l.getD i Jg).name=s
theorem JgF {a d:Nat} {x:Bool} {row:TRow} {rs:List PRul} {e:PEnt} (h:e∈Jav a d x row rs):¬row.num a < 0∧e.num=Jat a (row.num a):=by
 unfold Jav at h
 split at h
 ·cases h
 ·rename_i q
  rw [List.mem_singleton.1 h]
  exact ⟨fun k=> q (.inl k),rfl⟩
theorem JgG {m:Nat} {row:TRow} {rs:List PRul} {e:PSub} (h:e∈Jbq m row rs):row.mux=(m:Int)+1∧e.num=row.sub.toNat:=by
 unfold Jbq at h
 split at h
 ·rename_i q
  rw [List.mem_singleton.1 h]
  exact ⟨q,rfl⟩
 ·cases h
theorem Juo {a d:Nat} {x:Bool} {row:TRow} {rs:List PRul}:((Jav a d x row rs).map (·.num)).Nodup:=by
 unfold Jav
 split
 ·exact List.nodup_nil
 ·simp
theorem Jup {m:Nat} {row:TRow} {rs:List PRul}:((Jbq m row rs).map (·.num)).Nodup:=by
 unfold Jbq
 split
 ·simp
 ·exact List.nodup_nil
theorem JhD {p:Pol} {l:List TRow} (ht:(JbK l).2=0) {a:Nat} (ha:a < 5):∀ {gs:List (ByteArray×List Rul)},(gs.Pairwise fun x y=> x.1≠y.1)→(∀g∈gs,Jo9 l g.1)→((Jbh p l gs a).map (·.num)).Nodup
 | [],_,_=> List.nodup_nil
 | g::gs,h1,h2=> by
   obtain ⟨q1,q2⟩:=List.pairwise_cons.1 h1
   have ih:=JhD (p:=p) ht ha q2 fun g hg=> h2 g (.tail _ hg)
   show (((Jav a (Jp p.dflt) p.x32 (Jau l g.1) (g.2.map JP))++Jbh p l gs a).map (·.num)).Nodup
   rw [List.map_append,List.nodup_append]
   refine ⟨Juo,ih,fun n hn n' hn'=> ?_⟩
   rintro rfl
   obtain ⟨e,he,rfl⟩:=List.mem_map.1 hn
   obtain ⟨e',he',hee⟩:=List.mem_map.1 hn'
   unfold Jbh at he'
   obtain ⟨g',hg',he'⟩:=List.mem_flatMap.1 he'
   obtain ⟨i,hi,r1,n1⟩:=h2 g (.head _)
   obtain ⟨j,hj,r2,n2⟩:=h2 g' (.tail _ hg')
   obtain ⟨k1,k2⟩:=JgF he
   obtain ⟨k3,k4⟩:=JgF he'
   rw [r1] at k1 k2
   rw [r2] at k3 k4
   have b1:=Jc8 ht (a:=a) hi
   have b2:=Jc8 ht (a:=a) hj
   rw [k2,k4,JeK Om b2.1,JeK Om b1.1] at hee
   have hnum:(l.getD j Jg).num a=(l.getD i Jg).num a:=by
    split at hee <;> omega
   have:=JlH ht ha hi hj Om hnum
   subst this
   exact q1 g' hg' (n1.symm.trans n2)
theorem JhE {l:List TRow} (ht:(JbK l).2=0) {m:Nat}:∀ {gs:List (ByteArray×List Rul)},(gs.Pairwise fun x y=> x.1≠y.1)→(∀g∈gs,Jo9 l g.1)→((Jcd l gs m).map (·.num)).Nodup
 | [],_,_=> List.nodup_nil
 | g::gs,h1,h2=> by
   obtain ⟨q1,q2⟩:=List.pairwise_cons.1 h1
   have ih:=JhE ht (m:=m) q2 fun g hg=> h2 g (.tail _ hg)
   show (((Jbq m (Jau l g.1) (g.2.map JP))++Jcd l gs m).map (·.num)).Nodup
   rw [List.map_append,List.nodup_append]
   refine ⟨Jup,ih,fun n hn n' hn'=> ?_⟩
   rintro rfl
   obtain ⟨e,he,rfl⟩:=List.mem_map.1 hn
   obtain ⟨e',he',hee⟩:=List.mem_map.1 hn'
   unfold Jcd at he'
   obtain ⟨g',hg',he'⟩:=List.mem_flatMap.1 he'
   obtain ⟨i,hi,r1,n1⟩:=h2 g (.head _)
   obtain ⟨j,hj,r2,n2⟩:=h2 g' (.tail _ hg')
   obtain ⟨k1,k2⟩:=JgG he
   obtain ⟨k3,k4⟩:=JgG he'
   rw [r1] at k1 k2
   rw [r2] at k3 k4
   have b1:=Jdn ht hi
   have b2:=Jdn ht hj
   have:=JlI ht hi hj Om Om Om
   subst this
   exact q1 g' hg' (n1.symm.trans n2)
end Go.Proofs.W

namespace Go.Proofs
open Go.Shelf
shelf_lay LaysM.n171 Nm 171 at Tryz as Tryz.laysM171
end Go.Proofs
namespace Go.Proofs.W
open Go.Vl Go.Shelf Go.RowKit
set_option maxRecDepth 100000
theorem JqP {w : World} (h : Kn w none2) : Lib.TabIs Tryz.prog w "internal/strconv.uint64pow10" .u64 Lib.pow10Tab := by
 obtain ⟨⟨e,fz,h1⟩,_⟩:=h (1,(Go.Lib.pow10Tab.map fun z=> Value.int .u64 z).toArray) (by unfold Ju1;exact List.mem_cons_self)
 unfold Lib.TabIs World.var?
 rw [show Tryz.prog.globalNamed "internal/strconv.uint64pow10" = some 1 from by kernel_rfl]
 simp only [Option.bind_some]
 rw [h1]
theorem Juq {W : World} (h : Lib.TabIs Tryz.prog W "internal/strconv.uint64pow10" .u64 Lib.pow10Tab) : Kn W none2 := by
 unfold Lib.TabIs World.var? at h
 rw [show Tryz.prog.globalNamed "internal/strconv.uint64pow10" = some 1 from by kernel_rfl, Option.bind_some] at h
 intro p hp
 unfold Ju1 at hp
 obtain rfl:=List.mem_singleton.1 hp
 refine ⟨?_,fun _ h=> h⟩
 split at h
 ·rename_i cs e fz hb
  cases h
  exact ⟨_,_,hb⟩
 ·cases h
theorem Jjq (w:World):∀n,Below w.heap.size w (w.drewN n)
 | 0=> Below.refl _ _
 | n+1=> (Jjq w n).drew
theorem Jqj (w:World) (k:Nat) (os:Array Obj):Below w.heap.size w (Sort.grow (w.drewN k) os):=by
 have h:=Jjq w k
 refine ⟨h.os,h.tape,h.output,Nat.le_trans h.size (by simp [Sort.grow]),fun j hj=> ?_⟩
 rw [Sort.heap_grow_old _ _ (Nat.lt_of_lt_of_le hj h.size)]
 exact h.block j hj
def Jdv (n:Nat):ByteArray:=⟨(Lib.decDigits n).toArray⟩
theorem Jv0 (n:Nat):Lib.itoa (n:Int)=Lib.decDigits n:=by
 unfold Lib.itoa
 rw [if_neg Om]
 rfl
theorem Jur (n:Nat) (hn:n≤9223372036854775807):Tells Tryz.prog 173 [int n] (Jh (Jdv n)):=
 Jdx (vs:= [.int .i64 n]) ⟨_,Tryz.func173,rfl,rfl⟩ fun w hk=> (Any.strconv_Itoa Tryz.laysM171 n Om Om w (JqP hk)).mono fun e w' ⟨h1,k,os,h2⟩=> ⟨by rw [h1,Jv0];rfl,by rw [h2];exact Jqj w k os⟩
end Go.Proofs.W

namespace Go.Proofs.W
open Go.Vl
set_option maxRecDepth 100000
abbrev Bts:=List UInt8
theorem Jeo {x:UInt8}:∀ {a b r s:Bts},x∉a→x∉b→a++x::r=b++x::s→a=b∧r=s
 | [], [],r,s,_,_,h=> ⟨rfl,(List.cons.inj h).2⟩
 | [],y::b,r,s,_,hb,h=> absurd (List.mem_cons.2 (.inl (List.cons.inj h).1)) hb
 | y::a, [],r,s,ha,_,h=> absurd (List.mem_cons.2 (.inl (List.cons.inj h).1.symm)) ha
 | y::a,z::b,r,s,ha,hb,h=> by
   obtain ⟨h1,h2⟩:=List.cons.inj h
   obtain ⟨h3,h4⟩:=Jeo (fun q=> ha (List.mem_cons_of_mem _ q)) (fun q=> hb (List.mem_cons_of_mem _ q)) h2
   exact ⟨by rw [h1,h3],h4⟩
def Jyk (l:Bts):Nat:=l.foldl (fun v b=> 10 * v+(b.toNat - 48)) 0
theorem JiV {n:Nat} (h:n < 10):(UInt8.ofNat (48+n)).toNat=48+n:=by
 rw [UInt8.toNat_ofNat']
 exact Nat.mod_eq_of_lt Om
theorem JqQ:∀n:Nat,Jyk (Lib.decDigits n)=n:=by
 intro n
 induction n using Nat.strongRecOn with
 | ind n ih=>
   rw [Lib.decDigits]
   split
   ·rename_i h
    show 10 * 0+((UInt8.ofNat (48+n)).toNat - 48)=n
    rw [JiV h]
    omega
   ·have:=ih (n / 10) Om
    unfold Jyk at this⊢
    rw [List.foldl_append,this]
    show 10 * (n / 10)+((UInt8.ofNat (48+n % 10)).toNat - 48)=n
    rw [JiV (Nat.mod_lt _ Dc)]
    omega
theorem JiW {m n:Nat} (h:Lib.decDigits m=Lib.decDigits n):m=n:=by rw [← JqQ m,h,JqQ]
theorem Jxl:∀ {n:Nat} {b:UInt8},b∈Lib.decDigits n→48≤b.toNat∧b.toNat≤57:=by
 intro n
 induction n using Nat.strongRecOn with
 | ind n ih=>
   intro b hb
   rw [Lib.decDigits] at hb
   split at hb
   ·rename_i h
    rw [List.mem_singleton.1 hb,JiV h]
    omega
   ·rcases List.mem_append.1 hb with h | h
    ·exact ih (n / 10) Om h
    ·rw [List.mem_singleton.1 h,JiV (Nat.mod_lt _ Dc)]
     have:=Nat.mod_lt n (by decide:0 < 10)
     omega
theorem Jil {n:Nat} {b:UInt8} (h:b.toNat < 48∨57 < b.toNat):b∉Lib.decDigits n:=fun q=> by
 have:=Jxl q
 omega
def opsT:List Bts:= [[61,61], [33,61], [60], [60,61], [62], [62,61], [38]]
def opT (k:Nat):Bts:=opsT.getD k []
def Jaf (c:Cnd):Bts:= [97]++(Lib.decDigits c.arg.toNat++32::(opT (c.op.toNat - 1)++32::(if c.op=7 then Lib.decDigits c.mask++32::(61::61::32::Lib.decDigits c.value) else Lib.decDigits c.value)))
theorem Jpa:∀k:Nat,k < 7→(32:UInt8)∉opT k∧(59:UInt8)∉opT k:=by decide
theorem Jxm:∀j:Nat,j < 7→∀k:Nat,k < 7→opT j=opT k→j=k:=by decide
theorem JmL {c d:Cnd} (hc:JK c=true) (hd:JK d=true) (h:Jaf c=Jaf d):c=d:=by
 obtain ⟨a1,a2,a3,a4,a5⟩:=J8.1 hc
 obtain ⟨b1,b2,b3,b4,b5⟩:=J8.1 hd
 unfold Jaf at h
 obtain ⟨_,h⟩:=List.cons.inj h
 obtain ⟨h1,h⟩:=Jeo (Jil Dc) (Jil Dc) h
 obtain ⟨h2,h⟩:=Jeo (Jpa _ Om).1 (Jpa _ Om).1 h
 have e1:c.arg=d.arg:=by have:=JiW h1;omega
 have e2:c.op=d.op:=by have:=Jxm _ Om _ Om h2;omega
 obtain ⟨carg,cop,cm,cv⟩:=c
 obtain ⟨darg,dop,dm,dv⟩:=d
 dsimp only at *
 subst e1;subst e2
 by_cases h7:cop=7
 ·rw [if_pos h7,if_pos h7] at h
  obtain ⟨h3,h⟩:=Jeo (Jil Dc) (Jil Dc) h
  have h4:=(List.cons.inj (List.cons.inj (List.cons.inj h).2).2).2
  rw [JiW h3,JiW h4]
 ·rw [if_neg h7,if_neg h7] at h
  rw [JiW h]
  have q1:cm=0:=a5.resolve_left h7
  have q2:dm=0:=b5.resolve_left h7
  rw [q1,q2]
theorem Jv1 {c:Cnd} (hc:JK c=true):(59:UInt8)∉Jaf c:=by
 obtain ⟨a1,a2,a3,a4,a5⟩:=J8.1 hc
 have hd:∀n:Nat,(59:UInt8)∉Lib.decDigits n:=fun n=> Jil Dc
 have ho:=(Jpa (c.op.toNat - 1) Om).2
 unfold Jaf
 split
 ·simp [hd,ho]
 ·simp [hd,ho]
theorem Jpb (c:Cnd):Jaf c≠ []:=List.cons_ne_nil _ _
def JeL (x:UInt8):List Bts→Bts
 | []=> []
 | [a]=> a
 | a::b::l=> a++x::JeL x (b::l)
theorem Jce {x:UInt8} {a:Bts} {l:List Bts} (h:l≠ []):JeL x (a::l)=a++x::JeL x l:=by
 cases l with
 | nil=> exact absurd rfl h
 | cons b l=> rfl
theorem JmM {x:UInt8}:∀ {l m:List Bts},(∀a∈l,x∉a∧a≠ [])→(∀a∈m,x∉a∧a≠ [])→JeL x l=JeL x m→l=m
 | [], [],_,_,_=> rfl
 | [],b::m,_,hm,h=> by
   exfalso
   have hb:=(hm b (.head _)).2
   cases m with
   | nil=> exact hb h.symm
   | cons c m=> rw [Jce (List.cons_ne_nil _ _)] at h;exact hb (List.append_eq_nil_iff.1 h.symm).1
 | a::l, [],hl,_,h=> by
   exfalso
   have ha:=(hl a (.head _)).2
   cases l with
   | nil=> exact ha h
   | cons c l=> rw [Jce (List.cons_ne_nil _ _)] at h;exact ha (List.append_eq_nil_iff.1 h).1
 | a::l,b::m,hl,hm,h=> by
   have ha:=(hl a (.head _)).1
   have hb:=(hm b (.head _)).1
   cases l with
   | nil=>
     cases m with
     | nil=> rw [show a=b from h]
     | cons c m=>
       exfalso
       rw [Jce (l:=c::m) (List.cons_ne_nil _ _)] at h
       exact ha (by rw [show a=b++x::JeL x (c::m) from h];simp)
   | cons c l=>
     cases m with
     | nil=>
       exfalso
       rw [Jce (l:=c::l) (List.cons_ne_nil _ _)] at h
       exact hb (by rw [← show a++x::JeL x (c::l)=b from h];simp)
     | cons d m=>
       rw [Jce (List.cons_ne_nil _ _),Jce (List.cons_ne_nil _ _)] at h
       obtain ⟨h1,h2⟩:=Jeo ha hb h
       rw [h1,JmM (fun q hq=> hl q (.tail _ hq)) (fun q hq=> hm q (.tail _ hq)) h2]
end Go.Proofs.W

namespace Go.Proofs.W
open Go.Vl
set_option maxRecDepth 100000
def cUs (d:Array Bts):Nat→List Bts
 | 0=> []
 | m+1=> if m=0∨d[m]! ≠d[m - 1]! then cUs d m++ [d[m]!] else cUs d m
theorem Jpc (d:Array Bts):∀m,(cUs d m).length≤m
 | 0=> Nat.le_refl _
 | m+1=> by
   have:=Jpc d m
   unfold cUs
   split
   ·simp;omega
   ·omega
theorem Jpd {d:Array Bts}:∀ {m:Nat},m≤d.size→(∀i j,i < j→j < m→Go.Sort.ltStr d[j]! d[i]! =false)→(cUs d m).Pairwise RSb∧∀x,x∈cUs d m↔∃j,j < m∧d[j]! =x
 | 0,_,_=> ⟨List.Pairwise.nil,fun x=> by simp [cUs]⟩
 | m+1,hm,hs=> by
   obtain ⟨h1,h2⟩:=Jpd (m:=m) Om fun i j a b=> hs i j a Om
   by_cases hc:m=0∨d[m]! ≠d[m - 1]!
   ·rw [cUs,if_pos hc]
    refine ⟨?_,fun x=> ?_⟩
    ·rw [List.pairwise_append]
     refine ⟨h1,List.pairwise_singleton _ _,fun a ha b hb=> ?_⟩
     rw [List.mem_singleton] at hb
     subst hb
     obtain ⟨j,hj,rfl⟩:=(h2 a).1 ha
     cases hlt:Go.Sort.ltStr d[j]! d[m]! with
     | true=> exact hlt
     | false=>
       exfalso
       have h3:=hs (m - 1) m Om Om
       have h4:Go.Sort.ltStr d[m - 1]! d[m]! =false:=by
        rcases Nat.lt_or_ge j (m - 1) with q | q
        ·exact Go.Sort.swo_ltStr.ntrans _ _ _ (hs j (m - 1) q Om) hlt
        ·rw [show m - 1=j by omega];exact hlt
       rcases hc with hc | hc
       ·omega
       ·exact hc (Jkv _ _ h3 h4)
    ·rw [List.mem_append,h2,List.mem_singleton]
     constructor
     ·rintro (⟨j,hj,rfl⟩ | rfl)
      ·exact ⟨j,by omega,rfl⟩
      ·exact ⟨m,by omega,rfl⟩
     ·rintro ⟨j,hj,rfl⟩
      rcases Nat.lt_or_ge j m with q | q
      ·exact .inl ⟨j,q,rfl⟩
      ·exact .inr (by rw [show j=m by omega])
   ·rw [cUs,if_neg hc]
    refine ⟨h1,fun x=> ?_⟩
    rw [h2]
    constructor
    ·rintro ⟨j,hj,rfl⟩;exact ⟨j,by omega,rfl⟩
    ·rintro ⟨j,hj,rfl⟩
     rcases Nat.lt_or_ge j m with q | q
     ·exact ⟨j,q,rfl⟩
     ·have hj':j=m:=by omega
      subst hj'
      have:j≠0:=fun h=> hc (.inl h)
      exact ⟨j - 1,by omega,by by_cases he:d[j]! =d[j - 1]!;exact he.symm;exact absurd (.inr he) hc⟩
def JfV (l:List Bts):List Bts:=JaA Go.Sort.ltStr l
def Jcz (l:List Bts):List Bts:=cUs (JfV l).toArray (JfV l).length
theorem JbB (l:List Bts):(Jcz l).Pairwise RSb∧∀x,x∈Jcz l↔x∈l:=by
 have hp:=Jfg Go.Sort.swo_ltStr l
 have hm:∀x,x∈JfV l↔x∈l:=fun x=> Jhv
 unfold Jcz
 have hp':(JfV l).Pairwise fun a b=> Go.Sort.ltStr b a=false:=hp
 generalize JfV l=S at hm hp'
 obtain ⟨h1,h2⟩:=Jpd (d:=S.toArray) (m:=S.length) (by simp) fun i j hij hj=> by
  have hi:i < S.length:=by omega
  have:=List.pairwise_iff_getElem.1 hp' i j hi hj hij
  simpa [hi,hj] using this
 refine ⟨h1,fun x=> (h2 x).trans ?_⟩
 rw [← hm,List.mem_iff_getElem]
 constructor
 ·rintro ⟨j,hj,rfl⟩
  exact ⟨j,hj,by simp [hj]⟩
 ·rintro ⟨j,hj,rfl⟩
  exact ⟨j,hj,by simp [hj]⟩
def JgV (cs:List Cnd):Bts:=JeL 59 (Jcz (cs.map Jaf))
theorem JkV {cs:List Cnd} (h:∀c∈cs,JK c=true):∀a∈Jcz (cs.map Jaf),(59:UInt8)∉a∧a≠ []:=fun a ha=> by
 obtain ⟨c,hc,rfl⟩:=List.mem_map.1 (((JbB _).2 a).1 ha)
 exact ⟨Jv1 (h c hc),Jpb c⟩
theorem Jpe {cs ds:List Cnd} (hc:∀c∈cs,JK c=true) (hd:∀c∈ds,JK c=true):JgV cs=JgV ds↔∀c,c∈cs↔c∈ds:=by
 constructor
 ·intro h c
  have e:=JmM (JkV hc) (JkV hd) h
  have hm:∀x,x∈cs.map Jaf↔x∈ds.map Jaf:=fun x=> by rw [← (JbB _).2,e,(JbB _).2]
  constructor
  ·intro q
   obtain ⟨d,hd1,hd2⟩:=List.mem_map.1 ((hm (Jaf c)).1 (List.mem_map_of_mem q))
   rw [← JmL (hd d hd1) (hc c q) hd2]
   exact hd1
  ·intro q
   obtain ⟨d,hd1,hd2⟩:=List.mem_map.1 ((hm (Jaf c)).2 (List.mem_map_of_mem q))
   rw [← JmL (hc d hd1) (hd c q) hd2]
   exact hd1
 ·intro h
  unfold JgV
  refine congrArg _ (JkF (JbB _).1 (JbB _).1 fun z=> ?_)
  rw [(JbB _).2,(JbB _).2,List.mem_map,List.mem_map]
  exact ⟨fun ⟨c,q1,q2⟩=> ⟨c,(h c).1 q1,q2⟩,fun ⟨c,q1,q2⟩=> ⟨c,(h c).2 q1,q2⟩⟩
theorem JjR {cs:List Cnd}:JgV cs= []↔cs= []:=by
 constructor
 ·intro h
  cases cs with
  | nil=> rfl
  | cons c cs=>
    exfalso
    have hm:=((JbB ((c::cs).map Jaf)).2 (Jaf c)).2 (by simp)
    unfold JgV at h
    have hne:∀a∈Jcz ((c::cs).map Jaf),a≠ []:=fun a ha=> by
     obtain ⟨d,_,rfl⟩:=List.mem_map.1 (((JbB _).2 a).1 ha)
     exact Jpb d
    generalize Jcz ((c::cs).map Jaf)=L at h hm hne
    cases L with
    | nil=> cases hm
    | cons a L=>
      cases L with
      | nil=> exact hne a (.head _) h
      | cons b L=>
        rw [Jce (List.cons_ne_nil _ _)] at h
        exact hne a (.head _) (List.append_eq_nil_iff.1 h).1
 ·rintro rfl
  have h:Jcz (([]:List Cnd).map Jaf)= []:=List.eq_nil_iff_forall_not_mem.2 fun x hx=> by cases ((JbB _).2 x).1 hx
  unfold JgV
  rw [h]
  rfl
end Go.Proofs.W

namespace Go.Proofs.W
open Go.Vl
set_option maxRecDepth 100000
def JfF (c:Cnd):Bool:=decide (c.op=7)&& decide (JgP c.value c.mask≠0)
def JkW (a b:List Cnd):Bool:=(a.all fun c=> decide (c∈b))&& b.all fun c=> decide (c∈a)
def JgW (r q:Rul):Bool:=kS q.name r.name&& (decide (q.conds.length=0)|| JkW q.conds r.conds)
def JcL (l:List TRow) (rs:List Rul) (i:Nat):Int:=if Ja2 l (rs.getD i Jl).name=false then 14 else if (rs.getD i Jl).conds.any JfF=true then 16 else if (rs.take i).any (JgW (rs.getD i Jl))=true then 15 else 0
def Jfw (l:List TRow) (rs:List Rul):Option Nat:=(List.range rs.length).find? fun i=> decide (JcL l rs i≠0)
def J7 (p:Pol) (l:List TRow):Int×Int:=if JaJ p=false then (0,13) else if (JbK l).2≠0 then (0,18) else match Jfw l p.rules with
 | some i=> ((i:Int),JcL l p.rules i)
 | none=> (0,0)
def JhF (r:Rul):Bts:=r.name.data.toList
def JhG (r:Rul):Bts:=JhF r++58::JgV r.conds
theorem Jxn {l:List UInt8} (h:Jay l=true):(58:UInt8)∉l:=fun q=> by
 unfold Jay at h
 simp only [Bool.and_eq_true] at h
 have:=List.all_eq_true.1 h.2.2.2.2.1 58 q
 revert this
 decide
theorem JgH {r:Rul} (h:Jax r=true):(58:UInt8)∉JhF r:=Jxn (by
 unfold Jax at h
 simp only [Bool.and_eq_true] at h
 exact h.1)
theorem JdZ {r:Rul} (h:Jax r=true):∀c∈r.conds,JK c=true:=fun c hc=> by
 unfold Jax at h
 simp only [Bool.and_eq_true] at h
 have:=h.2.2.2
 simp only [Bool.not_eq_true',List.any_eq_false] at this
 simpa using this c hc
theorem JmN {a b:List Cnd}:JkW a b=true↔∀c,c∈a↔c∈b:=by
 unfold JkW
 simp only [Bool.and_eq_true,List.all_eq_true,decide_eq_true_eq]
 exact ⟨fun h c=> ⟨h.1 c,h.2 c⟩,fun h=> ⟨fun c=> (h c).1,fun c=> (h c).2⟩⟩
theorem Jpf {q r:Rul} (hq:Jax q=true) (hr:Jax r=true):JhG q=JhG r↔kS q.name r.name=true∧JkW q.conds r.conds=true:=by
 unfold JhG
 constructor
 ·intro h
  obtain ⟨h1,h2⟩:=Jeo (JgH hq) (JgH hr) h
  exact ⟨Ja4.2 (JgC h1),JmN.2 ((Jpe (JdZ hq) (JdZ hr)).1 h2)⟩
 ·rintro ⟨h1,h2⟩
  unfold JhF
  rw [Ja4.1 h1,(Jpe (JdZ hq) (JdZ hr)).2 (JmN.1 h2)]
theorem Jpg {q r:Rul} (hq:Jax q=true) (hr:Jax r=true):JhG q=JhF r++ [58]↔kS q.name r.name=true∧q.conds.length=0:=by
 unfold JhG
 constructor
 ·intro h
  obtain ⟨h1,h2⟩:=Jeo (JgH hq) (JgH hr) h
  exact ⟨Ja4.2 (JgC h1),List.length_eq_zero_iff.2 (JjR.1 h2)⟩
 ·rintro ⟨h1,h2⟩
  unfold JhF
  rw [Ja4.1 h1,JjR.2 (List.length_eq_zero_iff.1 h2)]
def JkX (rs:List Rul) (i:Nat):List Bts:=(rs.take i).map JhG
theorem Jus {rs:List Rul} (h:∀r∈rs,Jax r=true) {i:Nat} {r:Rul} (hr:Jax r=true):(JhF r++ [58]∈JkX rs i∨JhG r∈JkX rs i)↔(rs.take i).any (JgW r)=true:=by
 unfold JkX
 rw [List.any_eq_true]
 constructor
 ·rintro (q | q)
  ·obtain ⟨x,hx,he⟩:=List.mem_map.1 q
   obtain ⟨k1,k2⟩:=(Jpg (h x (List.mem_of_mem_take hx)) hr).1 he
   exact ⟨x,hx,by unfold JgW;rw [k1,decide_eq_true k2];rfl⟩
  ·obtain ⟨x,hx,he⟩:=List.mem_map.1 q
   obtain ⟨k1,k2⟩:=(Jpf (h x (List.mem_of_mem_take hx)) hr).1 he
   exact ⟨x,hx,by unfold JgW;rw [k1,k2,Bool.or_true];rfl⟩
 ·rintro ⟨x,hx,he⟩
  unfold JgW at he
  rw [Bool.and_eq_true,Bool.or_eq_true,decide_eq_true_iff] at he
  have hxr:=h x (List.mem_of_mem_take hx)
  rcases he with ⟨k1,k2 | k2⟩
  ·exact .inl (List.mem_map.2 ⟨x,hx,(Jpg hxr hr).2 ⟨k1,k2⟩⟩)
  ·exact .inr (List.mem_map.2 ⟨x,hx,(Jpf hxr hr).2 ⟨k1,k2⟩⟩)
theorem Jv2 {l:List TRow} {rs:List Rul} {i:Nat} (hi:i < rs.length) (h:∀j,j < i→JcL l rs j=0) (hv:JcL l rs i≠0):Jfw l rs=some i:=by
 unfold Jfw
 rw [List.find?_eq_some_iff_getElem]
 refine ⟨by simpa using hv,i,by simpa using hi,by simp,fun j hj=> ?_⟩
 simp [h j hj]
theorem JkY {l:List TRow} {rs:List Rul} (h:∀j,j < rs.length→JcL l rs j=0):Jfw l rs=none:=by
 unfold Jfw
 rw [List.find?_eq_none]
 intro j hj
 simp [h j (List.mem_range.1 hj)]
end Go.Proofs.W

namespace Go.Proofs.W
open Go.Vl
set_option maxRecDepth 100000
theorem Jab {p:Pol} {l:List TRow}:(J7 p l).2=0↔JaJ p=true∧(JbK l).2=0∧∀i,i < p.rules.length→JcL l p.rules i=0:=by
 unfold J7
 by_cases h1:JaJ p=false
 ·rw [if_pos h1]
  exact ⟨fun h=> absurd h Dc,fun h=> by rw [h1] at h;cases h.1⟩
 rw [if_neg h1]
 by_cases h2:(JbK l).2≠0
 ·rw [if_pos h2]
  exact ⟨fun h=> absurd h Dc,fun h=> absurd h.2.1 h2⟩
 rw [if_neg h2]
 constructor
 ·intro h
  refine ⟨by simpa using h1,by simpa using h2,fun i hi=> ?_⟩
  cases hf:Jfw l p.rules with
  | none=>
    unfold Jfw at hf
    have:=List.find?_eq_none.1 hf i (List.mem_range.2 hi)
    simpa using this
  | some j=>
    rw [hf] at h
    unfold Jfw at hf
    have:=List.find?_some hf
    exact absurd h (by simpa using this)
 ·rintro ⟨_,_,h⟩
  rw [JkY h]
theorem Jut {p:Pol} {l:List TRow} (h:(J7 p l).2=0):J7 p l=(0,0):=by
 obtain ⟨h1,h2,h3⟩:=Jab.1 h
 unfold J7
 rw [if_neg (by rw [h1];decide),if_neg Om,JkY h3]
theorem Juu {p:Pol} {l:List TRow} (h1:JaJ p=true) (h2:(JbK l).2=0) {i:Nat} (hi:i < p.rules.length) (h3:∀j,j < i→JcL l p.rules j=0) {v:Int} (h4:JcL l p.rules i=v) (h5:v≠0):J7 p l=((i:Int),v):=by
 unfold J7
 rw [if_neg (by rw [h1];decide),if_neg Om,Jv2 hi h3 (by rw [h4];exact h5)]
 exact congrArg _ h4
theorem Jxo {l:List TRow} {rs:List Rul} {i:Nat}:JcL l rs i=0↔Ja2 l (rs.getD i Jl).name=true∧(rs.getD i Jl).conds.any JfF=false∧(rs.take i).any (JgW (rs.getD i Jl))=false:=by
 unfold JcL
 by_cases h1:Ja2 l (rs.getD i Jl).name=false
 ·rw [if_pos h1];exact ⟨fun h=> absurd h Dc,fun h=> by rw [h1] at h;cases h.1⟩
 rw [if_neg h1]
 by_cases h2:(rs.getD i Jl).conds.any JfF=true
 ·rw [if_pos h2];exact ⟨fun h=> absurd h Dc,fun h=> by rw [h2] at h;cases h.2.1⟩
 rw [if_neg h2]
 by_cases h3:(rs.take i).any (JgW (rs.getD i Jl))=true
 ·rw [if_pos h3];exact ⟨fun h=> absurd h Dc,fun h=> by rw [h3] at h;cases h.2.2⟩
 rw [if_neg h3]
 exact ⟨fun _=> ⟨by simpa using h1,by simpa using h2,by simpa using h3⟩,fun _=> rfl⟩
theorem JkZ {p:Pol}:JaJ p=true↔JaI p.dflt.1 p.dflt.2=true∧p.rules.length≤500∧∀r∈p.rules,Jax r=true:=by
 unfold JaJ
 simp only [Bool.and_eq_true,decide_eq_true_eq,Bool.not_eq_true',List.any_eq_false,Bool.not_eq_false']
 exact ⟨fun h=> ⟨h.1,h.2.1,fun r hr=> by simpa using h.2.2 r hr⟩,fun h=> ⟨h.1,h.2.1,fun r hr=> by simpa using h.2.2 r hr⟩⟩
end Go.Proofs.W

namespace Go.Proofs.W
open Go.Vl
set_option maxRecDepth 100000
theorem JmO {l:List TRow} {s:ByteArray} (h:Ja2 l s=true):Jo9 l s:=by
 have h1:Jau l s=l.getD (Jbr l s) Jg:=if_pos h
 unfold Ja2 at h
 simp only [Bool.and_eq_true,decide_eq_true_eq] at h
 exact ⟨_,h.1,h1,JqE.1 h.2⟩
theorem Je1 {p:Pol} {n:Rul} (h:n∈(Jc p).rules):∃r∈p.rules,JaF r=some n:=JiS h
theorem Jcf (p:Pol):Jun (Jc p).rules:=by
 show ((Jc2 (Jaa p.rules)).flatMap fun nm=> JcB p.dflt (JaT (Jaa p.rules) ⟨nm.toArray⟩)).Pairwise _
 have hname:∀(z:List UInt8) (r:Rul),r∈JcB p.dflt (JaT (Jaa p.rules) ⟨z.toArray⟩)→nmL r.name=z:=fun z r hr=> by
  have h:=JhB hr
  rw [Jfi] at h
  rw [(JiR h).1]
  unfold nmL
  simp
 rw [List.pairwise_flatMap]
 refine ⟨fun z _=> ?_,(Jjo (Jgn p.rules)).imp fun {a b} h x hx y hy=> ?_⟩
 ·refine List.pairwise_of_forall_mem_list fun x hx y hy=> ?_
  rw [hname z x hx,hname z y hy,JhC]
 ·rw [hname a x hx,hname b y hy]
  cases hl:Go.Sort.ltStr b a with
  | false=> rfl
  | true=> exact absurd (JyT _ _ _ h hl) (Jui _)
theorem JeM {p:Pol}:(JN (Jc p).rules).Pairwise fun x y=> x.1≠y.1:=
 (Jcm (Jcf p)).up.imp fun h e=> by rw [e,JhC] at h;cases h
theorem JcM {p:Pol} {l:List TRow} (h:∀r∈p.rules,Ja2 l r.name=true):∀g∈JN (Jc p).rules,Jo9 l g.1:=fun g hg=> by
 obtain ⟨k1,k2⟩:=(Jcm (Jcf p)).rows g hg
 obtain ⟨q,hq⟩:=List.exists_mem_of_ne_nil _ k2
 rw [k1] at hq
 obtain ⟨q1,q2⟩:=List.mem_filter.1 hq
 obtain ⟨r,hr,hn⟩:=Je1 q1
 rw [← Ja4.1 q2,(Jbv hn).2.1]
 exact JmO (h r hr)
theorem JbX {p:Pol} {l:List TRow} (h:(J7 p l).2=0):∀r∈p.rules,Ja2 l r.name=true:=fun r hr=> by
 obtain ⟨_,_,h3⟩:=Jab.1 h
 obtain ⟨i,hi,rfl⟩:=List.getElem_of_mem hr
 have:=h3 i hi
 unfold JcL at this
 rw [show p.rules.getD i Jl=p.rules[i] by simp [List.getD,hi]] at this
 cases hf:Ja2 l p.rules[i].name with
 | true=> rfl
 | false=> rw [if_pos hf] at this;cases this
def Jag (p:Pol) (l:List TRow):Plan:=⟨Jp p.dflt,p.x32,fun a=> Jfj (Jbh (Jc p) l (JN (Jc p).rules) a),fun m=> JiU (Jcd l (JN (Jc p).rules) m)⟩
theorem Juv {p:Pol} {l:List TRow} (h:(J7 p l).2=0) {a:Nat} (ha:a < 5) {D:List (Nat×AV)} (e:PEnt→Nat×AV) (he:∀x,(e x).1=x.num) (hp:D.Perm ((Jbh (Jc p) l (JN (Jc p).rules) a).map e)) (hs:D.Pairwise fun x y=> x.1≤y.1):D=((Jag p l).ents a).map e:=by
 have hn:=JhD (p:=Jc p) (Jab.1 h).2.1 ha JeM (JcM (p:=p) (JbX h))
 refine JgU (key:=(·.1)) (hp.trans ((JfT _).symm.map e)) hs ?_ ?_
 ·rw [List.pairwise_map]
  exact (Jo7 _).imp fun h=> by rw [he,he];exact h
 ·refine (hp.map (·.1)).nodup_iff.2 ?_
  rw [List.map_map,show ((fun x:Nat×AV=> x.1)∘e)=(fun x:PEnt=> x.num) from funext he]
  exact hn
theorem Juw {p:Pol} {l:List TRow} (h:(J7 p l).2=0) {a:Nat} {D:List (Nat×AV)} (e:PSub→Nat×AV) (he:∀x,(e x).1=x.num) (hp:D.Perm ((Jcd l (JN (Jc p).rules) a).map e)) (hs:D.Pairwise fun x y=> x.1≤y.1):D=((Jag p l).subs a).map e:=by
 have hn:=JhE (m:=a) (Jab.1 h).2.1 JeM (JcM (p:=p) (JbX h))
 refine JgU (key:=(·.1)) (hp.trans ((JfU _).symm.map e)) hs ?_ ?_
 ·rw [List.pairwise_map]
  exact (Jo8 _).imp fun h=> by rw [he,he];exact h
 ·refine (hp.map (·.1)).nodup_iff.2 ?_
  rw [List.map_map,show ((fun x:Nat×AV=> x.1)∘e)=(fun x:PSub=> x.num) from funext he]
  exact hn
end Go.Proofs.W

namespace Go.Proofs.W
open Go.Vl
set_option maxRecDepth 100000
theorem Jv3 {arg op:Int} {mask value:Nat} (h:value > 4294967295):Ja3 ⟨arg,op,mask,value⟩=(cnd0,if op=2∨op=3 then 1 else 2):=if_pos h
theorem JjS {arg op:Int} {mask value:Nat} (h:¬value > 4294967295):Ja3 ⟨arg,op,mask,value⟩=if op=7 then (if mask&&& 4294967295=0 then (cnd0,1) else (⟨arg,op,mask&&& 4294967295,value⟩,0)) else (⟨arg,op,mask,value⟩,0):=if_neg h
theorem Jns (c:Cnd) (ho:c.ok):Tells Tryz.prog 37 [JG c] (.tup [JG (Ja3 c).1,int (Ja3 c).2]):=by
 obtain ⟨arg,op,mask,value⟩:=c
 refine Jf Tryz.func37 rfl rfl fun nx=> ?_
 have hb:Jca .and .u64 mask 4294967295=((mask&&& 4294967295:Nat):Int):=Jlr ho.1 Dc
 (repeat' (refine stp ?_;intro c h;cases c))
 all_goals
  refine stp ?_
  refine Jj rfl ⟨rfl,trivial⟩ (AVle.of_eq ?_)
  (try simp only [JaX, JaY, JaZ, Ja0, JaN, JaO] at *)
  first
   | (rw [Jv3 Om];first | (rw [if_pos Om];rfl) | (rw [if_neg Om];rfl))
   | (exfalso;omega)
   | (rw [JjS Om,if_neg Om];rfl)
   | (rw [JjS Om,if_pos Om,if_pos Om];rfl)
   | (rw [JjS Om,if_pos Om,if_neg Om];refine Eq.trans ?_ (congrArg (fun z:Int=> AV.tup [.ag [int arg,int op, .v (.int .u64 z), .v (.int .u64 value)],int 0]) hb);rfl)
theorem Jjr (a:A2) (h:JaI a.1 a.2=true):Tells Tryz.prog 46 [Jlt a] (u32 (Jp a:Nat)):=by
 refine Jf Tryz.func46 rfl rfl fun nx=> ?_
 refine stp ?_
 refine Je rfl rfl (JqI a h) ⟨Rf,trivial⟩ fun nx2=> ?_
 refine stp ?_
 exact Jd rfl Rf
def Jv:PRul:=⟨[],0⟩
def JbY (r:PRul):AV:= .ag [Jam r.conds,u32 (r.code:Nat)]
def Jw (l:List PRul):AV:=JT 2 JbY Jv l
def Jzc:Option PRul→AV
 | none=> .tup [JbY Jv,Jb false]
 | some q=> .tup [JbY q,Jb true]
theorem JhH {α:Type} {e:α→AV} {d:α} {sz:Nat} {l:List α} {x:α} {f':Nat→AV} {i j:Vl.Id} (hf:f' 0=e x) (h:i.2=j.2):AVle (.os sz (l.length+1) (JcP l.length (fun k=> e (l.getD k d)) f') (some i)) (.os sz (l++ [x]).length (fun k=> e ((l++ [x]).getD k d)) (some j)):=by
 rw [List.length_append]
 refine (AVle.os_fun (Jb8 (fun k hk=> ?_) ?_)).trans (AVle.os_nm h)
 ·rw [show (l++ [x]).getD k d=l.getD k d by simp [List.getD,List.getElem?_append_left hk]]
 ·rw [hf,show (l++ [x]).getD l.length d=x by simp [List.getD]]
theorem Jsq {cs:List Cnd} {i:Nat} (hi:i < cs.length):(cs.take (i+1)).filterMap JgR=(cs.take i).filterMap JgR++(JgR (cs.getD i cnd0)).toList:=by
 rw [Jb0 cnd0 hi,List.filterMap_append]
 congr 1
theorem Jsr {cs:List Cnd} (h:∀j,j < cs.length→Jc1 (cs.getD j cnd0)=false):cs.any Jc1=false:=by
 rw [Bool.eq_false_iff]
 intro ha
 obtain ⟨c,hc,hb⟩:=List.any_eq_true.1 ha
 obtain ⟨j,hj,rfl⟩:=List.getElem_of_mem hc
 have:=h j hj
 rw [show cs.getD j cnd0=cs[j] by simp [List.getD,hj]] at this
 rw [this] at hb;cases hb
theorem Jv4 {cs:List Cnd} {i:Nat} (hi:i < cs.length) (h:Jc1 (cs.getD i cnd0)=true):cs.any Jc1=true:=by
 refine List.any_eq_true.2 ⟨cs.getD i cnd0, ?_,h⟩
 simp [List.getD,hi]
theorem Jph {oi:Option Vl.Id} {n:Nat}:Jn0 oi n (JbH oi n):=by
 have:=JpV (oi:=oi) (n:=n) (pm:= [])
 rwa [List.append_nil] at this
def Jss (l:List Cnd):Nat→AV:=fun k=> JG (l.getD k cnd0)
set_option maxHeartbeats 2000000 in
theorem JlJ (r:PRul) (hok:∀c∈r.conds,c.ok) (hl:r.conds.length≤1000000):Tells Tryz.prog 114 [JbY r] (Jzc (JeJ r)):=by
 obtain ⟨cs,k⟩:=r
 dsimp only at hok hl
 refine Jf Tryz.func114 rfl rfl fun nx=> ?_
 refine stp ?_
 refine Jx (fun y:Nat×List Cnd×Option Nat×Nat=> mk 38 [(1, .bp (0,nx) 0),(2, .bp (1,nx+1) 0),(3,Jb false),(4, .bp (2,nx+2) 0),(13,Jam cs),(14,int cs.length),(15,int y.1)] ⟨[((2,nx+2), .c [.os 4 y.2.1.length (Jss y.2.1) (nmd y.2.2.1),u32 (k:Nat)]),((1,nx+1), .c [.os 0 0 (fun _=> .any) none,u32 0]),((0,nx), .c [Jam cs,u32 (k:Nat)])],JbH (nmd y.2.2.1) (y.2.1.length * 4),y.2.2.2,3⟩)
  (fun y=> y.1≤cs.length∧y.2.1=(cs.take y.1).filterMap JgR∧(y.2.2.1=none→y.2.1= [])∧∀j,j < y.1→Jc1 (cs.getD j cnd0)=false) (fun y=> cs.length - y.1) ?_ ?_
 ·exact ⟨(0, [],none,nx+3),⟨Nat.zero_le _,rfl,fun _=> rfl,fun j h=> absurd h (Nat.not_lt_zero _)⟩,Jm (pm:= []) _ [] rfl rfl Sf Sf ⟨rfl,⟨AVle.os_nil,Rf,trivial⟩,Bf⟩ trivial ⟨Rf,Rf,Rf,Rf,Rf,Rf,Rf,trivial⟩⟩
 ·rintro ⟨i,L,oi,nx1⟩ ⟨h1,hL,h2,h3⟩
  dsimp only at h1 hL h2 h3
  have hal:L.length≤i:=by rw [hL];exact Nat.le_trans (List.length_filterMap_le _ _) (by simp;omega)
  refine stp ?_
  intro c g;cases c
  ·have g:=Jt g
   try dsimp only at g
   have hi:i=cs.length:=by omega
   subst hi
   rw [List.take_length] at hL
   have hR:JeJ ⟨cs,k⟩=some ⟨L,k⟩:=by
    unfold JeJ
    dsimp only
    rw [Jsr h3,hL];rfl
   rw [hR]
   refine stp ?_
   exact Jj rfl ⟨rfl,trivial⟩ (AVle.tups (cs:= [_,_]) ⟨AVle.ags (cs:= [_,_]) ⟨AVle.os_sl,Rf,trivial⟩,Rf,trivial⟩)
  ·have g:=Ju g
   try dsimp only at g
   have hi:i < cs.length:=by omega
   have hn:=Jns (cs.getD i cnd0) (JoZ hok hi)
   have hnx:=Jsq hi
   have hst:=JkH (cs.getD i cnd0)
   refine stp ?_
   refine ⟨Bd, ?_⟩
   refine stp ?_
   refine Je rfl rfl hn ⟨Rf,trivial⟩ fun nx2=> ?_
   refine stp ?_
   intro c t2;cases c
   ·have ht2:(Ja3 (cs.getD i cnd0)).2≠2:=fun e=> by rw [e] at t2;cases t2
    have hnev:Jc1 (cs.getD i cnd0)=false:=decide_eq_false ht2
    have hlast:∀j,j < i+1→Jc1 (cs.getD j cnd0)=false:=fun j hj=> by
     rcases Nat.lt_or_ge j i with h | h
     ·exact h3 j h
     ·obtain rfl:j=i:=by omega
      exact hnev
    refine stp ?_
    intro c t0;cases c
    ·have ht0:(Ja3 (cs.getD i cnd0)).2≠0:=fun e=> by rw [e] at t0;cases t0
     rw [show JgR (cs.getD i cnd0)=none from if_neg ht0] at hnx
     refine stp ?_
     exact back (i+1,L,oi,nx2+1) ⟨hi,by dsimp only;rw [hnx,← hL];exact (List.append_nil _).symm,h2,hlast⟩ Dm (Jm _ _ rfl rfl (.cons _ (.cons _ Sf)) Sf Bf Pf ⟨Rf,Rf,Rf,Rf,Rf,Rf,Lw,trivial⟩)
    ·have ht0:(Ja3 (cs.getD i cnd0)).2=0:=by
      have:=of_decide_eq_true (p:=((Ja3 (cs.getD i cnd0)).2:Int)=0) t0.symm
      omega
     rw [show JgR (cs.getD i cnd0)=some (Ja3 (cs.getD i cnd0)).1 from if_pos ht0] at hnx
     refine stp ?_
     refine ⟨Jph,JC rfl,by show (L.length+1) * 32≤_;omega,by show L.length+1≤_;omega, ?_⟩
     refine stp ?_
     exact back (i+1,L++ [(Ja3 (cs.getD i cnd0)).1],some (nx2+1),nx2+2) ⟨hi,by dsimp only;rw [hnx,← hL];rfl,(fun h=> by cases h),hlast⟩ Dm (Jm (bx:= [((2,nx+2), .c [.os 4 (L++ [(Ja3 (cs.getD i cnd0)).1]).length (Jss (L++ [(Ja3 (cs.getD i cnd0)).1])) (some (0,nx2+1)),u32 (k:Nat)]),((1,nx+1), .c [.os 0 0 (fun _=> .any) none,u32 0]),((0,nx), .c [Jam cs,u32 (k:Nat)])]) _ [((5,nx2+1),(L.length+1) * 4)] rfl rfl (.cons _ (.cons _ Sf)) (.cons_cons _ (List.nil_sublist _)) ⟨rfl,⟨JhH (e:=JG) rfl rfl,Rf,trivial⟩,Bf⟩ ⟨rfl,by rw [List.length_append];rfl,trivial⟩ ⟨Rf,Rf,Rf,Rf,Rf,Rf,Lw,trivial⟩)
   ·have ht2:(Ja3 (cs.getD i cnd0)).2=2:=by
     have:=of_decide_eq_true (p:=((Ja3 (cs.getD i cnd0)).2:Int)=2) t2.symm
     omega
    have hR:JeJ ⟨cs,k⟩=none:=if_pos (Jv4 hi (decide_eq_true ht2))
    rw [hR]
    refine stp ?_
    exact Jj rfl ⟨rfl,trivial⟩ (AVle.tups (cs:= [_,_]) ⟨AVle.ags (cs:= [_,_]) ⟨AVle.os_sl0,Rf,trivial⟩,Rf,trivial⟩)
end Go.Proofs.W

namespace Go.Proofs.W
open Go.Vl
set_option maxRecDepth 100000
def Jc4 (l:List TRow) (r:Rul):Bool:=decide ((Jau l r.name).mux > 0)&& decide (0 < r.conds.length)
theorem Jux (l:List TRow) (r:Rul) (hl:l.length≤1000000) (hs:Jhw l r.name):Tells Tryz.prog 107 (Jap r:: [.rp [JJ l]]) (Jb (Jc4 l r)):=by
 have hw:=JtQ l r.name hl hs
 unfold Jc4
 generalize decide ((Jau l r.name).mux > 0)=b at hw⊢
 generalize (Ja2 l r.name&& decide ((Jau l r.name).a2≥0))=b2 at hw
 refine Jf Tryz.func107 rfl rfl fun nx=> ?_
 refine stp ?_
 refine Je rfl rfl hw ⟨Rf,Rf,trivial⟩ fun nx2=> ?_
 refine stp ?_
 intro c1 hc1
 subst hc1
 refine stp ?_
 intro c e1;cases c
 ·have hb:b=false:=e1.symm
  subst hb
  refine stp ?_
  exact Jd rfl Rf
 ·have hb:b=true:=e1.symm
  subst hb
  refine stp ?_
  intro c2 hc2
  have e2:decide (0 < r.conds.length)=c2:=by
   rw [hc2]
   by_cases h0:0 < r.conds.length
   ·rw [decide_eq_true h0];exact (decide_eq_true Om).symm
   ·rw [decide_eq_false h0];exact (decide_eq_false Om).symm
  rw [e2]
  clear hc2 e2
  cases c2 <;> (refine stp ?_;exact Jd rfl Rf)
theorem Juy (x:List AV) (l:List Rul) (p:Rul→Bool) (f:Nat) (hl:l.length≤1000000000) (hp:∀i,i < l.length→Tells Tryz.prog f (Jap (l.getD i Jl):: [.rp x]) (Jb (p (l.getD i Jl)))):
 Tells Tryz.prog 106 [JT 4 Jap Jl l,(.fn (.func f) [] [.rp x])] (int (JdI (l.findIdx? p))):=by
 refine Jf Tryz.func106 rfl rfl fun nx=> ?_
 refine stp ?_
 refine Jx (fun s:Nat×Nat=> mk 19 [(0,JT 4 Jap Jl l),(1,(.fn (.func f) [] [.rp x])),(7,int l.length),(8,int s.1)] ⟨[], [],s.2,0⟩) (fun s=> s.1≤l.length∧∀j,j < s.1→p (l.getD j Jl)=false) (fun s=> l.length - s.1) ?_ ?_
 ·exact ⟨(0,nx),⟨by simp,by intro j hj;simp at hj⟩,Jaz rfl rfl ⟨Rf,Rf,Rf,Rf,trivial⟩⟩
 ·rintro ⟨i,nx⟩ ⟨h1,h2⟩
  dsimp only at h1 h2
  refine stp ?_
  intro c h3;cases c
  ·have h3:=Jt h3
   dsimp only at h3
   refine stp ?_
   refine Jd rfl (Jk ?_)
   rw [JdH Jl (fun j hj=> h2 j Om)];rfl
  ·have h3:=Ju h3
   dsimp only at h3
   have hi:i < l.length:=by omega
   refine stp ?_
   refine ⟨⟨by dsimp only;omega,by dsimp only;omega⟩, ?_⟩
   refine stp ?_
   refine Je rfl rfl (hp i hi) ⟨Rf,Rf,trivial⟩ fun nx'=> ?_
   intro c h4;cases c
   ·refine stp ?_
    refine back (i+1,nx') ⟨by dsimp only;omega,fun j hj=> ?_⟩ Dm (Jaz rfl rfl ⟨Rf,Rf,Rf,Jk (J4 Dm),trivial⟩)
    dsimp only at hj
    rcases Nat.lt_or_ge j i with h | h
    ·exact h2 j h
    ·obtain rfl:j=i:=by omega
     exact h4.symm
   ·refine stp ?_
    refine Jd rfl (Jk ?_)
    rw [Jfp Jl hi h2 h4.symm];rfl
theorem Jxp {α:Type} {l:List α} {p:α→Bool} {i:Nat} (h:l.findIdx? p=some i):i < l.length:=(List.findIdx?_eq_some_iff_getElem.1 h).1
def Jv5 (p:Pol) (l:List TRow):AV:=match p.rules.findIdx? (Jc4 l) with
 | none=> .tup [int 0,Jb true]
 | some i=> .tup [int i,Jb false]
theorem JlK (p:Pol) (l:List TRow) (hp:p.rules.length≤1000000) (hl:l.length≤1000000) (hs:JlA l):Tells Tryz.prog 44 [JbR p,JJ l] (Jv5 p l):=by
 have hx:=Juy [JJ l] p.rules (Jc4 l) 107 Om fun i _=> Jux l _ hl (Jfh hs _)
 unfold Jv5
 cases hi:p.rules.findIdx? (Jc4 l) with
 | none=>
   rw [hi] at hx
   refine Jf Tryz.func44 rfl rfl fun nx=> ?_
   (refine JW ?_;refine Jae ?_;refine JW ?_)
   refine JbD (n:=15) (nx:=nx+2) (nn:=2) (pm:= []) (bx:= []) (L:= [(2, .rp [int p.dflt.1,int p.dflt.2,Jb p.x32,Ji p.rules]),(3, .rp [JJ l]),(4,int 0),(5,Jb false)]) (df:=some []) [((1,nx+1), .c [JJ l]),((0,nx), .c [int p.dflt.1,int p.dflt.2,Jb p.x32,Ji p.rules])] rfl rfl rfl (List.Perm.refl _) Sf ⟨Frz.bp (.tail _ (.head _)) rfl,Frz.bp (.head _) rfl,Frz.refl _,Frz.refl _,trivial⟩ ?_
   refine stp ?_
   refine Je rfl rfl hx ⟨Rf,Rf,trivial⟩ fun nx2=> ?_
   refine stp ?_
   exact Jj rfl trivial (AVle.of_eq rfl)
 | some i=>
   have hlt:=Jxp hi
   rw [hi] at hx
   refine Jf Tryz.func44 rfl rfl fun nx=> ?_
   (refine JW ?_;refine Jae ?_;refine JW ?_)
   refine JbD (n:=15) (nx:=nx+2) (nn:=2) (pm:= []) (bx:= []) (L:= [(2, .rp [int p.dflt.1,int p.dflt.2,Jb p.x32,Ji p.rules]),(3, .rp [JJ l]),(4,int 0),(5,Jb false)]) (df:=some []) [((1,nx+1), .c [JJ l]),((0,nx), .c [int p.dflt.1,int p.dflt.2,Jb p.x32,Ji p.rules])] rfl rfl rfl (List.Perm.refl _) Sf ⟨Frz.bp (.tail _ (.head _)) rfl,Frz.bp (.head _) rfl,Frz.refl _,Frz.refl _,trivial⟩ ?_
   refine stp ?_
   refine Je rfl rfl hx ⟨Rf,Rf,trivial⟩ fun nx2=> ?_
   refine stp ?_
   exact Jj rfl trivial (AVle.tups (cs:= [_,_]) ⟨Jk (if_neg (show ¬(0:Int) > (i:Int) by omega)),Rf,trivial⟩)
end Go.Proofs.W

namespace Go.Proofs.W
open Go.Vl
set_option maxRecDepth 100000
theorem Jjs (l:List Cnd):NoId (Jam l):=NoId.sl fun i _ c hc=> by
 simp only [JG,AV.cells,List.mem_cons,List.not_mem_nil,or_false] at hc
 rcases hc with rfl | rfl | rfl | rfl <;> exact NoId.v _
theorem Jpi (ts:List Cnd) (hl:ts.length≤1000000):Tells Tryz.prog 115 [Jam ts] (Jam ts):=by
 refine Jf Tryz.func115 rfl rfl fun nx=> ?_
 refine stp ?_
 refine Joc (e:=86) rfl (.inl rfl) (by kernel_rfl) (.inl rfl) fun c hc=> ?_
 cases c
 ·refine stp ?_
  (conv=> whnf)
  refine Jj8 (fun hm=> ?_) fun hm=> ?_
  ·refine stp ?_
   obtain rfl:ts= []:=List.eq_nil_of_length_eq_zero hm
   exact Jj rfl trivial AVle.os_sl0
  ·refine ⟨fun k hk=> rfl,by show (0+ts.length) * 32≤_;omega,by omega, ?_⟩
   refine stp ?_
   have e5:0+ts.length=ts.length:=Nat.zero_add _
   refine Jj rfl trivial ?_
   exact AVle.trans (b:= .os 4 ts.length (Jss ts) (some (0,nx))) (AVle.trans (b:= .os 4 (0+ts.length) (Jss ts) (some (0,nx))) (AVle.os_fun fun k hk=> rfl) (AVle.of_eq (by rw [e5]))) AVle.os_sl
 ·obtain rfl:ts= []:=List.eq_nil_of_length_eq_zero (hc rfl)
  refine stp ?_
  exact Jj rfl trivial AVle.os_sl0
def JcU (l:List PRul):Nat→AV:=fun k=> JbY (l.getD k Jv)
theorem Jv6 {L:List PRul} {m:Nat} (hm:m≤L.length):AVle (.sl 2 m (JcU L)) (Jw (L.take m)):=by
 unfold Jw JT
 rw [List.length_take,Nat.min_eq_left hm]
 refine AVle.sl_fun fun k hk=> ?_
 show JbY (L.getD k Jv)=JbY ((L.take m).getD k Jv)
 rw [show (L.take m).getD k Jv=L.getD k Jv by simp [List.getD,List.getElem?_take,hk]]
theorem Jst {a:Nat} {l:List PRul} {i:Nat} (hi:i < l.length):Jb3 a (l.drop i)=match Jds a (l.getD i Jv) with
 | none=> Jb3 a (l.drop (i+1))
 | some q=> if q.conds.length=0 then [q] else q::Jb3 a (l.drop (i+1)):=by
 rw [List.drop_eq_getElem_cons hi,show l.getD i Jv=l[i] by simp [List.getD,hi]]
 rfl
theorem Jk0:Tryz.prog.bytesOf 118=32:=by kernel_rfl
theorem Jxq {r q:PRul} (h:JeJ r=some q):q.conds.length≤r.conds.length∧q.code=r.code:=by
 unfold JeJ at h
 split at h
 ·cases h
 ·cases h;exact ⟨List.length_filterMap_le _ _,rfl⟩
theorem JqR {a:Nat} {r q:PRul} (h:Jds a r=some q):q.conds.length≤r.conds.length∧q.code=r.code:=by
 unfold Jds at h
 split at h
 ·exact Jxq h
 ·cases h;exact ⟨Nat.le_refl _,rfl⟩
def Juz (nx:Nat):Option PRul→List (Vl.Id×Own)
 | none=> [((0,nx), .c [Jam [],u32 0])]
 | some q=> [((0,nx), .c [Jam q.conds,u32 (q.code:Nat)])]
set_option maxHeartbeats 4000000 in
theorem Jcn (a:Nat) (l:List PRul) (d:Nat) (ha:a < 5) (hl:l.length≤1000000) (hc:∀r∈l,r.conds.length≤1000000∧∀c∈r.conds,c.ok):Tells Tryz.prog 48 [int a,Jw l,u32 (d:Nat)] (Jw (Jaj a l d)):=by
 refine Jf Tryz.func48 rfl rfl fun nx=> ?_
 refine stp ?_
 refine JdT (fun y:List PRul×Option Nat×Nat=> mk 62 [(0,int a),(2,u32 (d:Nat)),(7, .os 2 y.1.length (JcU y.1) (nmd y.2.1))] ⟨[],JbH (nmd y.2.1) (y.1.length * 2),y.2.2,0⟩) (fun y=> y.1=Jb3 a l∧(y.2.1=none→y.1= [])∧y.1.length≤l.length) ?_ ?_
 ·refine Jx (fun y:Nat×List PRul×Option Nat×Nat=> mk 62 [(0,int a),(2,u32 (d:Nat)),(7, .os 2 y.2.1.length (JcU y.2.1) (nmd y.2.2.1)),(11,Jw l),(12,int l.length),(13,int y.1)] ⟨[],JbH (nmd y.2.2.1) (y.2.1.length * 2),y.2.2.2,0⟩)
   (fun y=> y.1≤l.length∧y.2.1++Jb3 a (l.drop y.1)=Jb3 a l∧(y.2.2.1=none→y.2.1= [])∧y.2.1.length≤y.1) (fun y=> l.length - y.1) ?_ ?_
  ·exact ⟨(0, [],none,nx),⟨Nat.zero_le _,rfl,fun _=> rfl,Nat.le_refl _⟩,Jm (pm:= []) (bx:= []) _ [] rfl rfl Sf Sf trivial trivial ⟨Rf,Rf,AVle.os_nil,Rf,Rf,Rf,trivial⟩⟩
  ·rintro ⟨i,L,oi,nx1⟩ ⟨h1,hL,h2,h3⟩
   dsimp only at h1 hL h2 h3
   refine stp ?_
   intro c g;cases c
   ·have g:=Jt g
    try dsimp only at g
    have hi:i=l.length:=by omega
    subst hi
    rw [List.drop_length] at hL
    refine stp ?_
    exact ⟨(L,oi,nx1),⟨by rw [← hL];exact (List.append_nil _).symm,h2,h3⟩,Et rfl rfl trivial Pf ⟨Rf,Rf,Rf,trivial⟩⟩
   ·have g:=Ju g
    try dsimp only at g
    have hi:i < l.length:=by omega
    have hnx:=Jst (a:=a) hi
    have hr:l.getD i Jv∈l:=by simp [List.getD,hi]
    have hn:=JlJ (l.getD i Jv) (hc _ hr).2 (hc _ hr).1
    have hcl:=(hc _ hr).1
    rw [hnx] at hL
    clear hnx
    refine stp ?_
    refine ⟨Bd, ?_⟩
    refine stp ?_
    intro c6 hc6
    refine stp ?_
    refine Jkk (fun y:Option PRul×Nat=> mk 62 [(0,int a),(2,u32 (d:Nat)),(7, .os 2 L.length (JcU L) (nmd oi)),(9, .bp (0,nx1) 0),(10,Jb y.1.isSome),(11,Jw l),(12,int l.length),(13,int i)] ⟨Juz nx1 y.1,JbH (nmd oi) (L.length * 2),y.2,1⟩) (fun y=> y.1=Jds a (l.getD i Jv)) ?_ ?_
    ·cases c6
     ·have ha2:a≠2:=fun e=> by subst e;cases hc6
      refine stp ?_
      exact ⟨(some (l.getD i Jv),nx1+1),(if_neg ha2).symm,Et rfl rfl Bf Pf ⟨Rf,Rf,Rf,Rf,Rf,Rf,Rf,Rf,trivial⟩⟩
     ·have ha2:a=2:=by
       have:=of_decide_eq_true (p:=(a:Int)=2) hc6.symm
       omega
      refine stp ?_
      refine Je rfl rfl hn ⟨Rf,trivial⟩ fun nx2=> ?_
      have hab:Jds a (l.getD i Jv)=JeJ (l.getD i Jv):=if_pos ha2
      rw [hab]
      cases JeJ (l.getD i Jv) with
      | none=>
        refine stp ?_
        exact ⟨(none,nx2),rfl,Et rfl rfl Bf Pf ⟨Rf,Rf,Rf,Rf,Rf,Rf,Rf,Rf,trivial⟩⟩
      | some q=>
        refine stp ?_
        exact ⟨(some q,nx2),rfl,Et rfl rfl Bf Pf ⟨Rf,Rf,Rf,Rf,Rf,Rf,Rf,Rf,trivial⟩⟩
    ·rintro ⟨oq,nx3⟩ hoq
     dsimp only at hoq
     rw [← hoq] at hL
     cases oq with
     | none=>
       dsimp only at hL
       refine stp ?_
       exact back (i+1,L,oi,nx3) ⟨hi,hL,h2,by dsimp only;omega⟩ Dm (Jm _ _ rfl rfl (.cons _ Sf) Sf trivial Pf ⟨Rf,Rf,Rf,Rf,Rf,Lw,trivial⟩)
     | some q=>
       dsimp only at hL
       have hqc:=(JqR hoq.symm).1
       have hcq:=Jpi q.conds Om
       refine stp ?_
       refine J1 9 (Juz nx1 (some q)) (fun i=> match i with | 8=> true | _=> false) (fun i=> match i with | 3=> true | _=> false) [0,1,2,3,4,5,6,7,8] (by kernel_rfl) (by kernel_rfl) (HB.refl _) ?_
       refine stp ?_
       refine ⟨_,JD rfl rfl rfl hcq ⟨Rf,trivial⟩ (Jjs _), ?_⟩
       refine stp ?_
       refine ⟨_,Jbe (e:=118) (c:=2) (pm:= []) (n:=L.length) (oi:=nmd oi) (sz:=2) (f:=JcU L) (HB.refl _) rfl rfl rfl (.inr ⟨_,rfl⟩) (by kernel_rfl) (by kernel_rfl) (by kernel_rfl) (.inr rfl) (by kernel_rfl) (List.append_nil _).symm (JC rfl) (by rw [Jk0];omega) Om,fun r h' hr=> ?_⟩
       obtain ⟨rfl,rfl⟩:=hr
       refine stp ?_
       intro c e;cases c
       ·have hne:¬q.conds.length=0:=fun h=> by
         have:=of_decide_eq_false (p:=(q.conds.length:Int)=0) e.symm
         omega
        rw [if_neg hne] at hL
        refine stp ?_
        exact back (i+1,L++ [q],some nx3,nx3+1) ⟨hi,by dsimp only;rw [List.append_assoc];exact hL,(fun h=> by cases h),by dsimp only;rw [List.length_append,List.length_singleton];omega⟩ Dm (Jm (bx:= []) (pm:= [((0,nx3),(L++ [q]).length * 2)]) _ _ rfl rfl (.cons _ Sf) Sf trivial ⟨rfl,by rw [List.length_append];rfl,trivial⟩ ⟨Rf,Rf,JhH (e:=JbY) rfl rfl,Rf,Rf,Lw,trivial⟩)
       ·have he:q.conds.length=0:=by
         have:=of_decide_eq_true (p:=(q.conds.length:Int)=0) e.symm
         omega
        rw [if_pos he] at hL
        refine stp ?_
        exact ⟨(L++ [q],some nx3,nx3+1),⟨hL,(fun h=> by cases h),by dsimp only;rw [List.length_append,List.length_singleton];omega⟩,Jm (bx:= []) (pm:= [((0,nx3),(L++ [q]).length * 2)]) _ _ rfl rfl (.cons _ Sf) Sf trivial ⟨rfl,by rw [List.length_append];rfl,trivial⟩ ⟨Rf,Rf,JhH (e:=JbY) rfl rfl,trivial⟩⟩
 ·rintro ⟨L,oi,nx1⟩ ⟨hL,h2,h3⟩
  dsimp only at hL h2 h3
  refine stp ?_
  refine Jx (fun y:Nat×Nat=> mk 62 [(2,u32 (d:Nat)),(7, .sl 2 y.1 (JcU L))] ⟨[], [],y.2,0⟩)
   (fun y=> y.1≤L.length∧Jhx d L=Jhx d (L.take y.1)) (fun y=> y.1) ?_ ?_
  ·exact ⟨(L.length,nx1),⟨Nat.le_refl _,by rw [List.take_length]⟩,Jm (pm:= []) (bx:= []) _ [] rfl rfl Sf (List.nil_sublist _) trivial trivial ⟨Rf,AVle.os_sl,trivial⟩⟩
  ·rintro ⟨m,nx2⟩ ⟨hm,hcut⟩
   dsimp only at hm hcut
   refine stp ?_
   intro c g;cases c
   ·have g:=Jt g
    try dsimp only at g
    have hm0:m=0:=by omega
    subst hm0
    have hS:Jaj a l d= []:=by unfold Jaj;rw [← hL,hcut];rfl
    rw [hS]
    refine stp ?_
    exact Jj rfl trivial (AVle.sl_fun fun k hk=> absurd hk (Nat.not_lt_zero k))
   ·have g:=Ju g
    try dsimp only at g
    have hm0:0 < m:=by omega
    have hm1:IntKind.i64.wrap ((m:Int) - 1)=((m - 1:Nat):Int):=by rw [Jai Om Om];omega
    have htk:L.take m=L.take (m - 1)++ [L.getD (m - 1) Jv]:=by
     obtain ⟨k,rfl⟩:∃k,m=k+1:=⟨m - 1,by omega⟩
     exact Jb0 Jv Om
    refine stp ?_
    refine ⟨⟨Jdp (i:=m - 1) hm1,JdE (i:=m - 1) hm1 Om⟩,Jr (b:= .rp (JbY (L.getD (m - 1) Jv)).cells) (congrArg (fun z:Int=> AV.rp (JcU L z.toNat).cells) hm1) ?_⟩
    refine stp ?_
    intro c e;cases c
    ·have e:¬(L.getD (m - 1) Jv).code=d:=fun h=> by
      have:=of_decide_eq_false (p:=((L.getD (m - 1) Jv).code:Int)=d) e.symm
      omega
     rw [htk,Jid,if_neg e,← htk] at hcut
     have hS:Jaj a l d=L.take m:=by unfold Jaj;rw [← hL,hcut]
     rw [hS]
     refine stp ?_
     exact Jj rfl trivial (Jv6 hm)
    ·have e:(L.getD (m - 1) Jv).code=d:=by
      have:=of_decide_eq_true (p:=((L.getD (m - 1) Jv).code:Int)=d) e.symm
      omega
     rw [htk,Jid,if_pos e] at hcut
     refine stp ?_
     refine ⟨⟨Jdp (i:=m - 1) hm1,by rw [hm1];dsimp only;omega⟩,Jr (b:= .sl 2 (m - 1) (JcU L)) (congrArg (fun z:Int=> AV.sl 2 z.toNat (JcU L)) hm1) ?_⟩
     refine stp ?_
     exact back (m - 1,nx2) ⟨by dsimp only;omega,hcut⟩ Dm (Et rfl rfl trivial trivial ⟨Rf,Rf,trivial⟩)
end Go.Proofs.W
