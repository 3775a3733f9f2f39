import Derived.Test.YtmipfkagmedcnaaGreatDoorXD
import Derived.Test.YtmipfkagmedcnaaGreatDoorXC
import Derived.Ground.NamesProg
import Derived.Shelf.Lay
import Derived.Shelf.Small.Bits
import Derived.Lib.ItoaNum
import Derived.Sort.LotA
import Derived.Shelf.SortM.Plain
import Derived.Shelf.SortM.SortNone
import Derived.Shelf.SlGeneric
import Derived.Ground.SlgmProg
import Derived.Shelf.Strconv.Itoa3
import Derived.Test.YtmipfkagmedcnaaGreatDoorProg
import Derived.Shelf.SlSortCmp.WholeK
import Derived.Ground.SlsfProg
import Derived.Ground.SlgcProg
import Derived.Lib.Walk
set_option linter.unusedVariables false
set_option linter.unusedSimpArgs false
namespace Go.Proofs.W
open Go.Vl Go.Shelf
set_option maxRecDepth 100000
def Jug (p:ByteArray×Nat):List AV:= [int p.2,Jf p.1]
theorem Jf0 {pre post:List ByteArray} {x:ByteArray} (h: [JaT,lineB]=pre++x::post):(pre= []∧x=JaT∧post= [lineB])∨(pre= [JaT]∧x=lineB∧post= []):=by
 match pre,h with
 | [],h=> cases h;exact .inl ⟨rfl,rfl,rfl⟩
 | [_],h=> cases h;exact .inr ⟨rfl,rfl,rfl⟩
 | _::_::pre,h=> simp at h
theorem Jxe:Tells Tryz.prog 251 [Jf JaT,Jf ⟨#[35]⟩] (.tup [Jf JaT,Jf ⟨#[]⟩,Jb false]):=Jlr JaT 35 (by rw [Lib.toList_data,Lib.toList_data];decide) Dc
theorem Jxf:Tells Tryz.prog 251 [Jf lineB,Jf ⟨#[35]⟩] (.tup [Jf lineB,Jf ⟨#[]⟩,Jb false]):=Jlr lineB 35 (by rw [Lib.toList_data,Lib.toList_data];decide) Dc
set_option maxHeartbeats 4000000 in
theorem Jp5:Jkr Tryz.prog 249 [] [.rp [Jf textAB]] Jug [(JaT,1),(lineB,2)] []:=by
 intro i σ Cb Cp I hc s0 nx nn h0
 refine ECall.wk (JT Tryz.func249 rfl rfl ?_)
 refine AW.le (E':=mk 21 [(0, .yl i),(1, .rp [Jf textAB])] ⟨Cb s0,Cp s0,nx,0⟩ (some [])) (Et rfl rfl Bf Pf ⟨Rf,Rf,trivial⟩) ?_
 refine stp ?_
 refine JfW (xs:= [Jf textAB,Jf ⟨#[10]⟩]) (bx1:= []) (pm1:= []) (((1,nx+1), .c [int 0])::((0,nx), .c [.yl i])::Cb s0) (Cp s0) 13 rfl rfl rfl (List.append_nil _).symm ⟨Rf,Rf,trivial⟩ (Jl8 textAB ⟨#[10]⟩ (nx+2)) Bf Pf rfl fun r h' hq=> ?_
 obtain ⟨rfl,rfl⟩:=hq
 refine JU ?_
 refine AW.le (E':=mk 21 [(2, .bp (0,nx) 0),(3, .bp (1,nx+1) 0),(6,Jnl (nx+2))] ⟨JbR (nx+2) textAB ⟨#[10]⟩++(((1,nx+1), .c [int 0])::((0,nx), .c [.yl i])::Cb s0),Cp s0,nx+5,13⟩ (some [])) (Et rfl rfl Bf (by rw [List.append_nil];exact Pf) ⟨Rf,Rf,Rf,trivial⟩) ?_
 refine JU ?_
 refine JoT (σ:=σ×Nat) (e:=fun s:ByteArray=> [Jf s]) (xs:= [JaT,lineB]) (first':= []) (caps':= [.bp (11,nx+2+1) 0, .bp (10,nx+2) 0, .bp (12,nx+2+2) 0]) (JbR (nx+2) textAB ⟨#[10]⟩) (fun y=> ((1,nx+1), .c [int y.2])::((0,nx), .c [.yl i])::Cb y.1) (fun y=> Cp y.1) (fun pre y=> y.2=pre.length∧I (pre.zipIdx 1) y.1) (s0,0) rfl rfl (Jp4 (nx+2)) (LeL.refl _) (LeL.refl _) rfl rfl ⟨rfl,h0⟩ (fun _=> rfl) ?_ ?_
 ·rintro pre x post ⟨s,n⟩ nx3 nn3 hx ⟨hn,hI⟩
  dsimp only at hn hI
  have hcut:Tells Tryz.prog 251 [Jf x,Jf ⟨#[35]⟩] (.tup [Jf x,Jf ⟨#[]⟩,Jb false]):=by
   rcases Jf0 hx with ⟨_,rfl,_⟩ | ⟨_,rfl,_⟩
   ·exact Jxe
   ·exact Jxf
  have hlen:pre.length≤1:=by rcases Jf0 hx with ⟨rfl,_⟩ | ⟨rfl,_⟩ <;> decide
  have hX: [(JaT,1),(lineB,2)]=pre.zipIdx 1++(x,n+1)::post.zipIdx (pre.length+2):=by
   rw [hn]
   rcases Jf0 hx with ⟨rfl,rfl,rfl⟩ | ⟨rfl,rfl,rfl⟩ <;> rfl
  have hI2:(pre++ [x]).zipIdx 1=pre.zipIdx 1++ [(x,n+1)]:=by
   rw [hn]
   rcases Jf0 hx with ⟨rfl,rfl,rfl⟩ | ⟨rfl,rfl,rfl⟩ <;> rfl
  refine JU ?_
  refine Jaq ?_
  refine stp ?_
  refine Jd rfl rfl hcut ⟨Rf,Rf,trivial⟩ fun nx4=> ?_
  refine stp ?_
  refine JgD (pre:=pre.zipIdx 1) (x:=(x,n+1)) (post:=post.zipIdx (pre.length+2)) (s:=s) [_,_,_,_] [] rfl rfl rfl hc hX hI ⟨Jk (J7 Om),Rf,trivial⟩ (fun s' nx' hI'=> ?_) (fun s' nx' hJ=> hJ.elim)
  refine stp ?_
  refine ⟨(s',n+1), .inl ⟨rfl,by simp [hn],by rw [hI2];exact hI'⟩, ?_,rfl⟩
  have e:IntKind.i64.wrap ((n:Int)+1)=((n+1:Nat):Int):=J7 Om
  show _=_::_::((1,nx+1),Own.c [int ((n+1:Nat):Int)])::((0,nx),Own.c [.yl i])::Cb s'
  rw [← e]
  rfl
 ·rintro ⟨s',n⟩ nx3 nn3 ⟨hn,hI⟩
  dsimp only at hn hI
  refine stp ?_
  refine Jac rfl ⟨_,⟨Cb s',Cp s',nx3,0⟩,Rf, ?_,s',hI,rfl,rfl⟩
  exact Jaz _ _ rfl (.cons _ (.cons _ (.cons _ Sf))) Sf Bf Pf
end Go.Proofs.W

namespace Go.Proofs.W
open Go.Vl Go.Shelf
set_option maxRecDepth 100000
def Jb8:ByteArray:=⟨#[100,101,102,97,117,108,116]⟩
def Jdv:ByteArray:=⟨#[107,105,108,108]⟩
def Jcx:ByteArray:=⟨#[114,101,97,100]⟩
def JcI:ByteArray:=⟨#[97,108,108,111,119]⟩
def JM (l:List ByteArray):AV:= .sl 1 l.length fun k=> .v ((l.map Value.string).getD k undef)
def Jmg (p:Nat×List ByteArray):AV:= .ag [int p.1,JM p.2]
def JrH (L:List (Nat×List ByteArray)):AV:= .sl 2 L.length fun k=> Jmg (L.getD k (0, []))
def Jew (s:ByteArray):List ByteArray:=Lib.goFieldsP JdI s
theorem JkB:Jew JaT= [Jb8,Jdv]:=by decide+kernel
theorem JkC:Jew lineB= [Jcx,JcI]:=by decide+kernel
theorem Jvz:Jnk JaT:=by
 intro i hi
 have hi:i < 12:=hi
 rcases (by omega:i=0∨i=1∨i=2∨i=3∨i=4∨i=5∨i=6∨i=7∨i=8∨i=9∨i=10∨i=11) with rfl | rfl | rfl | rfl | rfl | rfl | rfl | rfl | rfl | rfl | rfl | rfl <;> decide
theorem JvA:Jnk lineB:=by
 intro i hi
 have hi:i < 10:=hi
 rcases (by omega:i=0∨i=1∨i=2∨i=3∨i=4∨i=5∨i=6∨i=7∨i=8∨i=9) with rfl | rfl | rfl | rfl | rfl | rfl | rfl | rfl | rfl | rfl <;> decide
def Jtp (L:List (ByteArray×Nat)):List (Nat×List ByteArray):=L.map fun p=> (p.2,Jew p.1)
def Jtq (L:List (ByteArray×Nat)) (k:Nat):AV:=Jmg ((Jtp L).getD k (0, []))
theorem JjI:Tryz.prog.bytesOf 211=32:=by kernel_rfl
theorem Jp6 {pre post:List (ByteArray×Nat)} {x:ByteArray×Nat} (h: [(JaT,1),(lineB,2)]=pre++x::post):(pre= []∧x=(JaT,1))∨(pre= [(JaT,1)]∧x=(lineB,2)):=by
 match pre,h with
 | [],h=> cases h;exact .inl ⟨rfl,rfl⟩
 | [_],h=> cases h;exact .inr ⟨rfl,rfl⟩
 | _::_::pre,h=> simp at h
set_option maxHeartbeats 4000000 in
theorem Jl9:Tells Tryz.prog 97 [Jf textAB] (.tup [JrH (Jtp [(JaT,1),(lineB,2)]),int 0,int 0]):=by
 refine Jg Tryz.func97 rfl rfl fun nx=> ?_
 refine stp ?_
 refine Jd rfl rfl (Jp3 textAB) ⟨Rf,trivial⟩ fun nx2=> ?_
 refine JU ?_
 refine AW.le (E':=mk 32 [(2, .bp (0,nx) 0),(3, .bp (1,nx+1) 0),(4, .bp (2,nx+2) 0),(5, .bp (3,nx+3) 0),(13, .fn (.func 249) [] [.rp [Jf textAB]])] ⟨[((3,nx+3), .c [.os 2 0 (Jtq []) none]),((2,nx+2), .c [int 0]),((1,nx+1), .c [int 0]),((0,nx), .c [.os 0 0 (fun _=> .any) none])], [],nx2,4⟩ (some [])) (Et rfl rfl ⟨rfl,⟨AVle.os_nil,trivial⟩,Bf⟩ trivial ⟨Rf,Rf,Rf,Rf,Rf,trivial⟩) ?_
 refine JU ?_
 refine JoT (σ:=Nat×(Nat→AV)×Option Vl.Id) (e:=Jug) (xs:= [(JaT,1),(lineB,2)]) (first':= []) (caps':= [.rp [Jf textAB]]) [] (fun y=> [((3,nx+3), .c [.os 2 y.1 y.2.1 y.2.2]),((2,nx+2), .c [int 0]),((1,nx+1), .c [int 0]),((0,nx), .c [.os 0 0 (fun _=> .any) none])]) (fun y=> Jbo y.2.2 (y.1 * 2)) (fun pre y=> y.1=pre.length∧(∀k,k < y.1→y.2.1 k=Jtq pre k)∧(y.2.2=none→pre= [])) (0,Jtq [],none) rfl rfl Jp5 (LeL.refl _) (LeL.refl _) rfl rfl ⟨rfl,fun _ _=> rfl,fun _=> rfl⟩ (fun _=> rfl) ?_ ?_
 ·rintro pre x post ⟨L,f,oi⟩ nx3 nn3 hx ⟨hL,hf0,ho⟩
  dsimp only at hL hf0 ho
  subst hL
  rcases Jp6 hx with ⟨rfl,rfl⟩ | ⟨rfl,rfl⟩
  ·have hp:=JjG JaT Jvz Dc
   have hf:Tells Tryz.prog 177 [Jf JaT, .fn (.func 178) [] []] (JM [Jb8,Jdv]):=by rw [← JkB];exact Jit JaT Dc
   refine JU ?_
   refine Jaq ?_
   refine stp ?_
   refine Jd rfl rfl hp ⟨Rf,trivial⟩ fun nx4=> ?_
   refine stp ?_
   refine Jd rfl rfl hf ⟨Rf,Rf,trivial⟩ fun nx5=> ?_
   refine JU ?_
   refine Jaq ?_
   refine JU ?_
   refine JQ (fun n=> match n with | 0=> true | _=> false) 6 ?_
   refine stp ?_
   refine JeG (e:=211) (c:=2) (pm:= []) (n:=0) (oi:=oi) (sz:=2) (f:=f) rfl rfl (.inr ⟨_,rfl⟩) (by kernel_rfl) (by kernel_rfl) (by kernel_rfl) (.inr rfl) (by kernel_rfl) (List.append_nil _).symm (Jz rfl) (by rw [JjI];decide) Dc ?_
   refine stp ?_
   refine ⟨(0+1,_,some (nn3,nx5)), .inl ⟨rfl,rfl,fun k hk=> ?_,fun h=> by cases h⟩,rfl,rfl⟩
   obtain rfl:k=0:=Nat.lt_one_iff.1 hk
   show _=Jmg (1,Jew JaT)
   rw [JkB];rfl
  ·have hp:=JjG lineB JvA Dc
   have hf:Tells Tryz.prog 177 [Jf lineB, .fn (.func 178) [] []] (JM [Jcx,JcI]):=by rw [← JkC];exact Jit lineB Dc
   refine JU ?_
   refine Jaq ?_
   refine stp ?_
   refine Jd rfl rfl hp ⟨Rf,trivial⟩ fun nx4=> ?_
   refine stp ?_
   refine Jd rfl rfl hf ⟨Rf,Rf,trivial⟩ fun nx5=> ?_
   refine JU ?_
   refine Jaq ?_
   refine JU ?_
   refine JQ (fun n=> match n with | 0=> true | _=> false) 6 ?_
   refine stp ?_
   refine JeG (e:=211) (c:=2) (pm:= []) (n:=1) (oi:=oi) (sz:=2) (f:=f) rfl rfl (.inr ⟨_,rfl⟩) (by kernel_rfl) (by kernel_rfl) (by kernel_rfl) (.inr rfl) (by kernel_rfl) (List.append_nil _).symm (Jz rfl) (by rw [JjI];decide) Dc ?_
   refine stp ?_
   refine ⟨(1+1,_,some (nn3,nx5)), .inl ⟨rfl,rfl,fun k hk=> ?_,fun h=> by cases h⟩,rfl,rfl⟩
   refine JbM (fun k hk=> ?_) ?_ k hk
   ·obtain rfl:k=0:=Nat.lt_one_iff.1 hk
    exact hf0 0 Dc
   ·show _=Jmg (2,Jew lineB)
    rw [JkC];rfl
 ·rintro ⟨L,f,oi⟩ nx3 nn3 ⟨hL,hf0,ho⟩
  dsimp only at hL hf0 ho
  subst hL
  refine stp ?_
  exact Jj rfl ⟨⟨rfl,Nat.zero_lt_one⟩,⟨rfl,Nat.zero_lt_one⟩,⟨rfl,Nat.zero_lt_one⟩,trivial⟩ (AVle.tups (cs:= [_,_,_]) ⟨(AVle.os_fun hf0).trans AVle.os_sl,Rf,Rf,trivial⟩)
end Go.Proofs.W

namespace Go.Proofs.W
open Go.Vl
set_option maxRecDepth 100000
def kb (k:Nat):Nat:= [2147483648,0,196608,327680,2143289344,2146435072,2147221504,2147418112].getD k 0
def km (k:Nat):Nat:=if k=3 then 4095 else if k=5 then 65535 else 0
theorem JvB (k:Nat) (h:k < 8):∃s m,Jdz Jfg k= .ag [.v (.string s), .v (.int .u32 (kb k)),m]∧Tells Tryz.prog 242 [Jdz Jfg k] (int (km k)):=by
 have key:=JgJ k h
 rcases k with _ | _ | _ | _ | _ | _ | _ | _ | k
 ·exact ⟨_,_,rfl,Jce _ _⟩
 ·exact ⟨_,_,rfl,Jce _ _⟩
 ·exact ⟨_,_,rfl,Jce _ _⟩
 ·exact ⟨_,_,rfl,JfY _ _ 4096 Dc⟩
 ·exact ⟨_,_,rfl,Jce _ _⟩
 ·exact ⟨_,_,rfl,JfY _ _ 65536 Dc⟩
 ·exact ⟨_,_,rfl,Jce _ _⟩
 ·exact ⟨_,_,rfl,Jce _ _⟩
 ·omega
theorem Jwl {k:Nat} (h:k < 8):kb k+km k < 4294967296:=by
 rcases k with _ | _ | _ | _ | _ | _ | _ | _ | k
 all_goals first | decide | omega
end Go.Proofs.W

namespace Go.Proofs.W
open Go.Vl
set_option maxRecDepth 100000
def Juh (w:ByteArray):AV:= .fn (.func 373) [] [.rp [JM [w]]]
def JvC (j:Nat):ByteArray:=match Jdz Jfg j with
 | .ag (.v (.string s)::_)=> s
 | _=> ⟨#[]⟩
def eqW (w:ByteArray) (j:Nat):Bool:=(JvC j).toList ==w.toList
def Jh0 (w:ByteArray):Option Nat:=(List.range 8).find? (eqW w)
theorem Jp7 (w s:ByteArray) (c:Int) (m:AV) (hm:m= .v .nilFunc∨∃n,m=JeR n):Tells Tryz.prog 373 [.ag [.v (.string s), .v (.int .u32 c),m], .rp [JM [w]]] (Jb (s.toList ==w.toList)):=by
 refine Jg Tryz.func373 rfl rfl fun nx=> ?_
 rcases hm with rfl | ⟨n,rfl⟩
 all_goals
  refine stp ?_
  (refine J1 7 ?_ ?_ ?_ ?_;(· kernel_rfl);(· kernel_rfl);(· kernel_rfl))
  refine stp ?_
  refine ⟨⟨by decide,(show (0:Int) < 1 by decide)⟩, ?_⟩
  refine stp ?_
  intro c hc
  subst hc
  refine stp ?_
  exact Je rfl Rf
set_option maxHeartbeats 1000000 in
theorem JrI (w:ByteArray):Tells Tryz.prog 372 [JpZ,Juh w] (int (Jhl (Jh0 w))):=by
 refine Jg Tryz.func372 rfl rfl fun nx=> ?_
 refine stp ?_
 refine Jy (fun s:Nat×Nat=> mk 19 [(0,JpZ),(1,Juh w),(7,int 8),(8,int s.1)] ⟨[], [],s.2,0⟩) (fun s=> s.1≤8∧∀j,j < s.1→eqW w j=false) (fun s=> 8 - s.1) ?_ ?_
 ·exact ⟨(0,nx),⟨by simp,by intro j hj;simp at hj⟩,JaI rfl rfl ⟨Rf,Rf,Rf,Rf,trivial⟩⟩
 ·rintro ⟨i,nx⟩ ⟨h1,h2⟩
  dsimp only at h1 h2
  by_cases hi:i < 8
  ·obtain ⟨s,c0,m,hr1,h4,_⟩:=JgJ i hi
   have hT:=Jp7 w s c0 m h4
   have hes:(s.toList ==w.toList)=eqW w i:=by unfold eqW JvC;rw [hr1]
   rw [hes] at hT
   rcases h4 with rfl | ⟨n',rfl⟩
   all_goals
    refine stp ?_
    intro c h3;cases c
    ·exact absurd (Ju h3) Dm
    refine stp ?_
    refine ⟨⟨by dsimp only;omega,by dsimp only;omega⟩,JP (b:= .rp [.v (.string s), .v (.int .u32 c0),_]) (by show AV.rp (Jdz Jfg i).cells=_;rw [hr1];rfl) ?_⟩
    refine stp ?_
    refine Jd rfl rfl hT ⟨Rf,Rf,trivial⟩ fun nx'=> ?_
    intro c h4;cases c
    ·refine stp ?_
     refine back (i+1,nx') ⟨by dsimp only;omega,fun j hj=> ?_⟩ Dm (JaI rfl rfl ⟨Rf,Rf,Rf,Jk (J7 Dm),trivial⟩)
     dsimp only at hj
     rcases Nat.lt_or_ge j i with h | h
     ·exact h2 j h
     ·obtain rfl:j=i:=by omega
      exact h4.symm
    ·refine stp ?_
     refine Je rfl (Jk ?_)
     have:Jh0 w=some i:=by
      unfold Jh0
      rw [List.find?_range_eq_some]
      exact ⟨h4.symm,by simp;omega,fun j hj=> by rw [h2 j hj];rfl⟩
     rw [this];rfl
  ·obtain rfl:i=8:=by omega
   refine stp ?_
   refine Je rfl (Jk ?_)
   have:Jh0 w=none:=by
    unfold Jh0
    rw [List.find?_range_eq_none]
    intro j hj
    rw [h2 j hj];rfl
   rw [this];rfl
set_option maxHeartbeats 1000000 in
theorem Jls (w s:ByteArray) (k:Nat) (c:Int) (hw:Jh0 w=some k) (hk:k < 8) (hr:Jdz Jfg k= .ag [.v (.string s), .v (.int .u32 c), .v .nilFunc]):Tells Tryz.prog 306 [JM [w]] (.tup [act (k+1:Nat) 0,int 1,int 0]):=by
 have hx:=JrI w
 rw [hw] at hx
 have ho:=Jnc k hk
 rw [hr] at ho
 refine Jg Tryz.func306 rfl rfl fun nx=> ?_
 (refine JU ?_;refine Jaq ?_;refine JU ?_)
 refine JbC (n:=60) (nx:=nx+2) (nn:=2) (pm:= []) (bx:= [((1,nx+1), .c [int 0,int 0])]) (L:= [(1, .rp [JM [w]]),(2, .bp (1,nx+1) 0),(3,int 0),(4,int 0)]) (df:=some []) [((0,nx), .c [JM [w]])] rfl rfl rfl (List.Perm.swap _ _ _) Sf ⟨Frz.bp (.head _) rfl,Frz.refl _,Frz.refl _,Frz.refl _,trivial⟩ ?_
 refine stp ?_
 refine Jd rfl rfl JiT trivial fun nx1=> ?_
 refine stp ?_
 refine Jd rfl rfl hx ⟨Rf,Rf,trivial⟩ fun nx2=> ?_
 refine stp ?_
 refine Jd rfl rfl ho ⟨Jk (by show IntKind.i64.wrap (1+(k:Int))=_;rw [JaX Om Om];omega),trivial⟩ fun nx3=> ?_
 refine stp ?_
 exact Jj rfl ⟨rfl,trivial⟩ (AVle.tups (cs:= [_,_,_]) ⟨AVle.ags (cs:= [_,_]) ⟨Jk (by show IntKind.i64.wrap (1+(k:Int))=_;rw [JaX Om Om];omega),Rf,trivial⟩,Rf,Rf,trivial⟩)
theorem JrJ:Tells Tryz.prog 306 [JM [Jdv]] (.tup [act 1 0,int 1,int 0]):=Jls Jdv _ 0 _ (by decide+kernel) Dc rfl
theorem Jp8:Tells Tryz.prog 306 [JM [JcI]] (.tup [act 8 0,int 1,int 0]):=Jls JcI _ 7 _ (by decide+kernel) Dc rfl
end Go.Proofs.W

namespace Go.Proofs.W
open Go.Vl
set_option maxRecDepth 100000
theorem Jiu (s:ByteArray) (hs:s.size≤9223372036854775807):Tells Tryz.prog 243 [Jf s] (Jb (Jar s.data.toList)):=by
 have key:∀b,Jar s.data.toList=b→Tells Tryz.prog 243 [Jf s] (Jb b):=fun b hb=> by
  have hr:=Jl6 s hs b hb
  refine Jg Tryz.func243 rfl rfl fun nx=> ?_
  refine stp ?_
  refine Jd rfl rfl hr ⟨?_,trivial⟩ fun nx1=> ?_
  ·refine AVle.os_sl.trans (AVle.sl_fun fun k hk=> ?_)
   match k,hk with
   | 0,_=> rfl
  cases b
  ·refine stp ?_
   exact Je rfl Rf
  ·refine stp ?_
   exact Je rfl Rf
 exact key _ rfl
theorem Jnm (c:Cnd):Tells Tryz.prog 244 [JZ c] (Jb (!Jad c)):=by
 have key:∀b,Jad c=b→Tells Tryz.prog 244 [JZ c] (Jb (!b)):=fun b hb=> by
  have hr:=Jff c
  rw [hb] at hr
  refine Jg Tryz.func244 rfl rfl fun nx=> ?_
  refine stp ?_
  refine Jd rfl rfl hr ⟨Rf,trivial⟩ fun nx1=> ?_
  cases b
  ·refine stp ?_
   exact Je rfl Rf
  ·refine stp ?_
   exact Je rfl Rf
 exact key _ rfl
def Rul.ok (r:Rul):Prop:=r.name.size≤maxLen∧r.conds.length≤maxLen∧∀c∈r.conds,c.ok
def Jal (r:Rul):Bool:=Jar r.name.data.toList&& (Ja9 r.act.1 r.act.2&& (decide (r.conds.length≤6)&& !(r.conds.any fun c=> !Jad c)))
theorem Jos (r:Rul) (h1:r.name.size≤9223372036854775807):Tells Tryz.prog 170 [Jaf r] (Jb (Jal r)):=by
 have hn:=Jiu r.name h1
 have ha:=JiU r.act.1 r.act.2
 have hc:r.conds.length≤1000000000→Tells Tryz.prog 102 [JaS r.conds,fn0 244] (Jb (r.conds.any fun c=> !Jad c)):=fun hl=> Jne r.conds (fun c=> !Jad c) _ hl (fun i _=> Jnm _)
 unfold Jal
 generalize Jar r.name.data.toList=b1 at hn⊢
 generalize Ja9 r.act.1 r.act.2=b2 at ha⊢
 generalize (r.conds.any fun c=> !Jad c)=b3 at hc⊢
 obtain ⟨name,⟨k,n⟩,conds⟩:=r
 dsimp only at hn ha hc⊢
 refine Jg Tryz.func170 rfl rfl fun nx=> ?_
 refine stp ?_
 refine Jd rfl rfl hn ⟨Rf,trivial⟩ fun nx1=> ?_
 cases b1
 ·refine stp ?_
  exact Je rfl Rf
 refine stp ?_
 refine Jd rfl rfl ha ⟨Rf,trivial⟩ fun nx2=> ?_
 cases b2
 ·refine stp ?_
  exact Je rfl Rf
 refine stp ?_
 intro c t3;cases c
 ·refine stp ?_
  have e3:¬conds.length≤6:=fun h=> (Ju t3:¬((conds.length:Nat):Int)≤6) Om
  exact Je rfl (JH (by show false=(true&& (true&& (decide (conds.length≤6)&& !b3)));rw [decide_eq_false e3];rfl))
 have h3:conds.length≤6:=by have t:((conds.length:Nat):Int)≤6:=Jv t3;omega
 have hc:=hc (show conds.length≤1000000000 by omega)
 refine stp ?_
 refine Jd rfl rfl hc ⟨Rf,Rf,trivial⟩ fun nx3=> ?_
 cases b3
 ·refine stp ?_
  exact Je rfl (JH (by first | (show true=(true&& (true&& (decide (conds.length≤6)&& !false)));rw [decide_eq_true h3];rfl) | (show true=(true&& (decide (rules.length≤500)&& !false));rw [decide_eq_true h3];rfl)))
 ·refine stp ?_
  exact Je rfl (JH (by first | (show false=(true&& (true&& (decide (conds.length≤6)&& !true)));rw [decide_eq_true h3];rfl) | (show false=(true&& (decide (rules.length≤500)&& !true));rw [decide_eq_true h3];rfl)))
theorem Jnn (r:Rul) (h1:r.name.size≤9223372036854775807):Tells Tryz.prog 169 [Jaf r] (Jb (!Jal r)):=by
 have key:∀b,Jal r=b→Tells Tryz.prog 169 [Jaf r] (Jb (!b)):=fun b hb=> by
  have hr:=Jos r h1
  rw [hb] at hr
  refine Jg Tryz.func169 rfl rfl fun nx=> ?_
  refine stp ?_
  refine Jd rfl rfl hr ⟨Rf,trivial⟩ fun nx1=> ?_
  cases b
  ·refine stp ?_
   exact Je rfl Rf
  ·refine stp ?_
   exact Je rfl Rf
 exact key _ rfl
def Jbi (p:Pol):Bool:=Ja9 p.dflt.1 p.dflt.2&& (decide (p.rules.length≤500)&& !(p.rules.any fun r=> !Jal r))
def Pol.ok (p:Pol):Prop:=p.rules.length≤maxLen∧∀r∈p.rules,r.ok
theorem Jiv (p:Pol) (hp:p.ok):Tells Tryz.prog 91 [JbN p] (Jb (Jbi p)):=by
 have ha:=JiU p.dflt.1 p.dflt.2
 have hc:p.rules.length≤1000000000→Tells Tryz.prog 168 [Ji p.rules,fn0 169] (Jb (p.rules.any fun r=> !Jal r)):=fun hl=> Jtn p.rules (fun r=> !Jal r) _ hl (fun i hi=> Jnn _ (by
  have:p.rules.getD i Jl∈p.rules:=by simp [List.getD,hi]
  have:=(hp.2 _ this).1
  exact Nat.le_trans this Dc))
 unfold Jbi
 generalize Ja9 p.dflt.1 p.dflt.2=b2 at ha⊢
 generalize (p.rules.any fun r=> !Jal r)=b3 at hc⊢
 clear hp
 obtain ⟨⟨k,n⟩,x,rules⟩:=p
 dsimp only at ha hc⊢
 refine Jg Tryz.func91 rfl rfl fun nx=> ?_
 refine stp ?_
 refine Jd rfl rfl ha ⟨Rf,trivial⟩ fun nx2=> ?_
 cases b2
 ·refine stp ?_
  exact Je rfl Rf
 refine stp ?_
 intro c t3;cases c
 ·refine stp ?_
  have e3:¬rules.length≤500:=fun h=> (Ju t3:¬((rules.length:Nat):Int)≤500) Om
  exact Je rfl (JH (by show false=(true&& (decide (rules.length≤500)&& !b3));rw [decide_eq_false e3];rfl))
 have h3:rules.length≤500:=by have t:((rules.length:Nat):Int)≤500:=Jv t3;omega
 have hc:=hc (show rules.length≤1000000000 by omega)
 refine stp ?_
 refine Jd rfl rfl hc ⟨Rf,Rf,trivial⟩ fun nx3=> ?_
 cases b3
 ·refine stp ?_
  exact Je rfl (JH (by first | (show true=(true&& (true&& (decide (conds.length≤6)&& !false)));rw [decide_eq_true h3];rfl) | (show true=(true&& (decide (rules.length≤500)&& !false));rw [decide_eq_true h3];rfl)))
 ·refine stp ?_
  exact Je rfl (JH (by first | (show false=(true&& (true&& (decide (conds.length≤6)&& !true)));rw [decide_eq_true h3];rfl) | (show false=(true&& (decide (rules.length≤500)&& !true));rw [decide_eq_true h3];rfl)))
def JdJ (r:Rul):Bool:=decide (r.name.size≤60)&& decide (r.conds.length≤12)
def JeV (p:Pol):Bool:=decide (p.rules.length≤40)&& p.rules.all JdJ
end Go.Proofs.W

namespace Go.Proofs.W
open Go.Vl
set_option maxRecDepth 100000
def Jbc (s:Nat) (a b c ru wd:AV) (n:Int):List (Vl.Id×Own):= [((0,s), .c [a,b,c,ru,wd,int n])]
theorem JeW (e:Int):Tells Tryz.prog 252 [Jb true,int e] (.tup []):=by
 refine Jg Tryz.func252 rfl rfl fun nx=> ?_
 refine stp ?_
 exact Je rfl Rf
theorem JrK:Tells Tryz.prog 307 [int 0] (.tup []):=by
 refine Jg Tryz.func307 rfl rfl fun nx=> ?_
 refine stp ?_
 refine Jd rfl rfl (JeW 0) ⟨Rf,Rf,trivial⟩ fun nx2=> ?_
 refine stp ?_
 exact Je rfl Rf
theorem Jlt (x:ByteArray) (l:List ByteArray):(AV.sl 1 ((x::l).length - Int.toNat 1) fun k=> (fun k=> AV.v ((List.map Value.string (x::l)).getD k undef)) (Int.toNat 1+k))=JM l:=by
 unfold JM
 rw [show (x::l).length - Int.toNat 1=l.length by simp]
 congr 1
 funext k
 show AV.v ((List.map Value.string (x::l)).getD (1+k) undef)=_
 rw [Nat.add_comm];rfl
theorem Jlu (s:Nat) (a b c ru:AV) (w1 w2:ByteArray) (n:Int) (nx:Nat):ECall Tryz.prog 180 [.bp (0,s) 0] ⟨Jbc s a b c ru (JM [w1,w2]) n, [],nx,1⟩ fun r h'=> r=Jf w1∧h'=⟨Jbc s a b c ru (JM [w2]) n, [],nx,1⟩:=by
 refine JT Tryz.func180 rfl rfl ?_
 refine stp ?_
 refine ⟨⟨by decide,(show (0:Int) < 2 by decide)⟩, ?_⟩
 refine stp ?_
 refine ⟨⟨by decide,(show (1:Int)≤2 by decide)⟩,JP (b:=JM [w2]) (Jlt w1 [w2]) ?_⟩
 refine stp ?_
 exact Jac rfl ⟨rfl,rfl⟩
theorem Jiw (s:Nat) (a b c ru:AV) (w:ByteArray) (k:Int) (n:Int) (nx:Nat) (hr:Tells Tryz.prog 306 [JM [w]] (.tup [act k 0,int 1,int 0])):ECall Tryz.prog 253 [.bp (0,s) 0] ⟨Jbc s a b c ru (JM [w]) n, [],nx,1⟩ fun r h'=> r=act k 0∧∃nx',h'=⟨Jbc s a b c ru (JM []) n, [],nx',1⟩:=by
 refine ECall.wk (JT Tryz.func253 rfl rfl ?_)
 refine stp ?_
 refine Jd rfl rfl hr ⟨Rf,trivial⟩ fun nx2=> ?_
 refine stp ?_
 refine Jd rfl rfl JrK ⟨Rf,trivial⟩ fun nx3=> ?_
 refine stp ?_
 refine ⟨⟨by decide,(show (1:Int)≤1 by decide)⟩,JP (b:=JM []) (Jlt w []) ?_⟩
 refine stp ?_
 refine Jep rfl ⟨rfl,trivial⟩ ⟨act k 0,⟨Jbc s a b c ru (JM []) n, [],nx3,1⟩,Rf, ?_,rfl,nx3,rfl⟩
 exact Jaz (Jbc s a b c ru (JM []) n) [] rfl (.cons _ (.cons _ Sf)) Sf Bf Pf
theorem Jp9 (s:Nat) (a b c ru:AV) (w:ByteArray) (k:Int) (nx:Nat) (hr:Tells Tryz.prog 306 [JM [w]] (.tup [act k 0,int 1,int 0])):ECall Tryz.prog 181 [.bp (0,s) 0] ⟨Jbc s a b c ru (JM [w]) 0, [],nx,1⟩ fun r h'=> r= .tup []∧∃nx',h'=⟨Jbc s (int k) (int 0) c ru (JM []) 0, [],nx',1⟩:=by
 refine ECall.wk (JT Tryz.func181 rfl rfl ?_)
 refine stp ?_
 refine Jd rfl rfl (JeW 13) ⟨Rf,Rf,trivial⟩ fun nx2=> ?_
 refine stp ?_
 refine JfW (xs:= [.bp (0,s) 0]) (bx1:=Jbc s a b c ru (JM [w]) 0) (pm1:= []) [] [] 1 rfl rfl rfl rfl ⟨Rf,trivial⟩ (Jiw s a b c ru w k 0 nx2 hr) Bf Pf rfl fun r h' hq=> ?_
 obtain ⟨rfl,nx3,rfl⟩:=hq
 refine stp ?_
 refine Jd rfl rfl (JeW 13) ⟨Rf,Rf,trivial⟩ fun nx4=> ?_
 refine stp ?_
 refine Jep rfl trivial ⟨.tup [],⟨Jbc s (int k) (int 0) c ru (JM []) 0, [],nx4,1⟩,Rf, ?_,rfl,nx4,rfl⟩
 exact Jaz (Jbc s (int k) (int 0) c ru (JM []) 0) [] rfl Sf Sf Bf Pf
end Go.Proofs.W

namespace Go.Proofs.W
open Go.Vl
set_option maxRecDepth 100000
def Jbd:AV:= .os 0 0 (fun _=> .any) none
theorem Jot:Tryz.prog.bytesOf 123=56:=by kernel_rfl
set_option maxHeartbeats 4000000 in
theorem JrL (s:Nat) (a b c:AV) (nm w:ByteArray) (k:Int) (nx:Nat) (hn:Jar nm.data.toList=true) (hs:nm.size≤1000) (hr:Tells Tryz.prog 306 [JM [w]] (.tup [act k 0,int 1,int 0])):
 ECall Tryz.prog 184 [.bp (0,s) 0,Jf nm] ⟨Jbc s a b c Jbd (JM [w]) 1, [],nx,1⟩ fun r h'=> r= .tup []∧∃st nx',h'=⟨Jbc s a b c (.os 4 1 (fun _=> Jaf ⟨nm,(k,0), []⟩) (some (0,st))) (JM []) 1, [((0,st),4)],nx',1⟩:=by
 have hnm:=Jiu nm Om
 rw [hn] at hnm
 refine ECall.wk (JT Tryz.func184 rfl rfl ?_)
 refine stp ?_
 refine Jd rfl rfl hnm ⟨Rf,trivial⟩ fun nx2=> ?_
 refine stp ?_
 refine Jd rfl rfl (JeW 13) ⟨Rf,Rf,trivial⟩ fun nx3=> ?_
 refine stp ?_
 refine Jd rfl rfl (JeW 3) ⟨Rf,Rf,trivial⟩ fun nx4=> ?_
 refine stp ?_
 refine JfW (xs:= [.bp (0,s) 0]) (bx1:=Jbc s a b c Jbd (JM [w]) 1) (pm1:= []) [] [] 1 rfl rfl rfl rfl ⟨Rf,trivial⟩ (Jiw s a b c Jbd w k 1 nx4 hr) Bf Pf rfl fun r h' hq=> ?_
 obtain ⟨rfl,nx5,rfl⟩:=hq
 refine stp ?_
 refine Jy (fun y:Nat=> mk 67 [(0, .bp (0,s) 0),(1,Jf nm),(4, .bp (1,nx5) 0)] ⟨((1,nx5), .c [Jf nm,int k,int 0,JaS []])::Jbc s a b c Jbd (JM []) 1, [],y,2⟩) (fun _=> True) (fun _=> 0) ?_ ?_
 ·exact ⟨nx5+1,trivial,Et (pm:= []) (bx:=((1,nx5), .c [Jf nm,int k,int 0,JaS []])::Jbc s a b c Jbd (JM []) 1) rfl rfl ⟨rfl,⟨Rf,Rf,Rf,AVle.os_sl0,trivial⟩,Bf⟩ trivial ⟨Rf,Rf,Rf,trivial⟩⟩
 ·rintro nx6 -
  refine stp ?_
  refine J6 9 (((1,nx5), .c [Jf nm,int k,int 0,JaS []])::Jbc s a b c Jbd (JM []) 1) (fun i=> match i with | 8=> true | _=> false) (fun _=> false) [0,1,2,3,4,5,6,7,8] (by kernel_rfl) (by kernel_rfl) (HB.refl _) ?_
  refine stp ?_
  refine ⟨_,JaZ (e:=123) (c:=4) (pm:= []) (n:=0) (oi:=none) (sz:=0) (f:=fun _=> .any) (HB.refl _) rfl rfl rfl (.inr ⟨_,rfl⟩) (by kernel_rfl) (by kernel_rfl) (by kernel_rfl) (.inl ⟨rfl,rfl⟩) (by kernel_rfl) rfl (Jz rfl) (by rw [Jot];decide) Dc,fun r h' hr=> ?_⟩
  obtain ⟨rfl,rfl⟩:=hr
  refine stp ?_
  refine Jep rfl trivial ⟨.tup [],⟨Jbc s a b c (.os 4 1 (fun _=> Jaf ⟨nm,(k,0), []⟩) (some (0,nx6))) (JM []) 1, [((0,nx6),4)],nx6+1,1⟩,Rf, ?_,rfl,nx6,nx6+1,rfl⟩
  exact Jaz (Jbc s a b c (.os 4 1 (Jcd 0 (fun _=> .any) _) (some (2,nx6))) (JM []) 1) [((2,nx6),4)] rfl (.cons _ Sf) Sf ⟨rfl,⟨Rf,Rf,Rf,(AVle.os_fun (fun i hi=> by obtain rfl:i=0:=Nat.lt_one_iff.1 hi;rfl)).trans (AVle.os_nm rfl),Rf,Rf,trivial⟩,trivial⟩ ⟨rfl,rfl,trivial⟩
end Go.Proofs.W

namespace Go.Proofs.W
open Go.Vl
set_option maxRecDepth 100000
def Jmh (s:Nat) (a b c ru wd:AV) (n:Int):List (Vl.Id×Own):= [((1,s), .c [a,b,c,ru,wd,int n])]
theorem Jlv {l l':List (Value×AV)} {K:List (Value×AV)→Prop} (h:l=l') (hk:Jgd l' K):Jgd l K:=h ▸ hk
def doF (s:Nat):AV:= .fn (.func 181) [.bp (0,s) 0] []
def doX (s:Nat):AV:= .fn (.func 182) [.bp (0,s) 0] []
def doM (s:Nat):List (Value×AV):= [(.string Jb8,doF s),(.string ⟨#[120,51,50]⟩,doX s)]
theorem JrM (x:AV) (h:Heap):DCall Tryz.prog 179 [x] .returning h fun u h'=> u= .returning∧h'=h:=by
 refine Jl2 Tryz.func179 rfl rfl rfl rfl rfl rfl ?_
 refine stp ?_
 refine JmP rfl (.inr rfl) rfl rfl ?_
 refine stp ?_
 exact Jac rfl ⟨rfl,rfl⟩
def JjJ (s s1 s2 s3 s4:Nat) (nm:ByteArray):List (Vl.Id×Own):= [((4,s4), .mp (doM s)),((3,s3), .c [Jf nm]),((2,s2), .c [int 0]),((1,s1), .c [.bp (0,s) 0])]
theorem Jqa (s s1 s2 s3 s4 nx:Nat) (a b c:AV) (nm w:ByteArray) (k:Int) (hn:Jar nm.data.toList=true) (hs:nm.size≤1000) (hr:Tells Tryz.prog 306 [JM [w]] (.tup [act k 0,int 1,int 0])):
 ECall Tryz.prog 183 [.bp (1,s1) 0, .bp (3,s3) 0] ⟨JjJ s s1 s2 s3 s4 nm++Jbc s a b c Jbd (JM [w]) 1, [],nx,5⟩ fun r h'=> r= .tup []∧∃st nx',h'=⟨JjJ s s1 s2 s3 s4 nm++Jbc s a b c (.os 4 1 (fun _=> Jaf ⟨nm,(k,0), []⟩) (some (0,st))) (JM []) 1, [((0,st),4)],nx',5⟩:=by
 refine JT Tryz.func183 rfl rfl ?_
 refine stp ?_
 refine JS (xs:= [.bp (0,s) 0,Jf nm]) (bx1:=Jbc s a b c Jbd (JM [w]) 1) (pm1:= []) (JjJ s s1 s2 s3 s4 nm) [] 5 rfl rfl rfl rfl ⟨Rf,Rf,trivial⟩ (JrL s a b c nm w k nx hn hs hr) Bf Pf rfl fun r h' hq=> ?_
 obtain ⟨rfl,st,nx2,rfl⟩:=hq
 refine stp ?_
 exact Jac rfl ⟨rfl,st,nx2,rfl⟩
set_option maxHeartbeats 4000000 in
theorem Jqb (s:Nat) (nx:Nat):ECall Tryz.prog 98 [.bp (0,s) 0,JM [Jb8,Jdv]] ⟨Jbc s (int 0) (int 0) (Jb false) Jbd Jbd 0, [],nx,1⟩ fun r h'=> r=int 0∧∃nx',h'=⟨Jmh s (int 1) (int 0) (Jb false) Jbd (JM []) 1, [],nx',1⟩:=by
 refine ECall.wk (JT Tryz.func98 rfl rfl ?_)
 refine stp ?_
 refine Jk7 rfl rfl rfl ?_
 refine stp ?_
 refine JS (xs:= [.bp (0,s) 0]) (bx1:=Jbc s (int 0) (int 0) (Jb false) Jbd (JM [Jb8,Jdv]) 0) (pm1:= []) [((2,nx+1), .c [int 0]),((1,nx), .c [.bp (0,s) 0])] [] 3 rfl rfl rfl rfl ⟨Rf,trivial⟩ (Jlu s (int 0) (int 0) (Jb false) Jbd Jb8 Jdv 0 (nx+2)) Bf Pf rfl fun r h' hq=> ?_
 obtain ⟨rfl,rfl⟩:=hq
 refine stp ?_
 refine Jlv (l':=doM s) (by kernel_rfl) ?_
 refine stp ?_
 refine JP (b:= .fn (.func 181) [.bp (0,s) 0] []) (by kernel_rfl) ?_
 refine stp ?_
 refine JS (xs:= [.bp (0,s) 0]) (bx1:=Jbc s (int 0) (int 0) (Jb false) Jbd (JM [Jdv]) 0) (pm1:= []) [((4,nx+3), .mp (doM s)),((3,nx+2), .c [Jf Jb8]),((2,nx+1), .c [int 0]),((1,nx), .c [.bp (0,s) 0])] [] 5 rfl rfl rfl rfl ⟨Rf,trivial⟩ (Jp9 s (int 0) (int 0) (Jb false) Jbd Jdv 1 (nx+4) JrJ) Bf Pf rfl fun r h' hq=> ?_
 obtain ⟨rfl,nx2,rfl⟩:=hq
 refine stp ?_
 refine DCall.mono (JrM _ _) fun u h' hq=> ?_
 obtain ⟨rfl,rfl⟩:=hq
 refine Jep rfl ⟨⟨rfl,Nat.zero_lt_one⟩,trivial⟩ ⟨int 0,⟨Jmh s (int 1) (int 0) (Jb false) Jbd (JM []) 1, [],nx2,1⟩,Rf, ?_,rfl,nx2,rfl⟩
 exact Jaz (Jbc s (int 1) (int 0) (Jb false) Jbd (JM []) 1) [] rfl (.cons _ (.cons _ (.cons _ (.cons _ Sf)))) Sf ⟨rfl,OwnLe.refl _,trivial⟩ Pf
set_option maxHeartbeats 4000000 in
theorem JrN (s:Nat) (nx:Nat):ECall Tryz.prog 98 [.bp (0,s) 0,JM [Jcx,JcI]] ⟨Jbc s (int 1) (int 0) (Jb false) Jbd (JM []) 1, [],nx,1⟩ fun r h'=> r=int 0∧∃st nx',h'=⟨Jmh s (int 1) (int 0) (Jb false) (.os 4 1 (fun _=> Jaf ⟨Jcx,(8,0), []⟩) (some (0,st))) (JM []) 2, [((0,st),4)],nx',1⟩:=by
 refine ECall.wk (JT Tryz.func98 rfl rfl ?_)
 refine stp ?_
 refine Jk7 rfl rfl rfl ?_
 refine stp ?_
 refine JS (xs:= [.bp (0,s) 0]) (bx1:=Jbc s (int 1) (int 0) (Jb false) Jbd (JM [Jcx,JcI]) 1) (pm1:= []) [((2,nx+1), .c [int 0]),((1,nx), .c [.bp (0,s) 0])] [] 3 rfl rfl rfl rfl ⟨Rf,trivial⟩ (Jlu s (int 1) (int 0) (Jb false) Jbd Jcx JcI 1 (nx+2)) Bf Pf rfl fun r h' hq=> ?_
 obtain ⟨rfl,rfl⟩:=hq
 refine stp ?_
 refine Jlv (l':=doM s) (by kernel_rfl) ?_
 refine stp ?_
 refine JP (b:= .v .nilFunc) (by kernel_rfl) ?_
 refine stp ?_
 refine JS (xs:= [.bp (1,nx) 0, .bp (3,nx+2) 0]) (bx1:=JjJ s nx (nx+1) (nx+2) (nx+3) Jcx++Jbc s (int 1) (int 0) (Jb false) Jbd (JM [JcI]) 1) (pm1:= []) [] [] 5 rfl rfl rfl rfl ⟨Rf,Rf,trivial⟩ (Jqa s nx (nx+1) (nx+2) (nx+3) (nx+4) (int 1) (int 0) (Jb false) Jcx JcI 8 (by decide+kernel) Dc Jp8) Bf Pf rfl fun r h' hq=> ?_
 obtain ⟨rfl,st,nx2,rfl⟩:=hq
 refine stp ?_
 refine DCall.mono (JrM _ _) fun u h' hq=> ?_
 obtain ⟨rfl,rfl⟩:=hq
 refine Jep rfl ⟨⟨rfl,Nat.zero_lt_one⟩,trivial⟩ ⟨int 0,⟨Jmh s (int 1) (int 0) (Jb false) (.os 4 1 (fun _=> Jaf ⟨Jcx,(8,0), []⟩) (some (0,st))) (JM []) 2, [((0,st),4)],nx2,1⟩,Rf, ?_,rfl,st,nx2,rfl⟩
 exact Jaz (Jbc s (int 1) (int 0) (Jb false) (.os 4 1 (fun _=> Jaf ⟨Jcx,(8,0), []⟩) (some (0,st))) (JM []) 2) [((0,st),4)] rfl (.cons _ (.cons _ (.cons _ (.cons _ Sf)))) Sf ⟨rfl,OwnLe.refl _,trivial⟩ Pf
end Go.Proofs.W

namespace Go.Proofs.W
open Go.Vl
set_option maxRecDepth 100000
def pAw:Pol:=⟨(1,0),false, [⟨Jcx,(8,0), []⟩]⟩
def LL:List (Nat×List ByteArray):= [(1, [Jb8,Jdv]),(2, [Jcx,JcI])]
theorem Jwm:Jtp [(JaT,1),(lineB,2)]=LL:=by
 show [(1,Jew JaT),(2,Jew lineB)]=_
 rw [JkB,JkC];rfl
def JkD (k st:Nat):List AV:=match k with
 | 0=> [int 0,int 0,Jb false,Jbd,Jbd,int 0]
 | 1=> [int 1,int 0,Jb false,Jbd,JM [],int 1]
 | _=> [int 1,int 0,Jb false, .os 4 1 (fun _=> Jaf ⟨Jcx,(8,0), []⟩) (some (0,st)),JM [],int 2]
def Jtr (k st:Nat):List (Vl.Id×Nat):=match k with
 | 2=> [((0,st),4)]
 | _=> []
set_option maxHeartbeats 4000000 in
theorem Jqc:Tells Tryz.prog 42 [Jf textAB] (.tup [JbN pAw,int 0,int 0]):=by
 have hl:=Jl9
 rw [Jwm] at hl
 refine Jg Tryz.func42 rfl rfl fun nx=> ?_
 refine stp ?_
 refine Jd rfl rfl hl ⟨Rf,trivial⟩ fun nx2=> ?_
 refine stp ?_
 refine Jy (fun y:Nat×Nat×Nat=> mk 52 [(2, .bp (0,nx) 0),(3,int 0),(4,int 0),(8, .bp (1,nx2) 0),(31,JrH LL),(32,int 2),(33,int y.1)] ⟨[((1,nx2), .c (JkD y.1 y.2.1)),((0,nx), .c [int 0,int 0,Jb false,Jbd])],Jtr y.1 y.2.1,y.2.2,2⟩) (fun y=> y.1≤2) (fun y=> 2 - y.1) ?_ ?_
 ·exact ⟨(0,0,nx2+1),Nat.zero_le _,Et (pm:= []) (bx:= [((1,nx2), .c (JkD 0 0)),((0,nx), .c [int 0,int 0,Jb false,Jbd])]) rfl rfl Bf trivial ⟨Rf,Rf,Rf,Rf,Rf,Rf,Rf,trivial⟩⟩
 ·rintro ⟨k,st,nx3⟩ h1
  dsimp only at h1
  obtain rfl | rfl | rfl:k=0∨k=1∨k=2:=by omega
  ·refine stp ?_
   refine ⟨⟨(by decide:(0:Int)≤0),(by decide:(0:Int) < 2)⟩,JP (b:= .rp [int 1,JM [Jb8,Jdv]]) rfl ?_⟩
   refine stp ?_
   refine Jlh (xs:= [.bp (0,nx2) 0,JM [Jb8,Jdv]]) (bx1:= [((1,nx2), .c (JkD 0 st))]) (pm1:= []) [((2,nx3), .c [int 1,JM [Jb8,Jdv]])] [((0,nx), .c [int 0,int 0,Jb false,Jbd])] [] 3 rfl rfl rfl rfl ⟨AVle.bp_nm rfl,Rf,trivial⟩ (Jqb nx2 (nx3+1)) ⟨rfl,OwnLe.refl _,trivial⟩ Pf rfl fun r h' hq=> ?_
   obtain ⟨rfl,nx4,rfl⟩:=hq
   refine stp ?_
   exact back (1,0,nx4) Dm Dm (Jq (pm:=Jtr 1 0) (bx:= [((1,nx2), .c (JkD 1 0)),((0,nx), .c [int 0,int 0,Jb false,Jbd])]) _ _ rfl rfl (.cons _ Sf) Sf Bf Pf ⟨Rf,Rf,Rf,Rf,Rf,Rf,Rf,trivial⟩)
  ·refine stp ?_
   refine ⟨⟨(by decide:(0:Int)≤1),(by decide:(1:Int) < 2)⟩,JP (b:= .rp [int 2,JM [Jcx,JcI]]) rfl ?_⟩
   refine stp ?_
   refine Jlh (xs:= [.bp (0,nx2) 0,JM [Jcx,JcI]]) (bx1:= [((1,nx2), .c (JkD 1 st))]) (pm1:= []) [((2,nx3), .c [int 2,JM [Jcx,JcI]])] [((0,nx), .c [int 0,int 0,Jb false,Jbd])] [] 3 rfl rfl rfl rfl ⟨AVle.bp_nm rfl,Rf,trivial⟩ (JrN nx2 (nx3+1)) ⟨rfl,OwnLe.refl _,trivial⟩ Pf rfl fun r h' hq=> ?_
   obtain ⟨rfl,st',nx4,rfl⟩:=hq
   refine stp ?_
   exact back (2,st',nx4) Dm Dm (Jq (pm:=Jtr 2 st') (bx:= [((1,nx2), .c (JkD 2 st')),((0,nx), .c [int 0,int 0,Jb false,Jbd])]) _ _ rfl rfl (.cons _ Sf) Sf Bf Pf ⟨Rf,Rf,Rf,Rf,Rf,Rf,Rf,trivial⟩)
  ·refine stp ?_
   exact Jj rfl ⟨rfl,trivial⟩ (AVle.tups (cs:= [_,_,_]) ⟨AVle.ags (cs:= [_,_,_,_]) ⟨Rf,Rf,Rf,(AVle.os_fun (fun i hi=> by obtain rfl:i=0:=Nat.lt_one_iff.1 hi;rfl)).trans AVle.os_sl,trivial⟩,Rf,Rf,trivial⟩)
end Go.Proofs.W

namespace Go.Proofs.W
open Go.Vl
set_option maxRecDepth 100000
def Jat (l:List TRow) (s:ByteArray):TRow:=if JaJ l s then l.getD (Jbb l s) Jh else Jh
set_option maxHeartbeats 2000000 in
theorem JrO (l:List TRow) (s:ByteArray) (hl:l.length≤1000000) (hs:JgK l s):Tells Tryz.prog 108 [JN l,Jf s] (.tup [Jb (JaJ l s&& decide ((Jat l s).a2≥0)),Jb (decide ((Jat l s).mux > 0))]):=by
 have hf:=JfF l s hl hs
 unfold JjD at hf
 unfold Jat
 cases hb:JaJ l s with
 | true=>
   rw [hb,if_pos rfl] at hf
   rw [if_pos rfl]
   generalize l.getD (Jbb l s) Jh=r at hf⊢
   cases hd:decide (r.a2≥0) with
   | true=>
     refine Jg Tryz.func108 rfl rfl fun nx=> ?_
     refine stp ?_
     refine Jd rfl rfl hf ⟨Rf,Rf,trivial⟩ fun nx2=> ?_
     refine stp ?_
     refine J6 11 _ (fun _=> false) (fun _=> false) [0,1,2,3,4,5,6,7,8,9,10] (by kernel_rfl) (by kernel_rfl) (HB.refl _) ?_
     refine stp ?_
     refine ⟨_,JdT rfl rfl rfl rfl trivial, ?_⟩
     refine stp ?_
     refine ⟨_,JdT rfl rfl rfl rfl (by first | trivial | exact ⟨rfl,Nat.le_of_ble_eq_true rfl⟩ | exact ⟨by decide,by decide⟩), ?_⟩
     refine stp ?_
     refine ⟨_,JdT rfl rfl rfl rfl (by first | trivial | exact ⟨rfl,Nat.le_of_ble_eq_true rfl⟩), ?_⟩
     refine stp ?_
     refine ⟨.v (.bool true),Jlg rfl rfl rfl rfl trivial hd, ?_⟩
     refine stp ?_
     exact Jj rfl trivial Rf
   | false=>
     refine Jg Tryz.func108 rfl rfl fun nx=> ?_
     refine stp ?_
     refine Jd rfl rfl hf ⟨Rf,Rf,trivial⟩ fun nx2=> ?_
     refine stp ?_
     refine J6 11 _ (fun _=> false) (fun _=> false) [0,1,2,3,4,5,6,7,8,9,10] (by kernel_rfl) (by kernel_rfl) (HB.refl _) ?_
     refine stp ?_
     refine ⟨_,JdT rfl rfl rfl rfl trivial, ?_⟩
     refine stp ?_
     refine ⟨_,JdT rfl rfl rfl rfl (by first | trivial | exact ⟨rfl,Nat.le_of_ble_eq_true rfl⟩ | exact ⟨by decide,by decide⟩), ?_⟩
     refine stp ?_
     refine ⟨_,JdT rfl rfl rfl rfl (by first | trivial | exact ⟨rfl,Nat.le_of_ble_eq_true rfl⟩), ?_⟩
     refine stp ?_
     refine ⟨.v (.bool false),Jlg rfl rfl rfl rfl trivial hd, ?_⟩
     refine stp ?_
     exact Jj rfl trivial Rf
 | false=>
   rw [hb,if_neg Dc] at hf
   rw [if_neg Dc]
   refine Jg Tryz.func108 rfl rfl fun nx=> ?_
   refine stp ?_
   refine Jd rfl rfl hf ⟨Rf,Rf,trivial⟩ fun nx2=> ?_
   refine stp ?_
   refine J6 11 _ (fun _=> false) (fun _=> false) [0,1,2,3,4,5,6,7,8,9,10] (by kernel_rfl) (by kernel_rfl) (HB.refl _) ?_
   refine stp ?_
   refine ⟨_,JhX rfl rfl rfl, ?_⟩
   refine stp ?_
   refine ⟨_,JhX rfl rfl rfl, ?_⟩
   refine stp ?_
   refine ⟨_,JhX rfl rfl rfl, ?_⟩
   refine stp ?_
   refine ⟨_,JhX rfl rfl rfl, ?_⟩
   refine stp ?_
   exact Jj rfl trivial Rf
end Go.Proofs.W

namespace Go.Proofs.W
open Go.Vl
set_option maxRecDepth 100000
structure Ct where
 name:ByteArray
 many:Nat
deriving DecidableEq
end Go.Proofs.W

namespace Go.Proofs.W
open Go.Vl
set_option maxRecDepth 100000
end Go.Proofs.W

namespace Go.Proofs.W
open Go.Vl
set_option maxRecDepth 100000
end Go.Proofs.W

namespace Go.Proofs.W
open Go.Vl
set_option maxRecDepth 100000
theorem Juy {a b:Int} (h:a=b):AVle (.v (.int .u32 a)) (u32 b):=h ▸ Rf
theorem Jqd (k n:Nat) (hk:k < 8) (hn:n≤km k):Tells Tryz.prog 113 [act (k+1:Nat) n] (.tup [u32 (kb k+n:Nat),int 0]):=by
 obtain ⟨s,m,hr1,hr2⟩:=JvB k hk
 obtain ⟨s',c',m',h3,h4,_⟩:=JgJ k hk
 have hm:m=m':=by
  rw [hr1] at h3
  have:=AV.ag.inj h3
  simp at this
  exact this.2.2
 rw [← hm] at h4
 clear h3
 have hle:=Jwl hk
 have ho:=Jnc k hk
 rw [hr1] at ho
 have hR:=JiU ((k+1:Nat):Int) (n:Int)
 have hkm:((km k:Nat):Int)=Jjz ((k+1:Nat):Int):=by
  clear hr1 hr2 h4 hle ho hR hn
  rcases k with _ | _ | _ | _ | _ | _ | _ | _ | k
  all_goals first | decide | omega
 rw [show Ja9 ((k+1:Nat):Int) (n:Int)=true by unfold Ja9;rw [← hkm];simp;omega] at hR
 have e1:IntKind.u32.wrap (n:Int)=(n:Int):=by simp [IntKind.wrap,IntKind.signed,IntKind.bits];omega
 have e2:IntKind.u32.wrap ((kb k:Int)+(n:Int))=((kb k+n:Nat):Int):=by
  rw [show (kb k:Int)+(n:Int)=((kb k+n:Nat):Int) by omega]
  simp [IntKind.wrap,IntKind.signed,IntKind.bits];omega
 rcases h4 with rfl | ⟨n',rfl⟩
 all_goals
  refine Jg Tryz.func113 rfl rfl fun nx=> ?_
  refine stp ?_
  refine Jd rfl rfl hR ⟨Rf,trivial⟩ fun nx1=> ?_
  refine stp ?_
  refine Jd rfl rfl ho ⟨Rf,trivial⟩ fun nx2=> ?_
  refine stp ?_
  refine Je rfl (AVle.tups ⟨Juy ?_,Rf,trivial⟩)
  show IntKind.u32.wrap ((kb k:Int)+IntKind.u32.wrap (n:Int))=_
  rw [e1,e2]
end Go.Proofs.W

namespace Go.Proofs.W
open Go.Vl
set_option maxRecDepth 100000
end Go.Proofs.W

namespace Go.Proofs.W
open Go.Vl
set_option maxRecDepth 100000
end Go.Proofs.W

namespace Go.Proofs.W
open Go.Vl
set_option maxRecDepth 100000
def JiV (l:List TRow):Bool:=decide (l.length≤40)&& !l.any fun r=> decide (60 < r.name.size)
end Go.Proofs.W

namespace Go.Proofs.W
open Go.Vl
set_option maxRecDepth 100000
end Go.Proofs.W

namespace Go.Proofs.W
open Go.Vl
set_option maxRecDepth 100000
theorem JoZ {c d:Cnd}:(c.arg ==d.arg&& (c.op ==d.op&& ((c.mask:Int) ==(d.mask:Int)&& ((c.value:Int) ==(d.value:Int)&& true))))=decide (c=d):=by
 rw [Bool.eq_iff_iff]
 simp only [Bool.and_eq_true,beq_iff_eq,decide_eq_true_eq,and_true]
 obtain ⟨a1,a2,a3,a4⟩:=c
 obtain ⟨b1,b2,b3,b4⟩:=d
 simp
 omega
theorem JrP {α:Type} {a b:List α} {d:α} (hl:a.length=b.length) (h:∀j,j < a.length→a.getD j d=b.getD j d):a=b:=by
 refine List.ext_getElem hl fun j h1 h2=> ?_
 have:=h j h1
 simpa [List.getD,h1,h2] using this
theorem Jou (a b:List Cnd) (ha:a.length≤1000000):Tells Tryz.prog 196 [JaS a,JaS b] (Jb (decide (a=b))):=by
 refine Jg Tryz.func196 rfl rfl fun nx=> ?_
 refine stp ?_
 intro c g1;cases c
 rotate_left
 ·have g1:((a.length:Nat):Int)≠((b.length:Nat):Int):=JbE.1 g1
  refine stp ?_
  exact Je rfl (JH (by rw [eq_comm];exact decide_eq_false (fun h=> g1 (by rw [h]))))
 have g1:((a.length:Nat):Int)=((b.length:Nat):Int):=JbD.1 g1
 have hl:a.length=b.length:=by omega
 refine stp ?_
 refine Jy (fun s:Nat×Nat=> mk 26 [(0,JaS a),(1,JaS b),(12,int a.length),(13,int s.1)] ⟨[], [],s.2,0⟩) (fun s=> s.1≤a.length∧∀j,j < s.1→a.getD j cnd0=b.getD j cnd0) (fun s=> a.length - s.1) ?_ ?_
 ·exact ⟨(0,nx),⟨Nat.zero_le _,fun j h=> absurd h (Nat.not_lt_zero _)⟩,JaI rfl rfl ⟨Rf,Rf,Rf,Rf,trivial⟩⟩
 ·rintro ⟨i,nx2⟩ ⟨h3,h4⟩
  dsimp only at h3 h4
  refine stp ?_
  intro c h5;cases c
  ·have h6:=Ju h5
   dsimp only at h6
   obtain rfl:i=a.length:=by omega
   have he:=JrP hl h4
   refine stp ?_
   exact Je rfl (JH (by rw [eq_comm];exact decide_eq_true he))
  ·have h6:=Jv h5
   dsimp only at h6
   have hi:i < a.length:=by omega
   refine stp ?_
   (refine J1 9 ?_ ?_ ?_ ?_;(· kernel_rfl);(· kernel_rfl);(· kernel_rfl))
   refine stp ?_
   refine ⟨⟨by dsimp only;omega,by dsimp only;omega⟩, ?_⟩
   refine stp ?_
   refine ⟨⟨by dsimp only;omega,by dsimp only;omega⟩, ?_⟩
   refine stp ?_
   intro c hc
   have hc2:c= !decide (a.getD i cnd0=b.getD i cnd0):=hc.trans (congrArg (!·) JoZ)
   cases c
   ·have he:a.getD i cnd0=b.getD i cnd0:=by simpa using hc2
    refine stp ?_
    refine back (i+1,nx2) ⟨by dsimp only;omega,fun j hj=> ?_⟩ Dm (JaI rfl rfl ⟨Rf,Rf,Rf,Jk (J7 Dm),trivial⟩)
    dsimp only at hj
    rcases Nat.lt_or_ge j i with h | h
    ·exact h4 j h
    ·obtain rfl:j=i:=by omega
     exact he
   ·have he:¬a.getD i cnd0=b.getD i cnd0:=by simpa using hc2
    refine stp ?_
    exact Je rfl (JH (by rw [eq_comm];exact decide_eq_false (fun h=> he (by rw [h]))))
theorem Juz {a b:A2}:(a.1 ==b.1&& (a.2 ==b.2&& true))=decide (a=b):=by
 rw [Bool.eq_iff_iff]
 simp only [Bool.and_eq_true,beq_iff_eq,decide_eq_true_eq,and_true]
 exact (Prod.ext_iff).symm
end Go.Proofs.W

namespace Go.Proofs.W
open Go.Vl
set_option maxRecDepth 100000
end Go.Proofs.W

namespace Go.Proofs.W
open Go.Vl
set_option maxRecDepth 100000
end Go.Proofs.W

namespace Go.Proofs.W
open Go.Vl
set_option maxRecDepth 100000
end Go.Proofs.W

namespace Go.Proofs.W
open Go.Vl
set_option maxRecDepth 100000
end Go.Proofs.W

namespace Go.Proofs.W
open Go.Vl
set_option maxRecDepth 100000
end Go.Proofs.W

namespace Go.Proofs.W
open Go.Vl
set_option maxRecDepth 100000
end Go.Proofs.W

namespace Go.Proofs.W
open Go.Vl
set_option maxRecDepth 100000
end Go.Proofs.W

namespace Go.Proofs.W
open Go.Vl
set_option maxRecDepth 100000
end Go.Proofs.W

namespace Go.Proofs.W
open Go.Vl
set_option maxRecDepth 100000
def JfG (r:TRow):Bool:=decide (r.mux < 0)|| (decide (2 < r.mux)|| ((decide (r.mux=0)&& decide (r.sub≠0))|| (decide (0 < r.mux)&& (decide (r.sub < 1)|| decide (255 < r.sub)))))
theorem Jho (r:TRow):Jcf r=(!Je6 r&& !JfG r):=by
 unfold Jcf
 congr 1
 unfold JfG
 by_cases h:r.mux=0
 ·rw [if_pos h,h];simp
 ·rw [if_neg h,Bool.eq_iff_iff];simp;omega
def Jgj (r s:TRow):Bool:= [0,1,2,3,4].any fun a=> decide (0≤r.num a)&& decide (s.num a=r.num a)
def Jhp (r s:TRow):Bool:=decide (0 < r.mux)&& (decide (s.mux=r.mux)&& decide (s.sub=r.sub))
def JcJ (l:List TRow) (i:Nat):Bool:=(l.take i).any fun s=> Jgj (l.getD i Jh) s|| Jhp (l.getD i Jh) s
def Jh1 (r:TRow):Bool:=decide (r.a2=102)|| decide (r.a2=117)
def Jc3 (l:List TRow) (i:Nat):Int:=if Jar (l.getD i Jh).name.data.toList=false then 13 else if JbK l i then 15 else if Je6 (l.getD i Jh) then 16 else if JfG (l.getD i Jh) then 16 else if Jh1 (l.getD i Jh) then 17 else if JcJ l i then 15 else 0
theorem Jo0 {l:List TRow} {i:Nat} (h:Jar (l.getD i Jh).name.data.toList=false):Jc3 l i=13:=if_pos h
theorem Jno {l:List TRow} {i:Nat} (h:Jar (l.getD i Jh).name.data.toList=true):Jc3 l i=if JbK l i then 15 else if Je6 (l.getD i Jh) then 16 else if JfG (l.getD i Jh) then 16 else if Jh1 (l.getD i Jh) then 17 else if JcJ l i then 15 else 0:=if_neg (by rw [h];decide)
theorem Jqe {l:List TRow} {i k:Nat} {r:TRow} (hr:l.getD i Jh=r) (hk:k < i) (hi:i < l.length) (h:(Jgj r (l.getD k Jh)|| Jhp r (l.getD k Jh))=true):JcJ l i=true:=by
 unfold JcJ
 rw [hr,List.any_eq_true]
 refine ⟨l.getD k Jh, ?_,h⟩
 rw [List.mem_iff_getElem]
 exact ⟨k,by rw [List.length_take];omega,by rw [List.getElem_take];simp [List.getD,show k < l.length by omega]⟩
def cN (r s:TRow) (a:Nat):Bool:=decide (r.num a≥0)&& decide (s.num a=r.num a)
theorem Jov {r s:TRow} {a:Nat} (ha:a < 5) (h:cN r s a=true):Jgj r s=true:=by
 unfold Jgj
 rw [List.any_eq_true]
 exact ⟨a,by simp;omega,h⟩
theorem Jts {r:TRow} {k:Nat} (hk:k < 5) (h:true=JdU (r.num k)):Je6 r=true:=by
 rcases (by omega:k=0∨k=1∨k=2∨k=3∨k=4) with rfl | rfl | rfl | rfl | rfl
 all_goals
  have h':JdU (r.num _)=true:=h.symm
  simp only [TRow.num] at h'
  simp [Je6,h']
end Go.Proofs.W

namespace Go.Proofs.W
open Go.Vl
set_option maxRecDepth 100000
def Jgk (l:List TRow):Int×Int:=if 400 < l.length then (0,3) else match (List.range l.length).find? (fun i=> decide (Jc3 l i≠0)) with
 | some i=> ((i:Int),Jc3 l i)
 | none=> (0,0)
theorem JjK {n:Nat} {p:Nat→Bool} {i:Nat} (hi:i < n) (h:∀j,j < i→p j=false) (hp:p i=true):(List.range n).find? p=some i:=by
 rw [List.find?_range_eq_some]
 exact ⟨hp,List.mem_range.2 hi,fun j hj=> by rw [h j hj];rfl⟩
theorem Jow {n:Nat} {p:Nat→Bool} (h:∀j,j < n→p j=false):(List.range n).find? p=none:=by
 rw [List.find?_eq_none]
 intro x hx
 rw [h x (List.mem_range.1 hx)];decide
end Go.Proofs.W

namespace Go.Proofs.W
open Go.Vl
set_option maxRecDepth 100000
def Jnp (l:List TRow) (k:Nat) (S:Jbq):Prop:=(∀(a:Nat) (n:Int),a < 5→(((a:Int),n)∈S↔n≠-1∧∃j,j < k∧(l.getD j Jh).num a=n))∧(∀m s:Int,m=1∨m=2→((5+m,s)∈S↔∃j,j < k∧(l.getD j Jh).mux=m∧(l.getD j Jh).sub=s))
theorem JjL {r:TRow} {S:Jbq}:∀ {k:Nat},JaE r S k=none→∃a,a < k∧r.num a≠-1∧((a:Int),r.num a)∈S
 | 0,h=> by unfold JaE at h;cases h
 | k+1,h=> by
   unfold JaE at h
   cases hk:JaE r S k with
   | none=> obtain ⟨a,h1,h2⟩:=JjL hk;exact ⟨a,by omega,h2⟩
   | some S'=>
     rw [hk] at h
     dsimp only at h
     split at h
     ·cases h
     ·rename_i hn
      split at h
      ·rename_i hm
       refine ⟨k,Nat.lt_succ_self _,hn, ?_⟩
       have:∀ {m:Nat} {S':Jbq},JaE r S m=some S'→∀x∈S',x∈S∨∃a,a < m∧x=((a:Int),r.num a):=by
        intro m
        induction m with
        | zero=> intro S' h x hx;unfold JaE at h;cases h;exact .inl hx
        | succ m ih=>
          intro S' h x hx
          unfold JaE at h
          cases hm:JaE r S m with
          | none=> rw [hm] at h;cases h
          | some S1=>
            rw [hm] at h
            dsimp only at h
            split at h
            ·cases h
             rcases ih hm x hx with q | ⟨a,q1,q2⟩
             ·exact .inl q
             ·exact .inr ⟨a,by omega,q2⟩
            ·split at h
             ·cases h
             ·cases h
              rcases List.mem_append.1 hx with hx | hx
              ·rcases ih hm x hx with q | ⟨a,q1,q2⟩
               ·exact .inl q
               ·exact .inr ⟨a,by omega,q2⟩
              ·exact .inr ⟨m,Nat.lt_succ_self _,List.mem_singleton.1 hx⟩
       rcases this hk _ hm with q | ⟨a,q1,q2⟩
       ·exact q
       ·have:=congrArg Prod.fst q2
        dsimp only at this
        omega
      ·cases h
theorem JjM {r:TRow} {S:Jbq}:∀ {k:Nat} {S':Jbq},JaE r S k=some S'→(∀x,x∈S'↔x∈S∨∃a,a < k∧r.num a≠-1∧x=((a:Int),r.num a))∧∀a,a < k→r.num a≠-1→¬((a:Int),r.num a)∈S
 | 0,S',h=> by
   unfold JaE at h;cases h
   exact ⟨fun x=> ⟨.inl,fun q=> by rcases q with q | ⟨a,q,_⟩;exact q;omega⟩,fun a ha=> by omega⟩
 | k+1,S',h=> by
   unfold JaE at h
   cases hk:JaE r S k with
   | none=> rw [hk] at h;cases h
   | some S1=>
     rw [hk] at h
     dsimp only at h
     obtain ⟨i1,i2⟩:=JjM hk
     split at h
     ·rename_i hn
      cases h
      refine ⟨fun x=> (i1 x).trans ⟨fun q=> ?_,fun q=> ?_⟩,fun a ha hna=> ?_⟩
      ·rcases q with q | ⟨a,q1,q2⟩
       ·exact .inl q
       ·exact .inr ⟨a,by omega,q2⟩
      ·rcases q with q | ⟨a,q1,q2⟩
       ·exact .inl q
       ·rcases Nat.lt_or_ge a k with w | w
        ·exact .inr ⟨a,w,q2⟩
        ·rw [show a=k by omega] at q2;exact absurd hn q2.1
      ·rcases Nat.lt_or_ge a k with w | w
       ·exact i2 a w hna
       ·rw [show a=k by omega] at hna;exact absurd hn hna
     ·rename_i hn
      split at h
      ·cases h
      ·rename_i hm
       cases h
       refine ⟨fun x=> ?_,fun a ha hna=> ?_⟩
       ·rw [List.mem_append,i1,List.mem_singleton]
        constructor
        ·rintro ((q | ⟨a,q1,q2⟩) | q)
         ·exact .inl q
         ·exact .inr ⟨a,by omega,q2⟩
         ·exact .inr ⟨k,Nat.lt_succ_self _,hn,q⟩
        ·rintro (q | ⟨a,q1,q2,q3⟩)
         ·exact .inl (.inl q)
         ·rcases Nat.lt_or_ge a k with w | w
          ·exact .inl (.inr ⟨a,w,q2,q3⟩)
          ·rw [show a=k by omega] at q3;exact .inr q3
       ·rcases Nat.lt_or_ge a k with w | w
        ·exact i2 a w hna
        ·rw [show a=k by omega]
         exact fun q=> hm ((i1 _).2 (.inl q))
theorem Jf1 {l:List TRow} {i:Nat} (hi:i < l.length):JcJ l i=true↔∃j,j < i∧((∃a,a < 5∧0≤(l.getD i Jh).num a∧(l.getD j Jh).num a=(l.getD i Jh).num a)∨(0 < (l.getD i Jh).mux∧(l.getD j Jh).mux=(l.getD i Jh).mux∧(l.getD j Jh).sub=(l.getD i Jh).sub)):=by
 constructor
 ·intro h
  unfold JcJ at h
  rw [List.any_eq_true] at h
  obtain ⟨s,hs,h⟩:=h
  obtain ⟨j,hj,rfl⟩:=List.mem_iff_getElem.1 hs
  rw [List.length_take] at hj
  rw [List.getElem_take] at h
  have hg:l.getD j Jh=l[j]:=by simp [List.getD,show j < l.length by omega]
  refine ⟨j,by omega, ?_⟩
  rw [hg]
  rw [Bool.or_eq_true] at h
  rcases h with h | h
  ·left
   unfold Jgj at h
   rw [List.any_eq_true] at h
   obtain ⟨a,ha,h⟩:=h
   rw [Bool.and_eq_true,decide_eq_true_iff,decide_eq_true_iff] at h
   exact ⟨a,by simp at ha;omega,h⟩
  ·right
   unfold Jhp at h
   rw [Bool.and_eq_true,Bool.and_eq_true,decide_eq_true_iff,decide_eq_true_iff,decide_eq_true_iff] at h
   exact h
 ·rintro ⟨j,hj,h⟩
  refine Jqe rfl hj hi ?_
  rw [Bool.or_eq_true]
  rcases h with ⟨a,ha,h1,h2⟩ | ⟨h1,h2,h3⟩
  ·exact .inl (Jov ha (by unfold cN;rw [decide_eq_true h1,decide_eq_true h2];rfl))
  ·exact .inr (by unfold Jhp;rw [decide_eq_true h1,decide_eq_true h2,decide_eq_true h3];rfl)
theorem JuA {r:TRow} (h:Je6 r=false) {a:Nat} (ha:a < 5):-1≤r.num a:=by
 have:JdU (r.num a)=false:=by
  cases hq:JdU (r.num a) with
  | false=> rfl
  | true=> rw [Jts ha hq.symm] at h;cases h
 unfold JdU at this
 rw [Bool.or_eq_false_iff,decide_eq_false_iff_not] at this
 omega
theorem Jo1 {l:List TRow} {i:Nat} {S:Jbq} (hi:i < l.length) (hS:Jnp l i S):(Jc3 l i=0→∃S',Jee l i S= .ok S'∧Jnp l (i+1) S')∧(Jc3 l i≠0→∃e,Jee l i S= .error e∧e≠0):=by
 obtain ⟨s1,s2⟩:=hS
 cases hn:Jar (l.getD i Jh).name.data.toList with
 | false=> rw [Jo0 hn];exact ⟨(fun h=> by cases h),fun _=> ⟨13,JoV hn,by decide⟩⟩
 | true=>
   rw [Jno hn]
   cases ho:JbK l i with
   | true=> rw [if_pos rfl];exact ⟨(fun h=> by cases h),fun _=> ⟨15,JoW hn ho,by decide⟩⟩
   | false=>
     rw [if_neg Dc]
     cases hb:Je6 (l.getD i Jh) with
     | true=>
       rw [if_pos rfl]
       exact ⟨(fun h=> by cases h),fun _=> ⟨16,Jkw hn ho (by rw [Jho,hb];rfl),by decide⟩⟩
     | false=>
       rw [if_neg Dc]
       cases hm:JfG (l.getD i Jh) with
       | true=>
         rw [if_pos rfl]
         exact ⟨(fun h=> by cases h),fun _=> ⟨16,Jkw hn ho (by rw [Jho,hb,hm];rfl),by decide⟩⟩
       | false=>
         rw [if_neg Dc]
         have hrg:Jcf (l.getD i Jh)=true:=by rw [Jho,hb,hm];rfl
         cases ha:Jh1 (l.getD i Jh) with
         | true=>
           rw [if_pos rfl]
           have ha':(l.getD i Jh).a2=102∨(l.getD i Jh).a2=117:=by unfold Jh1 at ha;simpa using ha
           exact ⟨(fun h=> by cases h),fun _=> ⟨17,Jkx hn ho hrg ha',by decide⟩⟩
         | false=>
           rw [if_neg Dc]
           have ha':¬((l.getD i Jh).a2=102∨(l.getD i Jh).a2=117):=fun q=> by
            unfold Jh1 at ha
            rcases q with q | q
            ·rw [decide_eq_true q] at ha;cases ha
            ·rw [decide_eq_true q,Bool.or_true] at ha;cases ha
           rw [Jlp hn ho hrg ha']
           cases hns:JaE (l.getD i Jh) S 5 with
           | none=>
             obtain ⟨a,h1,h2,h3⟩:=JjL hns
             obtain ⟨_,j,hj,h4⟩:=(s1 a _ h1).1 h3
             have hc:JcJ l i=true:=(Jf1 hi).2 ⟨j,hj, .inl ⟨a,h1,by have:=JuA hb h1;omega,h4⟩⟩
             rw [hc,if_pos rfl]
             exact ⟨(fun h=> by cases h),fun _=> ⟨15,rfl,by decide⟩⟩
           | some S1=>
             obtain ⟨i1,i2⟩:=JjM hns
             dsimp only
             have hnoN:∀j,j < i→∀a,a < 5→0≤(l.getD i Jh).num a→(l.getD j Jh).num a≠(l.getD i Jh).num a:=fun j hj a h1 h2 h3=> i2 a h1 Om ((s1 a _ h1).2 ⟨by omega,j,hj,h3⟩)
             have hS1:∀(a:Nat) (n:Int),a < 5→(((a:Int),n)∈S1↔n≠-1∧∃j,j < i+1∧(l.getD j Jh).num a=n):=fun a n h5=> by
              rw [i1,s1 a n h5]
              constructor
              ·rintro (⟨q1,j,q2,q3⟩ | ⟨b,q1,q2,q3⟩)
               ·exact ⟨q1,j,by omega,q3⟩
               ·have e1:a=b:=by have:=congrArg Prod.fst q3;dsimp only at this;omega
                have e2:n=(l.getD i Jh).num b:=congrArg Prod.snd q3
                subst e1
                exact ⟨by rw [e2];exact q2,i,Nat.lt_succ_self _,e2.symm⟩
              ·rintro ⟨q1,j,q2,q3⟩
               rcases Nat.lt_or_ge j i with w | w
               ·exact .inl ⟨q1,j,w,q3⟩
               ·have e:j=i:=by omega
                subst e
                exact .inr ⟨a,h5,by rw [q3];exact q1,by rw [q3]⟩
             unfold Jhn
             by_cases hm0:(l.getD i Jh).mux=0
             ·rw [if_pos hm0]
              have hc:JcJ l i=false:=by
               rw [Bool.eq_false_iff,Ne,Jf1 hi]
               rintro ⟨j,hj,⟨a,h1,h2,h3⟩ | ⟨h1,_⟩⟩
               ·exact hnoN j hj a h1 h2 h3
               ·omega
              rw [hc,if_neg Dc]
              refine ⟨fun _=> ⟨S1,rfl,hS1,fun m s hms=> ?_⟩,fun h=> absurd rfl h⟩
              rw [i1,s2 m s hms]
              constructor
              ·rintro (⟨j,q2,q3⟩ | ⟨b,q1,q2,q3⟩)
               ·exact ⟨j,by omega,q3⟩
               ·have:=congrArg Prod.fst q3;dsimp only at this;omega
              ·rintro ⟨j,q2,q3,q4⟩
               rcases Nat.lt_or_ge j i with w | w
               ·exact .inl ⟨j,w,q3,q4⟩
               ·have e:j=i:=by omega
                subst e;omega
             ·rw [if_neg hm0]
              have hm12:=JjB hrg hm0
              by_cases hin:(5+(l.getD i Jh).mux,(l.getD i Jh).sub)∈S1
              ·rw [if_pos hin]
               have hinS:(5+(l.getD i Jh).mux,(l.getD i Jh).sub)∈S:=by
                rcases (i1 _).1 hin with q | ⟨b,q1,q2,q3⟩
                ·exact q
                ·have:=congrArg Prod.fst q3;dsimp only at this;omega
               obtain ⟨j,hj,q1,q2⟩:=(s2 _ _ hm12).1 hinS
               have hc:JcJ l i=true:=(Jf1 hi).2 ⟨j,hj, .inr ⟨by omega,q1,q2⟩⟩
               rw [hc,if_pos rfl]
               exact ⟨(fun h=> by cases h),fun _=> ⟨15,rfl,by decide⟩⟩
              ·rw [if_neg hin]
               have hc:JcJ l i=false:=by
                rw [Bool.eq_false_iff,Ne,Jf1 hi]
                rintro ⟨j,hj,⟨a,h1,h2,h3⟩ | ⟨h1,h2,h3⟩⟩
                ·exact hnoN j hj a h1 h2 h3
                ·exact hin ((i1 _).2 (.inl ((s2 _ _ hm12).2 ⟨j,hj,h2,h3⟩)))
               rw [hc,if_neg Dc]
               refine ⟨fun _=> ⟨_,rfl,fun a n h5=> ?_,fun m s hms=> ?_⟩,fun h=> absurd rfl h⟩
               ·rw [List.mem_append,hS1 a n h5,List.mem_singleton]
                constructor
                ·rintro (q | q)
                 ·exact q
                 ·have:=congrArg Prod.fst q;dsimp only at this;omega
                ·exact .inl
               ·rw [List.mem_append,i1,s2 m s hms,List.mem_singleton]
                constructor
                ·rintro ((⟨j,q2,q3⟩ | ⟨b,q1,q2,q3⟩) | q)
                 ·exact ⟨j,by omega,q3⟩
                 ·have:=congrArg Prod.fst q3;dsimp only at this;omega
                 ·have e1:=congrArg Prod.fst q
                  have e2:=congrArg Prod.snd q
                  dsimp only at e1 e2
                  exact ⟨i,Nat.lt_succ_self _,by omega,e2.symm⟩
                ·rintro ⟨j,q2,q3,q4⟩
                 rcases Nat.lt_or_ge j i with w | w
                 ·exact .inl (.inl ⟨j,w,q3,q4⟩)
                 ·have e:j=i:=by omega
                  subst e
                  exact .inr (by rw [q3,q4])
theorem JiW {l:List TRow}:∀ {k:Nat},k≤l.length→(∀j,j < k→Jc3 l j=0)→∃S,Jda l k= .ok S∧Jnp l k S
 | 0,_,_=> ⟨[],rfl,fun a n _=> by simp,fun m s _=> by simp⟩
 | k+1,hk,h=> by
   obtain ⟨S,h1,h2⟩:=JiW (k:=k) Om fun j hj=> h j Om
   obtain ⟨S',h3,h4⟩:=(Jo1 Om h2).1 (h k Om)
   exact ⟨S',Jlo h1 h3,h4⟩
theorem Jlw {l:List TRow}:(∀j,j < l.length→Jc3 l j=0)∨∃i,i < l.length∧Jc3 l i≠0∧∀j,j < i→Jc3 l j=0:=by
 have:∀n,n≤l.length→(∀j,j < n→Jc3 l j=0)∨∃i,i < l.length∧Jc3 l i≠0∧∀j,j < i→Jc3 l j=0:=by
  intro n
  induction n with
  | zero=> exact fun _=> .inl fun j hj=> absurd hj (Nat.not_lt_zero j)
  | succ n ih=>
    intro hn
    rcases ih Om with h | h
    ·by_cases q:Jc3 l n=0
     ·exact .inl fun j hj=> by rcases Nat.lt_or_ge j n with w | w;exact h j w;rw [show j=n by omega];exact q
     ·exact .inr ⟨n,by omega,q,h⟩
    ·exact .inr h
 exact this _ (Nat.le_refl _)
theorem JrQ (l:List TRow):(JbO l).2=0↔(Jgk l).2=0:=by
 by_cases h4:400 < l.length
 ·unfold JbO Jgk
  rw [if_pos h4,if_pos h4]
 ·rcases Jlw (l:=l) with h | ⟨i,hi,h1,h2⟩
  ·obtain ⟨S,hS,-⟩:=JiW (Nat.le_refl _) h
   rw [JrF h4 hS]
   unfold Jgk
   rw [if_neg h4,Jow (fun j hj=> decide_eq_false (fun q=> q (h j hj)))]
  ·obtain ⟨S,hS,hs⟩:=JiW (k:=i) Om h2
   obtain ⟨e,he,hne⟩:=(Jo1 hi hs).2 h1
   rw [JoU h4 hi hS he]
   unfold Jgk
   rw [if_neg h4,JjK (p:=fun i=> decide (Jc3 l i≠0)) hi (fun j hj=> decide_eq_false (fun q=> q (h2 j hj))) (decide_eq_true h1)]
   exact ⟨fun q=> absurd q hne,fun q=> absurd q h1⟩
theorem Jef {l:List TRow} (h:(JbO l).2=0):l.length≤400∧∀j,j < l.length→Jc3 l j=0:=by
 rw [JrQ] at h
 unfold Jgk at h
 by_cases h4:400 < l.length
 ·rw [if_pos h4] at h;cases h
 ·rcases Jlw (l:=l) with q | ⟨i,hi,h1,h2⟩
  ·exact ⟨by omega,q⟩
  ·rw [if_neg h4,JjK (p:=fun i=> decide (Jc3 l i≠0)) hi (fun j hj=> decide_eq_false (fun q=> q (h2 j hj))) (decide_eq_true h1)] at h
   exact absurd h h1
theorem JfH {l:List TRow} {i:Nat} (h:Jc3 l i=0):Jar (l.getD i Jh).name.data.toList=true∧JbK l i=false∧Je6 (l.getD i Jh)=false∧JfG (l.getD i Jh)=false∧Jh1 (l.getD i Jh)=false∧JcJ l i=false:=by
 cases hn:Jar (l.getD i Jh).name.data.toList with
 | false=> rw [Jo0 hn] at h;cases h
 | true=>
   rw [Jno hn] at h
   split at h
   ·cases h
   split at h
   ·cases h
   split at h
   ·cases h
   split at h
   ·cases h
   split at h
   ·cases h
   simp_all
theorem Jfh {l:List TRow} (h:(JbO l).2=0):JkA l:=by
 obtain ⟨_,hr⟩:=Jef h
 have step:∀i,i+1 < l.length→Go.Sort.ltStr (l.getD i Jh).name.data.toList (l.getD (i+1) Jh).name.data.toList=true:=fun i hi=> by
  have:=(JfH (hr (i+1) hi)).2.1
  unfold JbK at this
  rw [decide_eq_true (Nat.succ_pos i),Bool.true_and] at this
  exact Jvy this
 intro i j hij hj
 have:∀n,i+1+n < l.length→Go.Sort.ltStr (l.getD i Jh).name.data.toList (l.getD (i+1+n) Jh).name.data.toList=true:=by
  intro n
  induction n with
  | zero=> exact step i
  | succ n ih=> exact fun hn=> Go.Sort.swo_ltStr.trans _ _ _ (ih Om) (step (i+1+n) Om)
 have:=this (j - i - 1) Om
 rwa [show i+1+(j - i - 1)=j by omega] at this
end Go.Proofs.W

namespace Go.Proofs.W
open Go.Vl
set_option maxRecDepth 100000
def nameR (l:List TRow) (r:Rec):ByteArray:=(ofI l r).name
def Jxg (l:List TRow) (s:ByteArray) (rs:List Rec):List Rec:=rs.filter fun r=> kS s (nameR l r)
def Jtt (l:List TRow) (r:Rec) (k:Nat):Nat:=Jw9 (ofI l r).abi.toNat r k
def OwnOk (l:List TRow) (rs:List Rec) (g:Gat):Prop:=∃r0 rest,Jxg l g.name rs=r0::rest∧g.m=rest.length+1∧(∀k,g.a k=Jtt l r0 k)∧∀k,g.b k=rest.all fun r=> decide (Jtt l r0 k=Jtt l r k)
structure GInv (l:List TRow) (rs:List Rec) (S:List Gat×Bool):Prop where
 nd:(S.1.map Gat.name).Nodup
 nz:∀g∈S.1,g.name.size≠0
 own:∀g∈S.1,OwnOk l rs g
 all:∀r∈rs,(nameR l r).size≠0→∃g∈S.1,g.name=nameR l r
 x:S.2=rs.any fun r=> decide ((nameR l r).size≠0)&& decide ((ofI l r).abi=1)
def RSb (a b:List UInt8):Prop:=Go.Sort.ltStr a b=true
theorem Jh2 (x:List UInt8):¬RSb x x:=by unfold RSb;rw [Go.Sort.swo_ltStr.irrefl];decide
theorem JvD (x y z:List UInt8) (h:RSb x y) (k:RSb y z):RSb x z:=Go.Sort.swo_ltStr.trans x y z h k
theorem JjN:∀ {a b:List (List UInt8)},a.Pairwise RSb→b.Pairwise RSb→(∀z,z∈a↔z∈b)→a=b
 | [], [],_,_,_=> rfl
 | [],y::b,_,_,h=> by have:=(h y).2 (.head _);cases this
 | x::a, [],_,_,h=> by have:=(h x).1 (.head _);cases this
 | x::a,y::b,ha,hb,h=> by
   rw [List.pairwise_cons] at ha hb
   have hxy:x=y:=by
    rcases List.mem_cons.1 ((h x).1 (.head _)) with e | hx
    ·exact e
    ·rcases List.mem_cons.1 ((h y).2 (.head _)) with e | hy
     ·exact e.symm
     ·exact absurd (JvD _ _ _ (ha.1 y hy) (hb.1 x hx)) (Jh2 x)
   subst hxy
   rw [JjN ha.2 hb.2 fun z=> ⟨fun hz=> ?_,fun hz=> ?_⟩]
   ·rcases List.mem_cons.1 ((h z).1 (.tail _ hz)) with e | q
    ·subst e;exact absurd (ha.1 _ hz) (Jh2 _)
    ·exact q
   ·rcases List.mem_cons.1 ((h z).2 (.tail _ hz)) with e | q
    ·subst e;exact absurd (hb.1 _ hz) (Jh2 _)
    ·exact q
end Go.Proofs.W

namespace Go.Proofs.W
open Go.Vl
set_option maxRecDepth 100000
end Go.Proofs.W

namespace Go.Proofs.W
open Go.Vl
set_option maxRecDepth 100000
def Jwn (p:Pol):Prop:=p.rules.length≤1000000∧∀r∈p.rules,r.conds.length≤1000000∧∀c∈r.conds,c.ok
def Jr (a:A2):Nat:=kb (a.1.toNat - 1)+a.2.toNat
theorem Jox {k n:Int} (h:Ja9 k n=true):∃k' n':Nat,k=(k'+1:Nat)∧n=(n':Nat)∧k' < 8∧n'≤km k':=by
 unfold Ja9 at h
 simp only [Bool.and_eq_true,decide_eq_true_eq] at h
 obtain ⟨⟨⟨h1,h2⟩,h3⟩,h4⟩:=h
 refine ⟨(k - 1).toNat,n.toNat,by omega,by omega,by omega, ?_⟩
 unfold Jjz at h4
 unfold km
 split at h4
 ·rw [if_pos Om];omega
 ·split at h4
  ·rw [if_neg Om,if_pos Om];omega
  ·rw [if_neg Om,if_neg Om];omega
theorem Jo2 (a:A2) (h:Ja9 a.1 a.2=true):Tells Tryz.prog 113 [Jtj a] (.tup [u32 (Jr a:Nat),int 0]):=by
 obtain ⟨k,n⟩:=a
 obtain ⟨k',n',rfl,rfl,h1,h2⟩:=Jox h
 have:=Jqd k' n' h1 h2
 unfold Jr
 dsimp only
 rw [show ((k'+1:Nat):Int).toNat - 1=k' by omega,show ((n':Nat):Int).toNat=n' by omega]
 exact this
theorem Jnq {p:Pol} (h:Jbi p=true):Ja9 p.dflt.1 p.dflt.2=true∧∀r∈p.rules,Jal r=true:=by
 unfold Jbi at h
 simp only [Bool.and_eq_true,decide_eq_true_eq,Bool.not_eq_true',List.any_eq_false,Bool.not_eq_false'] at h
 refine ⟨h.1,fun r hr=> ?_⟩
 have:=h.2.2 r hr
 simpa using this
theorem Jqf {r:Rul} (h:Jal r=true):Ja9 r.act.1 r.act.2=true:=by
 unfold Jal at h
 simp only [Bool.and_eq_true] at h
 exact h.2.1
end Go.Proofs.W

namespace Go.Proofs.W
open Go.Vl
set_option maxRecDepth 100000
structure PRul where
 conds:List Cnd
 code:Nat
deriving DecidableEq
structure PEnt where
 num:Nat
 rules:List PRul
structure PSub where
 num:Nat
 code:Nat
deriving DecidableEq
structure Plan where
 dflt:Nat
 x32:Bool
 ents:Nat→List PEnt
 subs:Nat→List PSub
def JeX (c:Cnd):Bool:=decide ((Jcw c).2=2)
def JiX (c:Cnd):Option Cnd:=if (Jcw c).2=0 then some (Jcw c).1 else none
def JgL (r:PRul):Option PRul:=if r.conds.any JeX then none else some ⟨r.conds.filterMap JiX,r.code⟩
def JkE (a:Nat) (r:PRul):Option PRul:=if a=2 then JgL r else some r
def Jfi (a:Nat):List PRul→List PRul
 | []=> []
 | r::l=> match JkE a r with
   | none=> Jfi a l
   | some q=> if q.conds.length=0 then [q] else q::Jfi a l
def JkF (d:Nat) (l:List PRul):List PRul:=(l.reverse.dropWhile fun r=> decide (r.code=d)).reverse
def Jas (a:Nat) (l:List PRul) (d:Nat):List PRul:=JkF d (Jfi a l)
theorem Jlx {d:Nat} {l:List PRul} {r:PRul}:JkF d (l++ [r])=if r.code=d then JkF d l else l++ [r]:=by
 unfold JkF
 rw [List.reverse_append,List.reverse_singleton,List.singleton_append,List.dropWhile_cons]
 by_cases h:r.code=d
 ·rw [if_pos (decide_eq_true h),if_pos h]
 ·rw [if_neg (by simpa using h),if_neg h,List.reverse_cons,List.reverse_reverse]
def PRul.ok (r:PRul):Prop:=∀c∈r.conds,c.ok∧NFm c
theorem Jqg (c:Cnd):(Jcw c).2=0∨(Jcw c).2=1∨(Jcw c).2=2:=by
 unfold Jcw
 repeat' split
 all_goals simp
end Go.Proofs.W

namespace Go.Proofs.W
open Go.Vl
set_option maxRecDepth 100000
end Go.Proofs.W

namespace Go.Proofs.W
open Go.Vl
set_option maxRecDepth 100000
theorem Jex {P:Program} {c:Code} {E:Env} {Q:AExit→Env→Prop} (h:AW P c E (Jt7 (fun _:Unit=> E) (fun _=> True) (fun _=> 0) () Q)):AW P (.loop c) E Q:=
 Jy (fun _:Unit=> E) (fun _=> True) (fun _=> 0) ⟨(),trivial,ELe.refl _⟩ fun _ _=> h
def Jey (sz:Nat):AV:= .os sz 0 (fun _=> .any) none
theorem JuB:Tells Tryz.prog 209 [u64 0] (int 0):=by
 refine Jg Tryz.func209 rfl rfl fun nx=> ?_
 refine stp ?_
 exact Je rfl Rf
theorem Jqh:Tells Tryz.prog 120 [.v (.int .u64 0)] (int 0):=by
 refine Jg Tryz.func120 rfl rfl fun nx=> ?_
 refine stp ?_
 refine Jd rfl rfl JuB ⟨Rf,trivial⟩ fun nx=> ?_
 refine stp ?_
 exact Je rfl Rf
theorem Jwo (n:Nat):Tells Tryz.prog 328 [Jey 4,int 0,int 0,fn0 n] (.tup []):=by
 refine Jg Tryz.func328 rfl rfl fun nx=> ?_
 refine stp ?_
 refine Jex ?_
 refine stp ?_
 exact Je rfl Rf
theorem Jwp (n:Nat):Tells Tryz.prog 261 [Jey 4,int 0,int 0,int 0,fn0 n] (.tup []):=by
 refine Jg Tryz.func261 rfl rfl fun nx=> ?_
 refine stp ?_
 refine Jex ?_
 refine stp ?_
 refine Jd rfl rfl (Jwo n) ⟨Rf,Rf,Rf,Rf,trivial⟩ fun nx=> ?_
 refine stp ?_
 exact Je rfl Rf
theorem Jqi (n:Nat):Tells Tryz.prog 192 [Jey 4,fn0 n] (.tup []):=by
 refine Jg Tryz.func192 rfl rfl fun nx=> ?_
 refine stp ?_
 refine Jd rfl rfl Jqh ⟨Rf,trivial⟩ fun nx=> ?_
 refine stp ?_
 refine Jd rfl rfl (Jwp n) ⟨Rf,Rf,Rf,Rf,Rf,trivial⟩ fun nx=> ?_
 refine stp ?_
 exact Je rfl Rf
theorem JrR:Tells Tryz.prog 194 [Jey 4] (Jey 4):=by
 refine Jg Tryz.func194 rfl rfl fun nx=> ?_
 refine stp ?_
 exact Je rfl Rf
end Go.Proofs.W

namespace Go.Proofs
open Go.Shelf
shelf_lay Lays.n125 Nm 125 at Tryz as Tryz.lays125
end Go.Proofs
namespace Go.Proofs.W
open Go.Vl Go.Shelf
set_option maxRecDepth 100000
theorem Jnr (n:Nat) (hn:n≤1000000000):Tells Tryz.prog 120 [.v (.int .u64 (n:Int))] (.v (.int .i64 (Lib.bitLen n))):=
 JcF (vs:= [.int .u64 (n:Int)]) ⟨_,Tryz.func120,rfl,rfl⟩ fun w=> (Any.bits_Len Tryz.lays125 (n:Int) w Om Om).mono fun e w' ⟨h1,h2⟩=> ⟨h1,by subst h2;exact ⟨rfl,rfl,rfl,Nat.le_refl _,fun _ _=> rfl⟩⟩
end Go.Proofs.W

namespace Go.Proofs.W
open Go.Vl
set_option maxRecDepth 100000
def Jdi (a b:Int):Int:=if a < b then -1 else if b < a then 1 else 0
def orL:List Int→Int
 | []=> 0
 | x::l=> if x=0 then orL l else x
theorem Jix (a b:Int):Tells Tryz.prog 263 [int a,int b] (int (Jdi a b)):=by
 have hn:∀z:Int,Tells Tryz.prog 336 [int z] (Jb false):=fun z=> by
  refine Jg Tryz.func336 rfl rfl fun nx=> ?_
  refine stp ?_
  (intro c hc;(first | (rw [bne_self_eq_false] at hc;subst hc) | (obtain rfl:c=false:=hc.trans (bne_self_eq_false _)));refine stp ?_)
  exact Je rfl Rf
 refine Jg Tryz.func263 rfl rfl fun nx=> ?_
 refine stp ?_
 refine Jd rfl rfl (hn a) ⟨Rf,trivial⟩ fun nx1=> ?_
 refine stp ?_
 refine Jd rfl rfl (hn b) ⟨Rf,trivial⟩ fun nx2=> ?_
 refine stp ?_
 intro c h;cases c
 ·have h:=Ju h
  refine stp ?_
  intro c g;cases c
  ·have g:=Ju g
   refine stp ?_
   exact Je rfl (Jk (by unfold Jdi;rw [if_neg h,if_neg g]))
  ·have g:=Jv g
   refine stp ?_
   exact Je rfl (Jk (by unfold Jdi;rw [if_neg h,if_pos g]))
 ·have h:=Jv h
  refine stp ?_
  exact Je rfl (Jk (by unfold Jdi;rw [if_pos h]))
theorem Jiy (a b:Nat):Tells Tryz.prog 264 [u64 a,u64 b] (int (Jdi a b)):=by
 have hn:∀z:Nat,Tells Tryz.prog 337 [u64 z] (Jb false):=fun z=> by
  refine Jg Tryz.func337 rfl rfl fun nx=> ?_
  refine stp ?_
  (intro c hc;(first | (rw [bne_self_eq_false] at hc;subst hc) | (obtain rfl:c=false:=hc.trans (bne_self_eq_false _)));refine stp ?_)
  exact Je rfl Rf
 refine Jg Tryz.func264 rfl rfl fun nx=> ?_
 refine stp ?_
 refine Jd rfl rfl (hn a) ⟨Rf,trivial⟩ fun nx1=> ?_
 refine stp ?_
 refine Jd rfl rfl (hn b) ⟨Rf,trivial⟩ fun nx2=> ?_
 refine stp ?_
 intro c h;cases c
 ·have h:=Ju h
  refine stp ?_
  intro c g;cases c
  ·have g:=Ju g
   refine stp ?_
   exact Je rfl (Jk (by unfold Jdi;rw [if_neg h,if_neg g]))
  ·have g:=Jv g
   refine stp ?_
   exact Je rfl (Jk (by unfold Jdi;rw [if_neg h,if_pos g]))
 ·have h:=Jv h
  refine stp ?_
  exact Je rfl (Jk (by unfold Jdi;rw [if_pos h]))
theorem JvE {l:List Int} {i:Nat} (hi:i < l.length) (h:∀j,j < i→l.getD j 0=0) (hx:l.getD i 0≠0):orL l=l.getD i 0:=by
 induction l generalizing i with
 | nil=> cases hi
 | cons x l ih=>
   cases i with
   | zero=> simp at hx;simp [orL,hx]
   | succ i=>
     have h0:x=0:=by simpa using h 0 Om
     simp only [orL,h0,if_true]
     rw [ih (i:=i) (by simpa using hi) (fun j hj=> by simpa using h (j+1) Om) (by simpa using hx)]
     simp
theorem Jtu {l:List Int} (h:∀j,j < l.length→l.getD j 0=0):orL l=0:=by
 induction l with
 | nil=> rfl
 | cons x l ih=>
   have h0:x=0:=by simpa using h 0 (by simp)
   simp only [orL,h0,if_true]
   exact ih (fun j hj=> by simpa using h (j+1) (by simpa using hj))
theorem JuC (l:List Int) (hl:l.length≤1000000):Tells Tryz.prog 262 [JF 1 int 0 l] (int (orL l)):=by
 refine Jg Tryz.func262 rfl rfl fun nx=> ?_
 refine stp ?_
 refine Jy (fun s:Nat×Nat=> mk 18 [(3,int 0),(6,JF 1 int 0 l),(7,int l.length),(8,int s.1)] ⟨[], [],s.2,0⟩) (fun s=> s.1≤l.length∧∀j,j < s.1→l.getD j 0=0) (fun s=> l.length - s.1) ?_ ?_
 ·exact ⟨(0,nx),⟨by simp,by intro j hj;simp at hj⟩,JaI rfl rfl ⟨Rf,Rf,Rf,Rf,trivial⟩⟩
 ·rintro ⟨i,nx⟩ ⟨h1,h2⟩
  dsimp only at h1 h2
  refine stp ?_
  intro c h3;cases c
  ·have h3:=Ju h3
   dsimp only at h3
   refine stp ?_
   exact Je rfl (Jk (Jtu (fun j hj=> h2 j Om)).symm)
  ·have h3:=Jv h3
   dsimp only at h3
   have hi:i < l.length:=by omega
   refine stp ?_
   refine ⟨Bd, ?_⟩
   refine stp ?_
   intro c h4;cases c
   ·have h4:l.getD i 0=0:=by simpa using h4
    refine stp ?_
    exact back (i+1,nx) ⟨hi,fun j hj=> by rcases Nat.lt_or_ge j i with q | q;exact h2 j q;rw [show j=i by omega];exact h4⟩ Dm (JaI rfl rfl ⟨Rf,Rf,Rf,Jk (J7 Dm),trivial⟩)
   ·have h4:l.getD i 0≠0:=by simpa using h4
    refine stp ?_
    exact Je rfl (Jk (JvE hi h2 h4).symm)
def Jns (a b:Cnd):Int:=orL [Jdi a.arg b.arg,Jdi a.op b.op,Jdi a.mask b.mask,Jdi a.value b.value]
theorem Jqj (a b:Cnd):Tells Tryz.prog 193 [JZ a,JZ b] (int (Jns a b)):=by
 refine Jg Tryz.func193 rfl rfl fun nx=> ?_
 refine stp ?_
 (refine J1 22 ?_ ?_ ?_ ?_;(· kernel_rfl);(· kernel_rfl);(· kernel_rfl))
 refine stp ?_
 refine Jcn (JaL rfl rfl (Jix a.arg b.arg) ⟨Rf,Rf,trivial⟩ (NoId.v _)) ?_
 refine stp ?_
 refine Jcn (JaL rfl rfl (Jix a.op b.op) ⟨Rf,Rf,trivial⟩ (NoId.v _)) ?_
 refine stp ?_
 refine Jcn (JaL rfl rfl (Jiy a.mask b.mask) ⟨Rf,Rf,trivial⟩ (NoId.v _)) ?_
 refine stp ?_
 refine Jcn (JaL rfl rfl (Jiy a.value b.value) ⟨Rf,Rf,trivial⟩ (NoId.v _)) ?_
 refine stp ?_
 refine Jcn (JaL rfl rfl (JuC [Jdi a.arg b.arg,Jdi a.op b.op,Jdi a.mask b.mask,Jdi a.value b.value] (by show 4≤1000000;omega)) ⟨?_,trivial⟩ (NoId.v _)) ?_
 ·(conv=> arg 1;whnf)
  refine AVle.trans AVle.os_sl (AVle.sl_fun fun k hk=> ?_)
  rcases (show k=0∨k=1∨k=2∨k=3 by have hk:k < 4:=hk;omega) with rfl | rfl | rfl | rfl <;> rfl
 refine stp ?_
 exact Je rfl Rf
end Go.Proofs.W

namespace Go.Proofs.W
open Go.Vl
set_option maxRecDepth 100000
instance:Inhabited Cnd:=⟨cnd0⟩
def eC (c:Cnd):List AV:= [int c.arg,int c.op,u64 c.mask,u64 c.value]
theorem Jbj (x:Cnd):(eC x).length=4:=rfl
theorem c_cnd:Tryz.prog.cellsOf 86=4:=by kernel_rfl
theorem Jfj:(Tryz.prog.underlying 86).map agD=some true:=by kernel_rfl
def JbA (s:Nat) (d:Array Cnd) (tl:List AV):List (Vl.Id×Own):= [((0,s), .c (Jab eC d tl))]
set_option maxHeartbeats 4000000 in
theorem JuD (f:Nat) (lt:Cnd→Cnd→Bool) (cf:Cnd→Cnd→Int) (hf:∀a b,Tells Tryz.prog f [JZ a,JZ b] (int (cf a b))) (hlt:∀a b,lt a b=decide (cf a b < 0)) (d0:Array Cnd) (tl:List AV) (n a b:Nat) (hn:d0.size=n) (hab:a≤b) (hb:b≤n) (hsz:n≤1000000) (s cap nx:Nat):
 ECall Tryz.prog 328 [.hs (0,s) 0 n cap,int a,int b,fn0 f] ⟨JbA s d0 tl, [],nx,1⟩ (fun r h'=> ∃nx' nn',h'=⟨JbA s (Go.Sort.insertionSort lt d0 a b) tl, [],nx',nn'⟩):=by
 refine ECall.wk (JT Tryz.func328 rfl rfl ?_)
 refine stp ?_
 refine Jy (fun y:Array Cnd×Nat×Nat=> mk 53 [(0, .hs (0,s) 0 n cap),(1,int a),(2,int b),(3,fn0 f),(8,int y.2.1)] ⟨JbA s y.1 tl, [],y.2.2,1⟩) (fun y=> y.1.size=n∧a+1≤y.2.1∧y.2.1≤b+1∧Go.Sort.insOuter lt a b y.2.1 y.1=Go.Sort.insertionSort lt d0 a b) (fun y=> b+1 - y.2.1) ?_ ?_
 ·exact ⟨(d0,a+1,nx),⟨hn,Nat.le_refl _,by dsimp only;omega,rfl⟩,Jq _ _ rfl rfl Sf .slnil Bf trivial ⟨Rf,Rf,Rf,Rf,Lw,trivial⟩⟩
 ·rintro ⟨d,i,nx1⟩ ⟨h1,h2,h3,h4⟩
  dsimp only at h1 h2 h3 h4
  refine stp ?_
  intro c g;cases c
  ·have g:=Ju g
   try dsimp only at g
   rw [Go.Sort.insOuter,if_neg Om] at h4
   subst h4
   refine stp ?_
   exact Jac rfl ⟨_,_,Rf,Jaz (JbA s (Go.Sort.insertionSort lt d0 a b) tl) [] rfl Sf .slnil Bf Pf,_,1,rfl⟩
  ·have g:=Jv g
   try dsimp only at g
   have hi:i < b:=by omega
   rw [Go.Sort.insOuter,if_pos hi] at h4
   refine stp ?_
   refine Jy (fun y:Array Cnd×Nat×Nat=> mk 53 [(0, .hs (0,s) 0 n cap),(1,int a),(2,int b),(3,fn0 f),(8,int i),(9,int y.2.1)] ⟨JbA s y.1 tl, [],y.2.2,1⟩) (fun y=> y.1.size=n∧y.2.1≤i∧Go.Sort.insInner lt a y.2.1 y.1=Go.Sort.insInner lt a i d) (fun y=> y.2.1) ?_ ?_
   ·exact ⟨(d,i,nx1),⟨h1,Nat.le_refl _,rfl⟩,Jq _ _ rfl rfl Sf .slnil Bf trivial ⟨Rf,Rf,Rf,Rf,Rf,Rf,trivial⟩⟩
   ·rintro ⟨e,j,nx2⟩ ⟨k1,k2,k3⟩
    dsimp only at k1 k2 k3
    by_cases hja:a < j
    ·have hd:decide ((j:Int) > (a:Int))=true:=decide_eq_true Om
     have hj1:IntKind.i64.wrap ((j:Int) - 1)=((j - 1:Nat):Int):=by rw [JaX Om Om];omega
     refine stp ?_
     (refine J1 16 ?_ ?_ ?_ ?_;(· kernel_rfl);(· kernel_rfl);(· kernel_rfl))
     refine stp ?_
     (conv=> whnf)
     refine JeS hd ?_
     refine stp ?_
     refine ⟨⟨Jc1 (i:=j) (rfl),Jdg (i:=j) (rfl) Om⟩,JP (b:= .bp (0,s) (j * 4)) (congrArg (AV.bp (0,s)) (JgG (i:=j) c_cnd (rfl))) ?_⟩
     (conv=> whnf)
     generalize hX:Jau _ _ _=X
     have hX2:X=some (some (s=s), .ag (eC e[j]!)):=hX.symm.trans (Jdu Jbj (E:=eC) (d:=e) (tl:=tl) (j:=j) rfl rfl rfl rfl Jfj c_cnd Om)
     clear hX;subst hX2
     refine ⟨rfl, ?_⟩
     refine stp ?_
     refine ⟨⟨Jc1 (i:=j - 1) (hj1),Jdg (i:=j - 1) (hj1) Om⟩,JP (b:= .bp (0,s) ((j - 1) * 4)) (congrArg (AV.bp (0,s)) (JgG (i:=j - 1) c_cnd (hj1))) ?_⟩
     (conv=> whnf)
     generalize hX:Jau _ _ _=X
     have hX2:X=some (some (s=s), .ag (eC e[j - 1]!)):=hX.symm.trans (Jdu Jbj (E:=eC) (d:=e) (tl:=tl) (j:=j - 1) rfl rfl rfl rfl Jfj c_cnd Om)
     clear hX;subst hX2
     refine ⟨rfl, ?_⟩
     refine stp ?_
     refine Jcn (JaL rfl rfl (hf e[j]! e[j - 1]!) ⟨Rf,Rf,trivial⟩ (NoId.v _)) ?_
     refine stp ?_
     intro c hl;cases c
     ·have hl:lt e[j]! e[j - 1]! =false:=(hlt _ _).trans hl.symm
      rw [Jto hl] at k3
      subst k3
      refine stp ?_
      exact back (_,i+1,nx2) ⟨k1,by dsimp only;omega,by dsimp only;omega,h4⟩ Dm (Jq _ _ rfl rfl Sf .slnil Bf trivial ⟨Rf,Rf,Rf,Rf,Lw,trivial⟩)
     ·have hl:lt e[j]! e[j - 1]! =true:=(hlt _ _).trans hl.symm
      rw [Juu hja hl] at k3
      refine stp ?_
      refine Juo 18 (fun i=> match i with | 15=> true | 17=> true | _=> false) (fun i=> match i with | 9=> true | 13=> true | _=> false) [0,1,2,3,4,5,6,7,8,10,11,12,9,13,14,15,16,17] (by kernel_rfl) (by kernel_rfl) ?_
      (conv=> whnf)
      refine ⟨⟨Jc1 (i:=j - 1) (hj1),Jdg (i:=j - 1) (hj1) Om⟩, ?_⟩
      (conv=> whnf)
      refine ⟨⟨Jc1 (i:=j) (rfl),Jdg (i:=j) (rfl) Om⟩, ?_⟩
      (conv=> whnf)
      refine ⟨.ag (eC e[j - 1]!),Jm4 Jbj (E:=eC) (d:=e) (tl:=tl) (j:=j - 1) rfl rfl rfl (JgG (i:=j - 1) c_cnd (hj1)) rfl Jfj c_cnd Om, ?_⟩
      (conv=> whnf)
      refine ⟨.ag (eC e[j]!),Jm4 Jbj (E:=eC) (d:=e) (tl:=tl) (j:=j) rfl rfl rfl (JgG (i:=j) c_cnd (rfl)) rfl Jfj c_cnd Om, ?_⟩
      (conv=> whnf)
      refine ⟨⟨Jc1 (i:=j) (rfl),Jdg (i:=j) (rfl) Om⟩, ?_⟩
      (conv=> whnf)
      refine ⟨_,Jm5 Jbj (E:=eC) (d:=e) (tl:=tl) (j:=j) (z:=e[j - 1]!) rfl rfl rfl rfl (JgG (i:=j) c_cnd (rfl)) rfl rfl rfl rfl (by kernel_rfl) c_cnd Om,fun r0 h0 hr0=> ?_⟩
      subst hr0
      (conv=> whnf)
      refine ⟨⟨Jc1 (i:=j - 1) (hj1),Jdg (i:=j - 1) (hj1) Om⟩, ?_⟩
      (conv=> whnf)
      refine ⟨_,Jm5 Jbj (E:=eC) (d:=e.setIfInBounds j e[j - 1]!) (tl:=tl) (j:=j - 1) (z:=e[j]!) rfl rfl rfl rfl (JgG (i:=j - 1) c_cnd (hj1)) rfl rfl rfl rfl (by kernel_rfl) c_cnd (by simp;omega),fun r0 h0 hr0=> ?_⟩
      subst hr0
      refine stp ?_
      exact back (Go.Sort.swp e j (j - 1),j - 1,nx2) ⟨by dsimp only;rw [← k1];simp [Go.Sort.swp],by dsimp only;omega,k3⟩ Dm (Jq _ _ rfl rfl Sf .slnil Bf trivial ⟨Rf,Rf,Rf,Rf,Rf,Jk hj1,trivial⟩)
    ·have hd:decide ((j:Int) > (a:Int))=false:=decide_eq_false Om
     rw [JrA hja] at k3
     subst k3
     refine stp ?_
     (refine J1 16 ?_ ?_ ?_ ?_;(· kernel_rfl);(· kernel_rfl);(· kernel_rfl))
     refine stp ?_
     (conv=> whnf)
     refine JeS hd ?_
     refine stp ?_
     exact back (_,i+1,nx2) ⟨k1,by dsimp only;omega,by dsimp only;omega,h4⟩ Dm (Jq _ _ rfl rfl Sf .slnil Bf trivial ⟨Rf,Rf,Rf,Rf,Lw,trivial⟩)
theorem JuE (f:Nat) (lt:Cnd→Cnd→Bool) (cf:Cnd→Cnd→Int) (hf:∀a b,Tells Tryz.prog f [JZ a,JZ b] (int (cf a b))) (hlt:∀a b,lt a b=decide (cf a b < 0)) (d0:Array Cnd) (tl:List AV) (n:Nat) (hn:d0.size=n) (hsz:n≤12) (s cap nx:Nat) (z:Int):
 ECall Tryz.prog 261 [.hs (0,s) 0 n cap,int 0,int n,int z,fn0 f] ⟨JbA s d0 tl, [],nx,1⟩ (fun r h'=> ∃nx' nn',h'=⟨JbA s (Go.Sort.insertionSort lt d0 0 n) tl, [],nx',nn'⟩):=by
 refine ECall.wk (JT Tryz.func261 rfl rfl ?_)
 refine stp ?_
 refine Jex ?_
 have hw:IntKind.i64.wrap ((n:Int) - 0)=(n:Int):=by rw [Int.sub_zero];exact JaX Om Om
 refine stp ?_
 intro c hc
 have hc2:c=true:=hc.trans (decide_eq_true (by show IntKind.i64.wrap ((n:Int) - 0)≤12;rw [hw];omega))
 clear hc;subst hc2
 refine stp ?_
 refine JS (xs:= [.hs (0,s) 0 n cap,int ((0:Nat):Int),int n,fn0 f]) [] [] 1 rfl rfl rfl rfl ⟨Rf,Rf,Rf,Rf,trivial⟩ (JuD f lt cf hf hlt d0 tl n 0 n hn (Nat.zero_le _) (Nat.le_refl _) Om s cap _) Bf Pf rfl fun r h' hq=> ?_
 obtain ⟨nx2,nn2,rfl⟩:=hq
 refine stp ?_
 exact Jac rfl ⟨_,_,Rf,Jaz (JbA s (Go.Sort.insertionSort lt d0 0 n) tl) [] rfl Sf .slnil Bf Pf,_,1,rfl⟩
theorem Jnt (f:Nat) (lt:Cnd→Cnd→Bool) (cf:Cnd→Cnd→Int) (hf:∀a b,Tells Tryz.prog f [JZ a,JZ b] (int (cf a b))) (hlt:∀a b,lt a b=decide (cf a b < 0)) (d0:Array Cnd) (tl:List AV) (n:Nat) (hn:d0.size=n) (hsz:n≤12) (s cap nx:Nat):
 ECall Tryz.prog 192 [.hs (0,s) 0 n cap,fn0 f] ⟨JbA s d0 tl, [],nx,1⟩ (fun r h'=> ∃nx' nn',h'=⟨JbA s (Go.Sort.insertionSort lt d0 0 n) tl, [],nx',nn'⟩):=by
 refine ECall.wk (JT Tryz.func192 rfl rfl ?_)
 refine stp ?_
 have hw:IntKind.u64.wrap (n:Int)=(n:Int):=by simp [IntKind.wrap,IntKind.bits,IntKind.signed];omega
 refine Jd rfl rfl (Jnr n Om) ⟨AVle.of_eq (congrArg (fun z:Int=> AV.v (.int .u64 z)) hw),trivial⟩ fun nx1=> ?_
 refine stp ?_
 refine JS (xs:= [.hs (0,s) 0 n cap,int 0,int n,int (Lib.bitLen n),fn0 f]) [] [] 1 rfl rfl rfl rfl ⟨Rf,Rf,Rf,Rf,Rf,trivial⟩ (JuE f lt cf hf hlt d0 tl n hn hsz s cap _ _) Bf Pf rfl fun r h' hq=> ?_
 obtain ⟨nx2,nn2,rfl⟩:=hq
 refine stp ?_
 exact Jac rfl ⟨_,_,Rf,Jaz (JbA s (Go.Sort.insertionSort lt d0 0 n) tl) [] rfl Sf .slnil Bf Pf,_,1,rfl⟩
end Go.Proofs.W

namespace Go.Proofs.W
open Go.Vl
set_option maxRecDepth 100000
def cU (d:Array Cnd):Nat→List Cnd
 | 0=> []
 | m+1=> if m=0∨d[m]! ≠d[m - 1]! then cU d m++ [d[m]!] else cU d m
theorem Jqk (d:Array Cnd):∀m,(cU d m).length≤m
 | 0=> Nat.le_refl _
 | m+1=> by
   have:=Jqk d m
   unfold cU
   split
   ·simp;omega
   ·omega
theorem JgM {d:Array Cnd}:∀ {m:Nat},m≤d.size→(∀j,1≤j→j < m→d[j]! ≠d[j - 1]!)→cU d m=d.toList.take m
 | 0,_,_=> rfl
 | m+1,hm,h=> by
   have ih:=JgM (m:=m) Om fun j h1 h2=> h j h1 Om
   have hc:m=0∨d[m]! ≠d[m - 1]! :=by
    rcases Nat.eq_zero_or_pos m with h0 | h0
    ·exact .inl h0
    ·exact .inr (h m h0 Om)
   rw [cU,if_pos hc,ih,List.take_add_one,show d[m]! =d[m] by simp [show m < d.size by omega]]
   simp [show m < d.size by omega]
theorem Jo3 {d:Array Cnd} {m:Nat} (h0:m≠0) (h:d[m]! =d[m - 1]!):cU d (m+1)=cU d m:=by
 rw [cU,if_neg (by intro hh;rcases hh with hh | hh;exact h0 hh;exact hh h)]
theorem JuF {d:Array Cnd} {m:Nat} (h:d[m]! ≠d[m - 1]!):cU d (m+1)=cU d m++ [d[m]!]:=by
 rw [cU,if_pos (.inr h)]
theorem Jtv {d:Array Cnd} {i j:Nat} {x:Cnd} (hi:i < d.size):(d.setIfInBounds i x)[j]! =if j=i then x else d[j]! :=by
 by_cases h:j=i
 ·subst h;simp [hi]
 ·rw [if_neg h]
  by_cases hj:j < d.size
  ·simp [hj,Array.getElem_setIfInBounds,Ne.symm h]
  ·simp [hj]
theorem JrS {d:Array Cnd} {k:Nat} {x:Cnd} (h:k < d.size):(d.setIfInBounds k x).toList.take (k+1)=d.toList.take k++ [x]:=by
 rw [Array.toList_setIfInBounds,List.take_add_one]
 simp [h,List.take_set_of_le]
theorem JvF {x y:Cnd}:(x.arg ==y.arg&& (x.op ==y.op&& ((x.mask:Int) ==(y.mask:Int)&& ((x.value:Int) ==(y.value:Int)&& true))))=decide (x=y):=JoZ
theorem Jtw {d:Array Cnd} {tl:List AV} {k:Nat} (h:k≤d.size):JX (Jab eC d tl) (k * 4) (List.replicate ((d.size - k) * 4) .any)=Jab eC (d.toList.take k).toArray (List.replicate ((d.size - k) * 4) .any++tl):=by
 have e:d.toList=d.toList.take k++d.toList.drop k:=(List.take_append_drop k d.toList).symm
 have e1:((d.toList.take k).flatMap eC).length=k * 4:=by rw [Jdh Jbj];simp [h]
 have e2:((d.toList.drop k).flatMap eC).length=(d.size - k) * 4:=by rw [Jdh Jbj];simp
 unfold Jab
 conv=> lhs;rw [e]
 rw [List.flatMap_append,List.append_assoc,← e1]
 have:=Jfd (a:=(d.toList.take k).flatMap eC) (b:=(d.toList.drop k).flatMap eC++tl) (off:=0) (vs:=List.replicate ((d.size - k) * 4) .any)
 rw [Nat.add_zero] at this
 rw [this,Jhh (by rw [e2];simp)]
def Jql (d:Array Cnd) (n s cap:Nat) (r:AV) (h':Heap):Prop:=∃tl' nx' nn',r= .hs (0,s) 0 (cU d n).length cap∧h'=⟨JbA s (cU d n).toArray tl', [],nx',nn'⟩
theorem JrT {d:Array Cnd} {n s cap nx nn q:Nat} {tl:List AV} (h:(cU d n).length=q):Jql d n s cap (.hs (0,s) 0 q cap) ⟨JbA s (cU d n).toArray tl, [],nx,nn⟩:=⟨tl,nx,nn,by rw [h],rfl⟩
theorem Jnu {o o':Own} (h:o=o'):OwnLe o o':=h ▸ OwnLe.refl _
theorem Jtx {x:Int} {i c k m:Nat} (hc:c=k) (h:x=(i:Int)):m * c+x.toNat * c=(m+i) * k:=by subst hc;subst h;simp [Nat.add_mul]
theorem Jly {d:Array Cnd} {n s cap nx nn:Nat} {tl:List AV} (hn:d.size=n) (e:cU d n=d.toList):Jql d n s cap (.hs (0,s) 0 n cap) ⟨JbA s d tl, [],nx,nn⟩:=⟨tl,nx,nn,by rw [e];simp [hn],by rw [e]⟩
theorem Jwq:∃z,(Tryz.prog.info? 86).bind (·.zero)=some z∧z.cells.size=Tryz.prog.cellsOf 86∧z.cells.all (·.oneCell')=true:=⟨.agg #[.int .i64 0, .int .i64 0, .int .u64 0, .int .u64 0],by kernel_rfl,by kernel_rfl,by kernel_rfl⟩
set_option maxHeartbeats 4000000 in
theorem Joy (d:Array Cnd) (tl:List AV) (n:Nat) (hn:d.size=n) (hn0:0 < n) (hsz:n≤1000000) (s cap nx:Nat) (hcap:n≤cap):
 ECall Tryz.prog 194 [.hs (0,s) 0 n cap] ⟨JbA s d tl, [],nx,1⟩ (Jql d n s cap):=by
 refine ECall.wk (JT Tryz.func194 rfl rfl ?_)
 refine stp ?_
 intro c g;cases c
 rotate_left
 ·have g:=Jv g
  try dsimp only at g
  have hn1:n=1:=by omega
  subst hn1
  have e:cU d 1=d.toList:=by
   rw [JgM Om (fun j h1 h2=> by omega),List.take_of_length_le (by simp [hn])]
  refine stp ?_
  exact Jac rfl ⟨_,_,Rf,Jaz (nn:=1) (JbA s d tl) [] rfl Sf .slnil Bf Pf,Jly hn e⟩
 have g:=Ju g
 try dsimp only at g
 have hn2:2≤n:=by omega
 refine stp ?_
 refine Jy (fun y:Nat×Nat=> mk 61 [(0, .hs (0,s) 0 n cap),(3,int y.1)] ⟨JbA s d tl, [],y.2,1⟩) (fun y=> 1≤y.1∧y.1≤n∧∀j,1≤j→j < y.1→d[j]! ≠d[j - 1]!) (fun y=> n - y.1) ?_ ?_
 ·exact ⟨(1,nx),⟨Nat.le_refl _,by dsimp only;omega,fun j h1 h2=> absurd h2 Dm⟩,Jq _ _ rfl rfl Sf .slnil Bf trivial ⟨Rf,Rf,trivial⟩⟩
 ·rintro ⟨k,nx1⟩ ⟨h1,h2,h3⟩
  dsimp only at h1 h2 h3
  refine stp ?_
  intro c g;cases c
  ·have g:=Ju g
   try dsimp only at g
   have hk:k=n:=by omega
   subst hk
   have e:cU d k=d.toList:=by
    rw [JgM Om h3,List.take_of_length_le (by simp [hn])]
   refine stp ?_
   exact Jac rfl ⟨_,_,Rf,Jaz (nn:=1) (JbA s d tl) [] rfl Sf .slnil Bf Pf,Jly hn e⟩
  ·have g:=Jv g
   try dsimp only at g
   have hk:k < n:=by omega
   have hk1:IntKind.i64.wrap ((k:Int) - 1)=((k - 1:Nat):Int):=by rw [JaX Om Om];omega
   refine stp ?_
   (refine J1 10 ?_ ?_ ?_ ?_;(· kernel_rfl);(· kernel_rfl);(· kernel_rfl))
   refine stp ?_
   refine ⟨⟨Jc1 (i:=k) (rfl),Jdg (i:=k) (rfl) Om⟩,JP (b:= .bp (0,s) (k * 4)) (congrArg (AV.bp (0,s)) (JgG (i:=k) c_cnd (rfl))) ?_⟩
   (conv=> whnf)
   generalize hX:Jau _ _ _=X
   have hX2:X=some (some (s=s), .ag (eC d[k]!)):=hX.symm.trans (Jdu Jbj (E:=eC) (d:=d) (tl:=tl) (j:=k) rfl rfl rfl rfl Jfj c_cnd Om)
   clear hX;subst hX2
   refine ⟨rfl, ?_⟩
   refine stp ?_
   refine ⟨⟨Jc1 (i:=k - 1) (hk1),Jdg (i:=k - 1) (hk1) Om⟩,JP (b:= .bp (0,s) ((k - 1) * 4)) (congrArg (AV.bp (0,s)) (JgG (i:=k - 1) c_cnd (hk1))) ?_⟩
   (conv=> whnf)
   generalize hX:Jau _ _ _=X
   have hX2:X=some (some (s=s), .ag (eC d[k - 1]!)):=hX.symm.trans (Jdu Jbj (E:=eC) (d:=d) (tl:=tl) (j:=k - 1) rfl rfl rfl rfl Jfj c_cnd Om)
   clear hX;subst hX2
   refine ⟨rfl, ?_⟩
   refine stp ?_
   intro c hc
   have hc2:c=decide (d[k]! =d[k - 1]!):=hc.trans JvF
   clear hc
   cases c
   ·have hne:¬d[k]! =d[k - 1]! :=of_decide_eq_false hc2.symm
    refine stp ?_
    exact back (k+1,nx1) ⟨by dsimp only;omega,hk,fun j q1 q2=> by dsimp only at q2;rcases Nat.lt_or_ge j k with q | q;exact h3 j q1 q;rw [show j=k by omega];exact hne⟩ Dm (Jq _ _ rfl rfl Sf .slnil Bf trivial ⟨Rf,Lw,trivial⟩)
   ·have heq:d[k]! =d[k - 1]! :=of_decide_eq_true hc2.symm
    clear hc2
    have hU0:cU d k=d.toList.take k:=JgM Om h3
    have hU1:cU d (k+1)=d.toList.take k:=(Jo3 Om heq).trans hU0
    refine JU ?_
    refine JQ (fun i=> match i with | 1=> true | _=> false) 4 ?_
    refine stp ?_
    refine AOp.of_yields (Jhi (l:=k) rfl rfl rfl Tryz.underlying116 Tryz.underlying86 Om hcap Om) ?_
    refine stp ?_
    refine Jy (fun y:Array Cnd×Nat×Nat×Nat=> mk 61 [(0, .hs (0,s) 0 n cap),(3,int y.2.1),(4, .hs (0,s) (k * 4) (n - k) (cap - k)),(5,int y.2.2.1)] ⟨JbA s y.1 tl, [],y.2.2.2,1⟩) (fun y=> y.1.size=n∧k≤y.2.1∧1≤y.2.2.1∧y.2.1+1≤k+y.2.2.1∧k+y.2.2.1≤n∧(∀j,k+y.2.2.1≤j+1→y.1[j]! =d[j]!)∧cU d (k+y.2.2.1)=y.1.toList.take y.2.1) (fun y=> n - y.2.2.1) ?_ ?_
    ·exact ⟨(d,k,1,nx1),⟨hn,Nat.le_refl _,Nat.le_refl _,Nat.le_refl _,hk,fun _ _=> rfl,hU1⟩,Jq _ _ rfl rfl Sf .slnil Bf trivial ⟨Rf,Rf,AVle.of_eq (congrArg (fun c=> AV.hs (0,s) (k * c) (n - k) (cap - k)) c_cnd),Rf,trivial⟩⟩
    ·rintro ⟨e,q,k2,nx2⟩ ⟨p1,p2,p3,p4,p5,p6,p7⟩
     dsimp only at p1 p2 p3 p4 p5 p6 p7
     refine stp ?_
     intro c g2;cases c
     ·have g2:=Ju g2
      try dsimp only at g2
      have hk2:k+k2=n:=by omega
      rw [hk2] at p7
      have hq:q < n:=by omega
      refine JU ?_
      refine JQ (fun i=> match i with | 1=> true | 0=> true | _=> false) 4 ?_
      refine stp ?_
      refine AOp.of_yields (Jhi (l:=q) rfl rfl rfl Tryz.underlying116 Tryz.underlying86 Om hcap Om) ?_
      refine stp ?_
      obtain ⟨z,hz1,hz2,hz3⟩:=Jwq
      refine JpJ (n:=n - q) rfl rfl rfl Om Tryz.underlying116 hz1 hz2 hz3 (by rfl) (by show q * Tryz.prog.cellsOf 86+(n - q) * Tryz.prog.cellsOf 86≤(Jab eC e tl).length;rw [JgF Jbj,c_cnd,p1];omega) ?_
      refine AW.le (E':=mk 61 [(0, .hs (0,s) 0 n cap),(3,int q)] ⟨JbA s (cU d n).toArray (List.replicate ((n - q) * 4) .any++tl), [],nx2,1⟩) ?_ ?_
      ·exact Jq [((0,s), .c (JX (Jab eC e tl) (q * Tryz.prog.cellsOf 86) (List.replicate ((n - q) * Tryz.prog.cellsOf 86) .any)))] [] rfl rfl Sf .slnil ⟨rfl,Jnu (congrArg Own.c (by rw [c_cnd,p7,← p1];exact Jtw Om)),trivial⟩ trivial ⟨Rf,Rf,trivial⟩
      refine JU ?_
      refine JQ (fun i=> match i with | 1=> true | _=> false) 4 ?_
      refine stp ?_
      refine Jm1 (l:=q) rfl rfl rfl Tryz.underlying116 Tryz.underlying86 Om Om ?_
      refine stp ?_
      exact Jac rfl ⟨_,_,Rf,Jaz (nn:=1) (JbA s (cU d n).toArray (List.replicate ((n - q) * 4) .any++tl)) [] rfl Sf .slnil Bf Pf,JrT (by rw [p7];simp;omega)⟩
     ·have g2:=Jv g2
      try dsimp only at g2
      have hk2:k+k2 < n:=by omega
      have hj1:IntKind.i64.wrap ((k2:Int) - 1)=((k2 - 1:Nat):Int):=by rw [JaX Om Om];omega
      refine stp ?_
      (refine J1 10 ?_ ?_ ?_ ?_;(· kernel_rfl);(· kernel_rfl);(· kernel_rfl))
      refine stp ?_
      refine ⟨⟨Jc1 (i:=k2) (rfl),Jdg (i:=k2) (rfl) Om⟩,JP (b:= .bp (0,s) ((k+k2) * 4)) (congrArg (AV.bp (0,s)) (Jtx c_cnd (rfl))) ?_⟩
      (conv=> whnf)
      generalize hX:Jau _ _ _=X
      have hX2:X=some (some (s=s), .ag (eC e[k+k2]!)):=hX.symm.trans (Jdu Jbj (E:=eC) (d:=e) (tl:=tl) (j:=k+k2) rfl rfl rfl rfl Jfj c_cnd Om)
      clear hX;subst hX2
      refine ⟨rfl, ?_⟩
      refine stp ?_
      refine ⟨⟨Jc1 (i:=k2 - 1) (hj1),Jdg (i:=k2 - 1) (hj1) Om⟩,JP (b:= .bp (0,s) ((k+(k2 - 1)) * 4)) (congrArg (AV.bp (0,s)) (Jtx c_cnd (hj1))) ?_⟩
      (conv=> whnf)
      generalize hX:Jau _ _ _=X
      have hX2:X=some (some (s=s), .ag (eC e[k+(k2 - 1)]!)):=hX.symm.trans (Jdu Jbj (E:=eC) (d:=e) (tl:=tl) (j:=k+(k2 - 1)) rfl rfl rfl rfl Jfj c_cnd Om)
      clear hX;subst hX2
      refine ⟨rfl, ?_⟩
      refine stp ?_
      have e1:e[k+k2]! =d[k+k2]! :=p6 _ Om
      have e2:e[k+(k2 - 1)]! =d[k+k2 - 1]! :=by rw [p6 _ Om];congr 1;omega
      intro c hc
      have hc2:c= !decide (d[k+k2]! =d[k+k2 - 1]!):=by rw [← e1,← e2];exact hc.trans (congrArg (!·) JvF)
      clear hc
      cases c
      ·have heq2:d[k+k2]! =d[k+k2 - 1]! :=by simpa using hc2
       have hU2:=(Jo3 Om heq2).trans p7
       refine stp ?_
       exact back (e,q,k2+1,nx2) ⟨p1,p2,by dsimp only;omega,by dsimp only;omega,by dsimp only;omega,fun j hj=> p6 j (by dsimp only at hj;omega),hU2⟩ Dm (Jq _ _ rfl rfl Sf .slnil Bf trivial ⟨Rf,Rf,Rf,Lw,trivial⟩)
      ·have hne:¬d[k+k2]! =d[k+k2 - 1]! :=by simpa using hc2
       have hU2:=JuF hne
       rw [p7,← e1,← JrS (k:=q) (x:=e[k+k2]!) Om] at hU2
       refine JU ?_
       refine JQ (fun i=> match i with | 0=> true | 2=> true | _=> false) 8 ?_
       refine stp ?_
       refine ⟨⟨Jc1 (i:=k2) (rfl),Jdg (i:=k2) (rfl) Om⟩,JP (b:= .bp (0,s) ((k+k2) * 4)) (congrArg (AV.bp (0,s)) (Jtx c_cnd (rfl))) ?_⟩
       (conv=> whnf)
       refine AOp.of_yields (Jol Jbj (E:=eC) (d:=e) (tl:=tl) (j:=k+k2) rfl rfl rfl rfl Jfj c_cnd Om) ?_
       refine stp ?_
       refine ⟨⟨Jc1 (i:=q) (rfl),Jdg (i:=q) (rfl) Om⟩,JP (b:= .bp (0,s) (q * 4)) (congrArg (AV.bp (0,s)) (JgG c_cnd (rfl))) ?_⟩
       (conv=> whnf)
       refine JpI Jbj (E:=eC) (d:=e) (tl:=tl) (j:=q) (z:=e[k+k2]!) rfl rfl rfl rfl rfl rfl rfl rfl (by kernel_rfl) c_cnd Om ?_
       refine stp ?_
       exact back (e.setIfInBounds q e[k+k2]!,q+1,k2+1,nx2) ⟨by simpa using p1,by dsimp only;omega,by dsimp only;omega,by dsimp only;omega,by dsimp only;omega,fun j hj=> by
        dsimp only at hj⊢
        rw [Jtv Om,if_neg Om]
        exact p6 j Om,hU2⟩ Dm (Jq _ _ rfl rfl Sf .slnil Bf trivial ⟨Rf,Lw,Rf,Lw,trivial⟩)
end Go.Proofs.W

namespace Go.Proofs.W
open Go.Vl
set_option maxRecDepth 100000
def JcW (c:Cnd):Bool:=decide ((JaA c).2=2)
def JgN (c:Cnd):Option Cnd:=if (JaA c).2=0 then some (JaA c).1 else none
def JbF (cs:List Cnd):List Cnd:=cs.filterMap JgN
def ltC (a b:Cnd):Bool:=decide (Jns a b < 0)
def Jc4 (L:List Cnd):List Cnd:=cU (Go.Sort.insertionSort ltC L.toArray 0 L.length) L.length
def Jbk (r:Rul):Option Rul:=if r.conds.any JcW then none else some ⟨r.name,r.act,Jc4 (JbF r.conds)⟩
def JvG:Option Rul→AV
 | none=> .tup [Jaf Jl,Jb false]
 | some n=> .tup [Jaf n,Jb true]
theorem JvH {c:Cnd} (h:(JaA c).2=0):JgN c=some (JaA c).1:=if_pos h
theorem JvI {c:Cnd} (h:(JaA c).2≠0):JgN c=none:=if_neg h
theorem JrU {cs:List Cnd} {i:Nat} (hi:i < cs.length):JbF (cs.take (i+1))=JbF (cs.take i)++(JgN (cs.getD i cnd0)).toList:=by
 unfold JbF
 rw [Jb2 cnd0 hi,List.filterMap_append]
 congr 1
theorem Jnv (cs:List Cnd):(JbF cs).length≤cs.length:=List.length_filterMap_le _ _
theorem Jty {cs:List Cnd} (h:∀j,j < cs.length→JcW (cs.getD j cnd0)=false):cs.any JcW=false:=by
 rw [Bool.eq_false_iff]
 intro ha
 obtain ⟨c,hc,hb⟩:=List.any_eq_true.1 ha
 obtain ⟨j,hj,rfl⟩:=List.getElem_of_mem hc
 have:=h j hj
 rw [show cs.getD j cnd0=cs[j] by simp [List.getD,hj]] at this
 rw [this] at hb;cases hb
theorem JvJ {cs:List Cnd} {i:Nat} (hi:i < cs.length) (h:JcW (cs.getD i cnd0)=true):cs.any JcW=true:=by
 refine List.any_eq_true.2 ⟨cs.getD i cnd0, ?_,h⟩
 simp [List.getD,hi]
theorem Jnw {cs:List Cnd} (h:∀c∈cs,c.ok) {i:Nat} (hi:i < cs.length):(cs.getD i cnd0).ok:=h _ (by simp [List.getD,hi])
theorem JrV:JaY Tryz.prog 86=true:=by kernel_rfl
theorem JrW:Tryz.prog.bytesOf 86=32:=by kernel_rfl
def ruO (nx:Nat) (s:ByteArray) (k n:Int) (x:AV):Vl.Id×Own:=((2,nx+2), .c [Jf s,int k,int n,x])
def ruZ (nx:Nat):Vl.Id×Own:=((1,nx+1), .c [Jf ⟨#[]⟩,int 0,int 0,Jey 4])
def ruB (nx:Nat) (s:ByteArray) (k n:Int) (L:List Cnd):Option (Nat×Nat×List AV)→List (Vl.Id×Own)
 | none=> [ruO nx s k n (Jey 4),ruZ nx]
 | some (s1,cap,tl)=> [ruO nx s k n (.hs (0,s1) 0 L.length cap),ruZ nx,((0,s1), .c (Jab eC L.toArray tl))]
def ruI (L:List Cnd):Option (Nat×Nat×List AV)→Prop
 | none=> L= []
 | some (_,cap,tl)=> 1≤L.length∧L.length≤cap∧cap * 4≤L.length * 4+tl.length
theorem JuG {a b:Cnd}:Jns a b < 0↔a.arg < b.arg∨(a.arg=b.arg∧(a.op < b.op∨(a.op=b.op∧(a.mask < b.mask∨(a.mask=b.mask∧a.value < b.value))))):=by
 unfold Jns Jdi
 simp only [orL]
 repeat' split
 all_goals omega
theorem Jh3 {a b:Cnd}:ltC a b=true↔a.arg < b.arg∨(a.arg=b.arg∧(a.op < b.op∨(a.op=b.op∧(a.mask < b.mask∨(a.mask=b.mask∧a.value < b.value))))):=by
 unfold ltC;rw [decide_eq_true_iff];exact JuG
theorem Jhq {a b:Cnd}:ltC a b=false↔¬(a.arg < b.arg∨(a.arg=b.arg∧(a.op < b.op∨(a.op=b.op∧(a.mask < b.mask∨(a.mask=b.mask∧a.value < b.value)))))):=by
 rw [← Jh3,Bool.not_eq_true]
theorem swo_ltC:Go.Sort.SWO ltC:=⟨fun x=> by rw [Jhq];omega,fun x y z=> by rw [Jh3,Jh3,Jh3];omega,fun x y z=> by rw [Jhq,Jhq,Jhq];omega⟩
theorem JuH {a b:Cnd} (h1:ltC a b=false) (h2:ltC b a=false):a=b:=by
 rw [Jhq] at h1 h2
 obtain ⟨a1,a2,a3,a4⟩:=a
 obtain ⟨b1,b2,b3,b4⟩:=b
 dsimp only at h1 h2
 have e1:a1=b1:=by omega
 have e2:a2=b2:=by omega
 have e3:a3=b3:=by omega
 have e4:a4=b4:=by omega
 subst e1 e2 e3 e4;rfl
theorem JvK {nx s1:Nat} {s:ByteArray} {k n:Int} {x y:AV} (h:AVle x y) {c d:List AV} (hc:c=d):BxLe [ruO nx s k n x,ruZ nx,((0,s1), .c c)] [ruO nx s k n y,ruZ nx,((0,s1), .c d)]:=by
 subst hc
 exact ⟨rfl,⟨Rf,Rf,Rf,h,trivial⟩,Bf⟩
theorem Jqm {l:List Cnd} {x:Cnd} {tl:List AV} (h:4≤tl.length):JX (Jab eC l.toArray tl) (l.length * Tryz.prog.cellsOf 86) (eC x)=Jab eC (l++ [x]).toArray (tl.drop 4):=by
 rw [c_cnd];exact Jle Jbj h
theorem JrX {i j:Vl.Id} {L:List Cnd} {x:Cnd} {cap:Nat} (h:i.2=j.2):AVle (.hs i 0 (L.length+1) cap) (.hs j 0 (L++ [x]).length cap):=by
 rw [List.length_append];exact AVle.hs_nm h
theorem JuI {x:Cnd} {m:Nat}:eC x++List.replicate (m * Tryz.prog.cellsOf 86) AV.any=Jab eC #[x] (List.replicate (m * 4) .any):=by
 rw [c_cnd];simp [Jab]
theorem Jtz {l:List Cnd} {x:Cnd} {tl:List AV} {m:Nat}:(Jab eC l.toArray tl).take (l.length * Tryz.prog.cellsOf 86)++eC x++List.replicate (m * Tryz.prog.cellsOf 86) .any=Jab eC (l++ [x]).toArray (List.replicate (m * 4) .any):=by
 rw [c_cnd,Jlf Jbj];exact Jm6
set_option maxHeartbeats 8000000 in
theorem Joz (r:Rul) (hok:∀c∈r.conds,c.ok) (hl:r.conds.length≤12):Tells Tryz.prog 109 [Jaf r] (JvG (Jbk r)):=by
 obtain ⟨s,⟨k,n⟩,cs⟩:=r
 dsimp only at hok hl
 refine Jg Tryz.func109 rfl rfl fun nx=> ?_
 refine stp ?_
 refine Jy (fun y:Nat×List Cnd×Option (Nat×Nat×List AV)×Nat=> mk 47 [(2, .bp (1,nx+1) 0),(4, .bp (2,nx+2) 0),(15,JaS cs),(16,int cs.length),(17,int y.1)] ⟨ruB nx s k n y.2.1 y.2.2.1, [],y.2.2.2,4⟩) (fun y=> y.1≤cs.length∧y.2.1=JbF (cs.take y.1)∧ruI y.2.1 y.2.2.1∧∀j,j < y.1→JcW (cs.getD j cnd0)=false) (fun y=> cs.length - y.1) ?_ ?_
 ·exact ⟨(0, [],none,nx+3),⟨Nat.zero_le _,rfl,rfl,fun j h=> absurd h (Nat.not_lt_zero _)⟩,Jq (pm:= []) [((2,nx+2), .c [Jf s,int k,int n, .os 0 0 (fun _=> .any) none]),((1,nx+1), .c [Jf ⟨#[]⟩,int 0,int 0, .os 0 0 (fun _=> .any) none])] [] rfl rfl (.cons_cons _ (.cons_cons _ (.cons _ .slnil))) Sf ⟨rfl,⟨Rf,Rf,Rf,AVle.os_nil,trivial⟩,rfl,⟨Rf,Rf,Rf,AVle.os_nil,trivial⟩,trivial⟩ trivial ⟨Rf,Rf,Rf,Rf,Rf,trivial⟩⟩
 ·rintro ⟨i,L,md,nx1⟩ ⟨h1,hL,h2,h3⟩
  dsimp only at h1 hL h2 h3
  have hal:=Jnv (cs.take i)
  rw [List.length_take,Nat.min_eq_left h1,← hL] at hal
  refine stp ?_
  intro c g;cases c
  ·have g:=Ju g
   try dsimp only at g
   have hi:i=cs.length:=by omega
   subst hi
   rw [List.take_length] at hL
   have hR:Jbk ⟨s,(k,n),cs⟩=some ⟨s,(k,n),Jc4 L⟩:=by
    unfold Jbk
    dsimp only
    rw [Jty h3,hL];rfl
   rw [hR]
   rcases md with _ | ⟨s1,cap,tl⟩
   ·obtain rfl:L= []:=h2
    refine stp ?_
    refine Jd rfl rfl (Jqi 193) ⟨Rf,Rf,trivial⟩ fun nx2=> ?_
    refine stp ?_
    refine Jd rfl rfl JrR ⟨Rf,trivial⟩ fun nx2=> ?_
    refine stp ?_
    exact Jj rfl ⟨rfl,trivial⟩ (AVle.tups (cs:= [_,_]) ⟨AVle.ags (cs:= [_,_,_,_]) ⟨Rf,Rf,Rf,AVle.os_sl0,trivial⟩,Rf,trivial⟩)
   ·obtain ⟨q1,q2,q3⟩:=h2
    refine stp ?_
    refine JS (xs:= [.hs (0,s1) 0 L.length cap,fn0 193]) [ruO nx s k n (.hs (0,s1) 0 L.length cap),ruZ nx] [] 4 rfl rfl rfl rfl ⟨Rf,Rf,trivial⟩ (Jnt 193 ltC Jns Jqj (fun _ _=> rfl) L.toArray tl L.length (by simp) Om s1 cap _) Bf Pf rfl fun r h' hq=> ?_
    obtain ⟨nx2,nn2,rfl⟩:=hq
    have hds:(Go.Sort.insertionSort ltC L.toArray 0 L.length).size=L.length:=by
     have:=(Go.Sort.insertionSort_holds (lt:=ltC) swo_ltC L.toArray 0 L.length (Nat.zero_le _) (by simp)).1.1
     simpa using this
    refine stp ?_
    refine JS (xs:= [.hs (0,s1) 0 L.length cap]) [ruO nx s k n (.hs (0,s1) 0 L.length cap),ruZ nx] [] 4 rfl rfl rfl rfl ⟨Rf,trivial⟩ (Joy (Go.Sort.insertionSort ltC L.toArray 0 L.length) tl L.length hds Om Om s1 cap _ q2) Bf Pf rfl fun r h' hq=> ?_
    obtain ⟨tl2,nx3,nn3,rfl,rfl⟩:=hq
    have hcl:(Jc4 L).length≤cap:=Nat.le_trans (Jqk _ _) q2
    refine JU ?_
    refine JbC (n:=47) (nx:=nx3) (nn:=4) (pm:= []) (bx:= [ruZ nx]) (L:= [(2, .bp (1,nx+1) 0),(4, .rp [Jf s,int k,int n,JaS (Jc4 L)])]) (df:=some []) [((2,nx+2), .c [Jf s,int k,int n, .hs (0,s1) 0 (Jc4 L).length cap]),((0,s1), .c (Jab eC (Jc4 L).toArray tl2))] rfl rfl rfl (.cons _ (.swap _ _ _)) Sf ⟨Frz.refl _,(Frz.bp (.head _) rfl).trans (Frz.rp ⟨Frz.refl _,Frz.refl _,Frz.refl _,JgI Jbj (fun _=> rfl) rfl (.tail _ (.head _)) hcl,trivial⟩),trivial⟩ ?_
    refine stp ?_
    exact Jj rfl ⟨rfl,trivial⟩ Rf
  ·have g:=Jv g
   try dsimp only at g
   have hi:i < cs.length:=by omega
   have hcs:=Jry (cs.getD i cnd0) (Jnw hok hi)
   have ha:=JrU hi
   have hnv:JcW (cs.getD i cnd0)=decide ((JaA (cs.getD i cnd0)).2=2):=rfl
   have hak0:=JvH (c:=cs.getD i cnd0)
   have hak1:=JvI (c:=cs.getD i cnd0)
   generalize JaA (cs.getD i cnd0)=N at hcs hnv hak0 hak1
   obtain ⟨⟨qa,qo,qm,qv⟩,st⟩:=N
   dsimp only at hnv hak0 hak1
   refine stp ?_
   refine ⟨Bd, ?_⟩
   refine stp ?_
   refine Jd rfl rfl hcs ⟨Rf,trivial⟩ fun nx2=> ?_
   refine stp ?_
   intro c g2;cases c
   ·have g2:st≠2:=fun h=> by subst h;cases g2
    rw [decide_eq_false g2] at hnv
    have h3':∀j,j < i+1→JcW (cs.getD j cnd0)=false:=fun j hj=> by
     rcases Nat.lt_or_ge j i with q | q
     ·exact h3 j q
     ·rw [show j=i by omega];exact hnv
    refine stp ?_
    intro c g3;cases c
    ·have g3:st≠0:=fun h=> by subst h;cases g3
     rw [hak1 g3,← hL] at ha
     refine stp ?_
     exact back (i + 1, L, md, _) ⟨hi, ha.symm.trans (List.append_nil _).symm |>.symm |> (fun e => by simpa using ha.symm), h2, h3'⟩ Dm (Jq (bx := ruB nx s k n L md) _ _ rfl rfl (.cons _ (.cons _ Sf)) Sf Bf trivial ⟨Rf, Rf, Rf, Rf, Lw, trivial⟩)
    ·have g3:st=0:=by
      by_cases h:st=0
      ·exact h
      ·exfalso
       have:((st:Int) ==0)=false:=beq_eq_false_iff_ne.2 Om
       exact absurd (g3.trans this) Dc
     rw [hak0 g3,← hL] at ha
     have ha:L++ [⟨qa,qo,qm,qv⟩]=JbF (cs.take (i+1)):=ha.symm
     rcases md with _ | ⟨s1,cap,tl⟩
     ·obtain rfl:L= []:=h2
      refine JU ?_
      refine JQ (fun i=> match i with | 0=> true | _=> false) 5 ?_
      refine stp ?_
      refine JfB (m:=1) rfl rfl (.inr ⟨_,rfl⟩) Tryz.underlying116 JrV c_cnd.symm Dc (Jz rfl) (by rw [JrW];omega) Om fun ncap hcap=> ?_
      refine stp ?_
      exact back (i+1, [⟨qa,qo,qm,qv⟩],some (nx2+1,ncap,List.replicate ((ncap - 1) * 4) .any),nx2+1+1) ⟨hi,ha,⟨Nat.le_refl _,hcap,by simp;omega⟩,h3'⟩ Dm (Jn (pm:= []) (bx:= [ruO nx s k n (.hs (0,nx2+1) 0 1 ncap),ruZ nx,((0,nx2+1), .c (Jab eC #[⟨qa,qo,qm,qv⟩] (List.replicate ((ncap - 1) * 4) .any)))]) _ [ruO nx s k n (.hs (6,nx2+1) 0 1 ncap),ruZ nx,((6,nx2+1), .c (eC ⟨qa,qo,qm,qv⟩++List.replicate ((ncap - 1) * Tryz.prog.cellsOf 86) .any))] [] rfl rfl (List.perm_append_singleton _ _) (.cons _ (.cons _ (.cons_cons _ (.cons_cons _ (.cons_cons _ .slnil))))) .slnil ⟨rfl,⟨Rf,Rf,Rf,AVle.hs_nm rfl,trivial⟩,rfl,OwnLe.refl _,rfl,Jnu (congrArg Own.c JuI),trivial⟩ trivial ⟨Rf,Rf,Rf,Rf,Lw,trivial⟩)
     ·obtain ⟨q1,q2,q3⟩:=h2
      refine JU ?_
      refine JQ (fun i=> match i with | 0=> true | _=> false) 5 ?_
      refine stp ?_
      refine JeH (m:=1) (szx:=4) (n:=L.length) (cap:=cap) (cs:=Jab eC L.toArray tl) (i:=(0,s1)) rfl rfl (.inr ⟨_,rfl⟩) Tryz.underlying116 JrV (.inr c_cnd.symm) (by rfl) q2 (by rw [c_cnd,JgF Jbj];simpa using q3) (Jz rfl) (fun _=> by rw [JrW];omega) (fun _=> by omega) (fun hm=> absurd hm Dc) (fun hm hfit=> ?_) (fun hm hfit ncap hcap=> ?_)
      ·refine stp ?_
       (conv=> whnf)
       refine back (i+1,L++ [(⟨qa,qo,qm,qv⟩:Cnd)],some (s1,cap,tl.drop 4),nx2+1) ?_ Dm ?_
       ·exact ⟨hi,ha,⟨by simp,by simpa using hfit,by simp;omega⟩,h3'⟩
       ·exact (Jq (pm:= []) (bx:= [ruO nx s k n (.hs (0,s1) 0 (L++ [(⟨qa,qo,qm,qv⟩:Cnd)]).length cap),ruZ nx,((0,s1), .c (Jab eC (L++ [(⟨qa,qo,qm,qv⟩:Cnd)]).toArray (tl.drop 4)))]) [ruO nx s k n (.hs (0,s1) 0 (L.length+1) cap),ruZ nx,((0,s1), .c (JX (Jab eC L.toArray tl) (L.length * Tryz.prog.cellsOf 86) (eC ⟨qa,qo,qm,qv⟩)))] [] rfl rfl (.cons _ (.cons _ (.cons_cons _ (.cons_cons _ (.cons_cons _ .slnil))))) .slnil (JvK (JrX rfl) (Jqm (tl:=tl) (by have:=hfit;omega))) trivial ⟨Rf,Rf,Rf,Rf,Lw,trivial⟩)
      ·refine stp ?_
       (conv=> whnf)
       refine back (i+1,L++ [(⟨qa,qo,qm,qv⟩:Cnd)],some (nx2+1,ncap,List.replicate ((ncap - (L.length+1)) * 4) .any),nx2+1+1) ?_ Dm ?_
       ·exact ⟨hi,ha,⟨by simp,by simpa using hcap,by simp;omega⟩,h3'⟩
       ·exact (Jn (pm:= []) (bx:= [ruO nx s k n (.hs (0,nx2+1) 0 (L++ [(⟨qa,qo,qm,qv⟩:Cnd)]).length ncap),ruZ nx,((0,nx2+1), .c (Jab eC (L++ [(⟨qa,qo,qm,qv⟩:Cnd)]).toArray (List.replicate ((ncap - (L.length+1)) * 4) .any)))]) _ [ruO nx s k n (.hs (6,nx2+1) 0 (L.length+1) ncap),ruZ nx,((6,nx2+1), .c ((Jab eC L.toArray tl).take (L.length * Tryz.prog.cellsOf 86)++eC ⟨qa,qo,qm,qv⟩++List.replicate ((ncap - (L.length+1)) * Tryz.prog.cellsOf 86) .any))] [] rfl rfl (List.perm_append_singleton _ _) (.cons _ (.cons _ (.cons_cons _ (.cons_cons _ (.cons _ (.cons_cons _ .slnil)))))) .slnil ⟨rfl,⟨Rf,Rf,Rf,JrX rfl,trivial⟩,rfl,OwnLe.refl _,rfl,Jnu (congrArg Own.c Jtz),trivial⟩ trivial ⟨Rf,Rf,Rf,Rf,Lw,trivial⟩)
   ·have g2:st=2:=by
     by_cases h:st=2
     ·exact h
     ·exfalso
      have:((st:Int) ==2)=false:=beq_eq_false_iff_ne.2 Om
      exact absurd (g2.trans this) Dc
    have hR:Jbk ⟨s,(k,n),cs⟩=none:=by
     unfold Jbk
     dsimp only
     rw [JvJ hi (by rw [hnv];exact decide_eq_true g2)];rfl
    rw [hR]
    rcases md with _ | ⟨s1,cap,tl⟩
    all_goals
     refine stp ?_
     exact Jj rfl ⟨rfl,trivial⟩ (AVle.tups (cs:= [_,_]) ⟨AVle.ags (cs:= [_,_,_,_]) ⟨Rf,Rf,Rf,AVle.os_sl0,trivial⟩,Rf,trivial⟩)
end Go.Proofs.W

namespace Go.Proofs.W
open Go.Vl
set_option maxRecDepth 100000
def JjO (r:Rul):List AV:= [Jf r.name,int r.act.1,int r.act.2,JaS r.conds]
theorem JrY (l:List Rul) (p:Rul→Bool) (f:Nat) (n:Rul) (hl:l.length≤1000000000) (hp:∀i,i < l.length→Tells Tryz.prog f [Jaf (l.getD i Jl), .rp (JjO n)] (Jb (p (l.getD i Jl)))):
 Tells Tryz.prog 106 [JF 4 Jaf Jl l,(.fn (.func f) [] [.rp (JjO n)])] (int (Jhl (l.findIdx? p))):=by
 refine Jg Tryz.func106 rfl rfl fun nx=> ?_
 refine stp ?_
 refine Jy (fun s:Nat×Nat=> mk 19 [(0,JF 4 Jaf Jl l),(1,(.fn (.func f) [] [.rp (JjO n)])),(7,int l.length),(8,int s.1)] ⟨[], [],s.2,0⟩) (fun s=> s.1≤l.length∧∀j,j < s.1→p (l.getD j Jl)=false) (fun s=> l.length - s.1) ?_ ?_
 ·exact ⟨(0,nx),⟨by simp,by intro j hj;simp at hj⟩,JaI rfl rfl ⟨Rf,Rf,Rf,Rf,trivial⟩⟩
 ·rintro ⟨i,nx⟩ ⟨h1,h2⟩
  dsimp only at h1 h2
  refine stp ?_
  intro c h3;cases c
  ·have h3:=Ju h3
   dsimp only at h3
   refine stp ?_
   refine Je rfl (Jk ?_)
   rw [JfD Jl (fun j hj=> h2 j Om)];rfl
  ·have h3:=Jv h3
   dsimp only at h3
   have hi:i < l.length:=by omega
   refine stp ?_
   refine ⟨⟨by dsimp only;omega,by dsimp only;omega⟩, ?_⟩
   refine stp ?_
   refine Jd rfl rfl (hp i hi) ⟨Rf,Rf,trivial⟩ fun nx'=> ?_
   intro c h4;cases c
   ·refine stp ?_
    refine back (i+1,nx') ⟨by dsimp only;omega,fun j hj=> ?_⟩ Dm (JaI rfl rfl ⟨Rf,Rf,Rf,Jk (J7 Dm),trivial⟩)
    dsimp only at hj
    rcases Nat.lt_or_ge j i with h | h
    ·exact h2 j h
    ·obtain rfl:j=i:=by omega
     exact h4.symm
   ·refine stp ?_
    refine Je rfl (Jk ?_)
    rw [Jhk Jl hi h2 h4.symm];rfl
theorem JrZ (l:List Rul) (p:Rul→Bool) (f:Nat) (n:Rul) (hl:l.length≤1000000000) (hp:∀i,i < l.length→Tells Tryz.prog f [Jaf (l.getD i Jl), .rp (JjO n)] (Jb (p (l.getD i Jl)))):
 Tells Tryz.prog 168 [JF 4 Jaf Jl l,(.fn (.func f) [] [.rp (JjO n)])] (Jb (l.any p)):=by
 refine Jg Tryz.func168 rfl rfl fun nx=> ?_
 refine stp ?_
 refine Jd rfl rfl (JrY l p f n hl hp) ⟨Rf,Rf,trivial⟩ fun nx'=> ?_
 refine stp ?_
 intro c h;cases c
 all_goals
  refine stp ?_
  refine Je rfl (JH ?_)
  rw [h,← List.findIdx?_isSome]
  exact JeI _
def JiY (n x:Rul):Bool:=decide (x.conds= [])|| decide (x.conds=n.conds)
def JfI (l:List Rul) (n:Rul):Bool:=l.any (JiY n)
theorem Jr0 (x n:Rul) (hx:x.conds.length≤1000000):Tells Tryz.prog 195 [Jaf x, .rp [Jf n.name,int n.act.1,int n.act.2,JaS n.conds]] (Jb (JiY n x)):=by
 refine Jg Tryz.func195 rfl rfl fun nx=> ?_
 by_cases h:x.conds= []
 ·have e:JiY n x=true:=by unfold JiY;rw [h];rfl
  rw [e]
  refine stp ?_
  intro c hc
  have hc2:c=true:=hc.trans (beq_iff_eq.2 (congrArg (fun l:List Cnd=> Int.ofNat l.length) h))
  clear hc;subst hc2
  refine stp ?_
  exact Je rfl Rf
 ·have e:JiY n x=decide (x.conds=n.conds):=by unfold JiY;rw [decide_eq_false h];rfl
  rw [e]
  refine stp ?_
  intro c hc
  have hne:¬Int.ofNat x.conds.length=0:=fun hh=> h (List.eq_nil_of_length_eq_zero (Int.ofNat.inj hh))
  have hc2:c=false:=hc.trans (beq_eq_false_iff_ne.2 hne)
  clear hc;subst hc2
  refine stp ?_
  refine Jd rfl rfl (Jou x.conds n.conds hx) ⟨Rf,Rf,trivial⟩ fun nx2=> ?_
  intro c h9;cases c
  all_goals
   refine stp ?_
   exact Je rfl (JH h9)
theorem Jiz (l:List Rul) (n:Rul) (hl:l.length≤1000000) (hc:∀r∈l,r.conds.length≤1000000):Tells Tryz.prog 110 [Ji l,Jaf n] (Jb (JfI l n)):=by
 refine Jg Tryz.func110 rfl rfl fun nx=> ?_
 (refine JU ?_;refine Jaq ?_;refine JU ?_)
 refine AW.le (Jcm (L:= [(0,Ji l),(3, .rp [Jf n.name,int n.act.1,int n.act.2,JaS n.conds])]) (bx:= []) (pm:= []) (nn:=1) [((0,nx), .c [Jf n.name,int n.act.1,int n.act.2,JaS n.conds])] rfl rfl Sf .slnil ⟨Frz.refl _,Frz.bp (.head _) rfl,trivial⟩) ?_
 refine stp ?_
 refine Jd rfl rfl (JrZ l (JiY n) 195 n Om (fun i hi=> Jr0 _ _ (hc _ (by simp [List.getD,hi])))) ⟨Rf,Rf,trivial⟩ fun nx2=> ?_
 intro c h9;cases c
 all_goals
  refine stp ?_
  exact Je rfl (JH h9)
end Go.Proofs.W

namespace Go.Proofs
open Go.Shelf
shelf_lay_g SlLaysM.n6 Slgm 6 at Tryz 189 as Tryz.laysM6k16
end Go.Proofs
namespace Go.Proofs.W
open Go.Vl Go.Shelf
set_option maxRecDepth 100000
theorem JoA (es:List (Value×AV)) (hky:∀p∈es,∃z,p.1= .string z):Jgg Tryz.prog 198 [] [.rp [.fm es]] (fun v:Value=> [.v v]) (fun xs=> xs.Perm (es.map (·.1))):=by
 intro i σ Cb Cp I J hc s0 nx nn h0
 refine ECall.wk (JT Tryz.func198 rfl rfl ?_)
 refine JU ?_
 refine JQ (fun n=> match n with | 0=> true | _=> false) 2 ?_
 refine stp ?_
 refine JpC rfl Tryz.underlying223 rfl ?_
 refine stp ?_
 refine Jy (fun y:List Nat×σ×Nat=> mk 14 [(0, .yl i),(5, .bp (nn,nx) 0)] ⟨((nn,nx), .it es y.1)::Cb y.2.1,Cp y.2.1,y.2.2,nn+1⟩) (fun y=> y.1.Nodup∧(∀j∈y.1,j < es.length)∧I (y.1.map (Jed es)) y.2.1) (fun y=> es.length - y.1.length) ?_ ?_
 ·exact ⟨([],s0,nx+1),⟨List.nodup_nil,(fun j (h:j∈ [])=> by cases h),h0⟩,Et rfl rfl ⟨rfl,OwnLe.refl _,Bf⟩ Pf ⟨Rf,Rf,trivial⟩⟩
 ·rintro ⟨seen,s,nx1⟩ ⟨h1,h2,h3⟩
  dsimp only at h1 h2 h3
  refine JU ?_
  refine JQ (fun n=> match n with | 0=> true | _=> false) 1 ?_
  refine Jrk (i:=(nn,nx)) (es:=es) (seen:=seen) (R:=Cb s) rfl rfl rfl (fun k p hk hn=> ?_) (fun hall=> ?_)
  ·obtain ⟨z,hz⟩:=hky p (List.mem_of_getElem? hk)
   obtain ⟨key,val⟩:=p
   dsimp only at hz
   subst hz
   have hk2:k < es.length:=(List.getElem?_eq_some_iff.1 hk).1
   have hka:Jed es k= .string z:=Jp2 hk
   obtain ⟨post,hperm⟩:=Jrn h1 h2 hk2 hn
   have hS:(seen.map (Jed es)++(.string z)::post.map (Jed es)).Perm (es.map (·.1)):=by
    rw [← Jln,← hka]
    simpa using hperm.map (Jed es)
   have hlen:=hperm.length_eq
   have hnd:(seen++ [k]).Nodup:=by
    rw [List.nodup_append]
    exact ⟨h1,by simp,fun a ha b hb hab=> by rw [List.mem_singleton] at hb;subst hb;subst hab;exact hn ha⟩
   have hlt:∀j∈seen++ [k],j < es.length:=fun j hj=> by
    rcases List.mem_append.1 hj with h | h
    ·exact h2 j h
    ·rw [List.mem_singleton] at h;omega
   have hmk:(seen++ [k]).map (Jed es)=seen.map (Jed es)++ [.string z]:=by rw [List.map_append,← hka];rfl
   have hlen2:seen.length < es.length:=by simp at hlen;omega
   refine JU ?_
   refine JQ (fun n=> match n with | 0=> true | _=> false) 1 ?_
   refine JpD (i:=(nn,nx)) (seen:=seen) (k:=k) (R:=Cb s) rfl rfl rfl hk ?_
   refine JU ?_
   refine JQ (fun n=> match n with | 0=> true | _=> false) 3 ?_
   refine stp ?_
   refine JgD [((nn,nx), .it es (seen++ [k]))] [] rfl rfl rfl (hc _ hS) rfl h3 ⟨Rf,trivial⟩ (fun s' nx' hI=> ?_) (fun s' nx' hJ=> ?_)
   ·refine stp ?_
    exact back (seen++ [k],s',nx') ⟨hnd,hlt,by dsimp only;rw [hmk];exact hI⟩ (by simp;omega) (Et rfl rfl Bf Pf ⟨Rf,Rf,trivial⟩)
   ·refine stp ?_
    exact Jac rfl ⟨_,⟨Cb s',Cp s',nx',nn⟩,Rf,Jaz _ _ rfl (.cons _ Sf) Sf Bf Pf,_,s',hS, .inr ⟨_,_,_,rfl,hJ⟩,rfl,rfl⟩
  ·refine stp ?_
   refine Jac rfl ⟨_,⟨Cb s,Cp s,nx1,nn⟩,Rf,Jaz _ _ rfl (.cons _ Sf) Sf Bf Pf,_,s, ?_, .inl h3,rfl,rfl⟩
   rw [← Jln]
   exact (Jro h1 h2 hall).map _
def Jcg (l:List Value) (k:Nat):AV:= .v (l.getD k (.bool false))
theorem JtA:Tryz.prog.bytesOf 9=16:=by kernel_rfl
theorem JjP (es:List (Value×AV)):Tells Tryz.prog 112 [.fm es] (.fn (.func 198) [] [.rp [.fm es]]):=by
 refine Jg Tryz.func112 rfl rfl fun nx=> ?_
 (repeat ((conv=>whnf);first|refine ω0 ?_|refine ω1 ?_|refine ω2 ?_|refine ω3 ?_|refine ω4 rfl ?_|refine ω5 rfl ?_|refine ω6 ?_|refine ω7 ?_|refine ⟨rfl,?_⟩|refine ⟨trivial,?_⟩|refine ⟨⟨rfl,Nat.le_of_ble_eq_true rfl⟩,?_⟩|refine ⟨⟨by kernel_rfl,by kernel_rfl⟩,?_⟩|refine ⟨by decide,?_⟩|refine Jfy ?_|refine JeP ?_))
 refine AW.le (Jcm (L:= [(2, .fn (.func 198) [] [.rp [.fm es]])]) (bx:= []) (pm:= []) (nn:=1) [((0,nx), .c [.fm es])] rfl rfl Sf .slnil ⟨Frz.fn trivial ⟨Frz.bp (.head _) rfl,trivial⟩,trivial⟩) ?_
 refine stp ?_
 exact Je rfl Rf
set_option maxHeartbeats 1000000 in
theorem JiZ {it:FuncId} {es:List (Value×AV)} {S:List Value→Prop} (hit:Jgg Tryz.prog it [] [.rp [.fm es]] (fun v:Value=> [.v v]) S) (hS:∀xs,S xs→xs.length≤1000000∧∀v∈xs,∃z,v= .string z) (nx:Nat):
 ECall Tryz.prog 265 [.os 0 0 (fun _=> .any) none, .fn (.func it) [] [.rp [.fm es]]] ⟨[], [],nx,0⟩ fun r h'=> ∃xs oi nx' nn',S xs∧(oi=none→xs= [])∧r= .os 1 xs.length (Jcg xs) oi∧h'=⟨[],Jbo oi (xs.length * 1),nx',nn'⟩:=by
 refine ECall.wk (JT Tryz.func265 rfl rfl ?_)
 refine stp ?_
 refine AW.le (E':=mk 13 [(2, .bp (0,nx) 0),(6, .fn (.func it) [] [.rp [.fm es]])] ⟨[((0,nx), .c [.os 1 0 (Jcg []) none])], [],nx+1,1⟩) ?_ ?_
 ·exact Jq _ _ rfl rfl Sf .slnil ⟨rfl,⟨AVle.os_nil,trivial⟩,trivial⟩ trivial ⟨Rf,Rf,trivial⟩
 refine Jun (σ:=Nat×(Nat→AV)×Option Vl.Id) (α:=Value) (e:=fun v=> [.v v]) (S:=S) (first':= []) (caps':= [.rp [.fm es]]) (fun x=> [((0,nx), .c [.os 1 x.1 x.2.1 x.2.2])]) (fun x=> Jbo x.2.2 (x.1 * 1)) (fun pre x=> x.1=pre.length∧(∀k,k < x.1→x.2.1 k=Jcg pre k)∧(x.2.2=none→pre= [])) (0,Jcg [],none) rfl rfl hit (LeL.refl _) (LeL.refl _) rfl rfl ⟨rfl,fun _ _=> rfl,fun _=> rfl⟩ (fun _=> rfl) ?_ ?_
 ·rintro pre x post ⟨n,f,oi⟩ nx3 nn3 hx ⟨hp,hf,ho⟩
  dsimp only at hp hf ho
  subst hp
  obtain ⟨hlen,hty⟩:=hS _ hx
  obtain ⟨z,rfl⟩:=hty x (by simp)
  simp at hlen
  refine JU ?_
  refine Jaq ?_
  refine JU ?_
  refine JQ (fun n=> match n with | 0=> true | _=> false) 4 ?_
  refine stp ?_
  refine JeG (e:=9) (c:=1) (pm:= []) (n:=pre.length) (oi:=oi) (sz:=1) (f:=f) rfl rfl (.inr ⟨_,rfl⟩) (by kernel_rfl) (by kernel_rfl) (by kernel_rfl) (.inr rfl) (by kernel_rfl) (List.append_nil _).symm (Jz rfl) (by rw [JtA];omega) Om ?_
  refine stp ?_
  refine ⟨(pre.length+1,_,some (nn3,nx3)), .inl ⟨rfl,by simp,fun k hk=> ?_,fun h=> by cases h⟩,rfl,rfl⟩
  refine JbM (fun k hk=> ?_) ?_ k hk
  ·rw [hf k hk];simp [Jcg,List.getD,List.getElem?_append_left hk,hk]
  ·simp [Jcg,List.getD];rfl
 ·rintro xs ⟨n,f,oi⟩ nx3 nn3 hx ⟨hp,hf,ho⟩
  dsimp only at hp hf ho
  subst hp
  refine stp ?_
  refine Jac rfl ⟨.os 1 xs.length (Jcg xs) oi,⟨[],Jbo oi (xs.length * 1),nx3,0⟩,AVle.os_fun hf, ?_,xs,oi,nx3,0,hx,ho,rfl,rfl⟩
  exact Jaz [] _ rfl (List.nil_sublist _) Sf trivial Pf
theorem JkG (es:List (Value×AV)) (hl:es.length≤1000000) (hky:∀p∈es,∃z,p.1= .string z) (nx:Nat):
 ECall Tryz.prog 197 [.fn (.func 198) [] [.rp [.fm es]]] ⟨[], [],nx,0⟩ (Jua (fun n f=> ∃xs:List Value,xs.Perm (es.map (·.1))∧n=xs.length∧∀k,k < n→f k=Jcg xs k) 1):=by
 refine JpH Dc (fun n f ⟨xs,_,_,hf⟩ k hk c hc=> ?_) ?_
 ·rw [hf k hk] at hc
  obtain rfl:c=Jcg xs k:=by simpa [Jcg,AV.cells] using hc
  exact Flat.v _
 refine ECall.wk (JT Tryz.func197 rfl rfl ?_)
 refine stp ?_
 refine Jdc rfl rfl (ECall.args (bs:= [.os 0 0 (fun _=> .any) none, .fn (.func 198) [] [.rp [.fm es]]]) ⟨Rf,Rf,trivial⟩ (JiZ (JoA es hky) (fun xs hx=> ⟨by have:=hx.length_eq;simp at this;omega,fun v hv=> ?_⟩) nx)) fun r h' hq=> ?_
 ·obtain ⟨p,hp,rfl⟩:=List.mem_map.1 (hx.mem_iff.1 hv)
  exact hky p hp
 obtain ⟨xs,oi,nx',nn',hS,ho,rfl,rfl⟩:=hq
 refine Named.same ?_
 refine stp ?_
 exact Jac rfl ⟨_,_,Rf,HLe.refl _,xs.length,Jcg xs,oi,nx',_,⟨xs,hS,rfl,fun _ _=> rfl⟩,(fun h=> by rw [ho h];rfl),rfl,rfl⟩
def Jcq (z:List UInt8):AV:= .v (encStr z)
def Jf7 (s:Nat) (d:Array (List UInt8)) (tl:List AV):List (Vl.Id×Own):= [((0,s), .c (Jba Jcq d tl))]
theorem JjQ (l:List (List UInt8)):l.mergeSort (fun x y=> decide (x≤y))=Jak Go.Sort.ltStr l:=by
 unfold Jak
 congr 1
 funext x y
 simp only [Go.Sort.ltStr]
 by_cases h:x≤y
 ·rw [decide_eq_true h,decide_eq_false (List.not_lt.2 h)];rfl
 ·rw [decide_eq_false h,decide_eq_true (List.not_le.1 h)];rfl
theorem Jhr:∀x y:List UInt8,Go.Sort.ltStr x y=false→Go.Sort.ltStr y x=false→x=y:=fun x y h1 h2=> by
 simp only [Go.Sort.ltStr,decide_eq_false_iff_not,List.not_lt] at h1 h2
 exact List.le_antisymm h2 h1
theorem Jnx (d0:Array (List UInt8)) (tl:List AV) (n:Nat) (hn:d0.size=n) (hsz:n≤1000000) (s cap nx:Nat):
 ECall Tryz.prog 189 [.hs (0,s) 0 n cap] ⟨Jf7 s d0 tl, [],nx,1⟩ (fun r h'=> ∃nx' nn',h'=⟨Jf7 s (Jak Go.Sort.ltStr d0.toList).toArray tl, [],nx',nn'⟩):=by
 subst hn
 have h:=Jiq (P:=Tryz.prog) (enc:=encStr) (d:=d0) (d':=(Jak Go.Sort.ltStr d0.toList).toArray) (tl:=tl) (nm:=0) (s:=s) (cap:=cap) (nx:=nx) (nn:=1) (f:=189) ⟨_,Tryz.func189,rfl,rfl⟩ (by simp [Jbn]) (fun w blk hH hb=> by
  have k:=AnyM.slices_Sort_string Tryz.laysM6k16 blk 0 cap d0.toList w hH hb (by simp;omega)
  rw [JjQ] at k
  exact k)
 exact h.mono fun r h' ⟨_,h2⟩=> ⟨nx,1,h2⟩
theorem Jny (F:Nat→AV):Tells Tryz.prog 189 [.os 1 0 F none] (.tup []):=
 Jir (nx:=0) ⟨_,Tryz.func189,rfl,rfl⟩ fun p cap w=> AnyM.slices_Sort_string_none Tryz.laysM6k16 p cap w
def JjR:Value→List UInt8
 | .string z=> z.data.toList
 | _=> []
theorem Jma (es:List (Value×AV)) (zs:List (List UInt8)) (hz:es.map (·.1)=zs.map encStr) (hl:es.length≤1000000):
 Tells Tryz.prog 111 [.fn (.func 198) [] [.rp [.fm es]]] (JF 1 Jcq [] (Jak Go.Sort.ltStr zs)):=by
 have hky:∀p∈es,∃z,p.1=encStr z:=fun p hp=> by
  have:p.1∈zs.map encStr:=hz ▸ List.mem_map_of_mem hp
  obtain ⟨z,_,h⟩:=List.mem_map.1 this
  exact ⟨z,h.symm⟩
 refine Jg Tryz.func111 rfl rfl fun nx=> ?_
 refine stp ?_
 refine Jdc rfl rfl (JkG es hl (fun p hp=> let ⟨z,h⟩:=hky p hp;⟨⟨z.toArray⟩,h⟩) nx) fun r h' hq=> ?_
 obtain ⟨n,f,⟨xs,hxp,hxn,hxf⟩,hq⟩:=hq
 obtain ⟨ys,rfl⟩:∃ys:List (List UInt8),xs=ys.map encStr:=by
  have hall:∀v∈xs,∃z,v=encStr z:=fun v hv=> by
   have hv2:=hxp.mem_iff.1 hv
   rw [hz] at hv2
   obtain ⟨z,_,h⟩:=List.mem_map.1 hv2
   exact ⟨z,h.symm⟩
  clear hxp hxn hxf hq
  induction xs with
  | nil=> exact ⟨[],rfl⟩
  | cons x xs ih=>
    obtain ⟨z,rfl⟩:=hall x (by simp)
    obtain ⟨ys,rfl⟩:=ih fun v hv=> hall v (by simp [hv])
    exact ⟨z::ys,rfl⟩
 have hperm:ys.Perm zs:=by
  rw [hz] at hxp
  have h2:=hxp.map JjR
  rwa [List.map_map,List.map_map,show (JjR∘encStr)=id from rfl,List.map_id,List.map_id] at h2
 have hsz:n≤1000000:=by
  have:=hxp.length_eq
  simp at this
  rw [hxn];simp;omega
 rcases hq with ⟨rfl,hb,hp,rfl⟩ | ⟨s,cap,more,nx',nn',hcap,hmore,rfl,rfl⟩
 ·have hys:ys= []:=by cases ys with | nil=> rfl | cons y ys=> simp at hxn
  subst hys
  have hzs:zs= []:=hperm.symm.eq_nil
  subst hzs
  rw [show Jak Go.Sort.ltStr ([]:List (List UInt8))= [] from List.eq_nil_of_length_eq_zero Jbn]
  obtain ⟨bx,pm,nxx,nnn⟩:=h'
  dsimp only at hb hp
  subst hb;subst hp
  refine Named.same ?_
  refine stp ?_
  refine Jd rfl rfl (Jny f) ⟨Rf,trivial⟩ fun nx2=> ?_
  refine stp ?_
  exact Je rfl AVle.os_sl0
 ·refine Named.same ?_
  have hcells:JL n f=ys.toArray.toList.map Jcq:=by
   have key:∀m,m≤n→JL m f=(ys.take m).map Jcq:=by
    intro m
    induction m with
    | zero=> intro _;rfl
    | succ m ih=>
      intro hm
      have hm':m < ys.length:=by simp at hxn;omega
      have e:JL (m+1) f=JL m f++(f m).cells:=by unfold JL;rw [List.range_succ,List.flatMap_append];simp
      rw [e,ih Om,hxf m Om,List.take_add_one,List.map_append]
      simp [Jcg,List.getD,hm',AV.cells,Jcq]
   rw [key n (Nat.le_refl _),List.take_of_length_le (by simp at hxn;omega)]
  have hnn:ys.toArray.size=n:=by simp at hxn;simp [hxn]
  rw [hcells]
  refine JU ?_
  refine AW.le (E':=mk 9 [(3, .hs (0,s) 0 n cap)] ⟨Jf7 s ys.toArray (List.replicate more .any), [],nx',1⟩) (Jq _ _ rfl rfl Sf .slnil Bf trivial ⟨Rf,trivial⟩) ?_
  refine stp ?_
  refine JS (xs:= [.hs (0,s) 0 n cap]) [] [] 1 rfl rfl rfl rfl ⟨Rf,trivial⟩ (Jnx ys.toArray _ n hnn hsz s cap _) Bf Pf rfl fun r h' hq=> ?_
  obtain ⟨nx2,nn2,rfl⟩:=hq
  have hd:(Jak Go.Sort.ltStr ys.toArray.toList).toArray.toList=Jak Go.Sort.ltStr zs:=by
   show Jak Go.Sort.ltStr ys=_
   exact Jkv Go.Sort.swo_ltStr Jhr hperm
  generalize (Jak Go.Sort.ltStr ys.toArray.toList).toArray=d' at hd⊢
  have hdn:d'.size=n:=by
   rw [← Array.length_toList,hd,Jbn,← hperm.length_eq]
   simpa using hnn
  have hln:(Jak Go.Sort.ltStr zs).length=n:=by rw [← hd];simpa using hdn
  refine JU ?_
  refine AW.le (Jcm (L:= [(3,JF 1 Jcq [] (Jak Go.Sort.ltStr zs))]) (bx:= []) (pm:= []) (nn:=1) [((0,s), .c (Jba Jcq d' (List.replicate more .any)))] rfl rfl Sf .slnil ⟨?_,trivial⟩) ?_
  ·unfold JF
   rw [hln]
   refine Frz.hs1 (.head _) hcap (by rw [JgE];omega) (fun k _=> rfl) (fun k hk=> ?_)
   unfold Jba
   rw [List.getElem?_append_left (by simpa [hdn] using hk),List.getElem?_map,← hd]
   have:k < d'.size:=by omega
   simp [List.getD,this]
  ·refine stp ?_
   exact Je rfl Rf
end Go.Proofs.W

namespace Go.Proofs.W
open Go.Vl
set_option maxRecDepth 100000
def Jag (s t:ByteArray):Bool:=s.toList ==t.toList
theorem JcK {s t:ByteArray}:Jag s t=true↔s=t:=by
 unfold Jag
 rw [beq_iff_eq,Lib.toList_data,Lib.toList_data]
 constructor
 ·intro h
  obtain ⟨⟨a⟩⟩:=s
  obtain ⟨⟨b⟩⟩:=t
  simpa using h
 ·rintro rfl;rfl
def Ja3:List (ByteArray×List Rul)→ByteArray→List Rul
 | [],_=> []
 | h::H,s=> if Jag s h.1 then h.2 else Ja3 H s
def Jc5:List (ByteArray×List Rul)→ByteArray→Rul→List (ByteArray×List Rul)
 | [],s,n=> [(s, [n])]
 | h::H,s,n=> if Jag s h.1 then (h.1,h.2++ [n])::H else h::Jc5 H s n
def JcR (H:List (ByteArray×List Rul)) (r:Rul):List (ByteArray×List Rul):=
 match Jbk r with
 | none=> H
 | some n=> if JfI (Ja3 H r.name) n then H else Jc5 H r.name n
def JaB (rs:List Rul):List (ByteArray×List Rul):=rs.foldl JcR []
theorem Jmb {rs:List Rul} {i:Nat} (h:i < rs.length):JaB (rs.take (i+1))=JcR (JaB (rs.take i)) (rs.getD i Jl):=by
 unfold JaB;rw [Jb2 Jl h,List.foldl_append];rfl
def JaV (R:List Rul) (k:Nat):AV:=Jaf (R.getD k Jl)
abbrev Grp:=ByteArray×List Rul×Nat
def gE (g:Grp):Value×AV:=(.string g.1, .os 4 g.2.1.length (JaV g.2.1) (some (g.2.2,g.2.2)))
def gF (g:Grp):Value×AV:=(.string g.1,Ji g.2.1)
def gP (g:Grp):Vl.Id×Nat:=((g.2.2,g.2.2),g.2.1.length * 4)
def JbW (G:List Grp):List (ByteArray×List Rul):=G.map fun g=> (g.1,g.2.1)
theorem Jgl (G:List Grp):JaP .string (G.map gE)=true:=by simp [JaP,gE,JaH]
theorem JvL (G:List Grp):JaP .string (G.map gF)=true:=by simp [JaP,gF,JaH]
theorem JjS {s:ByteArray} {e:Grp→Value×AV} (he:∀g,(e g).1= .string g.1):∀ {G:List Grp},(∀g∈G,Jag s g.1=false)→Ja1 (.string s) (G.map e)=none
 | [],_=> rfl
 | g::G,h=> by
   have h0:(s.toList ==g.1.toList)=false:=h g (.head _)
   show (bif Jc8 (.string s) (e g).1 then _ else Ja1 (.string s) (G.map e))=none
   rw [he g]
   show (bif s.toList ==g.1.toList then _ else Ja1 (.string s) (G.map e))=none
   rw [h0]
   exact JjS he fun g' hg=> h g' (.tail _ hg)
theorem Ji0 {s:ByteArray} {e:Grp→Value×AV} (he:∀g,(e g).1= .string g.1) {l:List Rul} {st:Nat} {G2:List Grp}:∀ {G1:List Grp},(∀g∈G1,Jag s g.1=false)→Ja1 (.string s) ((G1++(s,l,st)::G2).map e)=some (e (s,l,st)).2
 | [],_=> by
   show (bif Jc8 (.string s) (e (s,l,st)).1 then _ else _)=_
   rw [he]
   show (bif s.toList ==s.toList then _ else _)=_
   rw [beq_self_eq_true];rfl
 | g::G,h=> by
   have h0:(s.toList ==g.1.toList)=false:=h g (.head _)
   show (bif Jc8 (.string s) (e g).1 then _ else Ja1 (.string s) ((G++(s,l,st)::G2).map e))=_
   rw [he g]
   show (bif s.toList ==g.1.toList then _ else _)=_
   rw [h0]
   exact Ji0 he fun g' hg=> h g' (.tail _ hg)
theorem Jd1 {s:ByteArray} {v:AV}:∀ {G:List Grp},(∀g∈G,Jag s g.1=false)→JcB (.string s) v (G.map gE)=G.map gE++ [(.string s,v)]
 | [],_=> rfl
 | g::G,h=> by
   have h0:(s.toList ==g.1.toList)=false:=h g (.head _)
   show (bif s.toList ==g.1.toList then _ else gE g::JcB (.string s) v (G.map gE))=_
   rw [h0,Jd1 fun g' hg=> h g' (.tail _ hg)];rfl
theorem Jo4 {s:ByteArray} {v:AV} {l:List Rul} {st:Nat} {G2:List Grp}:∀ {G1:List Grp},(∀g∈G1,Jag s g.1=false)→JcB (.string s) v ((G1++(s,l,st)::G2).map gE)=G1.map gE++(.string s,v)::G2.map gE
 | [],_=> by
   show (bif s.toList ==s.toList then _ else _)=_
   rw [beq_self_eq_true];rfl
 | g::G,h=> by
   have h0:(s.toList ==g.1.toList)=false:=h g (.head _)
   show (bif s.toList ==g.1.toList then _ else gE g::JcB (.string s) v ((G++(s,l,st)::G2).map gE))=_
   rw [h0,Jo4 fun g' hg=> h g' (.tail _ hg)];rfl
theorem Jlz {s:ByteArray}:∀ {G:List Grp},(∀g∈G,Jag s g.1=false)→Ja3 (JbW G) s= []
 | [],_=> rfl
 | g::G,h=> by
   show (if Jag s g.1=true then _ else Ja3 (JbW G) s)=_
   rw [if_neg (by rw [h g (.head _)];decide)]
   exact Jlz fun g' hg=> h g' (.tail _ hg)
theorem JkH {s:ByteArray} {l:List Rul} {st:Nat} {G2:List Grp}:∀ {G1:List Grp},(∀g∈G1,Jag s g.1=false)→Ja3 (JbW (G1++(s,l,st)::G2)) s=l
 | [],_=> if_pos (JcK.2 rfl)
 | g::G,h=> by
   show (if Jag s g.1=true then _ else Ja3 (JbW (G++_)) s)=_
   rw [if_neg (by rw [h g (.head _)];decide)]
   exact JkH fun g' hg=> h g' (.tail _ hg)
theorem JlA {s:ByteArray} {n:Rul} {st:Nat}:∀ {G:List Grp},(∀g∈G,Jag s g.1=false)→Jc5 (JbW G) s n=JbW (G++ [(s, [n],st)])
 | [],_=> rfl
 | g::G,h=> by
   show (if Jag s g.1=true then _ else _::Jc5 (JbW G) s n)=_
   rw [if_neg (by rw [h g (.head _)];decide),JlA (st:=st) fun g' hg=> h g' (.tail _ hg)];rfl
theorem Jo5 {s:ByteArray} {n:Rul} {l:List Rul} {st st':Nat} {G2:List Grp}:∀ {G1:List Grp},(∀g∈G1,Jag s g.1=false)→Jc5 (JbW (G1++(s,l,st)::G2)) s n=JbW (G1++(s,l++ [n],st')::G2)
 | [],_=> if_pos (JcK.2 rfl)
 | g::G,h=> by
   show (if Jag s g.1=true then _ else _::Jc5 (JbW (G++(s,l,st)::G2)) s n)=_
   rw [if_neg (by rw [h g (.head _)];decide),Jo5 (st':=st') fun g' hg=> h g' (.tail _ hg)];rfl
theorem Jhs (s:ByteArray):∀(G:List Grp),(∀g∈G,Jag s g.1=false)∨∃G1 l st G2,G=G1++(s,l,st)::G2∧∀g∈G1,Jag s g.1=false
 | []=> .inl (by simp)
 | g::G=> by
   cases hk:Jag s g.1 with
   | true=>
     obtain ⟨t,l,st⟩:=g
     obtain rfl:s=t:=JcK.1 hk
     exact .inr ⟨[],l,st,G,rfl,by simp⟩
   | false=>
     rcases Jhs s G with h | ⟨G1,l,st,G2,rfl,h⟩
     ·exact .inl fun g' hg=> by rcases List.mem_cons.1 hg with rfl | hg;exact hk;exact h g' hg
     ·exact .inr ⟨g::G1,l,st,G2,rfl,fun g' hg=> by rcases List.mem_cons.1 hg with rfl | hg;exact hk;exact h g' hg⟩
theorem JjT {s:ByteArray} {l:List Rul} {st:Nat} {G2:List Grp}:∀ {G1:List Grp},((G1++(s,l,st)::G2).map (·.2.2)).Nodup→JaR st ((G1++(s,l,st)::G2).map gP)=some (st,l.length * 4)
 | [],_=> by
   show (bif Nat.beq st st then _ else _)=_
   rw [Nat.beq_refl];rfl
 | g::G,h=> by
   simp only [List.cons_append,List.map_cons,List.nodup_cons] at h
   have h0:Nat.beq g.2.2 st=false:=by
    cases hb:Nat.beq g.2.2 st with
    | false=> rfl
    | true=> exact absurd (by simp [Nat.eq_of_beq_eq_true hb]) h.1
   show (bif Nat.beq g.2.2 st then _ else JaR st ((G++(s,l,st)::G2).map gP))=_
   rw [h0]
   exact JjT h.2
theorem Jht {s:ByteArray} {l:List Rul} {st:Nat} {G2:List Grp}:∀ {G1:List Grp},((G1++(s,l,st)::G2).map (·.2.2)).Nodup→Jbm st ((G1++(s,l,st)::G2).map gP)=(G1++G2).map gP
 | [],_=> by
   show (bif Nat.beq st st then _ else _)=_
   rw [Nat.beq_refl];rfl
 | g::G,h=> by
   simp only [List.cons_append,List.map_cons,List.nodup_cons] at h
   have h0:Nat.beq g.2.2 st=false:=by
    cases hb:Nat.beq g.2.2 st with
    | false=> rfl
    | true=> exact absurd (by simp [Nat.eq_of_beq_eq_true hb]) h.1
   show (bif Nat.beq g.2.2 st then _ else gP g::Jbm st ((G++(s,l,st)::G2).map gP))=_
   rw [h0,Jht h.2];rfl
theorem MpLe.appK16:∀ {a b c d:List (Value×AV)},MpLe a b→MpLe c d→MpLe (a++c) (b++d)
 | [], [],_,_,_,h=> h
 | _::_,_::_,_,_,h,k=> ⟨h.1,h.2.1,MpLe.appK16 h.2.2 k⟩
 | [],_::_,_,_,h,_=> h.elim
 | _::_, [],_,_,h,_=> h.elim
theorem JuJ {s:ByteArray} {n:Rul} {st:Nat} {v:AV} {G:List Grp} (h:∀g∈G,Jag s g.1=false) (hv:AVle v (.os 4 1 (JaV [n]) (some (st,st)))):OwnLe (.mp (JcB (.string s) v (G.map gE))) (.mp ((G++ [(s, [n],st)]).map gE)):=by
 rw [Jd1 h,List.map_append]
 exact MpLe.appK16 (MpLe.refl _) ⟨rfl,hv,trivial⟩
theorem Jwr {s:ByteArray} {l l':List Rul} {st st':Nat} {v:AV} {G1 G2:List Grp} (h:∀g∈G1,Jag s g.1=false) (hv:AVle v (.os 4 l'.length (JaV l') (some (st',st')))):OwnLe (.mp (JcB (.string s) v ((G1++(s,l,st)::G2).map gE))) (.mp ((G1++(s,l',st')::G2).map gE)):=by
 rw [Jo4 h,List.map_append]
 exact MpLe.appK16 (MpLe.refl _) ⟨rfl,hv,MpLe.refl _⟩
theorem Jr1:∀(G:List Grp),MpLe (G.map gE) (G.map gF)
 | []=> trivial
 | g::G=> ⟨rfl,AVle.os_sl,Jr1 G⟩
theorem JtB {P:Program} {c:Code} {E:Env} {Q:AExit→Env→Prop} (h:(E.h.pm.map (·.1.2)).Nodup→AW P c E Q):AW P c E Q:=by
 have h2:=h
 unfold AW at h2⊢
 intro ro X M w0 a w g g0 hg hs
 refine h2 ?_ ro X M w0 a w g g0 hg hs
 have:=hs.hok.nodup
 unfold Heap.ids at this
 rw [List.map_append] at this
 have h3:=(List.nodup_append.1 this).2.1
 have:((E.h.pm.map (·.1.2)).map (fun i=> g[i]?)).Nodup:=h3
 exact (List.pairwise_map.1 this).imp fun h e=> h (congrArg (fun i=> g[i]?) e)
theorem JlB {E:Env} {n:Nat} {bx:List (Vl.Id×Own)} {pm pm':List (Vl.Id×Nat)} {nx nn:Nat} {L:List (Nat×AV)} (bx':List (Vl.Id×Own)) (hn:E.n=n) (hx:E.h.nx=nx) (hb:bx'.Sublist E.h.bx) (hp:E.h.pm=pm') (hq:(pm.map (fun p=> (p.1.2,p.2))).Perm (pm'.map (fun p=> (p.1.2,p.2))))
 (eb:BxLe bx' bx) (hL:LeT E.t L):ELe E (mk n L ⟨bx,pm,nx,nn⟩ E.df):=by
 subst hp
 refine ELe.trans (Jq (bx:=bx) (pm:=E.h.pm) (nn:=nn) (L:=L) bx' E.h.pm hn hx hb Sf eb Pf hL) ?_
 exact Jen (E:=mk n L ⟨bx,E.h.pm,nx,nn⟩ E.df) (h':=⟨bx,pm,nx,nn⟩) ⟨.refl _,hq,rfl⟩
theorem Jo6 {L:List Rul} {c:Rul} {f':Nat→AV} {i j:Vl.Id} (hf:f' 0=Jaf c:=by rfl) (h:i.2=j.2:=by rfl):AVle (.os 4 (L.length+1) (Jcd L.length (JaV L) f') (some i)) (.os 4 (L++ [c]).length (JaV (L++ [c])) (some j)):=by
 rw [List.length_append]
 refine (AVle.os_fun (JbM (fun k hk=> ?_) ?_)).trans (AVle.os_nm h)
 ·simp [JaV,List.getD,List.getElem?_append_left hk,hk]
 ·rw [hf];simp [JaV,List.getD]
end Go.Proofs.W

namespace Go.Proofs.W
open Go.Vl
set_option maxRecDepth 100000
def Jdj (d:A2) (l:List Rul):List Rul:=(l.reverse.dropWhile fun r=> decide (r.act=d)).reverse
def JeY (H:List (ByteArray×List Rul)):List (List UInt8):=Jak Go.Sort.ltStr (H.map fun h=> h.1.data.toList)
def JgO (d:A2) (H:List (ByteArray×List Rul)) (N:List (List UInt8)):List Rul:=N.flatMap fun nm=> Jdj d (Ja3 H ⟨nm.toArray⟩)
def Jc (p:Pol):Pol:=⟨p.dflt,p.x32,JgO p.dflt (JaB p.rules) (JeY (JaB p.rules))⟩
def Jxh:Pol:=⟨(0,0),false, []⟩
def Jmi (p:Pol):AV:=if Jbi p then .tup [JbN (Jc p),int 0] else .tup [JbN Jxh,int 13]
theorem Jr2 {d:A2} {l:List Rul} {r:Rul}:Jdj d (l++ [r])=if r.act=d then Jdj d l else l++ [r]:=by
 unfold Jdj
 rw [List.reverse_append]
 show (List.dropWhile _ (r::l.reverse)).reverse=_
 by_cases h:r.act=d
 ·rw [List.dropWhile_cons,if_pos (by simpa using h),if_pos h]
 ·rw [List.dropWhile_cons,if_neg (by simpa using h),if_neg h];simp
theorem JlC {l:List Rul} {m:Nat} (h0:0 < m) (h:m≤l.length):l.take m=l.take (m - 1)++ [l.getD (m - 1) Jl]:=by
 obtain ⟨k,rfl⟩:∃k,m=k+1:=⟨m - 1,by omega⟩
 exact Jb2 Jl Om
def JdO:List AV:= [int 0,int 0,Jb false, .os 0 0 (fun _=> .any) none]
def Je7 (p:Pol):List AV:= [int p.dflt.1,int p.dflt.2,Jb p.x32,Ji p.rules]
theorem JbG {p:Pol} (h:Jbi p=true):p.rules.length≤500∧∀r∈p.rules,r.conds.length≤6:=by
 unfold Jbi at h
 simp only [Bool.and_eq_true,decide_eq_true_eq,Bool.not_eq_true',List.any_eq_false] at h
 refine ⟨h.2.1,fun r hr=> ?_⟩
 have:Jal r=true:=by have:=h.2.2 r hr;simpa using this
 unfold Jal at this
 simp only [Bool.and_eq_true,decide_eq_true_eq] at this
 exact this.2.2.1
theorem JcY {r n:Rul} (h:Jbk r=some n):n.conds.length≤r.conds.length∧n.name=r.name∧n.act=r.act:=by
 unfold Jbk at h
 split at h
 ·cases h
 ·cases h
  exact ⟨Nat.le_trans (Jqk _ _) (Jnv _),rfl,rfl⟩
theorem Jgm:JaY Tryz.prog 123=true:=by kernel_rfl
theorem gc_rul:Tryz.prog.cellsOf 123=4:=by kernel_rfl
theorem Jgn:Tryz.prog.bytesOf 123=56:=by kernel_rfl
theorem JuK {s:ByteArray} {l:List Rul} {n:Rul} {st st' nm:Nat} {G1 G2:List Grp} (hnd:((G1++(s,l,st)::G2).map (·.2.2)).Nodup):
 (((G1++(s,l++ [n],st')::G2).map gP).map (fun p=> (p.1.2,p.2))).Perm ((((nm,st'),(l.length+1) * Tryz.prog.cellsOf 123)::Jbm st ((G1++(s,l,st)::G2).map gP)).map (fun p=> (p.1.2,p.2))):=by
 rw [Jht hnd,gc_rul,List.map_append,List.map_cons,List.map_append,List.map_append,List.map_cons,List.map_cons,List.map_append]
 refine List.perm_middle.trans (.of_eq ?_)
 simp [gP]
theorem Jh4 (r:Rul):(Jaf r).cells.all JaW=true:=rfl
theorem Jh5 {R l:List Rul} {m:Nat} {i j:Vl.Id} (hm:m≤l.length) (h:i.2=j.2):AVle (.os 4 (R.length+m) (Jcd R.length (JaV R) (JaV l)) (some i)) (.os 4 (R++l.take m).length (JaV (R++l.take m)) (some j)):=by
 rw [List.length_append,List.length_take,Nat.min_eq_left hm]
 refine (AVle.os_fun (fun k hk=> ?_)).trans (AVle.os_nm h)
 unfold Jcd
 by_cases hk2:k < R.length
 ·rw [show Nat.blt k R.length=true from Nat.ble_eq_true_of_le hk2]
  simp [JaV,List.getD,List.getElem?_append_left hk2]
 ·rw [show Nat.blt k R.length=false from by cases hb:Nat.blt k R.length with | false=> rfl | true=> exact absurd (Nat.le_of_ble_eq_true hb) Om]
  simp only [JaV,List.getD,cond_false]
  rw [List.getElem?_append_right Om,List.getElem?_take,if_pos Om]
theorem JeZ {a b c d:List Rul} (h:a=b) (k:c=d):a++c=b++d:=by rw [h,k]
theorem Jb3 {a b:AV} {K:AV→Prop} (h:a=b) (hk:Jck b K):Jck a K:=h ▸ hk
set_option maxHeartbeats 8000000 in
theorem Jmc (p:Pol) (hp:p.ok):Tells Tryz.prog 45 [JbN p] (Jmi p):=by
 have hr:=Jiv p hp
 cases hb:Jbi p with
 | false=>
   rw [hb] at hr
   unfold Jmi
   rw [hb,if_neg Dc]
   refine Jg Tryz.func45 rfl rfl fun nx=> ?_
   refine stp ?_
   refine Jd rfl rfl hr ⟨Rf,trivial⟩ fun nx2=> ?_
   refine stp ?_
   exact Jj rfl ⟨rfl,trivial⟩ (AVle.tups (cs:= [_,_]) ⟨AVle.ags (cs:= [_,_,_,_]) ⟨Rf,Rf,Rf,AVle.os_sl0,trivial⟩,Rf,trivial⟩)
 | true=>
   rw [hb] at hr
   obtain ⟨hl,hc6⟩:=JbG hb
   unfold Jmi
   rw [hb,if_pos rfl]
   refine Jg Tryz.func45 rfl rfl fun nx=> ?_
   refine stp ?_
   refine Jd rfl rfl hr ⟨Rf,trivial⟩ fun nx2=> ?_
   refine stp ?_
   refine Jy (fun y:Nat×List Grp×Nat=> mk 94 [(1, .bp (0,nx) 0),(2, .bp (1,nx+1) 0),(4, .om (2,nx2)),(19,Ji p.rules),(20,int p.rules.length),(21,int y.1)] ⟨[((2,nx2), .mp (y.2.1.map gE)),((1,nx+1), .c JdO),((0,nx), .c (Je7 p))],y.2.1.map gP,y.2.2,3⟩)
    (fun y=> y.1≤p.rules.length∧JbW y.2.1=JaB (p.rules.take y.1)∧y.2.1.length≤y.1∧∀g∈y.2.1,g.2.1.length≤y.1∧∀r∈g.2.1,r.conds.length≤6) (fun y=> p.rules.length - y.1) ?_ ?_
   ·exact ⟨(0, [],nx2+1),⟨Nat.zero_le _,rfl,Nat.le_refl _,by simp⟩,Et rfl rfl Bf trivial ⟨Rf,Rf,Rf,Rf,Rf,Rf,trivial⟩⟩
   ·rintro ⟨i,G,nx3⟩ ⟨h1,h2,h3,h4⟩
    dsimp only at h1 h2 h3 h4
    refine stp ?_
    intro c g;cases c
    ·have g:=Ju g
     try dsimp only at g
     have hi:i=p.rules.length:=by omega
     subst hi
     rw [List.take_length] at h2
     refine JU ?_
     refine AW.le (E':=mk 94 [(1, .bp (0,nx) 0),(2, .bp (1,nx+1) 0),(4, .om (2,nx2))] ⟨[((2,nx2), .mp (G.map gF)),((1,nx+1), .c JdO),((0,nx), .c (Je7 p))], [],nx3,3⟩) (Jq _ [] rfl rfl Sf (List.nil_sublist _) ⟨rfl,Jr1 G,Bf⟩ trivial ⟨Rf,Rf,Rf,trivial⟩) ?_
     refine JbC (n:=94) (nx:=nx3) (nn:=3) (pm:= []) (bx:= [((1,nx+1), .c JdO),((0,nx), .c (Je7 p))]) (L:= [(1, .bp (0,nx) 0),(2, .bp (1,nx+1) 0),(4, .fm (G.map gF))]) (df:=some []) [((2,nx2), .mp (G.map gF))] rfl rfl rfl (.refl _) Sf ⟨Frz.refl _,Frz.refl _,Frz.om (.head _),trivial⟩ ?_
     have hzs:(G.map gF).map (·.1)=(G.map fun g:Grp=> g.1.data.toList).map encStr:=by
      rw [List.map_map,List.map_map];rfl
     have hsort:=Jma (G.map gF) (G.map fun g:Grp=> g.1.data.toList) hzs (by rw [List.length_map];omega)
     have hkeys:JeY (JaB p.rules)=Jak Go.Sort.ltStr (G.map fun g:Grp=> g.1.data.toList):=by
      rw [← h2];unfold JeY JbW;rw [List.map_map];rfl
     have hNl:(Jak Go.Sort.ltStr (G.map fun g:Grp=> g.1.data.toList)).length≤500:=by rw [Jbn,List.length_map];omega
     have hNm:∀z,z∈Jak Go.Sort.ltStr (G.map fun g:Grp=> g.1.data.toList)→∃g∈G,g.1.data.toList=z:=fun z hz=> by
      rw [JjA] at hz
      obtain ⟨g,hg,h⟩:=List.mem_map.1 hz
      exact ⟨g,hg,h⟩
     unfold Jc
     rw [hkeys,← h2]
     generalize Jak Go.Sort.ltStr (G.map fun g:Grp=> g.1.data.toList)=N at hsort hNl hNm⊢
     refine stp ?_
     intro c hc
     subst hc
     refine stp ?_
     refine Jd rfl rfl (JjP (G.map gF)) ⟨Rf,trivial⟩ fun nx4=> ?_
     refine stp ?_
     refine Jd rfl rfl hsort ⟨Rf,trivial⟩ fun nx5=> ?_
     refine stp ?_
     refine Jy (fun y:Nat×List Rul×Option Nat×Nat=> mk 94 [(1, .bp (0,nx) 0),(2, .bp (1,nx+1) 0),(4, .fm (G.map gF)),(9, .bp (3,nx3) 0),(58,JF 1 Jcq [] N),(59,int N.length),(60,int y.1)] ⟨[((3,nx3), .c [int p.dflt.1,int p.dflt.2,Jb p.x32, .os 4 y.2.1.length (JaV y.2.1) (nmd y.2.2.1)]),((1,nx+1), .c JdO),((0,nx), .c (Je7 p))],Jbo (nmd y.2.2.1) (y.2.1.length * 4),y.2.2.2,4⟩)
      (fun y=> y.1≤N.length∧(y.2.2.1=none→y.2.1= [])∧y.2.1=JgO p.dflt (JbW G) (N.take y.1)∧y.2.1.length≤y.1 * 500) (fun y=> N.length - y.1) ?_ ?_
     ·exact ⟨(0, [],none,nx5),⟨Nat.zero_le _,fun _=> rfl,rfl,Nat.zero_le _⟩,Et (pm:= []) (bx:= [((3,nx3), .c [int p.dflt.1,int p.dflt.2,Jb p.x32, .os 4 0 (JaV []) none]),((1,nx+1), .c JdO),((0,nx), .c (Je7 p))]) rfl rfl ⟨rfl,⟨Rf,Rf,Rf,AVle.os_nil,trivial⟩,Bf⟩ trivial ⟨Rf,Rf,Rf,Rf,Rf,Rf,Rf,trivial⟩⟩
     ·rintro ⟨j,R,oi,nx6⟩ ⟨k1,k2,k3,k4⟩
      dsimp only at k1 k2 k3 k4
      refine stp ?_
      intro c gg;cases c
      ·have gg:=Ju gg
       try dsimp only at gg
       have hj:j=N.length:=by omega
       subst hj
       rw [List.take_length] at k3
       rw [← k3]
       refine stp ?_
       exact Jj rfl ⟨rfl,trivial⟩ (AVle.tups (cs:= [_,_]) ⟨AVle.ags (cs:= [_,_,_,_]) ⟨Rf,Rf,Rf,AVle.os_sl,trivial⟩,Rf,trivial⟩)
      ·have gg:=Jv gg
       try dsimp only at gg
       have hj:j < N.length:=by omega
       have hNj:N.getD j []∈N:=by simp [List.getD,hj]
       rcases Jhs ⟨(N.getD j []).toArray⟩ G with hno | ⟨G1,l,st,G2,hG,hno⟩
       ·exfalso
        obtain ⟨g,hg,hge⟩:=hNm _ hNj
        have:=hno g hg
        rw [Bool.eq_false_iff] at this
        exact this (JcK.2 (by rw [← hge]))
       have hlk:=Ji0 (e:=gF) (fun _=> rfl) (l:=l) (st:=st) (G2:=G2) hno
       have hgl:=(h4 (⟨(N.getD j []).toArray⟩,l,st) (by rw [hG];simp)).1
       dsimp only at hgl
       have hgg:Ja3 (JbW G) ⟨(N.getD j []).toArray⟩=l:=by rw [hG];exact JkH hno
       have hout:JgO p.dflt (JbW G) (N.take (j+1))=JgO p.dflt (JbW G) (N.take j)++Jdj p.dflt l:=by
        unfold JgO
        rw [Jb2 [] hj,List.flatMap_append]
        simp only [List.flatMap_cons,List.flatMap_nil,List.append_nil]
        rw [hgg]
       rw [← hG] at hlk
       refine stp ?_
       refine ⟨Bd, ?_⟩
       refine Jbp ?_
       refine ⟨JvL G,JP (b:=Ji l) (congrArg (fun o:Option AV=> o.getD (.os 0 0 (fun _=> .any) none)) hlk) ?_⟩
       refine Jbp ?_
       refine Jy (fun y:Nat×Nat=> mk 94 [(1, .bp (0,nx) 0),(2, .bp (1,nx+1) 0),(4, .fm (G.map gF)),(9, .bp (3,nx3) 0),(58,JF 1 Jcq [] N),(59,int N.length),(60,int j),(12, .sl 4 y.1 (JaV l))] ⟨[((3,nx3), .c [int p.dflt.1,int p.dflt.2,Jb p.x32, .os 4 R.length (JaV R) (nmd oi)]),((1,nx+1), .c JdO),((0,nx), .c (Je7 p))],Jbo (nmd oi) (R.length * 4),nx6,4⟩)
        (fun y=> y.1≤l.length∧Jdj p.dflt l=Jdj p.dflt (l.take y.1)) (fun y=> y.1) ?_ ?_
       ·exact ⟨(l.length,0),⟨Nat.le_refl _,by rw [List.take_length]⟩,Et rfl rfl Bf Pf ⟨Rf,Rf,Rf,Rf,Rf,Rf,Rf,Rf,trivial⟩⟩
       ·rintro ⟨m,zz⟩ ⟨hml,hcut⟩
        dsimp only at hml hcut
        have hlm:(l.take m).length=m:=by rw [List.length_take];omega
        by_cases hm0:0 < m
        ·have hd:decide ((m:Int) > 0)=true:=decide_eq_true Om
         have hm1:IntKind.i64.wrap ((m:Int) - 1)=((m - 1:Nat):Int):=by rw [JaX Om Om];omega
         rw [JlC hm0 hml,Jr2] at hcut
         refine stp ?_
         (refine J1 15 ?_ ?_ ?_ ?_;(· kernel_rfl);(· kernel_rfl);(· kernel_rfl))
         refine stp ?_
         (conv=> whnf)
         refine JeS hd ?_
         refine stp ?_
         refine ⟨⟨Jc1 (i:=m - 1) hm1,Jdg (i:=m - 1) hm1 Om⟩,JP (b:= .rp (Jaf (l.getD (m - 1) Jl)).cells) (congrArg (fun z:Int=> AV.rp (JaV l z.toNat).cells) hm1) ?_⟩
         refine stp ?_
         intro c hc
         have hc2:c=decide ((l.getD (m - 1) Jl).act=p.dflt):=hc.trans Juz
         clear hc
         cases c
         ·have hne:¬(l.getD (m - 1) Jl).act=p.dflt:=of_decide_eq_false hc2.symm
          rw [if_neg hne,← JlC hm0 hml] at hcut
          have hct:=hcut
          clear hc2
          refine JU ?_
          refine JQ (fun i=> match i with | 0=> true | _=> false) 4 ?_
          refine stp ?_
          rcases oi with _ | o1
          ·obtain rfl:=k2 rfl
           refine AOp.any (Jcj (e:=123) (n:=0) (oi:=none) (sz:=4) (f:=JaV []) (m:=m) (szx:=4) (f':=JaV l) rfl rfl (.inl rfl) Tryz.underlying45 Jgm (.inl ⟨rfl,rfl⟩) (.inr gc_rul.symm) (fun i h=> by cases h) (fun k _=> Jh4 _) (fun _=> by rw [Jgn];omega) (fun _=> by omega) (fun hm=> ?_) (fun hm=> ?_))
           ·subst hm
            refine stp ?_
            exact back (j+1, [],none,nx6) ⟨hj,fun _=> rfl,by rw [hout];exact (List.append_nil _).symm.trans (JeZ k3 hct.symm),by dsimp only;omega⟩ Dm (Et rfl rfl Bf trivial ⟨Rf,Rf,Rf,Rf,Rf,Rf,Lw,trivial⟩)
           ·refine stp ?_
            exact back (j+1,l.take m,some nx6,nx6+1) ⟨hj,(fun h=> by cases h),by rw [hout];exact JeZ k3 hct.symm,by dsimp only;rw [hlm];omega⟩ Dm (Et (pm:= [((0,nx6),(l.take m).length * 4)]) (bx:= [((3,nx3), .c [int p.dflt.1,int p.dflt.2,Jb p.x32, .os 4 (l.take m).length (JaV (l.take m)) (some (0,nx6))]),((1,nx+1), .c JdO),((0,nx), .c (Je7 p))]) rfl rfl ⟨rfl,⟨Rf,Rf,Rf,Jh5 (R:= []) hml rfl,trivial⟩,Bf⟩ ⟨rfl,show (0+m) * Tryz.prog.cellsOf 123=(l.take m).length * 4 by rw [hlm,gc_rul,Nat.zero_add],trivial⟩ ⟨Rf,Rf,Rf,Rf,Rf,Rf,Lw,trivial⟩)
          ·refine AOp.any (Jcj (e:=123) (n:=R.length) (oi:=some (0,o1)) (sz:=4) (f:=JaV R) (m:=m) (szx:=4) (f':=JaV l) rfl rfl (.inl rfl) Tryz.underlying45 Jgm (.inr gc_rul.symm) (.inr gc_rul.symm) (fun i h=> by cases h;rw [gc_rul];rfl) (fun k _=> Jh4 _) (fun _=> by rw [Jgn];omega) (fun _=> by omega) (fun hm=> ?_) (fun hm=> ?_))
           ·subst hm
            refine stp ?_
            exact back (j+1,R,some o1,nx6) ⟨hj,(fun h=> by cases h),by rw [hout];exact (List.append_nil _).symm.trans (JeZ k3 hct.symm),by dsimp only;omega⟩ Dm (Et rfl rfl Bf Pf ⟨Rf,Rf,Rf,Rf,Rf,Rf,Lw,trivial⟩)
           ·refine stp ?_
            exact back (j+1,R++l.take m,some nx6,nx6+1) ⟨hj,(fun h=> by cases h),by rw [hout];exact JeZ k3 hct.symm,by dsimp only;rw [List.length_append,hlm];omega⟩ Dm (Et (pm:= [((0,nx6),(R++l.take m).length * 4)]) (bx:= [((3,nx3), .c [int p.dflt.1,int p.dflt.2,Jb p.x32, .os 4 (R++l.take m).length (JaV (R++l.take m)) (some (0,nx6))]),((1,nx+1), .c JdO),((0,nx), .c (Je7 p))]) rfl rfl ⟨rfl,⟨Rf,Rf,Rf,Jh5 hml rfl,trivial⟩,Bf⟩ ⟨rfl,by rw [List.length_append,hlm,gc_rul],trivial⟩ ⟨Rf,Rf,Rf,Rf,Rf,Rf,Lw,trivial⟩)
         ·have heq:(l.getD (m - 1) Jl).act=p.dflt:=of_decide_eq_true hc2.symm
          rw [if_pos heq] at hcut
          clear hc2
          refine stp ?_
          refine ⟨⟨Jc1 (i:=m - 1) hm1,Int.le_of_lt (Jdg (i:=m - 1) hm1 Om)⟩, ?_⟩
          refine stp ?_
          exact back (m - 1,0) ⟨by dsimp only;omega,hcut⟩ Dm (Et rfl rfl Bf Pf ⟨Rf,Rf,Rf,Rf,Rf,Rf,Rf,AVle.of_eq (congrArg (fun z:Int=> AV.sl 4 z.toNat (JaV l)) hm1),trivial⟩)
        ·have hd:decide ((m:Int) > 0)=false:=decide_eq_false Om
         have hm00:m=0:=by omega
         have hct:Jdj p.dflt l=l.take m:=by rw [hcut,hm00];rfl
         refine stp ?_
         (refine J1 15 ?_ ?_ ?_ ?_;(· kernel_rfl);(· kernel_rfl);(· kernel_rfl))
         refine stp ?_
         (conv=> whnf)
         refine JeS hd ?_
         refine JU ?_
         refine JQ (fun i=> match i with | 0=> true | _=> false) 4 ?_
         refine stp ?_
         rcases oi with _ | o1
         ·obtain rfl:=k2 rfl
          refine AOp.any (Jcj (e:=123) (n:=0) (oi:=none) (sz:=4) (f:=JaV []) (m:=m) (szx:=4) (f':=JaV l) rfl rfl (.inl rfl) Tryz.underlying45 Jgm (.inl ⟨rfl,rfl⟩) (.inr gc_rul.symm) (fun i h=> by cases h) (fun k _=> Jh4 _) (fun _=> by rw [Jgn];omega) (fun _=> by omega) (fun hm=> ?_) (fun hm=> ?_))
          ·subst hm
           refine stp ?_
           exact back (j+1, [],none,nx6) ⟨hj,fun _=> rfl,by rw [hout];exact (List.append_nil _).symm.trans (JeZ k3 hct.symm),by dsimp only;omega⟩ Dm (Et rfl rfl Bf trivial ⟨Rf,Rf,Rf,Rf,Rf,Rf,Lw,trivial⟩)
          ·refine stp ?_
           exact back (j+1,l.take m,some nx6,nx6+1) ⟨hj,(fun h=> by cases h),by rw [hout];exact JeZ k3 hct.symm,by dsimp only;rw [hlm];omega⟩ Dm (Et (pm:= [((0,nx6),(l.take m).length * 4)]) (bx:= [((3,nx3), .c [int p.dflt.1,int p.dflt.2,Jb p.x32, .os 4 (l.take m).length (JaV (l.take m)) (some (0,nx6))]),((1,nx+1), .c JdO),((0,nx), .c (Je7 p))]) rfl rfl ⟨rfl,⟨Rf,Rf,Rf,Jh5 (R:= []) hml rfl,trivial⟩,Bf⟩ ⟨rfl,show (0+m) * Tryz.prog.cellsOf 123=(l.take m).length * 4 by rw [hlm,gc_rul,Nat.zero_add],trivial⟩ ⟨Rf,Rf,Rf,Rf,Rf,Rf,Lw,trivial⟩)
         ·refine AOp.any (Jcj (e:=123) (n:=R.length) (oi:=some (0,o1)) (sz:=4) (f:=JaV R) (m:=m) (szx:=4) (f':=JaV l) rfl rfl (.inl rfl) Tryz.underlying45 Jgm (.inr gc_rul.symm) (.inr gc_rul.symm) (fun i h=> by cases h;rw [gc_rul];rfl) (fun k _=> Jh4 _) (fun _=> by rw [Jgn];omega) (fun _=> by omega) (fun hm=> ?_) (fun hm=> ?_))
          ·subst hm
           refine stp ?_
           exact back (j+1,R,some o1,nx6) ⟨hj,(fun h=> by cases h),by rw [hout];exact (List.append_nil _).symm.trans (JeZ k3 hct.symm),by dsimp only;omega⟩ Dm (Et rfl rfl Bf Pf ⟨Rf,Rf,Rf,Rf,Rf,Rf,Lw,trivial⟩)
          ·refine stp ?_
           exact back (j+1,R++l.take m,some nx6,nx6+1) ⟨hj,(fun h=> by cases h),by rw [hout];exact JeZ k3 hct.symm,by dsimp only;rw [List.length_append,hlm];omega⟩ Dm (Et (pm:= [((0,nx6),(R++l.take m).length * 4)]) (bx:= [((3,nx3), .c [int p.dflt.1,int p.dflt.2,Jb p.x32, .os 4 (R++l.take m).length (JaV (R++l.take m)) (some (0,nx6))]),((1,nx+1), .c JdO),((0,nx), .c (Je7 p))]) rfl rfl ⟨rfl,⟨Rf,Rf,Rf,Jh5 hml rfl,trivial⟩,Bf⟩ ⟨rfl,by rw [List.length_append,hlm,gc_rul],trivial⟩ ⟨Rf,Rf,Rf,Rf,Rf,Rf,Lw,trivial⟩)
    ·have g:=Jv g
     try dsimp only at g
     have hi:i < p.rules.length:=by omega
     have hmem:p.rules.getD i Jl∈p.rules:=by simp [List.getD,hi]
     have hrs:=Joz (p.rules.getD i Jl) (hp.2 _ hmem).2.2 (by have:=hc6 _ hmem;omega)
     have hgn:=Jmb hi
     have hnl:=hc6 _ hmem
     rw [← h2] at hgn
     refine JtB fun hnd=> ?_
     have hnd:(G.map (·.2.2)).Nodup:=by
      have:((G.map gP).map (·.1.2)).Nodup:=hnd
      rwa [List.map_map] at this
     refine stp ?_
     refine ⟨Bd, ?_⟩
     refine stp ?_
     cases hN:Jbk (p.rules.getD i Jl) with
     | none=>
       rw [hN] at hrs
       have hgn:JaB (p.rules.take (i+1))=JbW G:=by rw [hgn];unfold JcR;rw [hN]
       refine Jd rfl rfl hrs ⟨Rf,trivial⟩ fun nx4=> ?_
       refine stp ?_
       exact back (i+1,G,nx4+1) ⟨hi,hgn.symm,by dsimp only;omega,fun g hg=> ⟨by have:=(h4 g hg).1;dsimp only;omega,(h4 g hg).2⟩⟩ Dm (Jq _ _ rfl rfl (.cons _ (.cons _ Sf)) Sf Bf Pf ⟨Rf,Rf,Rf,Rf,Rf,Lw,trivial⟩)
     | some n=>
       rw [hN] at hrs
       obtain ⟨hn1,hn2,hn3⟩:=JcY hN
       rcases Jhs (p.rules.getD i Jl).name G with hno | ⟨G1,l,st,G2,hG,hno⟩
       ·have hgn:JaB (p.rules.take (i+1))=Jc5 (JbW G) (p.rules.getD i Jl).name n:=by
         rw [hgn];unfold JcR;rw [hN]
         dsimp only
         rw [Jlz hno];rfl
        have hlk:=JjS (e:=gE) (fun _=> rfl) hno
        have hhd:=Jiz [] n Dc (by simp)
        refine Jd rfl rfl hrs ⟨Rf,trivial⟩ fun nx4=> ?_
        refine Jbp ?_
        refine ⟨⟨rfl,Jgl G⟩,JP (b:= .os 0 0 (fun _=> .any) none) (congrArg (fun o:Option AV=> o.getD (.os 0 0 (fun _=> .any) none)) hlk) ?_⟩
        refine Jbp ?_
        refine JP (b:=Jaf n) rfl ?_
        refine Jbp ?_
        refine Jd rfl rfl hhd ⟨AVle.os_sl0,Rf,trivial⟩ fun nx5=> ?_
        intro c hc
        have hc2:c=false:=hc
        clear hc;subst hc2
        refine Jbp ?_
        refine J6 10 _ (fun i=> match i with | 9=> true | _=> false) (fun i=> match i with | 6=> true | _=> false) [0,1,2,3,4,5,6,7,8,9] (by kernel_rfl) (by kernel_rfl) (HB.refl _) ?_
        refine Jbp ?_
        refine ⟨JeC (Ja1 (.string (p.rules.getD i Jl).name) (G.map gE)) (.os 0 0 (fun _=> .any) none) false,Jec rfl (C:=some (nx2=nx2∧JaP .string (G.map gE)=true)) rfl ⟨rfl,Jgl G⟩,Jb3 (b:= .os 0 0 (fun _=> .any) none) (congrArg (fun o:Option AV=> o.getD (.os 0 0 (fun _=> .any) none)) hlk) ?_⟩
        refine Jbp ?_
        refine Jb3 (b:=Jaf n) rfl ?_
        refine Jbp ?_
        refine ⟨_,Jjq (e:=123) (n:=0) (oi:=none) (sz:=0) (f:=fun _=> .any) (m:=1) (szx:=4) (HB.refl _) rfl rfl rfl (.inr ⟨_,rfl⟩) Tryz.underlying45 Jgm (.inl ⟨rfl,rfl⟩) (.inr gc_rul.symm) (fun i h=> by cases h) (Jz rfl) (fun _=> by rw [Jgn];omega) (fun _=> by omega),fun r h' hr=> ?_⟩
        rcases hr with ⟨hr,-⟩ | ⟨-,rfl,rfl⟩
        ·exact absurd hr Dc
        refine Jbp ?_
        refine ⟨⟨rfl,Jgl G⟩, ?_⟩
        refine Jbp ?_
        refine Jea ?_
        refine Jbp ?_
        exact back (i+1,G++ [((p.rules.getD i Jl).name, [n],nx5)],nx5+1) ⟨hi,(hgn.trans (JlA hno)).symm,by simp;omega,fun g hg=> by
         rcases List.mem_append.1 hg with hg | hg
         ·exact ⟨by have:=(h4 g hg).1;dsimp only;omega,(h4 g hg).2⟩
         ·rw [List.mem_singleton.1 hg]
          exact ⟨by simp, fun r hr => by rw [List.mem_singleton.1 hr]; omega⟩⟩ Dm (JlB (bx := [((2, nx2), .mp ((G ++ [((p.rules.getD i Jl).name, [n], nx5)]).map gE)), ((1, nx + 1), .c JdO), ((0, nx), .c (Je7 p))]) _ rfl rfl (.cons _ (.cons _ Sf)) rfl (by rw [List.map_append]; exact (List.perm_append_singleton _ _).map _ |>.trans (.of_eq (by rw [gc_rul]; rfl))) ⟨rfl, JuJ hno (Jo6 (L := [])), Bf⟩ ⟨Rf, Rf, Rf, Rf, Rf, Lw, trivial⟩)
       ·subst hG
        have hlk:=Ji0 (e:=gE) (fun _=> rfl) (l:=l) (st:=st) (G2:=G2) hno
        have hgl:=h4 ((p.rules.getD i Jl).name,l,st) (by simp)
        dsimp only at hgl
        have hhd:=Jiz l n Om (fun r hr=> by have:=hgl.2 r hr;omega)
        have hgg:Ja3 (JbW (G1++((p.rules.getD i Jl).name,l,st)::G2)) (p.rules.getD i Jl).name=l:=JkH hno
        unfold JcR at hgn
        rw [hN] at hgn
        dsimp only at hgn
        rw [hgg] at hgn
        refine Jd rfl rfl hrs ⟨Rf,trivial⟩ fun nx4=> ?_
        refine Jbp ?_
        refine ⟨⟨rfl,Jgl _⟩,JP (b:= .os 4 l.length (JaV l) (some (st,st))) (congrArg (fun o:Option AV=> o.getD (.os 0 0 (fun _=> .any) none)) hlk) ?_⟩
        refine Jbp ?_
        refine JP (b:=Jaf n) rfl ?_
        refine Jbp ?_
        refine Jd rfl rfl hhd ⟨AVle.os_sl,Rf,trivial⟩ fun nx5=> ?_
        intro c hh;cases c
        ·have hh:JfI l n=false:=hh.symm
         rw [hh,if_neg Dc] at hgn
         refine Jbp ?_
         refine J6 10 _ (fun i=> match i with | 9=> true | _=> false) (fun i=> match i with | 6=> true | _=> false) [0,1,2,3,4,5,6,7,8,9] (by kernel_rfl) (by kernel_rfl) (HB.refl _) ?_
         refine Jbp ?_
         refine ⟨JeC (Ja1 (.string (p.rules.getD i Jl).name) ((G1++((p.rules.getD i Jl).name,l,st)::G2).map gE)) (.os 0 0 (fun _=> .any) none) false,Jec rfl (C:=some (nx2=nx2∧JaP .string ((G1++((p.rules.getD i Jl).name,l,st)::G2).map gE)=true)) rfl ⟨rfl,Jgl _⟩,Jb3 (b:= .os 4 l.length (JaV l) (some (st,st))) (congrArg (fun o:Option AV=> o.getD (.os 0 0 (fun _=> .any) none)) hlk) ?_⟩
         refine Jbp ?_
         refine Jb3 (b:=Jaf n) rfl ?_
         refine Jbp ?_
         refine ⟨_,Jjq (e:=123) (n:=l.length) (oi:=some (st,st)) (sz:=4) (f:=JaV l) (m:=1) (szx:=4) (HB.refl _) rfl rfl rfl (.inr ⟨_,rfl⟩) Tryz.underlying45 Jgm (.inr gc_rul.symm) (.inr gc_rul.symm) (fun i h=> by cases h;rw [gc_rul];exact JjT hnd) (Jz rfl) (fun _=> by rw [Jgn];omega) (fun _=> by omega),fun r h' hr=> ?_⟩
         rcases hr with ⟨hr,-⟩ | ⟨-,rfl,rfl⟩
         ·exact absurd hr Dc
         refine Jbp ?_
         refine ⟨⟨rfl,Jgl _⟩, ?_⟩
         refine Jbp ?_
         refine Jea ?_
         refine Jbp ?_
         exact back (i+1,G1++((p.rules.getD i Jl).name,l++ [n],nx5)::G2,nx5+1) ⟨hi,(hgn.trans (Jo5 hno)).symm,by simp at h3⊢;omega,fun g hg=> by
          rcases List.mem_append.1 hg with hg | hg
          ·have:=h4 g (List.mem_append_left _ hg);exact ⟨by have:=this.1;dsimp only;omega,this.2⟩
          ·rcases List.mem_cons.1 hg with rfl | hg
           ·exact ⟨by simp;omega,fun r hr=> by
             rcases List.mem_append.1 hr with hr | hr
             ·exact hgl.2 r hr
             ·rw [List.mem_singleton.1 hr];omega⟩
           ·have:=h4 g (List.mem_append_right _ (.tail _ hg));exact ⟨by have:=this.1;dsimp only;omega,this.2⟩⟩ Dm (JlB (bx:= [((2,nx2), .mp ((G1++((p.rules.getD i Jl).name,l++ [n],nx5)::G2).map gE)),((1,nx+1), .c JdO),((0,nx), .c (Je7 p))]) _ rfl rfl (.cons _ (.cons _ Sf)) rfl (JuK hnd) ⟨rfl,Jwr hno Jo6,Bf⟩ ⟨Rf,Rf,Rf,Rf,Rf,Lw,trivial⟩)
        ·have hh:JfI l n=true:=hh.symm
         rw [hh,if_pos rfl] at hgn
         refine Jbp ?_
         exact back (i+1,G1++((p.rules.getD i Jl).name,l,st)::G2,nx5) ⟨hi,hgn.symm,by dsimp only;omega,fun g hg=> ⟨by have:=(h4 g hg).1;dsimp only;omega,(h4 g hg).2⟩⟩ Dm (Jq _ _ rfl rfl (.cons _ (.cons _ Sf)) Sf Bf Pf ⟨Rf,Rf,Rf,Rf,Rf,Lw,trivial⟩)
end Go.Proofs.W

namespace Go.Proofs.W
open Go.Vl
set_option maxRecDepth 100000
theorem JtC {c:Cnd} (ho:c.ok):(JaA c).1.ok:=by
 obtain ⟨o1,o2⟩:=ho
 unfold JaA Jbs Ja8 JbI JdN isC asC cnd0 Cnd.ok
 repeat' split
 all_goals (refine ⟨?_, ?_⟩ <;> dsimp only <;> omega)
end Go.Proofs.W

namespace Go.Proofs.W
open Go.Vl
set_option maxRecDepth 100000
theorem JlD {α:Type} {R:α→α→Prop} (hi:∀x,¬R x x) (ht:∀x y z,R x y→R y z→R x z):∀ {l l':List α},l.Pairwise R→l'.Pairwise R→(∀x,x∈l↔x∈l')→l=l'
 | [], [],_,_,_=> rfl
 | [],y::l',_,_,h=> absurd ((h y).2 (.head _)) (by simp)
 | x::l, [],_,_,h=> absurd ((h x).1 (.head _)) (by simp)
 | x::l,y::l',h1,h2,h=> by
   rw [List.pairwise_cons] at h1 h2
   have hxy:x=y:=by
    rcases List.mem_cons.1 ((h x).1 (.head _)) with e | e
    ·exact e
    ·rcases List.mem_cons.1 ((h y).2 (.head _)) with e' | e'
     ·exact e'.symm
     ·exact absurd (ht _ _ _ (h1.1 _ e') (h2.1 _ e)) (hi x)
   subst hxy
   have hnx:∀ {m:List α},(∀z∈m,R x z)→x∉m:=fun hm hx=> hi x (hm x hx)
   rw [JlD hi ht h1.2 h2.2 fun z=> ?_]
   constructor
   ·intro hz
    rcases List.mem_cons.1 ((h z).1 (.tail _ hz)) with e | e
    ·subst e;exact absurd hz (hnx h1.1)
    ·exact e
   ·intro hz
    rcases List.mem_cons.1 ((h z).2 (.tail _ hz)) with e | e
    ·subst e;exact absurd hz (hnx h2.1)
    ·exact e
def RC (a b:Cnd):Prop:=ltC a b=true
theorem JvM (x:Cnd):¬RC x x:=by unfold RC;rw [swo_ltC.irrefl];decide
theorem Jws (x y z:Cnd) (h:RC x y) (k:RC y z):RC x z:=swo_ltC.trans x y z h k
theorem Jo7 {d:Array Cnd}:∀ {m:Nat},m≤d.size→(∀i j,i < j→j < m→ltC d[j]! d[i]! =false)→(cU d m).Pairwise RC∧∀x,x∈cU d m↔∃j,j < m∧d[j]! =x
 | 0,_,_=> ⟨List.Pairwise.nil,fun x=> by simp [cU]⟩
 | m+1,hm,hs=> by
   obtain ⟨h1,h2⟩:=Jo7 (m:=m) Om fun i j a b=> hs i j a Om
   by_cases hc:m=0∨d[m]! ≠d[m - 1]!
   ·rw [cU,if_pos hc]
    refine ⟨?_,fun x=> ?_⟩
    ·rw [List.pairwise_append]
     refine ⟨h1,List.pairwise_singleton _ _,fun a ha b hb=> ?_⟩
     rw [List.mem_singleton] at hb
     subst hb
     obtain ⟨j,hj,rfl⟩:=(h2 a).1 ha
     cases hlt:ltC d[j]! d[m]! with
     | true=> exact hlt
     | false=>
       exfalso
       have h3:=hs (m - 1) m Om Om
       have h4:ltC d[m - 1]! d[m]! =false:=by
        rcases Nat.lt_or_ge j (m - 1) with q | q
        ·exact swo_ltC.ntrans _ _ _ (hs j (m - 1) q Om) hlt
        ·rw [show m - 1=j by omega];exact hlt
       rcases hc with hc | hc
       ·omega
       ·exact hc (JuH h3 h4)
    ·rw [List.mem_append,h2,List.mem_singleton]
     constructor
     ·rintro (⟨j,hj,rfl⟩ | rfl)
      ·exact ⟨j,by omega,rfl⟩
      ·exact ⟨m,by omega,rfl⟩
     ·rintro ⟨j,hj,rfl⟩
      rcases Nat.lt_or_ge j m with q | q
      ·exact .inl ⟨j,q,rfl⟩
      ·exact .inr (by rw [show j=m by omega])
   ·rw [cU,if_neg hc]
    refine ⟨h1,fun x=> ?_⟩
    rw [h2]
    constructor
    ·rintro ⟨j,hj,rfl⟩;exact ⟨j,by omega,rfl⟩
    ·rintro ⟨j,hj,rfl⟩
     rcases Nat.lt_or_ge j m with q | q
     ·exact ⟨j,q,rfl⟩
     ·have hj':j=m:=by omega
      subst hj'
      have:j≠0:=fun h=> hc (.inl h)
      exact ⟨j - 1,by omega,by by_cases he:d[j]! =d[j - 1]!;exact he.symm;exact absurd (.inr he) hc⟩
theorem Jdk (L:List Cnd):(Jc4 L).Pairwise RC∧∀x,x∈Jc4 L↔x∈L:=by
 have h:=Go.Sort.insertionSort_holds (lt:=ltC) swo_ltC L.toArray 0 L.length (Nat.zero_le _) (by simp)
 have hsz:(Go.Sort.insertionSort ltC L.toArray 0 L.length).size=L.length:=by have:=h.1.1;simpa using this
 obtain ⟨h1,h2⟩:=Jo7 (d:=Go.Sort.insertionSort ltC L.toArray 0 L.length) (m:=L.length) Om fun i j a b=> h.2 i j (Nat.zero_le _) a b
 refine ⟨h1,fun x=> (h2 x).trans ?_⟩
 have hp:=h.1.2.2.mem_iff (a:=x)
 clear h h1 h2
 generalize Go.Sort.insertionSort ltC L.toArray 0 L.length=d at hsz hp⊢
 have e1:(d.extract 0 L.length).toList=d.toList:=by rw [← hsz];simp
 have e2:(L.toArray.extract 0 L.length).toList=L:=by simp
 rw [e1,e2] at hp
 rw [← hp,List.mem_iff_getElem]
 constructor
 ·rintro ⟨j,hj,rfl⟩
  have hj':j < d.size:=by omega
  exact ⟨j,by simpa using hj',by simp [hj']⟩
 ·rintro ⟨j,hj,rfl⟩
  have hj':j < d.size:=by simpa using hj
  exact ⟨j,by omega,by simp [hj']⟩
theorem JuL {L L':List Cnd} (h:∀x,x∈L↔x∈L'):Jc4 L=Jc4 L':=
 JlD JvM Jws (Jdk L).1 (Jdk L').1 fun x=> ((Jdk L).2 x).trans ((h x).trans ((Jdk L').2 x).symm)
theorem Jr3 (L:List Cnd):Jc4 (Jc4 L)=Jc4 L:=JuL fun x=> (Jdk L).2 x
theorem Jdl {arg:Int} {op:Int} {v:Nat} (h0:0≤arg) (h5:arg≤5) (h1:1≤op) (h7:op≤7):Jad ⟨arg,op,0,v⟩=true:=Jco.2 ⟨h0,h5,h1,h7, .inr rfl⟩
theorem JkI {arg:Int} {v:Nat} (h0:0≤arg) (h5:arg≤5):JaA ⟨arg,1,0,v⟩=(⟨arg,1,0,v⟩,0):=by
 unfold JaA;rw [if_pos (Jdl h0 h5 Dc Dc)];simp [Jbs]
theorem JuM {arg:Int} {v:Nat} (h0:0≤arg) (h5:arg≤5) (hv:¬v=0) (hv1:¬v=1):JaA ⟨arg,3,0,v⟩=(⟨arg,3,0,v⟩,0):=by
 unfold JaA;rw [if_pos (Jdl h0 h5 Dc Dc)];simp [Jbs,Ja8,hv,hv1,asC]
theorem JuN {arg:Int} {v:Nat} (h0:0≤arg) (h5:arg≤5) (hv:¬v=0) (hv1:¬v=18446744073709551615):JaA ⟨arg,6,0,v⟩=(⟨arg,6,0,v⟩,0):=by
 unfold JaA;rw [if_pos (Jdl h0 h5 Dc Dc)];simp [Jbs,JbI,hv,hv1,asC]
theorem JiA {c:Cnd} {v:Nat} (h0:0≤c.arg) (h5:c.arg≤5) (h:(Ja8 c v).2=0):Jad (Ja8 c v).1=true∧JaA (Ja8 c v).1=((Ja8 c v).1,0):=by
 unfold Ja8 at h⊢
 by_cases e0:v=0
 ·rw [if_pos e0] at h;simp [isC] at h
 ·rw [if_neg e0] at h⊢
  by_cases e1:v=1
  ·rw [if_pos e1];exact ⟨Jdl h0 h5 Dc Dc,JkI h0 h5⟩
  ·rw [if_neg e1];exact ⟨Jdl h0 h5 Dc Dc,JuM h0 h5 e0 e1⟩
theorem JjU {c:Cnd} {v:Nat} (h0:0≤c.arg) (h5:c.arg≤5) (h:(JbI c v).2=0):Jad (JbI c v).1=true∧JaA (JbI c v).1=((JbI c v).1,0):=by
 unfold JbI at h⊢
 by_cases e0:v=0
 ·rw [if_pos e0] at h;simp [isC] at h
 ·rw [if_neg e0] at h⊢
  by_cases e1:v=18446744073709551615
  ·rw [if_pos e1];exact ⟨Jdl h0 h5 Dc Dc,JkI h0 h5⟩
  ·rw [if_neg e1];exact ⟨Jdl h0 h5 Dc Dc,JuN h0 h5 e0 e1⟩
theorem JoB {c:Cnd} (h:(JaA c).2=0):Jad (JaA c).1=true∧JaA (JaA c).1=((JaA c).1,0):=by
 have hr:Jad c=true:=by
  cases hr:Jad c with
  | true=> rfl
  | false=>
    unfold JaA at h
    rw [hr,if_neg Dc] at h
    simp [isC] at h
 have hrc:=Jco.1 hr
 have e:JaA c=Jbs c:=if_pos hr
 by_cases e3:c.op=3
 ·have e2:Jbs c=Ja8 c c.value:=if_pos e3
  rw [e,e2] at h⊢;exact JiA hrc.1 hrc.2.1 h
 by_cases e6:c.op=6
 ·have e2:Jbs c=JbI c c.value:=by unfold Jbs;rw [if_neg e3,if_pos e6]
  rw [e,e2] at h⊢;exact JjU hrc.1 hrc.2.1 h
 by_cases e7:c.op=7
 ·have e2:Jbs c=JdN c:=by unfold Jbs;rw [if_neg e3,if_neg e6,if_pos e7]
  rw [e,e2] at h⊢
  unfold JdN at h⊢
  by_cases b0:Jku c.value c.mask≠0
  ·rw [if_pos b0] at h;simp [isC] at h
  ·rw [if_neg b0] at h⊢
   by_cases b1:c.mask=0
   ·rw [if_pos b1] at h;simp [isC] at h
   ·rw [if_neg b1] at h⊢
    by_cases b2:c.mask=18446744073709551615
    ·rw [if_pos b2];exact ⟨Jdl hrc.1 hrc.2.1 Dc Dc,JkI hrc.1 hrc.2.1⟩
    ·rw [if_neg b2]
     refine ⟨hr, ?_⟩
     rw [e,e2];unfold JdN;rw [if_neg b0,if_neg b1,if_neg b2]
 by_cases e4:c.op=4
 ·by_cases v:c.value=18446744073709551615
  ·have e2:Jbs c=isC true:=by unfold Jbs;rw [if_neg e3,if_neg e6,if_neg e7,if_pos e4,if_pos v]
   rw [e,e2] at h;simp [isC] at h
  ·have e2:Jbs c=Ja8 c (c.value+1):=by unfold Jbs;rw [if_neg e3,if_neg e6,if_neg e7,if_pos e4,if_neg v]
   rw [e,e2] at h⊢;exact JiA hrc.1 hrc.2.1 h
 by_cases e5:c.op=5
 ·by_cases v:c.value=18446744073709551615
  ·have e2:Jbs c=isC false:=by unfold Jbs;rw [if_neg e3,if_neg e6,if_neg e7,if_neg e4,if_pos e5,if_pos v]
   rw [e,e2] at h;simp [isC] at h
  ·have e2:Jbs c=JbI c (c.value+1):=by unfold Jbs;rw [if_neg e3,if_neg e6,if_neg e7,if_neg e4,if_pos e5,if_neg v]
   rw [e,e2] at h⊢;exact JjU hrc.1 hrc.2.1 h
 have e2:Jbs c=(c,0):=by unfold Jbs;rw [if_neg e3,if_neg e6,if_neg e7,if_neg e4,if_neg e5]
 rw [e,e2]
 exact ⟨hr,e.trans e2⟩
theorem Jqn {cs:List Cnd} {x:Cnd} (h:x∈JbF cs):Jad x=true∧JcW x=false∧JgN x=some x:=by
 unfold JbF at h
 obtain ⟨c,hc,hx⟩:=List.mem_filterMap.1 h
 unfold JgN at hx
 split at hx
 ·rename_i h0
  cases hx
  obtain ⟨h1,h2⟩:=JoB h0
  refine ⟨h1, ?_, ?_⟩
  ·unfold JcW;rw [h2];rfl
  ·unfold JgN;rw [h2];rfl
 ·cases hx
theorem JiB {r n:Rul} (h:Jbk r=some n):Jbk n=some n∧(Jal r=true→Jal n=true)∧((∀c∈r.conds,c.ok)→∀c∈n.conds,c.ok):=by
 have hc:=JcY h
 unfold Jbk at h
 split at h
 ·cases h
 ·cases h
  have hm:∀x,x∈Jc4 (JbF r.conds)→Jad x=true∧JcW x=false∧JgN x=some x:=fun x hx=> Jqn (((Jdk _).2 x).1 hx)
  refine ⟨?_,fun hr=> ?_,fun ho x hx=> ?_⟩
  ·unfold Jbk
   dsimp only
   have e1:(Jc4 (JbF r.conds)).any JcW=false:=by
    rw [List.any_eq_false]
    intro x hx;rw [(hm x hx).2.1];decide
   have e2:JbF (Jc4 (JbF r.conds))=Jc4 (JbF r.conds):=by
    generalize Jc4 (JbF r.conds)=l at hm
    unfold JbF
    induction l with
    | nil=> rfl
    | cons x l ih=>
      rw [List.filterMap_cons,(hm x (.head _)).2.2]
      dsimp only
      rw [ih fun y hy=> hm y (.tail _ hy)]
   rw [e1,e2,Jr3];rfl
  ·unfold Jal at hr⊢
   simp only [Bool.and_eq_true,decide_eq_true_eq] at hr⊢
   refine ⟨hr.1,hr.2.1,Nat.le_trans hc.1 hr.2.2.1, ?_⟩
   rw [Bool.not_eq_true',List.any_eq_false]
   intro x hx;rw [(hm x hx).1];decide
  ·have hx2:=((Jdk _).2 x).1 hx
   unfold JbF at hx2
   obtain ⟨c,hc,hy⟩:=List.mem_filterMap.1 hx2
   unfold JgN at hy
   split at hy
   ·cases hy;exact JtC (ho c hc)
   ·cases hy
end Go.Proofs.W

namespace Go.Proofs.W
open Go.Vl
set_option maxRecDepth 100000
def Jf8 (l:List Rul) (r:Rul):List Rul:=
 match Jbk r with
 | none=> l
 | some n=> if JfI l n then l else l++ [n]
def gOf (s:ByteArray) (rs:List Rul):List Rul:=rs.foldl (fun l r=> if Jag s r.name then Jf8 l r else l) []
theorem JlE (s:ByteArray):Jag s s=true:=JcK.2 rfl
theorem Jhu {s t:ByteArray} {n:Rul}:∀ {H:List (ByteArray×List Rul)},Ja3 (Jc5 H t n) s=if Jag s t then Ja3 H s++ [n] else Ja3 H s
 | []=> by
   show (if Jag s t=true then [n] else [])=_
   by_cases h:Jag s t=true
   ·rw [if_pos h,if_pos h];rfl
   ·rw [if_neg h,if_neg h];rfl
 | h::H=> by
   unfold Jc5
   by_cases ht:Jag t h.1=true
   ·rw [if_pos ht]
    obtain rfl:=JcK.1 ht
    show (if Jag s h.1=true then _ else Ja3 H s)=_
    by_cases hs:Jag s h.1=true
    ·rw [if_pos hs,if_pos hs];show _=(if Jag s h.1=true then _ else _)++_;rw [if_pos hs]
    ·rw [if_neg hs,if_neg hs];show _=(if Jag s h.1=true then _ else _);rw [if_neg hs]
   ·rw [if_neg ht]
    show (if Jag s h.1=true then h.2 else Ja3 (Jc5 H t n) s)=if Jag s t=true then (if Jag s h.1=true then h.2 else Ja3 H s)++ [n] else (if Jag s h.1=true then h.2 else Ja3 H s)
    by_cases hs:Jag s h.1=true
    ·rw [if_pos hs,if_pos hs]
     have:¬Jag s t=true:=fun k=> ht (by rw [← JcK.1 k];exact hs)
     rw [if_neg this]
    ·rw [if_neg hs,if_neg hs,Jhu]
theorem Jqo {s:ByteArray} {H:List (ByteArray×List Rul)} {r:Rul}:Ja3 (JcR H r) s=if Jag s r.name then Jf8 (Ja3 H s) r else Ja3 H s:=by
 unfold JcR Jf8
 cases hN:Jbk r with
 | none=> simp
 | some n=>
   dsimp only
   by_cases hs:Jag s r.name=true
   ·obtain rfl:=JcK.1 hs
    rw [if_pos hs]
    by_cases hh:JfI (Ja3 H r.name) n=true
    ·rw [if_pos hh,if_pos hh]
    ·rw [if_neg hh,if_neg hh,Jhu,if_pos hs]
   ·rw [if_neg hs]
    by_cases hh:JfI (Ja3 H r.name) n=true
    ·rw [if_pos hh]
    ·rw [if_neg hh,Jhu,if_neg hs]
theorem JlF {s:ByteArray}:∀(rs:List Rul) (H:List (ByteArray×List Rul)),Ja3 (rs.foldl JcR H) s=rs.foldl (fun l r=> if Jag s r.name then Jf8 l r else l) (Ja3 H s)
 | [],_=> rfl
 | r::rs,H=> by
   rw [List.foldl_cons,JlF rs,List.foldl_cons,Jqo]
theorem JiC (s:ByteArray) (rs:List Rul):Ja3 (JaB rs) s=gOf s rs:=JlF rs []
theorem JlG {t:ByteArray} {n:Rul}:∀ {H:List (ByteArray×List Rul)} {s:ByteArray},s∈(Jc5 H t n).map (·.1)↔s=t∨s∈H.map (·.1)
 | [],s=> by simp [Jc5]
 | h::H,s=> by
   unfold Jc5
   by_cases ht:Jag t h.1=true
   ·rw [if_pos ht]
    obtain rfl:=JcK.1 ht
    simp
   ·rw [if_neg ht,List.map_cons,List.mem_cons,JlG,List.map_cons,List.mem_cons]
    constructor
    ·rintro (h | h | h)
     ·exact .inr (.inl h)
     ·exact .inl h
     ·exact .inr (.inr h)
    ·rintro (h | h | h)
     ·exact .inr (.inl h)
     ·exact .inl h
     ·exact .inr (.inr h)
theorem JjV {t:ByteArray} {n:Rul}:∀ {H:List (ByteArray×List Rul)},(H.map (·.1)).Nodup→((Jc5 H t n).map (·.1)).Nodup
 | [],_=> by simp [Jc5]
 | h::H,hn=> by
   unfold Jc5
   by_cases ht:Jag t h.1=true
   ·rw [if_pos ht];exact hn
   ·rw [if_neg ht]
    rw [List.map_cons,List.nodup_cons] at hn⊢
    refine ⟨fun hm=> ?_,JjV hn.2⟩
    rcases JlG.1 hm with e | e
    ·exact ht (by rw [← e];exact JlE _)
    ·exact hn.1 e
theorem JoC {H:List (ByteArray×List Rul)} {r:Rul} (h:(H.map (·.1)).Nodup):((JcR H r).map (·.1)).Nodup:=by
 unfold JcR
 cases Jbk r with
 | none=> exact h
 | some n=>
   dsimp only
   split
   ·exact h
   ·exact JjV h
theorem Jhv (rs:List Rul):((JaB rs).map (·.1)).Nodup:=by
 have key:∀(rs:List Rul) (H:List (ByteArray×List Rul)),(H.map (·.1)).Nodup→((rs.foldl JcR H).map (·.1)).Nodup:=by
  intro rs
  induction rs with
  | nil=> intro H h;exact h
  | cons r rs ih=> intro H h;exact ih _ (JoC h)
 exact key rs [] List.nodup_nil
def RS (a b:List UInt8):Prop:=Go.Sort.ltStr a b=true
theorem JvN (x:List UInt8):¬RS x x:=by unfold RS;rw [Go.Sort.swo_ltStr.irrefl];decide
theorem Jwt (x y z:List UInt8) (h:RS x y) (k:RS y z):RS x z:=Go.Sort.swo_ltStr.trans x y z h k
theorem Jnz {s t:ByteArray} (h:s.data.toList=t.data.toList):s=t:=by
 obtain ⟨⟨a⟩⟩:=s;obtain ⟨⟨b⟩⟩:=t;simpa using h
theorem JoD {H:List (ByteArray×List Rul)} (hn:(H.map (·.1)).Nodup):(JeY H).Pairwise RS:=by
 have h1:=JeJ Go.Sort.swo_ltStr (H.map fun h=> h.1.data.toList)
 have h2:(JeY H).Nodup:=by
  refine (List.mergeSort_perm _ _).nodup_iff.2 ?_
  have:(H.map fun h=> h.1.data.toList)=(H.map (·.1)).map (fun s:ByteArray=> s.data.toList):=by rw [List.map_map];rfl
  rw [this]
  exact List.pairwise_map.2 (hn.imp fun h e=> h (Jnz e))
 refine (h1.and h2).imp fun {a b} h=> ?_
 unfold RS
 cases hl:Go.Sort.ltStr a b with
 | true=> rfl
 | false=> exact absurd (Jhr _ _ hl h.1) h.2
theorem Jqp (s:ByteArray) (rs:List Rul):gOf s rs=(rs.filter fun r=> Jag s r.name).foldl Jf8 []:=by
 unfold gOf
 have key:∀(rs:List Rul) (l:List Rul),rs.foldl (fun l r=> if Jag s r.name then Jf8 l r else l) l=(rs.filter fun r=> Jag s r.name).foldl Jf8 l:=by
  intro rs
  induction rs with
  | nil=> intro l;rfl
  | cons r rs ih=>
    intro l
    rw [List.foldl_cons,ih,List.filter_cons]
    by_cases h:Jag s r.name=true
    ·rw [if_pos h,if_pos h];rfl
    ·rw [if_neg h,if_neg h]
 exact key rs []
theorem JjW (d:A2) (l:List Rul):∃t,l=Jdj d l++t:=by
 unfold Jdj
 refine ⟨(l.reverse.takeWhile fun r=> decide (r.act=d)).reverse, ?_⟩
 rw [← List.reverse_append,List.takeWhile_append_dropWhile,List.reverse_reverse]
theorem JuO (d:A2) (l:List Rul):(Jdj d l).length≤l.length:=by
 obtain ⟨t,h⟩:=JjW d l
 have:=congrArg List.length h
 rw [List.length_append] at this
 omega
theorem JtD {l:List Rul} {r n:Rul} (h:n∈Jf8 l r):n∈l∨Jbk r=some n:=by
 unfold Jf8 at h
 cases hN:Jbk r with
 | none=> rw [hN] at h;exact .inl h
 | some m=>
   rw [hN] at h
   dsimp only at h
   split at h
   ·exact .inl h
   ·rcases List.mem_append.1 h with h | h
    ·exact .inl h
    ·rw [List.mem_singleton.1 h];exact .inr rfl
theorem JnA:∀(rs l:List Rul) {n:Rul},n∈rs.foldl Jf8 l→n∈l∨∃r∈rs,Jbk r=some n
 | [],_,_,h=> .inl h
 | r::rs,l,n,h=> by
   rcases JnA rs _ h with h | ⟨x,hx,h⟩
   ·rcases JtD h with h | h
    ·exact .inl h
    ·exact .inr ⟨r, .head _,h⟩
   ·exact .inr ⟨x, .tail _ hx,h⟩
theorem Jo8 {s:ByteArray} {rs:List Rul} {n:Rul} (h:n∈gOf s rs):n.name=s∧∃r∈rs,Jbk r=some n:=by
 rw [Jqp] at h
 rcases JnA _ _ h with h | ⟨r,hr,h⟩
 ·cases h
 ·obtain ⟨h1,h2⟩:=List.mem_filter.1 hr
  exact ⟨(JcY h).2.1.trans (JcK.1 h2).symm,r,h1,h⟩
theorem JnB {d:A2} {l:List Rul} {x:Rul} (h:x∈Jdj d l):x∈l:=by
 obtain ⟨t,ht⟩:=JjW d l
 rw [ht];exact List.mem_append_left _ h
theorem Jo9 {d:A2} {rs:List Rul} {N:List (List UInt8)} {n:Rul} (h:n∈JgO d (JaB rs) N):∃r∈rs,Jbk r=some n:=by
 unfold JgO at h
 obtain ⟨z,hz,h⟩:=List.mem_flatMap.1 h
 have:=JnB h
 rw [JiC] at this
 exact (Jo8 this).2
def JfJ (H:List (ByteArray×List Rul)):Nat:=(H.map fun h=> h.2.length).sum
theorem JnC {t:ByteArray} {n:Rul}:∀H:List (ByteArray×List Rul),JfJ (Jc5 H t n)=JfJ H+1
 | []=> rfl
 | h::H=> by
   unfold Jc5
   by_cases ht:Jag t h.1=true
   ·rw [if_pos ht];unfold JfJ;simp;omega
   ·rw [if_neg ht]
    have:=JnC (t:=t) (n:=n) H
    unfold JfJ at this⊢
    rw [List.map_cons,List.sum_cons,this,List.map_cons,List.sum_cons];omega
theorem Jr4 {H:List (ByteArray×List Rul)} {r:Rul}:JfJ (JcR H r)≤JfJ H+1:=by
 unfold JcR
 cases Jbk r with
 | none=> exact Nat.le_succ _
 | some n=>
   dsimp only
   split
   ·exact Nat.le_succ _
   ·rw [JnC];exact Nat.le_refl _
theorem Jqq (rs:List Rul):JfJ (JaB rs)≤rs.length:=by
 have key:∀(rs:List Rul) (H:List (ByteArray×List Rul)),JfJ (rs.foldl JcR H)≤JfJ H+rs.length:=by
  intro rs
  induction rs with
  | nil=> intro H;exact Nat.le_refl _
  | cons r rs ih=>
    intro H
    have h1:=ih (JcR H r)
    have h2:=Jr4 (H:=H) (r:=r)
    rw [List.foldl_cons,List.length_cons];omega
 have:=key rs []
 rw [show JfJ []=0 from rfl,Nat.zero_add] at this
 exact this
theorem JnD:∀ {H:List (ByteArray×List Rul)},(H.map (·.1)).Nodup→∀h∈H,Ja3 H h.1=h.2
 | [],_,_,hm=> by cases hm
 | g::H,hn,h,hm=> by
   rw [List.map_cons,List.nodup_cons] at hn
   rcases List.mem_cons.1 hm with rfl | hm
   ·exact if_pos (JlE _)
   ·have:¬Jag h.1 g.1=true:=fun hk=> hn.1 (by rw [← JcK.1 hk];exact List.mem_map_of_mem hm)
    show (if Jag h.1 g.1=true then g.2 else Ja3 H h.1)=_
    rw [if_neg this];exact JnD hn.2 h hm
theorem JuP (d:A2) (rs:List Rul):(JgO d (JaB rs) (JeY (JaB rs))).length≤rs.length:=by
 refine Nat.le_trans ?_ (Jqq rs)
 have hn:=Jhv rs
 generalize JaB rs=H at hn
 unfold JgO
 have hp:(JeY H).Perm (H.map fun h=> h.1.data.toList):=List.mergeSort_perm _ _
 rw [List.length_flatMap,(hp.map _).sum_nat,List.map_map]
 unfold JfJ
 have e:∀h∈H,((fun a:List UInt8=> (Jdj d (Ja3 H ⟨a.toArray⟩)).length)∘fun h:ByteArray×List Rul=> h.1.data.toList) h≤h.2.length:=fun h hh=> by
  show (Jdj d (Ja3 H ⟨h.1.data.toList.toArray⟩)).length≤_
  have es:(⟨h.1.data.toList.toArray⟩:ByteArray)=h.1:=by obtain ⟨⟨⟨a⟩⟩,b⟩:=h;rfl
  rw [es,JnD hn h hh]
  exact JuO d h.2
 clear hp hn
 generalize (fun a:List UInt8=> (Jdj d (Ja3 H ⟨a.toArray⟩)).length)∘(fun h:ByteArray×List Rul=> h.1.data.toList)=f at e
 induction H with
 | nil=> simp
 | cons h H ih=>
   rw [List.map_cons,List.sum_cons,List.map_cons,List.sum_cons]
   have h1:=e h (.head _)
   have h2:=ih fun x hx=> e x (.tail _ hx)
   omega
theorem Jqr {p:Pol} (h:Jbi p=true):Jbi (Jc p)=true:=by
 unfold Jbi at h⊢
 simp only [Bool.and_eq_true,decide_eq_true_eq,Bool.not_eq_true',List.any_eq_false] at h⊢
 have hl:=JuP p.dflt p.rules
 refine ⟨h.1,Nat.le_trans hl h.2.1,fun n hn=> ?_⟩
 obtain ⟨r,hr,hN⟩:=Jo9 hn
 have h2:=h.2.2 r hr
 have:Jal r=true:=by simpa using h2
 rw [(JiB hN).2.1 this];decide
end Go.Proofs.W

namespace Go.Proofs.W
open Go.Vl
set_option maxRecDepth 100000
def nmL (s:ByteArray):List UInt8:=s.data.toList
def Jh6 (r:Rul):List (ByteArray×List Rul)→List (ByteArray×List Rul)
 | (s,L)::t=> if kS s r.name then (s,r::L)::t else (r.name, [r])::(s,L)::t
 | []=> [(r.name, [r])]
def JK (l:List Rul):List (ByteArray×List Rul):=l.foldr Jh6 []
def Jr5 (l:List Rul):Prop:=l.Pairwise fun a b=> Go.Sort.ltStr (nmL b.name) (nmL a.name)=false
structure GOk (l:List Rul) (gs:List (ByteArray×List Rul)):Prop where
 up:gs.Pairwise fun a b=> Go.Sort.ltStr (nmL a.1) (nmL b.1)=true
 rows:∀g∈gs,g.2=l.filter (fun r=> kS r.name g.1)∧g.2≠ []
 all:∀r∈l,∃g∈gs,g.1=r.name
theorem JlH (s t:ByteArray):kS s t=kS t s:=by
 rw [Bool.eq_iff_iff,Jbh,Jbh]
 exact ⟨Eq.symm,Eq.symm⟩
theorem JgP (s:List UInt8):Go.Sort.ltStr s s=false:=Go.Sort.swo_ltStr.irrefl s
theorem Jwu {s t:ByteArray} (h:Go.Sort.ltStr (nmL t) (nmL s)=false) (hne:s≠t):Go.Sort.ltStr (nmL s) (nmL t)=true:=by
 cases hl:Go.Sort.ltStr (nmL s) (nmL t) with
 | true=> rfl
 | false=> exact absurd (Jnz (JrB _ _ hl h)) hne
theorem Je0:∀ {l:List Rul},Jr5 l→GOk l (JK l)
 | [],_=> ⟨List.Pairwise.nil,fun g hg=> (by cases hg),fun r hr=> (by cases hr)⟩
 | r::l,h=> by
   obtain ⟨h1,h2⟩:=List.pairwise_cons.1 h
   have ih:=Je0 h2
   unfold JK at ih⊢
   rw [List.foldr_cons]
   generalize l.foldr Jh6 []=gs at ih
   have hrow:∀g∈gs,g.1≠r.name→g.2=(r::l).filter (fun q=> kS q.name g.1)∧g.2≠ []:=fun g hg hne=> by
    obtain ⟨k1,k2⟩:=ih.rows g hg
    refine ⟨?_,k2⟩
    rw [List.filter_cons,if_neg (by rw [JlH];exact fun e=> hne (Jbh.1 e))]
    exact k1
   have hge:∀g∈gs,Go.Sort.ltStr (nmL g.1) (nmL r.name)=false:=fun g hg=> by
    obtain ⟨k1,k2⟩:=ih.rows g hg
    obtain ⟨q,hq⟩:=List.exists_mem_of_ne_nil _ k2
    rw [k1] at hq
    obtain ⟨q1,q2⟩:=List.mem_filter.1 hq
    rw [← Jbh.1 q2]
    exact h1 q q1
   cases gs with
   | nil=>
     have hl:l= []:=List.eq_nil_iff_forall_not_mem.2 fun q hq=> by obtain ⟨g,hg,_⟩:=ih.all q hq;cases hg
     subst hl
     refine ⟨List.pairwise_singleton _ _,fun g hg=> ?_,fun q hq=> ?_⟩
     ·rw [List.mem_singleton.1 hg]
      refine ⟨?_,List.cons_ne_nil _ _⟩
      rw [List.filter_cons,if_pos (Jbh.2 rfl)]
      rfl
     ·exact ⟨_, .head _,by rw [List.mem_singleton.1 hq]⟩
   | cons g t=>
     obtain ⟨s,L⟩:=g
     show GOk (r::l) (if kS s r.name then (s,r::L)::t else (r.name, [r])::(s,L)::t)
     obtain ⟨u1,u2⟩:=List.pairwise_cons.1 ih.up
     by_cases hs:kS s r.name=true
     ·rw [if_pos hs]
      have es:s=r.name:=Jbh.1 hs
      refine ⟨List.pairwise_cons.2 ⟨u1,u2⟩,fun g hg=> ?_,fun q hq=> ?_⟩
      ·rcases List.mem_cons.1 hg with rfl | hg
       ·refine ⟨?_,List.cons_ne_nil _ _⟩
        have:=(ih.rows (s,L) (.head _)).1
        rw [List.filter_cons,if_pos (by rw [JlH];exact hs)]
        exact congrArg _ this
       ·refine hrow g (.tail _ hg) fun e=> ?_
        have:=u1 g hg
        rw [e,← es,JgP] at this
        cases this
      ·rcases List.mem_cons.1 hq with rfl | hq
       ·exact ⟨_, .head _,es⟩
       ·obtain ⟨g,hg,e⟩:=ih.all q hq
        rcases List.mem_cons.1 hg with rfl | hg
        ·exact ⟨_, .head _,e⟩
        ·exact ⟨g, .tail _ hg,e⟩
     ·rw [if_neg hs]
      have hne:s≠r.name:=fun e=> hs (Jbh.2 e)
      have hlt:∀g∈(s,L)::t,Go.Sort.ltStr (nmL r.name) (nmL g.1)=true:=fun g hg=> by
       have hs0:=Jwu (hge (s,L) (.head _)) hne.symm
       rcases List.mem_cons.1 hg with rfl | hg
       ·exact hs0
       ·exact Go.Sort.swo_ltStr.trans _ _ _ hs0 (u1 g hg)
      have hno:∀g∈(s,L)::t,g.1≠r.name:=fun g hg e=> by
       have:=hlt g hg
       rw [e,JgP] at this
       cases this
      refine ⟨List.pairwise_cons.2 ⟨hlt,ih.up⟩,fun g hg=> ?_,fun q hq=> ?_⟩
      ·rcases List.mem_cons.1 hg with rfl | hg
       ·refine ⟨?_,List.cons_ne_nil _ _⟩
        rw [List.filter_cons,if_pos (Jbh.2 rfl)]
        refine congrArg _ (List.filter_eq_nil_iff.2 fun q hq e=> ?_).symm
        obtain ⟨g,hg,e2⟩:=ih.all q hq
        exact hno g hg (e2.trans (Jbh.1 e))
       ·exact hrow g hg (hno g hg)
      ·rcases List.mem_cons.1 hq with rfl | hq
       ·exact ⟨_, .head _,rfl⟩
       ·obtain ⟨g,hg,e⟩:=ih.all q hq
        exact ⟨g, .tail _ hg,e⟩
end Go.Proofs.W

namespace Go.Proofs.W
open Go.Vl
set_option maxRecDepth 100000
def J0 (r:Rul):PRul:=⟨r.conds,Jr r.act⟩
theorem JoE (m:Rul) (M:List Rul):∃L t,JK (m::M)=(m.name,L)::t:=by
 show ∃L t,Jh6 m (JK M)=(m.name,L)::t
 cases JK M with
 | nil=> exact ⟨_,_,rfl⟩
 | cons g t=>
   obtain ⟨s,L⟩:=g
   show ∃L' t',(if kS s m.name then (s,m::L)::t else (m.name, [m])::(s,L)::t)=(m.name,L')::t'
   by_cases h:kS s m.name=true
   ·rw [if_pos h,Jbh.1 h];exact ⟨_,_,rfl⟩
   ·rw [if_neg h];exact ⟨_,_,rfl⟩
def JtE (s:ByteArray) (M:List Rul):Prop:=∀m∈M.head?,m.name≠s
theorem JjX {s:ByteArray} {M:List Rul} (hM:JtE s M):∀ {L:List Rul},L≠ []→(∀r∈L,r.name=s)→JK (L++M)=(s,L)::JK M
 | [],h,_=> absurd rfl h
 | [r],_,h=> by
   show Jh6 r (JK M)=_
   have hr:=h r (.head _)
   cases M with
   | nil=> rw [← hr];rfl
   | cons m M=>
     obtain ⟨L,t,e⟩:=JoE m M
     rw [e]
     show (if kS m.name r.name then _ else _)=_
     rw [if_neg (fun k=> hM m (by simp) ((Jbh.1 k).trans hr)),hr]
 | r::q::L,_,h=> by
   have ih:=JjX hM (L:=q::L) (by simp) fun x hx=> h x (.tail _ hx)
   show Jh6 r (JK (q::L++M))=_
   rw [ih]
   show (if kS s r.name then _ else _)=_
   rw [if_pos (Jbh.2 (h r (.head _)).symm)]
def Jam (a:Nat) (n:Int):Nat:=if a=1 then n.toNat||| 1073741824 else n.toNat
def Jaa (a d:Nat) (x:Bool) (row:TRow) (rs:List PRul):List PEnt:=
 if row.num a < 0∨(a=1∧x=false)∨Jas a rs d= [] then [] else [⟨Jam a (row.num a),Jas a rs d⟩]
def Jca (m:Nat) (row:TRow) (rs:List PRul):List PSub:=if row.mux=(m:Int)+1 then [⟨row.sub.toNat,(rs.getD 0 ⟨[],0⟩).code⟩] else []
def JaK (p:Pol) (l:List TRow) (gs:List (ByteArray×List Rul)) (a:Nat):List PEnt:=gs.flatMap fun g=> Jaa a (Jr p.dflt) p.x32 (Jat l g.1) (g.2.map J0)
def JcS (l:List TRow) (gs:List (ByteArray×List Rul)) (m:Nat):List PSub:=gs.flatMap fun g=> Jca m (Jat l g.1) (g.2.map J0)
theorem Jqs (p:Pol) (l:List TRow) (gs:List (ByteArray×List Rul)) (g:ByteArray×List Rul) (a:Nat):JaK p l (gs++ [g]) a=JaK p l gs a++Jaa a (Jr p.dflt) p.x32 (Jat l g.1) (g.2.map J0):=by
 unfold JaK;rw [List.flatMap_append];simp
theorem Jqt (l:List TRow) (gs:List (ByteArray×List Rul)) (g:ByteArray×List Rul) (m:Nat):JcS l (gs++ [g]) m=JcS l gs m++Jca m (Jat l g.1) (g.2.map J0):=by
 unfold JcS;rw [List.flatMap_append];simp
def JbJ (s:ByteArray) (l:List Rul):List Rul:=l.takeWhile fun r=> kS r.name s
theorem JlI (s:ByteArray):∀(l:List Rul),∀r∈JbJ s l,r.name=s
 | [],r,hr=> by cases hr
 | q::l,r,hr=> by
   unfold JbJ at hr
   rw [List.takeWhile_cons] at hr
   by_cases h:kS q.name s=true
   ·rw [if_pos h] at hr
    rcases List.mem_cons.1 hr with rfl | hr
    ·exact Jbh.1 h
    ·exact JlI s l r hr
   ·rw [if_neg h] at hr;cases hr
theorem JtF (s:ByteArray) (l:List Rul):JtE s (l.drop (JbJ s l).length):=by
 unfold JbJ JtE
 induction l with
 | nil=> intro m hm;simp at hm
 | cons r l ih=>
   rw [List.takeWhile_cons]
   by_cases h:kS r.name s=true
   ·rw [if_pos h];simpa using ih
   ·rw [if_neg h]
    intro m hm
    obtain rfl:r=m:=by simpa using hm
    exact fun e=> h (Jbh.2 e)
end Go.Proofs.W

namespace Go.Proofs.W
open Go.Vl
set_option maxRecDepth 100000
theorem Jf9 {α:Type} {key:α→Nat}:∀ {l m:List α},l.Perm m→l.Pairwise (fun a b=> key a≤key b)→m.Pairwise (fun a b=> key a≤key b)→(l.map key).Nodup→l=m
 | [],m,hp,_,_,_=> (List.nil_perm.1 hp).symm
 | a::l, [],hp,_,_,_=> by cases hp.length_eq
 | a::l,b::m,hp,h1,h2,hn=> by
   obtain ⟨a1,a2⟩:=List.pairwise_cons.1 h1
   obtain ⟨b1,b2⟩:=List.pairwise_cons.1 h2
   have hb:b∈a::l:=hp.mem_iff.2 (.head _)
   have ha:a∈b::m:=hp.mem_iff.1 (.head _)
   have e:a=b:=by
    rcases List.mem_cons.1 hb with h | h
    ·exact h.symm
    ·rcases List.mem_cons.1 ha with k | k
     ·exact k
     ·have:=a1 b h
      have:=b1 a k
      have hk:key a=key b:=by omega
      rw [List.map_cons,List.nodup_cons] at hn
      exact absurd (hk ▸ List.mem_map_of_mem h) hn.1
   subst e
   rw [Jf9 ((List.perm_cons a).1 hp) a2 b2 (List.nodup_cons.1 hn).2]
def Jdw (l:List PEnt):List PEnt:=l.mergeSort fun a b=> decide (a.num≤b.num)
def Jh7 (l:List PSub):List PSub:=l.mergeSort fun a b=> decide (a.num≤b.num)
theorem Jfk (l:List PEnt):(Jdw l).Perm l:=List.mergeSort_perm _ _
theorem Jqu (l:List PSub):(Jh7 l).Perm l:=List.mergeSort_perm _ _
theorem JnE (l:List PEnt):(Jdw l).Pairwise fun a b=> a.num≤b.num:=
 (List.pairwise_mergeSort (le:=fun a b:PEnt=> decide (a.num≤b.num)) (fun a b c h1 h2=> decide_eq_true (Nat.le_trans (of_decide_eq_true h1) (of_decide_eq_true h2))) (fun a b=> by simpa using Nat.le_total a.num b.num) l).imp fun h=> of_decide_eq_true h
theorem JtG (l:List PSub):(Jh7 l).Pairwise fun a b=> a.num≤b.num:=
 (List.pairwise_mergeSort (le:=fun a b:PSub=> decide (a.num≤b.num)) (fun a b c h1 h2=> decide_eq_true (Nat.le_trans (of_decide_eq_true h1) (of_decide_eq_true h2))) (fun a b=> by simpa using Nat.le_total a.num b.num) l).imp fun h=> of_decide_eq_true h
theorem Jpa {l:List TRow} (h:(JbO l).2=0) {a i j:Nat} (ha:a < 5) (hi:i < l.length) (hj:j < l.length) (h0:0≤(l.getD i Jh).num a) (e:(l.getD j Jh).num a=(l.getD i Jh).num a):i=j:=by
 have key:∀i j,i < l.length→j < i→0≤(l.getD i Jh).num a→(l.getD j Jh).num a=(l.getD i Jh).num a→False:=fun i j hi hji h0 e=> by
  have hc:=(JfH ((Jef h).2 i hi)).2.2.2.2.2
  unfold JcJ at hc
  rw [List.any_eq_false] at hc
  have:=hc (l.getD j Jh) (by
   rw [show l.getD j Jh=(l.take i)[j]'(by rw [List.length_take];omega) by simp [List.getD,show j < l.length by omega]]
   exact List.getElem_mem _)
  apply this
  rw [Bool.or_eq_true]
  left
  unfold Jgj
  refine List.any_eq_true.2 ⟨a, ?_, ?_⟩
  ·rcases (by omega:a=0∨a=1∨a=2∨a=3∨a=4) with rfl | rfl | rfl | rfl | rfl <;> simp
  ·rw [decide_eq_true h0,decide_eq_true e];rfl
 rcases Nat.lt_trichotomy i j with q | q | q
 ·exact (key j i hj q (by rw [e];exact h0) e.symm).elim
 ·exact q
 ·exact (key i j hi q h0 e).elim
theorem JuQ {l:List TRow} (h:(JbO l).2=0) {i j:Nat} (hi:i < l.length) (hj:j < l.length) (h0:0 < (l.getD i Jh).mux) (e:(l.getD j Jh).mux=(l.getD i Jh).mux) (e2:(l.getD j Jh).sub=(l.getD i Jh).sub):i=j:=by
 have key:∀i j,i < l.length→j < i→0 < (l.getD i Jh).mux→(l.getD j Jh).mux=(l.getD i Jh).mux→(l.getD j Jh).sub=(l.getD i Jh).sub→False:=fun i j hi hji h0 e e2=> by
  have hc:=(JfH ((Jef h).2 i hi)).2.2.2.2.2
  unfold JcJ at hc
  rw [List.any_eq_false] at hc
  have:=hc (l.getD j Jh) (by
   rw [show l.getD j Jh=(l.take i)[j]'(by rw [List.length_take];omega) by simp [List.getD,show j < l.length by omega]]
   exact List.getElem_mem _)
  apply this
  rw [Bool.or_eq_true]
  right
  unfold Jhp
  rw [decide_eq_true h0,decide_eq_true e,decide_eq_true e2];rfl
 rcases Nat.lt_trichotomy i j with q | q | q
 ·exact (key j i hj q (by rw [e];exact h0) e.symm e2.symm).elim
 ·exact q
 ·exact (key i j hi q h0 e e2).elim
end Go.Proofs.W

namespace Go.Proofs.W
open Go.Vl
set_option maxRecDepth 100000
theorem Jeg {a:Nat} {z:Int} (h0:0≤z) (h1:z < 1073741824):Jam a z=if a=1 then z.toNat+1073741824 else z.toNat:=by
 unfold Jam
 split
 ·have h:z.toNat < 2 ^ 30:=by omega
  have:=Nat.two_pow_add_eq_or_of_lt h 1
  rw [Nat.mul_one] at this
  rw [Nat.or_comm,show (1073741824:Nat)=2 ^ 30 by decide,← this];omega
 ·rfl
theorem Jd4 {l:List TRow} (h:(JbO l).2=0) {i a:Nat} (hi:i < l.length):(l.getD i Jh).num a < 1073741824∧-1≤(l.getD i Jh).num a:=by
 have:=(JfH ((Jef h).2 i hi)).2.2.1
 generalize l.getD i Jh=r at this
 unfold Je6 at this
 rw [List.any_eq_false] at this
 have hb:∀n∈ [r.a0,r.a1,r.a2,r.a3,r.a4],n < 1073741824∧-1≤n:=fun n hn=> by
  have:=this n hn
  unfold JdU at this
  simp only [Bool.or_eq_true,decide_eq_true_eq,not_or] at this
  omega
 match a with
 | 0=> exact hb r.a0 (by simp)
 | 1=> exact hb r.a1 (by simp)
 | 2=> exact hb r.a2 (by simp)
 | 3=> exact hb r.a3 (by simp)
 | a+4=> exact hb r.a4 (by simp)
theorem JkJ {l:List TRow} (h:(JbO l).2=0) {i:Nat} (hi:i < l.length):((l.getD i Jh).mux=0∨(l.getD i Jh).mux=1∨(l.getD i Jh).mux=2)∧0≤(l.getD i Jh).sub∧(l.getD i Jh).sub≤255:=by
 have:=(JfH ((Jef h).2 i hi)).2.2.2.1
 unfold JfG at this
 simp only [Bool.or_eq_false_iff,Bool.and_eq_false_iff,decide_eq_false_iff_not] at this
 omega
def JnF (l:List TRow) (s:ByteArray):Prop:=∃i,i < l.length∧Jat l s=l.getD i Jh∧(l.getD i Jh).name=s
theorem Jhw {a d:Nat} {x:Bool} {row:TRow} {rs:List PRul} {e:PEnt} (h:e∈Jaa a d x row rs):¬row.num a < 0∧e.num=Jam a (row.num a):=by
 unfold Jaa at h
 split at h
 ·cases h
 ·rename_i q
  rw [List.mem_singleton.1 h]
  exact ⟨fun k=> q (.inl k),rfl⟩
theorem JlJ {m:Nat} {row:TRow} {rs:List PRul} {e:PSub} (h:e∈Jca m row rs):row.mux=(m:Int)+1∧e.num=row.sub.toNat:=by
 unfold Jca at h
 split at h
 ·rename_i q
  rw [List.mem_singleton.1 h]
  exact ⟨q,rfl⟩
 ·cases h
theorem Jr6 {a d:Nat} {x:Bool} {row:TRow} {rs:List PRul}:((Jaa a d x row rs).map (·.num)).Nodup:=by
 unfold Jaa
 split
 ·exact List.nodup_nil
 ·simp
theorem Jr7 {m:Nat} {row:TRow} {rs:List PRul}:((Jca m row rs).map (·.num)).Nodup:=by
 unfold Jca
 split
 ·simp
 ·exact List.nodup_nil
theorem JgQ {p:Pol} {l:List TRow} (ht:(JbO l).2=0) {a:Nat} (ha:a < 5):∀ {gs:List (ByteArray×List Rul)},(gs.Pairwise fun x y=> x.1≠y.1)→(∀g∈gs,JnF l g.1)→((JaK p l gs a).map (·.num)).Nodup
 | [],_,_=> List.nodup_nil
 | g::gs,h1,h2=> by
   obtain ⟨q1,q2⟩:=List.pairwise_cons.1 h1
   have ih:=JgQ (p:=p) ht ha q2 fun g hg=> h2 g (.tail _ hg)
   show (((Jaa a (Jr p.dflt) p.x32 (Jat l g.1) (g.2.map J0))++JaK p l gs a).map (·.num)).Nodup
   rw [List.map_append,List.nodup_append]
   refine ⟨Jr6,ih,fun n hn n' hn'=> ?_⟩
   rintro rfl
   obtain ⟨e,he,rfl⟩:=List.mem_map.1 hn
   obtain ⟨e',he',hee⟩:=List.mem_map.1 hn'
   unfold JaK at he'
   obtain ⟨g',hg',he'⟩:=List.mem_flatMap.1 he'
   obtain ⟨i,hi,r1,n1⟩:=h2 g (.head _)
   obtain ⟨j,hj,r2,n2⟩:=h2 g' (.tail _ hg')
   obtain ⟨k1,k2⟩:=Jhw he
   obtain ⟨k3,k4⟩:=Jhw he'
   rw [r1] at k1 k2
   rw [r2] at k3 k4
   have b1:=Jd4 ht (a:=a) hi
   have b2:=Jd4 ht (a:=a) hj
   rw [k2,k4,Jeg Om b2.1,Jeg Om b1.1] at hee
   have hnum:(l.getD j Jh).num a=(l.getD i Jh).num a:=by
    split at hee <;> omega
   have:=Jpa ht ha hi hj Om hnum
   subst this
   exact q1 g' hg' (n1.symm.trans n2)
theorem JjY {l:List TRow} (ht:(JbO l).2=0) {m:Nat}:∀ {gs:List (ByteArray×List Rul)},(gs.Pairwise fun x y=> x.1≠y.1)→(∀g∈gs,JnF l g.1)→((JcS l gs m).map (·.num)).Nodup
 | [],_,_=> List.nodup_nil
 | g::gs,h1,h2=> by
   obtain ⟨q1,q2⟩:=List.pairwise_cons.1 h1
   have ih:=JjY ht (m:=m) q2 fun g hg=> h2 g (.tail _ hg)
   show (((Jca m (Jat l g.1) (g.2.map J0))++JcS l gs m).map (·.num)).Nodup
   rw [List.map_append,List.nodup_append]
   refine ⟨Jr7,ih,fun n hn n' hn'=> ?_⟩
   rintro rfl
   obtain ⟨e,he,rfl⟩:=List.mem_map.1 hn
   obtain ⟨e',he',hee⟩:=List.mem_map.1 hn'
   unfold JcS at he'
   obtain ⟨g',hg',he'⟩:=List.mem_flatMap.1 he'
   obtain ⟨i,hi,r1,n1⟩:=h2 g (.head _)
   obtain ⟨j,hj,r2,n2⟩:=h2 g' (.tail _ hg')
   obtain ⟨k1,k2⟩:=JlJ he
   obtain ⟨k3,k4⟩:=JlJ he'
   rw [r1] at k1 k2
   rw [r2] at k3 k4
   have b1:=JkJ ht hi
   have b2:=JkJ ht hj
   have:=JuQ ht hi hj Om Om Om
   subst this
   exact q1 g' hg' (n1.symm.trans n2)
end Go.Proofs.W

namespace Go.Proofs
open Go.Shelf
shelf_lay LaysM.n171 Nm 171 at Tryz as Tryz.laysM171
end Go.Proofs
namespace Go.Proofs.W
open Go.Vl Go.Shelf Go.RowKit
set_option maxRecDepth 100000
theorem Jpb {w : World} (h : Kn w none2) : Lib.TabIs Tryz.prog w "internal/strconv.uint64pow10" .u64 Lib.pow10Tab := by
 obtain ⟨⟨e,fz,h1⟩,_⟩:=h (1,(Go.Lib.pow10Tab.map fun z=> Value.int .u64 z).toArray) (by unfold JsG;exact List.mem_cons_self)
 unfold Lib.TabIs World.var?
 rw [show Tryz.prog.globalNamed "internal/strconv.uint64pow10" = some 1 from by kernel_rfl]
 simp only [Option.bind_some]
 rw [h1]
theorem Jr8 {W : World} (h : Lib.TabIs Tryz.prog W "internal/strconv.uint64pow10" .u64 Lib.pow10Tab) : Kn W none2 := by
 unfold Lib.TabIs World.var? at h
 rw [show Tryz.prog.globalNamed "internal/strconv.uint64pow10" = some 1 from by kernel_rfl, Option.bind_some] at h
 intro p hp
 unfold JsG at hp
 obtain rfl:=List.mem_singleton.1 hp
 refine ⟨?_,fun _ h=> h⟩
 split at h
 ·rename_i cs e fz hb
  cases h
  exact ⟨_,_,hb⟩
 ·cases h
theorem JiD (w:World):∀n,Below w.heap.size w (w.drewN n)
 | 0=> Below.refl _ _
 | n+1=> (JiD w n).drew
theorem JoF (w:World) (k:Nat) (os:Array Obj):Below w.heap.size w (Sort.grow (w.drewN k) os):=by
 have h:=JiD w k
 refine ⟨h.os,h.tape,h.output,Nat.le_trans h.size (by simp [Sort.grow]),fun j hj=> ?_⟩
 rw [Sort.heap_grow_old _ _ (Nat.lt_of_lt_of_le hj h.size)]
 exact h.block j hj
def Jc6 (n:Nat):ByteArray:=⟨(Lib.decDigits n).toArray⟩
theorem JtH (n:Nat):Lib.itoa (n:Int)=Lib.decDigits n:=by
 unfold Lib.itoa
 rw [if_neg Om]
 rfl
theorem Jr9 (n:Nat) (hn:n≤9223372036854775807):Tells Tryz.prog 173 [int n] (Jf (Jc6 n)):=
 Jc9 (vs:= [.int .i64 n]) ⟨_,Tryz.func173,rfl,rfl⟩ fun w hk=> (Any.strconv_Itoa Tryz.laysM171 n Om Om w (Jpb hk)).mono fun e w' ⟨h1,k,os,h2⟩=> ⟨by rw [h1,JtH];rfl,by rw [h2];exact JoF w k os⟩
end Go.Proofs.W

namespace Go.Proofs.W
open Go.Vl
set_option maxRecDepth 100000
abbrev Bts:=List UInt8
theorem JdV {x:UInt8}:∀ {a b r s:Bts},x∉a→x∉b→a++x::r=b++x::s→a=b∧r=s
 | [], [],r,s,_,_,h=> ⟨rfl,(List.cons.inj h).2⟩
 | [],y::b,r,s,_,hb,h=> absurd (List.mem_cons.2 (.inl (List.cons.inj h).1)) hb
 | y::a, [],r,s,ha,_,h=> absurd (List.mem_cons.2 (.inl (List.cons.inj h).1.symm)) ha
 | y::a,z::b,r,s,ha,hb,h=> by
   obtain ⟨h1,h2⟩:=List.cons.inj h
   obtain ⟨h3,h4⟩:=JdV (fun q=> ha (List.mem_cons_of_mem _ q)) (fun q=> hb (List.mem_cons_of_mem _ q)) h2
   exact ⟨by rw [h1,h3],h4⟩
def JvO (l:Bts):Nat:=l.foldl (fun v b=> 10 * v+(b.toNat - 48)) 0
theorem Jh8 {n:Nat} (h:n < 10):(UInt8.ofNat (48+n)).toNat=48+n:=by
 rw [UInt8.toNat_ofNat']
 exact Nat.mod_eq_of_lt Om
theorem Jpc:∀n:Nat,JvO (Lib.decDigits n)=n:=by
 intro n
 induction n using Nat.strongRecOn with
 | ind n ih=>
   rw [Lib.decDigits]
   split
   ·rename_i h
    show 10 * 0+((UInt8.ofNat (48+n)).toNat - 48)=n
    rw [Jh8 h]
    omega
   ·have:=ih (n / 10) Om
    unfold JvO at this⊢
    rw [List.foldl_append,this]
    show 10 * (n / 10)+((UInt8.ofNat (48+n % 10)).toNat - 48)=n
    rw [Jh8 (Nat.mod_lt _ Dc)]
    omega
theorem Jh9 {m n:Nat} (h:Lib.decDigits m=Lib.decDigits n):m=n:=by rw [← Jpc m,h,Jpc]
theorem JuR:∀ {n:Nat} {b:UInt8},b∈Lib.decDigits n→48≤b.toNat∧b.toNat≤57:=by
 intro n
 induction n using Nat.strongRecOn with
 | ind n ih=>
   intro b hb
   rw [Lib.decDigits] at hb
   split at hb
   ·rename_i h
    rw [List.mem_singleton.1 hb,Jh8 h]
    omega
   ·rcases List.mem_append.1 hb with h | h
    ·exact ih (n / 10) Om h
    ·rw [List.mem_singleton.1 h,Jh8 (Nat.mod_lt _ Dc)]
     have:=Nat.mod_lt n (by decide:0 < 10)
     omega
theorem Jhx {n:Nat} {b:UInt8} (h:b.toNat < 48∨57 < b.toNat):b∉Lib.decDigits n:=fun q=> by
 have:=JuR q
 omega
def opsT:List Bts:= [[61,61], [33,61], [60], [60,61], [62], [62,61], [38]]
def opT (k:Nat):Bts:=opsT.getD k []
def J8 (c:Cnd):Bts:= [97]++(Lib.decDigits c.arg.toNat++32::(opT (c.op.toNat - 1)++32::(if c.op=7 then Lib.decDigits c.mask++32::(61::61::32::Lib.decDigits c.value) else Lib.decDigits c.value)))
theorem JnG:∀k:Nat,k < 7→(32:UInt8)∉opT k∧(59:UInt8)∉opT k:=by decide
theorem JuS:∀j:Nat,j < 7→∀k:Nat,k < 7→opT j=opT k→j=k:=by decide
theorem JlK {c d:Cnd} (hc:Jad c=true) (hd:Jad d=true) (h:J8 c=J8 d):c=d:=by
 obtain ⟨a1,a2,a3,a4,a5⟩:=Jco.1 hc
 obtain ⟨b1,b2,b3,b4,b5⟩:=Jco.1 hd
 unfold J8 at h
 obtain ⟨_,h⟩:=List.cons.inj h
 obtain ⟨h1,h⟩:=JdV (Jhx Dc) (Jhx Dc) h
 obtain ⟨h2,h⟩:=JdV (JnG _ Om).1 (JnG _ Om).1 h
 have e1:c.arg=d.arg:=by have:=Jh9 h1;omega
 have e2:c.op=d.op:=by have:=JuS _ Om _ Om h2;omega
 obtain ⟨carg,cop,cm,cv⟩:=c
 obtain ⟨darg,dop,dm,dv⟩:=d
 dsimp only at *
 subst e1;subst e2
 by_cases h7:cop=7
 ·rw [if_pos h7,if_pos h7] at h
  obtain ⟨h3,h⟩:=JdV (Jhx Dc) (Jhx Dc) h
  have h4:=(List.cons.inj (List.cons.inj (List.cons.inj h).2).2).2
  rw [Jh9 h3,Jh9 h4]
 ·rw [if_neg h7,if_neg h7] at h
  rw [Jh9 h]
  have q1:cm=0:=a5.resolve_left h7
  have q2:dm=0:=b5.resolve_left h7
  rw [q1,q2]
theorem JtI {c:Cnd} (hc:Jad c=true):(59:UInt8)∉J8 c:=by
 obtain ⟨a1,a2,a3,a4,a5⟩:=Jco.1 hc
 have hd:∀n:Nat,(59:UInt8)∉Lib.decDigits n:=fun n=> Jhx Dc
 have ho:=(JnG (c.op.toNat - 1) Om).2
 unfold J8
 split
 ·simp [hd,ho]
 ·simp [hd,ho]
theorem JnH (c:Cnd):J8 c≠ []:=List.cons_ne_nil _ _
def Jeh (x:UInt8):List Bts→Bts
 | []=> []
 | [a]=> a
 | a::b::l=> a++x::Jeh x (b::l)
theorem JbX {x:UInt8} {a:Bts} {l:List Bts} (h:l≠ []):Jeh x (a::l)=a++x::Jeh x l:=by
 cases l with
 | nil=> exact absurd rfl h
 | cons b l=> rfl
theorem JlL {x:UInt8}:∀ {l m:List Bts},(∀a∈l,x∉a∧a≠ [])→(∀a∈m,x∉a∧a≠ [])→Jeh x l=Jeh x m→l=m
 | [], [],_,_,_=> rfl
 | [],b::m,_,hm,h=> by
   exfalso
   have hb:=(hm b (.head _)).2
   cases m with
   | nil=> exact hb h.symm
   | cons c m=> rw [JbX (List.cons_ne_nil _ _)] at h;exact hb (List.append_eq_nil_iff.1 h.symm).1
 | a::l, [],hl,_,h=> by
   exfalso
   have ha:=(hl a (.head _)).2
   cases l with
   | nil=> exact ha h
   | cons c l=> rw [JbX (List.cons_ne_nil _ _)] at h;exact ha (List.append_eq_nil_iff.1 h).1
 | a::l,b::m,hl,hm,h=> by
   have ha:=(hl a (.head _)).1
   have hb:=(hm b (.head _)).1
   cases l with
   | nil=>
     cases m with
     | nil=> rw [show a=b from h]
     | cons c m=>
       exfalso
       rw [JbX (l:=c::m) (List.cons_ne_nil _ _)] at h
       exact ha (by rw [show a=b++x::Jeh x (c::m) from h];simp)
   | cons c l=>
     cases m with
     | nil=>
       exfalso
       rw [JbX (l:=c::l) (List.cons_ne_nil _ _)] at h
       exact hb (by rw [← show a++x::Jeh x (c::l)=b from h];simp)
     | cons d m=>
       rw [JbX (List.cons_ne_nil _ _),JbX (List.cons_ne_nil _ _)] at h
       obtain ⟨h1,h2⟩:=JdV ha hb h
       rw [h1,JlL (fun q hq=> hl q (.tail _ hq)) (fun q hq=> hm q (.tail _ hq)) h2]
end Go.Proofs.W

namespace Go.Proofs.W
open Go.Vl
set_option maxRecDepth 100000
def cUs (d:Array Bts):Nat→List Bts
 | 0=> []
 | m+1=> if m=0∨d[m]! ≠d[m - 1]! then cUs d m++ [d[m]!] else cUs d m
theorem JnI (d:Array Bts):∀m,(cUs d m).length≤m
 | 0=> Nat.le_refl _
 | m+1=> by
   have:=JnI d m
   unfold cUs
   split
   ·simp;omega
   ·omega
theorem JnJ {d:Array Bts}:∀ {m:Nat},m≤d.size→(∀i j,i < j→j < m→Go.Sort.ltStr d[j]! d[i]! =false)→(cUs d m).Pairwise RSb∧∀x,x∈cUs d m↔∃j,j < m∧d[j]! =x
 | 0,_,_=> ⟨List.Pairwise.nil,fun x=> by simp [cUs]⟩
 | m+1,hm,hs=> by
   obtain ⟨h1,h2⟩:=JnJ (m:=m) Om fun i j a b=> hs i j a Om
   by_cases hc:m=0∨d[m]! ≠d[m - 1]!
   ·rw [cUs,if_pos hc]
    refine ⟨?_,fun x=> ?_⟩
    ·rw [List.pairwise_append]
     refine ⟨h1,List.pairwise_singleton _ _,fun a ha b hb=> ?_⟩
     rw [List.mem_singleton] at hb
     subst hb
     obtain ⟨j,hj,rfl⟩:=(h2 a).1 ha
     cases hlt:Go.Sort.ltStr d[j]! d[m]! with
     | true=> exact hlt
     | false=>
       exfalso
       have h3:=hs (m - 1) m Om Om
       have h4:Go.Sort.ltStr d[m - 1]! d[m]! =false:=by
        rcases Nat.lt_or_ge j (m - 1) with q | q
        ·exact Go.Sort.swo_ltStr.ntrans _ _ _ (hs j (m - 1) q Om) hlt
        ·rw [show m - 1=j by omega];exact hlt
       rcases hc with hc | hc
       ·omega
       ·exact hc (JjE _ _ h3 h4)
    ·rw [List.mem_append,h2,List.mem_singleton]
     constructor
     ·rintro (⟨j,hj,rfl⟩ | rfl)
      ·exact ⟨j,by omega,rfl⟩
      ·exact ⟨m,by omega,rfl⟩
     ·rintro ⟨j,hj,rfl⟩
      rcases Nat.lt_or_ge j m with q | q
      ·exact .inl ⟨j,q,rfl⟩
      ·exact .inr (by rw [show j=m by omega])
   ·rw [cUs,if_neg hc]
    refine ⟨h1,fun x=> ?_⟩
    rw [h2]
    constructor
    ·rintro ⟨j,hj,rfl⟩;exact ⟨j,by omega,rfl⟩
    ·rintro ⟨j,hj,rfl⟩
     rcases Nat.lt_or_ge j m with q | q
     ·exact ⟨j,q,rfl⟩
     ·have hj':j=m:=by omega
      subst hj'
      have:j≠0:=fun h=> hc (.inl h)
      exact ⟨j - 1,by omega,by by_cases he:d[j]! =d[j - 1]!;exact he.symm;exact absurd (.inr he) hc⟩
def Jfl (l:List Bts):List Bts:=Jak Go.Sort.ltStr l
def Jcb (l:List Bts):List Bts:=cUs (Jfl l).toArray (Jfl l).length
theorem Jbl (l:List Bts):(Jcb l).Pairwise RSb∧∀x,x∈Jcb l↔x∈l:=by
 have hp:=JeJ Go.Sort.swo_ltStr l
 have hm:∀x,x∈Jfl l↔x∈l:=fun x=> JjA
 unfold Jcb
 have hp':(Jfl l).Pairwise fun a b=> Go.Sort.ltStr b a=false:=hp
 generalize Jfl l=S at hm hp'
 obtain ⟨h1,h2⟩:=JnJ (d:=S.toArray) (m:=S.length) (by simp) fun i j hij hj=> by
  have hi:i < S.length:=by omega
  have:=List.pairwise_iff_getElem.1 hp' i j hi hj hij
  simpa [hi,hj] using this
 refine ⟨h1,fun x=> (h2 x).trans ?_⟩
 rw [← hm,List.mem_iff_getElem]
 constructor
 ·rintro ⟨j,hj,rfl⟩
  exact ⟨j,hj,by simp [hj]⟩
 ·rintro ⟨j,hj,rfl⟩
  exact ⟨j,hj,by simp [hj]⟩
def Jga (cs:List Cnd):Bts:=Jeh 59 (Jcb (cs.map J8))
theorem JjZ {cs:List Cnd} (h:∀c∈cs,Jad c=true):∀a∈Jcb (cs.map J8),(59:UInt8)∉a∧a≠ []:=fun a ha=> by
 obtain ⟨c,hc,rfl⟩:=List.mem_map.1 (((Jbl _).2 a).1 ha)
 exact ⟨JtI (h c hc),JnH c⟩
theorem JnK {cs ds:List Cnd} (hc:∀c∈cs,Jad c=true) (hd:∀c∈ds,Jad c=true):Jga cs=Jga ds↔∀c,c∈cs↔c∈ds:=by
 constructor
 ·intro h c
  have e:=JlL (JjZ hc) (JjZ hd) h
  have hm:∀x,x∈cs.map J8↔x∈ds.map J8:=fun x=> by rw [← (Jbl _).2,e,(Jbl _).2]
  constructor
  ·intro q
   obtain ⟨d,hd1,hd2⟩:=List.mem_map.1 ((hm (J8 c)).1 (List.mem_map_of_mem q))
   rw [← JlK (hd d hd1) (hc c q) hd2]
   exact hd1
  ·intro q
   obtain ⟨d,hd1,hd2⟩:=List.mem_map.1 ((hm (J8 c)).2 (List.mem_map_of_mem q))
   rw [← JlK (hc d hd1) (hd c q) hd2]
   exact hd1
 ·intro h
  unfold Jga
  refine congrArg _ (JjN (Jbl _).1 (Jbl _).1 fun z=> ?_)
  rw [(Jbl _).2,(Jbl _).2,List.mem_map,List.mem_map]
  exact ⟨fun ⟨c,q1,q2⟩=> ⟨c,(h c).1 q1,q2⟩,fun ⟨c,q1,q2⟩=> ⟨c,(h c).2 q1,q2⟩⟩
theorem Ji1 {cs:List Cnd}:Jga cs= []↔cs= []:=by
 constructor
 ·intro h
  cases cs with
  | nil=> rfl
  | cons c cs=>
    exfalso
    have hm:=((Jbl ((c::cs).map J8)).2 (J8 c)).2 (by simp)
    unfold Jga at h
    have hne:∀a∈Jcb ((c::cs).map J8),a≠ []:=fun a ha=> by
     obtain ⟨d,_,rfl⟩:=List.mem_map.1 (((Jbl _).2 a).1 ha)
     exact JnH d
    generalize Jcb ((c::cs).map J8)=L at h hm hne
    cases L with
    | nil=> cases hm
    | cons a L=>
      cases L with
      | nil=> exact hne a (.head _) h
      | cons b L=>
        rw [JbX (List.cons_ne_nil _ _)] at h
        exact hne a (.head _) (List.append_eq_nil_iff.1 h).1
 ·rintro rfl
  have h:Jcb (([]:List Cnd).map J8)= []:=List.eq_nil_iff_forall_not_mem.2 fun x hx=> by cases ((Jbl _).2 x).1 hx
  unfold Jga
  rw [h]
  rfl
end Go.Proofs.W

namespace Go.Proofs.W
open Go.Vl
set_option maxRecDepth 100000
def Je8 (c:Cnd):Bool:=decide (c.op=7)&& decide (Jku c.value c.mask≠0)
def Jj0 (a b:List Cnd):Bool:=(a.all fun c=> decide (c∈b))&& b.all fun c=> decide (c∈a)
def Jgb (r q:Rul):Bool:=kS q.name r.name&& (decide (q.conds.length=0)|| Jj0 q.conds r.conds)
def Jcr (l:List TRow) (rs:List Rul) (i:Nat):Int:=if JaJ l (rs.getD i Jl).name=false then 14 else if (rs.getD i Jl).conds.any Je8=true then 16 else if (rs.take i).any (Jgb (rs.getD i Jl))=true then 15 else 0
def Je1 (l:List TRow) (rs:List Rul):Option Nat:=(List.range rs.length).find? fun i=> decide (Jcr l rs i≠0)
def Jae (p:Pol) (l:List TRow):Int×Int:=if Jbi p=false then (0,13) else if (JbO l).2≠0 then (0,18) else match Je1 l p.rules with
 | some i=> ((i:Int),Jcr l p.rules i)
 | none=> (0,0)
def JgR (r:Rul):Bts:=r.name.data.toList
def JgS (r:Rul):Bts:=JgR r++58::Jga r.conds
theorem JuT {l:List UInt8} (h:Jar l=true):(58:UInt8)∉l:=fun q=> by
 unfold Jar at h
 simp only [Bool.and_eq_true] at h
 have:=List.all_eq_true.1 h.2.2.2.2.1 58 q
 revert this
 decide
theorem Jf2 {r:Rul} (h:Jal r=true):(58:UInt8)∉JgR r:=JuT (by
 unfold Jal at h
 simp only [Bool.and_eq_true] at h
 exact h.1)
theorem Jdx {r:Rul} (h:Jal r=true):∀c∈r.conds,Jad c=true:=fun c hc=> by
 unfold Jal at h
 simp only [Bool.and_eq_true] at h
 have:=h.2.2.2
 simp only [Bool.not_eq_true',List.any_eq_false] at this
 simpa using this c hc
theorem JlM {a b:List Cnd}:Jj0 a b=true↔∀c,c∈a↔c∈b:=by
 unfold Jj0
 simp only [Bool.and_eq_true,List.all_eq_true,decide_eq_true_eq]
 exact ⟨fun h c=> ⟨h.1 c,h.2 c⟩,fun h=> ⟨fun c=> (h c).1,fun c=> (h c).2⟩⟩
theorem JnL {q r:Rul} (hq:Jal q=true) (hr:Jal r=true):JgS q=JgS r↔kS q.name r.name=true∧Jj0 q.conds r.conds=true:=by
 unfold JgS
 constructor
 ·intro h
  obtain ⟨h1,h2⟩:=JdV (Jf2 hq) (Jf2 hr) h
  exact ⟨Jbh.2 (JfZ h1),JlM.2 ((JnK (Jdx hq) (Jdx hr)).1 h2)⟩
 ·rintro ⟨h1,h2⟩
  unfold JgR
  rw [Jbh.1 h1,(JnK (Jdx hq) (Jdx hr)).2 (JlM.1 h2)]
theorem JnM {q r:Rul} (hq:Jal q=true) (hr:Jal r=true):JgS q=JgR r++ [58]↔kS q.name r.name=true∧q.conds.length=0:=by
 unfold JgS
 constructor
 ·intro h
  obtain ⟨h1,h2⟩:=JdV (Jf2 hq) (Jf2 hr) h
  exact ⟨Jbh.2 (JfZ h1),List.length_eq_zero_iff.2 (Ji1.1 h2)⟩
 ·rintro ⟨h1,h2⟩
  unfold JgR
  rw [Jbh.1 h1,Ji1.2 (List.length_eq_zero_iff.1 h2)]
def Jj1 (rs:List Rul) (i:Nat):List Bts:=(rs.take i).map JgS
theorem Jsa {rs:List Rul} (h:∀r∈rs,Jal r=true) {i:Nat} {r:Rul} (hr:Jal r=true):(JgR r++ [58]∈Jj1 rs i∨JgS r∈Jj1 rs i)↔(rs.take i).any (Jgb r)=true:=by
 unfold Jj1
 rw [List.any_eq_true]
 constructor
 ·rintro (q | q)
  ·obtain ⟨x,hx,he⟩:=List.mem_map.1 q
   obtain ⟨k1,k2⟩:=(JnM (h x (List.mem_of_mem_take hx)) hr).1 he
   exact ⟨x,hx,by unfold Jgb;rw [k1,decide_eq_true k2];rfl⟩
  ·obtain ⟨x,hx,he⟩:=List.mem_map.1 q
   obtain ⟨k1,k2⟩:=(JnL (h x (List.mem_of_mem_take hx)) hr).1 he
   exact ⟨x,hx,by unfold Jgb;rw [k1,k2,Bool.or_true];rfl⟩
 ·rintro ⟨x,hx,he⟩
  unfold Jgb at he
  rw [Bool.and_eq_true,Bool.or_eq_true,decide_eq_true_iff] at he
  have hxr:=h x (List.mem_of_mem_take hx)
  rcases he with ⟨k1,k2 | k2⟩
  ·exact .inl (List.mem_map.2 ⟨x,hx,(JnM hxr hr).2 ⟨k1,k2⟩⟩)
  ·exact .inr (List.mem_map.2 ⟨x,hx,(JnL hxr hr).2 ⟨k1,k2⟩⟩)
theorem JtJ {l:List TRow} {rs:List Rul} {i:Nat} (hi:i < rs.length) (h:∀j,j < i→Jcr l rs j=0) (hv:Jcr l rs i≠0):Je1 l rs=some i:=by
 unfold Je1
 rw [List.find?_eq_some_iff_getElem]
 refine ⟨by simpa using hv,i,by simpa using hi,by simp,fun j hj=> ?_⟩
 simp [h j hj]
theorem Jj2 {l:List TRow} {rs:List Rul} (h:∀j,j < rs.length→Jcr l rs j=0):Je1 l rs=none:=by
 unfold Je1
 rw [List.find?_eq_none]
 intro j hj
 simp [h j (List.mem_range.1 hj)]
end Go.Proofs.W

namespace Go.Proofs.W
open Go.Vl
set_option maxRecDepth 100000
theorem JaN {p:Pol} {l:List TRow}:(Jae p l).2=0↔Jbi p=true∧(JbO l).2=0∧∀i,i < p.rules.length→Jcr l p.rules i=0:=by
 unfold Jae
 by_cases h1:Jbi p=false
 ·rw [if_pos h1]
  exact ⟨fun h=> absurd h Dc,fun h=> by rw [h1] at h;cases h.1⟩
 rw [if_neg h1]
 by_cases h2:(JbO l).2≠0
 ·rw [if_pos h2]
  exact ⟨fun h=> absurd h Dc,fun h=> absurd h.2.1 h2⟩
 rw [if_neg h2]
 constructor
 ·intro h
  refine ⟨by simpa using h1,by simpa using h2,fun i hi=> ?_⟩
  cases hf:Je1 l p.rules with
  | none=>
    unfold Je1 at hf
    have:=List.find?_eq_none.1 hf i (List.mem_range.2 hi)
    simpa using this
  | some j=>
    rw [hf] at h
    unfold Je1 at hf
    have:=List.find?_some hf
    exact absurd h (by simpa using this)
 ·rintro ⟨_,_,h⟩
  rw [Jj2 h]
theorem Jsb {p:Pol} {l:List TRow} (h:(Jae p l).2=0):Jae p l=(0,0):=by
 obtain ⟨h1,h2,h3⟩:=JaN.1 h
 unfold Jae
 rw [if_neg (by rw [h1];decide),if_neg Om,Jj2 h3]
theorem Jsc {p:Pol} {l:List TRow} (h1:Jbi p=true) (h2:(JbO l).2=0) {i:Nat} (hi:i < p.rules.length) (h3:∀j,j < i→Jcr l p.rules j=0) {v:Int} (h4:Jcr l p.rules i=v) (h5:v≠0):Jae p l=((i:Int),v):=by
 unfold Jae
 rw [if_neg (by rw [h1];decide),if_neg Om,JtJ hi h3 (by rw [h4];exact h5)]
 exact congrArg _ h4
theorem JuU {l:List TRow} {rs:List Rul} {i:Nat}:Jcr l rs i=0↔JaJ l (rs.getD i Jl).name=true∧(rs.getD i Jl).conds.any Je8=false∧(rs.take i).any (Jgb (rs.getD i Jl))=false:=by
 unfold Jcr
 by_cases h1:JaJ l (rs.getD i Jl).name=false
 ·rw [if_pos h1];exact ⟨fun h=> absurd h Dc,fun h=> by rw [h1] at h;cases h.1⟩
 rw [if_neg h1]
 by_cases h2:(rs.getD i Jl).conds.any Je8=true
 ·rw [if_pos h2];exact ⟨fun h=> absurd h Dc,fun h=> by rw [h2] at h;cases h.2.1⟩
 rw [if_neg h2]
 by_cases h3:(rs.take i).any (Jgb (rs.getD i Jl))=true
 ·rw [if_pos h3];exact ⟨fun h=> absurd h Dc,fun h=> by rw [h3] at h;cases h.2.2⟩
 rw [if_neg h3]
 exact ⟨fun _=> ⟨by simpa using h1,by simpa using h2,by simpa using h3⟩,fun _=> rfl⟩
theorem Jj3 {p:Pol}:Jbi p=true↔Ja9 p.dflt.1 p.dflt.2=true∧p.rules.length≤500∧∀r∈p.rules,Jal r=true:=by
 unfold Jbi
 simp only [Bool.and_eq_true,decide_eq_true_eq,Bool.not_eq_true',List.any_eq_false,Bool.not_eq_false']
 exact ⟨fun h=> ⟨h.1,h.2.1,fun r hr=> by simpa using h.2.2 r hr⟩,fun h=> ⟨h.1,h.2.1,fun r hr=> by simpa using h.2.2 r hr⟩⟩
end Go.Proofs.W

namespace Go.Proofs.W
open Go.Vl
set_option maxRecDepth 100000
theorem JlN {l:List TRow} {s:ByteArray} (h:JaJ l s=true):JnF l s:=by
 have h1:Jat l s=l.getD (Jbb l s) Jh:=if_pos h
 unfold JaJ at h
 simp only [Bool.and_eq_true,decide_eq_true_eq] at h
 exact ⟨_,h.1,h1,JoY.1 h.2⟩
theorem Ji2 {p:Pol} {n:Rul} (h:n∈(Jc p).rules):∃r∈p.rules,Jbk r=some n:=Jo9 h
theorem Jfm (p:Pol):Jr5 (Jc p).rules:=by
 show ((JeY (JaB p.rules)).flatMap fun nm=> Jdj p.dflt (Ja3 (JaB p.rules) ⟨nm.toArray⟩)).Pairwise _
 have hname:∀(z:List UInt8) (r:Rul),r∈Jdj p.dflt (Ja3 (JaB p.rules) ⟨z.toArray⟩)→nmL r.name=z:=fun z r hr=> by
  have h:=JnB hr
  rw [JiC] at h
  rw [(Jo8 h).1]
  unfold nmL
  simp
 rw [List.pairwise_flatMap]
 refine ⟨fun z _=> ?_,(JoD (Jhv p.rules)).imp fun {a b} h x hx y hy=> ?_⟩
 ·refine List.pairwise_of_forall_mem_list fun x hx y hy=> ?_
  rw [hname z x hx,hname z y hy,JgP]
 ·rw [hname a x hx,hname b y hy]
  cases hl:Go.Sort.ltStr b a with
  | false=> rfl
  | true=> exact absurd (Jwt _ _ _ h hl) (JvN _)
theorem JfK {p:Pol}:(JK (Jc p).rules).Pairwise fun x y=> x.1≠y.1:=
 (Je0 (Jfm p)).up.imp fun h e=> by rw [e,JgP] at h;cases h
theorem Jei {p:Pol} {l:List TRow} (h:∀r∈p.rules,JaJ l r.name=true):∀g∈JK (Jc p).rules,JnF l g.1:=fun g hg=> by
 obtain ⟨k1,k2⟩:=(Je0 (Jfm p)).rows g hg
 obtain ⟨q,hq⟩:=List.exists_mem_of_ne_nil _ k2
 rw [k1] at hq
 obtain ⟨q1,q2⟩:=List.mem_filter.1 hq
 obtain ⟨r,hr,hn⟩:=Ji2 q1
 rw [← Jbh.1 q2,(JcY hn).2.1]
 exact JlN (h r hr)
theorem JcZ {p:Pol} {l:List TRow} (h:(Jae p l).2=0):∀r∈p.rules,JaJ l r.name=true:=fun r hr=> by
 obtain ⟨_,_,h3⟩:=JaN.1 h
 obtain ⟨i,hi,rfl⟩:=List.getElem_of_mem hr
 have:=h3 i hi
 unfold Jcr at this
 rw [show p.rules.getD i Jl=p.rules[i] by simp [List.getD,hi]] at this
 cases hf:JaJ l p.rules[i].name with
 | true=> rfl
 | false=> rw [if_pos hf] at this;cases this
def JV (p:Pol) (l:List TRow):Plan:=⟨Jr p.dflt,p.x32,fun a=> Jdw (JaK (Jc p) l (JK (Jc p).rules) a),fun m=> Jh7 (JcS l (JK (Jc p).rules) m)⟩
theorem Jsd {p:Pol} {l:List TRow} (h:(Jae p l).2=0) {a:Nat} (ha:a < 5) {D:List (Nat×AV)} (e:PEnt→Nat×AV) (he:∀x,(e x).1=x.num) (hp:D.Perm ((JaK (Jc p) l (JK (Jc p).rules) a).map e)) (hs:D.Pairwise fun x y=> x.1≤y.1):D=((JV p l).ents a).map e:=by
 have hn:=JgQ (p:=Jc p) (JaN.1 h).2.1 ha JfK (Jei (p:=p) (JcZ h))
 refine Jf9 (key:=(·.1)) (hp.trans ((Jfk _).symm.map e)) hs ?_ ?_
 ·rw [List.pairwise_map]
  exact (JnE _).imp fun h=> by rw [he,he];exact h
 ·refine (hp.map (·.1)).nodup_iff.2 ?_
  rw [List.map_map,show ((fun x:Nat×AV=> x.1)∘e)=(fun x:PEnt=> x.num) from funext he]
  exact hn
theorem Jse {p:Pol} {l:List TRow} (h:(Jae p l).2=0) {a:Nat} {D:List (Nat×AV)} (e:PSub→Nat×AV) (he:∀x,(e x).1=x.num) (hp:D.Perm ((JcS l (JK (Jc p).rules) a).map e)) (hs:D.Pairwise fun x y=> x.1≤y.1):D=((JV p l).subs a).map e:=by
 have hn:=JjY (m:=a) (JaN.1 h).2.1 JfK (Jei (p:=p) (JcZ h))
 refine Jf9 (key:=(·.1)) (hp.trans ((Jqu _).symm.map e)) hs ?_ ?_
 ·rw [List.pairwise_map]
  exact (JtG _).imp fun h=> by rw [he,he];exact h
 ·refine (hp.map (·.1)).nodup_iff.2 ?_
  rw [List.map_map,show ((fun x:Nat×AV=> x.1)∘e)=(fun x:PSub=> x.num) from funext he]
  exact hn
end Go.Proofs.W

namespace Go.Proofs.W
open Go.Vl
set_option maxRecDepth 100000
theorem JtK {arg op:Int} {mask value:Nat} (h:value > 4294967295):Jcw ⟨arg,op,mask,value⟩=(cnd0,if op=2∨op=3 then 1 else 2):=if_pos h
theorem Ji3 {arg op:Int} {mask value:Nat} (h:¬value > 4294967295):Jcw ⟨arg,op,mask,value⟩=if op=7 then (if mask&&& 4294967295=0 then (cnd0,1) else (⟨arg,op,mask&&& 4294967295,value⟩,0)) else (⟨arg,op,mask,value⟩,0):=if_neg h
theorem Jmd (c:Cnd) (ho:c.ok):Tells Tryz.prog 37 [JZ c] (.tup [JZ (Jcw c).1,int (Jcw c).2]):=by
 obtain ⟨arg,op,mask,value⟩:=c
 refine Jg Tryz.func37 rfl rfl fun nx=> ?_
 have hb:Jbr .and .u64 mask 4294967295=((mask&&& 4294967295:Nat):Int):=Jur ho.1 Dc
 (repeat' (refine stp ?_;intro c h;cases c))
 all_goals
  refine stp ?_
  refine Jj rfl ⟨rfl,trivial⟩ (AVle.of_eq ?_)
  (try simp only [JbS, JbT, JbU, JbV, JbD, JbE] at *)
  first
   | (rw [JtK Om];first | (rw [if_pos Om];rfl) | (rw [if_neg Om];rfl))
   | (exfalso;omega)
   | (rw [Ji3 Om,if_neg Om];rfl)
   | (rw [Ji3 Om,if_pos Om,if_pos Om];rfl)
   | (rw [Ji3 Om,if_pos Om,if_neg Om];refine Eq.trans ?_ (congrArg (fun z:Int=> AV.tup [.ag [int arg,int op, .v (.int .u64 z), .v (.int .u64 value)],int 0]) hb);rfl)
theorem JiE (a:A2) (h:Ja9 a.1 a.2=true):Tells Tryz.prog 46 [Jtj a] (u32 (Jr a:Nat)):=by
 refine Jg Tryz.func46 rfl rfl fun nx=> ?_
 refine stp ?_
 refine Jd rfl rfl (Jo2 a h) ⟨Rf,trivial⟩ fun nx2=> ?_
 refine stp ?_
 exact Je rfl Rf
def JA:PRul:=⟨[],0⟩
def Jcy (r:PRul):AV:= .ag [JaS r.conds,u32 (r.code:Nat)]
def Js (l:List PRul):AV:=JF 2 Jcy JA l
def Jxi:Option PRul→AV
 | none=> .tup [Jcy JA,Jb false]
 | some q=> .tup [Jcy q,Jb true]
theorem JgT {α:Type} {e:α→AV} {d:α} {sz:Nat} {l:List α} {x:α} {f':Nat→AV} {i j:Vl.Id} (hf:f' 0=e x) (h:i.2=j.2):AVle (.os sz (l.length+1) (Jcd l.length (fun k=> e (l.getD k d)) f') (some i)) (.os sz (l++ [x]).length (fun k=> e ((l++ [x]).getD k d)) (some j)):=by
 rw [List.length_append]
 refine (AVle.os_fun (JbM (fun k hk=> ?_) ?_)).trans (AVle.os_nm h)
 ·rw [show (l++ [x]).getD k d=l.getD k d by simp [List.getD,List.getElem?_append_left hk]]
 ·rw [hf,show (l++ [x]).getD l.length d=x by simp [List.getD]]
theorem Jqv {cs:List Cnd} {i:Nat} (hi:i < cs.length):(cs.take (i+1)).filterMap JiX=(cs.take i).filterMap JiX++(JiX (cs.getD i cnd0)).toList:=by
 rw [Jb2 cnd0 hi,List.filterMap_append]
 congr 1
theorem Jqw {cs:List Cnd} (h:∀j,j < cs.length→JeX (cs.getD j cnd0)=false):cs.any JeX=false:=by
 rw [Bool.eq_false_iff]
 intro ha
 obtain ⟨c,hc,hb⟩:=List.any_eq_true.1 ha
 obtain ⟨j,hj,rfl⟩:=List.getElem_of_mem hc
 have:=h j hj
 rw [show cs.getD j cnd0=cs[j] by simp [List.getD,hj]] at this
 rw [this] at hb;cases hb
theorem JtL {cs:List Cnd} {i:Nat} (hi:i < cs.length) (h:JeX (cs.getD i cnd0)=true):cs.any JeX=true:=by
 refine List.any_eq_true.2 ⟨cs.getD i cnd0, ?_,h⟩
 simp [List.getD,hi]
theorem JnN {oi:Option Vl.Id} {n:Nat}:JmA oi n (Jbo oi n):=by
 have:=Jof (oi:=oi) (n:=n) (pm:= [])
 rwa [List.append_nil] at this
def Jqx (l:List Cnd):Nat→AV:=fun k=> JZ (l.getD k cnd0)
set_option maxHeartbeats 2000000 in
theorem JkK (r:PRul) (hok:∀c∈r.conds,c.ok) (hl:r.conds.length≤1000000):Tells Tryz.prog 114 [Jcy r] (Jxi (JgL r)):=by
 obtain ⟨cs,k⟩:=r
 dsimp only at hok hl
 refine Jg Tryz.func114 rfl rfl fun nx=> ?_
 refine stp ?_
 refine Jy (fun y:Nat×List Cnd×Option Nat×Nat=> mk 38 [(1, .bp (0,nx) 0),(2, .bp (1,nx+1) 0),(3,Jb false),(4, .bp (2,nx+2) 0),(13,JaS cs),(14,int cs.length),(15,int y.1)] ⟨[((2,nx+2), .c [.os 4 y.2.1.length (Jqx y.2.1) (nmd y.2.2.1),u32 (k:Nat)]),((1,nx+1), .c [.os 0 0 (fun _=> .any) none,u32 0]),((0,nx), .c [JaS cs,u32 (k:Nat)])],Jbo (nmd y.2.2.1) (y.2.1.length * 4),y.2.2.2,3⟩)
  (fun y=> y.1≤cs.length∧y.2.1=(cs.take y.1).filterMap JiX∧(y.2.2.1=none→y.2.1= [])∧∀j,j < y.1→JeX (cs.getD j cnd0)=false) (fun y=> cs.length - y.1) ?_ ?_
 ·exact ⟨(0, [],none,nx+3),⟨Nat.zero_le _,rfl,fun _=> rfl,fun j h=> absurd h (Nat.not_lt_zero _)⟩,Jq (pm:= []) _ [] rfl rfl Sf Sf ⟨rfl,⟨AVle.os_nil,Rf,trivial⟩,Bf⟩ trivial ⟨Rf,Rf,Rf,Rf,Rf,Rf,Rf,trivial⟩⟩
 ·rintro ⟨i,L,oi,nx1⟩ ⟨h1,hL,h2,h3⟩
  dsimp only at h1 hL h2 h3
  have hal:L.length≤i:=by rw [hL];exact Nat.le_trans (List.length_filterMap_le _ _) (by simp;omega)
  refine stp ?_
  intro c g;cases c
  ·have g:=Ju g
   try dsimp only at g
   have hi:i=cs.length:=by omega
   subst hi
   rw [List.take_length] at hL
   have hR:JgL ⟨cs,k⟩=some ⟨L,k⟩:=by
    unfold JgL
    dsimp only
    rw [Jqw h3,hL];rfl
   rw [hR]
   refine stp ?_
   exact Jj rfl ⟨rfl,trivial⟩ (AVle.tups (cs:= [_,_]) ⟨AVle.ags (cs:= [_,_]) ⟨AVle.os_sl,Rf,trivial⟩,Rf,trivial⟩)
  ·have g:=Jv g
   try dsimp only at g
   have hi:i < cs.length:=by omega
   have hn:=Jmd (cs.getD i cnd0) (Jnw hok hi)
   have hnx:=Jqv hi
   have hst:=Jqg (cs.getD i cnd0)
   refine stp ?_
   refine ⟨Bd, ?_⟩
   refine stp ?_
   refine Jd rfl rfl hn ⟨Rf,trivial⟩ fun nx2=> ?_
   refine stp ?_
   intro c t2;cases c
   ·have ht2:(Jcw (cs.getD i cnd0)).2≠2:=fun e=> by rw [e] at t2;cases t2
    have hnev:JeX (cs.getD i cnd0)=false:=decide_eq_false ht2
    have hlast:∀j,j < i+1→JeX (cs.getD j cnd0)=false:=fun j hj=> by
     rcases Nat.lt_or_ge j i with h | h
     ·exact h3 j h
     ·obtain rfl:j=i:=by omega
      exact hnev
    refine stp ?_
    intro c t0;cases c
    ·have ht0:(Jcw (cs.getD i cnd0)).2≠0:=fun e=> by rw [e] at t0;cases t0
     rw [show JiX (cs.getD i cnd0)=none from if_neg ht0] at hnx
     refine stp ?_
     exact back (i+1,L,oi,nx2+1) ⟨hi,by dsimp only;rw [hnx,← hL];exact (List.append_nil _).symm,h2,hlast⟩ Dm (Jq _ _ rfl rfl (.cons _ (.cons _ Sf)) Sf Bf Pf ⟨Rf,Rf,Rf,Rf,Rf,Rf,Lw,trivial⟩)
    ·have ht0:(Jcw (cs.getD i cnd0)).2=0:=by
      have:=of_decide_eq_true (p:=((Jcw (cs.getD i cnd0)).2:Int)=0) t0.symm
      omega
     rw [show JiX (cs.getD i cnd0)=some (Jcw (cs.getD i cnd0)).1 from if_pos ht0] at hnx
     refine stp ?_
     refine ⟨JnN,Jz rfl,by show (L.length+1) * 32≤_;omega,by show L.length+1≤_;omega, ?_⟩
     refine stp ?_
     exact back (i+1,L++ [(Jcw (cs.getD i cnd0)).1],some (nx2+1),nx2+2) ⟨hi,by dsimp only;rw [hnx,← hL];rfl,(fun h=> by cases h),hlast⟩ Dm (Jq (bx:= [((2,nx+2), .c [.os 4 (L++ [(Jcw (cs.getD i cnd0)).1]).length (Jqx (L++ [(Jcw (cs.getD i cnd0)).1])) (some (0,nx2+1)),u32 (k:Nat)]),((1,nx+1), .c [.os 0 0 (fun _=> .any) none,u32 0]),((0,nx), .c [JaS cs,u32 (k:Nat)])]) _ [((5,nx2+1),(L.length+1) * 4)] rfl rfl (.cons _ (.cons _ Sf)) (.cons_cons _ (List.nil_sublist _)) ⟨rfl,⟨JgT (e:=JZ) rfl rfl,Rf,trivial⟩,Bf⟩ ⟨rfl,by rw [List.length_append];rfl,trivial⟩ ⟨Rf,Rf,Rf,Rf,Rf,Rf,Lw,trivial⟩)
   ·have ht2:(Jcw (cs.getD i cnd0)).2=2:=by
     have:=of_decide_eq_true (p:=((Jcw (cs.getD i cnd0)).2:Int)=2) t2.symm
     omega
    have hR:JgL ⟨cs,k⟩=none:=if_pos (JtL hi (decide_eq_true ht2))
    rw [hR]
    refine stp ?_
    exact Jj rfl ⟨rfl,trivial⟩ (AVle.tups (cs:= [_,_]) ⟨AVle.ags (cs:= [_,_]) ⟨AVle.os_sl0,Rf,trivial⟩,Rf,trivial⟩)
end Go.Proofs.W

namespace Go.Proofs.W
open Go.Vl
set_option maxRecDepth 100000
def Jej (l:List TRow) (r:Rul):Bool:=decide ((Jat l r.name).mux > 0)&& decide (0 < r.conds.length)
theorem Jsf (l:List TRow) (r:Rul) (hl:l.length≤1000000) (hs:JgK l r.name):Tells Tryz.prog 107 (Jaf r:: [.rp [JN l]]) (Jb (Jej l r)):=by
 have hw:=JrO l r.name hl hs
 unfold Jej
 generalize decide ((Jat l r.name).mux > 0)=b at hw⊢
 generalize (JaJ l r.name&& decide ((Jat l r.name).a2≥0))=b2 at hw
 refine Jg Tryz.func107 rfl rfl fun nx=> ?_
 refine stp ?_
 refine Jd rfl rfl hw ⟨Rf,Rf,trivial⟩ fun nx2=> ?_
 refine stp ?_
 intro c1 hc1
 subst hc1
 refine stp ?_
 intro c e1;cases c
 ·have hb:b=false:=e1.symm
  subst hb
  refine stp ?_
  exact Je rfl Rf
 ·have hb:b=true:=e1.symm
  subst hb
  refine stp ?_
  intro c2 hc2
  have e2:decide (0 < r.conds.length)=c2:=by
   rw [hc2]
   by_cases h0:0 < r.conds.length
   ·rw [decide_eq_true h0];exact (decide_eq_true Om).symm
   ·rw [decide_eq_false h0];exact (decide_eq_false Om).symm
  rw [e2]
  clear hc2 e2
  cases c2 <;> (refine stp ?_;exact Je rfl Rf)
theorem Jsg (x:List AV) (l:List Rul) (p:Rul→Bool) (f:Nat) (hl:l.length≤1000000000) (hp:∀i,i < l.length→Tells Tryz.prog f (Jaf (l.getD i Jl):: [.rp x]) (Jb (p (l.getD i Jl)))):
 Tells Tryz.prog 106 [JF 4 Jaf Jl l,(.fn (.func f) [] [.rp x])] (int (Jhl (l.findIdx? p))):=by
 refine Jg Tryz.func106 rfl rfl fun nx=> ?_
 refine stp ?_
 refine Jy (fun s:Nat×Nat=> mk 19 [(0,JF 4 Jaf Jl l),(1,(.fn (.func f) [] [.rp x])),(7,int l.length),(8,int s.1)] ⟨[], [],s.2,0⟩) (fun s=> s.1≤l.length∧∀j,j < s.1→p (l.getD j Jl)=false) (fun s=> l.length - s.1) ?_ ?_
 ·exact ⟨(0,nx),⟨by simp,by intro j hj;simp at hj⟩,JaI rfl rfl ⟨Rf,Rf,Rf,Rf,trivial⟩⟩
 ·rintro ⟨i,nx⟩ ⟨h1,h2⟩
  dsimp only at h1 h2
  refine stp ?_
  intro c h3;cases c
  ·have h3:=Ju h3
   dsimp only at h3
   refine stp ?_
   refine Je rfl (Jk ?_)
   rw [JfD Jl (fun j hj=> h2 j Om)];rfl
  ·have h3:=Jv h3
   dsimp only at h3
   have hi:i < l.length:=by omega
   refine stp ?_
   refine ⟨⟨by dsimp only;omega,by dsimp only;omega⟩, ?_⟩
   refine stp ?_
   refine Jd rfl rfl (hp i hi) ⟨Rf,Rf,trivial⟩ fun nx'=> ?_
   intro c h4;cases c
   ·refine stp ?_
    refine back (i+1,nx') ⟨by dsimp only;omega,fun j hj=> ?_⟩ Dm (JaI rfl rfl ⟨Rf,Rf,Rf,Jk (J7 Dm),trivial⟩)
    dsimp only at hj
    rcases Nat.lt_or_ge j i with h | h
    ·exact h2 j h
    ·obtain rfl:j=i:=by omega
     exact h4.symm
   ·refine stp ?_
    refine Je rfl (Jk ?_)
    rw [Jhk Jl hi h2 h4.symm];rfl
theorem JuV {α:Type} {l:List α} {p:α→Bool} {i:Nat} (h:l.findIdx? p=some i):i < l.length:=(List.findIdx?_eq_some_iff_getElem.1 h).1
def JtM (p:Pol) (l:List TRow):AV:=match p.rules.findIdx? (Jej l) with
 | none=> .tup [int 0,Jb true]
 | some i=> .tup [int i,Jb false]
theorem JkL (p:Pol) (l:List TRow) (hp:p.rules.length≤1000000) (hl:l.length≤1000000) (hs:JkA l):Tells Tryz.prog 44 [JbN p,JN l] (JtM p l):=by
 have hx:=Jsg [JN l] p.rules (Jej l) 107 Om fun i _=> Jsf l _ hl (JeK hs _)
 unfold JtM
 cases hi:p.rules.findIdx? (Jej l) with
 | none=>
   rw [hi] at hx
   refine Jg Tryz.func44 rfl rfl fun nx=> ?_
   (refine JU ?_;refine Jaq ?_;refine JU ?_)
   refine JbC (n:=15) (nx:=nx+2) (nn:=2) (pm:= []) (bx:= []) (L:= [(2, .rp [int p.dflt.1,int p.dflt.2,Jb p.x32,Ji p.rules]),(3, .rp [JN l]),(4,int 0),(5,Jb false)]) (df:=some []) [((1,nx+1), .c [JN l]),((0,nx), .c [int p.dflt.1,int p.dflt.2,Jb p.x32,Ji p.rules])] rfl rfl rfl (List.Perm.refl _) Sf ⟨Frz.bp (.tail _ (.head _)) rfl,Frz.bp (.head _) rfl,Frz.refl _,Frz.refl _,trivial⟩ ?_
   refine stp ?_
   refine Jd rfl rfl hx ⟨Rf,Rf,trivial⟩ fun nx2=> ?_
   refine stp ?_
   exact Jj rfl trivial (AVle.of_eq rfl)
 | some i=>
   have hlt:=JuV hi
   rw [hi] at hx
   refine Jg Tryz.func44 rfl rfl fun nx=> ?_
   (refine JU ?_;refine Jaq ?_;refine JU ?_)
   refine JbC (n:=15) (nx:=nx+2) (nn:=2) (pm:= []) (bx:= []) (L:= [(2, .rp [int p.dflt.1,int p.dflt.2,Jb p.x32,Ji p.rules]),(3, .rp [JN l]),(4,int 0),(5,Jb false)]) (df:=some []) [((1,nx+1), .c [JN l]),((0,nx), .c [int p.dflt.1,int p.dflt.2,Jb p.x32,Ji p.rules])] rfl rfl rfl (List.Perm.refl _) Sf ⟨Frz.bp (.tail _ (.head _)) rfl,Frz.bp (.head _) rfl,Frz.refl _,Frz.refl _,trivial⟩ ?_
   refine stp ?_
   refine Jd rfl rfl hx ⟨Rf,Rf,trivial⟩ fun nx2=> ?_
   refine stp ?_
   exact Jj rfl trivial (AVle.tups (cs:= [_,_]) ⟨Jk (if_neg (show ¬(0:Int) > (i:Int) by omega)),Rf,trivial⟩)
end Go.Proofs.W

namespace Go.Proofs.W
open Go.Vl
set_option maxRecDepth 100000
theorem JiF (l:List Cnd):NoId (JaS l):=NoId.sl fun i _ c hc=> by
 simp only [JZ,AV.cells,List.mem_cons,List.not_mem_nil,or_false] at hc
 rcases hc with rfl | rfl | rfl | rfl <;> exact NoId.v _
theorem JnO (ts:List Cnd) (hl:ts.length≤1000000):Tells Tryz.prog 115 [JaS ts] (JaS ts):=by
 refine Jg Tryz.func115 rfl rfl fun nx=> ?_
 refine stp ?_
 refine JmO (e:=86) rfl (.inl rfl) (by kernel_rfl) (.inl rfl) fun c hc=> ?_
 cases c
 ·refine stp ?_
  (conv=> whnf)
  refine Jjg (fun hm=> ?_) fun hm=> ?_
  ·refine stp ?_
   obtain rfl:ts= []:=List.eq_nil_of_length_eq_zero hm
   exact Jj rfl trivial AVle.os_sl0
  ·refine ⟨fun k hk=> rfl,by show (0+ts.length) * 32≤_;omega,by omega, ?_⟩
   refine stp ?_
   have e5:0+ts.length=ts.length:=Nat.zero_add _
   refine Jj rfl trivial ?_
   exact AVle.trans (b:= .os 4 ts.length (Jqx ts) (some (0,nx))) (AVle.trans (b:= .os 4 (0+ts.length) (Jqx ts) (some (0,nx))) (AVle.os_fun fun k hk=> rfl) (AVle.of_eq (by rw [e5]))) AVle.os_sl
 ·obtain rfl:ts= []:=List.eq_nil_of_length_eq_zero (hc rfl)
  refine stp ?_
  exact Jj rfl trivial AVle.os_sl0
def Jcz (l:List PRul):Nat→AV:=fun k=> Jcy (l.getD k JA)
theorem JtN {L:List PRul} {m:Nat} (hm:m≤L.length):AVle (.sl 2 m (Jcz L)) (Js (L.take m)):=by
 unfold Js JF
 rw [List.length_take,Nat.min_eq_left hm]
 refine AVle.sl_fun fun k hk=> ?_
 show Jcy (L.getD k JA)=Jcy ((L.take m).getD k JA)
 rw [show (L.take m).getD k JA=L.getD k JA by simp [List.getD,List.getElem?_take,hk]]
theorem Jqy {a:Nat} {l:List PRul} {i:Nat} (hi:i < l.length):Jfi a (l.drop i)=match JkE a (l.getD i JA) with
 | none=> Jfi a (l.drop (i+1))
 | some q=> if q.conds.length=0 then [q] else q::Jfi a (l.drop (i+1)):=by
 rw [List.drop_eq_getElem_cons hi,show l.getD i JA=l[i] by simp [List.getD,hi]]
 rfl
theorem Jj4:Tryz.prog.bytesOf 118=32:=by kernel_rfl
theorem JuW {r q:PRul} (h:JgL r=some q):q.conds.length≤r.conds.length∧q.code=r.code:=by
 unfold JgL at h
 split at h
 ·cases h
 ·cases h;exact ⟨List.length_filterMap_le _ _,rfl⟩
theorem JuX {a:Nat} {r q:PRul} (h:JkE a r=some q):q.conds.length≤r.conds.length∧q.code=r.code:=by
 unfold JkE at h
 split at h
 ·exact JuW h
 ·cases h;exact ⟨Nat.le_refl _,rfl⟩
def Jsh (nx:Nat):Option PRul→List (Vl.Id×Own)
 | none=> [((0,nx), .c [JaS [],u32 0])]
 | some q=> [((0,nx), .c [JaS q.conds,u32 (q.code:Nat)])]
set_option maxHeartbeats 4000000 in
theorem Jb4 (a:Nat) (l:List PRul) (d:Nat) (ha:a < 5) (hl:l.length≤1000000) (hc:∀r∈l,r.conds.length≤1000000∧∀c∈r.conds,c.ok):Tells Tryz.prog 48 [int a,Js l,u32 (d:Nat)] (Js (Jas a l d)):=by
 refine Jg Tryz.func48 rfl rfl fun nx=> ?_
 refine stp ?_
 refine JcX (fun y:List PRul×Option Nat×Nat=> mk 62 [(0,int a),(2,u32 (d:Nat)),(7, .os 2 y.1.length (Jcz y.1) (nmd y.2.1))] ⟨[],Jbo (nmd y.2.1) (y.1.length * 2),y.2.2,0⟩) (fun y=> y.1=Jfi a l∧(y.2.1=none→y.1= [])∧y.1.length≤l.length) ?_ ?_
 ·refine Jy (fun y:Nat×List PRul×Option Nat×Nat=> mk 62 [(0,int a),(2,u32 (d:Nat)),(7, .os 2 y.2.1.length (Jcz y.2.1) (nmd y.2.2.1)),(11,Js l),(12,int l.length),(13,int y.1)] ⟨[],Jbo (nmd y.2.2.1) (y.2.1.length * 2),y.2.2.2,0⟩)
   (fun y=> y.1≤l.length∧y.2.1++Jfi a (l.drop y.1)=Jfi a l∧(y.2.2.1=none→y.2.1= [])∧y.2.1.length≤y.1) (fun y=> l.length - y.1) ?_ ?_
  ·exact ⟨(0, [],none,nx),⟨Nat.zero_le _,rfl,fun _=> rfl,Nat.le_refl _⟩,Jq (pm:= []) (bx:= []) _ [] rfl rfl Sf Sf trivial trivial ⟨Rf,Rf,AVle.os_nil,Rf,Rf,Rf,trivial⟩⟩
  ·rintro ⟨i,L,oi,nx1⟩ ⟨h1,hL,h2,h3⟩
   dsimp only at h1 hL h2 h3
   refine stp ?_
   intro c g;cases c
   ·have g:=Ju g
    try dsimp only at g
    have hi:i=l.length:=by omega
    subst hi
    rw [List.drop_length] at hL
    refine stp ?_
    exact ⟨(L,oi,nx1),⟨by rw [← hL];exact (List.append_nil _).symm,h2,h3⟩,Et rfl rfl trivial Pf ⟨Rf,Rf,Rf,trivial⟩⟩
   ·have g:=Jv g
    try dsimp only at g
    have hi:i < l.length:=by omega
    have hnx:=Jqy (a:=a) hi
    have hr:l.getD i JA∈l:=by simp [List.getD,hi]
    have hn:=JkK (l.getD i JA) (hc _ hr).2 (hc _ hr).1
    have hcl:=(hc _ hr).1
    rw [hnx] at hL
    clear hnx
    refine stp ?_
    refine ⟨Bd, ?_⟩
    refine stp ?_
    intro c6 hc6
    refine stp ?_
    refine Jrp (fun y:Option PRul×Nat=> mk 62 [(0,int a),(2,u32 (d:Nat)),(7, .os 2 L.length (Jcz L) (nmd oi)),(9, .bp (0,nx1) 0),(10,Jb y.1.isSome),(11,Js l),(12,int l.length),(13,int i)] ⟨Jsh nx1 y.1,Jbo (nmd oi) (L.length * 2),y.2,1⟩) (fun y=> y.1=JkE a (l.getD i JA)) ?_ ?_
    ·cases c6
     ·have ha2:a≠2:=fun e=> by subst e;cases hc6
      refine stp ?_
      exact ⟨(some (l.getD i JA),nx1+1),(if_neg ha2).symm,Et rfl rfl Bf Pf ⟨Rf,Rf,Rf,Rf,Rf,Rf,Rf,Rf,trivial⟩⟩
     ·have ha2:a=2:=by
       have:=of_decide_eq_true (p:=(a:Int)=2) hc6.symm
       omega
      refine stp ?_
      refine Jd rfl rfl hn ⟨Rf,trivial⟩ fun nx2=> ?_
      have hab:JkE a (l.getD i JA)=JgL (l.getD i JA):=if_pos ha2
      rw [hab]
      cases JgL (l.getD i JA) with
      | none=>
        refine stp ?_
        exact ⟨(none,nx2),rfl,Et rfl rfl Bf Pf ⟨Rf,Rf,Rf,Rf,Rf,Rf,Rf,Rf,trivial⟩⟩
      | some q=>
        refine stp ?_
        exact ⟨(some q,nx2),rfl,Et rfl rfl Bf Pf ⟨Rf,Rf,Rf,Rf,Rf,Rf,Rf,Rf,trivial⟩⟩
    ·rintro ⟨oq,nx3⟩ hoq
     dsimp only at hoq
     rw [← hoq] at hL
     cases oq with
     | none=>
       dsimp only at hL
       refine stp ?_
       exact back (i+1,L,oi,nx3) ⟨hi,hL,h2,by dsimp only;omega⟩ Dm (Jq _ _ rfl rfl (.cons _ Sf) Sf trivial Pf ⟨Rf,Rf,Rf,Rf,Rf,Lw,trivial⟩)
     | some q=>
       dsimp only at hL
       have hqc:=(JuX hoq.symm).1
       have hcq:=JnO q.conds Om
       refine stp ?_
       refine J6 9 (Jsh nx1 (some q)) (fun i=> match i with | 8=> true | _=> false) (fun i=> match i with | 3=> true | _=> false) [0,1,2,3,4,5,6,7,8] (by kernel_rfl) (by kernel_rfl) (HB.refl _) ?_
       refine stp ?_
       refine ⟨_,J5 rfl rfl rfl hcq ⟨Rf,trivial⟩ (JiF _), ?_⟩
       refine stp ?_
       refine ⟨_,JaZ (e:=118) (c:=2) (pm:= []) (n:=L.length) (oi:=nmd oi) (sz:=2) (f:=Jcz L) (HB.refl _) rfl rfl rfl (.inr ⟨_,rfl⟩) (by kernel_rfl) (by kernel_rfl) (by kernel_rfl) (.inr rfl) (by kernel_rfl) (List.append_nil _).symm (Jz rfl) (by rw [Jj4];omega) Om,fun r h' hr=> ?_⟩
       obtain ⟨rfl,rfl⟩:=hr
       refine stp ?_
       intro c e;cases c
       ·have hne:¬q.conds.length=0:=fun h=> by
         have:=of_decide_eq_false (p:=(q.conds.length:Int)=0) e.symm
         omega
        rw [if_neg hne] at hL
        refine stp ?_
        exact back (i+1,L++ [q],some nx3,nx3+1) ⟨hi,by dsimp only;rw [List.append_assoc];exact hL,(fun h=> by cases h),by dsimp only;rw [List.length_append,List.length_singleton];omega⟩ Dm (Jq (bx:= []) (pm:= [((0,nx3),(L++ [q]).length * 2)]) _ _ rfl rfl (.cons _ Sf) Sf trivial ⟨rfl,by rw [List.length_append];rfl,trivial⟩ ⟨Rf,Rf,JgT (e:=Jcy) rfl rfl,Rf,Rf,Lw,trivial⟩)
       ·have he:q.conds.length=0:=by
         have:=of_decide_eq_true (p:=(q.conds.length:Int)=0) e.symm
         omega
        rw [if_pos he] at hL
        refine stp ?_
        exact ⟨(L++ [q],some nx3,nx3+1),⟨hL,(fun h=> by cases h),by dsimp only;rw [List.length_append,List.length_singleton];omega⟩,Jq (bx:= []) (pm:= [((0,nx3),(L++ [q]).length * 2)]) _ _ rfl rfl (.cons _ Sf) Sf trivial ⟨rfl,by rw [List.length_append];rfl,trivial⟩ ⟨Rf,Rf,JgT (e:=Jcy) rfl rfl,trivial⟩⟩
 ·rintro ⟨L,oi,nx1⟩ ⟨hL,h2,h3⟩
  dsimp only at hL h2 h3
  refine stp ?_
  refine Jy (fun y:Nat×Nat=> mk 62 [(2,u32 (d:Nat)),(7, .sl 2 y.1 (Jcz L))] ⟨[], [],y.2,0⟩)
   (fun y=> y.1≤L.length∧JkF d L=JkF d (L.take y.1)) (fun y=> y.1) ?_ ?_
  ·exact ⟨(L.length,nx1),⟨Nat.le_refl _,by rw [List.take_length]⟩,Jq (pm:= []) (bx:= []) _ [] rfl rfl Sf (List.nil_sublist _) trivial trivial ⟨Rf,AVle.os_sl,trivial⟩⟩
  ·rintro ⟨m,nx2⟩ ⟨hm,hcut⟩
   dsimp only at hm hcut
   refine stp ?_
   intro c g;cases c
   ·have g:=Ju g
    try dsimp only at g
    have hm0:m=0:=by omega
    subst hm0
    have hS:Jas a l d= []:=by unfold Jas;rw [← hL,hcut];rfl
    rw [hS]
    refine stp ?_
    exact Jj rfl trivial (AVle.sl_fun fun k hk=> absurd hk (Nat.not_lt_zero k))
   ·have g:=Jv g
    try dsimp only at g
    have hm0:0 < m:=by omega
    have hm1:IntKind.i64.wrap ((m:Int) - 1)=((m - 1:Nat):Int):=by rw [JaX Om Om];omega
    have htk:L.take m=L.take (m - 1)++ [L.getD (m - 1) JA]:=by
     obtain ⟨k,rfl⟩:∃k,m=k+1:=⟨m - 1,by omega⟩
     exact Jb2 JA Om
    refine stp ?_
    refine ⟨⟨Jc1 (i:=m - 1) hm1,Jdg (i:=m - 1) hm1 Om⟩,JP (b:= .rp (Jcy (L.getD (m - 1) JA)).cells) (congrArg (fun z:Int=> AV.rp (Jcz L z.toNat).cells) hm1) ?_⟩
    refine stp ?_
    intro c e;cases c
    ·have e:¬(L.getD (m - 1) JA).code=d:=fun h=> by
      have:=of_decide_eq_false (p:=((L.getD (m - 1) JA).code:Int)=d) e.symm
      omega
     rw [htk,Jlx,if_neg e,← htk] at hcut
     have hS:Jas a l d=L.take m:=by unfold Jas;rw [← hL,hcut]
     rw [hS]
     refine stp ?_
     exact Jj rfl trivial (JtN hm)
    ·have e:(L.getD (m - 1) JA).code=d:=by
      have:=of_decide_eq_true (p:=((L.getD (m - 1) JA).code:Int)=d) e.symm
      omega
     rw [htk,Jlx,if_pos e] at hcut
     refine stp ?_
     refine ⟨⟨Jc1 (i:=m - 1) hm1,by rw [hm1];dsimp only;omega⟩,JP (b:= .sl 2 (m - 1) (Jcz L)) (congrArg (fun z:Int=> AV.sl 2 z.toNat (Jcz L)) hm1) ?_⟩
     refine stp ?_
     exact back (m - 1,nx2) ⟨by dsimp only;omega,hcut⟩ Dm (Et rfl rfl trivial trivial ⟨Rf,Rf,trivial⟩)
end Go.Proofs.W

namespace Go.Proofs
open Go.Shelf Go.RowKit Go.Lib Go.Sort
shelf_lay_g SlLaysF0.n6 Slsf 6 at Tryz 51 as Tryz.sortEnt
shelf_lay_g SlLaysF0.n6 Slsf 6 at Tryz 54 as Tryz.sortSub
namespace W
theorem JuY (x:Nat) (w:World):Calls Tryz.prog 121 #[.int .u32 x] w fun e w'=> e= .returned (.bool false)∧w'=w:=by
 go_enter Tryz.func121,Tryz.ntmps121
 go_wp2
 go_ret
 exact ⟨by simp,rfl⟩
set_option maxHeartbeats 1000000 in
theorem JlO (x y:Nat) (w:World):Calls Tryz.prog 53 #[.int .u32 x, .int .u32 y] w fun e w'=> e= .returned (.int .i64 (Lib.compareInt x y))∧w'=w:=by
 go_enter Tryz.func53,Tryz.ntmps53
 go_wp2_with (go_at_call 121;refine (JuY _ _).mono ?_;rintro e w' ⟨rfl,hw⟩;rw [hw])
 all_goals (go_ret;refine ⟨?_,rfl⟩;unfold Lib.compareInt;(repeat' split) <;> first | rfl | (exfalso;omega))
set_option maxHeartbeats 1000000 in
theorem JvP (k1 k2:Nat) (v1 v2:Value) (W:World):Calls Tryz.prog 52 #[.agg #[.int .u32 k1,v1], .agg #[.int .u32 k2,v2]] W fun e w'=> e= .returned (.int .i64 (Lib.compareInt k1 k2))∧∃q os',w'=grow (W.drewN q) os':=by
 have hcon:=fun W'=> JlO k1 k2 W'
 generalize Lib.compareInt k1 k2=r at hcon⊢
 go_enter Tryz.func52,Tryz.ntmps52
 go_wp2_with (go_at_call 53;refine (hcon _).mono ?_;rintro e w' ⟨rfl,rfl⟩)
 go_ret
 exact ⟨rfl,0,_,by rw [alloc_eq_grow,alloc_eq_grow,grow_grow];rfl⟩
set_option maxHeartbeats 1000000 in
theorem JvQ (k1 k2:Nat) (v1 v2:Value) (W:World):Calls Tryz.prog 55 #[.agg #[.int .u32 k1,v1], .agg #[.int .u32 k2,v2]] W fun e w'=> e= .returned (.int .i64 (Lib.compareInt k1 k2))∧∃q os',w'=grow (W.drewN q) os':=by
 have hcon:=fun W'=> JlO k1 k2 W'
 generalize Lib.compareInt k1 k2=r at hcon⊢
 go_enter Tryz.func55,Tryz.ntmps55
 go_wp2_with (go_at_call 53;refine (hcon _).mono ?_;rintro e w' ⟨rfl,rfl⟩)
 go_ret
 exact ⟨rfl,0,_,by rw [alloc_eq_grow,alloc_eq_grow,grow_grow];rfl⟩
open Go.Vl
theorem Jdm {D:List (Nat×AV)} {tl:List AV} {nm s cap nx nn:Nat} (hone:∀x∈D,JaW x.2=true) (hl:D.length < 4611686018427387904):
 ECall Tryz.prog 51 [.hs (nm,s) 0 D.length cap, .fn (.func 52) [] []] ⟨[((nm,s), .c (Jt D++tl))], [],nx,nn⟩
  fun r h'=> r= .tup []∧∃cs',(∃D',D'.Perm D∧D'.Pairwise (fun a b=> a.1≤b.1)∧cs'=Jt D')∧h'=⟨[((nm,s), .c (cs'++tl))], [],nx,nn⟩:=by
 have eg:∀args w,(callFunc 52 args).run Tryz.prog w= .ok (.enter 52 args) w:=enters_of Tryz.func52 (by kernel_rfl) rfl
 refine Jis ⟨_,Tryz.func51,rfl,rfl⟩ hone fun d w blk hd hH hb=> ?_
 exact AnyQ.slices_SortFunc Tryz.sortEnt 2 Tryz.isAgg78 Tryz.sizeOf78 KX.enc (fun _=> rfl) KX.one KX.cmp KX.swo 52 #[] blk 0 cap d w eg (fun _ _ _ _ x y=> JvP _ _ _ _ _) hH hb Om
theorem Jhy {D:List (Nat×AV)} {tl:List AV} {nm s cap nx nn:Nat} (hone:∀x∈D,JaW x.2=true) (hl:D.length < 4611686018427387904):
 ECall Tryz.prog 54 [.hs (nm,s) 0 D.length cap, .fn (.func 55) [] []] ⟨[((nm,s), .c (Jt D++tl))], [],nx,nn⟩
  fun r h'=> r= .tup []∧∃cs',(∃D',D'.Perm D∧D'.Pairwise (fun a b=> a.1≤b.1)∧cs'=Jt D')∧h'=⟨[((nm,s), .c (cs'++tl))], [],nx,nn⟩:=by
 have eg:∀args w,(callFunc 55 args).run Tryz.prog w= .ok (.enter 55 args) w:=enters_of Tryz.func55 (by kernel_rfl) rfl
 refine Jis ⟨_,Tryz.func54,rfl,rfl⟩ hone fun d w blk hd hH hb=> ?_
 exact AnyQ.slices_SortFunc Tryz.sortSub 2 Tryz.isAgg120 Tryz.sizeOf120 KX.enc (fun _=> rfl) KX.one KX.cmp KX.swo 55 #[] blk 0 cap d w eg (fun _ _ _ _ x y=> JvQ _ _ _ _ _) hH hb Om
set_option maxRecDepth 100000
theorem JvR (n:Nat):Tells Tryz.prog 200 [Jey 2,int 0,int 0,fn0 n] (.tup []):=by
 refine Jg Tryz.func200 rfl rfl fun nx=> ?_
 refine stp ?_
 refine Jex ?_
 refine stp ?_
 exact Je rfl Rf
theorem JvS (n:Nat):Tells Tryz.prog 119 [Jey 2,int 0,int 0,int 0,fn0 n] (.tup []):=by
 refine Jg Tryz.func119 rfl rfl fun nx=> ?_
 refine stp ?_
 refine Jex ?_
 refine stp ?_
 refine Jd rfl rfl (JvR n) ⟨Rf,Rf,Rf,Rf,trivial⟩ fun nx=> ?_
 refine stp ?_
 exact Je rfl Rf
theorem JdK (n:Nat):Tells Tryz.prog 51 [Jey 2,fn0 n] (.tup []):=by
 refine Jg Tryz.func51 rfl rfl fun nx=> ?_
 refine stp ?_
 refine Jd rfl rfl Jqh ⟨Rf,trivial⟩ fun nx=> ?_
 refine stp ?_
 refine Jd rfl rfl (JvS n) ⟨Rf,Rf,Rf,Rf,Rf,trivial⟩ fun nx=> ?_
 refine stp ?_
 exact Je rfl Rf
theorem JvT (n:Nat):Tells Tryz.prog 210 [Jey 2,int 0,int 0,fn0 n] (.tup []):=by
 refine Jg Tryz.func210 rfl rfl fun nx=> ?_
 refine stp ?_
 refine Jex ?_
 refine stp ?_
 exact Je rfl Rf
theorem JvU (n:Nat):Tells Tryz.prog 122 [Jey 2,int 0,int 0,int 0,fn0 n] (.tup []):=by
 refine Jg Tryz.func122 rfl rfl fun nx=> ?_
 refine stp ?_
 refine Jex ?_
 refine stp ?_
 refine Jd rfl rfl (JvT n) ⟨Rf,Rf,Rf,Rf,trivial⟩ fun nx=> ?_
 refine stp ?_
 exact Je rfl Rf
theorem JiG (n:Nat):Tells Tryz.prog 54 [Jey 2,fn0 n] (.tup []):=by
 refine Jg Tryz.func54 rfl rfl fun nx=> ?_
 refine stp ?_
 refine Jd rfl rfl Jqh ⟨Rf,trivial⟩ fun nx=> ?_
 refine stp ?_
 refine Jd rfl rfl (JvU n) ⟨Rf,Rf,Rf,Rf,Rf,trivial⟩ fun nx=> ?_
 refine stp ?_
 exact Je rfl Rf
end W
end Go.Proofs
