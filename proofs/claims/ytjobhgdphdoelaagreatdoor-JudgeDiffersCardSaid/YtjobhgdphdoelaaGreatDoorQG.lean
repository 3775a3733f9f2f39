import Derived.Test.YtjobhgdphdoelaaGreatDoorQF
import Derived.Test.YtjobhgdphdoelaaGreatDoorQD
import Derived.Shelf.Strconv.Itoa3
import Derived.Shelf.Lay
import Derived.Ground.NamesProg
import Derived.Test.YtjobhgdphdoelaaGreatDoorProg
import Derived.Test.YtjobhgdphdoelaaGreatDoorQC
import Derived.Test.YtjobhgdphdoelaaGreatDoorQE
set_option linter.unusedVariables false
set_option linter.unusedSimpArgs false
namespace Go.Proofs.W
open Go.Vl
set_option maxRecDepth 100000
structure Rsn where
 some:Bool
 abi:Int
 name:ByteArray
 mux:Int
 out:Bool
 rule:Int
 code:Nat
def Jbq (x:Rsn):List AV:= [Jg x.some,int x.abi,Jj x.name,int x.mux,Jg x.out,int x.rule,u32 (x.code:Nat)]
def Jeq (x:Rsn):AV:= .ag (Jbq x)
def JgF:Rsn:=⟨false,0,⟨#[]⟩,0,false,0,0⟩
theorem Jse (x y:List AV) (l:List Rul) (p:Rul→Bool) (f:Nat) (hl:l.length≤1000000000) (hp:∀i,i < l.length→Tells Tryz.prog f (Jau (l.getD i Ju):: [.rp x, .rp y]) (Jg (p (l.getD i Ju)))):
 Tells Tryz.prog 64 [J8 l,(.fn (.func f) [] [.rp x, .rp y])] (int (JaV (l.findIdx? p))):=by
 refine Jc Tryz.func64 rfl rfl fun nx=> ?_
 refine stp ?_
 refine Jr (fun s:Nat×Nat=> mk 19 [(0,Jai 4 Jau Ju l),(1,(.fn (.func f) [] [.rp x, .rp y])),(7,int l.length),(8,int s.1)] ⟨[], [],s.2,0⟩) (fun s=> s.1≤l.length∧∀j,j < s.1→p (l.getD j Ju)=false) (fun s=> l.length - s.1) ?_ ?_
 ·exact ⟨(0,nx),⟨by simp,by intro j hj;simp at hj⟩,JH rfl rfl ⟨Rf,Rf,Rf,Rf,trivial⟩⟩
 ·rintro ⟨i,nx⟩ ⟨h1,h2⟩
  dsimp only at h1 h2
  refine stp ?_
  intro c h3;cases c
  ·have h3:=Jm h3
   dsimp only at h3
   refine stp ?_
   refine Ja rfl (Jd ?_)
   rw [JcE Ju (fun j hj=> h2 j Om)];rfl
  ·have h3:=Jl h3
   dsimp only at h3
   have hi:i < l.length:=by omega
   refine stp ?_
   refine ⟨⟨by dsimp only;omega,by dsimp only;omega⟩, ?_⟩
   refine stp ?_
   refine Jb rfl rfl (hp i hi) ⟨Rf,Rf,Rf,trivial⟩ fun nx'=> ?_
   intro c h4;cases c
   ·refine stp ?_
    refine back (i+1,nx') ⟨by dsimp only;omega,fun j hj=> ?_⟩ Dm (JH rfl rfl ⟨Rf,Rf,Rf,Jd (Jk Dm),trivial⟩)
    dsimp only at hj
    rcases Nat.lt_or_ge j i with h | h
    ·exact h2 j h
    ·obtain rfl:j=i:=by omega
     exact h4.symm
   ·refine stp ?_
    refine Ja rfl (Jd ?_)
    rw [JdS Ju hi h2 h4.symm];rfl
def JgG (c:CallR) (x:Nat→Nat) (r:Rul):Bool:=kS r.name c.name&& (c.muxed|| JeT x r)
def JcP (x:Nat→Nat):List AV:= [u64 (x 0:Nat),u64 (x 1:Nat),u64 (x 2:Nat),u64 (x 3:Nat),u64 (x 4:Nat),u64 (x 5:Nat)]
theorem Jsf (c:CallR) (x:Nat→Nat) (hx:∀i,x i < 18446744073709551616) (r:Rul) (hl:r.conds.length≤1000000000) (hc:∀c∈r.conds,c.ok):Tells Tryz.prog 65 [Jau r, .rp (Ja0 c), .rp (JcP x)] (Jg (JgG c x r)):=by
 have ha:=Jm5 x hx r.conds hl hc
 obtain ⟨so,ab,nm,mx⟩:=c
 unfold JgG
 dsimp only
 cases hk:kS r.name nm with
 | false=>
   refine Jc Tryz.func65 rfl rfl fun nx=> ?_
   refine stp ?_
   intro c hc
   obtain rfl:c=false:=hc.trans hk
   refine stp ?_
   exact Ja rfl Rf
 | true=>
   cases mx with
   | true=>
     refine Jc Tryz.func65 rfl rfl fun nx=> ?_
     refine stp ?_
     intro c hc
     obtain rfl:c=true:=hc.trans hk
     refine stp ?_
     exact Ja rfl Rf
   | false=>
     refine Jc Tryz.func65 rfl rfl fun nx=> ?_
     refine stp ?_
     intro c hc
     obtain rfl:c=true:=hc.trans hk
     refine stp ?_
     refine Jb rfl rfl ha ⟨Rf,Rf,trivial⟩ fun nx2=> ?_
     intro c hc
     refine stp ?_
     exact Ja rfl (Jn (by rw [hc];rfl))
def Jd7 (c:CallR) (p:Pol) (r:Rec) (v:Nat):Rsn:=
 let out:=c.some&& (decide (c.abi=1)&& !p.x32)
 let mux:Int:=if c.muxed then Jd1 r.num else 0
 if (!c.some|| out|| decide (c.name.size=0))=true then ⟨c.some,c.abi,c.name,mux,out,-1,v⟩ else
  let i:=p.rules.findIdx? (JgG c (Jap c.abi.toNat r))
  ⟨c.some,c.abi,c.name,mux,out,if (c.muxed&& match i with | some j=> decide ((p.rules.getD j Ju).conds.length > 0) | none=> false)=true then -1 else JaV i,v⟩
def Jqv (p:Pol) (l:List TRow) (r:Rec):Rsn×Int:=if (Jbt p l r).2≠0 then (JgF,(Jbt p l r).2) else (Jd7 (ofI l r) p r (Jbt p l r).1,0)
theorem JwK:Jfb Tryz.prog 97=some (Jbq JgF):=by kernel_rfl
theorem Jdq {x y:Rsn} (h:y=x):AVle (.tup [Jeq x,int 0]) (.tup [Jeq y,int 0]):=h ▸ Rf
theorem Jkr {α:Type} {l:List α} {p:α→Bool} {i:Nat} (h:l.findIdx? p=some i):i < l.length:=(List.findIdx?_eq_some_iff_getElem.1 h).1
theorem JjN {a:Int} (h:false=(a ==1)):¬a=1:=fun e=> by rw [e] at h;cases h
theorem JoV {a:Int} (h:true=(a ==1)):a=1:=by simpa using h.symm
theorem JdE {s:ByteArray} (h:(s.toList ==ByteArray.toList { data:= #[]})=true):s.size=0:=by
 have:=JwC.1 (show kS s { data:= #[]}=true from h)
 rw [this];rfl
theorem JdF {s:ByteArray} (h:(s.toList ==ByteArray.toList { data:= #[]})=false):s.size≠0:=fun e=> by
 have h0:s= { data:= #[]}:=ByteArray.ext (Array.eq_empty_of_size_eq_zero e)
 rw [h0,beq_self_eq_true] at h
 cases h
def JfU (mx:Bool) (r:Rec):Int:=if mx then Jd1 r.num else 0
theorem Jld {ab:Int} {nm:ByteArray} {mx:Bool} {p:Pol} {r:Rec} {v:Nat}:Jd7 ⟨false,ab,nm,mx⟩ p r v=⟨false,ab,nm,JfU mx r,false,-1,v⟩:=rfl
theorem Jni {ab:Int} {nm:ByteArray} {mx:Bool} {p:Pol} {r:Rec} {v:Nat} (h:(decide (ab=1)&& !p.x32)=true):Jd7 ⟨true,ab,nm,mx⟩ p r v=⟨true,ab,nm,JfU mx r,true,-1,v⟩:=by
 unfold Jd7
 dsimp only
 rw [h]
 rfl
theorem Jer {ab:Int} {nm:ByteArray} {mx:Bool} {p:Pol} {r:Rec} {v:Nat} (h:(decide (ab=1)&& !p.x32)=false) (hn:nm.size=0):Jd7 ⟨true,ab,nm,mx⟩ p r v=⟨true,ab,nm,JfU mx r,false,-1,v⟩:=by
 unfold Jd7
 dsimp only
 rw [h,hn]
 rfl
def JjO (mx:Bool) (rs:List Rul) (i:Option Nat):Int:=if (mx&& match i with | some j=> decide ((rs.getD j Ju).conds.length > 0) | none=> false)=true then -1 else JaV i
theorem Jbh {ab:Int} {nm:ByteArray} {mx:Bool} {p:Pol} {r:Rec} {v:Nat} {i:Option Nat} (h:(decide (ab=1)&& !p.x32)=false) (hn:nm.size≠0) (hi:p.rules.findIdx? (JgG ⟨true,ab,nm,mx⟩ (Jap ab.toNat r))=i):Jd7 ⟨true,ab,nm,mx⟩ p r v=⟨true,ab,nm,JfU mx r,false,JjO mx p.rules i,v⟩:=by
 unfold Jd7
 dsimp only
 rw [h,decide_eq_false hn,hi]
 rfl
theorem Jqw {ab:Int} {x:Bool} (h:¬ab=1):(decide (ab=1)&& !x)=false:=by rw [decide_eq_false h];rfl
theorem JvY {ab:Int} (h:ab=1):(decide (ab=1)&& !false)=true:=by rw [decide_eq_true h];rfl
theorem JvZ {ab:Int}:(decide (ab=1)&& !true)=false:=by rw [Bool.not_true,Bool.and_false]
theorem JiO {rs:List Rul} {j:Nat} (h:(((rs.getD j Ju).conds.length:Nat):Int) > 0):JjO true rs (some j)=-1:=by
 unfold JjO
 refine if_pos ?_
 dsimp only
 rw [Bool.true_and,decide_eq_true_iff]
 omega
theorem Jks {rs:List Rul} {j:Nat} (h:¬(((rs.getD j Ju).conds.length:Nat):Int) > 0):JjO true rs (some j)=JaV (some j):=by
 unfold JjO
 refine if_neg ?_
 dsimp only
 rw [Bool.true_and,decide_eq_true_iff]
 omega
theorem Jb4 {so ou:Bool} {ab mu a b:Int} {nm:ByteArray} {v:Nat} {y:Rsn} (h:y=⟨so,ab,nm,mu,ou,b,v⟩) (e:b=a):AVle (.tup [Jeq ⟨so,ab,nm,mu,ou,a,v⟩,int 0]) (.tup [Jeq y,int 0]):=by subst h;subst e;exact Rf
set_option maxHeartbeats 8000000 in
theorem Jsg (k n:Int) (x32:Bool) (rs:List Rul) (l:List TRow) (r:Rec) (v:Nat) (ab:Int) (nm:ByteArray) (hj:Tells Tryz.prog 20 [Jar ⟨(k,n),x32,rs⟩,Js l,Jag r] (.tup [u32 (v:Nat),int 0])) (hmx:Tells Tryz.prog 61 [Js l,Jag r] (JgC ⟨false,ab,nm,false⟩)):
 Tells Tryz.prog 30 [Jar ⟨(k,n),x32,rs⟩,Js l,Jag r] (.tup [Jeq (Jd7 ⟨false,ab,nm,false⟩ ⟨(k,n),x32,rs⟩ r v),int 0]):=by
 refine Jc Tryz.func30 rfl rfl fun nx=> ?_
 refine stp ?_
 refine Jb rfl rfl hj ⟨Rf,Rf,Rf,trivial⟩ fun nx2=> ?_
 refine stp ?_
 refine Jb rfl rfl hmx ⟨Rf,Rf,trivial⟩ fun nx3=> ?_
 refine stp ?_
 (refine Ji rfl ?_ ?_;(· exact ⟨rfl,trivial⟩));exact Jdq (Jld (mx:=false) (r:=r))
set_option maxHeartbeats 8000000 in
theorem Jqx (k n:Int) (rs:List Rul) (l:List TRow) (r:Rec) (v:Nat) (ab:Int) (nm:ByteArray) (i:Option Nat) (hj:Tells Tryz.prog 20 [Jar ⟨(k,n),false,rs⟩,Js l,Jag r] (.tup [u32 (v:Nat),int 0])) (hmx:Tells Tryz.prog 61 [Js l,Jag r] (JgC ⟨true,ab,nm,false⟩))
 (hag:Tells Tryz.prog 63 [int ab,Jag r] (Jfk (Jap ab.toNat r))) (hi:rs.findIdx? (JgG ⟨true,ab,nm,false⟩ (Jap ab.toNat r))=i) (hix:Tells Tryz.prog 64 [J8 rs,(.fn (.func 65) [] [.rp (Ja0 ⟨true,ab,nm,false⟩), .rp (JcP (Jap ab.toNat r))])] (int (JaV i))):
 Tells Tryz.prog 30 [Jar ⟨(k,n),false,rs⟩,Js l,Jag r] (.tup [Jeq (Jd7 ⟨true,ab,nm,false⟩ ⟨(k,n),false,rs⟩ r v),int 0]):=by
 refine Jc Tryz.func30 rfl rfl fun nx=> ?_
 refine stp ?_
 refine Jb rfl rfl hj ⟨Rf,Rf,Rf,trivial⟩ fun nx2=> ?_
 refine stp ?_
 refine Jb rfl rfl hmx ⟨Rf,Rf,trivial⟩ fun nx3=> ?_
 refine stp ?_
 intro c t1;cases c
 ·have hX:(decide (ab=1)&& !false)=false:=Jqw (JjN t1)
  refine stp ?_
  intro c hc
  cases c
  rotate_left
  ·refine stp ?_
   (refine Ji rfl ?_ ?_;(· exact ⟨rfl,trivial⟩));exact Jdq (Jer (p:=⟨(k,n),false,rs⟩) (mx:=false) (r:=r) hX (JdE hc.symm))
  ·have hnm:nm.size≠0:=JdF hc.symm
   refine stp ?_
   refine Jb rfl rfl hag ⟨Rf,Rf,trivial⟩ fun nx5=> ?_
   refine Jt ?_
   refine J4 (n:=95) (nx:=nx5+1) (nn:=6) (pm:= []) (bx:= [((4,nx3+1), .c (Jbq ⟨true,ab,nm,JfU false r,false,-1,v⟩)),((2,nx+2), .c (Jbq JgF)),((1,nx+1), .c (Jaj r)),((0,nx), .c [int k,int n,Jg false,J8 rs])]) (L:= [(1,Js l),(3, .bp (0,nx) 0),(5, .bp (1,nx+1) 0),(6, .bp (2,nx+2) 0),(7,int 0),(8,u32 (v:Nat)),(9,int 0),(10, .rp (Ja0 ⟨true,ab,nm,false⟩)),(11, .bp (4,nx3+1) 0),(12, .rp (JcP (Jap ab.toNat r)))]) (df:=some []) [((5,nx5), .c (JcP (Jap ab.toNat r))),((3,nx3), .c (Ja0 ⟨true,ab,nm,false⟩))] rfl rfl rfl (.cons _ (.swap _ _ _)) Sf ⟨Frz.refl _,Frz.refl _,Frz.refl _,Frz.refl _,Frz.refl _,Frz.refl _,Frz.refl _,Frz.bp (.tail _ (.head _)) rfl,Frz.refl _,Frz.bp (.head _) rfl,trivial⟩ ?_
   refine stp ?_
   refine Jb rfl rfl hix ⟨Rf,Rf,trivial⟩ fun nx6=> ?_
   refine stp ?_
   (refine Ji rfl ?_ ?_;(· exact ⟨rfl,trivial⟩));exact Jb4 (Jbh (p:=⟨(k,n),false,rs⟩) hX hnm hi) rfl
 ·refine stp ?_
  (refine Ji rfl ?_ ?_;(· exact ⟨rfl,trivial⟩));exact Jdq (Jni (p:=⟨(k,n),false,rs⟩) (mx:=false) (r:=r) (JvY (ab:=ab) (JoV t1)))
set_option maxHeartbeats 8000000 in
theorem Jqy (k n:Int) (rs:List Rul) (l:List TRow) (r:Rec) (v:Nat) (ab:Int) (nm:ByteArray) (i:Option Nat) (hj:Tells Tryz.prog 20 [Jar ⟨(k,n),true,rs⟩,Js l,Jag r] (.tup [u32 (v:Nat),int 0])) (hmx:Tells Tryz.prog 61 [Js l,Jag r] (JgC ⟨true,ab,nm,false⟩))
 (hag:Tells Tryz.prog 63 [int ab,Jag r] (Jfk (Jap ab.toNat r))) (hi:rs.findIdx? (JgG ⟨true,ab,nm,false⟩ (Jap ab.toNat r))=i) (hix:Tells Tryz.prog 64 [J8 rs,(.fn (.func 65) [] [.rp (Ja0 ⟨true,ab,nm,false⟩), .rp (JcP (Jap ab.toNat r))])] (int (JaV i))):
 Tells Tryz.prog 30 [Jar ⟨(k,n),true,rs⟩,Js l,Jag r] (.tup [Jeq (Jd7 ⟨true,ab,nm,false⟩ ⟨(k,n),true,rs⟩ r v),int 0]):=by
 refine Jc Tryz.func30 rfl rfl fun nx=> ?_
 refine stp ?_
 refine Jb rfl rfl hj ⟨Rf,Rf,Rf,trivial⟩ fun nx2=> ?_
 refine stp ?_
 refine Jb rfl rfl hmx ⟨Rf,Rf,trivial⟩ fun nx3=> ?_
 refine stp ?_
 intro c t1;cases c
 ·have hX:(decide (ab=1)&& !true)=false:=Jqw (JjN t1)
  refine stp ?_
  intro c hc
  cases c
  rotate_left
  ·refine stp ?_
   (refine Ji rfl ?_ ?_;(· exact ⟨rfl,trivial⟩));exact Jdq (Jer (p:=⟨(k,n),true,rs⟩) (mx:=false) (r:=r) hX (JdE hc.symm))
  ·have hnm:nm.size≠0:=JdF hc.symm
   refine stp ?_
   refine Jb rfl rfl hag ⟨Rf,Rf,trivial⟩ fun nx5=> ?_
   refine Jt ?_
   refine J4 (n:=95) (nx:=nx5+1) (nn:=6) (pm:= []) (bx:= [((4,nx3+1), .c (Jbq ⟨true,ab,nm,JfU false r,false,-1,v⟩)),((2,nx+2), .c (Jbq JgF)),((1,nx+1), .c (Jaj r)),((0,nx), .c [int k,int n,Jg true,J8 rs])]) (L:= [(1,Js l),(3, .bp (0,nx) 0),(5, .bp (1,nx+1) 0),(6, .bp (2,nx+2) 0),(7,int 0),(8,u32 (v:Nat)),(9,int 0),(10, .rp (Ja0 ⟨true,ab,nm,false⟩)),(11, .bp (4,nx3+1) 0),(12, .rp (JcP (Jap ab.toNat r)))]) (df:=some []) [((5,nx5), .c (JcP (Jap ab.toNat r))),((3,nx3), .c (Ja0 ⟨true,ab,nm,false⟩))] rfl rfl rfl (.cons _ (.swap _ _ _)) Sf ⟨Frz.refl _,Frz.refl _,Frz.refl _,Frz.refl _,Frz.refl _,Frz.refl _,Frz.refl _,Frz.bp (.tail _ (.head _)) rfl,Frz.refl _,Frz.bp (.head _) rfl,trivial⟩ ?_
   refine stp ?_
   refine Jb rfl rfl hix ⟨Rf,Rf,trivial⟩ fun nx6=> ?_
   refine stp ?_
   (refine Ji rfl ?_ ?_;(· exact ⟨rfl,trivial⟩));exact Jb4 (Jbh (p:=⟨(k,n),true,rs⟩) hX hnm hi) rfl
 ·have hX:=JvZ (ab:=ab)
  refine stp ?_
  intro c hc
  cases c
  rotate_left
  ·refine stp ?_
   (refine Ji rfl ?_ ?_;(· exact ⟨rfl,trivial⟩));exact Jdq (Jer (p:=⟨(k,n),true,rs⟩) (mx:=false) (r:=r) hX (JdE hc.symm))
  ·have hnm:nm.size≠0:=JdF hc.symm
   refine stp ?_
   refine Jb rfl rfl hag ⟨Rf,Rf,trivial⟩ fun nx5=> ?_
   refine Jt ?_
   refine J4 (n:=95) (nx:=nx5+1) (nn:=6) (pm:= []) (bx:= [((4,nx3+1), .c (Jbq ⟨true,ab,nm,JfU false r,false,-1,v⟩)),((2,nx+2), .c (Jbq JgF)),((1,nx+1), .c (Jaj r)),((0,nx), .c [int k,int n,Jg true,J8 rs])]) (L:= [(1,Js l),(3, .bp (0,nx) 0),(5, .bp (1,nx+1) 0),(6, .bp (2,nx+2) 0),(7,int 0),(8,u32 (v:Nat)),(9,int 0),(10, .rp (Ja0 ⟨true,ab,nm,false⟩)),(11, .bp (4,nx3+1) 0),(12, .rp (JcP (Jap ab.toNat r)))]) (df:=some []) [((5,nx5), .c (JcP (Jap ab.toNat r))),((3,nx3), .c (Ja0 ⟨true,ab,nm,false⟩))] rfl rfl rfl (.cons _ (.swap _ _ _)) Sf ⟨Frz.refl _,Frz.refl _,Frz.refl _,Frz.refl _,Frz.refl _,Frz.refl _,Frz.refl _,Frz.bp (.tail _ (.head _)) rfl,Frz.refl _,Frz.bp (.head _) rfl,trivial⟩ ?_
   refine stp ?_
   refine Jb rfl rfl hix ⟨Rf,Rf,trivial⟩ fun nx6=> ?_
   refine stp ?_
   (refine Ji rfl ?_ ?_;(· exact ⟨rfl,trivial⟩));exact Jb4 (Jbh (p:=⟨(k,n),true,rs⟩) hX hnm hi) rfl
set_option maxHeartbeats 8000000 in
theorem Jsh (k n:Int) (x32:Bool) (rs:List Rul) (l:List TRow) (r:Rec) (v:Nat) (ab:Int) (nm:ByteArray) (hj:Tells Tryz.prog 20 [Jar ⟨(k,n),x32,rs⟩,Js l,Jag r] (.tup [u32 (v:Nat),int 0])) (hmx:Tells Tryz.prog 61 [Js l,Jag r] (JgC ⟨false,ab,nm,true⟩)):
 Tells Tryz.prog 30 [Jar ⟨(k,n),x32,rs⟩,Js l,Jag r] (.tup [Jeq (Jd7 ⟨false,ab,nm,true⟩ ⟨(k,n),x32,rs⟩ r v),int 0]):=by
 refine Jc Tryz.func30 rfl rfl fun nx=> ?_
 refine stp ?_
 refine Jb rfl rfl hj ⟨Rf,Rf,Rf,trivial⟩ fun nx2=> ?_
 refine stp ?_
 refine Jb rfl rfl hmx ⟨Rf,Rf,trivial⟩ fun nx3=> ?_
 refine stp ?_
 refine Jb rfl rfl (Jct r.num) ⟨Rf,trivial⟩ fun nx4=> ?_
 refine stp ?_
 (refine Ji rfl ?_ ?_;(· exact ⟨rfl,trivial⟩));exact Jdq (Jld (mx:=true) (r:=r))
set_option maxHeartbeats 8000000 in
theorem Jqz (k n:Int) (rs:List Rul) (l:List TRow) (r:Rec) (v:Nat) (ab:Int) (nm:ByteArray) (i:Option Nat) (hj:Tells Tryz.prog 20 [Jar ⟨(k,n),false,rs⟩,Js l,Jag r] (.tup [u32 (v:Nat),int 0])) (hmx:Tells Tryz.prog 61 [Js l,Jag r] (JgC ⟨true,ab,nm,true⟩))
 (hag:Tells Tryz.prog 63 [int ab,Jag r] (Jfk (Jap ab.toNat r))) (hi:rs.findIdx? (JgG ⟨true,ab,nm,true⟩ (Jap ab.toNat r))=i) (hix:Tells Tryz.prog 64 [J8 rs,(.fn (.func 65) [] [.rp (Ja0 ⟨true,ab,nm,true⟩), .rp (JcP (Jap ab.toNat r))])] (int (JaV i))):
 Tells Tryz.prog 30 [Jar ⟨(k,n),false,rs⟩,Js l,Jag r] (.tup [Jeq (Jd7 ⟨true,ab,nm,true⟩ ⟨(k,n),false,rs⟩ r v),int 0]):=by
 refine Jc Tryz.func30 rfl rfl fun nx=> ?_
 refine stp ?_
 refine Jb rfl rfl hj ⟨Rf,Rf,Rf,trivial⟩ fun nx2=> ?_
 refine stp ?_
 refine Jb rfl rfl hmx ⟨Rf,Rf,trivial⟩ fun nx3=> ?_
 refine stp ?_
 intro c t1;cases c
 ·have hX:(decide (ab=1)&& !false)=false:=Jqw (JjN t1)
  refine stp ?_
  refine Jb rfl rfl (Jct r.num) ⟨Rf,trivial⟩ fun nx4=> ?_
  refine stp ?_
  intro c hc
  cases c
  rotate_left
  ·refine stp ?_
   (refine Ji rfl ?_ ?_;(· exact ⟨rfl,trivial⟩));exact Jdq (Jer (p:=⟨(k,n),false,rs⟩) (mx:=true) (r:=r) hX (JdE hc.symm))
  ·have hnm:nm.size≠0:=JdF hc.symm
   refine stp ?_
   refine Jb rfl rfl hag ⟨Rf,Rf,trivial⟩ fun nx5=> ?_
   refine Jt ?_
   refine J4 (n:=95) (nx:=nx5+1) (nn:=6) (pm:= []) (bx:= [((4,nx3+1), .c (Jbq ⟨true,ab,nm,JfU true r,false,-1,v⟩)),((2,nx+2), .c (Jbq JgF)),((1,nx+1), .c (Jaj r)),((0,nx), .c [int k,int n,Jg false,J8 rs])]) (L:= [(1,Js l),(3, .bp (0,nx) 0),(5, .bp (1,nx+1) 0),(6, .bp (2,nx+2) 0),(7,int 0),(8,u32 (v:Nat)),(9,int 0),(10, .rp (Ja0 ⟨true,ab,nm,true⟩)),(11, .bp (4,nx3+1) 0),(12, .rp (JcP (Jap ab.toNat r)))]) (df:=some []) [((5,nx5), .c (JcP (Jap ab.toNat r))),((3,nx3), .c (Ja0 ⟨true,ab,nm,true⟩))] rfl rfl rfl (.cons _ (.swap _ _ _)) Sf ⟨Frz.refl _,Frz.refl _,Frz.refl _,Frz.refl _,Frz.refl _,Frz.refl _,Frz.refl _,Frz.bp (.tail _ (.head _)) rfl,Frz.refl _,Frz.bp (.head _) rfl,trivial⟩ ?_
   refine stp ?_
   refine Jb rfl rfl hix ⟨Rf,Rf,trivial⟩ fun nx6=> ?_
   cases i with
   | none=>
     refine stp ?_
     (refine Ji rfl ?_ ?_;(· exact ⟨rfl,trivial⟩));exact Jb4 (Jbh (p:=⟨(k,n),false,rs⟩) hX hnm hi) rfl
   | some j=>
     have hj:=Jkr hi
     refine stp ?_
     refine Jh (b:=int j) rfl ?_
     refine stp ?_
     refine ⟨⟨by omega,by omega⟩, ?_⟩
     refine stp ?_
     intro c t3;cases c
     ·refine stp ?_
      (refine Ji rfl ?_ ?_;(· exact ⟨rfl,trivial⟩));exact Jb4 (Jbh (p:=⟨(k,n),false,rs⟩) hX hnm hi) (Jks (Jm t3))
     ·refine stp ?_
      (refine Ji rfl ?_ ?_;(· exact ⟨rfl,trivial⟩));exact Jb4 (Jbh (p:=⟨(k,n),false,rs⟩) hX hnm hi) (JiO (Jl t3))
 ·refine stp ?_
  refine Jb rfl rfl (Jct r.num) ⟨Rf,trivial⟩ fun nx4=> ?_
  refine stp ?_
  (refine Ji rfl ?_ ?_;(· exact ⟨rfl,trivial⟩));exact Jdq (Jni (p:=⟨(k,n),false,rs⟩) (mx:=true) (r:=r) (JvY (ab:=ab) (JoV t1)))
set_option maxHeartbeats 8000000 in
theorem JqA (k n:Int) (rs:List Rul) (l:List TRow) (r:Rec) (v:Nat) (ab:Int) (nm:ByteArray) (i:Option Nat) (hj:Tells Tryz.prog 20 [Jar ⟨(k,n),true,rs⟩,Js l,Jag r] (.tup [u32 (v:Nat),int 0])) (hmx:Tells Tryz.prog 61 [Js l,Jag r] (JgC ⟨true,ab,nm,true⟩))
 (hag:Tells Tryz.prog 63 [int ab,Jag r] (Jfk (Jap ab.toNat r))) (hi:rs.findIdx? (JgG ⟨true,ab,nm,true⟩ (Jap ab.toNat r))=i) (hix:Tells Tryz.prog 64 [J8 rs,(.fn (.func 65) [] [.rp (Ja0 ⟨true,ab,nm,true⟩), .rp (JcP (Jap ab.toNat r))])] (int (JaV i))):
 Tells Tryz.prog 30 [Jar ⟨(k,n),true,rs⟩,Js l,Jag r] (.tup [Jeq (Jd7 ⟨true,ab,nm,true⟩ ⟨(k,n),true,rs⟩ r v),int 0]):=by
 refine Jc Tryz.func30 rfl rfl fun nx=> ?_
 refine stp ?_
 refine Jb rfl rfl hj ⟨Rf,Rf,Rf,trivial⟩ fun nx2=> ?_
 refine stp ?_
 refine Jb rfl rfl hmx ⟨Rf,Rf,trivial⟩ fun nx3=> ?_
 refine stp ?_
 intro c t1;cases c
 ·have hX:(decide (ab=1)&& !true)=false:=Jqw (JjN t1)
  refine stp ?_
  refine Jb rfl rfl (Jct r.num) ⟨Rf,trivial⟩ fun nx4=> ?_
  refine stp ?_
  intro c hc
  cases c
  rotate_left
  ·refine stp ?_
   (refine Ji rfl ?_ ?_;(· exact ⟨rfl,trivial⟩));exact Jdq (Jer (p:=⟨(k,n),true,rs⟩) (mx:=true) (r:=r) hX (JdE hc.symm))
  ·have hnm:nm.size≠0:=JdF hc.symm
   refine stp ?_
   refine Jb rfl rfl hag ⟨Rf,Rf,trivial⟩ fun nx5=> ?_
   refine Jt ?_
   refine J4 (n:=95) (nx:=nx5+1) (nn:=6) (pm:= []) (bx:= [((4,nx3+1), .c (Jbq ⟨true,ab,nm,JfU true r,false,-1,v⟩)),((2,nx+2), .c (Jbq JgF)),((1,nx+1), .c (Jaj r)),((0,nx), .c [int k,int n,Jg true,J8 rs])]) (L:= [(1,Js l),(3, .bp (0,nx) 0),(5, .bp (1,nx+1) 0),(6, .bp (2,nx+2) 0),(7,int 0),(8,u32 (v:Nat)),(9,int 0),(10, .rp (Ja0 ⟨true,ab,nm,true⟩)),(11, .bp (4,nx3+1) 0),(12, .rp (JcP (Jap ab.toNat r)))]) (df:=some []) [((5,nx5), .c (JcP (Jap ab.toNat r))),((3,nx3), .c (Ja0 ⟨true,ab,nm,true⟩))] rfl rfl rfl (.cons _ (.swap _ _ _)) Sf ⟨Frz.refl _,Frz.refl _,Frz.refl _,Frz.refl _,Frz.refl _,Frz.refl _,Frz.refl _,Frz.bp (.tail _ (.head _)) rfl,Frz.refl _,Frz.bp (.head _) rfl,trivial⟩ ?_
   refine stp ?_
   refine Jb rfl rfl hix ⟨Rf,Rf,trivial⟩ fun nx6=> ?_
   cases i with
   | none=>
     refine stp ?_
     (refine Ji rfl ?_ ?_;(· exact ⟨rfl,trivial⟩));exact Jb4 (Jbh (p:=⟨(k,n),true,rs⟩) hX hnm hi) rfl
   | some j=>
     have hj:=Jkr hi
     refine stp ?_
     refine Jh (b:=int j) rfl ?_
     refine stp ?_
     refine ⟨⟨by omega,by omega⟩, ?_⟩
     refine stp ?_
     intro c t3;cases c
     ·refine stp ?_
      (refine Ji rfl ?_ ?_;(· exact ⟨rfl,trivial⟩));exact Jb4 (Jbh (p:=⟨(k,n),true,rs⟩) hX hnm hi) (Jks (Jm t3))
     ·refine stp ?_
      (refine Ji rfl ?_ ?_;(· exact ⟨rfl,trivial⟩));exact Jb4 (Jbh (p:=⟨(k,n),true,rs⟩) hX hnm hi) (JiO (Jl t3))
 ·have hX:=JvZ (ab:=ab)
  refine stp ?_
  refine Jb rfl rfl (Jct r.num) ⟨Rf,trivial⟩ fun nx4=> ?_
  refine stp ?_
  intro c hc
  cases c
  rotate_left
  ·refine stp ?_
   (refine Ji rfl ?_ ?_;(· exact ⟨rfl,trivial⟩));exact Jdq (Jer (p:=⟨(k,n),true,rs⟩) (mx:=true) (r:=r) hX (JdE hc.symm))
  ·have hnm:nm.size≠0:=JdF hc.symm
   refine stp ?_
   refine Jb rfl rfl hag ⟨Rf,Rf,trivial⟩ fun nx5=> ?_
   refine Jt ?_
   refine J4 (n:=95) (nx:=nx5+1) (nn:=6) (pm:= []) (bx:= [((4,nx3+1), .c (Jbq ⟨true,ab,nm,JfU true r,false,-1,v⟩)),((2,nx+2), .c (Jbq JgF)),((1,nx+1), .c (Jaj r)),((0,nx), .c [int k,int n,Jg true,J8 rs])]) (L:= [(1,Js l),(3, .bp (0,nx) 0),(5, .bp (1,nx+1) 0),(6, .bp (2,nx+2) 0),(7,int 0),(8,u32 (v:Nat)),(9,int 0),(10, .rp (Ja0 ⟨true,ab,nm,true⟩)),(11, .bp (4,nx3+1) 0),(12, .rp (JcP (Jap ab.toNat r)))]) (df:=some []) [((5,nx5), .c (JcP (Jap ab.toNat r))),((3,nx3), .c (Ja0 ⟨true,ab,nm,true⟩))] rfl rfl rfl (.cons _ (.swap _ _ _)) Sf ⟨Frz.refl _,Frz.refl _,Frz.refl _,Frz.refl _,Frz.refl _,Frz.refl _,Frz.refl _,Frz.bp (.tail _ (.head _)) rfl,Frz.refl _,Frz.bp (.head _) rfl,trivial⟩ ?_
   refine stp ?_
   refine Jb rfl rfl hix ⟨Rf,Rf,trivial⟩ fun nx6=> ?_
   cases i with
   | none=>
     refine stp ?_
     (refine Ji rfl ?_ ?_;(· exact ⟨rfl,trivial⟩));exact Jb4 (Jbh (p:=⟨(k,n),true,rs⟩) hX hnm hi) rfl
   | some j=>
     have hj:=Jkr hi
     refine stp ?_
     refine Jh (b:=int j) rfl ?_
     refine stp ?_
     refine ⟨⟨by omega,by omega⟩, ?_⟩
     refine stp ?_
     intro c t3;cases c
     ·refine stp ?_
      (refine Ji rfl ?_ ?_;(· exact ⟨rfl,trivial⟩));exact Jb4 (Jbh (p:=⟨(k,n),true,rs⟩) hX hnm hi) (Jks (Jm t3))
     ·refine stp ?_
      (refine Ji rfl ?_ ?_;(· exact ⟨rfl,trivial⟩));exact Jb4 (Jbh (p:=⟨(k,n),true,rs⟩) hX hnm hi) (JiO (Jl t3))
theorem JtN (p:Pol) (l:List TRow) (r:Rec) (hp:Je2 p) (hpk:p.ok) (hl:l.length≤1000000) (hn:∀q∈l,q.name.size≤maxLen) (hr:r.ok):Tells Tryz.prog 30 [Jar p,Js l,Jag r] (.tup [Jeq (Jqv p l r).1,int (Jqv p l r).2]):=by
 have hj:=Jhy p l r hp hpk hl hn hr
 have hmx:=JjA l r hr Om
 unfold Jqv
 generalize Jbt p l r=J at hj
 obtain ⟨v,e⟩:=J
 obtain ⟨⟨k,n⟩,x32,rs⟩:=p
 by_cases he:e=0
 ·subst he
  rw [if_neg (by simp)]
  dsimp only at hj⊢
  have hab:(ofI l r).some=true→(ofI l r).abi=((ofI l r).abi.toNat:Int)∧(ofI l r).abi.toNat < 5:=by
   unfold ofI
   cases hs:JcG r.arch r.num with
   | none=> intro h;cases h
   | some a=>
     have:=JhV hs
     dsimp only
     split <;> intro _ <;> exact ⟨by simp,by simpa using this⟩
  generalize ofI l r=c at hmx hab
  have hw:=fun i (hi:i < rs.length)=> Jsf c (Jap c.abi.toNat r) (fun i=> JoR hr _ i) (rs.getD i Ju) (Nat.le_trans (hp.2 (rs.getD i Ju) (by simp [List.getD,hi])).1 Dc) (hp.2 (rs.getD i Ju) (by simp [List.getD,hi])).2
  have hix:=Jse (Ja0 c) (JcP (Jap c.abi.toNat r)) rs (JgG c (Jap c.abi.toNat r)) 65 (Nat.le_trans hp.1 Dc) hw
  obtain ⟨so,ab,nm,mx⟩:=c
  dsimp only at hab hix
  cases so with
  | false=>
    cases mx
    ·exact Jsg k n x32 rs l r v ab nm hj hmx
    ·exact Jsh k n x32 rs l r v ab nm hj hmx
  | true=>
    obtain ⟨ha1,ha2⟩:=hab rfl
    have hag:=Jhh ab.toNat ha2 r hr
    rw [← ha1] at hag
    cases mx <;> cases x32
    ·exact Jqx k n rs l r v ab nm _ hj hmx hag rfl hix
    ·exact Jqy k n rs l r v ab nm _ hj hmx hag rfl hix
    ·exact Jqz k n rs l r v ab nm _ hj hmx hag rfl hix
    ·exact JqA k n rs l r v ab nm _ hj hmx hag rfl hix
 ·rw [if_pos he]
  refine Jc Tryz.func30 rfl rfl fun nx=> ?_
  refine stp ?_
  refine Jb rfl rfl hj ⟨Rf,Rf,Rf,trivial⟩ fun nx2=> ?_
  refine stp ?_
  intro c t1;cases c
  ·exact absurd (by simpa using t1.symm) he
  ·refine stp ?_
   exact Ji rfl ⟨rfl,trivial⟩ Rf
end Go.Proofs.W

namespace Go.Proofs.W
open Go.Vl
set_option maxRecDepth 100000
end Go.Proofs.W

namespace Go.Proofs
open Go.Shelf
shelf_lay LaysM.n171 Nm 171 at Tryz as Tryz.laysM171
end Go.Proofs
namespace Go.Proofs.W
open Go.Vl Go.Shelf Go.RowKit
set_option maxRecDepth 100000
theorem Ju6 {w : World} (h : Kn w none2) : Lib.TabIs Tryz.prog w "internal/strconv.uint64pow10" .u64 Lib.pow10Tab := by
 obtain ⟨⟨e,fz,h1⟩,_⟩:=h (0,(Go.Lib.pow10Tab.map fun z=> Value.int .u64 z).toArray) (by unfold Jsr;exact List.mem_cons_self)
 unfold Lib.TabIs World.var?
 rw [show Tryz.prog.globalNamed "internal/strconv.uint64pow10" = some 0 from by kernel_rfl]
 simp only [Option.bind_some]
 rw [h1]
theorem Jsi {W : World} (h : Lib.TabIs Tryz.prog W "internal/strconv.uint64pow10" .u64 Lib.pow10Tab) : Kn W none2 := by
 unfold Lib.TabIs World.var? at h
 rw [show Tryz.prog.globalNamed "internal/strconv.uint64pow10" = some 0 from by kernel_rfl, Option.bind_some] at h
 intro p hp
 unfold Jsr at hp
 obtain rfl:=List.mem_singleton.1 hp
 refine ⟨?_,fun _ h=> h⟩
 split at h
 ·rename_i cs e fz hb
  cases h
  exact ⟨_,_,hb⟩
 ·cases h
theorem Jis (w:World):∀n,Below w.heap.size w (w.drewN n)
 | 0=> Below.refl _ _
 | n+1=> (Jis w n).drew
theorem Joq (w:World) (k:Nat) (os:Array Obj):Below w.heap.size w (Sort.grow (w.drewN k) os):=by
 have h:=Jis w k
 refine ⟨h.os,h.tape,h.output,Nat.le_trans h.size (by simp [Sort.grow]),fun j hj=> ?_⟩
 rw [Sort.heap_grow_old _ _ (Nat.lt_of_lt_of_le hj h.size)]
 exact h.block j hj
def JiP (n:Nat):ByteArray:=⟨(Lib.decDigits n).toArray⟩
theorem JtO (n:Nat):Lib.itoa (n:Int)=Lib.decDigits n:=by
 unfold Lib.itoa
 rw [if_neg Om]
 rfl
theorem Jle (n:Nat) (hn:n≤9223372036854775807):Tells Tryz.prog 73 [int n] (Jj (JiP n)):=
 Jfv (vs:= [.int .i64 n]) ⟨_,Tryz.func73,rfl,rfl⟩ fun w hk=> (Any.strconv_Itoa Tryz.laysM171 n Om Om w (Ju6 hk)).mono fun e w' ⟨h1,k,os,h2⟩=> ⟨by rw [h1,JtO];rfl,by rw [h2];exact Joq w k os⟩
end Go.Proofs.W

namespace Go.Proofs.W
open Go.Vl
set_option maxRecDepth 100000
end Go.Proofs.W

namespace Go.Proofs.W
open Go.Vl
set_option maxRecDepth 100000
theorem JcX {a b:ByteArray} (h:a=b):AVle (Jj a) (Jj b):=h ▸ Rf
theorem Ju7 {n:Nat} (h:n < 10):JiP n=⟨#[UInt8.ofNat (48+n)]⟩:=by
 unfold JiP
 rw [Lib.decDigits,dif_pos h]
theorem JoW:∀(k n:Nat),n < 10 ^ (k+1)→(Lib.decDigits n).length≤k+1
 | 0,n,h=> by rw [Lib.decDigits,dif_pos Om];exact Nat.le_refl _
 | k+1,n,h=> by
   rw [Lib.decDigits]
   split
   ·exact Nat.succ_le_succ (Nat.zero_le _)
   ·rw [List.length_append,List.length_singleton]
    have:=JoW k (n / 10) (by rw [Nat.pow_succ] at h;omega)
    omega
theorem JfK {n:Nat} (h:n≤18446744073709551615):(JiP n).size≤20:=JoW 19 n Om
def kwL:List ByteArray:= [⟨#[107,105,108,108]⟩,⟨#[107,105,108,108,95,116,104,114,101,97,100]⟩,⟨#[116,114,97,112]⟩,⟨#[101,114,114,110,111]⟩,⟨#[110,111,116,105,102,121]⟩,⟨#[116,114,97,99,101]⟩,⟨#[108,111,103]⟩,⟨#[97,108,108,111,119]⟩]
def spB:ByteArray:=⟨#[32]⟩
def JiQ (a:A2):ByteArray:=if a.1=4∨a.1=6 then kwL.getD (a.1.toNat - 1) spB++spB++JiP a.2.toNat else kwL.getD (a.1.toNat - 1) spB
theorem Jv0 {a b:ByteArray} (h:b.size≤20) (k:a.size≤1000000):((a.size+b.size:Nat):Int)≤9223372036854775807:=by omega
theorem Jnj (k n:Nat) (hk:k < 8) (hn:n≤km k):Tells Tryz.prog 71 [act (k+1:Nat) n] (Jj (JiQ ((k+1:Nat),n))):=by
 have hR:=Jgs ((k+1:Nat):Int) (n:Int)
 have hkm:((km k:Nat):Int)=Jev ((k+1:Nat):Int):=by
  clear hR hn
  rcases k with _ | _ | _ | _ | _ | _ | _ | _ | k
  all_goals first | decide | omega
 rw [show J2 ((k+1:Nat):Int) (n:Int)=true by unfold J2;rw [← hkm];simp;omega] at hR
 have ho:=Jhe k hk
 have h5:=Jp5 hk
 have hit:=Jle n Om
 have hsz:=JfK (n:=n) Om
 rcases k with _ | _ | _ | _ | _ | _ | _ | _ | k
 all_goals
  refine Jc Tryz.func71 rfl rfl fun nx=> ?_
  refine stp ?_
  refine Jb rfl rfl hR ⟨Rf,trivial⟩ fun nx2=> ?_
  refine stp ?_
  refine Jb rfl rfl ho ⟨Rf,trivial⟩ fun nx3=> ?_
  refine stp ?_
  first
  | exact Ja rfl Rf
  | (exfalso;omega)
  | skip
 all_goals
  refine Jah 7 _ (fun _=> false) (fun i=> match i with | 5=> true | _=> false) [0,1,2,3,4,5,6] (by kernel_rfl) (by kernel_rfl) (HB.refl _) ?_
  refine stp ?_
  refine ⟨_,JG rfl rfl rfl hit ⟨Rf,trivial⟩ (NoId.v _), ?_⟩
  refine stp ?_
  refine ⟨Jv0 hsz Dc, ?_⟩
  refine stp ?_
  exact Ja rfl Rf
end Go.Proofs.W

namespace Go.Proofs.W
open Go.Vl
set_option maxRecDepth 100000
theorem JtP {k n:Nat} (hk:k < 8) (hn:n≤km k):Jdt (kb k+n)=some k:=by
 unfold Jdt
 rw [show List.range 8= [0,1,2,3,4,5,6,7] from rfl]
 rcases k with _ | _ | _ | _ | _ | _ | _ | _ | k
 all_goals first | (exfalso;omega) | skip
 all_goals
  simp only [km,if_pos,if_neg,reduceIte,Nat.reduceEqDiff] at hn
  simp [Jhs,kb,km]
  try omega
def Jv1 (m:Nat):ByteArray:=([⟨#[]⟩,⟨#[32,98,121,32,115,111,99,107,101,116,99,97,108,108]⟩,⟨#[32,98,121,32,105,112,99]⟩]:List ByteArray).getD m ⟨#[]⟩
def Jnk:ByteArray:=⟨#[58,32]⟩
def JwL:ByteArray:=⟨#[110,111,110,101]⟩
def quB:ByteArray:=⟨#[63]⟩
def JwM:ByteArray:=⟨#[32,111,117,116]⟩
def JxC:ByteArray:=⟨#[32,100,101,102,97,117,108,116]⟩
def JwN:ByteArray:=⟨#[32,114,117,108,101,32]⟩
def JtQ (a:Nat):ByteArray:=(infL.getD a inf0).name++spB
def Jkt (x:Rsn):ByteArray:=if x.name.size=0 then JtQ x.abi.toNat++quB else JtQ x.abi.toNat
def Jfo (x:Rsn):ByteArray:=Jkt x++(x.name++Jv1 x.mux.toNat)
def JgH (x:Rsn):ByteArray:=if x.out then Jfo x++JwM else if x.rule < 0 then Jfo x++JxC else Jfo x++(JwN++JiP x.rule.toNat)
def Jh0 (x:Rsn) (a:A2):ByteArray:=if x.some then JgH x++(Jnk++JiQ a) else JwL++(Jnk++JiQ a)
theorem JiR (a b:ByteArray):(a++b).size=a.size+b.size:=ByteArray.size_append
theorem JtR (k:Nat):(kwL.getD k spB).size≤11:=by
 rcases k with _ | _ | _ | _ | _ | _ | _ | _ | k
 all_goals first | decide | exact (by decide:spB.size≤11)
theorem Jsj {k n:Nat} (h:n≤65535):(JiQ ((k+1:Nat),n)).size≤40:=by
 unfold JiQ
 have h1:=JtR ((((k+1:Nat),(n:Int)):A2).1.toNat - 1)
 have h2:=JfK (n:=(((k+1:Nat),(n:Int)):A2).2.toNat) (by simp;omega)
 have h3:spB.size=1:=rfl
 split
 ·rw [JiR,JiR];omega
 ·omega
theorem Jsk {a:Nat} (h:a < 5):(JtQ a).size≤10:=by
 rcases (by omega:a=0∨a=1∨a=2∨a=3∨a=4) with rfl | rfl | rfl | rfl | rfl <;> decide
theorem JtS (a:Nat):(infL.getD a inf0).name.size≤9:=by
 rcases a with _ | _ | _ | _ | _ | a
 all_goals first | decide | exact (by decide:inf0.name.size≤9)
theorem Ju8 (a:Nat):(((infL.getD a inf0).name.size+({ data:= #[32]}:ByteArray).size:Nat):Int)≤9223372036854775807:=by
 have h1:=JtS a
 have h2:({ data:= #[32]}:ByteArray).size=1:=rfl
 omega
theorem JbZ {a b:ByteArray} (p q:Nat) (ha:a.size≤p) (hb:b.size≤q) (h:p+q≤9223372036854775807):((a.size+b.size:Nat):Int)≤9223372036854775807:=by omega
theorem Jcx {a b:ByteArray} (p q:Nat) (ha:a.size≤p) (hb:b.size≤q):(a++b).size≤p+q:=by rw [JiR];omega
set_option maxHeartbeats 4000000 in
theorem JqB (so:Bool) (a:Nat) (nm:ByteArray) (m:Nat) (ou:Bool) (ru:Int) (k n:Nat) (ha:a < 5) (hm:m≤2) (hn:nm.size≤1000000) (hru:-1≤ru∧ru≤1000000) (hk:k < 8) (hnk:n≤km k):
 Tells Tryz.prog 32 [Jeq ⟨so,a,nm,m,ou,ru,kb k+n⟩] (Jj (Jh0 ⟨so,a,nm,m,ou,ru,kb k+n⟩ ((k+1:Nat),n))):=by
 have hle:=JjG hk
 have h5:=Jp5 hk
 have hf:=JrS (kb k+n) Om
 have ht:=Jnj k n hk hnk
 have hts:=Jsj (k:=k) (n:=n) Om
 have hab:=Jjn a ha
 have h0s:=Jsk ha
 rw [show JfG (kb k+n)=((((k+1:Nat):Int),(n:Int)),0) by unfold JfG;rw [JtP hk hnk];simp] at hf
 unfold Jh0
 dsimp only
 generalize hT:JiQ (((k+1:Nat):Int),(n:Int))=T at ht hts⊢
 cases so with
 | false=>
   refine Jc Tryz.func32 rfl rfl fun nx=> ?_
   refine stp ?_
   refine Jb rfl rfl hf ⟨Rf,trivial⟩ fun nx2=> ?_
   refine stp ?_
   refine Jb rfl rfl ht ⟨Rf,trivial⟩ fun nx3=> ?_
   refine stp ?_
   refine ⟨JbZ 2 40 Dc hts Dc, ?_⟩
   refine stp ?_
   refine ⟨JbZ 4 42 Dc (Jcx 2 40 Dc hts) Dc, ?_⟩
   refine stp ?_
   exact Ja rfl (JcX (if_neg Bool.false_ne_true).symm)
 | true=>
   refine Jc Tryz.func32 rfl rfl fun nx=> ?_
   refine stp ?_
   refine Jb rfl rfl hf ⟨Rf,trivial⟩ fun nx2=> ?_
   refine stp ?_
   refine Jb rfl rfl ht ⟨Rf,trivial⟩ fun nx3=> ?_
   refine stp ?_
   refine ⟨JbZ 2 40 Dc hts Dc, ?_⟩
   refine stp ?_
   refine Jb rfl rfl hab ⟨Rf,trivial⟩ fun nx4=> ?_
   refine stp ?_
   refine ⟨Ju8 a, ?_⟩
   refine stp ?_
   intro c hc
   refine JeF (fun nx':Nat=> mk 68 [(1, .bp (0,nx) 0),(5,Jj (Jnk++T)),(8,Jj (Jkt ⟨true,a,nm,m,ou,ru,kb k+n⟩))] ⟨[((0,nx), .c (Jbq ⟨true,a,nm,m,ou,ru,kb k+n⟩))], [],nx',1⟩) (fun _=> True) ?_ ?_
   ·cases c
    ·refine stp ?_
     exact ⟨_,trivial,Je (pm:= []) (bx:= [((0,nx), .c (Jbq ⟨true,a,nm,m,ou,ru,kb k+n⟩))]) _ _ rfl rfl (.cons _ (.cons _ (.cons_cons _ .slnil))) Sf Bf trivial ⟨Rf,Rf,JcX ((if_neg (JdF hc.symm)).symm),trivial⟩⟩
    ·refine stp ?_
     refine ⟨JbZ 10 1 h0s Dc Dc, ?_⟩
     refine stp ?_
     exact ⟨_,trivial,Je (pm:= []) (bx:= [((0,nx), .c (Jbq ⟨true,a,nm,m,ou,ru,kb k+n⟩))]) _ _ rfl rfl (.cons _ (.cons _ (.cons_cons _ .slnil))) Sf Bf trivial ⟨Rf,Rf,JcX ((if_pos (JdE hc.symm)).symm),trivial⟩⟩
   ·intro nx5 _
    have h1s:(Jkt ⟨true,a,nm,m,ou,ru,kb k+n⟩).size≤11:=by
     unfold Jkt
     split
     ·exact Jcx 10 1 h0s Dc
     ·exact Nat.le_trans h0s Dc
    generalize hT1:Jkt ⟨true,a,nm,m,ou,ru,kb k+n⟩=T1 at h1s
    refine stp ?_
    refine JeF (fun nx':Nat=> mk 68 [(1, .bp (0,nx) 0),(5,Jj (Jnk++T)),(8,Jj (Jfo ⟨true,a,nm,m,ou,ru,kb k+n⟩))] ⟨[((0,nx), .c (Jbq ⟨true,a,nm,m,ou,ru,kb k+n⟩))], [],nx',1⟩) (fun _=> True) ?_ ?_
    ·rcases (by omega:m=0∨m=1∨m=2) with rfl | rfl | rfl
     ·refine Jah 11 _ (fun _=> false) (fun _=> false) [0,1,2,3,4,5,6,7,8,9,10] (by kernel_rfl) (by kernel_rfl) (HB.refl _) ?_
      refine stp ?_
      refine ⟨JbZ 1000000 20 hn Dc Dc, ?_⟩
      refine stp ?_
      refine ⟨JbZ 11 1000020 h1s (Jcx 1000000 20 hn Dc) Dc, ?_⟩
      refine stp ?_
      exact ⟨_,trivial,Et (pm:= []) (bx:= [((0,nx), .c (Jbq ⟨true,a,nm,(0:Nat),ou,ru,kb k+n⟩))]) rfl rfl Bf trivial ⟨Rf,Rf,JcX (by unfold Jfo;rw [hT1];rfl),trivial⟩⟩
     ·refine Jah 11 _ (fun _=> false) (fun _=> false) [0,1,2,3,4,5,6,7,8,9,10] (by kernel_rfl) (by kernel_rfl) (HB.refl _) ?_
      refine stp ?_
      refine ⟨JbZ 1000000 20 hn Dc Dc, ?_⟩
      refine stp ?_
      refine ⟨JbZ 11 1000020 h1s (Jcx 1000000 20 hn Dc) Dc, ?_⟩
      refine stp ?_
      exact ⟨_,trivial,Et (pm:= []) (bx:= [((0,nx), .c (Jbq ⟨true,a,nm,(1:Nat),ou,ru,kb k+n⟩))]) rfl rfl Bf trivial ⟨Rf,Rf,JcX (by unfold Jfo;rw [hT1];rfl),trivial⟩⟩
     ·refine Jah 11 _ (fun _=> false) (fun _=> false) [0,1,2,3,4,5,6,7,8,9,10] (by kernel_rfl) (by kernel_rfl) (HB.refl _) ?_
      refine stp ?_
      refine ⟨JbZ 1000000 20 hn Dc Dc, ?_⟩
      refine stp ?_
      refine ⟨JbZ 11 1000020 h1s (Jcx 1000000 20 hn Dc) Dc, ?_⟩
      refine stp ?_
      exact ⟨_,trivial,Et (pm:= []) (bx:= [((0,nx), .c (Jbq ⟨true,a,nm,(2:Nat),ou,ru,kb k+n⟩))]) rfl rfl Bf trivial ⟨Rf,Rf,JcX (by unfold Jfo;rw [hT1];rfl),trivial⟩⟩
    ·intro nx6 _
     have h2s:(Jfo ⟨true,a,nm,m,ou,ru,kb k+n⟩).size≤1000100:=by
      unfold Jfo
      rw [hT1]
      refine Nat.le_trans (Jcx 11 1000020 h1s (Jcx 1000000 20 hn ?_)) Dc
      show (Jv1 (Int.toNat (m:Int))).size≤20
      rw [Int.toNat_natCast]
      rcases (by omega:m=0∨m=1∨m=2) with rfl | rfl | rfl <;> decide
     generalize hT2:Jfo ⟨true,a,nm,m,ou,ru,kb k+n⟩=T2 at h2s
     refine JqG ?_
     refine JeF (fun nx':Nat=> mk 68 [(1, .bp (0,nx) 0),(5,Jj (Jnk++T)),(8,Jj (JgH ⟨true,a,nm,m,ou,ru,kb k+n⟩))] ⟨[((0,nx), .c (Jbq ⟨true,a,nm,m,ou,ru,kb k+n⟩))], [],nx',1⟩) (fun _=> True) ?_ ?_
     ·cases ou with
      | true=>
        refine stp ?_
        refine ⟨JbZ 1000100 4 h2s Dc Dc, ?_⟩
        refine stp ?_
        exact ⟨_,trivial,Et (pm:= []) (bx:= [((0,nx), .c (Jbq ⟨true,a,nm,m,true,ru,kb k+n⟩))]) rfl rfl Bf trivial ⟨Rf,Rf,JcX (by unfold JgH;rw [hT2];rfl),trivial⟩⟩
      | false=>
        rcases (by omega:ru=-1∨0≤ru) with rfl | hr0
        ·refine stp ?_
         refine ⟨JbZ 1000100 8 h2s Dc Dc, ?_⟩
         refine stp ?_
         exact ⟨_,trivial,Et (pm:= []) (bx:= [((0,nx), .c (Jbq ⟨true,a,nm,m,false,-1,kb k+n⟩))]) rfl rfl Bf trivial ⟨Rf,Rf,JcX (by unfold JgH;rw [hT2];rfl),trivial⟩⟩
        ·obtain ⟨j,rfl⟩:=Int.eq_ofNat_of_zero_le hr0
         have hit:=Jle j Om
         have hd:=JfK (n:=j) Om
         refine stp ?_
         refine Jb rfl rfl hit ⟨Rf,trivial⟩ fun nx8=> ?_
         refine stp ?_
         refine ⟨JbZ 6 20 Dc hd Dc, ?_⟩
         refine stp ?_
         refine ⟨JbZ 1000100 26 h2s (Jcx 6 20 Dc hd) Dc, ?_⟩
         refine stp ?_
         exact ⟨_,trivial,Et (pm:= []) (bx:= [((0,nx), .c (Jbq ⟨true,a,nm,m,false,(j:Nat),kb k+n⟩))]) rfl rfl Bf trivial ⟨Rf,Rf,JcX (by unfold JgH;rw [hT2];rfl),trivial⟩⟩
     ·intro nx7 _
      have h3s:(JgH ⟨true,a,nm,m,ou,ru,kb k+n⟩).size≤1000200:=by
       unfold JgH
       dsimp only
       rw [hT2]
       have hd:=JfK (n:=ru.toNat) Om
       split
       ·exact Nat.le_trans (Jcx 1000100 4 h2s Dc) Dc
       ·split
        ·exact Nat.le_trans (Jcx 1000100 8 h2s Dc) Dc
        ·exact Nat.le_trans (Jcx 1000100 26 h2s (Jcx 6 20 Dc hd)) Dc
      generalize hT3:JgH ⟨true,a,nm,m,ou,ru,kb k+n⟩=T3 at h3s
      refine stp ?_
      refine ⟨JbZ 1000200 42 h3s (Jcx 2 40 Dc hts) Dc, ?_⟩
      refine stp ?_
      exact Ja rfl (JcX (if_pos rfl).symm)
end Go.Proofs.W

namespace Go.Proofs.W
open Go.Vl
set_option maxRecDepth 100000
end Go.Proofs.W

namespace Go.Proofs.W
open Go.Vl
set_option maxRecDepth 100000
theorem JjP (r:Rul):NoId (.ag [Jj r.name,int r.act.1,int r.act.2,JaU r.conds]):=NoId.ag (by
 intro y hy
 simp only [List.mem_cons,List.not_mem_nil,or_false] at hy
 rcases hy with rfl | rfl | rfl | rfl
 ·exact NoId.v _
 ·exact NoId.v _
 ·exact NoId.v _
 ·refine NoId.sl fun i hi c hc=> ?_
  simp only [J6,AV.cells,List.mem_cons,List.not_mem_nil,or_false] at hc
  rcases hc with rfl | rfl | rfl | rfl <;> exact NoId.v _)
theorem JgW:Tryz.prog.bytesOf 138=32:=by kernel_rfl
theorem Jdv:Tryz.prog.bytesOf 87=56:=by kernel_rfl
theorem Jsl (c:Cnd):Tells Tryz.prog 56 [J6 c] (J6 c):=by
 refine Jc Tryz.func56 rfl rfl fun nx=> ?_
 refine stp ?_
 exact Ji rfl ⟨rfl,trivial⟩ Rf
set_option maxHeartbeats 1000000 in
theorem Jnl (nm:ByteArray) (k n:Int) (cs:List Cnd) (hl:cs.length≤1000000):Tells Tryz.prog 25 [.ag [Jj nm,int k,int n,JaU cs]] (.ag [Jj nm,int k,int n,JaU cs]):=by
 refine Jc Tryz.func25 rfl rfl fun nx=> ?_
 refine stp ?_
 refine Jr (fun s:Nat×Option Nat×Nat=> mk 34 [(1, .bp (0,nx) 0),(2, .bp (1,nx+1) 0),(3, .bp (2,nx+2) 0),(4,int s.1)] ⟨[((2,nx+2), .c [Jj nm,int k,int n, .os 4 s.1 (fun j=> J6 (cs.getD j cnd0)) (nmd s.2.1)]),((1,nx+1), .c [Jj ⟨#[]⟩,int 0,int 0, .os 0 0 (fun _=> .any) none]),((0,nx), .c [Jj nm,int k,int n,JaU cs])],JaH (nmd s.2.1) (s.1 * 4),s.2.2,3⟩) (fun s=> s.1≤cs.length∧(s.2.1=none→s.1=0)) (fun s=> cs.length - s.1) ?_ ?_
 ·exact ⟨(0,none,nx+3),⟨Nat.zero_le _,fun _=> rfl⟩,Je (pm:= []) _ [] rfl rfl Sf Sf ⟨rfl,⟨Rf,Rf,Rf,AVle.os_nil,trivial⟩,rfl,OwnLe.refl _,rfl,OwnLe.refl _,trivial⟩ trivial ⟨Rf,Rf,Rf,Rf,trivial⟩⟩
 ·rintro ⟨i,oi,nx2⟩ ⟨h3,h4⟩
  dsimp only at h3 h4
  refine stp ?_
  intro c h5;cases c
  ·have h6:=Jm h5
   dsimp only at h6
   obtain rfl:i=cs.length:=by omega
   refine stp ?_
   exact Ji rfl ⟨rfl,trivial⟩ (AVle.ags ⟨Rf,Rf,Rf,AVle.os_sl,trivial⟩)
  ·have h6:=Jl h5
   dsimp only at h6
   have hi:i < cs.length:=by omega
   have hcall:=Jsl (cs.getD i cnd0)
   refine stp ?_
   refine Jah 11 [((2,nx+2), .c [Jj nm,int k,int n, .os 4 i (fun j=> J6 (cs.getD j cnd0)) (nmd oi)]),((1,nx+1), .c [Jj ⟨#[]⟩,int 0,int 0, .os 0 0 (fun _=> .any) none]),((0,nx), .c [Jj nm,int k,int n,JaU cs])] (fun i=> match i with | 9=> true | _=> false) (fun i=> match i with | 7=> true | _=> false) [0,1,2,3,4,5,6,7,8,9,10] (by kernel_rfl) (by kernel_rfl) (HB.refl _) ?_
   refine stp ?_
   refine ⟨⟨by dsimp only;omega,by dsimp only;omega⟩, ?_⟩
   refine stp ?_
   refine ⟨_,JG rfl rfl rfl hcall ⟨Rf,trivial⟩ (Jrc _), ?_⟩
   refine stp ?_
   rcases oi with _ | id
   ·obtain rfl:=h4 rfl
    refine ⟨_,Jaq (e:=138) (c:=4) (pm:= []) (n:=0) (oi:=none) (sz:=4) (f:=fun j=> J6 (cs.getD j cnd0)) (HB.refl _) rfl rfl rfl (.inr ⟨_,rfl⟩) (by kernel_rfl) (by kernel_rfl) (by kernel_rfl) (.inr rfl) (by kernel_rfl) (List.append_nil _).symm (JZ rfl) (by rw [JgW];omega) Om,fun r h' hr=> ?_⟩
    obtain ⟨rfl,rfl⟩:=hr
    refine stp ?_
    refine back (0+1,some nx2,nx2+1) ⟨by dsimp only;omega,(fun h=> by cases h)⟩ Dm (Et (pm:= [((0,nx2),(0+1) * 4)]) rfl rfl ⟨rfl,⟨Rf,Rf,Rf,(AVle.os_fun (JaT (fun k h=> absurd h (Nat.not_lt_zero k)) ?_)).trans (AVle.os_nm rfl),trivial⟩,rfl,OwnLe.refl _,rfl,OwnLe.refl _,trivial⟩ ⟨rfl,rfl,trivial⟩ ⟨Rf,Rf,Rf,Jd (Jk Dm),trivial⟩)
    rfl
   ·refine ⟨_,Jaq (e:=138) (c:=4) (pm:= []) (n:=i) (oi:=some (0,id)) (sz:=4) (f:=fun j=> J6 (cs.getD j cnd0)) (HB.refl _) rfl rfl rfl (.inr ⟨_,rfl⟩) (by kernel_rfl) (by kernel_rfl) (by kernel_rfl) (.inr rfl) (by kernel_rfl) (List.append_nil _).symm (JZ rfl) (by rw [JgW];omega) Om,fun r h' hr=> ?_⟩
    obtain ⟨rfl,rfl⟩:=hr
    refine stp ?_
    refine back (i+1,some nx2,nx2+1) ⟨by dsimp only;omega,(fun h=> by cases h)⟩ Dm (Et (pm:= [((0,nx2),(i+1) * 4)]) rfl rfl ⟨rfl,⟨Rf,Rf,Rf,(AVle.os_fun (JaT (fun k hk=> rfl) ?_)).trans (AVle.os_nm rfl),trivial⟩,rfl,OwnLe.refl _,rfl,OwnLe.refl _,trivial⟩ ⟨rfl,rfl,trivial⟩ ⟨Rf,Rf,Rf,Jd (Jk Dm),trivial⟩)
    rfl
set_option maxHeartbeats 1000000 in
theorem Ju9 (k n:Int) (rs:List Rul) (hl:rs.length≤1000000) (hc:∀r∈rs,r.conds.length≤1000000):Tells Tryz.prog 9 [.ag [int k,int n,Jg true,J8 rs]] (.ag [int k,int n,Jg true,J8 rs]):=by
 refine Jc Tryz.func9 rfl rfl fun nx=> ?_
 refine stp ?_
 refine Jr (fun s:Nat×Option Nat×Nat=> mk 34 [(1, .bp (0,nx) 0),(2, .bp (1,nx+1) 0),(3, .bp (2,nx+2) 0),(4,int s.1)] ⟨[((2,nx+2), .c [int k,int n,Jg true, .os 4 s.1 (fun j=> Jau (rs.getD j Ju)) (nmd s.2.1)]),((1,nx+1), .c [int 0,int 0,Jg false, .os 0 0 (fun _=> .any) none]),((0,nx), .c [int k,int n,Jg true,J8 rs])],JaH (nmd s.2.1) (s.1 * 4),s.2.2,3⟩) (fun s=> s.1≤rs.length∧(s.2.1=none→s.1=0)) (fun s=> rs.length - s.1) ?_ ?_
 ·exact ⟨(0,none,nx+3),⟨Nat.zero_le _,fun _=> rfl⟩,Je (pm:= []) _ [] rfl rfl Sf Sf ⟨rfl,⟨Rf,Rf,Rf,AVle.os_nil,trivial⟩,rfl,OwnLe.refl _,rfl,OwnLe.refl _,trivial⟩ trivial ⟨Rf,Rf,Rf,Rf,trivial⟩⟩
 ·rintro ⟨i,oi,nx2⟩ ⟨h3,h4⟩
  dsimp only at h3 h4
  refine stp ?_
  intro c h5;cases c
  ·have h6:=Jm h5
   dsimp only at h6
   obtain rfl:i=rs.length:=by omega
   refine stp ?_
   exact Ji rfl ⟨rfl,trivial⟩ (AVle.ags ⟨Rf,Rf,Rf,AVle.os_sl,trivial⟩)
  ·have h6:=Jl h5
   dsimp only at h6
   have hi:i < rs.length:=by omega
   have hcall:=Jnl (rs.getD i Ju).name (rs.getD i Ju).act.1 (rs.getD i Ju).act.2 (rs.getD i Ju).conds (hc _ (by simp [List.getD,hi]))
   refine stp ?_
   refine Jah 11 [((2,nx+2), .c [int k,int n,Jg true, .os 4 i (fun j=> Jau (rs.getD j Ju)) (nmd oi)]),((1,nx+1), .c [int 0,int 0,Jg false, .os 0 0 (fun _=> .any) none]),((0,nx), .c [int k,int n,Jg true,J8 rs])] (fun i=> match i with | 9=> true | _=> false) (fun i=> match i with | 7=> true | _=> false) [0,1,2,3,4,5,6,7,8,9,10] (by kernel_rfl) (by kernel_rfl) (HB.refl _) ?_
   refine stp ?_
   refine ⟨⟨by dsimp only;omega,by dsimp only;omega⟩, ?_⟩
   refine stp ?_
   refine ⟨_,JG rfl rfl rfl hcall ⟨Rf,trivial⟩ (JjP (rs.getD i Ju)), ?_⟩
   refine stp ?_
   rcases oi with _ | id
   ·obtain rfl:=h4 rfl
    refine ⟨_,Jaq (e:=87) (c:=4) (pm:= []) (n:=0) (oi:=none) (sz:=4) (f:=fun j=> Jau (rs.getD j Ju)) (HB.refl _) rfl rfl rfl (.inr ⟨_,rfl⟩) (by kernel_rfl) (by kernel_rfl) (by kernel_rfl) (.inr rfl) (by kernel_rfl) (List.append_nil _).symm (JZ rfl) (by rw [Jdv];omega) Om,fun r h' hr=> ?_⟩
    obtain ⟨rfl,rfl⟩:=hr
    refine stp ?_
    refine back (0+1,some nx2,nx2+1) ⟨by dsimp only;omega,(fun h=> by cases h)⟩ Dm (Et (pm:= [((0,nx2),(0+1) * 4)]) rfl rfl ⟨rfl,⟨Rf,Rf,Rf,(AVle.os_fun (JaT (fun k h=> absurd h (Nat.not_lt_zero k)) ?_)).trans (AVle.os_nm rfl),trivial⟩,rfl,OwnLe.refl _,rfl,OwnLe.refl _,trivial⟩ ⟨rfl,rfl,trivial⟩ ⟨Rf,Rf,Rf,Jd (Jk Dm),trivial⟩)
    rfl
   ·refine ⟨_,Jaq (e:=87) (c:=4) (pm:= []) (n:=i) (oi:=some (0,id)) (sz:=4) (f:=fun j=> Jau (rs.getD j Ju)) (HB.refl _) rfl rfl rfl (.inr ⟨_,rfl⟩) (by kernel_rfl) (by kernel_rfl) (by kernel_rfl) (.inr rfl) (by kernel_rfl) (List.append_nil _).symm (JZ rfl) (by rw [Jdv];omega) Om,fun r h' hr=> ?_⟩
    obtain ⟨rfl,rfl⟩:=hr
    refine stp ?_
    refine back (i+1,some nx2,nx2+1) ⟨by dsimp only;omega,(fun h=> by cases h)⟩ Dm (Et (pm:= [((0,nx2),(i+1) * 4)]) rfl rfl ⟨rfl,⟨Rf,Rf,Rf,(AVle.os_fun (JaT (fun k hk=> rfl) ?_)).trans (AVle.os_nm rfl),trivial⟩,rfl,OwnLe.refl _,rfl,OwnLe.refl _,trivial⟩ ⟨rfl,rfl,trivial⟩ ⟨Rf,Rf,Rf,Jd (Jk Dm),trivial⟩)
    rfl
set_option maxHeartbeats 1000000 in
theorem Jva (k n:Int) (rs:List Rul) (hl:rs.length≤1000000) (hc:∀r∈rs,r.conds.length≤1000000):Tells Tryz.prog 9 [.ag [int k,int n,Jg false,J8 rs]] (.ag [int k,int n,Jg false,J8 rs]):=by
 refine Jc Tryz.func9 rfl rfl fun nx=> ?_
 refine stp ?_
 refine Jr (fun s:Nat×Option Nat×Nat=> mk 34 [(1, .bp (0,nx) 0),(2, .bp (1,nx+1) 0),(3, .bp (2,nx+2) 0),(4,int s.1)] ⟨[((2,nx+2), .c [int k,int n,Jg false, .os 4 s.1 (fun j=> Jau (rs.getD j Ju)) (nmd s.2.1)]),((1,nx+1), .c [int 0,int 0,Jg false, .os 0 0 (fun _=> .any) none]),((0,nx), .c [int k,int n,Jg false,J8 rs])],JaH (nmd s.2.1) (s.1 * 4),s.2.2,3⟩) (fun s=> s.1≤rs.length∧(s.2.1=none→s.1=0)) (fun s=> rs.length - s.1) ?_ ?_
 ·exact ⟨(0,none,nx+3),⟨Nat.zero_le _,fun _=> rfl⟩,Je (pm:= []) _ [] rfl rfl Sf Sf ⟨rfl,⟨Rf,Rf,Rf,AVle.os_nil,trivial⟩,rfl,OwnLe.refl _,rfl,OwnLe.refl _,trivial⟩ trivial ⟨Rf,Rf,Rf,Rf,trivial⟩⟩
 ·rintro ⟨i,oi,nx2⟩ ⟨h3,h4⟩
  dsimp only at h3 h4
  refine stp ?_
  intro c h5;cases c
  ·have h6:=Jm h5
   dsimp only at h6
   obtain rfl:i=rs.length:=by omega
   refine stp ?_
   exact Ji rfl ⟨rfl,trivial⟩ (AVle.ags ⟨Rf,Rf,Rf,AVle.os_sl,trivial⟩)
  ·have h6:=Jl h5
   dsimp only at h6
   have hi:i < rs.length:=by omega
   have hcall:=Jnl (rs.getD i Ju).name (rs.getD i Ju).act.1 (rs.getD i Ju).act.2 (rs.getD i Ju).conds (hc _ (by simp [List.getD,hi]))
   refine stp ?_
   refine Jah 11 [((2,nx+2), .c [int k,int n,Jg false, .os 4 i (fun j=> Jau (rs.getD j Ju)) (nmd oi)]),((1,nx+1), .c [int 0,int 0,Jg false, .os 0 0 (fun _=> .any) none]),((0,nx), .c [int k,int n,Jg false,J8 rs])] (fun i=> match i with | 9=> true | _=> false) (fun i=> match i with | 7=> true | _=> false) [0,1,2,3,4,5,6,7,8,9,10] (by kernel_rfl) (by kernel_rfl) (HB.refl _) ?_
   refine stp ?_
   refine ⟨⟨by dsimp only;omega,by dsimp only;omega⟩, ?_⟩
   refine stp ?_
   refine ⟨_,JG rfl rfl rfl hcall ⟨Rf,trivial⟩ (JjP (rs.getD i Ju)), ?_⟩
   refine stp ?_
   rcases oi with _ | id
   ·obtain rfl:=h4 rfl
    refine ⟨_,Jaq (e:=87) (c:=4) (pm:= []) (n:=0) (oi:=none) (sz:=4) (f:=fun j=> Jau (rs.getD j Ju)) (HB.refl _) rfl rfl rfl (.inr ⟨_,rfl⟩) (by kernel_rfl) (by kernel_rfl) (by kernel_rfl) (.inr rfl) (by kernel_rfl) (List.append_nil _).symm (JZ rfl) (by rw [Jdv];omega) Om,fun r h' hr=> ?_⟩
    obtain ⟨rfl,rfl⟩:=hr
    refine stp ?_
    refine back (0+1,some nx2,nx2+1) ⟨by dsimp only;omega,(fun h=> by cases h)⟩ Dm (Et (pm:= [((0,nx2),(0+1) * 4)]) rfl rfl ⟨rfl,⟨Rf,Rf,Rf,(AVle.os_fun (JaT (fun k h=> absurd h (Nat.not_lt_zero k)) ?_)).trans (AVle.os_nm rfl),trivial⟩,rfl,OwnLe.refl _,rfl,OwnLe.refl _,trivial⟩ ⟨rfl,rfl,trivial⟩ ⟨Rf,Rf,Rf,Jd (Jk Dm),trivial⟩)
    rfl
   ·refine ⟨_,Jaq (e:=87) (c:=4) (pm:= []) (n:=i) (oi:=some (0,id)) (sz:=4) (f:=fun j=> Jau (rs.getD j Ju)) (HB.refl _) rfl rfl rfl (.inr ⟨_,rfl⟩) (by kernel_rfl) (by kernel_rfl) (by kernel_rfl) (.inr rfl) (by kernel_rfl) (List.append_nil _).symm (JZ rfl) (by rw [Jdv];omega) Om,fun r h' hr=> ?_⟩
    obtain ⟨rfl,rfl⟩:=hr
    refine stp ?_
    refine back (i+1,some nx2,nx2+1) ⟨by dsimp only;omega,(fun h=> by cases h)⟩ Dm (Et (pm:= [((0,nx2),(i+1) * 4)]) rfl rfl ⟨rfl,⟨Rf,Rf,Rf,(AVle.os_fun (JaT (fun k hk=> rfl) ?_)).trans (AVle.os_nm rfl),trivial⟩,rfl,OwnLe.refl _,rfl,OwnLe.refl _,trivial⟩ ⟨rfl,rfl,trivial⟩ ⟨Rf,Rf,Rf,Jd (Jk Dm),trivial⟩)
    rfl
theorem Jvb (p:Pol) (hl:p.rules.length≤1000000) (hc:∀r∈p.rules,r.conds.length≤1000000):Tells Tryz.prog 9 [Jar p] (Jar p):=by
 obtain ⟨⟨k,n⟩,x,rs⟩:=p
 cases x
 ·exact Jva k n rs hl hc
 ·exact Ju9 k n rs hl hc
end Go.Proofs.W

namespace Go.Proofs.W
open Go.Vl
set_option maxRecDepth 100000
theorem Jsm (p:Pol) (hl:p.rules.length≤maxLen):Tells Tryz.prog 4 [Jar p] (Jg (Jf8 p)):=by
 obtain ⟨⟨k,n⟩,x,rs⟩:=p
 dsimp only at hl
 refine Jc Tryz.func4 rfl rfl fun nx=> ?_
 refine stp ?_
 intro c g1;cases c
 rotate_left
 ·refine stp ?_
  have g1:((rs.length:Nat):Int) > 40:=Jl g1
  exact Ja rfl (Jn (by show false=(decide (rs.length≤40)&& _);rw [decide_eq_false Om];rfl))
 have g1:¬((rs.length:Nat):Int) > 40:=Jm g1
 have h40:rs.length≤40:=by omega
 refine stp ?_
 refine Jr (fun s:Nat×Nat=> mk 33 [(1, .bp (0,nx) 0),(3,int s.1)] ⟨[((0,nx), .c [int k,int n,Jg x,J8 rs])], [],s.2,1⟩) (fun s=> s.1≤rs.length∧∀j,j < s.1→Jd3 (rs.getD j Ju)=true) (fun s=> rs.length - s.1) ?_ ?_
 ·exact ⟨(0,nx+1),⟨Nat.zero_le _,fun j h=> absurd h (Nat.not_lt_zero _)⟩,Je (pm:= []) _ [] rfl rfl Sf Sf ⟨rfl,OwnLe.refl _,trivial⟩ trivial ⟨Rf,Rf,trivial⟩⟩
 ·rintro ⟨i,nx2⟩ ⟨h3,h4⟩
  dsimp only at h3 h4
  refine stp ?_
  intro c h5;cases c
  ·have h6:=Jm h5
   dsimp only at h6
   obtain rfl:i=rs.length:=by omega
   refine stp ?_
   refine Ja rfl (Jn ?_)
   show true=(decide (rs.length≤40)&& rs.all Jd3)
   rw [decide_eq_true h40,Bool.true_and,eq_comm,List.all_eq_true]
   intro r hr
   obtain ⟨j,hj,rfl⟩:=List.getElem_of_mem hr
   have:=h4 j hj
   simpa [List.getD,hj] using this
  ·have h6:=Jl h5
   dsimp only at h6
   have hi:i < rs.length:=by omega
   have hbad:∀b:Bool,Jd3 (rs.getD i Ju)=false→false=Jf8 ⟨(k,n),x,rs⟩:=fun b hb=> by
    show false=(decide (rs.length≤40)&& rs.all Jd3)
    rw [decide_eq_true h40,Bool.true_and,eq_comm,List.all_eq_false]
    exact ⟨rs.getD i Ju,by simp [List.getD,hi],by rw [hb];decide⟩
   refine stp ?_
   refine ⟨⟨by dsimp only;omega,by dsimp only;omega⟩, ?_⟩
   refine stp ?_
   intro c t1;cases c
   ·have t1:¬(((rs.getD i Ju).name.size:Nat):Int) > 60:=Jm t1
    refine stp ?_
    refine ⟨⟨by dsimp only;omega,by dsimp only;omega⟩, ?_⟩
    refine stp ?_
    intro c t2;cases c
    ·have t2:¬(((rs.getD i Ju).conds.length:Nat):Int) > 12:=Jm t2
     refine stp ?_
     refine back (i+1,nx2) ⟨by dsimp only;omega,fun j hj=> ?_⟩ Dm (Je (pm:= []) _ [] rfl rfl Sf Sf ⟨rfl,OwnLe.refl _,trivial⟩ trivial ⟨Rf,Jd (Jk Dm),trivial⟩)
     dsimp only at hj
     rcases Nat.lt_or_ge j i with h | h
     ·exact h4 j h
     ·obtain rfl:j=i:=by omega
      unfold Jd3
      rw [decide_eq_true Om,decide_eq_true Om];rfl
    ·have t2:(((rs.getD i Ju).conds.length:Nat):Int) > 12:=Jl t2
     refine stp ?_
     exact Ja rfl (Jn (hbad true (by unfold Jd3;rw [decide_eq_false (p:=(rs.getD i Ju).conds.length≤12) Om,Bool.and_false])))
   ·have t1:(((rs.getD i Ju).name.size:Nat):Int) > 60:=Jl t1
    refine stp ?_
    exact Ja rfl (Jn (hbad true (by unfold Jd3;rw [decide_eq_false (p:=(rs.getD i Ju).name.size≤60) Om,Bool.false_and])))
end Go.Proofs.W

namespace Go.Proofs.W
open Go.Vl
set_option maxRecDepth 100000
theorem JhB:Tryz.prog.bytesOf 89=72:=by kernel_rfl
set_option maxHeartbeats 2000000 in
theorem Jnm (l:List TRow) (hl:l.length≤1000000):Tells Tryz.prog 10 [Js l] (Js l):=by
 refine Jc Tryz.func10 rfl rfl fun nx=> ?_
 refine stp ?_
 refine Jr (fun s:Nat×Option Nat×Nat=> mk 36 [(0,Js l),(3, .os 8 s.1 (fun j=> Jo (l.getD j Jf)) (nmd s.2.1)),(4,int s.1)] ⟨[],JaH (nmd s.2.1) (s.1 * 8),s.2.2,1⟩) (fun s=> s.1≤l.length∧(s.2.1=none→s.1=0)) (fun s=> l.length - s.1) ?_ ?_
 ·exact ⟨(0,none,nx),⟨Nat.zero_le _,fun _=> rfl⟩,Je (pm:= []) _ [] rfl rfl Sf Sf trivial trivial ⟨Rf,AVle.os_nil,Rf,trivial⟩⟩
 ·rintro ⟨i,oi,nx2⟩ ⟨h3,h4⟩
  dsimp only at h3 h4
  refine stp ?_
  intro c h5;cases c
  ·have h6:=Jm h5
   dsimp only at h6
   obtain rfl:i=l.length:=by omega
   rcases oi with _ | id
   all_goals
    refine stp ?_
    exact Ja rfl AVle.os_sl
  ·have h6:=Jl h5
   dsimp only at h6
   have hi:i < l.length:=by omega
   refine stp ?_
   refine Jah 25 _ (fun i=> match i with | 23=> true | _=> false) (fun i=> match i with | 10=> true | _=> false) [0,1,2,3,4,5,6,7,8,9,10,11,12,13,14,15,16,17,18,19,20,21,22,23,24] (by kernel_rfl) (by kernel_rfl) (HB.refl _) ?_
   refine stp ?_
   refine ⟨⟨by dsimp only;omega,by dsimp only;omega⟩, ?_⟩
   refine stp ?_
   refine ⟨⟨by dsimp only;omega,by dsimp only;omega⟩, ?_⟩
   refine stp ?_
   refine ⟨JvB (l.getD i Jf),JeY rfl rfl (by first | trivial | exact ⟨rfl,Nat.le_of_ble_eq_true rfl⟩), ?_⟩
   refine stp ?_
   refine ⟨⟨by dsimp only;omega,by dsimp only;omega⟩, ?_⟩
   refine stp ?_
   refine ⟨⟨by dsimp only;omega,by dsimp only;omega⟩, ?_⟩
   refine stp ?_
   rcases oi with _ | id
   ·obtain rfl:=h4 rfl
    refine ⟨_,Jaq (e:=89) (c:=8) (pm:= []) (n:=0) (oi:=none) (sz:=8) (f:=fun j=> Jo (l.getD j Jf)) (HB.refl _) rfl rfl rfl (.inr ⟨_,rfl⟩) (by kernel_rfl) (by kernel_rfl) (by kernel_rfl) (.inr rfl) (by kernel_rfl) (List.append_nil _).symm (JZ rfl) (by rw [JhB];omega) Om,fun r h' hr=> ?_⟩
    obtain ⟨rfl,rfl⟩:=hr
    refine stp ?_
    refine back (0+1,some nx2,nx2+1) ⟨by dsimp only;omega,(fun h=> by cases h)⟩ Dm (Et (pm:= [((0,nx2),(0+1) * 8)]) rfl rfl trivial ⟨rfl,rfl,trivial⟩ ⟨Rf,(AVle.os_fun (JaT (fun k hk=> absurd hk (Nat.not_lt_zero k)) ?_)).trans (AVle.os_nm rfl),Jd (Jk Dm),trivial⟩)
    rfl
   ·refine ⟨_,Jaq (e:=89) (c:=8) (pm:= []) (n:=i) (oi:=some (0,id)) (sz:=8) (f:=fun j=> Jo (l.getD j Jf)) (HB.refl _) rfl rfl rfl (.inr ⟨_,rfl⟩) (by kernel_rfl) (by kernel_rfl) (by kernel_rfl) (.inr rfl) (by kernel_rfl) (List.append_nil _).symm (JZ rfl) (by rw [JhB];omega) Om,fun r h' hr=> ?_⟩
    obtain ⟨rfl,rfl⟩:=hr
    refine stp ?_
    refine back (i+1,some nx2,nx2+1) ⟨by dsimp only;omega,(fun h=> by cases h)⟩ Dm (Et (pm:= [((0,nx2),(i+1) * 8)]) rfl rfl trivial ⟨rfl,rfl,trivial⟩ ⟨Rf,(AVle.os_fun (JaT (fun k hk=> rfl) ?_)).trans (AVle.os_nm rfl),Jd (Jk Dm),trivial⟩)
    rfl
theorem JqC (l:List TRow) (hl:l.length≤maxLen) (hn:∀r∈l,r.name.size≤maxLen):Tells Tryz.prog 5 [Js l] (Jg (JiJ l)):=by
 refine Jc Tryz.func5 rfl rfl fun nx=> ?_
 refine stp ?_
 by_cases hf:l.length≤40
 rotate_left
 ·refine stp ?_
  intro c h1;cases c
  ·exact absurd (Jm h1) (by first | omega | (dsimp only;omega))
  refine stp ?_
  exact Ja rfl (Jn (by unfold JiJ;rw [decide_eq_false hf];rfl))
 ·refine stp ?_
  intro c h1;cases c
  rotate_left
  ·exact absurd (Jl h1) (by first | omega | (dsimp only;omega))
  refine stp ?_
  refine Jr (fun s:Nat×Nat=> mk 20 [(0,Js l),(3,int s.1)] ⟨[], [],s.2,0⟩) (fun s=> s.1≤l.length∧∀j,j < s.1→(l.getD j Jf).name.size≤60) (fun s=> l.length - s.1) ?_ ?_
  ·exact ⟨(0,nx),⟨Nat.zero_le _,fun j hj=> absurd hj (Nat.not_lt_zero j)⟩,JH rfl rfl ⟨Rf,Rf,trivial⟩⟩
  ·rintro ⟨i,nx2⟩ ⟨h3,h4⟩
   dsimp only at h3 h4
   refine stp ?_
   intro c h5;cases c
   ·have h6:=Jm h5
    dsimp only at h6
    obtain rfl:i=l.length:=by omega
    refine stp ?_
    refine Ja rfl (Jn ?_)
    unfold JiJ
    rw [decide_eq_true hf]
    symm
    simp only [Bool.true_and,Bool.not_eq_true',List.any_eq_false,decide_eq_true_eq]
    intro r hr
    obtain ⟨j,hj,rfl⟩:=List.mem_iff_getElem.1 hr
    have:=h4 j hj
    simp [List.getD,hj] at this
    omega
   ·have h6:=Jl h5
    dsimp only at h6
    have hi:i < l.length:=by omega
    have hnm:=hn (l.getD i Jf) (by simp [List.getD,hi])
    refine stp ?_
    refine ⟨⟨by dsimp only;omega,by dsimp only;omega⟩, ?_⟩
    refine stp ?_
    intro c h7;cases c
    ·have h7:=Jm h7
     dsimp only at h7
     rw [Int.toNat_natCast] at h7
     refine stp ?_
     exact back (i+1,nx2) ⟨hi,fun j hj=> by dsimp only at hj;rcases Nat.lt_or_ge j i with q | q;exact h4 j q;rw [show j=i by omega];omega⟩ Dm (JH rfl rfl ⟨Rf,Jd (Jk Dm),trivial⟩)
    ·have h7:=Jl h7
     dsimp only at h7
     rw [Int.toNat_natCast] at h7
     refine stp ?_
     refine Ja rfl (Jn ?_)
     unfold JiJ
     symm
     rw [Bool.and_eq_false_iff]
     right
     simp only [Bool.not_eq_false',List.any_eq_true,decide_eq_true_eq]
     exact ⟨l.getD i Jf,by simp [List.getD,hi],by omega⟩
theorem JlD (r:Rec):Tells Tryz.prog 6 [Jag r] (Jag r):=by
 refine Jc Tryz.func6 rfl rfl fun nx=> ?_
 refine stp ?_
 exact Ji rfl ⟨rfl,trivial⟩ Rf
end Go.Proofs.W

namespace Go.Proofs.W
open Go.Vl
set_option maxRecDepth 100000
end Go.Proofs.W

namespace Go.Proofs.W
open Go.Vl
set_option maxRecDepth 100000
theorem JtT (x:Rsn) (e:Int):NoId (.tup [Jeq x,int e]):=NoId.tup (by
 intro y hy
 simp only [List.mem_cons,List.not_mem_nil,or_false] at hy
 rcases hy with rfl | rfl
 ·refine NoId.ag fun z hz=> ?_
  unfold Jbq at hz
  simp only [List.mem_cons,List.not_mem_nil,or_false] at hz
  rcases hz with rfl | rfl | rfl | rfl | rfl | rfl | rfl <;> exact NoId.v _
 ·exact NoId.v _)
def JqD:ByteArray:=⟨#[114,101,97,100]⟩
def JwO:Rsn:=⟨true,0,JqD,0,false,0,2147418112⟩
theorem JwP:Jqv pAw builtL (Jqr 0 3221225534)=(JwO,0):=by kernel_rfl
def awText:ByteArray:=⟨#[120,56,54,95,54,52,32,114,101,97,100,32,114,117,108,101,32,48,58,32,97,108,108,111,119]⟩
theorem JtU:Jh0 ⟨true,((0:Nat):Int),JqD,((0:Nat):Int),false,0,kb 7+0⟩ (((7+1:Nat):Int),((0:Nat):Int))=awText:=by
 unfold Jh0 JgH Jfo Jkt JiQ
 dsimp only
 rw [show JiP (Int.toNat 0)=⟨#[48]⟩ from Ju7 Dc]
 decide+kernel
set_option maxHeartbeats 8000000 in
theorem Jnn:Tells Tryz.prog 12 [] (Jg true):=by
 have hb:=Jnb
 have h1:=JtN pAw builtL (Jqr 0 3221225534) JvX Ju2 Jr8 Jol (Ju3 Dc Dc)
 rw [JwP] at h1
 have h2:=JqB true 0 JqD 0 false 0 7 0 Dc Dc Dc Dc Dc Dc
 rw [JtU] at h2
 generalize builtL=B at hb h1
 refine Jc Tryz.func12 rfl rfl fun nx=> ?_
 refine stp ?_
 refine Jb rfl rfl Jqb ⟨Rf,trivial⟩ fun nx2=> ?_
 refine stp ?_
 refine Jah 9 _ (fun i=> match i with | 7=> true | 8=> true | _=> false) (fun i=> match i with | 1=> true | 3=> true | _=> false) [0,1,2,3,4,5,6,7,8] (by kernel_rfl) (by kernel_rfl) (HB.refl _) ?_
 refine stp ?_
 refine ⟨_,JG rfl rfl rfl hb trivial (JjM _), ?_⟩
 refine stp ?_
 refine ⟨_,JG rfl rfl rfl h1 ⟨Rf,Rf,Rf,trivial⟩ (JtT _ _), ?_⟩
 refine stp ?_
 refine ⟨_,JkI rfl rfl JwK (HB.one rfl),fun r' h' hr=> ?_⟩
 obtain ⟨rfl,rfl⟩:=hr
 (conv=> whnf)
 refine ⟨_,Jfu (i:=(1,nx2+1)) (off:=0) (cs:=Jbq JgF) rfl rfl rfl rfl rfl rfl rfl (by kernel_rfl) (by kernel_rfl) (by show 0+7≤7;omega) (HB.one rfl),fun r' h' hr=> ?_⟩
 obtain rfl:=hr
 refine stp ?_
 refine Jb rfl rfl h2 ⟨Rf,trivial⟩ fun nx3=> ?_
 refine stp ?_
 intro c hc
 obtain rfl:c=true:=hc.trans (beq_self_eq_true awText.toList)
 refine stp ?_
 exact Ja rfl Rf
end Go.Proofs.W

namespace Go.Proofs.W
open Go.Vl
set_option maxRecDepth 100000
def Je3 (L:List Ins) (p:Pol) (t:List TRow) (R:List Rec):List AV:= [Jan L,int p.dflt.1,int p.dflt.2,Jg p.x32,J8 p.rules,Js t,JeQ R]
theorem JtV (L:List Ins) (k n:Int) (x32:Bool) (rs:List Rul) (t:List TRow) (R:List Rec) (b1 b2:Bool) (hlt:Tells Tryz.prog 4 [Jar ⟨(k,n),x32,rs⟩] (Jg b1)) (hfew:Tells Tryz.prog 5 [Js t] (Jg b2))
 (h:¬(L.length≤100∧b1=true∧b2=true∧R.length≤20)):Tells Tryz.prog 3 [.ag (Je3 L ⟨(k,n),x32,rs⟩ t R)] (Jg true):=by
 unfold Je3
 refine Jc Tryz.func3 rfl rfl fun nx=> ?_
 refine stp ?_
 intro c hc
 by_cases hL:L.length≤100
 ·obtain rfl:c=false:=hc.trans (decide_eq_false Om)
  refine stp ?_
  refine Jb rfl rfl hlt ⟨Rf,trivial⟩ fun nx1=> ?_
  cases b1
  ·refine stp ?_
   exact Ja rfl Rf
  refine stp ?_
  refine Jb rfl rfl hfew ⟨Rf,trivial⟩ fun nx2=> ?_
  cases b2
  ·refine stp ?_
   exact Ja rfl Rf
  refine stp ?_
  intro c hc
  obtain rfl:c=true:=hc.trans (decide_eq_true (by have hr:¬R.length≤20:=fun q=> h ⟨hL,rfl,rfl,q⟩;omega))
  refine stp ?_
  exact Ja rfl Rf
 ·obtain rfl:c=true:=hc.trans (decide_eq_true Om)
  refine stp ?_
  exact Ja rfl Rf
def JgI (P:Rec→Bool) (R:List Rec) (j:Nat):Option Nat:=((R.drop j).findIdx? P).map (·+j)
theorem JtW (P:Rec→Bool) (R:List Rec):JgI P R R.length=none:=by unfold JgI;rw [List.drop_length];rfl
theorem Jsn (P:Rec→Bool) (R:List Rec):JgI P R 0=R.findIdx? P:=by
 unfold JgI
 rw [List.drop_zero]
 cases R.findIdx? P <;> rfl
theorem Jso {P:Rec→Bool} {R:List Rec} {k:Nat} (h:k < R.length):JgI P R k=if P (R.getD k JaF) then some k else JgI P R (k+1):=by
 unfold JgI
 rw [List.drop_eq_getElem_cons h,List.findIdx?_cons,show R.getD k JaF=R[k] by simp [List.getD,h]]
 cases P R[k]
 ·simp only [Bool.false_eq_true,if_false,Option.map_map]
  refine congrArg (fun f=> Option.map f _) (funext fun x=> ?_)
  show x+1+k=x+(k+1)
  omega
 ·simp
theorem JjQ (l:List Nat):NoId (JI l):=NoId.sl fun i _ c hc=> by
 have hc:c∈ [u8 (l.getD i 0:Nat)]:=hc
 obtain rfl:=List.mem_singleton.1 hc
 exact NoId.v _
theorem Jsp (v:Nat) (s:Rn):NoId (Jkg v s):=NoId.ag fun c hc=> by
 simp only [List.mem_cons,List.not_mem_nil,or_false] at hc
 rcases hc with rfl | rfl | rfl
 ·exact NoId.v _
 ·exact NoId.v _
 ·exact NoId.sl fun i _ c hc=> by
   obtain rfl:=List.mem_singleton.1 hc
   exact NoId.v _
theorem Jvc (a b:Int):NoId (.tup [int a,int b]):=NoId.tup fun y hy=> by
 simp only [List.mem_cons,List.not_mem_nil,or_false] at hy
 rcases hy with rfl | rfl <;> exact NoId.v _
theorem Jv2 {b:Bool} {A B:Code} {E:Env} {Q:AExit→Env→Prop} (h1:b=true→AW Tryz.prog A E Q) (h2:b=false→AW Tryz.prog B E Q):AW Tryz.prog (bif b then A else B) E Q:=by
 cases b
 ·exact h2 rfl
 ·exact h1 rfl
theorem JqE:Tryz.prog.bytesOf 39=64:=by kernel_rfl
set_option maxHeartbeats 8000000 in
theorem Jvd (L:List Ins) (k n:Int) (x32:Bool) (rs:List Rul) (t:List TRow) (R:List Rec) (I e i11 e11:Int) (c1 c2:Nat) (rp:Bool) (V:Rec→Nat) (Q:Rec→Nat) (hL:L.length≤100) (hR:R.length≤20) (hlt:Tells Tryz.prog 4 [Jar ⟨(k,n),x32,rs⟩] (Jg true)) (hfew:Tells Tryz.prog 5 [Js t] (Jg true))
 (hrc:∀i,i < R.length→Tells Tryz.prog 6 [Jag (R.getD i JaF)] (Jag (R.getD i JaF))) (hwr:Tells Tryz.prog 8 [Jan L] (JI (Jav L))) (hof:Tells Tryz.prog 9 [Jar ⟨(k,n),x32,rs⟩] (Jar ⟨(k,n),x32,rs⟩)) (hrw:Tells Tryz.prog 10 [Js t] (Js t))
 (hdf:Tells Tryz.prog 7 [JI (Jav L),Jar ⟨(k,n),x32,rs⟩,Js t,JeQ R] (.tup [int I,int e])) (hck:Tells Tryz.prog 11 [Jan L] (.tup [int c1,int c2])) (hawk:Tells Tryz.prog 12 [] (Jg true)) (hrt:Tells Tryz.prog 13 [Jar ⟨(k,n),x32,rs⟩] (Jg rp)) (h11:Tells Tryz.prog 14 [Js t] (.tup [int i11,int e11]))
 (hbad:c2≠0→I=0∧e=(c2:Nat)) (hbad2:c2=0→rp=false→I=0∧e=13) (hbad3:c2=0→rp=true→e11≠0→I=0∧e=18)
 (hgood:c2=0→rp=true→e11=0→e=0∧I=JaV (R.findIdx? fun r=> (V r:Int) !=(Q r:Nat))∧(∀r∈R,V r < 4294967296)∧(∀i,i < R.length→∃s,Tells Tryz.prog 15 [Jan L,JI (Jek (R.getD i JaF))] (Jkg (V (R.getD i JaF)) s))∧(∀i,i < R.length→Tells Tryz.prog 16 [Jag (R.getD i JaF),Jg false] (JI (Jek (R.getD i JaF))))∧(∀i,i < R.length→Tells Tryz.prog 17 [Jar ⟨(k,n),x32,rs⟩,Js t,Jag (R.getD i JaF)] (int (Q (R.getD i JaF):Nat)))):
 Tells Tryz.prog 3 [.ag (Je3 L ⟨(k,n),x32,rs⟩ t R)] (Jg true):=by
 unfold Je3
 refine Jc Tryz.func3 rfl rfl fun nx=> ?_
 refine stp ?_
 intro c hc
 obtain rfl:c=false:=hc.trans (decide_eq_false Om)
 refine stp ?_
 refine Jb rfl rfl hlt ⟨Rf,trivial⟩ fun nx1=> ?_
 refine stp ?_
 refine Jb rfl rfl hfew ⟨Rf,trivial⟩ fun nx2=> ?_
 refine stp ?_
 intro c hc
 obtain rfl:c=false:=hc.trans (decide_eq_false Om)
 (refine Jt ?_;refine Jv ?_;refine Jt ?_;refine Jv ?_;refine Jt ?_)
 refine J4 (n:=154) (nx:=nx2) (nn:=1) (pm:= []) (bx:= []) (L:= [(1, .rp (Je3 L ⟨(k,n),x32,rs⟩ t R)),(3, .os 0 0 (fun _=> .any) none),(4,int 0)]) (df:=some []) [((0,nx), .c (Je3 L ⟨(k,n),x32,rs⟩ t R))] rfl rfl rfl (List.Perm.refl _) Sf ⟨Frz.bp (.head _) rfl,Frz.refl _,Frz.refl _,trivial⟩ ?_
 unfold Je3
 refine Jr (fun s:Nat×Option Nat×Nat=> mk 154 [(1, .rp [Jan L,int k,int n,Jg x32,J8 rs,Js t,JeQ R]),(3, .os 9 s.1 (fun j=> Jag (R.getD j JaF)) (nmd s.2.1)),(4,int s.1)] ⟨[],JaH (nmd s.2.1) (s.1 * 9),s.2.2,1⟩) (fun s=> s.1≤R.length∧(s.2.1=none→s.1=0)) (fun s=> R.length - s.1) ?_ ?_
 ·exact ⟨(0,none,nx2),⟨Nat.zero_le _,fun _=> rfl⟩,Je (pm:= []) _ [] rfl rfl Sf Sf trivial trivial ⟨Rf,AVle.os_nil,Rf,trivial⟩⟩
 ·rintro ⟨i,oi,nx3⟩ ⟨h3,h4⟩
  dsimp only at h3 h4
  refine stp ?_
  intro c h5;cases c
  ·have h6:=Jm h5
   dsimp only at h6
   obtain rfl:i=R.length:=by omega
   refine Jt ?_
   refine AW.le (Je (n:=154) (nx:=nx3) (nn:=1) (bx:= []) (pm:= []) (L:= [(1, .rp [Jan L,int k,int n,Jg x32,J8 rs,Js t,JeQ R]),(3,JeQ R)]) [] [] rfl rfl .slnil (List.nil_sublist _) trivial trivial ⟨Rf,AVle.os_sl,trivial⟩) ?_
   refine Jah 15 [] (fun _=> false) (fun i=> match i with | 2=> true | 5=> true | 8=> true | 10=> true | _=> false) [0,1,2,3,4,5,6,7,8,9,10,11,12,13,14] (by kernel_rfl) (by kernel_rfl) (fun _ _ _ h=> by cases h) ?_
   refine stp ?_
   refine ⟨_,JG rfl rfl rfl hwr ⟨Rf,trivial⟩ (JjQ _), ?_⟩
   refine stp ?_
   refine ⟨_,JG rfl rfl rfl hof ⟨Rf,trivial⟩ (Jqt _), ?_⟩
   refine stp ?_
   refine ⟨_,JG rfl rfl rfl hrw ⟨Rf,trivial⟩ (JjM _), ?_⟩
   refine stp ?_
   refine ⟨_,JG rfl rfl rfl hdf ⟨Rf,Rf,Rf,Rf,trivial⟩ (Jvc _ _), ?_⟩
   refine stp ?_
   refine Jb rfl rfl hck ⟨Rf,trivial⟩ fun nx4=> ?_
   refine stp ?_
   intro c hc
   by_cases hc2:c2=0
   rotate_left
   ·obtain rfl:c=true:=hc.trans (bne_iff_ne.2 Om)
    obtain ⟨rfl,rfl⟩:=hbad hc2
    refine stp ?_
    intro c hc
    obtain rfl:c=true:=hc.trans (beq_self_eq_true _)
    refine stp ?_
    refine Jb rfl rfl hawk trivial fun nx5=> ?_
    refine stp ?_
    exact Ja rfl Rf
   subst hc2
   obtain rfl:c=false:=hc
   refine stp ?_
   refine Jb rfl rfl hrt ⟨Rf,trivial⟩ fun nx5=> ?_
   cases rp
   ·obtain ⟨rfl,rfl⟩:=hbad2 rfl rfl
    refine stp ?_
    refine Jb rfl rfl hawk trivial fun nx6=> ?_
    refine stp ?_
    exact Ja rfl Rf
   refine stp ?_
   refine Jb rfl rfl h11 ⟨Rf,trivial⟩ fun nx6=> ?_
   refine stp ?_
   intro c hc
   by_cases h0:e11=0
   rotate_left
   ·obtain rfl:c=true:=hc.trans (bne_iff_ne.2 h0)
    obtain ⟨rfl,rfl⟩:=hbad3 rfl rfl h0
    refine stp ?_
    refine Jb rfl rfl hawk trivial fun nx7=> ?_
    refine stp ?_
    exact Ja rfl Rf
   subst h0
   obtain rfl:c=false:=hc
   obtain ⟨rfl,hI,hV,hrun,hw5,hjd⟩:=hgood rfl rfl rfl
   refine stp ?_
   refine Jr (fun y:Nat×Nat=> mk 154 [(1, .rp [Jan L,int k,int n,Jg x32,J8 rs,Js t,JeQ R]),(5,int I),(6,int 0),(11,int (JaV (JgI (fun r=> (V r:Int) !=(Q r:Nat)) R y.1))),(12,int ((y.1:Int) - 1))] ⟨[], [],y.2,1⟩) (fun y=> y.1≤R.length) (fun y=> y.1) ?_ ?_
   ·exact ⟨(R.length,nx6),Nat.le_refl _,Je (pm:= []) [] [] rfl rfl .slnil .slnil trivial trivial ⟨Rf,Rf,Rf,Jd (by rw [JtW];rfl),Jd (Jq Om Om),trivial⟩⟩
   ·rintro ⟨j,nx7⟩ hj
    dsimp only at hj
    refine stp ?_
    intro c g;cases c
    ·have g:=Jm g
     try dsimp only at g
     obtain rfl:j=0:=by omega
     refine stp ?_
     intro c hc
     obtain rfl:c=true:=hc.trans (by rw [Jsn,hI];exact beq_self_eq_true _)
     refine stp ?_
     refine Jb rfl rfl hawk trivial fun nx8=> ?_
     refine stp ?_
     exact Ja rfl Rf
    ·have g:=Jl g
     try dsimp only at g
     obtain ⟨m,rfl⟩:∃m,j=m+1:=⟨j - 1,by omega⟩
     have hm:m < R.length:=by omega
     obtain ⟨s,hr⟩:=hrun m hm
     have hv:=hV _ (show R.getD m JaF∈R by simp [List.getD,hm])
     refine Jt ?_
     refine AW.le (Je (n:=154) (nx:=nx7) (nn:=1) (bx:= []) (pm:= []) (L:= [(1, .rp [Jan L,int k,int n,Jg x32,J8 rs,Js t,JeQ R]),(5,int I),(6,int 0),(11,int (JaV (JgI (fun r=> (V r:Int) !=(Q r:Nat)) R (m+1)))),(12,int (m:Nat))]) [] [] rfl rfl .slnil .slnil trivial trivial ⟨Rf,Rf,Rf,Rf,Jd Dm,trivial⟩) ?_
     refine Jah 22 [] (fun _=> false) (fun i=> match i with | 7=> true | 8=> true | 20=> true | _=> false) [0,1,2,3,4,5,6,7,8,9,10,11,12,13,14,15,16,17,18,19,20,21] (by kernel_rfl) (by kernel_rfl) (fun _ _ _ h=> by cases h) ?_
     refine stp ?_
     refine ⟨⟨by omega,by omega⟩, ?_⟩
     refine stp ?_
     refine ⟨_,JG rfl rfl rfl (hw5 m hm) ⟨Rf,Rf,trivial⟩ (JjQ _), ?_⟩
     refine stp ?_
     refine ⟨_,JG rfl rfl rfl hr ⟨Rf,Rf,trivial⟩ (Jsp _ _), ?_⟩
     refine stp ?_
     refine ⟨⟨by omega,by omega⟩, ?_⟩
     refine stp ?_
     refine ⟨_,JG rfl rfl rfl (hjd m hm) ⟨Rf,Rf,Rf,trivial⟩ (NoId.v _), ?_⟩
     refine stp ?_
     have hw:IntKind.i64.wrap (V (R.getD m JaF):Int)=(V (R.getD m JaF):Int):=Jq Om Om
     have hs:=Jso (P:=fun r=> (V r:Int) !=(Q r:Nat)) hm
     (conv=> whnf)
     first | refine JjT (t:=(IntKind.i64.wrap (V (R.getD m JaF):Int)) !=(Q (R.getD m JaF):Nat)) rfl (fun h=> ?_) (fun h=> ?_) | refine Jv2 (fun h=> ?_) (fun h=> ?_)
     ·rw [hw] at h
      rw [if_pos h] at hs
      refine stp ?_
      exact back (m,nx7) Dm Dm (Je (pm:= []) [] [] rfl rfl .slnil .slnil trivial trivial ⟨Rf,Rf,Rf,Jd (by dsimp only;rw [hs];rfl),Jd (Jq Om Om),trivial⟩)
     ·rw [hw] at h
      rw [if_neg (by rw [h];decide)] at hs
      refine stp ?_
      exact back (m,nx7) Dm Dm (Je (pm:= []) [] [] rfl rfl .slnil .slnil trivial trivial ⟨Rf,Rf,Rf,Jd (by dsimp only;rw [hs]),Jd (Jq Om Om),trivial⟩)
  ·have h6:=Jl h5
   dsimp only at h6
   have hi:i < R.length:=by omega
   refine Jt ?_
   refine J7 (fun n=> match n with | 1=> true | _=> false) 10 ?_
   refine stp ?_
   refine ⟨⟨by dsimp only;omega,by dsimp only;omega⟩, ?_⟩
   refine stp ?_
   refine Jb rfl rfl (hrc i hi) ⟨Rf,trivial⟩ fun nx5=> ?_
   refine stp ?_
   refine Jdm (e:=39) (c:=9) (pm:= []) (n:=i) (oi:=nmd oi) (sz:=9) (f:=fun j=> Jag (R.getD j JaF)) rfl rfl (.inr ⟨_,rfl⟩) (by kernel_rfl) (by kernel_rfl) (by kernel_rfl) (.inr rfl) (by kernel_rfl) (List.append_nil _).symm (JZ rfl) (by rw [JqE];omega) Om ?_
   refine stp ?_
   refine back (i+1,some nx5,nx5+1) ⟨by dsimp only;omega,(fun h=> by cases h)⟩ Dm (Je (pm:= [((0,nx5),(i+1) * 9)]) [] [((1,nx5),(i+1) * 9)] rfl rfl .slnil Sf trivial ⟨rfl,rfl,trivial⟩ ⟨Rf, ?_,Jd (Jk Dm),trivial⟩)
   (conv=> arg 1;whnf)
   exact (AVle.os_fun (f':=fun j=> Jag (R.getD j JaF)) (JaT (fun k hk=> rfl) rfl)).trans (AVle.os_nm rfl)
end Go.Proofs.W

namespace Go.Proofs.W
section
variable {l:List Ins}
def cnt (l:List Ins) (n:Nat):Nat:=((Jjr l).take n).count true
end
end Go.Proofs.W

namespace Go.Proofs.W
open Go.Vl
theorem JoX {b:List Nat} (hb:okB b) {l:List Ins} (hl:okL l) (hf:Formed l):∀f (s:Rn),s.at' < l.length→s.ok→(runV b l f s).2.ok∧(runV b l f s).1 < 4294967296
 | 0,s,_,h=> ⟨h,by show 0 < _;decide⟩
 | f+1,s,ha,h=> by
   have h1:(Jda b l s).2.ok:=JmO hb (hl.get ha) ⟨h.a,h.x,h.n,h.c⟩
   unfold runV
   cases he:Jda b l s with
   | mk o s'=>
     rw [he] at h1
     cases o with
     | some v=>
       refine ⟨h1, ?_⟩
       have hi:=hl.get ha
       have h5:(doV b (l.getD s.at' ins0) { s with at':=s.at'+1,steps:=s.steps+1}).1=some v:=congrArg Prod.fst he
       unfold doV at h5
       split at h5
       all_goals first
        | (cases h5;done)
        | (cases h5;exact hi.2.2.2)
        | (cases h5;exact h.a)
        | skip
       split at h5
       ·split at h5
        ·cases h5
        ·cases h5;dsimp only;decide
       ·cases h5
     | none=>
       obtain ⟨n1,n2⟩:=Je0 he
       exact JoX hb hl hf f s' (JbT hf ha _ n1).2 h1
theorem Jve {b:List Nat} (hb:okB b) {l:List Ins} (hl:okL l) (hf:Formed l):(runI b l).1 < 4294967296:=(JoX hb hl hf l.length rn0 hf.pos JmN).2
structure Sim (l:List Ins) (s t:Rn):Prop where
 at':t.at'=cnt l s.at'
 a:t.a=s.a
 x:t.x=s.x
 cells:t.cells=s.cells
 steps:t.steps=s.steps
 loads:t.loads=s.loads
end Go.Proofs.W

namespace Go.Proofs.W
open Go.Vl
set_option maxRecDepth 100000
theorem JjR {α:Type} {p q:α→Bool}:∀ {l:List α},(∀x∈l,p x=q x)→l.findIdx? p=l.findIdx? q
 | [],_=> rfl
 | a::l,h=> by
   rw [List.findIdx?_cons,List.findIdx?_cons,h a (List.mem_cons_self ..),JjR fun x hx=> h x (List.mem_cons_of_mem _ hx)]
theorem JiS (L:List Ins) (p:Pol) (t:List TRow) (R:List Rec) (hok:okL L) (hLl:L.length≤maxLen) (hp:p.ok) (htl:t.length≤maxLen) (hn:∀q∈t,q.name.size≤maxLen) (hR:∀r∈R,r.ok) (hRl:R.length≤maxLen):
 Tells Tryz.prog 3 [.ag (Je3 L p t R)] (Jg true):=by
 have hlt:=Jsm p hp.1
 have hfew:=JqC t htl hn
 by_cases hg:L.length≤100∧Jf8 p=true∧JiJ t=true∧R.length≤20
 rotate_left
 ·obtain ⟨⟨k,n⟩,x32,rs⟩:=p
  exact JtV L k n x32 rs t R _ _ hlt hfew hg
 obtain ⟨hL,hlp,hfl,hR20⟩:=hg
 have hpo:=JtM hp hlp
 obtain ⟨hl40,hn60⟩:=JvT hfl
 rw [hlp] at hlt
 rw [hfl] at hfew
 have hdf:=Jop L p t R hok Om hpo hp Om hn hR Om
 have hcs:=Joo p t
 have hof:=Jvb p hpo.1 (fun r hr=> (hpo.2 r hr).1)
 have hrt:=Jm6 p
 have hin:∀i,i < R.length→R.getD i JaF∈R:=fun i hi=> by simp [List.getD,hi]
 have hrj:=fun (h:Jaw p=true) i (hi:i < R.length)=> JlC p t (R.getD i JaF) hpo h Om (hR _ (hin i hi))
 have hbd:(checkI L).2≠0→(JdD L p t R).1=0∧(JdD L p t R).2=((checkI L).2:Nat):=fun h=> by unfold JdD;rw [if_neg h];exact ⟨rfl,rfl⟩
 have hb2:(checkI L).2=0→Jaw p=false→(JdD L p t R).1=0∧(JdD L p t R).2=13:=fun h h2=> by
  rcases hcs JaF with ⟨_,e⟩ | ⟨e,_⟩ | ⟨e,_⟩
  ·unfold JdD;rw [if_pos h,e,if_neg Dc];exact ⟨rfl,rfl⟩
  ·rw [h2] at e;cases e
  ·rw [h2] at e;cases e
 have hb3:(checkI L).2=0→Jaw p=true→(JcL t).2≠0→(JdD L p t R).1=0∧(JdD L p t R).2=18:=fun h h2 h3=> by
  rcases hcs JaF with ⟨e,_⟩ | ⟨_,_,e⟩ | ⟨_,e,_⟩
  ·rw [h2] at e;cases e
  ·unfold JdD;rw [if_pos h,e,if_neg Dc];exact ⟨rfl,rfl⟩
  ·exact absurd ((Jhw t).1 e) h3
 have hg4:(checkI L).2=0→Jaw p=true→(JcL t).2=0→(JdD L p t R).2=0∧(JdD L p t R).1=JaV (R.findIdx? fun r=> ((runI (Jek r) L).1:Int) !=(JeN p t r:Nat)):=fun h h2 h3=> by
  have ht:=(Jhw t).2 h3
  have e0:(Jbt p t JaF).2=0:=by
   rcases hcs JaF with ⟨e,_⟩ | ⟨_,e,_⟩ | ⟨_,_,e,_⟩
   ·rw [h2] at e;cases e
   ·exact absurd ht e
   ·rw [e]
  unfold JdD
  rw [if_pos h,if_pos e0]
  refine ⟨rfl,congrArg JaV (JjR fun r _=> ?_)⟩
  unfold Jkq Jnd
  rw [if_pos h]
  rcases hcs r with ⟨e,_⟩ | ⟨_,e,_⟩ | ⟨_,_,e,_⟩
  ·rw [h2] at e;cases e
  ·exact absurd ht e
  ·rw [e]
 obtain ⟨⟨k,n⟩,x32,rs⟩:=p
 refine Jvd L k n x32 rs t R _ _ _ _ _ _ _ (fun r=> (runI (Jek r) L).1) (JeN ⟨(k,n),x32,rs⟩ t) hL hR20 hlt hfew (fun i hi=> JlD _) (JpE L hok Om) hof (Jnm t Om) hdf (Jn3 L hok Om) Jnn hrt (JjI t Om) hbd hb2 hb3 fun h h2 h3=> ?_
 obtain ⟨e1,e2⟩:=hg4 h h2 h3
 have hRi:=Jhm.1 h
 exact ⟨e1,e2,fun r hr=> Jve (Jkc r) hok hRi.1,fun i hi=> ⟨_,Jn5 L hok hRi _ (Jkc _) (JiH _)⟩,fun i hi=> Jnh _ (hR _ (hin i hi)),hrj h2⟩
end Go.Proofs.W
