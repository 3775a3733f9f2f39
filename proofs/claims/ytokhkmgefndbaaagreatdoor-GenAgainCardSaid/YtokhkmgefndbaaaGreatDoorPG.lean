import Derived.Test.YtokhkmgefndbaaaGreatDoorPF
import Derived.Sort.LotC
import Derived.Test.YtokhkmgefndbaaaGreatDoorPE
import Derived.Test.YtokhkmgefndbaaaGreatDoorPD
import Derived.Test.YtokhkmgefndbaaaGreatDoorPC
set_option linter.unusedVariables false
set_option linter.unusedSimpArgs false
namespace Go.Proofs.W
open Go.Vl
set_option maxRecDepth 100000
set_option maxHeartbeats 4000000 in
theorem Jrh (d0:Array (Int)) (tl:List AV) (n lo hi F:Nat) (hn:d0.size=n) (hlo:lo≤hi) (hb:F+hi≤n) (hsz:n≤1000000) (s cap nx:Nat):
 ECall Tryz.prog 277 [.hs (0,s) 0 n cap,int lo,int hi,int F] ⟨Jm s d0 tl, [],nx,1⟩ (fun r h'=> ∃nx' nn',h'=⟨Jm s (Go.Sort.siftDown Go.Sort.ltInt hi F lo d0) tl, [],nx',nn'⟩):=by
 refine ECall.wk (Jn Tryz.func277 rfl rfl ?_)
 refine stp ?_
 refine Js (fun y:Array (Int)×Nat×Nat=> mk 76 [(0, .hs (0,s) 0 n cap),(1,int lo),(2,int hi),(3,int F),(8,int y.2.1)] ⟨Jm s y.1 tl, [],y.2.2,1⟩) (fun y=> y.1.size=n∧y.2.1≤hi∧Go.Sort.siftDown Go.Sort.ltInt hi F y.2.1 y.1=Go.Sort.siftDown Go.Sort.ltInt hi F lo d0) (fun y=> hi - y.2.1) ?_ ?_
 ·exact ⟨(d0,lo,nx),⟨hn,hlo,rfl⟩,Jc _ _ rfl rfl Sf .slnil Bf trivial ⟨Rf,Rf,Rf,Rf,Rf,trivial⟩⟩
 ·rintro ⟨d,r,nx1⟩ ⟨h1,h2,h3⟩
  dsimp only at h1 h2 h3
  have hc1:IntKind.i64.wrap (IntKind.i64.wrap (2 * (r:Int))+1)=((2 * r+1:Nat):Int):=by rw [show IntKind.i64.wrap (2 * (r:Int))=((2 * r:Nat):Int) from Jdj Om Om];exact Jdj Om Om
  refine Jy ?_
  refine JQ ?_
  refine Jy ?_
  refine Jid (bx:=Jm s d tl) (pm:= []) (nx:=nx1) (nn:=1) (df:=some []) (L:= [(0, .hs (0,s) 0 n cap),(1,int lo),(2,int hi),(3,int F),(8,int r),(9,int (2 * r+1:Nat))]) rfl rfl rfl Sf .slnil ⟨Rf,Rf,Rf,Rf,Rf,Jg hc1,trivial⟩ ?_
  refine stp ?_
  intro c g;cases c
  ·have g:=Jw g
   try dsimp only at g
   have hlt:¬2 * r+1≥hi:=by omega
   have hc2:IntKind.i64.wrap (((2 * r+1:Nat):Int)+1)=((2 * r+2:Nat):Int):=Jdj Om Om
   refine Jy ?_
   refine Jen (fun nx2:Nat=> mk 76 [(0, .hs (0,s) 0 n cap),(1,int lo),(2,int hi),(3,int F),(8,int r),(9,int (JcY Go.Sort.ltInt hi F r d:Nat))] ⟨Jm s d tl, [],nx2,1⟩) (fun _=> True) ?_ ?_
   ·by_cases hg:2 * r+2 < hi
    ·have hd:decide (IntKind.i64.wrap (((2 * r+1:Nat):Int)+1) < (hi:Int))=true:=decide_eq_true (by rw [hc2];omega)
     have e1:IntKind.i64.wrap ((F:Int)+((2 * r+1:Nat):Int))=((F+(2 * r+1):Nat):Int):=Jdj Om Om
     have e2:IntKind.i64.wrap (IntKind.i64.wrap ((F:Int)+((2 * r+1:Nat):Int))+1)=((F+(2 * r+2):Nat):Int):=by rw [e1];exact Jdj Om Om
     (refine JH 20 ?_ ?_ ?_ ?_;(· kernel_rfl);(· kernel_rfl);(· kernel_rfl))
     refine stp ?_
     (conv=> whnf)
     refine JaE hd ?_
     refine stp ?_
     refine ⟨⟨JF (i:=F+(2 * r+1)) (e1),JG (i:=F+(2 * r+1)) (e1) Om⟩,Jk (b:= .bp (0,s) (F+(2 * r+1))) (congrArg (AV.bp (0,s)) (JN (i:=F+(2 * r+1)) Jt (e1))) ?_⟩
     (conv=> whnf)
     refine ⟨⟨rfl,Jai (show F+(2 * r+1) < d.size by omega)⟩,Jk (b:=Jj d[F+(2 * r+1)]!) (J6 (show F+(2 * r+1) < d.size by omega)) ?_⟩
     refine stp ?_
     refine ⟨⟨JF (i:=F+(2 * r+2)) (e2),JG (i:=F+(2 * r+2)) (e2) Om⟩,Jk (b:= .bp (0,s) (F+(2 * r+2))) (congrArg (AV.bp (0,s)) (JN (i:=F+(2 * r+2)) Jt (e2))) ?_⟩
     (conv=> whnf)
     refine ⟨⟨rfl,Jai (show F+(2 * r+2) < d.size by omega)⟩,Jk (b:=Jj d[F+(2 * r+2)]!) (J6 (show F+(2 * r+2) < d.size by omega)) ?_⟩
     refine stp ?_
     refine J8 (JR rfl rfl (Jcb d[F+(2 * r+1)]! d[F+(2 * r+2)]!) ⟨Rf,Rf,trivial⟩ (NoId.v _)) ?_
     refine stp ?_
     intro c hlt;cases c
     ·have hs:JcY Go.Sort.ltInt hi F r d=2 * r+1:=if_neg (fun hh=> by rw [← hlt] at hh;cases hh.2)
      refine stp ?_
      rw [hs]
      exact ⟨nx1,trivial,Jc _ _ rfl rfl Sf .slnil Bf trivial ⟨Rf,Rf,Rf,Rf,Rf,Rf,trivial⟩⟩
     ·have hs:JcY Go.Sort.ltInt hi F r d=2 * r+2:=if_pos ⟨hg,hlt.symm⟩
      refine stp ?_
      rw [hs]
      exact ⟨nx1,trivial,Jc _ _ rfl rfl Sf .slnil Bf trivial ⟨Rf,Rf,Rf,Rf,Rf,Jg hc2,trivial⟩⟩
    ·have hd:decide (IntKind.i64.wrap (((2 * r+1:Nat):Int)+1) < (hi:Int))=false:=decide_eq_false (by rw [hc2];omega)
     have hs:JcY Go.Sort.ltInt hi F r d=2 * r+1:=if_neg (fun hh=> hg hh.1)
     (refine JH 20 ?_ ?_ ?_ ?_;(· kernel_rfl);(· kernel_rfl);(· kernel_rfl))
     refine stp ?_
     (conv=> whnf)
     refine JaE hd ?_
     refine stp ?_
     rw [hs]
     exact ⟨nx1,trivial,Jc _ _ rfl rfl Sf .slnil Bf trivial ⟨Rf,Rf,Rf,Rf,Rf,Rf,trivial⟩⟩
   ·intro nx2 _
    have hcc:JcY Go.Sort.ltInt hi F r d=2 * r+1∨JcY Go.Sort.ltInt hi F r d=2 * r+2:=by unfold JcY;split <;> simp
    have hch:JcY Go.Sort.ltInt hi F r d < hi:=by unfold JcY;split <;> omega
    have kend:=JnH (lt:=Go.Sort.ltInt) (hi:=hi) (F:=F) (root:=r) (d:=d) hlt
    have kgo:=JpV (lt:=Go.Sort.ltInt) (hi:=hi) (F:=F) (root:=r) (d:=d) hlt
    generalize JcY Go.Sort.ltInt hi F r d=c at hcc hch kend kgo⊢
    have e1:IntKind.i64.wrap ((F:Int)+(r:Int))=((F+r:Nat):Int):=Jdj Om Om
    have e2:IntKind.i64.wrap ((F:Int)+(c:Int))=((F+c:Nat):Int):=Jdj Om Om
    refine stp ?_
    (refine JH 14 ?_ ?_ ?_ ?_;(· kernel_rfl);(· kernel_rfl);(· kernel_rfl))
    refine stp ?_
    refine ⟨⟨JF (i:=F+r) (e1),JG (i:=F+r) (e1) Om⟩,Jk (b:= .bp (0,s) (F+r)) (congrArg (AV.bp (0,s)) (JN (i:=F+r) Jt (e1))) ?_⟩
    (conv=> whnf)
    refine ⟨⟨rfl,Jai (show F+r < d.size by omega)⟩,Jk (b:=Jj d[F+r]!) (J6 (show F+r < d.size by omega)) ?_⟩
    refine stp ?_
    refine ⟨⟨JF (i:=F+c) (e2),JG (i:=F+c) (e2) Om⟩,Jk (b:= .bp (0,s) (F+c)) (congrArg (AV.bp (0,s)) (JN (i:=F+c) Jt (e2))) ?_⟩
    (conv=> whnf)
    refine ⟨⟨rfl,Jai (show F+c < d.size by omega)⟩,Jk (b:=Jj d[F+c]!) (J6 (show F+c < d.size by omega)) ?_⟩
    refine stp ?_
    refine J8 (JR rfl rfl (Jcb d[F+r]! d[F+c]!) ⟨Rf,Rf,trivial⟩ (NoId.v _)) ?_
    refine stp ?_
    intro c hlt2;cases c
    ·have hl:Go.Sort.ltInt d[F+r]! d[F+c]! =false:=hlt2.symm
     rw [kend hl] at h3
     subst h3
     refine stp ?_
     exact Jr rfl ⟨_,_,Rf,Jq (Jm s (Go.Sort.siftDown Go.Sort.ltInt hi F lo d0) tl) [] rfl Sf .slnil Bf Pf,_,1,rfl⟩
    ·have hl:Go.Sort.ltInt d[F+r]! d[F+c]! =true:=hlt2.symm
     rw [kgo hl] at h3
     refine stp ?_
     refine Jcc 24 (fun i=> match i with | 21=> true | 23=> true | _=> false) (fun i=> match i with | 13=> true | 19=> true | _=> false) [0,1,2,3,4,5,6,7,8,9,10,11,12,14,15,16,17,18,13,19,20,21,22,23] (by kernel_rfl) (by kernel_rfl) ?_
     (conv=> whnf)
     refine ⟨⟨JF (i:=F+c) (e2),JG (i:=F+c) (e2) Om⟩, ?_⟩
     (conv=> whnf)
     refine ⟨⟨JF (i:=F+r) (e1),JG (i:=F+r) (e1) Om⟩, ?_⟩
     (conv=> whnf)
     refine ⟨Jj d[F+c]!,Jae (E:=Jj) (d:=d) (tl:=tl) (j:=F+c) rfl rfl rfl (JN (i:=F+c) Jt (e2)) rfl Ja2 rfl Om, ?_⟩
     (conv=> whnf)
     refine ⟨Jj d[F+r]!,Jae (E:=Jj) (d:=d) (tl:=tl) (j:=F+r) rfl rfl rfl (JN (i:=F+r) Jt (e1)) rfl Ja2 rfl Om, ?_⟩
     (conv=> whnf)
     refine ⟨⟨JF (i:=F+r) (e1),JG (i:=F+r) (e1) Om⟩, ?_⟩
     (conv=> whnf)
     refine ⟨_,Jad (E:=Jj) (d:=d) (tl:=tl) (j:=F+r) (z:=d[F+c]!) rfl rfl rfl rfl (JN (i:=F+r) Jt (e1)) rfl rfl rfl rfl (by kernel_rfl) Jt Om,fun r0 h0 hr0=> ?_⟩
     subst hr0
     (conv=> whnf)
     refine ⟨⟨JF (i:=F+c) (e2),JG (i:=F+c) (e2) Om⟩, ?_⟩
     (conv=> whnf)
     refine ⟨_,Jad (E:=Jj) (d:=(d).setIfInBounds (F+r) d[F+c]!) (tl:=tl) (j:=F+c) (z:=d[F+r]!) rfl rfl rfl rfl (JN (i:=F+c) Jt (e2)) rfl rfl rfl rfl (by kernel_rfl) Jt (by simp;omega),fun r0 h0 hr0=> ?_⟩
     subst hr0
     refine stp ?_
     exact back (Go.Sort.swp d (F+r) (F+c),c,nx2) ⟨by dsimp only;rw [JbA];exact h1,by dsimp only;omega,h3⟩ Dm (Jc _ _ rfl rfl Sf .slnil Bf trivial ⟨Rf,Rf,Rf,Rf,Rf,trivial⟩)
  ·have g:=Jv g
   try dsimp only at g
   rw [Jin Om] at h3
   subst h3
   refine stp ?_
   exact Jr rfl ⟨_,_,Rf,Jq (Jm s (Go.Sort.siftDown Go.Sort.ltInt hi F lo d0) tl) [] rfl Sf .slnil Bf Pf,_,1,rfl⟩
set_option maxHeartbeats 4000000 in
theorem JyK (d0:Array (Int)) (tl:List AV) (n a b:Nat) (hn:d0.size=n) (hab:a≤b) (hb:b≤n) (hsz:n≤1000000) (s cap nx:Nat):
 ECall Tryz.prog 200 [.hs (0,s) 0 n cap,int a,int b] ⟨Jm s d0 tl, [],nx,1⟩ (fun r h'=> ∃nx' nn',h'=⟨Jm s (Go.Sort.heapSort Go.Sort.ltInt d0 a b) tl, [],nx',nn'⟩):=by
 refine ECall.wk (Jn Tryz.func200 rfl rfl ?_)
 have hq:Go.Sort.heapSort Go.Sort.ltInt d0 a b=Go.Sort.heapPop Go.Sort.ltInt a (b - a) (Go.Sort.heapBuild Go.Sort.ltInt (b - a) a ((b - a - 1) / 2+1) d0):=rfl
 have eh:IntKind.i64.wrap ((b:Int) - (a:Int))=((b - a:Nat):Int):=Jdj Om Om
 have hab':a+(b - a)≤n:=by omega
 generalize b - a=m at hq eh hab'
 have e1:IntKind.i64.wrap (Int.tdiv (IntKind.i64.wrap ((m:Int) - 1)) 2)=(((m - 1) / 2+1:Nat):Int) - 1:=by
  rw [Ju (n:=(m:Int) - 1) Om Om]
  rcases Nat.eq_zero_or_pos m with h | h
  ·subst h;decide
  ·rw [show (m:Int) - 1=((m - 1:Nat):Int) by omega,show Int.tdiv ((m - 1:Nat):Int) 2=(((m - 1) / 2:Nat):Int) from rfl]
   rw [Ju Om Om];omega
 have hm0:(m - 1) / 2+1≤m+1:=by omega
 generalize hk0:(m - 1) / 2+1=k0 at hq e1 hm0
 have hk00:k0≤m∨(m=0∧k0=1):=by omega
 rw [hq]
 (refine Jy ?_;refine JQ ?_;refine Jy ?_;refine JQ ?_;refine Jy ?_;refine JQ ?_;refine Jy ?_)
 refine Jid (bx:=Jm s d0 tl) (pm:= []) (nx:=nx) (nn:=1) (df:=some []) (L:= [(0, .hs (0,s) 0 n cap),(1,int a),(2,int b),(6,int a),(7,int (0:Nat)),(8,int m)]) rfl rfl rfl Sf .slnil ⟨Rf,Rf,Rf,Rf,Rf,Jg eh,trivial⟩ ?_
 refine stp ?_
 refine Ja5 (fun y:Array (Int)×Nat=> mk 56 [(0, .hs (0,s) 0 n cap),(6,int a),(7,int (0:Nat)),(8,int m)] ⟨Jm s y.1 tl, [],y.2,1⟩) (fun y=> y.1.size=n∧y.1=Go.Sort.heapBuild Go.Sort.ltInt m a k0 d0) ?_ ?_
 ·refine Js (fun y:Array (Int)×Nat×Nat=> mk 56 [(0, .hs (0,s) 0 n cap),(6,int a),(7,int (0:Nat)),(8,int m),(9,int ((y.2.1:Int) - 1))] ⟨Jm s y.1 tl, [],y.2.2,1⟩) (fun y=> y.1.size=n∧y.2.1≤k0∧Go.Sort.heapBuild Go.Sort.ltInt m a y.2.1 y.1=Go.Sort.heapBuild Go.Sort.ltInt m a k0 d0) (fun y=> y.2.1) ?_ ?_
  ·exact ⟨(d0,k0,nx),⟨hn,Nat.le_refl _,rfl⟩,Jc _ _ rfl rfl Sf .slnil Bf trivial ⟨Rf,Rf,Rf,Rf,Jg e1,trivial⟩⟩
  ·rintro ⟨d,k,nx1⟩ ⟨h1,h2,h3⟩
   dsimp only at h1 h2 h3
   refine stp ?_
   intro c g;cases c
   ·have g:=Jw g
    try dsimp only at g
    obtain rfl:k=0:=by omega
    refine stp ?_
    exact ⟨(d,nx1),⟨h1,h3⟩,Jc _ _ rfl rfl Sf .slnil Bf trivial ⟨Rf,Rf,Rf,Rf,trivial⟩⟩
   ·have g:=Jv g
    try dsimp only at g
    obtain ⟨k,rfl⟩:∃k',k=k'+1:=⟨k - 1,by omega⟩
    refine stp ?_
    refine Jf (xs:= [.hs (0,s) 0 n cap,int k,int m,int a]) [] [] 1 rfl rfl rfl rfl ⟨Rf,Jg (by first | omega | (dsimp only;omega)),Rf,Rf,trivial⟩ (Jrh d tl n k m a h1 Om Om hsz s cap nx1) Bf Pf rfl fun r h' hq=> ?_
    obtain ⟨nx2,nn',rfl⟩:=hq
    refine stp ?_
    exact back (_,k,nx2) ⟨by dsimp only;rw [JlF _ _ _ (Nat.le_refl _)];exact h1,by dsimp only;omega,h3⟩ Dm (Jc _ _ rfl rfl Sf .slnil Bf trivial ⟨Rf,Rf,Rf,Rf,Jg (by rw [Ju (by first | omega | (dsimp only;omega)) (by first | omega | (dsimp only;omega))];first | omega | (dsimp only;omega)),trivial⟩)
 ·rintro ⟨d1,nx1⟩ ⟨h1,h2⟩
  dsimp only at h1 h2
  refine stp ?_
  refine Js (fun y:Array (Int)×Nat×Nat=> mk 56 [(0, .hs (0,s) 0 n cap),(6,int a),(7,int (0:Nat)),(8,int m),(10,int ((y.2.1:Int) - 1))] ⟨Jm s y.1 tl, [],y.2.2,1⟩) (fun y=> y.1.size=n∧y.2.1≤m∧Go.Sort.heapPop Go.Sort.ltInt a y.2.1 y.1=Go.Sort.heapPop Go.Sort.ltInt a m (Go.Sort.heapBuild Go.Sort.ltInt m a k0 d0)) (fun y=> y.2.1) ?_ ?_
  ·exact ⟨(d1,m,nx1),⟨h1,Nat.le_refl _,by dsimp only;rw [h2]⟩,Jc _ _ rfl rfl Sf .slnil Bf trivial ⟨Rf,Rf,Rf,Rf,Jg (by rw [Ju (by first | omega | (dsimp only;omega)) (by first | omega | (dsimp only;omega))]),trivial⟩⟩
  ·rintro ⟨d,k,nx2⟩ ⟨k1,k2,k3⟩
   dsimp only at k1 k2 k3
   refine stp ?_
   intro c g;cases c
   ·have g:=Jw g
    try dsimp only at g
    obtain rfl:k=0:=by omega
    refine stp ?_
    rw [← k3]
    exact Jr rfl ⟨_,_,Rf,Jq (Jm s (d) tl) [] rfl Sf .slnil Bf Pf,_,1,rfl⟩
   ·have g:=Jv g
    try dsimp only at g
    obtain ⟨k,rfl⟩:∃k',k=k'+1:=⟨k - 1,by omega⟩
    have ek:IntKind.i64.wrap ((a:Int)+(((k+1:Nat):Int) - 1))=((a+k:Nat):Int):=by rw [Ju Om Om];omega
    refine stp ?_
    refine Jcc 20 (fun i=> match i with | 17=> true | 19=> true | _=> false) (fun i=> match i with | 11=> true | 15=> true | _=> false) [0,1,2,3,4,5,6,7,8,9,10,12,13,14,11,15,16,17,18,19] (by kernel_rfl) (by kernel_rfl) ?_
    (conv=> whnf)
    refine ⟨⟨JF (i:=a+k) (ek),JG (i:=a+k) (ek) Om⟩, ?_⟩
    (conv=> whnf)
    refine ⟨⟨JF (i:=a) (rfl),JG (i:=a) (rfl) Om⟩, ?_⟩
    (conv=> whnf)
    refine ⟨Jj d[a+k]!,Jae (E:=Jj) (d:=d) (tl:=tl) (j:=a+k) rfl rfl rfl (JN (i:=a+k) Jt (ek)) rfl Ja2 rfl Om, ?_⟩
    (conv=> whnf)
    refine ⟨Jj d[a]!,Jae (E:=Jj) (d:=d) (tl:=tl) (j:=a) rfl rfl rfl (JN (i:=a) Jt (rfl)) rfl Ja2 rfl Om, ?_⟩
    (conv=> whnf)
    refine ⟨⟨JF (i:=a) (rfl),JG (i:=a) (rfl) Om⟩, ?_⟩
    (conv=> whnf)
    refine ⟨_,Jad (E:=Jj) (d:=d) (tl:=tl) (j:=a) (z:=d[a+k]!) rfl rfl rfl rfl (JN (i:=a) Jt (rfl)) rfl rfl rfl rfl (by kernel_rfl) Jt Om,fun r0 h0 hr0=> ?_⟩
    subst hr0
    (conv=> whnf)
    refine ⟨⟨JF (i:=a+k) (ek),JG (i:=a+k) (ek) Om⟩, ?_⟩
    (conv=> whnf)
    refine ⟨_,Jad (E:=Jj) (d:=(d).setIfInBounds (a) d[a+k]!) (tl:=tl) (j:=a+k) (z:=d[a]!) rfl rfl rfl rfl (JN (i:=a+k) Jt (ek)) rfl rfl rfl rfl (by kernel_rfl) Jt (by simp;omega),fun r0 h0 hr0=> ?_⟩
    subst hr0
    refine stp ?_
    refine Jf (xs:= [.hs (0,s) 0 n cap,int (0:Nat),int k,int a]) [] [] 1 rfl rfl rfl rfl ⟨Rf,Rf,Jg (by first | omega | (dsimp only;omega)),Rf,trivial⟩ (Jrh (Go.Sort.swp d a (a+k)) tl n 0 k a (by rw [JbA];exact k1) Om Om hsz s cap nx2) Bf Pf rfl fun r h' hq=> ?_
    obtain ⟨nx3,nn',rfl⟩:=hq
    refine stp ?_
    exact back (_,k,nx3) ⟨by dsimp only;rw [JlF _ _ _ (Nat.le_refl _),JbA];exact k1,by dsimp only;omega,k3⟩ Dm (Jc _ _ rfl rfl Sf .slnil Bf trivial ⟨Rf,Rf,Rf,Rf,Jg (by rw [Ju (by first | omega | (dsimp only;omega)) (by first | omega | (dsimp only;omega))];first | omega | (dsimp only;omega)),trivial⟩)
set_option maxHeartbeats 2000000 in
theorem JAu (d0:Array (Int)) (tl:List AV) (n a b:Nat) (hn:d0.size=n) (hab:a < b) (hb:b≤n) (hsz:n≤1000000) (s cap nx:Nat):
 ECall Tryz.prog 203 [.hs (0,s) 0 n cap,int a,int b] ⟨Jm s d0 tl, [],nx,1⟩ (fun r h'=> ∃nx' nn',h'=⟨Jm s (Go.Sort.reverseRange d0 a b) tl, [],nx',nn'⟩):=by
 refine ECall.wk (Jn Tryz.func203 rfl rfl ?_)
 refine stp ?_
 refine Js (fun y:Array (Int)×(Nat×Nat)×Nat=> mk 32 [(0, .hs (0,s) 0 n cap),(6,int y.2.1.1),(7,int y.2.1.2)] ⟨Jm s y.1 tl, [],y.2.2,1⟩) (fun y=> y.1.size=n∧y.2.1.2 < n∧y.2.1.1≤n∧Go.Sort.reverseLoop y.2.1.1 y.2.1.2 y.1=Go.Sort.reverseRange d0 a b) (fun y=> y.2.1.2 - y.2.1.1) ?_ ?_
 ·exact ⟨(d0,(a,b - 1),nx),⟨hn,by dsimp only;omega,by dsimp only;omega,rfl⟩,Jc _ _ rfl rfl Sf .slnil Bf trivial ⟨Rf,Rf,Jg (by rw [Ju (by first | omega | (dsimp only;omega)) (by first | omega | (dsimp only;omega))];first | omega | (dsimp only;omega)),trivial⟩⟩
 ·rintro ⟨d,⟨i,j⟩,nx1⟩ ⟨h1,h2,h3,h4⟩
  dsimp only at h1 h2 h3 h4
  refine stp ?_
  intro c g;cases c
  ·have g:=Jw g
   try dsimp only at g
   rw [Go.Sort.reverseLoop,if_neg Om] at h4
   refine stp ?_
   rw [← h4]
   exact Jr rfl ⟨_,_,Rf,Jq (Jm s (d) tl) [] rfl Sf .slnil Bf Pf,_,1,rfl⟩
  ·have g:=Jv g
   try dsimp only at g
   have hij:i < j:=by omega
   rw [Go.Sort.reverseLoop,if_pos hij] at h4
   refine stp ?_
   refine Jcc 16 (fun i=> match i with | 13=> true | 15=> true | _=> false) (fun i=> match i with | 7=> true | 11=> true | _=> false) [0,1,2,3,4,5,6,8,9,10,7,11,12,13,14,15] (by kernel_rfl) (by kernel_rfl) ?_
   (conv=> whnf)
   refine ⟨⟨JF (i:=j) (rfl),JG (i:=j) (rfl) Om⟩, ?_⟩
   (conv=> whnf)
   refine ⟨⟨JF (i:=i) (rfl),JG (i:=i) (rfl) Om⟩, ?_⟩
   (conv=> whnf)
   refine ⟨Jj d[j]!,Jae (E:=Jj) (d:=d) (tl:=tl) (j:=j) rfl rfl rfl (JN (i:=j) Jt (rfl)) rfl Ja2 rfl Om, ?_⟩
   (conv=> whnf)
   refine ⟨Jj d[i]!,Jae (E:=Jj) (d:=d) (tl:=tl) (j:=i) rfl rfl rfl (JN (i:=i) Jt (rfl)) rfl Ja2 rfl Om, ?_⟩
   (conv=> whnf)
   refine ⟨⟨JF (i:=i) (rfl),JG (i:=i) (rfl) Om⟩, ?_⟩
   (conv=> whnf)
   refine ⟨_,Jad (E:=Jj) (d:=d) (tl:=tl) (j:=i) (z:=d[j]!) rfl rfl rfl rfl (JN (i:=i) Jt (rfl)) rfl rfl rfl rfl (by kernel_rfl) Jt Om,fun r0 h0 hr0=> ?_⟩
   subst hr0
   (conv=> whnf)
   refine ⟨⟨JF (i:=j) (rfl),JG (i:=j) (rfl) Om⟩, ?_⟩
   (conv=> whnf)
   refine ⟨_,Jad (E:=Jj) (d:=(d).setIfInBounds (i) d[j]!) (tl:=tl) (j:=j) (z:=d[i]!) rfl rfl rfl rfl (JN (i:=j) Jt (rfl)) rfl rfl rfl rfl (by kernel_rfl) Jt (by simp;omega),fun r0 h0 hr0=> ?_⟩
   subst hr0
   refine stp ?_
   exact back (Go.Sort.swp d i j,(i+1,j - 1),nx1) ⟨by dsimp only;rw [JbA];exact h1,by dsimp only;omega,by dsimp only;omega,h4⟩ Dm (Jc _ _ rfl rfl Sf .slnil Bf trivial ⟨Rf,Lw,Jg (by rw [Ju (by first | omega | (dsimp only;omega)) (by first | omega | (dsimp only;omega))];first | omega | (dsimp only;omega)),trivial⟩)
end Go.Proofs.W

namespace Go.Proofs.W
open Go.Vl
set_option maxRecDepth 100000
set_option maxHeartbeats 8000000 in
theorem JyL (d0:Array (Int)) (tl:List AV) (n a b p:Nat) (hn:d0.size=n) (hap:a≤p) (hpb:p < b) (hb:b≤n) (hsz:n≤1000000) (s cap nx:Nat):
 ECall Tryz.prog 207 [.hs (0,s) 0 n cap,int a,int b,int p] ⟨Jm s d0 tl, [],nx,1⟩ (fun r h'=> ∃fl nx' nn',r= .tup [int (Go.Sort.partition Go.Sort.ltInt d0 a b p).1, .v (.bool fl)]∧h'=⟨Jm s (Go.Sort.partition Go.Sort.ltInt d0 a b p).2.2 tl, [],nx',nn'⟩):=by
 refine ECall.wk (Jn Tryz.func207 rfl rfl ?_)
 refine stp ?_
 refine Jcc 16 (fun i=> match i with | 13=> true | 15=> true | _=> false) (fun i=> match i with | 7=> true | 11=> true | _=> false) [0,1,2,3,4,5,6,8,9,10,7,11,12,13,14,15] (by kernel_rfl) (by kernel_rfl) ?_
 (conv=> whnf)
 refine ⟨⟨JF (i:=p) (rfl),JG (i:=p) (rfl) Om⟩, ?_⟩
 (conv=> whnf)
 refine ⟨⟨JF (i:=a) (rfl),JG (i:=a) (rfl) Om⟩, ?_⟩
 (conv=> whnf)
 refine ⟨Jj d0[p]!,Jae (E:=Jj) (d:=d0) (tl:=tl) (j:=p) rfl rfl rfl (JN (i:=p) Jt (rfl)) rfl Ja2 rfl Om, ?_⟩
 (conv=> whnf)
 refine ⟨Jj d0[a]!,Jae (E:=Jj) (d:=d0) (tl:=tl) (j:=a) rfl rfl rfl (JN (i:=a) Jt (rfl)) rfl Ja2 rfl Om, ?_⟩
 (conv=> whnf)
 refine ⟨⟨JF (i:=a) (rfl),JG (i:=a) (rfl) Om⟩, ?_⟩
 (conv=> whnf)
 refine ⟨_,Jad (E:=Jj) (d:=d0) (tl:=tl) (j:=a) (z:=d0[p]!) rfl rfl rfl rfl (JN (i:=a) Jt (rfl)) rfl rfl rfl rfl (by kernel_rfl) Jt Om,fun r0 h0 hr0=> ?_⟩
 subst hr0
 (conv=> whnf)
 refine ⟨⟨JF (i:=p) (rfl),JG (i:=p) (rfl) Om⟩, ?_⟩
 (conv=> whnf)
 refine ⟨_,Jad (E:=Jj) (d:=(d0).setIfInBounds (a) d0[p]!) (tl:=tl) (j:=p) (z:=d0[a]!) rfl rfl rfl rfl (JN (i:=p) Jt (rfl)) rfl rfl rfl rfl (by kernel_rfl) Jt (by simp;omega),fun r0 h0 hr0=> ?_⟩
 subst hr0
 refine stp ?_
 have hnow:=fun i j=> JvF (lt:=Go.Sort.ltInt) (d:=d0) (a:=a) (b:=b) (p:=p) (i:=i) (j:=j)
 have hgo:=fun i j=> JxV (lt:=Go.Sort.ltInt) (d:=d0) (a:=a) (b:=b) (p:=p) (i:=i) (j:=j)
 have h1n:(Go.Sort.swp d0 a p).size=n:=by rw [JbA];exact hn
 refine AW.le (E':=mk 168 [(0, .hs (0,s) 0 n cap),(1,int a),(10,int (a+1:Nat)),(11,int (b - 1:Nat))] ⟨Jm s (Go.Sort.swp d0 a p) tl, [],nx,1⟩) (Jc _ _ rfl rfl Sf .slnil Bf trivial ⟨Rf,Rf,Jg (Jz Om),Jg (by rw [Ju Om Om];omega),trivial⟩) ?_
 generalize Go.Sort.swp d0 a p=d at hnow hgo h1n
 generalize hP:Go.Sort.partition Go.Sort.ltInt d0 a b p=Pt at hnow hgo⊢
 refine Ja5 (fun y:Nat×Nat=> mk 168 [(0, .hs (0,s) 0 n cap),(1,int a),(10,int y.1),(11,int (b - 1:Nat))] ⟨Jm s d tl, [],y.2,1⟩) (fun y=> (a+1:Nat)≤y.1∧y.1≤n+2∧y.1=Go.Sort.scanUp (fun x=> Go.Sort.ltInt x d[a]!) d (b - 1:Nat) (a+1:Nat)) ?_ ?_
 ·refine Js (fun y:Nat×Nat=> mk 168 [(0, .hs (0,s) 0 n cap),(1,int a),(10,int y.1),(11,int (b - 1:Nat))] ⟨Jm s d tl, [],y.2,1⟩) (fun y=> (a+1:Nat)≤y.1∧y.1≤n+2∧Go.Sort.scanUp (fun x=> Go.Sort.ltInt x d[a]!) d (b - 1:Nat) y.1=Go.Sort.scanUp (fun x=> Go.Sort.ltInt x d[a]!) d (b - 1:Nat) (a+1:Nat)) (fun y=> (b - 1:Nat)+1 - y.1) ?_ ?_
  ·exact ⟨((a+1:Nat),_),⟨Nat.le_refl _,Dm,rfl⟩,Jc _ _ rfl rfl Sf .slnil Bf trivial ⟨Rf,Rf,Rf,Rf,trivial⟩⟩
  ·rintro ⟨k,nx1⟩ ⟨h1,h2,h3⟩
   dsimp only at h1 h2 h3
   by_cases hij:k≤(b - 1:Nat)
   ·have hd:decide (((k:Nat):Int)≤(((b - 1:Nat):Nat):Int))=true:=decide_eq_true Om
    refine stp ?_
    (refine JH 14 ?_ ?_ ?_ ?_;(· kernel_rfl);(· kernel_rfl);(· kernel_rfl))
    refine stp ?_
    (conv=> whnf)
    refine JaE hd ?_
    refine stp ?_
    refine ⟨⟨JF (i:=k) (rfl),JG (i:=k) (rfl) Om⟩,Jk (b:= .bp (0,s) (k)) (congrArg (AV.bp (0,s)) (JN (i:=k) Jt (rfl))) ?_⟩
    (conv=> whnf)
    refine ⟨⟨rfl,Jai (show k < d.size by omega)⟩,Jk (b:=Jj d[k]!) (J6 (show k < d.size by omega)) ?_⟩
    refine stp ?_
    refine ⟨⟨JF (i:=a) (rfl),JG (i:=a) (rfl) Om⟩,Jk (b:= .bp (0,s) (a)) (congrArg (AV.bp (0,s)) (JN (i:=a) Jt (rfl))) ?_⟩
    (conv=> whnf)
    refine ⟨⟨rfl,Jai (show a < d.size by omega)⟩,Jk (b:=Jj d[a]!) (J6 (show a < d.size by omega)) ?_⟩
    refine stp ?_
    refine J8 (JR rfl rfl (Jcb d[k]! d[a]!) ⟨Rf,Rf,trivial⟩ (NoId.v _)) ?_
    refine stp ?_
    intro c hlt;cases c
    ·have hl:(fun x=> Go.Sort.ltInt x d[a]!) d[k]! =false:=hlt.symm
     rw [Jdp (p:=fun x=> Go.Sort.ltInt x d[a]!) (d:=d) (i:=k) (fun hh=> Bool.false_ne_true (hl.symm.trans hh.2))] at h3
     refine stp ?_
     exact ⟨(k,nx1),⟨h1,h2,h3⟩,Jc _ _ rfl rfl Sf .slnil Bf trivial ⟨Rf,Rf,Rf,Rf,trivial⟩⟩
    ·have hl:(fun x=> Go.Sort.ltInt x d[a]!) d[k]! =true:=hlt.symm
     rw [Jhw (p:=fun x=> Go.Sort.ltInt x d[a]!) (d:=d) (i:=k) hij hl] at h3
     refine stp ?_
     exact back (k+1,nx1) ⟨by dsimp only;omega,by dsimp only;omega,h3⟩ Dm (Jc _ _ rfl rfl Sf .slnil Bf trivial ⟨Rf,Rf,Jg (Jz Dm),Rf,trivial⟩)
   ·have hd:decide (((k:Nat):Int)≤(((b - 1:Nat):Nat):Int))=false:=decide_eq_false Om
    rw [Jdp (p:=fun x=> Go.Sort.ltInt x d[a]!) (d:=d) (i:=k) (fun hh=> hij hh.1)] at h3
    refine stp ?_
    (refine JH 14 ?_ ?_ ?_ ?_;(· kernel_rfl);(· kernel_rfl);(· kernel_rfl))
    refine stp ?_
    (conv=> whnf)
    refine JaE hd ?_
    refine stp ?_
    exact ⟨(k,nx1),⟨h1,h2,h3⟩,Jc _ _ rfl rfl Sf .slnil Bf trivial ⟨Rf,Rf,Rf,Rf,trivial⟩⟩
 rintro ⟨i,nx1⟩ ⟨hi1,hi2,hi3⟩
 dsimp only at hi1 hi2 hi3
 refine stp ?_
 refine Ja5 (fun y:Nat×Nat=> mk 168 [(0, .hs (0,s) 0 n cap),(1,int a),(10,int i),(11,int y.1)] ⟨Jm s d tl, [],y.2,1⟩) (fun y=> y.1≤(b - 1:Nat)∧y.1=Go.Sort.scanDown (fun x=> !Go.Sort.ltInt x d[a]!) d i (b - 1:Nat)) ?_ ?_
 ·refine Js (fun y:Nat×Nat=> mk 168 [(0, .hs (0,s) 0 n cap),(1,int a),(10,int i),(11,int y.1)] ⟨Jm s d tl, [],y.2,1⟩) (fun y=> y.1≤(b - 1:Nat)∧Go.Sort.scanDown (fun x=> !Go.Sort.ltInt x d[a]!) d i y.1=Go.Sort.scanDown (fun x=> !Go.Sort.ltInt x d[a]!) d i (b - 1:Nat)) (fun y=> y.1) ?_ ?_
  ·exact ⟨((b - 1:Nat),_),⟨Nat.le_refl _,rfl⟩,Jc _ _ rfl rfl Sf .slnil Bf trivial ⟨Rf,Rf,Rf,Rf,trivial⟩⟩
  ·rintro ⟨k,nx1⟩ ⟨h2,h3⟩
   dsimp only at h2 h3
   by_cases hij:i≤k
   ·have hd:decide (((i:Nat):Int)≤((k:Nat):Int))=true:=decide_eq_true Om
    refine stp ?_
    (refine JH 15 ?_ ?_ ?_ ?_;(· kernel_rfl);(· kernel_rfl);(· kernel_rfl))
    refine stp ?_
    (conv=> whnf)
    refine JaE hd ?_
    refine stp ?_
    refine ⟨⟨JF (i:=k) (rfl),JG (i:=k) (rfl) Om⟩,Jk (b:= .bp (0,s) (k)) (congrArg (AV.bp (0,s)) (JN (i:=k) Jt (rfl))) ?_⟩
    (conv=> whnf)
    refine ⟨⟨rfl,Jai (show k < d.size by omega)⟩,Jk (b:=Jj d[k]!) (J6 (show k < d.size by omega)) ?_⟩
    refine stp ?_
    refine ⟨⟨JF (i:=a) (rfl),JG (i:=a) (rfl) Om⟩,Jk (b:= .bp (0,s) (a)) (congrArg (AV.bp (0,s)) (JN (i:=a) Jt (rfl))) ?_⟩
    (conv=> whnf)
    refine ⟨⟨rfl,Jai (show a < d.size by omega)⟩,Jk (b:=Jj d[a]!) (J6 (show a < d.size by omega)) ?_⟩
    refine stp ?_
    refine J8 (JR rfl rfl (Jcb d[k]! d[a]!) ⟨Rf,Rf,trivial⟩ (NoId.v _)) ?_
    refine stp ?_
    intro c hlt;cases c
    ·have hl:(fun x=> !Go.Sort.ltInt x d[a]!) d[k]! =true:=(congrArg Bool.not hlt).symm
     rw [Jhx (p:=fun x=> !Go.Sort.ltInt x d[a]!) (d:=d) (j:=k) Om hij hl] at h3
     refine stp ?_
     exact back (k - 1,nx1) ⟨by dsimp only;omega,h3⟩ Dm (Jc _ _ rfl rfl Sf .slnil Bf trivial ⟨Rf,Rf,Rf,Jg (by rw [Ju Dm Dm];dsimp only;omega),trivial⟩)
    ·have hl:(fun x=> !Go.Sort.ltInt x d[a]!) d[k]! =false:=(congrArg Bool.not hlt).symm
     rw [Jdq (p:=fun x=> !Go.Sort.ltInt x d[a]!) (d:=d) (j:=k) (fun hh=> Bool.false_ne_true (hl.symm.trans hh.2))] at h3
     refine stp ?_
     exact ⟨(k,nx1),⟨h2,h3⟩,Jc _ _ rfl rfl Sf .slnil Bf trivial ⟨Rf,Rf,Rf,Rf,trivial⟩⟩
   ·have hd:decide (((i:Nat):Int)≤((k:Nat):Int))=false:=decide_eq_false Om
    rw [Jdq (p:=fun x=> !Go.Sort.ltInt x d[a]!) (d:=d) (j:=k) (fun hh=> hij hh.1)] at h3
    refine stp ?_
    (refine JH 15 ?_ ?_ ?_ ?_;(· kernel_rfl);(· kernel_rfl);(· kernel_rfl))
    refine stp ?_
    (conv=> whnf)
    refine JaE hd ?_
    refine stp ?_
    exact ⟨(k,nx1),⟨h2,h3⟩,Jc _ _ rfl rfl Sf .slnil Bf trivial ⟨Rf,Rf,Rf,Rf,trivial⟩⟩
 rintro ⟨j,nx2⟩ ⟨hj1,hj2⟩
 dsimp only at hj1 hj2
 refine stp ?_
 intro c g;cases c
 ·have g:=Jw g
  try dsimp only at g
  have hP:=(hgo i j hi3 hj2 Om)
  have hij:i≤j:=by omega
  refine stp ?_
  refine Jcc 16 (fun i=> match i with | 13=> true | 15=> true | _=> false) (fun i=> match i with | 7=> true | 11=> true | _=> false) [0,1,2,3,4,5,6,8,9,10,7,11,12,13,14,15] (by kernel_rfl) (by kernel_rfl) ?_
  (conv=> whnf)
  refine ⟨⟨JF (i:=j) (rfl),JG (i:=j) (rfl) Om⟩, ?_⟩
  (conv=> whnf)
  refine ⟨⟨JF (i:=i) (rfl),JG (i:=i) (rfl) Om⟩, ?_⟩
  (conv=> whnf)
  refine ⟨Jj d[j]!,Jae (E:=Jj) (d:=d) (tl:=tl) (j:=j) rfl rfl rfl (JN (i:=j) Jt (rfl)) rfl Ja2 rfl Om, ?_⟩
  (conv=> whnf)
  refine ⟨Jj d[i]!,Jae (E:=Jj) (d:=d) (tl:=tl) (j:=i) rfl rfl rfl (JN (i:=i) Jt (rfl)) rfl Ja2 rfl Om, ?_⟩
  (conv=> whnf)
  refine ⟨⟨JF (i:=i) (rfl),JG (i:=i) (rfl) Om⟩, ?_⟩
  (conv=> whnf)
  refine ⟨_,Jad (E:=Jj) (d:=d) (tl:=tl) (j:=i) (z:=d[j]!) rfl rfl rfl rfl (JN (i:=i) Jt (rfl)) rfl rfl rfl rfl (by kernel_rfl) Jt Om,fun r0 h0 hr0=> ?_⟩
  subst hr0
  (conv=> whnf)
  refine ⟨⟨JF (i:=j) (rfl),JG (i:=j) (rfl) Om⟩, ?_⟩
  (conv=> whnf)
  refine ⟨_,Jad (E:=Jj) (d:=(d).setIfInBounds (i) d[j]!) (tl:=tl) (j:=j) (z:=d[i]!) rfl rfl rfl rfl (JN (i:=j) Jt (rfl)) rfl rfl rfl rfl (by kernel_rfl) Jt (by simp;omega),fun r0 h0 hr0=> ?_⟩
  subst hr0
  refine stp ?_
  have h2n:(Go.Sort.swp d i j).size=n:=by rw [JbA];exact h1n
  clear hnow hgo
  refine AW.le (E':=mk 168 [(0, .hs (0,s) 0 n cap),(1,int a),(10,int (i+1:Nat)),(11,int (j - 1:Nat))] ⟨Jm s (Go.Sort.swp d i j) tl, [],nx2,1⟩) (Jc _ _ rfl rfl Sf .slnil Bf trivial ⟨Rf,Rf,Jg (Jz Om),Jg (by rw [Ju Om Om];omega),trivial⟩) ?_
  have hi1':1≤i+1:=by omega
  have hi2':i+1≤n+2:=by omega
  have hj1':j - 1 < n:=by omega
  generalize Go.Sort.swp d i j=e0 at hP h2n⊢
  generalize i+1=i0 at hP hi1' hi2'⊢
  generalize j - 1=j0 at hP hj1'⊢
  refine Ja5 (fun y:Array (Int)×Nat×Nat=> mk 168 [(0, .hs (0,s) 0 n cap),(1,int a),(11,int y.2.1)] ⟨Jm s y.1 tl, [],y.2.2,1⟩) (fun y=> y.1.size=n∧y.2.1 < n∧(y.2.1,y.1)=Go.Sort.partLoop Go.Sort.ltInt a i0 j0 e0) ?_ ?_
  ·refine Js (fun y:Array (Int)×(Nat×Nat)×Nat=> mk 168 [(0, .hs (0,s) 0 n cap),(1,int a),(10,int y.2.1.1),(11,int y.2.1.2)] ⟨Jm s y.1 tl, [],y.2.2,1⟩) (fun y=> y.1.size=n∧1≤y.2.1.1∧y.2.1.1≤n+2∧y.2.1.2 < n∧Go.Sort.partLoop Go.Sort.ltInt a y.2.1.1 y.2.1.2 y.1=Go.Sort.partLoop Go.Sort.ltInt a i0 j0 e0) (fun y=> y.2.1.2+1 - y.2.1.1) ?_ ?_
   ·exact ⟨(e0,(i0,j0),_),⟨h2n,hi1',hi2',hj1',rfl⟩,Jc _ _ rfl rfl Sf .slnil Bf trivial ⟨Rf,Rf,Rf,Rf,trivial⟩⟩
   ·rintro ⟨e,⟨i,j⟩,nx3⟩ ⟨m1,m2,m3,m4,m5⟩
    dsimp only at m1 m2 m3 m4 m5
    rw [Go.Sort.partLoop_eq] at m5
    refine stp ?_
    refine Ja5 (fun y:Nat×Nat=> mk 168 [(0, .hs (0,s) 0 n cap),(1,int a),(10,int y.1),(11,int j)] ⟨Jm s e tl, [],y.2,1⟩) (fun y=> i≤y.1∧y.1≤n+2∧y.1=Go.Sort.scanUp (fun x=> Go.Sort.ltInt x e[a]!) e j i) ?_ ?_
    ·refine Js (fun y:Nat×Nat=> mk 168 [(0, .hs (0,s) 0 n cap),(1,int a),(10,int y.1),(11,int j)] ⟨Jm s e tl, [],y.2,1⟩) (fun y=> i≤y.1∧y.1≤n+2∧Go.Sort.scanUp (fun x=> Go.Sort.ltInt x e[a]!) e j y.1=Go.Sort.scanUp (fun x=> Go.Sort.ltInt x e[a]!) e j i) (fun y=> j+1 - y.1) ?_ ?_
     ·exact ⟨(i,_),⟨Nat.le_refl _,Dm,rfl⟩,Jc _ _ rfl rfl Sf .slnil Bf trivial ⟨Rf,Rf,Rf,Rf,trivial⟩⟩
     ·rintro ⟨k,nx1⟩ ⟨h1,h2,h3⟩
      dsimp only at h1 h2 h3
      by_cases hij:k≤j
      ·have hd:decide (((k:Nat):Int)≤((j:Nat):Int))=true:=decide_eq_true Om
       refine stp ?_
       (refine JH 14 ?_ ?_ ?_ ?_;(· kernel_rfl);(· kernel_rfl);(· kernel_rfl))
       refine stp ?_
       (conv=> whnf)
       refine JaE hd ?_
       refine stp ?_
       refine ⟨⟨JF (i:=k) (rfl),JG (i:=k) (rfl) Om⟩,Jk (b:= .bp (0,s) (k)) (congrArg (AV.bp (0,s)) (JN (i:=k) Jt (rfl))) ?_⟩
       (conv=> whnf)
       refine ⟨⟨rfl,Jai (show k < e.size by omega)⟩,Jk (b:=Jj e[k]!) (J6 (show k < e.size by omega)) ?_⟩
       refine stp ?_
       refine ⟨⟨JF (i:=a) (rfl),JG (i:=a) (rfl) Om⟩,Jk (b:= .bp (0,s) (a)) (congrArg (AV.bp (0,s)) (JN (i:=a) Jt (rfl))) ?_⟩
       (conv=> whnf)
       refine ⟨⟨rfl,Jai (show a < e.size by omega)⟩,Jk (b:=Jj e[a]!) (J6 (show a < e.size by omega)) ?_⟩
       refine stp ?_
       refine J8 (JR rfl rfl (Jcb e[k]! e[a]!) ⟨Rf,Rf,trivial⟩ (NoId.v _)) ?_
       refine stp ?_
       intro c hlt;cases c
       ·have hl:(fun x=> Go.Sort.ltInt x e[a]!) e[k]! =false:=hlt.symm
        rw [Jdp (p:=fun x=> Go.Sort.ltInt x e[a]!) (d:=e) (i:=k) (fun hh=> Bool.false_ne_true (hl.symm.trans hh.2))] at h3
        refine stp ?_
        exact ⟨(k,nx1),⟨h1,h2,h3⟩,Jc _ _ rfl rfl Sf .slnil Bf trivial ⟨Rf,Rf,Rf,Rf,trivial⟩⟩
       ·have hl:(fun x=> Go.Sort.ltInt x e[a]!) e[k]! =true:=hlt.symm
        rw [Jhw (p:=fun x=> Go.Sort.ltInt x e[a]!) (d:=e) (i:=k) hij hl] at h3
        refine stp ?_
        exact back (k+1,nx1) ⟨by dsimp only;omega,by dsimp only;omega,h3⟩ Dm (Jc _ _ rfl rfl Sf .slnil Bf trivial ⟨Rf,Rf,Jg (Jz Dm),Rf,trivial⟩)
      ·have hd:decide (((k:Nat):Int)≤((j:Nat):Int))=false:=decide_eq_false Om
       rw [Jdp (p:=fun x=> Go.Sort.ltInt x e[a]!) (d:=e) (i:=k) (fun hh=> hij hh.1)] at h3
       refine stp ?_
       (refine JH 14 ?_ ?_ ?_ ?_;(· kernel_rfl);(· kernel_rfl);(· kernel_rfl))
       refine stp ?_
       (conv=> whnf)
       refine JaE hd ?_
       refine stp ?_
       exact ⟨(k,nx1),⟨h1,h2,h3⟩,Jc _ _ rfl rfl Sf .slnil Bf trivial ⟨Rf,Rf,Rf,Rf,trivial⟩⟩
    rintro ⟨i2,nx4⟩ ⟨hi1,hi2,hi3⟩
    dsimp only at hi1 hi2 hi3
    rw [← hi3] at m5
    have hi1:1≤i2:=by omega
    refine stp ?_
    refine Ja5 (fun y:Nat×Nat=> mk 168 [(0, .hs (0,s) 0 n cap),(1,int a),(10,int i2),(11,int y.1)] ⟨Jm s e tl, [],y.2,1⟩) (fun y=> y.1≤j∧y.1=Go.Sort.scanDown (fun x=> !Go.Sort.ltInt x e[a]!) e i2 j) ?_ ?_
    ·refine Js (fun y:Nat×Nat=> mk 168 [(0, .hs (0,s) 0 n cap),(1,int a),(10,int i2),(11,int y.1)] ⟨Jm s e tl, [],y.2,1⟩) (fun y=> y.1≤j∧Go.Sort.scanDown (fun x=> !Go.Sort.ltInt x e[a]!) e i2 y.1=Go.Sort.scanDown (fun x=> !Go.Sort.ltInt x e[a]!) e i2 j) (fun y=> y.1) ?_ ?_
     ·exact ⟨(j,_),⟨Nat.le_refl _,rfl⟩,Jc _ _ rfl rfl Sf .slnil Bf trivial ⟨Rf,Rf,Rf,Rf,trivial⟩⟩
     ·rintro ⟨k,nx1⟩ ⟨h2,h3⟩
      dsimp only at h2 h3
      by_cases hij:i2≤k
      ·have hd:decide (((i2:Nat):Int)≤((k:Nat):Int))=true:=decide_eq_true Om
       refine stp ?_
       (refine JH 15 ?_ ?_ ?_ ?_;(· kernel_rfl);(· kernel_rfl);(· kernel_rfl))
       refine stp ?_
       (conv=> whnf)
       refine JaE hd ?_
       refine stp ?_
       refine ⟨⟨JF (i:=k) (rfl),JG (i:=k) (rfl) Om⟩,Jk (b:= .bp (0,s) (k)) (congrArg (AV.bp (0,s)) (JN (i:=k) Jt (rfl))) ?_⟩
       (conv=> whnf)
       refine ⟨⟨rfl,Jai (show k < e.size by omega)⟩,Jk (b:=Jj e[k]!) (J6 (show k < e.size by omega)) ?_⟩
       refine stp ?_
       refine ⟨⟨JF (i:=a) (rfl),JG (i:=a) (rfl) Om⟩,Jk (b:= .bp (0,s) (a)) (congrArg (AV.bp (0,s)) (JN (i:=a) Jt (rfl))) ?_⟩
       (conv=> whnf)
       refine ⟨⟨rfl,Jai (show a < e.size by omega)⟩,Jk (b:=Jj e[a]!) (J6 (show a < e.size by omega)) ?_⟩
       refine stp ?_
       refine J8 (JR rfl rfl (Jcb e[k]! e[a]!) ⟨Rf,Rf,trivial⟩ (NoId.v _)) ?_
       refine stp ?_
       intro c hlt;cases c
       ·have hl:(fun x=> !Go.Sort.ltInt x e[a]!) e[k]! =true:=(congrArg Bool.not hlt).symm
        rw [Jhx (p:=fun x=> !Go.Sort.ltInt x e[a]!) (d:=e) (j:=k) Om hij hl] at h3
        refine stp ?_
        exact back (k - 1,nx1) ⟨by dsimp only;omega,h3⟩ Dm (Jc _ _ rfl rfl Sf .slnil Bf trivial ⟨Rf,Rf,Rf,Jg (by rw [Ju Dm Dm];dsimp only;omega),trivial⟩)
       ·have hl:(fun x=> !Go.Sort.ltInt x e[a]!) e[k]! =false:=(congrArg Bool.not hlt).symm
        rw [Jdq (p:=fun x=> !Go.Sort.ltInt x e[a]!) (d:=e) (j:=k) (fun hh=> Bool.false_ne_true (hl.symm.trans hh.2))] at h3
        refine stp ?_
        exact ⟨(k,nx1),⟨h2,h3⟩,Jc _ _ rfl rfl Sf .slnil Bf trivial ⟨Rf,Rf,Rf,Rf,trivial⟩⟩
      ·have hd:decide (((i2:Nat):Int)≤((k:Nat):Int))=false:=decide_eq_false Om
       rw [Jdq (p:=fun x=> !Go.Sort.ltInt x e[a]!) (d:=e) (j:=k) (fun hh=> hij hh.1)] at h3
       refine stp ?_
       (refine JH 15 ?_ ?_ ?_ ?_;(· kernel_rfl);(· kernel_rfl);(· kernel_rfl))
       refine stp ?_
       (conv=> whnf)
       refine JaE hd ?_
       refine stp ?_
       exact ⟨(k,nx1),⟨h2,h3⟩,Jc _ _ rfl rfl Sf .slnil Bf trivial ⟨Rf,Rf,Rf,Rf,trivial⟩⟩
    rintro ⟨j2,nx5⟩ ⟨hj1,hj2⟩
    dsimp only at hj1 hj2
    rw [← hj2] at m5
    refine stp ?_
    intro c g;cases c
    ·have g:=Jw g
     try dsimp only at g
     rw [if_neg Om] at m5
     refine stp ?_
     refine Jcc 16 (fun i=> match i with | 13=> true | 15=> true | _=> false) (fun i=> match i with | 7=> true | 11=> true | _=> false) [0,1,2,3,4,5,6,8,9,10,7,11,12,13,14,15] (by kernel_rfl) (by kernel_rfl) ?_
     (conv=> whnf)
     refine ⟨⟨JF (i:=j2) (rfl),JG (i:=j2) (rfl) Om⟩, ?_⟩
     (conv=> whnf)
     refine ⟨⟨JF (i:=i2) (rfl),JG (i:=i2) (rfl) Om⟩, ?_⟩
     (conv=> whnf)
     refine ⟨Jj e[j2]!,Jae (E:=Jj) (d:=e) (tl:=tl) (j:=j2) rfl rfl rfl (JN (i:=j2) Jt (rfl)) rfl Ja2 rfl Om, ?_⟩
     (conv=> whnf)
     refine ⟨Jj e[i2]!,Jae (E:=Jj) (d:=e) (tl:=tl) (j:=i2) rfl rfl rfl (JN (i:=i2) Jt (rfl)) rfl Ja2 rfl Om, ?_⟩
     (conv=> whnf)
     refine ⟨⟨JF (i:=i2) (rfl),JG (i:=i2) (rfl) Om⟩, ?_⟩
     (conv=> whnf)
     refine ⟨_,Jad (E:=Jj) (d:=e) (tl:=tl) (j:=i2) (z:=e[j2]!) rfl rfl rfl rfl (JN (i:=i2) Jt (rfl)) rfl rfl rfl rfl (by kernel_rfl) Jt Om,fun r0 h0 hr0=> ?_⟩
     subst hr0
     (conv=> whnf)
     refine ⟨⟨JF (i:=j2) (rfl),JG (i:=j2) (rfl) Om⟩, ?_⟩
     (conv=> whnf)
     refine ⟨_,Jad (E:=Jj) (d:=(e).setIfInBounds (i2) e[j2]!) (tl:=tl) (j:=j2) (z:=e[i2]!) rfl rfl rfl rfl (JN (i:=j2) Jt (rfl)) rfl rfl rfl rfl (by kernel_rfl) Jt (by simp;omega),fun r0 h0 hr0=> ?_⟩
     subst hr0
     refine stp ?_
     exact back (Go.Sort.swp e i2 j2,(i2+1,j2 - 1),nx5) ⟨by dsimp only;rw [JbA];exact m1,by first | omega | (dsimp only;omega),by first | omega | (dsimp only;omega),by first | omega | (dsimp only;omega),m5⟩ (by first | omega | (dsimp only;omega)) (Jc _ _ rfl rfl Sf .slnil Bf trivial ⟨Rf,Rf,Lw,Jg (by rw [Ju (by first | omega | (dsimp only;omega)) (by first | omega | (dsimp only;omega))];dsimp only;omega),trivial⟩)
    ·have g:=Jv g
     try dsimp only at g
     rw [if_pos Om] at m5
     refine stp ?_
     exact ⟨(e,j2,nx5),⟨m1,by first | omega | (dsimp only;omega),m5⟩,Jc _ _ rfl rfl Sf .slnil Bf trivial ⟨Rf,Rf,Rf,trivial⟩⟩
  ·rintro ⟨e,j,nx3⟩ ⟨m1,m2,m3⟩
   dsimp only at m1 m2 m3
   rw [← m3] at hP
   subst hP
   dsimp only
   refine stp ?_
   refine Jcc 16 (fun i=> match i with | 13=> true | 15=> true | _=> false) (fun i=> match i with | 7=> true | 11=> true | _=> false) [0,1,2,3,4,5,6,8,9,10,7,11,12,13,14,15] (by kernel_rfl) (by kernel_rfl) ?_
   (conv=> whnf)
   refine ⟨⟨JF (i:=a) (rfl),JG (i:=a) (rfl) Om⟩, ?_⟩
   (conv=> whnf)
   refine ⟨⟨JF (i:=j) (rfl),JG (i:=j) (rfl) Om⟩, ?_⟩
   (conv=> whnf)
   refine ⟨Jj e[a]!,Jae (E:=Jj) (d:=e) (tl:=tl) (j:=a) rfl rfl rfl (JN (i:=a) Jt (rfl)) rfl Ja2 rfl Om, ?_⟩
   (conv=> whnf)
   refine ⟨Jj e[j]!,Jae (E:=Jj) (d:=e) (tl:=tl) (j:=j) rfl rfl rfl (JN (i:=j) Jt (rfl)) rfl Ja2 rfl Om, ?_⟩
   (conv=> whnf)
   refine ⟨⟨JF (i:=j) (rfl),JG (i:=j) (rfl) Om⟩, ?_⟩
   (conv=> whnf)
   refine ⟨_,Jad (E:=Jj) (d:=e) (tl:=tl) (j:=j) (z:=e[a]!) rfl rfl rfl rfl (JN (i:=j) Jt (rfl)) rfl rfl rfl rfl (by kernel_rfl) Jt Om,fun r0 h0 hr0=> ?_⟩
   subst hr0
   (conv=> whnf)
   refine ⟨⟨JF (i:=a) (rfl),JG (i:=a) (rfl) Om⟩, ?_⟩
   (conv=> whnf)
   refine ⟨_,Jad (E:=Jj) (d:=(e).setIfInBounds (j) e[a]!) (tl:=tl) (j:=a) (z:=e[j]!) rfl rfl rfl rfl (JN (i:=a) Jt (rfl)) rfl rfl rfl rfl (by kernel_rfl) Jt (by simp;omega),fun r0 h0 hr0=> ?_⟩
   subst hr0
   refine stp ?_
   exact Jr rfl ⟨_,_,Rf,Jq (Jm s (Go.Sort.swp e j a) tl) [] rfl Sf .slnil Bf Pf,false,_,1,rfl,rfl⟩
 ·have g:=Jv g
  try dsimp only at g
  have hP:=(hnow i j hi3 hj2 Om)
  subst hP
  dsimp only
  refine stp ?_
  refine Jcc 16 (fun i=> match i with | 13=> true | 15=> true | _=> false) (fun i=> match i with | 7=> true | 11=> true | _=> false) [0,1,2,3,4,5,6,8,9,10,7,11,12,13,14,15] (by kernel_rfl) (by kernel_rfl) ?_
  (conv=> whnf)
  refine ⟨⟨JF (i:=a) (rfl),JG (i:=a) (rfl) Om⟩, ?_⟩
  (conv=> whnf)
  refine ⟨⟨JF (i:=j) (rfl),JG (i:=j) (rfl) Om⟩, ?_⟩
  (conv=> whnf)
  refine ⟨Jj d[a]!,Jae (E:=Jj) (d:=d) (tl:=tl) (j:=a) rfl rfl rfl (JN (i:=a) Jt (rfl)) rfl Ja2 rfl Om, ?_⟩
  (conv=> whnf)
  refine ⟨Jj d[j]!,Jae (E:=Jj) (d:=d) (tl:=tl) (j:=j) rfl rfl rfl (JN (i:=j) Jt (rfl)) rfl Ja2 rfl Om, ?_⟩
  (conv=> whnf)
  refine ⟨⟨JF (i:=j) (rfl),JG (i:=j) (rfl) Om⟩, ?_⟩
  (conv=> whnf)
  refine ⟨_,Jad (E:=Jj) (d:=d) (tl:=tl) (j:=j) (z:=d[a]!) rfl rfl rfl rfl (JN (i:=j) Jt (rfl)) rfl rfl rfl rfl (by kernel_rfl) Jt Om,fun r0 h0 hr0=> ?_⟩
  subst hr0
  (conv=> whnf)
  refine ⟨⟨JF (i:=a) (rfl),JG (i:=a) (rfl) Om⟩, ?_⟩
  (conv=> whnf)
  refine ⟨_,Jad (E:=Jj) (d:=(d).setIfInBounds (j) d[a]!) (tl:=tl) (j:=a) (z:=d[j]!) rfl rfl rfl rfl (JN (i:=a) Jt (rfl)) rfl rfl rfl rfl (by kernel_rfl) Jt (by simp;omega),fun r0 h0 hr0=> ?_⟩
  subst hr0
  refine stp ?_
  exact Jr rfl ⟨_,_,Rf,Jq (Jm s (Go.Sort.swp d j a) tl) [] rfl Sf .slnil Bf Pf,true,_,1,rfl,rfl⟩
set_option maxHeartbeats 8000000 in
theorem JuU (d0:Array (Int)) (tl:List AV) (n a b p:Nat) (hn:d0.size=n) (hap:a≤p) (hpb:p < b) (hb:b≤n) (hsz:n≤1000000) (s cap nx:Nat):
 ECall Tryz.prog 206 [.hs (0,s) 0 n cap,int a,int b,int p] ⟨Jm s d0 tl, [],nx,1⟩ (fun r h'=> ∃nx' nn',r=int (Go.Sort.partitionEqual Go.Sort.ltInt d0 a b p).1∧h'=⟨Jm s (Go.Sort.partitionEqual Go.Sort.ltInt d0 a b p).2 tl, [],nx',nn'⟩):=by
 refine ECall.wk (Jn Tryz.func206 rfl rfl ?_)
 refine stp ?_
 refine Jcc 16 (fun i=> match i with | 13=> true | 15=> true | _=> false) (fun i=> match i with | 7=> true | 11=> true | _=> false) [0,1,2,3,4,5,6,8,9,10,7,11,12,13,14,15] (by kernel_rfl) (by kernel_rfl) ?_
 (conv=> whnf)
 refine ⟨⟨JF (i:=p) (rfl),JG (i:=p) (rfl) Om⟩, ?_⟩
 (conv=> whnf)
 refine ⟨⟨JF (i:=a) (rfl),JG (i:=a) (rfl) Om⟩, ?_⟩
 (conv=> whnf)
 refine ⟨Jj d0[p]!,Jae (E:=Jj) (d:=d0) (tl:=tl) (j:=p) rfl rfl rfl (JN (i:=p) Jt (rfl)) rfl Ja2 rfl Om, ?_⟩
 (conv=> whnf)
 refine ⟨Jj d0[a]!,Jae (E:=Jj) (d:=d0) (tl:=tl) (j:=a) rfl rfl rfl (JN (i:=a) Jt (rfl)) rfl Ja2 rfl Om, ?_⟩
 (conv=> whnf)
 refine ⟨⟨JF (i:=a) (rfl),JG (i:=a) (rfl) Om⟩, ?_⟩
 (conv=> whnf)
 refine ⟨_,Jad (E:=Jj) (d:=d0) (tl:=tl) (j:=a) (z:=d0[p]!) rfl rfl rfl rfl (JN (i:=a) Jt (rfl)) rfl rfl rfl rfl (by kernel_rfl) Jt Om,fun r0 h0 hr0=> ?_⟩
 subst hr0
 (conv=> whnf)
 refine ⟨⟨JF (i:=p) (rfl),JG (i:=p) (rfl) Om⟩, ?_⟩
 (conv=> whnf)
 refine ⟨_,Jad (E:=Jj) (d:=(d0).setIfInBounds (a) d0[p]!) (tl:=tl) (j:=p) (z:=d0[a]!) rfl rfl rfl rfl (JN (i:=p) Jt (rfl)) rfl rfl rfl rfl (by kernel_rfl) Jt (by simp;omega),fun r0 h0 hr0=> ?_⟩
 subst hr0
 refine stp ?_
 have h2n:(Go.Sort.swp d0 a p).size=n:=by rw [JbA];exact hn
 have hP:Go.Sort.partitionEqual Go.Sort.ltInt d0 a b p=Go.Sort.partEqLoop Go.Sort.ltInt a (a+1) (b - 1) (Go.Sort.swp d0 a p):=rfl
 refine AW.le (E':=mk 84 [(0, .hs (0,s) 0 n cap),(1,int a),(9,int (a+1:Nat)),(10,int (b - 1:Nat))] ⟨Jm s (Go.Sort.swp d0 a p) tl, [],nx,1⟩) (Jc _ _ rfl rfl Sf .slnil Bf trivial ⟨Rf,Rf,Jg (Jz Om),Jg (by rw [Ju Om Om];omega),trivial⟩) ?_
 have hi1':1≤a+1:=by omega
 have hi2':a+1≤n+2:=by omega
 have hj1':b - 1 < n:=by omega
 generalize Go.Sort.partitionEqual Go.Sort.ltInt d0 a b p=Pt at hP⊢
 generalize Go.Sort.swp d0 a p=e0 at hP h2n⊢
 generalize a+1=i0 at hP hi1' hi2'⊢
 generalize b - 1=j0 at hP hj1'⊢
 refine Ja5 (fun y:Array (Int)×Nat×Nat=> mk 84 [(0, .hs (0,s) 0 n cap),(1,int a),(9,int y.2.1)] ⟨Jm s y.1 tl, [],y.2.2,1⟩) (fun y=> (y.2.1,y.1)=Go.Sort.partEqLoop Go.Sort.ltInt a i0 j0 e0) ?_ ?_
 ·refine Js (fun y:Array (Int)×(Nat×Nat)×Nat=> mk 84 [(0, .hs (0,s) 0 n cap),(1,int a),(9,int y.2.1.1),(10,int y.2.1.2)] ⟨Jm s y.1 tl, [],y.2.2,1⟩) (fun y=> y.1.size=n∧1≤y.2.1.1∧y.2.1.1≤n+2∧y.2.1.2 < n∧Go.Sort.partEqLoop Go.Sort.ltInt a y.2.1.1 y.2.1.2 y.1=Go.Sort.partEqLoop Go.Sort.ltInt a i0 j0 e0) (fun y=> y.2.1.2+1 - y.2.1.1) ?_ ?_
  ·exact ⟨(e0,(i0,j0),_),⟨h2n,hi1',hi2',hj1',rfl⟩,Jc _ _ rfl rfl Sf .slnil Bf trivial ⟨Rf,Rf,Rf,Rf,trivial⟩⟩
  ·rintro ⟨e,⟨i,j⟩,nx3⟩ ⟨m1,m2,m3,m4,m5⟩
   dsimp only at m1 m2 m3 m4 m5
   rw [Go.Sort.partEqLoop_eq] at m5
   refine stp ?_
   refine Ja5 (fun y:Nat×Nat=> mk 84 [(0, .hs (0,s) 0 n cap),(1,int a),(9,int y.1),(10,int j)] ⟨Jm s e tl, [],y.2,1⟩) (fun y=> i≤y.1∧y.1≤n+2∧y.1=Go.Sort.scanUp (fun x=> !Go.Sort.ltInt e[a]! x) e j i) ?_ ?_
   ·refine Js (fun y:Nat×Nat=> mk 84 [(0, .hs (0,s) 0 n cap),(1,int a),(9,int y.1),(10,int j)] ⟨Jm s e tl, [],y.2,1⟩) (fun y=> i≤y.1∧y.1≤n+2∧Go.Sort.scanUp (fun x=> !Go.Sort.ltInt e[a]! x) e j y.1=Go.Sort.scanUp (fun x=> !Go.Sort.ltInt e[a]! x) e j i) (fun y=> j+1 - y.1) ?_ ?_
    ·exact ⟨(i,_),⟨Nat.le_refl _,Dm,rfl⟩,Jc _ _ rfl rfl Sf .slnil Bf trivial ⟨Rf,Rf,Rf,Rf,trivial⟩⟩
    ·rintro ⟨k,nx1⟩ ⟨h1,h2,h3⟩
     dsimp only at h1 h2 h3
     by_cases hij:k≤j
     ·have hd:decide (((k:Nat):Int)≤((j:Nat):Int))=true:=decide_eq_true Om
      refine stp ?_
      (refine JH 15 ?_ ?_ ?_ ?_;(· kernel_rfl);(· kernel_rfl);(· kernel_rfl))
      refine stp ?_
      (conv=> whnf)
      refine JaE hd ?_
      refine stp ?_
      refine ⟨⟨JF (i:=a) (rfl),JG (i:=a) (rfl) Om⟩,Jk (b:= .bp (0,s) (a)) (congrArg (AV.bp (0,s)) (JN (i:=a) Jt (rfl))) ?_⟩
      (conv=> whnf)
      refine ⟨⟨rfl,Jai (show a < e.size by omega)⟩,Jk (b:=Jj e[a]!) (J6 (show a < e.size by omega)) ?_⟩
      refine stp ?_
      refine ⟨⟨JF (i:=k) (rfl),JG (i:=k) (rfl) Om⟩,Jk (b:= .bp (0,s) (k)) (congrArg (AV.bp (0,s)) (JN (i:=k) Jt (rfl))) ?_⟩
      (conv=> whnf)
      refine ⟨⟨rfl,Jai (show k < e.size by omega)⟩,Jk (b:=Jj e[k]!) (J6 (show k < e.size by omega)) ?_⟩
      refine stp ?_
      refine J8 (JR rfl rfl (Jcb e[a]! e[k]!) ⟨Rf,Rf,trivial⟩ (NoId.v _)) ?_
      refine stp ?_
      intro c hlt;cases c
      ·have hl:(fun x=> !Go.Sort.ltInt e[a]! x) e[k]! =true:=(congrArg Bool.not hlt).symm
       rw [Jhw (p:=fun x=> !Go.Sort.ltInt e[a]! x) (d:=e) (i:=k) hij hl] at h3
       refine stp ?_
       exact back (k+1,nx1) ⟨by dsimp only;omega,by dsimp only;omega,h3⟩ Dm (Jc _ _ rfl rfl Sf .slnil Bf trivial ⟨Rf,Rf,Jg (Jz Dm),Rf,trivial⟩)
      ·have hl:(fun x=> !Go.Sort.ltInt e[a]! x) e[k]! =false:=(congrArg Bool.not hlt).symm
       rw [Jdp (p:=fun x=> !Go.Sort.ltInt e[a]! x) (d:=e) (i:=k) (fun hh=> Bool.false_ne_true (hl.symm.trans hh.2))] at h3
       refine stp ?_
       exact ⟨(k,nx1),⟨h1,h2,h3⟩,Jc _ _ rfl rfl Sf .slnil Bf trivial ⟨Rf,Rf,Rf,Rf,trivial⟩⟩
     ·have hd:decide (((k:Nat):Int)≤((j:Nat):Int))=false:=decide_eq_false Om
      rw [Jdp (p:=fun x=> !Go.Sort.ltInt e[a]! x) (d:=e) (i:=k) (fun hh=> hij hh.1)] at h3
      refine stp ?_
      (refine JH 15 ?_ ?_ ?_ ?_;(· kernel_rfl);(· kernel_rfl);(· kernel_rfl))
      refine stp ?_
      (conv=> whnf)
      refine JaE hd ?_
      refine stp ?_
      exact ⟨(k,nx1),⟨h1,h2,h3⟩,Jc _ _ rfl rfl Sf .slnil Bf trivial ⟨Rf,Rf,Rf,Rf,trivial⟩⟩
   rintro ⟨i2,nx4⟩ ⟨hi1,hi2,hi3⟩
   dsimp only at hi1 hi2 hi3
   rw [← hi3] at m5
   have hi1:1≤i2:=by omega
   refine stp ?_
   refine Ja5 (fun y:Nat×Nat=> mk 84 [(0, .hs (0,s) 0 n cap),(1,int a),(9,int i2),(10,int y.1)] ⟨Jm s e tl, [],y.2,1⟩) (fun y=> y.1≤j∧y.1=Go.Sort.scanDown (fun x=> Go.Sort.ltInt e[a]! x) e i2 j) ?_ ?_
   ·refine Js (fun y:Nat×Nat=> mk 84 [(0, .hs (0,s) 0 n cap),(1,int a),(9,int i2),(10,int y.1)] ⟨Jm s e tl, [],y.2,1⟩) (fun y=> y.1≤j∧Go.Sort.scanDown (fun x=> Go.Sort.ltInt e[a]! x) e i2 y.1=Go.Sort.scanDown (fun x=> Go.Sort.ltInt e[a]! x) e i2 j) (fun y=> y.1) ?_ ?_
    ·exact ⟨(j,_),⟨Nat.le_refl _,rfl⟩,Jc _ _ rfl rfl Sf .slnil Bf trivial ⟨Rf,Rf,Rf,Rf,trivial⟩⟩
    ·rintro ⟨k,nx1⟩ ⟨h2,h3⟩
     dsimp only at h2 h3
     by_cases hij:i2≤k
     ·have hd:decide (((i2:Nat):Int)≤((k:Nat):Int))=true:=decide_eq_true Om
      refine stp ?_
      (refine JH 14 ?_ ?_ ?_ ?_;(· kernel_rfl);(· kernel_rfl);(· kernel_rfl))
      refine stp ?_
      (conv=> whnf)
      refine JaE hd ?_
      refine stp ?_
      refine ⟨⟨JF (i:=a) (rfl),JG (i:=a) (rfl) Om⟩,Jk (b:= .bp (0,s) (a)) (congrArg (AV.bp (0,s)) (JN (i:=a) Jt (rfl))) ?_⟩
      (conv=> whnf)
      refine ⟨⟨rfl,Jai (show a < e.size by omega)⟩,Jk (b:=Jj e[a]!) (J6 (show a < e.size by omega)) ?_⟩
      refine stp ?_
      refine ⟨⟨JF (i:=k) (rfl),JG (i:=k) (rfl) Om⟩,Jk (b:= .bp (0,s) (k)) (congrArg (AV.bp (0,s)) (JN (i:=k) Jt (rfl))) ?_⟩
      (conv=> whnf)
      refine ⟨⟨rfl,Jai (show k < e.size by omega)⟩,Jk (b:=Jj e[k]!) (J6 (show k < e.size by omega)) ?_⟩
      refine stp ?_
      refine J8 (JR rfl rfl (Jcb e[a]! e[k]!) ⟨Rf,Rf,trivial⟩ (NoId.v _)) ?_
      refine stp ?_
      intro c hlt;cases c
      ·have hl:(fun x=> Go.Sort.ltInt e[a]! x) e[k]! =false:=hlt.symm
       rw [Jdq (p:=fun x=> Go.Sort.ltInt e[a]! x) (d:=e) (j:=k) (fun hh=> Bool.false_ne_true (hl.symm.trans hh.2))] at h3
       refine stp ?_
       exact ⟨(k,nx1),⟨h2,h3⟩,Jc _ _ rfl rfl Sf .slnil Bf trivial ⟨Rf,Rf,Rf,Rf,trivial⟩⟩
      ·have hl:(fun x=> Go.Sort.ltInt e[a]! x) e[k]! =true:=hlt.symm
       rw [Jhx (p:=fun x=> Go.Sort.ltInt e[a]! x) (d:=e) (j:=k) Om hij hl] at h3
       refine stp ?_
       exact back (k - 1,nx1) ⟨by dsimp only;omega,h3⟩ Dm (Jc _ _ rfl rfl Sf .slnil Bf trivial ⟨Rf,Rf,Rf,Jg (by rw [Ju Dm Dm];dsimp only;omega),trivial⟩)
     ·have hd:decide (((i2:Nat):Int)≤((k:Nat):Int))=false:=decide_eq_false Om
      rw [Jdq (p:=fun x=> Go.Sort.ltInt e[a]! x) (d:=e) (j:=k) (fun hh=> hij hh.1)] at h3
      refine stp ?_
      (refine JH 14 ?_ ?_ ?_ ?_;(· kernel_rfl);(· kernel_rfl);(· kernel_rfl))
      refine stp ?_
      (conv=> whnf)
      refine JaE hd ?_
      refine stp ?_
      exact ⟨(k,nx1),⟨h2,h3⟩,Jc _ _ rfl rfl Sf .slnil Bf trivial ⟨Rf,Rf,Rf,Rf,trivial⟩⟩
   rintro ⟨j2,nx5⟩ ⟨hj1,hj2⟩
   dsimp only at hj1 hj2
   rw [← hj2] at m5
   refine stp ?_
   intro c g;cases c
   ·have g:=Jw g
    try dsimp only at g
    rw [if_neg Om] at m5
    refine stp ?_
    refine Jcc 16 (fun i=> match i with | 13=> true | 15=> true | _=> false) (fun i=> match i with | 7=> true | 11=> true | _=> false) [0,1,2,3,4,5,6,8,9,10,7,11,12,13,14,15] (by kernel_rfl) (by kernel_rfl) ?_
    (conv=> whnf)
    refine ⟨⟨JF (i:=j2) (rfl),JG (i:=j2) (rfl) Om⟩, ?_⟩
    (conv=> whnf)
    refine ⟨⟨JF (i:=i2) (rfl),JG (i:=i2) (rfl) Om⟩, ?_⟩
    (conv=> whnf)
    refine ⟨Jj e[j2]!,Jae (E:=Jj) (d:=e) (tl:=tl) (j:=j2) rfl rfl rfl (JN (i:=j2) Jt (rfl)) rfl Ja2 rfl Om, ?_⟩
    (conv=> whnf)
    refine ⟨Jj e[i2]!,Jae (E:=Jj) (d:=e) (tl:=tl) (j:=i2) rfl rfl rfl (JN (i:=i2) Jt (rfl)) rfl Ja2 rfl Om, ?_⟩
    (conv=> whnf)
    refine ⟨⟨JF (i:=i2) (rfl),JG (i:=i2) (rfl) Om⟩, ?_⟩
    (conv=> whnf)
    refine ⟨_,Jad (E:=Jj) (d:=e) (tl:=tl) (j:=i2) (z:=e[j2]!) rfl rfl rfl rfl (JN (i:=i2) Jt (rfl)) rfl rfl rfl rfl (by kernel_rfl) Jt Om,fun r0 h0 hr0=> ?_⟩
    subst hr0
    (conv=> whnf)
    refine ⟨⟨JF (i:=j2) (rfl),JG (i:=j2) (rfl) Om⟩, ?_⟩
    (conv=> whnf)
    refine ⟨_,Jad (E:=Jj) (d:=(e).setIfInBounds (i2) e[j2]!) (tl:=tl) (j:=j2) (z:=e[i2]!) rfl rfl rfl rfl (JN (i:=j2) Jt (rfl)) rfl rfl rfl rfl (by kernel_rfl) Jt (by simp;omega),fun r0 h0 hr0=> ?_⟩
    subst hr0
    refine stp ?_
    exact back (Go.Sort.swp e i2 j2,(i2+1,j2 - 1),nx5) ⟨by dsimp only;rw [JbA];exact m1,by first | omega | (dsimp only;omega),by first | omega | (dsimp only;omega),by first | omega | (dsimp only;omega),m5⟩ (by first | omega | (dsimp only;omega)) (Jc _ _ rfl rfl Sf .slnil Bf trivial ⟨Rf,Rf,Lw,Jg (by rw [Ju (by first | omega | (dsimp only;omega)) (by first | omega | (dsimp only;omega))];dsimp only;omega),trivial⟩)
   ·have g:=Jv g
    try dsimp only at g
    rw [if_pos Om] at m5
    refine stp ?_
    exact ⟨(e,i2,nx5),m5,Jc _ _ rfl rfl Sf .slnil Bf trivial ⟨Rf,Rf,Rf,trivial⟩⟩
 ·rintro ⟨e,i,nx3⟩ m3
  dsimp only at m3
  rw [← m3] at hP
  subst hP
  dsimp only
  refine stp ?_
  exact Jr rfl ⟨_,_,Rf,Jq (Jm s e tl) [] rfl Sf .slnil Bf Pf,_,1,rfl,rfl⟩
end Go.Proofs.W

namespace Go.Proofs.W
open Go.Vl
set_option maxRecDepth 100000
def JcS (s s2:Nat) (k:Int) (d:Array (Int)) (tl:List AV):List (Vl.Id×Own):= [((1,s2), .c [int k]),((0,s), .c (JaS Jj d tl))]
theorem Jld (d:Array (Int)) (tl:List AV) (n a b:Nat) (hn:d.size=n) (ha:a < n) (hb:b < n) (hsz:n≤1000000) (k:Int) (s s2 cap nx:Nat):
 ECall Tryz.prog 302 [.hs (0,s) 0 n cap,int a,int b, .bp (1,s2) 0] ⟨JcS s s2 k d tl, [],nx,2⟩ (fun r h'=> ∃x y:Nat,∃k' nx' nn',((x=a∧y=b)∨(x=b∧y=a))∧r= .tup [int x,int y]∧h'=⟨JcS s s2 k' d tl, [],nx',nn'⟩):=by
 refine ECall.wk (Jn Tryz.func302 rfl rfl ?_)
 refine stp ?_
 (refine JH 9 ?_ ?_ ?_ ?_;(· kernel_rfl);(· kernel_rfl);(· kernel_rfl))
 refine stp ?_
 refine ⟨⟨JF (i:=b) (rfl),JG (i:=b) (rfl) Om⟩,Jk (b:= .bp (0,s) (b)) (congrArg (AV.bp (0,s)) (JN (i:=b) Jt (rfl))) ?_⟩
 (conv=> whnf)
 refine ⟨⟨rfl,Jai (show b < d.size by omega)⟩,Jk (b:=Jj d[b]!) (J6 (show b < d.size by omega)) ?_⟩
 refine stp ?_
 refine ⟨⟨JF (i:=a) (rfl),JG (i:=a) (rfl) Om⟩,Jk (b:= .bp (0,s) (a)) (congrArg (AV.bp (0,s)) (JN (i:=a) Jt (rfl))) ?_⟩
 (conv=> whnf)
 refine ⟨⟨rfl,Jai (show a < d.size by omega)⟩,Jk (b:=Jj d[a]!) (J6 (show a < d.size by omega)) ?_⟩
 refine stp ?_
 refine J8 (JR rfl rfl (Jcb d[b]! d[a]!) ⟨Rf,Rf,trivial⟩ (NoId.v _)) ?_
 refine stp ?_
 intro c hlt;cases c
 ·refine stp ?_
  exact Jr rfl ⟨_,_,Rf,Jq (JcS s s2 _ d tl) [] rfl Sf .slnil Bf Pf,a,b,k,nx,2, .inl ⟨rfl,rfl⟩,rfl,rfl⟩
 ·refine stp ?_
  exact Jr rfl ⟨_,_,Rf,Jq (JcS s s2 _ d tl) [] rfl Sf .slnil Bf Pf,b,a,_,nx,2, .inr ⟨rfl,rfl⟩,rfl,rfl⟩
set_option maxHeartbeats 1000000 in
theorem Jtu (d:Array (Int)) (tl:List AV) (n a b c:Nat) (hn:d.size=n) (ha:a < n) (hb:b < n) (hc:c < n) (hsz:n≤1000000) (k:Int) (s s2 cap nx:Nat):
 ECall Tryz.prog 279 [.hs (0,s) 0 n cap,int a,int b,int c, .bp (1,s2) 0] ⟨JcS s s2 k d tl, [],nx,2⟩ (fun r h'=> ∃x:Nat,∃k' nx' nn',(x=a∨x=b∨x=c)∧r=int x∧h'=⟨JcS s s2 k' d tl, [],nx',nn'⟩):=by
 refine ECall.wk (Jn Tryz.func279 rfl rfl ?_)
 refine stp ?_
 refine Jf (xs:= [.hs (0,s) 0 n cap,int a,int b, .bp (1,s2) 0]) [] [] 2 rfl rfl rfl rfl ⟨Rf,Rf,Rf,Rf,trivial⟩ (Jld d tl n a b hn ha hb hsz k s s2 cap _) Bf Pf rfl fun r h' hq=> ?_
 obtain ⟨x1,y1,k1,nx1,nn1,ho1,rfl,rfl⟩:=hq
 refine stp ?_
 refine Jf (xs:= [.hs (0,s) 0 n cap,int y1,int c, .bp (1,s2) 0]) [] [] 2 rfl rfl rfl rfl ⟨Rf,Rf,Rf,Rf,trivial⟩ (Jld d tl n y1 c hn Om hc hsz k1 s s2 cap _) Bf Pf rfl fun r h' hq=> ?_
 obtain ⟨x2,y2,k2,nx2,nn2,ho2,rfl,rfl⟩:=hq
 refine stp ?_
 refine Jf (xs:= [.hs (0,s) 0 n cap,int x1,int x2, .bp (1,s2) 0]) [] [] 2 rfl rfl rfl rfl ⟨Rf,Rf,Rf,Rf,trivial⟩ (Jld d tl n x1 x2 hn Om Om hsz k2 s s2 cap _) Bf Pf rfl fun r h' hq=> ?_
 obtain ⟨x3,y3,k3,nx3,nn3,ho3,rfl,rfl⟩:=hq
 refine stp ?_
 exact Jr rfl ⟨_,_,Rf,Jq (JcS s s2 _ d tl) [] rfl Sf .slnil Bf Pf,y3,k3,nx3,2,by omega,rfl,rfl⟩
theorem JiM (d:Array (Int)) (tl:List AV) (n a:Nat) (hn:d.size=n) (h1:1≤a) (ha:a+1 < n) (hsz:n≤1000000) (k:Int) (s s2 cap nx:Nat):
 ECall Tryz.prog 278 [.hs (0,s) 0 n cap,int a, .bp (1,s2) 0] ⟨JcS s s2 k d tl, [],nx,2⟩ (fun r h'=> ∃x:Nat,∃k' nx' nn',(x=a - 1∨x=a∨x=a+1)∧r=int x∧h'=⟨JcS s s2 k' d tl, [],nx',nn'⟩):=by
 refine ECall.wk (Jn Tryz.func278 rfl rfl ?_)
 refine stp ?_
 refine Jf (xs:= [.hs (0,s) 0 n cap,int (a - 1:Nat),int a,int (a+1:Nat), .bp (1,s2) 0]) [] [] 2 rfl rfl rfl rfl ⟨Rf,Jg (by rw [Ju Om Om];omega),Rf,Jg (Jz Om),Rf,trivial⟩ (Jtu d tl n (a - 1) a (a+1) hn Om Om ha hsz k s s2 cap _) Bf Pf rfl fun r h' hq=> ?_
 obtain ⟨x1,k1,nx1,nn1,ho1,rfl,rfl⟩:=hq
 refine stp ?_
 exact Jr rfl ⟨_,_,Rf,Jq (JcS s s2 _ d tl) [] rfl Sf .slnil Bf Pf,x1,k1,nx1,2,ho1,rfl,rfl⟩
set_option maxHeartbeats 2000000 in
theorem Jw2 (d:Array (Int)) (tl:List AV) (n a b:Nat) (hn:d.size=n) (hab:a < b) (hb:b≤n) (hsz:n≤1000000) (s cap nx:Nat):
 ECall Tryz.prog 202 [.hs (0,s) 0 n cap,int a,int b] ⟨Jm s d tl, [],nx,1⟩ (fun r h'=> ∃p:Nat,∃hint:Int,∃nx' nn',a≤p∧p < b∧r= .tup [int p,int hint]∧h'=⟨Jm s d tl, [],nx',nn'⟩):=by
 refine ECall.wk (Jn Tryz.func202 rfl rfl ?_)
 have el:IntKind.i64.wrap ((b:Int) - (a:Int))=((b - a:Nat):Int):=Jdj Om Om
 have e1:∀c:Nat,c≤3→IntKind.i64.wrap ((a:Int)+IntKind.i64.wrap (IntKind.i64.wrap (Int.tdiv ((b - a:Nat):Int) 4) * (c:Int)))=((a+(b - a) / 4 * c:Nat):Int):=fun c hc=> by
  have h4:(b - a) / 4 * c≤(b - a) / 4 * 3:=Nat.mul_le_mul_left _ hc
  rw [show Int.tdiv ((b - a:Nat):Int) 4=(((b - a) / 4:Nat):Int) from rfl,Ju (n:=(((b - a) / 4:Nat):Int)) Om Om,← Int.natCast_mul,Ju (n:=(((b - a) / 4 * c:Nat):Int)) Om Om,← Int.natCast_add]
  exact Jdj rfl Om
 (refine Jy ?_;refine JQ ?_;refine Jy ?_;refine JQ ?_;refine Jy ?_)
 refine Jid (bx:=Jm s d tl) (pm:= []) (nx:=nx) (nn:=1) (df:=some []) (L:= [(0, .hs (0,s) 0 n cap),(1,int a),(2,int b),(8,int (b - a:Nat))]) rfl rfl rfl Sf .slnil ⟨Rf,Rf,Rf,Jg el,trivial⟩ ?_
 (refine Jy ?_;refine JQ ?_;refine Jy ?_;refine JQ ?_;refine Jy ?_;refine JQ ?_;refine Jy ?_;refine JQ ?_;refine Jy ?_)
 refine AW.le (E':=mk 57 [(0, .hs (0,s) 0 n cap),(1,int a),(2,int b),(8,int (b - a:Nat)),(9, .bp (1,nx) 0),(10,int (a+(b - a) / 4 * 1:Nat)),(11,int (a+(b - a) / 4 * 2:Nat)),(12,int (a+(b - a) / 4 * 3:Nat))] ⟨JcS s nx 0 d tl, [],nx+1,2⟩) (Jc _ _ rfl rfl Sf .slnil Bf trivial ⟨Rf,Rf,Rf,Rf,Rf,Jg (e1 1 Om),Jg (e1 2 Om),Jg (e1 3 Om),trivial⟩) ?_
 clear e1 el
 refine Jen (fun y:Nat×Int×Nat=> mk 57 [(9, .bp (1,nx) 0),(11,int y.1)] ⟨JcS s nx y.2.1 d tl, [],y.2.2,2⟩) (fun y=> a≤y.1∧y.1 < b) ?_ ?_
 ·refine stp ?_
  intro c g8;cases c
  ·have g8:=Jw g8
   try dsimp only at g8
   refine stp ?_
   exact ⟨(a+(b - a) / 4 * 2,0,nx+1),⟨by dsimp only;omega,by dsimp only;omega⟩,Jc _ _ rfl rfl Sf .slnil Bf trivial ⟨Rf,Rf,trivial⟩⟩
  ·have g8:=Jv g8
   try dsimp only at g8
   refine Jy ?_
   refine Jen (fun y:(Nat×Nat×Nat)×Int×Nat=> mk 57 [(0, .hs (0,s) 0 n cap),(9, .bp (1,nx) 0),(10,int y.1.1),(11,int y.1.2.1),(12,int y.1.2.2)] ⟨JcS s nx y.2.1 d tl, [],y.2.2,2⟩) (fun y=> (a≤y.1.1∧y.1.1 < b)∧(a≤y.1.2.1∧y.1.2.1 < b)∧a≤y.1.2.2∧y.1.2.2 < b) ?_ ?_
   ·refine stp ?_
    intro c g;cases c
    ·have g:=Jw g
     try dsimp only at g
     refine stp ?_
     exact ⟨((a+(b - a) / 4 * 1,a+(b - a) / 4 * 2,a+(b - a) / 4 * 3),0,nx+1),⟨⟨by dsimp only;omega,by dsimp only;omega⟩,⟨by dsimp only;omega,by dsimp only;omega⟩,by dsimp only;omega,by dsimp only;omega⟩,Jc _ _ rfl rfl Sf .slnil Bf trivial ⟨Rf,Rf,Rf,Rf,Rf,trivial⟩⟩
    ·have g:=Jv g
     try dsimp only at g
     refine stp ?_
     refine Jf (xs:= [.hs (0,s) 0 n cap,int (a+(b - a) / 4 * 1:Nat), .bp (1,nx) 0]) [] [] 2 rfl rfl rfl rfl ⟨Rf,Rf,Rf,trivial⟩ (JiM d tl n (a+(b - a) / 4 * 1) hn Om Om hsz 0 s nx cap _) Bf Pf rfl fun r h' hq=> ?_
     obtain ⟨x1,k1,nx1,nn1,ho1,rfl,rfl⟩:=hq
     refine stp ?_
     refine Jf (xs:= [.hs (0,s) 0 n cap,int (a+(b - a) / 4 * 2:Nat), .bp (1,nx) 0]) [] [] 2 rfl rfl rfl rfl ⟨Rf,Rf,Rf,trivial⟩ (JiM d tl n (a+(b - a) / 4 * 2) hn Om Om hsz k1 s nx cap _) Bf Pf rfl fun r h' hq=> ?_
     obtain ⟨x2,k2,nx2,nn2,ho2,rfl,rfl⟩:=hq
     refine stp ?_
     refine Jf (xs:= [.hs (0,s) 0 n cap,int (a+(b - a) / 4 * 3:Nat), .bp (1,nx) 0]) [] [] 2 rfl rfl rfl rfl ⟨Rf,Rf,Rf,trivial⟩ (JiM d tl n (a+(b - a) / 4 * 3) hn Om Om hsz k2 s nx cap _) Bf Pf rfl fun r h' hq=> ?_
     obtain ⟨x3,k3,nx3,nn3,ho3,rfl,rfl⟩:=hq
     refine stp ?_
     exact ⟨((x1,x2,x3),k3,nx3),⟨⟨by dsimp only;omega,by dsimp only;omega⟩,⟨by dsimp only;omega,by dsimp only;omega⟩,by dsimp only;omega,by dsimp only;omega⟩,Jc _ _ rfl rfl Sf .slnil Bf trivial ⟨Rf,Rf,Rf,Rf,Rf,trivial⟩⟩
   ·rintro ⟨⟨i,j,l⟩,k,nx1⟩ ⟨hi,hj,hl⟩
    dsimp only at hi hj hl
    refine stp ?_
    refine Jf (xs:= [.hs (0,s) 0 n cap,int i,int j,int l, .bp (1,nx) 0]) [] [] 2 rfl rfl rfl rfl ⟨Rf,Rf,Rf,Rf,Rf,trivial⟩ (Jtu d tl n i j l hn Om Om Om hsz k s nx cap _) Bf Pf rfl fun r h' hq=> ?_
    obtain ⟨x3,k3,nx3,nn3,ho3,rfl,rfl⟩:=hq
    refine stp ?_
    exact ⟨(x3,k3,nx3),⟨by dsimp only;omega,by dsimp only;omega⟩,Jc _ _ rfl rfl Sf .slnil Bf trivial ⟨Rf,Rf,trivial⟩⟩
 ·rintro ⟨p,k,nx1⟩ ⟨h1,h2⟩
  dsimp only at h1 h2
  refine stp ?_
  intro c g0;cases c
  ·refine stp ?_
   intro c g1;cases c
   ·refine stp ?_
    exact Jr rfl ⟨_,_,Rf,Jq (Jm s d tl) [] rfl (.cons _ Sf) .slnil Bf Pf,p,0,_,2,h1,h2,rfl,rfl⟩
   ·refine stp ?_
    exact Jr rfl ⟨_,_,Rf,Jq (Jm s d tl) [] rfl (.cons _ Sf) .slnil Bf Pf,p,2,_,2,h1,h2,rfl,rfl⟩
  ·refine stp ?_
   exact Jr rfl ⟨_,_,Rf,Jq (Jm s d tl) [] rfl (.cons _ Sf) .slnil Bf Pf,p,1,_,2,h1,h2,rfl,rfl⟩
end Go.Proofs.W

namespace Go.Proofs.W
open Go.Vl
set_option maxRecDepth 100000
def Jnc (s s2:Nat) (z:Int) (d:Array (Int)) (tl:List AV):List (Vl.Id×Own):= [((1,s2), .c [.v (.int .u64 z)]),((0,s), .c (JaS Jj d tl))]
set_option maxHeartbeats 4000000 in
theorem Jw3 (d0:Array (Int)) (tl:List AV) (n a b:Nat) (hn:d0.size=n) (hab:a≤b) (hb:b≤n) (hsz:n≤1000000) (s cap nx:Nat):
 ECall Tryz.prog 201 [.hs (0,s) 0 n cap,int a,int b] ⟨Jm s d0 tl, [],nx,1⟩ (fun r h'=> ∃d' nx' nn',Go.Sort.PermIn a b d0 d'∧h'=⟨Jm s d' tl, [],nx',nn'⟩):=by
 refine ECall.wk (Jn Tryz.func201 rfl rfl ?_)
 have el:IntKind.i64.wrap ((b:Int) - (a:Int))=((b - a:Nat):Int):=Jdj Om Om
 obtain ⟨L,hL⟩:∃L,L=b - a:=⟨_,rfl⟩
 rw [← hL] at el
 (refine Jy ?_;refine JQ ?_;refine Jy ?_)
 refine Jid (bx:=Jm s d0 tl) (pm:= []) (nx:=nx) (nn:=1) (df:=some []) (L:= [(0, .hs (0,s) 0 n cap),(1,int a),(6,int L)]) rfl rfl rfl Sf .slnil ⟨Rf,Rf,Jg el,trivial⟩ ?_
 refine stp ?_
 intro c g8;cases c
 ·refine stp ?_
  exact Jr rfl ⟨_,_,Rf,Jq (Jm s d0 tl) [] rfl Sf .slnil Bf Pf,d0,_,1,Go.Sort.permIn_refl _ _ _,rfl⟩
 ·have g8:=Jv g8
  try dsimp only at g8
  have hM2:=JlW (n:=L) Om Om
  have hM0:0 < 2 ^ Lib.bitLen L:=Nat.two_pow_pos _
  have hnp:=Jqe L Om Om
  refine stp ?_
  refine Ja rfl rfl hnp ⟨Rf,trivial⟩ fun nx1=> ?_
  replace hM2:=hM2.1
  generalize 2 ^ Lib.bitLen L=M at hM0 hM2 hnp
  have e1:IntKind.i64.wrap (IntKind.i64.wrap ((a:Int)+IntKind.i64.wrap (IntKind.i64.wrap (Int.tdiv (L:Int) 4) * 2)) - 1)=((a+L / 4 * 2 - 1+0:Nat):Int):=by
   rw [show Int.tdiv (L:Int) 4=((L / 4:Nat):Int) from rfl,Ju (n:=((L / 4:Nat):Int)) Om Om,Ju (n:=((L / 4:Nat):Int) * 2) Om Om,Ju (n:=(a:Int)+((L / 4:Nat):Int) * 2) Om Om,Ju Om Om]
   omega
  have e2:IntKind.i64.wrap (IntKind.i64.wrap ((a:Int)+IntKind.i64.wrap (IntKind.i64.wrap (Int.tdiv (L:Int) 4) * 2))+1)=((a+L / 4 * 2+1:Nat):Int):=by
   rw [show Int.tdiv (L:Int) 4=((L / 4:Nat):Int) from rfl,Ju (n:=((L / 4:Nat):Int)) Om Om,Ju (n:=((L / 4:Nat):Int) * 2) Om Om,Ju (n:=(a:Int)+((L / 4:Nat):Int) * 2) Om Om,Ju Om Om]
   omega
  have eM:IntKind.u64.wrap ((M:Int) - 1)=((M - 1:Nat):Int):=(IntWalk.u64_in _ Om).trans Om
  refine stp ?_
  refine Js (fun y:Array (Int)×Nat×Int×Nat=> mk 65 [(0, .hs (0,s) 0 n cap),(1,int a),(6,int L),(7, .bp (1,nx) 0),(8, .v (.int .u64 (M:Int))),(9,int (a+L / 4 * 2 - 1+y.2.1:Nat))] ⟨Jnc s nx y.2.2.1 y.1 tl, [],y.2.2.2,2⟩) (fun y=> y.1.size=n∧y.2.1≤3∧Go.Sort.PermIn a b d0 y.1) (fun y=> 3 - y.2.1) ?_ ?_
  ·exact ⟨(d0,0,_,nx1),⟨hn,by dsimp only;omega,Go.Sort.permIn_refl _ _ _⟩,Jc _ _ rfl rfl Sf .slnil Bf trivial ⟨Rf,Rf,Rf,Rf,Rf,Jg e1,trivial⟩⟩
  ·rintro ⟨d,m,z,nx2⟩ ⟨h1,h2,h3⟩
   dsimp only at h1 h2 h3
   refine stp ?_
   intro c g;cases c
   ·refine stp ?_
    exact Jr rfl ⟨_,_,Rf,Jq (Jm s d tl) [] rfl (.cons _ Sf) .slnil Bf Pf,d,_,1,h3,rfl⟩
   ·have g:=Jv g
    replace g:=(show ((a+L / 4 * 2 - 1+m:Nat):Int)≤IntKind.i64.wrap (IntKind.i64.wrap ((a:Int)+IntKind.i64.wrap (IntKind.i64.wrap (Int.tdiv (L:Int) 4) * 2))+1) from g)
    rw [e2] at g
    have hm:m≤2:=by omega
    refine Jy ?_
    refine JQ ?_
    refine Jy ?_
    refine Jf (xs:= [.bp (1,nx) 0]) [] [] 2 rfl rfl rfl rfl ⟨Rf,trivial⟩ (Jqf z (JaS Jj d tl) s nx _) Bf Pf rfl fun r h' hq=> ?_
    obtain ⟨z',nx3,nn',rfl,rfl⟩:=hq
    obtain ⟨k,hk1,hk2⟩:=JzM z' (m:=M - 1) Om
    rw [← eM] at hk2
    refine Jy ?_
    refine AW.le (E':=mk 65 [(0, .hs (0,s) 0 n cap),(1,int a),(6,int L),(7, .bp (1,nx) 0),(8, .v (.int .u64 (M:Int))),(9,int (a+L / 4 * 2 - 1+m:Nat)),(10,int k)] ⟨Jnc s nx z' d tl, [],nx3,2⟩) (Jc _ _ rfl rfl Sf .slnil Bf trivial ⟨Rf,Rf,Rf,Rf,Rf,Rf,Jg (by rw [hk2];exact Jdj rfl Om),trivial⟩) ?_
    clear hk2 e2 eM e1
    refine Jen (fun y:Nat×Nat=> mk 65 [(0, .hs (0,s) 0 n cap),(1,int a),(6,int L),(7, .bp (1,nx) 0),(8, .v (.int .u64 (M:Int))),(9,int (a+L / 4 * 2 - 1+m:Nat)),(10,int y.1)] ⟨Jnc s nx z' d tl, [],y.2,2⟩) (fun y=> y.1 < L) ?_ ?_
    ·refine stp ?_
     intro c g2;cases c
     ·have g2:=Jw g2
      try dsimp only at g2
      refine stp ?_
      exact ⟨(k,nx3),by first | omega | (dsimp only;omega),Jc _ _ rfl rfl Sf .slnil Bf trivial ⟨Rf,Rf,Rf,Rf,Rf,Rf,Rf,trivial⟩⟩
     ·have g2:=Jv g2
      try dsimp only at g2
      refine stp ?_
      exact ⟨(k - L,nx3),by first | omega | (dsimp only;omega),Jc _ _ rfl rfl Sf .slnil Bf trivial ⟨Rf,Rf,Rf,Rf,Rf,Rf,Jg (by rw [Ju (by first | omega | (dsimp only;omega)) (by first | omega | (dsimp only;omega))];dsimp only;omega),trivial⟩⟩
    ·rintro ⟨o,nx4⟩ ho
     dsimp only at ho
     have eo:IntKind.i64.wrap ((a:Int)+(o:Int))=((a+o:Nat):Int):=Jdj Om Om
     refine stp ?_
     refine Jcc 20 (fun i=> match i with | 17=> true | 19=> true | _=> false) (fun i=> match i with | 11=> true | 15=> true | _=> false) [0,1,2,3,4,5,6,7,8,9,10,12,13,14,11,15,16,17,18,19] (by kernel_rfl) (by kernel_rfl) ?_
     (conv=> whnf)
     refine ⟨⟨JF (i:=a+o) (eo),JG (i:=a+o) (eo) Om⟩, ?_⟩
     (conv=> whnf)
     refine ⟨⟨JF (i:=a+L / 4 * 2 - 1+m) (rfl),JG (i:=a+L / 4 * 2 - 1+m) (rfl) Om⟩, ?_⟩
     (conv=> whnf)
     refine ⟨Jj d[a+o]!,Jae (E:=Jj) (d:=d) (tl:=tl) (j:=a+o) rfl rfl rfl (JN (i:=a+o) Jt (eo)) rfl Ja2 rfl Om, ?_⟩
     (conv=> whnf)
     refine ⟨Jj d[a+L / 4 * 2 - 1+m]!,Jae (E:=Jj) (d:=d) (tl:=tl) (j:=a+L / 4 * 2 - 1+m) rfl rfl rfl (JN (i:=a+L / 4 * 2 - 1+m) Jt (rfl)) rfl Ja2 rfl Om, ?_⟩
     (conv=> whnf)
     refine ⟨⟨JF (i:=a+L / 4 * 2 - 1+m) (rfl),JG (i:=a+L / 4 * 2 - 1+m) (rfl) Om⟩, ?_⟩
     (conv=> whnf)
     refine ⟨_,Jad (E:=Jj) (d:=d) (tl:=tl) (j:=a+L / 4 * 2 - 1+m) (z:=d[a+o]!) rfl rfl rfl rfl (JN (i:=a+L / 4 * 2 - 1+m) Jt (rfl)) rfl rfl rfl rfl (by kernel_rfl) Jt Om,fun r0 h0 hr0=> ?_⟩
     subst hr0
     (conv=> whnf)
     refine ⟨⟨JF (i:=a+o) (eo),JG (i:=a+o) (eo) Om⟩, ?_⟩
     (conv=> whnf)
     refine ⟨_,Jad (E:=Jj) (d:=(d).setIfInBounds (a+L / 4 * 2 - 1+m) d[a+o]!) (tl:=tl) (j:=a+o) (z:=d[a+L / 4 * 2 - 1+m]!) rfl rfl rfl rfl (JN (i:=a+o) Jt (eo)) rfl rfl rfl rfl (by kernel_rfl) Jt (by simp;omega),fun r0 h0 hr0=> ?_⟩
     subst hr0
     refine stp ?_
     exact back (Go.Sort.swp d (a+L / 4 * 2 - 1+m) (a+o),m+1,z',nx4) ⟨by dsimp only;rw [JbA];exact h1,by dsimp only;omega,Go.Sort.permIn_trans _ _ _ a b h3 (Go.Sort.swp_permIn d a b _ _ Om Om Om Om Om)⟩ Dm (Jc _ _ rfl rfl Sf .slnil Bf trivial ⟨Rf,Rf,Rf,Rf,Rf,Jg (by rw [Ju (by first | omega | (dsimp only;omega)) (by first | omega | (dsimp only;omega))];dsimp only;omega),trivial⟩)
set_option maxHeartbeats 8000000 in
theorem JyM (d0:Array (Int)) (tl:List AV) (n a b:Nat) (hn:d0.size=n) (hab:a < b) (hb:b≤n) (hsz:n≤1000000) (s cap nx:Nat):
 ECall Tryz.prog 204 [.hs (0,s) 0 n cap,int a,int b] ⟨Jm s d0 tl, [],nx,1⟩ (fun r h'=> ∃nx' nn',r= .v (.bool (Go.Sort.partialInsertionSort Go.Sort.ltInt d0 a b).2)∧h'=⟨Jm s (Go.Sort.partialInsertionSort Go.Sort.ltInt d0 a b).1 tl, [],nx',nn'⟩):=by
 refine ECall.wk (Jn Tryz.func204 rfl rfl ?_)
 have hP:Go.Sort.partialIns Go.Sort.ltInt a b 5 (a+1) d0=Go.Sort.partialInsertionSort Go.Sort.ltInt d0 a b:=rfl
 generalize Go.Sort.partialInsertionSort Go.Sort.ltInt d0 a b=Pt at hP⊢
 refine stp ?_
 refine Js (fun y:Array (Int)×(Nat×Nat)×Nat=> mk 133 [(0, .hs (0,s) 0 n cap),(1,int a),(2,int b),(7,int y.2.1.1),(8,int y.2.1.2)] ⟨Jm s y.1 tl, [],y.2.2,1⟩) (fun y=> y.1.size=n∧(a+1≤y.2.1.1∧y.2.1.1≤b)∧y.2.1.2≤5∧Go.Sort.partialIns Go.Sort.ltInt a b (5 - y.2.1.2) y.2.1.1 y.1=Pt) (fun y=> 5 - y.2.1.2) ?_ ?_
 ·exact ⟨(d0,(a+1,0),_),⟨hn,⟨Nat.le_refl _,by dsimp only;omega⟩,by dsimp only;omega,hP⟩,Jc _ _ rfl rfl Sf .slnil Bf trivial ⟨Rf,Rf,Rf,Jg (Jz Om),Rf,trivial⟩⟩
 ·rintro ⟨d1,⟨i1,st⟩,nx1⟩ ⟨h1,h2,h3,h4⟩
  dsimp only at h1 h2 h3 h4
  refine stp ?_
  intro c g;cases c
  ·have g:=Jw g
   try dsimp only at g
   obtain rfl:st=5:=by omega
   subst h4
   refine stp ?_
   exact Jr rfl ⟨_,_,Rf,Jq (Jm s d1 tl) [] rfl Sf .slnil Bf Pf,_,1,rfl,rfl⟩
  ·have g:=Jv g
   try dsimp only at g
   obtain ⟨m,hm⟩:∃m,5 - st=m+1:=⟨4 - st,by omega⟩
   rw [hm,Go.Sort.partialIns_succ] at h4
   refine stp ?_
   refine Ja5 (fun y:Nat×Nat=> mk 133 [(0, .hs (0,s) 0 n cap),(1,int a),(2,int b),(7,int y.1),(8,int st)] ⟨Jm s d1 tl, [],y.2,1⟩) (fun y=> (a+1≤y.1∧y.1≤b)∧y.1=Go.Sort.scanSorted Go.Sort.ltInt d1 b i1) ?_ ?_
   ·refine Js (fun y:Nat×Nat=> mk 133 [(0, .hs (0,s) 0 n cap),(1,int a),(2,int b),(7,int y.1),(8,int st)] ⟨Jm s d1 tl, [],y.2,1⟩) (fun y=> (a+1≤y.1∧y.1≤b)∧Go.Sort.scanSorted Go.Sort.ltInt d1 b y.1=Go.Sort.scanSorted Go.Sort.ltInt d1 b i1) (fun y=> b - y.1) ?_ ?_
    ·exact ⟨(i1,nx1),⟨h2,rfl⟩,Jc _ _ rfl rfl Sf .slnil Bf trivial ⟨Rf,Rf,Rf,Rf,Rf,trivial⟩⟩
    ·rintro ⟨k,nx2⟩ ⟨k1,k2⟩
     dsimp only at k1 k2
     by_cases hij:k < b
     ·have hd:decide (((k:Nat):Int) < ((b:Nat):Int))=true:=decide_eq_true Om
      have hj1:IntKind.i64.wrap ((k:Int) - 1)=((k - 1:Nat):Int):=by rw [Ju Om Om];omega
      refine stp ?_
      (refine JH 16 ?_ ?_ ?_ ?_;(· kernel_rfl);(· kernel_rfl);(· kernel_rfl))
      refine stp ?_
      (conv=> whnf)
      refine JaE hd ?_
      refine stp ?_
      refine ⟨⟨JF (i:=k) (rfl),JG (i:=k) (rfl) Om⟩,Jk (b:= .bp (0,s) (k)) (congrArg (AV.bp (0,s)) (JN (i:=k) Jt (rfl))) ?_⟩
      (conv=> whnf)
      refine ⟨⟨rfl,Jai (show k < d1.size by omega)⟩,Jk (b:=Jj d1[k]!) (J6 (show k < d1.size by omega)) ?_⟩
      refine stp ?_
      refine ⟨⟨JF (i:=k - 1) (hj1),JG (i:=k - 1) (hj1) Om⟩,Jk (b:= .bp (0,s) (k - 1)) (congrArg (AV.bp (0,s)) (JN (i:=k - 1) Jt (hj1))) ?_⟩
      (conv=> whnf)
      refine ⟨⟨rfl,Jai (show k - 1 < d1.size by omega)⟩,Jk (b:=Jj d1[k - 1]!) (J6 (show k - 1 < d1.size by omega)) ?_⟩
      refine stp ?_
      refine J8 (JR rfl rfl (Jcb d1[k]! d1[k - 1]!) ⟨Rf,Rf,trivial⟩ (NoId.v _)) ?_
      refine stp ?_
      intro c hlt;cases c
      ·rw [Jr0 hij hlt.symm] at k2
       refine stp ?_
       exact back (k+1,nx2) ⟨Bd,k2⟩ (by first | omega | (dsimp only;omega)) (Jc _ _ rfl rfl Sf .slnil Bf trivial ⟨Rf,Rf,Rf,Lw,Rf,trivial⟩)
      ·rw [Jje (fun hh=> Bool.false_ne_true (hh.2.symm.trans hlt.symm))] at k2
       refine stp ?_
       exact ⟨(k,nx2),⟨k1,k2⟩,Jc _ _ rfl rfl Sf .slnil Bf trivial ⟨Rf,Rf,Rf,Rf,Rf,trivial⟩⟩
     ·have hd:decide (((k:Nat):Int) < ((b:Nat):Int))=false:=decide_eq_false Om
      rw [Jje (fun hh=> hij hh.1)] at k2
      refine stp ?_
      (refine JH 16 ?_ ?_ ?_ ?_;(· kernel_rfl);(· kernel_rfl);(· kernel_rfl))
      refine stp ?_
      (conv=> whnf)
      refine JaE hd ?_
      refine stp ?_
      exact ⟨(k,nx2),⟨k1,k2⟩,Jc _ _ rfl rfl Sf .slnil Bf trivial ⟨Rf,Rf,Rf,Rf,Rf,trivial⟩⟩
   ·rintro ⟨i,nx2⟩ ⟨k1,k2⟩
    dsimp only at k1 k2
    rw [← k2] at h4
    clear k2
    refine stp ?_
    intro c g2;cases c
    ·have g2:¬i=b:=fun h=> by
      subst h
      exact Bool.false_ne_true (g2.trans (beq_self_eq_true _))
     rw [if_neg g2] at h4
     refine stp ?_
     intro c g3;cases c
     ·have g3:=Jw g3
      replace g3:=(show ¬(IntKind.i64.wrap ((b:Int) - (a:Int)) < 50) from g3)
      rw [Ju Om Om] at g3
      rw [if_neg Om] at h4
      have hj1:IntKind.i64.wrap ((i:Int) - 1)=((i - 1:Nat):Int):=by rw [Ju Om Om];omega
      refine stp ?_
      refine Jcc 18 (fun i=> match i with | 15=> true | 17=> true | _=> false) (fun i=> match i with | 9=> true | 13=> true | _=> false) [0,1,2,3,4,5,6,7,8,10,11,12,9,13,14,15,16,17] (by kernel_rfl) (by kernel_rfl) ?_
      (conv=> whnf)
      refine ⟨⟨JF (i:=i - 1) (hj1),JG (i:=i - 1) (hj1) Om⟩, ?_⟩
      (conv=> whnf)
      refine ⟨⟨JF (i:=i) (rfl),JG (i:=i) (rfl) Om⟩, ?_⟩
      (conv=> whnf)
      refine ⟨Jj d1[i - 1]!,Jae (E:=Jj) (d:=d1) (tl:=tl) (j:=i - 1) rfl rfl rfl (JN (i:=i - 1) Jt (hj1)) rfl Ja2 rfl Om, ?_⟩
      (conv=> whnf)
      refine ⟨Jj d1[i]!,Jae (E:=Jj) (d:=d1) (tl:=tl) (j:=i) rfl rfl rfl (JN (i:=i) Jt (rfl)) rfl Ja2 rfl Om, ?_⟩
      (conv=> whnf)
      refine ⟨⟨JF (i:=i) (rfl),JG (i:=i) (rfl) Om⟩, ?_⟩
      (conv=> whnf)
      refine ⟨_,Jad (E:=Jj) (d:=d1) (tl:=tl) (j:=i) (z:=d1[i - 1]!) rfl rfl rfl rfl (JN (i:=i) Jt (rfl)) rfl rfl rfl rfl (by kernel_rfl) Jt Om,fun r0 h0 hr0=> ?_⟩
      subst hr0
      (conv=> whnf)
      refine ⟨⟨JF (i:=i - 1) (hj1),JG (i:=i - 1) (hj1) Om⟩, ?_⟩
      (conv=> whnf)
      refine ⟨_,Jad (E:=Jj) (d:=(d1).setIfInBounds (i) d1[i - 1]!) (tl:=tl) (j:=i - 1) (z:=d1[i]!) rfl rfl rfl rfl (JN (i:=i - 1) Jt (hj1)) rfl rfl rfl rfl (by kernel_rfl) Jt (by simp;omega),fun r0 h0 hr0=> ?_⟩
      subst hr0
      refine Jy ?_
      refine AW.le (E':=mk 133 [(0, .hs (0,s) 0 n cap),(1,int a),(2,int b),(7,int i),(8,int st)] ⟨Jm s (Go.Sort.swp d1 i (i - 1)) tl, [],nx2,1⟩) (Jc _ _ rfl rfl Sf .slnil Bf trivial ⟨Rf,Rf,Rf,Rf,Rf,trivial⟩) ?_
      have hd1:(Go.Sort.swp d1 i (i - 1)).size=n:=by rw [JbA];exact h1
      generalize Go.Sort.swp d1 i (i - 1)=d at h4 hd1⊢
      refine Jen (fun y:Array (Int)×Nat=> mk 133 [(0, .hs (0,s) 0 n cap),(1,int a),(2,int b),(7,int i),(8,int st)] ⟨Jm s y.1 tl, [],y.2,1⟩) (fun y=> y.1.size=n∧y.1=Go.Sort.fixDown Go.Sort.ltInt a i d) ?_ ?_
      ·refine stp ?_
       intro c g;cases c
       ·have g:=Jw g
        replace g:=(show ¬(IntKind.i64.wrap ((i:Int) - (a:Int))≥2) from g)
        rw [Ju Om Om] at g
        have hfx:Go.Sort.fixDown Go.Sort.ltInt a i d=d:=if_neg Om
        refine stp ?_
        exact ⟨(d,_),⟨hd1,hfx.symm⟩,Jc _ _ rfl rfl Sf .slnil Bf trivial ⟨Rf,Rf,Rf,Rf,Rf,trivial⟩⟩
       ·have g:=Jv g
        replace g:=(show IntKind.i64.wrap ((i:Int) - (a:Int))≥2 from g)
        rw [Ju Om Om] at g
        have hfx:Go.Sort.fixDown Go.Sort.ltInt a i d=Go.Sort.shiftDown Go.Sort.ltInt (i - 1) d:=if_pos Om
        rw [hfx]
        refine stp ?_
        refine Js (fun y:Array (Int)×Nat×Nat=> mk 133 [(0, .hs (0,s) 0 n cap),(1,int a),(2,int b),(7,int i),(8,int st),(9,int y.2.1)] ⟨Jm s y.1 tl, [],y.2.2,1⟩) (fun y=> (y.1.size=n∧y.2.1≤i - 1∧Go.Sort.shiftDown Go.Sort.ltInt y.2.1 y.1=Go.Sort.shiftDown Go.Sort.ltInt (i - 1) d)) (fun y=> y.2.1) ?_ ?_
        ·exact ⟨(d,i - 1,_),⟨hd1,Nat.le_refl _,rfl⟩,Jc _ _ rfl rfl Sf .slnil Bf trivial ⟨Rf,Rf,Rf,Rf,Rf,Jg (by rw [Ju Om Om];dsimp only;omega),trivial⟩⟩
        ·rintro ⟨e,j,nx5⟩ ⟨q1,q2,q4⟩
         dsimp only at q1 q2 q4
         refine stp ?_
         intro c g2;cases c
         ·have g2:=Jw g2
          try dsimp only at g2
          obtain rfl:j=0:=by omega
          refine stp ?_
          exact ⟨(e,nx5),⟨q1,q4⟩,Jc _ _ rfl rfl Sf .slnil Bf trivial ⟨Rf,Rf,Rf,Rf,Rf,trivial⟩⟩
         ·have g2:=Jv g2
          try dsimp only at g2
          have hj1:IntKind.i64.wrap ((j:Int) - 1)=((j - 1:Nat):Int):=by rw [Ju Om Om];omega
          refine stp ?_
          (refine JH 11 ?_ ?_ ?_ ?_;(· kernel_rfl);(· kernel_rfl);(· kernel_rfl))
          refine stp ?_
          refine ⟨⟨JF (i:=j) (rfl),JG (i:=j) (rfl) Om⟩,Jk (b:= .bp (0,s) (j)) (congrArg (AV.bp (0,s)) (JN (i:=j) Jt (rfl))) ?_⟩
          (conv=> whnf)
          refine ⟨⟨rfl,Jai (show j < e.size by omega)⟩,Jk (b:=Jj e[j]!) (J6 (show j < e.size by omega)) ?_⟩
          refine stp ?_
          refine ⟨⟨JF (i:=j - 1) (hj1),JG (i:=j - 1) (hj1) Om⟩,Jk (b:= .bp (0,s) (j - 1)) (congrArg (AV.bp (0,s)) (JN (i:=j - 1) Jt (hj1))) ?_⟩
          (conv=> whnf)
          refine ⟨⟨rfl,Jai (show j - 1 < e.size by omega)⟩,Jk (b:=Jj e[j - 1]!) (J6 (show j - 1 < e.size by omega)) ?_⟩
          refine stp ?_
          refine J8 (JR rfl rfl (Jcb e[j]! e[j - 1]!) ⟨Rf,Rf,trivial⟩ (NoId.v _)) ?_
          refine stp ?_
          intro c hlt;cases c
          ·rw [JxU hlt.symm] at q4
           refine stp ?_
           exact ⟨(e,nx5),⟨q1,q4⟩,Jc _ _ rfl rfl Sf .slnil Bf trivial ⟨Rf,Rf,Rf,Rf,Rf,trivial⟩⟩
          ·rw [Jzu Om hlt.symm] at q4
           refine stp ?_
           refine Jcc 18 (fun i=> match i with | 15=> true | 17=> true | _=> false) (fun i=> match i with | 9=> true | 13=> true | _=> false) [0,1,2,3,4,5,6,7,8,10,11,12,9,13,14,15,16,17] (by kernel_rfl) (by kernel_rfl) ?_
           (conv=> whnf)
           refine ⟨⟨JF (i:=j - 1) (hj1),JG (i:=j - 1) (hj1) Om⟩, ?_⟩
           (conv=> whnf)
           refine ⟨⟨JF (i:=j) (rfl),JG (i:=j) (rfl) Om⟩, ?_⟩
           (conv=> whnf)
           refine ⟨Jj e[j - 1]!,Jae (E:=Jj) (d:=e) (tl:=tl) (j:=j - 1) rfl rfl rfl (JN (i:=j - 1) Jt (hj1)) rfl Ja2 rfl Om, ?_⟩
           (conv=> whnf)
           refine ⟨Jj e[j]!,Jae (E:=Jj) (d:=e) (tl:=tl) (j:=j) rfl rfl rfl (JN (i:=j) Jt (rfl)) rfl Ja2 rfl Om, ?_⟩
           (conv=> whnf)
           refine ⟨⟨JF (i:=j) (rfl),JG (i:=j) (rfl) Om⟩, ?_⟩
           (conv=> whnf)
           refine ⟨_,Jad (E:=Jj) (d:=e) (tl:=tl) (j:=j) (z:=e[j - 1]!) rfl rfl rfl rfl (JN (i:=j) Jt (rfl)) rfl rfl rfl rfl (by kernel_rfl) Jt Om,fun r0 h0 hr0=> ?_⟩
           subst hr0
           (conv=> whnf)
           refine ⟨⟨JF (i:=j - 1) (hj1),JG (i:=j - 1) (hj1) Om⟩, ?_⟩
           (conv=> whnf)
           refine ⟨_,Jad (E:=Jj) (d:=(e).setIfInBounds (j) e[j - 1]!) (tl:=tl) (j:=j - 1) (z:=e[j]!) rfl rfl rfl rfl (JN (i:=j - 1) Jt (hj1)) rfl rfl rfl rfl (by kernel_rfl) Jt (by simp;omega),fun r0 h0 hr0=> ?_⟩
           subst hr0
           refine stp ?_
           exact back (Go.Sort.swp e j (j - 1),j - 1,nx5) ⟨by dsimp only;rw [JbA];exact q1,by first | omega | (dsimp only;omega),q4⟩ (by first | omega | (dsimp only;omega)) (Jc _ _ rfl rfl Sf .slnil Bf trivial ⟨Rf,Rf,Rf,Rf,Rf,Jg hj1,trivial⟩)
      rintro ⟨d2,nx3⟩ ⟨hd2,hf⟩
      dsimp only at hd2 hf
      rw [← hf] at h4
      clear hf
      refine Jy ?_
      refine Jxz (fun y:Array (Int)×Nat=> mk 133 [(0, .hs (0,s) 0 n cap),(1,int a),(2,int b),(7,int i),(8,int st)] ⟨Jm s y.1 tl, [],y.2,1⟩) (fun y=> y.1.size=n∧y.1=Go.Sort.fixUp Go.Sort.ltInt b i d2) ?_ ?_
      ·refine stp ?_
       intro c g;cases c
       ·have g:=Jw g
        replace g:=(show ¬(IntKind.i64.wrap ((b:Int) - (i:Int))≥2) from g)
        rw [Ju Om Om] at g
        have hfx:Go.Sort.fixUp Go.Sort.ltInt b i d2=d2:=if_neg Om
        refine stp ?_
        exact ⟨(d2,_),⟨hd2,hfx.symm⟩,Jc _ _ rfl rfl Sf .slnil Bf trivial ⟨Rf,Rf,Rf,Rf,Rf,trivial⟩⟩
       ·have g:=Jv g
        replace g:=(show IntKind.i64.wrap ((b:Int) - (i:Int))≥2 from g)
        rw [Ju Om Om] at g
        have hfx:Go.Sort.fixUp Go.Sort.ltInt b i d2=Go.Sort.shiftUp Go.Sort.ltInt b (i+1) d2:=if_pos Om
        rw [hfx]
        refine stp ?_
        refine Js (fun y:Array (Int)×Nat×Nat=> mk 133 [(0, .hs (0,s) 0 n cap),(1,int a),(2,int b),(7,int i),(8,int st),(10,int y.2.1)] ⟨Jm s y.1 tl, [],y.2.2,1⟩) (fun y=> (y.1.size=n∧i+1≤y.2.1∧y.2.1≤b+1∧Go.Sort.shiftUp Go.Sort.ltInt b y.2.1 y.1=Go.Sort.shiftUp Go.Sort.ltInt b (i+1) d2)) (fun y=> b+1 - y.2.1) ?_ ?_
        ·exact ⟨(d2,i+1,_),⟨hd2,Nat.le_refl _,by dsimp only;omega,rfl⟩,Jc _ _ rfl rfl Sf .slnil Bf trivial ⟨Rf,Rf,Rf,Rf,Rf,Jg (Jz Om),trivial⟩⟩
        ·rintro ⟨e,j,nx5⟩ ⟨q1,q2,q3,q4⟩
         dsimp only at q1 q2 q3 q4
         refine stp ?_
         intro c g2;cases c
         ·have g2:=Jw g2
          try dsimp only at g2
          rw [JpW (fun hh=> by omega)] at q4
          refine stp ?_
          exact ⟨(e,nx5),⟨q1,q4⟩,Jc _ _ rfl rfl Sf .slnil Bf trivial ⟨Rf,Rf,Rf,Rf,Rf,trivial⟩⟩
         ·have g2:=Jv g2
          try dsimp only at g2
          have hj1:IntKind.i64.wrap ((j:Int) - 1)=((j - 1:Nat):Int):=by rw [Ju Om Om];omega
          refine stp ?_
          (refine JH 11 ?_ ?_ ?_ ?_;(· kernel_rfl);(· kernel_rfl);(· kernel_rfl))
          refine stp ?_
          refine ⟨⟨JF (i:=j) (rfl),JG (i:=j) (rfl) Om⟩,Jk (b:= .bp (0,s) (j)) (congrArg (AV.bp (0,s)) (JN (i:=j) Jt (rfl))) ?_⟩
          (conv=> whnf)
          refine ⟨⟨rfl,Jai (show j < e.size by omega)⟩,Jk (b:=Jj e[j]!) (J6 (show j < e.size by omega)) ?_⟩
          refine stp ?_
          refine ⟨⟨JF (i:=j - 1) (hj1),JG (i:=j - 1) (hj1) Om⟩,Jk (b:= .bp (0,s) (j - 1)) (congrArg (AV.bp (0,s)) (JN (i:=j - 1) Jt (hj1))) ?_⟩
          (conv=> whnf)
          refine ⟨⟨rfl,Jai (show j - 1 < e.size by omega)⟩,Jk (b:=Jj e[j - 1]!) (J6 (show j - 1 < e.size by omega)) ?_⟩
          refine stp ?_
          refine J8 (JR rfl rfl (Jcb e[j]! e[j - 1]!) ⟨Rf,Rf,trivial⟩ (NoId.v _)) ?_
          refine stp ?_
          intro c hlt;cases c
          ·rw [JpW (fun hh=> Bool.false_ne_true (hlt.trans hh.2))] at q4
           refine stp ?_
           exact ⟨(e,nx5),⟨q1,q4⟩,Jc _ _ rfl rfl Sf .slnil Bf trivial ⟨Rf,Rf,Rf,Rf,Rf,trivial⟩⟩
          ·rw [Jzv Om hlt.symm] at q4
           refine stp ?_
           refine Jcc 18 (fun i=> match i with | 15=> true | 17=> true | _=> false) (fun i=> match i with | 9=> true | 13=> true | _=> false) [0,1,2,3,4,5,6,7,8,10,11,12,9,13,14,15,16,17] (by kernel_rfl) (by kernel_rfl) ?_
           (conv=> whnf)
           refine ⟨⟨JF (i:=j - 1) (hj1),JG (i:=j - 1) (hj1) Om⟩, ?_⟩
           (conv=> whnf)
           refine ⟨⟨JF (i:=j) (rfl),JG (i:=j) (rfl) Om⟩, ?_⟩
           (conv=> whnf)
           refine ⟨Jj e[j - 1]!,Jae (E:=Jj) (d:=e) (tl:=tl) (j:=j - 1) rfl rfl rfl (JN (i:=j - 1) Jt (hj1)) rfl Ja2 rfl Om, ?_⟩
           (conv=> whnf)
           refine ⟨Jj e[j]!,Jae (E:=Jj) (d:=e) (tl:=tl) (j:=j) rfl rfl rfl (JN (i:=j) Jt (rfl)) rfl Ja2 rfl Om, ?_⟩
           (conv=> whnf)
           refine ⟨⟨JF (i:=j) (rfl),JG (i:=j) (rfl) Om⟩, ?_⟩
           (conv=> whnf)
           refine ⟨_,Jad (E:=Jj) (d:=e) (tl:=tl) (j:=j) (z:=e[j - 1]!) rfl rfl rfl rfl (JN (i:=j) Jt (rfl)) rfl rfl rfl rfl (by kernel_rfl) Jt Om,fun r0 h0 hr0=> ?_⟩
           subst hr0
           (conv=> whnf)
           refine ⟨⟨JF (i:=j - 1) (hj1),JG (i:=j - 1) (hj1) Om⟩, ?_⟩
           (conv=> whnf)
           refine ⟨_,Jad (E:=Jj) (d:=(e).setIfInBounds (j) e[j - 1]!) (tl:=tl) (j:=j - 1) (z:=e[j]!) rfl rfl rfl rfl (JN (i:=j - 1) Jt (hj1)) rfl rfl rfl rfl (by kernel_rfl) Jt (by simp;omega),fun r0 h0 hr0=> ?_⟩
           subst hr0
           refine stp ?_
           exact back (Go.Sort.swp e j (j - 1),j+1,nx5) ⟨by dsimp only;rw [JbA];exact q1,by first | omega | (dsimp only;omega),by first | omega | (dsimp only;omega),q4⟩ (by first | omega | (dsimp only;omega)) (Jc _ _ rfl rfl Sf .slnil Bf trivial ⟨Rf,Rf,Rf,Rf,Rf,Lw,trivial⟩)
      rintro ⟨d3,nx4⟩ ⟨hd3,hf⟩
      dsimp only at hd3 hf
      rw [← hf] at h4
      refine stp ?_
      exact back (d3,(i,st+1),nx4) ⟨hd3,Bd,by first | omega | (dsimp only;omega),by dsimp only;rw [show 5 - (st+1)=m by omega];exact h4⟩ (by first | omega | (dsimp only;omega)) (Jc _ _ rfl rfl Sf .slnil Bf trivial ⟨Rf,Rf,Rf,Rf,Lw,trivial⟩)
     ·have g3:=Jv g3
      replace g3:=(show IntKind.i64.wrap ((b:Int) - (a:Int)) < 50 from g3)
      rw [Ju Om Om] at g3
      rw [if_pos Om] at h4
      subst h4
      refine stp ?_
      exact Jr rfl ⟨_,_,Rf,Jq (Jm s d1 tl) [] rfl Sf .slnil Bf Pf,_,1,rfl,rfl⟩
    ·have g2:i=b:=by
      have:=eq_of_beq g2.symm
      exact Int.ofNat_inj.1 this
     rw [if_pos g2] at h4
     subst h4
     refine stp ?_
     exact Jr rfl ⟨_,_,Rf,Jq (Jm s d1 tl) [] rfl Sf .slnil Bf Pf,_,1,rfl,rfl⟩
end Go.Proofs.W

namespace Go.Proofs.W
open Go.Vl
set_option maxRecDepth 100000
set_option maxHeartbeats 16000000 in
theorem JAv (tl:List AV) (n:Nat) (hsz:n≤1000000) (s cap:Nat):∀(M:Nat) (d0:Array (Int)) (a0 b0:Nat) (lim0:Int) (nx:Nat),b0 - a0≤M→d0.size=n→a0≤b0→b0≤n→Go.Sort.Below Go.Sort.ltInt a0 b0 d0→
 ECall Tryz.prog 151 [.hs (0,s) 0 n cap,int a0,int b0,int lim0] ⟨Jm s d0 tl, [],nx,1⟩ (fun r h'=> ∃d' nx' nn',Go.Sort.PermIn a0 b0 d0 d'∧Go.Sort.SortedIn Go.Sort.ltInt a0 b0 d'∧h'=⟨Jm s d' tl, [],nx',nn'⟩):=by
 intro M
 induction M using Nat.strongRecOn with
 | _ M ih=>
 intro d0 a0 b0 lim0 nx hM hn0 hab0 hb0 hB0
 refine ECall.wk (Jn Tryz.func151 rfl rfl ?_)
 refine stp ?_
 refine Js (fun y:Array (Int)×(Nat×Nat)×Int×(Bool×Bool)×Nat=> mk 134 [(0, .hs (0,s) 0 n cap),(1,int y.2.1.1),(2,int y.2.1.2),(3,int y.2.2.1),(8, .v (.bool y.2.2.2.1.1)),(9, .v (.bool y.2.2.2.1.2))] ⟨Jm s y.1 tl, [],y.2.2.2.2,1⟩) (fun y=> y.1.size=n∧(y.2.1.1≤y.2.1.2∧y.2.1.2≤n∧y.2.1.2 - y.2.1.1≤b0 - a0)∧Go.Sort.Below Go.Sort.ltInt y.2.1.1 y.2.1.2 y.1∧∀R,Go.Sort.PermIn y.2.1.1 y.2.1.2 y.1 R→Go.Sort.SortedIn Go.Sort.ltInt y.2.1.1 y.2.1.2 R→Go.Sort.PermIn a0 b0 d0 R∧Go.Sort.SortedIn Go.Sort.ltInt a0 b0 R) (fun y=> y.2.1.2 - y.2.1.1) ?_ ?_
 ·exact ⟨(d0,(a0,b0),lim0,(true,true),_),⟨hn0,⟨hab0,hb0,Nat.le_refl _⟩,hB0,fun R h1 h2=> ⟨h1,h2⟩⟩,Jc _ _ rfl rfl Sf .slnil Bf trivial ⟨Rf,Rf,Rf,Rf,Rf,Rf,trivial⟩⟩
 ·rintro ⟨d,⟨a,b⟩,lim,⟨wb,wp⟩,nx1⟩ ⟨h1,⟨hab,hb,hle⟩,hB,hK⟩
  dsimp only at h1 hab hb hle hB hK
  have el:IntKind.i64.wrap ((b:Int) - (a:Int))=((b - a:Nat):Int):=Jdj Om Om
  refine Jy ?_
  refine JQ ?_
  refine Jy ?_
  refine AW.le (E':=mk 134 [(0, .hs (0,s) 0 n cap),(1,int a),(2,int b),(3,int lim),(8, .v (.bool wb)),(9, .v (.bool wp)),(10,int (b - a:Nat))] ⟨Jm s d tl, [],nx1,1⟩) (Jc _ _ rfl rfl Sf .slnil Bf trivial ⟨Rf,Rf,Rf,Rf,Rf,Rf,Jg el,trivial⟩) ?_
  clear el
  refine stp ?_
  intro c g12;cases c
  ·have g12:=Jw g12
   try dsimp only at g12
   refine stp ?_
   intro c0 hc0
   cases c0
   ·refine Jy ?_
    refine Jen (fun y:Array (Int)×Int×Nat=> mk 134 [(0, .hs (0,s) 0 n cap),(1,int a),(2,int b),(3,int y.2.1),(8, .v (.bool wb)),(9, .v (.bool wp)),(10,int (b - a:Nat))] ⟨Jm s y.1 tl, [],y.2.2,1⟩) (fun y=> Go.Sort.PermIn a b d y.1) ?_ ?_
    ·cases wb
     ·refine stp ?_
      refine Jf (xs:= [.hs (0,s) 0 n cap,int a,int b]) [] [] 1 rfl rfl rfl rfl ⟨Rf,Rf,Rf,trivial⟩ (Jw3 d tl n a b h1 hab hb hsz s cap _) Bf Pf rfl fun r h' hq=> ?_
      obtain ⟨d1,nx2,nn2,hp,rfl⟩:=hq
      refine stp ?_
      exact ⟨(d1,_,nx2),hp,Jc _ _ rfl rfl Sf .slnil Bf trivial ⟨Rf,Rf,Rf,Rf,Rf,Rf,Rf,trivial⟩⟩
     ·refine stp ?_
      exact ⟨(d,lim,nx1),Go.Sort.permIn_refl _ _ _,Jc _ _ rfl rfl Sf .slnil Bf trivial ⟨Rf,Rf,Rf,Rf,Rf,Rf,Rf,trivial⟩⟩
    ·rintro ⟨d1,lim1,nx2⟩ hp1
     dsimp only at hp1
     have s1:d1.size=n:=hp1.1.trans h1
     refine Jy ?_
     refine JQ ?_
     refine Jy ?_
     refine Jf (xs:= [.hs (0,s) 0 n cap,int a,int b]) [] [] 1 rfl rfl rfl rfl ⟨Rf,Rf,Rf,trivial⟩ (Jw2 d1 tl n a b s1 Om hb hsz s cap _) Bf Pf rfl fun r h' hq=> ?_
     obtain ⟨p,hint,nx3,nn3,hpa,hpb,rfl,rfl⟩:=hq
     refine Jy ?_
     refine AW.le (E':=mk 134 [(0, .hs (0,s) 0 n cap),(1,int a),(2,int b),(3,int lim1),(8, .v (.bool wb)),(9, .v (.bool wp)),(10,int (b - a:Nat)),(11,int p),(12,int hint)] ⟨Jm s d1 tl, [],nx3,1⟩) (Jc _ _ rfl rfl Sf .slnil Bf trivial ⟨Rf,Rf,Rf,Rf,Rf,Rf,Rf,Rf,Rf,trivial⟩) ?_
     refine Jen (fun y:Array (Int)×(Nat×Int)×Nat=> mk 134 [(0, .hs (0,s) 0 n cap),(1,int a),(2,int b),(3,int lim1),(8, .v (.bool wb)),(9, .v (.bool wp)),(10,int (b - a:Nat)),(11,int y.2.1.1),(12,int y.2.1.2)] ⟨Jm s y.1 tl, [],y.2.2,1⟩) (fun y=> Go.Sort.PermIn a b d y.1∧a≤y.2.1.1∧y.2.1.1 < b) ?_ ?_
     ·refine stp ?_
      intro c1 hc1
      cases c1
      ·refine stp ?_
       exact ⟨(d1,(p,hint),nx3),⟨hp1,hpa,hpb⟩,Jc _ _ rfl rfl Sf .slnil Bf trivial ⟨Rf,Rf,Rf,Rf,Rf,Rf,Rf,Rf,Rf,trivial⟩⟩
      ·refine stp ?_
       refine Jf (xs:= [.hs (0,s) 0 n cap,int a,int b]) [] [] 1 rfl rfl rfl rfl ⟨Rf,Rf,Rf,trivial⟩ (JAu d1 tl n a b s1 Om hb hsz s cap _) Bf Pf rfl fun r h' hq=> ?_
       obtain ⟨nx4,nn4,rfl⟩:=hq
       refine stp ?_
       exact ⟨(Go.Sort.reverseRange d1 a b,(b - 1 - (p - a),1),nx4),⟨Go.Sort.permIn_trans _ _ _ a b hp1 (Go.Sort.reverseRange_holds d1 a b hab Om),by dsimp only;omega,by dsimp only;omega⟩,Jc _ _ rfl rfl Sf .slnil Bf trivial ⟨Rf,Rf,Rf,Rf,Rf,Rf,Rf,Jg (by rw [Ju (n:=(b:Int) - 1) Om Om,Ju (n:=(p:Int) - (a:Int)) Om Om,Ju Om Om];dsimp only;omega),Rf,trivial⟩⟩
     ·rintro ⟨d2,⟨p,hint⟩,nx4⟩ ⟨hp2,hpa,hpb⟩
      clear hp1 s1
      clear d1
      dsimp only at hp2 hpa hpb
      have s2:d2.size=n:=hp2.1.trans h1
      have B2:Go.Sort.Below Go.Sort.ltInt a b d2:=hB.perm Om hp2
      have hpi:=(Go.Sort.partialInsertionSort_holds:Go.Sort.partialInsertionSort_stmt Go.Sort.ltInt) Go.Sort.swo_ltInt d2 a b Om Om B2
      refine Jy ?_
      refine Jen (fun y:Array (Int)×Nat=> mk 134 [(0, .hs (0,s) 0 n cap),(1,int a),(2,int b),(3,int lim1),(8, .v (.bool wb)),(9, .v (.bool wp)),(10,int (b - a:Nat)),(11,int p)] ⟨Jm s y.1 tl, [],y.2,1⟩) (fun y=> Go.Sort.PermIn a b d y.1) ?_ ?_
      ·cases wb
       ·refine stp ?_
        exact ⟨(d2,nx4),hp2,Jc _ _ rfl rfl Sf .slnil Bf trivial ⟨Rf,Rf,Rf,Rf,Rf,Rf,Rf,Rf,trivial⟩⟩
       ·cases wp
        ·refine stp ?_
         exact ⟨(d2,nx4),hp2,Jc _ _ rfl rfl Sf .slnil Bf trivial ⟨Rf,Rf,Rf,Rf,Rf,Rf,Rf,Rf,trivial⟩⟩
        ·refine stp ?_
         intro c2 hc2
         cases c2
         ·refine stp ?_
          exact ⟨(d2,nx4),hp2,Jc _ _ rfl rfl Sf .slnil Bf trivial ⟨Rf,Rf,Rf,Rf,Rf,Rf,Rf,Rf,trivial⟩⟩
         ·refine stp ?_
          refine Jf (xs:= [.hs (0,s) 0 n cap,int a,int b]) [] [] 1 rfl rfl rfl rfl ⟨Rf,Rf,Rf,trivial⟩ (JyM d2 tl n a b s2 Om hb hsz s cap _) Bf Pf rfl fun r h' hq=> ?_
          obtain ⟨nx5,nn5,rfl,rfl⟩:=hq
          obtain ⟨q1,q2⟩:=hpi
          generalize Go.Sort.partialInsertionSort Go.Sort.ltInt d2 a b=Pt at q1 q2⊢
          obtain ⟨d3,fl⟩:=Pt
          dsimp only at q1 q2
          cases fl
          ·refine stp ?_
           exact ⟨(d3,nx5),Go.Sort.permIn_trans _ _ _ a b hp2 q1,Jc _ _ rfl rfl Sf .slnil Bf trivial ⟨Rf,Rf,Rf,Rf,Rf,Rf,Rf,Rf,trivial⟩⟩
          ·obtain ⟨k1,k2⟩:=hK d3 (Go.Sort.permIn_trans _ _ _ a b hp2 q1) (q2 rfl)
           refine stp ?_
           exact Jr rfl ⟨_,_,Rf,Jq (Jm s d3 tl) [] rfl Sf .slnil Bf Pf,d3,_,1,k1,k2,rfl⟩
      ·rintro ⟨d3,nx5⟩ hp3
       clear hpi B2 s2 hp2
       clear d2
       dsimp only at hp3
       have s3:d3.size=n:=hp3.1.trans h1
       have B3:Go.Sort.Below Go.Sort.ltInt a b d3:=hB.perm Om hp3
       have hK3:∀R,Go.Sort.PermIn a b d3 R→Go.Sort.SortedIn Go.Sort.ltInt a b R→Go.Sort.PermIn a0 b0 d0 R∧Go.Sort.SortedIn Go.Sort.ltInt a0 b0 R:=fun R k1 k2=> hK R (Go.Sort.permIn_trans _ _ _ a b hp3 k1) k2
       clear hK hB hp3
       refine Jy ?_
       refine Jen (fun y:Nat=> mk 134 [(0, .hs (0,s) 0 n cap),(1,int a),(2,int b),(3,int lim1),(8, .v (.bool wb)),(9, .v (.bool wp)),(10,int (b - a:Nat)),(11,int p)] ⟨Jm s d3 tl, [],y,1⟩) (fun y=> True) ?_ ?_
       ·by_cases ha:0 < a
        ·have hd:decide (((a:Nat):Int) > 0)=true:=decide_eq_true Om
         have ea:IntKind.i64.wrap ((a:Int) - 1)=((a - 1:Nat):Int):=by rw [Ju Om Om];omega
         (refine JH 15 ?_ ?_ ?_ ?_;(· kernel_rfl);(· kernel_rfl);(· kernel_rfl))
         refine stp ?_
         (conv=> whnf)
         refine JaE hd ?_
         refine stp ?_
         refine ⟨⟨JF (i:=a - 1) (ea),JG (i:=a - 1) (ea) Om⟩,Jk (b:= .bp (0,s) (a - 1)) (congrArg (AV.bp (0,s)) (JN (i:=a - 1) Jt (ea))) ?_⟩
         (conv=> whnf)
         refine ⟨⟨rfl,Jai (show a - 1 < d3.size by omega)⟩,Jk (b:=Jj d3[a - 1]!) (J6 (show a - 1 < d3.size by omega)) ?_⟩
         refine stp ?_
         refine ⟨⟨JF (i:=p) (rfl),JG (i:=p) (rfl) Om⟩,Jk (b:= .bp (0,s) (p)) (congrArg (AV.bp (0,s)) (JN (i:=p) Jt (rfl))) ?_⟩
         (conv=> whnf)
         refine ⟨⟨rfl,Jai (show p < d3.size by omega)⟩,Jk (b:=Jj d3[p]!) (J6 (show p < d3.size by omega)) ?_⟩
         refine stp ?_
         refine J8 (JR rfl rfl (Jcb d3[a - 1]! d3[p]!) ⟨Rf,Rf,trivial⟩ (NoId.v _)) ?_
         refine stp ?_
         intro c hlt;cases c
         ·refine stp ?_
          obtain ⟨m1,m2,m3,m4,m5⟩:=Go.Sort.round_eq (lt:=Go.Sort.ltInt) (mid:=(Go.Sort.partitionEqual Go.Sort.ltInt d3 a b p).1) (d4:=(Go.Sort.partitionEqual Go.Sort.ltInt d3 a b p).2) Go.Sort.swo_ltInt (by first | exact Go.Sort.partitionEqual_holds _ | exact Go.Sort.partitionEqual_holds) ha hpa hpb Om B3 hlt.symm (rfl:Go.Sort.partitionEqual Go.Sort.ltInt d3 a b p=((Go.Sort.partitionEqual Go.Sort.ltInt d3 a b p).1,(Go.Sort.partitionEqual Go.Sort.ltInt d3 a b p).2))
          refine Jf (xs:= [.hs (0,s) 0 n cap,int a,int b,int p]) [] [] 1 rfl rfl rfl rfl ⟨Rf,Rf,Rf,Rf,trivial⟩ (JuU d3 tl n a b p s3 hpa hpb hb hsz s cap _) Bf Pf rfl fun r h' hq=> ?_
          obtain ⟨nx6,nn6,rfl,rfl⟩:=hq
          generalize (Go.Sort.partitionEqual Go.Sort.ltInt d3 a b p).1=mid at m1 m2 m4 m5⊢
          generalize (Go.Sort.partitionEqual Go.Sort.ltInt d3 a b p).2=d4 at m3 m4 m5⊢
          refine stp ?_
          exact back (d4,(mid,b),lim1,(wb,wp),nx6) ⟨m3.trans s3,⟨m2,hb,by dsimp only;omega⟩,m4,fun R k1 k2=> hK3 R (m5 R k1 k2).1 (m5 R k1 k2).2⟩ Dm (Jc _ _ rfl rfl Sf .slnil Bf trivial ⟨Rf,Rf,Rf,Rf,Rf,Rf,trivial⟩)
         ·refine stp ?_
          exact ⟨nx5,trivial,Jc _ _ rfl rfl Sf .slnil Bf trivial ⟨Rf,Rf,Rf,Rf,Rf,Rf,Rf,Rf,trivial⟩⟩
        ·have hd:decide (((a:Nat):Int) > 0)=false:=decide_eq_false Om
         (refine JH 15 ?_ ?_ ?_ ?_;(· kernel_rfl);(· kernel_rfl);(· kernel_rfl))
         refine stp ?_
         (conv=> whnf)
         refine JaE hd ?_
         refine stp ?_
         exact ⟨nx5,trivial,Jc _ _ rfl rfl Sf .slnil Bf trivial ⟨Rf,Rf,Rf,Rf,Rf,Rf,Rf,Rf,trivial⟩⟩
       ·intro nx6 _
        refine Jy ?_
        refine JQ ?_
        refine Jy ?_
        obtain ⟨m1,m2,m3,m4,m5,m6,m7⟩:=Go.Sort.round_part (lt:=Go.Sort.ltInt) (mid:=(Go.Sort.partition Go.Sort.ltInt d3 a b p).1) (ap:=(Go.Sort.partition Go.Sort.ltInt d3 a b p).2.1) (d4:=(Go.Sort.partition Go.Sort.ltInt d3 a b p).2.2) Go.Sort.swo_ltInt (by first | exact Go.Sort.partition_holds _ | exact Go.Sort.partition_holds) hpa hpb Om B3 (rfl:Go.Sort.partition Go.Sort.ltInt d3 a b p=((Go.Sort.partition Go.Sort.ltInt d3 a b p).1,(Go.Sort.partition Go.Sort.ltInt d3 a b p).2.1,(Go.Sort.partition Go.Sort.ltInt d3 a b p).2.2))
        refine Jf (xs:= [.hs (0,s) 0 n cap,int a,int b,int p]) [] [] 1 rfl rfl rfl rfl ⟨Rf,Rf,Rf,Rf,trivial⟩ (JyL d3 tl n a b p s3 hpa hpb hb hsz s cap _) Bf Pf rfl fun r h' hq=> ?_
        obtain ⟨fl,nx7,nn7,rfl,rfl⟩:=hq
        generalize (Go.Sort.partition Go.Sort.ltInt d3 a b p).1=mid at m1 m2 m4 m5 m6 m7⊢
        generalize (Go.Sort.partition Go.Sort.ltInt d3 a b p).2.2=d4 at m3 m4 m5 m6 m7⊢
        have s4:d4.size=n:=m3.trans s3
        have e1:IntKind.i64.wrap ((mid:Int) - (a:Int))=((mid - a:Nat):Int):=Jdj Om Om
        have e2:IntKind.i64.wrap ((b:Int) - (mid:Int))=((b - mid:Nat):Int):=Jdj Om Om
        refine Jy ?_
        intro f1 hf1
        (refine Jy ?_;refine JQ ?_;refine Jy ?_;refine JQ ?_;refine Jy ?_)
        refine AW.le (E':=mk 134 [(0, .hs (0,s) 0 n cap),(1,int a),(2,int b),(3,int lim1),(9, .v (.bool f1)),(10,int (b - a:Nat)),(14,int mid),(16,int (mid - a:Nat)),(17,int (b - mid:Nat))] ⟨Jm s d4 tl, [],nx7,1⟩) (Jc _ _ rfl rfl Sf .slnil Bf trivial ⟨Rf,Rf,Rf,Rf,Rf,Rf,Rf,Jg e1,Jg e2,trivial⟩) ?_
        refine stp ?_
        intro c g;cases c
        ·refine stp ?_
         intro wb2 hwb2
         refine stp ?_
         refine Jf (xs:= [.hs (0,s) 0 n cap,int (mid+1:Nat),int b,int lim1]) [] [] 1 rfl rfl rfl rfl ⟨Rf,Jg (Jz Om),Rf,Rf,trivial⟩ (ih (b - (mid+1)) Om d4 (mid+1) b lim1 _ (Nat.le_refl _) s4 Om hb m5) Bf Pf rfl fun r h' hq=> ?_
         obtain ⟨d5,nx8,nn8,q1,q2,rfl⟩:=hq
         obtain ⟨m8,m9⟩:=m7 d5 q1 q2
         refine stp ?_
         exact back (d5,(a,mid),lim1,(wb2,f1),nx8) ⟨q1.1.trans s4,⟨m1,by dsimp only;omega,by dsimp only;omega⟩,m8,fun R k1 k2=> hK3 R (m9 R k1 k2).1 (m9 R k1 k2).2⟩ Dm (Jc _ _ rfl rfl Sf .slnil Bf trivial ⟨Rf,Rf,Rf,Rf,Rf,Rf,trivial⟩)
        ·refine stp ?_
         intro wb2 hwb2
         refine stp ?_
         refine Jf (xs:= [.hs (0,s) 0 n cap,int a,int mid,int lim1]) [] [] 1 rfl rfl rfl rfl ⟨Rf,Rf,Rf,Rf,trivial⟩ (ih (mid - a) Om d4 a mid lim1 _ (Nat.le_refl _) s4 m1 Om m4) Bf Pf rfl fun r h' hq=> ?_
         obtain ⟨d5,nx8,nn8,q1,q2,rfl⟩:=hq
         obtain ⟨m8,m9⟩:=m6 d5 q1 q2
         refine stp ?_
         exact back (d5,(mid+1,b),lim1,(wb2,f1),nx8) ⟨q1.1.trans s4,⟨by dsimp only;omega,hb,by dsimp only;omega⟩,m8,fun R k1 k2=> hK3 R (m9 R k1 k2).1 (m9 R k1 k2).2⟩ Dm (Jc _ _ rfl rfl Sf .slnil Bf trivial ⟨Rf,Lw,Rf,Rf,Rf,Rf,trivial⟩)
   ·obtain ⟨q1,q2⟩:=(Go.Sort.heapSort_holds:Go.Sort.heapSort_stmt Go.Sort.ltInt) Go.Sort.swo_ltInt d a b hab Om
    obtain ⟨k1,k2⟩:=hK _ q1 q2
    refine stp ?_
    refine Jf (xs:= [.hs (0,s) 0 n cap,int a,int b]) [] [] 1 rfl rfl rfl rfl ⟨Rf,Rf,Rf,trivial⟩ (JyK d tl n a b h1 hab hb hsz s cap _) Bf Pf rfl fun r h' hq=> ?_
    obtain ⟨nx2,nn2,rfl⟩:=hq
    refine stp ?_
    exact Jr rfl ⟨_,_,Rf,Jq (Jm s (Go.Sort.heapSort Go.Sort.ltInt d a b) tl) [] rfl Sf .slnil Bf Pf,(Go.Sort.heapSort Go.Sort.ltInt d a b),_,1,k1,k2,rfl⟩
  ·obtain ⟨q1,q2⟩:=(Go.Sort.insertionSort_holds:Go.Sort.insertionSort_stmt Go.Sort.ltInt) Go.Sort.swo_ltInt d a b hab Om
   obtain ⟨k1,k2⟩:=hK _ q1 q2
   refine stp ?_
   refine Jf (xs:= [.hs (0,s) 0 n cap,int a,int b]) [] [] 1 rfl rfl rfl rfl ⟨Rf,Rf,Rf,trivial⟩ (JAt d tl n a b h1 hab hb hsz s cap _) Bf Pf rfl fun r h' hq=> ?_
   obtain ⟨nx2,nn2,rfl⟩:=hq
   refine stp ?_
   exact Jr rfl ⟨_,_,Rf,Jq (Jm s (Go.Sort.insertionSort Go.Sort.ltInt d a b) tl) [] rfl Sf .slnil Bf Pf,(Go.Sort.insertionSort Go.Sort.ltInt d a b),_,1,k1,k2,rfl⟩
end Go.Proofs.W

namespace Go.Proofs.W
open Go.Vl
set_option maxRecDepth 100000
theorem Jw4 (d0:Array (Int)) (tl:List AV) (n:Nat) (hn:d0.size=n) (hsz:n≤1000000) (s cap nx:Nat):
 ECall Tryz.prog 84 [.hs (0,s) 0 n cap] ⟨Jm s d0 tl, [],nx,1⟩ (fun r h'=> ∃d' nx' nn',Go.Sort.PermIn 0 n d0 d'∧Go.Sort.SortedIn Go.Sort.ltInt 0 n d'∧h'=⟨Jm s d' tl, [],nx',nn'⟩):=by
 refine ECall.wk (Jn Tryz.func84 rfl rfl ?_)
 refine stp ?_
 refine Ja rfl rfl (Jfb n Om) ⟨AVle.of_eq (congrArg (fun z=> AV.v (.int .u64 z)) (IntWalk.u64_in _ Om)),trivial⟩ fun nx1=> ?_
 refine stp ?_
 refine Jf (xs:= [.hs (0,s) 0 n cap,int (0:Nat),int n,int (Lib.bitLen n)]) [] [] 1 rfl rfl rfl rfl ⟨Rf,Rf,Rf,Rf,trivial⟩ (JAv tl n hsz s cap n d0 0 n _ _ Om hn (Nat.zero_le _) (Nat.le_refl _) (.inl rfl)) Bf Pf rfl fun r h' hq=> ?_
 obtain ⟨d',nx2,nn2,h1,h2,rfl⟩:=hq
 refine stp ?_
 exact Jr rfl ⟨_,_,Rf,Jq (Jm s d' tl) [] rfl Sf .slnil Bf Pf,d',nx2,1,h1,h2,rfl⟩
theorem Jw5 (F:Nat→AV):Tells Tryz.prog 84 [.os 1 0 F none] .any:=by
 have hi:Tells Tryz.prog 199 [.os 1 0 F none,int (0:Nat),int (0:Nat)] .any:=by
  refine Jd Tryz.func199 rfl rfl fun nx=> ?_
  refine stp ?_
  refine Js (fun y:Nat=> mk 49 [(0, .os 1 0 F none),(1,int (0:Nat)),(2,int (0:Nat)),(6,int (1:Nat))] ⟨[], [],y,0⟩) (fun _=> True) (fun _=> 0) ?_ ?_
  ·exact ⟨nx,trivial,JeP rfl rfl Sf Sf ⟨Rf,Rf,Rf,Rf,trivial⟩⟩
  ·intro nx1 _
   refine stp ?_
   exact Jb rfl (AVle.any _)
 have hp:∀lim:Int,Tells Tryz.prog 151 [.os 1 0 F none,int (0:Nat),int (0:Nat),int lim] .any:=fun lim=> by
  refine Jd Tryz.func151 rfl rfl fun nx=> ?_
  refine stp ?_
  refine Js (fun y:Nat=> mk 134 [(0, .os 1 0 F none),(1,int (0:Nat)),(2,int (0:Nat)),(3,int lim)] ⟨[], [],y,0⟩) (fun _=> True) (fun _=> 0) ?_ ?_
  ·exact ⟨nx,trivial,JeP rfl rfl Sf Sf ⟨Rf,Rf,Rf,Rf,trivial⟩⟩
  ·intro nx1 _
   refine stp ?_
   refine Ja rfl rfl hi ⟨Rf,Rf,Rf,trivial⟩ fun nx2=> ?_
   refine stp ?_
   exact Jb rfl (AVle.any _)
 refine Jd Tryz.func84 rfl rfl fun nx=> ?_
 refine stp ?_
 refine Ja rfl rfl (Jfb 0 Om) ⟨Rf,trivial⟩ fun nx1=> ?_
 refine stp ?_
 refine Ja rfl rfl (hp _) ⟨Rf,Rf,Rf,Rf,trivial⟩ fun nx2=> ?_
 refine stp ?_
 exact Jb rfl (AVle.any _)
def Jtv:Value→Int
 | .int _ z=> z
 | _=> 0
end Go.Proofs.W

namespace Go.Proofs.W
open Go.Vl
set_option maxRecDepth 100000
theorem Jsu (es:List (Value×AV)) (zs:List (Int)) (hz:es.map (·.1)=zs.map (Value.int .u32)) (hl:es.length≤1000000):
 Tells Tryz.prog 40 [.fn (.func 85) [] [.rp [.fm es]]] (JK 1 Jj 0 (JV Go.Sort.ltInt zs)):=by
 have hky:∀p∈es,∃z,p.1=Value.int .u32 z:=fun p hp=> by
  have:p.1∈zs.map (Value.int .u32):=hz ▸ List.mem_map_of_mem hp
  obtain ⟨z,_,h⟩:=List.mem_map.1 this
  exact ⟨z,h.symm⟩
 refine Jd Tryz.func40 rfl rfl fun nx=> ?_
 refine stp ?_
 refine JbN rfl rfl (Jrg es hl hky nx) fun r h' hq=> ?_
 obtain ⟨n,f,⟨xs,hxp,hxn,hxf⟩,hq⟩:=hq
 obtain ⟨ys,rfl⟩:∃ys:List (Int),xs=ys.map (Value.int .u32):=by
  have hall:∀v∈xs,∃z,v=Value.int .u32 z:=fun v hv=> by
   have hv2:=hxp.mem_iff.1 hv
   rw [hz] at hv2
   obtain ⟨z,_,h⟩:=List.mem_map.1 hv2
   exact ⟨z,h.symm⟩
  clear hxp hxn hxf hq
  induction xs with
  | nil=> exact ⟨[],rfl⟩
  | cons x xs ih=>
    obtain ⟨z,rfl⟩:=hall x (by simp)
    obtain ⟨ys,rfl⟩:=ih fun v hv=> hall v (by simp [hv])
    exact ⟨z::ys,rfl⟩
 have hperm:ys.Perm zs:=by
  rw [hz] at hxp
  have h2:=hxp.map Jtv
  rwa [List.map_map,List.map_map,show (Jtv∘(Value.int .u32))=id from rfl,List.map_id,List.map_id] at h2
 have hsz:n≤1000000:=by
  have:=hxp.length_eq
  simp at this
  rw [hxn];simp;omega
 rcases hq with ⟨rfl,hb,hp,rfl⟩ | ⟨s,cap,more,nx',nn',hcap,hmore,rfl,rfl⟩
 ·have hys:ys= []:=by cases ys with | nil=> rfl | cons y ys=> simp at hxn
  subst hys
  have hzs:zs= []:=hperm.symm.eq_nil
  subst hzs
  rw [show JV Go.Sort.ltInt ([]:List (Int))= [] from List.eq_nil_of_length_eq_zero JaK]
  obtain ⟨bx,pm,nxx,nnn⟩:=h'
  dsimp only at hb hp
  subst hb;subst hp
  refine Named.same ?_
  refine stp ?_
  refine Ja rfl rfl (Jw5 f) ⟨Rf,trivial⟩ fun nx2=> ?_
  refine stp ?_
  exact Jb rfl AVle.os_sl0
 ·refine Named.same ?_
  have hcells:JC n f=ys.toArray.toList.map Jj:=by
   have key:∀m,m≤n→JC m f=(ys.take m).map Jj:=by
    intro m
    induction m with
    | zero=> intro _;rfl
    | succ m ih=>
      intro hm
      have hm':m < ys.length:=by simp at hxn;omega
      have e:JC (m+1) f=JC m f++(f m).cells:=by unfold JC;rw [List.range_succ,List.flatMap_append];simp
      rw [e,ih Om,hxf m Om,List.take_add_one,List.map_append]
      simp [JbX,List.getD,hm',AV.cells,Jj]
   rw [key n (Nat.le_refl _),List.take_of_length_le (by simp at hxn;omega)]
  have hnn:ys.toArray.size=n:=by simp at hxn;simp [hxn]
  rw [hcells]
  refine Jy ?_
  refine AW.le (E':=mk 9 [(3, .hs (0,s) 0 n cap)] ⟨Jm s ys.toArray (List.replicate more .any), [],nx',1⟩) (Jc _ _ rfl rfl Sf .slnil Bf trivial ⟨Rf,trivial⟩) ?_
  refine stp ?_
  refine Jf (xs:= [.hs (0,s) 0 n cap]) [] [] 1 rfl rfl rfl rfl ⟨Rf,trivial⟩ (Jw4 ys.toArray _ n hnn hsz s cap _) Bf Pf rfl fun r h' hq=> ?_
  obtain ⟨d',nx2,nn2,h1,h2,rfl⟩:=hq
  have hd:d'.toList=JV Go.Sort.ltInt zs:=by
   subst hnn
   rw [Go.Sort.sorted_unique_holds (by first | exact Go.Sort.swo_ltInt | exact Go.Sort.ltInt) (by first | exact Jhb | exact Go.Sort.swo_ltInt) ys.toArray d' h1 h2]
   exact Jeq Go.Sort.swo_ltInt Jhb hperm
  have hdn:d'.size=n:=h1.1.trans hnn
  have hln:(JV Go.Sort.ltInt zs).length=n:=by rw [← hd];simpa using hdn
  refine Jy ?_
  refine AW.le (Jcq (L:= [(3,JK 1 Jj 0 (JV Go.Sort.ltInt zs))]) (bx:= []) (pm:= []) (nn:=1) [((0,s), .c (JaS Jj d' (List.replicate more .any)))] rfl rfl Sf .slnil ⟨?_,trivial⟩) ?_
  ·unfold JK
   rw [hln]
   refine Frz.hs1 (.head _) hcap (by rw [Jfi];omega) (fun k _=> rfl) (fun k hk=> ?_)
   unfold JaS
   rw [List.getElem?_append_left (by simpa [hdn] using hk),List.getElem?_map,← hd]
   have:k < d'.size:=by omega
   simp [List.getD,this]
  ·refine stp ?_
   exact Jb rfl Rf
end Go.Proofs.W

namespace Go.Proofs.W
open Go.Vl
set_option maxRecDepth 100000
def abiN:List Nat:= [0,2,3,4]
def tokI:List Itm:= [⟨0,0x15,0xc000003e,1,0⟩,⟨0,0x15,0x40000003,2,0⟩,⟨0,0x15,0xc00000b7,3,0⟩,⟨0,0x15,0xc00000f3,4,0⟩]
def frM (k:Nat):Mk:=⟨⟨0,0x20,4,0,0⟩::tokI.take k,k, []⟩
def tkE (k:Nat):List (Value×AV):= [(Value.int .i64 0,int 1),(Value.int .i64 2,int 2),(Value.int .i64 3,int 3),(Value.int .i64 4,int 4)].take k
theorem Jw6 {k:Nat} (h:k≤4):JaR (.int .i64) (tkE k)=true:=by
 rcases (by omega:k=0∨k=1∨k=2∨k=3∨k=4) with rfl | rfl | rfl | rfl | rfl <;> rfl
theorem JBy {i:Nat} (h:i < 4):Jct (Value.int .i64 (abiN.getD i 0:Nat)) (int (i+1:Nat)) (tkE i)=tkE (i+1):=by
 rcases (by omega:i=0∨i=1∨i=2∨i=3) with rfl | rfl | rfl | rfl <;> rfl
theorem Jw7 {i k:Nat} (h:i < k) (hk:k≤4):Ja0 (Value.int .i64 (abiN.getD i 0:Nat)) (tkE k)=some (int (i+1:Nat)):=by
 rcases (by omega:k=1∨k=2∨k=3∨k=4) with rfl | rfl | rfl | rfl <;> rcases (by omega:i=0∨i=1∨i=2∨i=3) with rfl | rfl | rfl | rfl <;> first | rfl | (exfalso;omega)
theorem JAw {i:Nat} (h:i < 4):JD (Jx (frM i)) [⟨0,0x15,(infL.getD (abiN.getD i 0) JbQ).token,i+1,0⟩]=frM (i+1):=by
 rcases (by omega:i=0∨i=1∨i=2∨i=3) with rfl | rfl | rfl | rfl <;> rfl
theorem Jnd {i:Nat} (h:i≤4):(frM i).fits:=⟨by unfold frM tokI;simp;omega,by show i≤_;omega⟩
theorem Jw8 {o:Op} {es:List (Value×AV)} {K:AV→Prop} (h:K (.fm es)):Jch o (.fm es) K:=by
 unfold Jch
 split <;> first | exact h | exact Jcw h
theorem Jri (b:List (Nat×Nat)):JV Go.Sort.ltInt (Ja8 (b.map (·.1)))=Ja8 ((Jcg b).map (·.1)):=by
 have hp:(Ja8 (b.map (·.1))).Perm (Ja8 ((Jcg b).map (·.1))):=((List.mergeSort_perm b _).symm.map _).map _
 rw [Jeq Go.Sort.swo_ltInt Jhb hp]
 refine List.mergeSort_of_pairwise ?_
 unfold Ja8
 rw [List.pairwise_map,List.pairwise_map]
 refine (List.pairwise_mergeSort (le:=fun x y:Nat×Nat=> decide (x.1≤y.1)) (fun a b c h1 h2=> decide_eq_true (Nat.le_trans (of_decide_eq_true h1) (of_decide_eq_true h2))) (fun a b=> by simpa using Nat.le_total a.1 b.1) b).imp fun h=> ?_
 have:=of_decide_eq_true h
 simp only [Go.Sort.ltInt,Bool.not_eq_true',decide_eq_false_iff_not]
 omega
def JBz (l:List Nat):AV:=JK 1 (fun n:Nat=> u32 n) 0 l
theorem Jou {L:List (Nat×Nat)} {i:Nat} (h:i < L.length):(L.map (·.1)).getD i 0=(L.getD i (0,0)).1:=by
 simp only [List.getD_eq_getElem?_getD]
 rw [List.getElem?_map,List.getElem?_eq_getElem h];rfl
theorem JyN {A:Mk} {L:List (Nat×Nat)} {i:Nat} (h:i < L.length):(L.take (i+1)).foldl JbE A=JbE ((L.take i).foldl JbE A) (L.getD i (0,0)):=by
 rw [JaG (0,0) h,List.foldl_append];rfl
theorem Jsv {A:Mk} {L:List (Nat×Nat)} (hb:∀(m:Mk) (x:Nat×Nat),m.le (JbE m x)) (i:Nat):((L.take i).foldl JbE A).le (L.foldl JbE A):=by
 have h:=List.foldl_append (f:=JbE) (b:=A) (l:=L.take i) (l':=L.drop i)
 rw [List.take_append_drop] at h
 rw [h]
 exact JhK hb _ _
theorem Jw9 (m:Mk) (x:Nat×Nat):m.le (JbE m x):=(JcC m x.2).trans (Jap _ _)
def zA:List (Nat×Nat):= [(1,0),(2,2),(3,3),(4,4)]
theorem JyO {P:Plan} {m:Mk} {i:Nat} (h:i < 4):JbO (JbP P) m (zA.take (i+1))=JbP P (JX (JbO (JbP P) m (zA.take i)) (i+1)) (abiN.getD i 0):=by
 have e:zA.getD i (0,0)=(i+1,abiN.getD i 0):=by
  rcases (by omega:i=0∨i=1∨i=2∨i=3) with rfl | rfl | rfl | rfl <;> rfl
 rw [JaG (0,0) (show i < zA.length from h),Jj1,e];rfl
set_option maxHeartbeats 8000000 in
theorem Jmm (P:Plan) (hP:PlanW P):Tells Tryz.prog 12 [Jca P] (JaB (Jcj P)):=by
 refine Jd Tryz.func12 rfl rfl fun nx=> ?_
 unfold Jca
 (refine Jy ?_;refine JQ ?_;refine Jy ?_;refine JQ ?_;refine Jy ?_)
 refine AW.le (Jav (n:=108) (nn:=4) (bx:=((3,nx), .c (JaZ P))::mkB (nx+2) (nx+1) ⟨[],0, []⟩ none) (pm:= []) (L:= [(1, .bp (3,nx) 0),(3, .bp (0,nx+2) 0)]) [((0,nx), .c (JaZ P)),((2,nx+2), .c [.os 0 0 (fun _=> .any) none,int 0, .om (1,nx+1)]),((1,nx+1), .mp [])] _ [] rfl rfl ?_ Sf Sf ?_ trivial ⟨AVle.bp_nm rfl,AVle.bp_nm rfl,trivial⟩) ?_
 ·exact List.perm_append_comm (l₁:= [_]) (l₂:= [_,_])
 ·exact ⟨rfl,OwnLe.refl _,rfl,⟨AVle.os_nil,Rf,Rf,trivial⟩,rfl,OwnLe.refl _,trivial⟩
 refine stp ?_
 refine Jf (xs:= [.bp (0,nx+2) 0,JaB [⟨0,0x20,4,0,0⟩]]) [_] [] 4 rfl rfl rfl rfl ⟨Rf,JeV (fun k hk=> by match k,hk with | 0,_=> rfl),trivial⟩ (Jak (nx+2) (nx+1) (nx+3) ⟨[],0, []⟩ none _ (fun _=> rfl) (by simp) (Jnd (i:=0) Dc)) Bf Pf rfl fun r h' hq=> ?_
 obtain ⟨oi,nx2,nn2,rfl,h2,rfl⟩:=hq
 generalize nx+2=s0
 generalize nx+1=s1
 refine stp ?_
 refine Ja5 (fun y:Option Nat×Nat=> mk 108 [(1, .bp (3,nx) 0),(3, .bp (0,s0) 0),(4, .om (4,nx2))] ⟨((3,nx), .c (JaZ P))::((4,nx2), .mp (tkE 4))::mkB s0 s1 (frM 4) y.1,mkP (frM 4) y.1,y.2,5⟩) (fun y=> y.1=none→(frM 4).l= []) ?_ ?_
 ·refine Js (fun y:Nat×Option Nat×Nat=> mk 108 [(1, .bp (3,nx) 0),(3, .bp (0,s0) 0),(4, .om (4,nx2)),(21,JiI abiN),(22,int (4:Nat)),(23,int y.1)] ⟨((3,nx), .c (JaZ P))::((4,nx2), .mp (tkE y.1))::mkB s0 s1 (frM y.1) y.2.1,mkP (frM y.1) y.2.1,y.2.2,5⟩) (fun y=> y.1≤4∧(y.2.1=none→(frM y.1).l= [])) (fun y=> 4 - y.1) ?_ ?_
  ·refine ⟨(0,oi,nx2+1),⟨Nat.zero_le _,h2⟩,Jav (((3,nx), .c (JaZ P))::((4,nx2), .mp [])::mkB s0 s1 (frM 0) oi) _ _ rfl rfl (List.Perm.swap _ _ _) Sf Sf Bf Pf ⟨Rf,Rf,Rf, ?_,Rf,Rf,trivial⟩⟩
   exact AVle.os_sl.trans (AVle.sl_fun fun k hk=> by match k,hk with | 0,_=> rfl | 1,_=> rfl | 2,_=> rfl | 3,_=> rfl)
  ·rintro ⟨i,o3,nx3⟩ ⟨k1,k2⟩
   dsimp only at k1 k2
   refine stp ?_
   intro c g;cases c
   ·have g:=Jw g
    dsimp only at g
    obtain rfl:i=4:=by omega
    refine stp ?_
    exact ⟨(o3,nx3),k2,Et rfl rfl Bf Pf ⟨Rf,Rf,Rf,trivial⟩⟩
   ·have g:=Jv g
    dsimp only at g
    have hi:i < 4:=by omega
    have hfn:=JAw hi
    have hff:(frM (i+1)).fits:=Jnd Om
    refine stp ?_
    refine ⟨⟨by dsimp only;omega,by show (i:Int) < ((4:Nat):Int);omega⟩, ?_⟩
    refine stp ?_
    refine Ja rfl rfl (Jt9 (abiN.getD i 0) (by rcases (by omega:i=0∨i=1∨i=2∨i=3) with rfl | rfl | rfl | rfl <;> decide)) ⟨Rf,trivial⟩ fun nx4=> ?_
    refine stp ?_
    refine Jf (xs := [.bp (0, s0) 0]) [_, _, _] [] 6 rfl rfl rfl rfl ⟨Rf, trivial⟩ (JdE s0 s1 (nx4 + 1) (frM i) o3 k2 (Jnd (by omega : i ≤ 4) |> fun h => ⟨h.1, by show i + 1 ≤ _; omega⟩)) Bf Pf rfl fun r h' hq => ?_
    obtain ⟨o5,nx5,nn5,rfl,h5,rfl⟩:=hq
    refine JaC ?_
    refine ⟨⟨rfl,Jw6 k1⟩, ?_⟩
    refine JgB ?_
    show Jgv (Jct (Value.int .i64 (abiN.getD i 0:Nat)) (int (i+1:Nat)) (tkE i)) _
    rw [JBy hi]
    refine Jcw ?_
    refine JaC ?_
    refine ⟨⟨rfl,Jw6 Om⟩, ?_⟩
    show Jch _ ((Ja0 (Value.int .i64 (abiN.getD i 0:Nat)) (tkE (i+1))).getD _) _
    rw [Jw7 (Nat.lt_succ_self i) Om]
    refine stp ?_
    refine Jf (xs:= [.bp (0,s0) 0,JaB [⟨0,0x15,(infL.getD (abiN.getD i 0) JbQ).token,i+1,0⟩]]) [_,_,_] [] 6 rfl rfl rfl rfl ⟨Rf,JeV (fun k hk=> by match k,hk with | 0,_=> rfl),trivial⟩ (Jak s0 s1 nx5 (Jx (frM i)) o5 _ h5 (by simp) (by rw [hfn];exact hff)) Bf Pf rfl fun r h' hq=> ?_
    rw [hfn] at hq
    obtain ⟨o6,nx6,nn6,rfl,h6,rfl⟩:=hq
    refine stp ?_
    exact back (i+1,o6,nx6) ⟨by dsimp only;omega,h6⟩ Dm (Jc _ _ rfl rfl (.cons _ Sf) Sf Bf Pf ⟨Rf,Rf,Rf,Rf,Rf,Jg (Jz Om),trivial⟩)
 ·rintro ⟨o3,nx3⟩ h3
  dsimp only at h3
  have hfit:=JqI hP.s
  have hall:(JaA P).fits:=(JhK Jw9 (Jcg (JaA P).b) (JaA P)).fits hfit
  have habi:∀(m:Mk) (a:Nat),m.le (JbP P m a):=fun m a=> by
   unfold JbP
   split
   ·exact (Jap _ _).trans (JwW P _)
   ·exact (Jap _ _).trans (Jcn P _ a)
  have hfr:frontM.fits:=((Jlx habi _ _):frontM.le (JaA P)).fits hall
  refine Ja7 (n:=108) (nx:=nx3) (nn:=5) (bx:=((3,nx), .c (JaZ P))::mkB s0 s1 (frM 4) o3) (pm:=mkP (frM 4) o3) (L:= [(1, .bp (3,nx) 0),(3, .bp (0,s0) 0),(4, .fm (tkE 4))]) (df:=some []) [((4,nx2), .mp (tkE 4))] rfl rfl rfl (List.Perm.swap _ _ _) Sf ⟨Frz.refl _,Frz.refl _,Frz.om (.head _),trivial⟩ ?_
  refine stp ?_
  refine Jf (xs:= [.bp (0,s0) 0,u32 (2147483648:Nat)]) [_] [] 5 rfl rfl rfl rfl ⟨Rf,Rf,trivial⟩ (Jey s0 s1 nx3 (frM 4) o3 2147483648 h3 (fun _ h=> by cases h) ((Jap _ _:(JA (frM 4) 2147483648).2.le frontM).fits hfr)) Bf Pf rfl fun r h' hq=> ?_
  obtain ⟨o4,nx4,nn4,rfl,h4,rfl⟩:=hq
  refine stp ?_
  refine Jf (xs:= [.bp (0,s0) 0,JaB [JbI (JA (frM 4) 2147483648).1]]) [_] [] 5 rfl rfl rfl rfl ⟨Rf,JeV (fun k hk=> by match k,hk with | 0,_=> rfl),trivial⟩ (Jak s0 s1 nx4 _ o4 _ h4 (by simp) hfr) Bf Pf rfl fun r h' hq=> ?_
  rw [show JD (JA (frM 4) 2147483648).2 [JbI (JA (frM 4) 2147483648).1]=frontM from rfl] at hq
  obtain ⟨o5,nx5,nn5,rfl,h5,rfl⟩:=hq
  have hb5:b0 frontM:=by
   rw [Jdf]
   intro p hp
   obtain rfl:=List.mem_singleton.1 hp
   exact Nat.succ_ne_zero 4
  generalize hF : frontM = F at *
  refine stp ?_
  refine Ja rfl rfl (JoN (tkE 4)) ⟨Rf,trivial⟩ fun nx6=> ?_
  refine stp ?_
  refine Ja rfl rfl (Jst (tkE 4) [0,2,3,4] rfl Dc) ⟨Rf,trivial⟩ fun nx7=> ?_
  rw [show JV Go.Sort.ltInt ([0,2,3,4]:List Int)=Ja8 abiN from List.mergeSort_of_pairwise Dc]
  refine stp ?_
  refine Ja5 (fun y:Option Nat×Nat=> mk 108 [(3, .bp (0,s0) 0)] ⟨mkB s0 s1 (JaA P) y.1,mkP (JaA P) y.1,y.2,5⟩) (fun y=> y.1=none→(JaA P).l= []) ?_ ?_
  ·refine Js (fun y:Nat×Option Nat×Nat=> mk 108 [(1, .bp (3,nx) 0),(3, .bp (0,s0) 0),(4, .fm (tkE 4)),(54,JiI abiN),(55,int (4:Nat)),(56,int y.1)] ⟨((3,nx), .c (JaZ P))::mkB s0 s1 (JbO (JbP P) F (zA.take y.1)) y.2.1,mkP (JbO (JbP P) F (zA.take y.1)) y.2.1,y.2.2,5⟩) (fun y=> y.1≤4∧(y.2.1=none→(JbO (JbP P) F (zA.take y.1)).l= [])∧b0 (JbO (JbP P) F (zA.take y.1))) (fun y=> 4 - y.1) ?_ ?_
   ·refine ⟨(0,o5,nx7),⟨Nat.zero_le _,h5,hb5⟩,Et rfl rfl Bf Pf ⟨Rf,Rf,Rf, ?_,Rf,Rf,trivial⟩⟩
    exact AVle.sl_fun fun k hk=> by match k,hk with | 0,_=> rfl | 1,_=> rfl | 2,_=> rfl | 3,_=> rfl
   ·rintro ⟨i,o6,nx8⟩ ⟨k1,k2,k3⟩
    dsimp only at k1 k2 k3
    refine stp ?_
    intro c g;cases c
    ·have g:=Jw g
     dsimp only at g
     obtain rfl:i=4:=by omega
     have hA:JbO (JbP P) F (zA.take 4)=JaA P:=by rw [← hF];rfl
     rw [hA] at k2⊢
     refine stp ?_
     exact ⟨(o6,nx8),k2,Jc _ _ rfl rfl (.cons _ Sf) Sf Bf Pf ⟨Rf,trivial⟩⟩
    ·have g:=Jv g
     dsimp only at g
     have hi:i < 4:=by omega
     have hsn:=JyO (P:=P) (m:=F) hi
     have hfi:(JbO (JbP P) F (zA.take (i+1))).fits:=((Jkw habi (l:=zA) (m:=F) (i+1)):(JbO (JbP P) F (zA.take (i+1))).le (JbO (JbP P) F zA)).fits (by rw [← hF];exact hall)
     rw [hsn] at hfi
     have hb6:b0 (JbP P (JX (JbO (JbP P) F (zA.take i)) (i+1)) (abiN.getD i 0)):=JwU Jnb (m:=JX _ _) k3
     generalize JbO (JbP P) F (zA.take i) = N at *
     refine stp ?_
     refine ⟨⟨by dsimp only;omega,by show (i:Int) < ((4:Nat):Int);omega⟩, ?_⟩
     refine JaC ?_
     erw [Jw7 hi (Nat.le_refl 4)]
     refine stp ?_
     have hput:(JD (JX N (i+1)) [⟨0,0x20,0,0,0⟩]).fits:=by
      unfold JbP at hfi
      split at hfi
      ·exact (JwW P _).fits hfi
      ·exact (Jcn P _ _).fits hfi
     refine Jf (xs:= [.bp (0,s0) 0,int (i+1:Nat)]) [_] [] 5 rfl rfl rfl rfl ⟨Rf,Rf,trivial⟩ (Jex s0 s1 nx8 N o6 (i+1) k2 ((Jap _ _).fits hput)) Bf Pf rfl fun r h' hq=> ?_
     obtain ⟨o7,nx9,nn9,rfl,h7,rfl⟩:=hq
     refine stp ?_
     refine Jf (xs:= [.bp (0,s0) 0,JaB [⟨0,0x20,0,0,0⟩]]) [_] [] 5 rfl rfl rfl rfl ⟨Rf,JeV (fun k hk=> by match k,hk with | 0,_=> rfl),trivial⟩ (Jak s0 s1 nx9 _ o7 _ h7 (by simp) hput) Bf Pf rfl fun r h' hq=> ?_
     obtain ⟨o8,nx10,nn10,rfl,h8,rfl⟩:=hq
     have hb7:b0 (JD (JX N (i+1)) [⟨0,0x20,0,0,0⟩]):=k3
     unfold JaZ
     refine stp ?_
     intro c hc
     cases c with
     | true=>
       have ha:abiN.getD i 0=0:=by
        have:=eq_of_beq hc.symm
        exact Int.ofNat_inj.1 this
       have hR:JbP P (JX N (i+1)) (abiN.getD i 0)=Jd8 P (JD (JX N (i+1)) [⟨0,0x20,0,0,0⟩]):=if_pos ha
       rw [hR] at hsn hfi hb6
       refine stp ?_
       refine Jf (xs:= [.bp (0,s0) 0,Jca P]) [_] [] 5 rfl rfl rfl rfl ⟨Rf,Rf,trivial⟩ (JwX s0 s1 nx10 _ o8 P hP h8 hb7 hfi) Bf Pf rfl fun r h' hq=> ?_
       rw [← hsn] at hq
       obtain ⟨o9,nx11,nn11,rfl,h9,rfl⟩:=hq
       refine stp ?_
       exact back (i+1,o9,nx11) ⟨by dsimp only;omega,h9,by dsimp only;rw [hsn];exact hb6⟩ Dm (Et rfl rfl Bf Pf ⟨Rf,Rf,Rf,Rf,Rf,Jg (Jz Om),trivial⟩)
     | false=>
       have ha:abiN.getD i 0≠0:=fun e=> by
        have:=beq_eq_false_iff_ne.1 hc.symm
        exact this (congrArg Int.ofNat e)
       have ha4:abiN.getD i 0≤4:=by
        rcases (by omega:i=0∨i=1∨i=2∨i=3) with rfl | rfl | rfl | rfl <;> decide
       have hR:JbP P (JX N (i+1)) (abiN.getD i 0)=JaQ P (JD (JX N (i+1)) [⟨0,0x20,0,0,0⟩]) (abiN.getD i 0):=if_neg ha
       rw [hR] at hsn hfi hb6
       refine stp ?_
       refine Jf (xs:= [.bp (0,s0) 0,Jca P,int (abiN.getD i 0:Nat)]) [_] [] 5 rfl rfl rfl rfl ⟨Rf,Rf,Rf,trivial⟩ (JfD s0 s1 nx10 _ o8 P hP _ ha4 h8 hb7 hfi) Bf Pf rfl fun r h' hq=> ?_
       rw [← hsn] at hq
       obtain ⟨o9,nx11,nn11,rfl,h9,rfl⟩:=hq
       refine stp ?_
       exact back (i+1,o9,nx11) ⟨by dsimp only;omega,h9,by dsimp only;rw [hsn];exact hb6⟩ Dm (Et rfl rfl Bf Pf ⟨Rf,Rf,Rf,Rf,Rf,Jg (Jz Om),trivial⟩)
  ·rintro ⟨o6,nx8⟩ h6
   dsimp only at h6
   have hnd:((JaA P).b.map (·.1)).Nodup:=by
    refine Jrd (Q:=fun b=> (b.map (·.1)).Nodup) (fun m x h=> JwU JyG h) _ _ ?_
    rw [Jdf]
    exact List.nodup_cons.2 ⟨List.not_mem_nil,List.nodup_nil⟩
   have hbl:=JAa hP.s
   have hIt:(Jcj P)=((Jcg (JaA P).b).foldl JbE (JaA P)).l:=rfl
   rw [hIt]
   generalize JaA P = A at *
   refine JtS (n:=108) (nx:=nx8) (nn:=5) (i:=(0,s0)) (j:=(0,s0)) (cs':= [.os 5 A.l.length (itF A.l) (nmN 2 o6),int A.n, .fm (bE A.b)]) (bx:= []) (pm:=mkP A o6) (L:= [(3, .bp (0,s0) 0)]) (df:=some []) [((1,s1), .mp (bE A.b))] rfl rfl rfl rfl (List.Perm.swap _ _ _) Sf ⟨Frz.refl _,Frz.refl _,Frz.om (.head _),trivial⟩ ⟨Frz.refl _,trivial⟩ ?_
   refine stp ?_
   refine Ja rfl rfl (JoO (bE A.b)) ⟨Rf,trivial⟩ fun nx9=> ?_
   refine stp ?_
   refine Ja rfl rfl (Jsu (bE A.b) (Ja8 (A.b.map (·.1))) (by unfold bE Ja8;rw [List.map_map,List.map_map,List.map_map];rfl) (by unfold bE;rw [List.length_map];exact hbl)) ⟨Rf,trivial⟩ fun nx10=> ?_
   rw [Jri]
   have hsl:(Jcg A.b).length≤1000000:=by rw [show (Jcg A.b).length=A.b.length from List.length_mergeSort _];exact hbl
   have hmemS:∀p∈Jcg A.b,p∈A.b:=fun p hp=> (List.mergeSort_perm A.b _).mem_iff.1 hp
   generalize Jcg A.b = S at *
   refine stp ?_
   refine Js (fun y:Nat×Option Nat×Nat=> mk 108 [(3, .bp (0,s0) 0),(84,JBz (S.map (·.1))),(85,int S.length),(86,int y.1)] ⟨mkC s0 (.fm (bE A.b)) ((S.take y.1).foldl JbE A) y.2.1,mkP ((S.take y.1).foldl JbE A) y.2.1,y.2.2,5⟩) (fun y=> y.1≤S.length∧(y.2.1=none→((S.take y.1).foldl JbE A).l= [])) (fun y=> S.length - y.1) ?_ ?_
   ·refine ⟨(0,o6,nx10),⟨Nat.zero_le _,h6⟩,Et rfl rfl Bf Pf ⟨Rf, ?_,Jg (by rw [Jcp,List.length_map]),Rf,trivial⟩⟩
    unfold JBz JK
    (conv=> arg 1;whnf)
    rw [Jcp]
    exact AVle.sl_fun fun k _=> by rw [Jfu];rfl
   ·rintro ⟨i,o7,nx11⟩ ⟨k1,k2⟩
    dsimp only at k1 k2
    refine stp ?_
    intro c g;cases c
    ·have g:=Jw g
     dsimp only at g
     obtain rfl:i=S.length:=by omega
     refine stp ?_
     refine Jb rfl ?_
     rw [List.take_length]
     exact AVle.os_sl
    ·have g:=Jv g
     dsimp only at g
     have hi:i < S.length:=by omega
     have hsn:=JyN (A:=A) hi
     have hfi:=(Jsv Jw9 (A:=A) (L:=S) (i+1)).fits hfit
     rw [hsn] at hfi
     have hmi:S.getD i (0,0)∈A.b:=hmemS _ (by simp [List.getD,hi])
     have hlk:Ja0 (Value.int .u32 ((S.map (·.1)).getD i 0:Nat)) (bE A.b)=some (int (S.getD i (0,0)).2):=by rw [Jou hi,Jft,Jot hnd hmi];rfl
     have hcg:=Jou hi
     generalize (S.take i).foldl JbE A = N at *
     refine stp ?_
     refine ⟨⟨by dsimp only;omega,by show (i:Int) < (((S.map (·.1)).length:Nat):Int);rw [List.length_map];omega⟩, ?_⟩
     refine stp ?_
     change Jch _ (.fm (bE A.b)) _
     refine Jw8 ?_
     refine JaC ?_
     refine ⟨JfT _, ?_⟩
     erw [hlk]
     refine stp ?_
     refine Jf (xs:= [.bp (0,s0) 0,int (S.getD i (0,0)).2]) [] [] 5 rfl rfl rfl rfl ⟨Rf,Rf,trivial⟩ (Jkr s0 nx11 _ N o7 _ k2 ((Jap _ _).fits hfi)) Bf Pf rfl fun r h' hq=> ?_
     obtain ⟨o8,nx12,nn12,rfl,h8,rfl⟩:=hq
     refine stp ?_
     refine Jf (xs:= [.bp (0,s0) 0,JaB [⟨0,6,(S.getD i (0,0)).1,0,0⟩]]) [] [] 5 rfl rfl rfl rfl ⟨Rf,JeV (fun k hk=> by match k,hk with | 0,_=> (rw [← hcg];rfl)),trivial⟩ (JiH s0 nx12 _ _ o8 _ h8 (by simp) hfi) Bf Pf rfl fun r h' hq=> ?_
     obtain ⟨o9,nx13,nn13,rfl,h9,rfl⟩:=hq
     refine stp ?_
     refine back (i+1,o9,nx13) ⟨by dsimp only;omega,by dsimp only;rw [hsn];exact h9⟩ Dm ?_
     dsimp only
     rw [hsn]
     exact Et rfl rfl Bf Pf ⟨Rf,Rf,Rf,Jg (Jz Om),trivial⟩
end Go.Proofs.W

namespace Go.Proofs.W
open Go.Vl
set_option maxRecDepth 100000
def okL (l:List Ins):Prop:=∀i∈l,i.ok
theorem okL.get {l:List Ins} (h:okL l) {n:Nat} (hn:n < l.length):(l.getD n ins0).ok:=by
 have:l.getD n ins0∈l:=by simp [List.getD,hn]
 exact h _ this
end Go.Proofs.W

namespace Go.Proofs.W
def kind (l:List Ins) (n:Nat):Nat:=(kof (l.getD n ins0).code).1
structure Formed (l:List Ins):Prop where
 pos:0 < l.length
 le:l.length≤4096
 ok:∀n,n < l.length→wrongI (l.getD n ins0) (l.length - 1 - n)=0
 last:kind l (l.length - 1)=14∨kind l (l.length - 1)=15
def nextsI (l:List Ins) (n:Nat):List Nat:=
 if kind l n=14∨kind l n=15 then [] else if kind l n=13 then [n+1+(l.getD n ins0).k] else if 25≤kind l n then [n+1+(l.getD n ins0).jt,n+1+(l.getD n ins0).jf] else [n+1]
def isStore (k:Nat):Prop:=k=8∨k=9
instance (k:Nat):Decidable (isStore k):=inferInstanceAs (Decidable (_∨_))
end Go.Proofs.W

namespace Go.Proofs.W
open Go.Vl
set_option maxRecDepth 100000
theorem OwnLe.of_eq {a b:Own} (h:a=b):OwnLe a b:=h ▸ OwnLe.refl a
end Go.Proofs.W

namespace Go.Proofs.W
open Go.Vl
set_option maxRecDepth 100000
end Go.Proofs.W

namespace Go.Proofs.W
open Go.Vl
set_option maxRecDepth 100000
end Go.Proofs.W

namespace Go.Proofs.W
inductive Rch (l:List Ins) (stop:Nat→Bool):Nat→Prop
 | zero:Rch l stop 0
 | step (n t:Nat) (h:Rch l stop n) (hs:stop n=false) (ht:t∈nextsI l n):Rch l stop t
def JBA (o:List Bool) (t:Nat):List Bool:=o.set t true
abbrev Reached (l:List Ins) (n:Nat):Prop:=Rch l (fun _=> false) n
end Go.Proofs.W

namespace Go.Proofs.W
end Go.Proofs.W

namespace Go.Proofs.W
open Go.Vl
set_option maxRecDepth 100000
def aloneC:List Nat:= [32,0,96,128,1,97,129,2,3,7,135,132,5,6,22]
def bothC:List Nat:= [4,20,36,52,68,84,100,116,164,21,37,53,69]
theorem JAx:Jdd Tryz.prog 109 15 [(0,int 32),(1,int 0),(2,int 96),(3,int 128),(4,int 1),(5,int 97),(6,int 129),(7,int 2),(8,int 3),(9,int 7),(10,int 135),(11,int 132),(12,int 5),(13,int 6),(14,int 22)]=some (3, [int 32,int 0,int 96,int 128,int 1,int 97,int 129,int 2,int 3,int 7,int 135,int 132,int 5,int 6,int 22]):=by kernel_rfl
theorem JAy:Jdd Tryz.prog 109 13 [(0,int 4),(1,int 20),(2,int 36),(3,int 52),(4,int 68),(5,int 84),(6,int 100),(7,int 116),(8,int 164),(9,int 21),(10,int 37),(11,int 53),(12,int 69)]=some (3, [int 4,int 20,int 36,int 52,int 68,int 84,int 100,int 116,int 164,int 21,int 37,int 53,int 69]):=by kernel_rfl
theorem JjD {l:List Nat} {p:Nat→Bool} {i:Nat} (hi:i < l.length) (h:p (l.getD i 0)=true) (hb:∀j,j < i→p (l.getD j 0)=false):l.findIdx? p=some i:=by
 rw [List.findIdx?_eq_some_iff_getElem]
 refine ⟨hi, ?_,fun j hj=> ?_⟩
 ·simpa [List.getD,hi] using h
 ·have:=hb j hj
  simpa [List.getD,show j < l.length by omega] using this
theorem JjE {l:List Nat} {p:Nat→Bool} (hb:∀j,j < l.length→p (l.getD j 0)=false):l.findIdx? p=none:=by
 rw [List.findIdx?_eq_none_iff]
 intro x hx
 obtain ⟨j,hj,rfl⟩:=List.getElem_of_mem hx
 have:=hb j hj
 simpa [List.getD,hj] using this
theorem Jsw {c i:Nat} (hi:i < 15) (h:c=aloneC.getD i 0) (hb:∀j,j < i→(c ==aloneC.getD j 0)=false):Jil c=(i+1,false):=by
 have e:aloneC.findIdx? (fun a=> c ==a)=some i:=JjD hi (by rw [h];simp) hb
 show (match aloneC.findIdx? (fun a=> c ==a) with | some i=> (i+1,false) | none=> _)=_
 rw [e]
theorem Jxa {c:Nat} (hb:∀j,j < 15→(c ==aloneC.getD j 0)=false):Jil c=match bothC.findIdx? (fun a=> c ==a|| c ==a+8) with | some i=> (i+16,c !=bothC.getD i 0) | none=> (0,false):=by
 have e:aloneC.findIdx? (fun a=> c ==a)=none:=JjE hb
 show (match aloneC.findIdx? (fun a=> c ==a) with | some i=> (i+1,false) | none=> (match bothC.findIdx? (fun a=> c ==a|| c ==a+8) with | some i=> (i+16,c !=bothC.getD i 0) | none=> (0,false)))=_
 rw [e]
theorem JAz:∀i,i < 13→bothC.getD i 0 < 200:=by decide
theorem JbM (c:Nat) (hc:c < 65536):Tells Tryz.prog 43 [u16 c] (.tup [int (kof c).1,Ji (kof c).2]):=by
 rw [← JxI]
 have hw:IntKind.i64.wrap (c:Int)=(c:Int):=Ju Om Om
 refine Jd Tryz.func43 rfl rfl fun nx=> ?_
 (refine Jy ?_;refine JQ ?_;refine Jy ?_)
 refine JE (fun n=> match n with | 0=> true | _=> false) 1 ?_
 refine Jnr rfl JAx ?_
 refine stp ?_
 refine Js (fun y:Nat×Nat=> mk 50 [(0,u16 c),(4, .os 1 15 (fun k=> int (aloneC.getD k 0:Nat)) none),(5,int y.1)] ⟨[], [],y.2,0⟩) (fun y=> y.1≤15∧∀j,j < y.1→(c ==aloneC.getD j 0)=false) (fun y=> 15 - y.1) ?_ ?_
 ·exact ⟨(0,nx),⟨Nat.zero_le _,fun j h=> absurd h (Nat.not_lt_zero _)⟩,JeP rfl rfl (List.nil_sublist _) (List.nil_sublist _) ⟨Rf,AVle.os_fun (JgA ⟨⟨⟨⟨⟨⟨⟨⟨⟨⟨⟨⟨⟨⟨⟨trivial,rfl⟩,rfl⟩,rfl⟩,rfl⟩,rfl⟩,rfl⟩,rfl⟩,rfl⟩,rfl⟩,rfl⟩,rfl⟩,rfl⟩,rfl⟩,rfl⟩,rfl⟩),Rf,trivial⟩⟩
 ·rintro ⟨i,nx1⟩ ⟨h1,h2⟩
  dsimp only at h1 h2
  refine stp ?_
  intro c g;cases c
  ·have g:=Jw g
   dsimp only at g
   obtain rfl:i=15:=by omega
   have hr:=Jxa h2
   (refine Jy ?_)
   refine JE (fun n=> match n with | 0=> true | _=> false) 1 ?_
   refine Jnr rfl JAy ?_
   refine stp ?_
   refine Js (fun y:Nat×Nat=> mk 50 [(0,u16 c),(6, .os 1 13 (fun k=> int (bothC.getD k 0:Nat)) none),(7,int y.1)] ⟨[], [],y.2,0⟩) (fun y=> y.1≤13∧∀j,j < y.1→(c ==bothC.getD j 0|| c ==bothC.getD j 0+8)=false) (fun y=> 13 - y.1) ?_ ?_
   ·exact ⟨(0,nx1),⟨Nat.zero_le _,fun j h=> absurd h (Nat.not_lt_zero _)⟩,JeP rfl rfl (List.nil_sublist _) (List.nil_sublist _) ⟨Rf,AVle.os_fun (JgA ⟨⟨⟨⟨⟨⟨⟨⟨⟨⟨⟨⟨⟨trivial,rfl⟩,rfl⟩,rfl⟩,rfl⟩,rfl⟩,rfl⟩,rfl⟩,rfl⟩,rfl⟩,rfl⟩,rfl⟩,rfl⟩,rfl⟩),Rf,trivial⟩⟩
   ·rintro ⟨i,nx2⟩ ⟨k1,k2⟩
    dsimp only at k1 k2
    refine stp ?_
    intro c g3;cases c
    ·have g3:=Jw g3
     dsimp only at g3
     obtain rfl:i=13:=by omega
     have hn:bothC.findIdx? (fun a=> c ==a|| c ==a+8)=none:=JjE k2
     rw [hn] at hr
     rw [hr]
     refine stp ?_
     exact Jb rfl (AVle.tups (cs:= [_,_]) ⟨Rf,Rf,trivial⟩)
    ·have g3:=Jv g3
     dsimp only at g3
     have hi:i < 13:=by omega
     have hlt:=JAz i hi
     have hsucc:∀v,bothC.getD i 0=v→c≠v→c≠v+8→∀j,j < i+1→(c ==bothC.getD j 0|| c ==bothC.getD j 0+8)=false:=fun v hv e1 e2 j hj=> by
      rcases Nat.lt_or_ge j i with h | h
      ·exact k2 j h
      ·obtain rfl:j=i:=by omega
       rw [hv];simp [e1,e2]
     have hfound:∀v,bothC.getD i 0=v→(c=v∨c=v+8)→Jil c=(i+16,c !=v):=fun v hv e=> by
      have hn:bothC.findIdx? (fun a=> c ==a|| c ==a+8)=some i:=JjD hi (by rw [hv];rcases e with e | e <;> simp [e]) k2
      rw [hn] at hr
      rw [hr];dsimp only;rw [hv]
     generalize hv:bothC.getD i 0=v at hlt
     have hsucc:=hsucc v hv
     have hfound:=hfound v hv
     have hw8:IntKind.i64.wrap ((v:Int)+8)=((v+8:Nat):Int):=Ju Om Om
     refine stp ?_
     refine ⟨Bd, ?_⟩
     refine stp ?_
     intro c q1;cases c
     ·have q1:c≠v:=by
       have q1:=Jb5.1 q1
       intro h
       apply q1
       rw [hw]
       show ((c:Nat):Int)=((bothC.getD i 0:Nat):Int)
       rw [hv,h]
      refine stp ?_
      refine ⟨Bd, ?_⟩
      refine stp ?_
      intro c q2;cases c
      ·have q2:c≠v+8:=by
        have q2:=Jb5.1 q2
        intro h
        apply q2
        rw [hw]
        show ((c:Nat):Int)=IntKind.i64.wrap (((bothC.getD i 0:Nat):Int)+8)
        rw [hv,hw8,h]
       refine stp ?_
       exact back (i + 1, _) ⟨(by first | omega | (dsimp only at *; omega) | (simp; done) | (simp; omega)), hsucc q1 q2⟩ (by first | omega | (dsimp only at *; omega) | (simp; done) | (simp; omega)) (JeP rfl rfl (List.nil_sublist _) (List.nil_sublist _) ⟨Rf, Rf, Jg (Jz (by first | omega | (dsimp only at *; omega) | (simp; done) | (simp; omega))), trivial⟩)
      ·have q2:c=v+8:=by
        have q2:=Jb6.1 q2
        rw [hw] at q2
        have q3:((c:Nat):Int)=IntKind.i64.wrap (((bothC.getD i 0:Nat):Int)+8):=q2
        rw [hv,hw8] at q3
        omega
       rw [hfound (.inr q2)]
       refine stp ?_
       refine Jb rfl (AVle.tups (cs := [_, _]) ⟨Jg (Ju (by first | omega | (dsimp only at *; omega) | (simp; done) | (simp; omega)) (by first | omega | (dsimp only at *; omega) | (simp; done) | (simp; omega))), JP ?_, trivial⟩)
       rw [q2];simp
     ·have q1:c=v:=by
       have q1:=Jb6.1 q1
       rw [hw] at q1
       have q3:((c:Nat):Int)=((bothC.getD i 0:Nat):Int):=q1
       rw [hv] at q3
       omega
      rw [hfound (.inl q1)]
      refine stp ?_
      refine Jb rfl (AVle.tups (cs := [_, _]) ⟨Jg (Ju (by first | omega | (dsimp only at *; omega) | (simp; done) | (simp; omega)) (by first | omega | (dsimp only at *; omega) | (simp; done) | (simp; omega))), JP ?_, trivial⟩)
      rw [q1];simp
  ·have g:=Jv g
   dsimp only at g
   have hi:i < 15:=by omega
   refine stp ?_
   refine ⟨Bd, ?_⟩
   refine stp ?_
   intro c q1;cases c
   ·have q1:(c ==aloneC.getD i 0)=false:=by
     have q1:=Jb5.1 q1
     rw [hw] at q1
     have q3:((c:Nat):Int)≠((aloneC.getD i 0:Nat):Int):=q1
     simp only [beq_eq_false_iff_ne]
     omega
    refine stp ?_
    refine back (i + 1, _) ⟨(by first | omega | (dsimp only at *; omega) | (simp; done) | (simp; omega)), fun j hj => ?_⟩ (by first | omega | (dsimp only at *; omega) | (simp; done) | (simp; omega)) (JeP rfl rfl (List.nil_sublist _) (List.nil_sublist _) ⟨Rf, Rf, Jg (Jz (by first | omega | (dsimp only at *; omega) | (simp; done) | (simp; omega))), trivial⟩)
    rcases Nat.lt_or_ge j i with h | h
    ·exact h2 j h
    ·obtain rfl:j=i:=by omega
     exact q1
   ·have q1:c=aloneC.getD i 0:=by
     have q1:=Jb6.1 q1
     rw [hw] at q1
     have q3:((c:Nat):Int)=((aloneC.getD i 0:Nat):Int):=q1
     omega
    rw [Jsw hi q1 h2]
    refine stp ?_
    exact Jb rfl (AVle.tups (cs := [_, _]) ⟨Jg (Jz (by first | omega | (dsimp only at *; omega) | (simp; done) | (simp; omega))), Rf, trivial⟩)
end Go.Proofs.W

namespace Go.Proofs.W
open Go.Vl
structure Tst where
 at':Nat
 mask:Nat
 kind:Nat
 k:Nat
 is:Bool
structure Pth where
 tests:List Tst
 steps:Nat
 value:Nat
def asks (l:List Ins) (n:Nat):Prop:=kind l n=21∨25≤kind l n
instance (l:List Ins) (n:Nat):Decidable (asks l n):=by unfold asks;infer_instance
def Jo4 (l:List Ins):Nat→List Bool
 | 0=> JBA (List.replicate l.length false) 0
 | n+1=> if (Jo4 l n).getD n false=true∧kind l n=13 then JBA (Jo4 l n) (n+1+(l.getD n ins0).k) else Jo4 l n
def okP (l:List Ins) (n:Nat):Prop:=(asks l n∨kind l n=1∨kind l n=13∨kind l n=14)∧(kof (l.getD n ins0).code).2=false∧¬(asks l n∧(Jo4 l n).getD n false=true)
instance (l:List Ins) (n:Nat):Decidable (okP l n):=by unfold okP;infer_instance
end Go.Proofs.W

namespace Go.Proofs.W
open Go.Vl
set_option maxRecDepth 100000
def Jff (l:List Nat):AV:=JK 1 (fun n:Nat=> u8 n) 0 l
def okB (b:List Nat):Prop:=∀x∈b,x < 256
def okI (n:Int):Prop:=-9223372036854775808≤n∧n≤9223372036854775807
def JbD (at' w:Nat) (big:Bool):List Nat:=(List.range w).map fun i=> if big then at'+i else at'+w - 1 - i
theorem Jfv (at' w:Nat) (big:Bool):(JbD at' w big).length=w:=by simp [JbD]
theorem Jsx {at' w i:Nat} {big:Bool} (h:i < w):(JbD at' w big).getD i 0=if big then at'+i else at'+w - 1 - i:=by
 simp [JbD,List.getD,List.getElem?_map,List.getElem?_range h]
def Jf0 (b:List Nat) (ks:List Nat):Nat:=ks.foldl (fun n k=> n * 256+b.getD k 0) 0
theorem Jxb (b ks:List Nat) (k:Nat):Jf0 b (ks++ [k])=Jf0 b ks * 256+b.getD k 0:=by simp [Jf0]
theorem okB.get {b:List Nat} (h:okB b) (k:Nat):b.getD k 0 < 256:=by
 rcases Nat.lt_or_ge k b.length with hk | hk
 ·have e:b.getD k 0=b[k]:=by simp [List.getD,hk]
  rw [e];exact h _ (List.getElem_mem hk)
 ·simp [List.getD,List.getElem?_eq_none hk]
theorem Jtw {b:List Nat} (h:okB b):∀(ks:List Nat) (n:Nat),ks.foldl (fun n k=> n * 256+b.getD k 0) n+1≤(n+1) * 256 ^ ks.length
 | [],n=> by simp
 | k::ks,n=> by
   have h1:=Jtw h ks (n * 256+b.getD k 0)
   have h2:=h.get k
   rw [List.foldl_cons,List.length_cons,Nat.pow_succ]
   refine Nat.le_trans h1 ?_
   rw [Nat.mul_comm (256 ^ ks.length) 256,← Nat.mul_assoc]
   exact Nat.mul_le_mul_right _ Om
theorem Jtx {b:List Nat} (h:okB b) (ks:List Nat):Jf0 b ks < 256 ^ ks.length:=by
 have:=Jtw h ks 0
 simp only [Nat.zero_add,Nat.one_mul] at this
 exact this
end Go.Proofs.W

namespace Go.Proofs.W
structure Weak (n:Nat) (s:List Bool×List Nat):Prop where
 len:s.1.length=n
 few:s.2.length≤s.1.count true
structure Inv (l:List Ins) (s:List Bool×List Nat):Prop where
 weak:Weak l.length s
 zero:s.1.getD 0 false=true
 sound:∀x,s.1.getD x false=true→Reached l x
 mem:∀x∈s.2,s.1.getD x false=true
 full:∀x,s.1.getD x false=true→x∈s.2∨∀t∈nextsI l x,s.1.getD t false=true
end Go.Proofs.W

namespace Go.Proofs.W
open Go.Vl
set_option maxRecDepth 100000
theorem c4:Tryz.prog.cellsOf 4=1:=by kernel_rfl
end Go.Proofs.W

namespace Go.Proofs.W
open Go.Vl
set_option maxRecDepth 100000
theorem c3:Tryz.prog.cellsOf 3=1:=by kernel_rfl
end Go.Proofs.W

namespace Go.Proofs.W
open Go.Vl
set_option maxRecDepth 100000
end Go.Proofs.W

namespace Go.Proofs.W
open Go.Vl
set_option maxRecDepth 100000
end Go.Proofs.W

namespace Go.Proofs.W
open Go.Vl
set_option maxRecDepth 100000
end Go.Proofs.W

namespace Go.Proofs.W
open Go.Vl
set_option maxRecDepth 100000
end Go.Proofs.W

namespace Go.Proofs.W
open Go.Vl
set_option maxRecDepth 100000
end Go.Proofs.W

namespace Go.Proofs.W
open Go.Vl
set_option maxRecDepth 100000
structure TstZ where
 at':Int
 mask:Nat
 kind:Int
 k:Nat
 is:Bool
def TstZ.ok (t:TstZ):Prop:=okI t.at'∧t.mask < 4294967296∧okI t.kind∧t.k < 4294967296
def Jab (b:List Nat) (at':Int):Nat:=Jf0 b (JbD at'.toNat 4 false)
theorem Jrj {b:List Nat} (hb:okB b) (at':Int):Jab b at' < 4294967296:=by
 have:=Jtx hb (JbD at'.toNat 4 false)
 rw [Jfv] at this
 exact this
theorem Jsy (b:List Nat) (hb:okB b) (hl:b.length≤8):Tells Tryz.prog 86 [Jff b] (u64 (Jf0 b (JbD 0 b.length false):Nat)):=by
 refine Jd Tryz.func86 rfl rfl fun nx=> ?_
 refine stp ?_
 have hle:∀i,i≤b.length→∀n:Nat,(int ((b.length:Int) - 1 - i))=int ((b.length:Int) - 1 - i):=fun _ _ _=> rfl
 refine Js (fun i:Nat=> mk 21 [(0,Jff b),(3,u64 (Jf0 b ((JbD 0 b.length false).take i):Nat)),(4,int ((b.length:Int) - 1 - i))] ⟨[], [],nx,0⟩) (fun i=> i≤b.length) (fun i=> b.length - i) ?_ ?_
 ·exact ⟨0,by omega,JaX rfl rfl ⟨Rf,Rf,Jg ((Ju Om Om).trans Om),trivial⟩⟩
 ·rintro i h1
  refine stp ?_
  intro c g;cases c
  ·have g:=Jw g
   refine stp ?_
   refine Jb rfl (AVle.of_eq ?_)
   rw [List.take_of_length_le (by rw [Jfv];omega)]
   rfl
  ·have g:=Jv g
   have hi:i < b.length:=by omega
   have hpl:=Jfv 0 b.length false
   have hgt:(JbD 0 b.length false).getD i 0=b.length - 1 - i:=by rw [Jsx hi];simp
   have hst:(JbD 0 b.length false).take (i+1)=(JbD 0 b.length false).take i++ [b.length - 1 - i]:=by rw [← hgt];exact JaG 0 (by rw [hpl];exact hi)
   have hacc:Jf0 b ((JbD 0 b.length false).take i) < 72057594037927936:=Nat.lt_of_lt_of_le (Jtx hb _) (Nat.le_trans (Nat.pow_le_pow_right Dc (by rw [List.length_take,hpl];omega:((JbD 0 b.length false).take i).length≤7)) Dc)
   have hbx:=hb.get (b.length - 1 - i)
   have hix:Int.toNat ((b.length:Int) - 1 - i)=b.length - 1 - i:=by omega
   refine stp ?_
   refine ⟨Bd, ?_⟩
   refine stp ?_
   refine back (i+1) Om Om (JaX rfl rfl ⟨Rf, ?_,Jg ((Ju Om Om).trans Om),trivial⟩)
   refine AVle.of_eq (congrArg u64 (?_:IntKind.u64.wrap (IntKind.u64.wrap (256 * (Jf0 b ((JbD 0 b.length false).take i):Nat))+IntKind.u64.wrap (b.getD (Int.toNat ((b.length:Int) - 1 - i)) 0:Nat))=_))
   rw [hix,hst,Jxb]
   show ((256 * ((Jf0 b ((JbD 0 b.length false).take i):Nat):Int)) % 18446744073709551616+((b.getD (b.length - 1 - i) 0:Nat):Int) % 18446744073709551616) % 18446744073709551616=_
   omega
theorem JhZ {b:List Nat} {a n k:Nat} (hk:k < n):((b.drop a).take n).getD k 0=b.getD (a+k) 0:=by
 simp [List.getD,List.getElem?_take,hk,List.getElem?_drop]
theorem Jxc {b:List Nat} {a:Nat}:Jf0 ((b.drop a).take 4) (JbD 0 4 false)=Jab b a:=by
 have h0:=JhZ (b:=b) (a:=a) (n:=4) (k:=0) Dc
 have h1:=JhZ (b:=b) (a:=a) (n:=4) (k:=1) Dc
 have h2:=JhZ (b:=b) (a:=a) (n:=4) (k:=2) Dc
 have h3:=JhZ (b:=b) (a:=a) (n:=4) (k:=3) Dc
 have e1:JbD 0 4 false= [3,2,1,0]:=by decide
 have e2:JbD (Int.toNat (a:Int)) 4 false= [a+3,a+2,a+1,a+0]:=by
  show (List.range 4).map (fun i=> a+4 - 1 - i)=_
  rw [show List.range 4= [0,1,2,3] from rfl]
  simp
 unfold Jab Jf0
 rw [e1,e2]
 simp only [List.foldl_cons,List.foldl_nil,h0,h1,h2,h3]
theorem JuV (b:List Nat) (hb:okB b) (hl:b.length≤1000000) (at':Nat) (ha:at'+4≤b.length):Tells Tryz.prog 44 [Jff b,int at'] (u32 (Jab b at':Nat)):=by
 have hw:IntKind.i64.wrap ((at':Int)+4)=((at'+4:Nat):Int):=Ju Om Om
 have hlen:((b.drop at').take 4).length=4:=by simp;omega
 have hsub:okB ((b.drop at').take 4):=fun x hx=> hb x (List.mem_of_mem_drop (List.mem_of_mem_take hx))
 have hwl:=Jrj hb at'
 refine Jd Tryz.func44 rfl rfl fun nx=> ?_
 refine stp ?_
 (conv=> whnf)
 refine ⟨⟨by omega,by rw [hw];omega,by rw [hw];omega⟩, ?_⟩
 refine stp ?_
 refine Ja rfl rfl (Jsy ((b.drop at').take 4) hsub Om) ⟨?_,trivial⟩ fun nx1=> ?_
 ·refine AVle.trans (b:= .sl 1 4 (fun k=> u8 (b.getD (at'+k) 0:Nat))) (AVle.of_eq ?_) ?_
  ·show AV.sl 1 ((IntKind.i64.wrap ((at':Int)+4)).toNat - at') _=_
   rw [hw,show Int.toNat ((at'+4:Nat):Int) - at'=4 by omega]
   rfl
  ·unfold Jff JK
   rw [hlen]
   exact AVle.sl_fun fun k hk=> by rw [JhZ hk]
 rw [hlen,Jxc]
 refine stp ?_
 refine Jb rfl (Jg ?_)
 show ((Jab b at':Nat):Int) % 4294967296=_
 omega
end Go.Proofs.W

namespace Go.Proofs.W
open Go.Vl
set_option maxRecDepth 100000
def Jzb (a n:Nat):AV:= .sl 4 4 fun k=> [.ag [u16 0,u8 0,u8 0,u32 a], .ag [u16 1,u8 0,u8 0,u32 n], .ag [u16 92,u8 0,u8 0,u32 0], .ag [u16 22,u8 0,u8 0,u32 0]].getD k .any
def JCr (a n:Nat):Nat→Nat
 | 0=> 0
 | 1=> a
 | 2=> a
 | _=> a&&& n
def JCs (n:Nat):Nat→Nat
 | 0=> 0
 | 1=> 0
 | _=> n
set_option maxHeartbeats 4000000 in
theorem Jsz (a n:Nat) (ha:a < 4294967296) (hn:n < 4294967296) (b:List Nat):Tells Tryz.prog 45 [Jzb a n,Jff b] (.ag [u32 (a&&& n:Nat),int (4:Nat), .sl 0 0 fun _=> .any]):=by
 refine Jd Tryz.func45 rfl rfl fun nx=> ?_
 refine stp ?_
 refine Js (fun y:Nat×Nat=> mk 207 [(0,Jzb a n),(1,Jff b),(4, .bp (0,nx) 0),(5, .bp (1,nx+1) 0),(6,u32 (JCr a n y.1)),(7,u32 (JCs n y.1)),(9,int y.1)] ⟨[((1,nx+1), .c [u32 0,int y.1, .os 0 0 (fun _=> .any) none]),((0,nx), .c [u32 0,int 0, .os 0 0 (fun _=> .any) none])], [],y.2,3⟩) (fun y=> y.1≤3) (fun y=> 3 - y.1) ?_ ?_
 ·exact ⟨(0,nx+3),Nat.zero_le _,Jc _ _ rfl rfl (.cons _ Sf) Sf Bf trivial ⟨Rf,Rf,Rf,Rf,Rf,Rf,Rf,trivial⟩⟩
 ·rintro ⟨i,nx2⟩ hi
  dsimp only at hi
  rcases (by omega:i=0∨i=1∨i=2∨i=3) with rfl | rfl | rfl | rfl
  ·refine stp ?_
   refine ⟨⟨by simp,by simp⟩, ?_⟩
   refine stp ?_
   refine Ja rfl rfl (JbM 0 Dc) ⟨Rf,trivial⟩ fun nx3=> ?_
   rw [show kof 0=(2,false) from by decide]
   refine stp ?_
   (refine JH 6 ?_ ?_ ?_ ?_;(· kernel_rfl);(· kernel_rfl);(· kernel_rfl))
   refine stp ?_
   exact back (1,nx3) Dm Dm (Jc _ _ rfl rfl (.cons _ Sf) Sf ⟨rfl,⟨Rf,Jg rfl,Rf,trivial⟩,rfl,OwnLe.refl _,trivial⟩ trivial ⟨Rf,Rf,Rf,Rf,Rf,Rf,Jg rfl,trivial⟩)
  ·refine stp ?_
   refine ⟨⟨by simp,by simp⟩, ?_⟩
   refine stp ?_
   refine Ja rfl rfl (JbM 1 Dc) ⟨Rf,trivial⟩ fun nx3=> ?_
   rw [show kof 1=(5,false) from by decide]
   refine stp ?_
   (refine JH 6 ?_ ?_ ?_ ?_;(· kernel_rfl);(· kernel_rfl);(· kernel_rfl))
   refine stp ?_
   exact back (2,nx3) Dm Dm (Jc _ _ rfl rfl (.cons _ Sf) Sf ⟨rfl,⟨Rf,Jg rfl,Rf,trivial⟩,rfl,OwnLe.refl _,trivial⟩ trivial ⟨Rf,Rf,Rf,Rf,Rf,Rf,Jg rfl,trivial⟩)
  ·refine stp ?_
   refine ⟨⟨by simp,by simp⟩, ?_⟩
   refine stp ?_
   refine Ja rfl rfl (JbM 92 Dc) ⟨Rf,trivial⟩ fun nx3=> ?_
   rw [show kof 92=(21,true) from by decide]
   refine stp ?_
   (refine JH 6 ?_ ?_ ?_ ?_;(· kernel_rfl);(· kernel_rfl);(· kernel_rfl))
   refine stp ?_
   exact back (3,nx3) Dm Dm (Jc _ _ rfl rfl (.cons _ Sf) Sf ⟨rfl,⟨Rf,Jg rfl,Rf,trivial⟩,rfl,OwnLe.refl _,trivial⟩ trivial ⟨Rf,Rf,Rf,Rf,AVle.of_eq (congrArg u32 (JkC ha hn)),Rf,Jg rfl,trivial⟩)
  ·refine stp ?_
   refine ⟨⟨by simp,by simp⟩, ?_⟩
   refine stp ?_
   refine Ja rfl rfl (JbM 22 Dc) ⟨Rf,trivial⟩ fun nx3=> ?_
   rw [show kof 22=(15,false) from by decide]
   refine stp ?_
   (refine JH 6 ?_ ?_ ?_ ?_;(· kernel_rfl);(· kernel_rfl);(· kernel_rfl))
   refine stp ?_
   exact Jl rfl ⟨rfl,trivial⟩ (AVle.ags (cs:= [_,_,_]) ⟨Rf,Jg rfl,AVle.os_sl,trivial⟩)
end Go.Proofs.W

namespace Go.Proofs.W
open Go.Vl
set_option maxRecDepth 100000
def kA (i j:Nat):Int:=if j < i then j else -1
set_option maxHeartbeats 2000000 in
theorem Jdc (l:List Itm) (hl:l.length≤1000000000000) (hn:(marksO l).Nodup) (j t:Nat) (hj:j < l.length) (ht:(l.getD j it0).mark=t) (h0:t≠0):Tells Tryz.prog 42 [JaB l,int t] (int j):=by
 refine Jd Tryz.func42 rfl rfl fun nx=> ?_
 refine stp ?_
 refine Js (fun y:Nat×Nat=> mk 28 [(0,JaB l),(1,int t),(5,int (kA y.1 j)),(6,int y.1)] ⟨[], [],y.2,0⟩) (fun y=> y.1≤l.length) (fun y=> l.length - y.1) ?_ ?_
 ·exact ⟨(0,nx),Nat.zero_le _,Et rfl rfl trivial trivial ⟨Rf,Rf,Rf,Rf,trivial⟩⟩
 ·rintro ⟨i,nx2⟩ k1
  dsimp only at k1
  refine stp ?_
  intro c g;cases c
  ·have g:=Jw g
   dsimp only at g
   obtain rfl:i=l.length:=by omega
   refine stp ?_
   exact Jb rfl (Jg (if_pos hj))
  ·have g:=Jv g
   dsimp only at g
   have hi:i < l.length:=by omega
   refine stp ?_
   refine ⟨Bd, ?_⟩
   refine stp ?_
   intro c hc
   cases c with
   | false=>
     have hne:i≠j:=fun e=> by
      subst e
      have:=beq_eq_false_iff_ne.1 hc.symm
      exact this (congrArg Int.ofNat ht)
     refine stp ?_
     exact back (i+1,nx2) Dm Dm (Et rfl rfl trivial trivial ⟨Rf,Rf,Jg (by unfold kA;dsimp only;by_cases h:j < i <;> simp [h] <;> omega),Jg (Jz Om),trivial⟩)
   | true=>
     have he:(l.getD i it0).mark=t:=Int.ofNat_inj.1 (eq_of_beq hc.symm)
     obtain rfl:i=j:=ItsOk.once hn hj hi (by rw [ht];exact h0) (by rw [he,ht])
     refine stp ?_
     intro c2 hc2
     have hc3:c2=true:=hc2.trans (bne_iff_ne.2 Om)
     clear hc2
     cases hc3
     refine stp ?_
     intro c4 hc4
     have hc5:c4=false:=hc4.trans (decide_eq_false (by unfold kA;simp))
     clear hc4
     cases hc5
     refine stp ?_
     exact back (i+1,nx2) Dm Dm (Et rfl rfl trivial trivial ⟨Rf,Rf,Jg (by unfold kA;simp),Jg (Jz Om),trivial⟩)
end Go.Proofs.W

namespace Go.Proofs.W
open Go.Vl
set_option maxRecDepth 100000
theorem e92:Jbp .or .u16 (84:Int) 8=92:=JsJ (k:= .u16) (a:=84) (b:=8) Dc Dc Dc
set_option maxHeartbeats 16000000 in
theorem Jmn (l:List Itm) (hl:l.length≤1000000000000) (b:List Nat) (hb:okB b) (hbl:b.length=64) (h:ItsOk l) (V:Nat) (hv:(Jp (fun k=> Jab b k) l JbF).1 0=some V):PCall Tryz.prog 14 [JaB l,Jff b] (fun r=> ∃s:Nat,r= .tup [u32 V,int s,Ji true]):=by
 intro nx
 refine ECall.wk (Jn Tryz.func14 rfl rfl ?_)
 refine stp ?_
 refine Js (fun y:Nat×Nat×Nat×Nat=> mk 194 [(0,JaB l),(1,Jff b),(7,u32 y.2.1),(8,u32 0),(10,int y.1),(11,int y.2.2.1)] ⟨[], [],y.2.2.2,0⟩) (fun y=> y.1≤l.length∧y.2.1 < 4294967296∧y.2.2.1≤y.1∧(Jp (fun k=> Jab b k) (l.drop y.1) JbF).1 y.2.1=some V) (fun y=> l.length - y.1) ?_ ?_
 ·exact ⟨(0,0,0,nx+1),⟨Nat.zero_le _,by show 0 < _;decide,Nat.le_refl _,hv⟩,Jc _ _ rfl rfl (.cons _ Sf) Sf trivial trivial ⟨Rf,Rf,Rf,Rf,Rf,Rf,trivial⟩⟩
 ·rintro ⟨i,A,s,nx2⟩ ⟨k1,k2,k3,k4⟩
  dsimp only at k1 k2 k3 k4
  have hi:i < l.length:=by
   rcases Nat.lt_or_ge i l.length with h | h
   ·exact h
   ·rw [List.drop_of_length_le h] at k4;cases k4
  have hsh:=h.sh _ (ItsOk.mem hi)
  have hsem:=JvU (fun k=> Jab b k) (s:=JbF) hi
  have hjmp:=fun t ht h0=> h.jump hi (t:=t) ht h0 (fun k=> Jab b k)
  rw [hsem] at k4
  refine stp ?_
  intro c hc
  have hc2:c=true:=hc.trans (decide_eq_true Om)
  clear hc
  cases hc2
  refine stp ?_
  refine ⟨Bd, ?_⟩
  change Jch _ (AV.rp (itA (l.getD i it0)).cells) _
  have hmem:=ItsOk.mem hi
  generalize l.getD i it0 = x at *
  obtain ⟨mk0,cd,k,t,f⟩:=x
  dsimp only at hsh k4 hjmp
  rcases hsh with ⟨hm,rfl,rfl,rfl,rfl⟩ | ⟨rfl,hsh⟩
  ·rw [if_neg hm] at k4
   refine stp ?_
   intro c hc
   have hc2:c=true:=hc.trans (bne_iff_ne.2 Om)
   clear hc
   cases hc2
   refine stp ?_
   exact back (i+1,A,s,nx2+1) ⟨by dsimp only;omega,k2,by dsimp only;omega,k4⟩ Dm (Jc _ _ rfl rfl (.cons _ Sf) Sf trivial trivial ⟨Rf,Rf,Rf,Rf,Jg (Jz Om),Rf,trivial⟩)
  ·rw [if_pos rfl] at k4
   rcases hsh with ⟨rfl,hk,rfl,rfl⟩ | ⟨rfl | rfl,rfl,rfl,hk⟩ | ⟨rfl,rfl⟩ | rfl | rfl | rfl | ⟨rfl,hk⟩
   ·refine stp ?_
    refine Ja rfl rfl (JbM 32 Dc) ⟨Rf,trivial⟩ fun nx3=> ?_
    rw [show kof 32=(1,false) from by decide]
    refine stp ?_
    have hk:k+4≤64:=hk
    have k5:(Jp (fun k=> Jab b k) (l.drop (i+1)) JbF).1 (Jab b k)=some V:=by simpa [Jc1] using k4
    refine Ja rfl rfl (JuV b hb Om k Om) ⟨Rf,Jg (Ju Dm Dm),trivial⟩ fun nx4=> ?_
    refine stp ?_
    exact back (i+1,Jab b k,s+1,nx4) ⟨by dsimp only;omega,Jrj hb k,by dsimp only;omega,k5⟩ Dm (Jc _ _ rfl rfl (.cons _ Sf) Sf trivial trivial ⟨Rf,Rf,Rf,Rf,Lw,Lw,trivial⟩)
   ·refine stp ?_
    refine Ja rfl rfl (JbM 84 Dc) ⟨Rf,trivial⟩ fun nx3=> ?_
    rw [show kof 84=(21,false) from by decide]
    refine stp ?_
    have k5:(Jp (fun k=> Jab b k) (l.drop (i+1)) JbF).1 (A&&& k)=some V:=by simpa [Jc1] using k4
    refine Ja rfl rfl (Jsz A k k2 (hk rfl) b) ⟨AVle.os_sl.trans (AVle.sl_fun fun k hk=> by match k,hk with | 0,_=> rfl | 1,_=> rfl | 2,_=> exact congrArg (fun z=> AV.ag [u16 z,u8 0,u8 0,u32 0]) e92 | 3,_=> rfl),Rf,trivial⟩ fun nx4=> ?_
    refine stp ?_
    exact back (i+1,A&&& k,s+1,nx4) ⟨by dsimp only;omega,Nat.lt_of_le_of_lt Nat.and_le_left k2,by dsimp only;omega,k5⟩ Dm (Jc _ _ rfl rfl (.cons _ Sf) Sf trivial trivial ⟨Rf,Rf,Rf,Rf,Lw,Lw,trivial⟩)
   ·refine stp ?_
    refine Ja rfl rfl (JbM 6 Dc) ⟨Rf,trivial⟩ fun nx3=> ?_
    rw [show kof 6=(14,false) from by decide]
    refine stp ?_
    have k5:V=k:=by simpa [Jc1] using k4.symm
    subst k5
    exact Jr rfl ⟨.tup [u32 V,int (s+1:Nat),Ji true],⟨[], [],nx3,0⟩,AVle.tups (cs:= [_,_,_]) ⟨Rf,Lw,Rf,trivial⟩,Jq _ _ rfl (.cons _ Sf) Sf trivial trivial,⟨s+1,rfl⟩,rfl,rfl⟩
   ·refine stp ?_
    refine Ja rfl rfl (JbM 5 Dc) ⟨Rf,trivial⟩ fun nx3=> ?_
    rw [show kof 5=(13,false) from by decide]
    refine stp ?_
    have k5:JaO (Jp (fun k=> Jab b k) (l.drop (i+1)) JbF).1 (Jp (fun k=> Jab b k) (l.drop (i+1)) JbF).2 t A=some V:=by simpa [Jc1] using k4
    intro c2 hc2
    by_cases h0:t=0
    ·have hc3:c2=false:=hc2.trans (by rw [h0];rfl)
     clear hc2
     cases hc3
     unfold JaO at k5
     rw [if_pos h0] at k5
     refine stp ?_
     exact back (i+1,A,s+1,nx3) ⟨by dsimp only;omega,k2,by dsimp only;omega,k5⟩ Dm (Jc _ _ rfl rfl (.cons _ Sf) Sf trivial trivial ⟨Rf,Rf,Rf,Rf,Lw,Lw,trivial⟩)
    ·have hc3:c2=true:=hc2.trans (bne_iff_ne.2 Dm)
     clear hc2
     cases hc3
     obtain ⟨j,j1,j2,j3,j4⟩:=hjmp t (.inl rfl) h0
     unfold JaO at k5
     rw [if_neg h0,j4] at k5
     refine stp ?_
     refine Ja rfl rfl (Jdc l hl h.nd j t j2 j3 h0) ⟨Rf,Rf,trivial⟩ fun nx4=> ?_
     refine stp ?_
     exact back (j,A,s+1,nx4) ⟨by dsimp only;omega,k2,by dsimp only;omega,k5⟩ Dm (Jc _ _ rfl rfl (.cons _ Sf) Sf trivial trivial ⟨Rf,Rf,Rf,Rf,Rf,Lw,trivial⟩)
   ·refine stp ?_
    refine Ja rfl rfl (JbM 21 Dc) ⟨Rf,trivial⟩ fun nx3=> ?_
    rw [show kof 21=(25,false) from by decide]
    refine stp ?_
    have k6:(if JcV 21 A k=true then JaO (Jp (fun k=> Jab b k) (l.drop (i+1)) JbF).1 (Jp (fun k=> Jab b k) (l.drop (i+1)) JbF).2 t A else JaO (Jp (fun k=> Jab b k) (l.drop (i+1)) JbF).1 (Jp (fun k=> Jab b k) (l.drop (i+1)) JbF).2 f A)=some V:=by simpa [Jc1] using k4
    intro c hc
    cases c with
    | true=>
      have hp:A=k:=Int.ofNat_inj.1 (eq_of_beq hc.symm)
      have k5:=k6
      rw [if_pos (by simp [JcV,hp])] at k5
      refine stp ?_
      intro c2 hc2
      by_cases h0:t=0
      ·have hc3:c2=false:=hc2.trans (by rw [h0];rfl)
       clear hc2
       cases hc3
       unfold JaO at k5
       rw [if_pos h0] at k5
       refine stp ?_
       exact back (i+1,A,s+1,nx3) ⟨by dsimp only;omega,k2,by dsimp only;omega,k5⟩ Dm (Jc _ _ rfl rfl (.cons _ Sf) Sf trivial trivial ⟨Rf,Rf,Rf,Rf,Lw,Lw,trivial⟩)
      ·have hc3:c2=true:=hc2.trans (bne_iff_ne.2 Dm)
       clear hc2
       cases hc3
       obtain ⟨j,j1,j2,j3,j4⟩:=hjmp t (.inl rfl) h0
       unfold JaO at k5
       rw [if_neg h0,j4] at k5
       refine stp ?_
       refine Ja rfl rfl (Jdc l hl h.nd j t j2 j3 h0) ⟨Rf,Rf,trivial⟩ fun nx4=> ?_
       refine stp ?_
       exact back (j,A,s+1,nx4) ⟨by dsimp only;omega,k2,by dsimp only;omega,k5⟩ Dm (Jc _ _ rfl rfl (.cons _ Sf) Sf trivial trivial ⟨Rf,Rf,Rf,Rf,Rf,Lw,trivial⟩)
    | false=>
      have hp:¬(A=k):=fun e=> beq_eq_false_iff_ne.1 hc.symm (congrArg Int.ofNat e)
      have k5:=k6
      rw [if_neg (by simp [JcV,hp];try omega)] at k5
      refine stp ?_
      intro c2 hc2
      by_cases h0:f=0
      ·have hc3:c2=false:=hc2.trans (by rw [h0];rfl)
       clear hc2
       cases hc3
       unfold JaO at k5
       rw [if_pos h0] at k5
       refine stp ?_
       exact back (i+1,A,s+1,nx3) ⟨by dsimp only;omega,k2,by dsimp only;omega,k5⟩ Dm (Jc _ _ rfl rfl (.cons _ Sf) Sf trivial trivial ⟨Rf,Rf,Rf,Rf,Lw,Lw,trivial⟩)
      ·have hc3:c2=true:=hc2.trans (bne_iff_ne.2 Dm)
       clear hc2
       cases hc3
       obtain ⟨j,j1,j2,j3,j4⟩:=hjmp f (.inr rfl) h0
       unfold JaO at k5
       rw [if_neg h0,j4] at k5
       refine stp ?_
       refine Ja rfl rfl (Jdc l hl h.nd j f j2 j3 h0) ⟨Rf,Rf,trivial⟩ fun nx4=> ?_
       refine stp ?_
       exact back (j,A,s+1,nx4) ⟨by dsimp only;omega,k2,by dsimp only;omega,k5⟩ Dm (Jc _ _ rfl rfl (.cons _ Sf) Sf trivial trivial ⟨Rf,Rf,Rf,Rf,Rf,Lw,trivial⟩)
   ·refine stp ?_
    refine Ja rfl rfl (JbM 37 Dc) ⟨Rf,trivial⟩ fun nx3=> ?_
    rw [show kof 37=(26,false) from by decide]
    refine stp ?_
    have k6:(if JcV 37 A k=true then JaO (Jp (fun k=> Jab b k) (l.drop (i+1)) JbF).1 (Jp (fun k=> Jab b k) (l.drop (i+1)) JbF).2 t A else JaO (Jp (fun k=> Jab b k) (l.drop (i+1)) JbF).1 (Jp (fun k=> Jab b k) (l.drop (i+1)) JbF).2 f A)=some V:=by simpa [Jc1] using k4
    intro c hc
    cases c with
    | true=>
      have hp:k < A:=by have:=of_decide_eq_true hc.symm;dsimp only at this;omega
      have k5:=k6
      rw [if_pos (by simp [JcV,hp])] at k5
      refine stp ?_
      intro c2 hc2
      by_cases h0:t=0
      ·have hc3:c2=false:=hc2.trans (by rw [h0];rfl)
       clear hc2
       cases hc3
       unfold JaO at k5
       rw [if_pos h0] at k5
       refine stp ?_
       exact back (i+1,A,s+1,nx3) ⟨by dsimp only;omega,k2,by dsimp only;omega,k5⟩ Dm (Jc _ _ rfl rfl (.cons _ Sf) Sf trivial trivial ⟨Rf,Rf,Rf,Rf,Lw,Lw,trivial⟩)
      ·have hc3:c2=true:=hc2.trans (bne_iff_ne.2 Dm)
       clear hc2
       cases hc3
       obtain ⟨j,j1,j2,j3,j4⟩:=hjmp t (.inl rfl) h0
       unfold JaO at k5
       rw [if_neg h0,j4] at k5
       refine stp ?_
       refine Ja rfl rfl (Jdc l hl h.nd j t j2 j3 h0) ⟨Rf,Rf,trivial⟩ fun nx4=> ?_
       refine stp ?_
       exact back (j,A,s+1,nx4) ⟨by dsimp only;omega,k2,by dsimp only;omega,k5⟩ Dm (Jc _ _ rfl rfl (.cons _ Sf) Sf trivial trivial ⟨Rf,Rf,Rf,Rf,Rf,Lw,trivial⟩)
    | false=>
      have hp:¬(k < A):=fun e=> by have:=of_decide_eq_false hc.symm;dsimp only at this;omega
      have k5:=k6
      rw [if_neg (by simp [JcV,hp];try omega)] at k5
      refine stp ?_
      intro c2 hc2
      by_cases h0:f=0
      ·have hc3:c2=false:=hc2.trans (by rw [h0];rfl)
       clear hc2
       cases hc3
       unfold JaO at k5
       rw [if_pos h0] at k5
       refine stp ?_
       exact back (i+1,A,s+1,nx3) ⟨by dsimp only;omega,k2,by dsimp only;omega,k5⟩ Dm (Jc _ _ rfl rfl (.cons _ Sf) Sf trivial trivial ⟨Rf,Rf,Rf,Rf,Lw,Lw,trivial⟩)
      ·have hc3:c2=true:=hc2.trans (bne_iff_ne.2 Dm)
       clear hc2
       cases hc3
       obtain ⟨j,j1,j2,j3,j4⟩:=hjmp f (.inr rfl) h0
       unfold JaO at k5
       rw [if_neg h0,j4] at k5
       refine stp ?_
       refine Ja rfl rfl (Jdc l hl h.nd j f j2 j3 h0) ⟨Rf,Rf,trivial⟩ fun nx4=> ?_
       refine stp ?_
       exact back (j,A,s+1,nx4) ⟨by dsimp only;omega,k2,by dsimp only;omega,k5⟩ Dm (Jc _ _ rfl rfl (.cons _ Sf) Sf trivial trivial ⟨Rf,Rf,Rf,Rf,Rf,Lw,trivial⟩)
   ·refine stp ?_
    refine Ja rfl rfl (JbM 53 Dc) ⟨Rf,trivial⟩ fun nx3=> ?_
    rw [show kof 53=(27,false) from by decide]
    refine stp ?_
    have k6:(if JcV 53 A k=true then JaO (Jp (fun k=> Jab b k) (l.drop (i+1)) JbF).1 (Jp (fun k=> Jab b k) (l.drop (i+1)) JbF).2 t A else JaO (Jp (fun k=> Jab b k) (l.drop (i+1)) JbF).1 (Jp (fun k=> Jab b k) (l.drop (i+1)) JbF).2 f A)=some V:=by simpa [Jc1] using k4
    intro c hc
    cases c with
    | true=>
      have hp:k≤A:=by have:=of_decide_eq_true hc.symm;dsimp only at this;omega
      have k5:=k6
      rw [if_pos (by simp [JcV,hp])] at k5
      refine stp ?_
      intro c2 hc2
      by_cases h0:t=0
      ·have hc3:c2=false:=hc2.trans (by rw [h0];rfl)
       clear hc2
       cases hc3
       unfold JaO at k5
       rw [if_pos h0] at k5
       refine stp ?_
       exact back (i+1,A,s+1,nx3) ⟨by dsimp only;omega,k2,by dsimp only;omega,k5⟩ Dm (Jc _ _ rfl rfl (.cons _ Sf) Sf trivial trivial ⟨Rf,Rf,Rf,Rf,Lw,Lw,trivial⟩)
      ·have hc3:c2=true:=hc2.trans (bne_iff_ne.2 Dm)
       clear hc2
       cases hc3
       obtain ⟨j,j1,j2,j3,j4⟩:=hjmp t (.inl rfl) h0
       unfold JaO at k5
       rw [if_neg h0,j4] at k5
       refine stp ?_
       refine Ja rfl rfl (Jdc l hl h.nd j t j2 j3 h0) ⟨Rf,Rf,trivial⟩ fun nx4=> ?_
       refine stp ?_
       exact back (j,A,s+1,nx4) ⟨by dsimp only;omega,k2,by dsimp only;omega,k5⟩ Dm (Jc _ _ rfl rfl (.cons _ Sf) Sf trivial trivial ⟨Rf,Rf,Rf,Rf,Rf,Lw,trivial⟩)
    | false=>
      have hp:¬(k≤A):=fun e=> by have:=of_decide_eq_false hc.symm;dsimp only at this;omega
      have k5:=k6
      rw [if_neg (by simp [JcV,hp];try omega)] at k5
      refine stp ?_
      intro c2 hc2
      by_cases h0:f=0
      ·have hc3:c2=false:=hc2.trans (by rw [h0];rfl)
       clear hc2
       cases hc3
       unfold JaO at k5
       rw [if_pos h0] at k5
       refine stp ?_
       exact back (i+1,A,s+1,nx3) ⟨by dsimp only;omega,k2,by dsimp only;omega,k5⟩ Dm (Jc _ _ rfl rfl (.cons _ Sf) Sf trivial trivial ⟨Rf,Rf,Rf,Rf,Lw,Lw,trivial⟩)
      ·have hc3:c2=true:=hc2.trans (bne_iff_ne.2 Dm)
       clear hc2
       cases hc3
       obtain ⟨j,j1,j2,j3,j4⟩:=hjmp f (.inr rfl) h0
       unfold JaO at k5
       rw [if_neg h0,j4] at k5
       refine stp ?_
       refine Ja rfl rfl (Jdc l hl h.nd j f j2 j3 h0) ⟨Rf,Rf,trivial⟩ fun nx4=> ?_
       refine stp ?_
       exact back (j,A,s+1,nx4) ⟨by dsimp only;omega,k2,by dsimp only;omega,k5⟩ Dm (Jc _ _ rfl rfl (.cons _ Sf) Sf trivial trivial ⟨Rf,Rf,Rf,Rf,Rf,Lw,trivial⟩)
   ·refine stp ?_
    refine Ja rfl rfl (JbM 69 Dc) ⟨Rf,trivial⟩ fun nx3=> ?_
    rw [show kof 69=(28,false) from by decide]
    refine stp ?_
    have hk:k < 4294967296:=hk
    have k6:(if JcV 69 A k=true then JaO (Jp (fun k=> Jab b k) (l.drop (i+1)) JbF).1 (Jp (fun k=> Jab b k) (l.drop (i+1)) JbF).2 t A else JaO (Jp (fun k=> Jab b k) (l.drop (i+1)) JbF).1 (Jp (fun k=> Jab b k) (l.drop (i+1)) JbF).2 f A)=some V:=by simpa [Jc1] using k4
    intro c hc
    cases c with
    | true=>
      have hp:(A&&& k)≠0:=fun e=> by have:=bne_iff_ne.1 hc.symm;rw [JkC k2 hk,e] at this;exact this rfl
      have k5:=k6
      rw [if_pos (by simp [JcV,hp])] at k5
      refine stp ?_
      intro c2 hc2
      by_cases h0:t=0
      ·have hc3:c2=false:=hc2.trans (by rw [h0];rfl)
       clear hc2
       cases hc3
       unfold JaO at k5
       rw [if_pos h0] at k5
       refine stp ?_
       exact back (i+1,A,s+1,nx3) ⟨by dsimp only;omega,k2,by dsimp only;omega,k5⟩ Dm (Jc _ _ rfl rfl (.cons _ Sf) Sf trivial trivial ⟨Rf,Rf,Rf,Rf,Lw,Lw,trivial⟩)
      ·have hc3:c2=true:=hc2.trans (bne_iff_ne.2 Dm)
       clear hc2
       cases hc3
       obtain ⟨j,j1,j2,j3,j4⟩:=hjmp t (.inl rfl) h0
       unfold JaO at k5
       rw [if_neg h0,j4] at k5
       refine stp ?_
       refine Ja rfl rfl (Jdc l hl h.nd j t j2 j3 h0) ⟨Rf,Rf,trivial⟩ fun nx4=> ?_
       refine stp ?_
       exact back (j,A,s+1,nx4) ⟨by dsimp only;omega,k2,by dsimp only;omega,k5⟩ Dm (Jc _ _ rfl rfl (.cons _ Sf) Sf trivial trivial ⟨Rf,Rf,Rf,Rf,Rf,Lw,trivial⟩)
    | false=>
      have hp:¬((A&&& k)≠0):=fun e=> by have:=of_decide_eq_false (p:=True) (by have h9:=hc.symm;rw [JkC k2 hk] at h9;rw [bne_iff_ne.2 (by omega:((A&&& k:Nat):Int)≠0)] at h9;cases h9);exact this trivial
      have k5:=k6
      rw [if_neg (by simp [JcV,hp];try omega)] at k5
      refine stp ?_
      intro c2 hc2
      by_cases h0:f=0
      ·have hc3:c2=false:=hc2.trans (by rw [h0];rfl)
       clear hc2
       cases hc3
       unfold JaO at k5
       rw [if_pos h0] at k5
       refine stp ?_
       exact back (i+1,A,s+1,nx3) ⟨by dsimp only;omega,k2,by dsimp only;omega,k5⟩ Dm (Jc _ _ rfl rfl (.cons _ Sf) Sf trivial trivial ⟨Rf,Rf,Rf,Rf,Lw,Lw,trivial⟩)
      ·have hc3:c2=true:=hc2.trans (bne_iff_ne.2 Dm)
       clear hc2
       cases hc3
       obtain ⟨j,j1,j2,j3,j4⟩:=hjmp f (.inr rfl) h0
       unfold JaO at k5
       rw [if_neg h0,j4] at k5
       refine stp ?_
       refine Ja rfl rfl (Jdc l hl h.nd j f j2 j3 h0) ⟨Rf,Rf,trivial⟩ fun nx4=> ?_
       refine stp ?_
       exact back (j,A,s+1,nx4) ⟨by dsimp only;omega,k2,by dsimp only;omega,k5⟩ Dm (Jc _ _ rfl rfl (.cons _ Sf) Sf trivial trivial ⟨Rf,Rf,Rf,Rf,Rf,Lw,trivial⟩)
end Go.Proofs.W

namespace Go.Proofs.W
open Go.Vl
set_option maxRecDepth 100000
theorem Jzc:Tryz.prog.cellsOf 102=5:=by kernel_rfl
theorem JB9:Tryz.prog.bytesOf 102=32:=by kernel_rfl
set_option maxHeartbeats 8000000 in
theorem Jrk (l:List Itm) (hl:l.length≤1000000000000):Tells Tryz.prog 11 [JaB l] (JaB l):=by
 refine Jd Tryz.func11 rfl rfl fun nx=> ?_
 refine stp ?_
 refine Js (fun s:Nat×Option Nat×Nat=> mk 41 [(0,JaB l),(3, .os 5 s.1 (itF l) (nmN 0 s.2.1)),(4,int s.1)] ⟨[],Jac (nmN 0 s.2.1) (s.1 * 5)++ [],s.2.2,1⟩) (fun s=> s.1≤l.length) (fun s=> l.length - s.1) ?_ ?_
 ·exact ⟨(0,none,nx),Nat.zero_le _,Jc (pm:= []) _ [] rfl rfl Sf Sf trivial trivial ⟨Rf,AVle.os_nil,Rf,trivial⟩⟩
 ·rintro ⟨i,oi,nx2⟩ h3
  dsimp only at h3
  refine stp ?_
  intro c h5;cases c
  ·have h6:=Jw h5
   dsimp only at h6
   obtain rfl:i=l.length:=by omega
   refine stp ?_
   exact Jb rfl AVle.os_sl
  ·have h6:=Jv h5
   dsimp only at h6
   have hi:i < l.length:=by omega
   refine stp ?_
   refine Ja4 29 [] (fun i=> match i with | 28=> true | _=> false) (fun _=> false) [0,1,2,3,4,5,6,7,8,9,10,11,12,13,14,15,16,17,18,19,20,21,22,23,24,25,26,27,28] (by kernel_rfl) (by kernel_rfl) (HB.refl _) ?_
   refine stp ?_
   refine ⟨⟨by dsimp only;omega,by dsimp only;omega⟩, ?_⟩
   refine stp ?_
   refine ⟨⟨by dsimp only;omega,by dsimp only;omega⟩, ?_⟩
   refine stp ?_
   refine ⟨⟨by dsimp only;omega,by dsimp only;omega⟩, ?_⟩
   refine stp ?_
   refine ⟨⟨by dsimp only;omega,by dsimp only;omega⟩, ?_⟩
   refine stp ?_
   refine ⟨⟨by dsimp only;omega,by dsimp only;omega⟩, ?_⟩
   refine stp ?_
   refine ⟨_,Jbo (e:=102) (c:=5) (pm:= []) (n:=i) (oi:=nmN 0 oi) (sz:=5) (f:=itF l) (fun _ _ _ h=> by cases h) rfl rfl rfl (.inr ⟨_,rfl⟩) (by kernel_rfl) (by kernel_rfl) Jzc (.inr rfl) Jzc rfl (JM rfl) (by rw [JB9];omega) Om,fun r h' hr=> ?_⟩
   obtain ⟨rfl,rfl⟩:=hr
   refine stp ?_
   refine back (i+1,some nx2,nx2+1) Dm Dm (Et (pm:= [((0,nx2),(i+1) * 5)]) rfl rfl trivial ⟨rfl,rfl,trivial⟩ ⟨Rf,(AVle.os_fun (Jbh (fun k hk=> rfl) ?_)).trans (AVle.os_nm rfl),Jg (Jz Dm),trivial⟩)
   rfl
end Go.Proofs.W

namespace Go.Proofs.W
open Go.Vl
set_option maxRecDepth 100000
def JT:Nat→Nat→List Nat
 | 0,_=> []
 | w+1,n=> n % 256::JT w (n / 256)
theorem Jmo:∀w n,(JT w n).length=w
 | 0,_=> rfl
 | w+1,n=> by unfold JT;rw [List.length_cons,Jmo]
theorem JfU:∀w n,okB (JT w n)
 | 0,_=> fun x hx=> by cases hx
 | w+1,n=> fun x hx=> by
   unfold JT at hx
   rcases List.mem_cons.1 hx with rfl | hx
   ·exact Nat.mod_lt _ Dc
   ·exact JfU w _ x hx
theorem JhF:∀w n,JT (w+1) n=JT w n++ [n / 256 ^ w % 256]
 | 0,n=> by simp [JT]
 | w+1,n=> by
   rw [show JT (w+1+1) n=n % 256::JT (w+1) (n / 256) from rfl,JhF w,show JT (w+1) n=n % 256::JT w (n / 256) from rfl,List.cons_append,Nat.div_div_eq_div_mul,Nat.pow_succ,Nat.mul_comm 256]
def Jdm (r:Rec) (i:Nat):List Nat:=JT 4 r.num++JT 4 r.arch++JT 8 r.ptr++([r.a0,r.a1,r.a2,r.a3,r.a4,r.a5].take i).flatMap (JT 8)
def Jg1 (r:Rec):List Nat:=Jdm r 6
theorem JjF (r:Rec) {i:Nat} (h:i≤6):(Jdm r i).length=16+8 * i:=by
 rcases (by omega:i=0∨i=1∨i=2∨i=3∨i=4∨i=5∨i=6) with rfl | rfl | rfl | rfl | rfl | rfl | rfl <;> rfl
theorem JuW (r:Rec) {i:Nat} (h:i < 6):Jdm r (i+1)=Jdm r i++JT 8 ([r.a0,r.a1,r.a2,r.a3,r.a4,r.a5].getD i 0):=by
 rcases (by omega:i=0∨i=1∨i=2∨i=3∨i=4∨i=5) with rfl | rfl | rfl | rfl | rfl | rfl <;> simp [Jdm]
theorem JyP (r:Rec):(Jg1 r).length=64:=JjF r (Nat.le_refl 6)
theorem JyQ (r:Rec):∀i,i≤6→okB (Jdm r i):=fun i _ x hx=> by
 unfold Jdm at hx
 rcases List.mem_append.1 hx with hx | hx
 ·rcases List.mem_append.1 hx with hx | hx
  ·rcases List.mem_append.1 hx with hx | hx
   ·exact JfU _ _ x hx
   ·exact JfU _ _ x hx
  ·exact JfU _ _ x hx
 ·obtain ⟨a,_,hx⟩:=List.mem_flatMap.1 hx
  exact JfU _ _ x hx
theorem JAA (r:Rec):okB (Jg1 r):=JyQ r 6 (Nat.le_refl 6)
theorem JyR {r:Rec} (h:r.ok) (i:Nat): [r.a0,r.a1,r.a2,r.a3,r.a4,r.a5].getD i 0 < 18446744073709551616:=by
 obtain ⟨h1,h2,h3,h4,h5,h6,h7,h8,h9⟩:=h
 match i with
 | 0=> exact h4
 | 1=> exact h5
 | 2=> exact h6
 | 3=> exact h7
 | 4=> exact h8
 | 5=> exact h9
 | n+6=> simp [List.getD]
end Go.Proofs.W

namespace Go.Proofs.W
open Go.Vl
set_option maxRecDepth 100000
def u8F (l:List Nat):Nat→AV:=fun k=> u8 (l.getD k 0:Nat)
theorem bR8:Tryz.prog.bytesOf 5=1:=by kernel_rfl
theorem cR8:Tryz.prog.cellsOf 5=1:=by kernel_rfl
theorem Jrl {L M:List Nat} {c s:Nat} (i:Option Nat) (h:i=some s):AVle (.os 1 (L.length+M.length) (Jcu L.length (u8F L) (u8F M)) (some (c,s))) (.os 1 (L++M).length (u8F (L++M)) (nmN 0 i)):=by
 subst h
 rw [List.length_append]
 refine AVle.trans (AVle.os_fun (f':=u8F (L++M)) fun k hk=> ?_) (AVle.os_nm rfl)
 show (bif Nat.blt k L.length then u8F L k else u8F M (k - L.length))=u8F (L++M) k
 unfold u8F
 cases h:Nat.blt k L.length
 ·have:L.length≤k:=by
   rcases Nat.lt_or_ge k L.length with h' | h'
   ·have h2:Nat.blt k L.length=true:=by simpa using h'
    rw [h] at h2;cases h2
   ·exact h'
  rw [show (L++M).getD k 0=M.getD (k - L.length) 0 by simp [List.getD,List.getElem?_append_right this]];rfl
 ·have:k < L.length:=by simpa using h
  rw [show (L++M).getD k 0=L.getD k 0 by simp [List.getD,List.getElem?_append_left this]];rfl
def Jzd (l:List Nat) (r:AV) (h':Heap):Prop:=∃oi nx' nn',r= .os 1 l.length (u8F l) (nmN 0 oi)∧h'=⟨[],Jac (nmN 0 oi) l.length,nx',nn'⟩
theorem w8r {x:Nat} (h:x < 18446744073709551616):IntKind.u64.wrap (x:Int)=(x:Int):=by show (x:Int) % 18446744073709551616=_;omega
theorem JAB (n i:Nat):n / 256 ^ i / 256=n / 256 ^ (i+1):=by rw [Nat.div_div_eq_div_mul,Nat.pow_succ]
theorem wr8 (n:Nat):IntKind.u8.wrap (((n % 256:Nat):Int))=((n % 256:Nat):Int):=by show ((n % 256:Nat):Int) % 256=_;omega
theorem Jrm (w n:Nat) (hw:w≤8) (hn:n < 18446744073709551616) (nx:Nat):ECall Tryz.prog 88 [u64 n,int w] ⟨[], [],nx,0⟩ (Jzd (JT w n)):=by
 refine ECall.wk (Jn Tryz.func88 rfl rfl ?_)
 refine stp ?_
 refine Js (fun y:Nat×Option Nat×Nat=> mk 21 [(0,u64 (n / 256 ^ y.1:Nat)),(1,int w),(5, .os 1 y.1 (u8F (JT y.1 n)) (nmN 0 y.2.1)),(6,int y.1)] ⟨[],Jac (nmN 0 y.2.1) y.1,y.2.2,1⟩) (fun y=> y.1≤w∧(y.2.1=none→y.1=0)) (fun y=> w - y.1) ?_ ?_
 ·exact ⟨(0,none,nx),⟨Nat.zero_le _,fun _=> rfl⟩,Jc (pm:= []) [] [] rfl rfl .slnil .slnil trivial trivial ⟨by rw [Nat.pow_zero,Nat.div_one];exact Rf,Rf,AVle.os_nil,Rf,trivial⟩⟩
 ·rintro ⟨i,oi,nx2⟩ ⟨h1,h2⟩
  dsimp only at h1 h2
  have hlen:=Jmo i n
  refine stp ?_
  intro c g;cases c
  ·have g:=Jw g
   dsimp only at g
   obtain rfl:i=w:=by omega
   refine stp ?_
   exact Jr rfl ⟨_,_,(AVle.of_eq (congrArg (fun k:Nat=> AV.os 1 k (u8F (JT i n)) (nmN 0 oi)) hlen.symm)),Jq (bx:= []) (pm:=Jac (nmN 0 oi) (JT i n).length) (nn:=1) [] (Jac (nmN 0 oi) i) rfl (List.nil_sublist _) Sf trivial (by rw [hlen];exact Pf),oi,nx2,1,rfl,rfl⟩
  ·have g:=Jv g
   dsimp only at g
   have hi:i < w:=by omega
   refine Jy ?_
   refine JE (fun n=> match n with | 1=> true | _=> false) 7 ?_
   refine stp ?_
   refine JdK (e:=5) (c:=1) (pm:= []) (n:=i) (oi:=nmN 0 oi) (sz:=1) (f:=u8F (JT i n)) rfl rfl (.inr ⟨_,rfl⟩) (by kernel_rfl) (by kernel_rfl) cR8 (.inr rfl) (by rfl) ?_ (JM rfl) (by rw [bR8];omega) Om ?_
   ·show Jac (nmN 0 oi) i=_
    rw [Nat.mul_one,List.append_nil]
   refine stp ?_
   refine back (i+1,some nx2,nx2+1) ⟨by dsimp only;omega,fun h=> by cases h⟩ Dm (Jc (pm:= [((0,nx2),i+1)]) [] [((1,nx2),(i+1) * 1)] rfl rfl .slnil Sf trivial ⟨rfl,Nat.mul_one _,trivial⟩ ⟨?_,Rf, ?_,Jg (Jz Dm),trivial⟩)
   ·exact AVle.of_eq (congrArg u64 (by show IntKind.u64.wrap ((n / 256 ^ i / 256:Nat):Int)=((n / 256 ^ (i+1):Nat):Int);rw [JAB];have hq:=Nat.lt_of_le_of_lt (Nat.div_le_self n (256 ^ (i+1))) hn;generalize n / 256 ^ (i+1)=q at hq⊢;show (q:Int) % 18446744073709551616=_;omega))
   ·refine (AVle.os_fun (Jbh (fun k hk=> ?_) ?_)).trans (AVle.os_nm rfl)
    ·show u8F (JT i n) k=u8F (JT (i+1) n) k
     unfold u8F
     rw [JhF,show (JT i n++ [n / 256 ^ i % 256]).getD k 0=(JT i n).getD k 0 by simp [List.getD,List.getElem?_append_left (show k < (JT i n).length by omega)]]
    ·show u8 (IntKind.u8.wrap ((n / 256 ^ i % 256:Nat):Int))=u8F (JT (i+1) n) i
     unfold u8F
     rw [JhF,wr8,show (JT i n++ [n / 256 ^ i % 256]).getD i 0=n / 256 ^ i % 256 by simp [List.getD,hlen]]
theorem JhG (w n:Nat) (hw:w≤8) (hn:n < 18446744073709551616) (nx:Nat):ECall Tryz.prog 46 [u64 n,int w,Ji false] ⟨[], [],nx,0⟩ (Jzd (JT w n)):=by
 refine ECall.wk (Jn Tryz.func46 rfl rfl ?_)
 refine stp ?_
 refine Jf (xs:= [u64 n,int w]) [] [] 1 rfl rfl rfl rfl ⟨Rf,Rf,trivial⟩ (Jrm w n hw hn nx) Bf Pf rfl fun r h' hq=> ?_
 obtain ⟨oi,nx',nn',rfl,rfl⟩:=hq
 refine stp ?_
 exact Jr rfl ⟨_,_,Rf,HLe.refl _,oi,nx',1,rfl,rfl⟩
theorem Jrn {ops:Array Oper} {B:List (Vl.Id×Own)} {o:Oper} {E:Env} {fo:Operand} {args:Array Operand} {tys:Array TypeId} {first caps:List AV} (nn w n:Nat) (hw:w≤8) (hn:n < 18446744073709551616) (hB:HB B E.h.bx) (hg:o.guard=none)
 (ho:o.op= .call { callee:= .value fo,args:=args,argTypes:=tys}) (hf:E.ev fo= .fn (.func 46) first caps) (hl':LeL (first++args.toList.map E.ev++caps) [u64 n,int w,Ji false]):
 Eff Tryz.prog ops B o E fun r h'=> ∃oi nx',r= .os 1 (JT w n).length (u8F (JT w n)) (nmN nn oi)∧h'=⟨E.h.bx,Jac (nmN nn oi) (JT w n).length++E.h.pm,nx',nn+1⟩:=
 JkD hg ho hf ((ECall.frame (h:=E.h) (JhG w n hw hn E.h.nx) E.h.bx E.h.pm (by simp) (by simp) rfl).args hl') fun r h' hq=> by
  obtain ⟨h1',⟨oi,nx',nn',rfl,rfl⟩,rfl⟩:=hq
  refine ⟨.os 1 (JT w n).length (u8F (JT w n)) (nmN nn oi),⟨E.h.bx,Jac (nmN nn oi) (JT w n).length++E.h.pm,nx',nn+1⟩, ?_,⟨by simp, ?_,rfl⟩,⟨oi,nx',rfl,rfl⟩,hB⟩
  ·cases oi
   ·exact Rf
   ·exact AVle.os_nm rfl
  ·cases oi <;> simp [Jac,nmN]
theorem JuX {o:Oper} {E:Env} {p:Operand} {i:Nat} {r:Rec} (ho:o.op= .load 29 p) (hp:E.ev p= .rp (((JkJ r).drop 3).drop (Int.toNat (i:Int) * Tryz.prog.cellsOf 29))) (h:i < 6):Vl.Yields Tryz.prog o E (u64 ([r.a0,r.a1,r.a2,r.a3,r.a4,r.a5].getD i 0:Nat)):=by
 rcases (by omega:i=0∨i=1∨i=2∨i=3∨i=4∨i=5) with rfl | rfl | rfl | rfl | rfl | rfl
 all_goals exact Jbn (C:=none) (by rw [ho];show Jdi _ _ _ _=_;rw [hp];rfl) trivial
set_option maxHeartbeats 2000000 in
theorem Jro (r:Rec) (hr:r.ok):Tells Tryz.prog 15 [JCc r,Ji false] (Jff (Jg1 r)):=by
 obtain ⟨h1,h2,h3,h4,h5,h6,h7,h8,h9⟩:=id hr
 refine Jd Tryz.func15 rfl rfl fun nx=> ?_
 refine stp ?_
 refine Ja7 (n:=37) (nx:=nx+1) (nn:=1) (pm:= []) (bx:= []) (L:= [(1,Ji false),(2, .rp (JkJ r))]) (df:=some []) [((0,nx), .c (JkJ r))] rfl rfl rfl (List.Perm.refl _) Sf ⟨Frz.refl _,Frz.bp (.head _) rfl,trivial⟩ ?_
 unfold JkJ
 refine Ja4 11 [] (fun i=> match i with | 4=> true | 9=> true | 10=> true | _=> false) (fun _=> false) [0,1,2,3,5,6,7,8,4,9,10] (by kernel_rfl) (by kernel_rfl) (fun _ _ _ h=> by cases h) ?_
 refine stp ?_
 refine ⟨_,Jrn 2 4 r.num Dc Om (fun _ _ _ h=> by cases h) rfl rfl rfl ⟨AVle.of_eq (congrArg u64 (w8r Om)),Rf,Rf,trivial⟩,fun r' h' hr=> ?_⟩
 obtain ⟨oi,nx1,rfl,rfl⟩:=hr
 refine stp ?_
 refine ⟨_,Jrn 3 4 r.arch Dc Om (fun _ _ _ h=> by cases h) rfl rfl rfl ⟨AVle.of_eq (congrArg u64 (w8r Om)),Rf,Rf,trivial⟩,fun r' h' hr=> ?_⟩
 obtain ⟨oj,nx2,rfl,rfl⟩:=hr
 refine stp ?_
 refine ⟨_,Jib (e:=5) (oi:=nmN 2 oi) (n:=4) (m:=4) (f:=u8F (JT 4 r.num)) (f':=u8F (JT 4 r.arch)) (sz:=1) (szx:=1) (fun _ _ _ h=> by cases h) rfl rfl rfl (.inr ⟨nmN 3 oj,rfl⟩) (by kernel_rfl) (by kernel_rfl) (.inr cR8.symm) (.inr cR8.symm) (fun i hi=> ?_) (fun _ _=> rfl) (fun _=> by rw [bR8];omega) (fun _=> by omega),fun r' h' hr=> ?_⟩
 ·rw [cR8];cases oi with
  | none=> cases hi
  | some s=> cases hi;cases oj <;> rfl
 rcases hr with ⟨h0,_⟩ | ⟨_,rfl,rfl⟩
 ·exact absurd h0 Om
 refine Jy ?_
 refine AW.le (Jc (n:=37) (nn:=1) (bx:= []) (pm:= [((0,nx2),8)]) (L:= [(1,Ji false),(2, .rp (JkJ r)),(5, .os 1 (JT 4 r.num++JT 4 r.arch).length (u8F (JT 4 r.num++JT 4 r.arch)) (some (0,nx2)))]) [] [((4,nx2),(4+4) * Tryz.prog.cellsOf 5)] rfl rfl .slnil (.cons_cons _ (List.nil_sublist _)) trivial ⟨rfl,by rw [cR8],trivial⟩ ⟨Rf,Rf,by (conv=> arg 1;whnf);exact Jrl (L:=JT 4 r.num) (M:=JT 4 r.arch) (some nx2) rfl,trivial⟩) ?_
 unfold JkJ
 refine Jy ?_
 refine JE (fun n=> match n with | 1=> true | _=> false) 7 ?_
 refine stp ?_
 refine Jf (xs:= [u64 r.ptr,int (8:Nat),Ji false]) [] [((0,nx2),8)] 1 rfl rfl rfl rfl ⟨Rf,Rf,Rf,trivial⟩ (JhG 8 r.ptr Dc h3 (nx2+1)) Bf Pf rfl fun r' h' hq=> ?_
 obtain ⟨ok,nx3,nn3,rfl,rfl⟩:=hq
 refine stp ?_
 refine AOp.kp (Jbs (e:=5) (oi:=some (0,nx2)) (n:=8) (m:=8) (f:=u8F (JT 4 r.num++JT 4 r.arch)) (f':=u8F (JT 8 r.ptr)) (sz:=1) (szx:=1) rfl rfl (.inr ⟨nmN 0 ok,rfl⟩) (by kernel_rfl) (by kernel_rfl) (.inr cR8.symm) (.inr cR8.symm) (fun i hi=> ?_) (fun _ _=> rfl) (fun _=> by rw [bR8];omega) (fun _=> by omega) (fun h=> by omega) (fun _=> ?_))
 ·rw [cR8];cases hi;rfl
 refine stp ?_
 refine Js (fun y:Nat×Nat×Nat=> mk 37 [(1,Ji false),(2, .rp [u32 r.num,u32 r.arch,u64 r.ptr,u64 r.a0,u64 r.a1,u64 r.a2,u64 r.a3,u64 r.a4,u64 r.a5]),(5, .os 1 (Jdm r y.1).length (u8F (Jdm r y.1)) (some (0,y.2.1))),(6,int y.1)] ⟨[], [((0,y.2.1),(Jdm r y.1).length)],y.2.2,1⟩) (fun y=> y.1≤6) (fun y=> 6 - y.1) ?_ ?_
 ·refine ⟨(0,nx3,nx3+1),Nat.zero_le _,Jc (pm:= [((0,nx3),16)]) [] [((1,nx3),(8+8) * Tryz.prog.cellsOf 5)] rfl rfl .slnil (.cons_cons _ (List.nil_sublist _)) trivial ⟨rfl,by rw [cR8],trivial⟩ ⟨Rf,Rf, ?_,Rf,trivial⟩⟩
  (conv=> arg 1;whnf)
  exact Jrl (L:=JT 4 r.num++JT 4 r.arch) (M:=JT 8 r.ptr) (some nx3) rfl
 ·rintro ⟨i,s,nx4⟩ hi6
  dsimp only at hi6
  refine stp ?_
  intro c g;cases c
  ·have g:=Jw g
   dsimp only at g
   obtain rfl:i=6:=by omega
   refine stp ?_
   exact Jb rfl AVle.os_sl
  ·have g:=Jv g
   dsimp only at g
   have hi:i < 6:=by omega
   have hlen:=JjF r (Nat.le_of_lt hi)
   refine Jy ?_
   refine JE (fun n=> match n with | 1=> true | 4=> true | _=> false) 9 ?_
   refine stp ?_
   refine ⟨⟨by omega,by omega, ?_⟩, ?_⟩
   ·rw [show Tryz.prog.cellsOf 29=1 by kernel_rfl,Nat.mul_one];show Int.toNat (i:Int)≤6;omega
   refine stp ?_
   refine AOp.of_yields (JuX rfl rfl hi) ?_
   refine stp ?_
   refine Jf (xs:= [u64 ([r.a0,r.a1,r.a2,r.a3,r.a4,r.a5].getD i 0:Nat),int (8:Nat),Ji false]) [] [((0,s),(Jdm r i).length)] 1 rfl rfl rfl rfl ⟨Rf,Rf,Rf,trivial⟩ (JhG 8 _ Dc (JyR hr i) nx4) Bf Pf rfl fun r' h' hq=> ?_
   obtain ⟨ok,nx5,nn5,rfl,rfl⟩:=hq
   refine stp ?_
   refine AOp.kp (Jbs (e:=5) (oi:=some (0,s)) (n:=(Jdm r i).length) (m:=8) (f:=u8F (Jdm r i)) (f':=u8F (JT 8 ([r.a0,r.a1,r.a2,r.a3,r.a4,r.a5].getD i 0))) (sz:=1) (szx:=1) rfl rfl (.inr ⟨nmN 0 ok,rfl⟩) (by kernel_rfl) (by kernel_rfl) (.inr cR8.symm) (.inr cR8.symm) (fun i hi=> ?_) (fun _ _=> rfl) (fun _=> by rw [bR8];omega) (fun _=> by omega) (fun h=> by omega) (fun _=> ?_))
   ·rw [cR8,Nat.mul_one];cases hi;rfl
   refine stp ?_
   refine back (i+1,nx5,nx5+1) Dm Dm (Jc (pm:= [((0,nx5),(Jdm r (i+1)).length)]) [] [((1,nx5),((Jdm r i).length+8) * Tryz.prog.cellsOf 5)] rfl rfl .slnil (.cons_cons _ (List.nil_sublist _)) trivial ⟨rfl,by rw [cR8,JjF r hi,hlen];omega,trivial⟩ ⟨Rf,Rf, ?_,Jg (Jz Dm),trivial⟩)
   dsimp only
   rw [JuW r hi]
   (conv=> arg 1;whnf)
   exact Jrl (L:=Jdm r i) (M:=JT 8 ([r.a0,r.a1,r.a2,r.a3,r.a4,r.a5].getD i 0)) (some nx5) rfl
end Go.Proofs.W

namespace Go.Proofs.W
open Go.Vl
set_option maxRecDepth 100000
theorem Jbe {b:List Nat} {k m:Nat} (h0:b.getD k 0=m % 256) (h1:b.getD (k+1) 0=m / 256 % 256) (h2:b.getD (k+2) 0=m / 256 / 256 % 256) (h3:b.getD (k+3) 0=m / 256 / 256 / 256 % 256):Jab b (k:Nat)=m % 4294967296:=by
 show ((((0 * 256+b.getD (k+4 - 1 - 0) 0) * 256+b.getD (k+4 - 1 - 1) 0) * 256+b.getD (k+4 - 1 - 2) 0) * 256+b.getD (k+4 - 1 - 3) 0)=_
 rw [show k+4 - 1 - 0=k+3 by omega,show k+4 - 1 - 1=k+2 by omega,show k+4 - 1 - 2=k+1 by omega,show k+4 - 1 - 3=k by omega,h0,h1,h2,h3]
 omega
theorem Jmp {r:Rec} (hr:r.ok):Words (fun k=> Jab (Jg1 r) (k:Nat)) r:=by
 obtain ⟨g1,g2,g3,g4,g5,g6,g7,g8,g9⟩:=hr
 have hi:∀m:Nat,m / 256 / 256 / 256 / 256=m / 4294967296:=fun m=> by omega
 have hd:∀m:Nat,m < 18446744073709551616→m / 4294967296 % 4294967296=m / 4294967296:=fun m h=> by omega
 refine ⟨?_, ?_,fun i h=> ?_,fun i h=> ?_⟩
 ·exact (Jbe (m:=r.num) rfl rfl rfl rfl).trans (Nat.mod_eq_of_lt g1)
 ·exact (Jbe (m:=r.arch) rfl rfl rfl rfl).trans (Nat.mod_eq_of_lt g2)
 ·rcases (by omega:i=0∨i=1∨i=2∨i=3∨i=4∨i=5) with rfl | rfl | rfl | rfl | rfl | rfl
  ·exact Jbe (m:=r.a0) rfl rfl rfl rfl
  ·exact Jbe (m:=r.a1) rfl rfl rfl rfl
  ·exact Jbe (m:=r.a2) rfl rfl rfl rfl
  ·exact Jbe (m:=r.a3) rfl rfl rfl rfl
  ·exact Jbe (m:=r.a4) rfl rfl rfl rfl
  ·exact Jbe (m:=r.a5) rfl rfl rfl rfl
 ·rcases (by omega:i=0∨i=1∨i=2∨i=3∨i=4∨i=5) with rfl | rfl | rfl | rfl | rfl | rfl
  ·exact (Jbe (m:=r.a0 / 256 / 256 / 256 / 256) rfl rfl rfl rfl).trans (by rw [hi];exact hd _ g4)
  ·exact (Jbe (m:=r.a1 / 256 / 256 / 256 / 256) rfl rfl rfl rfl).trans (by rw [hi];exact hd _ g5)
  ·exact (Jbe (m:=r.a2 / 256 / 256 / 256 / 256) rfl rfl rfl rfl).trans (by rw [hi];exact hd _ g6)
  ·exact (Jbe (m:=r.a3 / 256 / 256 / 256 / 256) rfl rfl rfl rfl).trans (by rw [hi];exact hd _ g7)
  ·exact (Jbe (m:=r.a4 / 256 / 256 / 256 / 256) rfl rfl rfl rfl).trans (by rw [hi];exact hd _ g8)
  ·exact (Jbe (m:=r.a5 / 256 / 256 / 256 / 256) rfl rfl rfl rfl).trans (by rw [hi];exact hd _ g9)
end Go.Proofs.W

namespace Go.Proofs.W
open Go.Vl
set_option maxRecDepth 100000
def z20:List Nat:=List.replicate 64 0
theorem JBB:Jh7 Tryz.prog 5 z20.length=some (z20.map fun k:Nat=> u8 k):=by kernel_rfl
theorem JAC:(Tryz.prog.bytesOf 5:Int) * (z20.length:Nat)≤281474976710656:=by
 rw [show Tryz.prog.bytesOf 5=1 by kernel_rfl];decide
theorem JBC:okB z20:=fun x hx=> by
 obtain rfl:=List.eq_of_mem_replicate hx
 decide
def pEx:Plan:=⟨2147418112,false,fun _=> [],fun _=> []⟩
theorem Jrp (a:Nat):partsP pEx a=if a=2 then [.sub 102 0, .sub 117 1] else []:=by
 unfold partsP partsR
 by_cases h:a=2
 ·rw [if_pos h];subst h;exact List.mergeSort_of_pairwise Dc
 ·rw [if_neg h];exact List.mergeSort_nil
theorem Jze (a:Nat):((partsP pEx a).map Prt.num).Pairwise (· < ·):=by
 rw [Jrp]
 by_cases h:a=2
 ·rw [if_pos h];decide
 ·rw [if_neg h];exact .nil
theorem plan_ex:PlanW pEx where
 s:=⟨fun _=> Nat.zero_le _,(fun _ _ h=> by cases h),(fun _ _ h=> by cases h),fun _=> Nat.zero_le _⟩
 conds:=fun _ _ h=> by cases h
 up:=fun a _=> Jze a
 num:=fun a _ x hx=> by
  unfold partsR at hx
  rcases List.mem_append.1 hx with hx | hx
  ·cases hx
  ·split at hx
   ·rcases List.mem_cons.1 hx with rfl | hx
    ·show 102 < _;decide
    ·rw [List.mem_singleton.1 hx];show 117 < _;decide
   ·cases hx
 sub:=fun _=> .nil
theorem Jmq (W:Nat→Nat):ItsOk (Jcj pEx)∧(Jp W (Jcj pEx) JbF).1 0=some (JeE W (fun _ _=> true) pEx):=
 Jyt ⟨fun _=> .nil,fun a _=> Jze a,fun _ _ _ h=> by cases h⟩ rfl fun _ _ h=> by cases h
theorem Jj2 {P:Plan} (hP:PlanS P):(Jcj P).length≤1000000000000:=(JqI hP).1
def rEx:Rec:=⟨0,3221225534,0,0,0,0,0,0,0⟩
theorem Jrq:rEx.ok:=by unfold Rec.ok rEx;decide
theorem JBD {W:Nat→Nat} (T:Nat→Cnd→Bool) (h4:W 4=3221225534) (h0:W 0=0):JeE W T pEx=2147418112:=by
 unfold JeE
 rw [if_pos h4]
 unfold Jjm
 rw [if_pos rfl,h0]
 unfold Juf JjT
 rw [if_neg Dc,if_neg Dc,Jrp,if_neg Dc];rfl
theorem JCa {W:Nat→Nat} (T:Nat→Cnd→Bool) (h4:W 4=0):JeE W T pEx=2147483648:=by
 unfold JeE
 rw [h4];rfl
theorem JAD:JeE (fun k:Nat=> Jab (Jg1 rEx) (k:Nat)) (fun _ _=> true) pEx=2147418112:=
 JBD (W:=fun k:Nat=> Jab (Jg1 rEx) (k:Nat)) _ (show Jab (Jg1 rEx) ((4:Nat):Int)=rEx.arch from (Jmp Jrq).arch) (show Jab (Jg1 rEx) ((0:Nat):Int)=rEx.num from (Jmp Jrq).num)
theorem JBE:JeE (fun k:Nat=> Jab z20 (k:Nat)) (fun _ _=> true) pEx=2147483648:=
 JCa (W:=fun k:Nat=> Jab z20 (k:Nat)) _ (show Jab z20 ((4:Nat):Int)=0 by kernel_rfl)
set_option maxHeartbeats 400000 in
theorem JjG:Tells Tryz.prog 10 [] (Ji true):=by
 have h1:=Jmn (Jcj pEx) (Jj2 plan_ex.s) (Jg1 rEx) (JAA rEx) (JyP rEx) (Jmq (fun k=> Jab (Jg1 rEx) (k:Nat))).1 _ (Jmq (fun k=> Jab (Jg1 rEx) (k:Nat))).2
 have h2:=Jmn (Jcj pEx) (Jj2 plan_ex.s) z20 JBC rfl (Jmq (fun k=> Jab z20 (k:Nat))).1 _ (Jmq (fun k=> Jab z20 (k:Nat))).2
 rw [JAD] at h1
 rw [JBE] at h2
 refine Jd Tryz.func10 rfl rfl fun nx=> ?_
 refine stp ?_
 refine Ja rfl rfl (Jmm pEx plan_ex) ⟨AVle.ags ⟨Rf,Rf,AVle.os_sl0,AVle.os_sl0,AVle.os_sl0,AVle.os_sl0,AVle.os_sl0,AVle.os_sl0,AVle.os_sl0,trivial⟩,trivial⟩ fun nx1=> ?_
 refine stp ?_
 refine Ja rfl rfl (Jrk (Jcj pEx) (Jj2 plan_ex.s)) ⟨Rf,trivial⟩ fun nx2=> ?_
 generalize Jcj pEx = L at *
 refine stp ?_
 refine Ja rfl rfl (Jro rEx Jrq) ⟨Rf,Rf,trivial⟩ fun nx3=> ?_
 refine stp ?_
 refine Jnn rfl rfl h1 ⟨Rf,Rf,trivial⟩ fun r nx4 hr=> ?_
 obtain ⟨s1,rfl⟩:=hr
 refine Jy ?_
 refine JE (fun i=> match i with | 8=> true | _=> false) 10 ?_
 refine stp ?_
 refine Jvh (xs:=z20) (f:=fun k:Nat=> u8 k) rfl Tryz.underlying59 rfl rfl JBB (fun _=> rfl) JAC Dc ?_
 refine stp ?_
 refine Jnn rfl rfl h2 ⟨Rf,Rf,trivial⟩ fun r nx5 hr=> ?_
 obtain ⟨s2,rfl⟩:=hr
 refine stp ?_
 exact Jb rfl Rf
end Go.Proofs.W

namespace Go.Proofs.W
open Go.Vl
set_option maxRecDepth 100000
def JyS (p:Pol) (l:List TRow):AV:=if (Jaq p l).2≠0 then .tup [Jca Jo1,int (Jaq p l).1,int (Jaq p l).2] else match p.rules.findIdx? (JfQ l) with
 | some i=> .tup [Jca Jo1,int i,int 17]
 | none=> .tup [Jca (JbB p l),int 0,int 0]
def Jgh:List AV:= [u32 0,Ji false, .os 0 0 (fun _=> .any) none, .os 0 0 (fun _=> .any) none, .os 0 0 (fun _=> .any) none, .os 0 0 (fun _=> .any) none, .os 0 0 (fun _=> .any) none, .os 0 0 (fun _=> .any) none, .os 0 0 (fun _=> .any) none]
theorem Jrr:AVle (.ag [u32 0,Ji false, .os 0 0 (fun _=> .any) none, .os 0 0 (fun _=> .any) none, .os 0 0 (fun _=> .any) none, .os 0 0 (fun _=> .any) none, .os 0 0 (fun _=> .any) none, .os 0 0 (fun _=> .any) none, .os 0 0 (fun _=> .any) none]) (Jca Jo1):=
 AVle.ags ⟨Rf,Rf,AVle.os_sl0,AVle.os_sl0,AVle.os_sl0,AVle.os_sl0,AVle.os_sl0,AVle.os_sl0,AVle.os_sl0,trivial⟩
def LpT (nx nx4:Nat) (l:List TRow) (e:List (Nat×AV)):List (Nat×AV):= [(1,JZ l),(4, .bp (2,nx+1) 0),(5,int 0),(6,int 0),(11, .bp (0,nx4) 0),(13, .bp (1,nx4+1) 0),(14, .fn (.func 21) [] [.bp (0,nx4) 0, .bp (1,nx4+1) 0])]++e
def LpB (nx nx4:Nat) (p:Pol) (st:Nat→J4):List (Vl.Id×Own):= [((2,nx+1), .c Jgh),((1,nx4+1), .c (Jbu (JaU (Jh p).dflt) (Jh p).x32 st)),((0,nx4), .c [int (Jh p).dflt.1,int (Jh p).dflt.2,Ji (Jh p).x32,Jaj (Jh p).rules])]++Jbg st
theorem JyT {α:Type} {a b c:α} {t:List α}:(c::a::b::t).Perm (a::b::c::t):=(List.Perm.swap a c _).trans ((List.Perm.swap b c _).cons a)
theorem Jty {k:Nat} (hk:k < 7) {st:Nat→J4} {R:List (Nat×AV)} {s cap:Nat} {tl:List AV} {F:List (Vl.Id×Own)} (h:st k=(R,some (s,cap,tl))):((F++J9 k st)++ [((10+k,s),Own.c (JB R++tl))]).Perm (F++Jbg st):=by
 have hp:=JgT hk st
 rw [h] at hp
 rw [List.append_assoc]
 exact (hp.trans List.perm_append_comm).symm.append_left F
theorem JyU {k:Nat} (hk:k < 7) {st:Nat→J4} {R:List (Nat×AV)} {s cap:Nat} {tl:List AV} {F:List (Vl.Id×Own)}:((F++J9 k st)++ [((10+k,s),Own.c (JB R++tl))]).Perm (F++Jbg (Jaw st k (R,some (s,cap,tl)))):=by
 have hp:=Jk0 hk st (R,some (s,cap,tl))
 rw [List.append_assoc]
 exact (hp.trans List.perm_append_comm).symm.append_left F
theorem JyV {nx nx4:Nat} {p:Pol} {st:Nat→J4}:(LpB nx nx4 p st).Perm (([((1,nx4+1),Own.c (Jbu (JaU (Jh p).dflt) (Jh p).x32 st)),((0,nx4),Own.c [int (Jh p).dflt.1,int (Jh p).dflt.2,Ji (Jh p).x32,Jaj (Jh p).rules])]++Jbg st)++ [((2,nx+1),Own.c Jgh)]):=List.perm_append_comm (l₁:= [((2,nx+1),Own.c Jgh)]) (l₂:=([((1,nx4+1),Own.c (Jbu (JaU (Jh p).dflt) (Jh p).x32 st)),((0,nx4),Own.c [int (Jh p).dflt.1,int (Jh p).dflt.2,Ji (Jh p).x32,Jaj (Jh p).rules])]++Jbg st))
def lpH (nx nx4:Nat) (p:Pol) (cs:List AV):List (Vl.Id×Own):= [((2,nx+1), .c Jgh),((1,nx4+1), .c cs),((0,nx4), .c [int (Jh p).dflt.1,int (Jh p).dflt.2,Ji (Jh p).x32,Jaj (Jh p).rules])]
theorem Jmr {nx nx4:Nat} {p:Pol} {cs cs':List AV} {R R':List (Vl.Id×Own)} (h:OwnLe (.c cs) (.c cs')) (hR:BxLe R R'):BxLe (lpH nx nx4 p cs++R) (lpH nx nx4 p cs'++R'):=⟨rfl,OwnLe.refl _,rfl,h,rfl,OwnLe.refl _,hR⟩
theorem Jj3 {nx nx4:Nat} {p:Pol} {cs cs':List AV} {O:List (Vl.Id×Own)} {i j:Vl.Id} {x:Own} (h:OwnLe (.c cs) (.c cs')) (e:i.2=j.2):BxLe ((lpH nx nx4 p cs++O)++ [(i,x)]) ((lpH nx nx4 p cs'++O)++ [(j,x)]):=⟨rfl,OwnLe.refl _,rfl,h,rfl,OwnLe.refl _,Jjw (OwnLe.refl _) e O⟩
theorem Jtz {k:Nat} (hk:k < 7) {n nx nn s cap:Nat} {L:List (Nat×AV)} {F:List (Vl.Id×Own)} {st:Nat→J4} {D:List (Nat×AV)} {tl:List AV} {df:Option (List DA)}:ELe (mk n L ⟨(F++J9 k st)++ [((10+k,s),Own.c (JB D++tl))], [],nx,nn⟩ df) (mk n L ⟨F++Jbg (Jaw st k (D,some (s,cap,tl))), [],nx,nn⟩ df):=
 Jdx (E:=mk n L ⟨(F++J9 k st)++ [((10+k,s),Own.c (JB D++tl))], [],nx,nn⟩ df) (h':=⟨F++Jbg (Jaw st k (D,some (s,cap,tl))), [],nx,nn⟩) ⟨(JyU hk).symm.map _, .refl _,rfl⟩
theorem Jrs:∀l:List PEnt,JB (l.map JdS)=l.flatMap fun e=> [u32 (e.num:Nat),J0 e.rules]
 | []=> rfl
 | e::l=> by
   show _::_::JB (l.map JdS)=_::_::_
   rw [Jrs l];rfl
theorem Jrt:∀l:List PSub,JB (l.map Jbm)=l.flatMap fun e=> [u32 (e.num:Nat),u32 (e.code:Nat)]
 | []=> rfl
 | e::l=> by
   show _::_::JB (l.map Jbm)=_::_::_
   rw [Jrt l];rfl
instance:Inhabited PEnt:=⟨ent0⟩
instance:Inhabited PSub:=⟨sub0⟩
theorem Jh0 {bs:List (Nat×Own)} {nm:Nat}:∀ {r:J4} {l:List PEnt},Jbd r→r.1=l.map JdS→(∀b∈JbC nm r,((b.1.2,b.2))∈bs)→Frz bs (Jas nm r) (JK 2 JaN ent0 l)
 | (R,none),l,hok,h,_=> by
   have hok:R= []:=hok
   have h:R=l.map JdS:=h
   obtain rfl:l= []:=List.map_eq_nil_iff.1 (h.symm.trans hok)
   exact Frz.of_le AVle.os_sl0
 | (R,some (s,cap,tl)),l,hok,h,hm=> by
   have h:R=l.map JdS:=h
   subst h
   have hm:=hm _ (.head _)
   have hk:=hok.1
   rw [List.length_map] at hk
   exact JgC (E:=fun e:PEnt=> [u32 (e.num:Nat),J0 e.rules]) (fun _=> rfl) (fun _=> rfl) (List.length_map _).symm (by unfold Jag;rw [← Jrs];exact hm) (by rw [List.length_map];exact hk)
theorem JtA {bs:List (Nat×Own)} {nm:Nat}:∀ {r:J4} {l:List PSub},Jbd r→r.1=l.map Jbm→(∀b∈JbC nm r,((b.1.2,b.2))∈bs)→Frz bs (Jas nm r) (JK 2 JgS sub0 l)
 | (R,none),l,hok,h,_=> by
   have hok:R= []:=hok
   have h:R=l.map Jbm:=h
   obtain rfl:l= []:=List.map_eq_nil_iff.1 (h.symm.trans hok)
   exact Frz.of_le AVle.os_sl0
 | (R,some (s,cap,tl)),l,hok,h,hm=> by
   have h:R=l.map Jbm:=h
   subst h
   have hm:=hm _ (.head _)
   have hk:=hok.1
   rw [List.length_map] at hk
   exact JgC (E:=fun e:PSub=> [u32 (e.num:Nat),u32 (e.code:Nat)]) (fun _=> rfl) (fun _=> rfl) (List.length_map _).symm (by unfold Jag;rw [← Jrt];exact hm) (by rw [List.length_map];exact hk)
theorem Jg2 {F:List (Vl.Id×Own)} {st:Nat→J4} {j:Nat} (hj:j < 7):∀b∈JbC (10+j) (st j),((b.1.2,b.2))∈(F++Jbg st).map fun p=> (p.1.2,p.2):=fun b hb=>
 List.mem_map.2 ⟨b,List.mem_append.2 (.inr (List.mem_flatMap.2 ⟨j,List.mem_range.2 hj,hb⟩)),rfl⟩
theorem JyW {i:Nat} {L:List Rul} {r:Rul} (h:i+L.length < 1000000):IntKind.i64.wrap (((i+L.length:Nat):Int)+1)=((i+(L++ [r]).length:Nat):Int):=by
 rw [List.length_append,List.length_singleton,← Nat.add_assoc];exact Jz Om
theorem JAE {L:List Rul} {r:Rul}:((L.map J2).length+1) * 2=((L++ [r]).map J2).length * 2:=by simp
theorem JBF {L:List Rul} {r:Rul} {f':Nat→AV} {a b s:Nat} (hf:f' 0=JdZ (J2 r)):AVle (.os 2 ((L.map J2).length+1) (Jcu (L.map J2).length (Jdl (L.map J2)) f') (some (a,s))) (.os 2 ((L++ [r]).map J2).length (Jdl ((L++ [r]).map J2)) (some (b,s))):=by
 rw [List.map_append];exact Jfq (e:=JdZ) hf rfl
set_option maxHeartbeats 8000000 in
theorem Jru (p:Pol) (l:List TRow) (hp:p.ok) (hp2:∀r∈p.rules,r.conds.length≤12∧r.name.size≤1000000) (hl:l.length≤1000000) (hn:∀r∈l,r.name.size≤maxLen):Tells Tryz.prog 7 [Jc0 p,JZ l] (JyS p l):=by
 have hV:=JqV p l hp hp2 hl hn
 unfold JyS
 by_cases hv:(Jaq p l).2=0
 ·rw [if_neg (fun h=> h hv)]
  have hE:=JmY p l (by have:=(Jcz (Jbl.1 hv).1).1;omega) hl (Jir (Jbl.1 hv).2.1)
  unfold Jyp at hE
  rw [hv] at hV
  generalize (Jaq p l).1=v1 at hV
  cases hx:p.rules.findIdx? (JfQ l) with
  | some i=>
    rw [hx] at hE
    refine Jd Tryz.func7 rfl rfl fun nx=> ?_
    refine stp ?_
    refine Ja rfl rfl hV ⟨Rf,Rf,trivial⟩ fun nx2=> ?_
    refine stp ?_
    refine Ja rfl rfl hE ⟨Rf,Rf,trivial⟩ fun nx3=> ?_
    refine stp ?_
    exact Jl rfl ⟨rfl,trivial⟩ (AVle.tups (cs:= [_,_,_]) ⟨Jrr,Rf,Rf,trivial⟩)
  | none=>
    rw [hx] at hE
    refine Jd Tryz.func7 rfl rfl fun nx=> ?_
    refine stp ?_
    refine Ja rfl rfl hV ⟨Rf,Rf,trivial⟩ fun nx2=> ?_
    refine stp ?_
    refine Ja rfl rfl hE ⟨Rf,Rf,trivial⟩ fun nx3=> ?_
    refine stp ?_
    have hN:=JoH p hp
    unfold JoY at hN
    rw [if_pos (Jbl.1 hv).1] at hN
    have hnr:=Juq (Jbl.1 hv).1
    have hcd:=Js0 p.dflt (Jp5 (Jbl.1 hv).1).1
    refine Ja rfl rfl hN ⟨Rf,trivial⟩ fun nx4=> ?_
    refine stp ?_
    have hc18:=Jkp (Jh p).dflt (Jp5 hnr).1
    refine Ja4 7 [((2,nx4), .c [int (Jh p).dflt.1,int (Jh p).dflt.2,Ji (Jh p).x32,Jaj (Jh p).rules]),((1,nx+1), .c Jgh),((0,nx), .c [int p.dflt.1,int p.dflt.2,Ji p.x32,Jaj p.rules])] (fun i=> match i with | 6=> true | _=> false) (fun i=> match i with | 2=> true | _=> false) [0,1,2,3,4,5,6] (by kernel_rfl) (by kernel_rfl) (HB.refl _) ?_
    refine stp ?_
    refine ⟨_,Jb2 rfl rfl rfl hc18 ⟨Rf,trivial⟩ (NoId.v _), ?_⟩
    refine stp ?_
    refine ⟨_,Jnq (cs:=Jgh) rfl rfl (by kernel_rfl) (HB.cons rfl (HB.cons rfl (HB.one rfl))),fun r h' hr=> ?_⟩
    obtain ⟨rfl,rfl⟩:=hr
    refine stp ?_
    refine Ja5 (fun y:(Nat→J4)×Nat=> mk 131 (LpT nx nx4 l []) ⟨LpB nx nx4 p y.1, [],y.2,20⟩) (fun y=> LpI p l (Jh p).rules.length y.1) ?_ ?_
    ·refine Js (fun y:Nat×(Nat→J4)×Nat=> mk 131 (LpT nx nx4 l [(15,int y.1)]) ⟨LpB nx nx4 p y.2.1, [],y.2.2,20⟩) (fun y=> LpI p l y.1 y.2.1) (fun y=> (Jh p).rules.length - y.1) ?_ ?_
     ·exact ⟨(0,fun _=> ([],none),nx4+2),JB4 p l,Jav (pm:= []) (bx:= [((2,nx+1), .c Jgh),((1,nx4+1), .c (Jbu (JaU (Jh p).dflt) (Jh p).x32 fun _=> ([],none))),((0,nx4), .c [int (Jh p).dflt.1,int (Jh p).dflt.2,Ji (Jh p).x32,Jaj (Jh p).rules])]) (L:= [(1,JZ l),(4, .bp (2,nx+1) 0),(5,int 0),(6,int 0),(11, .bp (0,nx4) 0),(13, .bp (1,nx4+1) 0),(14, .fn (.func 21) [] [.bp (0,nx4) 0, .bp (1,nx4+1) 0]),(15,int (0:Nat))]) _ _ [] rfl rfl JyT (.cons_cons _ (.cons_cons _ (.cons_cons _ (.cons _ .slnil)))) Sf ⟨rfl,OwnLe.refl _,rfl,OwnLe.refl _,rfl,OwnLe.refl _,trivial⟩ trivial ⟨Rf,AVle.bp_nm rfl,Rf,Rf,AVle.bp_nm rfl,AVle.bp_nm rfl,AVle.fn_caps (cs:= [.bp (2,nx4) 0, .bp (3,nx4+1) 0]) (ds:= [.bp (0,nx4) 0, .bp (1,nx4+1) 0]) ⟨AVle.bp_nm rfl,AVle.bp_nm rfl,trivial⟩,Rf,trivial⟩⟩
     ·rintro ⟨i,st,nx5⟩ hI
      refine stp ?_
      intro c g;cases c
      ·have g:=Jw g
       try dsimp only at g
       have hi:i=(Jh p).rules.length:=by have:=hI.1;dsimp only at this;omega
       subst hi
       refine stp ?_
       exact ⟨(st,nx5),hI,Et rfl rfl Bf trivial ⟨Rf,Rf,Rf,Rf,Rf,Rf,Rf,trivial⟩⟩
      ·have g:=Jv g
       try dsimp only at g
       have hi:i < (Jh p).rules.length:=by omega
       refine stp ?_
       refine ⟨Bd, ?_⟩
       refine stp ?_
       refine Ja5 (fun y:List Rul×Option Nat×Nat=> mk 131 (LpT nx nx4 l [(15,int (i+y.1.length:Nat)),(16,JJ ((Jh p).rules.getD i Jo).name),(17, .os 2 (y.1.map J2).length (Jdl (y.1.map J2)) (nmd y.2.1))]) ⟨LpB nx nx4 p st,Jac (nmd y.2.1) ((y.1.map J2).length * 2),y.2.2,20⟩) (fun y=> y.1=JcD ((Jh p).rules.getD i Jo).name ((Jh p).rules.drop i)) ?_ ?_
       ·refine Js (fun y:List Rul×Option Nat×Nat=> mk 131 (LpT nx nx4 l [(15,int (i+y.1.length:Nat)),(16,JJ ((Jh p).rules.getD i Jo).name),(17, .os 2 (y.1.map J2).length (Jdl (y.1.map J2)) (nmd y.2.1))]) ⟨LpB nx nx4 p st,Jac (nmd y.2.1) ((y.1.map J2).length * 2),y.2.2,20⟩)
         (fun y=> y.1++JcD ((Jh p).rules.getD i Jo).name ((Jh p).rules.drop (i+y.1.length))=JcD ((Jh p).rules.getD i Jo).name ((Jh p).rules.drop i)∧i+y.1.length≤(Jh p).rules.length∧(y.2.1=none→y.1= [])) (fun y=> (Jh p).rules.length - (i+y.1.length)) ?_ ?_
        ·exact ⟨([],none,nx5),⟨rfl,Nat.le_of_lt hi,fun _=> rfl⟩,Jc (pm:= []) (L:= [(1,JZ l),(4, .bp (2,nx+1) 0),(5,int 0),(6,int 0),(11, .bp (0,nx4) 0),(13, .bp (1,nx4+1) 0),(14, .fn (.func 21) [] [.bp (0,nx4) 0, .bp (1,nx4+1) 0]),(15,int (i:Nat)),(16,JJ ((Jh p).rules.getD i Jo).name),(17, .os 2 0 (Jdl []) none)]) _ [] rfl rfl Sf Sf Bf trivial ⟨Rf,Rf,Rf,Rf,Rf,Rf,Rf,Rf,Rf,AVle.os_nil,trivial⟩⟩
        ·rintro ⟨L,oi,nx6⟩ ⟨hL,hle,ho⟩
         dsimp only at hL hle ho
         refine stp ?_
         intro c g2;cases c
         ·have g2:=Jw g2
          try dsimp only at g2
          have hj:i+L.length=(Jh p).rules.length:=by omega
          rw [hj,List.drop_length] at hL
          refine stp ?_
          exact ⟨(L,oi,nx6),by rw [← hL];exact (List.append_nil _).symm,Et rfl rfl Bf Pf ⟨Rf,Rf,Rf,Rf,Rf,Rf,Rf,Rf,Rf,Rf,trivial⟩⟩
         ·have g2:=Jv g2
          try dsimp only at g2
          have hj:i+L.length < (Jh p).rules.length:=by omega
          have hdr:(Jh p).rules.drop (i+L.length)=(Jh p).rules.getD (i+L.length) Jo::(Jh p).rules.drop (i+L.length+1):=by
           rw [List.drop_eq_getElem_cons hj];simp [List.getD,hj]
          rw [hdr] at hL
          refine stp ?_
          refine ⟨Bd, ?_⟩
          refine stp ?_
          intro c3 hc3
          have hc3:c3=kS ((Jh p).rules.getD (i+L.length) Jo).name ((Jh p).rules.getD i Jo).name:=hc3
          cases c3
          ·have hrn:JcD ((Jh p).rules.getD i Jo).name ((Jh p).rules.getD (i+L.length) Jo::(Jh p).rules.drop (i+L.length+1))= []:=by
            unfold JcD;rw [List.takeWhile_cons,if_neg (by rw [← hc3];decide)]
           rw [hrn] at hL
           refine stp ?_
           exact ⟨(L,oi,nx6),by rw [← hL];exact (List.append_nil _).symm,Et rfl rfl Bf Pf ⟨Rf,Rf,Rf,Rf,Rf,Rf,Rf,Rf,Rf,Rf,trivial⟩⟩
          ·have hrn:JcD ((Jh p).rules.getD i Jo).name ((Jh p).rules.getD (i+L.length) Jo::(Jh p).rules.drop (i+L.length+1))=(Jh p).rules.getD (i+L.length) Jo::JcD ((Jh p).rules.getD i Jo).name ((Jh p).rules.drop (i+L.length+1)):=by
            unfold JcD;rw [List.takeWhile_cons,if_pos hc3.symm]
           rw [hrn] at hL
           have hcj:=Jkp ((Jh p).rules.getD (i+L.length) Jo).act (Juc ((Jp5 hnr).2 _ (by simp [List.getD,hj])))
           refine stp ?_
           refine Ja4 17 (LpB nx nx4 p st) (fun i=> match i with | 16=> true | _=> false) (fun i=> match i with | 13=> true | _=> false) [0,1,2,3,4,5,6,7,8,9,10,11,12,13,14,15,16] (by kernel_rfl) (by kernel_rfl) (HB.refl _) ?_
           refine stp ?_
           refine ⟨Bd,Jdu (b:= .rp (JaF ((Jh p).rules.getD (i+L.length) Jo)).cells) rfl ?_⟩
           refine stp ?_
           refine ⟨Bd,Jdu (b:= .rp (JaF ((Jh p).rules.getD (i+L.length) Jo)).cells) rfl ?_⟩
           refine stp ?_
           refine ⟨_,Jb2 rfl rfl rfl hcj ⟨Rf,trivial⟩ (NoId.v _), ?_⟩
           refine stp ?_
           refine ⟨_,Jbo (e:=88) (c:=2) (pm:= []) (n:=(L.map J2).length) (oi:=nmd oi) (sz:=2) (f:=Jdl (L.map J2)) (HB.refl _) rfl rfl rfl (.inr ⟨_,rfl⟩) (by kernel_rfl) (by kernel_rfl) (by kernel_rfl) (.inr rfl) (by kernel_rfl) (List.append_nil _).symm (JM rfl) (by rw [Jmc,List.length_map];have:=(Jcz hnr).1;omega) (by rw [List.length_map];have:=(Jcz hnr).1;omega),fun r h' hr=> ?_⟩
           obtain ⟨rfl,rfl⟩:=hr
           refine stp ?_
           exact back (L++ [(Jh p).rules.getD (i+L.length) Jo],some nx6,nx6+1) ⟨by dsimp only;rw [List.append_assoc,List.length_append,List.length_singleton];exact hL,by dsimp only;rw [List.length_append,List.length_singleton];omega,(fun h=> by cases h)⟩ (by dsimp only;rw [List.length_append,List.length_singleton];omega) (Et (bx:=LpB nx nx4 p st) (pm:= [((0,nx6),((L++ [(Jh p).rules.getD (i+L.length) Jo]).map J2).length * 2)]) (L:= [(1,JZ l),(4, .bp (2,nx+1) 0),(5,int 0),(6,int 0),(11, .bp (0,nx4) 0),(13, .bp (1,nx4+1) 0),(14, .fn (.func 21) [] [.bp (0,nx4) 0, .bp (1,nx4+1) 0]),(15,int (i+(L++ [(Jh p).rules.getD (i+L.length) Jo]).length:Nat)),(16,JJ ((Jh p).rules.getD i Jo).name),(17, .os 2 ((L++ [(Jh p).rules.getD (i+L.length) Jo]).map J2).length (Jdl ((L++ [(Jh p).rules.getD (i+L.length) Jo]).map J2)) (some (0,nx6)))]) rfl rfl Bf ⟨rfl,JAE,trivial⟩ ⟨Rf,Rf,Rf,Rf,Rf,Rf,Rf,Jg (JyW (by have:=(Jcz hnr).1;dsimp only;omega)),Rf,JBF rfl,trivial⟩)
       ·rintro ⟨L,oi,nx6⟩ hL
        dsimp only at hL
        have hmem:(Jh p).rules.getD i Jo∈(Jh p).rules:=by simp [List.getD,hi]
        have hfb:Jbj l ((Jh p).rules.getD i Jo).name=true:=by
         obtain ⟨r0,h0,h1⟩:=JgR hmem
         rw [(Jdg h1).2.1]
         exact Jdh hv r0 h0
        have hF:=JgH l ((Jh p).rules.getD i Jo).name hl (Jhy (Jir (Jbl.1 hv).2.1) _)
        unfold JlJ at hF
        rw [if_pos hfb,← (show JaT l ((Jh p).rules.getD i Jo).name=_ from if_pos hfb)] at hF
        refine stp ?_
        refine Ja rfl rfl hF ⟨Rf,Rf,trivial⟩ fun nx7=> ?_
        refine stp ?_
        have hLn:L≠ []:=by rw [hL];exact JwJ hi
        have hrc:=JwK (s:=((Jh p).rules.getD i Jo).name) (i:=i) hp (Jbl.1 hv).1
        rw [← hL] at hrc
        have hrow:=JAi (Jbl.1 hv).2.1 (Joc hfb)
        have hlr:L.length≤(Jh p).rules.length - i:=by rw [hL,← List.length_drop];exact Jon _ _
        have h500:=(Jcz hnr).1
        have hput:=JuB (Jh p).dflt.1 (Jh p).dflt.2 (Jh p).x32 (Jh p).rules (JaU (Jh p).dflt) (JaT l ((Jh p).rules.getD i Jo).name) (L.map J2) nx4 (nx4+1) (nx7+1) st hI.2.1 (Jto h500 hI) hrow.1 hrow.2.1 hrow.2.2 (fun h=> hLn (List.map_eq_nil_iff.1 h)) (by rw [List.length_map];omega) hrc
        have hnext:∀st',JuA (JaU (Jh p).dflt) (Jh p).x32 (JaT l ((Jh p).rules.getD i Jo).name) (L.map J2) st st'→LpI p l (i+L.length) st':=fun st' hq=> JyD hi rfl hL hI hq
        have hpos:0 < L.length:=List.length_pos_iff.2 hLn
        refine Jf (xs:= [JeG (JaT l ((Jh p).rules.getD i Jo).name),J0 (L.map J2), .bp (0,nx4) 0, .bp (1,nx4+1) 0]) [((20,nx7), .c (JdB (JaT l ((Jh p).rules.getD i Jo).name))),((2,nx+1), .c Jgh)] (Jac (nmd oi) ((L.map J2).length * 2)) 20 rfl rfl rfl (List.append_nil _).symm ⟨Rf,AVle.os_sl,Rf,Rf,trivial⟩ hput Bf trivial rfl fun r h' hq=> ?_
        obtain ⟨rfl,st',nx8,nn8,hq,rfl⟩:=hq
        refine stp ?_
        exact back (i+L.length,st',nx8) (hnext st' hq) Dm (Jc (pm:= []) (bx:=LpB nx nx4 p st') (L:= [(1,JZ l),(4, .bp (2,nx+1) 0),(5,int 0),(6,int 0),(11, .bp (0,nx4) 0),(13, .bp (1,nx4+1) 0),(14, .fn (.func 21) [] [.bp (0,nx4) 0, .bp (1,nx4+1) 0]),(15,int (i+L.length:Nat))]) _ [] rfl rfl (.cons _ Sf) (List.nil_sublist _) Bf trivial ⟨Rf,Rf,Rf,Rf,Rf,Rf,Rf,Rf,trivial⟩)
    ·rintro ⟨st,nx5⟩ hI
     dsimp only at hI
     have hE:=JAj hI
     have hlen:=Jto (Jcz hnr).1 hI
     have hone:∀ {m:Nat} {st1:Nat→J4} (k:Nat),LpS m st st1→∀ {R:List (Nat×AV)},k < 7→(st1 k).1=R→(∀x∈R,JbZ x.2=true)∧R.length < 4611686018427387904:=fun {m st1} k hS {R} hk h=> by
      subst h
      have hp:=hS.2.2.1 k hk
      refine ⟨fun x hx=> ?_,by have:=hlen k hk;rw [hp.length_eq];omega⟩
      have hx:=hp.mem_iff.1 hx
      rcases Nat.lt_or_ge k 5 with h5 | h5
      ·rw [hE.2.1 k h5] at hx
       obtain ⟨e,_,rfl⟩:=List.mem_map.1 hx
       rfl
      ·obtain ⟨m',rfl⟩:∃m',k=5+m':=⟨k - 5,by omega⟩
       rw [hE.2.2 m' Om] at hx
       obtain ⟨e,_,rfl⟩:=List.mem_map.1 hx
       rfl
     refine stp ?_
     refine Ja5 (fun y:(Nat→J4)×Nat=> mk 131 [(4, .bp (2,nx+1) 0),(5,int 0),(6,int 0),(13, .bp (1,nx4+1) 0)] ⟨LpB nx nx4 p y.1, [],y.2,20⟩) (fun y=> LpS 5 st y.1) ?_ ?_
     ·refine Js (fun y:Nat×(Nat→J4)×Nat=> mk 131 [(4, .bp (2,nx+1) 0),(5,int 0),(6,int 0),(13, .bp (1,nx4+1) 0),(112,int y.1)] ⟨LpB nx nx4 p y.2.1, [],y.2.2,20⟩) (fun y=> y.1≤5∧LpS (y.1) st y.2.1) (fun y=> 5 - y.1) ?_ ?_
      ·exact ⟨(0,st,nx5),⟨Nat.zero_le _,JB5 hE.1⟩,Et rfl rfl Bf trivial ⟨Rf,Rf,Rf,Rf,Rf,trivial⟩⟩
      ·rintro ⟨a,st1,nx5⟩ ⟨ha,hS⟩
       dsimp only at ha hS
       by_cases hA:a=5
       ·subst hA
        refine stp ?_
        exact ⟨(st1,nx5),hS,Et rfl rfl Bf trivial ⟨Rf,Rf,Rf,Rf,trivial⟩⟩
       obtain ⟨q,hq⟩:∃q,q=a:=⟨_,rfl⟩
       obtain ⟨b,hb⟩:∃b,b=a+1:=⟨_,rfl⟩
       have hq7:q < 7:=by omega
       have hSq:LpS q st st1:=by rw [hq];exact hS
       have hn1:∀ {s'},LpS (q+1) st s'→LpS (b) st s':=fun {s'} h=> by rw [show b=q+1 by omega];exact h
       rcases hk:st1 q with ⟨R,_ | ⟨s,cap,tl⟩⟩
       ·have hN0:(st1 q).1= []:=by have:=hSq.2.1 q hq7;rw [hk] at this⊢;exact this
        have hv:AVle (Jas (10+q) (st1 q)) (.os 0 0 (fun _=> .any) none):=by rw [hk];exact Rf
        have hw:AVle (.os 0 0 (fun _=> .any) none) (Jas (10+q) (st1 q)):=by rw [hk];exact Rf
        refine AW.le (E':=mk 131 [(4, .bp (2,nx+1) 0),(5,int 0),(6,int 0),(13, .bp (1,nx4+1) 0),(112,int (a:Nat))] ⟨lpH nx nx4 p (JcO (JaU (Jh p).dflt) (Jh p).x32 (JcG (a) (.os 0 0 (fun _=> .any) none) st1))++Jbg st1, [],nx5,20⟩) (Et rfl rfl (Jmr (by subst hq;exact JfR hv) Bf) trivial ⟨Rf,Rf,Rf,Rf,Rf,trivial⟩) ?_
        rcases (by omega:a=0∨a=1∨a=2∨a=3∨a=4) with rfl | rfl | rfl | rfl | rfl
        all_goals
         unfold lpH
         refine stp ?_
         refine Ja rfl rfl (Jsh 26) ⟨AVle.os_nil,Rf,trivial⟩ fun nx6=> ?_
         refine stp ?_
         exact back (b,st1,nx6) ⟨by dsimp only;omega,hn1 (JqW hq7 hSq hN0)⟩ Dm (Et (bx:=LpB nx nx4 p st1) rfl rfl (Jmr (by subst hq;exact JeZ hw) Bf) trivial ⟨Rf,Rf,Rf,Rf,Jg (by subst hb;rfl),trivial⟩)
       ·have hv:AVle (Jas (10+q) (st1 q)) (.hs (30,s) 0 R.length cap):=by rw [hk];exact AVle.hs_nm rfl
        refine AW.le (E':=mk 131 [(4, .bp (2,nx+1) 0),(5,int 0),(6,int 0),(13, .bp (1,nx4+1) 0),(112,int (a:Nat))] ⟨(lpH nx nx4 p (JcO (JaU (Jh p).dflt) (Jh p).x32 (JcG (a) (.hs (30,s) 0 R.length cap) st1))++J9 q st1)++ [((30,s),Own.c (JB R++tl))], [],nx5,20⟩) (Jav _ _ [] rfl rfl (Jty (F:=lpH nx nx4 p (Jbu (JaU (Jh p).dflt) (Jh p).x32 st1)) hq7 hk) Sf Sf (Jj3 (i:=(10+q,s)) (j:=(30,s)) (by subst hq;exact JfR hv) rfl) trivial ⟨Rf,Rf,Rf,Rf,Rf,trivial⟩) ?_
        have hR:=hone q hSq (R:=R) hq7 (by rw [hk])
        rcases (by omega:a=0∨a=1∨a=2∨a=3∨a=4) with rfl | rfl | rfl | rfl | rfl
        all_goals
         unfold lpH
         refine stp ?_
         refine Jf (xs:= [.hs (30,s) 0 R.length cap, .fn (.func 26) [] []]) (_++J9 q st1) [] 20 rfl rfl rfl rfl ⟨Rf,Rf,trivial⟩ (JqK (D:=R) (tl:=tl) (nm:=30) (s:=s) (cap:=cap) (nx:=nx5) (nn:=20) hR.1 hR.2) Bf trivial rfl fun r h' hq2=> ?_
         obtain ⟨rfl,cs',⟨D,hp1,hp2,rfl⟩,rfl⟩:=hq2
         have hw:AVle (.hs (30,s) 0 R.length cap) (Jas (10+q) (D,some (s,cap,tl))):=by
          show AVle _ (.hs (10+q,s) 0 D.length cap)
          rw [hp1.length_eq];exact AVle.hs_nm rfl
         refine stp ?_
         exact back (b,Jaw st1 q (D,some (s,cap,tl)),nx5) ⟨by dsimp only;omega,hn1 (JqX hq7 hSq hk hp1 hp2)⟩ Dm (ELe.trans (Et (n:=131) (nn:=20) (pm:= []) (bx:=(lpH nx nx4 p (Jbu (JaU (Jh p).dflt) (Jh p).x32 (Jaw st1 q (D,some (s,cap,tl))))++J9 q st1)++ [((10+q,s),Own.c (JB D++tl))]) (L:= [(4, .bp (2,nx+1) 0),(5,int 0),(6,int 0),(13, .bp (1,nx4+1) 0),(112,int (b:Nat))]) rfl rfl (Jj3 (i:=(30,s)) (j:=(10+q,s)) (by subst hq;exact JqN hw) rfl) trivial ⟨Rf,Rf,Rf,Rf,Jg (by subst hb;rfl),trivial⟩) (Jtz hq7))
     rintro ⟨st0,nx5⟩ hS0
     dsimp only at hS0
     refine stp ?_
     refine Ja5 (fun y:(Nat→J4)×Nat=> mk 131 [(4, .bp (2,nx+1) 0),(5,int 0),(6,int 0),(13, .bp (1,nx4+1) 0)] ⟨LpB nx nx4 p y.1, [],y.2,20⟩) (fun y=> LpS 7 st y.1) ?_ ?_
     ·refine Js (fun y:Nat×(Nat→J4)×Nat=> mk 131 [(4, .bp (2,nx+1) 0),(5,int 0),(6,int 0),(13, .bp (1,nx4+1) 0),(121,int y.1)] ⟨LpB nx nx4 p y.2.1, [],y.2.2,20⟩) (fun y=> y.1≤2∧LpS (5+y.1) st y.2.1) (fun y=> 2 - y.1) ?_ ?_
      ·exact ⟨(0,st0,nx5),⟨Nat.zero_le _,hS0⟩,Et rfl rfl Bf trivial ⟨Rf,Rf,Rf,Rf,Rf,trivial⟩⟩
      ·rintro ⟨a,st1,nx5⟩ ⟨ha,hS⟩
       dsimp only at ha hS
       by_cases hA:a=2
       ·subst hA
        refine stp ?_
        exact ⟨(st1,nx5),hS,Et rfl rfl Bf trivial ⟨Rf,Rf,Rf,Rf,trivial⟩⟩
       obtain ⟨q,hq⟩:∃q,q=5+a:=⟨_,rfl⟩
       obtain ⟨b,hb⟩:∃b,b=a+1:=⟨_,rfl⟩
       have hq7:q < 7:=by omega
       have hSq:LpS q st st1:=by rw [hq];exact hS
       have hn1:∀ {s'},LpS (q+1) st s'→LpS (5+b) st s':=fun {s'} h=> by rw [show 5+b=q+1 by omega];exact h
       rcases hk:st1 q with ⟨R,_ | ⟨s,cap,tl⟩⟩
       ·have hN0:(st1 q).1= []:=by have:=hSq.2.1 q hq7;rw [hk] at this⊢;exact this
        have hv:AVle (Jas (10+q) (st1 q)) (.os 0 0 (fun _=> .any) none):=by rw [hk];exact Rf
        have hw:AVle (.os 0 0 (fun _=> .any) none) (Jas (10+q) (st1 q)):=by rw [hk];exact Rf
        refine AW.le (E':=mk 131 [(4, .bp (2,nx+1) 0),(5,int 0),(6,int 0),(13, .bp (1,nx4+1) 0),(121,int (a:Nat))] ⟨lpH nx nx4 p (JcO (JaU (Jh p).dflt) (Jh p).x32 (JcG (5+a) (.os 0 0 (fun _=> .any) none) st1))++Jbg st1, [],nx5,20⟩) (Et rfl rfl (Jmr (by subst hq;exact JfR hv) Bf) trivial ⟨Rf,Rf,Rf,Rf,Rf,trivial⟩) ?_
        rcases (by omega:a=0∨a=1) with rfl | rfl
        all_goals
         unfold lpH
         refine stp ?_
         refine Ja rfl rfl (Jsi 29) ⟨AVle.os_nil,Rf,trivial⟩ fun nx6=> ?_
         refine stp ?_
         exact back (b,st1,nx6) ⟨by dsimp only;omega,hn1 (JqW hq7 hSq hN0)⟩ Dm (Et (bx:=LpB nx nx4 p st1) rfl rfl (Jmr (by subst hq;exact JeZ hw) Bf) trivial ⟨Rf,Rf,Rf,Rf,Jg (by subst hb;rfl),trivial⟩)
       ·have hv:AVle (Jas (10+q) (st1 q)) (.hs (30,s) 0 R.length cap):=by rw [hk];exact AVle.hs_nm rfl
        refine AW.le (E':=mk 131 [(4, .bp (2,nx+1) 0),(5,int 0),(6,int 0),(13, .bp (1,nx4+1) 0),(121,int (a:Nat))] ⟨(lpH nx nx4 p (JcO (JaU (Jh p).dflt) (Jh p).x32 (JcG (5+a) (.hs (30,s) 0 R.length cap) st1))++J9 q st1)++ [((30,s),Own.c (JB R++tl))], [],nx5,20⟩) (Jav _ _ [] rfl rfl (Jty (F:=lpH nx nx4 p (Jbu (JaU (Jh p).dflt) (Jh p).x32 st1)) hq7 hk) Sf Sf (Jj3 (i:=(10+q,s)) (j:=(30,s)) (by subst hq;exact JfR hv) rfl) trivial ⟨Rf,Rf,Rf,Rf,Rf,trivial⟩) ?_
        have hR:=hone q hSq (R:=R) hq7 (by rw [hk])
        rcases (by omega:a=0∨a=1) with rfl | rfl
        all_goals
         unfold lpH
         refine stp ?_
         refine Jf (xs:= [.hs (30,s) 0 R.length cap, .fn (.func 29) [] []]) (_++J9 q st1) [] 20 rfl rfl rfl rfl ⟨Rf,Rf,trivial⟩ (JqL (D:=R) (tl:=tl) (nm:=30) (s:=s) (cap:=cap) (nx:=nx5) (nn:=20) hR.1 hR.2) Bf trivial rfl fun r h' hq2=> ?_
         obtain ⟨rfl,cs',⟨D,hp1,hp2,rfl⟩,rfl⟩:=hq2
         have hw:AVle (.hs (30,s) 0 R.length cap) (Jas (10+q) (D,some (s,cap,tl))):=by
          show AVle _ (.hs (10+q,s) 0 D.length cap)
          rw [hp1.length_eq];exact AVle.hs_nm rfl
         refine stp ?_
         exact back (b,Jaw st1 q (D,some (s,cap,tl)),nx5) ⟨by dsimp only;omega,hn1 (JqX hq7 hSq hk hp1 hp2)⟩ Dm (ELe.trans (Et (n:=131) (nn:=20) (pm:= []) (bx:=(lpH nx nx4 p (Jbu (JaU (Jh p).dflt) (Jh p).x32 (Jaw st1 q (D,some (s,cap,tl))))++J9 q st1)++ [((10+q,s),Own.c (JB D++tl))]) (L:= [(4, .bp (2,nx+1) 0),(5,int 0),(6,int 0),(13, .bp (1,nx4+1) 0),(121,int (b:Nat))]) rfl rfl (Jj3 (i:=(30,s)) (j:=(10+q,s)) (by subst hq;exact JqN hw) rfl) trivial ⟨Rf,Rf,Rf,Rf,Jg (by subst hb;rfl),trivial⟩) (Jtz hq7))
     rintro ⟨st2,nx5⟩ hS
     dsimp only at hS
     have hr:∀k,k < 5→(st2 k).1=((JbB p l).ents k).map JdS:=fun k hk=> Jwi hv hk JdS (fun _=> rfl) (by rw [← hE.2.1 k hk];exact hS.2.2.1 k Om) (hS.2.2.2 k Om)
     have hr2:∀m,m < 2→(st2 (5+m)).1=((JbB p l).subs m).map Jbm:=fun m hm=> Jwj hv Jbm (fun _=> rfl) (by rw [← hE.2.2 m hm];exact hS.2.2.1 (5+m) Om) (hS.2.2.2 (5+m) Om)
     have ho:=hS.2.1
     refine Ja7 (n:=131) (nx:=nx5) (nn:=20) (pm:= []) (bx:= [((2,nx+1), .c Jgh)]) (df:=some []) (L:= [(4, .bp (2,nx+1) 0),(5,int 0),(6,int 0),(13, .rp [u32 (JaU (Jh p).dflt:Nat),Ji (Jh p).x32,JK 2 JaN ent0 ((JbB p l).ents 0),JK 2 JaN ent0 ((JbB p l).ents 1),JK 2 JaN ent0 ((JbB p l).ents 2),JK 2 JaN ent0 ((JbB p l).ents 3),JK 2 JaN ent0 ((JbB p l).ents 4),JK 2 JgS sub0 ((JbB p l).subs 0),JK 2 JgS sub0 ((JbB p l).subs 1)])]) ([((1,nx4+1),Own.c (Jbu (JaU (Jh p).dflt) (Jh p).x32 st2)),((0,nx4),Own.c [int (Jh p).dflt.1,int (Jh p).dflt.2,Ji (Jh p).x32,Jaj (Jh p).rules])]++Jbg st2) rfl rfl rfl JyV Sf ⟨Frz.refl _,Frz.refl _,Frz.refl _,Frz.bpL (cs:=Jbu (JaU (Jh p).dflt) (Jh p).x32 st2) (.head _) ⟨Frz.refl _,Frz.refl _,Jh0 (ho 0 Dc) (hr 0 Dc) (Jg2 (j:=0) Dc),Jh0 (ho 1 Dc) (hr 1 Dc) (Jg2 (j:=1) Dc),Jh0 (ho 2 Dc) (hr 2 Dc) (Jg2 (j:=2) Dc),Jh0 (ho 3 Dc) (hr 3 Dc) (Jg2 (j:=3) Dc),Jh0 (ho 4 Dc) (hr 4 Dc) (Jg2 (j:=4) Dc),JtA (ho 5 Dc) (hr2 0 Dc) (Jg2 (j:=5) Dc),JtA (ho 6 Dc) (hr2 1 Dc) (Jg2 (j:=6) Dc),trivial⟩,trivial⟩ ?_
     refine stp ?_
     exact Jl rfl ⟨rfl,trivial⟩ Rf
 ·rw [if_pos hv]
  generalize (Jaq p l).1=v1 at hV⊢
  generalize (Jaq p l).2=v2 at hV hv⊢
  refine Jd Tryz.func7 rfl rfl fun nx=> ?_
  refine stp ?_
  refine Ja rfl rfl hV ⟨Rf,Rf,trivial⟩ fun nx2=> ?_
  refine stp ?_
  intro c hc
  obtain rfl:c=true:=by rw [hc];simpa using hv
  refine stp ?_
  exact Jl rfl ⟨rfl,trivial⟩ (AVle.tups (cs:= [_,_,_]) ⟨Jrr,Rf,Rf,trivial⟩)
end Go.Proofs.W

namespace Go.Proofs.W
open Go.Vl
set_option maxRecDepth 100000
theorem Jms (r:Rul):NoId (.ag [JJ r.name,int r.act.1,int r.act.2,Jbi r.conds]):=NoId.ag (by
 intro y hy
 simp only [List.mem_cons,List.not_mem_nil,or_false] at hy
 rcases hy with rfl | rfl | rfl | rfl
 ·exact NoId.v _
 ·exact NoId.v _
 ·exact NoId.v _
 ·refine NoId.sl fun i hi c hc=> ?_
  simp only [J3,AV.cells,List.mem_cons,List.not_mem_nil,or_false] at hc
  rcases hc with rfl | rfl | rfl | rfl <;> exact NoId.v _)
theorem JiR:Tryz.prog.bytesOf 150=32:=by kernel_rfl
theorem JeK:Tryz.prog.bytesOf 93=56:=by kernel_rfl
theorem Jxd (c:Cnd):Tells Tryz.prog 76 [J3 c] (J3 c):=by
 refine Jd Tryz.func76 rfl rfl fun nx=> ?_
 refine stp ?_
 exact Jl rfl ⟨rfl,trivial⟩ Rf
set_option maxHeartbeats 1000000 in
theorem Jrv (nm:ByteArray) (k n:Int) (cs:List Cnd) (hl:cs.length≤1000000):Tells Tryz.prog 30 [.ag [JJ nm,int k,int n,Jbi cs]] (.ag [JJ nm,int k,int n,Jbi cs]):=by
 refine Jd Tryz.func30 rfl rfl fun nx=> ?_
 refine stp ?_
 refine Js (fun s:Nat×Option Nat×Nat=> mk 34 [(1, .bp (0,nx) 0),(2, .bp (1,nx+1) 0),(3, .bp (2,nx+2) 0),(4,int s.1)] ⟨[((2,nx+2), .c [JJ nm,int k,int n, .os 4 s.1 (fun j=> J3 (cs.getD j cnd0)) (nmd s.2.1)]),((1,nx+1), .c [JJ ⟨#[]⟩,int 0,int 0, .os 0 0 (fun _=> .any) none]),((0,nx), .c [JJ nm,int k,int n,Jbi cs])],Jac (nmd s.2.1) (s.1 * 4),s.2.2,3⟩) (fun s=> s.1≤cs.length∧(s.2.1=none→s.1=0)) (fun s=> cs.length - s.1) ?_ ?_
 ·exact ⟨(0,none,nx+3),⟨Nat.zero_le _,fun _=> rfl⟩,Jc (pm:= []) _ [] rfl rfl Sf Sf ⟨rfl,⟨Rf,Rf,Rf,AVle.os_nil,trivial⟩,rfl,OwnLe.refl _,rfl,OwnLe.refl _,trivial⟩ trivial ⟨Rf,Rf,Rf,Rf,trivial⟩⟩
 ·rintro ⟨i,oi,nx2⟩ ⟨h3,h4⟩
  dsimp only at h3 h4
  refine stp ?_
  intro c h5;cases c
  ·have h6:=Jw h5
   dsimp only at h6
   obtain rfl:i=cs.length:=by omega
   refine stp ?_
   exact Jl rfl ⟨rfl,trivial⟩ (AVle.ags ⟨Rf,Rf,Rf,AVle.os_sl,trivial⟩)
  ·have h6:=Jv h5
   dsimp only at h6
   have hi:i < cs.length:=by omega
   have hcall:=Jxd (cs.getD i cnd0)
   refine stp ?_
   refine Ja4 11 [((2,nx+2), .c [JJ nm,int k,int n, .os 4 i (fun j=> J3 (cs.getD j cnd0)) (nmd oi)]),((1,nx+1), .c [JJ ⟨#[]⟩,int 0,int 0, .os 0 0 (fun _=> .any) none]),((0,nx), .c [JJ nm,int k,int n,Jbi cs])] (fun i=> match i with | 9=> true | _=> false) (fun i=> match i with | 7=> true | _=> false) [0,1,2,3,4,5,6,7,8,9,10] (by kernel_rfl) (by kernel_rfl) (HB.refl _) ?_
   refine stp ?_
   refine ⟨⟨by dsimp only;omega,by dsimp only;omega⟩, ?_⟩
   refine stp ?_
   refine ⟨_,Jb2 rfl rfl rfl hcall ⟨Rf,trivial⟩ (JvA _), ?_⟩
   refine stp ?_
   rcases oi with _ | id
   ·obtain rfl:=h4 rfl
    refine ⟨_,Jbo (e:=150) (c:=4) (pm:= []) (n:=0) (oi:=none) (sz:=4) (f:=fun j=> J3 (cs.getD j cnd0)) (HB.refl _) rfl rfl rfl (.inr ⟨_,rfl⟩) (by kernel_rfl) (by kernel_rfl) (by kernel_rfl) (.inr rfl) (by kernel_rfl) (List.append_nil _).symm (JM rfl) (by rw [JiR];omega) Om,fun r h' hr=> ?_⟩
    obtain ⟨rfl,rfl⟩:=hr
    refine stp ?_
    refine back (0+1,some nx2,nx2+1) ⟨by dsimp only;omega,(fun h=> by cases h)⟩ Dm (Et (pm:= [((0,nx2),(0+1) * 4)]) rfl rfl ⟨rfl,⟨Rf,Rf,Rf,(AVle.os_fun (Jbh (fun k h=> absurd h (Nat.not_lt_zero k)) ?_)).trans (AVle.os_nm rfl),trivial⟩,rfl,OwnLe.refl _,rfl,OwnLe.refl _,trivial⟩ ⟨rfl,rfl,trivial⟩ ⟨Rf,Rf,Rf,Jg (Jz Dm),trivial⟩)
    rfl
   ·refine ⟨_,Jbo (e:=150) (c:=4) (pm:= []) (n:=i) (oi:=some (0,id)) (sz:=4) (f:=fun j=> J3 (cs.getD j cnd0)) (HB.refl _) rfl rfl rfl (.inr ⟨_,rfl⟩) (by kernel_rfl) (by kernel_rfl) (by kernel_rfl) (.inr rfl) (by kernel_rfl) (List.append_nil _).symm (JM rfl) (by rw [JiR];omega) Om,fun r h' hr=> ?_⟩
    obtain ⟨rfl,rfl⟩:=hr
    refine stp ?_
    refine back (i+1,some nx2,nx2+1) ⟨by dsimp only;omega,(fun h=> by cases h)⟩ Dm (Et (pm:= [((0,nx2),(i+1) * 4)]) rfl rfl ⟨rfl,⟨Rf,Rf,Rf,(AVle.os_fun (Jbh (fun k hk=> rfl) ?_)).trans (AVle.os_nm rfl),trivial⟩,rfl,OwnLe.refl _,rfl,OwnLe.refl _,trivial⟩ ⟨rfl,rfl,trivial⟩ ⟨Rf,Rf,Rf,Jg (Jz Dm),trivial⟩)
    rfl
set_option maxHeartbeats 1000000 in
theorem JAF (k n:Int) (rs:List Rul) (hl:rs.length≤1000000) (hc:∀r∈rs,r.conds.length≤1000000):Tells Tryz.prog 8 [.ag [int k,int n,Ji true,Jaj rs]] (.ag [int k,int n,Ji true,Jaj rs]):=by
 refine Jd Tryz.func8 rfl rfl fun nx=> ?_
 refine stp ?_
 refine Js (fun s:Nat×Option Nat×Nat=> mk 34 [(1, .bp (0,nx) 0),(2, .bp (1,nx+1) 0),(3, .bp (2,nx+2) 0),(4,int s.1)] ⟨[((2,nx+2), .c [int k,int n,Ji true, .os 4 s.1 (fun j=> JaF (rs.getD j Jo)) (nmd s.2.1)]),((1,nx+1), .c [int 0,int 0,Ji false, .os 0 0 (fun _=> .any) none]),((0,nx), .c [int k,int n,Ji true,Jaj rs])],Jac (nmd s.2.1) (s.1 * 4),s.2.2,3⟩) (fun s=> s.1≤rs.length∧(s.2.1=none→s.1=0)) (fun s=> rs.length - s.1) ?_ ?_
 ·exact ⟨(0,none,nx+3),⟨Nat.zero_le _,fun _=> rfl⟩,Jc (pm:= []) _ [] rfl rfl Sf Sf ⟨rfl,⟨Rf,Rf,Rf,AVle.os_nil,trivial⟩,rfl,OwnLe.refl _,rfl,OwnLe.refl _,trivial⟩ trivial ⟨Rf,Rf,Rf,Rf,trivial⟩⟩
 ·rintro ⟨i,oi,nx2⟩ ⟨h3,h4⟩
  dsimp only at h3 h4
  refine stp ?_
  intro c h5;cases c
  ·have h6:=Jw h5
   dsimp only at h6
   obtain rfl:i=rs.length:=by omega
   refine stp ?_
   exact Jl rfl ⟨rfl,trivial⟩ (AVle.ags ⟨Rf,Rf,Rf,AVle.os_sl,trivial⟩)
  ·have h6:=Jv h5
   dsimp only at h6
   have hi:i < rs.length:=by omega
   have hcall:=Jrv (rs.getD i Jo).name (rs.getD i Jo).act.1 (rs.getD i Jo).act.2 (rs.getD i Jo).conds (hc _ (by simp [List.getD,hi]))
   refine stp ?_
   refine Ja4 11 [((2,nx+2), .c [int k,int n,Ji true, .os 4 i (fun j=> JaF (rs.getD j Jo)) (nmd oi)]),((1,nx+1), .c [int 0,int 0,Ji false, .os 0 0 (fun _=> .any) none]),((0,nx), .c [int k,int n,Ji true,Jaj rs])] (fun i=> match i with | 9=> true | _=> false) (fun i=> match i with | 7=> true | _=> false) [0,1,2,3,4,5,6,7,8,9,10] (by kernel_rfl) (by kernel_rfl) (HB.refl _) ?_
   refine stp ?_
   refine ⟨⟨by dsimp only;omega,by dsimp only;omega⟩, ?_⟩
   refine stp ?_
   refine ⟨_,Jb2 rfl rfl rfl hcall ⟨Rf,trivial⟩ (Jms (rs.getD i Jo)), ?_⟩
   refine stp ?_
   rcases oi with _ | id
   ·obtain rfl:=h4 rfl
    refine ⟨_,Jbo (e:=93) (c:=4) (pm:= []) (n:=0) (oi:=none) (sz:=4) (f:=fun j=> JaF (rs.getD j Jo)) (HB.refl _) rfl rfl rfl (.inr ⟨_,rfl⟩) (by kernel_rfl) (by kernel_rfl) (by kernel_rfl) (.inr rfl) (by kernel_rfl) (List.append_nil _).symm (JM rfl) (by rw [JeK];omega) Om,fun r h' hr=> ?_⟩
    obtain ⟨rfl,rfl⟩:=hr
    refine stp ?_
    refine back (0+1,some nx2,nx2+1) ⟨by dsimp only;omega,(fun h=> by cases h)⟩ Dm (Et (pm:= [((0,nx2),(0+1) * 4)]) rfl rfl ⟨rfl,⟨Rf,Rf,Rf,(AVle.os_fun (Jbh (fun k h=> absurd h (Nat.not_lt_zero k)) ?_)).trans (AVle.os_nm rfl),trivial⟩,rfl,OwnLe.refl _,rfl,OwnLe.refl _,trivial⟩ ⟨rfl,rfl,trivial⟩ ⟨Rf,Rf,Rf,Jg (Jz Dm),trivial⟩)
    rfl
   ·refine ⟨_,Jbo (e:=93) (c:=4) (pm:= []) (n:=i) (oi:=some (0,id)) (sz:=4) (f:=fun j=> JaF (rs.getD j Jo)) (HB.refl _) rfl rfl rfl (.inr ⟨_,rfl⟩) (by kernel_rfl) (by kernel_rfl) (by kernel_rfl) (.inr rfl) (by kernel_rfl) (List.append_nil _).symm (JM rfl) (by rw [JeK];omega) Om,fun r h' hr=> ?_⟩
    obtain ⟨rfl,rfl⟩:=hr
    refine stp ?_
    refine back (i+1,some nx2,nx2+1) ⟨by dsimp only;omega,(fun h=> by cases h)⟩ Dm (Et (pm:= [((0,nx2),(i+1) * 4)]) rfl rfl ⟨rfl,⟨Rf,Rf,Rf,(AVle.os_fun (Jbh (fun k hk=> rfl) ?_)).trans (AVle.os_nm rfl),trivial⟩,rfl,OwnLe.refl _,rfl,OwnLe.refl _,trivial⟩ ⟨rfl,rfl,trivial⟩ ⟨Rf,Rf,Rf,Jg (Jz Dm),trivial⟩)
    rfl
set_option maxHeartbeats 1000000 in
theorem JAG (k n:Int) (rs:List Rul) (hl:rs.length≤1000000) (hc:∀r∈rs,r.conds.length≤1000000):Tells Tryz.prog 8 [.ag [int k,int n,Ji false,Jaj rs]] (.ag [int k,int n,Ji false,Jaj rs]):=by
 refine Jd Tryz.func8 rfl rfl fun nx=> ?_
 refine stp ?_
 refine Js (fun s:Nat×Option Nat×Nat=> mk 34 [(1, .bp (0,nx) 0),(2, .bp (1,nx+1) 0),(3, .bp (2,nx+2) 0),(4,int s.1)] ⟨[((2,nx+2), .c [int k,int n,Ji false, .os 4 s.1 (fun j=> JaF (rs.getD j Jo)) (nmd s.2.1)]),((1,nx+1), .c [int 0,int 0,Ji false, .os 0 0 (fun _=> .any) none]),((0,nx), .c [int k,int n,Ji false,Jaj rs])],Jac (nmd s.2.1) (s.1 * 4),s.2.2,3⟩) (fun s=> s.1≤rs.length∧(s.2.1=none→s.1=0)) (fun s=> rs.length - s.1) ?_ ?_
 ·exact ⟨(0,none,nx+3),⟨Nat.zero_le _,fun _=> rfl⟩,Jc (pm:= []) _ [] rfl rfl Sf Sf ⟨rfl,⟨Rf,Rf,Rf,AVle.os_nil,trivial⟩,rfl,OwnLe.refl _,rfl,OwnLe.refl _,trivial⟩ trivial ⟨Rf,Rf,Rf,Rf,trivial⟩⟩
 ·rintro ⟨i,oi,nx2⟩ ⟨h3,h4⟩
  dsimp only at h3 h4
  refine stp ?_
  intro c h5;cases c
  ·have h6:=Jw h5
   dsimp only at h6
   obtain rfl:i=rs.length:=by omega
   refine stp ?_
   exact Jl rfl ⟨rfl,trivial⟩ (AVle.ags ⟨Rf,Rf,Rf,AVle.os_sl,trivial⟩)
  ·have h6:=Jv h5
   dsimp only at h6
   have hi:i < rs.length:=by omega
   have hcall:=Jrv (rs.getD i Jo).name (rs.getD i Jo).act.1 (rs.getD i Jo).act.2 (rs.getD i Jo).conds (hc _ (by simp [List.getD,hi]))
   refine stp ?_
   refine Ja4 11 [((2,nx+2), .c [int k,int n,Ji false, .os 4 i (fun j=> JaF (rs.getD j Jo)) (nmd oi)]),((1,nx+1), .c [int 0,int 0,Ji false, .os 0 0 (fun _=> .any) none]),((0,nx), .c [int k,int n,Ji false,Jaj rs])] (fun i=> match i with | 9=> true | _=> false) (fun i=> match i with | 7=> true | _=> false) [0,1,2,3,4,5,6,7,8,9,10] (by kernel_rfl) (by kernel_rfl) (HB.refl _) ?_
   refine stp ?_
   refine ⟨⟨by dsimp only;omega,by dsimp only;omega⟩, ?_⟩
   refine stp ?_
   refine ⟨_,Jb2 rfl rfl rfl hcall ⟨Rf,trivial⟩ (Jms (rs.getD i Jo)), ?_⟩
   refine stp ?_
   rcases oi with _ | id
   ·obtain rfl:=h4 rfl
    refine ⟨_,Jbo (e:=93) (c:=4) (pm:= []) (n:=0) (oi:=none) (sz:=4) (f:=fun j=> JaF (rs.getD j Jo)) (HB.refl _) rfl rfl rfl (.inr ⟨_,rfl⟩) (by kernel_rfl) (by kernel_rfl) (by kernel_rfl) (.inr rfl) (by kernel_rfl) (List.append_nil _).symm (JM rfl) (by rw [JeK];omega) Om,fun r h' hr=> ?_⟩
    obtain ⟨rfl,rfl⟩:=hr
    refine stp ?_
    refine back (0+1,some nx2,nx2+1) ⟨by dsimp only;omega,(fun h=> by cases h)⟩ Dm (Et (pm:= [((0,nx2),(0+1) * 4)]) rfl rfl ⟨rfl,⟨Rf,Rf,Rf,(AVle.os_fun (Jbh (fun k h=> absurd h (Nat.not_lt_zero k)) ?_)).trans (AVle.os_nm rfl),trivial⟩,rfl,OwnLe.refl _,rfl,OwnLe.refl _,trivial⟩ ⟨rfl,rfl,trivial⟩ ⟨Rf,Rf,Rf,Jg (Jz Dm),trivial⟩)
    rfl
   ·refine ⟨_,Jbo (e:=93) (c:=4) (pm:= []) (n:=i) (oi:=some (0,id)) (sz:=4) (f:=fun j=> JaF (rs.getD j Jo)) (HB.refl _) rfl rfl rfl (.inr ⟨_,rfl⟩) (by kernel_rfl) (by kernel_rfl) (by kernel_rfl) (.inr rfl) (by kernel_rfl) (List.append_nil _).symm (JM rfl) (by rw [JeK];omega) Om,fun r h' hr=> ?_⟩
    obtain ⟨rfl,rfl⟩:=hr
    refine stp ?_
    refine back (i+1,some nx2,nx2+1) ⟨by dsimp only;omega,(fun h=> by cases h)⟩ Dm (Et (pm:= [((0,nx2),(i+1) * 4)]) rfl rfl ⟨rfl,⟨Rf,Rf,Rf,(AVle.os_fun (Jbh (fun k hk=> rfl) ?_)).trans (AVle.os_nm rfl),trivial⟩,rfl,OwnLe.refl _,rfl,OwnLe.refl _,trivial⟩ ⟨rfl,rfl,trivial⟩ ⟨Rf,Rf,Rf,Jg (Jz Dm),trivial⟩)
    rfl
theorem JAH (p:Pol) (hl:p.rules.length≤1000000) (hc:∀r∈p.rules,r.conds.length≤1000000):Tells Tryz.prog 8 [Jc0 p] (Jc0 p):=by
 obtain ⟨⟨k,n⟩,x,rs⟩:=p
 cases x
 ·exact JAG k n rs hl hc
 ·exact JAF k n rs hl hc
end Go.Proofs.W

namespace Go.Proofs.W
open Go.Vl
set_option maxRecDepth 100000
theorem Jxe (p:Pol) (hl:p.rules.length≤maxLen):Tells Tryz.prog 5 [Jc0 p] (Ji (JfK p)):=by
 obtain ⟨⟨k,n⟩,x,rs⟩:=p
 dsimp only at hl
 refine Jd Tryz.func5 rfl rfl fun nx=> ?_
 refine stp ?_
 intro c g1;cases c
 rotate_left
 ·refine stp ?_
  have g1:((rs.length:Nat):Int) > 40:=Jv g1
  exact Jb rfl (JP (by show false=(decide (rs.length≤40)&& _);rw [decide_eq_false Om];rfl))
 have g1:¬((rs.length:Nat):Int) > 40:=Jw g1
 have h40:rs.length≤40:=by omega
 refine stp ?_
 refine Js (fun s:Nat×Nat=> mk 33 [(1, .bp (0,nx) 0),(3,int s.1)] ⟨[((0,nx), .c [int k,int n,Ji x,Jaj rs])], [],s.2,1⟩) (fun s=> s.1≤rs.length∧∀j,j < s.1→JeD (rs.getD j Jo)=true) (fun s=> rs.length - s.1) ?_ ?_
 ·exact ⟨(0,nx+1),⟨Nat.zero_le _,fun j h=> absurd h (Nat.not_lt_zero _)⟩,Jc (pm:= []) _ [] rfl rfl Sf Sf ⟨rfl,OwnLe.refl _,trivial⟩ trivial ⟨Rf,Rf,trivial⟩⟩
 ·rintro ⟨i,nx2⟩ ⟨h3,h4⟩
  dsimp only at h3 h4
  refine stp ?_
  intro c h5;cases c
  ·have h6:=Jw h5
   dsimp only at h6
   obtain rfl:i=rs.length:=by omega
   refine stp ?_
   refine Jb rfl (JP ?_)
   show true=(decide (rs.length≤40)&& rs.all JeD)
   rw [decide_eq_true h40,Bool.true_and,eq_comm,List.all_eq_true]
   intro r hr
   obtain ⟨j,hj,rfl⟩:=List.getElem_of_mem hr
   have:=h4 j hj
   simpa [List.getD,hj] using this
  ·have h6:=Jv h5
   dsimp only at h6
   have hi:i < rs.length:=by omega
   have hbad:∀b:Bool,JeD (rs.getD i Jo)=false→false=JfK ⟨(k,n),x,rs⟩:=fun b hb=> by
    show false=(decide (rs.length≤40)&& rs.all JeD)
    rw [decide_eq_true h40,Bool.true_and,eq_comm,List.all_eq_false]
    exact ⟨rs.getD i Jo,by simp [List.getD,hi],by rw [hb];decide⟩
   refine stp ?_
   refine ⟨⟨by dsimp only;omega,by dsimp only;omega⟩, ?_⟩
   refine stp ?_
   intro c t1;cases c
   ·have t1:¬(((rs.getD i Jo).name.size:Nat):Int) > 60:=Jw t1
    refine stp ?_
    refine ⟨⟨by dsimp only;omega,by dsimp only;omega⟩, ?_⟩
    refine stp ?_
    intro c t2;cases c
    ·have t2:¬(((rs.getD i Jo).conds.length:Nat):Int) > 12:=Jw t2
     refine stp ?_
     refine back (i+1,nx2) ⟨by dsimp only;omega,fun j hj=> ?_⟩ Dm (Jc (pm:= []) _ [] rfl rfl Sf Sf ⟨rfl,OwnLe.refl _,trivial⟩ trivial ⟨Rf,Jg (Jz Dm),trivial⟩)
     dsimp only at hj
     rcases Nat.lt_or_ge j i with h | h
     ·exact h4 j h
     ·obtain rfl:j=i:=by omega
      unfold JeD
      rw [decide_eq_true Om,decide_eq_true Om];rfl
    ·have t2:(((rs.getD i Jo).conds.length:Nat):Int) > 12:=Jv t2
     refine stp ?_
     exact Jb rfl (JP (hbad true (by unfold JeD;rw [decide_eq_false (p:=(rs.getD i Jo).conds.length≤12) Om,Bool.and_false])))
   ·have t1:(((rs.getD i Jo).name.size:Nat):Int) > 60:=Jv t1
    refine stp ?_
    exact Jb rfl (JP (hbad true (by unfold JeD;rw [decide_eq_false (p:=(rs.getD i Jo).name.size≤60) Om,Bool.false_and])))
end Go.Proofs.W

namespace Go.Proofs.W
open Go.Vl
set_option maxRecDepth 100000
theorem JjH:Tryz.prog.bytesOf 80=72:=by kernel_rfl
set_option maxHeartbeats 2000000 in
theorem Jrw (l:List TRow) (hl:l.length≤1000000):Tells Tryz.prog 9 [JZ l] (JZ l):=by
 refine Jd Tryz.func9 rfl rfl fun nx=> ?_
 refine stp ?_
 refine Js (fun s:Nat×Option Nat×Nat=> mk 36 [(0,JZ l),(3, .os 8 s.1 (fun j=> JeG (l.getD j Je)) (nmd s.2.1)),(4,int s.1)] ⟨[],Jac (nmd s.2.1) (s.1 * 8),s.2.2,1⟩) (fun s=> s.1≤l.length∧(s.2.1=none→s.1=0)) (fun s=> l.length - s.1) ?_ ?_
 ·exact ⟨(0,none,nx),⟨Nat.zero_le _,fun _=> rfl⟩,Jc (pm:= []) _ [] rfl rfl Sf Sf trivial trivial ⟨Rf,AVle.os_nil,Rf,trivial⟩⟩
 ·rintro ⟨i,oi,nx2⟩ ⟨h3,h4⟩
  dsimp only at h3 h4
  refine stp ?_
  intro c h5;cases c
  ·have h6:=Jw h5
   dsimp only at h6
   obtain rfl:i=l.length:=by omega
   rcases oi with _ | id
   all_goals
    refine stp ?_
    exact Jb rfl AVle.os_sl
  ·have h6:=Jv h5
   dsimp only at h6
   have hi:i < l.length:=by omega
   refine stp ?_
   refine Ja4 25 _ (fun i=> match i with | 23=> true | _=> false) (fun i=> match i with | 10=> true | _=> false) [0,1,2,3,4,5,6,7,8,9,10,11,12,13,14,15,16,17,18,19,20,21,22,23,24] (by kernel_rfl) (by kernel_rfl) (HB.refl _) ?_
   refine stp ?_
   refine ⟨⟨by dsimp only;omega,by dsimp only;omega⟩, ?_⟩
   refine stp ?_
   refine ⟨⟨by dsimp only;omega,by dsimp only;omega⟩, ?_⟩
   refine stp ?_
   refine ⟨JAW (l.getD i Je),Jic rfl rfl (by first | trivial | exact ⟨rfl,Nat.le_of_ble_eq_true rfl⟩), ?_⟩
   refine stp ?_
   refine ⟨⟨by dsimp only;omega,by dsimp only;omega⟩, ?_⟩
   refine stp ?_
   refine ⟨⟨by dsimp only;omega,by dsimp only;omega⟩, ?_⟩
   refine stp ?_
   rcases oi with _ | id
   ·obtain rfl:=h4 rfl
    refine ⟨_,Jbo (e:=80) (c:=8) (pm:= []) (n:=0) (oi:=none) (sz:=8) (f:=fun j=> JeG (l.getD j Je)) (HB.refl _) rfl rfl rfl (.inr ⟨_,rfl⟩) (by kernel_rfl) (by kernel_rfl) (by kernel_rfl) (.inr rfl) (by kernel_rfl) (List.append_nil _).symm (JM rfl) (by rw [JjH];omega) Om,fun r h' hr=> ?_⟩
    obtain ⟨rfl,rfl⟩:=hr
    refine stp ?_
    refine back (0+1,some nx2,nx2+1) ⟨by dsimp only;omega,(fun h=> by cases h)⟩ Dm (Et (pm:= [((0,nx2),(0+1) * 8)]) rfl rfl trivial ⟨rfl,rfl,trivial⟩ ⟨Rf,(AVle.os_fun (Jbh (fun k hk=> absurd hk (Nat.not_lt_zero k)) ?_)).trans (AVle.os_nm rfl),Jg (Jz Dm),trivial⟩)
    rfl
   ·refine ⟨_,Jbo (e:=80) (c:=8) (pm:= []) (n:=i) (oi:=some (0,id)) (sz:=8) (f:=fun j=> JeG (l.getD j Je)) (HB.refl _) rfl rfl rfl (.inr ⟨_,rfl⟩) (by kernel_rfl) (by kernel_rfl) (by kernel_rfl) (.inr rfl) (by kernel_rfl) (List.append_nil _).symm (JM rfl) (by rw [JjH];omega) Om,fun r h' hr=> ?_⟩
    obtain ⟨rfl,rfl⟩:=hr
    refine stp ?_
    refine back (i+1,some nx2,nx2+1) ⟨by dsimp only;omega,(fun h=> by cases h)⟩ Dm (Et (pm:= [((0,nx2),(i+1) * 8)]) rfl rfl trivial ⟨rfl,rfl,trivial⟩ ⟨Rf,(AVle.os_fun (Jbh (fun k hk=> rfl) ?_)).trans (AVle.os_nm rfl),Jg (Jz Dm),trivial⟩)
    rfl
theorem JuY (l:List TRow) (hl:l.length≤maxLen) (hn:∀r∈l,r.name.size≤maxLen):Tells Tryz.prog 6 [JZ l] (Ji (JkK l)):=by
 refine Jd Tryz.func6 rfl rfl fun nx=> ?_
 refine stp ?_
 by_cases hf:l.length≤40
 rotate_left
 ·refine stp ?_
  intro c h1;cases c
  ·exact absurd (Jw h1) (by first | omega | (dsimp only;omega))
  refine stp ?_
  exact Jb rfl (JP (by unfold JkK;rw [decide_eq_false hf];rfl))
 ·refine stp ?_
  intro c h1;cases c
  rotate_left
  ·exact absurd (Jv h1) (by first | omega | (dsimp only;omega))
  refine stp ?_
  refine Js (fun s:Nat×Nat=> mk 20 [(0,JZ l),(3,int s.1)] ⟨[], [],s.2,0⟩) (fun s=> s.1≤l.length∧∀j,j < s.1→(l.getD j Je).name.size≤60) (fun s=> l.length - s.1) ?_ ?_
  ·exact ⟨(0,nx),⟨Nat.zero_le _,fun j hj=> absurd hj (Nat.not_lt_zero j)⟩,JaX rfl rfl ⟨Rf,Rf,trivial⟩⟩
  ·rintro ⟨i,nx2⟩ ⟨h3,h4⟩
   dsimp only at h3 h4
   refine stp ?_
   intro c h5;cases c
   ·have h6:=Jw h5
    dsimp only at h6
    obtain rfl:i=l.length:=by omega
    refine stp ?_
    refine Jb rfl (JP ?_)
    unfold JkK
    rw [decide_eq_true hf]
    symm
    simp only [Bool.true_and,Bool.not_eq_true',List.any_eq_false,decide_eq_true_eq]
    intro r hr
    obtain ⟨j,hj,rfl⟩:=List.mem_iff_getElem.1 hr
    have:=h4 j hj
    simp [List.getD,hj] at this
    omega
   ·have h6:=Jv h5
    dsimp only at h6
    have hi:i < l.length:=by omega
    have hnm:=hn (l.getD i Je) (by simp [List.getD,hi])
    refine stp ?_
    refine ⟨⟨by dsimp only;omega,by dsimp only;omega⟩, ?_⟩
    refine stp ?_
    intro c h7;cases c
    ·have h7:=Jw h7
     dsimp only at h7
     rw [Int.toNat_natCast] at h7
     refine stp ?_
     exact back (i+1,nx2) ⟨hi,fun j hj=> by dsimp only at hj;rcases Nat.lt_or_ge j i with q | q;exact h4 j q;rw [show j=i by omega];omega⟩ Dm (JaX rfl rfl ⟨Rf,Jg (Jz Dm),trivial⟩)
    ·have h7:=Jv h7
     dsimp only at h7
     rw [Int.toNat_natCast] at h7
     refine stp ?_
     refine Jb rfl (JP ?_)
     unfold JkK
     symm
     rw [Bool.and_eq_false_iff]
     right
     simp only [Bool.not_eq_false',List.any_eq_true,decide_eq_true_eq]
     exact ⟨l.getD i Je,by simp [List.getD,hi],by omega⟩
end Go.Proofs.W

namespace Go.Proofs.W
open Go.Vl
set_option maxRecDepth 100000
theorem JuZ {p:Pol} (h:JfK p=true):p.rules.length≤40∧∀r∈p.rules,r.conds.length≤12∧r.name.size≤1000000:=by
 unfold JfK JeD at h
 simp only [Bool.and_eq_true,decide_eq_true_eq,List.all_eq_true] at h
 exact ⟨h.1,fun r hr=> by have:=h.2 r hr;exact ⟨this.2,by omega⟩⟩
theorem JyX (l:List Itm):NoId (JaB l):=NoId.sl fun i _ c hc=> by
 generalize l.getD i it0=x at hc
 unfold itA at hc
 simp [AV.cells] at hc
 rcases hc with rfl | rfl | rfl | rfl | rfl <;> exact NoId.v _
set_option maxHeartbeats 8000000 in
theorem Jrx (k n:Int) (x32:Bool) (rs:List Rul) (l:List TRow) (i e:Int) (he:e≠0)
 (hlt:Tells Tryz.prog 5 [Jc0 ⟨(k,n),x32,rs⟩] (Ji true)) (hfew:Tells Tryz.prog 6 [JZ l] (Ji true)) (hof:Tells Tryz.prog 8 [Jc0 ⟨(k,n),x32,rs⟩] (Jc0 ⟨(k,n),x32,rs⟩)) (hrw:Tells Tryz.prog 9 [JZ l] (JZ l))
 (hr:Tells Tryz.prog 7 [Jc0 ⟨(k,n),x32,rs⟩,JZ l] (.tup [Jca Jo1,int i,int e])):Tells Tryz.prog 4 [Jc0 ⟨(k,n),x32,rs⟩,JZ l] (Ji true):=by
 have hawk:=JjG
 refine Jd Tryz.func4 rfl rfl fun nx=> ?_
 refine stp ?_
 refine Ja rfl rfl hlt ⟨Rf,trivial⟩ fun nx1=> ?_
 refine stp ?_
 refine Ja rfl rfl hfew ⟨Rf,trivial⟩ fun nx2=> ?_
 refine stp ?_
 refine Ja rfl rfl hof ⟨Rf,trivial⟩ fun nx3=> ?_
 refine stp ?_
 refine Ja rfl rfl hrw ⟨Rf,trivial⟩ fun nx4=> ?_
 refine stp ?_
 refine Ja rfl rfl hr ⟨Rf,Rf,trivial⟩ fun nx5=> ?_
 refine stp ?_
 refine Ja rfl rfl hof ⟨Rf,trivial⟩ fun nx6=> ?_
 refine stp ?_
 refine Ja rfl rfl hrw ⟨Rf,trivial⟩ fun nx7=> ?_
 refine stp ?_
 refine Ja rfl rfl hr ⟨Rf,Rf,trivial⟩ fun nx8=> ?_
 refine stp ?_
 intro c hc
 have hc2:c=true:=hc.trans (bne_iff_ne.2 he)
 clear hc
 cases hc2
 refine stp ?_
 intro c hc
 have hc2:c=true:=hc.trans (beq_self_eq_true _)
 clear hc
 cases hc2
 refine stp ?_
 refine Ja rfl rfl hawk trivial fun nx9=> ?_
 refine stp ?_
 exact Jb rfl Rf
set_option maxHeartbeats 8000000 in
theorem JyY (k n:Int) (x32:Bool) (rs:List Rul) (l:List TRow) (P:Plan) (hP:PlanW P)
 (hlt:Tells Tryz.prog 5 [Jc0 ⟨(k,n),x32,rs⟩] (Ji true)) (hfew:Tells Tryz.prog 6 [JZ l] (Ji true)) (hof:Tells Tryz.prog 8 [Jc0 ⟨(k,n),x32,rs⟩] (Jc0 ⟨(k,n),x32,rs⟩)) (hrw:Tells Tryz.prog 9 [JZ l] (JZ l))
 (hr:Tells Tryz.prog 7 [Jc0 ⟨(k,n),x32,rs⟩,JZ l] (.tup [Jca P,int 0,int 0])):Tells Tryz.prog 4 [Jc0 ⟨(k,n),x32,rs⟩,JZ l] (Ji true):=by
 have hawk:=JjG
 refine Jd Tryz.func4 rfl rfl fun nx=> ?_
 refine stp ?_
 refine Ja rfl rfl hlt ⟨Rf,trivial⟩ fun nx1=> ?_
 refine stp ?_
 refine Ja rfl rfl hfew ⟨Rf,trivial⟩ fun nx2=> ?_
 refine stp ?_
 refine Ja rfl rfl hof ⟨Rf,trivial⟩ fun nx3=> ?_
 refine stp ?_
 refine Ja rfl rfl hrw ⟨Rf,trivial⟩ fun nx4=> ?_
 refine stp ?_
 refine Ja rfl rfl hr ⟨Rf,Rf,trivial⟩ fun nx5=> ?_
 refine stp ?_
 refine Ja rfl rfl hof ⟨Rf,trivial⟩ fun nx6=> ?_
 refine stp ?_
 refine Ja rfl rfl hrw ⟨Rf,trivial⟩ fun nx7=> ?_
 refine stp ?_
 refine Ja rfl rfl hr ⟨Rf,Rf,trivial⟩ fun nx8=> ?_
 refine Jy ?_
 refine AW.le (Jc (n:=77) (nx:=nx8+1) (nn:=3) (pm:= []) (bx:= [((2,nx8), .c (JaZ P)),((1,nx5), .c (JaZ P))]) (L:= [(5, .bp (1,nx5) 0),(7,int 0),(8, .bp (2,nx8) 0),(10,int 0)]) _ _ rfl rfl (.cons_cons _ (.cons_cons _ (.cons _ .slnil))) Sf Bf trivial ⟨Rf,Rf,Rf,Rf,trivial⟩) ?_
 refine Jy ?_
 refine Ja7 (n:=77) (nx:=nx8+1) (nn:=1) (pm:= []) (bx:= []) (L:= [(5, .rp (JaZ P)),(7,int 0),(8, .rp (JaZ P)),(10,int 0)]) (df:=some []) [((2,nx8), .c (JaZ P)),((1,nx5), .c (JaZ P))] rfl rfl rfl (List.Perm.refl _) Sf ⟨Frz.bp (.tail _ (.head _)) rfl,Frz.refl _,Frz.bp (.head _) rfl,Frz.refl _,trivial⟩ ?_
 unfold JaZ
 refine stp ?_
 (refine JH 6 ?_ ?_ ?_ ?_;(· kernel_rfl);(· kernel_rfl);(· kernel_rfl))
 refine stp ?_
 have hI:=Jmm P hP
 have hlen:=Jj2 hP.s
 have hno:=JyX (Jcj P)
 generalize Jcj P=L at hI hlen hno
 refine J8 (JR rfl rfl hI ⟨Rf,trivial⟩ hno) ?_
 refine stp ?_
 refine J8 (JR rfl rfl hI ⟨Rf,trivial⟩ hno) ?_
 refine stp ?_
 intro c hc
 have hc2:c=false:=hc.trans (bne_self_eq_false _)
 clear hc
 cases hc2
 refine stp ?_
 refine Js (fun y:Nat×Nat=> mk 77 [(11,JaB L),(12,JaB L),(13,int y.1)] ⟨[], [],y.2,1⟩) (fun y=> y.1≤L.length) (fun y=> L.length - y.1) ?_ ?_
 ·exact ⟨(0,nx8+1),Nat.zero_le _,Et rfl rfl trivial trivial ⟨Rf,Rf,Rf,trivial⟩⟩
 ·rintro ⟨i,nx9⟩ h3
  dsimp only at h3
  refine stp ?_
  intro c g;cases c
  ·have g:=Jw g
   dsimp only at g
   refine stp ?_
   refine Ja rfl rfl hawk trivial fun nx10=> ?_
   refine stp ?_
   exact Jb rfl Rf
  ·have g:=Jv g
   dsimp only at g
   have hi:i < L.length:=by omega
   refine stp ?_
   (refine JH 9 ?_ ?_ ?_ ?_;(· kernel_rfl);(· kernel_rfl);(· kernel_rfl))
   refine stp ?_
   refine ⟨⟨by dsimp only;omega,by dsimp only;omega⟩, ?_⟩
   refine stp ?_
   refine ⟨⟨by dsimp only;omega,by dsimp only;omega⟩, ?_⟩
   refine stp ?_
   intro c hc
   have hc2:c=false:=hc.trans (by simp)
   clear hc
   cases hc2
   refine stp ?_
   exact back (i+1,nx9) Dm Dm (Et rfl rfl trivial trivial ⟨Rf,Rf,Jg (Jz Dm),trivial⟩)
theorem Jry (p:Pol) (l:List TRow) (hp:p.ok) (hl:l.length≤maxLen) (hn:∀q∈l,q.name.size≤maxLen):Tells Tryz.prog 4 [Jc0 p,JZ l] (Ji true):=by
 have hlt:=Jxe p hp.1
 have hfew:=JuY l hl hn
 obtain ⟨⟨k,n⟩,x32,rs⟩:=p
 cases hlp:JfK ⟨(k,n),x32,rs⟩ with
 | false=>
   rw [hlp] at hlt
   refine Jd Tryz.func4 rfl rfl fun nx=> ?_
   refine stp ?_
   refine Ja rfl rfl hlt ⟨Rf,trivial⟩ fun nx5=> ?_
   refine stp ?_
   exact Jb rfl Rf
 | true=>
   rw [hlp] at hlt
   have hpo:=Jyq hp hlp
   obtain ⟨h40,hps⟩:=JuZ hlp
   cases hfl:JkK l with
   | false=>
     rw [hfl] at hfew
     refine Jd Tryz.func4 rfl rfl fun nx=> ?_
     refine stp ?_
     refine Ja rfl rfl hlt ⟨Rf,trivial⟩ fun nx5=> ?_
     refine stp ?_
     refine Ja rfl rfl hfew ⟨Rf,trivial⟩ fun nx6=> ?_
     refine stp ?_
     exact Jb rfl Rf
   | true=>
     rw [hfl] at hfew
     obtain ⟨hl40,hn60⟩:=JBd hfl
     have hof:=JAH ⟨(k,n),x32,rs⟩ hpo.1 (fun r hr=> (hpo.2 r hr).1)
     have hrw:=Jrw l Om
     have hR:=Jru ⟨(k,n),x32,rs⟩ l hp hps Om hn
     unfold JyS at hR
     by_cases hv:(Jaq ⟨(k,n),x32,rs⟩ l).2=0
     ·rw [if_neg (fun h=> h hv)] at hR
      dsimp only at hR
      cases hx:rs.findIdx? (JfQ l) with
      | some i=>
        rw [hx] at hR
        exact Jrx k n x32 rs l i 17 Dc hlt hfew hof hrw hR
      | none=>
        rw [hx] at hR
        exact JyY k n x32 rs l _ (JBx hv (fun r hr=> (hpo.2 r hr).2) h40 fun r hr=> (hps r hr).1) hlt hfew hof hrw hR
     ·rw [if_pos hv] at hR
      exact Jrx k n x32 rs l (Jaq ⟨(k,n),x32,rs⟩ l).1 (Jaq ⟨(k,n),x32,rs⟩ l).2 hv hlt hfew hof hrw hR
end Go.Proofs.W
