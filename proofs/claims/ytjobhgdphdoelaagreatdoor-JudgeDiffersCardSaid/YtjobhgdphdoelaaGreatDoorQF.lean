import Derived.Test.YtjobhgdphdoelaaGreatDoorQD
import Derived.Test.YtjobhgdphdoelaaGreatDoorQE
import Derived.Sort.Walk0
import Derived.Shelf.Strings.Search1
import Derived.Shelf.Strings.FieldsFuncGrows
import Derived.Test.YtjobhgdphdoelaaGreatDoorQC
import Derived.Ground.NamesProg
import Derived.Shelf.Lay
import Derived.Shelf.Small.Bits
import Derived.Lib.ItoaNum
import Derived.Sort.LotA
set_option linter.unusedVariables false
set_option linter.unusedSimpArgs false
namespace Go.Proofs.W
open Go.Vl
set_option maxRecDepth 100000
abbrev Jbj:=List (Int×Int)
def Jaz (r:TRow) (S:Jbj):Nat→Option Jbj
 | 0=> some S
 | k+1=> match Jaz r S k with
   | none=> none
   | some S=> if r.num k=-1 then some S else if ((k:Int),r.num k)∈S then none else some (S++ [((k:Int),r.num k)])
def Jhr (r:TRow) (S:Jbj):Option Jbj:=if r.mux=0 then some S else if (5+r.mux,r.sub)∈S then none else some (S++ [(5+r.mux,r.sub)])
def leB (s t:ByteArray):Bool:=Op.bytesLess s.toList t.toList|| s.toList ==t.toList
def Jd2 (l:List TRow) (i:Nat) (S:Jbj):Except Int Jbj:=
 if J1 (l.getD i Jf).name.data.toList=false then .error 13
 else if 0 < i∧leB (l.getD i Jf).name (l.getD (i - 1) Jf).name=true then .error 15
 else if Jb3 (l.getD i Jf)=false then .error 16
 else if (l.getD i Jf).a2=102∨(l.getD i Jf).a2=117 then .error 17
 else match Jaz (l.getD i Jf) S 5 with
  | none=> .error 15
  | some S=> match Jhr (l.getD i Jf) S with
    | none=> .error 15
    | some S=> .ok S
def JcR (l:List TRow):Nat→Except (Nat×Int) Jbj
 | 0=> .ok []
 | k+1=> match JcR l k with
   | .error e=> .error e
   | .ok S=> match Jd2 l k S with
     | .error e=> .error (k,e)
     | .ok S=> .ok S
def JcO (l:List TRow):Int×Int:=if 400 < l.length then (0,3) else match JcR l l.length with
 | .error e=> ((e.1:Int),e.2)
 | .ok _=> (0,0)
theorem JrG {l:List TRow} {k:Nat} {e:Nat×Int} (h:JcR l k= .error e):∀ {m:Nat},k≤m→JcR l m= .error e:=by
 intro m hm
 induction m with
 | zero=> obtain rfl:k=0:=by omega
          exact h
 | succ m ih=>
   rcases Nat.lt_or_ge m k with q | q
   ·rw [show m+1=k by omega];exact h
   ·unfold JcR;rw [ih q]
theorem JoN {l:List TRow} {i:Nat} {S:Jbj} {e:Int} (hl:¬400 < l.length) (hi:i < l.length) (h:JcR l i= .ok S) (he:Jd2 l i S= .error e):JcO l=((i:Int),e):=by
 have h1:JcR l (i+1)= .error (i,e):=by unfold JcR;rw [h];dsimp only;rw [he]
 unfold JcO
 rw [if_neg hl,JrG h1 hi]
theorem JrH {l:List TRow} {S:Jbj} (hl:¬400 < l.length) (h:JcR l l.length= .ok S):JcO l=(0,0):=by
 unfold JcO
 rw [if_neg hl,h]
theorem Jk2 {l:List TRow} {i:Nat} {S S':Jbj} (h:JcR l i= .ok S) (he:Jd2 l i S= .ok S'):JcR l (i+1)= .ok S':=by
 unfold JcR;rw [h];dsimp only;rw [he]
theorem JeK {r:TRow} {S S':Jbj} {k:Nat} (h:Jaz r S k=some S') (hn:r.num k=-1):Jaz r S (k+1)=some S':=by
 unfold Jaz;rw [h];dsimp only;rw [if_pos hn]
theorem Jf7 {r:TRow} {S S':Jbj} {k:Nat} (h:Jaz r S k=some S') (hn:¬r.num k=-1) (hm:((k:Int),r.num k)∈S'):Jaz r S (k+1)=none:=by
 unfold Jaz;rw [h];dsimp only;rw [if_neg hn,if_pos hm]
theorem Jfm {r:TRow} {S S':Jbj} {k:Nat} (h:Jaz r S k=some S') (hn:¬r.num k=-1) (hm:¬((k:Int),r.num k)∈S'):Jaz r S (k+1)=some (Jcq ((k:Int),r.num k) S'):=by
 unfold Jaz Jcq;rw [h];dsimp only;rw [if_neg hn,if_neg hm,if_neg hm]
theorem JeL {r:TRow} {S:Jbj} {k:Nat} (h:Jaz r S k=none):∀ {m:Nat},k≤m→Jaz r S m=none:=by
 intro m hm
 induction m with
 | zero=> obtain rfl:k=0:=by omega
          exact h
 | succ m ih=>
   rcases Nat.lt_or_ge m k with q | q
   ·rw [show m+1=k by omega];exact h
   ·unfold Jaz;rw [ih q]
def Ja1 (l:List TRow) (i:Nat):Bool:=decide (0 < i)&& leB (l.getD i Jf).name (l.getD (i - 1) Jf).name
theorem JhW {l:List TRow} {i:Nat}:Ja1 l i=true↔0 < i∧leB (l.getD i Jf).name (l.getD (i - 1) Jf).name=true:=by unfold Ja1;simp
theorem JoO {l:List TRow} {i:Nat} {S:Jbj} (h:J1 (l.getD i Jf).name.data.toList=false):Jd2 l i S= .error 13:=if_pos h
theorem JoP {l:List TRow} {i:Nat} {S:Jbj} (h:J1 (l.getD i Jf).name.data.toList=true) (h2:Ja1 l i=true):Jd2 l i S= .error 15:=by
 unfold Jd2;rw [if_neg (by rw [h];decide),if_pos (JhW.1 h2)]
theorem Jkh {l:List TRow} {i:Nat} {S:Jbj} (h:J1 (l.getD i Jf).name.data.toList=true) (h2:Ja1 l i=false) (h3:Jb3 (l.getD i Jf)=false):Jd2 l i S= .error 16:=by
 unfold Jd2;rw [if_neg (by rw [h];decide),if_neg (by rw [← JhW,h2];decide),if_pos h3]
theorem Jki {l:List TRow} {i:Nat} {S:Jbj} (h:J1 (l.getD i Jf).name.data.toList=true) (h2:Ja1 l i=false) (h3:Jb3 (l.getD i Jf)=true) (h4:(l.getD i Jf).a2=102∨(l.getD i Jf).a2=117):Jd2 l i S= .error 17:=by
 unfold Jd2;rw [if_neg (by rw [h];decide),if_neg (by rw [← JhW,h2];decide),if_neg (by rw [h3];decide),if_pos h4]
theorem Jk3 {l:List TRow} {i:Nat} {S:Jbj} (h:J1 (l.getD i Jf).name.data.toList=true) (h2:Ja1 l i=false) (h3:Jb3 (l.getD i Jf)=true) (h4:¬((l.getD i Jf).a2=102∨(l.getD i Jf).a2=117)):Jd2 l i S=match Jaz (l.getD i Jf) S 5 with
 | none=> .error 15
 | some S=> match Jhr (l.getD i Jf) S with
   | none=> .error 15
   | some S=> .ok S:=by
 unfold Jd2;rw [if_neg (by rw [h];decide),if_neg (by rw [← JhW,h2];decide),if_neg (by rw [h3];decide),if_neg h4]
theorem JjB {r:TRow} (h:Jb3 r=true) (h0:¬r.mux=0):r.mux=1∨r.mux=2:=by
 unfold Jb3 at h
 rw [if_neg h0] at h
 simp only [Bool.and_eq_true,Bool.or_eq_true,decide_eq_true_eq] at h
 exact h.2.1.1
set_option maxHeartbeats 4000000 in
theorem Jls (l:List TRow) (hl:l.length≤1000000) (hn:∀r∈l,r.name.size≤maxLen):Tells Tryz.prog 50 [Js l] (.tup [int (JcO l).1,int (JcO l).2]):=by
 refine Jc Tryz.func50 rfl rfl fun nx=> ?_
 refine stp ?_
 intro c g4;cases c
 rotate_left
 ·have g4:400 < l.length:=by have:=Jl g4;omega
  have e:JcO l=(0,3):=by unfold JcO;rw [if_pos g4]
  rw [e]
  refine stp ?_
  exact Ja rfl Rf
 have g4:¬400 < l.length:=by have:=Jm g4;omega
 refine stp ?_
 refine Jr (fun y:Nat×Jbj×Nat=> mk 88 [(0,Js l),(2,int 0),(3,int 0),(4, .om (0,nx)),(14,Js l),(15,int l.length),(16,int y.1)] ⟨[((0,nx), .mp (y.2.1.map Jcp))], [],y.2.2,1⟩) (fun y=> y.1≤l.length∧JcR l y.1= .ok y.2.1) (fun y=> l.length - y.1) ?_ ?_
 ·exact ⟨(0, [],nx+1),⟨Nat.zero_le _,rfl⟩,Et rfl rfl Bf trivial ⟨Rf,Rf,Rf,Rf,Rf,Rf,Rf,trivial⟩⟩
 ·rintro ⟨i,S,nx1⟩ ⟨h1,h2⟩
  dsimp only at h1 h2
  refine stp ?_
  intro c g;cases c
  ·have g:=Jm g
   try dsimp only at g
   have hi:i=l.length:=by omega
   subst hi
   rw [JrH g4 h2]
   refine stp ?_
   exact Ja rfl Rf
  ·have g:=Jl g
   try dsimp only at g
   have hi:i < l.length:=by omega
   have hmem:l.getD i Jf∈l:=by simp [List.getD,hi]
   have hnm:=Jjl (l.getD i Jf).name (Nat.le_trans (hn _ hmem) Dc)
   have hrg:=JnN (l.getD i Jf)
   have herr:=fun e=> JoN (e:=e) g4 hi h2
   have hnext:=fun S'=> Jk2 (S':=S') h2
   refine stp ?_
   refine ⟨Bd, ?_⟩
   refine stp ?_
   cases hb:J1 (l.getD i Jf).name.data.toList with
   | false=>
     rw [hb] at hnm
     refine Jb rfl rfl hnm ⟨Rf,trivial⟩ fun nx2=> ?_
     refine stp ?_
     rw [herr 13 (JoO hb)]
     exact Ja rfl Rf
   | true=>
     rw [hb] at hnm
     refine Jb rfl rfl hnm ⟨Rf,trivial⟩ fun nx2=> ?_
     refine stp ?_
     refine JeF (fun y:Nat=> mk 88 [(0,Js l),(2,int 0),(3,int 0),(4, .om (0,nx)),(5,int i),(6, .bp (1,nx1) 0),(7,int (l.getD i Jf).a2),(14,Js l),(15,int l.length),(16,int i),(30,Jg (Ja1 l i))] ⟨[((1,nx1), .c (Jad (l.getD i Jf))),((0,nx), .mp (S.map Jcp))], [],y,2⟩) (fun _=> True) ?_ ?_
     ·by_cases h0:0 < i
      ·have hd:decide ((i:Int) > 0)=true:=decide_eq_true Om
       have hi1:IntKind.i64.wrap ((i:Int) - 1)=((i - 1:Nat):Int):=by rw [Jq Om Om];omega
       (refine Jy 13 ?_ ?_ ?_ ?_;(· kernel_rfl);(· kernel_rfl);(· kernel_rfl))
       refine stp ?_
       (conv=> whnf)
       refine JaE hd ?_
       refine stp ?_
       refine ⟨⟨Jvu (i:=i - 1) hi1,Jvv (i:=i - 1) hi1 Om⟩,Jh (b:= .rp (Jad (l.getD (i - 1) Jf))) (congrArg (fun z:Int=> AV.rp (Jad (l.getD z.toNat Jf))) hi1) ?_⟩
       refine stp ?_
       intro c hc
       have hc2:c=Ja1 l i:=hc.trans (by unfold Ja1;rw [decide_eq_true h0,Bool.true_and];rfl)
       clear hc
       rw [← hc2]
       clear hc2
       cases c
       all_goals
        refine stp ?_
        exact ⟨nx2,trivial,Et rfl rfl Bf trivial ⟨Rf,Rf,Rf,Rf,Rf,Rf,Rf,Rf,Rf,Rf,Rf,trivial⟩⟩
      ·have hd:decide ((i:Int) > 0)=false:=decide_eq_false Om
       have hq:Ja1 l i=false:=by unfold Ja1;rw [decide_eq_false h0];rfl
       rw [hq]
       (refine Jy 13 ?_ ?_ ?_ ?_;(· kernel_rfl);(· kernel_rfl);(· kernel_rfl))
       refine stp ?_
       (conv=> whnf)
       refine JaE hd ?_
       refine stp ?_
       exact ⟨nx2,trivial,Et rfl rfl Bf trivial ⟨Rf,Rf,Rf,Rf,Rf,Rf,Rf,Rf,Rf,Rf,Rf,trivial⟩⟩
     ·rintro nx3 -
      cases hq:Ja1 l i with
      | true=>
        refine stp ?_
        rw [herr 15 (JoP hb hq)]
        exact Ja rfl Rf
      | false=>
        refine stp ?_
        refine Jh (b:=Jo (l.getD i Jf)) rfl ?_
        refine stp ?_
        cases hr:Jb3 (l.getD i Jf) with
        | false=>
          rw [hr] at hrg
          refine Jb rfl rfl hrg ⟨Rf,trivial⟩ fun nx4=> ?_
          refine stp ?_
          rw [herr 16 (Jkh hb hq hr)]
          exact Ja rfl Rf
        | true=>
          rw [hr] at hrg
          refine Jb rfl rfl hrg ⟨Rf,trivial⟩ fun nx4=> ?_
          refine stp ?_
          intro c t1;cases c
          rotate_left
          ·have t1:(l.getD i Jf).a2=102:=by simpa using t1.symm
           refine stp ?_
           rw [herr 17 (Jki hb hq hr (.inl t1))]
           exact Ja rfl Rf
          have t1:¬(l.getD i Jf).a2=102:=by simpa using t1.symm
          refine stp ?_
          intro c t2;cases c
          rotate_left
          ·have t2:(l.getD i Jf).a2=117:=by simpa using t2.symm
           refine stp ?_
           rw [herr 17 (Jki hb hq hr (.inr t2))]
           exact Ja rfl Rf
          have t2:¬(l.getD i Jf).a2=117:=by simpa using t2.symm
          have hrest:=Jk3 (S:=S) hb hq hr (fun h=> h.elim t1 t2)
          refine stp ?_
          refine JoA (fun y:Jbj×Nat=> mk 88 [(0,Js l),(2,int 0),(3,int 0),(4, .om (0,nx)),(5,int i),(6, .bp (1,nx1) 0),(14,Js l),(15,int l.length),(16,int i)] ⟨[((1,nx1), .c (Jad (l.getD i Jf))),((0,nx), .mp (y.1.map Jcp))], [],y.2,2⟩) (fun y=> Jaz (l.getD i Jf) S 5=some y.1) ?_ ?_
          ·refine Jr (fun y:Nat×Jbj×Nat=> mk 88 [(0,Js l),(2,int 0),(3,int 0),(4, .om (0,nx)),(5,int i),(6, .bp (1,nx1) 0),(14,Js l),(15,int l.length),(16,int i),(59,JvB (l.getD i Jf)),(60,int y.1)] ⟨[((1,nx1), .c (Jad (l.getD i Jf))),((0,nx), .mp (y.2.1.map Jcp))], [],y.2.2,2⟩) (fun y=> y.1≤5∧Jaz (l.getD i Jf) S y.1=some y.2.1) (fun y=> 5 - y.1) ?_ ?_
           ·exact ⟨(0,S,nx4),⟨Nat.zero_le _,rfl⟩,Et rfl rfl Bf trivial ⟨Rf,Rf,Rf,Rf,Rf,Rf,Rf,Rf,Rf,Rf,Rf,trivial⟩⟩
           ·rintro ⟨k,S',nx5⟩ ⟨hk,hS⟩
            dsimp only at hk hS
            rcases k with _ | _ | _ | _ | _ | _ | k
            ·refine stp ?_
             intro c t;cases c
             ·have t:(l.getD i Jf).num 0=-1:=by show (l.getD i Jf).a0=-1;simpa using t.symm
              refine stp ?_
              exact back (0+1,S',nx5) ⟨by dsimp only;omega,JeK hS t⟩ Dm (Et rfl rfl Bf trivial ⟨Rf,Rf,Rf,Rf,Rf,Rf,Rf,Rf,Rf,Rf,Rf,trivial⟩)
             ·have t:¬(l.getD i Jf).num 0=-1:=by show ¬(l.getD i Jf).a0=-1;simpa using t.symm
              refine stp ?_
              refine Jac (xs:= [.om (0,nx),int ((0:Nat):Int),int ((l.getD i Jf).num 0)]) [((1,nx1), .c (Jad (l.getD i Jf)))] [] 2 rfl rfl rfl rfl ⟨Rf,Rf,Rf,trivial⟩ (Jei nx nx5 0 S' ((0:Nat):Int) ((l.getD i Jf).num 0)) Bf Pf rfl fun r h' hq2=> ?_
              obtain ⟨nx6,nn6,rfl,rfl⟩:=hq2
              by_cases hm:(((0:Nat):Int),(l.getD i Jf).num 0)∈S'
              ·have hnone:=JeL (Jf7 hS t hm) (show 0+1≤5 by decide)
               rw [hnone] at hrest
               rw [decide_eq_true hm]
               refine stp ?_
               rw [herr 15 hrest]
               exact Ja rfl Rf
              ·have hnew:=Jfm hS t hm
               rw [decide_eq_false hm]
               refine stp ?_
               exact back (0+1,Jcq (((0:Nat):Int),(l.getD i Jf).num 0) S',nx6) ⟨by dsimp only;omega,hnew⟩ Dm (Et rfl rfl Bf trivial ⟨Rf,Rf,Rf,Rf,Rf,Rf,Rf,Rf,Rf,Rf,Rf,trivial⟩)
            ·refine stp ?_
             intro c t;cases c
             ·have t:(l.getD i Jf).num 1=-1:=by show (l.getD i Jf).a1=-1;simpa using t.symm
              refine stp ?_
              exact back (1+1,S',nx5) ⟨by dsimp only;omega,JeK hS t⟩ Dm (Et rfl rfl Bf trivial ⟨Rf,Rf,Rf,Rf,Rf,Rf,Rf,Rf,Rf,Rf,Rf,trivial⟩)
             ·have t:¬(l.getD i Jf).num 1=-1:=by show ¬(l.getD i Jf).a1=-1;simpa using t.symm
              refine stp ?_
              refine Jac (xs:= [.om (0,nx),int ((1:Nat):Int),int ((l.getD i Jf).num 1)]) [((1,nx1), .c (Jad (l.getD i Jf)))] [] 2 rfl rfl rfl rfl ⟨Rf,Rf,Rf,trivial⟩ (Jei nx nx5 0 S' ((1:Nat):Int) ((l.getD i Jf).num 1)) Bf Pf rfl fun r h' hq2=> ?_
              obtain ⟨nx6,nn6,rfl,rfl⟩:=hq2
              by_cases hm:(((1:Nat):Int),(l.getD i Jf).num 1)∈S'
              ·have hnone:=JeL (Jf7 hS t hm) (show 1+1≤5 by decide)
               rw [hnone] at hrest
               rw [decide_eq_true hm]
               refine stp ?_
               rw [herr 15 hrest]
               exact Ja rfl Rf
              ·have hnew:=Jfm hS t hm
               rw [decide_eq_false hm]
               refine stp ?_
               exact back (1+1,Jcq (((1:Nat):Int),(l.getD i Jf).num 1) S',nx6) ⟨by dsimp only;omega,hnew⟩ Dm (Et rfl rfl Bf trivial ⟨Rf,Rf,Rf,Rf,Rf,Rf,Rf,Rf,Rf,Rf,Rf,trivial⟩)
            ·refine stp ?_
             intro c t;cases c
             ·have t:(l.getD i Jf).num 2=-1:=by show (l.getD i Jf).a2=-1;simpa using t.symm
              refine stp ?_
              exact back (2+1,S',nx5) ⟨by dsimp only;omega,JeK hS t⟩ Dm (Et rfl rfl Bf trivial ⟨Rf,Rf,Rf,Rf,Rf,Rf,Rf,Rf,Rf,Rf,Rf,trivial⟩)
             ·have t:¬(l.getD i Jf).num 2=-1:=by show ¬(l.getD i Jf).a2=-1;simpa using t.symm
              refine stp ?_
              refine Jac (xs:= [.om (0,nx),int ((2:Nat):Int),int ((l.getD i Jf).num 2)]) [((1,nx1), .c (Jad (l.getD i Jf)))] [] 2 rfl rfl rfl rfl ⟨Rf,Rf,Rf,trivial⟩ (Jei nx nx5 0 S' ((2:Nat):Int) ((l.getD i Jf).num 2)) Bf Pf rfl fun r h' hq2=> ?_
              obtain ⟨nx6,nn6,rfl,rfl⟩:=hq2
              by_cases hm:(((2:Nat):Int),(l.getD i Jf).num 2)∈S'
              ·have hnone:=JeL (Jf7 hS t hm) (show 2+1≤5 by decide)
               rw [hnone] at hrest
               rw [decide_eq_true hm]
               refine stp ?_
               rw [herr 15 hrest]
               exact Ja rfl Rf
              ·have hnew:=Jfm hS t hm
               rw [decide_eq_false hm]
               refine stp ?_
               exact back (2+1,Jcq (((2:Nat):Int),(l.getD i Jf).num 2) S',nx6) ⟨by dsimp only;omega,hnew⟩ Dm (Et rfl rfl Bf trivial ⟨Rf,Rf,Rf,Rf,Rf,Rf,Rf,Rf,Rf,Rf,Rf,trivial⟩)
            ·refine stp ?_
             intro c t;cases c
             ·have t:(l.getD i Jf).num 3=-1:=by show (l.getD i Jf).a3=-1;simpa using t.symm
              refine stp ?_
              exact back (3+1,S',nx5) ⟨by dsimp only;omega,JeK hS t⟩ Dm (Et rfl rfl Bf trivial ⟨Rf,Rf,Rf,Rf,Rf,Rf,Rf,Rf,Rf,Rf,Rf,trivial⟩)
             ·have t:¬(l.getD i Jf).num 3=-1:=by show ¬(l.getD i Jf).a3=-1;simpa using t.symm
              refine stp ?_
              refine Jac (xs:= [.om (0,nx),int ((3:Nat):Int),int ((l.getD i Jf).num 3)]) [((1,nx1), .c (Jad (l.getD i Jf)))] [] 2 rfl rfl rfl rfl ⟨Rf,Rf,Rf,trivial⟩ (Jei nx nx5 0 S' ((3:Nat):Int) ((l.getD i Jf).num 3)) Bf Pf rfl fun r h' hq2=> ?_
              obtain ⟨nx6,nn6,rfl,rfl⟩:=hq2
              by_cases hm:(((3:Nat):Int),(l.getD i Jf).num 3)∈S'
              ·have hnone:=JeL (Jf7 hS t hm) (show 3+1≤5 by decide)
               rw [hnone] at hrest
               rw [decide_eq_true hm]
               refine stp ?_
               rw [herr 15 hrest]
               exact Ja rfl Rf
              ·have hnew:=Jfm hS t hm
               rw [decide_eq_false hm]
               refine stp ?_
               exact back (3+1,Jcq (((3:Nat):Int),(l.getD i Jf).num 3) S',nx6) ⟨by dsimp only;omega,hnew⟩ Dm (Et rfl rfl Bf trivial ⟨Rf,Rf,Rf,Rf,Rf,Rf,Rf,Rf,Rf,Rf,Rf,trivial⟩)
            ·refine stp ?_
             intro c t;cases c
             ·have t:(l.getD i Jf).num 4=-1:=by show (l.getD i Jf).a4=-1;simpa using t.symm
              refine stp ?_
              exact back (4+1,S',nx5) ⟨by dsimp only;omega,JeK hS t⟩ Dm (Et rfl rfl Bf trivial ⟨Rf,Rf,Rf,Rf,Rf,Rf,Rf,Rf,Rf,Rf,Rf,trivial⟩)
             ·have t:¬(l.getD i Jf).num 4=-1:=by show ¬(l.getD i Jf).a4=-1;simpa using t.symm
              refine stp ?_
              refine Jac (xs:= [.om (0,nx),int ((4:Nat):Int),int ((l.getD i Jf).num 4)]) [((1,nx1), .c (Jad (l.getD i Jf)))] [] 2 rfl rfl rfl rfl ⟨Rf,Rf,Rf,trivial⟩ (Jei nx nx5 0 S' ((4:Nat):Int) ((l.getD i Jf).num 4)) Bf Pf rfl fun r h' hq2=> ?_
              obtain ⟨nx6,nn6,rfl,rfl⟩:=hq2
              by_cases hm:(((4:Nat):Int),(l.getD i Jf).num 4)∈S'
              ·have hnone:=JeL (Jf7 hS t hm) (show 4+1≤5 by decide)
               rw [hnone] at hrest
               rw [decide_eq_true hm]
               refine stp ?_
               rw [herr 15 hrest]
               exact Ja rfl Rf
              ·have hnew:=Jfm hS t hm
               rw [decide_eq_false hm]
               refine stp ?_
               exact back (4+1,Jcq (((4:Nat):Int),(l.getD i Jf).num 4) S',nx6) ⟨by dsimp only;omega,hnew⟩ Dm (Et rfl rfl Bf trivial ⟨Rf,Rf,Rf,Rf,Rf,Rf,Rf,Rf,Rf,Rf,Rf,trivial⟩)
            ·refine stp ?_
             exact ⟨(S',nx5),hS,Et rfl rfl Bf trivial ⟨Rf,Rf,Rf,Rf,Rf,Rf,Rf,Rf,Rf,trivial⟩⟩
            ·omega
          ·rintro ⟨S5,nx5⟩ hS
           dsimp only at hS
           refine stp ?_
           intro c t;cases c
           ·have t:(l.getD i Jf).mux=0:=by simpa using t.symm
            have hmx:Jhr (l.getD i Jf) S5=some S5:=if_pos t
            rw [hS] at hrest
            dsimp only at hrest
            rw [hmx] at hrest
            have h3:=hnext S5 hrest
            refine stp ?_
            exact back (i+1,S5,nx5) ⟨hi,h3⟩ Dm (Je _ _ rfl rfl (.cons _ Sf) Sf Bf trivial ⟨Rf,Rf,Rf,Rf,Rf,Rf,Lw,trivial⟩)
           ·have t:¬(l.getD i Jf).mux=0:=by simpa using t.symm
            have h12:=JjB hr t
            have hw:IntKind.i64.wrap (5+(l.getD i Jf).mux)=5+(l.getD i Jf).mux:=Jq Om Om
            refine stp ?_
            refine Jac (xs:= [.om (0,nx),int (5+(l.getD i Jf).mux),int (l.getD i Jf).sub]) [((1,nx1), .c (Jad (l.getD i Jf)))] [] 2 rfl rfl rfl rfl ⟨Rf,Jd hw,Rf,trivial⟩ (Jei nx nx5 0 S5 (5+(l.getD i Jf).mux) (l.getD i Jf).sub) Bf Pf rfl fun r h' hq2=> ?_
            obtain ⟨nx6,nn6,rfl,rfl⟩:=hq2
            rw [hS] at hrest
            dsimp only at hrest
            by_cases hm:(5+(l.getD i Jf).mux,(l.getD i Jf).sub)∈S5
            ·have hmx:Jhr (l.getD i Jf) S5=none:=by unfold Jhr;rw [if_neg t,if_pos hm]
             rw [hmx] at hrest
             rw [decide_eq_true hm]
             refine stp ?_
             rw [herr 15 hrest]
             exact Ja rfl Rf
            ·have hmx:Jhr (l.getD i Jf) S5=some (Jcq (5+(l.getD i Jf).mux,(l.getD i Jf).sub) S5):=by unfold Jhr Jcq;rw [if_neg t,if_neg hm,if_neg hm]
             rw [hmx] at hrest
             have h3:=hnext _ hrest
             rw [decide_eq_false hm]
             refine stp ?_
             exact back (i+1,Jcq (5+(l.getD i Jf).mux,(l.getD i Jf).sub) S5,nx6) ⟨hi,h3⟩ Dm (Je _ _ rfl rfl (.cons _ Sf) Sf Bf trivial ⟨Rf,Rf,Rf,Rf,Rf,Rf,Lw,trivial⟩)
end Go.Proofs.W

namespace Go.Proofs
open Go.Shelf
end Go.Proofs
namespace Go.Proofs.W
open Go.Vl Go.Shelf
set_option maxRecDepth 100000
theorem Jp0:∀x y:List UInt8,Go.Sort.ltStr x y=false→Go.Sort.ltStr y x=false→x=y:=fun x y h1 h2=> by
 simp only [Go.Sort.ltStr,decide_eq_false_iff_not,List.not_lt] at h1 h2
 exact List.le_antisymm h2 h1
theorem JvM {s t:ByteArray} (h:leB s t=false):Go.Sort.ltStr t.data.toList s.data.toList=true:=by
 unfold leB at h
 rw [Bool.or_eq_false_iff,Go.Proofs.bytesLess_eq,Lib.toList_data,Lib.toList_data] at h
 cases hl:Go.Sort.ltStr t.data.toList s.data.toList with
 | true=> rfl
 | false=>
   have e:=Jp0 _ _ hl h.1
   rw [e] at h;simp at h
end Go.Proofs.W

namespace Go.Proofs.W
open Go.Vl
set_option maxRecDepth 100000
end Go.Proofs.W

namespace Go.Proofs
open Go.Shelf
shelf_lay Lays.n217 Nm 217 at Tryz as Tryz.lays217
shelf_lay Lays.n229 Nm 229 at Tryz as Tryz.lays229
end Go.Proofs
namespace Go.Proofs.W
open Go.Vl Go.Shelf
set_option maxRecDepth 100000
def i32 (n:Int):AV:= .v (.int .i32 n)
def Jdo (x:Nat):Bool:=decide (x=32)|| decide (x=9)|| decide (x=13)
theorem JjC (x:Nat):Tells Tryz.prog 110 [i32 x] (Jg (Jdo x)):=by
 have hb:Jdo x=(((x:Int) ==32)|| (((x:Int) ==9)|| ((x:Int) ==13))):=by
  unfold Jdo
  rw [show ((x:Int) ==32)=decide (x=32) by rw [Bool.eq_iff_iff];simp;omega,show ((x:Int) ==9)=decide (x=9) by rw [Bool.eq_iff_iff];simp;omega,show ((x:Int) ==13)=decide (x=13) by rw [Bool.eq_iff_iff];simp;omega,Bool.or_assoc]
 refine Jc Tryz.func110 rfl rfl fun nx=> ?_
 refine stp ?_
 intro c hc
 have hc2:c=((x:Int) ==32):=hc
 clear hc
 rw [← hc2] at hb
 clear hc2
 cases c
 ·refine stp ?_
  intro c hc
  have hc2:c=((x:Int) ==9):=hc
  clear hc
  rw [← hc2,Bool.false_or] at hb
  clear hc2
  cases c
  ·refine stp ?_
   intro c hc
   have hc2:c=((x:Int) ==13):=hc
   clear hc
   rw [← hc2,Bool.false_or] at hb
   refine stp ?_
   exact Ja rfl (Jn (by exact hb.symm))
  ·refine stp ?_
   exact Ja rfl (Jn (by exact hb.symm))
 ·refine stp ?_
  exact Ja rfl (Jn (by exact hb.symm))
def Jm0 (s:ByteArray):Prop:=∀i,i < s.size→(s.get! i).toNat < 128∧(Jdo (s.get! i).toNat=true∨(32≤(s.get! i).toNat∧(s.get! i).toNat≤126))
set_option maxHeartbeats 2000000 in
theorem JjD (s:ByteArray) (hs:Jm0 s) (hl:s.size≤1000000):Tells Tryz.prog 108 [Jj s] (Jg true):=by
 refine Jc Tryz.func108 rfl rfl fun nx=> ?_
 refine stp ?_
 refine Jpd rfl Tryz.underlying9 rfl ?_
 refine stp ?_
 refine Jr (fun y:Nat×Nat=> mk 21 [(0,Jj s),(6, .bp (0,nx) 0)] ⟨[((0,nx), .si s y.1)], [],y.2,1⟩) (fun y=> y.1≤s.size) (fun y=> s.size - y.1) ?_ ?_
 ·exact ⟨(0,nx+1),Nat.zero_le _,Et (pm:= []) (bx:= [((0,nx), .si s 0)]) rfl rfl Bf trivial ⟨Rf,Rf,trivial⟩⟩
 ·rintro ⟨i,nx1⟩ h1
  dsimp only at h1
  refine stp ?_
  by_cases hi:i < s.size
  ·obtain ⟨q1,q2⟩:=hs i hi
   have hd:=Jq5 q1
   have hbl:=JjC (s.get! i).toNat
   generalize (s.get! i).toNat=x at q1 q2 hd hbl
   refine Jpe rfl rfl rfl hi hd ?_
   refine stp ?_
   refine Jb rfl rfl hbl ⟨Rf,trivial⟩ fun nx2=> ?_
   cases hb:Jdo x with
   | true=>
     refine stp ?_
     exact back (i+1,nx2) hi Dm (Et (pm:= []) (bx:= [((0,nx), .si s (i+1))]) rfl rfl Bf trivial ⟨Rf,Rf,trivial⟩)
   | false=>
     rw [hb] at q2
     have h32:32≤x∧x≤126:=q2.resolve_left Dc
     refine stp ?_
     (intro c hc;obtain rfl:c=false:=hc.trans (by first | exact decide_eq_false Om | (simp;omega));refine stp ?_)
     (intro c hc;obtain rfl:c=false:=hc.trans (by first | exact decide_eq_false Om | (simp;omega));refine stp ?_)
     exact back (i+1,nx2) hi Dm (Et (pm:= []) (bx:= [((0,nx), .si s (i+1))]) rfl rfl Bf trivial ⟨Rf,Rf,trivial⟩)
  ·refine Jpf rfl rfl rfl hi ?_
   refine stp ?_
   exact Ja rfl Rf
end Go.Proofs.W

namespace Go.Proofs.W
open Go.Vl Go.Shelf
set_option maxRecDepth 100000
theorem JrI (s:ByteArray) (c:Int):Tells Tryz.prog 178 [.v (.string s), .v (.int .u8 c)] (.v (.int .i64 (Lib.indexByte s.data.toList c.toNat.toUInt8))):=
 Jef (vs:= [.string s, .int .u8 c]) ⟨_,Tryz.func178,rfl,rfl⟩ fun w=> (Any.stringslite_IndexByte Tryz.lays217 s c w).mono fun e w' ⟨h1,h2⟩=> ⟨h1,by subst h2;exact ⟨rfl,rfl,rfl,Nat.le_refl _,fun _ _=> rfl⟩⟩
theorem Jij (s:ByteArray) (hs:s.size≤1000000):Tells Tryz.prog 109 [Jj s, .fn (.func 110) [] []] (.sl 1 (Lib.goFieldsP Jdo s).length fun k=> .v (((Lib.goFieldsP Jdo s).map Value.string).getD k undef)):=by
 have h:=Jmy (P:=Tryz.prog) (f:=109) (ars:= [Jj s, .fn (.func 110) [] []]) (vs:= [.string s, .func (.func 110) #[] #[]]) (xs:=(Lib.goFieldsP Jdo s).map Value.string) (t:=9) ⟨_,Tryz.func109,rfl,rfl⟩ (fun w X g us h1 h2=> by
  match us,h1 with
  | [a,b],_=>
    have ha:=h2 0 _ a rfl rfl
    have hb:=Jwt _ _ _ _ (h2 1 _ b rfl rfl)
    generalize a=a' at ha
    generalize b=b' at hb
    cases ha
    cases hb
    rfl) (fun w hk=> by
  rw [List.length_map]
  exact Any.strings_FieldsFunc_grows Tryz.lays229 110 #[] (fun args w=> enters_of Tryz.func110 (by kernel_rfl) rfl args w) Jdo s w Om (Jln (fun x _=> JjC x) w hk) (by kernel_rfl) (by kernel_rfl))
 rw [List.length_map] at h
 exact h
set_option maxHeartbeats 1000000 in
theorem Jk4 (s:ByteArray) (b:UInt8) (hne:((⟨#[b]⟩:ByteArray).toList ==s.toList)=false):Tells Tryz.prog 220 [Jj s,Jj ⟨#[b]⟩] (int (Lib.indexByte s.data.toList b)):=by
 have hi:=JrI s (b.toNat:Int)
 have hbb:((b.toNat:Int).toNat.toUInt8)=b:=by simp
 rw [hbb] at hi
 refine Jc Tryz.func220 rfl rfl fun nx=> ?_
 refine stp ?_
 intro c hc
 obtain rfl:c=false:=hc.trans hne
 refine stp ?_
 (conv=> whnf)
 refine ⟨⟨by decide,(show (0:Int) < 1 by decide)⟩, ?_⟩
 refine stp ?_
 refine Jb rfl rfl hi ⟨Rf,Rf,trivial⟩ fun nx2=> ?_
 refine stp ?_
 exact Ja rfl Rf
set_option maxHeartbeats 1000000 in
theorem Jk5 (s:ByteArray) (b:UInt8) (hne:((⟨#[b]⟩:ByteArray).toList ==s.toList)=false) (h:Lib.indexByte s.data.toList b=-1):Tells Tryz.prog 157 [Jj s,Jj ⟨#[b]⟩] (.tup [Jj s,Jj ⟨#[]⟩,Jg false]):=by
 have hi:=Jk4 s b hne
 rw [h] at hi
 have hc:Tells Tryz.prog 197 [Jj s,Jj ⟨#[b]⟩] (.tup [Jj s,Jj ⟨#[]⟩,Jg false]):=by
  refine Jc Tryz.func197 rfl rfl fun nx=> ?_
  refine stp ?_
  refine Jb rfl rfl hi ⟨Rf,Rf,trivial⟩ fun nx2=> ?_
  refine stp ?_
  exact Ji rfl trivial Rf
 refine Jc Tryz.func157 rfl rfl fun nx=> ?_
 refine stp ?_
 refine Jb rfl rfl hc ⟨Rf,Rf,trivial⟩ fun nx2=> ?_
 refine stp ?_
 exact Ji rfl trivial Rf
theorem JjE (s:ByteArray) (b:UInt8) (hne:((⟨#[b]⟩:ByteArray).toList ==s.toList)=false):Tells Tryz.prog 219 [Jj s,Jj ⟨#[b]⟩] (int (Lib.indexByte s.data.toList b)):=by
 have hi:=Jk4 s b hne
 refine Jc Tryz.func219 rfl rfl fun nx=> ?_
 refine stp ?_
 refine Jb rfl rfl hi ⟨Rf,Rf,trivial⟩ fun nx2=> ?_
 refine stp ?_
 exact Ja rfl Rf
end Go.Proofs.W

namespace Go.Proofs.W
open Go.Vl Go.Shelf
set_option maxRecDepth 100000
def JaR:ByteArray:=⟨#[100,101,102,97,117,108,116,32,107,105,108,108]⟩
def lineB:ByteArray:=⟨#[114,101,97,100,32,97,108,108,111,119]⟩
def textAB:ByteArray:=⟨#[100,101,102,97,117,108,116,32,107,105,108,108,10,114,101,97,100,32,97,108,108,111,119]⟩
theorem Jp1 (s:ByteArray):Tells Tryz.prog 107 [Jj s] (.fn (.func 155) [] [.rp [Jj s]]):=by
 refine Jc Tryz.func107 rfl rfl fun nx=> ?_
 (repeat ((conv=>whnf);first|refine ω0 ?_|refine ω1 ?_|refine ω2 ?_|refine ω3 ?_|refine ω4 rfl ?_|refine ω5 rfl ?_|refine ω6 ?_|refine ω7 ?_|refine ⟨rfl,?_⟩|refine ⟨trivial,?_⟩|refine ⟨⟨rfl,Nat.le_of_ble_eq_true rfl⟩,?_⟩|refine ⟨⟨by kernel_rfl,by kernel_rfl⟩,?_⟩|refine ⟨by decide,?_⟩|refine Jcd ?_|refine JbO ?_))
 refine AW.le (JaO (L:= [(2, .fn (.func 155) [] [.rp [Jj s]])]) (bx:= []) (pm:= []) (nn:=1) [((0,nx), .c [Jj s])] rfl rfl Sf .slnil ⟨Frz.fn trivial ⟨Frz.bp (.head _) rfl,trivial⟩,trivial⟩) ?_
 refine stp ?_
 exact Ja rfl Rf
def JbC (a:Nat) (s sep:ByteArray):List (Vl.Id×Own):= [((12,a+2), .c [int 0]),((11,a+1), .c [Jj sep]),((10,a), .c [Jj s])]
def Jm1 (a:Nat):AV:= .fn (.func 218) [] [.bp (11,a+1) 0, .bp (10,a) 0, .bp (12,a+2) 0]
theorem Jn9 (s sep:ByteArray) (nx:Nat):ECall Tryz.prog 196 [Jj s,Jj sep,int 0] ⟨[], [],nx,10⟩ fun r h'=> r=Jm1 nx∧h'=⟨JbC nx s sep, [],nx+3,13⟩:=by
 refine JS Tryz.func196 rfl rfl ?_
 refine stp ?_
 exact Jz rfl ⟨rfl,rfl⟩
theorem Jlt (s sep:ByteArray) (nx:Nat):ECall Tryz.prog 156 [Jj s,Jj sep] ⟨[], [],nx,10⟩ fun r h'=> r=Jm1 nx∧h'=⟨JbC nx s sep, [],nx+3,13⟩:=by
 refine JS Tryz.func156 rfl rfl ?_
 refine stp ?_
 refine JeG (xs:= [Jj s,Jj sep,int 0]) [] [] 13 rfl rfl rfl rfl ⟨Rf,Rf,Rf,trivial⟩ (Jn9 s sep nx) Bf Pf rfl fun r h' hq=> ?_
 obtain ⟨rfl,rfl⟩:=hq
 refine stp ?_
 exact Jz rfl ⟨rfl,rfl⟩
def Jxy:Nat→ByteArray
 | 0=> textAB
 | _=> lineB
set_option maxHeartbeats 2000000 in
theorem Jp2 (a:Nat):Jj7 Tryz.prog 218 [] [.bp (11,a+1) 0, .bp (10,a) 0, .bp (12,a+2) 0] (fun s:ByteArray=> [Jj s]) [JaR,lineB] (JbC a textAB ⟨#[10]⟩):=by
 intro i σ Cb Cp I hc s0 nx nn h0
 refine ECall.wk (JS Tryz.func218 rfl rfl ?_)
 have hi0:=JjE textAB 10 (by rw [Lib.toList_data,Lib.toList_data];decide)
 have hi1:=JjE lineB 10 (by rw [Lib.toList_data,Lib.toList_data];decide)
 rw [show Lib.indexByte textAB.data.toList 10=12 by decide] at hi0
 rw [show Lib.indexByte lineB.data.toList 10=-1 by decide] at hi1
 refine stp ?_
 refine Jr (fun y:Nat×σ×Nat=> mk 52 [(0, .yl i),(1, .bp (11,a+1) 0),(2, .bp (10,a) 0),(3, .bp (12,a+2) 0)] ⟨JbC a (Jxy y.1) ⟨#[10]⟩++Cb y.2.1,Cp y.2.1,y.2.2,nn⟩) (fun y=> y.1≤1∧I ([JaR].take y.1) y.2.1) (fun y=> 1 - y.1) ?_ ?_
 ·exact ⟨(0,s0,nx),⟨Nat.zero_le _,h0⟩,Et rfl rfl Bf Pf ⟨Rf,Rf,Rf,Rf,trivial⟩⟩
 ·rintro ⟨k,s,nx1⟩ ⟨k1,hI⟩
  dsimp only at k1 hI
  obtain rfl | rfl:k=0∨k=1:=by omega
  ·refine stp ?_
   refine Jb rfl rfl hi0 ⟨Rf,Rf,trivial⟩ fun nx2=> ?_
   refine stp ?_
   (conv=> whnf)
   refine ⟨⟨by decide,(by decide:(12:Int)≤23)⟩,Jh (b:=Jj JaR) (by kernel_rfl) ?_⟩
   refine stp ?_
   refine JbR (pre:= []) (x:=JaR) (post:= [lineB]) (s:=s) (JbC a textAB ⟨#[10]⟩) [] rfl rfl rfl hc rfl hI ⟨Rf,trivial⟩ (fun s' nx' hI'=> ?_) (fun s' nx' hJ=> hJ.elim)
   refine stp ?_
   exact back (1,s',nx') ⟨Nat.le_refl _,hI'⟩ Dm (Et (bx:=JbC a lineB ⟨#[10]⟩++Cb s') rfl rfl ⟨rfl,OwnLe.refl _,rfl,OwnLe.refl _,rfl,⟨AVle.of_eq (by kernel_rfl),trivial⟩,Bf⟩ Pf ⟨Rf,Rf,Rf,Rf,trivial⟩)
  ·refine stp ?_
   refine Jb rfl rfl hi1 ⟨Rf,Rf,trivial⟩ fun nx2=> ?_
   refine stp ?_
   refine JbR (pre:= [JaR]) (x:=lineB) (post:= []) (s:=s) (JbC a lineB ⟨#[10]⟩) [] rfl rfl rfl hc rfl hI ⟨Rf,trivial⟩ (fun s' nx' hI'=> ?_) (fun s' nx' hJ=> hJ.elim)
   refine stp ?_
   refine Jz rfl ⟨_,⟨Cb s',Cp s',nx',0⟩,Rf, ?_,s',hI',rfl,rfl⟩
   exact Jp _ _ rfl (List.sublist_append_right _ _) Sf Bf Pf
end Go.Proofs.W

namespace Go.Proofs.W
open Go.Vl Go.Shelf
set_option maxRecDepth 100000
def Juh (p:ByteArray×Nat):List AV:= [int p.2,Jj p.1]
theorem JfF {pre post:List ByteArray} {x:ByteArray} (h: [JaR,lineB]=pre++x::post):(pre= []∧x=JaR∧post= [lineB])∨(pre= [JaR]∧x=lineB∧post= []):=by
 match pre,h with
 | [],h=> cases h;exact .inl ⟨rfl,rfl,rfl⟩
 | [_],h=> cases h;exact .inr ⟨rfl,rfl,rfl⟩
 | _::_::pre,h=> simp at h
theorem Jxz:Tells Tryz.prog 157 [Jj JaR,Jj ⟨#[35]⟩] (.tup [Jj JaR,Jj ⟨#[]⟩,Jg false]):=Jk5 JaR 35 (by rw [Lib.toList_data,Lib.toList_data];decide) Dc
theorem JxA:Tells Tryz.prog 157 [Jj lineB,Jj ⟨#[35]⟩] (.tup [Jj lineB,Jj ⟨#[]⟩,Jg false]):=Jk5 lineB 35 (by rw [Lib.toList_data,Lib.toList_data];decide) Dc
set_option maxHeartbeats 4000000 in
theorem Jp3:Jj7 Tryz.prog 155 [] [.rp [Jj textAB]] Juh [(JaR,1),(lineB,2)] []:=by
 intro i σ Cb Cp I hc s0 nx nn h0
 refine ECall.wk (JS Tryz.func155 rfl rfl ?_)
 refine AW.le (E':=mk 21 [(0, .yl i),(1, .rp [Jj textAB])] ⟨Cb s0,Cp s0,nx,0⟩ (some [])) (Et rfl rfl Bf Pf ⟨Rf,Rf,trivial⟩) ?_
 refine stp ?_
 refine JeG (xs:= [Jj textAB,Jj ⟨#[10]⟩]) (bx1:= []) (pm1:= []) (((1,nx+1), .c [int 0])::((0,nx), .c [.yl i])::Cb s0) (Cp s0) 13 rfl rfl rfl (List.append_nil _).symm ⟨Rf,Rf,trivial⟩ (Jlt textAB ⟨#[10]⟩ (nx+2)) Bf Pf rfl fun r h' hq=> ?_
 obtain ⟨rfl,rfl⟩:=hq
 refine Jt ?_
 refine AW.le (E':=mk 21 [(2, .bp (0,nx) 0),(3, .bp (1,nx+1) 0),(6,Jm1 (nx+2))] ⟨JbC (nx+2) textAB ⟨#[10]⟩++(((1,nx+1), .c [int 0])::((0,nx), .c [.yl i])::Cb s0),Cp s0,nx+5,13⟩ (some [])) (Et rfl rfl Bf (by rw [List.append_nil];exact Pf) ⟨Rf,Rf,Rf,trivial⟩) ?_
 refine Jt ?_
 refine JoC (σ:=σ×Nat) (e:=fun s:ByteArray=> [Jj s]) (xs:= [JaR,lineB]) (first':= []) (caps':= [.bp (11,nx+2+1) 0, .bp (10,nx+2) 0, .bp (12,nx+2+2) 0]) (JbC (nx+2) textAB ⟨#[10]⟩) (fun y=> ((1,nx+1), .c [int y.2])::((0,nx), .c [.yl i])::Cb y.1) (fun y=> Cp y.1) (fun pre y=> y.2=pre.length∧I (pre.zipIdx 1) y.1) (s0,0) rfl rfl (Jp2 (nx+2)) (LeL.refl _) (LeL.refl _) rfl rfl ⟨rfl,h0⟩ (fun _=> rfl) ?_ ?_
 ·rintro pre x post ⟨s,n⟩ nx3 nn3 hx ⟨hn,hI⟩
  dsimp only at hn hI
  have hcut:Tells Tryz.prog 157 [Jj x,Jj ⟨#[35]⟩] (.tup [Jj x,Jj ⟨#[]⟩,Jg false]):=by
   rcases JfF hx with ⟨_,rfl,_⟩ | ⟨_,rfl,_⟩
   ·exact Jxz
   ·exact JxA
  have hlen:pre.length≤1:=by rcases JfF hx with ⟨rfl,_⟩ | ⟨rfl,_⟩ <;> decide
  have hX: [(JaR,1),(lineB,2)]=pre.zipIdx 1++(x,n+1)::post.zipIdx (pre.length+2):=by
   rw [hn]
   rcases JfF hx with ⟨rfl,rfl,rfl⟩ | ⟨rfl,rfl,rfl⟩ <;> rfl
  have hI2:(pre++ [x]).zipIdx 1=pre.zipIdx 1++ [(x,n+1)]:=by
   rw [hn]
   rcases JfF hx with ⟨rfl,rfl,rfl⟩ | ⟨rfl,rfl,rfl⟩ <;> rfl
  refine Jt ?_
  refine Jv ?_
  refine stp ?_
  refine Jb rfl rfl hcut ⟨Rf,Rf,trivial⟩ fun nx4=> ?_
  refine stp ?_
  refine JbR (pre:=pre.zipIdx 1) (x:=(x,n+1)) (post:=post.zipIdx (pre.length+2)) (s:=s) [_,_,_,_] [] rfl rfl rfl hc hX hI ⟨Jd (Jk Om),Rf,trivial⟩ (fun s' nx' hI'=> ?_) (fun s' nx' hJ=> hJ.elim)
  refine stp ?_
  refine ⟨(s',n+1), .inl ⟨rfl,by simp [hn],by rw [hI2];exact hI'⟩, ?_,rfl⟩
  have e:IntKind.i64.wrap ((n:Int)+1)=((n+1:Nat):Int):=Jk Om
  show _=_::_::((1,nx+1),Own.c [int ((n+1:Nat):Int)])::((0,nx),Own.c [.yl i])::Cb s'
  rw [← e]
  rfl
 ·rintro ⟨s',n⟩ nx3 nn3 ⟨hn,hI⟩
  dsimp only at hn hI
  refine stp ?_
  refine Jz rfl ⟨_,⟨Cb s',Cp s',nx3,0⟩,Rf, ?_,s',hI,rfl,rfl⟩
  exact Jp _ _ rfl (.cons _ (.cons _ (.cons _ Sf))) Sf Bf Pf
end Go.Proofs.W

namespace Go.Proofs.W
open Go.Vl Go.Shelf
set_option maxRecDepth 100000
def JbW:ByteArray:=⟨#[100,101,102,97,117,108,116]⟩
def Jdc:ByteArray:=⟨#[107,105,108,108]⟩
def Jck:ByteArray:=⟨#[114,101,97,100]⟩
def Jcu:ByteArray:=⟨#[97,108,108,111,119]⟩
def JQ (l:List ByteArray):AV:= .sl 1 l.length fun k=> .v ((l.map Value.string).getD k undef)
def JlM (p:Nat×List ByteArray):AV:= .ag [int p.1,JQ p.2]
def JrJ (L:List (Nat×List ByteArray)):AV:= .sl 2 L.length fun k=> JlM (L.getD k (0, []))
def Jem (s:ByteArray):List ByteArray:=Lib.goFieldsP Jdo s
theorem Jkj:Jem JaR= [JbW,Jdc]:=by decide+kernel
theorem Jkk:Jem lineB= [Jck,Jcu]:=by decide+kernel
theorem JvN:Jm0 JaR:=by
 intro i hi
 have hi:i < 12:=hi
 rcases (by omega:i=0∨i=1∨i=2∨i=3∨i=4∨i=5∨i=6∨i=7∨i=8∨i=9∨i=10∨i=11) with rfl | rfl | rfl | rfl | rfl | rfl | rfl | rfl | rfl | rfl | rfl | rfl <;> decide
theorem JvO:Jm0 lineB:=by
 intro i hi
 have hi:i < 10:=hi
 rcases (by omega:i=0∨i=1∨i=2∨i=3∨i=4∨i=5∨i=6∨i=7∨i=8∨i=9) with rfl | rfl | rfl | rfl | rfl | rfl | rfl | rfl | rfl | rfl <;> decide
def Jtx (L:List (ByteArray×Nat)):List (Nat×List ByteArray):=L.map fun p=> (p.2,Jem p.1)
def Jty (L:List (ByteArray×Nat)) (k:Nat):AV:=JlM ((Jtx L).getD k (0, []))
theorem JjF:Tryz.prog.bytesOf 151=32:=by kernel_rfl
theorem Jp4 {pre post:List (ByteArray×Nat)} {x:ByteArray×Nat} (h: [(JaR,1),(lineB,2)]=pre++x::post):(pre= []∧x=(JaR,1))∨(pre= [(JaR,1)]∧x=(lineB,2)):=by
 match pre,h with
 | [],h=> cases h;exact .inl ⟨rfl,rfl⟩
 | [_],h=> cases h;exact .inr ⟨rfl,rfl⟩
 | _::_::pre,h=> simp at h
set_option maxHeartbeats 4000000 in
theorem Jlu:Tells Tryz.prog 59 [Jj textAB] (.tup [JrJ (Jtx [(JaR,1),(lineB,2)]),int 0,int 0]):=by
 refine Jc Tryz.func59 rfl rfl fun nx=> ?_
 refine stp ?_
 refine Jb rfl rfl (Jp1 textAB) ⟨Rf,trivial⟩ fun nx2=> ?_
 refine Jt ?_
 refine AW.le (E':=mk 32 [(2, .bp (0,nx) 0),(3, .bp (1,nx+1) 0),(4, .bp (2,nx+2) 0),(5, .bp (3,nx+3) 0),(13, .fn (.func 155) [] [.rp [Jj textAB]])] ⟨[((3,nx+3), .c [.os 2 0 (Jty []) none]),((2,nx+2), .c [int 0]),((1,nx+1), .c [int 0]),((0,nx), .c [.os 0 0 (fun _=> .any) none])], [],nx2,4⟩ (some [])) (Et rfl rfl ⟨rfl,⟨AVle.os_nil,trivial⟩,Bf⟩ trivial ⟨Rf,Rf,Rf,Rf,Rf,trivial⟩) ?_
 refine Jt ?_
 refine JoC (σ:=Nat×(Nat→AV)×Option Vl.Id) (e:=Juh) (xs:= [(JaR,1),(lineB,2)]) (first':= []) (caps':= [.rp [Jj textAB]]) [] (fun y=> [((3,nx+3), .c [.os 2 y.1 y.2.1 y.2.2]),((2,nx+2), .c [int 0]),((1,nx+1), .c [int 0]),((0,nx), .c [.os 0 0 (fun _=> .any) none])]) (fun y=> JaH y.2.2 (y.1 * 2)) (fun pre y=> y.1=pre.length∧(∀k,k < y.1→y.2.1 k=Jty pre k)∧(y.2.2=none→pre= [])) (0,Jty [],none) rfl rfl Jp3 (LeL.refl _) (LeL.refl _) rfl rfl ⟨rfl,fun _ _=> rfl,fun _=> rfl⟩ (fun _=> rfl) ?_ ?_
 ·rintro pre x post ⟨L,f,oi⟩ nx3 nn3 hx ⟨hL,hf0,ho⟩
  dsimp only at hL hf0 ho
  subst hL
  rcases Jp4 hx with ⟨rfl,rfl⟩ | ⟨rfl,rfl⟩
  ·have hp:=JjD JaR JvN Dc
   have hf:Tells Tryz.prog 109 [Jj JaR, .fn (.func 110) [] []] (JQ [JbW,Jdc]):=by rw [← Jkj];exact Jij JaR Dc
   refine Jt ?_
   refine Jv ?_
   refine stp ?_
   refine Jb rfl rfl hp ⟨Rf,trivial⟩ fun nx4=> ?_
   refine stp ?_
   refine Jb rfl rfl hf ⟨Rf,Rf,trivial⟩ fun nx5=> ?_
   refine Jt ?_
   refine Jv ?_
   refine Jt ?_
   refine J7 (fun n=> match n with | 0=> true | _=> false) 6 ?_
   refine stp ?_
   refine Jdm (e:=151) (c:=2) (pm:= []) (n:=0) (oi:=oi) (sz:=2) (f:=f) rfl rfl (.inr ⟨_,rfl⟩) (by kernel_rfl) (by kernel_rfl) (by kernel_rfl) (.inr rfl) (by kernel_rfl) (List.append_nil _).symm (JZ rfl) (by rw [JjF];decide) Dc ?_
   refine stp ?_
   refine ⟨(0+1,_,some (nn3,nx5)), .inl ⟨rfl,rfl,fun k hk=> ?_,fun h=> by cases h⟩,rfl,rfl⟩
   obtain rfl:k=0:=Nat.lt_one_iff.1 hk
   show _=JlM (1,Jem JaR)
   rw [Jkj];rfl
  ·have hp:=JjD lineB JvO Dc
   have hf:Tells Tryz.prog 109 [Jj lineB, .fn (.func 110) [] []] (JQ [Jck,Jcu]):=by rw [← Jkk];exact Jij lineB Dc
   refine Jt ?_
   refine Jv ?_
   refine stp ?_
   refine Jb rfl rfl hp ⟨Rf,trivial⟩ fun nx4=> ?_
   refine stp ?_
   refine Jb rfl rfl hf ⟨Rf,Rf,trivial⟩ fun nx5=> ?_
   refine Jt ?_
   refine Jv ?_
   refine Jt ?_
   refine J7 (fun n=> match n with | 0=> true | _=> false) 6 ?_
   refine stp ?_
   refine Jdm (e:=151) (c:=2) (pm:= []) (n:=1) (oi:=oi) (sz:=2) (f:=f) rfl rfl (.inr ⟨_,rfl⟩) (by kernel_rfl) (by kernel_rfl) (by kernel_rfl) (.inr rfl) (by kernel_rfl) (List.append_nil _).symm (JZ rfl) (by rw [JjF];decide) Dc ?_
   refine stp ?_
   refine ⟨(1+1,_,some (nn3,nx5)), .inl ⟨rfl,rfl,fun k hk=> ?_,fun h=> by cases h⟩,rfl,rfl⟩
   refine JaT (fun k hk=> ?_) ?_ k hk
   ·obtain rfl:k=0:=Nat.lt_one_iff.1 hk
    exact hf0 0 Dc
   ·show _=JlM (2,Jem lineB)
    rw [Jkk];rfl
 ·rintro ⟨L,f,oi⟩ nx3 nn3 ⟨hL,hf0,ho⟩
  dsimp only at hL hf0 ho
  subst hL
  refine stp ?_
  exact Ji rfl ⟨⟨rfl,Nat.zero_lt_one⟩,⟨rfl,Nat.zero_lt_one⟩,⟨rfl,Nat.zero_lt_one⟩,trivial⟩ (AVle.tups (cs:= [_,_,_]) ⟨(AVle.os_fun hf0).trans AVle.os_sl,Rf,Rf,trivial⟩)
end Go.Proofs.W

namespace Go.Proofs.W
open Go.Vl
set_option maxRecDepth 100000
def kb (k:Nat):Nat:= [2147483648,0,196608,327680,2143289344,2146435072,2147221504,2147418112].getD k 0
def km (k:Nat):Nat:=if k=3 then 4095 else if k=5 then 65535 else 0
def Jhs (v k:Nat):Bool:=decide (kb k≤v)&& decide (v≤kb k+km k)
def Jdt (v:Nat):Option Nat:=(List.range 8).find? (Jhs v)
theorem Jm2 (k:Nat) (h:k < 8):∃s m,Jcn Jc8 k= .ag [.v (.string s), .v (.int .u32 (kb k)),m]∧Tells Tryz.prog 130 [Jcn Jc8 k] (int (km k)):=by
 have key:=Jeh k h
 rcases k with _ | _ | _ | _ | _ | _ | _ | _ | k
 ·exact ⟨_,_,rfl,Jb2 _ _⟩
 ·exact ⟨_,_,rfl,Jb2 _ _⟩
 ·exact ⟨_,_,rfl,Jb2 _ _⟩
 ·exact ⟨_,_,rfl,Jfz _ _ 4096 Dc⟩
 ·exact ⟨_,_,rfl,Jb2 _ _⟩
 ·exact ⟨_,_,rfl,Jfz _ _ 65536 Dc⟩
 ·exact ⟨_,_,rfl,Jb2 _ _⟩
 ·exact ⟨_,_,rfl,Jb2 _ _⟩
 ·omega
theorem JjG {k:Nat} (h:k < 8):kb k+km k < 4294967296:=by
 rcases k with _ | _ | _ | _ | _ | _ | _ | _ | k
 all_goals first | decide | omega
theorem Jp5 {k:Nat} (h:k < 8):km k < 65536:=by
 rcases k with _ | _ | _ | _ | _ | _ | _ | _ | k
 all_goals first | decide | omega
theorem JrK (v k:Nat) (hk:k < 8) (hv:v < 4294967296) (s:ByteArray) (m:AV) (hr:Jcn Jc8 k= .ag [.v (.string s), .v (.int .u32 (kb k)),m]) (hm:Tells Tryz.prog 130 [Jcn Jc8 k] (int (km k))) (hm2:m= .v .nilFunc∨∃n,m=Jdn n):
 Tells Tryz.prog 129 [.ag [.v (.string s), .v (.int .u32 (kb k)),m], .rp [u32 v]] (Jg (Jhs v k)):=by
 rw [hr] at hm
 have h1:=JjG hk
 have h2:=Jp5 hk
 have hfit:∀hle:kb k≤v,IntKind.u32.wrap ((v:Int) - (kb k:Int))=((v - kb k:Nat):Int):=fun hle=> by
  rw [show (v:Int) - (kb k:Int)=((v - kb k:Nat):Int) by omega]
  simp [IntKind.wrap,IntKind.signed,IntKind.bits];omega
 have hkm:IntKind.u32.wrap (km k:Int)=((km k:Nat):Int):=by simp [IntKind.wrap,IntKind.signed,IntKind.bits];omega
 refine Jc Tryz.func129 rfl rfl fun nx=> ?_
 rcases hm2 with rfl | ⟨n',rfl⟩
 all_goals
  refine stp ?_
  (refine Jy 14 ?_ ?_ ?_ ?_;(· kernel_rfl);(· kernel_rfl);(· kernel_rfl))
  refine stp ?_
  intro c t1;cases c
  ·refine stp ?_
   refine Ja rfl (Jn ?_)
   simp only [JaJ] at t1
   simp [Jhs];omega
  ·simp only [JaK] at t1
   have hle:kb k≤v:=by omega
   have e1:=hfit hle
   refine stp ?_
   refine Jb9 (JaG rfl rfl hm ⟨Rf,trivial⟩ (NoId.v _)) ?_
   refine stp ?_
   intro c hc
   rw [e1,hkm] at hc
   cases c
   ·refine stp ?_
    simp only [JaJ] at hc
    refine Ja rfl (Jn ?_)
    simp [Jhs];omega
   ·refine stp ?_
    simp only [JaK] at hc
    refine Ja rfl (Jn ?_)
    simp [Jhs];omega
end Go.Proofs.W

namespace Go.Proofs.W
open Go.Vl
set_option maxRecDepth 100000
def Jui (w:ByteArray):AV:= .fn (.func 221) [] [.rp [JQ [w]]]
def JvP (j:Nat):ByteArray:=match Jcn Jc8 j with
 | .ag (.v (.string s)::_)=> s
 | _=> ⟨#[]⟩
def eqW (w:ByteArray) (j:Nat):Bool:=(JvP j).toList ==w.toList
def JhX (w:ByteArray):Option Nat:=(List.range 8).find? (eqW w)
theorem Jp6 (w s:ByteArray) (c:Int) (m:AV) (hm:m= .v .nilFunc∨∃n,m=Jdn n):Tells Tryz.prog 221 [.ag [.v (.string s), .v (.int .u32 c),m], .rp [JQ [w]]] (Jg (s.toList ==w.toList)):=by
 refine Jc Tryz.func221 rfl rfl fun nx=> ?_
 rcases hm with rfl | ⟨n,rfl⟩
 all_goals
  refine stp ?_
  (refine Jy 7 ?_ ?_ ?_ ?_;(· kernel_rfl);(· kernel_rfl);(· kernel_rfl))
  refine stp ?_
  refine ⟨⟨by decide,(show (0:Int) < 1 by decide)⟩, ?_⟩
  refine stp ?_
  intro c hc
  subst hc
  refine stp ?_
  exact Ja rfl Rf
set_option maxHeartbeats 1000000 in
theorem JrL (w:ByteArray):Tells Tryz.prog 127 [Jjm,Jui w] (int (JaV (JhX w))):=by
 refine Jc Tryz.func127 rfl rfl fun nx=> ?_
 refine stp ?_
 refine Jr (fun s:Nat×Nat=> mk 19 [(0,Jjm),(1,Jui w),(7,int 8),(8,int s.1)] ⟨[], [],s.2,0⟩) (fun s=> s.1≤8∧∀j,j < s.1→eqW w j=false) (fun s=> 8 - s.1) ?_ ?_
 ·exact ⟨(0,nx),⟨by simp,by intro j hj;simp at hj⟩,JH rfl rfl ⟨Rf,Rf,Rf,Rf,trivial⟩⟩
 ·rintro ⟨i,nx⟩ ⟨h1,h2⟩
  dsimp only at h1 h2
  by_cases hi:i < 8
  ·obtain ⟨s,c0,m,hr1,h4,_⟩:=Jeh i hi
   have hT:=Jp6 w s c0 m h4
   have hes:(s.toList ==w.toList)=eqW w i:=by unfold eqW JvP;rw [hr1]
   rw [hes] at hT
   rcases h4 with rfl | ⟨n',rfl⟩
   all_goals
    refine stp ?_
    intro c h3;cases c
    ·exact absurd (Jm h3) Dm
    refine stp ?_
    refine ⟨⟨by dsimp only;omega,by dsimp only;omega⟩,Jh (b:= .rp [.v (.string s), .v (.int .u32 c0),_]) (by show AV.rp (Jcn Jc8 i).cells=_;rw [hr1];rfl) ?_⟩
    refine stp ?_
    refine Jb rfl rfl hT ⟨Rf,Rf,trivial⟩ fun nx'=> ?_
    intro c h4;cases c
    ·refine stp ?_
     refine back (i+1,nx') ⟨by dsimp only;omega,fun j hj=> ?_⟩ Dm (JH rfl rfl ⟨Rf,Rf,Rf,Jd (Jk Dm),trivial⟩)
     dsimp only at hj
     rcases Nat.lt_or_ge j i with h | h
     ·exact h2 j h
     ·obtain rfl:j=i:=by omega
      exact h4.symm
    ·refine stp ?_
     refine Ja rfl (Jd ?_)
     have:JhX w=some i:=by
      unfold JhX
      rw [List.find?_range_eq_some]
      exact ⟨h4.symm,by simp;omega,fun j hj=> by rw [h2 j hj];rfl⟩
     rw [this];rfl
  ·obtain rfl:i=8:=by omega
   refine stp ?_
   refine Ja rfl (Jd ?_)
   have:JhX w=none:=by
    unfold JhX
    rw [List.find?_range_eq_none]
    intro j hj
    rw [h2 j hj];rfl
   rw [this];rfl
set_option maxHeartbeats 1000000 in
theorem Jk6 (w s:ByteArray) (k:Nat) (c:Int) (hw:JhX w=some k) (hk:k < 8) (hr:Jcn Jc8 k= .ag [.v (.string s), .v (.int .u32 c), .v .nilFunc]):Tells Tryz.prog 198 [JQ [w]] (.tup [act (k+1:Nat) 0,int 1,int 0]):=by
 have hx:=JrL w
 rw [hw] at hx
 have ho:=Jhe k hk
 rw [hr] at ho
 refine Jc Tryz.func198 rfl rfl fun nx=> ?_
 (refine Jt ?_;refine Jv ?_;refine Jt ?_)
 refine J4 (n:=60) (nx:=nx+2) (nn:=2) (pm:= []) (bx:= [((1,nx+1), .c [int 0,int 0])]) (L:= [(1, .rp [JQ [w]]),(2, .bp (1,nx+1) 0),(3,int 0),(4,int 0)]) (df:=some []) [((0,nx), .c [JQ [w]])] rfl rfl rfl (List.Perm.swap _ _ _) Sf ⟨Frz.bp (.head _) rfl,Frz.refl _,Frz.refl _,Frz.refl _,trivial⟩ ?_
 refine stp ?_
 refine Jb rfl rfl Jfj trivial fun nx1=> ?_
 refine stp ?_
 refine Jb rfl rfl hx ⟨Rf,Rf,trivial⟩ fun nx2=> ?_
 refine stp ?_
 refine Jb rfl rfl ho ⟨Jd (by show IntKind.i64.wrap (1+(k:Int))=_;rw [Jq Om Om];omega),trivial⟩ fun nx3=> ?_
 refine stp ?_
 exact Ji rfl ⟨rfl,trivial⟩ (AVle.tups (cs:= [_,_,_]) ⟨AVle.ags (cs:= [_,_]) ⟨Jd (by show IntKind.i64.wrap (1+(k:Int))=_;rw [Jq Om Om];omega),Rf,trivial⟩,Rf,Rf,trivial⟩)
theorem JrM:Tells Tryz.prog 198 [JQ [Jdc]] (.tup [act 1 0,int 1,int 0]):=Jk6 Jdc _ 0 _ (by decide+kernel) Dc rfl
theorem Jp7:Tells Tryz.prog 198 [JQ [Jcu]] (.tup [act 8 0,int 1,int 0]):=Jk6 Jcu _ 7 _ (by decide+kernel) Dc rfl
end Go.Proofs.W

namespace Go.Proofs.W
open Go.Vl
set_option maxRecDepth 100000
theorem Jik (s:ByteArray) (hs:s.size≤9223372036854775807):Tells Tryz.prog 141 [Jj s] (Jg (J1 s.data.toList)):=by
 have key:∀b,J1 s.data.toList=b→Tells Tryz.prog 141 [Jj s] (Jg b):=fun b hb=> by
  have hr:=Jlp s hs b hb
  refine Jc Tryz.func141 rfl rfl fun nx=> ?_
  refine stp ?_
  refine Jb rfl rfl hr ⟨?_,trivial⟩ fun nx1=> ?_
  ·refine AVle.os_sl.trans (AVle.sl_fun fun k hk=> ?_)
   match k,hk with
   | 0,_=> rfl
  cases b
  ·refine stp ?_
   exact Ja rfl Rf
  ·refine stp ?_
   exact Ja rfl Rf
 exact key _ rfl
theorem Jm3 (c:Cnd):Tells Tryz.prog 142 [J6 c] (Jg (!Jaf c)):=by
 have key:∀b,Jaf c=b→Tells Tryz.prog 142 [J6 c] (Jg (!b)):=fun b hb=> by
  have hr:=Jgr c
  rw [hb] at hr
  refine Jc Tryz.func142 rfl rfl fun nx=> ?_
  refine stp ?_
  refine Jb rfl rfl hr ⟨Rf,trivial⟩ fun nx1=> ?_
  cases b
  ·refine stp ?_
   exact Ja rfl Rf
  ·refine stp ?_
   exact Ja rfl Rf
 exact key _ rfl
def Rul.ok (r:Rul):Prop:=r.name.size≤maxLen∧r.conds.length≤maxLen∧∀c∈r.conds,c.ok
def JaZ (r:Rul):Bool:=J1 r.name.data.toList&& (J2 r.act.1 r.act.2&& (decide (r.conds.length≤6)&& !(r.conds.any fun c=> !Jaf c)))
theorem Joa (r:Rul) (h1:r.name.size≤9223372036854775807):Tells Tryz.prog 96 [Jau r] (Jg (JaZ r)):=by
 have hn:=Jik r.name h1
 have ha:=Jgs r.act.1 r.act.2
 have hc:r.conds.length≤1000000000→Tells Tryz.prog 123 [JaU r.conds,fn0 142] (Jg (r.conds.any fun c=> !Jaf c)):=fun hl=> Js7 r.conds (fun c=> !Jaf c) _ hl (fun i _=> Jm3 _)
 unfold JaZ
 generalize J1 r.name.data.toList=b1 at hn⊢
 generalize J2 r.act.1 r.act.2=b2 at ha⊢
 generalize (r.conds.any fun c=> !Jaf c)=b3 at hc⊢
 obtain ⟨name,⟨k,n⟩,conds⟩:=r
 dsimp only at hn ha hc⊢
 refine Jc Tryz.func96 rfl rfl fun nx=> ?_
 refine stp ?_
 refine Jb rfl rfl hn ⟨Rf,trivial⟩ fun nx1=> ?_
 cases b1
 ·refine stp ?_
  exact Ja rfl Rf
 refine stp ?_
 refine Jb rfl rfl ha ⟨Rf,trivial⟩ fun nx2=> ?_
 cases b2
 ·refine stp ?_
  exact Ja rfl Rf
 refine stp ?_
 intro c t3;cases c
 ·refine stp ?_
  have e3:¬conds.length≤6:=fun h=> (Jm t3:¬((conds.length:Nat):Int)≤6) Om
  exact Ja rfl (Jn (by show false=(true&& (true&& (decide (conds.length≤6)&& !b3)));rw [decide_eq_false e3];rfl))
 have h3:conds.length≤6:=by have t:((conds.length:Nat):Int)≤6:=Jl t3;omega
 have hc:=hc (show conds.length≤1000000000 by omega)
 refine stp ?_
 refine Jb rfl rfl hc ⟨Rf,Rf,trivial⟩ fun nx3=> ?_
 cases b3
 ·refine stp ?_
  exact Ja rfl (Jn (by first | (show true=(true&& (true&& (decide (conds.length≤6)&& !false)));rw [decide_eq_true h3];rfl) | (show true=(true&& (decide (rules.length≤500)&& !false));rw [decide_eq_true h3];rfl)))
 ·refine stp ?_
  exact Ja rfl (Jn (by first | (show false=(true&& (true&& (decide (conds.length≤6)&& !true)));rw [decide_eq_true h3];rfl) | (show false=(true&& (decide (rules.length≤500)&& !true));rw [decide_eq_true h3];rfl)))
theorem Jm4 (r:Rul) (h1:r.name.size≤9223372036854775807):Tells Tryz.prog 95 [Jau r] (Jg (!JaZ r)):=by
 have key:∀b,JaZ r=b→Tells Tryz.prog 95 [Jau r] (Jg (!b)):=fun b hb=> by
  have hr:=Joa r h1
  rw [hb] at hr
  refine Jc Tryz.func95 rfl rfl fun nx=> ?_
  refine stp ?_
  refine Jb rfl rfl hr ⟨Rf,trivial⟩ fun nx1=> ?_
  cases b
  ·refine stp ?_
   exact Ja rfl Rf
  ·refine stp ?_
   exact Ja rfl Rf
 exact key _ rfl
def Jaw (p:Pol):Bool:=J2 p.dflt.1 p.dflt.2&& (decide (p.rules.length≤500)&& !(p.rules.any fun r=> !JaZ r))
def Pol.ok (p:Pol):Prop:=p.rules.length≤maxLen∧∀r∈p.rules,r.ok
theorem Job (p:Pol) (hp:p.ok):Tells Tryz.prog 49 [Jar p] (Jg (Jaw p)):=by
 have ha:=Jgs p.dflt.1 p.dflt.2
 have hc:p.rules.length≤1000000000→Tells Tryz.prog 94 [J8 p.rules,fn0 95] (Jg (p.rules.any fun r=> !JaZ r)):=fun hl=> Js9 p.rules (fun r=> !JaZ r) _ hl (fun i hi=> Jm4 _ (by
  have:p.rules.getD i Ju∈p.rules:=by simp [List.getD,hi]
  have:=(hp.2 _ this).1
  exact Nat.le_trans this Dc))
 unfold Jaw
 generalize J2 p.dflt.1 p.dflt.2=b2 at ha⊢
 generalize (p.rules.any fun r=> !JaZ r)=b3 at hc⊢
 clear hp
 obtain ⟨⟨k,n⟩,x,rules⟩:=p
 dsimp only at ha hc⊢
 refine Jc Tryz.func49 rfl rfl fun nx=> ?_
 refine stp ?_
 refine Jb rfl rfl ha ⟨Rf,trivial⟩ fun nx2=> ?_
 cases b2
 ·refine stp ?_
  exact Ja rfl Rf
 refine stp ?_
 intro c t3;cases c
 ·refine stp ?_
  have e3:¬rules.length≤500:=fun h=> (Jm t3:¬((rules.length:Nat):Int)≤500) Om
  exact Ja rfl (Jn (by show false=(true&& (decide (rules.length≤500)&& !b3));rw [decide_eq_false e3];rfl))
 have h3:rules.length≤500:=by have t:((rules.length:Nat):Int)≤500:=Jl t3;omega
 have hc:=hc (show rules.length≤1000000000 by omega)
 refine stp ?_
 refine Jb rfl rfl hc ⟨Rf,Rf,trivial⟩ fun nx3=> ?_
 cases b3
 ·refine stp ?_
  exact Ja rfl (Jn (by first | (show true=(true&& (true&& (decide (conds.length≤6)&& !false)));rw [decide_eq_true h3];rfl) | (show true=(true&& (decide (rules.length≤500)&& !false));rw [decide_eq_true h3];rfl)))
 ·refine stp ?_
  exact Ja rfl (Jn (by first | (show false=(true&& (true&& (decide (conds.length≤6)&& !true)));rw [decide_eq_true h3];rfl) | (show false=(true&& (decide (rules.length≤500)&& !true));rw [decide_eq_true h3];rfl)))
def Jd3 (r:Rul):Bool:=decide (r.name.size≤60)&& decide (r.conds.length≤12)
def Jf8 (p:Pol):Bool:=decide (p.rules.length≤40)&& p.rules.all Jd3
end Go.Proofs.W

namespace Go.Proofs.W
open Go.Vl
set_option maxRecDepth 100000
def Ja6 (s:Nat) (a b c ru wd:AV) (n:Int):List (Vl.Id×Own):= [((0,s), .c [a,b,c,ru,wd,int n])]
theorem JeM (e:Int):Tells Tryz.prog 158 [Jg true,int e] (.tup []):=by
 refine Jc Tryz.func158 rfl rfl fun nx=> ?_
 refine stp ?_
 exact Ja rfl Rf
theorem JrN:Tells Tryz.prog 199 [int 0] (.tup []):=by
 refine Jc Tryz.func199 rfl rfl fun nx=> ?_
 refine stp ?_
 refine Jb rfl rfl (JeM 0) ⟨Rf,Rf,trivial⟩ fun nx2=> ?_
 refine stp ?_
 exact Ja rfl Rf
theorem Jk7 (x:ByteArray) (l:List ByteArray):(AV.sl 1 ((x::l).length - Int.toNat 1) fun k=> (fun k=> AV.v ((List.map Value.string (x::l)).getD k undef)) (Int.toNat 1+k))=JQ l:=by
 unfold JQ
 rw [show (x::l).length - Int.toNat 1=l.length by simp]
 congr 1
 funext k
 show AV.v ((List.map Value.string (x::l)).getD (1+k) undef)=_
 rw [Nat.add_comm];rfl
theorem Jk8 (s:Nat) (a b c ru:AV) (w1 w2:ByteArray) (n:Int) (nx:Nat):ECall Tryz.prog 112 [.bp (0,s) 0] ⟨Ja6 s a b c ru (JQ [w1,w2]) n, [],nx,1⟩ fun r h'=> r=Jj w1∧h'=⟨Ja6 s a b c ru (JQ [w2]) n, [],nx,1⟩:=by
 refine JS Tryz.func112 rfl rfl ?_
 refine stp ?_
 refine ⟨⟨by decide,(show (0:Int) < 2 by decide)⟩, ?_⟩
 refine stp ?_
 refine ⟨⟨by decide,(show (1:Int)≤2 by decide)⟩,Jh (b:=JQ [w2]) (Jk7 w1 [w2]) ?_⟩
 refine stp ?_
 exact Jz rfl ⟨rfl,rfl⟩
theorem Jil (s:Nat) (a b c ru:AV) (w:ByteArray) (k:Int) (n:Int) (nx:Nat) (hr:Tells Tryz.prog 198 [JQ [w]] (.tup [act k 0,int 1,int 0])):ECall Tryz.prog 159 [.bp (0,s) 0] ⟨Ja6 s a b c ru (JQ [w]) n, [],nx,1⟩ fun r h'=> r=act k 0∧∃nx',h'=⟨Ja6 s a b c ru (JQ []) n, [],nx',1⟩:=by
 refine ECall.wk (JS Tryz.func159 rfl rfl ?_)
 refine stp ?_
 refine Jb rfl rfl hr ⟨Rf,trivial⟩ fun nx2=> ?_
 refine stp ?_
 refine Jb rfl rfl JrN ⟨Rf,trivial⟩ fun nx3=> ?_
 refine stp ?_
 refine ⟨⟨by decide,(show (1:Int)≤1 by decide)⟩,Jh (b:=JQ []) (Jk7 w []) ?_⟩
 refine stp ?_
 refine Jcm rfl ⟨rfl,trivial⟩ ⟨act k 0,⟨Ja6 s a b c ru (JQ []) n, [],nx3,1⟩,Rf, ?_,rfl,nx3,rfl⟩
 exact Jp (Ja6 s a b c ru (JQ []) n) [] rfl (.cons _ (.cons _ Sf)) Sf Bf Pf
theorem Jp8 (s:Nat) (a b c ru:AV) (w:ByteArray) (k:Int) (nx:Nat) (hr:Tells Tryz.prog 198 [JQ [w]] (.tup [act k 0,int 1,int 0])):ECall Tryz.prog 113 [.bp (0,s) 0] ⟨Ja6 s a b c ru (JQ [w]) 0, [],nx,1⟩ fun r h'=> r= .tup []∧∃nx',h'=⟨Ja6 s (int k) (int 0) c ru (JQ []) 0, [],nx',1⟩:=by
 refine ECall.wk (JS Tryz.func113 rfl rfl ?_)
 refine stp ?_
 refine Jb rfl rfl (JeM 13) ⟨Rf,Rf,trivial⟩ fun nx2=> ?_
 refine stp ?_
 refine JeG (xs:= [.bp (0,s) 0]) (bx1:=Ja6 s a b c ru (JQ [w]) 0) (pm1:= []) [] [] 1 rfl rfl rfl rfl ⟨Rf,trivial⟩ (Jil s a b c ru w k 0 nx2 hr) Bf Pf rfl fun r h' hq=> ?_
 obtain ⟨rfl,nx3,rfl⟩:=hq
 refine stp ?_
 refine Jb rfl rfl (JeM 13) ⟨Rf,Rf,trivial⟩ fun nx4=> ?_
 refine stp ?_
 refine Jcm rfl trivial ⟨.tup [],⟨Ja6 s (int k) (int 0) c ru (JQ []) 0, [],nx4,1⟩,Rf, ?_,rfl,nx4,rfl⟩
 exact Jp (Ja6 s (int k) (int 0) c ru (JQ []) 0) [] rfl Sf Sf Bf Pf
end Go.Proofs.W

namespace Go.Proofs.W
open Go.Vl
set_option maxRecDepth 100000
def Ja7:AV:= .os 0 0 (fun _=> .any) none
theorem Joc:Tryz.prog.bytesOf 87=56:=by kernel_rfl
set_option maxHeartbeats 4000000 in
theorem JrO (s:Nat) (a b c:AV) (nm w:ByteArray) (k:Int) (nx:Nat) (hn:J1 nm.data.toList=true) (hs:nm.size≤1000) (hr:Tells Tryz.prog 198 [JQ [w]] (.tup [act k 0,int 1,int 0])):
 ECall Tryz.prog 116 [.bp (0,s) 0,Jj nm] ⟨Ja6 s a b c Ja7 (JQ [w]) 1, [],nx,1⟩ fun r h'=> r= .tup []∧∃st nx',h'=⟨Ja6 s a b c (.os 4 1 (fun _=> Jau ⟨nm,(k,0), []⟩) (some (0,st))) (JQ []) 1, [((0,st),4)],nx',1⟩:=by
 have hnm:=Jik nm Om
 rw [hn] at hnm
 refine ECall.wk (JS Tryz.func116 rfl rfl ?_)
 refine stp ?_
 refine Jb rfl rfl hnm ⟨Rf,trivial⟩ fun nx2=> ?_
 refine stp ?_
 refine Jb rfl rfl (JeM 13) ⟨Rf,Rf,trivial⟩ fun nx3=> ?_
 refine stp ?_
 refine Jb rfl rfl (JeM 3) ⟨Rf,Rf,trivial⟩ fun nx4=> ?_
 refine stp ?_
 refine JeG (xs:= [.bp (0,s) 0]) (bx1:=Ja6 s a b c Ja7 (JQ [w]) 1) (pm1:= []) [] [] 1 rfl rfl rfl rfl ⟨Rf,trivial⟩ (Jil s a b c Ja7 w k 1 nx4 hr) Bf Pf rfl fun r h' hq=> ?_
 obtain ⟨rfl,nx5,rfl⟩:=hq
 refine stp ?_
 refine Jr (fun y:Nat=> mk 67 [(0, .bp (0,s) 0),(1,Jj nm),(4, .bp (1,nx5) 0)] ⟨((1,nx5), .c [Jj nm,int k,int 0,JaU []])::Ja6 s a b c Ja7 (JQ []) 1, [],y,2⟩) (fun _=> True) (fun _=> 0) ?_ ?_
 ·exact ⟨nx5+1,trivial,Et (pm:= []) (bx:=((1,nx5), .c [Jj nm,int k,int 0,JaU []])::Ja6 s a b c Ja7 (JQ []) 1) rfl rfl ⟨rfl,⟨Rf,Rf,Rf,AVle.os_sl0,trivial⟩,Bf⟩ trivial ⟨Rf,Rf,Rf,trivial⟩⟩
 ·rintro nx6 -
  refine stp ?_
  refine Jah 9 (((1,nx5), .c [Jj nm,int k,int 0,JaU []])::Ja6 s a b c Ja7 (JQ []) 1) (fun i=> match i with | 8=> true | _=> false) (fun _=> false) [0,1,2,3,4,5,6,7,8] (by kernel_rfl) (by kernel_rfl) (HB.refl _) ?_
  refine stp ?_
  refine ⟨_,Jaq (e:=87) (c:=4) (pm:= []) (n:=0) (oi:=none) (sz:=0) (f:=fun _=> .any) (HB.refl _) rfl rfl rfl (.inr ⟨_,rfl⟩) (by kernel_rfl) (by kernel_rfl) (by kernel_rfl) (.inl ⟨rfl,rfl⟩) (by kernel_rfl) rfl (JZ rfl) (by rw [Joc];decide) Dc,fun r h' hr=> ?_⟩
  obtain ⟨rfl,rfl⟩:=hr
  refine stp ?_
  refine Jcm rfl trivial ⟨.tup [],⟨Ja6 s a b c (.os 4 1 (fun _=> Jau ⟨nm,(k,0), []⟩) (some (0,nx6))) (JQ []) 1, [((0,nx6),4)],nx6+1,1⟩,Rf, ?_,rfl,nx6,nx6+1,rfl⟩
  exact Jp (Ja6 s a b c (.os 4 1 (JbH 0 (fun _=> .any) _) (some (2,nx6))) (JQ []) 1) [((2,nx6),4)] rfl (.cons _ Sf) Sf ⟨rfl,⟨Rf,Rf,Rf,(AVle.os_fun (fun i hi=> by obtain rfl:i=0:=Nat.lt_one_iff.1 hi;rfl)).trans (AVle.os_nm rfl),Rf,Rf,trivial⟩,trivial⟩ ⟨rfl,rfl,trivial⟩
end Go.Proofs.W

namespace Go.Proofs.W
open Go.Vl
set_option maxRecDepth 100000
def JlN (s:Nat) (a b c ru wd:AV) (n:Int):List (Vl.Id×Own):= [((1,s), .c [a,b,c,ru,wd,int n])]
theorem Jk9 {l l':List (Value×AV)} {K:List (Value×AV)→Prop} (h:l=l') (hk:JfW l' K):JfW l K:=h ▸ hk
def doF (s:Nat):AV:= .fn (.func 113) [.bp (0,s) 0] []
def doX (s:Nat):AV:= .fn (.func 114) [.bp (0,s) 0] []
def doM (s:Nat):List (Value×AV):= [(.string JbW,doF s),(.string ⟨#[120,51,50]⟩,doX s)]
theorem JrP (x:AV) (h:Heap):DCall Tryz.prog 111 [x] .returning h fun u h'=> u= .returning∧h'=h:=by
 refine JgP Tryz.func111 rfl rfl rfl rfl rfl rfl ?_
 refine stp ?_
 refine Jmf rfl (.inr rfl) rfl rfl ?_
 refine stp ?_
 exact Jz rfl ⟨rfl,rfl⟩
def JjH (s s1 s2 s3 s4:Nat) (nm:ByteArray):List (Vl.Id×Own):= [((4,s4), .mp (doM s)),((3,s3), .c [Jj nm]),((2,s2), .c [int 0]),((1,s1), .c [.bp (0,s) 0])]
theorem Jp9 (s s1 s2 s3 s4 nx:Nat) (a b c:AV) (nm w:ByteArray) (k:Int) (hn:J1 nm.data.toList=true) (hs:nm.size≤1000) (hr:Tells Tryz.prog 198 [JQ [w]] (.tup [act k 0,int 1,int 0])):
 ECall Tryz.prog 115 [.bp (1,s1) 0, .bp (3,s3) 0] ⟨JjH s s1 s2 s3 s4 nm++Ja6 s a b c Ja7 (JQ [w]) 1, [],nx,5⟩ fun r h'=> r= .tup []∧∃st nx',h'=⟨JjH s s1 s2 s3 s4 nm++Ja6 s a b c (.os 4 1 (fun _=> Jau ⟨nm,(k,0), []⟩) (some (0,st))) (JQ []) 1, [((0,st),4)],nx',5⟩:=by
 refine JS Tryz.func115 rfl rfl ?_
 refine stp ?_
 refine Jac (xs:= [.bp (0,s) 0,Jj nm]) (bx1:=Ja6 s a b c Ja7 (JQ [w]) 1) (pm1:= []) (JjH s s1 s2 s3 s4 nm) [] 5 rfl rfl rfl rfl ⟨Rf,Rf,trivial⟩ (JrO s a b c nm w k nx hn hs hr) Bf Pf rfl fun r h' hq=> ?_
 obtain ⟨rfl,st,nx2,rfl⟩:=hq
 refine stp ?_
 exact Jz rfl ⟨rfl,st,nx2,rfl⟩
set_option maxHeartbeats 4000000 in
theorem Jqa (s:Nat) (nx:Nat):ECall Tryz.prog 60 [.bp (0,s) 0,JQ [JbW,Jdc]] ⟨Ja6 s (int 0) (int 0) (Jg false) Ja7 Ja7 0, [],nx,1⟩ fun r h'=> r=int 0∧∃nx',h'=⟨JlN s (int 1) (int 0) (Jg false) Ja7 (JQ []) 1, [],nx',1⟩:=by
 refine ECall.wk (JS Tryz.func60 rfl rfl ?_)
 refine stp ?_
 refine Jg9 rfl rfl rfl ?_
 refine stp ?_
 refine Jac (xs:= [.bp (0,s) 0]) (bx1:=Ja6 s (int 0) (int 0) (Jg false) Ja7 (JQ [JbW,Jdc]) 0) (pm1:= []) [((2,nx+1), .c [int 0]),((1,nx), .c [.bp (0,s) 0])] [] 3 rfl rfl rfl rfl ⟨Rf,trivial⟩ (Jk8 s (int 0) (int 0) (Jg false) Ja7 JbW Jdc 0 (nx+2)) Bf Pf rfl fun r h' hq=> ?_
 obtain ⟨rfl,rfl⟩:=hq
 refine stp ?_
 refine Jk9 (l':=doM s) (by kernel_rfl) ?_
 refine stp ?_
 refine Jh (b:= .fn (.func 113) [.bp (0,s) 0] []) (by kernel_rfl) ?_
 refine stp ?_
 refine Jac (xs:= [.bp (0,s) 0]) (bx1:=Ja6 s (int 0) (int 0) (Jg false) Ja7 (JQ [Jdc]) 0) (pm1:= []) [((4,nx+3), .mp (doM s)),((3,nx+2), .c [Jj JbW]),((2,nx+1), .c [int 0]),((1,nx), .c [.bp (0,s) 0])] [] 5 rfl rfl rfl rfl ⟨Rf,trivial⟩ (Jp8 s (int 0) (int 0) (Jg false) Ja7 Jdc 1 (nx+4) JrM) Bf Pf rfl fun r h' hq=> ?_
 obtain ⟨rfl,nx2,rfl⟩:=hq
 refine stp ?_
 refine DCall.mono (JrP _ _) fun u h' hq=> ?_
 obtain ⟨rfl,rfl⟩:=hq
 refine Jcm rfl ⟨⟨rfl,Nat.zero_lt_one⟩,trivial⟩ ⟨int 0,⟨JlN s (int 1) (int 0) (Jg false) Ja7 (JQ []) 1, [],nx2,1⟩,Rf, ?_,rfl,nx2,rfl⟩
 exact Jp (Ja6 s (int 1) (int 0) (Jg false) Ja7 (JQ []) 1) [] rfl (.cons _ (.cons _ (.cons _ (.cons _ Sf)))) Sf ⟨rfl,OwnLe.refl _,trivial⟩ Pf
set_option maxHeartbeats 4000000 in
theorem JrQ (s:Nat) (nx:Nat):ECall Tryz.prog 60 [.bp (0,s) 0,JQ [Jck,Jcu]] ⟨Ja6 s (int 1) (int 0) (Jg false) Ja7 (JQ []) 1, [],nx,1⟩ fun r h'=> r=int 0∧∃st nx',h'=⟨JlN s (int 1) (int 0) (Jg false) (.os 4 1 (fun _=> Jau ⟨Jck,(8,0), []⟩) (some (0,st))) (JQ []) 2, [((0,st),4)],nx',1⟩:=by
 refine ECall.wk (JS Tryz.func60 rfl rfl ?_)
 refine stp ?_
 refine Jg9 rfl rfl rfl ?_
 refine stp ?_
 refine Jac (xs:= [.bp (0,s) 0]) (bx1:=Ja6 s (int 1) (int 0) (Jg false) Ja7 (JQ [Jck,Jcu]) 1) (pm1:= []) [((2,nx+1), .c [int 0]),((1,nx), .c [.bp (0,s) 0])] [] 3 rfl rfl rfl rfl ⟨Rf,trivial⟩ (Jk8 s (int 1) (int 0) (Jg false) Ja7 Jck Jcu 1 (nx+2)) Bf Pf rfl fun r h' hq=> ?_
 obtain ⟨rfl,rfl⟩:=hq
 refine stp ?_
 refine Jk9 (l':=doM s) (by kernel_rfl) ?_
 refine stp ?_
 refine Jh (b:= .v .nilFunc) (by kernel_rfl) ?_
 refine stp ?_
 refine Jac (xs:= [.bp (1,nx) 0, .bp (3,nx+2) 0]) (bx1:=JjH s nx (nx+1) (nx+2) (nx+3) Jck++Ja6 s (int 1) (int 0) (Jg false) Ja7 (JQ [Jcu]) 1) (pm1:= []) [] [] 5 rfl rfl rfl rfl ⟨Rf,Rf,trivial⟩ (Jp9 s nx (nx+1) (nx+2) (nx+3) (nx+4) (int 1) (int 0) (Jg false) Jck Jcu 8 (by decide+kernel) Dc Jp7) Bf Pf rfl fun r h' hq=> ?_
 obtain ⟨rfl,st,nx2,rfl⟩:=hq
 refine stp ?_
 refine DCall.mono (JrP _ _) fun u h' hq=> ?_
 obtain ⟨rfl,rfl⟩:=hq
 refine Jcm rfl ⟨⟨rfl,Nat.zero_lt_one⟩,trivial⟩ ⟨int 0,⟨JlN s (int 1) (int 0) (Jg false) (.os 4 1 (fun _=> Jau ⟨Jck,(8,0), []⟩) (some (0,st))) (JQ []) 2, [((0,st),4)],nx2,1⟩,Rf, ?_,rfl,st,nx2,rfl⟩
 exact Jp (Ja6 s (int 1) (int 0) (Jg false) (.os 4 1 (fun _=> Jau ⟨Jck,(8,0), []⟩) (some (0,st))) (JQ []) 2) [((0,st),4)] rfl (.cons _ (.cons _ (.cons _ (.cons _ Sf)))) Sf ⟨rfl,OwnLe.refl _,trivial⟩ Pf
end Go.Proofs.W

namespace Go.Proofs.W
open Go.Vl
set_option maxRecDepth 100000
def pAw:Pol:=⟨(1,0),false, [⟨Jck,(8,0), []⟩]⟩
def LL:List (Nat×List ByteArray):= [(1, [JbW,Jdc]),(2, [Jck,Jcu])]
theorem JwE:Jtx [(JaR,1),(lineB,2)]=LL:=by
 show [(1,Jem JaR),(2,Jem lineB)]=_
 rw [Jkj,Jkk];rfl
def Jkl (k st:Nat):List AV:=match k with
 | 0=> [int 0,int 0,Jg false,Ja7,Ja7,int 0]
 | 1=> [int 1,int 0,Jg false,Ja7,JQ [],int 1]
 | _=> [int 1,int 0,Jg false, .os 4 1 (fun _=> Jau ⟨Jck,(8,0), []⟩) (some (0,st)),JQ [],int 2]
def Jtz (k st:Nat):List (Vl.Id×Nat):=match k with
 | 2=> [((0,st),4)]
 | _=> []
set_option maxHeartbeats 4000000 in
theorem Jqb:Tells Tryz.prog 29 [Jj textAB] (.tup [Jar pAw,int 0,int 0]):=by
 have hl:=Jlu
 rw [JwE] at hl
 refine Jc Tryz.func29 rfl rfl fun nx=> ?_
 refine stp ?_
 refine Jb rfl rfl hl ⟨Rf,trivial⟩ fun nx2=> ?_
 refine stp ?_
 refine Jr (fun y:Nat×Nat×Nat=> mk 52 [(2, .bp (0,nx) 0),(3,int 0),(4,int 0),(8, .bp (1,nx2) 0),(31,JrJ LL),(32,int 2),(33,int y.1)] ⟨[((1,nx2), .c (Jkl y.1 y.2.1)),((0,nx), .c [int 0,int 0,Jg false,Ja7])],Jtz y.1 y.2.1,y.2.2,2⟩) (fun y=> y.1≤2) (fun y=> 2 - y.1) ?_ ?_
 ·exact ⟨(0,0,nx2+1),Nat.zero_le _,Et (pm:= []) (bx:= [((1,nx2), .c (Jkl 0 0)),((0,nx), .c [int 0,int 0,Jg false,Ja7])]) rfl rfl Bf trivial ⟨Rf,Rf,Rf,Rf,Rf,Rf,Rf,trivial⟩⟩
 ·rintro ⟨k,st,nx3⟩ h1
  dsimp only at h1
  obtain rfl | rfl | rfl:k=0∨k=1∨k=2:=by omega
  ·refine stp ?_
   refine ⟨⟨(by decide:(0:Int)≤0),(by decide:(0:Int) < 2)⟩,Jh (b:= .rp [int 1,JQ [JbW,Jdc]]) rfl ?_⟩
   refine stp ?_
   refine JkO (xs:= [.bp (0,nx2) 0,JQ [JbW,Jdc]]) (bx1:= [((1,nx2), .c (Jkl 0 st))]) (pm1:= []) [((2,nx3), .c [int 1,JQ [JbW,Jdc]])] [((0,nx), .c [int 0,int 0,Jg false,Ja7])] [] 3 rfl rfl rfl rfl ⟨AVle.bp_nm rfl,Rf,trivial⟩ (Jqa nx2 (nx3+1)) ⟨rfl,OwnLe.refl _,trivial⟩ Pf rfl fun r h' hq=> ?_
   obtain ⟨rfl,nx4,rfl⟩:=hq
   refine stp ?_
   exact back (1,0,nx4) Dm Dm (Je (pm:=Jtz 1 0) (bx:= [((1,nx2), .c (Jkl 1 0)),((0,nx), .c [int 0,int 0,Jg false,Ja7])]) _ _ rfl rfl (.cons _ Sf) Sf Bf Pf ⟨Rf,Rf,Rf,Rf,Rf,Rf,Rf,trivial⟩)
  ·refine stp ?_
   refine ⟨⟨(by decide:(0:Int)≤1),(by decide:(1:Int) < 2)⟩,Jh (b:= .rp [int 2,JQ [Jck,Jcu]]) rfl ?_⟩
   refine stp ?_
   refine JkO (xs:= [.bp (0,nx2) 0,JQ [Jck,Jcu]]) (bx1:= [((1,nx2), .c (Jkl 1 st))]) (pm1:= []) [((2,nx3), .c [int 2,JQ [Jck,Jcu]])] [((0,nx), .c [int 0,int 0,Jg false,Ja7])] [] 3 rfl rfl rfl rfl ⟨AVle.bp_nm rfl,Rf,trivial⟩ (JrQ nx2 (nx3+1)) ⟨rfl,OwnLe.refl _,trivial⟩ Pf rfl fun r h' hq=> ?_
   obtain ⟨rfl,st',nx4,rfl⟩:=hq
   refine stp ?_
   exact back (2,st',nx4) Dm Dm (Je (pm:=Jtz 2 st') (bx:= [((1,nx2), .c (Jkl 2 st')),((0,nx), .c [int 0,int 0,Jg false,Ja7])]) _ _ rfl rfl (.cons _ Sf) Sf Bf Pf ⟨Rf,Rf,Rf,Rf,Rf,Rf,Rf,trivial⟩)
  ·refine stp ?_
   exact Ji rfl ⟨rfl,trivial⟩ (AVle.tups (cs:= [_,_,_]) ⟨AVle.ags (cs:= [_,_,_,_]) ⟨Rf,Rf,Rf,(AVle.os_fun (fun i hi=> by obtain rfl:i=0:=Nat.lt_one_iff.1 hi;rfl)).trans AVle.os_sl,trivial⟩,Rf,Rf,trivial⟩)
end Go.Proofs.W

namespace Go.Proofs.W
open Go.Vl
set_option maxRecDepth 100000
end Go.Proofs.W

namespace Go.Proofs.W
open Go.Vl
set_option maxRecDepth 100000
structure Ct where
 name:ByteArray
 many:Nat
deriving DecidableEq
end Go.Proofs.W

namespace Go.Proofs.W
open Go.Vl
set_option maxRecDepth 100000
end Go.Proofs.W

namespace Go.Proofs.W
open Go.Vl
set_option maxRecDepth 100000
def Juj (v:Nat):AV:= .fn (.func 129) [] [.rp [u32 v]]
theorem Jim (v:Nat) (hv:v < 4294967296):Tells Tryz.prog 127 [Jjm,Juj v] (int (JaV (Jdt v))):=by
 refine Jc Tryz.func127 rfl rfl fun nx=> ?_
 refine stp ?_
 refine Jr (fun s:Nat×Nat=> mk 19 [(0,Jjm),(1,Juj v),(7,int 8),(8,int s.1)] ⟨[], [],s.2,0⟩) (fun s=> s.1≤8∧∀j,j < s.1→Jhs v j=false) (fun s=> 8 - s.1) ?_ ?_
 ·exact ⟨(0,nx),⟨by simp,by intro j hj;simp at hj⟩,JH rfl rfl ⟨Rf,Rf,Rf,Rf,trivial⟩⟩
 ·rintro ⟨i,nx⟩ ⟨h1,h2⟩
  dsimp only at h1 h2
  by_cases hi:i < 8
  ·obtain ⟨s,m,hr1,hr2⟩:=Jm2 i hi
   obtain ⟨s',c',m',h3,h4,_⟩:=Jeh i hi
   have hm:m=m':=by
    rw [hr1] at h3
    have:=AV.ag.inj h3
    simp at this
    exact this.2.2
   rw [← hm] at h4
   have hT:=JrK v i hi hv s m hr1 hr2 h4
   clear h3
   rcases h4 with rfl | ⟨n',rfl⟩
   all_goals
    refine stp ?_
    intro c h3;cases c
    ·exact absurd (Jm h3) Dm
    refine stp ?_
    refine ⟨⟨by dsimp only;omega,by dsimp only;omega⟩,Jh (b:= .rp [.v (.string s), .v (.int .u32 (kb i)),_]) (by show AV.rp (Jcn Jc8 i).cells=_;rw [hr1];rfl) ?_⟩
    refine stp ?_
    refine Jb rfl rfl hT ⟨Rf,Rf,trivial⟩ fun nx'=> ?_
    intro c h4;cases c
    ·refine stp ?_
     refine back (i+1,nx') ⟨by dsimp only;omega,fun j hj=> ?_⟩ Dm (JH rfl rfl ⟨Rf,Rf,Rf,Jd (Jk Dm),trivial⟩)
     dsimp only at hj
     rcases Nat.lt_or_ge j i with h | h
     ·exact h2 j h
     ·obtain rfl:j=i:=by omega
      exact h4.symm
    ·refine stp ?_
     refine Ja rfl (Jd ?_)
     have:Jdt v=some i:=by
      unfold Jdt
      rw [List.find?_range_eq_some]
      exact ⟨h4.symm,by simp;omega,fun j hj=> by rw [h2 j hj];rfl⟩
     rw [this];rfl
  ·obtain rfl:i=8:=by omega
   refine stp ?_
   refine Ja rfl (Jd ?_)
   have:Jdt v=none:=by
    unfold Jdt
    rw [List.find?_range_eq_none]
    intro j hj
    rw [h2 j hj];rfl
   rw [this];rfl
def JfG (v:Nat):A2×Int:=match Jdt v with
 | some k=> (((k+1:Nat),(v - kb k:Nat)),0)
 | none=> ((0,0),5)
theorem Jqc {v k:Nat} (h:Jdt v=some k):k < 8∧kb k≤v∧v≤kb k+km k:=by
 unfold Jdt at h
 rw [List.find?_range_eq_some] at h
 obtain ⟨h1,h2,_⟩:=h
 simp [Jhs] at h1 h2
 exact ⟨h2,h1.1,h1.2⟩
set_option maxHeartbeats 1000000 in
theorem JrR (v k:Nat) (hv:v < 4294967296) (hf:Jdt v=some k) (hk:k < 8) (hle:kb k≤v) (s:ByteArray) (m:AV) (hr:Jcn Jc8 k= .ag [.v (.string s), .v (.int .u32 (kb k)),m]) (hm2:m= .v .nilFunc∨∃n,m=Jdn n):
 Tells Tryz.prog 70 [u32 v] (.tup [act (k+1:Nat) (v - kb k:Nat),int 0]):=by
 have hx:=Jim v hv
 rw [hf] at hx
 have ho:=Jhe k hk
 rw [hr] at ho
 have e1:IntKind.u32.wrap ((v:Int) - (kb k:Int))=((v - kb k:Nat):Int):=by
  rw [show (v:Int) - (kb k:Int)=((v - kb k:Nat):Int) by omega]
  simp [IntKind.wrap,IntKind.signed,IntKind.bits];omega
 have e2:IntKind.i64.wrap ((v - kb k:Nat):Int)=((v - kb k:Nat):Int):=Jq Om Om
 rcases hm2 with rfl | ⟨n',rfl⟩
 all_goals
  refine Jc Tryz.func70 rfl rfl fun nx=> ?_
  (refine Jt ?_;refine Jv ?_;refine Jt ?_)
  refine J4 (n:=26) (nx:=nx+2) (nn:=2) (pm:= []) (bx:= [((1,nx+1), .c [int 0,int 0])]) (L:= [(1, .rp [u32 v]),(2, .bp (1,nx+1) 0),(3,int 0)]) (df:=some []) [((0,nx), .c [u32 v])] rfl rfl rfl (List.Perm.swap _ _ _) Sf ⟨Frz.bp (.head _) rfl,Frz.refl _,Frz.refl _,trivial⟩ ?_
  refine stp ?_
  refine Jb rfl rfl Jfj trivial fun nx1=> ?_
  refine stp ?_
  refine Jb rfl rfl hx ⟨Rf,Rf,trivial⟩ fun nx2=> ?_
  refine stp ?_
  refine Jb rfl rfl ho ⟨Jd (by show IntKind.i64.wrap (1+(k:Int))=_;rw [Jq Om Om];omega),trivial⟩ fun nx3=> ?_
  refine stp ?_
  refine Ji rfl ⟨rfl,trivial⟩ (AVle.tups ⟨AVle.ags ⟨Jd ?_,Jd ?_,trivial⟩,Rf,trivial⟩)
  ·show IntKind.i64.wrap (1+(k:Int))=_
   rw [Jq Om Om];omega
  ·show IntKind.i64.wrap (IntKind.u32.wrap ((v:Int) - (kb k:Int)))=_
   rw [e1,e2]
theorem JrS (v:Nat) (hv:v < 4294967296):Tells Tryz.prog 70 [u32 v] (.tup [JeP (JfG v).1,int (JfG v).2]):=by
 cases hf:Jdt v with
 | some k=>
   obtain ⟨hk,hle,hle2⟩:=Jqc hf
   obtain ⟨s,m,hr1,hr2⟩:=Jm2 k hk
   obtain ⟨s',c',m',h3,h4,_⟩:=Jeh k hk
   have hm:m=m':=by
    rw [hr1] at h3
    have:=AV.ag.inj h3
    simp at this
    exact this.2.2
   rw [← hm] at h4
   have:=JrR v k hv hf hk hle s m hr1 h4
   rw [show JfG v=((((k+1:Nat):Int),((v - kb k:Nat):Int)),0) by simp [JfG,hf]]
   exact this
 | none=>
   have hx:=Jim v hv
   rw [hf] at hx
   rw [show JfG v=((0,0),5) by simp [JfG,hf]]
   refine Jc Tryz.func70 rfl rfl fun nx=> ?_
   (refine Jt ?_;refine Jv ?_;refine Jt ?_)
   refine J4 (n:=26) (nx:=nx+2) (nn:=2) (pm:= []) (bx:= [((1,nx+1), .c [int 0,int 0])]) (L:= [(1, .rp [u32 v]),(2, .bp (1,nx+1) 0),(3,int 0)]) (df:=some []) [((0,nx), .c [u32 v])] rfl rfl rfl (List.Perm.swap _ _ _) Sf ⟨Frz.bp (.head _) rfl,Frz.refl _,Frz.refl _,trivial⟩ ?_
   refine stp ?_
   refine Jb rfl rfl Jfj trivial fun nx1=> ?_
   refine stp ?_
   refine Jb rfl rfl hx ⟨Rf,Rf,trivial⟩ fun nx2=> ?_
   refine stp ?_
   refine Jb rfl rfl (JoH 0 Om) ⟨Rf,trivial⟩ fun nx3=> ?_
   refine stp ?_
   exact Ji rfl ⟨rfl,trivial⟩ Rf
end Go.Proofs.W

namespace Go.Proofs.W
open Go.Vl
set_option maxRecDepth 100000
theorem JuU {a b:Int} (h:a=b):AVle (.v (.int .u32 a)) (u32 b):=h ▸ Rf
theorem JvQ:JaA Tryz.prog 58 9 [(0,int 0),(1,int 2147483648),(2,int 0),(3,int 196608),(4,int 327680),(5,int 2143289344),(6,int 2146435072),(7,int 2147221504),(8,int 2147418112)]=some (3, [int 0,int 2147483648,int 0,int 196608,int 327680,int 2143289344,int 2146435072,int 2147221504,int 2147418112]):=by kernel_rfl
theorem JrT (k:Nat) (hk:k < 8):Tells Tryz.prog 83 [int (k+1:Nat)] (int (kb k)):=by
 refine Jc Tryz.func83 rfl rfl fun nx=> ?_
 (refine Jt ?_;refine Jv ?_;refine Jt ?_)
 refine J7 (fun n=> match n with | 0=> true | _=> false) 1 ?_
 refine JeE rfl JvQ ?_
 refine stp ?_
 refine ⟨⟨by omega,by omega⟩, ?_⟩
 rcases k with _ | _ | _ | _ | _ | _ | _ | _ | k
 iterate 8
  ·refine stp ?_
   exact Ja rfl Rf
 omega
theorem Jqd (k n:Nat) (hk:k < 8) (hn:n≤km k):Tells Tryz.prog 51 [act (k+1:Nat) n] (.tup [u32 (kb k+n:Nat),int 0]):=by
 obtain ⟨s,m,hr1,hr2⟩:=Jm2 k hk
 obtain ⟨s',c',m',h3,h4,_⟩:=Jeh k hk
 have hm:m=m':=by
  rw [hr1] at h3
  have:=AV.ag.inj h3
  simp at this
  exact this.2.2
 rw [← hm] at h4
 clear h3
 have hle:=JjG hk
 have ho:=Jhe k hk
 rw [hr1] at ho
 have hR:=Jgs ((k+1:Nat):Int) (n:Int)
 have hkm:((km k:Nat):Int)=Jev ((k+1:Nat):Int):=by
  clear hr1 hr2 h4 hle ho hR hn
  rcases k with _ | _ | _ | _ | _ | _ | _ | _ | k
  all_goals first | decide | omega
 rw [show J2 ((k+1:Nat):Int) (n:Int)=true by unfold J2;rw [← hkm];simp;omega] at hR
 have e1:IntKind.u32.wrap (n:Int)=(n:Int):=by simp [IntKind.wrap,IntKind.signed,IntKind.bits];omega
 have e2:IntKind.u32.wrap ((kb k:Int)+(n:Int))=((kb k+n:Nat):Int):=by
  rw [show (kb k:Int)+(n:Int)=((kb k+n:Nat):Int) by omega]
  simp [IntKind.wrap,IntKind.signed,IntKind.bits];omega
 rcases h4 with rfl | ⟨n',rfl⟩
 all_goals
  refine Jc Tryz.func51 rfl rfl fun nx=> ?_
  refine stp ?_
  refine Jb rfl rfl hR ⟨Rf,trivial⟩ fun nx1=> ?_
  refine stp ?_
  refine Jb rfl rfl ho ⟨Rf,trivial⟩ fun nx2=> ?_
  refine stp ?_
  refine Ja rfl (AVle.tups ⟨JuU ?_,Rf,trivial⟩)
  show IntKind.u32.wrap ((kb k:Int)+IntKind.u32.wrap (n:Int))=_
  rw [e1,e2]
theorem Jqe (k n:Nat) (hk:k < 8) (hn:n≤km k):Tells Tryz.prog 41 [act (k+1:Nat) n] (int (kb k+n:Nat)):=by
 have hle:=JjG hk
 refine Jc Tryz.func41 rfl rfl fun nx=> ?_
 refine stp ?_
 (refine Jy 6 ?_ ?_ ?_ ?_;(· kernel_rfl);(· kernel_rfl);(· kernel_rfl))
 refine stp ?_
 refine Jb9 (JaG rfl rfl (JrT k hk) ⟨Rf,trivial⟩ (NoId.v _)) ?_
 refine stp ?_
 refine Ja rfl (Jd ?_)
 rw [Jq Om Om]
 omega
end Go.Proofs.W

namespace Go.Proofs.W
open Go.Vl
set_option maxRecDepth 100000
def hB (x:Nat→Nat) (c:Cnd):Bool:=Jaf c&& Jf1 c ([x 0,x 1,x 2,x 3,x 4,x 5].getD c.arg.toNat 0)
def JeT (x:Nat→Nat) (r:Rul):Bool:=r.conds.all (hB x)
theorem JvR {x:Nat→Nat} (hx:∀i,x i < 18446744073709551616) (i:Nat): [x 0,x 1,x 2,x 3,x 4,x 5].getD i 0 < 18446744073709551616:=by
 rcases i with _ | _ | _ | _ | _ | _ | i
 ·exact hx 0
 ·exact hx 1
 ·exact hx 2
 ·exact hx 3
 ·exact hx 4
 ·exact hx 5
 ·exact Nat.zero_lt_succ _
theorem JrU (x:Nat→Nat) (hx:∀i,x i < 18446744073709551616) (c:Cnd) (hc:c.ok):Tells Tryz.prog 125 [J6 c,Jfk x] (Jg (hB x c)):=Jpu c (x 0) (x 1) (x 2) (x 3) (x 4) (x 5) hc (JvR hx)
def Jen (x:Nat→Nat):AV:= .rp [u64 (x 0),u64 (x 1),u64 (x 2),u64 (x 3),u64 (x 4),u64 (x 5)]
theorem JrV (x:Nat→Nat) (hx:∀i,x i < 18446744073709551616) (c:Cnd) (hc:c.ok):Tells Tryz.prog 124 [J6 c,Jen x] (Jg (!hB x c)):=by
 have hh:=JrU x hx c hc
 generalize hB x c=b at hh
 refine Jc Tryz.func124 rfl rfl fun nx=> ?_
 refine stp ?_
 refine Jh (b:=J6 c) rfl ?_
 refine stp ?_
 refine Jb rfl rfl hh ⟨Rf,Rf,trivial⟩ fun nx2=> ?_
 cases b
 ·refine stp ?_
  exact Ja rfl Rf
 ·refine stp ?_
  exact Ja rfl Rf
theorem JtA (l:List Cnd) (p:Cnd→Bool) (f:Nat) (x:Nat→Nat) (hl:l.length≤1000000000) (hp:∀i,i < l.length→Tells Tryz.prog f (J6 (l.getD i cnd0):: [Jen x]) (Jg (p (l.getD i cnd0)))):
 Tells Tryz.prog 164 [Jai 4 J6 cnd0 l,(.fn (.func f) [] [Jen x])] (int (JaV (l.findIdx? p))):=by
 refine Jc Tryz.func164 rfl rfl fun nx=> ?_
 refine stp ?_
 refine Jr (fun s:Nat×Nat=> mk 19 [(0,Jai 4 J6 cnd0 l),(1,(.fn (.func f) [] [Jen x])),(7,int l.length),(8,int s.1)] ⟨[], [],s.2,0⟩) (fun s=> s.1≤l.length∧∀j,j < s.1→p (l.getD j cnd0)=false) (fun s=> l.length - s.1) ?_ ?_
 ·exact ⟨(0,nx),⟨by simp,by intro j hj;simp at hj⟩,JH rfl rfl ⟨Rf,Rf,Rf,Rf,trivial⟩⟩
 ·rintro ⟨i,nx⟩ ⟨h1,h2⟩
  dsimp only at h1 h2
  refine stp ?_
  intro c h3;cases c
  ·have h3:=Jm h3
   dsimp only at h3
   refine stp ?_
   refine Ja rfl (Jd ?_)
   rw [JcE cnd0 (fun j hj=> h2 j Om)];rfl
  ·have h3:=Jl h3
   dsimp only at h3
   have hi:i < l.length:=by omega
   refine stp ?_
   refine ⟨⟨by dsimp only;omega,by dsimp only;omega⟩, ?_⟩
   refine stp ?_
   refine Jb rfl rfl (hp i hi) ⟨Rf,Rf,trivial⟩ fun nx'=> ?_
   intro c h4;cases c
   ·refine stp ?_
    refine back (i+1,nx') ⟨by dsimp only;omega,fun j hj=> ?_⟩ Dm (JH rfl rfl ⟨Rf,Rf,Rf,Jd (Jk Dm),trivial⟩)
    dsimp only at hj
    rcases Nat.lt_or_ge j i with h | h
    ·exact h2 j h
    ·obtain rfl:j=i:=by omega
     exact h4.symm
   ·refine stp ?_
    refine Ja rfl (Jd ?_)
    rw [JdS cnd0 hi h2 h4.symm];rfl
theorem JtB (l:List Cnd) (p:Cnd→Bool) (f:Nat) (x:Nat→Nat) (hl:l.length≤1000000000) (hp:∀i,i < l.length→Tells Tryz.prog f (J6 (l.getD i cnd0):: [Jen x]) (Jg (p (l.getD i cnd0)))):
 Tells Tryz.prog 123 [Jai 4 J6 cnd0 l,(.fn (.func f) [] [Jen x])] (Jg (l.any p)):=by
 refine Jc Tryz.func123 rfl rfl fun nx=> ?_
 refine stp ?_
 refine Jb rfl rfl (JtA l p f x hl hp) ⟨Rf,Rf,trivial⟩ fun nx'=> ?_
 refine stp ?_
 intro c h;cases c
 all_goals
  refine stp ?_
  refine Ja rfl (Jn ?_)
  rw [h,← List.findIdx?_isSome]
  exact Jew _
theorem Jm5 (x:Nat→Nat) (hx:∀i,x i < 18446744073709551616) (l:List Cnd) (hl:l.length≤1000000000) (hc:∀c∈l,c.ok):Tells Tryz.prog 66 [JaU l,Jfk x] (Jg (l.all (hB x))):=by
 have hcn:=JtB l (fun c=> !hB x c) 124 x hl (fun i hi=> JrV x hx _ (hc _ (by simp [List.getD,hi])))
 have he:(l.any fun c=> !hB x c)= !(l.all (hB x)):=by rw [List.all_eq_not_any_not,Bool.not_not]
 rw [he] at hcn
 generalize l.all (hB x)=b at hcn
 refine Jc Tryz.func66 rfl rfl fun nx=> ?_
 (refine Jt ?_;refine Jv ?_;refine Jt ?_)
 refine J4 (n:=9) (nx:=nx+1) (nn:=1) (pm:= []) (bx:= []) (L:= [(0,JaU l),(3,Jen x),(4,Jg false)]) (df:=some []) [((0,nx), .c [u64 (x 0),u64 (x 1),u64 (x 2),u64 (x 3),u64 (x 4),u64 (x 5)])] rfl rfl rfl (List.Perm.refl _) Sf ⟨Frz.refl _,Frz.bp (.head _) rfl,Frz.refl _,trivial⟩ ?_
 refine stp ?_
 refine Jb rfl rfl hcn ⟨Rf,Rf,trivial⟩ fun nx2=> ?_
 cases b
 ·refine stp ?_
  exact Ja rfl Rf
 ·refine stp ?_
  exact Ja rfl Rf
theorem JtC (x:Nat→Nat) (hx:∀i,x i < 18446744073709551616) (r:Rul) (hl:r.conds.length≤1000000000) (hc:∀c∈r.conds,c.ok):Tells Tryz.prog 150 [Jau r,Jen x] (Jg (JeT x r)):=by
 have ha:=Jm5 x hx r.conds hl hc
 unfold JeT
 generalize r.conds.all (hB x)=b at ha
 refine Jc Tryz.func150 rfl rfl fun nx=> ?_
 refine stp ?_
 refine Jb rfl rfl ha ⟨Rf,Rf,trivial⟩ fun nx2=> ?_
 cases b
 ·refine stp ?_
  exact Ja rfl Rf
 ·refine stp ?_
  exact Ja rfl Rf
theorem Je1 {l:List Rul} {q:Rul→Bool} {i:Nat} (hi:i < l.length) (h:∀j,j < i→q (l.getD j Ju)=false) (hq:q (l.getD i Ju)=true):l.find? q=some (l.getD i Ju):=by
 have e:l.getD i Ju=l[i]:=by simp [List.getD,hi]
 rw [e] at hq⊢
 rw [List.find?_eq_some_iff_getElem]
 refine ⟨hq,i,hi,rfl,fun j hj=> ?_⟩
 have:=h j hj
 rw [show l.getD j Ju=l[j] by simp [List.getD,show j < l.length by omega]] at this
 rw [this];rfl
def Jd4 (p:Pol) (nm:ByteArray) (x:Nat→Nat):A2:=match p.rules.find? (fun r=> kS r.name nm&& JeT x r) with
 | some r=> r.act
 | none=> p.dflt
set_option maxHeartbeats 4000000 in
theorem JrW (p:Pol) (nm:ByteArray) (x:Nat→Nat) (hl:p.rules.length≤1000000) (hp:∀r∈p.rules,Tells Tryz.prog 150 [Jau r,Jen x] (Jg (JeT x r))):Tells Tryz.prog 148 [Jar p,Jj nm, .fn (.func 150) [] [Jen x]] (JeP (Jd4 p nm x)):=by
 obtain ⟨⟨k,n⟩,x32,rs⟩:=p
 dsimp only at hl hp
 refine Jc Tryz.func148 rfl rfl fun nx=> ?_
 refine stp ?_
 refine JmB ?_
 refine stp ?_
 refine Jr (fun y:Nat×Nat=> mk 30 [(1,Jj nm),(2, .fn (.func 150) [] [Jen x]),(3, .bp (0,nx) 0),(6, .bp (1,nx+1) 0),(10,J8 rs),(11,int rs.length),(12,int y.1)] ⟨[((1,nx+1), .c [int 0,int 0]),((0,nx), .c [int k,int n,Jg x32,J8 rs])], [],y.2,2⟩) (fun y=> y.1≤rs.length∧∀j,j < y.1→(kS (rs.getD j Ju).name nm&& JeT x (rs.getD j Ju))=false) (fun y=> rs.length - y.1) ?_ ?_
 ·exact ⟨(0,nx+2),⟨Nat.zero_le _,fun j h=> absurd h (Nat.not_lt_zero _)⟩,Et (pm:= []) (bx:= [((1,nx+1), .c [int 0,int 0]),((0,nx), .c [int k,int n,Jg x32,J8 rs])]) rfl rfl Bf trivial ⟨Rf,Rf,Rf,Rf,Rf,Rf,Rf,trivial⟩⟩
 ·rintro ⟨i,nx1⟩ ⟨h1,h2⟩
  dsimp only at h1 h2
  refine stp ?_
  intro c g1;cases c
  ·have g1:=Jm g1
   try dsimp only at g1
   have hi:i=rs.length:=by omega
   subst hi
   have hd:Jd4 ⟨(k,n),x32,rs⟩ nm x=(k,n):=by
    unfold Jd4
    rw [List.find?_eq_none.2 fun r hr=> ?_]
    obtain ⟨j,hj,rfl⟩:=List.mem_iff_getElem.1 hr
    have:=h2 j hj
    rw [show rs.getD j Ju=rs[j] by simp [List.getD,hj]] at this
    rw [this];decide
   refine stp ?_
   exact Ji rfl ⟨rfl,trivial⟩ (AVle.of_eq (by rw [hd];rfl))
  ·have g1:=Jl g1
   try dsimp only at g1
   have hi:i < rs.length:=by omega
   have hlet:=hp (rs.getD i Ju) (by simp [List.getD,hi])
   generalize hr:rs.getD i Ju=r at hlet
   refine stp ?_
   refine ⟨Bd,Jh (b:= .rp [Jj r.name,int r.act.1,int r.act.2,JaU r.conds]) (by rw [← hr];rfl) ?_⟩
   refine stp ?_
   intro c hc
   have hc2:kS r.name nm= !c:=by rw [show c=(r.name.toList !=nm.toList) from hc];unfold kS;rw [bne,Bool.not_not]
   clear hc
   cases c
   ·refine stp ?_
    refine Jh (b:=Jau r) rfl ?_
    refine stp ?_
    generalize hlb:JeT x r=bb at hlet
    refine Jb rfl rfl hlet ⟨Rf,Rf,trivial⟩ fun nx2=> ?_
    cases bb
    ·have hno:(kS r.name nm&& JeT x r)=false:=by rw [hlb,Bool.and_false]
     refine stp ?_
     exact back (i+1,nx2) ⟨hi,fun j hj=> by dsimp only at hj;rcases Nat.lt_or_ge j i with q | q;exact h2 j q;rw [show j=i by omega,hr];exact hno⟩ Dm (Je (pm:= []) (bx:= [((1,nx+1), .c [int 0,int 0]),((0,nx), .c [int k,int n,Jg x32,J8 rs])]) _ _ rfl rfl (.cons _ Sf) Sf Bf trivial ⟨Rf,Rf,Rf,Rf,Rf,Rf,Lw,trivial⟩)
    ·have hd:Jd4 ⟨(k,n),x32,rs⟩ nm x=r.act:=by
      unfold Jd4
      rw [Je1 hi h2 (by rw [hr,hc2,hlb];rfl),hr]
     refine stp ?_
     exact Ji rfl ⟨rfl,trivial⟩ (AVle.of_eq (by rw [hd];rfl))
   ·have hno:(kS r.name nm&& JeT x r)=false:=by rw [hc2];rfl
    refine stp ?_
    exact back (i+1,nx1+1) ⟨hi,fun j hj=> by dsimp only at hj;rcases Nat.lt_or_ge j i with q | q;exact h2 j q;rw [show j=i by omega,hr];exact hno⟩ Dm (Je (pm:= []) (bx:= [((1,nx+1), .c [int 0,int 0]),((0,nx), .c [int k,int n,Jg x32,J8 rs])]) _ _ rfl rfl (.cons _ Sf) Sf Bf trivial ⟨Rf,Rf,Rf,Rf,Rf,Rf,Lw,trivial⟩)
theorem Jod (p:Pol) (nm:ByteArray) (x:Nat→Nat) (hl:p.rules.length≤1000000) (hp:∀r∈p.rules,Tells Tryz.prog 150 [Jau r,Jen x] (Jg (JeT x r))):Tells Tryz.prog 102 [Jar p,Jj nm,Jfk x] (JeP (Jd4 p nm x)):=by
 have hf:=JrW p nm x hl hp
 generalize Jd4 p nm x=a at hf
 obtain ⟨k',n'⟩:=a
 obtain ⟨⟨k,n⟩,x32,rs⟩:=p
 refine Jc Tryz.func102 rfl rfl fun nx=> ?_
 (refine Jt ?_;refine Jv ?_;refine Jt ?_)
 refine J4 (n:=11) (nx:=nx+3) (nn:=3) (pm:= []) (bx:= [((2,nx+2), .c [int 0,int 0]),((0,nx), .c [int k,int n,Jg x32,J8 rs])]) (L:= [(1,Jj nm),(3, .bp (0,nx) 0),(5,Jen x),(6, .bp (2,nx+2) 0)]) (df:=some []) [((1,nx+1), .c [u64 (x 0),u64 (x 1),u64 (x 2),u64 (x 3),u64 (x 4),u64 (x 5)])] rfl rfl rfl (List.Perm.swap _ _ _) Sf ⟨Frz.refl _,Frz.refl _,Frz.bp (.head _) rfl,Frz.refl _,trivial⟩ ?_
 refine stp ?_
 refine Jb rfl rfl hf ⟨Rf,Rf,Rf,trivial⟩ fun nx2=> ?_
 refine stp ?_
 exact Ji rfl ⟨rfl,trivial⟩ Rf
def Jax (p:Pol) (nm:ByteArray):A2:=match p.rules.find? (fun r=> kS r.name nm) with
 | some r=> if r.conds.length=0 then r.act else p.dflt
 | none=> p.dflt
def Jeo (s:Nat) (m:Bool):List (Vl.Id×Own):= [((0,s), .c [Jg m])]
theorem Joe (s:Nat) (m:Bool) (r:Rul) (nx:Nat):ECall Tryz.prog 149 [Jau r, .bp (0,s) 0] ⟨Jeo s m, [],nx,1⟩ fun v h'=> v=Jg (!m&& decide (r.conds.length=0))∧∃nx',h'=⟨Jeo s true, [],nx',1⟩:=by
 refine ECall.wk (JS Tryz.func149 rfl rfl ?_)
 cases m
 ·refine stp ?_
  intro c hc
  have hc2:c=decide (r.conds.length=0):=hc.trans (by rw [Bool.eq_iff_iff];simp)
  clear hc
  rw [← hc2]
  clear hc2
  refine stp ?_
  refine Jcm rfl trivial ⟨Jg c,⟨Jeo s true, [],nx+1,1⟩,Rf, ?_,by cases c <;> rfl,nx+1,rfl⟩
  exact Jp (Jeo s true) [] rfl (.cons _ Sf) Sf Bf Pf
 ·refine stp ?_
  refine Jcm rfl trivial ⟨Jg false,⟨Jeo s true, [],nx+1,1⟩,Rf, ?_,rfl,nx+1,rfl⟩
  exact Jp (Jeo s true) [] rfl (.cons _ Sf) Sf Bf Pf
end Go.Proofs.W

namespace Go.Proofs.W
open Go.Vl
set_option maxRecDepth 100000
set_option maxHeartbeats 4000000 in
theorem Jof (p:Pol) (nm:ByteArray) (hl:p.rules.length≤1000000) (s nx:Nat):ECall Tryz.prog 148 [Jar p,Jj nm, .fn (.func 149) [] [.bp (0,s) 0]] ⟨Jeo s false, [],nx,1⟩ fun v h'=> v=JeP (Jax p nm)∧∃m nx',h'=⟨Jeo s m, [],nx',1⟩:=by
 obtain ⟨⟨k,n⟩,x32,rs⟩:=p
 dsimp only at hl
 refine ECall.wk (JS Tryz.func148 rfl rfl ?_)
 refine stp ?_
 refine JmB ?_
 refine stp ?_
 refine Jr (fun y:Nat×Bool×Nat=> mk 30 [(1,Jj nm),(2, .fn (.func 149) [] [.bp (0,s) 0]),(3, .bp (1,nx) 0),(6, .bp (2,nx+1) 0),(10,J8 rs),(11,int rs.length),(12,int y.1)] ⟨[((2,nx+1), .c [int 0,int 0]),((1,nx), .c [int k,int n,Jg x32,J8 rs]),((0,s), .c [Jg y.2.1])], [],y.2.2,3⟩) (fun y=> y.1≤rs.length∧(y.2.1=false→∀j,j < y.1→kS (rs.getD j Ju).name nm=false)∧(y.2.1=true→Jax ⟨(k,n),x32,rs⟩ nm=(k,n))) (fun y=> rs.length - y.1) ?_ ?_
 ·exact ⟨(0,false,nx+2),⟨Nat.zero_le _,fun _ j h=> absurd h (Nat.not_lt_zero _),fun h=> by cases h⟩,Et (pm:= []) (bx:= [((2,nx+1), .c [int 0,int 0]),((1,nx), .c [int k,int n,Jg x32,J8 rs]),((0,s), .c [Jg false])]) rfl rfl Bf trivial ⟨Rf,Rf,Rf,Rf,Rf,Rf,Rf,trivial⟩⟩
 ·rintro ⟨i,m,nx1⟩ ⟨h1,h2,h3⟩
  dsimp only at h1 h2 h3
  refine stp ?_
  intro c g1;cases c
  ·have g1:=Jm g1
   try dsimp only at g1
   have hi:i=rs.length:=by omega
   subst hi
   have hd:Jax ⟨(k,n),x32,rs⟩ nm=(k,n):=by
    cases m with
    | true=> exact h3 rfl
    | false=>
      unfold Jax
      rw [List.find?_eq_none.2 fun r hr=> ?_]
      obtain ⟨j,hj,rfl⟩:=List.mem_iff_getElem.1 hr
      have:=h2 rfl j hj
      rw [show rs.getD j Ju=rs[j] by simp [List.getD,hj]] at this
      rw [this];decide
   refine stp ?_
   refine Jcm rfl ⟨rfl,trivial⟩ ⟨act k n,⟨Jeo s m, [],nx1,1⟩,Rf, ?_,by rw [hd];rfl,m,nx1,rfl⟩
   exact Jp (Jeo s m) [] rfl (.cons _ (.cons _ Sf)) Sf Bf Pf
  ·have g1:=Jl g1
   try dsimp only at g1
   have hi:i < rs.length:=by omega
   generalize hr:rs.getD i Ju=r
   refine stp ?_
   refine ⟨Bd,Jh (b:= .rp [Jj r.name,int r.act.1,int r.act.2,JaU r.conds]) (by rw [← hr];rfl) ?_⟩
   refine stp ?_
   intro c hc
   have hc2:kS r.name nm= !c:=by rw [show c=(r.name.toList !=nm.toList) from hc];unfold kS;rw [bne,Bool.not_not]
   clear hc
   cases c
   ·refine stp ?_
    refine Jh (b:=Jau r) rfl ?_
    refine stp ?_
    refine Jac (xs:= [Jau r, .bp (0,s) 0]) (bx1:=Jeo s m) (pm1:= []) [((3,nx1), .c [Jj r.name,int r.act.1,int r.act.2,JaU r.conds]),((2,nx+1), .c [int 0,int 0]),((1,nx), .c [int k,int n,Jg x32,J8 rs])] [] 4 rfl rfl rfl rfl ⟨Rf,Rf,trivial⟩ (Joe s m r (nx1+1)) Bf Pf rfl fun v h' hq=> ?_
    obtain ⟨rfl,nx2,rfl⟩:=hq
    cases m with
    | true=>
      refine stp ?_
      exact back (i+1,true,nx2) ⟨hi,(fun h=> by cases h),fun _=> h3 rfl⟩ Dm (Je (pm:= []) (bx:= [((2,nx+1), .c [int 0,int 0]),((1,nx), .c [int k,int n,Jg x32,J8 rs]),((0,s), .c [Jg true])]) _ _ rfl rfl (.cons _ Sf) Sf Bf trivial ⟨Rf,Rf,Rf,Rf,Rf,Rf,Lw,trivial⟩)
    | false=>
      have hfnd:rs.find? (fun r=> kS r.name nm)=some r:=by
       have:=Je1 (q:=fun r=> kS r.name nm) hi (h2 rfl) (by rw [hr];exact hc2)
       rw [hr] at this
       exact this
      generalize hd0:decide (r.conds.length=0)=dd
      cases dd with
      | true=>
        have hd:Jax ⟨(k,n),x32,rs⟩ nm=r.act:=by unfold Jax;rw [hfnd];exact if_pos (of_decide_eq_true hd0)
        refine stp ?_
        refine Jcm rfl ⟨rfl,trivial⟩ ⟨JeP r.act,⟨Jeo s true, [],nx2,1⟩,Rf, ?_,by rw [hd],true,nx2,rfl⟩
        exact Jp (Jeo s true) [] rfl (.cons _ (.cons _ (.cons _ Sf))) Sf Bf Pf
      | false=>
        have hd:Jax ⟨(k,n),x32,rs⟩ nm=(k,n):=by unfold Jax;rw [hfnd];exact if_neg (of_decide_eq_false hd0)
        refine stp ?_
        exact back (i+1,true,nx2) ⟨hi,(fun h=> by cases h),fun _=> hd⟩ Dm (Je (pm:= []) (bx:= [((2,nx+1), .c [int 0,int 0]),((1,nx), .c [int k,int n,Jg x32,J8 rs]),((0,s), .c [Jg true])]) _ _ rfl rfl (.cons _ Sf) Sf Bf trivial ⟨Rf,Rf,Rf,Rf,Rf,Rf,Lw,trivial⟩)
   ·refine stp ?_
    exact back (i+1,m,nx1+1) ⟨hi,fun hm j hj=> by dsimp only at hj;rcases Nat.lt_or_ge j i with q | q;exact h2 hm j q;rw [show j=i by omega,hr];exact hc2,h3⟩ Dm (Je (pm:= []) (bx:= [((2,nx+1), .c [int 0,int 0]),((1,nx), .c [int k,int n,Jg x32,J8 rs]),((0,s), .c [Jg m])]) _ _ rfl rfl (.cons _ Sf) Sf Bf trivial ⟨Rf,Rf,Rf,Rf,Rf,Rf,Lw,trivial⟩)
theorem Jqf (p:Pol) (nm:ByteArray) (hl:p.rules.length≤1000000):Tells Tryz.prog 101 [Jar p,Jj nm] (JeP (Jax p nm)):=by
 have hf:=Jof p nm hl
 generalize Jax p nm=a at hf
 obtain ⟨k',n'⟩:=a
 obtain ⟨⟨k,n⟩,x32,rs⟩:=p
 refine Jc Tryz.func101 rfl rfl fun nx=> ?_
 refine stp ?_
 refine JeG (xs:= [Jar ⟨(k,n),x32,rs⟩,Jj nm, .fn (.func 149) [] [.bp (0,nx+2) 0]]) (bx1:= [((2,nx+2), .c [Jg false])]) (pm1:= []) [((1,nx+1), .c [int 0,int 0]),((0,nx), .c [int k,int n,Jg x32,J8 rs])] [] 3 rfl rfl rfl rfl ⟨Rf,Rf,AVle.fn_caps ⟨AVle.bp_nm rfl,trivial⟩,trivial⟩ (hf (nx+2) (nx+3)) ⟨rfl,OwnLe.refl _,trivial⟩ Pf rfl fun v h' hq=> ?_
 obtain ⟨rfl,m,nx2,rfl⟩:=hq
 refine stp ?_
 exact Ji rfl ⟨rfl,trivial⟩ Rf
end Go.Proofs.W

namespace Go.Proofs.W
open Go.Vl
set_option maxRecDepth 100000
def JiJ (l:List TRow):Bool:=decide (l.length≤40)&& !l.any fun r=> decide (60 < r.name.size)
end Go.Proofs.W

namespace Go.Proofs.W
open Go.Vl
set_option maxRecDepth 100000
end Go.Proofs.W

namespace Go.Proofs.W
open Go.Vl
set_option maxRecDepth 100000
end Go.Proofs.W

namespace Go.Proofs.W
open Go.Vl
set_option maxRecDepth 100000
def okN (n:Nat):Bool:=(decide (97≤n)&& decide (n≤122))|| (decide (48≤n)&& decide (n≤57))|| decide (n=95)
theorem JrX:∀n,n < 256→signsB.data.toList.contains (UInt8.ofNat n)=okN n:=by decide+kernel
theorem Jog:∀n,n < 256→lettersB.data.toList.contains (UInt8.ofNat n)=(decide (97≤n)&& decide (n≤122)):=by decide+kernel
theorem JtD (b:UInt8):signsB.data.toList.contains b=okN b.toNat:=by
 have:=JrX b.toNat b.toNat_lt
 rwa [UInt8.ofNat_toNat] at this
theorem Jqg (b:UInt8):lettersB.data.toList.contains b=(decide (97≤b.toNat)&& decide (b.toNat≤122)):=by
 have:=Jog b.toNat b.toNat_lt
 rwa [UInt8.ofNat_toNat] at this
theorem Jht (l:List UInt8):J1 l=true↔l.length≠0∧l.length≤30∧97≤(l.headD 0).toNat∧(l.headD 0).toNat≤122∧l≠Jdz∧l≠JiE∧∀j,j < l.length→okN (l.getD j 0).toNat=true:=by
 unfold J1
 simp only [Bool.and_eq_true,Bool.not_eq_true',beq_eq_false_iff_ne,decide_eq_true_eq,Jqg,List.all_eq_true,JtD]
 constructor
 ·rintro ⟨h1,h2,h3,h4,h5,h6,h7⟩
  refine ⟨fun h=> h1 (List.length_eq_zero_iff.1 h),h4,h6,h7,h2,h3,fun j hj=> ?_⟩
  exact h5 _ (by simp [List.getD,hj])
 ·rintro ⟨h1,h2,h3,h4,h5,h6,h7⟩
  refine ⟨fun h=> h1 (by rw [h];rfl),h5,h6,h2,fun x hx=> ?_,h3,h4⟩
  obtain ⟨j,hj,rfl⟩:=List.getElem_of_mem hx
  have:=h7 j hj
  simpa [List.getD,hj] using this
theorem Jci {l:List UInt8} (h:¬(l.length≠0∧l.length≤30∧97≤(l.headD 0).toNat∧(l.headD 0).toNat≤122∧l≠Jdz∧l≠JiE∧∀j,j < l.length→okN (l.getD j 0).toNat=true)):J1 l=false:=by
 rw [← Jht] at h
 simpa using h
theorem Jfn {n:Nat} (h:(97≤n∧n≤122)∨(48≤n∧n≤57)∨n=95):okN n=true:=by
 unfold okN
 simp only [Bool.or_eq_true,Bool.and_eq_true,decide_eq_true_eq]
 omega
theorem JhY {n:Nat} (h:¬((97≤n∧n≤122)∨(48≤n∧n≤57)∨n=95)):okN n=false:=by
 unfold okN
 simp only [Bool.or_eq_false_iff,Bool.and_eq_false_iff,decide_eq_false_iff_not]
 omega
theorem Jhu (s:ByteArray) (i:Nat):s.data.getD i 0=s.data.toList.getD i 0:=by
 simp [Array.getD_eq_getD_getElem?,List.getD]
theorem JfH (l:List UInt8):l.headD 0=l.getD 0 0:=by cases l <;> rfl
set_option maxHeartbeats 1000000 in
theorem Jin (s:ByteArray):Tells Tryz.prog 75 [Jj s] (Jg (J1 s.data.toList)):=by
 have hsz:s.size=s.data.toList.length:=rfl
 refine Jc Tryz.func75 rfl rfl fun nx=> ?_
 refine stp ?_
 intro c t1;cases c
 rotate_left
 ·have t1:((s.size:Nat):Int)=0:=JP.1 t1
  refine stp ?_
  exact Ja rfl (Jn (Jci (fun h=> h.1 Om)).symm)
 have t1:((s.size:Nat):Int)≠0:=JO.1 t1
 refine stp ?_
 intro c t2;cases c
 rotate_left
 ·have t2:((s.size:Nat):Int) > 30:=Jl t2
  refine stp ?_
  exact Ja rfl (Jn (Jci (fun h=> absurd h.2.1 Om)).symm)
 have t2:¬((s.size:Nat):Int) > 30:=Jm t2
 refine stp ?_
 refine ⟨⟨by decide,by show (0:Int) < (s.size:Int);omega⟩, ?_⟩
 refine stp ?_
 intro c t3;cases c
 rotate_left
 ·have t3:(((s.data.getD 0 0).toNat:Nat):Int) < 97:=Jl t3
  rw [Jhu,← JfH] at t3
  refine stp ?_
  exact Ja rfl (Jn (Jci (fun h=> absurd h.2.2.1 Om)).symm)
 have t3:¬(((s.data.getD 0 0).toNat:Nat):Int) < 97:=Jm t3
 rw [Jhu,← JfH] at t3
 refine stp ?_
 refine ⟨⟨by decide,by show (0:Int) < (s.size:Int);omega⟩, ?_⟩
 refine stp ?_
 intro c t4;cases c
 rotate_left
 ·have t4:(((s.data.getD 0 0).toNat:Nat):Int) > 122:=Jl t4
  rw [Jhu,← JfH] at t4
  refine stp ?_
  exact Ja rfl (Jn (Jci (fun h=> absurd h.2.2.2.1 Om)).symm)
 have t4:¬(((s.data.getD 0 0).toNat:Nat):Int) > 122:=Jm t4
 rw [Jhu,← JfH] at t4
 refine stp ?_
 intro c t5
 rw [Lib.toList_data,Lib.toList_data] at t5
 cases c
 rotate_left
 ·have t5:s.data.toList=Jdz:=beq_iff_eq.1 t5.symm
  refine stp ?_
  exact Ja rfl (Jn (Jci (fun h=> h.2.2.2.2.1 t5)).symm)
 have t5:¬s.data.toList=Jdz:=beq_eq_false_iff_ne.1 t5.symm
 refine stp ?_
 intro c t6
 rw [Lib.toList_data,Lib.toList_data] at t6
 cases c
 rotate_left
 ·have t6:s.data.toList=JiE:=beq_iff_eq.1 t6.symm
  refine stp ?_
  exact Ja rfl (Jn (Jci (fun h=> h.2.2.2.2.2.1 t6)).symm)
 have t6:¬s.data.toList=JiE:=beq_eq_false_iff_ne.1 t6.symm
 refine stp ?_
 refine Jr (fun y:Nat×Nat=> mk 59 [(0,Jj s),(3,int y.1)] ⟨[], [],y.2,0⟩) (fun y=> y.1≤s.size∧∀j,j < y.1→okN (s.data.toList.getD j 0).toNat=true) (fun y=> s.size - y.1) ?_ ?_
 ·exact ⟨(0,nx),⟨Nat.zero_le _,fun j h=> absurd h (Nat.not_lt_zero _)⟩,JH rfl rfl ⟨Rf,Rf,trivial⟩⟩
 ·rintro ⟨i,nx2⟩ ⟨h3,h4⟩
  dsimp only at h3 h4
  refine stp ?_
  intro c g;cases c
  ·have g:¬((i:Nat):Int) < ((s.size:Nat):Int):=Jm g
   obtain rfl:i=s.size:=by omega
   have:J1 s.data.toList=true:=(Jht _).2 ⟨by omega,by omega,by omega,by omega,t5,t6,h4⟩
   rw [this]
   refine stp ?_
   exact Ja rfl Rf
  ·have g:((i:Nat):Int) < ((s.size:Nat):Int):=Jl g
   have hbad:okN (s.data.toList.getD i 0).toNat=false→false=J1 s.data.toList:=fun h=> (Jci (fun hh=> by have:=hh.2.2.2.2.2.2 i Om;rw [h] at this;cases this)).symm
   refine stp ?_
   refine ⟨⟨by dsimp only;omega,by dsimp only;omega⟩, ?_⟩
   have hgood:okN (s.data.toList.getD i 0).toNat=true→∀j,j < i+1→okN (s.data.toList.getD j 0).toNat=true:=fun h j hj=> by
    rcases Nat.lt_or_ge j i with h1 | h1
    ·exact h4 j h1
    ·obtain rfl:j=i:=by omega
     exact h
   have hval:(((s.data.getD i 0).toNat:Nat):Int)=(((s.data.toList.getD i 0).toNat:Nat):Int):=by rw [Jhu]
   generalize (s.data.toList.getD i 0).toNat=n at hbad hgood hval
   refine stp ?_
   intro c u1
   have u1:c=decide ((n:Int)≥97):=u1.trans (by rw [← hval];rfl)
   cases c
   ·have u1:¬(n:Int)≥97:=Jm u1
    refine stp ?_
    intro c u3
    have u3:c=decide ((n:Int)≥48):=u3.trans (by rw [← hval];rfl)
    cases c
    ·have u3:¬(n:Int)≥48:=Jm u3
     refine stp ?_
     intro c u5
     have u5:c=((n:Int) ==95):=u5.trans (by rw [← hval];rfl)
     cases c
     ·have u5:(n:Int)≠95:=JO.1 u5
      refine stp ?_
      exact Ja rfl (Jn (hbad (JhY Om)))
     ·have u5:(n:Int)=95:=JP.1 u5
      refine stp ?_
      refine back (i+1,nx2) ⟨by dsimp only;omega,hgood (Jfn Om)⟩ Dm (JH rfl rfl ⟨Rf,Jd (Jk Dm),trivial⟩)
    ·have u3:(n:Int)≥48:=Jl u3
     refine stp ?_
     intro c u4
     have u4:c=decide ((n:Int)≤57):=u4.trans (by rw [← hval];rfl)
     cases c
     ·have u4:¬(n:Int)≤57:=Jm u4
      refine stp ?_
      intro c u5
      have u5:c=((n:Int) ==95):=u5.trans (by rw [← hval];rfl)
      cases c
      ·have u5:(n:Int)≠95:=JO.1 u5
       refine stp ?_
       exact Ja rfl (Jn (hbad (JhY Om)))
      ·have u5:(n:Int)=95:=JP.1 u5
       refine stp ?_
       refine back (i+1,nx2) ⟨by dsimp only;omega,hgood (Jfn Om)⟩ Dm (JH rfl rfl ⟨Rf,Jd (Jk Dm),trivial⟩)
     ·have u4:(n:Int)≤57:=Jl u4
      refine stp ?_
      refine back (i+1,nx2) ⟨by dsimp only;omega,hgood (Jfn Om)⟩ Dm (JH rfl rfl ⟨Rf,Jd (Jk Dm),trivial⟩)
   ·have u1:(n:Int)≥97:=Jl u1
    refine stp ?_
    intro c u2
    have u2:c=decide ((n:Int)≤122):=u2.trans (by rw [← hval];rfl)
    cases c
    ·have u2:¬(n:Int)≤122:=Jm u2
     refine stp ?_
     intro c u3
     have u3:c=decide ((n:Int)≥48):=u3.trans (by rw [← hval];rfl)
     cases c
     ·have u3:¬(n:Int)≥48:=Jm u3
      refine stp ?_
      intro c u5
      have u5:c=((n:Int) ==95):=u5.trans (by rw [← hval];rfl)
      cases c
      ·have u5:(n:Int)≠95:=JO.1 u5
       refine stp ?_
       exact Ja rfl (Jn (hbad (JhY Om)))
      ·have u5:(n:Int)=95:=JP.1 u5
       refine stp ?_
       refine back (i+1,nx2) ⟨by dsimp only;omega,hgood (Jfn Om)⟩ Dm (JH rfl rfl ⟨Rf,Jd (Jk Dm),trivial⟩)
     ·have u3:(n:Int)≥48:=Jl u3
      refine stp ?_
      intro c u4
      have u4:c=decide ((n:Int)≤57):=u4.trans (by rw [← hval];rfl)
      cases c
      ·have u4:¬(n:Int)≤57:=Jm u4
       refine stp ?_
       intro c u5
       have u5:c=((n:Int) ==95):=u5.trans (by rw [← hval];rfl)
       cases c
       ·have u5:(n:Int)≠95:=JO.1 u5
        refine stp ?_
        exact Ja rfl (Jn (hbad (JhY Om)))
       ·have u5:(n:Int)=95:=JP.1 u5
        refine stp ?_
        refine back (i+1,nx2) ⟨by dsimp only;omega,hgood (Jfn Om)⟩ Dm (JH rfl rfl ⟨Rf,Jd (Jk Dm),trivial⟩)
      ·have u4:(n:Int)≤57:=Jl u4
       refine stp ?_
       refine back (i+1,nx2) ⟨by dsimp only;omega,hgood (Jfn Om)⟩ Dm (JH rfl rfl ⟨Rf,Jd (Jk Dm),trivial⟩)
    ·have u2:(n:Int)≤122:=Jl u2
     refine stp ?_
     refine back (i+1,nx2) ⟨by dsimp only;omega,hgood (Jfn Om)⟩ Dm (JH rfl rfl ⟨Rf,Jd (Jk Dm),trivial⟩)
end Go.Proofs.W

namespace Go.Proofs.W
open Go.Vl
set_option maxRecDepth 100000
theorem Jio (k n:Int):Tells Tryz.prog 33 [act k n] (Jg (J2 k n)):=by
 refine Jc Tryz.func33 rfl rfl fun nx=> ?_
 refine stp ?_
 (refine Jy 21 ?_ ?_ ?_ ?_;(· kernel_rfl);(· kernel_rfl);(· kernel_rfl))
 refine stp ?_
 intro c h1;cases c
 ·refine stp ?_
  refine Ja rfl (Jn ?_)
  simp at h1;simp [J2];omega
 refine stp ?_
 intro c h2;cases c
 ·refine stp ?_
  refine Ja rfl (Jn ?_)
  simp at h1 h2;simp [J2];omega
 refine stp ?_
 intro c h3;cases c
 ·refine stp ?_
  refine Ja rfl (Jn ?_)
  simp at h1 h2 h3;simp [J2];omega
 refine stp ?_
 refine Jb9 (JaG rfl rfl (JpB k) ⟨Rf,trivial⟩ (NoId.v _)) ?_
 intro c h4;cases c
 ·refine stp ?_
  refine Ja rfl (Jn ?_)
  simp at h1 h2 h3 h4;simp [J2];omega
 refine stp ?_
 refine Ja rfl (Jn ?_)
 simp at h1 h2 h3 h4;simp [J2];omega
theorem Joh (s:ByteArray):Tells Tryz.prog 34 [Jj s] (Jg (J1 s.data.toList)):=by
 have h:=Jin s
 generalize J1 s.data.toList=b at h⊢
 refine Jc Tryz.func34 rfl rfl fun nx=> ?_
 refine stp ?_
 refine Jb rfl rfl h ⟨Rf,trivial⟩ fun nx1=> ?_
 intro c hc
 refine stp ?_
 exact Ja rfl (Jn hc)
theorem JrY {l:List Rul} {i:Nat} (hi:i < l.length) (h:JaZ (l.getD i Ju)=false):(l.any fun r=> !JaZ r)=true:=by
 rw [List.any_eq_true]
 exact ⟨l.getD i Ju,by simp [List.getD,hi],by rw [h];rfl⟩
theorem JtE {l:List Rul} (h:∀j,j < l.length→JaZ (l.getD j Ju)=true):(l.any fun r=> !JaZ r)=false:=by
 rw [List.any_eq_false]
 intro r hr
 obtain ⟨j,hj,rfl⟩:=List.getElem_of_mem hr
 have:=h j hj
 rw [List.getD_eq_getElem?_getD,List.getElem?_eq_getElem hj] at this
 simp at this
 simp [this]
theorem Jqh {l:List Cnd} {i:Nat} (hi:i < l.length) (h:Jaf (l.getD i cnd0)=false):(l.any fun c=> !Jaf c)=true:=by
 rw [List.any_eq_true]
 exact ⟨l.getD i cnd0,by simp [List.getD,hi],by rw [h];rfl⟩
theorem JrZ {l:List Cnd} (h:∀j,j < l.length→Jaf (l.getD j cnd0)=true):(l.any fun c=> !Jaf c)=false:=by
 rw [List.any_eq_false]
 intro r hr
 obtain ⟨j,hj,rfl⟩:=List.getElem_of_mem hr
 have:=h j hj
 rw [List.getD_eq_getElem?_getD,List.getElem?_eq_getElem hj] at this
 simp at this
 simp [this]
set_option maxHeartbeats 2000000 in
theorem Jm6 (p:Pol):Tells Tryz.prog 13 [Jar p] (Jg (Jaw p)):=by
 have hd:=Jio p.dflt.1 p.dflt.2
 have hP:Jaw p=(J2 p.dflt.1 p.dflt.2&& (decide (p.rules.length≤500)&& !(p.rules.any fun r=> !JaZ r))):=rfl
 generalize Jaw p=R at hP⊢
 generalize J2 p.dflt.1 p.dflt.2=b0 at hd hP
 obtain ⟨⟨k,n⟩,x,rs⟩:=p
 dsimp only at hP hd
 refine Jc Tryz.func13 rfl rfl fun nx=> ?_
 refine stp ?_
 refine Jb rfl rfl hd ⟨Rf,trivial⟩ fun nx1=> ?_
 cases b0
 ·refine stp ?_
  exact Ja rfl (Jn (by rw [hP];rfl))
 refine stp ?_
 intro c g1;cases c
 rotate_left
 ·have g1:((rs.length:Nat):Int) > 500:=Jl g1
  refine stp ?_
  exact Ja rfl (Jn (by rw [hP,decide_eq_false Om];rfl))
 have g1:¬((rs.length:Nat):Int) > 500:=Jm g1
 have h500:rs.length≤500:=by omega
 rw [decide_eq_true h500,Bool.true_and,Bool.true_and] at hP
 refine stp ?_
 refine Jr (fun s:Nat×Nat=> mk 58 [(1, .bp (0,nx) 0),(3,int s.1)] ⟨[((0,nx), .c [int k,int n,Jg x,J8 rs])], [],s.2,1⟩) (fun s=> s.1≤rs.length∧∀j,j < s.1→JaZ (rs.getD j Ju)=true) (fun s=> rs.length - s.1) ?_ ?_
 ·exact ⟨(0,nx1),⟨Nat.zero_le _,fun j h=> absurd h (Nat.not_lt_zero _)⟩,Je (pm:= []) _ [] rfl rfl Sf Sf ⟨rfl,OwnLe.refl _,trivial⟩ trivial ⟨Rf,Rf,trivial⟩⟩
 ·rintro ⟨i,nx2⟩ ⟨h3,h4⟩
  dsimp only at h3 h4
  refine stp ?_
  intro c h5;cases c
  ·have h6:¬((i:Nat):Int) < ((rs.length:Nat):Int):=Jm h5
   obtain rfl:i=rs.length:=by omega
   refine stp ?_
   exact Ja rfl (Jn (by rw [hP,JtE h4];rfl))
  ·have h6:((i:Nat):Int) < ((rs.length:Nat):Int):=Jl h5
   have hi:i < rs.length:=by omega
   have hbad:JaZ (rs.getD i Ju)=false→false=R:=fun h=> by rw [hP,JrY hi h];rfl
   have hR:JaZ (rs.getD i Ju)=(J1 (rs.getD i Ju).name.data.toList&& (J2 (rs.getD i Ju).act.1 (rs.getD i Ju).act.2&& (decide ((rs.getD i Ju).conds.length≤6)&& !((rs.getD i Ju).conds.any fun c=> !Jaf c)))):=rfl
   have hn:=Joh (rs.getD i Ju).name
   have ha:=Jio (rs.getD i Ju).act.1 (rs.getD i Ju).act.2
   generalize J1 (rs.getD i Ju).name.data.toList=b1 at hn hR
   generalize J2 (rs.getD i Ju).act.1 (rs.getD i Ju).act.2=b2 at ha hR
   refine stp ?_
   refine ⟨⟨by dsimp only;omega,by dsimp only;omega⟩, ?_⟩
   refine stp ?_
   refine Jb rfl rfl hn ⟨Rf,trivial⟩ fun nx3=> ?_
   cases b1
   ·refine stp ?_
    exact Ja rfl (Jn (hbad (by rw [hR];rfl)))
   refine stp ?_
   refine Jb rfl rfl ha ⟨Rf,trivial⟩ fun nx4=> ?_
   cases b2
   ·refine stp ?_
    exact Ja rfl (Jn (hbad (by rw [hR];rfl)))
   refine stp ?_
   intro c g2;cases c
   rotate_left
   ·have g2:(((rs.getD i Ju).conds.length:Nat):Int) > 6:=Jl g2
    refine stp ?_
    exact Ja rfl (Jn (hbad (by rw [hR,decide_eq_false Om];rfl)))
   have g2:¬(((rs.getD i Ju).conds.length:Nat):Int) > 6:=Jm g2
   rw [decide_eq_true (show (rs.getD i Ju).conds.length≤6 by omega),Bool.true_and,Bool.true_and,Bool.true_and] at hR
   refine stp ?_
   refine Jr (fun s:Nat×Nat=> mk 58 [(1, .bp (0,nx) 0),(3,int i),(4, .bp (1,nx2) 0),(5,int s.1)] ⟨[((1,nx2), .c [Jj (rs.getD i Ju).name,int (rs.getD i Ju).act.1,int (rs.getD i Ju).act.2,JaU (rs.getD i Ju).conds]),((0,nx), .c [int k,int n,Jg x,J8 rs])], [],s.2,2⟩) (fun s=> s.1≤(rs.getD i Ju).conds.length∧∀j,j < s.1→Jaf ((rs.getD i Ju).conds.getD j cnd0)=true) (fun s=> (rs.getD i Ju).conds.length - s.1) ?_ ?_
   ·exact ⟨(0,nx4),⟨Nat.zero_le _,fun j h=> absurd h (Nat.not_lt_zero _)⟩,Je (pm:= []) _ [] rfl rfl Sf Sf ⟨rfl,OwnLe.refl _,rfl,OwnLe.refl _,trivial⟩ trivial ⟨Rf,Rf,Rf,Rf,trivial⟩⟩
   ·rintro ⟨j,nx5⟩ ⟨h7,h8⟩
    dsimp only at h7 h8
    refine stp ?_
    intro c h9;cases c
    ·have h9:¬((j:Nat):Int) < (((rs.getD i Ju).conds.length:Nat):Int):=Jm h9
     have hj:j=(rs.getD i Ju).conds.length:=by omega
     have hgood:JaZ (rs.getD i Ju)=true:=by rw [hR,JrZ (fun q hq=> h8 q Om)];rfl
     refine stp ?_
     refine back (i+1,nx5) ⟨by first | omega | (dsimp only;omega),fun q hq=> ?_⟩ Dm (Je (pm:= []) _ [] rfl rfl (.cons _ Sf) Sf ⟨rfl,OwnLe.refl _,trivial⟩ trivial ⟨Rf,Lw,trivial⟩)
     dsimp only at hq
     rcases Nat.lt_or_ge q i with h | h
     ·exact h4 q h
     ·obtain rfl:q=i:=by omega
      exact hgood
    ·have h9:((j:Nat):Int) < (((rs.getD i Ju).conds.length:Nat):Int):=Jl h9
     have hj:j < (rs.getD i Ju).conds.length:=by omega
     have hbc:Jaf ((rs.getD i Ju).conds.getD j cnd0)=false→false=R:=fun h=> hbad (by rw [hR,Jqh hj h];rfl)
     have hgc:Jaf ((rs.getD i Ju).conds.getD j cnd0)=true→∀q,q < j+1→Jaf ((rs.getD i Ju).conds.getD q cnd0)=true:=fun h q hq=> by
      rcases Nat.lt_or_ge q j with h1 | h1
      ·exact h8 q h1
      ·obtain rfl:q=j:=by omega
       exact h
     have hc:=JmC ((rs.getD i Ju).conds.getD j cnd0)
     generalize Jaf ((rs.getD i Ju).conds.getD j cnd0)=b3 at hc hbc hgc
     refine stp ?_
     refine ⟨⟨by dsimp only;omega,by dsimp only;omega⟩, ?_⟩
     refine stp ?_
     refine Jb rfl rfl hc ⟨Rf,trivial⟩ fun nx6=> ?_
     cases b3
     ·refine stp ?_
      exact Ja rfl (Jn (hbc rfl))
     ·refine stp ?_
      exact back (j+1,nx6) ⟨by dsimp only;omega,hgc rfl⟩ Dm (Je (pm:= []) _ [] rfl rfl Sf Sf ⟨rfl,OwnLe.refl _,rfl,OwnLe.refl _,trivial⟩ trivial ⟨Rf,Rf,Rf,Jd (Jk Dm),trivial⟩)
end Go.Proofs.W

namespace Go.Proofs.W
open Go.Vl
set_option maxRecDepth 100000
end Go.Proofs.W

namespace Go.Proofs.W
open Go.Vl
set_option maxRecDepth 100000
theorem JwF (n:Nat):decide (n&&& 1073741824≠0)=decide (n / 1073741824 % 2=1):=by
 have hlo:n % 1073741824 < 2 ^ 30:=Nat.mod_lt _ Dc
 have e1:n=2 ^ 30 * (n / 1073741824)+n % 1073741824:=by have:=Nat.div_add_mod n 1073741824;show n=1073741824 * _+_;omega
 have hs:=Jk1 (c:=n / 1073741824) (lo:=n % 1073741824) (d:=1) (m:=0) (i:=30) hlo Dc
 rw [← e1,Nat.and_one_is_mod,Nat.and_zero,show (2 ^ 30 * 1+0:Nat)=1073741824 by decide] at hs
 rw [hs]
 have:n / 1073741824 % 2=0∨n / 1073741824 % 2=1:=by omega
 rcases this with q | q <;> rw [q] <;> decide
theorem JtF (n:Nat):Jbv n=(decide (n≠4294967295)&& decide (n / 1073741824 % 2=1)):=by
 unfold Jbv;rw [JwF,Bool.and_comm]
theorem Juk {n:Nat} (h:n < 4294967296):(IntKind.u32.wrap ((n:Int).tdiv 1073741824)).tmod 2=((n / 1073741824 % 2:Nat):Int):=by
 have e:(n:Int).tdiv 1073741824=((n / 1073741824:Nat):Int):=(Int.ofNat_tdiv n 1073741824).symm
 rw [e]
 have e2:IntKind.u32.wrap ((n / 1073741824:Nat):Int)=((n / 1073741824:Nat):Int):=by
  have:n / 1073741824 < 4:=by omega
  simp [IntKind.wrap,IntKind.signed,IntKind.bits];omega
 rw [e2]
 exact (Int.ofNat_tmod (n / 1073741824) 2).symm
def Ja8 (arch num:Nat):Int:=match JcG arch num with
 | some a=> a
 | none=> -1
theorem JwG (num:Nat):Ja8 1073741827 num=2:=by unfold Ja8 JcG;cases Jbv num <;> rfl
theorem JwH (num:Nat):Ja8 3221225655 num=3:=by unfold Ja8 JcG;cases Jbv num <;> rfl
theorem JwI (num:Nat):Ja8 3221225715 num=4:=by unfold Ja8 JcG;cases Jbv num <;> rfl
theorem JvS (num:Nat):Ja8 3221225534 num=if Jbv num then 1 else 0:=by unfold Ja8 JcG;cases Jbv num <;> rfl
theorem JwJ {arch num:Nat} (h2:arch≠1073741827) (h3:arch≠3221225655) (h4:arch≠3221225715) (h0:arch≠3221225534):Ja8 arch num=-1:=by
 unfold Ja8 JcG
 have:infN.find? (Jcg arch (Jbv num))=none:=by
  refine List.find?_eq_none.2 fun x hx=> ?_
  unfold infN at hx
  simp only [List.mem_cons,List.not_mem_nil,or_false] at hx
  rw [Bool.not_eq_true]
  unfold Jcg
  rw [Bool.and_eq_false_iff]
  left
  rw [decide_eq_false_iff_not]
  rcases hx with rfl | rfl | rfl | rfl | rfl <;> (intro e;exact absurd e.symm (by assumption))
 rw [this];rfl
theorem Jlv (arch num:Nat) (ha:arch < 4294967296) (hn:num < 4294967296):Tells Tryz.prog 79 [u32 arch,u32 num] (int (Ja8 arch num)):=by
 by_cases h2:arch=1073741827
 ·subst h2
  rw [JwG]
  refine Jc Tryz.func79 rfl rfl fun nx=> ?_
  refine stp ?_
  exact Ja rfl Rf
 by_cases h3:arch=3221225655
 ·subst h3
  rw [JwH]
  refine Jc Tryz.func79 rfl rfl fun nx=> ?_
  refine stp ?_
  exact Ja rfl Rf
 by_cases h4:arch=3221225715
 ·subst h4
  rw [JwI]
  refine Jc Tryz.func79 rfl rfl fun nx=> ?_
  refine stp ?_
  exact Ja rfl Rf
 by_cases h0:arch=3221225534
 ·subst h0
  rw [JvS,JtF]
  refine Jc Tryz.func79 rfl rfl fun nx=> ?_
  refine stp ?_
  intro c hc
  have hc2:c=decide (num≠4294967295):=by rw [hc,Bool.eq_iff_iff];simp;omega
  clear hc
  rw [← hc2]
  clear hc2
  cases c
  ·refine stp ?_
   exact Ja rfl Rf
  ·refine stp ?_
   intro c hc
   have hc2:c=decide (num / 1073741824 % 2=1):=by rw [hc,Juk hn,Bool.eq_iff_iff];simp;omega
   clear hc
   rw [← hc2]
   clear hc2
   cases c
   all_goals
    refine stp ?_
    exact Ja rfl Rf
 ·rw [JwJ h2 h3 h4 h0]
  refine Jc Tryz.func79 rfl rfl fun nx=> ?_
  refine stp ?_
  intro c hc
  obtain rfl:c=false:=hc.trans (by simp;omega)
  refine stp ?_
  intro c hc
  obtain rfl:c=false:=hc.trans (by simp;omega)
  refine stp ?_
  intro c hc
  obtain rfl:c=false:=hc.trans (by simp;omega)
  refine stp ?_
  intro c hc
  obtain rfl:c=false:=hc.trans (by simp;omega)
  refine stp ?_
  exact Ja rfl Rf
theorem Jlw (a num:Nat) (hn:num < 4294967296):Tells Tryz.prog 82 [int a,u32 num] (u32 (JcF a num)):=by
 unfold JcF
 by_cases h:a=1
 ·subst h
  refine Jc Tryz.func82 rfl rfl fun nx=> ?_
  refine stp ?_
  intro c hc
  have hc2:c=decide (num / 1073741824 % 2=1):=by rw [hc,Juk hn,Bool.eq_iff_iff];simp;omega
  clear hc
  cases c
  ·rw [if_neg (fun q=> by rw [decide_eq_true q.2] at hc2;cases hc2)]
   refine stp ?_
   exact Ja rfl Rf
  ·have q:num / 1073741824 % 2=1:=of_decide_eq_true hc2.symm
   rw [if_pos ⟨rfl,q⟩]
   clear hc2
   refine stp ?_
   refine Ja rfl (AVle.of_eq (congrArg u32 ?_))
   show IntKind.u32.wrap ((num:Int) - 1073741824)=_
   have h1:1073741824≤num:=by omega
   simp [IntKind.wrap,IntKind.signed,IntKind.bits];omega
 ·rw [if_neg (fun q=> h q.1)]
  refine Jc Tryz.func82 rfl rfl fun nx=> ?_
  refine stp ?_
  intro c hc
  obtain rfl:c=false:=hc.trans (by simp;omega)
  refine stp ?_
  exact Ja rfl Rf
theorem Jlx (a:Int) (x:Nat) (hx:x < 18446744073709551616):Tells Tryz.prog 85 [int a,u64 (x:Nat)] (u64 ((if a=2 then x % 4294967296 else x:Nat):Nat)):=by
 refine Jc Tryz.func85 rfl rfl fun nx=> ?_
 refine stp ?_
 intro c t;cases c
 ·have t:¬a=2:=by simpa using t
  rw [if_neg t]
  refine stp ?_
  exact Ja rfl Rf
 ·have t:a=2:=by simpa using t
  rw [if_pos t]
  refine stp ?_
  refine Ja rfl (AVle.of_eq (congrArg u64 ?_))
  exact (Int.ofNat_tmod x 4294967296).symm
end Go.Proofs.W

namespace Go.Proofs.W
open Go.Vl
set_option maxRecDepth 100000
theorem JK:Tryz.prog.cellsOf 3=1:=by kernel_rfl
def Jqi (r:TRow) (a i:Nat):Int:=if 0≤r.num a then r.num a else -1 - (i:Int)
theorem Jly (l:List TRow) (a i:Nat) (ha:a < 5) (hi:i < l.length) (hl:l.length≤1000000):Tells Tryz.prog 133 [Js l,int a,int i] (int (Jqi (l.getD i Jf) a i)):=by
 unfold Jqi
 refine Jc Tryz.func133 rfl rfl fun nx=> ?_
 rcases (by omega:a=0∨a=1∨a=2∨a=3∨a=4) with rfl | rfl | rfl | rfl | rfl
 ·refine stp ?_
  refine ⟨Bd, ?_⟩
  refine stp ?_
  refine ⟨⟨by decide,by decide,by rw [JK];exact Nat.le_of_ble_eq_true rfl⟩,Jh (b:= .rp (List.drop (1+0) (Jad (l.getD i Jf)))) (congrArg AV.rp (by rw [JK];rfl)) ?_⟩
  refine stp ?_
  intro c t;cases c
  ·have t:=Jm t
   try dsimp only at t
   rw [if_neg (show ¬0≤(l.getD i Jf).num 0 by show ¬0≤(l.getD i Jf).a0;omega)]
   refine stp ?_
   refine Ja rfl (Jd (Jq Om Om))
  ·have t:=Jl t
   try dsimp only at t
   rw [if_pos (show 0≤(l.getD i Jf).num 0 by show 0≤(l.getD i Jf).a0;omega)]
   refine stp ?_
   refine ⟨Bd, ?_⟩
   refine stp ?_
   refine ⟨⟨by decide,by decide,by rw [JK];exact Nat.le_of_ble_eq_true rfl⟩,Jh (b:= .rp (List.drop (1+0) (Jad (l.getD i Jf)))) (congrArg AV.rp (by rw [JK];rfl)) ?_⟩
   refine stp ?_
   exact Ja rfl Rf
 ·refine stp ?_
  refine ⟨Bd, ?_⟩
  refine stp ?_
  refine ⟨⟨by decide,by decide,by rw [JK];exact Nat.le_of_ble_eq_true rfl⟩,Jh (b:= .rp (List.drop (1+1) (Jad (l.getD i Jf)))) (congrArg AV.rp (by rw [JK];rfl)) ?_⟩
  refine stp ?_
  intro c t;cases c
  ·have t:=Jm t
   try dsimp only at t
   rw [if_neg (show ¬0≤(l.getD i Jf).num 1 by show ¬0≤(l.getD i Jf).a1;omega)]
   refine stp ?_
   refine Ja rfl (Jd (Jq Om Om))
  ·have t:=Jl t
   try dsimp only at t
   rw [if_pos (show 0≤(l.getD i Jf).num 1 by show 0≤(l.getD i Jf).a1;omega)]
   refine stp ?_
   refine ⟨Bd, ?_⟩
   refine stp ?_
   refine ⟨⟨by decide,by decide,by rw [JK];exact Nat.le_of_ble_eq_true rfl⟩,Jh (b:= .rp (List.drop (1+1) (Jad (l.getD i Jf)))) (congrArg AV.rp (by rw [JK];rfl)) ?_⟩
   refine stp ?_
   exact Ja rfl Rf
 ·refine stp ?_
  refine ⟨Bd, ?_⟩
  refine stp ?_
  refine ⟨⟨by decide,by decide,by rw [JK];exact Nat.le_of_ble_eq_true rfl⟩,Jh (b:= .rp (List.drop (1+2) (Jad (l.getD i Jf)))) (congrArg AV.rp (by rw [JK];rfl)) ?_⟩
  refine stp ?_
  intro c t;cases c
  ·have t:=Jm t
   try dsimp only at t
   rw [if_neg (show ¬0≤(l.getD i Jf).num 2 by show ¬0≤(l.getD i Jf).a2;omega)]
   refine stp ?_
   refine Ja rfl (Jd (Jq Om Om))
  ·have t:=Jl t
   try dsimp only at t
   rw [if_pos (show 0≤(l.getD i Jf).num 2 by show 0≤(l.getD i Jf).a2;omega)]
   refine stp ?_
   refine ⟨Bd, ?_⟩
   refine stp ?_
   refine ⟨⟨by decide,by decide,by rw [JK];exact Nat.le_of_ble_eq_true rfl⟩,Jh (b:= .rp (List.drop (1+2) (Jad (l.getD i Jf)))) (congrArg AV.rp (by rw [JK];rfl)) ?_⟩
   refine stp ?_
   exact Ja rfl Rf
 ·refine stp ?_
  refine ⟨Bd, ?_⟩
  refine stp ?_
  refine ⟨⟨by decide,by decide,by rw [JK];exact Nat.le_of_ble_eq_true rfl⟩,Jh (b:= .rp (List.drop (1+3) (Jad (l.getD i Jf)))) (congrArg AV.rp (by rw [JK];rfl)) ?_⟩
  refine stp ?_
  intro c t;cases c
  ·have t:=Jm t
   try dsimp only at t
   rw [if_neg (show ¬0≤(l.getD i Jf).num 3 by show ¬0≤(l.getD i Jf).a3;omega)]
   refine stp ?_
   refine Ja rfl (Jd (Jq Om Om))
  ·have t:=Jl t
   try dsimp only at t
   rw [if_pos (show 0≤(l.getD i Jf).num 3 by show 0≤(l.getD i Jf).a3;omega)]
   refine stp ?_
   refine ⟨Bd, ?_⟩
   refine stp ?_
   refine ⟨⟨by decide,by decide,by rw [JK];exact Nat.le_of_ble_eq_true rfl⟩,Jh (b:= .rp (List.drop (1+3) (Jad (l.getD i Jf)))) (congrArg AV.rp (by rw [JK];rfl)) ?_⟩
   refine stp ?_
   exact Ja rfl Rf
 ·refine stp ?_
  refine ⟨Bd, ?_⟩
  refine stp ?_
  refine ⟨⟨by decide,by decide,by rw [JK];exact Nat.le_of_ble_eq_true rfl⟩,Jh (b:= .rp (List.drop (1+4) (Jad (l.getD i Jf)))) (congrArg AV.rp (by rw [JK];rfl)) ?_⟩
  refine stp ?_
  intro c t;cases c
  ·have t:=Jm t
   try dsimp only at t
   rw [if_neg (show ¬0≤(l.getD i Jf).num 4 by show ¬0≤(l.getD i Jf).a4;omega)]
   refine stp ?_
   refine Ja rfl (Jd (Jq Om Om))
  ·have t:=Jl t
   try dsimp only at t
   rw [if_pos (show 0≤(l.getD i Jf).num 4 by show 0≤(l.getD i Jf).a4;omega)]
   refine stp ?_
   refine ⟨Bd, ?_⟩
   refine stp ?_
   refine ⟨⟨by decide,by decide,by rw [JK];exact Nat.le_of_ble_eq_true rfl⟩,Jh (b:= .rp (List.drop (1+4) (Jad (l.getD i Jf)))) (congrArg AV.rp (by rw [JK];rfl)) ?_⟩
   refine stp ?_
   exact Ja rfl Rf
end Go.Proofs.W

namespace Go.Proofs.W
open Go.Vl
set_option maxRecDepth 100000
theorem JuV {r:TRow} {a i:Nat} {n:Int} (hn:0≤n):(Jqi r a i ==n)=JbV a n r:=by
 unfold Jqi JbV
 rw [Bool.eq_iff_iff]
 simp only [beq_iff_eq,decide_eq_true_eq]
 split
 ·exact Iff.rfl
 ·constructor
  ·intro h;omega
  ·intro h;omega
theorem Jm7 (l:List TRow) (a:Nat) (ha:a < 5) (n:Int) (hn:0≤n) (hl:l.length≤1000000):Tells Tryz.prog 81 [Js l,int a,int n] (int (JaV (l.findIdx? (JbV a n)))):=by
 refine Jc Tryz.func81 rfl rfl fun nx=> ?_
 refine stp ?_
 refine Jr (fun s:Nat×Nat=> mk 21 [(0,Js l),(1,int a),(2,int n),(7,int s.1)] ⟨[], [],s.2,0⟩) (fun s=> s.1≤l.length∧∀j,j < s.1→JbV a n (l.getD j Jf)=false) (fun s=> l.length - s.1) ?_ ?_
 ·exact ⟨(0,nx),⟨Nat.zero_le _,fun j hj=> absurd hj (Nat.not_lt_zero j)⟩,JH rfl rfl ⟨Rf,Rf,Rf,Rf,trivial⟩⟩
 ·rintro ⟨i,nx2⟩ ⟨h3,h4⟩
  dsimp only at h3 h4
  refine stp ?_
  intro c h5;cases c
  ·have h6:=Jm h5
   dsimp only at h6
   obtain rfl:i=l.length:=by omega
   refine stp ?_
   refine Ja rfl (Jd ?_)
   rw [JcE Jf h4];rfl
  ·have h6:=Jl h5
   dsimp only at h6
   have hi:i < l.length:=by omega
   have hnum:=Jly l a i ha hi hl
   refine stp ?_
   refine Jb rfl rfl hnum ⟨Rf,Rf,Rf,trivial⟩ fun nx3=> ?_
   refine stp ?_
   intro c hc
   have hc2:c=JbV a n (l.getD i Jf):=hc.trans (JuV hn)
   clear hc
   cases c
   ·refine stp ?_
    exact back (i+1,nx3) ⟨hi,fun j hj=> by dsimp only at hj;rcases Nat.lt_or_ge j i with q | q;exact h4 j q;rw [show j=i by omega];exact hc2.symm⟩ Dm (JH rfl rfl ⟨Rf,Rf,Rf,Jd (Jk Dm),trivial⟩)
   ·refine stp ?_
    refine Ja rfl (Jd ?_)
    rw [JdS Jf hi h4 hc2.symm];rfl
theorem JuW {r:TRow} {m s:Int} (hm:m=1∨m=2):Jc2 m s r=(decide (r.mux=m)&& decide (r.sub=s)):=by
 unfold Jc2
 rw [decide_eq_true (by omega:m≠0),Bool.and_true]
set_option maxHeartbeats 2000000 in
theorem JgV (l:List TRow) (m:Int) (hm:m=1∨m=2) (s:Int) (hl:l.length≤1000000):Tells Tryz.prog 80 [Js l,int m,int s] (int (JaV (l.findIdx? (Jc2 m s)))):=by
 have hge:decide (m≥1)=true:=decide_eq_true Om
 have hle:decide (m≤2)=true:=decide_eq_true Om
 refine Jc Tryz.func80 rfl rfl fun nx=> ?_
 refine stp ?_
 refine Jr (fun q:Nat×Nat=> mk 39 [(0,Js l),(1,int m),(2,int s),(7,int q.1)] ⟨[], [],q.2,0⟩) (fun q=> q.1≤l.length∧∀j,j < q.1→Jc2 m s (l.getD j Jf)=false) (fun q=> l.length - q.1) ?_ ?_
 ·exact ⟨(0,nx),⟨Nat.zero_le _,fun j hj=> absurd hj (Nat.not_lt_zero j)⟩,JH rfl rfl ⟨Rf,Rf,Rf,Rf,trivial⟩⟩
 ·rintro ⟨i,nx2⟩ ⟨h3,h4⟩
  dsimp only at h3 h4
  refine stp ?_
  intro c h5;cases c
  ·have h6:=Jm h5
   dsimp only at h6
   obtain rfl:i=l.length:=by omega
   refine stp ?_
   refine Ja rfl (Jd ?_)
   rw [JcE Jf h4];rfl
  ·have h6:=Jl h5
   dsimp only at h6
   have hi:i < l.length:=by omega
   have hsub:=JuW (r:=l.getD i Jf) (s:=s) hm
   refine stp ?_
   intro c hc
   obtain rfl:c=true:=hc.trans hge
   refine stp ?_
   intro c hc
   obtain rfl:c=true:=hc.trans hle
   refine stp ?_
   refine ⟨Bd, ?_⟩
   refine stp ?_
   intro c hc
   have hc2:c=decide ((l.getD i Jf).mux=m):=by rw [hc,Bool.eq_iff_iff];simp [Int.toNat_natCast]
   clear hc
   rw [← hc2] at hsub
   clear hc2
   cases c
   ·refine stp ?_
    exact back (i+1,nx2) ⟨hi,fun j hj=> by dsimp only at hj;rcases Nat.lt_or_ge j i with q | q;exact h4 j q;rw [show j=i by omega];exact hsub⟩ Dm (JH rfl rfl ⟨Rf,Rf,Rf,Jd (Jk Dm),trivial⟩)
   ·rw [Bool.true_and] at hsub
    refine stp ?_
    refine ⟨Bd, ?_⟩
    refine stp ?_
    intro c hc
    have hc2:c=decide ((l.getD i Jf).sub=s):=by rw [hc,Bool.eq_iff_iff];simp [Int.toNat_natCast]
    clear hc
    rw [← hc2] at hsub
    clear hc2
    cases c
    ·refine stp ?_
     exact back (i+1,nx2) ⟨hi,fun j hj=> by dsimp only at hj;rcases Nat.lt_or_ge j i with q | q;exact h4 j q;rw [show j=i by omega];exact hsub⟩ Dm (JH rfl rfl ⟨Rf,Rf,Rf,Jd (Jk Dm),trivial⟩)
    ·refine stp ?_
     refine Ja rfl (Jd ?_)
     rw [JdS Jf hi h4 hsub];rfl
end Go.Proofs.W

namespace Go.Proofs.W
open Go.Vl
set_option maxRecDepth 100000
def atO (l:List TRow) (r:Rec):Option Nat:=match JcG r.arch r.num with
 | none=> none
 | some a=> if 0 < JfE a r.num then l.findIdx? (Jc2 (JfE a r.num) ((r.a0 % 4294967296:Nat):Int)) else l.findIdx? (JbV a ((JcF a r.num:Nat):Int))
def JiK (r:Rec):Bool:=match JcG r.arch r.num with
 | none=> false
 | some a=> decide (0 < JfE a r.num)
def Jqj (l:List TRow) (r:Rec):AV:= .ag [int (Ja8 r.arch r.num),int (JaV (atO l r)),Jg (JiK r)]
theorem Jul {x:Nat} (h:x < 18446744073709551616):IntKind.i64.wrap ((x:Int).tmod 4294967296)=((x % 4294967296:Nat):Int):=by
 have e:(x:Int).tmod 4294967296=((x % 4294967296:Nat):Int):=(Int.ofNat_tmod x 4294967296).symm
 rw [e]
 exact Jq Om Om
set_option maxHeartbeats 4000000 in
theorem Jr0 (l:List TRow) (r:Rec) (hr:r.ok) (hl:l.length≤1000000):Tells Tryz.prog 40 [Js l,Jag r] (Jqj l r):=by
 have hsel:=Jlv r.arch r.num hr.2.1 hr.1
 unfold Jqj atO JiK
 unfold Ja8 at hsel⊢
 cases hso:JcG r.arch r.num with
 | none=>
   rw [hso] at hsel
   dsimp only at hsel⊢
   refine Jc Tryz.func40 rfl rfl fun nx=> ?_
   refine stp ?_
   refine Jb rfl rfl hsel ⟨Rf,Rf,trivial⟩ fun nx2=> ?_
   refine stp ?_
   exact Ji rfl ⟨rfl,trivial⟩ Rf
 | some a=>
   rw [hso] at hsel
   dsimp only at hsel⊢
   have ha5:=JhV hso
   have hat:=Jm7 l a ha5 ((JcF a r.num:Nat):Int) (Int.natCast_nonneg _) hl
   have hown:=Jlw a r.num hr.1
   have hown2:JcF a r.num < 4294967296:=by have:=hr.1;unfold JcF;split <;> omega
   have ha0:=hr.2.2.2.1
   have h102:=JgV l 1 (.inl rfl) ((r.a0 % 4294967296:Nat):Int) hl
   have h117:=JgV l 2 (.inr rfl) ((r.a0 % 4294967296:Nat):Int) hl
   clear hso
   have hkd:JfE a r.num=if a=2 then Jd1 r.num else 0:=rfl
   unfold Jd1 at hkd
   by_cases h2:a=2
   ·subst h2
    rw [if_pos rfl] at hkd
    by_cases q1:r.num=102
    ·rw [if_pos q1] at hkd
     rw [hkd]
     refine Jc Tryz.func40 rfl rfl fun nx=> ?_
     refine stp ?_
     refine Jb rfl rfl hsel ⟨Rf,Rf,trivial⟩ fun nx2=> ?_
     refine stp ?_
     intro c hc
     obtain rfl:c=true:=hc.trans (by simp;omega)
     refine stp ?_
     refine Jb rfl rfl h102 ⟨Rf,Rf,Jd (by rw [Jul ha0]),trivial⟩ fun nx3=> ?_
     refine stp ?_
     exact Ji rfl ⟨rfl,trivial⟩ Rf
    ·rw [if_neg q1] at hkd
     by_cases q2:r.num=117
     ·rw [if_pos q2] at hkd
      rw [hkd]
      refine Jc Tryz.func40 rfl rfl fun nx=> ?_
      refine stp ?_
      refine Jb rfl rfl hsel ⟨Rf,Rf,trivial⟩ fun nx2=> ?_
      refine stp ?_
      intro c hc
      obtain rfl:c=false:=hc.trans (by simp;omega)
      refine stp ?_
      intro c hc
      obtain rfl:c=true:=hc.trans (by simp;omega)
      refine stp ?_
      refine Jb rfl rfl h117 ⟨Rf,Rf,Jd (by rw [Jul ha0]),trivial⟩ fun nx3=> ?_
      refine stp ?_
      exact Ji rfl ⟨rfl,trivial⟩ Rf
     ·rw [if_neg q2] at hkd
      rw [hkd]
      refine Jc Tryz.func40 rfl rfl fun nx=> ?_
      refine stp ?_
      refine Jb rfl rfl hsel ⟨Rf,Rf,trivial⟩ fun nx2=> ?_
      refine stp ?_
      intro c hc
      obtain rfl:c=false:=hc.trans (by simp;omega)
      refine stp ?_
      intro c hc
      obtain rfl:c=false:=hc.trans (by simp;omega)
      refine stp ?_
      refine Jb rfl rfl hown ⟨Rf,Rf,trivial⟩ fun nx3=> ?_
      refine stp ?_
      refine Jb rfl rfl hat ⟨Rf,Rf,Jd (Jq Om Om),trivial⟩ fun nx4=> ?_
      refine stp ?_
      exact Ji rfl ⟨rfl,trivial⟩ Rf
   ·rw [if_neg h2] at hkd
    rw [hkd]
    refine Jc Tryz.func40 rfl rfl fun nx=> ?_
    refine stp ?_
    refine Jb rfl rfl hsel ⟨Rf,Rf,trivial⟩ fun nx2=> ?_
    refine stp ?_
    intro c hc
    obtain rfl:c=false:=hc.trans (by simp;omega)
    refine stp ?_
    intro c hc
    obtain rfl:c=false:=hc.trans (by simp;omega)
    refine stp ?_
    refine Jb rfl rfl hown ⟨Rf,Rf,trivial⟩ fun nx3=> ?_
    refine stp ?_
    refine Jb rfl rfl hat ⟨Rf,Rf,Jd (Jq Om Om),trivial⟩ fun nx4=> ?_
    refine stp ?_
    exact Ji rfl ⟨rfl,trivial⟩ Rf
end Go.Proofs.W

namespace Go.Proofs.W
open Go.Vl
set_option maxRecDepth 100000
theorem Jr1 {r:Rec} (h:r.ok) (k:Nat):r.arg k < 18446744073709551616:=by
 obtain ⟨_,_,_,h0,h1,h2,h3,h4,h5⟩:=h
 unfold Rec.arg;split <;> assumption
end Go.Proofs.W

namespace Go.Proofs.W
open Go.Vl
set_option maxRecDepth 100000
def Ja5 (r:TRow):Bool:=decide (r.mux < 0)|| (decide (2 < r.mux)|| ((decide (r.mux=0)&& decide (r.sub≠0))|| (decide (0 < r.mux)&& (decide (r.sub < 1)|| decide (255 < r.sub)))))
theorem Jhv (r:TRow):Jb3 r=(!Jej r&& !Ja5 r):=by
 unfold Jb3
 congr 1
 unfold Ja5
 by_cases h:r.mux=0
 ·rw [if_pos h,h];simp
 ·rw [if_neg h,Bool.eq_iff_iff];simp;omega
def Jd5 (r s:TRow):Bool:= [0,1,2,3,4].any fun a=> decide (0≤r.num a)&& decide (s.num a=r.num a)
def Jdp (r s:TRow):Bool:=decide (0 < r.mux)&& (decide (s.mux=r.mux)&& decide (s.sub=r.sub))
def Jcv (l:List TRow) (i:Nat):Bool:=(l.take i).any fun s=> Jd5 (l.getD i Jf) s|| Jdp (l.getD i Jf) s
def Jd6 (r:TRow):Bool:=decide (r.a2=102)|| decide (r.a2=117)
def JbX (l:List TRow) (i:Nat):Int:=if J1 (l.getD i Jf).name.data.toList=false then 13 else if Ja1 l i then 15 else if Jej (l.getD i Jf) then 16 else if Ja5 (l.getD i Jf) then 16 else if Jd6 (l.getD i Jf) then 17 else if Jcv l i then 15 else 0
theorem JuX (s t:ByteArray):(!Op.bytesLess t.toList s.toList)=leB s t:=by
 cases h:leB s t with
 | false=>
   have:=JvM h
   rw [Go.Proofs.bytesLess_eq,Lib.toList_data,Lib.toList_data]
   unfold Go.Sort.ltStr at this
   rw [this];rfl
 | true=>
   unfold leB at h
   rw [Go.Proofs.bytesLess_eq,Lib.toList_data,Lib.toList_data] at h⊢
   rw [Bool.or_eq_true,decide_eq_true_iff] at h
   rw [Bool.not_eq_true',decide_eq_false_iff_not]
   rcases h with h | h
   ·exact fun k=> absurd (List.lt_trans h k) (List.lt_irrefl _)
   ·rw [beq_iff_eq] at h;rw [h];exact List.lt_irrefl _
theorem Jkm {l:List TRow} {i:Nat} (h:J1 (l.getD i Jf).name.data.toList=false):JbX l i=13:=if_pos h
theorem JiL {l:List TRow} {i:Nat} (h:J1 (l.getD i Jf).name.data.toList=true):JbX l i=if Ja1 l i then 15 else if Jej (l.getD i Jf) then 16 else if Ja5 (l.getD i Jf) then 16 else if Jd6 (l.getD i Jf) then 17 else if Jcv l i then 15 else 0:=if_neg (by rw [h];decide)
theorem Jr2 (r:TRow):Ja5 r=(decide (r.mux < 0)|| (decide (r.mux > 2)|| (((r.mux ==0)&& (r.sub !=0))|| (decide (r.mux > 0)&& (decide (r.sub < 1)|| decide (r.sub > 255)))))):=by
 unfold Ja5
 rw [show (r.mux ==0)=decide (r.mux=0) by rw [Bool.eq_iff_iff];simp,show (r.sub !=0)=decide (r.sub≠0) by rw [Bool.eq_iff_iff];simp]
theorem JtG (r:TRow):Jd6 r=((r.a2 ==102)|| (r.a2 ==117)):=by
 unfold Jd6
 rw [show (r.a2 ==102)=decide (r.a2=102) by rw [Bool.eq_iff_iff];simp,show (r.a2 ==117)=decide (r.a2=117) by rw [Bool.eq_iff_iff];simp]
theorem JcH {l:List TRow} {i k:Nat} {r:TRow} (hr:l.getD i Jf=r) (hk:k < i) (hi:i < l.length) (h:(Jd5 r (l.getD k Jf)|| Jdp r (l.getD k Jf))=true):Jcv l i=true:=by
 unfold Jcv
 rw [hr,List.any_eq_true]
 refine ⟨l.getD k Jf, ?_,h⟩
 rw [List.mem_iff_getElem]
 exact ⟨k,by rw [List.length_take];omega,by rw [List.getElem_take];simp [List.getD,show k < l.length by omega]⟩
theorem Joi {l:List TRow} {i:Nat} {r:TRow} (hr:l.getD i Jf=r) (hi:i≤l.length) (h:∀k,k < i→(Jd5 r (l.getD k Jf)|| Jdp r (l.getD k Jf))=false):Jcv l i=false:=by
 unfold Jcv
 rw [hr,List.any_eq_false]
 intro s hs
 obtain ⟨k,hk,rfl⟩:=List.mem_iff_getElem.1 hs
 rw [List.length_take] at hk
 have:=h k Om
 rw [List.getElem_take]
 simp [List.getD,show k < l.length by omega] at this⊢
 exact this
def cN (r s:TRow) (a:Nat):Bool:=decide (r.num a≥0)&& decide (s.num a=r.num a)
theorem JcK {r s:TRow} {a:Nat} (ha:a < 5) (h:cN r s a=true):Jd5 r s=true:=by
 unfold Jd5
 rw [List.any_eq_true]
 exact ⟨a,by simp;omega,h⟩
theorem Jm8 {r s:TRow} (h:∀a,a < 5→cN r s a=false):Jd5 r s=false:=by
 unfold Jd5
 rw [List.any_eq_false]
 intro a ha
 rw [show (decide (0≤r.num a)&& decide (s.num a=r.num a))=cN r s a from rfl,h a (by simp at ha;omega)]
 decide
theorem Jm9 (r s:TRow):Jdp r s=(decide (r.mux > 0)&& ((s.mux ==r.mux)&& (s.sub ==r.sub))):=by
 unfold Jdp
 rw [show (s.mux ==r.mux)=decide (s.mux=r.mux) by rw [Bool.eq_iff_iff];simp,show (s.sub ==r.sub)=decide (s.sub=r.sub) by rw [Bool.eq_iff_iff];simp]
theorem JbY {r:TRow} {k:Nat} (hk:k < 5) (h:true=Jcf (r.num k)):Jej r=true:=by
 rcases (by omega:k=0∨k=1∨k=2∨k=3∨k=4) with rfl | rfl | rfl | rfl | rfl
 all_goals
  have h':Jcf (r.num _)=true:=h.symm
  simp only [TRow.num] at h'
  simp [Jej,h']
theorem JtH {r:TRow} (h:∀j,j < 5→Jcf (r.num j)=false):Jej r=false:=by
 have h0:=h 0 Dc
 have h1:=h 1 Dc
 have h2:=h 2 Dc
 have h3:=h 3 Dc
 have h4:=h 4 Dc
 simp only [TRow.num] at h0 h1 h2 h3 h4
 simp [Jej,h0,h1,h2,h3,h4]
set_option maxHeartbeats 8000000 in
theorem Jlz (l:List TRow) (i:Nat) (hi:i < l.length) (hl:l.length≤1000000):Tells Tryz.prog 36 [Js l,int i] (int (JbX l i)):=by
 have hnm:=Jin (l.getD i Jf).name
 cases hb:J1 (l.getD i Jf).name.data.toList with
 | false=>
   rw [hb] at hnm
   rw [Jkm hb]
   refine Jc Tryz.func36 rfl rfl fun nx=> ?_
   refine stp ?_
   refine ⟨Bd, ?_⟩
   refine stp ?_
   refine Jb rfl rfl hnm ⟨Rf,trivial⟩ fun nx2=> ?_
   refine stp ?_
   exact Ja rfl Rf
 | true=>
   rw [hb] at hnm
   rw [JiL hb]
   refine Jc Tryz.func36 rfl rfl fun nx=> ?_
   refine stp ?_
   refine ⟨Bd, ?_⟩
   refine stp ?_
   refine Jb rfl rfl hnm ⟨Rf,trivial⟩ fun nx2=> ?_
   refine stp ?_
   refine JeF (fun y:Nat=> mk 140 [(0,Js l),(1,int i),(5, .bp (0,nx) 0),(29,Jg (Ja1 l i))] ⟨[((0,nx), .c (Jad (l.getD i Jf)))], [],y,1⟩) (fun _=> True) ?_ ?_
   ·by_cases h0:0 < i
    ·have hd:decide ((i:Int) > 0)=true:=decide_eq_true Om
     have hi1:IntKind.i64.wrap ((i:Int) - 1)=((i - 1:Nat):Int):=by rw [Jq Om Om];omega
     (refine Jy 13 ?_ ?_ ?_ ?_;(· kernel_rfl);(· kernel_rfl);(· kernel_rfl))
     refine stp ?_
     (conv=> whnf)
     refine JaE hd ?_
     refine stp ?_
     refine ⟨⟨Jvu (i:=i - 1) hi1,Jvv (i:=i - 1) hi1 Om⟩,Jh (b:= .rp (Jad (l.getD (i - 1) Jf))) (congrArg (fun z:Int=> AV.rp (Jad (l.getD z.toNat Jf))) hi1) ?_⟩
     refine stp ?_
     intro c hc
     have hc2:c=Ja1 l i:=hc.trans (by unfold Ja1;rw [decide_eq_true h0,Bool.true_and];exact JuX _ _)
     clear hc
     rw [← hc2]
     refine stp ?_
     exact ⟨nx2,trivial,Je (pm:= []) _ [] rfl rfl Sf Sf Bf trivial ⟨Rf,Rf,Rf,Rf,trivial⟩⟩
    ·have hd:decide ((i:Int) > 0)=false:=decide_eq_false Om
     have ho:Ja1 l i=false:=by unfold Ja1;rw [decide_eq_false h0];rfl
     rw [ho]
     (refine Jy 13 ?_ ?_ ?_ ?_;(· kernel_rfl);(· kernel_rfl);(· kernel_rfl))
     refine stp ?_
     (conv=> whnf)
     refine JaE hd ?_
     refine stp ?_
     exact ⟨nx2,trivial,Je (pm:= []) _ [] rfl rfl Sf Sf Bf trivial ⟨Rf,Rf,Rf,Rf,trivial⟩⟩
   ·rintro nx3 -
    cases ho:Ja1 l i with
    | true=>
      rw [if_pos rfl]
      refine stp ?_
      exact Ja rfl Rf
    | false=>
      rw [if_neg Dc]
      generalize hrr:l.getD i Jf=r
      refine stp ?_
      refine Jr (fun y:Nat×Nat=> mk 140 [(0,Js l),(1,int i),(5, .bp (0,nx) 0),(6,int y.1)] ⟨[((0,nx), .c (Jad r))], [],y.2,1⟩) (fun y=> y.1≤5∧∀j,j < y.1→Jcf (r.num j)=false) (fun y=> 5 - y.1) ?_ ?_
      ·exact ⟨(0,nx3),⟨Nat.zero_le _,fun j h=> absurd h (Nat.not_lt_zero _)⟩,Je (pm:= []) _ [] rfl rfl Sf Sf Bf trivial ⟨Rf,Rf,Rf,Rf,trivial⟩⟩
      ·rintro ⟨a,nx4⟩ ⟨h3,h4⟩
       dsimp only at h3 h4
       obtain rfl | rfl | rfl | rfl | rfl | rfl:a=0∨a=1∨a=2∨a=3∨a=4∨a=5:=by omega
       ·have hbk:Jcf (r.num 0)=(decide (r.a0 < -1)|| decide (r.a0 > 1073741823)):=rfl
        refine stp ?_
        refine ⟨⟨Int.natCast_nonneg _,show ((0:Nat):Int) < 5 by decide⟩,Jh (b:= .bp (0,nx) (1+0)) (congrArg (AV.bp (0,nx)) (by rw [JK];rfl)) ?_⟩
        refine stp ?_
        intro c hc
        have hc2:c=decide (r.a0 < -1):=hc
        clear hc
        rw [← hc2] at hbk
        clear hc2
        cases c
        ·refine stp ?_
         refine ⟨⟨Int.natCast_nonneg _,show ((0:Nat):Int) < 5 by decide⟩,Jh (b:= .bp (0,nx) (1+0)) (congrArg (AV.bp (0,nx)) (by rw [JK];rfl)) ?_⟩
         refine stp ?_
         intro c hc
         have hc2:c=decide (r.a0 > 1073741823):=hc
         clear hc
         rw [← hc2,Bool.false_or] at hbk
         clear hc2
         cases c
         ·refine stp ?_
          exact back (0+1,nx4) ⟨by dsimp only;omega,fun j hj=> by dsimp only at hj;rcases Nat.lt_or_ge j 0 with q | q;exact h4 j q;rw [show j=0 by omega];exact hbk⟩ Dm (Je (pm:= []) _ [] rfl rfl Sf Sf Bf trivial ⟨Rf,Rf,Rf,Rf,trivial⟩)
         ·rw [JbY (k:=0) Dc hbk.symm]
          refine stp ?_
          exact Ja rfl Rf
        ·rw [Bool.true_or] at hbk
         rw [JbY (k:=0) Dc hbk.symm]
         refine stp ?_
         exact Ja rfl Rf
       ·have hbk:Jcf (r.num 1)=(decide (r.a1 < -1)|| decide (r.a1 > 1073741823)):=rfl
        refine stp ?_
        refine ⟨⟨Int.natCast_nonneg _,show ((1:Nat):Int) < 5 by decide⟩,Jh (b:= .bp (0,nx) (1+1)) (congrArg (AV.bp (0,nx)) (by rw [JK];rfl)) ?_⟩
        refine stp ?_
        intro c hc
        have hc2:c=decide (r.a1 < -1):=hc
        clear hc
        rw [← hc2] at hbk
        clear hc2
        cases c
        ·refine stp ?_
         refine ⟨⟨Int.natCast_nonneg _,show ((1:Nat):Int) < 5 by decide⟩,Jh (b:= .bp (0,nx) (1+1)) (congrArg (AV.bp (0,nx)) (by rw [JK];rfl)) ?_⟩
         refine stp ?_
         intro c hc
         have hc2:c=decide (r.a1 > 1073741823):=hc
         clear hc
         rw [← hc2,Bool.false_or] at hbk
         clear hc2
         cases c
         ·refine stp ?_
          exact back (1+1,nx4) ⟨by dsimp only;omega,fun j hj=> by dsimp only at hj;rcases Nat.lt_or_ge j 1 with q | q;exact h4 j q;rw [show j=1 by omega];exact hbk⟩ Dm (Je (pm:= []) _ [] rfl rfl Sf Sf Bf trivial ⟨Rf,Rf,Rf,Rf,trivial⟩)
         ·rw [JbY (k:=1) Dc hbk.symm]
          refine stp ?_
          exact Ja rfl Rf
        ·rw [Bool.true_or] at hbk
         rw [JbY (k:=1) Dc hbk.symm]
         refine stp ?_
         exact Ja rfl Rf
       ·have hbk:Jcf (r.num 2)=(decide (r.a2 < -1)|| decide (r.a2 > 1073741823)):=rfl
        refine stp ?_
        refine ⟨⟨Int.natCast_nonneg _,show ((2:Nat):Int) < 5 by decide⟩,Jh (b:= .bp (0,nx) (1+2)) (congrArg (AV.bp (0,nx)) (by rw [JK];rfl)) ?_⟩
        refine stp ?_
        intro c hc
        have hc2:c=decide (r.a2 < -1):=hc
        clear hc
        rw [← hc2] at hbk
        clear hc2
        cases c
        ·refine stp ?_
         refine ⟨⟨Int.natCast_nonneg _,show ((2:Nat):Int) < 5 by decide⟩,Jh (b:= .bp (0,nx) (1+2)) (congrArg (AV.bp (0,nx)) (by rw [JK];rfl)) ?_⟩
         refine stp ?_
         intro c hc
         have hc2:c=decide (r.a2 > 1073741823):=hc
         clear hc
         rw [← hc2,Bool.false_or] at hbk
         clear hc2
         cases c
         ·refine stp ?_
          exact back (2+1,nx4) ⟨by dsimp only;omega,fun j hj=> by dsimp only at hj;rcases Nat.lt_or_ge j 2 with q | q;exact h4 j q;rw [show j=2 by omega];exact hbk⟩ Dm (Je (pm:= []) _ [] rfl rfl Sf Sf Bf trivial ⟨Rf,Rf,Rf,Rf,trivial⟩)
         ·rw [JbY (k:=2) Dc hbk.symm]
          refine stp ?_
          exact Ja rfl Rf
        ·rw [Bool.true_or] at hbk
         rw [JbY (k:=2) Dc hbk.symm]
         refine stp ?_
         exact Ja rfl Rf
       ·have hbk:Jcf (r.num 3)=(decide (r.a3 < -1)|| decide (r.a3 > 1073741823)):=rfl
        refine stp ?_
        refine ⟨⟨Int.natCast_nonneg _,show ((3:Nat):Int) < 5 by decide⟩,Jh (b:= .bp (0,nx) (1+3)) (congrArg (AV.bp (0,nx)) (by rw [JK];rfl)) ?_⟩
        refine stp ?_
        intro c hc
        have hc2:c=decide (r.a3 < -1):=hc
        clear hc
        rw [← hc2] at hbk
        clear hc2
        cases c
        ·refine stp ?_
         refine ⟨⟨Int.natCast_nonneg _,show ((3:Nat):Int) < 5 by decide⟩,Jh (b:= .bp (0,nx) (1+3)) (congrArg (AV.bp (0,nx)) (by rw [JK];rfl)) ?_⟩
         refine stp ?_
         intro c hc
         have hc2:c=decide (r.a3 > 1073741823):=hc
         clear hc
         rw [← hc2,Bool.false_or] at hbk
         clear hc2
         cases c
         ·refine stp ?_
          exact back (3+1,nx4) ⟨by dsimp only;omega,fun j hj=> by dsimp only at hj;rcases Nat.lt_or_ge j 3 with q | q;exact h4 j q;rw [show j=3 by omega];exact hbk⟩ Dm (Je (pm:= []) _ [] rfl rfl Sf Sf Bf trivial ⟨Rf,Rf,Rf,Rf,trivial⟩)
         ·rw [JbY (k:=3) Dc hbk.symm]
          refine stp ?_
          exact Ja rfl Rf
        ·rw [Bool.true_or] at hbk
         rw [JbY (k:=3) Dc hbk.symm]
         refine stp ?_
         exact Ja rfl Rf
       ·have hbk:Jcf (r.num 4)=(decide (r.a4 < -1)|| decide (r.a4 > 1073741823)):=rfl
        refine stp ?_
        refine ⟨⟨Int.natCast_nonneg _,show ((4:Nat):Int) < 5 by decide⟩,Jh (b:= .bp (0,nx) (1+4)) (congrArg (AV.bp (0,nx)) (by rw [JK];rfl)) ?_⟩
        refine stp ?_
        intro c hc
        have hc2:c=decide (r.a4 < -1):=hc
        clear hc
        rw [← hc2] at hbk
        clear hc2
        cases c
        ·refine stp ?_
         refine ⟨⟨Int.natCast_nonneg _,show ((4:Nat):Int) < 5 by decide⟩,Jh (b:= .bp (0,nx) (1+4)) (congrArg (AV.bp (0,nx)) (by rw [JK];rfl)) ?_⟩
         refine stp ?_
         intro c hc
         have hc2:c=decide (r.a4 > 1073741823):=hc
         clear hc
         rw [← hc2,Bool.false_or] at hbk
         clear hc2
         cases c
         ·refine stp ?_
          exact back (4+1,nx4) ⟨by dsimp only;omega,fun j hj=> by dsimp only at hj;rcases Nat.lt_or_ge j 4 with q | q;exact h4 j q;rw [show j=4 by omega];exact hbk⟩ Dm (Je (pm:= []) _ [] rfl rfl Sf Sf Bf trivial ⟨Rf,Rf,Rf,Rf,trivial⟩)
         ·rw [JbY (k:=4) Dc hbk.symm]
          refine stp ?_
          exact Ja rfl Rf
        ·rw [Bool.true_or] at hbk
         rw [JbY (k:=4) Dc hbk.symm]
         refine stp ?_
         exact Ja rfl Rf
       ·rw [JtH h4,if_neg Dc]
        have hmb:=Jr2 r
        (refine Jt ?_;refine Jv ?_;refine Jt ?_)
        refine Juv (fun y:Nat=> mk 140 [(0,Js l),(1,int i),(5, .bp (0,nx) 0)] ⟨[((0,nx), .c (Jad r))], [],y,1⟩) (fun _=> Ja5 r=false) ?_ ?_
        ·refine Jv ?_
         refine stp ?_
         intro c t1;cases c
         ·refine stp ?_
          intro c t2;cases c
          ·refine stp ?_
           intro c t3;cases c
           ·refine stp ?_
            intro c t5;cases c
            ·have e:Ja5 r=false:=by rw [hmb,← t1,← t2,← t3,← t5];rfl
             refine stp ?_
             exact ⟨nx4,e,Je (pm:= []) _ [] rfl rfl Sf Sf Bf trivial ⟨Rf,Rf,Rf,trivial⟩⟩
            ·refine stp ?_
             intro c t6;cases c
             ·refine stp ?_
              intro c t7;cases c
              ·have e:Ja5 r=false:=by rw [hmb,← t1,← t2,← t3,← t5,← t6,← t7];rfl
               refine stp ?_
               exact ⟨nx4,e,Je (pm:= []) _ [] rfl rfl Sf Sf Bf trivial ⟨Rf,Rf,Rf,trivial⟩⟩
              ·have e:Ja5 r=true:=by rw [hmb,← t1,← t2,← t3,← t5,← t6,← t7];rfl
               rw [if_pos e]
               refine stp ?_
               exact Ja rfl Rf
             ·have e:Ja5 r=true:=by rw [hmb,← t1,← t2,← t3,← t5,← t6];rfl
              rw [if_pos e]
              refine stp ?_
              exact Ja rfl Rf
           ·refine stp ?_
            intro c t4;cases c
            ·refine stp ?_
             intro c t5;cases c
             ·have e:Ja5 r=false:=by rw [hmb,← t1,← t2,← t3,← t4,← t5];rfl
              refine stp ?_
              exact ⟨nx4,e,Je (pm:= []) _ [] rfl rfl Sf Sf Bf trivial ⟨Rf,Rf,Rf,trivial⟩⟩
             ·refine stp ?_
              intro c t6;cases c
              ·refine stp ?_
               intro c t7;cases c
               ·have e:Ja5 r=false:=by rw [hmb,← t1,← t2,← t3,← t4,← t5,← t6,← t7];rfl
                refine stp ?_
                exact ⟨nx4,e,Je (pm:= []) _ [] rfl rfl Sf Sf Bf trivial ⟨Rf,Rf,Rf,trivial⟩⟩
               ·have e:Ja5 r=true:=by rw [hmb,← t1,← t2,← t3,← t4,← t5,← t6,← t7];rfl
                rw [if_pos e]
                refine stp ?_
                exact Ja rfl Rf
              ·have e:Ja5 r=true:=by rw [hmb,← t1,← t2,← t3,← t4,← t5,← t6];rfl
               rw [if_pos e]
               refine stp ?_
               exact Ja rfl Rf
            ·have e:Ja5 r=true:=by rw [hmb,← t1,← t2,← t3,← t4];rfl
             rw [if_pos e]
             refine stp ?_
             exact Ja rfl Rf
          ·have e:Ja5 r=true:=by rw [hmb,← t1,← t2];rfl
           rw [if_pos e]
           refine stp ?_
           exact Ja rfl Rf
         ·have e:Ja5 r=true:=by rw [hmb,← t1];rfl
          rw [if_pos e]
          refine stp ?_
          exact Ja rfl Rf
        ·rintro nx5 hmz
         rw [hmz,if_neg Dc]
         have ha2:=JtG r
         refine stp ?_
         refine Jh (b:=int r.a2) rfl ?_
         refine stp ?_
         intro c t1;cases c
         rotate_left
         ·have e:Jd6 r=true:=by rw [ha2,← t1];rfl
          rw [if_pos e]
          refine stp ?_
          exact Ja rfl Rf
         refine stp ?_
         refine Jh (b:=int r.a2) rfl ?_
         refine stp ?_
         intro c t2;cases c
         rotate_left
         ·have e:Jd6 r=true:=by rw [ha2,← t1,← t2];rfl
          rw [if_pos e]
          refine stp ?_
          exact Ja rfl Rf
         have e:Jd6 r=false:=by rw [ha2,← t1,← t2];rfl
         rw [if_neg (by rw [e];decide)]
         refine stp ?_
         refine Jr (fun y:Nat×Nat=> mk 140 [(0,Js l),(1,int i),(5, .bp (0,nx) 0),(7,int y.1)] ⟨[((0,nx), .c (Jad r))], [],y.2,1⟩) (fun y=> y.1≤i∧∀j,j < y.1→(Jd5 r (l.getD j Jf)|| Jdp r (l.getD j Jf))=false) (fun y=> i - y.1) ?_ ?_
         ·exact ⟨(0,nx5),⟨Nat.zero_le _,fun j h=> absurd h (Nat.not_lt_zero _)⟩,Je (pm:= []) _ [] rfl rfl Sf Sf Bf trivial ⟨Rf,Rf,Rf,Rf,trivial⟩⟩
         ·rintro ⟨k,nx6⟩ ⟨m3,m4⟩
          dsimp only at m3 m4
          refine stp ?_
          intro c g;cases c
          ·have g:=Jm g
           try dsimp only at g
           have hk:k=i:=by omega
           subst hk
           rw [Joi hrr (Nat.le_of_lt hi) m4,if_neg Dc]
           refine stp ?_
           exact Ja rfl Rf
          have g:=Jl g
          try dsimp only at g
          have hk:k < i:=by omega
          refine stp ?_
          refine Jr (fun y:Nat×Nat=> mk 140 [(0,Js l),(1,int i),(5, .bp (0,nx) 0),(7,int k),(8,int y.1)] ⟨[((0,nx), .c (Jad r))], [],y.2,1⟩) (fun y=> y.1≤5∧∀j,j < y.1→cN r (l.getD k Jf) j=false) (fun y=> 5 - y.1) ?_ ?_
          ·exact ⟨(0,nx6),⟨Nat.zero_le _,fun j h=> absurd h (Nat.not_lt_zero _)⟩,Je (pm:= []) _ [] rfl rfl Sf Sf Bf trivial ⟨Rf,Rf,Rf,Rf,Rf,trivial⟩⟩
          ·rintro ⟨a,nx8⟩ ⟨n3,n4⟩
           dsimp only at n3 n4
           obtain rfl | rfl | rfl | rfl | rfl | rfl:a=0∨a=1∨a=2∨a=3∨a=4∨a=5:=by omega
           ·have hcn:cN r (l.getD k Jf) 0=(decide (r.a0≥0)&& decide ((l.getD k Jf).a0=r.a0)):=rfl
            cases hd:decide (r.a0≥0) with
            | false=>
              have e:cN r (l.getD k Jf) 0=false:=by rw [hcn,hd];rfl
              (refine Jt ?_;refine Jv ?_;refine Jt ?_)
              (refine Jy 19 ?_ ?_ ?_ ?_;(· kernel_rfl);(· kernel_rfl);(· kernel_rfl))
              refine stp ?_
              refine ⟨⟨Int.natCast_nonneg _,show ((0:Nat):Int) < 5 by decide⟩,Jh (b:= .bp (0,nx) (1+0)) (congrArg (AV.bp (0,nx)) (by rw [JK];rfl)) ?_⟩
              refine stp ?_
              (conv=> whnf)
              refine JaE hd ?_
              refine stp ?_
              exact back (0+1,nx8) ⟨by dsimp only;omega,fun j hj=> by dsimp only at hj;rcases Nat.lt_or_ge j 0 with q | q;exact n4 j q;rw [show j=0 by omega];exact e⟩ Dm (Je (pm:= []) _ [] rfl rfl Sf Sf Bf trivial ⟨Rf,Rf,Rf,Rf,Rf,trivial⟩)
            | true=>
              (refine Jt ?_;refine Jv ?_;refine Jt ?_)
              (refine Jy 19 ?_ ?_ ?_ ?_;(· kernel_rfl);(· kernel_rfl);(· kernel_rfl))
              refine stp ?_
              refine ⟨⟨Int.natCast_nonneg _,show ((0:Nat):Int) < 5 by decide⟩,Jh (b:= .bp (0,nx) (1+0)) (congrArg (AV.bp (0,nx)) (by rw [JK];rfl)) ?_⟩
              refine stp ?_
              (conv=> whnf)
              refine JaE hd ?_
              refine stp ?_
              refine ⟨Bd, ?_⟩
              refine stp ?_
              refine ⟨⟨Int.natCast_nonneg _,show ((0:Nat):Int) < 5 by decide,by rw [JK];exact Nat.le_of_ble_eq_true rfl⟩,Jh (b:= .rp (List.drop (1+0) (Jad (l.getD k Jf)))) (congrArg AV.rp (by rw [JK];rfl)) ?_⟩
              refine stp ?_
              refine ⟨⟨Int.natCast_nonneg _,show ((0:Nat):Int) < 5 by decide⟩,Jh (b:= .bp (0,nx) (1+0)) (congrArg (AV.bp (0,nx)) (by rw [JK];rfl)) ?_⟩
              refine stp ?_
              intro c hc
              have hc2:c=decide ((l.getD k Jf).a0=r.a0):=hc.trans (by rw [Bool.eq_iff_iff];simp)
              clear hc
              rw [hd,← hc2,Bool.true_and] at hcn
              clear hc2
              cases c
              ·have e:=hcn
               refine stp ?_
               exact back (0+1,nx8) ⟨by dsimp only;omega,fun j hj=> by dsimp only at hj;rcases Nat.lt_or_ge j 0 with q | q;exact n4 j q;rw [show j=0 by omega];exact e⟩ Dm (Je (pm:= []) _ [] rfl rfl Sf Sf Bf trivial ⟨Rf,Rf,Rf,Rf,Rf,trivial⟩)
              ·rw [JcH hrr hk hi (by rw [JcK (a:=0) Dc hcn];rfl),if_pos rfl]
               refine stp ?_
               exact Ja rfl Rf
           ·have hcn:cN r (l.getD k Jf) 1=(decide (r.a1≥0)&& decide ((l.getD k Jf).a1=r.a1)):=rfl
            cases hd:decide (r.a1≥0) with
            | false=>
              have e:cN r (l.getD k Jf) 1=false:=by rw [hcn,hd];rfl
              (refine Jt ?_;refine Jv ?_;refine Jt ?_)
              (refine Jy 19 ?_ ?_ ?_ ?_;(· kernel_rfl);(· kernel_rfl);(· kernel_rfl))
              refine stp ?_
              refine ⟨⟨Int.natCast_nonneg _,show ((1:Nat):Int) < 5 by decide⟩,Jh (b:= .bp (0,nx) (1+1)) (congrArg (AV.bp (0,nx)) (by rw [JK];rfl)) ?_⟩
              refine stp ?_
              (conv=> whnf)
              refine JaE hd ?_
              refine stp ?_
              exact back (1+1,nx8) ⟨by dsimp only;omega,fun j hj=> by dsimp only at hj;rcases Nat.lt_or_ge j 1 with q | q;exact n4 j q;rw [show j=1 by omega];exact e⟩ Dm (Je (pm:= []) _ [] rfl rfl Sf Sf Bf trivial ⟨Rf,Rf,Rf,Rf,Rf,trivial⟩)
            | true=>
              (refine Jt ?_;refine Jv ?_;refine Jt ?_)
              (refine Jy 19 ?_ ?_ ?_ ?_;(· kernel_rfl);(· kernel_rfl);(· kernel_rfl))
              refine stp ?_
              refine ⟨⟨Int.natCast_nonneg _,show ((1:Nat):Int) < 5 by decide⟩,Jh (b:= .bp (0,nx) (1+1)) (congrArg (AV.bp (0,nx)) (by rw [JK];rfl)) ?_⟩
              refine stp ?_
              (conv=> whnf)
              refine JaE hd ?_
              refine stp ?_
              refine ⟨Bd, ?_⟩
              refine stp ?_
              refine ⟨⟨Int.natCast_nonneg _,show ((1:Nat):Int) < 5 by decide,by rw [JK];exact Nat.le_of_ble_eq_true rfl⟩,Jh (b:= .rp (List.drop (1+1) (Jad (l.getD k Jf)))) (congrArg AV.rp (by rw [JK];rfl)) ?_⟩
              refine stp ?_
              refine ⟨⟨Int.natCast_nonneg _,show ((1:Nat):Int) < 5 by decide⟩,Jh (b:= .bp (0,nx) (1+1)) (congrArg (AV.bp (0,nx)) (by rw [JK];rfl)) ?_⟩
              refine stp ?_
              intro c hc
              have hc2:c=decide ((l.getD k Jf).a1=r.a1):=hc.trans (by rw [Bool.eq_iff_iff];simp)
              clear hc
              rw [hd,← hc2,Bool.true_and] at hcn
              clear hc2
              cases c
              ·have e:=hcn
               refine stp ?_
               exact back (1+1,nx8) ⟨by dsimp only;omega,fun j hj=> by dsimp only at hj;rcases Nat.lt_or_ge j 1 with q | q;exact n4 j q;rw [show j=1 by omega];exact e⟩ Dm (Je (pm:= []) _ [] rfl rfl Sf Sf Bf trivial ⟨Rf,Rf,Rf,Rf,Rf,trivial⟩)
              ·rw [JcH hrr hk hi (by rw [JcK (a:=1) Dc hcn];rfl),if_pos rfl]
               refine stp ?_
               exact Ja rfl Rf
           ·have hcn:cN r (l.getD k Jf) 2=(decide (r.a2≥0)&& decide ((l.getD k Jf).a2=r.a2)):=rfl
            cases hd:decide (r.a2≥0) with
            | false=>
              have e:cN r (l.getD k Jf) 2=false:=by rw [hcn,hd];rfl
              (refine Jt ?_;refine Jv ?_;refine Jt ?_)
              (refine Jy 19 ?_ ?_ ?_ ?_;(· kernel_rfl);(· kernel_rfl);(· kernel_rfl))
              refine stp ?_
              refine ⟨⟨Int.natCast_nonneg _,show ((2:Nat):Int) < 5 by decide⟩,Jh (b:= .bp (0,nx) (1+2)) (congrArg (AV.bp (0,nx)) (by rw [JK];rfl)) ?_⟩
              refine stp ?_
              (conv=> whnf)
              refine JaE hd ?_
              refine stp ?_
              exact back (2+1,nx8) ⟨by dsimp only;omega,fun j hj=> by dsimp only at hj;rcases Nat.lt_or_ge j 2 with q | q;exact n4 j q;rw [show j=2 by omega];exact e⟩ Dm (Je (pm:= []) _ [] rfl rfl Sf Sf Bf trivial ⟨Rf,Rf,Rf,Rf,Rf,trivial⟩)
            | true=>
              (refine Jt ?_;refine Jv ?_;refine Jt ?_)
              (refine Jy 19 ?_ ?_ ?_ ?_;(· kernel_rfl);(· kernel_rfl);(· kernel_rfl))
              refine stp ?_
              refine ⟨⟨Int.natCast_nonneg _,show ((2:Nat):Int) < 5 by decide⟩,Jh (b:= .bp (0,nx) (1+2)) (congrArg (AV.bp (0,nx)) (by rw [JK];rfl)) ?_⟩
              refine stp ?_
              (conv=> whnf)
              refine JaE hd ?_
              refine stp ?_
              refine ⟨Bd, ?_⟩
              refine stp ?_
              refine ⟨⟨Int.natCast_nonneg _,show ((2:Nat):Int) < 5 by decide,by rw [JK];exact Nat.le_of_ble_eq_true rfl⟩,Jh (b:= .rp (List.drop (1+2) (Jad (l.getD k Jf)))) (congrArg AV.rp (by rw [JK];rfl)) ?_⟩
              refine stp ?_
              refine ⟨⟨Int.natCast_nonneg _,show ((2:Nat):Int) < 5 by decide⟩,Jh (b:= .bp (0,nx) (1+2)) (congrArg (AV.bp (0,nx)) (by rw [JK];rfl)) ?_⟩
              refine stp ?_
              intro c hc
              have hc2:c=decide ((l.getD k Jf).a2=r.a2):=hc.trans (by rw [Bool.eq_iff_iff];simp)
              clear hc
              rw [hd,← hc2,Bool.true_and] at hcn
              clear hc2
              cases c
              ·have e:=hcn
               refine stp ?_
               exact back (2+1,nx8) ⟨by dsimp only;omega,fun j hj=> by dsimp only at hj;rcases Nat.lt_or_ge j 2 with q | q;exact n4 j q;rw [show j=2 by omega];exact e⟩ Dm (Je (pm:= []) _ [] rfl rfl Sf Sf Bf trivial ⟨Rf,Rf,Rf,Rf,Rf,trivial⟩)
              ·rw [JcH hrr hk hi (by rw [JcK (a:=2) Dc hcn];rfl),if_pos rfl]
               refine stp ?_
               exact Ja rfl Rf
           ·have hcn:cN r (l.getD k Jf) 3=(decide (r.a3≥0)&& decide ((l.getD k Jf).a3=r.a3)):=rfl
            cases hd:decide (r.a3≥0) with
            | false=>
              have e:cN r (l.getD k Jf) 3=false:=by rw [hcn,hd];rfl
              (refine Jt ?_;refine Jv ?_;refine Jt ?_)
              (refine Jy 19 ?_ ?_ ?_ ?_;(· kernel_rfl);(· kernel_rfl);(· kernel_rfl))
              refine stp ?_
              refine ⟨⟨Int.natCast_nonneg _,show ((3:Nat):Int) < 5 by decide⟩,Jh (b:= .bp (0,nx) (1+3)) (congrArg (AV.bp (0,nx)) (by rw [JK];rfl)) ?_⟩
              refine stp ?_
              (conv=> whnf)
              refine JaE hd ?_
              refine stp ?_
              exact back (3+1,nx8) ⟨by dsimp only;omega,fun j hj=> by dsimp only at hj;rcases Nat.lt_or_ge j 3 with q | q;exact n4 j q;rw [show j=3 by omega];exact e⟩ Dm (Je (pm:= []) _ [] rfl rfl Sf Sf Bf trivial ⟨Rf,Rf,Rf,Rf,Rf,trivial⟩)
            | true=>
              (refine Jt ?_;refine Jv ?_;refine Jt ?_)
              (refine Jy 19 ?_ ?_ ?_ ?_;(· kernel_rfl);(· kernel_rfl);(· kernel_rfl))
              refine stp ?_
              refine ⟨⟨Int.natCast_nonneg _,show ((3:Nat):Int) < 5 by decide⟩,Jh (b:= .bp (0,nx) (1+3)) (congrArg (AV.bp (0,nx)) (by rw [JK];rfl)) ?_⟩
              refine stp ?_
              (conv=> whnf)
              refine JaE hd ?_
              refine stp ?_
              refine ⟨Bd, ?_⟩
              refine stp ?_
              refine ⟨⟨Int.natCast_nonneg _,show ((3:Nat):Int) < 5 by decide,by rw [JK];exact Nat.le_of_ble_eq_true rfl⟩,Jh (b:= .rp (List.drop (1+3) (Jad (l.getD k Jf)))) (congrArg AV.rp (by rw [JK];rfl)) ?_⟩
              refine stp ?_
              refine ⟨⟨Int.natCast_nonneg _,show ((3:Nat):Int) < 5 by decide⟩,Jh (b:= .bp (0,nx) (1+3)) (congrArg (AV.bp (0,nx)) (by rw [JK];rfl)) ?_⟩
              refine stp ?_
              intro c hc
              have hc2:c=decide ((l.getD k Jf).a3=r.a3):=hc.trans (by rw [Bool.eq_iff_iff];simp)
              clear hc
              rw [hd,← hc2,Bool.true_and] at hcn
              clear hc2
              cases c
              ·have e:=hcn
               refine stp ?_
               exact back (3+1,nx8) ⟨by dsimp only;omega,fun j hj=> by dsimp only at hj;rcases Nat.lt_or_ge j 3 with q | q;exact n4 j q;rw [show j=3 by omega];exact e⟩ Dm (Je (pm:= []) _ [] rfl rfl Sf Sf Bf trivial ⟨Rf,Rf,Rf,Rf,Rf,trivial⟩)
              ·rw [JcH hrr hk hi (by rw [JcK (a:=3) Dc hcn];rfl),if_pos rfl]
               refine stp ?_
               exact Ja rfl Rf
           ·have hcn:cN r (l.getD k Jf) 4=(decide (r.a4≥0)&& decide ((l.getD k Jf).a4=r.a4)):=rfl
            cases hd:decide (r.a4≥0) with
            | false=>
              have e:cN r (l.getD k Jf) 4=false:=by rw [hcn,hd];rfl
              (refine Jt ?_;refine Jv ?_;refine Jt ?_)
              (refine Jy 19 ?_ ?_ ?_ ?_;(· kernel_rfl);(· kernel_rfl);(· kernel_rfl))
              refine stp ?_
              refine ⟨⟨Int.natCast_nonneg _,show ((4:Nat):Int) < 5 by decide⟩,Jh (b:= .bp (0,nx) (1+4)) (congrArg (AV.bp (0,nx)) (by rw [JK];rfl)) ?_⟩
              refine stp ?_
              (conv=> whnf)
              refine JaE hd ?_
              refine stp ?_
              exact back (4+1,nx8) ⟨by dsimp only;omega,fun j hj=> by dsimp only at hj;rcases Nat.lt_or_ge j 4 with q | q;exact n4 j q;rw [show j=4 by omega];exact e⟩ Dm (Je (pm:= []) _ [] rfl rfl Sf Sf Bf trivial ⟨Rf,Rf,Rf,Rf,Rf,trivial⟩)
            | true=>
              (refine Jt ?_;refine Jv ?_;refine Jt ?_)
              (refine Jy 19 ?_ ?_ ?_ ?_;(· kernel_rfl);(· kernel_rfl);(· kernel_rfl))
              refine stp ?_
              refine ⟨⟨Int.natCast_nonneg _,show ((4:Nat):Int) < 5 by decide⟩,Jh (b:= .bp (0,nx) (1+4)) (congrArg (AV.bp (0,nx)) (by rw [JK];rfl)) ?_⟩
              refine stp ?_
              (conv=> whnf)
              refine JaE hd ?_
              refine stp ?_
              refine ⟨Bd, ?_⟩
              refine stp ?_
              refine ⟨⟨Int.natCast_nonneg _,show ((4:Nat):Int) < 5 by decide,by rw [JK];exact Nat.le_of_ble_eq_true rfl⟩,Jh (b:= .rp (List.drop (1+4) (Jad (l.getD k Jf)))) (congrArg AV.rp (by rw [JK];rfl)) ?_⟩
              refine stp ?_
              refine ⟨⟨Int.natCast_nonneg _,show ((4:Nat):Int) < 5 by decide⟩,Jh (b:= .bp (0,nx) (1+4)) (congrArg (AV.bp (0,nx)) (by rw [JK];rfl)) ?_⟩
              refine stp ?_
              intro c hc
              have hc2:c=decide ((l.getD k Jf).a4=r.a4):=hc.trans (by rw [Bool.eq_iff_iff];simp)
              clear hc
              rw [hd,← hc2,Bool.true_and] at hcn
              clear hc2
              cases c
              ·have e:=hcn
               refine stp ?_
               exact back (4+1,nx8) ⟨by dsimp only;omega,fun j hj=> by dsimp only at hj;rcases Nat.lt_or_ge j 4 with q | q;exact n4 j q;rw [show j=4 by omega];exact e⟩ Dm (Je (pm:= []) _ [] rfl rfl Sf Sf Bf trivial ⟨Rf,Rf,Rf,Rf,Rf,trivial⟩)
              ·rw [JcH hrr hk hi (by rw [JcK (a:=4) Dc hcn];rfl),if_pos rfl]
               refine stp ?_
               exact Ja rfl Rf
           ·have hN:=Jm8 n4
            have hM:=Jm9 r (l.getD k Jf)
            cases hd1:decide (r.mux > 0) with
            | false=>
              have e:Jdp r (l.getD k Jf)=false:=by rw [hM,hd1];rfl
              (refine Jt ?_;refine Jv ?_;refine Jt ?_)
              (refine Jy 23 ?_ ?_ ?_ ?_;(· kernel_rfl);(· kernel_rfl);(· kernel_rfl))
              refine stp ?_
              (conv=> whnf)
              refine JaE hd1 ?_
              refine stp ?_
              exact back (k+1,nx8) ⟨by dsimp only;omega,fun j hj=> by dsimp only at hj;rcases Nat.lt_or_ge j k with q | q;exact m4 j q;rw [show j=k by omega,hN,Bool.false_or];exact e⟩ Dm (Je (pm:= []) _ [] rfl rfl Sf Sf Bf trivial ⟨Rf,Rf,Rf,Lw,trivial⟩)
            | true=>
              cases hd2:((l.getD k Jf).mux ==r.mux) with
              | false=>
                have e:Jdp r (l.getD k Jf)=false:=by rw [hM,hd1,hd2];rfl
                (refine Jt ?_;refine Jv ?_;refine Jt ?_)
                (refine Jy 23 ?_ ?_ ?_ ?_;(· kernel_rfl);(· kernel_rfl);(· kernel_rfl))
                refine stp ?_
                (conv=> whnf)
                refine JaE hd1 ?_
                refine stp ?_
                refine ⟨Bd, ?_⟩
                refine stp ?_
                (conv=> whnf)
                refine JaE hd2 ?_
                refine stp ?_
                exact back (k+1,nx8) ⟨by dsimp only;omega,fun j hj=> by dsimp only at hj;rcases Nat.lt_or_ge j k with q | q;exact m4 j q;rw [show j=k by omega,hN,Bool.false_or];exact e⟩ Dm (Je (pm:= []) _ [] rfl rfl Sf Sf Bf trivial ⟨Rf,Rf,Rf,Lw,trivial⟩)
              | true=>
                (refine Jt ?_;refine Jv ?_;refine Jt ?_)
                (refine Jy 23 ?_ ?_ ?_ ?_;(· kernel_rfl);(· kernel_rfl);(· kernel_rfl))
                refine stp ?_
                (conv=> whnf)
                refine JaE hd1 ?_
                refine stp ?_
                refine ⟨Bd, ?_⟩
                refine stp ?_
                (conv=> whnf)
                refine JaE hd2 ?_
                refine stp ?_
                refine ⟨Bd, ?_⟩
                refine stp ?_
                intro c hc
                have hc2:c=((l.getD k Jf).sub ==r.sub):=hc
                clear hc
                rw [hd1,hd2,← hc2,Bool.true_and,Bool.true_and] at hM
                clear hc2
                cases c
                ·have e:=hM
                 refine stp ?_
                 exact back (k+1,nx8) ⟨by dsimp only;omega,fun j hj=> by dsimp only at hj;rcases Nat.lt_or_ge j k with q | q;exact m4 j q;rw [show j=k by omega,hN,Bool.false_or];exact e⟩ Dm (Je (pm:= []) _ [] rfl rfl Sf Sf Bf trivial ⟨Rf,Rf,Rf,Lw,trivial⟩)
                ·rw [JcH hrr hk hi (by rw [hM,Bool.or_true]),if_pos rfl]
                 refine stp ?_
                 exact Ja rfl Rf
end Go.Proofs.W

namespace Go.Proofs.W
open Go.Vl
set_option maxRecDepth 100000
def JcL (l:List TRow):Int×Int:=if 400 < l.length then (0,3) else match (List.range l.length).find? (fun i=> decide (JbX l i≠0)) with
 | some i=> ((i:Int),JbX l i)
 | none=> (0,0)
theorem JgD {n:Nat} {p:Nat→Bool} {i:Nat} (hi:i < n) (h:∀j,j < i→p j=false) (hp:p i=true):(List.range n).find? p=some i:=by
 rw [List.find?_range_eq_some]
 exact ⟨hp,List.mem_range.2 hi,fun j hj=> by rw [h j hj];rfl⟩
theorem Jip {n:Nat} {p:Nat→Bool} (h:∀j,j < n→p j=false):(List.range n).find? p=none:=by
 rw [List.find?_eq_none]
 intro x hx
 rw [h x (List.mem_range.1 hx)];decide
theorem JjI (l:List TRow) (hl:l.length≤1000000):Tells Tryz.prog 14 [Js l] (.tup [int (JcL l).1,int (JcL l).2]):=by
 unfold JcL
 refine Jc Tryz.func14 rfl rfl fun nx=> ?_
 by_cases h4:400 < l.length
 ·rw [if_pos h4]
  refine stp ?_
  intro c hc
  obtain rfl:c=true:=hc.trans (decide_eq_true Om)
  refine stp ?_
  exact Ja rfl Rf
 ·rw [if_neg h4]
  refine stp ?_
  intro c hc
  obtain rfl:c=false:=hc.trans (decide_eq_false Om)
  refine stp ?_
  refine Jr (fun y:Nat×Nat=> mk 22 [(0,Js l),(4,int y.1)] ⟨[], [],y.2,0⟩) (fun y=> y.1≤l.length∧∀j,j < y.1→JbX l j=0) (fun y=> l.length - y.1) ?_ ?_
  ·exact ⟨(0,nx),⟨Nat.zero_le _,fun j hj=> absurd hj (Nat.not_lt_zero _)⟩,JH rfl rfl ⟨Rf,Rf,trivial⟩⟩
  ·rintro ⟨i,nx2⟩ ⟨h1,h2⟩
   dsimp only at h1 h2
   refine stp ?_
   intro c g;cases c
   ·have g:=Jm g
    try dsimp only at g
    have hi:i=l.length:=by omega
    subst hi
    rw [Jip (fun j hj=> decide_eq_false (fun q=> q (h2 j hj)))]
    refine stp ?_
    exact Ja rfl Rf
   ·have g:=Jl g
    try dsimp only at g
    have hi:i < l.length:=by omega
    have hrow:=Jlz l i hi hl
    refine stp ?_
    refine Jb rfl rfl hrow ⟨Rf,Rf,trivial⟩ fun nx3=> ?_
    refine stp ?_
    intro c hc
    have hc2:c=decide (JbX l i≠0):=hc.trans (by rw [Bool.eq_iff_iff];simp)
    clear hc
    cases c
    ·have e:JbX l i=0:=by have:=of_decide_eq_false hc2.symm;omega
     clear hc2
     refine stp ?_
     exact back (i+1,nx3) ⟨hi,fun j hj=> by dsimp only at hj;rcases Nat.lt_or_ge j i with q | q;exact h2 j q;rw [show j=i by omega];exact e⟩ Dm (JH rfl rfl ⟨Rf,Lw,trivial⟩)
    ·have e:(List.range l.length).find? (fun i=> decide (JbX l i≠0))=some i:=JgD hi (fun j hj=> decide_eq_false (fun q=> q (h2 j hj))) hc2.symm
     clear hc2
     rw [e]
     refine stp ?_
     exact Ja rfl Rf
end Go.Proofs.W

namespace Go.Proofs.W
open Go.Vl
set_option maxRecDepth 100000
def Jna (l:List TRow) (k:Nat) (S:Jbj):Prop:=(∀(a:Nat) (n:Int),a < 5→(((a:Int),n)∈S↔n≠-1∧∃j,j < k∧(l.getD j Jf).num a=n))∧(∀m s:Int,m=1∨m=2→((5+m,s)∈S↔∃j,j < k∧(l.getD j Jf).mux=m∧(l.getD j Jf).sub=s))
theorem JjJ {r:TRow} {S:Jbj}:∀ {k:Nat},Jaz r S k=none→∃a,a < k∧r.num a≠-1∧((a:Int),r.num a)∈S
 | 0,h=> by unfold Jaz at h;cases h
 | k+1,h=> by
   unfold Jaz at h
   cases hk:Jaz r S k with
   | none=> obtain ⟨a,h1,h2⟩:=JjJ hk;exact ⟨a,by omega,h2⟩
   | some S'=>
     rw [hk] at h
     dsimp only at h
     split at h
     ·cases h
     ·rename_i hn
      split at h
      ·rename_i hm
       refine ⟨k,Nat.lt_succ_self _,hn, ?_⟩
       have:∀ {m:Nat} {S':Jbj},Jaz r S m=some S'→∀x∈S',x∈S∨∃a,a < m∧x=((a:Int),r.num a):=by
        intro m
        induction m with
        | zero=> intro S' h x hx;unfold Jaz at h;cases h;exact .inl hx
        | succ m ih=>
          intro S' h x hx
          unfold Jaz at h
          cases hm:Jaz r S m with
          | none=> rw [hm] at h;cases h
          | some S1=>
            rw [hm] at h
            dsimp only at h
            split at h
            ·cases h
             rcases ih hm x hx with q | ⟨a,q1,q2⟩
             ·exact .inl q
             ·exact .inr ⟨a,by omega,q2⟩
            ·split at h
             ·cases h
             ·cases h
              rcases List.mem_append.1 hx with hx | hx
              ·rcases ih hm x hx with q | ⟨a,q1,q2⟩
               ·exact .inl q
               ·exact .inr ⟨a,by omega,q2⟩
              ·exact .inr ⟨m,Nat.lt_succ_self _,List.mem_singleton.1 hx⟩
       rcases this hk _ hm with q | ⟨a,q1,q2⟩
       ·exact q
       ·have:=congrArg Prod.fst q2
        dsimp only at this
        omega
      ·cases h
theorem JjK {r:TRow} {S:Jbj}:∀ {k:Nat} {S':Jbj},Jaz r S k=some S'→(∀x,x∈S'↔x∈S∨∃a,a < k∧r.num a≠-1∧x=((a:Int),r.num a))∧∀a,a < k→r.num a≠-1→¬((a:Int),r.num a)∈S
 | 0,S',h=> by
   unfold Jaz at h;cases h
   exact ⟨fun x=> ⟨.inl,fun q=> by rcases q with q | ⟨a,q,_⟩;exact q;omega⟩,fun a ha=> by omega⟩
 | k+1,S',h=> by
   unfold Jaz at h
   cases hk:Jaz r S k with
   | none=> rw [hk] at h;cases h
   | some S1=>
     rw [hk] at h
     dsimp only at h
     obtain ⟨i1,i2⟩:=JjK hk
     split at h
     ·rename_i hn
      cases h
      refine ⟨fun x=> (i1 x).trans ⟨fun q=> ?_,fun q=> ?_⟩,fun a ha hna=> ?_⟩
      ·rcases q with q | ⟨a,q1,q2⟩
       ·exact .inl q
       ·exact .inr ⟨a,by omega,q2⟩
      ·rcases q with q | ⟨a,q1,q2⟩
       ·exact .inl q
       ·rcases Nat.lt_or_ge a k with w | w
        ·exact .inr ⟨a,w,q2⟩
        ·rw [show a=k by omega] at q2;exact absurd hn q2.1
      ·rcases Nat.lt_or_ge a k with w | w
       ·exact i2 a w hna
       ·rw [show a=k by omega] at hna;exact absurd hn hna
     ·rename_i hn
      split at h
      ·cases h
      ·rename_i hm
       cases h
       refine ⟨fun x=> ?_,fun a ha hna=> ?_⟩
       ·rw [List.mem_append,i1,List.mem_singleton]
        constructor
        ·rintro ((q | ⟨a,q1,q2⟩) | q)
         ·exact .inl q
         ·exact .inr ⟨a,by omega,q2⟩
         ·exact .inr ⟨k,Nat.lt_succ_self _,hn,q⟩
        ·rintro (q | ⟨a,q1,q2,q3⟩)
         ·exact .inl (.inl q)
         ·rcases Nat.lt_or_ge a k with w | w
          ·exact .inl (.inr ⟨a,w,q2,q3⟩)
          ·rw [show a=k by omega] at q3;exact .inr q3
       ·rcases Nat.lt_or_ge a k with w | w
        ·exact i2 a w hna
        ·rw [show a=k by omega]
         exact fun q=> hm ((i1 _).2 (.inl q))
theorem JfI {l:List TRow} {i:Nat} (hi:i < l.length):Jcv l i=true↔∃j,j < i∧((∃a,a < 5∧0≤(l.getD i Jf).num a∧(l.getD j Jf).num a=(l.getD i Jf).num a)∨(0 < (l.getD i Jf).mux∧(l.getD j Jf).mux=(l.getD i Jf).mux∧(l.getD j Jf).sub=(l.getD i Jf).sub)):=by
 constructor
 ·intro h
  unfold Jcv at h
  rw [List.any_eq_true] at h
  obtain ⟨s,hs,h⟩:=h
  obtain ⟨j,hj,rfl⟩:=List.mem_iff_getElem.1 hs
  rw [List.length_take] at hj
  rw [List.getElem_take] at h
  have hg:l.getD j Jf=l[j]:=by simp [List.getD,show j < l.length by omega]
  refine ⟨j,by omega, ?_⟩
  rw [hg]
  rw [Bool.or_eq_true] at h
  rcases h with h | h
  ·left
   unfold Jd5 at h
   rw [List.any_eq_true] at h
   obtain ⟨a,ha,h⟩:=h
   rw [Bool.and_eq_true,decide_eq_true_iff,decide_eq_true_iff] at h
   exact ⟨a,by simp at ha;omega,h⟩
  ·right
   unfold Jdp at h
   rw [Bool.and_eq_true,Bool.and_eq_true,decide_eq_true_iff,decide_eq_true_iff,decide_eq_true_iff] at h
   exact h
 ·rintro ⟨j,hj,h⟩
  refine JcH rfl hj hi ?_
  rw [Bool.or_eq_true]
  rcases h with ⟨a,ha,h1,h2⟩ | ⟨h1,h2,h3⟩
  ·exact .inl (JcK ha (by unfold cN;rw [decide_eq_true h1,decide_eq_true h2];rfl))
  ·exact .inr (by unfold Jdp;rw [decide_eq_true h1,decide_eq_true h2,decide_eq_true h3];rfl)
theorem JuY {r:TRow} (h:Jej r=false) {a:Nat} (ha:a < 5):-1≤r.num a:=by
 have:Jcf (r.num a)=false:=by
  cases hq:Jcf (r.num a) with
  | false=> rfl
  | true=> rw [JbY ha hq.symm] at h;cases h
 unfold Jcf at this
 rw [Bool.or_eq_false_iff,decide_eq_false_iff_not] at this
 omega
theorem JoQ {l:List TRow} {i:Nat} {S:Jbj} (hi:i < l.length) (hS:Jna l i S):(JbX l i=0→∃S',Jd2 l i S= .ok S'∧Jna l (i+1) S')∧(JbX l i≠0→∃e,Jd2 l i S= .error e∧e≠0):=by
 obtain ⟨s1,s2⟩:=hS
 cases hn:J1 (l.getD i Jf).name.data.toList with
 | false=> rw [Jkm hn];exact ⟨(fun h=> by cases h),fun _=> ⟨13,JoO hn,by decide⟩⟩
 | true=>
   rw [JiL hn]
   cases ho:Ja1 l i with
   | true=> rw [if_pos rfl];exact ⟨(fun h=> by cases h),fun _=> ⟨15,JoP hn ho,by decide⟩⟩
   | false=>
     rw [if_neg Dc]
     cases hb:Jej (l.getD i Jf) with
     | true=>
       rw [if_pos rfl]
       exact ⟨(fun h=> by cases h),fun _=> ⟨16,Jkh hn ho (by rw [Jhv,hb];rfl),by decide⟩⟩
     | false=>
       rw [if_neg Dc]
       cases hm:Ja5 (l.getD i Jf) with
       | true=>
         rw [if_pos rfl]
         exact ⟨(fun h=> by cases h),fun _=> ⟨16,Jkh hn ho (by rw [Jhv,hb,hm];rfl),by decide⟩⟩
       | false=>
         rw [if_neg Dc]
         have hrg:Jb3 (l.getD i Jf)=true:=by rw [Jhv,hb,hm];rfl
         cases ha:Jd6 (l.getD i Jf) with
         | true=>
           rw [if_pos rfl]
           have ha':(l.getD i Jf).a2=102∨(l.getD i Jf).a2=117:=by unfold Jd6 at ha;simpa using ha
           exact ⟨(fun h=> by cases h),fun _=> ⟨17,Jki hn ho hrg ha',by decide⟩⟩
         | false=>
           rw [if_neg Dc]
           have ha':¬((l.getD i Jf).a2=102∨(l.getD i Jf).a2=117):=fun q=> by
            unfold Jd6 at ha
            rcases q with q | q
            ·rw [decide_eq_true q] at ha;cases ha
            ·rw [decide_eq_true q,Bool.or_true] at ha;cases ha
           rw [Jk3 hn ho hrg ha']
           cases hns:Jaz (l.getD i Jf) S 5 with
           | none=>
             obtain ⟨a,h1,h2,h3⟩:=JjJ hns
             obtain ⟨_,j,hj,h4⟩:=(s1 a _ h1).1 h3
             have hc:Jcv l i=true:=(JfI hi).2 ⟨j,hj, .inl ⟨a,h1,by have:=JuY hb h1;omega,h4⟩⟩
             rw [hc,if_pos rfl]
             exact ⟨(fun h=> by cases h),fun _=> ⟨15,rfl,by decide⟩⟩
           | some S1=>
             obtain ⟨i1,i2⟩:=JjK hns
             dsimp only
             have hnoN:∀j,j < i→∀a,a < 5→0≤(l.getD i Jf).num a→(l.getD j Jf).num a≠(l.getD i Jf).num a:=fun j hj a h1 h2 h3=> i2 a h1 Om ((s1 a _ h1).2 ⟨by omega,j,hj,h3⟩)
             have hS1:∀(a:Nat) (n:Int),a < 5→(((a:Int),n)∈S1↔n≠-1∧∃j,j < i+1∧(l.getD j Jf).num a=n):=fun a n h5=> by
              rw [i1,s1 a n h5]
              constructor
              ·rintro (⟨q1,j,q2,q3⟩ | ⟨b,q1,q2,q3⟩)
               ·exact ⟨q1,j,by omega,q3⟩
               ·have e1:a=b:=by have:=congrArg Prod.fst q3;dsimp only at this;omega
                have e2:n=(l.getD i Jf).num b:=congrArg Prod.snd q3
                subst e1
                exact ⟨by rw [e2];exact q2,i,Nat.lt_succ_self _,e2.symm⟩
              ·rintro ⟨q1,j,q2,q3⟩
               rcases Nat.lt_or_ge j i with w | w
               ·exact .inl ⟨q1,j,w,q3⟩
               ·have e:j=i:=by omega
                subst e
                exact .inr ⟨a,h5,by rw [q3];exact q1,by rw [q3]⟩
             unfold Jhr
             by_cases hm0:(l.getD i Jf).mux=0
             ·rw [if_pos hm0]
              have hc:Jcv l i=false:=by
               rw [Bool.eq_false_iff,Ne,JfI hi]
               rintro ⟨j,hj,⟨a,h1,h2,h3⟩ | ⟨h1,_⟩⟩
               ·exact hnoN j hj a h1 h2 h3
               ·omega
              rw [hc,if_neg Dc]
              refine ⟨fun _=> ⟨S1,rfl,hS1,fun m s hms=> ?_⟩,fun h=> absurd rfl h⟩
              rw [i1,s2 m s hms]
              constructor
              ·rintro (⟨j,q2,q3⟩ | ⟨b,q1,q2,q3⟩)
               ·exact ⟨j,by omega,q3⟩
               ·have:=congrArg Prod.fst q3;dsimp only at this;omega
              ·rintro ⟨j,q2,q3,q4⟩
               rcases Nat.lt_or_ge j i with w | w
               ·exact .inl ⟨j,w,q3,q4⟩
               ·have e:j=i:=by omega
                subst e;omega
             ·rw [if_neg hm0]
              have hm12:=JjB hrg hm0
              by_cases hin:(5+(l.getD i Jf).mux,(l.getD i Jf).sub)∈S1
              ·rw [if_pos hin]
               have hinS:(5+(l.getD i Jf).mux,(l.getD i Jf).sub)∈S:=by
                rcases (i1 _).1 hin with q | ⟨b,q1,q2,q3⟩
                ·exact q
                ·have:=congrArg Prod.fst q3;dsimp only at this;omega
               obtain ⟨j,hj,q1,q2⟩:=(s2 _ _ hm12).1 hinS
               have hc:Jcv l i=true:=(JfI hi).2 ⟨j,hj, .inr ⟨by omega,q1,q2⟩⟩
               rw [hc,if_pos rfl]
               exact ⟨(fun h=> by cases h),fun _=> ⟨15,rfl,by decide⟩⟩
              ·rw [if_neg hin]
               have hc:Jcv l i=false:=by
                rw [Bool.eq_false_iff,Ne,JfI hi]
                rintro ⟨j,hj,⟨a,h1,h2,h3⟩ | ⟨h1,h2,h3⟩⟩
                ·exact hnoN j hj a h1 h2 h3
                ·exact hin ((i1 _).2 (.inl ((s2 _ _ hm12).2 ⟨j,hj,h2,h3⟩)))
               rw [hc,if_neg Dc]
               refine ⟨fun _=> ⟨_,rfl,fun a n h5=> ?_,fun m s hms=> ?_⟩,fun h=> absurd rfl h⟩
               ·rw [List.mem_append,hS1 a n h5,List.mem_singleton]
                constructor
                ·rintro (q | q)
                 ·exact q
                 ·have:=congrArg Prod.fst q;dsimp only at this;omega
                ·exact .inl
               ·rw [List.mem_append,i1,s2 m s hms,List.mem_singleton]
                constructor
                ·rintro ((⟨j,q2,q3⟩ | ⟨b,q1,q2,q3⟩) | q)
                 ·exact ⟨j,by omega,q3⟩
                 ·have:=congrArg Prod.fst q3;dsimp only at this;omega
                 ·have e1:=congrArg Prod.fst q
                  have e2:=congrArg Prod.snd q
                  dsimp only at e1 e2
                  exact ⟨i,Nat.lt_succ_self _,by omega,e2.symm⟩
                ·rintro ⟨j,q2,q3,q4⟩
                 rcases Nat.lt_or_ge j i with w | w
                 ·exact .inl (.inl ⟨j,w,q3,q4⟩)
                 ·have e:j=i:=by omega
                  subst e
                  exact .inr (by rw [q3,q4])
theorem JiM {l:List TRow}:∀ {k:Nat},k≤l.length→(∀j,j < k→JbX l j=0)→∃S,JcR l k= .ok S∧Jna l k S
 | 0,_,_=> ⟨[],rfl,fun a n _=> by simp,fun m s _=> by simp⟩
 | k+1,hk,h=> by
   obtain ⟨S,h1,h2⟩:=JiM (k:=k) Om fun j hj=> h j Om
   obtain ⟨S',h3,h4⟩:=(JoQ Om h2).1 (h k Om)
   exact ⟨S',Jk2 h1 h3,h4⟩
theorem Jla {l:List TRow}:(∀j,j < l.length→JbX l j=0)∨∃i,i < l.length∧JbX l i≠0∧∀j,j < i→JbX l j=0:=by
 have:∀n,n≤l.length→(∀j,j < n→JbX l j=0)∨∃i,i < l.length∧JbX l i≠0∧∀j,j < i→JbX l j=0:=by
  intro n
  induction n with
  | zero=> exact fun _=> .inl fun j hj=> absurd hj (Nat.not_lt_zero j)
  | succ n ih=>
    intro hn
    rcases ih Om with h | h
    ·by_cases q:JbX l n=0
     ·exact .inl fun j hj=> by rcases Nat.lt_or_ge j n with w | w;exact h j w;rw [show j=n by omega];exact q
     ·exact .inr ⟨n,by omega,q,h⟩
    ·exact .inr h
 exact this _ (Nat.le_refl _)
theorem Jhw (l:List TRow):(JcO l).2=0↔(JcL l).2=0:=by
 by_cases h4:400 < l.length
 ·unfold JcO JcL
  rw [if_pos h4,if_pos h4]
 ·rcases Jla (l:=l) with h | ⟨i,hi,h1,h2⟩
  ·obtain ⟨S,hS,-⟩:=JiM (Nat.le_refl _) h
   rw [JrH h4 hS]
   unfold JcL
   rw [if_neg h4,Jip (fun j hj=> decide_eq_false (fun q=> q (h j hj)))]
  ·obtain ⟨S,hS,hs⟩:=JiM (k:=i) Om h2
   obtain ⟨e,he,hne⟩:=(JoQ hi hs).2 h1
   rw [JoN h4 hi hS he]
   unfold JcL
   rw [if_neg h4,JgD (p:=fun i=> decide (JbX l i≠0)) hi (fun j hj=> decide_eq_false (fun q=> q (h2 j hj))) (decide_eq_true h1)]
   exact ⟨fun q=> absurd q hne,fun q=> absurd q h1⟩
theorem Jqk {l:List TRow} (h:(JcO l).2=0):l.length≤400∧∀j,j < l.length→JbX l j=0:=by
 rw [Jhw] at h
 unfold JcL at h
 by_cases h4:400 < l.length
 ·rw [if_pos h4] at h;cases h
 ·rcases Jla (l:=l) with q | ⟨i,hi,h1,h2⟩
  ·exact ⟨by omega,q⟩
  ·rw [if_neg h4,JgD (p:=fun i=> decide (JbX l i≠0)) hi (fun j hj=> decide_eq_false (fun q=> q (h2 j hj))) (decide_eq_true h1)] at h
   exact absurd h h1
theorem JtI {l:List TRow} {i:Nat} (h:JbX l i=0):J1 (l.getD i Jf).name.data.toList=true∧Ja1 l i=false∧Jej (l.getD i Jf)=false∧Ja5 (l.getD i Jf)=false∧Jd6 (l.getD i Jf)=false∧Jcv l i=false:=by
 cases hn:J1 (l.getD i Jf).name.data.toList with
 | false=> rw [Jkm hn] at h;cases h
 | true=>
   rw [JiL hn] at h
   split at h
   ·cases h
   split at h
   ·cases h
   split at h
   ·cases h
   split at h
   ·cases h
   split at h
   ·cases h
   simp_all
theorem JtJ {l:List TRow} (h:(JcO l).2=0) {i:Nat} (hi:i < l.length):(l.getD i Jf).name.size≠0:=by
 have:=(JtI ((Jqk h).2 i hi)).1
 have:=((Jht _).1 this).1
 exact this
end Go.Proofs.W

namespace Go.Proofs.W
open Go.Vl
set_option maxRecDepth 100000
def nameR (l:List TRow) (r:Rec):ByteArray:=(ofI l r).name
def JxB (l:List TRow) (s:ByteArray) (rs:List Rec):List Rec:=rs.filter fun r=> kS s (nameR l r)
def JtK (l:List TRow) (r:Rec) (k:Nat):Nat:=Jap (ofI l r).abi.toNat r k
def OwnOk (l:List TRow) (rs:List Rec) (g:Gat):Prop:=∃r0 rest,JxB l g.name rs=r0::rest∧g.m=rest.length+1∧(∀k,g.a k=JtK l r0 k)∧∀k,g.b k=rest.all fun r=> decide (JtK l r0 k=JtK l r k)
structure GInv (l:List TRow) (rs:List Rec) (S:List Gat×Bool):Prop where
 nd:(S.1.map Gat.name).Nodup
 nz:∀g∈S.1,g.name.size≠0
 own:∀g∈S.1,OwnOk l rs g
 all:∀r∈rs,(nameR l r).size≠0→∃g∈S.1,g.name=nameR l r
 x:S.2=rs.any fun r=> decide ((nameR l r).size≠0)&& decide ((ofI l r).abi=1)
end Go.Proofs.W

namespace Go.Proofs.W
open Go.Vl
set_option maxRecDepth 100000
theorem Jr3 {l:List TRow} {r:Rec} {i:Nat} (h:atO l r=some i):i < l.length:=by
 unfold atO at h
 cases hs:JcG r.arch r.num with
 | none=> rw [hs] at h;cases h
 | some a=>
   rw [hs] at h
   dsimp only at h
   split at h <;> exact JmY h
end Go.Proofs.W

namespace Go.Proofs.W
open Go.Vl
set_option maxRecDepth 100000
def JcM (p:Pol) (l:List TRow) (r:Rec):A2:=if (!(ofI l r).some|| (decide ((ofI l r).abi=1)&& !p.x32))=true then (1,0) else if (ofI l r).name.size=0 then p.dflt else if (ofI l r).muxed=true then Jax p (ofI l r).name else Jd4 p (ofI l r).name (Jap (ofI l r).abi.toNat r)
def Je2 (p:Pol):Prop:=p.rules.length≤1000000∧∀r∈p.rules,r.conds.length≤1000000∧∀c∈r.conds,c.ok
theorem JoR {r:Rec} (h:r.ok) (a k:Nat):Jap a r k < 18446744073709551616:=by
 have:=Jr1 h k
 unfold Jap;split <;> omega
set_option maxHeartbeats 4000000 in
theorem Jql (p:Pol) (l:List TRow) (r:Rec) (hp:Je2 p) (hl:l.length≤1000000) (hr:r.ok):Tells Tryz.prog 52 [Jar p,Js l,Jag r] (JeP (JcM p l r)):=by
 have hof:=JjA l r hr Om
 have hab:=JuT (l:=l) (r:=r)
 have hbl:=Jqf p (ofI l r).name hp.1
 have hdc:=Jod p (ofI l r).name (Jap (ofI l r).abi.toNat r) hp.1 (fun q hq=> JtC _ (JoR hr _) q (by have:=(hp.2 q hq).1;omega) (hp.2 q hq).2)
 unfold JcM
 generalize ofI l r=c at hof hab hbl hdc
 obtain ⟨sm,ab,nm,mx⟩:=c
 dsimp only at hab hbl hdc
 generalize Jax p nm=bl at hbl
 generalize Jd4 p nm (Jap ab.toNat r)=dc at hdc
 obtain ⟨⟨k,n⟩,x32,rs⟩:=p
 dsimp only
 generalize hA:(if (!sm|| (decide (ab=1)&& !x32))=true then ((1,0):A2) else if nm.size=0 then (k,n) else if mx=true then bl else dc)=A
 obtain ⟨b1,b2⟩:=bl
 obtain ⟨d1,d2⟩:=dc
 refine Jc Tryz.func52 rfl rfl fun nx=> ?_
 refine stp ?_
 refine Jh (b:=Jag r) rfl ?_
 refine stp ?_
 refine Jb rfl rfl hof ⟨Rf,Rf,trivial⟩ fun nx2=> ?_
 cases sm with
 | false=>
   rw [if_pos (by rfl)] at hA
   refine stp ?_
   exact Ji rfl ⟨rfl,trivial⟩ (AVle.of_eq (by rw [← hA];rfl))
 | true=>
   refine Jt ?_
   refine JeF (fun y:Nat=> mk 47 [(3, .bp (0,nx) 0),(5, .bp (1,nx+1) 0),(6, .bp (2,nx+2) 0),(7, .bp (3,nx2) 0),(1,Js l),(11,Jg (decide (ab=1)&& !x32))] ⟨[((3,nx2), .c [Jg true,int ab,Jj nm,Jg mx]),((2,nx+2), .c [int 0,int 0]),((1,nx+1), .c (Jaj r)),((0,nx), .c [int k,int n,Jg x32,J8 rs])], [],y,4⟩) (fun _=> True) ?_ ?_
   ·refine Jv ?_
    refine stp ?_
    intro c hc
    have hc2:c=decide (ab=1):=hc.trans (by rw [Bool.eq_iff_iff];simp)
    clear hc
    cases c
    ·refine stp ?_
     exact ⟨nx2+1,trivial,Et (pm:= []) (bx:= [((3,nx2), .c [Jg true,int ab,Jj nm,Jg mx]),((2,nx+2), .c [int 0,int 0]),((1,nx+1), .c (Jaj r)),((0,nx), .c [int k,int n,Jg x32,J8 rs])]) rfl rfl Bf trivial ⟨Rf,Rf,Rf,Rf,Rf,AVle.of_eq (by rw [← hc2];rfl),trivial⟩⟩
    ·cases x32
     ·refine stp ?_
      exact ⟨nx2+1,trivial,Et (pm:= []) (bx:= [((3,nx2), .c [Jg true,int ab,Jj nm,Jg mx]),((2,nx+2), .c [int 0,int 0]),((1,nx+1), .c (Jaj r)),((0,nx), .c [int k,int n,Jg false,J8 rs])]) rfl rfl Bf trivial ⟨Rf,Rf,Rf,Rf,Rf,AVle.of_eq (by rw [← hc2];rfl),trivial⟩⟩
     ·refine stp ?_
      exact ⟨nx2+1,trivial,Et (pm:= []) (bx:= [((3,nx2), .c [Jg true,int ab,Jj nm,Jg mx]),((2,nx+2), .c [int 0,int 0]),((1,nx+1), .c (Jaj r)),((0,nx), .c [int k,int n,Jg true,J8 rs])]) rfl rfl Bf trivial ⟨Rf,Rf,Rf,Rf,Rf,AVle.of_eq (by rw [← hc2];rfl),trivial⟩⟩
   ·rintro nx3 -
    generalize hb:(decide (ab=1)&& !x32)=bb at hA
    cases bb with
    | true=>
      rw [if_pos (by rfl)] at hA
      refine stp ?_
      exact Ji rfl ⟨rfl,trivial⟩ (AVle.of_eq (by rw [← hA];rfl))
    | false=>
      rw [if_neg Dc] at hA
      refine stp ?_
      intro c hc
      have hc2:c=decide (nm.size=0):=hc.trans JwD
      clear hc
      cases c
      ·have h0:¬nm.size=0:=of_decide_eq_false hc2.symm
       rw [if_neg h0] at hA
       obtain ⟨ha5,hab2⟩:=hab h0
       have har:=Jhh ab.toNat ha5 r hr
       rw [← hab2] at har
       cases mx with
       | true=>
         rw [if_pos rfl] at hA
         refine stp ?_
         refine Jh (b:=Jj nm) rfl ?_
         refine stp ?_
         refine Jb rfl rfl hbl ⟨Rf,Rf,trivial⟩ fun nx4=> ?_
         refine stp ?_
         exact Ji rfl ⟨rfl,trivial⟩ (AVle.of_eq (by rw [← hA];rfl))
       | false=>
         rw [if_neg Dc] at hA
         refine stp ?_
         refine Jah 8 _ (fun _=> false) (fun i=> match i with | 6=> true | 7=> true | _=> false) [0,1,2,3,4,5,6,7] (by kernel_rfl) (by kernel_rfl) (HB.refl _) ?_
         refine stp ?_
         refine ⟨_,JG rfl rfl rfl har ⟨Rf,Rf,trivial⟩ Jtw, ?_⟩
         refine stp ?_
         refine ⟨_,JG rfl rfl rfl hdc ⟨Rf,Rf,Rf,trivial⟩ (NoId.ag (by intro y hy;simp at hy;rcases hy with rfl | rfl <;> exact NoId.v _)), ?_⟩
         refine stp ?_
         exact Ji rfl ⟨rfl,trivial⟩ (AVle.of_eq (by rw [← hA];rfl))
      ·have h0:nm.size=0:=of_decide_eq_true hc2.symm
       rw [if_pos h0] at hA
       refine stp ?_
       exact Ji rfl ⟨rfl,trivial⟩ (AVle.of_eq (by rw [← hA];rfl))
def Jdu (a:A2):Nat:=kb (a.1.toNat - 1)+a.2.toNat
theorem JfS {k n:Int} (h:J2 k n=true):∃k' n':Nat,k=(k'+1:Nat)∧n=(n':Nat)∧k' < 8∧n'≤km k':=by
 unfold J2 at h
 simp only [Bool.and_eq_true,decide_eq_true_eq] at h
 obtain ⟨⟨⟨h1,h2⟩,h3⟩,h4⟩:=h
 refine ⟨(k - 1).toNat,n.toNat,by omega,by omega,by omega, ?_⟩
 unfold Jev at h4
 unfold km
 split at h4
 ·rw [if_pos Om];omega
 ·split at h4
  ·rw [if_neg Om,if_pos Om];omega
  ·rw [if_neg Om,if_neg Om];omega
theorem JuZ (a:A2) (h:J2 a.1 a.2=true):Tells Tryz.prog 51 [JeP a] (.tup [u32 (Jdu a:Nat),int 0]):=by
 obtain ⟨k,n⟩:=a
 obtain ⟨k',n',rfl,rfl,h1,h2⟩:=JfS h
 have:=Jqd k' n' h1 h2
 unfold Jdu
 dsimp only
 rw [show ((k'+1:Nat):Int).toNat - 1=k' by omega,show ((n':Nat):Int).toNat=n' by omega]
 exact this
theorem JtL {a:A2} (h:J2 a.1 a.2=true):Jdu a < 4294967296:=by
 obtain ⟨k,n⟩:=a
 obtain ⟨k',n',rfl,rfl,h1,h2⟩:=JfS h
 have:=JjG h1
 unfold Jdu
 dsimp only
 rw [show ((k'+1:Nat):Int).toNat - 1=k' by omega,show ((n':Nat):Int).toNat=n' by omega]
 omega
theorem Jf9 {p:Pol} (h:Jaw p=true):J2 p.dflt.1 p.dflt.2=true∧∀r∈p.rules,JaZ r=true:=by
 unfold Jaw at h
 simp only [Bool.and_eq_true,decide_eq_true_eq,Bool.not_eq_true',List.any_eq_false,Bool.not_eq_false'] at h
 refine ⟨h.1,fun r hr=> ?_⟩
 have:=h.2.2 r hr
 simpa using this
theorem JgE {r:Rul} (h:JaZ r=true):J2 r.act.1 r.act.2=true:=by
 unfold JaZ at h
 simp only [Bool.and_eq_true] at h
 exact h.2.1
theorem Jiq {p:Pol} (h:Jaw p=true) (nm:ByteArray):J2 (Jax p nm).1 (Jax p nm).2=true:=by
 obtain ⟨h1,h2⟩:=Jf9 h
 unfold Jax
 cases hf:p.rules.find? (fun r=> kS r.name nm) with
 | none=> exact h1
 | some r=>
   dsimp only
   split
   ·exact JgE (h2 r (List.mem_of_find?_eq_some hf))
   ·exact h1
theorem Jr4 {p:Pol} (h:Jaw p=true) (nm:ByteArray) (x:Nat→Nat):J2 (Jd4 p nm x).1 (Jd4 p nm x).2=true:=by
 obtain ⟨h1,h2⟩:=Jf9 h
 unfold Jd4
 cases hf:p.rules.find? (fun r=> kS r.name nm&& JeT x r) with
 | none=> exact h1
 | some r=> exact JgE (h2 r (List.mem_of_find?_eq_some hf))
theorem Jhx {p:Pol} (h:Jaw p=true) (l:List TRow) (r:Rec):J2 (JcM p l r).1 (JcM p l r).2=true:=by
 unfold JcM
 split
 ·decide
 ·split
  ·exact (Jf9 h).1
  ·split
   ·exact Jiq h _
   ·exact Jr4 h _ _
def Jbt (p:Pol) (l:List TRow) (r:Rec):Nat×Int:=if Jaw p=false then (0,13) else if (JcO l).2≠0 then (0,18) else (Jdu (JcM p l r),0)
set_option maxHeartbeats 2000000 in
theorem Jhy (p:Pol) (l:List TRow) (r:Rec) (hp:Je2 p) (hpk:p.ok) (hl:l.length≤1000000) (hn:∀q∈l,q.name.size≤maxLen) (hr:r.ok):Tells Tryz.prog 20 [Jar p,Js l,Jag r] (.tup [u32 ((Jbt p l r).1:Nat),int (Jbt p l r).2]):=by
 have hrp:=Job p hpk
 have htb:=Jls l hl hn
 have hac:=Jql p l r hp hl hr
 have hcd:Jaw p=true→_:=fun h=> JuZ (JcM p l r) (Jhx h l r)
 generalize hJ:Jbt p l r=J
 unfold Jbt at hJ
 generalize Jaw p=b at hrp hcd hJ
 generalize JcO l=tb at htb hJ
 generalize JcM p l r=A at hac hcd hJ
 obtain ⟨a1,a2⟩:=A
 obtain ⟨⟨k,n⟩,x32,rs⟩:=p
 refine Jc Tryz.func20 rfl rfl fun nx=> ?_
 refine stp ?_
 refine Jh (b:=Jar ⟨(k,n),x32,rs⟩) rfl ?_
 refine stp ?_
 refine Jb rfl rfl hrp ⟨Rf,trivial⟩ fun nx2=> ?_
 cases b with
 | false=>
   rw [if_pos rfl] at hJ
   subst hJ
   refine stp ?_
   exact Ji rfl trivial Rf
 | true=>
   rw [if_neg Dc] at hJ
   refine stp ?_
   refine Jb rfl rfl htb ⟨Rf,trivial⟩ fun nx3=> ?_
   refine stp ?_
   intro c hc
   by_cases h0:tb.2=0
   ·rw [if_neg (fun q=> q h0)] at hJ
    subst hJ
    obtain rfl:c=false:=hc.trans (bne_eq_false_iff_eq.2 h0)
    refine stp ?_
    refine Jh (b:=Jag r) rfl ?_
    refine stp ?_
    refine Jb rfl rfl hac ⟨Rf,Rf,Rf,trivial⟩ fun nx4=> ?_
    refine stp ?_
    refine Jb rfl rfl (hcd rfl) ⟨Rf,trivial⟩ fun nx5=> ?_
    refine stp ?_
    exact Ji rfl trivial Rf
   ·rw [if_pos h0] at hJ
    subst hJ
    obtain rfl:c=true:=hc.trans (bne_iff_ne.2 h0)
    refine stp ?_
    exact Ji rfl trivial Rf
end Go.Proofs.W

namespace Go.Proofs.W
open Go.Vl
set_option maxRecDepth 100000
end Go.Proofs.W

namespace Go.Proofs.W
open Go.Vl
set_option maxRecDepth 100000
end Go.Proofs.W

namespace Go.Proofs.W
open Go.Vl
set_option maxRecDepth 100000
theorem Jqm {a b:Own} (h:a=b):OwnLe a b:=h ▸ OwnLe.refl a
theorem JoS:JbB Tryz.prog 89=true:=by kernel_rfl
theorem gc_trow:Tryz.prog.cellsOf 89=8:=by kernel_rfl
theorem JoT:Tryz.prog.bytesOf 89=72:=by kernel_rfl
theorem JhZ (x:TRow):(Jo x).cells.length=8:=rfl
theorem Ju0 (x:TRow):(Jo x).cells.all JbG=true:=rfl
theorem Jr5 (n:Nat) (h0:0 < n) (hn:n≤100000) (nx:Nat):
 ECall Tryz.prog 126 [.os 0 0 (fun _=> .any) none,int n] ⟨[], [],nx,0⟩ (fun r h'=> ∃s cap nx' nn',n≤cap∧r= .hs (0,s) 0 0 cap∧h'=⟨[((0,s), .c (List.replicate (cap * 8) .any))], [],nx',nn'⟩):=by
 refine ECall.wk (JS Tryz.func126 rfl rfl ?_)
 refine stp ?_
 refine JiB rfl rfl Tryz.underlying52 ?_
 refine stp ?_
 intro c hc
 replace hc:c=decide (IntKind.i64.wrap ((n:Int) - 0) > 0):=hc
 rw [Jq Om Om,decide_eq_true Om] at hc
 subst hc
 refine Jt ?_
 refine J7 (fun i=> match i with | 7=> true | 6=> true | 4=> true | 1=> true | _=> false) 10 ?_
 refine stp ?_
 refine JiB rfl rfl Tryz.underlying52 ?_
 refine stp ?_
 refine JsV rfl rfl rfl Tryz.underlying52 Tryz.underlying89 ?_
 refine stp ?_
 have hw:IntKind.i64.wrap ((n:Int) - 0)=n:=by rw [Jq Om Om];omega
 refine Jll (m:=n) (kq:= .i64) (kn:= .i64) (e:=89) rfl rfl (congrArg (fun z=> AV.v (.int .i64 z)) hw) Om Tryz.underlying3 Tryz.underlying52 JoS (by rw [JoT];omega) Om fun cap hcap=> ?_
 refine stp ?_
 refine JsU (l:=0) (k':= .i64) rfl rfl rfl Tryz.underlying52 Tryz.underlying89 (Nat.zero_le _) Om ?_
 refine stp ?_
 exact Jz rfl ⟨_,_,Rf,HLe.refl _,nx,cap,_,_,hcap,rfl,by rw [gc_trow];rfl⟩
theorem Jqn:Tells Tryz.prog 126 [.os 0 0 (fun _=> .any) none,int (0:Nat)] (.os 0 0 (fun _=> .any) none):=by
 refine Jc Tryz.func126 rfl rfl fun nx=> ?_
 refine stp ?_
 refine JiB rfl rfl Tryz.underlying52 ?_
 refine stp ?_
 exact Ja rfl Rf
def Jdd (L:List (List TRow)) (oi:Option Vl.Id):AV:= .os 1 L.length (fun k=> Jai 8 Jo Jf (L.getD k [])) oi
theorem Jlb (l:List TRow):J5 l.length (fun k=> Jo (l.getD k Jf))=l.flatMap fun x=> (Jo x).cells:=by
 have key:∀m,m≤l.length→J5 m (fun k=> Jo (l.getD k Jf))=(l.take m).flatMap fun x=> (Jo x).cells:=by
  intro m
  induction m with
  | zero=> intro _;rfl
  | succ m ih=>
    intro hm
    have hm':m < l.length:=by omega
    have e:J5 (m+1) (fun k=> Jo (l.getD k Jf))=J5 m (fun k=> Jo (l.getD k Jf))++(Jo (l.getD m Jf)).cells:=by unfold J5;rw [List.range_succ,List.flatMap_append];simp
    rw [e,ih Om,List.take_add_one,List.flatMap_append]
    simp [List.getD,hm']
 rw [key _ (Nat.le_refl _),List.take_of_length_le (Nat.le_refl _)]
theorem Jhz (l:List TRow):(l.flatMap fun x=> (Jo x).cells).length=l.length * 8:=by
 induction l with
 | nil=> rfl
 | cons x l ih=> rw [List.flatMap_cons,List.length_append,ih,JhZ,List.length_cons];omega
theorem Jr6 (l:List TRow) (k j:Nat) (hk:k < l.length) (hj:j < 8):(l.flatMap fun x=> (Jo x).cells)[k * 8+j]? =(Jo (l.getD k Jf)).cells[j]? :=by
 rw [← Jlb]
 exact (JcY (sz:=8) (fun i hi=> JhZ _)).2 k j hk hj
set_option maxHeartbeats 1000000 in
theorem Joj (L:List (List TRow)) (hL:L.length≤1000) (hn:L.flatten.length≤100000) (oi:Option Vl.Id):Tells Tryz.prog 67 [Jdd L none] (Jai 8 Jo Jf L.flatten):=by
 have hpre:∀i,i < L.length→(L.take (i+1)).flatten.length=(L.take i).flatten.length+(L.getD i []).length:=fun i hi=> by
  rw [Jcy [] hi,List.flatten_append,List.length_append];simp
 have hle:∀i,(L.take i).flatten.length≤L.flatten.length:=fun i=> by
  conv=> rhs;rw [← List.take_append_drop i L,List.flatten_append,List.length_append]
  omega
 refine Jc Tryz.func67 rfl rfl fun nx=> ?_
 refine stp ?_
 refine JoA (fun y:Nat=> mk 36 [(0,Jdd L none),(3,int (L.flatten.length:Nat))] ⟨[], [],y,0⟩) (fun _=> True) ?_ ?_
 ·refine Jr (fun y:Nat×Nat=> mk 36 [(0,Jdd L none),(3,int ((L.take y.1).flatten.length:Nat)),(9,Jdd L none),(10,int L.length),(11,int y.1)] ⟨[], [],y.2,0⟩) (fun y=> y.1≤L.length) (fun y=> L.length - y.1) ?_ ?_
  ·exact ⟨(0,nx),Nat.zero_le _,Jaa rfl rfl Sf Sf ⟨Rf,Rf,Rf,Rf,Rf,trivial⟩⟩
  ·rintro ⟨i,nx1⟩ h1
   dsimp only at h1
   refine stp ?_
   intro c g;cases c
   ·have g:=Jm g
    try dsimp only at g
    obtain rfl:i=L.length:=by omega
    refine stp ?_
    refine ⟨nx1,trivial,Jaa rfl rfl Sf Sf ⟨Rf, ?_,trivial⟩⟩
    exact AVle.of_eq (congrArg (fun z:List (List TRow)=> int (z.flatten.length:Nat)) List.take_length)
   ·have g:=Jl g
    try dsimp only at g
    have hi:i < L.length:=by omega
    have e1:=hpre i hi
    have e2:=hle (i+1)
    refine stp ?_
    refine ⟨Bd, ?_⟩
    have hw:IntKind.i64.wrap ((((L.take i).flatten.length:Nat):Int)+((L.getD i []).length:Int))=(((L.take (i+1)).flatten.length:Nat):Int):=by rw [Jq Om Om];omega
    refine stp ?_
    intro c hc
    replace hc:c=decide (IntKind.i64.wrap ((((L.take i).flatten.length:Nat):Int)+((L.getD i []).length:Int)) < 0):=hc
    rw [hw,decide_eq_false Om] at hc
    subst hc
    refine stp ?_
    exact back (i+1,nx1) hi Dm (Jaa rfl rfl Sf Sf ⟨Rf,Jd hw,Rf,Rf,Lw,trivial⟩)
 ·intro nx1 _
  rcases Nat.eq_zero_or_pos L.flatten.length with h0 | h0
  ·have hemp:∀i,i < L.length→(L.getD i []).length=0:=fun i hi=> by
    have:=hpre i hi;have:=hle (i+1);omega
   have hnil:L.flatten= []:=List.eq_nil_of_length_eq_zero h0
   rw [hnil]
   refine stp ?_
   refine Jb rfl rfl Jqn ⟨Rf,Rf,trivial⟩ fun nx2=> ?_
   refine stp ?_
   refine Jr (fun y:Nat×Nat=> mk 36 [(6, .os 0 0 (fun _=> .any) none),(25,Jdd L none),(26,int L.length),(27,int y.1)] ⟨[], [],y.2,0⟩) (fun y=> y.1≤L.length) (fun y=> L.length - y.1) ?_ ?_
   ·exact ⟨(0,nx2),Nat.zero_le _,Jaa rfl rfl Sf Sf ⟨Rf,Rf,Rf,Rf,trivial⟩⟩
   ·rintro ⟨i,nx3⟩ h1
    dsimp only at h1
    refine stp ?_
    intro c g;cases c
    ·refine stp ?_
     exact Ja rfl AVle.os_sl0
    ·have g:=Jl g
     try dsimp only at g
     have hi:i < L.length:=by omega
     have e1:=hemp i hi
     have e2:L.getD i []= []:=List.eq_nil_of_length_eq_zero e1
     refine stp ?_
     refine ⟨Bd, ?_⟩
     refine stp ?_
     refine Ji3 (fun _=> ?_) (fun h=> absurd e1 h)
     refine stp ?_
     exact back (i+1,nx3) hi Dm (Jaa rfl rfl Sf Sf ⟨Rf,Rf,Rf,Lw,trivial⟩)
  ·refine stp ?_
   refine Jac (xs:= [.os 0 0 (fun _=> .any) none,int (L.flatten.length:Nat)]) [] [] 1 rfl rfl rfl rfl ⟨Rf,Rf,trivial⟩ (Jr5 L.flatten.length h0 hn nx1) Bf Pf rfl fun r h' hq=> ?_
   obtain ⟨s,cap,nx2,nn2,hcap,rfl,rfl⟩:=hq
   refine stp ?_
   refine Jr (fun y:Nat×List AV×Nat=> mk 36 [(6, .hs (0,s) 0 ((L.take y.1).flatten.length) cap),(25,Jdd L none),(26,int L.length),(27,int y.1)] ⟨[((0,s), .c y.2.1)], [],y.2.2,1⟩) (fun y=> y.1≤L.length∧y.2.1.length=cap * 8∧y.2.1.take ((L.take y.1).flatten.length * 8)=(L.take y.1).flatten.flatMap fun x=> (Jo x).cells) (fun y=> L.length - y.1) ?_ ?_
   ·exact ⟨(0,List.replicate (cap * 8) .any,nx2),⟨Nat.zero_le _,by simp,by simp⟩,Je _ _ rfl rfl Sf .slnil Bf trivial ⟨Rf,Rf,Rf,Rf,trivial⟩⟩
   ·rintro ⟨i,cs,nx3⟩ ⟨h1,h2,h3⟩
    dsimp only at h1 h2 h3
    refine stp ?_
    intro c g;cases c
    ·have g:=Jm g
     try dsimp only at g
     obtain rfl:i=L.length:=by omega
     rw [List.take_length] at h3
     have hcl:L.flatten.length * 8≤cap * 8:=Nat.mul_le_mul_right _ hcap
     refine Jt ?_
     refine AW.le (JaO (L:= [(6,Jai 8 Jo Jf L.flatten)]) (bx:= []) (pm:= []) (nn:=1) [((0,s), .c cs)] rfl rfl Sf .slnil ⟨?_,trivial⟩) ?_
     ·refine (Frz.of_le (AVle.of_eq (b:= .hs (0,s) 0 L.flatten.length cap) ?_)).trans (Frz.hs (cs:=cs) (.head _) hcap (.inr Om) (fun k hk=> JhZ _) (fun k hk j c hj=> ?_) Om)
      ·show AV.hs (0,s) 0 ((L.take L.length).flatten.length) cap=_
       rw [List.take_length]
      ·have hjl:j < 8:=by have:=(List.getElem?_eq_some_iff.1 hj).1;rw [JhZ] at this;exact this
       refine ⟨c, ?_,Rf⟩
       have hkk:k * 8+j < L.flatten.length * 8:=by
        have:(k+1) * 8≤L.flatten.length * 8:=Nat.mul_le_mul_right _ hk
        omega
       have h4:=Jr6 L.flatten k j hk hjl
       rw [← h3,List.getElem?_take,if_pos hkk,hj] at h4
       rw [Nat.zero_add];exact h4
     ·refine stp ?_
      exact Ja rfl Rf
    ·have g:=Jl g
     try dsimp only at g
     have hi:i < L.length:=by omega
     have e1:=hpre i hi
     have e2:=hle (i+1)
     have hfl:(L.take (i+1)).flatten=(L.take i).flatten++L.getD i []:=by rw [Jcy [] hi,List.flatten_append];simp
     have hcl:((L.take i).flatten.length+(L.getD i []).length) * 8≤cap * 8:=Nat.mul_le_mul_right _ Om
     refine stp ?_
     refine ⟨Bd, ?_⟩
     refine Jt ?_
     refine J7 (fun i=> match i with | 1=> true | _=> false) 4 ?_
     refine stp ?_
     refine JnE (m:=(L.getD i []).length) (f':=fun k=> Jo ((L.getD i []).getD k Jf)) (szx:=8) (n:=(L.take i).flatten.length) (cap:=cap) (cs:=cs) (i:=(0,s)) rfl rfl (.inl rfl) Tryz.underlying52 JoS (.inr gc_trow.symm) (by rfl) Om (by rw [gc_trow];omega) (fun k hk=> Ju0 _) (fun _=> by rw [JoT];omega) (fun _=> by omega) (fun hm=> ?_) (fun hm hfit=> ?_) (fun hm hnf=> absurd Om hnf)
     ·have e3:L.getD i []= []:=List.eq_nil_of_length_eq_zero hm
      rw [e3,List.append_nil] at hfl
      refine stp ?_
      exact back (i+1,cs,nx3) ⟨hi,h2,by dsimp only;rw [hfl];exact h3⟩ Dm (Je _ _ rfl rfl Sf .slnil Bf trivial ⟨AVle.of_eq (congrArg (fun z=> AV.hs (0,s) 0 z cap) (by rw [hfl]:(L.take i).flatten.length=(L.take (i+1)).flatten.length)),Rf,Rf,Lw,trivial⟩)
     ·refine stp ?_
      refine back (i+1,JN cs ((L.take i).flatten.length * 8) ((L.getD i []).flatMap fun x=> (Jo x).cells),nx3) ⟨hi, ?_, ?_⟩ Dm (Je _ _ rfl rfl Sf .slnil ⟨rfl,Jqm (congrArg Own.c ?_),trivial⟩ trivial ⟨AVle.of_eq (congrArg (fun z=> AV.hs (0,s) 0 z cap) e1.symm),Rf,Rf,Lw,trivial⟩)
      ·have hf:=Jhz (L.getD i [])
       simp only [J9,List.length_append,List.length_take,List.length_drop,hf]
       omega
      ·have hf:=Jhz (L.getD i [])
       dsimp only
       rw [hfl,List.flatMap_append,J9,List.length_append,← List.append_assoc,h3]
       have hpl:(List.flatMap (fun x=> (Jo x).cells) (L.take i).flatten++List.flatMap (fun x=> (Jo x).cells) (L.getD i [])).length=((L.take i).flatten.length+(L.getD i []).length) * 8:=by
        rw [List.length_append,hf,Jhz];omega
       rw [← hpl,List.take_left]
      ·rw [gc_trow,Jlb]
end Go.Proofs.W

namespace Go.Proofs.W
open Go.Vl
set_option maxRecDepth 100000
def JhA:List TRow:= [
 ⟨⟨#[97,99,99,101,112,116]⟩,43,43,-1,202,202,1,5⟩,
 ⟨⟨#[97,99,99,101,112,116,52]⟩,288,288,364,242,242,1,18⟩,
 ⟨⟨#[98,105,110,100]⟩,49,49,361,200,200,1,2⟩,
 ⟨⟨#[98,114,107]⟩,12,12,45,214,214,0,0⟩,
 ⟨⟨#[99,108,111,110,101]⟩,56,56,120,220,220,0,0⟩,
 ⟨⟨#[99,108,111,115,101]⟩,3,3,6,57,57,0,0⟩,
 ⟨⟨#[99,111,110,110,101,99,116]⟩,42,42,362,203,203,1,3⟩,
 ⟨⟨#[100,117,112]⟩,32,32,41,23,23,0,0⟩,
 ⟨⟨#[100,117,112,50]⟩,33,33,63,-1,-1,0,0⟩,
 ⟨⟨#[101,112,111,108,108,95,99,114,101,97,116,101,49]⟩,291,291,329,20,20,0,0⟩,
 ⟨⟨#[101,112,111,108,108,95,99,116,108]⟩,233,233,255,21,21,0,0⟩,
 ⟨⟨#[101,112,111,108,108,95,119,97,105,116]⟩,232,232,256,-1,-1,0,0⟩,
 ⟨⟨#[101,120,101,99,118,101]⟩,59,520,11,221,221,0,0⟩,
 ⟨⟨#[101,120,105,116]⟩,60,60,1,93,93,0,0⟩,
 ⟨⟨#[101,120,105,116,95,103,114,111,117,112]⟩,231,231,252,94,94,0,0⟩,
 ⟨⟨#[102,99,104,100,105,114]⟩,81,81,133,50,50,0,0⟩,
 ⟨⟨#[102,99,110,116,108]⟩,72,72,55,25,25,0,0⟩,
 ⟨⟨#[102,111,114,107]⟩,57,57,2,-1,-1,0,0⟩,
 ⟨⟨#[102,115,116,97,116]⟩,5,5,108,80,80,0,0⟩,
 ⟨⟨#[102,117,116,101,120]⟩,202,202,240,98,98,0,0⟩,
 ⟨⟨#[103,101,116,99,119,100]⟩,79,79,183,17,17,0,0⟩,
 ⟨⟨#[103,101,116,112,101,101,114,110,97,109,101]⟩,52,52,368,205,205,1,7⟩,
 ⟨⟨#[103,101,116,112,105,100]⟩,39,39,20,172,172,0,0⟩,
 ⟨⟨#[103,101,116,114,97,110,100,111,109]⟩,318,318,355,278,278,0,0⟩,
 ⟨⟨#[103,101,116,115,111,99,107,110,97,109,101]⟩,51,51,367,204,204,1,6⟩,
 ⟨⟨#[103,101,116,115,111,99,107,111,112,116]⟩,55,542,365,209,209,1,15⟩,
 ⟨⟨#[103,101,116,117,105,100]⟩,102,102,24,174,174,0,0⟩,
 ⟨⟨#[105,111,99,116,108]⟩,16,514,54,29,29,0,0⟩,
 ⟨⟨#[107,105,108,108]⟩,62,62,37,129,129,0,0⟩,
 ⟨⟨#[108,105,115,116,101,110]⟩,50,50,363,201,201,1,4⟩]
theorem Jok:JaA Tryz.prog 52 30 [(0,Jo ⟨⟨#[97,99,99,101,112,116]⟩,43,43,-1,202,202,1,5⟩),(1,Jo ⟨⟨#[97,99,99,101,112,116,52]⟩,288,288,364,242,242,1,18⟩),(2,Jo ⟨⟨#[98,105,110,100]⟩,49,49,361,200,200,1,2⟩),(3,Jo ⟨⟨#[98,114,107]⟩,12,12,45,214,214,0,0⟩),(4,Jo ⟨⟨#[99,108,111,110,101]⟩,56,56,120,220,220,0,0⟩),(5,Jo ⟨⟨#[99,108,111,115,101]⟩,3,3,6,57,57,0,0⟩),(6,Jo ⟨⟨#[99,111,110,110,101,99,116]⟩,42,42,362,203,203,1,3⟩),(7,Jo ⟨⟨#[100,117,112]⟩,32,32,41,23,23,0,0⟩),(8,Jo ⟨⟨#[100,117,112,50]⟩,33,33,63,-1,-1,0,0⟩),(9,Jo ⟨⟨#[101,112,111,108,108,95,99,114,101,97,116,101,49]⟩,291,291,329,20,20,0,0⟩),(10,Jo ⟨⟨#[101,112,111,108,108,95,99,116,108]⟩,233,233,255,21,21,0,0⟩),(11,Jo ⟨⟨#[101,112,111,108,108,95,119,97,105,116]⟩,232,232,256,-1,-1,0,0⟩),(12,Jo ⟨⟨#[101,120,101,99,118,101]⟩,59,520,11,221,221,0,0⟩),(13,Jo ⟨⟨#[101,120,105,116]⟩,60,60,1,93,93,0,0⟩),(14,Jo ⟨⟨#[101,120,105,116,95,103,114,111,117,112]⟩,231,231,252,94,94,0,0⟩),(15,Jo ⟨⟨#[102,99,104,100,105,114]⟩,81,81,133,50,50,0,0⟩),(16,Jo ⟨⟨#[102,99,110,116,108]⟩,72,72,55,25,25,0,0⟩),(17,Jo ⟨⟨#[102,111,114,107]⟩,57,57,2,-1,-1,0,0⟩),(18,Jo ⟨⟨#[102,115,116,97,116]⟩,5,5,108,80,80,0,0⟩),(19,Jo ⟨⟨#[102,117,116,101,120]⟩,202,202,240,98,98,0,0⟩),(20,Jo ⟨⟨#[103,101,116,99,119,100]⟩,79,79,183,17,17,0,0⟩),(21,Jo ⟨⟨#[103,101,116,112,101,101,114,110,97,109,101]⟩,52,52,368,205,205,1,7⟩),(22,Jo ⟨⟨#[103,101,116,112,105,100]⟩,39,39,20,172,172,0,0⟩),(23,Jo ⟨⟨#[103,101,116,114,97,110,100,111,109]⟩,318,318,355,278,278,0,0⟩),(24,Jo ⟨⟨#[103,101,116,115,111,99,107,110,97,109,101]⟩,51,51,367,204,204,1,6⟩),(25,Jo ⟨⟨#[103,101,116,115,111,99,107,111,112,116]⟩,55,542,365,209,209,1,15⟩),(26,Jo ⟨⟨#[103,101,116,117,105,100]⟩,102,102,24,174,174,0,0⟩),(27,Jo ⟨⟨#[105,111,99,116,108]⟩,16,514,54,29,29,0,0⟩),(28,Jo ⟨⟨#[107,105,108,108]⟩,62,62,37,129,129,0,0⟩),(29,Jo ⟨⟨#[108,105,115,116,101,110]⟩,50,50,363,201,201,1,4⟩)]=some (89, [Jj ⟨#[97,99,99,101,112,116]⟩,int (43),int (43),int (-1),int (202),int (202),int 1,int 5,Jj ⟨#[97,99,99,101,112,116,52]⟩,int (288),int (288),int (364),int (242),int (242),int 1,int 18,Jj ⟨#[98,105,110,100]⟩,int (49),int (49),int (361),int (200),int (200),int 1,int 2,Jj ⟨#[98,114,107]⟩,int (12),int (12),int (45),int (214),int (214),int 0,int 0,Jj ⟨#[99,108,111,110,101]⟩,int (56),int (56),int (120),int (220),int (220),int 0,int 0,Jj ⟨#[99,108,111,115,101]⟩,int (3),int (3),int (6),int (57),int (57),int 0,int 0,Jj ⟨#[99,111,110,110,101,99,116]⟩,int (42),int (42),int (362),int (203),int (203),int 1,int 3,Jj ⟨#[100,117,112]⟩,int (32),int (32),int (41),int (23),int (23),int 0,int 0,Jj ⟨#[100,117,112,50]⟩,int (33),int (33),int (63),int (-1),int (-1),int 0,int 0,Jj ⟨#[101,112,111,108,108,95,99,114,101,97,116,101,49]⟩,int (291),int (291),int (329),int (20),int (20),int 0,int 0,Jj ⟨#[101,112,111,108,108,95,99,116,108]⟩,int (233),int (233),int (255),int (21),int (21),int 0,int 0,Jj ⟨#[101,112,111,108,108,95,119,97,105,116]⟩,int (232),int (232),int (256),int (-1),int (-1),int 0,int 0,Jj ⟨#[101,120,101,99,118,101]⟩,int (59),int (520),int (11),int (221),int (221),int 0,int 0,Jj ⟨#[101,120,105,116]⟩,int (60),int (60),int (1),int (93),int (93),int 0,int 0,Jj ⟨#[101,120,105,116,95,103,114,111,117,112]⟩,int (231),int (231),int (252),int (94),int (94),int 0,int 0,Jj ⟨#[102,99,104,100,105,114]⟩,int (81),int (81),int (133),int (50),int (50),int 0,int 0,Jj ⟨#[102,99,110,116,108]⟩,int (72),int (72),int (55),int (25),int (25),int 0,int 0,Jj ⟨#[102,111,114,107]⟩,int (57),int (57),int (2),int (-1),int (-1),int 0,int 0,Jj ⟨#[102,115,116,97,116]⟩,int (5),int (5),int (108),int (80),int (80),int 0,int 0,Jj ⟨#[102,117,116,101,120]⟩,int (202),int (202),int (240),int (98),int (98),int 0,int 0,Jj ⟨#[103,101,116,99,119,100]⟩,int (79),int (79),int (183),int (17),int (17),int 0,int 0,Jj ⟨#[103,101,116,112,101,101,114,110,97,109,101]⟩,int (52),int (52),int (368),int (205),int (205),int 1,int 7,Jj ⟨#[103,101,116,112,105,100]⟩,int (39),int (39),int (20),int (172),int (172),int 0,int 0,Jj ⟨#[103,101,116,114,97,110,100,111,109]⟩,int (318),int (318),int (355),int (278),int (278),int 0,int 0,Jj ⟨#[103,101,116,115,111,99,107,110,97,109,101]⟩,int (51),int (51),int (367),int (204),int (204),int 1,int 6,Jj ⟨#[103,101,116,115,111,99,107,111,112,116]⟩,int (55),int (542),int (365),int (209),int (209),int 1,int 15,Jj ⟨#[103,101,116,117,105,100]⟩,int (102),int (102),int (24),int (174),int (174),int 0,int 0,Jj ⟨#[105,111,99,116,108]⟩,int (16),int (514),int (54),int (29),int (29),int 0,int 0,Jj ⟨#[107,105,108,108]⟩,int (62),int (62),int (37),int (129),int (129),int 0,int 0,Jj ⟨#[108,105,115,116,101,110]⟩,int (50),int (50),int (363),int (201),int (201),int 1,int 4]):=by kernel_rfl
set_option maxHeartbeats 4000000 in
theorem Jqo:Tells Tryz.prog 68 [] (Js JhA):=by
 refine Jc Tryz.func68 rfl rfl fun nx=> ?_
 (refine Jt ?_;refine Jv ?_;refine Jt ?_)
 refine J7 (fun n=> match n with | 0=> true | _=> false) 61 ?_
 refine stp ?_
 refine JeE rfl Jok ?_
 refine stp ?_
 refine Ja rfl (AVle.os_sl.trans (AVle.sl_fun fun k hk=> ?_))
 match k,hk with
 | 0,_=> rfl
 | 1,_=> rfl
 | 2,_=> rfl
 | 3,_=> rfl
 | 4,_=> rfl
 | 5,_=> rfl
 | 6,_=> rfl
 | 7,_=> rfl
 | 8,_=> rfl
 | 9,_=> rfl
 | 10,_=> rfl
 | 11,_=> rfl
 | 12,_=> rfl
 | 13,_=> rfl
 | 14,_=> rfl
 | 15,_=> rfl
 | 16,_=> rfl
 | 17,_=> rfl
 | 18,_=> rfl
 | 19,_=> rfl
 | 20,_=> rfl
 | 21,_=> rfl
 | 22,_=> rfl
 | 23,_=> rfl
 | 24,_=> rfl
 | 25,_=> rfl
 | 26,_=> rfl
 | 27,_=> rfl
 | 28,_=> rfl
 | 29,_=> rfl
 | k+30,hk=> exact absurd hk Om
def JjL:List TRow:= [
 ⟨⟨#[108,115,101,101,107]⟩,8,8,19,62,62,0,0⟩,
 ⟨⟨#[109,107,100,105,114]⟩,83,83,39,-1,-1,0,0⟩,
 ⟨⟨#[109,109,97,112]⟩,9,9,-1,222,222,0,0⟩,
 ⟨⟨#[109,109,97,112,50]⟩,-1,-1,192,-1,-1,0,0⟩,
 ⟨⟨#[109,112,114,111,116,101,99,116]⟩,10,10,125,226,226,0,0⟩,
 ⟨⟨#[109,115,103,99,116,108]⟩,71,71,402,187,187,2,14⟩,
 ⟨⟨#[109,115,103,103,101,116]⟩,68,68,399,186,186,2,13⟩,
 ⟨⟨#[109,115,103,114,99,118]⟩,70,70,401,188,188,2,12⟩,
 ⟨⟨#[109,115,103,115,110,100]⟩,69,69,400,189,189,2,11⟩,
 ⟨⟨#[109,117,110,109,97,112]⟩,11,11,91,215,215,0,0⟩,
 ⟨⟨#[110,97,110,111,115,108,101,101,112]⟩,35,35,162,101,101,0,0⟩,
 ⟨⟨#[111,112,101,110]⟩,2,2,5,-1,-1,0,0⟩,
 ⟨⟨#[111,112,101,110,97,116]⟩,257,257,295,56,56,0,0⟩,
 ⟨⟨#[112,105,112,101]⟩,22,22,42,-1,-1,0,0⟩,
 ⟨⟨#[112,105,112,101,50]⟩,293,293,331,59,59,0,0⟩,
 ⟨⟨#[112,111,108,108]⟩,7,7,168,-1,-1,0,0⟩,
 ⟨⟨#[112,114,101,97,100,54,52]⟩,17,17,180,67,67,0,0⟩,
 ⟨⟨#[112,114,108,105,109,105,116,54,52]⟩,302,302,340,261,261,0,0⟩,
 ⟨⟨#[112,116,114,97,99,101]⟩,101,521,26,117,117,0,0⟩,
 ⟨⟨#[112,119,114,105,116,101,54,52]⟩,18,18,181,68,68,0,0⟩,
 ⟨⟨#[114,101,97,100]⟩,0,0,3,63,63,0,0⟩,
 ⟨⟨#[114,101,97,100,118]⟩,19,515,145,65,65,0,0⟩,
 ⟨⟨#[114,101,99,118]⟩,-1,-1,-1,-1,-1,1,10⟩,
 ⟨⟨#[114,101,99,118,102,114,111,109]⟩,45,517,371,207,207,1,12⟩,
 ⟨⟨#[114,101,99,118,109,115,103]⟩,47,519,372,212,212,1,17⟩,
 ⟨⟨#[114,101,110,97,109,101]⟩,82,82,38,-1,-1,0,0⟩,
 ⟨⟨#[114,105,115,99,118,95,102,108,117,115,104,95,105,99,97,99,104,101]⟩,-1,-1,-1,-1,259,0,0⟩,
 ⟨⟨#[114,116,95,115,105,103,97,99,116,105,111,110]⟩,13,512,174,134,134,0,0⟩,
 ⟨⟨#[114,116,95,115,105,103,114,101,116,117,114,110]⟩,15,513,173,139,139,0,0⟩,
 ⟨⟨#[115,101,99,99,111,109,112]⟩,317,317,354,277,277,0,0⟩,
 ⟨⟨#[115,101,108,101,99,116]⟩,23,23,82,-1,-1,0,0⟩,
 ⟨⟨#[115,101,109,99,116,108]⟩,66,66,394,191,191,2,3⟩,
 ⟨⟨#[115,101,109,103,101,116]⟩,64,64,393,190,190,2,2⟩,
 ⟨⟨#[115,101,109,111,112]⟩,65,65,-1,193,193,2,1⟩,
 ⟨⟨#[115,101,110,100]⟩,-1,-1,-1,-1,-1,1,9⟩,
 ⟨⟨#[115,101,110,100,109,115,103]⟩,46,518,370,211,211,1,16⟩,
 ⟨⟨#[115,101,110,100,116,111]⟩,44,44,369,206,206,1,11⟩,
 ⟨⟨#[115,101,116,115,111,99,107,111,112,116]⟩,54,541,366,208,208,1,14⟩,
 ⟨⟨#[115,104,109,97,116]⟩,30,30,397,196,196,2,21⟩,
 ⟨⟨#[115,104,109,99,116,108]⟩,31,31,396,195,195,2,24⟩,
 ⟨⟨#[115,104,109,100,116]⟩,67,67,398,197,197,2,22⟩,
 ⟨⟨#[115,104,109,103,101,116]⟩,29,29,395,194,194,2,23⟩,
 ⟨⟨#[115,104,117,116,100,111,119,110]⟩,48,48,373,210,210,1,13⟩,
 ⟨⟨#[115,111,99,107,101,116]⟩,41,41,359,198,198,1,1⟩,
 ⟨⟨#[115,111,99,107,101,116,112,97,105,114]⟩,53,53,360,199,199,1,8⟩,
 ⟨⟨#[115,116,97,116]⟩,4,4,106,-1,-1,0,0⟩,
 ⟨⟨#[116,105,109,101]⟩,201,201,13,-1,-1,0,0⟩,
 ⟨⟨#[117,110,97,109,101]⟩,63,63,122,160,160,0,0⟩,
 ⟨⟨#[117,110,108,105,110,107]⟩,87,87,10,-1,-1,0,0⟩,
 ⟨⟨#[118,102,111,114,107]⟩,58,58,190,-1,-1,0,0⟩,
 ⟨⟨#[119,97,105,116,112,105,100]⟩,-1,-1,7,-1,-1,0,0⟩,
 ⟨⟨#[119,114,105,116,101]⟩,1,1,4,64,64,0,0⟩,
 ⟨⟨#[119,114,105,116,101,118]⟩,20,516,146,66,66,0,0⟩]
theorem Jqp:JaA Tryz.prog 52 53 [(0,Jo ⟨⟨#[108,115,101,101,107]⟩,8,8,19,62,62,0,0⟩),(1,Jo ⟨⟨#[109,107,100,105,114]⟩,83,83,39,-1,-1,0,0⟩),(2,Jo ⟨⟨#[109,109,97,112]⟩,9,9,-1,222,222,0,0⟩),(3,Jo ⟨⟨#[109,109,97,112,50]⟩,-1,-1,192,-1,-1,0,0⟩),(4,Jo ⟨⟨#[109,112,114,111,116,101,99,116]⟩,10,10,125,226,226,0,0⟩),(5,Jo ⟨⟨#[109,115,103,99,116,108]⟩,71,71,402,187,187,2,14⟩),(6,Jo ⟨⟨#[109,115,103,103,101,116]⟩,68,68,399,186,186,2,13⟩),(7,Jo ⟨⟨#[109,115,103,114,99,118]⟩,70,70,401,188,188,2,12⟩),(8,Jo ⟨⟨#[109,115,103,115,110,100]⟩,69,69,400,189,189,2,11⟩),(9,Jo ⟨⟨#[109,117,110,109,97,112]⟩,11,11,91,215,215,0,0⟩),(10,Jo ⟨⟨#[110,97,110,111,115,108,101,101,112]⟩,35,35,162,101,101,0,0⟩),(11,Jo ⟨⟨#[111,112,101,110]⟩,2,2,5,-1,-1,0,0⟩),(12,Jo ⟨⟨#[111,112,101,110,97,116]⟩,257,257,295,56,56,0,0⟩),(13,Jo ⟨⟨#[112,105,112,101]⟩,22,22,42,-1,-1,0,0⟩),(14,Jo ⟨⟨#[112,105,112,101,50]⟩,293,293,331,59,59,0,0⟩),(15,Jo ⟨⟨#[112,111,108,108]⟩,7,7,168,-1,-1,0,0⟩),(16,Jo ⟨⟨#[112,114,101,97,100,54,52]⟩,17,17,180,67,67,0,0⟩),(17,Jo ⟨⟨#[112,114,108,105,109,105,116,54,52]⟩,302,302,340,261,261,0,0⟩),(18,Jo ⟨⟨#[112,116,114,97,99,101]⟩,101,521,26,117,117,0,0⟩),(19,Jo ⟨⟨#[112,119,114,105,116,101,54,52]⟩,18,18,181,68,68,0,0⟩),(20,Jo ⟨⟨#[114,101,97,100]⟩,0,0,3,63,63,0,0⟩),(21,Jo ⟨⟨#[114,101,97,100,118]⟩,19,515,145,65,65,0,0⟩),(22,Jo ⟨⟨#[114,101,99,118]⟩,-1,-1,-1,-1,-1,1,10⟩),(23,Jo ⟨⟨#[114,101,99,118,102,114,111,109]⟩,45,517,371,207,207,1,12⟩),(24,Jo ⟨⟨#[114,101,99,118,109,115,103]⟩,47,519,372,212,212,1,17⟩),(25,Jo ⟨⟨#[114,101,110,97,109,101]⟩,82,82,38,-1,-1,0,0⟩),(26,Jo ⟨⟨#[114,105,115,99,118,95,102,108,117,115,104,95,105,99,97,99,104,101]⟩,-1,-1,-1,-1,259,0,0⟩),(27,Jo ⟨⟨#[114,116,95,115,105,103,97,99,116,105,111,110]⟩,13,512,174,134,134,0,0⟩),(28,Jo ⟨⟨#[114,116,95,115,105,103,114,101,116,117,114,110]⟩,15,513,173,139,139,0,0⟩),(29,Jo ⟨⟨#[115,101,99,99,111,109,112]⟩,317,317,354,277,277,0,0⟩),(30,Jo ⟨⟨#[115,101,108,101,99,116]⟩,23,23,82,-1,-1,0,0⟩),(31,Jo ⟨⟨#[115,101,109,99,116,108]⟩,66,66,394,191,191,2,3⟩),(32,Jo ⟨⟨#[115,101,109,103,101,116]⟩,64,64,393,190,190,2,2⟩),(33,Jo ⟨⟨#[115,101,109,111,112]⟩,65,65,-1,193,193,2,1⟩),(34,Jo ⟨⟨#[115,101,110,100]⟩,-1,-1,-1,-1,-1,1,9⟩),(35,Jo ⟨⟨#[115,101,110,100,109,115,103]⟩,46,518,370,211,211,1,16⟩),(36,Jo ⟨⟨#[115,101,110,100,116,111]⟩,44,44,369,206,206,1,11⟩),(37,Jo ⟨⟨#[115,101,116,115,111,99,107,111,112,116]⟩,54,541,366,208,208,1,14⟩),(38,Jo ⟨⟨#[115,104,109,97,116]⟩,30,30,397,196,196,2,21⟩),(39,Jo ⟨⟨#[115,104,109,99,116,108]⟩,31,31,396,195,195,2,24⟩),(40,Jo ⟨⟨#[115,104,109,100,116]⟩,67,67,398,197,197,2,22⟩),(41,Jo ⟨⟨#[115,104,109,103,101,116]⟩,29,29,395,194,194,2,23⟩),(42,Jo ⟨⟨#[115,104,117,116,100,111,119,110]⟩,48,48,373,210,210,1,13⟩),(43,Jo ⟨⟨#[115,111,99,107,101,116]⟩,41,41,359,198,198,1,1⟩),(44,Jo ⟨⟨#[115,111,99,107,101,116,112,97,105,114]⟩,53,53,360,199,199,1,8⟩),(45,Jo ⟨⟨#[115,116,97,116]⟩,4,4,106,-1,-1,0,0⟩),(46,Jo ⟨⟨#[116,105,109,101]⟩,201,201,13,-1,-1,0,0⟩),(47,Jo ⟨⟨#[117,110,97,109,101]⟩,63,63,122,160,160,0,0⟩),(48,Jo ⟨⟨#[117,110,108,105,110,107]⟩,87,87,10,-1,-1,0,0⟩),(49,Jo ⟨⟨#[118,102,111,114,107]⟩,58,58,190,-1,-1,0,0⟩),(50,Jo ⟨⟨#[119,97,105,116,112,105,100]⟩,-1,-1,7,-1,-1,0,0⟩),(51,Jo ⟨⟨#[119,114,105,116,101]⟩,1,1,4,64,64,0,0⟩),(52,Jo ⟨⟨#[119,114,105,116,101,118]⟩,20,516,146,66,66,0,0⟩)]=some (89, [Jj ⟨#[108,115,101,101,107]⟩,int (8),int (8),int (19),int (62),int (62),int 0,int 0,Jj ⟨#[109,107,100,105,114]⟩,int (83),int (83),int (39),int (-1),int (-1),int 0,int 0,Jj ⟨#[109,109,97,112]⟩,int (9),int (9),int (-1),int (222),int (222),int 0,int 0,Jj ⟨#[109,109,97,112,50]⟩,int (-1),int (-1),int (192),int (-1),int (-1),int 0,int 0,Jj ⟨#[109,112,114,111,116,101,99,116]⟩,int (10),int (10),int (125),int (226),int (226),int 0,int 0,Jj ⟨#[109,115,103,99,116,108]⟩,int (71),int (71),int (402),int (187),int (187),int 2,int 14,Jj ⟨#[109,115,103,103,101,116]⟩,int (68),int (68),int (399),int (186),int (186),int 2,int 13,Jj ⟨#[109,115,103,114,99,118]⟩,int (70),int (70),int (401),int (188),int (188),int 2,int 12,Jj ⟨#[109,115,103,115,110,100]⟩,int (69),int (69),int (400),int (189),int (189),int 2,int 11,Jj ⟨#[109,117,110,109,97,112]⟩,int (11),int (11),int (91),int (215),int (215),int 0,int 0,Jj ⟨#[110,97,110,111,115,108,101,101,112]⟩,int (35),int (35),int (162),int (101),int (101),int 0,int 0,Jj ⟨#[111,112,101,110]⟩,int (2),int (2),int (5),int (-1),int (-1),int 0,int 0,Jj ⟨#[111,112,101,110,97,116]⟩,int (257),int (257),int (295),int (56),int (56),int 0,int 0,Jj ⟨#[112,105,112,101]⟩,int (22),int (22),int (42),int (-1),int (-1),int 0,int 0,Jj ⟨#[112,105,112,101,50]⟩,int (293),int (293),int (331),int (59),int (59),int 0,int 0,Jj ⟨#[112,111,108,108]⟩,int (7),int (7),int (168),int (-1),int (-1),int 0,int 0,Jj ⟨#[112,114,101,97,100,54,52]⟩,int (17),int (17),int (180),int (67),int (67),int 0,int 0,Jj ⟨#[112,114,108,105,109,105,116,54,52]⟩,int (302),int (302),int (340),int (261),int (261),int 0,int 0,Jj ⟨#[112,116,114,97,99,101]⟩,int (101),int (521),int (26),int (117),int (117),int 0,int 0,Jj ⟨#[112,119,114,105,116,101,54,52]⟩,int (18),int (18),int (181),int (68),int (68),int 0,int 0,Jj ⟨#[114,101,97,100]⟩,int (0),int (0),int (3),int (63),int (63),int 0,int 0,Jj ⟨#[114,101,97,100,118]⟩,int (19),int (515),int (145),int (65),int (65),int 0,int 0,Jj ⟨#[114,101,99,118]⟩,int (-1),int (-1),int (-1),int (-1),int (-1),int 1,int 10,Jj ⟨#[114,101,99,118,102,114,111,109]⟩,int (45),int (517),int (371),int (207),int (207),int 1,int 12,Jj ⟨#[114,101,99,118,109,115,103]⟩,int (47),int (519),int (372),int (212),int (212),int 1,int 17,Jj ⟨#[114,101,110,97,109,101]⟩,int (82),int (82),int (38),int (-1),int (-1),int 0,int 0,Jj ⟨#[114,105,115,99,118,95,102,108,117,115,104,95,105,99,97,99,104,101]⟩,int (-1),int (-1),int (-1),int (-1),int (259),int 0,int 0,Jj ⟨#[114,116,95,115,105,103,97,99,116,105,111,110]⟩,int (13),int (512),int (174),int (134),int (134),int 0,int 0,Jj ⟨#[114,116,95,115,105,103,114,101,116,117,114,110]⟩,int (15),int (513),int (173),int (139),int (139),int 0,int 0,Jj ⟨#[115,101,99,99,111,109,112]⟩,int (317),int (317),int (354),int (277),int (277),int 0,int 0,Jj ⟨#[115,101,108,101,99,116]⟩,int (23),int (23),int (82),int (-1),int (-1),int 0,int 0,Jj ⟨#[115,101,109,99,116,108]⟩,int (66),int (66),int (394),int (191),int (191),int 2,int 3,Jj ⟨#[115,101,109,103,101,116]⟩,int (64),int (64),int (393),int (190),int (190),int 2,int 2,Jj ⟨#[115,101,109,111,112]⟩,int (65),int (65),int (-1),int (193),int (193),int 2,int 1,Jj ⟨#[115,101,110,100]⟩,int (-1),int (-1),int (-1),int (-1),int (-1),int 1,int 9,Jj ⟨#[115,101,110,100,109,115,103]⟩,int (46),int (518),int (370),int (211),int (211),int 1,int 16,Jj ⟨#[115,101,110,100,116,111]⟩,int (44),int (44),int (369),int (206),int (206),int 1,int 11,Jj ⟨#[115,101,116,115,111,99,107,111,112,116]⟩,int (54),int (541),int (366),int (208),int (208),int 1,int 14,Jj ⟨#[115,104,109,97,116]⟩,int (30),int (30),int (397),int (196),int (196),int 2,int 21,Jj ⟨#[115,104,109,99,116,108]⟩,int (31),int (31),int (396),int (195),int (195),int 2,int 24,Jj ⟨#[115,104,109,100,116]⟩,int (67),int (67),int (398),int (197),int (197),int 2,int 22,Jj ⟨#[115,104,109,103,101,116]⟩,int (29),int (29),int (395),int (194),int (194),int 2,int 23,Jj ⟨#[115,104,117,116,100,111,119,110]⟩,int (48),int (48),int (373),int (210),int (210),int 1,int 13,Jj ⟨#[115,111,99,107,101,116]⟩,int (41),int (41),int (359),int (198),int (198),int 1,int 1,Jj ⟨#[115,111,99,107,101,116,112,97,105,114]⟩,int (53),int (53),int (360),int (199),int (199),int 1,int 8,Jj ⟨#[115,116,97,116]⟩,int (4),int (4),int (106),int (-1),int (-1),int 0,int 0,Jj ⟨#[116,105,109,101]⟩,int (201),int (201),int (13),int (-1),int (-1),int 0,int 0,Jj ⟨#[117,110,97,109,101]⟩,int (63),int (63),int (122),int (160),int (160),int 0,int 0,Jj ⟨#[117,110,108,105,110,107]⟩,int (87),int (87),int (10),int (-1),int (-1),int 0,int 0,Jj ⟨#[118,102,111,114,107]⟩,int (58),int (58),int (190),int (-1),int (-1),int 0,int 0,Jj ⟨#[119,97,105,116,112,105,100]⟩,int (-1),int (-1),int (7),int (-1),int (-1),int 0,int 0,Jj ⟨#[119,114,105,116,101]⟩,int (1),int (1),int (4),int (64),int (64),int 0,int 0,Jj ⟨#[119,114,105,116,101,118]⟩,int (20),int (516),int (146),int (66),int (66),int 0,int 0]):=by kernel_rfl
set_option maxHeartbeats 4000000 in
theorem Jr7:Tells Tryz.prog 69 [] (Js JjL):=by
 refine Jc Tryz.func69 rfl rfl fun nx=> ?_
 (refine Jt ?_;refine Jv ?_;refine Jt ?_)
 refine J7 (fun n=> match n with | 0=> true | _=> false) 107 ?_
 refine stp ?_
 refine JeE rfl Jqp ?_
 refine stp ?_
 refine Ja rfl (AVle.os_sl.trans (AVle.sl_fun fun k hk=> ?_))
 match k,hk with
 | 0,_=> rfl
 | 1,_=> rfl
 | 2,_=> rfl
 | 3,_=> rfl
 | 4,_=> rfl
 | 5,_=> rfl
 | 6,_=> rfl
 | 7,_=> rfl
 | 8,_=> rfl
 | 9,_=> rfl
 | 10,_=> rfl
 | 11,_=> rfl
 | 12,_=> rfl
 | 13,_=> rfl
 | 14,_=> rfl
 | 15,_=> rfl
 | 16,_=> rfl
 | 17,_=> rfl
 | 18,_=> rfl
 | 19,_=> rfl
 | 20,_=> rfl
 | 21,_=> rfl
 | 22,_=> rfl
 | 23,_=> rfl
 | 24,_=> rfl
 | 25,_=> rfl
 | 26,_=> rfl
 | 27,_=> rfl
 | 28,_=> rfl
 | 29,_=> rfl
 | 30,_=> rfl
 | 31,_=> rfl
 | 32,_=> rfl
 | 33,_=> rfl
 | 34,_=> rfl
 | 35,_=> rfl
 | 36,_=> rfl
 | 37,_=> rfl
 | 38,_=> rfl
 | 39,_=> rfl
 | 40,_=> rfl
 | 41,_=> rfl
 | 42,_=> rfl
 | 43,_=> rfl
 | 44,_=> rfl
 | 45,_=> rfl
 | 46,_=> rfl
 | 47,_=> rfl
 | 48,_=> rfl
 | 49,_=> rfl
 | 50,_=> rfl
 | 51,_=> rfl
 | 52,_=> rfl
 | k+53,hk=> exact absurd hk Om
end Go.Proofs.W

namespace Go.Proofs.W
open Go.Vl
set_option maxRecDepth 100000
def builtL:List TRow:=JhA++JjL
theorem JjM (l:List TRow):NoId (Js l):=NoId.sl fun i _ c hc=> by
 have hc:c∈Jad (l.getD i Jf):=hc
 unfold Jad at hc
 simp only [List.mem_cons,List.not_mem_nil,or_false] at hc
 rcases hc with rfl | rfl | rfl | rfl | rfl | rfl | rfl | rfl <;> exact NoId.v _
theorem Jnb:Tells Tryz.prog 31 [] (Js builtL):=by
 have hc:=Joj [JhA,JjL] Dc Dc none
 have e: [JhA,JjL].flatten=builtL:=by unfold builtL;simp
 rw [e] at hc
 have he:=Jqo
 have hl:=Jr7
 generalize JhA=A at he hc
 generalize JjL=B at hl hc
 generalize builtL=C at hc
 refine Jc Tryz.func31 rfl rfl fun nx=> ?_
 refine stp ?_
 refine Jb rfl rfl he trivial fun nx2=> ?_
 refine stp ?_
 refine Jb rfl rfl hl trivial fun nx3=> ?_
 refine stp ?_
 refine Jb rfl rfl hc ⟨AVle.os_fun fun k hk=> ?_,trivial⟩ fun nx4=> ?_
 ·match k,hk with
  | 0,_=> rfl
  | 1,_=> rfl
 refine stp ?_
 exact Ja rfl Rf
end Go.Proofs.W

namespace Go.Proofs.W
open Go.Vl
set_option maxRecDepth 100000
theorem Jr8:builtL.length≤1000000:=Nat.le_of_ble_eq_true (by kernel_rfl)
theorem Jol:∀r∈builtL,r.name.size≤maxLen:=fun r hr=> by
 have:(builtL.all fun r=> decide (r.name.size≤maxLen))=true:=by kernel_rfl
 exact of_decide_eq_true (List.all_eq_true.1 this r hr)
end Go.Proofs.W

namespace Go.Proofs.W
open Go.Vl
set_option maxRecDepth 100000
theorem JvT {l:List TRow} (h:JiJ l=true):l.length≤40∧∀r∈l,r.name.size≤60:=by
 unfold JiJ at h
 simp only [Bool.and_eq_true,decide_eq_true_eq,Bool.not_eq_true',List.any_eq_false] at h
 exact ⟨h.1,fun r hr=> by have:=h.2 r hr;omega⟩
end Go.Proofs.W

namespace Go.Proofs.W
open Go.Vl
set_option maxRecDepth 100000
end Go.Proofs.W

namespace Go.Proofs.W
open Go.Vl
set_option maxRecDepth 100000
set_option maxHeartbeats 2000000 in
theorem JlA (c:Cnd) (a:Nat) (hr:Jaf c=true) (ho:c.ok) (ha:a < 18446744073709551616):Tells Tryz.prog 84 [J6 c,u64 a] (Jg (Jf1 c a)):=by
 obtain ⟨_,_,h1,h7,_⟩:=JdR.1 hr
 obtain ⟨arg,op,mask,value⟩:=c
 dsimp only at h1 h7
 have ho1:mask < 18446744073709551616:=ho.1
 unfold Jf1
 dsimp only
 rcases (by omega:op=1∨op=2∨op=3∨op=4∨op=5∨op=6∨op=7) with rfl | rfl | rfl | rfl | rfl | rfl | rfl
 all_goals
  refine Jc Tryz.func84 rfl rfl fun nx=> ?_
  refine stp ?_
  intro c h;cases c
 all_goals
  try rw [JoG ha ho1] at h
  refine stp ?_
  refine Ja rfl (Jn ?_)
  (try simp only [JO, JP, JaJ, JaK, Jbd, Jbe] at *)
  first | omega | (simp;omega)
def JfJ (a:Int) (x:Nat):Nat:=if a=2 then x % 4294967296 else x
def hR (a:Int) (x:Nat→Nat) (c:Cnd):Bool:=Jf1 c (JfJ a (x c.arg.toNat))
def Jep (p:Pol) (nm:ByteArray) (a:Int) (x:Nat→Nat):A2:=match p.rules.find? (fun r=> kS r.name nm&& r.conds.all (hR a x)) with
 | some r=> r.act
 | none=> p.dflt
end Go.Proofs.W

namespace Go.Proofs.W
open Go.Vl
set_option maxRecDepth 100000
def Jcw (k n:Int) (x32:Bool) (rs:List Rul):List AV:= [int k,int n,Jg x32,J8 rs]
def JeU (x:Nat→Nat):List AV:= [u64 (x 0),u64 (x 1),u64 (x 2),u64 (x 3),u64 (x 4),u64 (x 5)]
theorem Jr9 {p:Cnd→Bool} {L:List Cnd} {i:Nat} (h:i < L.length):(L.take (i+1)).all p=((L.take i).all p&& p (L.getD i cnd0)):=by
 rw [Jcy cnd0 h,List.all_append];simp
theorem Ju1 {a:Int} {x:Nat} (h:x < 18446744073709551616):JfJ a x < 18446744073709551616:=by unfold JfJ;split <;> omega
theorem Jsa {p:Cnd→Bool} {L:List Cnd} {i:Nat} (h:(L.take i).all p=false):L.all p=false:=by
 rw [List.all_eq_false] at h⊢
 obtain ⟨c,hc,h⟩:=h
 exact ⟨c,List.mem_of_mem_take hc,h⟩
set_option maxHeartbeats 16000000 in
theorem Jkn (p:Pol) (nm:ByteArray) (a:Int) (x:Nat→Nat) (hx:∀i,x i < 18446744073709551616) (hp:Je2 p) (hrt:∀r∈p.rules,∀c∈r.conds,Jaf c=true):Tells Tryz.prog 43 [Jar p,Jj nm,int a,Jfk x] (JeP (Jep p nm a x)):=by
 obtain ⟨⟨k,n⟩,x32,rs⟩:=p
 obtain ⟨hl,hc⟩:=hp
 dsimp only at hl hc hrt
 refine Jc Tryz.func43 rfl rfl fun nx=> ?_
 refine stp ?_
 refine Jr (fun y:Nat×Nat=> mk 60 [(1,Jj nm),(2,int a),(4, .bp (0,nx) 0),(7, .bp (1,nx+1) 0),(8, .bp (2,nx+2) 0),(9,int y.1)] ⟨[((2,nx+2), .c [int 0,int 0]),((1,nx+1), .c (JeU x)),((0,nx), .c (Jcw k n x32 rs))], [],y.2,3⟩) (fun y=> y.1≤rs.length∧∀j,j < y.1→(kS (rs.getD j Ju).name nm&& (rs.getD j Ju).conds.all (hR a x))=false) (fun y=> rs.length - y.1) ?_ ?_
 ·exact ⟨(0,nx+3),⟨Nat.zero_le _,fun j h=> absurd h (Nat.not_lt_zero _)⟩,Et (pm:= []) (bx:= [((2,nx+2), .c [int 0,int 0]),((1,nx+1), .c (JeU x)),((0,nx), .c (Jcw k n x32 rs))]) rfl rfl Bf trivial ⟨Rf,Rf,Rf,Rf,Rf,Rf,trivial⟩⟩
 ·rintro ⟨i,nx1⟩ ⟨h1,h2⟩
  dsimp only at h1 h2
  refine stp ?_
  intro c g1;cases c
  ·have g1:=Jm g1
   try dsimp only at g1
   have hi:i=rs.length:=by omega
   subst hi
   have hd:Jep ⟨(k,n),x32,rs⟩ nm a x=(k,n):=by
    unfold Jep
    rw [List.find?_eq_none.2 fun r hr=> ?_]
    obtain ⟨j,hj,rfl⟩:=List.mem_iff_getElem.1 hr
    have:=h2 j hj
    rw [show rs.getD j Ju=rs[j] by simp [List.getD,hj]] at this
    rw [this];decide
   refine stp ?_
   exact Ji rfl ⟨rfl,trivial⟩ (AVle.of_eq (by rw [hd];rfl))
  ·have g1:=Jl g1
   try dsimp only at g1
   have hi:i < rs.length:=by omega
   have hmem:rs.getD i Ju∈rs:=by simp [List.getD,hi]
   have hcr:=hc _ hmem
   have hrr:=hrt _ hmem
   generalize hr:rs.getD i Ju=r at hcr hrr
   refine stp ?_
   refine ⟨Bd,Jh (b:= .rp [Jj r.name,int r.act.1,int r.act.2,JaU r.conds]) (by rw [← hr];rfl) ?_⟩
   refine stp ?_
   intro c hc0
   have hc2:c=kS r.name nm:=hc0
   clear hc0
   refine stp ?_
   refine Jr (fun y:Nat×Bool×Nat=> mk 60 [(1,Jj nm),(2,int a),(4, .bp (0,nx) 0),(7, .bp (1,nx+1) 0),(8, .bp (2,nx+2) 0),(9,int i),(10, .bp (3,nx1) 0),(11,Jg y.2.1),(12,int y.1)] ⟨[((3,nx1), .c [Jj r.name,int r.act.1,int r.act.2,JaU r.conds]),((2,nx+2), .c [int 0,int 0]),((1,nx+1), .c (JeU x)),((0,nx), .c (Jcw k n x32 rs))], [],y.2.2,4⟩) (fun y=> y.1≤r.conds.length∧y.2.1=(c&& (r.conds.take y.1).all (hR a x))) (fun y=> r.conds.length - y.1) ?_ ?_
   ·exact ⟨(0,c,nx1+1),⟨Nat.zero_le _,by simp⟩,Et (pm:= []) (bx:= [((3,nx1), .c [Jj r.name,int r.act.1,int r.act.2,JaU r.conds]),((2,nx+2), .c [int 0,int 0]),((1,nx+1), .c (JeU x)),((0,nx), .c (Jcw k n x32 rs))]) rfl rfl Bf trivial ⟨Rf,Rf,Rf,Rf,Rf,Rf,Rf,Rf,Rf,trivial⟩⟩
   ·rintro ⟨j,v,nx2⟩ ⟨k1,k2⟩
    dsimp only at k1 k2
    cases v with
    | false=>
      have hno:(kS r.name nm&& r.conds.all (hR a x))=false:=by
       rw [← hc2]
       cases c with
       | false=> rfl
       | true=> rw [Bool.true_and] at k2⊢;exact Jsa k2.symm
      refine stp ?_
      intro c g2;cases c
      ·refine stp ?_
       exact back (i+1,nx2) ⟨hi,fun j hj=> by dsimp only at hj;rcases Nat.lt_or_ge j i with q | q;exact h2 j q;rw [show j=i by omega,hr];exact hno⟩ Dm (Je (pm:= []) (bx:= [((2,nx+2), .c [int 0,int 0]),((1,nx+1), .c (JeU x)),((0,nx), .c (Jcw k n x32 rs))]) _ _ rfl rfl (.cons _ Sf) Sf Bf trivial ⟨Rf,Rf,Rf,Rf,Rf,Lw,trivial⟩)
      ·refine stp ?_
       exact back (i+1,nx2) ⟨hi,fun j hj=> by dsimp only at hj;rcases Nat.lt_or_ge j i with q | q;exact h2 j q;rw [show j=i by omega,hr];exact hno⟩ Dm (Je (pm:= []) (bx:= [((2,nx+2), .c [int 0,int 0]),((1,nx+1), .c (JeU x)),((0,nx), .c (Jcw k n x32 rs))]) _ _ rfl rfl (.cons _ Sf) Sf Bf trivial ⟨Rf,Rf,Rf,Rf,Rf,Lw,trivial⟩)
    | true=>
      refine stp ?_
      intro c g2;cases c
      ·have g2:=Jm g2
       try dsimp only at g2
       have hj:j=r.conds.length:=by omega
       have hd:Jep ⟨(k,n),x32,rs⟩ nm a x=r.act:=by
        rw [hj,List.take_length,hc2] at k2
        unfold Jep
        rw [Je1 hi h2 (by rw [hr];exact k2.symm),hr]
       refine stp ?_
       exact Ji rfl ⟨rfl,trivial⟩ (AVle.of_eq (by rw [hd];rfl))
      ·have g2:=Jl g2
       try dsimp only at g2
       have hj:j < r.conds.length:=by omega
       have hmc:r.conds.getD j cnd0∈r.conds:=by simp [List.getD,hj]
       have hok:=hcr.2 _ hmc
       have hri:=hrr _ hmc
       have hnext:=Jr9 (p:=hR a x) hj
       generalize hcd:r.conds.getD j cnd0=cd at hok hri hnext
       obtain ⟨q1,q2,_⟩:=JdR.1 hri
       have hh:=JlA cd (JfJ a (x cd.arg.toNat)) hri hok (Ju1 (hx _))
       have ha8:=Jlx a (x cd.arg.toNat) (hx _)
       have hvn:(c&& (r.conds.take (j+1)).all (hR a x))=hR a x cd:=by rw [hnext,← Bool.and_assoc,← k2];rfl
       unfold hR at hvn
       generalize Jf1 cd (JfJ a (x cd.arg.toNat))=hv at hh hvn
       obtain ⟨arg,op,mask,value⟩:=cd
       dsimp only at q1 q2 hh ha8
       refine stp ?_
       obtain rfl | rfl | rfl | rfl | rfl | rfl:arg=0∨arg=1∨arg=2∨arg=3∨arg=4∨arg=5:=by omega
       ·refine Jah 16 _ (fun _=> false) (fun i=> match i with | 14=> true | 15=> true | _=> false) [0,1,2,3,4,5,6,7,8,9,10,11,12,13,14,15] (by kernel_rfl) (by kernel_rfl) (HB.refl _) ?_
        refine stp ?_
        refine ⟨Bd,JaW (b:= .rp [int 0,int op,u64 (mask:Nat),u64 (value:Nat)]) (congrArg (fun c:Cnd=> AV.rp (J6 c).cells) hcd) ?_⟩
        refine stp ?_
        refine ⟨Bd,JaW (b:= .rp [int 0,int op,u64 (mask:Nat),u64 (value:Nat)]) (congrArg (fun c:Cnd=> AV.rp (J6 c).cells) hcd) ?_⟩
        refine stp ?_
        refine ⟨_,JG rfl rfl rfl ha8 ⟨Rf,Rf,trivial⟩ (NoId.v _), ?_⟩
        refine stp ?_
        refine ⟨_,JG rfl rfl rfl hh ⟨Rf,Rf,trivial⟩ (NoId.v _), ?_⟩
        refine stp ?_
        exact back (j+1,hv,nx2) ⟨hj,hvn.symm⟩ Dm (Et (pm:= []) (bx:= [((3,nx1), .c [Jj r.name,int r.act.1,int r.act.2,JaU r.conds]),((2,nx+2), .c [int 0,int 0]),((1,nx+1), .c (JeU x)),((0,nx), .c (Jcw k n x32 rs))]) rfl rfl Bf trivial ⟨Rf,Rf,Rf,Rf,Rf,Rf,Rf,Rf,Lw,trivial⟩)
       ·refine Jah 16 _ (fun _=> false) (fun i=> match i with | 14=> true | 15=> true | _=> false) [0,1,2,3,4,5,6,7,8,9,10,11,12,13,14,15] (by kernel_rfl) (by kernel_rfl) (HB.refl _) ?_
        refine stp ?_
        refine ⟨Bd,JaW (b:= .rp [int 1,int op,u64 (mask:Nat),u64 (value:Nat)]) (congrArg (fun c:Cnd=> AV.rp (J6 c).cells) hcd) ?_⟩
        refine stp ?_
        refine ⟨Bd,JaW (b:= .rp [int 1,int op,u64 (mask:Nat),u64 (value:Nat)]) (congrArg (fun c:Cnd=> AV.rp (J6 c).cells) hcd) ?_⟩
        refine stp ?_
        refine ⟨_,JG rfl rfl rfl ha8 ⟨Rf,Rf,trivial⟩ (NoId.v _), ?_⟩
        refine stp ?_
        refine ⟨_,JG rfl rfl rfl hh ⟨Rf,Rf,trivial⟩ (NoId.v _), ?_⟩
        refine stp ?_
        exact back (j+1,hv,nx2) ⟨hj,hvn.symm⟩ Dm (Et (pm:= []) (bx:= [((3,nx1), .c [Jj r.name,int r.act.1,int r.act.2,JaU r.conds]),((2,nx+2), .c [int 0,int 0]),((1,nx+1), .c (JeU x)),((0,nx), .c (Jcw k n x32 rs))]) rfl rfl Bf trivial ⟨Rf,Rf,Rf,Rf,Rf,Rf,Rf,Rf,Lw,trivial⟩)
       ·refine Jah 16 _ (fun _=> false) (fun i=> match i with | 14=> true | 15=> true | _=> false) [0,1,2,3,4,5,6,7,8,9,10,11,12,13,14,15] (by kernel_rfl) (by kernel_rfl) (HB.refl _) ?_
        refine stp ?_
        refine ⟨Bd,JaW (b:= .rp [int 2,int op,u64 (mask:Nat),u64 (value:Nat)]) (congrArg (fun c:Cnd=> AV.rp (J6 c).cells) hcd) ?_⟩
        refine stp ?_
        refine ⟨Bd,JaW (b:= .rp [int 2,int op,u64 (mask:Nat),u64 (value:Nat)]) (congrArg (fun c:Cnd=> AV.rp (J6 c).cells) hcd) ?_⟩
        refine stp ?_
        refine ⟨_,JG rfl rfl rfl ha8 ⟨Rf,Rf,trivial⟩ (NoId.v _), ?_⟩
        refine stp ?_
        refine ⟨_,JG rfl rfl rfl hh ⟨Rf,Rf,trivial⟩ (NoId.v _), ?_⟩
        refine stp ?_
        exact back (j+1,hv,nx2) ⟨hj,hvn.symm⟩ Dm (Et (pm:= []) (bx:= [((3,nx1), .c [Jj r.name,int r.act.1,int r.act.2,JaU r.conds]),((2,nx+2), .c [int 0,int 0]),((1,nx+1), .c (JeU x)),((0,nx), .c (Jcw k n x32 rs))]) rfl rfl Bf trivial ⟨Rf,Rf,Rf,Rf,Rf,Rf,Rf,Rf,Lw,trivial⟩)
       ·refine Jah 16 _ (fun _=> false) (fun i=> match i with | 14=> true | 15=> true | _=> false) [0,1,2,3,4,5,6,7,8,9,10,11,12,13,14,15] (by kernel_rfl) (by kernel_rfl) (HB.refl _) ?_
        refine stp ?_
        refine ⟨Bd,JaW (b:= .rp [int 3,int op,u64 (mask:Nat),u64 (value:Nat)]) (congrArg (fun c:Cnd=> AV.rp (J6 c).cells) hcd) ?_⟩
        refine stp ?_
        refine ⟨Bd,JaW (b:= .rp [int 3,int op,u64 (mask:Nat),u64 (value:Nat)]) (congrArg (fun c:Cnd=> AV.rp (J6 c).cells) hcd) ?_⟩
        refine stp ?_
        refine ⟨_,JG rfl rfl rfl ha8 ⟨Rf,Rf,trivial⟩ (NoId.v _), ?_⟩
        refine stp ?_
        refine ⟨_,JG rfl rfl rfl hh ⟨Rf,Rf,trivial⟩ (NoId.v _), ?_⟩
        refine stp ?_
        exact back (j+1,hv,nx2) ⟨hj,hvn.symm⟩ Dm (Et (pm:= []) (bx:= [((3,nx1), .c [Jj r.name,int r.act.1,int r.act.2,JaU r.conds]),((2,nx+2), .c [int 0,int 0]),((1,nx+1), .c (JeU x)),((0,nx), .c (Jcw k n x32 rs))]) rfl rfl Bf trivial ⟨Rf,Rf,Rf,Rf,Rf,Rf,Rf,Rf,Lw,trivial⟩)
       ·refine Jah 16 _ (fun _=> false) (fun i=> match i with | 14=> true | 15=> true | _=> false) [0,1,2,3,4,5,6,7,8,9,10,11,12,13,14,15] (by kernel_rfl) (by kernel_rfl) (HB.refl _) ?_
        refine stp ?_
        refine ⟨Bd,JaW (b:= .rp [int 4,int op,u64 (mask:Nat),u64 (value:Nat)]) (congrArg (fun c:Cnd=> AV.rp (J6 c).cells) hcd) ?_⟩
        refine stp ?_
        refine ⟨Bd,JaW (b:= .rp [int 4,int op,u64 (mask:Nat),u64 (value:Nat)]) (congrArg (fun c:Cnd=> AV.rp (J6 c).cells) hcd) ?_⟩
        refine stp ?_
        refine ⟨_,JG rfl rfl rfl ha8 ⟨Rf,Rf,trivial⟩ (NoId.v _), ?_⟩
        refine stp ?_
        refine ⟨_,JG rfl rfl rfl hh ⟨Rf,Rf,trivial⟩ (NoId.v _), ?_⟩
        refine stp ?_
        exact back (j+1,hv,nx2) ⟨hj,hvn.symm⟩ Dm (Et (pm:= []) (bx:= [((3,nx1), .c [Jj r.name,int r.act.1,int r.act.2,JaU r.conds]),((2,nx+2), .c [int 0,int 0]),((1,nx+1), .c (JeU x)),((0,nx), .c (Jcw k n x32 rs))]) rfl rfl Bf trivial ⟨Rf,Rf,Rf,Rf,Rf,Rf,Rf,Rf,Lw,trivial⟩)
       ·refine Jah 16 _ (fun _=> false) (fun i=> match i with | 14=> true | 15=> true | _=> false) [0,1,2,3,4,5,6,7,8,9,10,11,12,13,14,15] (by kernel_rfl) (by kernel_rfl) (HB.refl _) ?_
        refine stp ?_
        refine ⟨Bd,JaW (b:= .rp [int 5,int op,u64 (mask:Nat),u64 (value:Nat)]) (congrArg (fun c:Cnd=> AV.rp (J6 c).cells) hcd) ?_⟩
        refine stp ?_
        refine ⟨Bd,JaW (b:= .rp [int 5,int op,u64 (mask:Nat),u64 (value:Nat)]) (congrArg (fun c:Cnd=> AV.rp (J6 c).cells) hcd) ?_⟩
        refine stp ?_
        refine ⟨_,JG rfl rfl rfl ha8 ⟨Rf,Rf,trivial⟩ (NoId.v _), ?_⟩
        refine stp ?_
        refine ⟨_,JG rfl rfl rfl hh ⟨Rf,Rf,trivial⟩ (NoId.v _), ?_⟩
        refine stp ?_
        exact back (j+1,hv,nx2) ⟨hj,hvn.symm⟩ Dm (Et (pm:= []) (bx:= [((3,nx1), .c [Jj r.name,int r.act.1,int r.act.2,JaU r.conds]),((2,nx+2), .c [int 0,int 0]),((1,nx+1), .c (JeU x)),((0,nx), .c (Jcw k n x32 rs))]) rfl rfl Bf trivial ⟨Rf,Rf,Rf,Rf,Rf,Rf,Rf,Rf,Lw,trivial⟩)
end Go.Proofs.W

namespace Go.Proofs.W
open Go.Vl
set_option maxRecDepth 100000
set_option maxHeartbeats 4000000 in
theorem JlB (p:Pol) (nm:ByteArray) (hl:p.rules.length≤1000000):Tells Tryz.prog 42 [Jar p,Jj nm] (JeP (Jax p nm)):=by
 obtain ⟨⟨k,n⟩,x32,rs⟩:=p
 dsimp only at hl
 refine Jc Tryz.func42 rfl rfl fun nx=> ?_
 refine stp ?_
 refine Jr (fun y:Nat×Nat=> mk 49 [(1,Jj nm),(2, .bp (0,nx) 0),(4, .bp (1,nx+1) 0),(5,int y.1)] ⟨[((1,nx+1), .c [int 0,int 0]),((0,nx), .c (Jcw k n x32 rs))], [],y.2,2⟩) (fun y=> y.1≤rs.length∧∀j,j < y.1→kS (rs.getD j Ju).name nm=false) (fun y=> rs.length - y.1) ?_ ?_
 ·exact ⟨(0,nx+2),⟨Nat.zero_le _,fun j h=> absurd h (Nat.not_lt_zero _)⟩,Et (pm:= []) (bx:= [((1,nx+1), .c [int 0,int 0]),((0,nx), .c (Jcw k n x32 rs))]) rfl rfl Bf trivial ⟨Rf,Rf,Rf,Rf,trivial⟩⟩
 ·rintro ⟨i,nx1⟩ ⟨h1,h2⟩
  dsimp only at h1 h2
  refine stp ?_
  intro c g1;cases c
  ·have g1:=Jm g1
   try dsimp only at g1
   have hi:i=rs.length:=by omega
   subst hi
   have hd:Jax ⟨(k,n),x32,rs⟩ nm=(k,n):=by
    unfold Jax
    rw [List.find?_eq_none.2 fun r hr=> ?_]
    obtain ⟨j,hj,rfl⟩:=List.mem_iff_getElem.1 hr
    have:=h2 j hj
    rw [show rs.getD j Ju=rs[j] by simp [List.getD,hj]] at this
    rw [this];decide
   refine stp ?_
   exact Ji rfl ⟨rfl,trivial⟩ (AVle.of_eq (by rw [hd];rfl))
  ·have g1:=Jl g1
   try dsimp only at g1
   have hi:i < rs.length:=by omega
   generalize hr:rs.getD i Ju=r
   have hcell:AV.rp (Jau (rs.getD i Ju)).cells= .rp [Jj r.name,int r.act.1,int r.act.2,JaU r.conds]:=by rw [hr];rfl
   refine stp ?_
   refine ⟨Bd,Jh (b:= .rp [Jj r.name,int r.act.1,int r.act.2,JaU r.conds]) hcell ?_⟩
   refine stp ?_
   intro c hc
   have hc2:c=kS r.name nm:=hc
   cases c
   ·refine stp ?_
    refine ⟨Bd,Jh (b:= .rp [Jj r.name,int r.act.1,int r.act.2,JaU r.conds]) hcell ?_⟩
    refine stp ?_
    intro c hc3
    obtain rfl:c=false:=hc3.trans hc2.symm
    refine stp ?_
    exact back (i+1,nx1) ⟨hi,fun j hj=> by dsimp only at hj;rcases Nat.lt_or_ge j i with q | q;exact h2 j q;rw [show j=i by omega,hr];exact hc2.symm⟩ Dm (Et (pm:= []) (bx:= [((1,nx+1), .c [int 0,int 0]),((0,nx), .c (Jcw k n x32 rs))]) rfl rfl Bf trivial ⟨Rf,Rf,Rf,Lw,trivial⟩)
   ·have hfnd:rs.find? (fun r=> kS r.name nm)=some r:=by
     have:=Je1 (q:=fun r=> kS r.name nm) hi h2 (by rw [hr];exact hc2.symm)
     rw [hr] at this
     exact this
    refine stp ?_
    refine ⟨Bd,Jh (b:= .rp [Jj r.name,int r.act.1,int r.act.2,JaU r.conds]) hcell ?_⟩
    refine stp ?_
    intro c hc3
    have hc4:c=decide (r.conds.length=0):=hc3.trans (by rw [Bool.eq_iff_iff];simp)
    cases c
    ·have hd:Jax ⟨(k,n),x32,rs⟩ nm=(k,n):=by unfold Jax;rw [hfnd];exact if_neg (of_decide_eq_false hc4.symm)
     refine stp ?_
     refine ⟨Bd,Jh (b:= .rp [Jj r.name,int r.act.1,int r.act.2,JaU r.conds]) hcell ?_⟩
     refine stp ?_
     intro c hc5
     obtain rfl:c=true:=hc5.trans hc2.symm
     refine stp ?_
     exact Ji rfl ⟨rfl,trivial⟩ (AVle.of_eq (by rw [hd];rfl))
    ·have hd:Jax ⟨(k,n),x32,rs⟩ nm=r.act:=by unfold Jax;rw [hfnd];exact if_pos (of_decide_eq_true hc4.symm)
     refine stp ?_
     refine ⟨Bd,Jh (b:= .rp [Jj r.name,int r.act.1,int r.act.2,JaU r.conds]) hcell ?_⟩
     refine stp ?_
     exact Ji rfl ⟨rfl,trivial⟩ (AVle.of_eq (by rw [hd];rfl))
end Go.Proofs.W

namespace Go.Proofs.W
open Go.Vl
set_option maxRecDepth 100000
theorem JiN (a:A2) (h:J2 a.1 a.2=true):Tells Tryz.prog 41 [JeP a] (int (Jdu a:Nat)):=by
 obtain ⟨k,n⟩:=a
 obtain ⟨k',n',rfl,rfl,h1,h2⟩:=JfS h
 have:=Jqe k' n' h1 h2
 unfold Jdu
 dsimp only
 rw [show ((k'+1:Nat):Int).toNat - 1=k' by omega,show ((n':Nat):Int).toNat=n' by omega]
 exact this
theorem Jqq {p:Pol} (h:Jaw p=true) (nm:ByteArray) (a:Int) (x:Nat→Nat):J2 (Jep p nm a x).1 (Jep p nm a x).2=true:=by
 obtain ⟨h1,h2⟩:=Jf9 h
 unfold Jep
 cases hf:p.rules.find? (fun r=> kS r.name nm&& r.conds.all (hR a x)) with
 | none=> exact h1
 | some r=> exact JgE (h2 r (List.mem_of_find?_eq_some hf))
theorem Jir {p:Pol} (h:Jaw p=true):∀r∈p.rules,∀c∈r.conds,Jaf c=true:=fun r hr c hc=> by
 have:=(Jf9 h).2 r hr
 unfold JaZ at this
 simp only [Bool.and_eq_true,Bool.not_eq_true',List.any_eq_false] at this
 have:=this.2.2.2 c hc
 simpa using this
def JvU (p:Pol) (l:List TRow) (s:Int) (x:Nat→Nat) (mx:Bool):Option Nat→A2
 | none=> p.dflt
 | some i=> if mx=true then Jax p (l.getD i Jf).name else Jep p (l.getD i Jf).name s x
def Jko (p:Pol) (l:List TRow) (r:Rec):A2:=JvU p l (Ja8 r.arch r.num) r.arg (JiK r) (atO l r)
def JeN (p:Pol) (l:List TRow) (r:Rec):Nat:=if (decide (Ja8 r.arch r.num < 0)|| (decide (Ja8 r.arch r.num=1)&& !p.x32))=true then 2147483648 else Jdu (Jko p l r)
set_option maxHeartbeats 8000000 in
theorem JlC (p:Pol) (l:List TRow) (r:Rec) (hp:Je2 p) (hR:Jaw p=true) (hl:l.length≤1000000) (hr:r.ok):Tells Tryz.prog 17 [Jar p,Js l,Jag r] (int (JeN p l r:Nat)):=by
 have hof:=Jr0 l r hr hl
 unfold Jqj at hof
 have hlt:∀i,atO l r=some i→i < l.length:=fun i h=> Jr3 h
 have hbl:∀nm,_:=fun nm=> JlB p nm hp.1
 have hdc:∀nm,_:=fun nm=> Jkn p nm (Ja8 r.arch r.num) r.arg (Jr1 hr) hp (Jir hR)
 have hblr:∀nm,_:=fun nm=> JiN (Jax p nm) (Jiq hR nm)
 have hdcr:∀nm,_:=fun nm=> JiN (Jep p nm (Ja8 r.arch r.num) r.arg) (Jqq hR nm _ _)
 have hdf:=JiN p.dflt (Jf9 hR).1
 unfold JeN Jko
 generalize Ja8 r.arch r.num=s at hof hdc hdcr
 generalize JiK r=mx at hof
 generalize atO l r=at' at hof hlt
 obtain ⟨⟨k,n⟩,x32,rs⟩:=p
 dsimp only at hdf⊢
 generalize hA:(if (decide (s < 0)|| (decide (s=1)&& !x32))=true then 2147483648 else Jdu (JvU ⟨(k,n),x32,rs⟩ l s r.arg mx at'))=A
 refine Jc Tryz.func17 rfl rfl fun nx=> ?_
 refine stp ?_
 refine Jh (b:=Jag r) rfl ?_
 refine stp ?_
 refine Jb rfl rfl hof ⟨Rf,Rf,trivial⟩ fun nx2=> ?_
 refine Jt ?_
 refine JeF (fun y:Nat=> mk 54 [(1,Js l),(3, .bp (0,nx) 0),(5, .bp (1,nx+1) 0),(7, .bp (2,nx2) 0),(23,Jg (decide (s < 0)|| (decide (s=1)&& !x32)))] ⟨[((2,nx2), .c [int s,int (JaV at'),Jg mx]),((1,nx+1), .c (Jaj r)),((0,nx), .c (Jcw k n x32 rs))], [],y,3⟩) (fun _=> True) ?_ ?_
 ·refine Jv ?_
  refine stp ?_
  intro c hc
  have hc2:c=decide (s < 0):=hc
  clear hc
  cases c
  ·refine stp ?_
   intro c hc
   have hc3:c=decide (s=1):=hc.trans (by rw [Bool.eq_iff_iff];simp)
   clear hc
   cases c
   ·refine stp ?_
    exact ⟨nx2+1,trivial,Et (pm:= []) (bx:= [((2,nx2), .c [int s,int (JaV at'),Jg mx]),((1,nx+1), .c (Jaj r)),((0,nx), .c (Jcw k n x32 rs))]) rfl rfl Bf trivial ⟨Rf,Rf,Rf,Rf,AVle.of_eq (by rw [← hc2,← hc3];rfl),trivial⟩⟩
   ·cases x32
    ·refine stp ?_
     exact ⟨nx2+1,trivial,Et (pm:= []) (bx:= [((2,nx2), .c [int s,int (JaV at'),Jg mx]),((1,nx+1), .c (Jaj r)),((0,nx), .c (Jcw k n false rs))]) rfl rfl Bf trivial ⟨Rf,Rf,Rf,Rf,AVle.of_eq (by rw [← hc2,← hc3];rfl),trivial⟩⟩
    ·refine stp ?_
     exact ⟨nx2+1,trivial,Et (pm:= []) (bx:= [((2,nx2), .c [int s,int (JaV at'),Jg mx]),((1,nx+1), .c (Jaj r)),((0,nx), .c (Jcw k n true rs))]) rfl rfl Bf trivial ⟨Rf,Rf,Rf,Rf,AVle.of_eq (by rw [← hc2,← hc3];rfl),trivial⟩⟩
  ·refine stp ?_
   exact ⟨nx2+1,trivial,Et (pm:= []) (bx:= [((2,nx2), .c [int s,int (JaV at'),Jg mx]),((1,nx+1), .c (Jaj r)),((0,nx), .c (Jcw k n x32 rs))]) rfl rfl Bf trivial ⟨Rf,Rf,Rf,Rf,AVle.of_eq (by rw [← hc2];rfl),trivial⟩⟩
 ·rintro nx3 -
  generalize hb:(decide (s < 0)|| (decide (s=1)&& !x32))=bb at hA
  cases bb with
  | true=>
    rw [if_pos rfl] at hA
    refine stp ?_
    exact Ja rfl (AVle.of_eq (by rw [← hA];rfl))
  | false=>
    rw [if_neg Dc] at hA
    cases at' with
    | none=>
      have hA:Jdu (k,n)=A:=hA
      refine stp ?_
      refine Jb rfl rfl hdf ⟨Rf,trivial⟩ fun nx4=> ?_
      refine stp ?_
      exact Ja rfl (AVle.of_eq (by rw [← hA];rfl))
    | some i=>
      have hi:=hlt i rfl
      have hA:Jdu (if mx=true then Jax ⟨(k,n),x32,rs⟩ (l.getD i Jf).name else Jep ⟨(k,n),x32,rs⟩ (l.getD i Jf).name s r.arg)=A:=hA
      have hbl:=hbl (l.getD i Jf).name
      have hdc:=hdc (l.getD i Jf).name
      have hblr:=hblr (l.getD i Jf).name
      have hdcr:=hdcr (l.getD i Jf).name
      cases mx with
      | true=>
        rw [if_pos rfl] at hA
        refine stp ?_
        refine Jah 9 _ (fun _=> false) (fun i=> match i with | 7=> true | 8=> true | _=> false) [0,1,2,3,4,5,6,7,8] (by kernel_rfl) (by kernel_rfl) (HB.refl _) ?_
        refine stp ?_
        refine ⟨⟨Int.natCast_nonneg i,(show (i:Int) < (l.length:Int) by omega)⟩,JaW (b:= .rp (Jad (l.getD i Jf))) rfl ?_⟩
        refine stp ?_
        refine ⟨_,JG rfl rfl rfl hbl ⟨Rf,Rf,trivial⟩ (NoId.ag (by intro y hy;simp at hy;rcases hy with rfl | rfl <;> exact NoId.v _)), ?_⟩
        refine stp ?_
        refine ⟨_,JG rfl rfl rfl hblr ⟨Rf,trivial⟩ (NoId.v _), ?_⟩
        refine stp ?_
        exact Ja rfl (AVle.of_eq (by rw [← hA];rfl))
      | false=>
        rw [if_neg Dc] at hA
        refine stp ?_
        refine Jah 13 _ (fun _=> false) (fun i=> match i with | 11=> true | 12=> true | _=> false) [0,1,2,3,4,5,6,7,8,9,10,11,12] (by kernel_rfl) (by kernel_rfl) (HB.refl _) ?_
        refine stp ?_
        refine ⟨⟨Int.natCast_nonneg i,(show (i:Int) < (l.length:Int) by omega)⟩,JaW (b:= .rp (Jad (l.getD i Jf))) rfl ?_⟩
        refine stp ?_
        refine ⟨_,JG rfl rfl rfl hdc ⟨Rf,Rf,Rf,Rf,trivial⟩ (NoId.ag (by intro y hy;simp at hy;rcases hy with rfl | rfl <;> exact NoId.v _)), ?_⟩
        refine stp ?_
        refine ⟨_,JG rfl rfl rfl hdcr ⟨Rf,trivial⟩ (NoId.v _), ?_⟩
        refine stp ?_
        exact Ja rfl (AVle.of_eq (by rw [← hA];rfl))
end Go.Proofs.W

namespace Go.Proofs.W
open Go.Vl
set_option maxRecDepth 100000
theorem Jlc {α:Type} {p q:α→Bool}:∀ {l:List α},(∀x∈l,p x=q x)→l.find? p=l.find? q
 | [],_=> rfl
 | x::l,h=> by
   rw [List.find?_cons,List.find?_cons,h x (.head _),Jlc fun y hy=> h y (.tail _ hy)]
theorem Jum {x y:Nat→Nat} {a:Int} {c:Cnd} (hc:Jaf c=true) (hxy:∀i,x i=JfJ a (y i)):hB x c=hR a y c:=by
 obtain ⟨h1,h2,_⟩:=JdR.1 hc
 unfold hB hR
 rw [hc,Bool.true_and]
 obtain ⟨arg,op,mask,value⟩:=c
 dsimp only at h1 h2⊢
 obtain rfl | rfl | rfl | rfl | rfl | rfl:arg=0∨arg=1∨arg=2∨arg=3∨arg=4∨arg=5:=by omega
 ·rw [← hxy];rfl
 ·rw [← hxy];rfl
 ·rw [← hxy];rfl
 ·rw [← hxy];rfl
 ·rw [← hxy];rfl
 ·rw [← hxy];rfl
theorem JvV {p:Pol} (h:∀r∈p.rules,∀c∈r.conds,Jaf c=true) (nm:ByteArray) {x y:Nat→Nat} {a:Int} (hxy:∀i,x i=JfJ a (y i)):Jd4 p nm x=Jep p nm a y:=by
 have e:p.rules.find? (fun r=> kS r.name nm&& JeT x r)=p.rules.find? (fun r=> kS r.name nm&& r.conds.all (hR a y)):=Jlc fun r hr=> by
  show (kS r.name nm&& r.conds.all (hB x))=(kS r.name nm&& r.conds.all (hR a y))
  refine congrArg (kS r.name nm&& ·) ?_
  rw [Bool.eq_iff_iff,List.all_eq_true,List.all_eq_true]
  exact ⟨fun k c hc=> by rw [← Jum (h r hr c hc) hxy];exact k c hc,fun k c hc=> by rw [Jum (h r hr c hc) hxy];exact k c hc⟩
 unfold Jd4 Jep
 (rw [e]) <;> (cases p.rules.find? (fun r=> kS r.name nm&& r.conds.all (hR a y)) <;> rfl)
theorem JvW (l:List TRow) (r:Rec):(Ja8 r.arch r.num < 0∧(ofI l r).some=false)∨(0≤Ja8 r.arch r.num∧ofI l r=⟨true,Ja8 r.arch r.num,JgB l (atO l r),JiK r⟩):=by
 unfold ofI Ja8 atO JiK
 cases hs:JcG r.arch r.num with
 | none=> exact .inl ⟨by decide,rfl⟩
 | some a=>
   refine .inr ⟨Int.natCast_nonneg _, ?_⟩
   dsimp only
   split
   ·rename_i h;rw [decide_eq_true h]
   ·rename_i h;rw [decide_eq_false h]
theorem Jnc {p:Pol} {l:List TRow} {r:Rec} (hp:Jaw p=true) (hl:(JcO l).2=0):Jdu (JcM p l r)=JeN p l r:=by
 unfold JcM JeN Jko
 rcases JvW l r with ⟨h1,h2⟩ | ⟨h1,h2⟩
 ·rw [h2,if_pos (by rfl),if_pos (by rw [decide_eq_true h1];rfl)]
  rfl
 ·rw [h2]
  dsimp only
  rw [show decide (Ja8 r.arch r.num < 0)=false from decide_eq_false Om]
  by_cases hx:(decide (Ja8 r.arch r.num=1)&& !p.x32)=true
  ·rw [if_pos (show (!true|| (decide (Ja8 r.arch r.num=1)&& !p.x32))=true by rw [hx];rfl),if_pos (show (false|| (decide (Ja8 r.arch r.num=1)&& !p.x32))=true by rw [hx];rfl)];rfl
  ·rw [Bool.not_eq_true] at hx
   rw [if_neg (show ¬(!true|| (decide (Ja8 r.arch r.num=1)&& !p.x32))=true by rw [hx];decide),if_neg (show ¬(false|| (decide (Ja8 r.arch r.num=1)&& !p.x32))=true by rw [hx];decide)]
   congr 1
   cases hat:atO l r with
   | none=> rw [if_pos (show (JgB l none).size=0 from rfl)];rfl
   | some i=>
     have hn:=JtJ hl (Jr3 hat)
     rw [if_neg (show ¬(JgB l (some i)).size=0 from hn)]
     show _=if JiK r=true then _ else _
     split
     ·rfl
     ·refine JvV (Jir hp) _ fun k=> ?_
      unfold Jap JfJ
      by_cases q:Ja8 r.arch r.num=2
      ·rw [if_pos q,if_pos (by rw [q];rfl)]
      ·rw [if_neg q,if_neg Om]
end Go.Proofs.W

namespace Go.Proofs.W
open Go.Vl
set_option maxRecDepth 100000
def Jqr (num arch:Nat):Rec:=⟨num,arch,0,0,0,0,0,0,0⟩
theorem JvX:Je2 pAw:=by
 refine ⟨by decide,fun r hr=> ?_⟩
 rw [List.mem_singleton.1 hr]
 exact ⟨by decide,fun c hc=> by cases hc⟩
theorem Ju2:pAw.ok:=by
 refine ⟨by decide,fun r hr=> ?_⟩
 rw [List.mem_singleton.1 hr]
 exact ⟨by decide,by decide,fun c hc=> by cases hc⟩
end Go.Proofs.W

namespace Go.Proofs.W
open Go.Vl
set_option maxRecDepth 100000
theorem Ju3 {num arch:Nat} (h1:num < 4294967296) (h2:arch < 4294967296):(Jqr num arch).ok:=by unfold Jqr Rec.ok;exact ⟨h1,h2,Nat.zero_lt_succ _,Nat.zero_lt_succ _,Nat.zero_lt_succ _,Nat.zero_lt_succ _,Nat.zero_lt_succ _,Nat.zero_lt_succ _,Nat.zero_lt_succ _⟩
end Go.Proofs.W

namespace Go.Proofs.W
open Go.Vl
set_option maxRecDepth 100000
theorem Jqs {p:Pol} (h:Jf8 p=true):p.rules.length≤40∧∀r∈p.rules,r.conds.length≤12:=by
 unfold Jf8 at h
 simp only [Bool.and_eq_true,decide_eq_true_eq,List.all_eq_true] at h
 refine ⟨h.1,fun r hr=> ?_⟩
 have:=h.2 r hr
 unfold Jd3 at this
 simp only [Bool.and_eq_true,decide_eq_true_eq] at this
 exact this.2
theorem JtM {p:Pol} (hp:p.ok) (h:Jf8 p=true):Je2 p:=by
 obtain ⟨h1,h2⟩:=Jqs h
 exact ⟨by omega,fun r hr=> ⟨by have:=h2 r hr;omega,(hp.2 r hr).2.2⟩⟩
theorem Jom (l:List Cnd):NoId (JaU l):=NoId.sl fun i _ c hc=> by
 have hc:c∈(J6 (l.getD i cnd0)).cells:=hc
 unfold J6 AV.cells at hc
 simp only [List.mem_cons,List.not_mem_nil,or_false] at hc
 rcases hc with rfl | rfl | rfl | rfl <;> exact NoId.v _
theorem Jon (L:List Rul):NoId (J8 L):=NoId.sl fun i _ c hc=> by
 have hc:c∈(Jau (L.getD i Ju)).cells:=hc
 unfold Jau AV.cells at hc
 simp only [List.mem_cons,List.not_mem_nil,or_false] at hc
 rcases hc with rfl | rfl | rfl | rfl
 ·exact NoId.v _
 ·exact NoId.v _
 ·exact NoId.v _
 ·exact Jom _
theorem Jqt (p:Pol):NoId (Jar p):=NoId.ag (by
 intro y hy
 simp only [List.mem_cons,List.not_mem_nil,or_false] at hy
 rcases hy with rfl | rfl | rfl | rfl
 ·exact NoId.v _
 ·exact NoId.v _
 ·exact NoId.v _
 ·exact Jon _)
end Go.Proofs.W

namespace Go.Proofs.W
open Go.Vl
set_option maxRecDepth 100000
theorem Joo (p:Pol) (l:List TRow) (r:Rec):(Jaw p=false∧Jbt p l r=(0,13))∨(Jaw p=true∧(JcO l).2≠0∧Jbt p l r=(0,18))∨(Jaw p=true∧(JcO l).2=0∧Jbt p l r=(JeN p l r,0)∧JeN p l r < 4294967296):=by
 unfold Jbt
 cases hp:Jaw p with
 | false=> exact .inl ⟨rfl,by rw [if_pos rfl]⟩
 | true=>
   refine .inr ?_
   by_cases hl:(JcO l).2=0
   ·refine .inr ⟨rfl,hl, ?_, ?_⟩
    ·rw [if_neg Dc,if_neg (fun q=> q hl),Jnc hp hl]
    ·rw [← Jnc hp hl];exact JtL (Jhx hp l r)
   ·exact .inl ⟨rfl,hl,by rw [if_neg Dc,if_pos hl]⟩
theorem Ju4 (v:Nat) (e:Int):NoId (.tup [u32 (v:Nat),int e]):=NoId.tup (by
 intro y hy
 simp only [List.mem_cons,List.not_mem_nil,or_false] at hy
 rcases hy with rfl | rfl <;> exact NoId.v _)
end Go.Proofs.W

namespace Go.Proofs.W
open Go.Vl
set_option maxRecDepth 100000
def Jnd (l:List Ins) (b:List Nat):Nat:=if (checkI l).2=0 then (runI b l).1 else 0
theorem JoU {l:List Ins} {b:List Nat} (hb:b.length=64):(vmI l b).2.1=Jnd l b∧(vmI l b).1=(checkI l).2:=by
 unfold vmI Jnd
 by_cases h:(checkI l).2=0
 ·rw [if_neg Om,if_neg Om,if_neg Om,if_pos h];exact ⟨rfl,h.symm⟩
 ·rw [if_pos h,if_neg h];exact ⟨rfl,rfl⟩
theorem Jsb (l:List Ins) (hok:okL l) (hl:l.length≤4096) (b:List Nat) (hb:okB b) (hbl:b.length=64):Tells Tryz.prog 24 [JI (Jav l),JI b] (.tup [u32 (Jnd l b),int (checkI l).2]):=by
 have hvm:=JpW l hok Om b hb Om
 rw [(JoU hbl).1,(JoU hbl).2] at hvm
 generalize (vmI l b).2.2=s at hvm
 refine Jc Tryz.func24 rfl rfl fun nx=> ?_
 refine stp ?_
 refine Jb rfl rfl (JkV l hok hl) ⟨Rf,trivial⟩ fun nx1=> ?_
 refine stp ?_
 refine Jb rfl rfl hvm ⟨Rf,Rf,trivial⟩ fun nx2=> ?_
 refine stp ?_
 exact Ja rfl Rf
theorem Jsc (x y z:List AV) (l:List Rec) (p:Rec→Bool) (f:Nat) (hl:l.length≤1000000000) (hp:∀i,i < l.length→Tells Tryz.prog f (Jag (l.getD i JaF):: [.rp x, .rp y, .rp z]) (Jg (p (l.getD i JaF)))):
 Tells Tryz.prog 21 [JeQ l,(.fn (.func f) [] [.rp x, .rp y, .rp z])] (int (JaV (l.findIdx? p))):=by
 refine Jc Tryz.func21 rfl rfl fun nx=> ?_
 refine stp ?_
 refine Jr (fun s:Nat×Nat=> mk 19 [(0,JeQ l),(1,(.fn (.func f) [] [.rp x, .rp y, .rp z])),(7,int l.length),(8,int s.1)] ⟨[], [],s.2,0⟩) (fun s=> s.1≤l.length∧∀j,j < s.1→p (l.getD j JaF)=false) (fun s=> l.length - s.1) ?_ ?_
 ·exact ⟨(0,nx),⟨by simp,by intro j hj;simp at hj⟩,JH rfl rfl ⟨Rf,Rf,Rf,Rf,trivial⟩⟩
 ·rintro ⟨i,nx⟩ ⟨h1,h2⟩
  dsimp only at h1 h2
  refine stp ?_
  intro c h3;cases c
  ·have h3:=Jm h3
   dsimp only at h3
   refine stp ?_
   refine Ja rfl (Jd ?_)
   rw [JcE JaF (fun j hj=> h2 j Om)];rfl
  ·have h3:=Jl h3
   dsimp only at h3
   have hi:i < l.length:=by omega
   refine stp ?_
   refine ⟨⟨by dsimp only;omega,by dsimp only;omega⟩, ?_⟩
   refine stp ?_
   refine Jb rfl rfl (hp i hi) ⟨Rf,Rf,Rf,Rf,trivial⟩ fun nx'=> ?_
   intro c h4;cases c
   ·refine stp ?_
    refine back (i+1,nx') ⟨by dsimp only;omega,fun j hj=> ?_⟩ Dm (JH rfl rfl ⟨Rf,Rf,Rf,Jd (Jk Dm),trivial⟩)
    dsimp only at hj
    rcases Nat.lt_or_ge j i with h | h
    ·exact h2 j h
    ·obtain rfl:j=i:=by omega
     exact h4.symm
   ·refine stp ?_
    refine Ja rfl (Jd ?_)
    rw [JdS JaF hi h2 h4.symm];rfl
def Jkp (p:Pol):List AV:= [int p.dflt.1,int p.dflt.2,Jg p.x32,J8 p.rules]
def Jkq (l:List Ins) (p:Pol) (t:List TRow) (r:Rec):Bool:=(Jnd l (Jek r):Int) !=(Jbt p t r).1
set_option maxHeartbeats 2000000 in
theorem Jsd (l:List Ins) (p:Pol) (t:List TRow) (r:Rec) (hok:okL l) (hl:l.length≤4096) (hp:Je2 p) (hpk:p.ok) (ht:t.length≤1000000) (hn:∀q∈t,q.name.size≤maxLen) (hr:r.ok):
 Tells Tryz.prog 22 [Jag r, .rp [JI (Jav l)], .rp (Jkp p), .rp [Js t]] (Jg (Jkq l p t r)):=by
 have hw:=JnS r hr
 have hb:=Jsb l hok hl (Jek r) (Jkc r) (JiH r)
 have hbl:=JiH r
 unfold Jkq
 have hj:=Jhy p t r hp hpk ht hn hr
 refine Jc Tryz.func22 rfl rfl fun nx=> ?_
 refine stp ?_
 refine Jb rfl rfl hw ⟨Rf,Rf,trivial⟩ fun nx1=> ?_
 refine Jt ?_
 refine J4 (n:=29) (nx:=nx1+1) (nn:=2) (pm:= []) (bx:= []) (L:= [(1, .rp [JI (Jav l)]),(2, .rp (Jkp p)),(3, .rp [Js t]),(4, .rp (Jaj r)),(6, .rp (u8s (Jek r)))]) (df:=some []) [((1,nx1), .c (u8s (Jek r))),((0,nx), .c (Jaj r))] rfl rfl rfl (List.Perm.refl _) Sf ⟨Frz.refl _,Frz.refl _,Frz.refl _,Frz.bp (.tail _ (.head _)) rfl,Frz.bp (.head _) rfl,trivial⟩ ?_
 generalize Jek r = b at *
 refine Jah 7 [] (fun _=> false) (fun i=> match i with | 1=> true | 2=> true | _=> false) [0,1,2,3,4,5,6] (by kernel_rfl) (by kernel_rfl) (fun _ _ _ h=> by cases h) ?_
 refine stp ?_
 refine ⟨_,Jmk (e:=5) (n:=64) (f:=fun n:Nat=> u8 n) rfl rfl rfl Tryz.underlying78 Tryz.underlying5 rfl (by kernel_rfl) hbl (fun _=> rfl), ?_⟩
 refine stp ?_
 refine ⟨_,JG rfl rfl rfl hb ⟨Rf,Rf,trivial⟩ (Ju4 _ _), ?_⟩
 refine stp ?_
 unfold Jkp Jaj
 refine Jb rfl rfl hj ⟨Rf,Rf,Rf,trivial⟩ fun nx2=> ?_
 refine stp ?_
 intro c hc
 subst hc
 refine stp ?_
 exact Ja rfl Rf
def JdD (l:List Ins) (p:Pol) (t:List TRow) (R:List Rec):Int×Int:=if (checkI l).2=0 then (if (Jbt p t JaF).2=0 then (JaV (R.findIdx? (Jkq l p t)),0) else (0,(Jbt p t JaF).2)) else (0,((checkI l).2:Nat))
set_option maxHeartbeats 4000000 in
theorem Jop (l:List Ins) (p:Pol) (t:List TRow) (R:List Rec) (hok:okL l) (hl:l.length≤4096) (hp:Je2 p) (hpk:p.ok) (ht:t.length≤1000000) (hn:∀q∈t,q.name.size≤maxLen) (hR:∀r∈R,r.ok) (hRl:R.length≤1000000):
 Tells Tryz.prog 7 [JI (Jav l),Jar p,Js t,JeQ R] (.tup [int (JdD l p t R).1,int (JdD l p t R).2]):=by
 have hck:=Jjv l hok Om
 have hrd:=JkV l hok hl
 have hj:=Jhy p t JaF hp hpk ht hn (by unfold Rec.ok JaF;decide)
 have hix:=Jsc [JI (Jav l)] (Jkp p) [Js t] R (Jkq l p t) 22 Om fun i hi=> Jsd l p t _ hok hl hp hpk ht hn (hR _ (by simp [List.getD,hi]))
 unfold JdD
 generalize (Jbt p t JaF)=J at hj
 generalize JaV (R.findIdx? (Jkq l p t))=I at hix
 generalize checkI l=C at hck
 obtain ⟨v,e⟩:=J
 obtain ⟨c1,c2⟩:=C
 dsimp only at hj hck
 refine Jc Tryz.func7 rfl rfl fun nx=> ?_
 refine stp ?_
 refine Jb rfl rfl hrd ⟨Rf,trivial⟩ fun nx1=> ?_
 refine stp ?_
 refine Jb rfl rfl hck ⟨Rf,trivial⟩ fun nx2=> ?_
 refine stp ?_
 intro c hc
 by_cases h1:c2=0
 ·subst h1
  obtain rfl:c=false:=hc
  refine stp ?_
  refine Jb rfl rfl hj ⟨Rf,Rf,Rf,trivial⟩ fun nx3=> ?_
  refine stp ?_
  intro c hc
  by_cases h2:e=0
  ·subst h2
   obtain rfl:c=false:=hc
   refine Jt ?_
   refine J4 (n:=45) (nx:=nx3) (nn:=3) (pm:= []) (bx:= []) (L:= [(3,JeQ R),(4, .rp [JI (Jav l)]),(5, .rp (Jkp p)),(6, .rp [Js t])]) (df:=some []) [((2,nx+2), .c [Js t]),((1,nx+1), .c (Jkp p)),((0,nx), .c [JI (Jav l)])] rfl rfl rfl (List.Perm.refl _) Sf ⟨Frz.refl _,Frz.bp (.tail _ (.tail _ (.head _))) rfl,Frz.bp (.tail _ (.head _)) rfl,Frz.bp (.head _) rfl,trivial⟩ ?_
   refine stp ?_
   refine Jb rfl rfl hix ⟨Rf,Rf,trivial⟩ fun nx4=> ?_
   refine stp ?_
   exact Ja (r:= .tup [int I,int 0]) rfl Rf
  ·obtain rfl:c=true:=hc.trans (bne_iff_ne.2 h2)
   refine stp ?_
   exact Ja (r:= .tup [int 0,int e]) rfl (AVle.of_eq (by rw [if_pos rfl,if_neg h2]))
 ·obtain rfl:c=true:=hc.trans (bne_iff_ne.2 Om)
  refine stp ?_
  exact Ja (r:= .tup [int 0,int (c2:Nat)]) rfl (AVle.of_eq (by rw [if_neg h1]))
end Go.Proofs.W

namespace Go.Proofs.W
open Go.Vl
set_option maxRecDepth 100000
def u8F (l:List Nat):Nat→AV:=fun k=> u8 (l.getD k 0:Nat)
theorem bR8:Tryz.prog.bytesOf 5=1:=by kernel_rfl
theorem cR8:Tryz.prog.cellsOf 5=1:=by kernel_rfl
theorem Jne {L M:List Nat} {c s:Nat} (i:Option Nat) (h:i=some s):AVle (.os 1 (L.length+M.length) (JbH L.length (u8F L) (u8F M)) (some (c,s))) (.os 1 (L++M).length (u8F (L++M)) (nmN 0 i)):=by
 subst h
 rw [List.length_append]
 refine AVle.trans (AVle.os_fun (f':=u8F (L++M)) fun k hk=> ?_) (AVle.os_nm rfl)
 show (bif Nat.blt k L.length then u8F L k else u8F M (k - L.length))=u8F (L++M) k
 unfold u8F
 cases h:Nat.blt k L.length
 ·have:L.length≤k:=by
   rcases Nat.lt_or_ge k L.length with h' | h'
   ·have h2:Nat.blt k L.length=true:=by simpa using h'
    rw [h] at h2;cases h2
   ·exact h'
  rw [show (L++M).getD k 0=M.getD (k - L.length) 0 by simp [List.getD,List.getElem?_append_right this]];rfl
 ·have:k < L.length:=by simpa using h
  rw [show (L++M).getD k 0=L.getD k 0 by simp [List.getD,List.getElem?_append_left this]];rfl
def Jun (l:List Nat) (r:AV) (h':Heap):Prop:=∃oi nx' nn',r= .os 1 l.length (u8F l) (nmN 0 oi)∧h'=⟨[],JaH (nmN 0 oi) l.length,nx',nn'⟩
theorem w8r {x:Nat} (h:x < 18446744073709551616):IntKind.u64.wrap (x:Int)=(x:Int):=by show (x:Int) % 18446744073709551616=_;omega
theorem Ju5 (n i:Nat):n / 256 ^ i / 256=n / 256 ^ (i+1):=by rw [Nat.div_div_eq_div_mul,Nat.pow_succ]
theorem wr8 (n:Nat):IntKind.u8.wrap (((n % 256:Nat):Int))=((n % 256:Nat):Int):=by show ((n % 256:Nat):Int) % 256=_;omega
theorem Jnf (w n:Nat) (hw:w≤8) (hn:n < 18446744073709551616) (nx:Nat):ECall Tryz.prog 77 [u64 n,int w] ⟨[], [],nx,0⟩ (Jun (JA w n)):=by
 refine ECall.wk (JS Tryz.func77 rfl rfl ?_)
 refine stp ?_
 refine Jr (fun y:Nat×Option Nat×Nat=> mk 21 [(0,u64 (n / 256 ^ y.1:Nat)),(1,int w),(5, .os 1 y.1 (u8F (JA y.1 n)) (nmN 0 y.2.1)),(6,int y.1)] ⟨[],JaH (nmN 0 y.2.1) y.1,y.2.2,1⟩) (fun y=> y.1≤w∧(y.2.1=none→y.1=0)) (fun y=> w - y.1) ?_ ?_
 ·exact ⟨(0,none,nx),⟨Nat.zero_le _,fun _=> rfl⟩,Je (pm:= []) [] [] rfl rfl .slnil .slnil trivial trivial ⟨by rw [Nat.pow_zero,Nat.div_one];exact Rf,Rf,AVle.os_nil,Rf,trivial⟩⟩
 ·rintro ⟨i,oi,nx2⟩ ⟨h1,h2⟩
  dsimp only at h1 h2
  have hlen:=Jjo i n
  refine stp ?_
  intro c g;cases c
  ·have g:=Jm g
   dsimp only at g
   obtain rfl:i=w:=by omega
   refine stp ?_
   exact Jz rfl ⟨_,_,(AVle.of_eq (congrArg (fun k:Nat=> AV.os 1 k (u8F (JA i n)) (nmN 0 oi)) hlen.symm)),Jp (bx:= []) (pm:=JaH (nmN 0 oi) (JA i n).length) (nn:=1) [] (JaH (nmN 0 oi) i) rfl (List.nil_sublist _) Sf trivial (by rw [hlen];exact Pf),oi,nx2,1,rfl,rfl⟩
  ·have g:=Jl g
   dsimp only at g
   have hi:i < w:=by omega
   refine Jt ?_
   refine J7 (fun n=> match n with | 1=> true | _=> false) 7 ?_
   refine stp ?_
   refine Jdm (e:=5) (c:=1) (pm:= []) (n:=i) (oi:=nmN 0 oi) (sz:=1) (f:=u8F (JA i n)) rfl rfl (.inr ⟨_,rfl⟩) (by kernel_rfl) (by kernel_rfl) cR8 (.inr rfl) (by rfl) ?_ (JZ rfl) (by rw [bR8];omega) Om ?_
   ·show JaH (nmN 0 oi) i=_
    rw [Nat.mul_one,List.append_nil]
   refine stp ?_
   refine back (i+1,some nx2,nx2+1) ⟨by dsimp only;omega,fun h=> by cases h⟩ Dm (Je (pm:= [((0,nx2),i+1)]) [] [((1,nx2),(i+1) * 1)] rfl rfl .slnil Sf trivial ⟨rfl,Nat.mul_one _,trivial⟩ ⟨?_,Rf, ?_,Jd (Jk Dm),trivial⟩)
   ·exact AVle.of_eq (congrArg u64 (by show IntKind.u64.wrap ((n / 256 ^ i / 256:Nat):Int)=((n / 256 ^ (i+1):Nat):Int);rw [Ju5];have hq:=Nat.lt_of_le_of_lt (Nat.div_le_self n (256 ^ (i+1))) hn;generalize n / 256 ^ (i+1)=q at hq⊢;show (q:Int) % 18446744073709551616=_;omega))
   ·refine (AVle.os_fun (JaT (fun k hk=> ?_) ?_)).trans (AVle.os_nm rfl)
    ·show u8F (JA i n) k=u8F (JA (i+1) n) k
     unfold u8F
     rw [JfQ,show (JA i n++ [n / 256 ^ i % 256]).getD k 0=(JA i n).getD k 0 by simp [List.getD,List.getElem?_append_left (show k < (JA i n).length by omega)]]
    ·show u8 (IntKind.u8.wrap ((n / 256 ^ i % 256:Nat):Int))=u8F (JA (i+1) n) i
     unfold u8F
     rw [JfQ,wr8,show (JA i n++ [n / 256 ^ i % 256]).getD i 0=n / 256 ^ i % 256 by simp [List.getD,hlen]]
theorem JfT (w n:Nat) (hw:w≤8) (hn:n < 18446744073709551616) (nx:Nat):ECall Tryz.prog 39 [u64 n,int w,Jg false] ⟨[], [],nx,0⟩ (Jun (JA w n)):=by
 refine ECall.wk (JS Tryz.func39 rfl rfl ?_)
 refine stp ?_
 refine Jac (xs:= [u64 n,int w]) [] [] 1 rfl rfl rfl rfl ⟨Rf,Rf,trivial⟩ (Jnf w n hw hn nx) Bf Pf rfl fun r h' hq=> ?_
 obtain ⟨oi,nx',nn',rfl,rfl⟩:=hq
 refine stp ?_
 exact Jz rfl ⟨_,_,Rf,HLe.refl _,oi,nx',1,rfl,rfl⟩
theorem Jng {ops:Array Oper} {B:List (Vl.Id×Own)} {o:Oper} {E:Env} {fo:Operand} {args:Array Operand} {tys:Array TypeId} {first caps:List AV} (nn w n:Nat) (hw:w≤8) (hn:n < 18446744073709551616) (hB:HB B E.h.bx) (hg:o.guard=none)
 (ho:o.op= .call { callee:= .value fo,args:=args,argTypes:=tys}) (hf:E.ev fo= .fn (.func 39) first caps) (hl':LeL (first++args.toList.map E.ev++caps) [u64 n,int w,Jg false]):
 Eff Tryz.prog ops B o E fun r h'=> ∃oi nx',r= .os 1 (JA w n).length (u8F (JA w n)) (nmN nn oi)∧h'=⟨E.h.bx,JaH (nmN nn oi) (JA w n).length++E.h.pm,nx',nn+1⟩:=
 Jiz hg ho hf ((ECall.frame (h:=E.h) (JfT w n hw hn E.h.nx) E.h.bx E.h.pm (by simp) (by simp) rfl).args hl') fun r h' hq=> by
  obtain ⟨h1',⟨oi,nx',nn',rfl,rfl⟩,rfl⟩:=hq
  refine ⟨.os 1 (JA w n).length (u8F (JA w n)) (nmN nn oi),⟨E.h.bx,JaH (nmN nn oi) (JA w n).length++E.h.pm,nx',nn+1⟩, ?_,⟨by simp, ?_,rfl⟩,⟨oi,nx',rfl,rfl⟩,hB⟩
  ·cases oi
   ·exact Rf
   ·exact AVle.os_nm rfl
  ·cases oi <;> simp [JaH,nmN]
theorem Jqu {o:Oper} {E:Env} {p:Operand} {i:Nat} {r:Rec} (ho:o.op= .load 36 p) (hp:E.ev p= .rp (((Jaj r).drop 3).drop (Int.toNat (i:Int) * Tryz.prog.cellsOf 36))) (h:i < 6):Vl.Yields Tryz.prog o E (u64 ([r.a0,r.a1,r.a2,r.a3,r.a4,r.a5].getD i 0:Nat)):=by
 rcases (by omega:i=0∨i=1∨i=2∨i=3∨i=4∨i=5) with rfl | rfl | rfl | rfl | rfl | rfl
 all_goals exact JaL (C:=none) (by rw [ho];show JcB _ _ _ _=_;rw [hp];rfl) trivial
set_option maxHeartbeats 2000000 in
theorem Jnh (r:Rec) (hr:r.ok):Tells Tryz.prog 16 [Jag r,Jg false] (JI (Jek r)):=by
 obtain ⟨h1,h2,h3,h4,h5,h6,h7,h8,h9⟩:=id hr
 refine Jc Tryz.func16 rfl rfl fun nx=> ?_
 refine stp ?_
 refine J4 (n:=37) (nx:=nx+1) (nn:=1) (pm:= []) (bx:= []) (L:= [(1,Jg false),(2, .rp (Jaj r))]) (df:=some []) [((0,nx), .c (Jaj r))] rfl rfl rfl (List.Perm.refl _) Sf ⟨Frz.refl _,Frz.bp (.head _) rfl,trivial⟩ ?_
 unfold Jaj
 refine Jah 11 [] (fun i=> match i with | 4=> true | 9=> true | 10=> true | _=> false) (fun _=> false) [0,1,2,3,5,6,7,8,4,9,10] (by kernel_rfl) (by kernel_rfl) (fun _ _ _ h=> by cases h) ?_
 refine stp ?_
 refine ⟨_,Jng 2 4 r.num Dc Om (fun _ _ _ h=> by cases h) rfl rfl rfl ⟨AVle.of_eq (congrArg u64 (w8r Om)),Rf,Rf,trivial⟩,fun r' h' hr=> ?_⟩
 obtain ⟨oi,nx1,rfl,rfl⟩:=hr
 refine stp ?_
 refine ⟨_,Jng 3 4 r.arch Dc Om (fun _ _ _ h=> by cases h) rfl rfl rfl ⟨AVle.of_eq (congrArg u64 (w8r Om)),Rf,Rf,trivial⟩,fun r' h' hr=> ?_⟩
 obtain ⟨oj,nx2,rfl,rfl⟩:=hr
 refine stp ?_
 refine ⟨_,Jgo (e:=5) (oi:=nmN 2 oi) (n:=4) (m:=4) (f:=u8F (JA 4 r.num)) (f':=u8F (JA 4 r.arch)) (sz:=1) (szx:=1) (fun _ _ _ h=> by cases h) rfl rfl rfl (.inr ⟨nmN 3 oj,rfl⟩) (by kernel_rfl) (by kernel_rfl) (.inr cR8.symm) (.inr cR8.symm) (fun i hi=> ?_) (fun _ _=> rfl) (fun _=> by rw [bR8];omega) (fun _=> by omega),fun r' h' hr=> ?_⟩
 ·rw [cR8];cases oi with
  | none=> cases hi
  | some s=> cases hi;cases oj <;> rfl
 rcases hr with ⟨h0,_⟩ | ⟨_,rfl,rfl⟩
 ·exact absurd h0 Om
 refine Jt ?_
 refine AW.le (Je (n:=37) (nn:=1) (bx:= []) (pm:= [((0,nx2),8)]) (L:= [(1,Jg false),(2, .rp (Jaj r)),(5, .os 1 (JA 4 r.num++JA 4 r.arch).length (u8F (JA 4 r.num++JA 4 r.arch)) (some (0,nx2)))]) [] [((4,nx2),(4+4) * Tryz.prog.cellsOf 5)] rfl rfl .slnil (.cons_cons _ (List.nil_sublist _)) trivial ⟨rfl,by rw [cR8],trivial⟩ ⟨Rf,Rf,by (conv=> arg 1;whnf);exact Jne (L:=JA 4 r.num) (M:=JA 4 r.arch) (some nx2) rfl,trivial⟩) ?_
 unfold Jaj
 refine Jt ?_
 refine J7 (fun n=> match n with | 1=> true | _=> false) 7 ?_
 refine stp ?_
 refine Jac (xs:= [u64 r.ptr,int (8:Nat),Jg false]) [] [((0,nx2),8)] 1 rfl rfl rfl rfl ⟨Rf,Rf,Rf,trivial⟩ (JfT 8 r.ptr Dc h3 (nx2+1)) Bf Pf rfl fun r' h' hq=> ?_
 obtain ⟨ok,nx3,nn3,rfl,rfl⟩:=hq
 refine stp ?_
 refine AOp.kp (Jc3 (e:=5) (oi:=some (0,nx2)) (n:=8) (m:=8) (f:=u8F (JA 4 r.num++JA 4 r.arch)) (f':=u8F (JA 8 r.ptr)) (sz:=1) (szx:=1) rfl rfl (.inr ⟨nmN 0 ok,rfl⟩) (by kernel_rfl) (by kernel_rfl) (.inr cR8.symm) (.inr cR8.symm) (fun i hi=> ?_) (fun _ _=> rfl) (fun _=> by rw [bR8];omega) (fun _=> by omega) (fun h=> by omega) (fun _=> ?_))
 ·rw [cR8];cases hi;rfl
 refine stp ?_
 refine Jr (fun y:Nat×Nat×Nat=> mk 37 [(1,Jg false),(2, .rp [u32 r.num,u32 r.arch,u64 r.ptr,u64 r.a0,u64 r.a1,u64 r.a2,u64 r.a3,u64 r.a4,u64 r.a5]),(5, .os 1 (JbJ r y.1).length (u8F (JbJ r y.1)) (some (0,y.2.1))),(6,int y.1)] ⟨[], [((0,y.2.1),(JbJ r y.1).length)],y.2.2,1⟩) (fun y=> y.1≤6) (fun y=> 6 - y.1) ?_ ?_
 ·refine ⟨(0,nx3,nx3+1),Nat.zero_le _,Je (pm:= [((0,nx3),16)]) [] [((1,nx3),(8+8) * Tryz.prog.cellsOf 5)] rfl rfl .slnil (.cons_cons _ (List.nil_sublist _)) trivial ⟨rfl,by rw [cR8],trivial⟩ ⟨Rf,Rf, ?_,Rf,trivial⟩⟩
  (conv=> arg 1;whnf)
  exact Jne (L:=JA 4 r.num++JA 4 r.arch) (M:=JA 8 r.ptr) (some nx3) rfl
 ·rintro ⟨i,s,nx4⟩ hi6
  dsimp only at hi6
  refine stp ?_
  intro c g;cases c
  ·have g:=Jm g
   dsimp only at g
   obtain rfl:i=6:=by omega
   refine stp ?_
   exact Ja rfl AVle.os_sl
  ·have g:=Jl g
   dsimp only at g
   have hi:i < 6:=by omega
   have hlen:=JfA r (Nat.le_of_lt hi)
   refine Jt ?_
   refine J7 (fun n=> match n with | 1=> true | 4=> true | _=> false) 9 ?_
   refine stp ?_
   refine ⟨⟨by omega,by omega, ?_⟩, ?_⟩
   ·rw [show Tryz.prog.cellsOf 36=1 by kernel_rfl,Nat.mul_one];show Int.toNat (i:Int)≤6;omega
   refine stp ?_
   refine AOp.of_yields (Jqu rfl rfl hi) ?_
   refine stp ?_
   refine Jac (xs:= [u64 ([r.a0,r.a1,r.a2,r.a3,r.a4,r.a5].getD i 0:Nat),int (8:Nat),Jg false]) [] [((0,s),(JbJ r i).length)] 1 rfl rfl rfl rfl ⟨Rf,Rf,Rf,trivial⟩ (JfT 8 _ Dc (JmH hr i) nx4) Bf Pf rfl fun r' h' hq=> ?_
   obtain ⟨ok,nx5,nn5,rfl,rfl⟩:=hq
   refine stp ?_
   refine AOp.kp (Jc3 (e:=5) (oi:=some (0,s)) (n:=(JbJ r i).length) (m:=8) (f:=u8F (JbJ r i)) (f':=u8F (JA 8 ([r.a0,r.a1,r.a2,r.a3,r.a4,r.a5].getD i 0))) (sz:=1) (szx:=1) rfl rfl (.inr ⟨nmN 0 ok,rfl⟩) (by kernel_rfl) (by kernel_rfl) (.inr cR8.symm) (.inr cR8.symm) (fun i hi=> ?_) (fun _ _=> rfl) (fun _=> by rw [bR8];omega) (fun _=> by omega) (fun h=> by omega) (fun _=> ?_))
   ·rw [cR8,Nat.mul_one];cases hi;rfl
   refine stp ?_
   refine back (i+1,nx5,nx5+1) Dm Dm (Je (pm:= [((0,nx5),(JbJ r (i+1)).length)]) [] [((1,nx5),((JbJ r i).length+8) * Tryz.prog.cellsOf 5)] rfl rfl .slnil (.cons_cons _ (List.nil_sublist _)) trivial ⟨rfl,by rw [cR8,JfA r hi,hlen];omega,trivial⟩ ⟨Rf,Rf, ?_,Jd (Jk Dm),trivial⟩)
   dsimp only
   rw [Jjp r hi]
   (conv=> arg 1;whnf)
   exact Jne (L:=JbJ r i) (M:=JA 8 ([r.a0,r.a1,r.a2,r.a3,r.a4,r.a5].getD i 0)) (some nx5) rfl
end Go.Proofs.W

namespace Go.Proofs.W
open Go.Vl
set_option maxRecDepth 100000
end Go.Proofs.W

namespace Go.Proofs.W
open Go.Vl
set_option maxRecDepth 100000
end Go.Proofs.W

namespace Go.Proofs
open Go.Shelf
end Go.Proofs
namespace Go.Proofs.W
open Go.Vl Go.Shelf
set_option maxRecDepth 100000
end Go.Proofs.W

namespace Go.Proofs.W
open Go.Vl
set_option maxRecDepth 100000
end Go.Proofs.W

namespace Go.Proofs.W
open Go.Vl
set_option maxRecDepth 100000
instance:Inhabited Cnd:=⟨cnd0⟩
end Go.Proofs.W

namespace Go.Proofs.W
open Go.Vl
set_option maxRecDepth 100000
end Go.Proofs.W

namespace Go.Proofs.W
open Go.Vl
set_option maxRecDepth 100000
end Go.Proofs.W

namespace Go.Proofs.W
open Go.Vl
set_option maxRecDepth 100000
end Go.Proofs.W
