import Derived.Test.YtcacleckdoninaaGreatDoorQD
import Derived.Sort.Walk0
import Derived.Test.YtcacleckdoninaaGreatDoorQC
import Derived.Shelf.Strings.Search1
import Derived.Shelf.Strings.FieldsFuncGrows
import Derived.Ground.NamesProg
import Derived.Shelf.Lay
import Derived.Shelf.Small.Bits
import Derived.Lib.ItoaNum
import Derived.Sort.LotA
import Derived.Shelf.SortM.Plain
import Derived.Shelf.SortM.SortNone
import Derived.Shelf.SlGeneric
import Derived.Ground.SlgmProg
set_option linter.unusedVariables false
set_option linter.unusedSimpArgs false
set_option maxHeartbeats 16000000
namespace Go.Proofs.W
open Go.Vl
set_option maxRecDepth 100000
abbrev Jbz:=List (Int×Int)
def JaJ (r:TRow) (S:Jbz):Nat→Option Jbz
 | 0=> some S
 | k+1=> match JaJ r S k with
   | none=> none
   | some S=> if r.num k=-1 then some S else if ((k:Int),r.num k)∈S then none else some (S++ [((k:Int),r.num k)])
def Jiw (r:TRow) (S:Jbz):Option Jbz:=if r.mux=0 then some S else if (5+r.mux,r.sub)∈S then none else some (S++ [(5+r.mux,r.sub)])
def leB (s t:ByteArray):Bool:=Op.bytesLess s.toList t.toList|| s.toList ==t.toList
def JeB (l:List TRow) (i:Nat) (S:Jbz):Except Int Jbz:=
 if nameB (l.getD i Jd).name.data.toList=false then .error 13
 else if 0 < i∧leB (l.getD i Jd).name (l.getD (i - 1) Jd).name=true then .error 15
 else if Jcr (l.getD i Jd)=false then .error 16
 else if (l.getD i Jd).a2=102∨(l.getD i Jd).a2=117 then .error 17
 else match JaJ (l.getD i Jd) S 5 with
  | none=> .error 15
  | some S=> match Jiw (l.getD i Jd) S with
    | none=> .error 15
    | some S=> .ok S
def Jdk (l:List TRow):Nat→Except (Nat×Int) Jbz
 | 0=> .ok []
 | k+1=> match Jdk l k with
   | .error e=> .error e
   | .ok S=> match JeB l k S with
     | .error e=> .error (k,e)
     | .ok S=> .ok S
def JbO (l:List TRow):Int×Int:=if 400 < l.length then (0,3) else match Jdk l l.length with
 | .error e=> ((e.1:Int),e.2)
 | .ok _=> (0,0)
theorem Jvf {l:List TRow} {k:Nat} {e:Nat×Int} (h:Jdk l k= .error e):∀ {m:Nat},k≤m→Jdk l m= .error e:=by
 intro m hm
 induction m with
 | zero=> obtain rfl:k=0:=by omega
          exact h
 | succ m ih=>
   rcases Nat.lt_or_ge m k with q | q
   ·rw [show m+1=k by omega];exact h
   ·unfold Jdk;rw [ih q]
theorem JrO {l:List TRow} {i:Nat} {S:Jbz} {e:Int} (hl:¬400 < l.length) (hi:i < l.length) (h:Jdk l i= .ok S) (he:JeB l i S= .error e):JbO l=((i:Int),e):=by
 have h1:Jdk l (i+1)= .error (i,e):=by unfold Jdk;rw [h];dsimp only;rw [he]
 unfold JbO
 rw [if_neg hl,Jvf h1 hi]
theorem Jvg {l:List TRow} {S:Jbz} (hl:¬400 < l.length) (h:Jdk l l.length= .ok S):JbO l=(0,0):=by
 unfold JbO
 rw [if_neg hl,h]
theorem JmW {l:List TRow} {i:Nat} {S S':Jbz} (h:Jdk l i= .ok S) (he:JeB l i S= .ok S'):Jdk l (i+1)= .ok S':=by
 unfold Jdk;rw [h];dsimp only;rw [he]
theorem Jfm {r:TRow} {S S':Jbz} {k:Nat} (h:JaJ r S k=some S') (hn:r.num k=-1):JaJ r S (k+1)=some S':=by
 unfold JaJ;rw [h];dsimp only;rw [if_pos hn]
theorem Jha {r:TRow} {S S':Jbz} {k:Nat} (h:JaJ r S k=some S') (hn:¬r.num k=-1) (hm:((k:Int),r.num k)∈S'):JaJ r S (k+1)=none:=by
 unfold JaJ;rw [h];dsimp only;rw [if_neg hn,if_pos hm]
theorem Jge {r:TRow} {S S':Jbz} {k:Nat} (h:JaJ r S k=some S') (hn:¬r.num k=-1) (hm:¬((k:Int),r.num k)∈S'):JaJ r S (k+1)=some (JcL ((k:Int),r.num k) S'):=by
 unfold JaJ JcL;rw [h];dsimp only;rw [if_neg hn,if_neg hm,if_neg hm]
theorem Jfn {r:TRow} {S:Jbz} {k:Nat} (h:JaJ r S k=none):∀ {m:Nat},k≤m→JaJ r S m=none:=by
 intro m hm
 induction m with
 | zero=> obtain rfl:k=0:=by omega
          exact h
 | succ m ih=>
   rcases Nat.lt_or_ge m k with q | q
   ·rw [show m+1=k by omega];exact h
   ·unfold JaJ;rw [ih q]
def Jb1 (l:List TRow) (i:Nat):Bool:=decide (0 < i)&& leB (l.getD i Jd).name (l.getD (i - 1) Jd).name
theorem Ji8 {l:List TRow} {i:Nat}:Jb1 l i=true↔0 < i∧leB (l.getD i Jd).name (l.getD (i - 1) Jd).name=true:=by unfold Jb1;simp
theorem JrP {l:List TRow} {i:Nat} {S:Jbz} (h:nameB (l.getD i Jd).name.data.toList=false):JeB l i S= .error 13:=if_pos h
theorem JrQ {l:List TRow} {i:Nat} {S:Jbz} (h:nameB (l.getD i Jd).name.data.toList=true) (h2:Jb1 l i=true):JeB l i S= .error 15:=by
 unfold JeB;rw [if_neg (by rw [h];decide),if_pos (Ji8.1 h2)]
theorem Jl3 {l:List TRow} {i:Nat} {S:Jbz} (h:nameB (l.getD i Jd).name.data.toList=true) (h2:Jb1 l i=false) (h3:Jcr (l.getD i Jd)=false):JeB l i S= .error 16:=by
 unfold JeB;rw [if_neg (by rw [h];decide),if_neg (by rw [← Ji8,h2];decide),if_pos h3]
theorem Jl4 {l:List TRow} {i:Nat} {S:Jbz} (h:nameB (l.getD i Jd).name.data.toList=true) (h2:Jb1 l i=false) (h3:Jcr (l.getD i Jd)=true) (h4:(l.getD i Jd).a2=102∨(l.getD i Jd).a2=117):JeB l i S= .error 17:=by
 unfold JeB;rw [if_neg (by rw [h];decide),if_neg (by rw [← Ji8,h2];decide),if_neg (by rw [h3];decide),if_pos h4]
theorem JmX {l:List TRow} {i:Nat} {S:Jbz} (h:nameB (l.getD i Jd).name.data.toList=true) (h2:Jb1 l i=false) (h3:Jcr (l.getD i Jd)=true) (h4:¬((l.getD i Jd).a2=102∨(l.getD i Jd).a2=117)):JeB l i S=match JaJ (l.getD i Jd) S 5 with
 | none=> .error 15
 | some S=> match Jiw (l.getD i Jd) S with
   | none=> .error 15
   | some S=> .ok S:=by
 unfold JeB;rw [if_neg (by rw [h];decide),if_neg (by rw [← Ji8,h2];decide),if_neg (by rw [h3];decide),if_neg h4]
theorem JkR {r:TRow} (h:Jcr r=true) (h0:¬r.mux=0):r.mux=1∨r.mux=2:=by
 unfold Jcr at h
 rw [if_neg h0] at h
 simp only [Bool.and_eq_true,Bool.or_eq_true,decide_eq_true_eq] at h
 exact h.2.1.1
theorem JnX (l:List TRow) (hl:l.length≤1000000) (hn:∀r∈l,r.name.size≤maxLen):Tells Tryz.prog 40 [trows l] (.tup [int (JbO l).1,int (JbO l).2]):=by
 refine Jc Tryz.func40 rfl rfl fun nx=> ?_
 refine Z ?_
 intro c g4;cases c
 rotate_left
 ·have g4:400 < l.length:=by have:=Jo g4;omega
  have e:JbO l=(0,3):=by unfold JbO;rw [if_pos g4]
  rw [e];refine Z ?_;exact Jb rfl Rf
 have g4:¬400 < l.length:=by have:=Jn g4;omega
 refine Z ?_
 refine Jm (fun y:Nat×Jbz×Nat=> mk 88 [(0,trows l),(2,int 0),(3,int 0),(4, .om (0,nx)),(14,trows l),(15,int l.length),(16,int y.1)] ⟨[((0,nx), .mp (y.2.1.map Jar))], [],y.2.2,1⟩) (fun y=> y.1≤l.length∧Jdk l y.1= .ok y.2.1) (fun y=> l.length - y.1) ?_ ?_
 ·exact ⟨(0, [],nx+1),⟨Nat.zero_le _,rfl⟩,Et rfl rfl Bf Tt Y7⟩
 ·rintro ⟨i,S,nx1⟩ ⟨h1,h2⟩;dsimp only at h1 h2;refine Z ?_;intro c g;cases c
  ·have g:=Jn g;try dsimp only at g
   have hi:i=l.length:=by omega
   subst hi;rw [Jvg g4 h2];refine Z ?_;exact Jb rfl Rf
  ·have g:=Jo g;try dsimp only at g
   have hi:i < l.length:=by omega
   have hmem:l.getD i Jd∈l:=by simp [List.getD,hi]
   have hnm:=JkQ (l.getD i Jd).name (Nat.le_trans (hn _ hmem) Dc);have hrg:=Jq0 (l.getD i Jd);have herr:=fun e=> JrO (e:=e) g4 hi h2;have hnext:=fun S'=> JmW (S':=S') h2;refine Z ?_;refine ⟨Bd, ?_⟩;refine Z ?_;cases hb:nameB (l.getD i Jd).name.data.toList with
   | false=>
     rw [hb] at hnm;refine Ja rfl rfl hnm Y1 fun nx2=> ?_;refine Z ?_;rw [herr 13 (JrP hb)];exact Jb rfl Rf
   | true=>
     rw [hb] at hnm;refine Ja rfl rfl hnm Y1 fun nx2=> ?_;refine Z ?_;refine Jij (fun y:Nat=> mk 88 [(0,trows l),(2,int 0),(3,int 0),(4, .om (0,nx)),(5,int i),(6, .bp (1,nx1) 0),(7,int (l.getD i Jd).a2),(14,trows l),(15,int l.length),(16,int i),(30,boolA (Jb1 l i))] ⟨[((1,nx1), .c (Jcx (l.getD i Jd))),((0,nx), .mp (S.map Jar))], [],y,2⟩) (fun _=> True) ?_ ?_
     ·by_cases h0:0 < i
      ·have hd:decide ((i:Int) > 0)=true:=decide_eq_true Om;have hi1:IntKind.i64.wrap ((i:Int) - 1)=((i - 1:Nat):Int):=by rw [JaE Om Om];omega
       (refine JL 13 Kr Kr Kr ?_)
       refine Z ?_
       (conv=> whnf)
       refine Jfl hd ?_;refine Z ?_;refine ⟨⟨Jdb (i:=i - 1) hi1,Jdt (i:=i - 1) hi1 Om⟩,Ji (b:= .rp (Jcx (l.getD (i - 1) Jd))) (congrArg (fun z:Int=> AV.rp (Jcx (l.getD z.toNat Jd))) hi1) ?_⟩;refine Z ?_;intro c hc;have hc2:c=Jb1 l i:=hc.trans (by unfold Jb1;rw [decide_eq_true h0,Bool.true_and];rfl);clear hc;rw [← hc2];clear hc2;cases c
       all_goals
        refine Z ?_;exact ⟨nx2,trivial,Et rfl rfl Bf Tt ⟨Rf,Rf,Rf,Rf,Rf,Rf,Rf,Rf,Rf,Rf,Rf,Tt⟩⟩
      ·have hd:decide ((i:Int) > 0)=false:=decide_eq_false Om;have hq:Jb1 l i=false:=(by unfold Jb1;rw [decide_eq_false h0];rfl);rw [hq]
       (refine JL 13 Kr Kr Kr ?_)
       refine Z ?_
       (conv=> whnf)
       refine Jfl hd ?_;refine Z ?_;exact ⟨nx2,trivial,Et rfl rfl Bf Tt ⟨Rf,Rf,Rf,Rf,Rf,Rf,Rf,Rf,Rf,Rf,Rf,Tt⟩⟩
     ·rintro nx3 -;cases hq:Jb1 l i with
      | true=>
        refine Z ?_;rw [herr 15 (JrQ hb hq)];exact Jb rfl Rf
      | false=>
        refine Z ?_;refine Ji (b:=Jj (l.getD i Jd)) rfl ?_;refine Z ?_;cases hr:Jcr (l.getD i Jd) with
        | false=>
          rw [hr] at hrg;refine Ja rfl rfl hrg Y1 fun nx4=> ?_;refine Z ?_;rw [herr 16 (Jl3 hb hq hr)];exact Jb rfl Rf
        | true=>
          rw [hr] at hrg;refine Ja rfl rfl hrg Y1 fun nx4=> ?_;refine Z ?_;intro c t1;cases c
          rotate_left
          ·have t1:(l.getD i Jd).a2=102:=(by simpa using t1.symm);refine Z ?_;rw [herr 17 (Jl4 hb hq hr (.inl t1))];exact Jb rfl Rf
          have t1:¬(l.getD i Jd).a2=102:=(by simpa using t1.symm);refine Z ?_;intro c t2;cases c
          rotate_left
          ·have t2:(l.getD i Jd).a2=117:=(by simpa using t2.symm);refine Z ?_;rw [herr 17 (Jl4 hb hq hr (.inr t2))];exact Jb rfl Rf
          have t2:¬(l.getD i Jd).a2=117:=(by simpa using t2.symm);have hrest:=JmX (S:=S) hb hq hr (fun h=> h.elim t1 t2);refine Z ?_;refine JdG (fun y:Jbz×Nat=> mk 88 [(0,trows l),(2,int 0),(3,int 0),(4, .om (0,nx)),(5,int i),(6, .bp (1,nx1) 0),(14,trows l),(15,int l.length),(16,int i)] ⟨[((1,nx1), .c (Jcx (l.getD i Jd))),((0,nx), .mp (y.1.map Jar))], [],y.2,2⟩) (fun y=> JaJ (l.getD i Jd) S 5=some y.1) ?_ ?_
          ·refine Jm (fun y:Nat×Jbz×Nat=> mk 88 [(0,trows l),(2,int 0),(3,int 0),(4, .om (0,nx)),(5,int i),(6, .bp (1,nx1) 0),(14,trows l),(15,int l.length),(16,int i),(59,JzU (l.getD i Jd)),(60,int y.1)] ⟨[((1,nx1), .c (Jcx (l.getD i Jd))),((0,nx), .mp (y.2.1.map Jar))], [],y.2.2,2⟩) (fun y=> y.1≤5∧JaJ (l.getD i Jd) S y.1=some y.2.1) (fun y=> 5 - y.1) ?_ ?_
           ·exact ⟨(0,S,nx4),⟨Nat.zero_le _,rfl⟩,Et rfl rfl Bf Tt ⟨Rf,Rf,Rf,Rf,Rf,Rf,Rf,Rf,Rf,Rf,Rf,Tt⟩⟩
           ·rintro ⟨k,S',nx5⟩ ⟨hk,hS⟩;dsimp only at hk hS;rcases k with _ | _ | _ | _ | _ | _ | k
            ·refine Z ?_;intro c t;cases c
             ·have t:(l.getD i Jd).num 0=-1:=(by show (l.getD i Jd).a0=-1;simpa using t.symm);refine Z ?_;exact back (0+1,S',nx5) ⟨Dm,Jfm hS t⟩ Dm (Et rfl rfl Bf Tt ⟨Rf,Rf,Rf,Rf,Rf,Rf,Rf,Rf,Rf,Rf,Rf,Tt⟩)
             ·have t:¬(l.getD i Jd).num 0=-1:=(by show ¬(l.getD i Jd).a0=-1;simpa using t.symm);refine Z ?_;refine JH (xs:= [.om (0,nx),int ((0:Nat):Int),int ((l.getD i Jd).num 0)]) [((1,nx1), .c (Jcx (l.getD i Jd)))] [] 2 rfl rfl rfl rfl Y3 (JeS nx nx5 0 S' ((0:Nat):Int) ((l.getD i Jd).num 0)) Bf Pf rfl fun r h' hq2=> ?_;obtain ⟨nx6,nn6,rfl,rfl⟩:=hq2;by_cases hm:(((0:Nat):Int),(l.getD i Jd).num 0)∈S'
              ·have hnone:=Jfn (Jha hS t hm) (show 0+1≤5 by decide);rw [hnone] at hrest;rw [decide_eq_true hm];refine Z ?_;rw [herr 15 hrest];exact Jb rfl Rf
              ·have hnew:=Jge hS t hm;rw [decide_eq_false hm];refine Z ?_;exact back (0+1,JcL (((0:Nat):Int),(l.getD i Jd).num 0) S',nx6) ⟨Dm,hnew⟩ Dm (Et rfl rfl Bf Tt ⟨Rf,Rf,Rf,Rf,Rf,Rf,Rf,Rf,Rf,Rf,Rf,Tt⟩)
            ·refine Z ?_;intro c t;cases c
             ·have t:(l.getD i Jd).num 1=-1:=(by show (l.getD i Jd).a1=-1;simpa using t.symm);refine Z ?_;exact back (1+1,S',nx5) ⟨Dm,Jfm hS t⟩ Dm (Et rfl rfl Bf Tt ⟨Rf,Rf,Rf,Rf,Rf,Rf,Rf,Rf,Rf,Rf,Rf,Tt⟩)
             ·have t:¬(l.getD i Jd).num 1=-1:=(by show ¬(l.getD i Jd).a1=-1;simpa using t.symm);refine Z ?_;refine JH (xs:= [.om (0,nx),int ((1:Nat):Int),int ((l.getD i Jd).num 1)]) [((1,nx1), .c (Jcx (l.getD i Jd)))] [] 2 rfl rfl rfl rfl Y3 (JeS nx nx5 0 S' ((1:Nat):Int) ((l.getD i Jd).num 1)) Bf Pf rfl fun r h' hq2=> ?_;obtain ⟨nx6,nn6,rfl,rfl⟩:=hq2;by_cases hm:(((1:Nat):Int),(l.getD i Jd).num 1)∈S'
              ·have hnone:=Jfn (Jha hS t hm) (show 1+1≤5 by decide);rw [hnone] at hrest;rw [decide_eq_true hm];refine Z ?_;rw [herr 15 hrest];exact Jb rfl Rf
              ·have hnew:=Jge hS t hm;rw [decide_eq_false hm];refine Z ?_;exact back (1+1,JcL (((1:Nat):Int),(l.getD i Jd).num 1) S',nx6) ⟨Dm,hnew⟩ Dm (Et rfl rfl Bf Tt ⟨Rf,Rf,Rf,Rf,Rf,Rf,Rf,Rf,Rf,Rf,Rf,Tt⟩)
            ·refine Z ?_;intro c t;cases c
             ·have t:(l.getD i Jd).num 2=-1:=(by show (l.getD i Jd).a2=-1;simpa using t.symm);refine Z ?_;exact back (2+1,S',nx5) ⟨Dm,Jfm hS t⟩ Dm (Et rfl rfl Bf Tt ⟨Rf,Rf,Rf,Rf,Rf,Rf,Rf,Rf,Rf,Rf,Rf,Tt⟩)
             ·have t:¬(l.getD i Jd).num 2=-1:=(by show ¬(l.getD i Jd).a2=-1;simpa using t.symm);refine Z ?_;refine JH (xs:= [.om (0,nx),int ((2:Nat):Int),int ((l.getD i Jd).num 2)]) [((1,nx1), .c (Jcx (l.getD i Jd)))] [] 2 rfl rfl rfl rfl Y3 (JeS nx nx5 0 S' ((2:Nat):Int) ((l.getD i Jd).num 2)) Bf Pf rfl fun r h' hq2=> ?_;obtain ⟨nx6,nn6,rfl,rfl⟩:=hq2;by_cases hm:(((2:Nat):Int),(l.getD i Jd).num 2)∈S'
              ·have hnone:=Jfn (Jha hS t hm) (show 2+1≤5 by decide);rw [hnone] at hrest;rw [decide_eq_true hm];refine Z ?_;rw [herr 15 hrest];exact Jb rfl Rf
              ·have hnew:=Jge hS t hm;rw [decide_eq_false hm];refine Z ?_;exact back (2+1,JcL (((2:Nat):Int),(l.getD i Jd).num 2) S',nx6) ⟨Dm,hnew⟩ Dm (Et rfl rfl Bf Tt ⟨Rf,Rf,Rf,Rf,Rf,Rf,Rf,Rf,Rf,Rf,Rf,Tt⟩)
            ·refine Z ?_;intro c t;cases c
             ·have t:(l.getD i Jd).num 3=-1:=(by show (l.getD i Jd).a3=-1;simpa using t.symm);refine Z ?_;exact back (3+1,S',nx5) ⟨Dm,Jfm hS t⟩ Dm (Et rfl rfl Bf Tt ⟨Rf,Rf,Rf,Rf,Rf,Rf,Rf,Rf,Rf,Rf,Rf,Tt⟩)
             ·have t:¬(l.getD i Jd).num 3=-1:=(by show ¬(l.getD i Jd).a3=-1;simpa using t.symm);refine Z ?_;refine JH (xs:= [.om (0,nx),int ((3:Nat):Int),int ((l.getD i Jd).num 3)]) [((1,nx1), .c (Jcx (l.getD i Jd)))] [] 2 rfl rfl rfl rfl Y3 (JeS nx nx5 0 S' ((3:Nat):Int) ((l.getD i Jd).num 3)) Bf Pf rfl fun r h' hq2=> ?_;obtain ⟨nx6,nn6,rfl,rfl⟩:=hq2;by_cases hm:(((3:Nat):Int),(l.getD i Jd).num 3)∈S'
              ·have hnone:=Jfn (Jha hS t hm) (show 3+1≤5 by decide);rw [hnone] at hrest;rw [decide_eq_true hm];refine Z ?_;rw [herr 15 hrest];exact Jb rfl Rf
              ·have hnew:=Jge hS t hm;rw [decide_eq_false hm];refine Z ?_;exact back (3+1,JcL (((3:Nat):Int),(l.getD i Jd).num 3) S',nx6) ⟨Dm,hnew⟩ Dm (Et rfl rfl Bf Tt ⟨Rf,Rf,Rf,Rf,Rf,Rf,Rf,Rf,Rf,Rf,Rf,Tt⟩)
            ·refine Z ?_;intro c t;cases c
             ·have t:(l.getD i Jd).num 4=-1:=(by show (l.getD i Jd).a4=-1;simpa using t.symm);refine Z ?_;exact back (4+1,S',nx5) ⟨Dm,Jfm hS t⟩ Dm (Et rfl rfl Bf Tt ⟨Rf,Rf,Rf,Rf,Rf,Rf,Rf,Rf,Rf,Rf,Rf,Tt⟩)
             ·have t:¬(l.getD i Jd).num 4=-1:=(by show ¬(l.getD i Jd).a4=-1;simpa using t.symm);refine Z ?_;refine JH (xs:= [.om (0,nx),int ((4:Nat):Int),int ((l.getD i Jd).num 4)]) [((1,nx1), .c (Jcx (l.getD i Jd)))] [] 2 rfl rfl rfl rfl Y3 (JeS nx nx5 0 S' ((4:Nat):Int) ((l.getD i Jd).num 4)) Bf Pf rfl fun r h' hq2=> ?_;obtain ⟨nx6,nn6,rfl,rfl⟩:=hq2;by_cases hm:(((4:Nat):Int),(l.getD i Jd).num 4)∈S'
              ·have hnone:=Jfn (Jha hS t hm) (show 4+1≤5 by decide);rw [hnone] at hrest;rw [decide_eq_true hm];refine Z ?_;rw [herr 15 hrest];exact Jb rfl Rf
              ·have hnew:=Jge hS t hm;rw [decide_eq_false hm];refine Z ?_;exact back (4+1,JcL (((4:Nat):Int),(l.getD i Jd).num 4) S',nx6) ⟨Dm,hnew⟩ Dm (Et rfl rfl Bf Tt ⟨Rf,Rf,Rf,Rf,Rf,Rf,Rf,Rf,Rf,Rf,Rf,Tt⟩)
            ·refine Z ?_;exact ⟨(S',nx5),hS,Et rfl rfl Bf Tt Y9⟩
            ·omega
          ·rintro ⟨S5,nx5⟩ hS;dsimp only at hS;refine Z ?_;intro c t;cases c
           ·have t:(l.getD i Jd).mux=0:=(by simpa using t.symm);have hmx:Jiw (l.getD i Jd) S5=some S5:=if_pos t;rw [hS] at hrest;dsimp only at hrest;rw [hmx] at hrest;have h3:=hnext S5 hrest;refine Z ?_;exact back (i+1,S5,nx5) ⟨hi,h3⟩ Dm (Jh _ _ rfl rfl (.cons _ Sf) Sf Bf Tt ⟨Rf,Rf,Rf,Rf,Rf,Rf,Lw,Tt⟩)
           ·have t:¬(l.getD i Jd).mux=0:=(by simpa using t.symm);have h12:=JkR hr t;have hw:IntKind.i64.wrap (5+(l.getD i Jd).mux)=5+(l.getD i Jd).mux:=JaE Om Om;refine Z ?_;refine JH (xs:= [.om (0,nx),int (5+(l.getD i Jd).mux),int (l.getD i Jd).sub]) [((1,nx1), .c (Jcx (l.getD i Jd)))] [] 2 rfl rfl rfl rfl ⟨Rf,Jk hw,Y1⟩ (JeS nx nx5 0 S5 (5+(l.getD i Jd).mux) (l.getD i Jd).sub) Bf Pf rfl fun r h' hq2=> ?_;obtain ⟨nx6,nn6,rfl,rfl⟩:=hq2;rw [hS] at hrest;dsimp only at hrest;by_cases hm:(5+(l.getD i Jd).mux,(l.getD i Jd).sub)∈S5
            ·have hmx:Jiw (l.getD i Jd) S5=none:=(by unfold Jiw;rw [if_neg t,if_pos hm]);rw [hmx] at hrest;rw [decide_eq_true hm];refine Z ?_;rw [herr 15 hrest];exact Jb rfl Rf
            ·have hmx:Jiw (l.getD i Jd) S5=some (JcL (5+(l.getD i Jd).mux,(l.getD i Jd).sub) S5):=(by unfold Jiw JcL;rw [if_neg t,if_neg hm,if_neg hm]);rw [hmx] at hrest;have h3:=hnext _ hrest;rw [decide_eq_false hm];refine Z ?_;exact back (i+1,JcL (5+(l.getD i Jd).mux,(l.getD i Jd).sub) S5,nx6) ⟨hi,h3⟩ Dm (Jh _ _ rfl rfl (.cons _ Sf) Sf Bf Tt ⟨Rf,Rf,Rf,Rf,Rf,Rf,Lw,Tt⟩)
end Go.Proofs.W

namespace Go.Proofs
open Go.Shelf
shelf_lay Lays.n106 Nm 106 at Tryz as Tryz.lays106
end Go.Proofs
namespace Go.Proofs.W
open Go.Vl Go.Shelf
set_option maxRecDepth 100000
def Jdc (s t:ByteArray):Int:=Lib.compareBytes s.data.toList t.data.toList
theorem Jpe (s t:ByteArray):Tells Tryz.prog 59 [.v (.string s), .v (.string t)] (.v (.int .i64 (Jdc s t))):=
 Jbj (vs:= [.string s, .string t]) ⟨_,Tryz.func59,rfl,rfl⟩ fun w=> (Any.strings_Compare Tryz.lays106 s t w).mono fun e w' ⟨h1,h2⟩=> ⟨h1,by subst h2;exact ⟨rfl,rfl,rfl,Nat.le_refl _,fun _ _=> rfl⟩⟩
theorem JkS (r:TRow) (s:ByteArray):Tells Tryz.prog 58 [Jj r,strA s] (int (Jdc r.name s)):=by
 refine Jc Tryz.func58 rfl rfl fun nx=> ?_
 refine Z ?_
 refine Ja rfl rfl (Jpe r.name s) Y2 fun nx2=> ?_
 refine Z ?_
 exact Jb rfl Rf
def Jbn (l:List TRow) (s:ByteArray):Nat:=(l.takeWhile fun r=> decide (Jdc r.name s < 0)).length
theorem JyQ (l:List TRow) (s:ByteArray):Jbn l s≤l.length:=by
 unfold Jbn
 have:=congrArg List.length (List.takeWhile_append_dropWhile (p:=fun r:TRow=> decide (Jdc r.name s < 0)) (l:=l))
 rw [List.length_append] at this
 omega
theorem Jl5 {s:ByteArray}:∀ {l:List TRow} {j:Nat},j < Jbn l s→Jdc (l.getD j Jd).name s < 0
 | [],j,h=> by simp [Jbn] at h
 | r::l,j,h=> by
   unfold Jbn at h;rw [List.takeWhile_cons] at h;by_cases hc:Jdc r.name s < 0
   ·rw [if_pos (by simpa using hc)] at h;cases j with
    | zero=> exact hc
    | succ j=> exact Jl5 (l:=l) (j:=j) (by unfold Jbn;simp at h;omega)
   ·rw [if_neg (by simpa using hc)] at h;simp at h
theorem Ji9 {s:ByteArray}:∀ {l:List TRow},Jbn l s < l.length→¬Jdc (l.getD (Jbn l s) Jd).name s < 0
 | [],h=> by simp at h
 | r::l,h=> by
   by_cases hc:Jdc r.name s < 0
   ·have e:Jbn (r::l) s=Jbn l s+1:=(by unfold Jbn;rw [List.takeWhile_cons,if_pos (by simpa using hc)];rfl);rw [e] at h⊢;exact Ji9 (l:=l) (by simpa using h)
   ·have e:Jbn (r::l) s=0:=(by unfold Jbn;rw [List.takeWhile_cons,if_neg (by simpa using hc)];rfl);rw [e];exact hc
def JhG (l:List TRow) (s:ByteArray):Prop:=∀i j,i < j→j < l.length→Jdc (l.getD j Jd).name s < 0→Jdc (l.getD i Jd).name s < 0
theorem JyR {l:List TRow} {s:ByteArray} (hs:JhG l s) {j:Nat} (h1:Jbn l s≤j) (h2:j < l.length):¬Jdc (l.getD j Jd).name s < 0:=fun h=> by
 rcases Nat.lt_or_ge (Jbn l s) j with q | q
 ·exact Ji9 Om (hs _ j q h2 h)
 ·have e:Jbn l s=j:=by omega
  exact Ji9 (l:=l) (s:=s) Om (by rw [e];exact h)
def Jap (l:List TRow) (s:ByteArray):Bool:=decide (Jbn l s < l.length)&& decide (Jdc (l.getD (Jbn l s) Jd).name s=0)
theorem JyS {a b:Nat} (h:a+b≤4000000):IntKind.i64.wrap ((IntKind.u64.wrap (IntKind.i64.wrap ((a:Int)+(b:Int)))).fdiv (2 ^ min (Int.toNat 1) IntKind.u64.bits))=(((a+b) / 2:Nat):Int):=by
 rw [JaE (n:=(a:Int)+(b:Int)) Om Om]
 have hu:IntKind.u64.wrap ((a:Int)+(b:Int))=(a:Int)+(b:Int):=by
  show ((a:Int)+(b:Int)) % 18446744073709551616=_;omega
 rw [hu]
 have h2:(2:Int) ^ min (Int.toNat 1) IntKind.u64.bits=2:=by decide
 rw [h2,Int.fdiv_eq_ediv_of_nonneg _ Dc]
 rw [JaE Om Om]
 omega
theorem Jpf (l:List TRow) (s:ByteArray) (hl:l.length≤1000000) (hs:JhG l s):
 Tells Tryz.prog 57 [trows l,strA s,fn0 58] (.tup [int (Jbn l s),boolA (Jap l s)]):=by
 have hk:=JyQ l s
 have hlt:=fun j=> Jl5 (l:=l) (s:=s) (j:=j)
 have hge:=fun j=> JyR (j:=j) hs
 unfold Jap
 generalize Jbn l s=k at hk hlt hge⊢
 refine Jc Tryz.func57 rfl rfl fun nx=> ?_
 refine Z ?_
 refine Jm (fun y:Nat×Nat×Nat=> mk 49 [(0,trows l),(1,strA s),(2,fn0 58),(8,int l.length),(9,int y.1),(10,int y.2.1)] ⟨[], [],y.2.2,0⟩) (fun y=> y.1≤k∧k≤y.2.1∧y.2.1≤l.length) (fun y=> y.2.1 - y.1) ?_ ?_
 ·exact ⟨(0,l.length,nx),⟨Nat.zero_le _,hk,Nat.le_refl _⟩,Jax rfl rfl Y6⟩
 ·rintro ⟨lo,hi,nx1⟩ ⟨h1,h2,h3⟩;dsimp only at h1 h2 h3;refine Z ?_;intro c g;cases c
  ·have g:=Jn g;try dsimp only at g
   have e:lo=k:=by omega
   subst e;by_cases hkl:lo < l.length
   ·have hf1:=JkS (l.getD lo Jd) s;have hd:decide ((lo:Int) < (l.length:Int))=true:=decide_eq_true Om;refine Z ?_
    (conv=> whnf)
    refine Jfl hd ?_;refine Z ?_;refine ⟨Bd, ?_⟩;refine Z ?_;refine Ja rfl rfl hf1 Y2 fun nx2=> ?_;intro c t;cases c
    all_goals
     refine Z ?_;exact Jb rfl (AVle.tups (cs:= [_,_]) ⟨Rf,Jp (t.trans (by rw [decide_eq_true hkl,Bool.true_and,Bool.eq_iff_iff];simp)),Tt⟩)
   ·have hd:decide ((lo:Int) < (l.length:Int))=false:=decide_eq_false Om;rw [decide_eq_false hkl,Bool.false_and];refine Z ?_
    (conv=> whnf)
    refine Jfl hd ?_;refine Z ?_;exact Jb rfl Rf
  ·have g:=Jo g;try dsimp only at g
   have hm:=JyS (a:=lo) (b:=hi) Om;have hml:(lo+hi) / 2 < l.length:=by omega
   have hf1:=JkS (l.getD ((lo+hi) / 2) Jd) s;refine Z ?_;refine ⟨⟨Jdb (i:=(lo+hi) / 2) hm,Jdt (i:=(lo+hi) / 2) hm hml⟩,Ji (b:= .rp (Jcx (l.getD ((lo+hi) / 2) Jd))) (congrArg (fun z:Int=> AV.rp (Jcx (l.getD z.toNat Jd))) hm) ?_⟩;refine Z ?_;refine Ja rfl rfl hf1 Y2 fun nx2=> ?_;refine Z ?_;intro c gg;cases c
   ·have gg:¬Jdc (l.getD ((lo+hi) / 2) Jd).name s < 0:=Jn gg;have hkm:k≤(lo+hi) / 2:=by
     rcases Nat.lt_or_ge ((lo+hi) / 2) k with q | q
     ·exact absurd (hlt _ q) gg
     ·exact q
    refine Z ?_;exact back (lo,(lo+hi) / 2,nx2) ⟨h1,hkm,Dm⟩ Dm (Jax rfl rfl ⟨Rf,Rf,Rf,Rf,Rf,Jk hm,Tt⟩)
   ·have gg:Jdc (l.getD ((lo+hi) / 2) Jd).name s < 0:=Jo gg;have hkm:(lo+hi) / 2+1≤k:=by
     rcases Nat.lt_or_ge ((lo+hi) / 2) k with q | q
     ·exact q
     ·exact absurd gg (hge _ q hml)
    refine Z ?_;exact back ((lo+hi) / 2+1,hi,nx2) ⟨hkm,h2,h3⟩ Dm (Jax rfl rfl ⟨Rf,Rf,Rf,Rf,Jk (by rw [hm];exact JC Om),Y1⟩)
def JkT (l:List TRow) (s:ByteArray):AV:=if Jap l s then .tup [Jj (l.getD (Jbn l s) Jd),int (Jbn l s),boolA true] else .tup [Jj Jd,int 0,boolA false]
theorem Jgf (l:List TRow) (s:ByteArray) (hl:l.length≤1000000) (hs:JhG l s):Tells Tryz.prog 20 [trows l,strA s] (JkT l s):=by
 have hb:=Jpf l s hl hs
 have hk:Jap l s=true→Jbn l s < l.length:=fun h=> by unfold Jap at h;simp only [Bool.and_eq_true,decide_eq_true_eq] at h;exact h.1
 unfold JkT
 generalize Jbn l s=k at hb hk⊢
 refine Jc Tryz.func20 rfl rfl fun nx=> ?_
 cases hf:Jap l s with
 | true=>
   rw [hf] at hb hk;have hk:=hk rfl;rw [if_pos rfl];refine Z ?_;refine Ja rfl rfl hb Y3 fun nx2=> ?_;refine Z ?_;refine ⟨Bd, ?_⟩;refine Z ?_;exact Jf rfl ⟨rfl,Tt⟩ Rf
 | false=>
   rw [hf] at hb;rw [if_neg Dc];refine Z ?_;refine Ja rfl rfl hb Y3 fun nx2=> ?_;refine Z ?_;exact Jf rfl ⟨rfl,Tt⟩ Rf
theorem JrR:∀ {a b:List UInt8},Lib.compareBytes a b < 0↔a < b
 | [], []=> by simp [Lib.compareBytes]
 | [],b::l=> by simp [Lib.compareBytes]
 | a::l, []=> by simp [Lib.compareBytes]
 | a::l,b::m=> by
   have ih:=JrR (a:=l) (b:=m);unfold Lib.compareBytes;rw [List.cons_lt_cons_iff];split
   ·rename_i h;simp [h]
   ·rename_i h
    split
    ·rename_i h2
     constructor
     ·intro h3;exact absurd h3 Dc
     ·rintro (h3 | ⟨h3,_⟩)
      ·exact absurd h3 h
      ·subst h3;exact absurd h2 h
    ·rename_i h2
     rw [ih]
     constructor
     ·intro h3;exact .inr ⟨UInt8.le_antisymm (UInt8.not_lt.1 h2) (UInt8.not_lt.1 h),h3⟩
     ·rintro (h3 | ⟨_,h3⟩)
      ·exact absurd h3 h
      ·exact h3
theorem Jpg:∀ {a b:List UInt8},Lib.compareBytes a b=0↔a=b
 | [], []=> by simp [Lib.compareBytes]
 | [],b::l=> by simp [Lib.compareBytes]
 | a::l, []=> by simp [Lib.compareBytes]
 | a::l,b::m=> by
   have ih:=Jpg (a:=l) (b:=m);unfold Lib.compareBytes;split
   ·rename_i h
    constructor
    ·intro h3;exact absurd h3 Dc
    ·intro h3;cases h3;exact absurd h (UInt8.lt_irrefl _)
   ·rename_i h
    split
    ·rename_i h2
     constructor
     ·intro h3;exact absurd h3 Dc
     ·intro h3;cases h3;exact absurd h2 (UInt8.lt_irrefl _)
    ·rename_i h2
     rw [ih,List.cons.injEq];exact ⟨fun h3=> ⟨UInt8.le_antisymm (UInt8.not_lt.1 h2) (UInt8.not_lt.1 h),h3⟩,fun h3=> h3.2⟩
theorem Jgz {s t:ByteArray} (h:s.data.toList=t.data.toList):s=t:=by
 obtain ⟨⟨l⟩⟩:=s;obtain ⟨⟨l'⟩⟩:=t
 exact congrArg (fun l=> (⟨⟨l⟩⟩:ByteArray)) h
theorem JkU:∀x y:List UInt8,Go.Sort.ltStr x y=false→Go.Sort.ltStr y x=false→x=y:=fun x y h1 h2=> by
 simp only [Go.Sort.ltStr,decide_eq_false_iff_not,List.not_lt] at h1 h2
 exact List.le_antisymm h2 h1
theorem Jl6 {s t:ByteArray}:Jdc s t < 0↔Go.Sort.ltStr s.data.toList t.data.toList=true:=by
 unfold Jdc Go.Sort.ltStr;rw [JrR,decide_eq_true_iff]
theorem JrS {s t:ByteArray}:Jdc s t=0↔s=t:=by
 unfold Jdc;rw [Jpg]
 exact ⟨Jgz,fun h=> by rw [h]⟩
theorem JzX {s t:ByteArray} (h:leB s t=false):Go.Sort.ltStr t.data.toList s.data.toList=true:=by
 unfold leB at h
 rw [Bool.or_eq_false_iff,Go.Proofs.bytesLess_eq,Lib.toList_data,Lib.toList_data] at h
 cases hl:Go.Sort.ltStr t.data.toList s.data.toList with
 | true=> rfl
 | false=>
   have e:=JkU _ _ hl h.1;rw [e] at h;simp at h
def Jl7 (l:List TRow):Prop:=∀i j,i < j→j < l.length→Go.Sort.ltStr (l.getD i Jd).name.data.toList (l.getD j Jd).name.data.toList=true
theorem Jfa {l:List TRow} (h:Jl7 l) (s:ByteArray):JhG l s:=fun i j hij hj hc=> by
 rw [Jl6] at hc⊢
 exact Go.Sort.swo_ltStr.trans _ _ _ (h i j hij hj) hc
end Go.Proofs.W

namespace Go.Proofs.W
open Go.Vl
set_option maxRecDepth 100000
def Jak (l:List TRow) (s:ByteArray):TRow:=if Jap l s then l.getD (Jbn l s) Jd else Jd
theorem Jvh (l:List TRow) (s:ByteArray) (hl:l.length≤1000000) (hs:JhG l s):Tells Tryz.prog 49 [trows l,strA s] (.tup [boolA (Jap l s&& decide ((Jak l s).a2≥0)),boolA (decide ((Jak l s).mux > 0))]):=by
 have hf:=Jgf l s hl hs
 unfold JkT at hf
 unfold Jak
 cases hb:Jap l s with
 | true=>
   rw [hb,if_pos rfl] at hf;rw [if_pos rfl];generalize l.getD (Jbn l s) Jd=r at hf⊢;cases hd:decide (r.a2≥0) with
   | true=>
     refine Jc Tryz.func49 rfl rfl fun nx=> ?_;refine Z ?_;refine Ja rfl rfl hf Y2 fun nx2=> ?_;refine Z ?_;refine Jaf 11 _ (fun _=> false) (fun _=> false) [0,1,2,3,4,5,6,7,8,9,10] Kr Kr (HB.refl _) ?_;refine Z ?_;refine ⟨_,Jag rfl rfl rfl rfl trivial, ?_⟩;refine Z ?_;refine ⟨_,Jag rfl rfl rfl rfl (by first | trivial | exact ⟨rfl,Nat.le_of_ble_eq_true rfl⟩ | exact ⟨by decide,by decide⟩), ?_⟩;refine Z ?_;refine ⟨_,Jag rfl rfl rfl rfl (by first | trivial | exact ⟨rfl,Nat.le_of_ble_eq_true rfl⟩), ?_⟩;refine Z ?_;refine ⟨.v (.bool true),Jem rfl rfl rfl rfl trivial hd, ?_⟩;refine Z ?_;exact Jf rfl Tt Rf
   | false=>
     refine Jc Tryz.func49 rfl rfl fun nx=> ?_;refine Z ?_;refine Ja rfl rfl hf Y2 fun nx2=> ?_;refine Z ?_;refine Jaf 11 _ (fun _=> false) (fun _=> false) [0,1,2,3,4,5,6,7,8,9,10] Kr Kr (HB.refl _) ?_;refine Z ?_;refine ⟨_,Jag rfl rfl rfl rfl trivial, ?_⟩;refine Z ?_;refine ⟨_,Jag rfl rfl rfl rfl (by first | trivial | exact ⟨rfl,Nat.le_of_ble_eq_true rfl⟩ | exact ⟨by decide,by decide⟩), ?_⟩;refine Z ?_;refine ⟨_,Jag rfl rfl rfl rfl (by first | trivial | exact ⟨rfl,Nat.le_of_ble_eq_true rfl⟩), ?_⟩;refine Z ?_;refine ⟨.v (.bool false),Jem rfl rfl rfl rfl trivial hd, ?_⟩;refine Z ?_;exact Jf rfl Tt Rf
 | false=>
   rw [hb,if_neg Dc] at hf;rw [if_neg Dc];refine Jc Tryz.func49 rfl rfl fun nx=> ?_;refine Z ?_;refine Ja rfl rfl hf Y2 fun nx2=> ?_;refine Z ?_;refine Jaf 11 _ (fun _=> false) (fun _=> false) [0,1,2,3,4,5,6,7,8,9,10] Kr Kr (HB.refl _) ?_;refine Z ?_;refine ⟨_,JcK rfl rfl rfl, ?_⟩;refine Z ?_;refine ⟨_,JcK rfl rfl rfl, ?_⟩;refine Z ?_;refine ⟨_,JcK rfl rfl rfl, ?_⟩;refine Z ?_;refine ⟨_,JcK rfl rfl rfl, ?_⟩;refine Z ?_;exact Jf rfl Tt Rf
structure Ct where
 name:ByteArray
 many:Nat
deriving DecidableEq
def Jj8 (l:List TRow):Bool:=decide (l.length≤40)&& !l.any fun r=> decide (60 < r.name.size)
theorem JjG (s:ByteArray) (hs:s.size≤9223372036854775807):Tells Tryz.prog 129 [strA s] (boolA (nameB s.data.toList)):=by
 have key:∀b,nameB s.data.toList=b→Tells Tryz.prog 129 [strA s] (boolA b):=fun b hb=> by
  have hr:=JnW s hs b hb;refine Jc Tryz.func129 rfl rfl fun nx=> ?_;refine Z ?_;refine Ja rfl rfl hr ⟨?_,Tt⟩ fun nx1=> ?_
  ·refine AVle.os_sl.trans (AVle.sl_fun fun k hk=> ?_)
   match k,hk with
   | 0,_=> rfl
  cases b
  ·refine Z ?_;exact Jb rfl Rf
  ·refine Z ?_;exact Jb rfl Rf
 exact key _ rfl
theorem Jph (c:Cnd):Tells Tryz.prog 130 [Jt c] (boolA (!rightC c)):=by
 have key:∀b,rightC c=b→Tells Tryz.prog 130 [Jt c] (boolA (!b)):=fun b hb=> by
  have hr:=JdK c;rw [hb] at hr;refine Jc Tryz.func130 rfl rfl fun nx=> ?_;refine Z ?_;refine Ja rfl rfl hr Y1 fun nx1=> ?_;cases b
  ·refine Z ?_;exact Jb rfl Rf
  ·refine Z ?_;exact Jb rfl Rf
 exact key _ rfl
def Rul.ok (r:Rul):Prop:=r.name.size≤maxLen∧r.conds.length≤maxLen∧∀c∈r.conds,c.ok
def Jai (r:Rul):Bool:=nameB r.name.data.toList&& (right9 r.act.1 r.act.2&& (decide (r.conds.length≤6)&& !(r.conds.any fun c=> !rightC c)))
theorem Jq2 (r:Rul) (h1:r.name.size≤9223372036854775807):Tells Tryz.prog 72 [J7 r] (boolA (Jai r)):=by
 have hn:=JjG r.name h1
 have ha:=JhD r.act.1 r.act.2
 have hc:r.conds.length≤1000000000→Tells Tryz.prog 43 [JaT r.conds,fn0 130] (boolA (r.conds.any fun c=> !rightC c)):=fun hl=> Jpa r.conds (fun c=> !rightC c) _ hl (fun i _=> Jph _)
 unfold Jai
 generalize nameB r.name.data.toList=b1 at hn⊢
 generalize right9 r.act.1 r.act.2=b2 at ha⊢
 generalize (r.conds.any fun c=> !rightC c)=b3 at hc⊢
 obtain ⟨name,⟨k,n⟩,conds⟩:=r
 dsimp only at hn ha hc⊢
 refine Jc Tryz.func72 rfl rfl fun nx=> ?_
 refine Z ?_
 refine Ja rfl rfl hn Y1 fun nx1=> ?_
 cases b1
 ·refine Z ?_;exact Jb rfl Rf
 refine Z ?_
 refine Ja rfl rfl ha Y1 fun nx2=> ?_
 cases b2
 ·refine Z ?_;exact Jb rfl Rf
 refine Z ?_
 intro c t3;cases c
 ·refine Z ?_;have e3:¬conds.length≤6:=fun h=> (Jn t3:¬((conds.length:Nat):Int)≤6) Om;exact Jb rfl (Jp (by show false=(true&& (true&& (decide (conds.length≤6)&& !b3)));rw [decide_eq_false e3];rfl))
 have h3:conds.length≤6:=by have t:((conds.length:Nat):Int)≤6:=Jo t3;omega
 have hc:=hc (show conds.length≤1000000000 by omega)
 refine Z ?_
 refine Ja rfl rfl hc Y2 fun nx3=> ?_
 cases b3
 ·refine Z ?_;exact Jb rfl (Jp (by first | (show true=(true&& (true&& (decide (conds.length≤6)&& !false)));rw [decide_eq_true h3];rfl) | (show true=(true&& (decide (rules.length≤500)&& !false));rw [decide_eq_true h3];rfl)))
 ·refine Z ?_;exact Jb rfl (Jp (by first | (show false=(true&& (true&& (decide (conds.length≤6)&& !true)));rw [decide_eq_true h3];rfl) | (show false=(true&& (decide (rules.length≤500)&& !true));rw [decide_eq_true h3];rfl)))
theorem Jpi (r:Rul) (h1:r.name.size≤9223372036854775807):Tells Tryz.prog 71 [J7 r] (boolA (!Jai r)):=by
 have key:∀b,Jai r=b→Tells Tryz.prog 71 [J7 r] (boolA (!b)):=fun b hb=> by
  have hr:=Jq2 r h1;rw [hb] at hr;refine Jc Tryz.func71 rfl rfl fun nx=> ?_;refine Z ?_;refine Ja rfl rfl hr Y1 fun nx1=> ?_;cases b
  ·refine Z ?_;exact Jb rfl Rf
  ·refine Z ?_;exact Jb rfl Rf
 exact key _ rfl
def Jaq (p:Pol):Bool:=right9 p.dflt.1 p.dflt.2&& (decide (p.rules.length≤500)&& !(p.rules.any fun r=> !Jai r))
def Pol.ok (p:Pol):Prop:=p.rules.length≤maxLen∧∀r∈p.rules,r.ok
theorem Jfb (p:Pol) (hp:p.ok):Tells Tryz.prog 31 [polA p] (boolA (Jaq p)):=by
 have ha:=JhD p.dflt.1 p.dflt.2
 have hc:p.rules.length≤1000000000→Tells Tryz.prog 70 [JW p.rules,fn0 71] (boolA (p.rules.any fun r=> !Jai r)):=fun hl=> Jxd p.rules (fun r=> !Jai r) _ hl (fun i hi=> Jpi _ (by
  have:p.rules.getD i Jg∈p.rules:=by simp [List.getD,hi]
  have:=(hp.2 _ this).1;exact Nat.le_trans this Dc))
 unfold Jaq
 generalize right9 p.dflt.1 p.dflt.2=b2 at ha⊢
 generalize (p.rules.any fun r=> !Jai r)=b3 at hc⊢
 clear hp
 obtain ⟨⟨k,n⟩,x,rules⟩:=p
 dsimp only at ha hc⊢
 refine Jc Tryz.func31 rfl rfl fun nx=> ?_
 refine Z ?_
 refine Ja rfl rfl ha Y1 fun nx2=> ?_
 cases b2
 ·refine Z ?_;exact Jb rfl Rf
 refine Z ?_
 intro c t3;cases c
 ·refine Z ?_;have e3:¬rules.length≤500:=fun h=> (Jn t3:¬((rules.length:Nat):Int)≤500) Om;exact Jb rfl (Jp (by show false=(true&& (decide (rules.length≤500)&& !b3));rw [decide_eq_false e3];rfl))
 have h3:rules.length≤500:=by have t:((rules.length:Nat):Int)≤500:=Jo t3;omega
 have hc:=hc (show rules.length≤1000000000 by omega)
 refine Z ?_
 refine Ja rfl rfl hc Y2 fun nx3=> ?_
 cases b3
 ·refine Z ?_;exact Jb rfl (Jp (by first | (show true=(true&& (true&& (decide (conds.length≤6)&& !false)));rw [decide_eq_true h3];rfl) | (show true=(true&& (decide (rules.length≤500)&& !false));rw [decide_eq_true h3];rfl)))
 ·refine Z ?_;exact Jb rfl (Jp (by first | (show false=(true&& (true&& (decide (conds.length≤6)&& !true)));rw [decide_eq_true h3];rfl) | (show false=(true&& (decide (rules.length≤500)&& !true));rw [decide_eq_true h3];rfl)))
def Jd0 (r:Rul):Bool:=decide (r.name.size≤60)&& decide (r.conds.length≤12)
def JeC (p:Pol):Bool:=decide (p.rules.length≤40)&& p.rules.all Jd0
theorem JrT {c d:Cnd}:(c.arg ==d.arg&& (c.op ==d.op&& ((c.mask:Int) ==(d.mask:Int)&& ((c.value:Int) ==(d.value:Int)&& true))))=decide (c=d):=by
 rw [Bool.eq_iff_iff]
 simp only [Bool.and_eq_true,beq_iff_eq,decide_eq_true_eq,and_true]
 obtain ⟨a1,a2,a3,a4⟩:=c
 obtain ⟨b1,b2,b3,b4⟩:=d
 simp
 omega
theorem Jvi {α:Type} {a b:List α} {d:α} (hl:a.length=b.length) (h:∀j,j < a.length→a.getD j d=b.getD j d):a=b:=by
 refine List.ext_getElem hl fun j h1 h2=> ?_
 have:=h j h1
 simpa [List.getD,h1,h2] using this
theorem Jq3 (a b:List Cnd) (ha:a.length≤1000000):Tells Tryz.prog 102 [JaT a,JaT b] (boolA (decide (a=b))):=by
 refine Jc Tryz.func102 rfl rfl fun nx=> ?_
 refine Z ?_
 intro c g1;cases c
 rotate_left
 ·have g1:((a.length:Nat):Int)≠((b.length:Nat):Int):=JaS.1 g1;refine Z ?_;exact Jb rfl (Jp (by rw [eq_comm];exact decide_eq_false (fun h=> g1 (by rw [h]))))
 have g1:((a.length:Nat):Int)=((b.length:Nat):Int):=JaR.1 g1
 have hl:a.length=b.length:=by omega
 refine Z ?_
 refine Jm (fun s:Nat×Nat=> mk 26 [(0,JaT a),(1,JaT b),(12,int a.length),(13,int s.1)] ⟨[], [],s.2,0⟩) (fun s=> s.1≤a.length∧∀j,j < s.1→a.getD j cnd0=b.getD j cnd0) (fun s=> a.length - s.1) ?_ ?_
 ·exact ⟨(0,nx),⟨Nat.zero_le _,fun j h=> absurd h (Nat.not_lt_zero _)⟩,Jax rfl rfl Y4⟩
 ·rintro ⟨i,nx2⟩ ⟨h3,h4⟩;dsimp only at h3 h4;refine Z ?_;intro c h5;cases c
  ·have h6:=Jn h5;dsimp only at h6;obtain rfl:i=a.length:=by omega
   have he:=Jvi hl h4;refine Z ?_;exact Jb rfl (Jp (by rw [eq_comm];exact decide_eq_true he))
  ·have h6:=Jo h5;dsimp only at h6;have hi:i < a.length:=by omega
   refine Z ?_
   (refine JL 9 Kr Kr Kr ?_)
   refine Z ?_;refine ⟨⟨Dm,Dm⟩, ?_⟩;refine Z ?_;refine ⟨⟨Dm,Dm⟩, ?_⟩;refine Z ?_;intro c hc;have hc2:c= !decide (a.getD i cnd0=b.getD i cnd0):=hc.trans (congrArg (!·) JrT);cases c
   ·have he:a.getD i cnd0=b.getD i cnd0:=(by simpa using hc2);refine Z ?_;refine back (i+1,nx2) ⟨Dm,fun j hj=> ?_⟩ Dm (Jax rfl rfl ⟨Rf,Rf,Rf,Jk (JC Dm),Tt⟩);dsimp only at hj;rcases Nat.lt_or_ge j i with h | h
    ·exact h4 j h
    ·obtain rfl:j=i:=(by omega);exact he
   ·have he:¬a.getD i cnd0=b.getD i cnd0:=(by simpa using hc2);refine Z ?_;exact Jb rfl (Jp (by rw [eq_comm];exact decide_eq_false (fun h=> he (by rw [h]))))
theorem JyT {a b:A2}:(a.1 ==b.1&& (a.2 ==b.2&& true))=decide (a=b):=by
 rw [Bool.eq_iff_iff]
 simp only [Bool.and_eq_true,beq_iff_eq,decide_eq_true_eq,and_true]
 exact (Prod.ext_iff).symm
theorem JAz (n:Nat):decide (n&&& 1073741824≠0)=decide (n / 1073741824 % 2=1):=by
 have hlo:n % 1073741824 < 2 ^ 30:=Nat.mod_lt _ Dc
 have e1:n=2 ^ 30 * (n / 1073741824)+n % 1073741824:=by have:=Nat.div_add_mod n 1073741824;show n=1073741824 * _+_;omega
 have hs:=Jva (c:=n / 1073741824) (lo:=n % 1073741824) (d:=1) (m:=0) (i:=30) hlo Dc
 rw [← e1,Nat.and_one_is_mod,Nat.and_zero,show (2 ^ 30 * 1+0:Nat)=1073741824 by decide] at hs
 rw [hs]
 have:n / 1073741824 % 2=0∨n / 1073741824 % 2=1:=by omega
 rcases this with q | q <;> rw [q] <;> decide
theorem Jxk (n:Nat):JcH n=(decide (n≠4294967295)&& decide (n / 1073741824 % 2=1)):=by
 unfold JcH;rw [JAz,Bool.and_comm]
theorem JzY {r:Rec} (h:r.ok) (k:Nat):r.arg k < 18446744073709551616:=by
 obtain ⟨_,_,_,h0,h1,h2,h3,h4,h5⟩:=h
 unfold Rec.arg;split <;> assumption
def Jgg (r:TRow):Bool:=decide (r.mux < 0)|| (decide (2 < r.mux)|| ((decide (r.mux=0)&& decide (r.sub≠0))|| (decide (0 < r.mux)&& (decide (r.sub < 1)|| decide (255 < r.sub)))))
theorem Jix (r:TRow):Jcr r=(!Jfz r&& !Jgg r):=by
 unfold Jcr
 congr 1
 unfold Jgg
 by_cases h:r.mux=0
 ·rw [if_pos h,h];simp
 ·rw [if_neg h,Bool.eq_iff_iff];simp;omega
def Jhb (r s:TRow):Bool:= [0,1,2,3,4].any fun a=> decide (0≤r.num a)&& decide (s.num a=r.num a)
def Jiy (r s:TRow):Bool:=decide (0 < r.mux)&& (decide (s.mux=r.mux)&& decide (s.sub=r.sub))
def JcM (l:List TRow) (i:Nat):Bool:=(l.take i).any fun s=> Jhb (l.getD i Jd) s|| Jiy (l.getD i Jd) s
def Jja (r:TRow):Bool:=decide (r.a2=102)|| decide (r.a2=117)
def Jdd (l:List TRow) (i:Nat):Int:=if nameB (l.getD i Jd).name.data.toList=false then 13 else if Jb1 l i then 15 else if Jfz (l.getD i Jd) then 16 else if Jgg (l.getD i Jd) then 16 else if Jja (l.getD i Jd) then 17 else if JcM l i then 15 else 0
theorem JrU {l:List TRow} {i:Nat} (h:nameB (l.getD i Jd).name.data.toList=false):Jdd l i=13:=if_pos h
theorem Jpj {l:List TRow} {i:Nat} (h:nameB (l.getD i Jd).name.data.toList=true):Jdd l i=if Jb1 l i then 15 else if Jfz (l.getD i Jd) then 16 else if Jgg (l.getD i Jd) then 16 else if Jja (l.getD i Jd) then 17 else if JcM l i then 15 else 0:=if_neg (by rw [h];decide)
theorem Jtn {l:List TRow} {i k:Nat} {r:TRow} (hr:l.getD i Jd=r) (hk:k < i) (hi:i < l.length) (h:(Jhb r (l.getD k Jd)|| Jiy r (l.getD k Jd))=true):JcM l i=true:=by
 unfold JcM
 rw [hr,List.any_eq_true]
 refine ⟨l.getD k Jd, ?_,h⟩
 rw [List.mem_iff_getElem]
 exact ⟨k,by rw [List.length_take];omega,by rw [List.getElem_take];simp [List.getD,show k < l.length by omega]⟩
def cN (r s:TRow) (a:Nat):Bool:=decide (r.num a≥0)&& decide (s.num a=r.num a)
theorem Jq4 {r s:TRow} {a:Nat} (ha:a < 5) (h:cN r s a=true):Jhb r s=true:=by
 unfold Jhb
 rw [List.any_eq_true]
 exact ⟨a,by simp;omega,h⟩
theorem Jxl {r:TRow} {k:Nat} (hk:k < 5) (h:true=Jec (r.num k)):Jfz r=true:=by
 rcases (by omega:k=0∨k=1∨k=2∨k=3∨k=4) with rfl | rfl | rfl | rfl | rfl
 all_goals
  have h':Jec (r.num _)=true:=h.symm;simp only [TRow.num] at h';simp [Jfz,h']
def Jhc (l:List TRow):Int×Int:=if 400 < l.length then (0,3) else match (List.range l.length).find? (fun i=> decide (Jdd l i≠0)) with
 | some i=> ((i:Int),Jdd l i)
 | none=> (0,0)
theorem JkV {n:Nat} {p:Nat→Bool} {i:Nat} (hi:i < n) (h:∀j,j < i→p j=false) (hp:p i=true):(List.range n).find? p=some i:=by
 rw [List.find?_range_eq_some]
 exact ⟨hp,List.mem_range.2 hi,fun j hj=> by rw [h j hj];rfl⟩
theorem Jq5 {n:Nat} {p:Nat→Bool} (h:∀j,j < n→p j=false):(List.range n).find? p=none:=by
 rw [List.find?_eq_none]
 intro x hx
 rw [h x (List.mem_range.1 hx)];decide
def Jpk (l:List TRow) (k:Nat) (S:Jbz):Prop:=(∀(a:Nat) (n:Int),a < 5→(((a:Int),n)∈S↔n≠-1∧∃j,j < k∧(l.getD j Jd).num a=n))∧(∀m s:Int,m=1∨m=2→((5+m,s)∈S↔∃j,j < k∧(l.getD j Jd).mux=m∧(l.getD j Jd).sub=s))
theorem JkW {r:TRow} {S:Jbz}:∀ {k:Nat},JaJ r S k=none→∃a,a < k∧r.num a≠-1∧((a:Int),r.num a)∈S
 | 0,h=> by unfold JaJ at h;cases h
 | k+1,h=> by
   unfold JaJ at h;cases hk:JaJ r S k with
   | none=> obtain ⟨a,h1,h2⟩:=JkW hk;exact ⟨a,Om,h2⟩
   | some S'=>
     rw [hk] at h;dsimp only at h;split at h
     ·cases h
     ·rename_i hn
      split at h
      ·rename_i hm
       refine ⟨k,Nat.lt_succ_self _,hn, ?_⟩;have:∀ {m:Nat} {S':Jbz},JaJ r S m=some S'→∀x∈S',x∈S∨∃a,a < m∧x=((a:Int),r.num a):=by
        intro m
        induction m with
        | zero=> intro S' h x hx;unfold JaJ at h;cases h;exact .inl hx
        | succ m ih=>
          intro S' h x hx;unfold JaJ at h;cases hm:JaJ r S m with
          | none=> rw [hm] at h;cases h
          | some S1=>
            rw [hm] at h;dsimp only at h;split at h
            ·cases h;rcases ih hm x hx with q | ⟨a,q1,q2⟩
             ·exact .inl q
             ·exact .inr ⟨a,Om,q2⟩
            ·split at h
             ·cases h
             ·cases h;rcases List.mem_append.1 hx with hx | hx
              ·rcases ih hm x hx with q | ⟨a,q1,q2⟩
               ·exact .inl q
               ·exact .inr ⟨a,Om,q2⟩
              ·exact .inr ⟨m,Nat.lt_succ_self _,List.mem_singleton.1 hx⟩
       rcases this hk _ hm with q | ⟨a,q1,q2⟩
       ·exact q
       ·have:=congrArg Prod.fst q2;dsimp only at this;omega
      ·cases h
theorem JkX {r:TRow} {S:Jbz}:∀ {k:Nat} {S':Jbz},JaJ r S k=some S'→(∀x,x∈S'↔x∈S∨∃a,a < k∧r.num a≠-1∧x=((a:Int),r.num a))∧∀a,a < k→r.num a≠-1→¬((a:Int),r.num a)∈S
 | 0,S',h=> by
   unfold JaJ at h;cases h;exact ⟨fun x=> ⟨.inl,fun q=> by rcases q with q | ⟨a,q,_⟩;exact q;omega⟩,fun a ha=> by omega⟩
 | k+1,S',h=> by
   unfold JaJ at h;cases hk:JaJ r S k with
   | none=> rw [hk] at h;cases h
   | some S1=>
     rw [hk] at h;dsimp only at h;obtain ⟨i1,i2⟩:=JkX hk;split at h
     ·rename_i hn
      cases h;refine ⟨fun x=> (i1 x).trans ⟨fun q=> ?_,fun q=> ?_⟩,fun a ha hna=> ?_⟩
      ·rcases q with q | ⟨a,q1,q2⟩
       ·exact .inl q
       ·exact .inr ⟨a,Om,q2⟩
      ·rcases q with q | ⟨a,q1,q2⟩
       ·exact .inl q
       ·rcases Nat.lt_or_ge a k with w | w
        ·exact .inr ⟨a,w,q2⟩
        ·rw [show a=k by omega] at q2;exact absurd hn q2.1
      ·rcases Nat.lt_or_ge a k with w | w
       ·exact i2 a w hna
       ·rw [show a=k by omega] at hna;exact absurd hn hna
     ·rename_i hn
      split at h
      ·cases h
      ·rename_i hm
       cases h;refine ⟨fun x=> ?_,fun a ha hna=> ?_⟩
       ·rw [List.mem_append,i1,List.mem_singleton]
        constructor
        ·rintro ((q | ⟨a,q1,q2⟩) | q)
         ·exact .inl q
         ·exact .inr ⟨a,Om,q2⟩
         ·exact .inr ⟨k,Nat.lt_succ_self _,hn,q⟩
        ·rintro (q | ⟨a,q1,q2,q3⟩)
         ·exact .inl (.inl q)
         ·rcases Nat.lt_or_ge a k with w | w
          ·exact .inl (.inr ⟨a,w,q2,q3⟩)
          ·rw [show a=k by omega] at q3;exact .inr q3
       ·rcases Nat.lt_or_ge a k with w | w
        ·exact i2 a w hna
        ·rw [show a=k by omega];exact fun q=> hm ((i1 _).2 (.inl q))
theorem JgA {l:List TRow} {i:Nat} (hi:i < l.length):JcM l i=true↔∃j,j < i∧((∃a,a < 5∧0≤(l.getD i Jd).num a∧(l.getD j Jd).num a=(l.getD i Jd).num a)∨(0 < (l.getD i Jd).mux∧(l.getD j Jd).mux=(l.getD i Jd).mux∧(l.getD j Jd).sub=(l.getD i Jd).sub)):=by
 constructor
 ·intro h;unfold JcM at h;rw [List.any_eq_true] at h;obtain ⟨s,hs,h⟩:=h;obtain ⟨j,hj,rfl⟩:=List.mem_iff_getElem.1 hs;rw [List.length_take] at hj;rw [List.getElem_take] at h;have hg:l.getD j Jd=l[j]:=by simp [List.getD,show j < l.length by omega]
  refine ⟨j,Om, ?_⟩;rw [hg];rw [Bool.or_eq_true] at h;rcases h with h | h
  ·left
   unfold Jhb at h;rw [List.any_eq_true] at h;obtain ⟨a,ha,h⟩:=h;rw [Bool.and_eq_true,decide_eq_true_iff,decide_eq_true_iff] at h;exact ⟨a,by simp at ha;omega,h⟩
  ·right
   unfold Jiy at h;rw [Bool.and_eq_true,Bool.and_eq_true,decide_eq_true_iff,decide_eq_true_iff,decide_eq_true_iff] at h;exact h
 ·rintro ⟨j,hj,h⟩;refine Jtn rfl hj hi ?_;rw [Bool.or_eq_true];rcases h with ⟨a,ha,h1,h2⟩ | ⟨h1,h2,h3⟩
  ·exact .inl (Jq4 ha (by unfold cN;rw [decide_eq_true h1,decide_eq_true h2];rfl))
  ·exact .inr (by unfold Jiy;rw [decide_eq_true h1,decide_eq_true h2,decide_eq_true h3];rfl)
theorem JyU {r:TRow} (h:Jfz r=false) {a:Nat} (ha:a < 5):-1≤r.num a:=by
 have:Jec (r.num a)=false:=by
  cases hq:Jec (r.num a) with
  | false=> rfl
  | true=> rw [Jxl ha hq.symm] at h;cases h
 unfold Jec at this
 rw [Bool.or_eq_false_iff,decide_eq_false_iff_not] at this
 omega
theorem JrV {l:List TRow} {i:Nat} {S:Jbz} (hi:i < l.length) (hS:Jpk l i S):(Jdd l i=0→∃S',JeB l i S= .ok S'∧Jpk l (i+1) S')∧(Jdd l i≠0→∃e,JeB l i S= .error e∧e≠0):=by
 obtain ⟨s1,s2⟩:=hS
 cases hn:nameB (l.getD i Jd).name.data.toList with
 | false=> rw [JrU hn];exact ⟨(fun h=> by cases h),fun _=> ⟨13,JrP hn,by decide⟩⟩
 | true=>
   rw [Jpj hn];cases ho:Jb1 l i with
   | true=> rw [if_pos rfl];exact ⟨(fun h=> by cases h),fun _=> ⟨15,JrQ hn ho,by decide⟩⟩
   | false=>
     rw [if_neg Dc];cases hb:Jfz (l.getD i Jd) with
     | true=>
       rw [if_pos rfl];exact ⟨(fun h=> by cases h),fun _=> ⟨16,Jl3 hn ho (by rw [Jix,hb];rfl),by decide⟩⟩
     | false=>
       rw [if_neg Dc];cases hm:Jgg (l.getD i Jd) with
       | true=>
         rw [if_pos rfl];exact ⟨(fun h=> by cases h),fun _=> ⟨16,Jl3 hn ho (by rw [Jix,hb,hm];rfl),by decide⟩⟩
       | false=>
         rw [if_neg Dc];have hrg:Jcr (l.getD i Jd)=true:=(by rw [Jix,hb,hm];rfl);cases ha:Jja (l.getD i Jd) with
         | true=>
           rw [if_pos rfl];have ha':(l.getD i Jd).a2=102∨(l.getD i Jd).a2=117:=(by unfold Jja at ha;simpa using ha);exact ⟨(fun h=> by cases h),fun _=> ⟨17,Jl4 hn ho hrg ha',by decide⟩⟩
         | false=>
           rw [if_neg Dc];have ha':¬((l.getD i Jd).a2=102∨(l.getD i Jd).a2=117):=fun q=> by
            unfold Jja at ha;rcases q with q | q
            ·rw [decide_eq_true q] at ha;cases ha
            ·rw [decide_eq_true q,Bool.or_true] at ha;cases ha
           rw [JmX hn ho hrg ha'];cases hns:JaJ (l.getD i Jd) S 5 with
           | none=>
             obtain ⟨a,h1,h2,h3⟩:=JkW hns;obtain ⟨_,j,hj,h4⟩:=(s1 a _ h1).1 h3;have hc:JcM l i=true:=(JgA hi).2 ⟨j,hj, .inl ⟨a,h1,by have:=JyU hb h1;omega,h4⟩⟩;rw [hc,if_pos rfl];exact ⟨(fun h=> by cases h),fun _=> ⟨15,rfl,by decide⟩⟩
           | some S1=>
             obtain ⟨i1,i2⟩:=JkX hns;dsimp only;have hnoN:∀j,j < i→∀a,a < 5→0≤(l.getD i Jd).num a→(l.getD j Jd).num a≠(l.getD i Jd).num a:=fun j hj a h1 h2 h3=> i2 a h1 Om ((s1 a _ h1).2 ⟨Om,j,hj,h3⟩);have hS1:∀(a:Nat) (n:Int),a < 5→(((a:Int),n)∈S1↔n≠-1∧∃j,j < i+1∧(l.getD j Jd).num a=n):=fun a n h5=> by
              rw [i1,s1 a n h5]
              constructor
              ·rintro (⟨q1,j,q2,q3⟩ | ⟨b,q1,q2,q3⟩)
               ·exact ⟨q1,j,Om,q3⟩
               ·have e1:a=b:=(by have:=congrArg Prod.fst q3;dsimp only at this;omega);have e2:n=(l.getD i Jd).num b:=congrArg Prod.snd q3;subst e1;exact ⟨by rw [e2];exact q2,i,Nat.lt_succ_self _,e2.symm⟩
              ·rintro ⟨q1,j,q2,q3⟩;rcases Nat.lt_or_ge j i with w | w
               ·exact .inl ⟨q1,j,w,q3⟩
               ·have e:j=i:=(by omega);subst e;exact .inr ⟨a,h5,by rw [q3];exact q1,by rw [q3]⟩
             unfold Jiw;by_cases hm0:(l.getD i Jd).mux=0
             ·rw [if_pos hm0];have hc:JcM l i=false:=by
               rw [Bool.eq_false_iff,Ne,JgA hi];rintro ⟨j,hj,⟨a,h1,h2,h3⟩ | ⟨h1,_⟩⟩
               ·exact hnoN j hj a h1 h2 h3
               ·omega
              rw [hc,if_neg Dc];refine ⟨fun _=> ⟨S1,rfl,hS1,fun m s hms=> ?_⟩,fun h=> absurd rfl h⟩;rw [i1,s2 m s hms]
              constructor
              ·rintro (⟨j,q2,q3⟩ | ⟨b,q1,q2,q3⟩)
               ·exact ⟨j,Om,q3⟩
               ·have:=congrArg Prod.fst q3;dsimp only at this;omega
              ·rintro ⟨j,q2,q3,q4⟩;rcases Nat.lt_or_ge j i with w | w
               ·exact .inl ⟨j,w,q3,q4⟩
               ·have e:j=i:=(by omega);subst e;omega
             ·rw [if_neg hm0];have hm12:=JkR hrg hm0;by_cases hin:(5+(l.getD i Jd).mux,(l.getD i Jd).sub)∈S1
              ·rw [if_pos hin];have hinS:(5+(l.getD i Jd).mux,(l.getD i Jd).sub)∈S:=by
                rcases (i1 _).1 hin with q | ⟨b,q1,q2,q3⟩
                ·exact q
                ·have:=congrArg Prod.fst q3;dsimp only at this;omega
               obtain ⟨j,hj,q1,q2⟩:=(s2 _ _ hm12).1 hinS;have hc:JcM l i=true:=(JgA hi).2 ⟨j,hj, .inr ⟨Om,q1,q2⟩⟩;rw [hc,if_pos rfl];exact ⟨(fun h=> by cases h),fun _=> ⟨15,rfl,by decide⟩⟩
              ·rw [if_neg hin];have hc:JcM l i=false:=by
                rw [Bool.eq_false_iff,Ne,JgA hi];rintro ⟨j,hj,⟨a,h1,h2,h3⟩ | ⟨h1,h2,h3⟩⟩
                ·exact hnoN j hj a h1 h2 h3
                ·exact hin ((i1 _).2 (.inl ((s2 _ _ hm12).2 ⟨j,hj,h2,h3⟩)))
               rw [hc,if_neg Dc];refine ⟨fun _=> ⟨_,rfl,fun a n h5=> ?_,fun m s hms=> ?_⟩,fun h=> absurd rfl h⟩
               ·rw [List.mem_append,hS1 a n h5,List.mem_singleton]
                constructor
                ·rintro (q | q)
                 ·exact q
                 ·have:=congrArg Prod.fst q;dsimp only at this;omega
                ·exact .inl
               ·rw [List.mem_append,i1,s2 m s hms,List.mem_singleton]
                constructor
                ·rintro ((⟨j,q2,q3⟩ | ⟨b,q1,q2,q3⟩) | q)
                 ·exact ⟨j,Om,q3⟩
                 ·have:=congrArg Prod.fst q3;dsimp only at this;omega
                 ·have e1:=congrArg Prod.fst q;have e2:=congrArg Prod.snd q;dsimp only at e1 e2;exact ⟨i,Nat.lt_succ_self _,Om,e2.symm⟩
                ·rintro ⟨j,q2,q3,q4⟩;rcases Nat.lt_or_ge j i with w | w
                 ·exact .inl (.inl ⟨j,w,q3,q4⟩)
                 ·have e:j=i:=(by omega);subst e;exact .inr (by rw [q3,q4])
theorem Jj9 {l:List TRow}:∀ {k:Nat},k≤l.length→(∀j,j < k→Jdd l j=0)→∃S,Jdk l k= .ok S∧Jpk l k S
 | 0,_,_=> ⟨[],rfl,fun a n _=> by simp,fun m s _=> by simp⟩
 | k+1,hk,h=> by
   obtain ⟨S,h1,h2⟩:=Jj9 (k:=k) Om fun j hj=> h j Om;obtain ⟨S',h3,h4⟩:=(JrV Om h2).1 (h k Om);exact ⟨S',JmW h1 h3,h4⟩
theorem JmY {l:List TRow}:(∀j,j < l.length→Jdd l j=0)∨∃i,i < l.length∧Jdd l i≠0∧∀j,j < i→Jdd l j=0:=by
 have:∀n,n≤l.length→(∀j,j < n→Jdd l j=0)∨∃i,i < l.length∧Jdd l i≠0∧∀j,j < i→Jdd l j=0:=by
  intro n
  induction n with
  | zero=> exact fun _=> .inl fun j hj=> absurd hj (Nat.not_lt_zero j)
  | succ n ih=>
    intro hn;rcases ih Om with h | h
    ·by_cases q:Jdd l n=0
     ·exact .inl fun j hj=> by rcases Nat.lt_or_ge j n with w | w;exact h j w;rw [show j=n by omega];exact q
     ·exact .inr ⟨n,Om,q,h⟩
    ·exact .inr h
 exact this _ (Nat.le_refl _)
theorem Jvj (l:List TRow):(JbO l).2=0↔(Jhc l).2=0:=by
 by_cases h4:400 < l.length
 ·unfold JbO Jhc;rw [if_pos h4,if_pos h4]
 ·rcases JmY (l:=l) with h | ⟨i,hi,h1,h2⟩
  ·obtain ⟨S,hS,-⟩:=Jj9 (Nat.le_refl _) h;rw [Jvg h4 hS];unfold Jhc;rw [if_neg h4,Jq5 (fun j hj=> decide_eq_false (fun q=> q (h j hj)))]
  ·obtain ⟨S,hS,hs⟩:=Jj9 (k:=i) Om h2;obtain ⟨e,he,hne⟩:=(JrV hi hs).2 h1;rw [JrO h4 hi hS he];unfold Jhc;rw [if_neg h4,JkV (p:=fun i=> decide (Jdd l i≠0)) hi (fun j hj=> decide_eq_false (fun q=> q (h2 j hj))) (decide_eq_true h1)];exact ⟨fun q=> absurd q hne,fun q=> absurd q h1⟩
theorem JdL {l:List TRow} (h:(JbO l).2=0):l.length≤400∧∀j,j < l.length→Jdd l j=0:=by
 rw [Jvj] at h
 unfold Jhc at h
 by_cases h4:400 < l.length
 ·rw [if_pos h4] at h;cases h
 ·rcases JmY (l:=l) with q | ⟨i,hi,h1,h2⟩
  ·exact ⟨Om,q⟩
  ·rw [if_neg h4,JkV (p:=fun i=> decide (Jdd l i≠0)) hi (fun j hj=> decide_eq_false (fun q=> q (h2 j hj))) (decide_eq_true h1)] at h;exact absurd h h1
theorem JeT {l:List TRow} {i:Nat} (h:Jdd l i=0):nameB (l.getD i Jd).name.data.toList=true∧Jb1 l i=false∧Jfz (l.getD i Jd)=false∧Jgg (l.getD i Jd)=false∧Jja (l.getD i Jd)=false∧JcM l i=false:=by
 cases hn:nameB (l.getD i Jd).name.data.toList with
 | false=> rw [JrU hn] at h;cases h
 | true=>
   rw [Jpj hn] at h;split at h
   ·cases h
   split at h
   ·cases h
   split at h
   ·cases h
   split at h
   ·cases h
   split at h
   ·cases h
   simp_all
theorem JfM {l:List TRow} (h:(JbO l).2=0):Jl7 l:=by
 obtain ⟨_,hr⟩:=JdL h
 have step:∀i,i+1 < l.length→Go.Sort.ltStr (l.getD i Jd).name.data.toList (l.getD (i+1) Jd).name.data.toList=true:=fun i hi=> by
  have:=(JeT (hr (i+1) hi)).2.1;unfold Jb1 at this;rw [decide_eq_true (Nat.succ_pos i),Bool.true_and] at this;exact JzX this
 intro i j hij hj
 have:∀n,i+1+n < l.length→Go.Sort.ltStr (l.getD i Jd).name.data.toList (l.getD (i+1+n) Jd).name.data.toList=true:=by
  intro n
  induction n with
  | zero=> exact step i
  | succ n ih=> exact fun hn=> Go.Sort.swo_ltStr.trans _ _ _ (ih Om) (step (i+1+n) Om)
 have:=this (j - i - 1) Om
 rwa [show i+1+(j - i - 1)=j by omega] at this
def nameR (l:List TRow) (r:Rec):ByteArray:=(ofI l r).name
def JAY (l:List TRow) (s:ByteArray) (rs:List Rec):List Rec:=rs.filter fun r=> kS s (nameR l r)
def Jxm (l:List TRow) (r:Rec) (k:Nat):Nat:=Jq (ofI l r).abi.toNat r k
def OwnOk (l:List TRow) (rs:List Rec) (g:Gat):Prop:=∃r0 rest,JAY l g.name rs=r0::rest∧g.m=rest.length+1∧(∀k,g.a k=Jxm l r0 k)∧∀k,g.b k=rest.all fun r=> decide (Jxm l r0 k=Jxm l r k)
structure GInv (l:List TRow) (rs:List Rec) (S:List Gat×Bool):Prop where
 nd:(S.1.map Gat.name).Nodup
 nz:∀g∈S.1,g.name.size≠0
 own:∀g∈S.1,OwnOk l rs g
 all:∀r∈rs,(nameR l r).size≠0→∃g∈S.1,g.name=nameR l r
 x:S.2=rs.any fun r=> decide ((nameR l r).size≠0)&& decide ((ofI l r).abi=1)
def RSb (a b:List UInt8):Prop:=Go.Sort.ltStr a b=true
theorem Jjb (x:List UInt8):¬RSb x x:=by unfold RSb;rw [Go.Sort.swo_ltStr.irrefl];decide
theorem JzZ (x y z:List UInt8) (h:RSb x y) (k:RSb y z):RSb x z:=Go.Sort.swo_ltStr.trans x y z h k
theorem JkY:∀ {a b:List (List UInt8)},a.Pairwise RSb→b.Pairwise RSb→(∀z,z∈a↔z∈b)→a=b
 | [], [],_,_,_=> rfl
 | [],y::b,_,_,h=> by have:=(h y).2 (.head _);cases this
 | x::a, [],_,_,h=> by have:=(h x).1 (.head _);cases this
 | x::a,y::b,ha,hb,h=> by
   rw [List.pairwise_cons] at ha hb;have hxy:x=y:=by
    rcases List.mem_cons.1 ((h x).1 (.head _)) with e | hx
    ·exact e
    ·rcases List.mem_cons.1 ((h y).2 (.head _)) with e | hy
     ·exact e.symm
     ·exact absurd (JzZ _ _ _ (ha.1 y hy) (hb.1 x hx)) (Jjb x)
   subst hxy;rw [JkY ha.2 hb.2 fun z=> ⟨fun hz=> ?_,fun hz=> ?_⟩]
   ·rcases List.mem_cons.1 ((h z).1 (.tail _ hz)) with e | q
    ·subst e;exact absurd (ha.1 _ hz) (Jjb _)
    ·exact q
   ·rcases List.mem_cons.1 ((h z).2 (.tail _ hz)) with e | q
    ·subst e;exact absurd (hb.1 _ hz) (Jjb _)
    ·exact q
abbrev Bts:=List UInt8
theorem Jee {x:UInt8}:∀ {a b r s:Bts},x∉a→x∉b→a++x::r=b++x::s→a=b∧r=s
 | [], [],r,s,_,_,h=> ⟨rfl,(List.cons.inj h).2⟩
 | [],y::b,r,s,_,hb,h=> absurd (List.mem_cons.2 (.inl (List.cons.inj h).1)) hb
 | y::a, [],r,s,ha,_,h=> absurd (List.mem_cons.2 (.inl (List.cons.inj h).1.symm)) ha
 | y::a,z::b,r,s,ha,hb,h=> by
   obtain ⟨h1,h2⟩:=List.cons.inj h;obtain ⟨h3,h4⟩:=Jee (fun q=> ha (List.mem_cons_of_mem _ q)) (fun q=> hb (List.mem_cons_of_mem _ q)) h2;exact ⟨by rw [h1,h3],h4⟩
def Jxn (l:Bts):Nat:=l.foldl (fun v b=> 10 * v+(b.toNat - 48)) 0
theorem JfX {n:Nat} (h:n < 10):(UInt8.ofNat (48+n)).toNat=48+n:=by
 rw [UInt8.toNat_ofNat']
 exact Nat.mod_eq_of_lt Om
theorem Jl8:∀n:Nat,Jxn (Lib.decDigits n)=n:=by
 intro n
 induction n using Nat.strongRecOn with
 | ind n ih=>
   rw [Lib.decDigits];split
   ·rename_i h
    show 10 * 0+((UInt8.ofNat (48+n)).toNat - 48)=n;rw [JfX h];omega
   ·have:=ih (n / 10) Om;unfold Jxn at this⊢;rw [List.foldl_append,this];show 10 * (n / 10)+((UInt8.ofNat (48+n % 10)).toNat - 48)=n;rw [JfX (Nat.mod_lt _ Dc)];omega
theorem Jjc {m n:Nat} (h:Lib.decDigits m=Lib.decDigits n):m=n:=by rw [← Jl8 m,h,Jl8]
theorem JeU:∀ {n:Nat} {b:UInt8},b∈Lib.decDigits n→48≤b.toNat∧b.toNat≤57:=by
 intro n
 induction n using Nat.strongRecOn with
 | ind n ih=>
   intro b hb;rw [Lib.decDigits] at hb;split at hb
   ·rename_i h
    rw [List.mem_singleton.1 hb,JfX h];omega
   ·rcases List.mem_append.1 hb with h | h
    ·exact ih (n / 10) Om h
    ·rw [List.mem_singleton.1 h,JfX (Nat.mod_lt _ Dc)];have:=Nat.mod_lt n (by decide:0 < 10);omega
theorem Jiz {n:Nat} {b:UInt8} (h:b.toNat < 48∨57 < b.toNat):b∉Lib.decDigits n:=fun q=> by
 have:=JeU q
 omega
theorem Jpl (n:Nat):Lib.decDigits n≠ []:=by
 rw [Lib.decDigits]
 split
 ·exact List.cons_ne_nil _ _
 ·exact fun h=> List.cons_ne_nil _ _ (List.append_eq_nil_iff.1 h).2
def opsT:List Bts:= [[61,61], [33,61], [60], [60,61], [62], [62,61], [38]]
def opT (k:Nat):Bts:=opsT.getD k []
def JP (c:Cnd):Bts:= [97]++(Lib.decDigits c.arg.toNat++32::(opT (c.op.toNat - 1)++32::(if c.op=7 then Lib.decDigits c.mask++32::(61::61::32::Lib.decDigits c.value) else Lib.decDigits c.value)))
theorem Jpm:∀k:Nat,k < 7→(32:UInt8)∉opT k∧(59:UInt8)∉opT k:=by decide
theorem JrW:∀j:Nat,j < 7→∀k:Nat,k < 7→opT j=opT k→j=k:=by decide
theorem JmZ {c d:Cnd} (hc:rightC c=true) (hd:rightC d=true) (h:JP c=JP d):c=d:=by
 obtain ⟨a1,a2,a3,a4,a5⟩:=JX.1 hc
 obtain ⟨b1,b2,b3,b4,b5⟩:=JX.1 hd
 unfold JP at h
 obtain ⟨_,h⟩:=List.cons.inj h
 obtain ⟨h1,h⟩:=Jee (Jiz Dc) (Jiz Dc) h
 obtain ⟨h2,h⟩:=Jee (Jpm _ Om).1 (Jpm _ Om).1 h
 have e1:c.arg=d.arg:=by have:=Jjc h1;omega
 have e2:c.op=d.op:=by have:=JrW _ Om _ Om h2;omega
 obtain ⟨carg,cop,cm,cv⟩:=c
 obtain ⟨darg,dop,dm,dv⟩:=d
 dsimp only at *
 subst e1;subst e2
 by_cases h7:cop=7
 ·rw [if_pos h7,if_pos h7] at h;obtain ⟨h3,h⟩:=Jee (Jiz Dc) (Jiz Dc) h;have h4:=(List.cons.inj (List.cons.inj (List.cons.inj h).2).2).2;rw [Jjc h3,Jjc h4]
 ·rw [if_neg h7,if_neg h7] at h;rw [Jjc h];have q1:cm=0:=a5.resolve_left h7;have q2:dm=0:=b5.resolve_left h7;rw [q1,q2]
theorem Jxo {c:Cnd} (hc:rightC c=true):(59:UInt8)∉JP c:=by
 obtain ⟨a1,a2,a3,a4,a5⟩:=JX.1 hc
 have hd:∀n:Nat,(59:UInt8)∉Lib.decDigits n:=fun n=> Jiz Dc
 have ho:=(Jpm (c.op.toNat - 1) Om).2
 unfold JP
 split
 ·simp [hd,ho]
 ·simp [hd,ho]
theorem Jpn (c:Cnd):JP c≠ []:=List.cons_ne_nil _ _
def JeD (x:UInt8):List Bts→Bts
 | []=> []
 | [a]=> a
 | a::b::l=> a++x::JeD x (b::l)
theorem Jb4 {x:UInt8} {a:Bts} {l:List Bts} (h:l≠ []):JeD x (a::l)=a++x::JeD x l:=by
 cases l with
 | nil=> exact absurd rfl h
 | cons b l=> rfl
theorem Jm0 {x:UInt8}:∀ {l m:List Bts},(∀a∈l,x∉a∧a≠ [])→(∀a∈m,x∉a∧a≠ [])→JeD x l=JeD x m→l=m
 | [], [],_,_,_=> rfl
 | [],b::m,_,hm,h=> by
   exfalso
   have hb:=(hm b (.head _)).2;cases m with
   | nil=> exact hb h.symm
   | cons c m=> rw [Jb4 (List.cons_ne_nil _ _)] at h;exact hb (List.append_eq_nil_iff.1 h.symm).1
 | a::l, [],hl,_,h=> by
   exfalso
   have ha:=(hl a (.head _)).2;cases l with
   | nil=> exact ha h
   | cons c l=> rw [Jb4 (List.cons_ne_nil _ _)] at h;exact ha (List.append_eq_nil_iff.1 h).1
 | a::l,b::m,hl,hm,h=> by
   have ha:=(hl a (.head _)).1;have hb:=(hm b (.head _)).1;cases l with
   | nil=>
     cases m with
     | nil=> rw [show a=b from h]
     | cons c m=>
       exfalso
       rw [Jb4 (l:=c::m) (List.cons_ne_nil _ _)] at h;exact ha (by rw [show a=b++x::JeD x (c::m) from h];simp)
   | cons c l=>
     cases m with
     | nil=>
       exfalso
       rw [Jb4 (l:=c::l) (List.cons_ne_nil _ _)] at h;exact hb (by rw [← show a++x::JeD x (c::l)=b from h];simp)
     | cons d m=>
       rw [Jb4 (List.cons_ne_nil _ _),Jb4 (List.cons_ne_nil _ _)] at h;obtain ⟨h1,h2⟩:=Jee ha hb h;rw [h1,Jm0 (fun q hq=> hl q (.tail _ hq)) (fun q hq=> hm q (.tail _ hq)) h2]
def cUs (d:Array Bts):Nat→List Bts
 | 0=> []
 | m+1=> if m=0∨d[m]! ≠d[m - 1]! then cUs d m++ [d[m]!] else cUs d m
theorem Jpo (d:Array Bts):∀m,(cUs d m).length≤m
 | 0=> Nat.le_refl _
 | m+1=> by
   have:=Jpo d m;unfold cUs;split
   ·simp;omega
   ·omega
theorem Jpp {d:Array Bts}:∀ {m:Nat},m≤d.size→(∀i j,i < j→j < m→Go.Sort.ltStr d[j]! d[i]! =false)→(cUs d m).Pairwise RSb∧∀x,x∈cUs d m↔∃j,j < m∧d[j]! =x
 | 0,_,_=> ⟨List.Pairwise.nil,fun x=> by simp [cUs]⟩
 | m+1,hm,hs=> by
   obtain ⟨h1,h2⟩:=Jpp (m:=m) Om fun i j a b=> hs i j a Om;by_cases hc:m=0∨d[m]! ≠d[m - 1]!
   ·rw [cUs,if_pos hc];refine ⟨?_,fun x=> ?_⟩
    ·rw [List.pairwise_append];refine ⟨h1,List.pairwise_singleton _ _,fun a ha b hb=> ?_⟩;rw [List.mem_singleton] at hb;subst hb;obtain ⟨j,hj,rfl⟩:=(h2 a).1 ha;cases hlt:Go.Sort.ltStr d[j]! d[m]! with
     | true=> exact hlt
     | false=>
       exfalso
       have h3:=hs (m - 1) m Om Om;have h4:Go.Sort.ltStr d[m - 1]! d[m]! =false:=by
        rcases Nat.lt_or_ge j (m - 1) with q | q
        ·exact Go.Sort.swo_ltStr.ntrans _ _ _ (hs j (m - 1) q Om) hlt
        ·rw [show m - 1=j by omega];exact hlt
       rcases hc with hc | hc
       ·omega
       ·exact hc (JkU _ _ h3 h4)
    ·rw [List.mem_append,h2,List.mem_singleton]
     constructor
     ·rintro (⟨j,hj,rfl⟩ | rfl)
      ·exact ⟨j,Om,rfl⟩
      ·exact ⟨m,Om,rfl⟩
     ·rintro ⟨j,hj,rfl⟩;rcases Nat.lt_or_ge j m with q | q
      ·exact .inl ⟨j,q,rfl⟩
      ·exact .inr (by rw [show j=m by omega])
   ·rw [cUs,if_neg hc];refine ⟨h1,fun x=> ?_⟩;rw [h2]
    constructor
    ·rintro ⟨j,hj,rfl⟩;exact ⟨j,Om,rfl⟩
    ·rintro ⟨j,hj,rfl⟩;rcases Nat.lt_or_ge j m with q | q
     ·exact ⟨j,q,rfl⟩
     ·have hj':j=m:=(by omega);subst hj';have:j≠0:=fun h=> hc (.inl h);exact ⟨j - 1,Om,by by_cases he:d[j]! =d[j - 1]!;exact he.symm;exact absurd (.inr he) hc⟩
def JfN (l:List Bts):List Bts:=Jan Go.Sort.ltStr l
def Jcn (l:List Bts):List Bts:=cUs (JfN l).toArray (JfN l).length
theorem Jbr (l:List Bts):(Jcn l).Pairwise RSb∧∀x,x∈Jcn l↔x∈l:=by
 have hp:=Je9 Go.Sort.swo_ltStr l
 have hm:∀x,x∈JfN l↔x∈l:=fun x=> JhF
 unfold Jcn
 have hp':(JfN l).Pairwise fun a b=> Go.Sort.ltStr b a=false:=hp
 generalize JfN l=S at hm hp'
 obtain ⟨h1,h2⟩:=Jpp (d:=S.toArray) (m:=S.length) Si fun i j hij hj=> by
  have hi:i < S.length:=by omega
  have:=List.pairwise_iff_getElem.1 hp' i j hi hj hij;simpa [hi,hj] using this
 refine ⟨h1,fun x=> (h2 x).trans ?_⟩
 rw [← hm,List.mem_iff_getElem]
 constructor
 ·rintro ⟨j,hj,rfl⟩;exact ⟨j,hj,by simp [hj]⟩
 ·rintro ⟨j,hj,rfl⟩;exact ⟨j,hj,by simp [hj]⟩
def JgQ (cs:List Cnd):Bts:=JeD 59 (Jcn (cs.map JP))
theorem JkZ {cs:List Cnd} (h:∀c∈cs,rightC c=true):∀a∈Jcn (cs.map JP),(59:UInt8)∉a∧a≠ []:=fun a ha=> by
 obtain ⟨c,hc,rfl⟩:=List.mem_map.1 (((Jbr _).2 a).1 ha)
 exact ⟨Jxo (h c hc),Jpn c⟩
theorem Jpq {cs ds:List Cnd} (hc:∀c∈cs,rightC c=true) (hd:∀c∈ds,rightC c=true):JgQ cs=JgQ ds↔∀c,c∈cs↔c∈ds:=by
 constructor
 ·intro h c;have e:=Jm0 (JkZ hc) (JkZ hd) h;have hm:∀x,x∈cs.map JP↔x∈ds.map JP:=fun x=> by rw [← (Jbr _).2,e,(Jbr _).2]
  constructor
  ·intro q;obtain ⟨d,hd1,hd2⟩:=List.mem_map.1 ((hm (JP c)).1 (List.mem_map_of_mem q));rw [← JmZ (hd d hd1) (hc c q) hd2];exact hd1
  ·intro q;obtain ⟨d,hd1,hd2⟩:=List.mem_map.1 ((hm (JP c)).2 (List.mem_map_of_mem q));rw [← JmZ (hc d hd1) (hd c q) hd2];exact hd1
 ·intro h;unfold JgQ;refine congrArg _ (JkY (Jbr _).1 (Jbr _).1 fun z=> ?_);rw [(Jbr _).2,(Jbr _).2,List.mem_map,List.mem_map];exact ⟨fun ⟨c,q1,q2⟩=> ⟨c,(h c).1 q1,q2⟩,fun ⟨c,q1,q2⟩=> ⟨c,(h c).2 q1,q2⟩⟩
theorem Jka {cs:List Cnd}:JgQ cs= []↔cs= []:=by
 constructor
 ·intro h;cases cs with
  | nil=> rfl
  | cons c cs=>
    exfalso
    have hm:=((Jbr ((c::cs).map JP)).2 (JP c)).2 Si;unfold JgQ at h;have hne:∀a∈Jcn ((c::cs).map JP),a≠ []:=fun a ha=> by
     obtain ⟨d,_,rfl⟩:=List.mem_map.1 (((Jbr _).2 a).1 ha);exact Jpn d
    generalize Jcn ((c::cs).map JP)=L at h hm hne;cases L with
    | nil=> cases hm
    | cons a L=>
      cases L with
      | nil=> exact hne a (.head _) h
      | cons b L=>
        rw [Jb4 (List.cons_ne_nil _ _)] at h;exact hne a (.head _) (List.append_eq_nil_iff.1 h).1
 ·rintro rfl;have h:Jcn (([]:List Cnd).map JP)= []:=List.eq_nil_iff_forall_not_mem.2 fun x hx=> by cases ((Jbr _).2 x).1 hx
  unfold JgQ;rw [h];rfl
def Jdw (c:Cnd):Bool:=decide (c.op=7)&& decide (JgP c.value c.mask≠0)
def Jk0 (a b:List Cnd):Bool:=(a.all fun c=> decide (c∈b))&& b.all fun c=> decide (c∈a)
def JeE (r q:Rul):Bool:=kS q.name r.name&& (decide (q.conds.length=0)|| Jk0 q.conds r.conds)
def JbQ (l:List TRow) (rs:List Rul) (i:Nat):Int:=if Jap l (rs.getD i Jg).name=false then 14 else if (rs.getD i Jg).conds.any Jdw=true then 16 else if (rs.take i).any (JeE (rs.getD i Jg))=true then 15 else 0
def Jfo (l:List TRow) (rs:List Rul):Option Nat:=(List.range rs.length).find? fun i=> decide (JbQ l rs i≠0)
def JT (p:Pol) (l:List TRow):Int×Int:=if Jaq p=false then (0,13) else if (JbO l).2≠0 then (0,18) else match Jfo l p.rules with
 | some i=> ((i:Int),JbQ l p.rules i)
 | none=> (0,0)
def JhH (r:Rul):Bts:=r.name.data.toList
def JhI (r:Rul):Bts:=JhH r++58::JgQ r.conds
theorem JyV {l:List UInt8} (h:nameB l=true):(58:UInt8)∉l:=fun q=> by
 unfold nameB at h
 simp only [Bool.and_eq_true] at h
 have:=List.all_eq_true.1 h.2.2.2.2.1 58 q
 revert this
 decide
theorem JgB {r:Rul} (h:Jai r=true):(58:UInt8)∉JhH r:=JyV (by
 unfold Jai at h
 simp only [Bool.and_eq_true] at h
 exact h.1)
theorem JdM {r:Rul} (h:Jai r=true):∀c∈r.conds,rightC c=true:=fun c hc=> by
 unfold Jai at h
 simp only [Bool.and_eq_true] at h
 have:=h.2.2.2
 simp only [Bool.not_eq_true',List.any_eq_false] at this
 simpa using this c hc
theorem Jm1 {a b:List Cnd}:Jk0 a b=true↔∀c,c∈a↔c∈b:=by
 unfold Jk0
 simp only [Bool.and_eq_true,List.all_eq_true,decide_eq_true_eq]
 exact ⟨fun h c=> ⟨h.1 c,h.2 c⟩,fun h=> ⟨fun c=> (h c).1,fun c=> (h c).2⟩⟩
theorem Jpr {q r:Rul} (hq:Jai q=true) (hr:Jai r=true):JhI q=JhI r↔kS q.name r.name=true∧Jk0 q.conds r.conds=true:=by
 unfold JhI
 constructor
 ·intro h;obtain ⟨h1,h2⟩:=Jee (JgB hq) (JgB hr) h;exact ⟨JaG.2 (Jgz h1),Jm1.2 ((Jpq (JdM hq) (JdM hr)).1 h2)⟩
 ·rintro ⟨h1,h2⟩;unfold JhH;rw [JaG.1 h1,(Jpq (JdM hq) (JdM hr)).2 (Jm1.1 h2)]
theorem Jps {q r:Rul} (hq:Jai q=true) (hr:Jai r=true):JhI q=JhH r++ [58]↔kS q.name r.name=true∧q.conds.length=0:=by
 unfold JhI
 constructor
 ·intro h;obtain ⟨h1,h2⟩:=Jee (JgB hq) (JgB hr) h;exact ⟨JaG.2 (Jgz h1),List.length_eq_zero_iff.2 (Jka.1 h2)⟩
 ·rintro ⟨h1,h2⟩;unfold JhH;rw [JaG.1 h1,Jka.2 (List.length_eq_zero_iff.1 h2)]
def Jk1 (rs:List Rul) (i:Nat):List Bts:=(rs.take i).map JhI
theorem Jvk {rs:List Rul} (h:∀r∈rs,Jai r=true) {i:Nat} {r:Rul} (hr:Jai r=true):(JhH r++ [58]∈Jk1 rs i∨JhI r∈Jk1 rs i)↔(rs.take i).any (JeE r)=true:=by
 unfold Jk1
 rw [List.any_eq_true]
 constructor
 ·rintro (q | q)
  ·obtain ⟨x,hx,he⟩:=List.mem_map.1 q;obtain ⟨k1,k2⟩:=(Jps (h x (List.mem_of_mem_take hx)) hr).1 he;exact ⟨x,hx,by unfold JeE;rw [k1,decide_eq_true k2];rfl⟩
  ·obtain ⟨x,hx,he⟩:=List.mem_map.1 q;obtain ⟨k1,k2⟩:=(Jpr (h x (List.mem_of_mem_take hx)) hr).1 he;exact ⟨x,hx,by unfold JeE;rw [k1,k2,Bool.or_true];rfl⟩
 ·rintro ⟨x,hx,he⟩;unfold JeE at he;rw [Bool.and_eq_true,Bool.or_eq_true,decide_eq_true_iff] at he;have hxr:=h x (List.mem_of_mem_take hx);rcases he with ⟨k1,k2 | k2⟩
  ·exact .inl (List.mem_map.2 ⟨x,hx,(Jps hxr hr).2 ⟨k1,k2⟩⟩)
  ·exact .inr (List.mem_map.2 ⟨x,hx,(Jpr hxr hr).2 ⟨k1,k2⟩⟩)
theorem Jxp {l:List TRow} {rs:List Rul} {i:Nat} (hi:i < rs.length) (h:∀j,j < i→JbQ l rs j=0) (hv:JbQ l rs i≠0):Jfo l rs=some i:=by
 unfold Jfo
 rw [List.find?_eq_some_iff_getElem]
 refine ⟨by simpa using hv,i,by simpa using hi,by simp,fun j hj=> ?_⟩
 simp [h j hj]
theorem Jk2 {l:List TRow} {rs:List Rul} (h:∀j,j < rs.length→JbQ l rs j=0):Jfo l rs=none:=by
 unfold Jfo
 rw [List.find?_eq_none]
 intro j hj
 simp [h j (List.mem_range.1 hj)]
theorem Jac {p:Pol} {l:List TRow}:(JT p l).2=0↔Jaq p=true∧(JbO l).2=0∧∀i,i < p.rules.length→JbQ l p.rules i=0:=by
 unfold JT
 by_cases h1:Jaq p=false
 ·rw [if_pos h1];exact ⟨fun h=> absurd h Dc,fun h=> by rw [h1] at h;cases h.1⟩
 rw [if_neg h1]
 by_cases h2:(JbO l).2≠0
 ·rw [if_pos h2];exact ⟨fun h=> absurd h Dc,fun h=> absurd h.2.1 h2⟩
 rw [if_neg h2]
 constructor
 ·intro h;refine ⟨by simpa using h1,by simpa using h2,fun i hi=> ?_⟩;cases hf:Jfo l p.rules with
  | none=>
    unfold Jfo at hf;have:=List.find?_eq_none.1 hf i (List.mem_range.2 hi);simpa using this
  | some j=>
    rw [hf] at h;unfold Jfo at hf;have:=List.find?_some hf;exact absurd h (by simpa using this)
 ·rintro ⟨_,_,h⟩;rw [Jk2 h]
theorem Jvl {p:Pol} {l:List TRow} (h:(JT p l).2=0):JT p l=(0,0):=by
 obtain ⟨h1,h2,h3⟩:=Jac.1 h
 unfold JT
 rw [if_neg (by rw [h1];decide),if_neg Om,Jk2 h3]
theorem Jvm {p:Pol} {l:List TRow} (h1:Jaq p=true) (h2:(JbO l).2=0) {i:Nat} (hi:i < p.rules.length) (h3:∀j,j < i→JbQ l p.rules j=0) {v:Int} (h4:JbQ l p.rules i=v) (h5:v≠0):JT p l=((i:Int),v):=by
 unfold JT
 rw [if_neg (by rw [h1];decide),if_neg Om,Jxp hi h3 (by rw [h4];exact h5)]
 exact congrArg _ h4
theorem JyW {l:List TRow} {rs:List Rul} {i:Nat}:JbQ l rs i=0↔Jap l (rs.getD i Jg).name=true∧(rs.getD i Jg).conds.any Jdw=false∧(rs.take i).any (JeE (rs.getD i Jg))=false:=by
 unfold JbQ
 by_cases h1:Jap l (rs.getD i Jg).name=false
 ·rw [if_pos h1];exact ⟨fun h=> absurd h Dc,fun h=> by rw [h1] at h;cases h.1⟩
 rw [if_neg h1]
 by_cases h2:(rs.getD i Jg).conds.any Jdw=true
 ·rw [if_pos h2];exact ⟨fun h=> absurd h Dc,fun h=> by rw [h2] at h;cases h.2.1⟩
 rw [if_neg h2]
 by_cases h3:(rs.take i).any (JeE (rs.getD i Jg))=true
 ·rw [if_pos h3];exact ⟨fun h=> absurd h Dc,fun h=> by rw [h3] at h;cases h.2.2⟩
 rw [if_neg h3]
 exact ⟨fun _=> ⟨by simpa using h1,by simpa using h2,by simpa using h3⟩,fun _=> rfl⟩
theorem Jk3 {p:Pol}:Jaq p=true↔right9 p.dflt.1 p.dflt.2=true∧p.rules.length≤500∧∀r∈p.rules,Jai r=true:=by
 unfold Jaq
 simp only [Bool.and_eq_true,decide_eq_true_eq,Bool.not_eq_true',List.any_eq_false,Bool.not_eq_false']
 exact ⟨fun h=> ⟨h.1,h.2.1,fun r hr=> by simpa using h.2.2 r hr⟩,fun h=> ⟨h.1,h.2.1,fun r hr=> by simpa using h.2.2 r hr⟩⟩
structure PRul where
 conds:List Cnd
 code:Nat
deriving DecidableEq
structure PEnt where
 num:Nat
 rules:List PRul
structure PSub where
 num:Nat
 code:Nat
deriving DecidableEq
structure Plan where
 dflt:Nat
 x32:Bool
 ents:Nat→List PEnt
 subs:Nat→List PSub
def NFm (c:Cnd):Prop:=rightC c=true∧(c.op=1∨c.op=2∨c.op=3∨c.op=6∨(c.op=7∧JgP c.value c.mask=0))
theorem Jvn {c:Cnd} (h:(JN c).2=0):NFm (JN c).1:=by
 unfold JN at h⊢
 by_cases hr:rightC c=true
 ·rw [if_pos hr] at h⊢;obtain ⟨h1,h2,h3,h4,h5⟩:=JX.1 hr;obtain ⟨arg,op,mask,value⟩:=c;dsimp only at h1 h2 h3 h4 h5;have hu:∀v:Nat,(JaC ⟨arg,op,mask,value⟩ v).2=0→NFm (JaC ⟨arg,op,mask,value⟩ v).1:=fun v hv=> by
   unfold JaC at hv⊢;split at hv
   ·cases hv
   ·rename_i q0
    rw [if_neg q0];split at hv
    ·rename_i q1
     rw [if_pos q1];exact ⟨JX.2 ⟨h1,h2,(by decide:(1:Int)≤1),(by decide:(1:Int)≤7), .inr rfl⟩, .inl rfl⟩
    ·rename_i q1
     rw [if_neg q1];exact ⟨JX.2 ⟨h1,h2,(by decide:(1:Int)≤3),(by decide:(3:Int)≤7), .inr rfl⟩, .inr (.inr (.inl rfl))⟩
  have ho:∀v:Nat,(Jba ⟨arg,op,mask,value⟩ v).2=0→NFm (Jba ⟨arg,op,mask,value⟩ v).1:=fun v hv=> by
   unfold Jba at hv⊢;split at hv
   ·cases hv
   ·rename_i q0
    rw [if_neg q0];split at hv
    ·rename_i q1
     rw [if_pos q1];exact ⟨JX.2 ⟨h1,h2,(by decide:(1:Int)≤1),(by decide:(1:Int)≤7), .inr rfl⟩, .inl rfl⟩
    ·rename_i q1
     rw [if_neg q1];exact ⟨JX.2 ⟨h1,h2,(by decide:(1:Int)≤6),(by decide:(6:Int)≤7), .inr rfl⟩, .inr (.inr (.inr (.inl rfl)))⟩
  unfold JaF at h⊢;dsimp only at h⊢;obtain rfl | rfl | rfl | rfl | rfl | rfl | rfl:op=1∨op=2∨op=3∨op=4∨op=5∨op=6∨op=7:=by omega
  ·exact ⟨hr, .inl rfl⟩
  ·exact ⟨hr, .inr (.inl rfl)⟩
  ·exact hu _ h
  ·simp only [Int.reduceEq,if_false,if_true] at h⊢;split at h
   ·cases h
   ·rename_i q;rw [if_neg q];exact hu _ h
  ·simp only [Int.reduceEq,if_false,if_true] at h⊢;split at h
   ·cases h
   ·rename_i q;rw [if_neg q];exact ho _ h
  ·exact ho _ h
  ·simp only [Int.reduceEq,if_false,if_true] at h⊢;unfold Jc2 at h⊢;dsimp only at h⊢;split at h
   ·cases h
   ·rename_i q0
    rw [if_neg q0];split at h
    ·cases h
    ·rename_i q1
     rw [if_neg q1];split at h
     ·rename_i q2
      rw [if_pos q2];exact ⟨JX.2 ⟨h1,h2,(by decide:(1:Int)≤1),(by decide:(1:Int)≤7), .inr rfl⟩, .inl rfl⟩
     ·rename_i q2
      rw [if_neg q2];exact ⟨hr, .inr (.inr (.inr (.inr ⟨rfl,by simpa using q0⟩)))⟩
 ·rw [if_neg hr] at h;cases h
def lowM32:Nat:=4294967295
def JaU (c:Cnd):Cnd×Nat:=
 if c.value > lowM32 then (cnd0,if c.op=2∨c.op=3 then 1 else 2)
 else if c.op=7 then (if c.mask&&& lowM32=0 then (cnd0,1) else (⟨c.arg,c.op,c.mask&&& lowM32,c.value⟩,0))
 else (c,0)
theorem JlV {a:Nat} (h:a < 4294967296):a&&& lowM32=a:=by
 unfold lowM32
 rw [show (4294967295:Nat)=2 ^ 32 - 1 by decide,Nat.and_two_pow_sub_one_eq_mod]
 exact Nat.mod_eq_of_lt h
theorem Jpt {a m:Nat} (h:a < 4294967296):a&&& (m&&& lowM32)=a&&& m:=by
 rw [Nat.and_comm m,← Nat.and_assoc,JlV h]
theorem sub_zero {v m:Nat} (hv:v||| m=m) (h0:m&&& lowM32=0) (hl:v < 4294967296):v=0:=by
 rw [← JlV hl]
 refine Nat.eq_of_testBit_eq fun i=> ?_
 rw [Nat.testBit_and,Nat.zero_testBit]
 have h1:=congrArg (·.testBit i) hv
 have h2:=congrArg (·.testBit i) h0
 simp only [Nat.testBit_or,Nat.testBit_and,Nat.zero_testBit] at h1 h2
 revert h1 h2
 cases v.testBit i <;> cases m.testBit i <;> cases lowM32.testBit i <;> decide
theorem Jvo {c:Cnd} (ho:c.ok) (hc:NFm c) {a:Nat} (ha:a < 4294967296):((JaU c).2=1→JaD c a=true)∧((JaU c).2=2→JaD c a=false)∧((JaU c).2=0→rightC (JaU c).1=true∧(JaU c).1.arg=c.arg∧JaD (JaU c).1 a=JaD c a):=by
 obtain ⟨hr,hop⟩:=hc
 obtain ⟨h1,h2,h3,h4,h5⟩:=JX.1 hr
 obtain ⟨o1,o2⟩:=ho
 obtain ⟨arg,op,mask,value⟩:=c
 dsimp only at *
 unfold JaU
 dsimp only
 by_cases hv:value > lowM32
 ·rw [if_pos hv];unfold lowM32 at hv;dsimp only;have hle:a&&& mask≤a:=Nat.and_le_left;rcases hop with rfl | rfl | rfl | rfl | ⟨rfl,_⟩
  ·refine ⟨fun h=> (by simp at h),fun _=> ?_,fun h=> (by simp at h)⟩;show decide (a=value)=false;exact decide_eq_false Om
  ·refine ⟨fun _=> ?_,fun h=> (by simp at h),fun h=> (by simp at h)⟩;show (!decide (a=value))=true;rw [decide_eq_false Om];rfl
  ·refine ⟨fun _=> ?_,fun h=> (by simp at h),fun h=> (by simp at h)⟩;show decide (a < value)=true;exact decide_eq_true Om
  ·refine ⟨fun h=> (by simp at h),fun _=> ?_,fun h=> (by simp at h)⟩;show decide (a≥value)=false;exact decide_eq_false Om
  ·refine ⟨fun h=> (by simp at h),fun _=> ?_,fun h=> (by simp at h)⟩;show decide (a&&& mask=value)=false;exact decide_eq_false Om
 ·rw [if_neg hv];unfold lowM32 at hv;by_cases h7:op=7
  ·rw [if_pos h7];subst h7;have hcl:JgP value mask=0:=by
    rcases hop with h | h | h | h | ⟨_,h⟩
    ·cases h
    ·cases h
    ·cases h
    ·cases h
    ·exact h
   have hor:=(Jj4 (v:=value) (m:=mask) o2 o1).1 hcl;by_cases h0:mask&&& lowM32=0
   ·rw [if_pos h0];refine ⟨fun _=> ?_,fun h=> (by cases h),fun h=> (by cases h)⟩;show decide (a&&& mask=value)=true;rw [← Jpt ha,h0,Nat.and_zero,sub_zero hor h0 Om];rfl
   ·rw [if_neg h0];refine ⟨fun h=> (by cases h),fun h=> (by cases h),fun _=> ⟨JX.2 ⟨h1,h2,h3,h4, .inl rfl⟩,rfl, ?_⟩⟩;show decide (a&&& (mask&&& lowM32)=value)=decide (a&&& mask=value);rw [Jpt ha]
  ·rw [if_neg h7];exact ⟨fun h=> (by cases h),fun h=> (by cases h),fun _=> ⟨hr,rfl,rfl⟩⟩
end Go.Proofs.W

namespace Go.Proofs
open Go.Shelf
shelf_lay Lays.n217 Nm 217 at Tryz as Tryz.lays217
shelf_lay Lays.n229 Nm 229 at Tryz as Tryz.lays229
end Go.Proofs
namespace Go.Proofs.W
open Go.Vl Go.Shelf
set_option maxRecDepth 100000
def i32 (n:Int):AV:= .v (.int .i32 n)
def JbD (x:Nat):Bool:=decide (x=32)|| decide (x=9)|| decide (x=13)
theorem Jk4 (x:Nat):Tells Tryz.prog 83 [i32 x] (boolA (JbD x)):=by
 have hb:JbD x=(((x:Int) ==32)|| (((x:Int) ==9)|| ((x:Int) ==13))):=by
  unfold JbD;rw [show ((x:Int) ==32)=decide (x=32) by rw [Bool.eq_iff_iff];simp;omega,show ((x:Int) ==9)=decide (x=9) by rw [Bool.eq_iff_iff];simp;omega,show ((x:Int) ==13)=decide (x=13) by rw [Bool.eq_iff_iff];simp;omega,Bool.or_assoc]
 refine Jc Tryz.func83 rfl rfl fun nx=> ?_
 refine Z ?_
 intro c hc
 have hc2:c=((x:Int) ==32):=hc
 clear hc
 rw [← hc2] at hb
 clear hc2
 cases c
 ·refine Z ?_;intro c hc;have hc2:c=((x:Int) ==9):=hc;clear hc;rw [← hc2,Bool.false_or] at hb;clear hc2;cases c
  ·refine Z ?_;intro c hc;have hc2:c=((x:Int) ==13):=hc;clear hc;rw [← hc2,Bool.false_or] at hb;refine Z ?_;exact Jb rfl (Jp (by exact hb.symm))
  ·refine Z ?_;exact Jb rfl (Jp (by exact hb.symm))
 ·refine Z ?_;exact Jb rfl (Jp (by exact hb.symm))
def Jvp (s:ByteArray):Prop:=∀i,i < s.size→(s.get! i).toNat < 128∧(JbD (s.get! i).toNat=true∨(32≤(s.get! i).toNat∧(s.get! i).toNat≤126))
theorem Jto (s:ByteArray) (hs:Jvp s) (hl:s.size≤1000000):Tells Tryz.prog 81 [strA s] (boolA true):=by
 refine Jc Tryz.func81 rfl rfl fun nx=> ?_
 refine Z ?_
 refine JsR rfl Tryz.underlying9 rfl ?_
 refine Z ?_
 refine Jm (fun y:Nat×Nat=> mk 21 [(0,strA s),(6, .bp (0,nx) 0)] ⟨[((0,nx), .si s y.1)], [],y.2,1⟩) (fun y=> y.1≤s.size) (fun y=> s.size - y.1) ?_ ?_
 ·exact ⟨(0,nx+1),Nat.zero_le _,Et (pm:= []) (bx:= [((0,nx), .si s 0)]) rfl rfl Bf Tt Y2⟩
 ·rintro ⟨i,nx1⟩ h1;dsimp only at h1;refine Z ?_;by_cases hi:i < s.size
  ·obtain ⟨q1,q2⟩:=hs i hi;have hd:=JmN q1;have hbl:=Jk4 (s.get! i).toNat;generalize (s.get! i).toNat=x at q1 q2 hd hbl;refine JsS rfl rfl rfl hi hd ?_;refine Z ?_;refine Ja rfl rfl hbl Y1 fun nx2=> ?_;cases hb:JbD x with
   | true=>
     refine Z ?_;exact back (i+1,nx2) hi Dm (Et (pm:= []) (bx:= [((0,nx), .si s (i+1))]) rfl rfl Bf Tt Y2)
   | false=>
     rw [hb] at q2;have h32:32≤x∧x≤126:=q2.resolve_left Dc;refine Z ?_
     (intro c hc;obtain rfl:c=false:=hc.trans (by first | exact decide_eq_false Om | (simp;omega));refine Z ?_)
     (intro c hc;obtain rfl:c=false:=hc.trans (by first | exact decide_eq_false Om | (simp;omega));refine Z ?_)
     exact back (i+1,nx2) hi Dm (Et (pm:= []) (bx:= [((0,nx), .si s (i+1))]) rfl rfl Bf Tt Y2)
  ·refine JsT rfl rfl rfl hi ?_;refine Z ?_;exact Jb rfl Rf
end Go.Proofs.W

namespace Go.Proofs.W
open Go.Vl Go.Shelf
set_option maxRecDepth 100000
def Jvq:ByteArray:=⟨#[100,101,102,97,117,108,116,32,107,105,108,108,10,114,101,97,100,32,97,108,108,111,119]⟩
def Jxq:ByteArray:=⟨#[100,101,102,97,117,108,116]⟩
def JAA:ByteArray:=⟨#[107,105,108,108]⟩
def Jyz:ByteArray:=⟨#[114,101,97,100]⟩
def Jz0:ByteArray:=⟨#[97,108,108,111,119]⟩
open Go.Vl
def kb (k:Nat):Nat:= [2147483648,0,196608,327680,2143289344,2146435072,2147221504,2147418112].getD k 0
def km (k:Nat):Nat:=if k=3 then 4095 else if k=5 then 65535 else 0
theorem Jz1 (k:Nat) (h:k < 8):∃s m,Jco Je8 k= .ag [.v (.string s), .v (.int .u32 (kb k)),m]∧Tells Tryz.prog 128 [Jco Je8 k] (int (km k)):=by
 have key:=JhC k h
 rcases k with _ | _ | _ | _ | _ | _ | _ | _ | k
 ·exact ⟨_,_,rfl,Jcq _ _⟩
 ·exact ⟨_,_,rfl,Jcq _ _⟩
 ·exact ⟨_,_,rfl,Jcq _ _⟩
 ·exact ⟨_,_,rfl,Jfk _ _ 4096 Dc⟩
 ·exact ⟨_,_,rfl,Jcq _ _⟩
 ·exact ⟨_,_,rfl,Jfk _ _ 65536 Dc⟩
 ·exact ⟨_,_,rfl,Jcq _ _⟩
 ·exact ⟨_,_,rfl,Jcq _ _⟩
 ·omega
theorem JAB {k:Nat} (h:k < 8):kb k+km k < 4294967296:=by
 rcases k with _ | _ | _ | _ | _ | _ | _ | _ | k
 all_goals first | decide | omega
theorem JAC {k:Nat} (h:k < 8):km k < 65536:=by
 rcases k with _ | _ | _ | _ | _ | _ | _ | _ | k
 all_goals first | decide | omega
def Jtp:AV:= .os 0 0 (fun _=> .any) none
def pAw:Pol:=⟨(1,0),false, [⟨Jyz,(8,0), []⟩]⟩
def LL:List (Nat×List ByteArray):= [(1, [Jxq,JAA]),(2, [Jyz,Jz0])]
theorem JyX {a b:Int} (h:a=b):AVle (.v (.int .u32 a)) (u32 b):=h ▸ Rf
theorem Jtq (k n:Nat) (hk:k < 8) (hn:n≤km k):Tells Tryz.prog 54 [act (k+1:Nat) n] (.tup [u32 (kb k+n:Nat),int 0]):=by
 obtain ⟨s,m,hr1,hr2⟩:=Jz1 k hk
 obtain ⟨s',c',m',h3,h4,_⟩:=JhC k hk
 have hm:m=m':=by
  rw [hr1] at h3;have:=AV.ag.inj h3;simp at this;exact this.2.2
 rw [← hm] at h4
 clear h3
 have hle:=JAB hk
 have ho:=Jir k hk
 rw [hr1] at ho
 have hR:=JhD ((k+1:Nat):Int) (n:Int)
 have hkm:((km k:Nat):Int)=Jdj ((k+1:Nat):Int):=by
  clear hr1 hr2 h4 hle ho hR hn;rcases k with _ | _ | _ | _ | _ | _ | _ | _ | k
  all_goals first | decide | omega
 rw [show right9 ((k+1:Nat):Int) (n:Int)=true by unfold right9;rw [← hkm];simp;omega] at hR
 have e1:IntKind.u32.wrap (n:Int)=(n:Int):=by simp [IntKind.wrap,IntKind.signed,IntKind.bits];omega
 have e2:IntKind.u32.wrap ((kb k:Int)+(n:Int))=((kb k+n:Nat):Int):=by
  rw [show (kb k:Int)+(n:Int)=((kb k+n:Nat):Int) by omega];simp [IntKind.wrap,IntKind.signed,IntKind.bits];omega
 rcases h4 with rfl | ⟨n',rfl⟩
 all_goals
  refine Jc Tryz.func54 rfl rfl fun nx=> ?_;refine Z ?_;refine Ja rfl rfl hR Y1 fun nx1=> ?_;refine Z ?_;refine Ja rfl rfl ho Y1 fun nx2=> ?_;refine Z ?_;refine Jb rfl (AVle.tups ⟨JyX ?_,Y1⟩);show IntKind.u32.wrap ((kb k:Int)+IntKind.u32.wrap (n:Int))=_;rw [e1,e2]
def hB (x:Nat→Nat) (c:Cnd):Bool:=rightC c&& JaD c ([x 0,x 1,x 2,x 3,x 4,x 5].getD c.arg.toNat 0)
def Jb5 (x:Nat→Nat) (r:Rul):Bool:=r.conds.all (hB x)
theorem Jvr {x:Nat→Nat} (hx:∀i,x i < 18446744073709551616) (i:Nat): [x 0,x 1,x 2,x 3,x 4,x 5].getD i 0 < 18446744073709551616:=by
 rcases i with _ | _ | _ | _ | _ | _ | i
 ·exact hx 0
 ·exact hx 1
 ·exact hx 2
 ·exact hx 3
 ·exact hx 4
 ·exact hx 5
 ·exact Nat.zero_lt_succ _
theorem Jvs (x:Nat→Nat) (hx:∀i,x i < 18446744073709551616) (c:Cnd) (hc:c.ok):Tells Tryz.prog 68 [Jt c,Jxh x] (boolA (hB x c)):=Jtb c (x 0) (x 1) (x 2) (x 3) (x 4) (x 5) hc (Jvr hx)
def Jkb (x:Nat→Nat):AV:= .rp [u64 (x 0),u64 (x 1),u64 (x 2),u64 (x 3),u64 (x 4),u64 (x 5)]
theorem Jvt (x:Nat→Nat) (hx:∀i,x i < 18446744073709551616) (c:Cnd) (hc:c.ok):Tells Tryz.prog 67 [Jt c,Jkb x] (boolA (!hB x c)):=by
 have hh:=Jvs x hx c hc
 generalize hB x c=b at hh
 refine Jc Tryz.func67 rfl rfl fun nx=> ?_
 refine Z ?_
 refine Ji (b:=Jt c) rfl ?_
 refine Z ?_
 refine Ja rfl rfl hh Y2 fun nx2=> ?_
 cases b
 ·refine Z ?_;exact Jb rfl Rf
 ·refine Z ?_;exact Jb rfl Rf
theorem Jxr (l:List Cnd) (p:Cnd→Bool) (f:Nat) (x:Nat→Nat) (hl:l.length≤1000000000) (hp:∀i,i < l.length→Tells Tryz.prog f (Jt (l.getD i cnd0):: [Jkb x]) (boolA (p (l.getD i cnd0)))):
 Tells Tryz.prog 93 [JF 4 Jt cnd0 l,(.fn (.func f) [] [Jkb x])] (int (JhE (l.findIdx? p))):=by
 refine Jc Tryz.func93 rfl rfl fun nx=> ?_
 refine Z ?_
 refine Jm (fun s:Nat×Nat=> mk 19 [(0,JF 4 Jt cnd0 l),(1,(.fn (.func f) [] [Jkb x])),(7,int l.length),(8,int s.1)] ⟨[], [],s.2,0⟩) (fun s=> s.1≤l.length∧∀j,j < s.1→p (l.getD j cnd0)=false) (fun s=> l.length - s.1) ?_ ?_
 ·exact ⟨(0,nx),⟨by simp,by intro j hj;simp at hj⟩,Jax rfl rfl Y4⟩
 ·rintro ⟨i,nx⟩ ⟨h1,h2⟩;dsimp only at h1 h2;refine Z ?_;intro c h3;cases c
  ·have h3:=Jn h3;dsimp only at h3;refine Z ?_;refine Jb rfl (Jk ?_);rw [JeR cnd0 (fun j hj=> h2 j Om)];rfl
  ·have h3:=Jo h3;dsimp only at h3;have hi:i < l.length:=by omega
   refine Z ?_;refine ⟨⟨Dm,Dm⟩, ?_⟩;refine Z ?_;refine Ja rfl rfl (hp i hi) Y2 fun nx'=> ?_;intro c h4;cases c
   ·refine Z ?_;refine back (i+1,nx') ⟨Dm,fun j hj=> ?_⟩ Dm (Jax rfl rfl ⟨Rf,Rf,Rf,Jk (JC Dm),Tt⟩);dsimp only at hj;rcases Nat.lt_or_ge j i with h | h
    ·exact h2 j h
    ·obtain rfl:j=i:=(by omega);exact h4.symm
   ·refine Z ?_;refine Jb rfl (Jk ?_);rw [Jg6 cnd0 hi h2 h4.symm];rfl
theorem Jxs (l:List Cnd) (p:Cnd→Bool) (f:Nat) (x:Nat→Nat) (hl:l.length≤1000000000) (hp:∀i,i < l.length→Tells Tryz.prog f (Jt (l.getD i cnd0):: [Jkb x]) (boolA (p (l.getD i cnd0)))):
 Tells Tryz.prog 43 [JF 4 Jt cnd0 l,(.fn (.func f) [] [Jkb x])] (boolA (l.any p)):=by
 refine Jc Tryz.func43 rfl rfl fun nx=> ?_
 refine Z ?_
 refine Ja rfl rfl (Jxr l p f x hl hp) Y2 fun nx'=> ?_
 refine Z ?_
 intro c h;cases c
 all_goals
  refine Z ?_;refine Jb rfl (Jp ?_);rw [h,← List.findIdx?_isSome];exact JdZ _
theorem Jgh (x:Nat→Nat) (hx:∀i,x i < 18446744073709551616) (l:List Cnd) (hl:l.length≤1000000000) (hc:∀c∈l,c.ok):Tells Tryz.prog 30 [JaT l,Jxh x] (boolA (l.all (hB x))):=by
 have hcn:=Jxs l (fun c=> !hB x c) 67 x hl (fun i hi=> Jvt x hx _ (hc _ (by simp [List.getD,hi])))
 have he:(l.any fun c=> !hB x c)= !(l.all (hB x)):=by rw [List.all_eq_not_any_not,Bool.not_not]
 rw [he] at hcn
 generalize l.all (hB x)=b at hcn
 refine Jc Tryz.func30 rfl rfl fun nx=> ?_
 (refine JE ?_;refine JZ ?_;refine JE ?_)
 refine JaX (n:=9) (nx:=nx+1) (nn:=1) (pm:= []) (bx:= []) (L:= [(0,JaT l),(3,Jkb x),(4,boolA false)]) (df:=some []) [((0,nx), .c [u64 (x 0),u64 (x 1),u64 (x 2),u64 (x 3),u64 (x 4),u64 (x 5)])] rfl rfl rfl (List.Perm.refl _) Sf ⟨Frz.refl _,Frz.bp (.head _) rfl,Frz.refl _,Tt⟩ ?_
 refine Z ?_
 refine Ja rfl rfl hcn Y2 fun nx2=> ?_
 cases b
 ·refine Z ?_;exact Jb rfl Rf
 ·refine Z ?_;exact Jb rfl Rf
def JeF (p:Pol) (nm:ByteArray) (x:Nat→Nat):A2:=match p.rules.find? (fun r=> kS r.name nm&& Jb5 x r) with
 | some r=> r.act
 | none=> p.dflt
def Jc7 (p:Pol) (nm:ByteArray):A2:=match p.rules.find? (fun r=> kS r.name nm) with
 | some r=> if r.conds.length=0 then r.act else p.dflt
 | none=> p.dflt
def JeV (p:Pol) (l:List TRow) (r:Rec):A2:=if (!(ofI l r).some|| (decide ((ofI l r).abi=1)&& !p.x32))=true then (1,0) else if (ofI l r).name.size=0 then p.dflt else if (ofI l r).muxed=true then Jc7 p (ofI l r).name else JeF p (ofI l r).name (Jq (ofI l r).abi.toNat r)
def JAD (p:Pol):Prop:=p.rules.length≤1000000∧∀r∈p.rules,r.conds.length≤1000000∧∀c∈r.conds,c.ok
theorem JfY {r:Rec} (h:r.ok) (a k:Nat):Jq a r k < 18446744073709551616:=by
 have:=JzY h k
 unfold Jq;split <;> omega
def JJ (a:A2):Nat:=kb (a.1.toNat - 1)+a.2.toNat
theorem Jq6 {k n:Int} (h:right9 k n=true):∃k' n':Nat,k=(k'+1:Nat)∧n=(n':Nat)∧k' < 8∧n'≤km k':=by
 unfold right9 at h
 simp only [Bool.and_eq_true,decide_eq_true_eq] at h
 obtain ⟨⟨⟨h1,h2⟩,h3⟩,h4⟩:=h
 refine ⟨(k - 1).toNat,n.toNat,Om,Om,Om, ?_⟩
 unfold Jdj at h4
 unfold km
 split at h4
 ·rw [if_pos Om];omega
 ·split at h4
  ·rw [if_neg Om,if_pos Om];omega
  ·rw [if_neg Om,if_neg Om];omega
theorem JrX (a:A2) (h:right9 a.1 a.2=true):Tells Tryz.prog 54 [Jw9 a] (.tup [u32 (JJ a:Nat),int 0]):=by
 obtain ⟨k,n⟩:=a
 obtain ⟨k',n',rfl,rfl,h1,h2⟩:=Jq6 h
 have:=Jtq k' n' h1 h2
 unfold JJ
 dsimp only
 rw [show ((k'+1:Nat):Int).toNat - 1=k' by omega,show ((n':Nat):Int).toNat=n' by omega]
 exact this
theorem Jpu {p:Pol} (h:Jaq p=true):right9 p.dflt.1 p.dflt.2=true∧∀r∈p.rules,Jai r=true:=by
 unfold Jaq at h
 simp only [Bool.and_eq_true,decide_eq_true_eq,Bool.not_eq_true',List.any_eq_false,Bool.not_eq_false'] at h
 refine ⟨h.1,fun r hr=> ?_⟩
 have:=h.2.2 r hr
 simpa using this
theorem Jtr {r:Rul} (h:Jai r=true):right9 r.act.1 r.act.2=true:=by
 unfold Jai at h
 simp only [Bool.and_eq_true] at h
 exact h.2.1
def JcN (c:Cnd):Bool:=decide ((JaU c).2=2)
def JgR (c:Cnd):Option Cnd:=if (JaU c).2=0 then some (JaU c).1 else none
def JeG (r:PRul):Option PRul:=if r.conds.any JcN then none else some ⟨r.conds.filterMap JgR,r.code⟩
def Jde (a:Nat) (r:PRul):Option PRul:=if a=2 then JeG r else some r
def JbR (a:Nat):List PRul→List PRul
 | []=> []
 | r::l=> match Jde a r with
   | none=> JbR a l
   | some q=> if q.conds.length=0 then [q] else q::JbR a l
def JhJ (d:Nat) (l:List PRul):List PRul:=(l.reverse.dropWhile fun r=> decide (r.code=d)).reverse
def Jbf (a:Nat) (l:List PRul) (d:Nat):List PRul:=JhJ d (JbR a l)
def Jae (x:Nat→Nat) (l:List PRul):Option Nat:=(l.find? fun r=> r.conds.all (hB x)).map (·.code)
theorem Jts {x:Nat→Nat} (l m:List PRul):Jae x (l++m)=(Jae x l).or (Jae x m):=by
 unfold Jae
 rw [List.find?_append]
 cases l.find? fun r=> r.conds.all (hB x) <;> rfl
theorem JiA {d:Nat} {l:List PRul} {r:PRul}:JhJ d (l++ [r])=if r.code=d then JhJ d l else l++ [r]:=by
 unfold JhJ
 rw [List.reverse_append,List.reverse_singleton,List.singleton_append,List.dropWhile_cons]
 by_cases h:r.code=d
 ·rw [if_pos (decide_eq_true h),if_pos h]
 ·rw [if_neg (by simpa using h),if_neg h,List.reverse_cons,List.reverse_reverse]
theorem Jk5 {x:Nat→Nat} {d:Nat}:∀(k:Nat) (l:List PRul),l.length≤k→(Jae x (JhJ d l)).getD d=(Jae x l).getD d
 | 0,l,h=> by rw [List.length_eq_zero_iff.1 (by omega:l.length=0)];rfl
 | k+1,l,h=> by
   rcases List.eq_nil_or_concat l with rfl | ⟨l',r,rfl⟩
   ·rfl
   ·rw [List.concat_eq_append] at h⊢;rw [JiA];split
    ·rename_i hd
     rw [List.length_append,List.length_singleton] at h;rw [Jk5 k l' Om,Jts];cases Jae x l' with
     | some a=> rfl
     | none=>
       unfold Jae;rw [List.find?_cons];cases r.conds.all (hB x) <;> simp [hd]
    ·rfl
def PRul.ok (r:PRul):Prop:=∀c∈r.conds,c.ok∧NFm c
theorem Jvu {x:Nat→Nat} (hx:∀i,x i < 4294967296) {c:Cnd} (ho:c.ok) (hc:NFm c):((JaU c).2=1→hB x c=true)∧((JaU c).2=2→hB x c=false)∧((JaU c).2=0→hB x (JaU c).1=hB x c):=by
 have h4: [x 0,x 1,x 2,x 3,x 4,x 5].getD c.arg.toNat 0 < 4294967296:=by
  rcases c.arg.toNat with _ | _ | _ | _ | _ | _ | k
  all_goals first | exact hx _ | exact (by decide:(0:Nat) < 4294967296)
 have h:=Jvo ho hc h4
 unfold hB
 rw [hc.1,Bool.true_and]
 refine ⟨h.1,h.2.1,fun h0=> ?_⟩
 obtain ⟨k1,k2,k3⟩:=h.2.2 h0
 rw [k1,k2,k3,Bool.true_and]
theorem Jk6 (c:Cnd):(JaU c).2=0∨(JaU c).2=1∨(JaU c).2=2:=by
 unfold JaU
 repeat' split
 all_goals simp
theorem Jvv {x:Nat→Nat} (hx:∀i,x i < 4294967296) {r:PRul} (ho:r.ok) (h:JeG r=none):r.conds.all (hB x)=false:=by
 unfold JeG at h
 by_cases ha:r.conds.any JcN=true
 ·obtain ⟨c,h1,h2⟩:=List.any_eq_true.1 ha;rw [List.all_eq_false];exact ⟨c,h1,by rw [(Jvu hx (ho c h1).1 (ho c h1).2).2.1 (of_decide_eq_true h2)];decide⟩
 ·rw [if_neg ha] at h;cases h
theorem JrY {x:Nat→Nat} (hx:∀i,x i < 4294967296):∀(l:List Cnd),(∀c∈l,c.ok∧NFm c)→l.any JcN=false→(l.filterMap JgR).all (hB x)=l.all (hB x)
 | [],_,_=> rfl
 | c::l,hc,hn=> by
   have ih:=JrY hx l (fun d hd=> hc d (List.mem_cons_of_mem _ hd)) (by simp at hn⊢;exact hn.2);have hcn:JcN c=false:=by simp at hn;simpa using hn.1
   have h:=Jvu hx (hc c List.mem_cons_self).1 (hc c List.mem_cons_self).2;rcases Jk6 c with h0 | h0 | h0
   ·rw [List.filterMap_cons,show JgR c=some (JaU c).1 from if_pos h0,List.all_cons,List.all_cons,ih,h.2.2 h0]
   ·rw [List.filterMap_cons,show JgR c=none from if_neg Om,List.all_cons,ih,h.1 h0,Bool.true_and]
   ·unfold JcN at hcn;rw [h0] at hcn;cases hcn
theorem Jvw {x:Nat→Nat} (hx:∀i,x i < 4294967296) {r q:PRul} (ho:r.ok) (h:JeG r=some q):q.conds.all (hB x)=r.conds.all (hB x)∧q.code=r.code:=by
 unfold JeG at h
 by_cases ha:r.conds.any JcN=true
 ·rw [if_pos ha] at h;cases h
 ·rw [if_neg ha] at h;obtain rfl:=Option.some.inj h;exact ⟨JrY hx r.conds ho (Bool.eq_false_iff.2 ha),rfl⟩
theorem Jk7 {x:Nat→Nat} {a:Nat} (hx:a=2→∀i,x i < 4294967296):∀(l:List PRul),(∀r∈l,r.ok)→Jae x (JbR a l)=Jae x l
 | [],_=> rfl
 | r::l,h=> by
   have ih:=Jk7 hx l fun q hq=> h q (List.mem_cons_of_mem _ hq);have key:∀q:PRul,q.conds.all (hB x)=r.conds.all (hB x)→q.code=r.code→Jae x (if q.conds.length=0 then [q] else q::JbR a l)=Jae x (r::l):=fun q h1 h2=> by
    split
    ·rename_i h0
     have hq:q.conds.all (hB x)=true:=(by rw [List.length_eq_zero_iff.1 h0];rfl);unfold Jae;rw [List.find?_cons,List.find?_cons,← h1,hq];exact congrArg some h2
    ·unfold Jae at ih⊢;rw [List.find?_cons,List.find?_cons,h1];cases r.conds.all (hB x) with
     | true=> exact congrArg some h2
     | false=> exact ih
   unfold JbR Jde;by_cases ha:a=2
   ·rw [if_pos ha];cases hn:JeG r with
    | none=>
      show Jae x (JbR a l)=_;rw [ih,show Jae x (r::l)=Jae x l from by unfold Jae;rw [List.find?_cons,Jvv (hx ha) (h r List.mem_cons_self) hn]]
    | some q=>
      obtain ⟨h1,h2⟩:=Jvw (hx ha) (h r List.mem_cons_self) hn;exact key q h1 h2
   ·rw [if_neg ha];exact key r rfl rfl
theorem Jq7 {x:Nat→Nat} {a d:Nat} (hx:a=2→∀i,x i < 4294967296) (l:List PRul) (h:∀r∈l,r.ok):(Jae x (Jbf a l d)).getD d=(Jae x l).getD d:=by
 unfold Jbf
 rw [Jk5 _ _ (Nat.le_refl _),Jk7 hx l h]
theorem JeW {P:Program} {c:Code} {E:Env} {Q:AExit→Env→Prop} (h:AW P c E (Jyt (fun _:Unit=> E) (fun _=> True) (fun _=> 0) () Q)):AW P (.loop c) E Q:=
 Jm (fun _:Unit=> E) (fun _=> True) (fun _=> 0) ⟨(),trivial,ELe.refl _⟩ fun _ _=> h
def JeX (sz:Nat):AV:= .os sz 0 (fun _=> .any) none
theorem JyY:Tells Tryz.prog 116 [u64 0] (int 0):=by
 refine Jc Tryz.func116 rfl rfl fun nx=> ?_
 refine Z ?_
 exact Jb rfl Rf
theorem Jtt:Tells Tryz.prog 61 [.v (.int .u64 0)] (int 0):=by
 refine Jc Tryz.func61 rfl rfl fun nx=> ?_
 refine Z ?_
 refine Ja rfl rfl JyY Y1 fun nx=> ?_
 refine Z ?_
 exact Jb rfl Rf
theorem JAE (n:Nat):Tells Tryz.prog 206 [JeX 4,int 0,int 0,fn0 n] (.tup []):=by
 refine Jc Tryz.func206 rfl rfl fun nx=> ?_
 refine Z ?_
 refine JeW ?_
 refine Z ?_
 exact Jb rfl Rf
theorem JAF (n:Nat):Tells Tryz.prog 150 [JeX 4,int 0,int 0,int 0,fn0 n] (.tup []):=by
 refine Jc Tryz.func150 rfl rfl fun nx=> ?_
 refine Z ?_
 refine JeW ?_
 refine Z ?_
 refine Ja rfl rfl (JAE n) Y4 fun nx=> ?_
 refine Z ?_
 exact Jb rfl Rf
theorem Jtu (n:Nat):Tells Tryz.prog 98 [JeX 4,fn0 n] (.tup []):=by
 refine Jc Tryz.func98 rfl rfl fun nx=> ?_
 refine Z ?_
 refine Ja rfl rfl Jtt Y1 fun nx=> ?_
 refine Z ?_
 refine Ja rfl rfl (JAF n) Y5 fun nx=> ?_
 refine Z ?_
 exact Jb rfl Rf
theorem Jvx:Tells Tryz.prog 100 [JeX 4] (JeX 4):=by
 refine Jc Tryz.func100 rfl rfl fun nx=> ?_
 refine Z ?_
 exact Jb rfl Rf
end Go.Proofs.W

namespace Go.Proofs
open Go.Shelf
shelf_lay Lays.n125 Nm 125 at Tryz as Tryz.lays125
end Go.Proofs
namespace Go.Proofs.W
open Go.Vl Go.Shelf
set_option maxRecDepth 100000
theorem Jpv (n:Nat) (hn:n≤1000000000):Tells Tryz.prog 61 [.v (.int .u64 (n:Int))] (.v (.int .i64 (Lib.bitLen n))):=
 Jbj (vs:= [.int .u64 (n:Int)]) ⟨_,Tryz.func61,rfl,rfl⟩ fun w=> (Any.bits_Len Tryz.lays125 (n:Int) w Om Om).mono fun e w' ⟨h1,h2⟩=> ⟨h1,by subst h2;exact ⟨rfl,rfl,rfl,Nat.le_refl _,fun _ _=> rfl⟩⟩
end Go.Proofs.W

namespace Go.Proofs.W
open Go.Vl
set_option maxRecDepth 100000
def Jdx (a b:Int):Int:=if a < b then -1 else if b < a then 1 else 0
def orL:List Int→Int
 | []=> 0
 | x::l=> if x=0 then orL l else x
theorem JjH (a b:Int):Tells Tryz.prog 152 [int a,int b] (int (Jdx a b)):=by
 have hn:∀z:Int,Tells Tryz.prog 214 [int z] (boolA false):=fun z=> by
  refine Jc Tryz.func214 rfl rfl fun nx=> ?_;refine Z ?_
  (intro c hc;(first | (rw [bne_self_eq_false] at hc;subst hc) | (obtain rfl:c=false:=hc.trans (bne_self_eq_false _)));refine Z ?_)
  exact Jb rfl Rf
 refine Jc Tryz.func152 rfl rfl fun nx=> ?_
 refine Z ?_
 refine Ja rfl rfl (hn a) Y1 fun nx1=> ?_
 refine Z ?_
 refine Ja rfl rfl (hn b) Y1 fun nx2=> ?_
 refine Z ?_
 intro c h;cases c
 ·have h:=Jn h;refine Z ?_;intro c g;cases c
  ·have g:=Jn g;refine Z ?_;exact Jb rfl (Jk (by unfold Jdx;rw [if_neg h,if_neg g]))
  ·have g:=Jo g;refine Z ?_;exact Jb rfl (Jk (by unfold Jdx;rw [if_neg h,if_pos g]))
 ·have h:=Jo h;refine Z ?_;exact Jb rfl (Jk (by unfold Jdx;rw [if_pos h]))
theorem JjI (a b:Nat):Tells Tryz.prog 153 [u64 a,u64 b] (int (Jdx a b)):=by
 have hn:∀z:Nat,Tells Tryz.prog 215 [u64 z] (boolA false):=fun z=> by
  refine Jc Tryz.func215 rfl rfl fun nx=> ?_;refine Z ?_
  (intro c hc;(first | (rw [bne_self_eq_false] at hc;subst hc) | (obtain rfl:c=false:=hc.trans (bne_self_eq_false _)));refine Z ?_)
  exact Jb rfl Rf
 refine Jc Tryz.func153 rfl rfl fun nx=> ?_
 refine Z ?_
 refine Ja rfl rfl (hn a) Y1 fun nx1=> ?_
 refine Z ?_
 refine Ja rfl rfl (hn b) Y1 fun nx2=> ?_
 refine Z ?_
 intro c h;cases c
 ·have h:=Jn h;refine Z ?_;intro c g;cases c
  ·have g:=Jn g;refine Z ?_;exact Jb rfl (Jk (by unfold Jdx;rw [if_neg h,if_neg g]))
  ·have g:=Jo g;refine Z ?_;exact Jb rfl (Jk (by unfold Jdx;rw [if_neg h,if_pos g]))
 ·have h:=Jo h;refine Z ?_;exact Jb rfl (Jk (by unfold Jdx;rw [if_pos h]))
theorem Jz2 {l:List Int} {i:Nat} (hi:i < l.length) (h:∀j,j < i→l.getD j 0=0) (hx:l.getD i 0≠0):orL l=l.getD i 0:=by
 induction l generalizing i with
 | nil=> cases hi
 | cons x l ih=>
   cases i with
   | zero=> simp at hx;simp [orL,hx]
   | succ i=>
     have h0:x=0:=(by simpa using h 0 Om);simp only [orL,h0,if_true];rw [ih (i:=i) (by simpa using hi) (fun j hj=> by simpa using h (j+1) Om) (by simpa using hx)];simp
theorem Jxt {l:List Int} (h:∀j,j < l.length→l.getD j 0=0):orL l=0:=by
 induction l with
 | nil=> rfl
 | cons x l ih=>
   have h0:x=0:=by simpa using h 0 Si
   simp only [orL,h0,if_true];exact ih (fun j hj=> by simpa using h (j+1) (by simpa using hj))
theorem JyZ (l:List Int) (hl:l.length≤1000000):Tells Tryz.prog 151 [JF 1 int 0 l] (int (orL l)):=by
 refine Jc Tryz.func151 rfl rfl fun nx=> ?_
 refine Z ?_
 refine Jm (fun s:Nat×Nat=> mk 18 [(3,int 0),(6,JF 1 int 0 l),(7,int l.length),(8,int s.1)] ⟨[], [],s.2,0⟩) (fun s=> s.1≤l.length∧∀j,j < s.1→l.getD j 0=0) (fun s=> l.length - s.1) ?_ ?_
 ·exact ⟨(0,nx),⟨by simp,by intro j hj;simp at hj⟩,Jax rfl rfl Y4⟩
 ·rintro ⟨i,nx⟩ ⟨h1,h2⟩;dsimp only at h1 h2;refine Z ?_;intro c h3;cases c
  ·have h3:=Jn h3;dsimp only at h3;refine Z ?_;exact Jb rfl (Jk (Jxt (fun j hj=> h2 j Om)).symm)
  ·have h3:=Jo h3;dsimp only at h3;have hi:i < l.length:=by omega
   refine Z ?_;refine ⟨Bd, ?_⟩;refine Z ?_;intro c h4;cases c
   ·have h4:l.getD i 0=0:=(by simpa using h4);refine Z ?_;exact back (i+1,nx) ⟨hi,fun j hj=> by rcases Nat.lt_or_ge j i with q | q;exact h2 j q;rw [show j=i by omega];exact h4⟩ Dm (Jax rfl rfl ⟨Rf,Rf,Rf,Jk (JC Dm),Tt⟩)
   ·have h4:l.getD i 0≠0:=(by simpa using h4);refine Z ?_;exact Jb rfl (Jk (Jz2 hi h2 h4).symm)
def Jpw (a b:Cnd):Int:=orL [Jdx a.arg b.arg,Jdx a.op b.op,Jdx a.mask b.mask,Jdx a.value b.value]
theorem Jtv (a b:Cnd):Tells Tryz.prog 99 [Jt a,Jt b] (int (Jpw a b)):=by
 refine Jc Tryz.func99 rfl rfl fun nx=> ?_
 refine Z ?_
 (refine JL 22 Kr Kr Kr ?_)
 refine Z ?_
 refine Jau (JQ rfl rfl (JjH a.arg b.arg) Y2 (NoId.v _)) ?_
 refine Z ?_
 refine Jau (JQ rfl rfl (JjH a.op b.op) Y2 (NoId.v _)) ?_
 refine Z ?_
 refine Jau (JQ rfl rfl (JjI a.mask b.mask) Y2 (NoId.v _)) ?_
 refine Z ?_
 refine Jau (JQ rfl rfl (JjI a.value b.value) Y2 (NoId.v _)) ?_
 refine Z ?_
 refine Jau (JQ rfl rfl (JyZ [Jdx a.arg b.arg,Jdx a.op b.op,Jdx a.mask b.mask,Jdx a.value b.value] (by show 4≤1000000;omega)) ⟨?_,Tt⟩ (NoId.v _)) ?_
 ·(conv=> arg 1;whnf)
  refine AVle.trans AVle.os_sl (AVle.sl_fun fun k hk=> ?_);rcases (show k=0∨k=1∨k=2∨k=3 by have hk:k < 4:=hk;omega) with rfl | rfl | rfl | rfl <;> rfl
 refine Z ?_
 exact Jb rfl Rf
instance:Inhabited Cnd:=⟨cnd0⟩
def eC (c:Cnd):List AV:= [int c.arg,int c.op,u64 c.mask,u64 c.value]
theorem Jbs (x:Cnd):(eC x).length=4:=rfl
theorem c_cnd:Tryz.prog.cellsOf 127=4:=by kernel_rfl
theorem JfO:(Tryz.prog.underlying 127).map agD=some true:=by kernel_rfl
def JbM (s:Nat) (d:Array Cnd) (tl:List AV):List (Vl.Id×Own):= [((0,s), .c (Jab eC d tl))]
theorem Jy0 (f:Nat) (lt:Cnd→Cnd→Bool) (cf:Cnd→Cnd→Int) (hf:∀a b,Tells Tryz.prog f [Jt a,Jt b] (int (cf a b))) (hlt:∀a b,lt a b=decide (cf a b < 0)) (d0:Array Cnd) (tl:List AV) (n a b:Nat) (hn:d0.size=n) (hab:a≤b) (hb:b≤n) (hsz:n≤1000000) (s cap nx:Nat):
 ECall Tryz.prog 206 [.hs (0,s) 0 n cap,int a,int b,fn0 f] ⟨JbM s d0 tl, [],nx,1⟩ (fun r h'=> ∃nx' nn',h'=⟨JbM s (Go.Sort.insertionSort lt d0 a b) tl, [],nx',nn'⟩):=by
 refine ECall.wk (JB Tryz.func206 rfl rfl ?_)
 refine Z ?_
 refine Jm (fun y:Array Cnd×Nat×Nat=> mk 53 [(0, .hs (0,s) 0 n cap),(1,int a),(2,int b),(3,fn0 f),(8,int y.2.1)] ⟨JbM s y.1 tl, [],y.2.2,1⟩) (fun y=> y.1.size=n∧a+1≤y.2.1∧y.2.1≤b+1∧Go.Sort.insOuter lt a b y.2.1 y.1=Go.Sort.insertionSort lt d0 a b) (fun y=> b+1 - y.2.1) ?_ ?_
 ·exact ⟨(d0,a+1,nx),⟨hn,Nat.le_refl _,Dm,rfl⟩,Jh _ _ rfl rfl Sf .slnil Bf Tt ⟨Rf,Rf,Rf,Rf,Lw,Tt⟩⟩
 ·rintro ⟨d,i,nx1⟩ ⟨h1,h2,h3,h4⟩;dsimp only at h1 h2 h3 h4;refine Z ?_;intro c g;cases c
  ·have g:=Jn g;try dsimp only at g
   rw [Go.Sort.insOuter,if_neg Om] at h4;subst h4;refine Z ?_;exact Jad rfl ⟨_,_,Rf,Jr (JbM s (Go.Sort.insertionSort lt d0 a b) tl) [] rfl Sf .slnil Bf Pf,_,1,rfl⟩
  ·have g:=Jo g;try dsimp only at g
   have hi:i < b:=by omega
   rw [Go.Sort.insOuter,if_pos hi] at h4;refine Z ?_;refine Jm (fun y:Array Cnd×Nat×Nat=> mk 53 [(0, .hs (0,s) 0 n cap),(1,int a),(2,int b),(3,fn0 f),(8,int i),(9,int y.2.1)] ⟨JbM s y.1 tl, [],y.2.2,1⟩) (fun y=> y.1.size=n∧y.2.1≤i∧Go.Sort.insInner lt a y.2.1 y.1=Go.Sort.insInner lt a i d) (fun y=> y.2.1) ?_ ?_
   ·exact ⟨(d,i,nx1),⟨h1,Nat.le_refl _,rfl⟩,Jh _ _ rfl rfl Sf .slnil Bf Tt Y6⟩
   ·rintro ⟨e,j,nx2⟩ ⟨k1,k2,k3⟩;dsimp only at k1 k2 k3;by_cases hja:a < j
    ·have hd:decide ((j:Int) > (a:Int))=true:=decide_eq_true Om;have hj1:IntKind.i64.wrap ((j:Int) - 1)=((j - 1:Nat):Int):=(by rw [JaE Om Om];omega);refine Z ?_
     (refine JL 16 Kr Kr Kr ?_)
     refine Z ?_
     (conv=> whnf)
     refine Jfl hd ?_;refine Z ?_;refine ⟨⟨Jdb (i:=j) (rfl),Jdt (i:=j) (rfl) Om⟩,Ji (b:= .bp (0,s) (j * 4)) (congrArg (AV.bp (0,s)) (Jhw (i:=j) c_cnd (rfl))) ?_⟩
     (conv=> whnf)
     generalize hX:Jbe _ _ _=X;have hX2:X=some (some (s=s), .ag (eC e[j]!)):=hX.symm.trans (JdH Jbs (E:=eC) (d:=e) (tl:=tl) (j:=j) rfl rfl rfl rfl JfO c_cnd Om);clear hX;subst hX2;refine ⟨rfl, ?_⟩;refine Z ?_;refine ⟨⟨Jdb (i:=j - 1) (hj1),Jdt (i:=j - 1) (hj1) Om⟩,Ji (b:= .bp (0,s) ((j - 1) * 4)) (congrArg (AV.bp (0,s)) (Jhw (i:=j - 1) c_cnd (hj1))) ?_⟩
     (conv=> whnf)
     generalize hX:Jbe _ _ _=X;have hX2:X=some (some (s=s), .ag (eC e[j - 1]!)):=hX.symm.trans (JdH Jbs (E:=eC) (d:=e) (tl:=tl) (j:=j - 1) rfl rfl rfl rfl JfO c_cnd Om);clear hX;subst hX2;refine ⟨rfl, ?_⟩;refine Z ?_;refine Jau (JQ rfl rfl (hf e[j]! e[j - 1]!) Y2 (NoId.v _)) ?_;refine Z ?_;intro c hl;cases c
     ·have hl:lt e[j]! e[j - 1]! =false:=(hlt _ _).trans hl.symm;rw [Jxj hl] at k3;subst k3;refine Z ?_;exact back (_,i+1,nx2) ⟨k1,Dm,Dm,h4⟩ Dm (Es rfl rfl ⟨Rf,Rf,Rf,Rf,Lw,Tt⟩)
     ·have hl:lt e[j]! e[j - 1]! =true:=(hlt _ _).trans hl.symm;rw [JyO hja hl] at k3;refine Z ?_;refine JyJ 18 (Ef [15,17]) (Ef [9,13]) [0,1,2,3,4,5,6,7,8,10,11,12,9,13,14,15,16,17] Kr Kr ?_
      (conv=> whnf)
      refine ⟨⟨Jdb (i:=j - 1) (hj1),Jdt (i:=j - 1) (hj1) Om⟩, ?_⟩
      (conv=> whnf)
      refine ⟨⟨Jdb (i:=j) (rfl),Jdt (i:=j) (rfl) Om⟩, ?_⟩
      (conv=> whnf)
      refine ⟨.ag (eC e[j - 1]!),JoU Jbs (E:=eC) (d:=e) (tl:=tl) (j:=j - 1) rfl rfl rfl (Jhw (i:=j - 1) c_cnd (hj1)) rfl JfO c_cnd Om, ?_⟩
      (conv=> whnf)
      refine ⟨.ag (eC e[j]!),JoU Jbs (E:=eC) (d:=e) (tl:=tl) (j:=j) rfl rfl rfl (Jhw (i:=j) c_cnd (rfl)) rfl JfO c_cnd Om, ?_⟩
      (conv=> whnf)
      refine ⟨⟨Jdb (i:=j) (rfl),Jdt (i:=j) (rfl) Om⟩, ?_⟩
      (conv=> whnf)
      refine ⟨_,JoV Jbs (E:=eC) (d:=e) (tl:=tl) (j:=j) (z:=e[j - 1]!) rfl rfl rfl rfl (Jhw (i:=j) c_cnd (rfl)) rfl rfl rfl rfl Kr c_cnd Om,fun r0 h0 hr0=> ?_⟩;subst hr0
      (conv=> whnf)
      refine ⟨⟨Jdb (i:=j - 1) (hj1),Jdt (i:=j - 1) (hj1) Om⟩, ?_⟩
      (conv=> whnf)
      refine ⟨_,JoV Jbs (E:=eC) (d:=e.setIfInBounds j e[j - 1]!) (tl:=tl) (j:=j - 1) (z:=e[j]!) rfl rfl rfl rfl (Jhw (i:=j - 1) c_cnd (hj1)) rfl rfl rfl rfl Kr c_cnd (by simp;omega),fun r0 h0 hr0=> ?_⟩;subst hr0;refine Z ?_;exact back (Go.Sort.swp e j (j - 1),j - 1,nx2) ⟨by dsimp only;rw [← k1];simp [Go.Sort.swp],Dm,k3⟩ Dm (Es rfl rfl ⟨Rf,Rf,Rf,Rf,Rf,Jk hj1,Tt⟩)
    ·have hd:decide ((j:Int) > (a:Int))=false:=decide_eq_false Om;rw [Ju9 hja] at k3;subst k3;refine Z ?_
     (refine JL 16 Kr Kr Kr ?_)
     refine Z ?_
     (conv=> whnf)
     refine Jfl hd ?_;refine Z ?_;exact back (_,i+1,nx2) ⟨k1,Dm,Dm,h4⟩ Dm (Es rfl rfl ⟨Rf,Rf,Rf,Rf,Lw,Tt⟩)
theorem Jy1 (f:Nat) (lt:Cnd→Cnd→Bool) (cf:Cnd→Cnd→Int) (hf:∀a b,Tells Tryz.prog f [Jt a,Jt b] (int (cf a b))) (hlt:∀a b,lt a b=decide (cf a b < 0)) (d0:Array Cnd) (tl:List AV) (n:Nat) (hn:d0.size=n) (hsz:n≤12) (s cap nx:Nat) (z:Int):
 ECall Tryz.prog 150 [.hs (0,s) 0 n cap,int 0,int n,int z,fn0 f] ⟨JbM s d0 tl, [],nx,1⟩ (fun r h'=> ∃nx' nn',h'=⟨JbM s (Go.Sort.insertionSort lt d0 0 n) tl, [],nx',nn'⟩):=by
 refine ECall.wk (JB Tryz.func150 rfl rfl ?_)
 refine Z ?_
 refine JeW ?_
 have hw:IntKind.i64.wrap ((n:Int) - 0)=(n:Int):=by rw [Int.sub_zero];exact JaE Om Om
 refine Z ?_
 intro c hc
 have hc2:c=true:=hc.trans (decide_eq_true (by show IntKind.i64.wrap ((n:Int) - 0)≤12;rw [hw];omega))
 clear hc;subst hc2
 refine Z ?_
 refine JH (xs:= [.hs (0,s) 0 n cap,int ((0:Nat):Int),int n,fn0 f]) [] [] 1 rfl rfl rfl rfl Y4 (Jy0 f lt cf hf hlt d0 tl n 0 n hn (Nat.zero_le _) (Nat.le_refl _) Om s cap _) Bf Pf rfl fun r h' hq=> ?_
 obtain ⟨nx2,nn2,rfl⟩:=hq
 refine Z ?_
 exact Jad rfl ⟨_,_,Rf,Jr (JbM s (Go.Sort.insertionSort lt d0 0 n) tl) [] rfl Sf .slnil Bf Pf,_,1,rfl⟩
theorem Jpx (f:Nat) (lt:Cnd→Cnd→Bool) (cf:Cnd→Cnd→Int) (hf:∀a b,Tells Tryz.prog f [Jt a,Jt b] (int (cf a b))) (hlt:∀a b,lt a b=decide (cf a b < 0)) (d0:Array Cnd) (tl:List AV) (n:Nat) (hn:d0.size=n) (hsz:n≤12) (s cap nx:Nat):
 ECall Tryz.prog 98 [.hs (0,s) 0 n cap,fn0 f] ⟨JbM s d0 tl, [],nx,1⟩ (fun r h'=> ∃nx' nn',h'=⟨JbM s (Go.Sort.insertionSort lt d0 0 n) tl, [],nx',nn'⟩):=by
 refine ECall.wk (JB Tryz.func98 rfl rfl ?_)
 refine Z ?_
 have hw:IntKind.u64.wrap (n:Int)=(n:Int):=by simp [IntKind.wrap,IntKind.bits,IntKind.signed];omega
 refine Ja rfl rfl (Jpv n Om) ⟨AVle.of_eq (congrArg (fun z:Int=> AV.v (.int .u64 z)) hw),Tt⟩ fun nx1=> ?_
 refine Z ?_
 refine JH (xs:= [.hs (0,s) 0 n cap,int 0,int n,int (Lib.bitLen n),fn0 f]) [] [] 1 rfl rfl rfl rfl Y5 (Jy1 f lt cf hf hlt d0 tl n hn hsz s cap _ _) Bf Pf rfl fun r h' hq=> ?_
 obtain ⟨nx2,nn2,rfl⟩:=hq
 refine Z ?_
 exact Jad rfl ⟨_,_,Rf,Jr (JbM s (Go.Sort.insertionSort lt d0 0 n) tl) [] rfl Sf .slnil Bf Pf,_,1,rfl⟩
def cU (d:Array Cnd):Nat→List Cnd
 | 0=> []
 | m+1=> if m=0∨d[m]! ≠d[m - 1]! then cU d m++ [d[m]!] else cU d m
theorem Jtw (d:Array Cnd):∀m,(cU d m).length≤m
 | 0=> Nat.le_refl _
 | m+1=> by
   have:=Jtw d m;unfold cU;split
   ·simp;omega
   ·omega
theorem JhK {d:Array Cnd}:∀ {m:Nat},m≤d.size→(∀j,1≤j→j < m→d[j]! ≠d[j - 1]!)→cU d m=d.toList.take m
 | 0,_,_=> rfl
 | m+1,hm,h=> by
   have ih:=JhK (m:=m) Om fun j h1 h2=> h j h1 Om;have hc:m=0∨d[m]! ≠d[m - 1]! :=by
    rcases Nat.eq_zero_or_pos m with h0 | h0
    ·exact .inl h0
    ·exact .inr (h m h0 Om)
   rw [cU,if_pos hc,ih,List.take_add_one,show d[m]! =d[m] by simp [show m < d.size by omega]];simp [show m < d.size by omega]
theorem JrZ {d:Array Cnd} {m:Nat} (h0:m≠0) (h:d[m]! =d[m - 1]!):cU d (m+1)=cU d m:=by
 rw [cU,if_neg (by intro hh;rcases hh with hh | hh;exact h0 hh;exact hh h)]
theorem Jy2 {d:Array Cnd} {m:Nat} (h:d[m]! ≠d[m - 1]!):cU d (m+1)=cU d m++ [d[m]!]:=by
 rw [cU,if_pos (.inr h)]
theorem Jxu {d:Array Cnd} {i j:Nat} {x:Cnd} (hi:i < d.size):(d.setIfInBounds i x)[j]! =if j=i then x else d[j]! :=by
 by_cases h:j=i
 ·subst h;simp [hi]
 ·rw [if_neg h];by_cases hj:j < d.size
  ·simp [hj,Array.getElem_setIfInBounds,Ne.symm h]
  ·simp [hj]
theorem Jvy {d:Array Cnd} {k:Nat} {x:Cnd} (h:k < d.size):(d.setIfInBounds k x).toList.take (k+1)=d.toList.take k++ [x]:=by
 rw [Array.toList_setIfInBounds,List.take_add_one]
 simp [h,List.take_set_of_le]
theorem Jz3 {x y:Cnd}:(x.arg ==y.arg&& (x.op ==y.op&& ((x.mask:Int) ==(y.mask:Int)&& ((x.value:Int) ==(y.value:Int)&& true))))=decide (x=y):=JrT
theorem Jxv {d:Array Cnd} {tl:List AV} {k:Nat} (h:k≤d.size):Jaa (Jab eC d tl) (k * 4) (List.replicate ((d.size - k) * 4) .any)=Jab eC (d.toList.take k).toArray (List.replicate ((d.size - k) * 4) .any++tl):=by
 have e:d.toList=d.toList.take k++d.toList.drop k:=(List.take_append_drop k d.toList).symm
 have e1:((d.toList.take k).flatMap eC).length=k * 4:=by rw [Jdu Jbs];simp [h]
 have e2:((d.toList.drop k).flatMap eC).length=(d.size - k) * 4:=by rw [Jdu Jbs];simp
 unfold Jab
 conv=> lhs;rw [e]
 rw [List.flatMap_append,List.append_assoc,← e1]
 have:=JfJ (a:=(d.toList.take k).flatMap eC) (b:=(d.toList.drop k).flatMap eC++tl) (off:=0) (vs:=List.replicate ((d.size - k) * 4) .any)
 rw [Nat.add_zero] at this
 rw [this,Jil (by rw [e2];simp)]
def Jtx (d:Array Cnd) (n s cap:Nat) (r:AV) (h':Heap):Prop:=∃tl' nx' nn',r= .hs (0,s) 0 (cU d n).length cap∧h'=⟨JbM s (cU d n).toArray tl', [],nx',nn'⟩
theorem Jvz {d:Array Cnd} {n s cap nx nn q:Nat} {tl:List AV} (h:(cU d n).length=q):Jtx d n s cap (.hs (0,s) 0 q cap) ⟨JbM s (cU d n).toArray tl, [],nx,nn⟩:=⟨tl,nx,nn,by rw [h],rfl⟩
theorem Jpy {o o':Own} (h:o=o'):OwnLe o o':=h ▸ OwnLe.refl _
theorem Jxw {x:Int} {i c k m:Nat} (hc:c=k) (h:x=(i:Int)):m * c+x.toNat * c=(m+i) * k:=by subst hc;subst h;simp [Nat.add_mul]
theorem Jm2 {d:Array Cnd} {n s cap nx nn:Nat} {tl:List AV} (hn:d.size=n) (e:cU d n=d.toList):Jtx d n s cap (.hs (0,s) 0 n cap) ⟨JbM s d tl, [],nx,nn⟩:=⟨tl,nx,nn,by rw [e];simp [hn],by rw [e]⟩
theorem JAG:∃z,(Tryz.prog.info? 127).bind (·.zero)=some z∧z.cells.size=Tryz.prog.cellsOf 127∧z.cells.all (·.oneCell')=true:=⟨.agg #[.int .i64 0, .int .i64 0, .int .u64 0, .int .u64 0],by kernel_rfl,by kernel_rfl,by kernel_rfl⟩
theorem Jq8 (d:Array Cnd) (tl:List AV) (n:Nat) (hn:d.size=n) (hn0:0 < n) (hsz:n≤1000000) (s cap nx:Nat) (hcap:n≤cap):
 ECall Tryz.prog 100 [.hs (0,s) 0 n cap] ⟨JbM s d tl, [],nx,1⟩ (Jtx d n s cap):=by
 refine ECall.wk (JB Tryz.func100 rfl rfl ?_)
 refine Z ?_
 intro c g;cases c
 rotate_left
 ·have g:=Jo g;try dsimp only at g
  have hn1:n=1:=by omega
  subst hn1;have e:cU d 1=d.toList:=by
   rw [JhK Om (fun j h1 h2=> by omega),List.take_of_length_le (by simp [hn])]
  refine Z ?_;exact Jad rfl ⟨_,_,Rf,Jr (nn:=1) (JbM s d tl) [] rfl Sf .slnil Bf Pf,Jm2 hn e⟩
 have g:=Jn g
 try dsimp only at g
 have hn2:2≤n:=by omega
 refine Z ?_
 refine Jm (fun y:Nat×Nat=> mk 61 [(0, .hs (0,s) 0 n cap),(3,int y.1)] ⟨JbM s d tl, [],y.2,1⟩) (fun y=> 1≤y.1∧y.1≤n∧∀j,1≤j→j < y.1→d[j]! ≠d[j - 1]!) (fun y=> n - y.1) ?_ ?_
 ·exact ⟨(1,nx),⟨Nat.le_refl _,Dm,fun j h1 h2=> absurd h2 Dm⟩,Jh _ _ rfl rfl Sf .slnil Bf Tt Y2⟩
 ·rintro ⟨k,nx1⟩ ⟨h1,h2,h3⟩;dsimp only at h1 h2 h3;refine Z ?_;intro c g;cases c
  ·have g:=Jn g;try dsimp only at g
   have hk:k=n:=by omega
   subst hk;have e:cU d k=d.toList:=by
    rw [JhK Om h3,List.take_of_length_le (by simp [hn])]
   refine Z ?_;exact Jad rfl ⟨_,_,Rf,Jr (nn:=1) (JbM s d tl) [] rfl Sf .slnil Bf Pf,Jm2 hn e⟩
  ·have g:=Jo g;try dsimp only at g
   have hk:k < n:=by omega
   have hk1:IntKind.i64.wrap ((k:Int) - 1)=((k - 1:Nat):Int):=by rw [JaE Om Om];omega
   refine Z ?_
   (refine JL 10 Kr Kr Kr ?_)
   refine Z ?_;refine ⟨⟨Jdb (i:=k) (rfl),Jdt (i:=k) (rfl) Om⟩,Ji (b:= .bp (0,s) (k * 4)) (congrArg (AV.bp (0,s)) (Jhw (i:=k) c_cnd (rfl))) ?_⟩
   (conv=> whnf)
   generalize hX:Jbe _ _ _=X;have hX2:X=some (some (s=s), .ag (eC d[k]!)):=hX.symm.trans (JdH Jbs (E:=eC) (d:=d) (tl:=tl) (j:=k) rfl rfl rfl rfl JfO c_cnd Om);clear hX;subst hX2;refine ⟨rfl, ?_⟩;refine Z ?_;refine ⟨⟨Jdb (i:=k - 1) (hk1),Jdt (i:=k - 1) (hk1) Om⟩,Ji (b:= .bp (0,s) ((k - 1) * 4)) (congrArg (AV.bp (0,s)) (Jhw (i:=k - 1) c_cnd (hk1))) ?_⟩
   (conv=> whnf)
   generalize hX:Jbe _ _ _=X;have hX2:X=some (some (s=s), .ag (eC d[k - 1]!)):=hX.symm.trans (JdH Jbs (E:=eC) (d:=d) (tl:=tl) (j:=k - 1) rfl rfl rfl rfl JfO c_cnd Om);clear hX;subst hX2;refine ⟨rfl, ?_⟩;refine Z ?_;intro c hc;have hc2:c=decide (d[k]! =d[k - 1]!):=hc.trans Jz3;clear hc;cases c
   ·have hne:¬d[k]! =d[k - 1]! :=of_decide_eq_false hc2.symm;refine Z ?_;exact back (k+1,nx1) ⟨Dm,hk,fun j q1 q2=> by dsimp only at q2;rcases Nat.lt_or_ge j k with q | q;exact h3 j q1 q;rw [show j=k by omega];exact hne⟩ Dm (Es rfl rfl ⟨Rf,Lw,Tt⟩)
   ·have heq:d[k]! =d[k - 1]! :=of_decide_eq_true hc2.symm;clear hc2;have hU0:cU d k=d.toList.take k:=JhK Om h3;have hU1:cU d (k+1)=d.toList.take k:=(JrZ Om heq).trans hU0;refine JE ?_;refine JI (Ef [1]) 4 ?_;refine Z ?_;refine AOp.of_yields (Jim (l:=k) rfl rfl rfl Tryz.underlying79 Tryz.underlying127 Om hcap Om) ?_;refine Z ?_;refine Jm (fun y:Array Cnd×Nat×Nat×Nat=> mk 61 [(0, .hs (0,s) 0 n cap),(3,int y.2.1),(4, .hs (0,s) (k * 4) (n - k) (cap - k)),(5,int y.2.2.1)] ⟨JbM s y.1 tl, [],y.2.2.2,1⟩) (fun y=> y.1.size=n∧k≤y.2.1∧1≤y.2.2.1∧y.2.1+1≤k+y.2.2.1∧k+y.2.2.1≤n∧(∀j,k+y.2.2.1≤j+1→y.1[j]! =d[j]!)∧cU d (k+y.2.2.1)=y.1.toList.take y.2.1) (fun y=> n - y.2.2.1) ?_ ?_
    ·exact ⟨(d,k,1,nx1),⟨hn,Nat.le_refl _,Nat.le_refl _,Nat.le_refl _,hk,fun _ _=> rfl,hU1⟩,Jh _ _ rfl rfl Sf .slnil Bf Tt ⟨Rf,Rf,AVle.of_eq (congrArg (fun c=> AV.hs (0,s) (k * c) (n - k) (cap - k)) c_cnd),Y1⟩⟩
    ·rintro ⟨e,q,k2,nx2⟩ ⟨p1,p2,p3,p4,p5,p6,p7⟩;dsimp only at p1 p2 p3 p4 p5 p6 p7;refine Z ?_;intro c g2;cases c
     ·have g2:=Jn g2;try dsimp only at g2
      have hk2:k+k2=n:=(by omega);rw [hk2] at p7;have hq:q < n:=(by omega);refine JE ?_;refine JI (Ef [1,0]) 4 ?_;refine Z ?_;refine AOp.of_yields (Jim (l:=q) rfl rfl rfl Tryz.underlying79 Tryz.underlying127 Om hcap Om) ?_;refine Z ?_;obtain ⟨z,hz1,hz2,hz3⟩:=JAG;refine JsQ (n:=n - q) rfl rfl rfl Om Tryz.underlying79 hz1 hz2 hz3 (by rfl) (by show q * Tryz.prog.cellsOf 127+(n - q) * Tryz.prog.cellsOf 127≤(Jab eC e tl).length;rw [Jhv Jbs,c_cnd,p1];omega) ?_;refine AW.le (E':=mk 61 [(0, .hs (0,s) 0 n cap),(3,int q)] ⟨JbM s (cU d n).toArray (List.replicate ((n - q) * 4) .any++tl), [],nx2,1⟩) ?_ ?_
      ·exact Jh [((0,s), .c (Jaa (Jab eC e tl) (q * Tryz.prog.cellsOf 127) (List.replicate ((n - q) * Tryz.prog.cellsOf 127) .any)))] [] rfl rfl Sf .slnil ⟨rfl,Jpy (congrArg Own.c (by rw [c_cnd,p7,← p1];exact Jxv Om)),Tt⟩ Tt Y2
      refine JE ?_;refine JI (Ef [1]) 4 ?_;refine Z ?_;refine JoR (l:=q) rfl rfl rfl Tryz.underlying79 Tryz.underlying127 Om Om ?_;refine Z ?_;exact Jad rfl ⟨_,_,Rf,Jr (nn:=1) (JbM s (cU d n).toArray (List.replicate ((n - q) * 4) .any++tl)) [] rfl Sf .slnil Bf Pf,Jvz (by rw [p7];simp;omega)⟩
     ·have g2:=Jo g2;try dsimp only at g2
      have hk2:k+k2 < n:=(by omega);have hj1:IntKind.i64.wrap ((k2:Int) - 1)=((k2 - 1:Nat):Int):=(by rw [JaE Om Om];omega);refine Z ?_
      (refine JL 10 Kr Kr Kr ?_)
      refine Z ?_;refine ⟨⟨Jdb (i:=k2) (rfl),Jdt (i:=k2) (rfl) Om⟩,Ji (b:= .bp (0,s) ((k+k2) * 4)) (congrArg (AV.bp (0,s)) (Jxw c_cnd (rfl))) ?_⟩
      (conv=> whnf)
      generalize hX:Jbe _ _ _=X;have hX2:X=some (some (s=s), .ag (eC e[k+k2]!)):=hX.symm.trans (JdH Jbs (E:=eC) (d:=e) (tl:=tl) (j:=k+k2) rfl rfl rfl rfl JfO c_cnd Om);clear hX;subst hX2;refine ⟨rfl, ?_⟩;refine Z ?_;refine ⟨⟨Jdb (i:=k2 - 1) (hj1),Jdt (i:=k2 - 1) (hj1) Om⟩,Ji (b:= .bp (0,s) ((k+(k2 - 1)) * 4)) (congrArg (AV.bp (0,s)) (Jxw c_cnd (hj1))) ?_⟩
      (conv=> whnf)
      generalize hX:Jbe _ _ _=X;have hX2:X=some (some (s=s), .ag (eC e[k+(k2 - 1)]!)):=hX.symm.trans (JdH Jbs (E:=eC) (d:=e) (tl:=tl) (j:=k+(k2 - 1)) rfl rfl rfl rfl JfO c_cnd Om);clear hX;subst hX2;refine ⟨rfl, ?_⟩;refine Z ?_;have e1:e[k+k2]! =d[k+k2]! :=p6 _ Om;have e2:e[k+(k2 - 1)]! =d[k+k2 - 1]! :=(by rw [p6 _ Om];congr 1;omega);intro c hc;have hc2:c= !decide (d[k+k2]! =d[k+k2 - 1]!):=(by rw [← e1,← e2];exact hc.trans (congrArg (!·) Jz3));clear hc;cases c
      ·have heq2:d[k+k2]! =d[k+k2 - 1]! :=(by simpa using hc2);have hU2:=(JrZ Om heq2).trans p7;refine Z ?_;exact back (e,q,k2+1,nx2) ⟨p1,p2,Dm,Dm,Dm,fun j hj=> p6 j (by dsimp only at hj;omega),hU2⟩ Dm (Es rfl rfl ⟨Rf,Rf,Rf,Lw,Tt⟩)
      ·have hne:¬d[k+k2]! =d[k+k2 - 1]! :=(by simpa using hc2);have hU2:=Jy2 hne;rw [p7,← e1,← Jvy (k:=q) (x:=e[k+k2]!) Om] at hU2;refine JE ?_;refine JI (Ef [0,2]) 8 ?_;refine Z ?_;refine ⟨⟨Jdb (i:=k2) (rfl),Jdt (i:=k2) (rfl) Om⟩,Ji (b:= .bp (0,s) ((k+k2) * 4)) (congrArg (AV.bp (0,s)) (Jxw c_cnd (rfl))) ?_⟩
       (conv=> whnf)
       refine AOp.of_yields (JqR Jbs (E:=eC) (d:=e) (tl:=tl) (j:=k+k2) rfl rfl rfl rfl JfO c_cnd Om) ?_;refine Z ?_;refine ⟨⟨Jdb (i:=q) (rfl),Jdt (i:=q) (rfl) Om⟩,Ji (b:= .bp (0,s) (q * 4)) (congrArg (AV.bp (0,s)) (Jhw c_cnd (rfl))) ?_⟩
       (conv=> whnf)
       refine JsP Jbs (E:=eC) (d:=e) (tl:=tl) (j:=q) (z:=e[k+k2]!) rfl rfl rfl rfl rfl rfl rfl rfl Kr c_cnd Om ?_;refine Z ?_;exact back (e.setIfInBounds q e[k+k2]!,q+1,k2+1,nx2) ⟨by simpa using p1,Dm,Dm,Dm,Dm,fun j hj=> by
        dsimp only at hj⊢;rw [Jxu Om,if_neg Om];exact p6 j Om,hU2⟩ Dm (Es rfl rfl ⟨Rf,Lw,Rf,Lw,Tt⟩)
def JbE (c:Cnd):Bool:=decide ((JN c).2=2)
def JhL (c:Cnd):Option Cnd:=if (JN c).2=0 then some (JN c).1 else none
def Jbk (cs:List Cnd):List Cnd:=cs.filterMap JhL
def ltC (a b:Cnd):Bool:=decide (Jpw a b < 0)
def Jdf (L:List Cnd):List Cnd:=cU (Go.Sort.insertionSort ltC L.toArray 0 L.length) L.length
def Jav (r:Rul):Option Rul:=if r.conds.any JbE then none else some ⟨r.name,r.act,Jdf (Jbk r.conds)⟩
def Jz4:Option Rul→AV
 | none=> .tup [J7 Jg,boolA false]
 | some n=> .tup [J7 n,boolA true]
theorem Jpz {c:Cnd} (h:(JN c).2=0):JhL c=some (JN c).1:=if_pos h
theorem Jk8 {c:Cnd} (h:(JN c).2≠0):JhL c=none:=if_neg h
theorem JvA {cs:List Cnd} {i:Nat} (hi:i < cs.length):Jbk (cs.take (i+1))=Jbk (cs.take i)++(JhL (cs.getD i cnd0)).toList:=by
 unfold Jbk
 rw [Ja9 cnd0 hi,List.filterMap_append]
 congr 1
theorem JpA (cs:List Cnd):(Jbk cs).length≤cs.length:=List.length_filterMap_le _ _
theorem Jxx {cs:List Cnd} (h:∀j,j < cs.length→JbE (cs.getD j cnd0)=false):cs.any JbE=false:=by
 rw [Bool.eq_false_iff]
 intro ha
 obtain ⟨c,hc,hb⟩:=List.any_eq_true.1 ha
 obtain ⟨j,hj,rfl⟩:=List.getElem_of_mem hc
 have:=h j hj
 rw [show cs.getD j cnd0=cs[j] by simp [List.getD,hj]] at this
 rw [this] at hb;cases hb
theorem Jz5 {cs:List Cnd} {i:Nat} (hi:i < cs.length) (h:JbE (cs.getD i cnd0)=true):cs.any JbE=true:=by
 refine List.any_eq_true.2 ⟨cs.getD i cnd0, ?_,h⟩
 simp [List.getD,hi]
theorem JpB {cs:List Cnd} (h:∀c∈cs,c.ok) {i:Nat} (hi:i < cs.length):(cs.getD i cnd0).ok:=h _ (by simp [List.getD,hi])
theorem JvB:Jbc Tryz.prog 127=true:=by kernel_rfl
theorem JvC:Tryz.prog.bytesOf 127=32:=by kernel_rfl
def ruO (nx:Nat) (s:ByteArray) (k n:Int) (x:AV):Vl.Id×Own:=((2,nx+2), .c [strA s,int k,int n,x])
def ruZ (nx:Nat):Vl.Id×Own:=((1,nx+1), .c [strA ⟨#[]⟩,int 0,int 0,JeX 4])
def ruB (nx:Nat) (s:ByteArray) (k n:Int) (L:List Cnd):Option (Nat×Nat×List AV)→List (Vl.Id×Own)
 | none=> [ruO nx s k n (JeX 4),ruZ nx]
 | some (s1,cap,tl)=> [ruO nx s k n (.hs (0,s1) 0 L.length cap),ruZ nx,((0,s1), .c (Jab eC L.toArray tl))]
def ruI (L:List Cnd):Option (Nat×Nat×List AV)→Prop
 | none=> L= []
 | some (_,cap,tl)=> 1≤L.length∧L.length≤cap∧cap * 4≤L.length * 4+tl.length
theorem Jy3 {a b:Cnd}:Jpw a b < 0↔a.arg < b.arg∨(a.arg=b.arg∧(a.op < b.op∨(a.op=b.op∧(a.mask < b.mask∨(a.mask=b.mask∧a.value < b.value))))):=by
 unfold Jpw Jdx
 simp only [orL]
 repeat' split
 all_goals omega
theorem Jjd {a b:Cnd}:ltC a b=true↔a.arg < b.arg∨(a.arg=b.arg∧(a.op < b.op∨(a.op=b.op∧(a.mask < b.mask∨(a.mask=b.mask∧a.value < b.value))))):=by
 unfold ltC;rw [decide_eq_true_iff];exact Jy3
theorem JiB {a b:Cnd}:ltC a b=false↔¬(a.arg < b.arg∨(a.arg=b.arg∧(a.op < b.op∨(a.op=b.op∧(a.mask < b.mask∨(a.mask=b.mask∧a.value < b.value)))))):=by
 rw [← Jjd,Bool.not_eq_true]
theorem swo_ltC:Go.Sort.SWO ltC:=⟨fun x=> by rw [JiB];omega,fun x y z=> by rw [Jjd,Jjd,Jjd];omega,fun x y z=> by rw [JiB,JiB,JiB];omega⟩
theorem Jy4 {a b:Cnd} (h1:ltC a b=false) (h2:ltC b a=false):a=b:=by
 rw [JiB] at h1 h2
 obtain ⟨a1,a2,a3,a4⟩:=a
 obtain ⟨b1,b2,b3,b4⟩:=b
 dsimp only at h1 h2
 have e1:a1=b1:=by omega
 have e2:a2=b2:=by omega
 have e3:a3=b3:=by omega
 have e4:a4=b4:=by omega
 subst e1 e2 e3 e4;rfl
theorem Jz6 {nx s1:Nat} {s:ByteArray} {k n:Int} {x y:AV} (h:AVle x y) {c d:List AV} (hc:c=d):BxLe [ruO nx s k n x,ruZ nx,((0,s1), .c c)] [ruO nx s k n y,ruZ nx,((0,s1), .c d)]:=by
 subst hc
 exact ⟨rfl,⟨Rf,Rf,Rf,h,Tt⟩,Bf⟩
theorem Jty {l:List Cnd} {x:Cnd} {tl:List AV} (h:4≤tl.length):Jaa (Jab eC l.toArray tl) (l.length * Tryz.prog.cellsOf 127) (eC x)=Jab eC (l++ [x]).toArray (tl.drop 4):=by
 rw [c_cnd];exact JmL Jbs h
theorem JvD {i j:Vl.Id} {L:List Cnd} {x:Cnd} {cap:Nat} (h:i.2=j.2):AVle (.hs i 0 (L.length+1) cap) (.hs j 0 (L++ [x]).length cap):=by
 rw [List.length_append];exact AVle.hs_nm h
theorem Jy5 {x:Cnd} {m:Nat}:eC x++List.replicate (m * Tryz.prog.cellsOf 127) AV.any=Jab eC #[x] (List.replicate (m * 4) .any):=by
 rw [c_cnd];simp [Jab]
theorem Jxy {l:List Cnd} {x:Cnd} {tl:List AV} {m:Nat}:(Jab eC l.toArray tl).take (l.length * Tryz.prog.cellsOf 127)++eC x++List.replicate (m * Tryz.prog.cellsOf 127) .any=Jab eC (l++ [x]).toArray (List.replicate (m * 4) .any):=by
 rw [c_cnd,JmM Jbs];exact JoW
theorem Jq9 (r:Rul) (hok:∀c∈r.conds,c.ok) (hl:r.conds.length≤12):Tells Tryz.prog 50 [J7 r] (Jz4 (Jav r)):=by
 obtain ⟨s,⟨k,n⟩,cs⟩:=r
 dsimp only at hok hl
 refine Jc Tryz.func50 rfl rfl fun nx=> ?_
 refine Z ?_
 refine Jm (fun y:Nat×List Cnd×Option (Nat×Nat×List AV)×Nat=> mk 47 [(2, .bp (1,nx+1) 0),(4, .bp (2,nx+2) 0),(15,JaT cs),(16,int cs.length),(17,int y.1)] ⟨ruB nx s k n y.2.1 y.2.2.1, [],y.2.2.2,4⟩) (fun y=> y.1≤cs.length∧y.2.1=Jbk (cs.take y.1)∧ruI y.2.1 y.2.2.1∧∀j,j < y.1→JbE (cs.getD j cnd0)=false) (fun y=> cs.length - y.1) ?_ ?_
 ·exact ⟨(0, [],none,nx+3),⟨Nat.zero_le _,rfl,rfl,fun j h=> absurd h (Nat.not_lt_zero _)⟩,Jh (pm:= []) [((2,nx+2), .c [strA s,int k,int n, .os 0 0 (fun _=> .any) none]),((1,nx+1), .c [strA ⟨#[]⟩,int 0,int 0, .os 0 0 (fun _=> .any) none])] [] rfl rfl (.cons_cons _ (.cons_cons _ (.cons _ .slnil))) Sf ⟨rfl,⟨Rf,Rf,Rf,AVle.os_nil,Tt⟩,rfl,⟨Rf,Rf,Rf,AVle.os_nil,Tt⟩,Tt⟩ Tt Y5⟩
 ·rintro ⟨i,L,md,nx1⟩ ⟨h1,hL,h2,h3⟩;dsimp only at h1 hL h2 h3;have hal:=JpA (cs.take i);rw [List.length_take,Nat.min_eq_left h1,← hL] at hal;refine Z ?_;intro c g;cases c
  ·have g:=Jn g;try dsimp only at g
   have hi:i=cs.length:=by omega
   subst hi;rw [List.take_length] at hL;have hR:Jav ⟨s,(k,n),cs⟩=some ⟨s,(k,n),Jdf L⟩:=by
    unfold Jav;dsimp only;rw [Jxx h3,hL];rfl
   rw [hR];rcases md with _ | ⟨s1,cap,tl⟩
   ·obtain rfl:L= []:=h2;refine Z ?_;refine Ja rfl rfl (Jtu 99) Y2 fun nx2=> ?_;refine Z ?_;refine Ja rfl rfl Jvx Y1 fun nx2=> ?_;refine Z ?_;exact Jf rfl ⟨rfl,Tt⟩ (AVle.tups (cs:= [_,_]) ⟨AVle.ags (cs:= [_,_,_,_]) ⟨Rf,Rf,Rf,AVle.os_sl0,Tt⟩,Y1⟩)
   ·obtain ⟨q1,q2,q3⟩:=h2;refine Z ?_;refine JH (xs:= [.hs (0,s1) 0 L.length cap,fn0 99]) [ruO nx s k n (.hs (0,s1) 0 L.length cap),ruZ nx] [] 4 rfl rfl rfl rfl Y2 (Jpx 99 ltC Jpw Jtv (fun _ _=> rfl) L.toArray tl L.length Si Om s1 cap _) Bf Pf rfl fun r h' hq=> ?_;obtain ⟨nx2,nn2,rfl⟩:=hq;have hds:(Go.Sort.insertionSort ltC L.toArray 0 L.length).size=L.length:=by
     have:=(Go.Sort.insertionSort_holds (lt:=ltC) swo_ltC L.toArray 0 L.length (Nat.zero_le _) Si).1.1;simpa using this
    refine Z ?_;refine JH (xs:= [.hs (0,s1) 0 L.length cap]) [ruO nx s k n (.hs (0,s1) 0 L.length cap),ruZ nx] [] 4 rfl rfl rfl rfl Y1 (Jq8 (Go.Sort.insertionSort ltC L.toArray 0 L.length) tl L.length hds Om Om s1 cap _ q2) Bf Pf rfl fun r h' hq=> ?_;obtain ⟨tl2,nx3,nn3,rfl,rfl⟩:=hq;have hcl:(Jdf L).length≤cap:=Nat.le_trans (Jtw _ _) q2;refine JE ?_;refine JaX (n:=47) (nx:=nx3) (nn:=4) (pm:= []) (bx:= [ruZ nx]) (L:= [(2, .bp (1,nx+1) 0),(4, .rp [strA s,int k,int n,JaT (Jdf L)])]) (df:=some []) [((2,nx+2), .c [strA s,int k,int n, .hs (0,s1) 0 (Jdf L).length cap]),((0,s1), .c (Jab eC (Jdf L).toArray tl2))] rfl rfl rfl (.cons _ (.swap _ _ _)) Sf ⟨Frz.refl _,(Frz.bp (.head _) rfl).trans (Frz.rp ⟨Frz.refl _,Frz.refl _,Frz.refl _,Jhy Jbs (fun _=> rfl) rfl (.tail _ (.head _)) hcl,Tt⟩),Tt⟩ ?_;refine Z ?_;exact Jf rfl ⟨rfl,Tt⟩ Rf
  ·have g:=Jo g;try dsimp only at g
   have hi:i < cs.length:=by omega
   have hcs:=Ju2 (cs.getD i cnd0) (JpB hok hi);have ha:=JvA hi;have hnv:JbE (cs.getD i cnd0)=decide ((JN (cs.getD i cnd0)).2=2):=rfl;have hak0:=Jpz (c:=cs.getD i cnd0);have hak1:=Jk8 (c:=cs.getD i cnd0);generalize JN (cs.getD i cnd0)=N at hcs hnv hak0 hak1;obtain ⟨⟨qa,qo,qm,qv⟩,st⟩:=N;dsimp only at hnv hak0 hak1;refine Z ?_;refine ⟨Bd, ?_⟩;refine Z ?_;refine Ja rfl rfl hcs Y1 fun nx2=> ?_;refine Z ?_;intro c g2;cases c
   ·have g2:st≠2:=fun h=> by subst h;cases g2
    rw [decide_eq_false g2] at hnv;have h3':∀j,j < i+1→JbE (cs.getD j cnd0)=false:=fun j hj=> by
     rcases Nat.lt_or_ge j i with q | q
     ·exact h3 j q
     ·rw [show j=i by omega];exact hnv
    refine Z ?_;intro c g3;cases c
    ·have g3:st≠0:=fun h=> by subst h;cases g3
     rw [hak1 g3,← hL] at ha;refine Z ?_;exact back (i + 1, L, md, _) ⟨hi, ha.symm.trans (List.append_nil _).symm |>.symm |> (fun e => by simpa using ha.symm), h2, h3'⟩ Dm (Jh (bx := ruB nx s k n L md) _ _ rfl rfl (.cons _ (.cons _ Sf)) Sf Bf Tt ⟨Rf, Rf, Rf, Rf, Lw, Tt⟩)
    ·have g3:st=0:=by
      by_cases h:st=0
      ·exact h
      ·exfalso
       have:((st:Int) ==0)=false:=beq_eq_false_iff_ne.2 Om;exact absurd (g3.trans this) Dc
     rw [hak0 g3,← hL] at ha;have ha:L++ [⟨qa,qo,qm,qv⟩]=Jbk (cs.take (i+1)):=ha.symm;rcases md with _ | ⟨s1,cap,tl⟩
     ·obtain rfl:L= []:=h2;refine JE ?_;refine JI (Ef [0]) 5 ?_;refine Z ?_;refine Jgc (m:=1) rfl rfl (.inr ⟨_,rfl⟩) Tryz.underlying79 JvB c_cnd.symm Dc (JG rfl) (by rw [JvC];omega) Om fun ncap hcap=> ?_;refine Z ?_;exact back (i+1, [⟨qa,qo,qm,qv⟩],some (nx2+1,ncap,List.replicate ((ncap - 1) * 4) .any),nx2+1+1) ⟨hi,ha,⟨Nat.le_refl _,hcap,by simp;omega⟩,h3'⟩ Dm (JaL (pm:= []) (bx:= [ruO nx s k n (.hs (0,nx2+1) 0 1 ncap),ruZ nx,((0,nx2+1), .c (Jab eC #[⟨qa,qo,qm,qv⟩] (List.replicate ((ncap - 1) * 4) .any)))]) _ [ruO nx s k n (.hs (6,nx2+1) 0 1 ncap),ruZ nx,((6,nx2+1), .c (eC ⟨qa,qo,qm,qv⟩++List.replicate ((ncap - 1) * Tryz.prog.cellsOf 127) .any))] [] rfl rfl (List.perm_append_singleton _ _) (.cons _ (.cons _ (.cons_cons _ (.cons_cons _ (.cons_cons _ .slnil))))) .slnil ⟨rfl,⟨Rf,Rf,Rf,AVle.hs_nm rfl,Tt⟩,rfl,OwnLe.refl _,rfl,Jpy (congrArg Own.c Jy5),Tt⟩ Tt ⟨Rf,Rf,Rf,Rf,Lw,Tt⟩)
     ·obtain ⟨q1,q2,q3⟩:=h2;refine JE ?_;refine JI (Ef [0]) 5 ?_;refine Z ?_;refine Je7 (m:=1) (szx:=4) (n:=L.length) (cap:=cap) (cs:=Jab eC L.toArray tl) (i:=(0,s1)) rfl rfl (.inr ⟨_,rfl⟩) Tryz.underlying79 JvB (.inr c_cnd.symm) (by rfl) q2 (by rw [c_cnd,Jhv Jbs];simpa using q3) (JG rfl) (fun _=> by rw [JvC];omega) (fun _=> by omega) (fun hm=> absurd hm Dc) (fun hm hfit=> ?_) (fun hm hfit ncap hcap=> ?_)
      ·refine Z ?_
       (conv=> whnf)
       refine back (i+1,L++ [(⟨qa,qo,qm,qv⟩:Cnd)],some (s1,cap,tl.drop 4),nx2+1) ?_ Dm ?_
       ·exact ⟨hi,ha,⟨by simp,by simpa using hfit,by simp;omega⟩,h3'⟩
       ·exact (Jh (pm:= []) (bx:= [ruO nx s k n (.hs (0,s1) 0 (L++ [(⟨qa,qo,qm,qv⟩:Cnd)]).length cap),ruZ nx,((0,s1), .c (Jab eC (L++ [(⟨qa,qo,qm,qv⟩:Cnd)]).toArray (tl.drop 4)))]) [ruO nx s k n (.hs (0,s1) 0 (L.length+1) cap),ruZ nx,((0,s1), .c (Jaa (Jab eC L.toArray tl) (L.length * Tryz.prog.cellsOf 127) (eC ⟨qa,qo,qm,qv⟩)))] [] rfl rfl (.cons _ (.cons _ (.cons_cons _ (.cons_cons _ (.cons_cons _ .slnil))))) .slnil (Jz6 (JvD rfl) (Jty (tl:=tl) (by have:=hfit;omega))) Tt ⟨Rf,Rf,Rf,Rf,Lw,Tt⟩)
      ·refine Z ?_
       (conv=> whnf)
       refine back (i+1,L++ [(⟨qa,qo,qm,qv⟩:Cnd)],some (nx2+1,ncap,List.replicate ((ncap - (L.length+1)) * 4) .any),nx2+1+1) ?_ Dm ?_
       ·exact ⟨hi,ha,⟨by simp,by simpa using hcap,by simp;omega⟩,h3'⟩
       ·exact (JaL (pm:= []) (bx:= [ruO nx s k n (.hs (0,nx2+1) 0 (L++ [(⟨qa,qo,qm,qv⟩:Cnd)]).length ncap),ruZ nx,((0,nx2+1), .c (Jab eC (L++ [(⟨qa,qo,qm,qv⟩:Cnd)]).toArray (List.replicate ((ncap - (L.length+1)) * 4) .any)))]) _ [ruO nx s k n (.hs (6,nx2+1) 0 (L.length+1) ncap),ruZ nx,((6,nx2+1), .c ((Jab eC L.toArray tl).take (L.length * Tryz.prog.cellsOf 127)++eC ⟨qa,qo,qm,qv⟩++List.replicate ((ncap - (L.length+1)) * Tryz.prog.cellsOf 127) .any))] [] rfl rfl (List.perm_append_singleton _ _) (.cons _ (.cons _ (.cons_cons _ (.cons_cons _ (.cons _ (.cons_cons _ .slnil)))))) .slnil ⟨rfl,⟨Rf,Rf,Rf,JvD rfl,Tt⟩,rfl,OwnLe.refl _,rfl,Jpy (congrArg Own.c Jxy),Tt⟩ Tt ⟨Rf,Rf,Rf,Rf,Lw,Tt⟩)
   ·have g2:st=2:=by
     by_cases h:st=2
     ·exact h
     ·exfalso
      have:((st:Int) ==2)=false:=beq_eq_false_iff_ne.2 Om;exact absurd (g2.trans this) Dc
    have hR:Jav ⟨s,(k,n),cs⟩=none:=by
     unfold Jav;dsimp only;rw [Jz5 hi (by rw [hnv];exact decide_eq_true g2)];rfl
    rw [hR];rcases md with _ | ⟨s1,cap,tl⟩
    all_goals
     refine Z ?_;exact Jf rfl ⟨rfl,Tt⟩ (AVle.tups (cs:= [_,_]) ⟨AVle.ags (cs:= [_,_,_,_]) ⟨Rf,Rf,Rf,AVle.os_sl0,Tt⟩,Y1⟩)
def Jk9 (r:Rul):List AV:= [strA r.name,int r.act.1,int r.act.2,JaT r.conds]
theorem JvE (l:List Rul) (p:Rul→Bool) (f:Nat) (n:Rul) (hl:l.length≤1000000000) (hp:∀i,i < l.length→Tells Tryz.prog f [J7 (l.getD i Jg), .rp (Jk9 n)] (boolA (p (l.getD i Jg)))):
 Tells Tryz.prog 47 [JF 4 J7 Jg l,(.fn (.func f) [] [.rp (Jk9 n)])] (int (JhE (l.findIdx? p))):=by
 refine Jc Tryz.func47 rfl rfl fun nx=> ?_
 refine Z ?_
 refine Jm (fun s:Nat×Nat=> mk 19 [(0,JF 4 J7 Jg l),(1,(.fn (.func f) [] [.rp (Jk9 n)])),(7,int l.length),(8,int s.1)] ⟨[], [],s.2,0⟩) (fun s=> s.1≤l.length∧∀j,j < s.1→p (l.getD j Jg)=false) (fun s=> l.length - s.1) ?_ ?_
 ·exact ⟨(0,nx),⟨by simp,by intro j hj;simp at hj⟩,Jax rfl rfl Y4⟩
 ·rintro ⟨i,nx⟩ ⟨h1,h2⟩;dsimp only at h1 h2;refine Z ?_;intro c h3;cases c
  ·have h3:=Jn h3;dsimp only at h3;refine Z ?_;refine Jb rfl (Jk ?_);rw [JeR Jg (fun j hj=> h2 j Om)];rfl
  ·have h3:=Jo h3;dsimp only at h3;have hi:i < l.length:=by omega
   refine Z ?_;refine ⟨⟨Dm,Dm⟩, ?_⟩;refine Z ?_;refine Ja rfl rfl (hp i hi) Y2 fun nx'=> ?_;intro c h4;cases c
   ·refine Z ?_;refine back (i+1,nx') ⟨Dm,fun j hj=> ?_⟩ Dm (Jax rfl rfl ⟨Rf,Rf,Rf,Jk (JC Dm),Tt⟩);dsimp only at hj;rcases Nat.lt_or_ge j i with h | h
    ·exact h2 j h
    ·obtain rfl:j=i:=(by omega);exact h4.symm
   ·refine Z ?_;refine Jb rfl (Jk ?_);rw [Jg6 Jg hi h2 h4.symm];rfl
theorem JvF (l:List Rul) (p:Rul→Bool) (f:Nat) (n:Rul) (hl:l.length≤1000000000) (hp:∀i,i < l.length→Tells Tryz.prog f [J7 (l.getD i Jg), .rp (Jk9 n)] (boolA (p (l.getD i Jg)))):
 Tells Tryz.prog 70 [JF 4 J7 Jg l,(.fn (.func f) [] [.rp (Jk9 n)])] (boolA (l.any p)):=by
 refine Jc Tryz.func70 rfl rfl fun nx=> ?_
 refine Z ?_
 refine Ja rfl rfl (JvE l p f n hl hp) Y2 fun nx'=> ?_
 refine Z ?_
 intro c h;cases c
 all_goals
  refine Z ?_;refine Jb rfl (Jp ?_);rw [h,← List.findIdx?_isSome];exact JdZ _
def JiC (n x:Rul):Bool:=decide (x.conds= [])|| decide (x.conds=n.conds)
def Jc8 (l:List Rul) (n:Rul):Bool:=l.any (JiC n)
theorem JvG (x n:Rul) (hx:x.conds.length≤1000000):Tells Tryz.prog 101 [J7 x, .rp [strA n.name,int n.act.1,int n.act.2,JaT n.conds]] (boolA (JiC n x)):=by
 refine Jc Tryz.func101 rfl rfl fun nx=> ?_
 by_cases h:x.conds= []
 ·have e:JiC n x=true:=by unfold JiC;rw [h];rfl
  rw [e];refine Z ?_;intro c hc;have hc2:c=true:=hc.trans (beq_iff_eq.2 (congrArg (fun l:List Cnd=> Int.ofNat l.length) h));clear hc;subst hc2;refine Z ?_;exact Jb rfl Rf
 ·have e:JiC n x=decide (x.conds=n.conds):=by unfold JiC;rw [decide_eq_false h];rfl
  rw [e];refine Z ?_;intro c hc;have hne:¬Int.ofNat x.conds.length=0:=fun hh=> h (List.eq_nil_of_length_eq_zero (Int.ofNat.inj hh));have hc2:c=false:=hc.trans (beq_eq_false_iff_ne.2 hne);clear hc;subst hc2;refine Z ?_;refine Ja rfl rfl (Jq3 x.conds n.conds hx) Y2 fun nx2=> ?_;intro c h9;cases c
  all_goals
   refine Z ?_;exact Jb rfl (Jp h9)
theorem JjJ (l:List Rul) (n:Rul) (hl:l.length≤1000000) (hc:∀r∈l,r.conds.length≤1000000):Tells Tryz.prog 51 [JW l,J7 n] (boolA (Jc8 l n)):=by
 refine Jc Tryz.func51 rfl rfl fun nx=> ?_
 (refine JE ?_;refine JZ ?_;refine JE ?_)
 refine AW.le (Jcw (L:= [(0,JW l),(3, .rp [strA n.name,int n.act.1,int n.act.2,JaT n.conds])]) (bx:= []) (pm:= []) (nn:=1) [((0,nx), .c [strA n.name,int n.act.1,int n.act.2,JaT n.conds])] rfl rfl Sf .slnil ⟨Frz.refl _,Frz.bp (.head _) rfl,Tt⟩) ?_
 refine Z ?_
 refine Ja rfl rfl (JvF l (JiC n) 101 n Om (fun i hi=> JvG _ _ (hc _ (by simp [List.getD,hi])))) Y2 fun nx2=> ?_
 intro c h9;cases c
 all_goals
  refine Z ?_;exact Jb rfl (Jp h9)
end Go.Proofs.W

namespace Go.Proofs
open Go.Shelf
shelf_lay_g SlLaysM.n6 Slgm 6 at Tryz 94 as Tryz.laysM6k16
end Go.Proofs
namespace Go.Proofs.W
open Go.Vl Go.Shelf
set_option maxRecDepth 100000
theorem Jra (es:List (Value×AV)) (hky:∀p∈es,∃z,p.1= .string z):Jg4 Tryz.prog 104 [] [.rp [.fm es]] (fun v:Value=> [.v v]) (fun xs=> xs.Perm (es.map (·.1))):=by
 intro i σ Cb Cp I J hc s0 nx nn h0
 refine ECall.wk (JB Tryz.func104 rfl rfl ?_)
 refine JE ?_
 refine JI (fun n=> match n with | 0=> true | _=> false) 2 ?_
 refine Z ?_
 refine JsM rfl Tryz.underlying136 rfl ?_
 refine Z ?_
 refine Jm (fun y:List Nat×σ×Nat=> mk 14 [(0, .yl i),(5, .bp (nn,nx) 0)] ⟨((nn,nx), .it es y.1)::Cb y.2.1,Cp y.2.1,y.2.2,nn+1⟩) (fun y=> y.1.Nodup∧(∀j∈y.1,j < es.length)∧I (y.1.map (JeA es)) y.2.1) (fun y=> es.length - y.1.length) ?_ ?_
 ·exact ⟨([],s0,nx+1),⟨List.nodup_nil,(fun j (h:j∈ [])=> by cases h),h0⟩,Et rfl rfl ⟨rfl,OwnLe.refl _,Bf⟩ Pf Y2⟩
 ·rintro ⟨seen,s,nx1⟩ ⟨h1,h2,h3⟩;dsimp only at h1 h2 h3;refine JE ?_;refine JI (fun n=> match n with | 0=> true | _=> false) 1 ?_;refine JuO (i:=(nn,nx)) (es:=es) (seen:=seen) (R:=Cb s) rfl rfl rfl (fun k p hk hn=> ?_) (fun hall=> ?_)
  ·obtain ⟨z,hz⟩:=hky p (List.mem_of_getElem? hk);obtain ⟨key,val⟩:=p;dsimp only at hz;subst hz;have hk2:k < es.length:=(List.getElem?_eq_some_iff.1 hk).1;have hka:JeA es k= .string z:=Jtm hk;obtain ⟨post,hperm⟩:=JuP h1 h2 hk2 hn;have hS:(seen.map (JeA es)++(.string z)::post.map (JeA es)).Perm (es.map (·.1)):=by
    rw [← JmV,← hka];simpa using hperm.map (JeA es)
   have hlen:=hperm.length_eq;have hnd:(seen++ [k]).Nodup:=by
    rw [List.nodup_append];exact ⟨h1,by simp,fun a ha b hb hab=> by rw [List.mem_singleton] at hb;subst hb;subst hab;exact hn ha⟩
   have hlt:∀j∈seen++ [k],j < es.length:=fun j hj=> by
    rcases List.mem_append.1 hj with h | h
    ·exact h2 j h
    ·rw [List.mem_singleton] at h;omega
   have hmk:(seen++ [k]).map (JeA es)=seen.map (JeA es)++ [.string z]:=by rw [List.map_append,← hka];rfl
   have hlen2:seen.length < es.length:=by simp at hlen;omega
   refine JE ?_;refine JI (fun n=> match n with | 0=> true | _=> false) 1 ?_;refine JsN (i:=(nn,nx)) (seen:=seen) (k:=k) (R:=Cb s) rfl rfl rfl hk ?_;refine JE ?_;refine JI (fun n=> match n with | 0=> true | _=> false) 3 ?_;refine Z ?_;refine Jc0 [((nn,nx), .it es (seen++ [k]))] [] rfl rfl rfl (hc _ hS) rfl h3 Y1 (fun s' nx' hI=> ?_) (fun s' nx' hJ=> ?_)
   ·refine Z ?_;exact back (seen++ [k],s',nx') ⟨hnd,hlt,by dsimp only;rw [hmk];exact hI⟩ (by simp;omega) (Et rfl rfl Bf Pf Y2)
   ·refine Z ?_;exact Jad rfl ⟨_,⟨Cb s',Cp s',nx',nn⟩,Rf,Jr _ _ rfl (.cons _ Sf) Sf Bf Pf,_,s',hS, .inr ⟨_,_,_,rfl,hJ⟩,rfl,rfl⟩
  ·refine Z ?_;refine Jad rfl ⟨_,⟨Cb s,Cp s,nx1,nn⟩,Rf,Jr _ _ rfl (.cons _ Sf) Sf Bf Pf,_,s, ?_, .inl h3,rfl,rfl⟩;rw [← JmV];exact (JuQ h1 h2 hall).map _
def Jcs (l:List Value) (k:Nat):AV:= .v (l.getD k (.bool false))
theorem Jxz:Tryz.prog.bytesOf 9=16:=by kernel_rfl
theorem Jla (es:List (Value×AV)):Tells Tryz.prog 53 [.fm es] (.fn (.func 104) [] [.rp [.fm es]]):=by
 refine Jc Tryz.func53 rfl rfl fun nx=> ?_
 (repeat ((conv=>whnf);first|refine ω0 ?_|refine ω1 ?_|refine ω2 ?_|refine ω3 ?_|refine ω4 rfl ?_|refine ω5 rfl ?_|refine ω6 ?_|refine ω7 ?_|refine ⟨rfl,?_⟩|refine ⟨trivial,?_⟩|refine ⟨⟨rfl,Nat.le_of_ble_eq_true rfl⟩,?_⟩|refine ⟨⟨by kernel_rfl,by kernel_rfl⟩,?_⟩|refine ⟨by decide,?_⟩|refine Jga ?_|refine Jfg ?_))
 refine AW.le (Jcw (L:= [(2, .fn (.func 104) [] [.rp [.fm es]])]) (bx:= []) (pm:= []) (nn:=1) [((0,nx), .c [.fm es])] rfl rfl Sf .slnil ⟨Frz.fn Tt ⟨Frz.bp (.head _) rfl,Tt⟩,Tt⟩) ?_
 refine Z ?_
 exact Jb rfl Rf
theorem Jkc {it:FuncId} {es:List (Value×AV)} {S:List Value→Prop} (hit:Jg4 Tryz.prog it [] [.rp [.fm es]] (fun v:Value=> [.v v]) S) (hS:∀xs,S xs→xs.length≤1000000∧∀v∈xs,∃z,v= .string z) (nx:Nat):
 ECall Tryz.prog 154 [.os 0 0 (fun _=> .any) none, .fn (.func it) [] [.rp [.fm es]]] ⟨[], [],nx,0⟩ fun r h'=> ∃xs oi nx' nn',S xs∧(oi=none→xs= [])∧r= .os 1 xs.length (Jcs xs) oi∧h'=⟨[],J2 oi (xs.length * 1),nx',nn'⟩:=by
 refine ECall.wk (JB Tryz.func154 rfl rfl ?_)
 refine Z ?_
 refine AW.le (E':=mk 13 [(2, .bp (0,nx) 0),(6, .fn (.func it) [] [.rp [.fm es]])] ⟨[((0,nx), .c [.os 1 0 (Jcs []) none])], [],nx+1,1⟩) ?_ ?_
 ·exact Jh _ _ rfl rfl Sf .slnil ⟨rfl,⟨AVle.os_nil,Tt⟩,Tt⟩ Tt Y2
 refine JyI (σ:=Nat×(Nat→AV)×Option Vl.Id) (α:=Value) (e:=fun v=> [.v v]) (S:=S) (first':= []) (caps':= [.rp [.fm es]]) (fun x=> [((0,nx), .c [.os 1 x.1 x.2.1 x.2.2])]) (fun x=> J2 x.2.2 (x.1 * 1)) (fun pre x=> x.1=pre.length∧(∀k,k < x.1→x.2.1 k=Jcs pre k)∧(x.2.2=none→pre= [])) (0,Jcs [],none) rfl rfl hit (LeL.refl _) (LeL.refl _) rfl rfl ⟨rfl,fun _ _=> rfl,fun _=> rfl⟩ (fun _=> rfl) ?_ ?_
 ·rintro pre x post ⟨n,f,oi⟩ nx3 nn3 hx ⟨hp,hf,ho⟩;dsimp only at hp hf ho;subst hp;obtain ⟨hlen,hty⟩:=hS _ hx;obtain ⟨z,rfl⟩:=hty x Si;simp at hlen;refine JE ?_;refine JZ ?_;refine JE ?_;refine JI (fun n=> match n with | 0=> true | _=> false) 4 ?_;refine Z ?_;refine JgO (e:=9) (c:=1) (pm:= []) (n:=pre.length) (oi:=oi) (sz:=1) (f:=f) rfl rfl (.inr ⟨_,rfl⟩) Kr Kr Kr (.inr rfl) Kr (List.append_nil _).symm (JG rfl) (by rw [Jxz];omega) Om ?_;refine Z ?_;refine ⟨(pre.length+1,_,some (nn3,nx3)), .inl ⟨rfl,by simp,fun k hk=> ?_,fun h=> by cases h⟩,rfl,rfl⟩;refine JbW (fun k hk=> ?_) ?_ k hk
  ·rw [hf k hk];simp [Jcs,List.getD,List.getElem?_append_left hk,hk]
  ·simp [Jcs,List.getD];rfl
 ·rintro xs ⟨n,f,oi⟩ nx3 nn3 hx ⟨hp,hf,ho⟩;dsimp only at hp hf ho;subst hp;refine Z ?_;refine Jad rfl ⟨.os 1 xs.length (Jcs xs) oi,⟨[],J2 oi (xs.length * 1),nx3,0⟩,AVle.os_fun hf, ?_,xs,oi,nx3,0,hx,ho,rfl,rfl⟩;exact Jr [] _ rfl (List.nil_sublist _) Sf Tt Pf
theorem Jl9 (es:List (Value×AV)) (hl:es.length≤1000000) (hky:∀p∈es,∃z,p.1= .string z) (nx:Nat):
 ECall Tryz.prog 103 [.fn (.func 104) [] [.rp [.fm es]]] ⟨[], [],nx,0⟩ (Jyu (fun n f=> ∃xs:List Value,xs.Perm (es.map (·.1))∧n=xs.length∧∀k,k < n→f k=Jcs xs k) 1):=by
 refine JsO Dc (fun n f ⟨xs,_,_,hf⟩ k hk c hc=> ?_) ?_
 ·rw [hf k hk] at hc;obtain rfl:c=Jcs xs k:=by simpa [Jcs,AV.cells] using hc
  exact Flat.v _
 refine ECall.wk (JB Tryz.func103 rfl rfl ?_)
 refine Z ?_
 refine Jea rfl rfl (ECall.args (bs:= [.os 0 0 (fun _=> .any) none, .fn (.func 104) [] [.rp [.fm es]]]) Y2 (Jkc (Jra es hky) (fun xs hx=> ⟨by have:=hx.length_eq;simp at this;omega,fun v hv=> ?_⟩) nx)) fun r h' hq=> ?_
 ·obtain ⟨p,hp,rfl⟩:=List.mem_map.1 (hx.mem_iff.1 hv);exact hky p hp
 obtain ⟨xs,oi,nx',nn',hS,ho,rfl,rfl⟩:=hq
 refine Named.same ?_
 refine Z ?_
 exact Jad rfl ⟨_,_,Rf,HLe.refl _,xs.length,Jcs xs,oi,nx',_,⟨xs,hS,rfl,fun _ _=> rfl⟩,(fun h=> by rw [ho h];rfl),rfl,rfl⟩
def Jcy (z:List UInt8):AV:= .v (encStr z)
def JgS (s:Nat) (d:Array (List UInt8)) (tl:List AV):List (Vl.Id×Own):= [((0,s), .c (Jc1 Jcy d tl))]
theorem Jlb (l:List (List UInt8)):l.mergeSort (fun x y=> decide (x≤y))=Jan Go.Sort.ltStr l:=by
 unfold Jan
 congr 1
 funext x y
 simp only [Go.Sort.ltStr]
 by_cases h:x≤y
 ·rw [decide_eq_true h,decide_eq_false (List.not_lt.2 h)];rfl
 ·rw [decide_eq_false h,decide_eq_true (List.not_le.1 h)];rfl
theorem JiD:∀x y:List UInt8,Go.Sort.ltStr x y=false→Go.Sort.ltStr y x=false→x=y:=fun x y h1 h2=> by
 simp only [Go.Sort.ltStr,decide_eq_false_iff_not,List.not_lt] at h1 h2
 exact List.le_antisymm h2 h1
theorem JpC (d0:Array (List UInt8)) (tl:List AV) (n:Nat) (hn:d0.size=n) (hsz:n≤1000000) (s cap nx:Nat):
 ECall Tryz.prog 94 [.hs (0,s) 0 n cap] ⟨JgS s d0 tl, [],nx,1⟩ (fun r h'=> ∃nx' nn',h'=⟨JgS s (Jan Go.Sort.ltStr d0.toList).toArray tl, [],nx',nn'⟩):=by
 subst hn
 have h:=JjB (P:=Tryz.prog) (enc:=encStr) (d:=d0) (d':=(Jan Go.Sort.ltStr d0.toList).toArray) (tl:=tl) (nm:=0) (s:=s) (cap:=cap) (nx:=nx) (nn:=1) (f:=94) ⟨_,Tryz.func94,rfl,rfl⟩ (by simp [Jbw]) (fun w blk hH hb=> by
  have k:=AnyM.slices_Sort_string Tryz.laysM6k16 blk 0 cap d0.toList w hH hb (by simp;omega);rw [Jlb] at k;exact k)
 exact h.mono fun r h' ⟨_,h2⟩=> ⟨nx,1,h2⟩
theorem JpD (F:Nat→AV):Tells Tryz.prog 94 [.os 1 0 F none] (.tup []):=
 JjC (nx:=0) ⟨_,Tryz.func94,rfl,rfl⟩ fun p cap w=> AnyM.slices_Sort_string_none Tryz.laysM6k16 p cap w
def Jlc:Value→List UInt8
 | .string z=> z.data.toList
 | _=> []
theorem JnY (es:List (Value×AV)) (zs:List (List UInt8)) (hz:es.map (·.1)=zs.map encStr) (hl:es.length≤1000000):
 Tells Tryz.prog 52 [.fn (.func 104) [] [.rp [.fm es]]] (JF 1 Jcy [] (Jan Go.Sort.ltStr zs)):=by
 have hky:∀p∈es,∃z,p.1=encStr z:=fun p hp=> by
  have:p.1∈zs.map encStr:=hz ▸ List.mem_map_of_mem hp;obtain ⟨z,_,h⟩:=List.mem_map.1 this;exact ⟨z,h.symm⟩
 refine Jc Tryz.func52 rfl rfl fun nx=> ?_
 refine Z ?_
 refine Jea rfl rfl (Jl9 es hl (fun p hp=> let ⟨z,h⟩:=hky p hp;⟨⟨z.toArray⟩,h⟩) nx) fun r h' hq=> ?_
 obtain ⟨n,f,⟨xs,hxp,hxn,hxf⟩,hq⟩:=hq
 obtain ⟨ys,rfl⟩:∃ys:List (List UInt8),xs=ys.map encStr:=by
  have hall:∀v∈xs,∃z,v=encStr z:=fun v hv=> by
   have hv2:=hxp.mem_iff.1 hv;rw [hz] at hv2;obtain ⟨z,_,h⟩:=List.mem_map.1 hv2;exact ⟨z,h.symm⟩
  clear hxp hxn hxf hq
  induction xs with
  | nil=> exact ⟨[],rfl⟩
  | cons x xs ih=>
    obtain ⟨z,rfl⟩:=hall x Si;obtain ⟨ys,rfl⟩:=ih fun v hv=> hall v (by simp [hv]);exact ⟨z::ys,rfl⟩
 have hperm:ys.Perm zs:=by
  rw [hz] at hxp;have h2:=hxp.map Jlc
  rwa [List.map_map,List.map_map,show (Jlc∘encStr)=id from rfl,List.map_id,List.map_id] at h2
 have hsz:n≤1000000:=by
  have:=hxp.length_eq;simp at this;rw [hxn];simp;omega
 rcases hq with ⟨rfl,hb,hp,rfl⟩ | ⟨s,cap,more,nx',nn',hcap,hmore,rfl,rfl⟩
 ·have hys:ys= []:=by cases ys with | nil=> rfl | cons y ys=> simp at hxn
  subst hys;have hzs:zs= []:=hperm.symm.eq_nil;subst hzs;rw [show Jan Go.Sort.ltStr ([]:List (List UInt8))= [] from List.eq_nil_of_length_eq_zero Jbw];obtain ⟨bx,pm,nxx,nnn⟩:=h';dsimp only at hb hp;subst hb;subst hp;refine Named.same ?_;refine Z ?_;refine Ja rfl rfl (JpD f) Y1 fun nx2=> ?_;refine Z ?_;exact Jb rfl AVle.os_sl0
 ·refine Named.same ?_;have hcells:Jw n f=ys.toArray.toList.map Jcy:=by
   have key:∀m,m≤n→Jw m f=(ys.take m).map Jcy:=by
    intro m
    induction m with
    | zero=> intro _;rfl
    | succ m ih=>
      intro hm;have hm':m < ys.length:=(by simp at hxn;omega);have e:Jw (m+1) f=Jw m f++(f m).cells:=(by unfold Jw;rw [List.range_succ,List.flatMap_append];simp);rw [e,ih Om,hxf m Om,List.take_add_one,List.map_append];simp [Jcs,List.getD,hm',AV.cells,Jcy]
   rw [key n (Nat.le_refl _),List.take_of_length_le (by simp at hxn;omega)]
  have hnn:ys.toArray.size=n:=by simp at hxn;simp [hxn]
  rw [hcells];refine JE ?_;refine AW.le (E':=mk 9 [(3, .hs (0,s) 0 n cap)] ⟨JgS s ys.toArray (List.replicate more .any), [],nx',1⟩) (Es rfl rfl Y1) ?_;refine Z ?_;refine JH (xs:= [.hs (0,s) 0 n cap]) [] [] 1 rfl rfl rfl rfl Y1 (JpC ys.toArray _ n hnn hsz s cap _) Bf Pf rfl fun r h' hq=> ?_;obtain ⟨nx2,nn2,rfl⟩:=hq;have hd:(Jan Go.Sort.ltStr ys.toArray.toList).toArray.toList=Jan Go.Sort.ltStr zs:=by
   show Jan Go.Sort.ltStr ys=_;exact Jl2 Go.Sort.swo_ltStr JiD hperm
  generalize (Jan Go.Sort.ltStr ys.toArray.toList).toArray=d' at hd⊢;have hdn:d'.size=n:=by
   rw [← Array.length_toList,hd,Jbw,← hperm.length_eq];simpa using hnn
  have hln:(Jan Go.Sort.ltStr zs).length=n:=by rw [← hd];simpa using hdn
  refine JE ?_;refine AW.le (Jcw (L:= [(3,JF 1 Jcy [] (Jan Go.Sort.ltStr zs))]) (bx:= []) (pm:= []) (nn:=1) [((0,s), .c (Jc1 Jcy d' (List.replicate more .any)))] rfl rfl Sf .slnil ⟨?_,Tt⟩) ?_
  ·unfold JF;rw [hln];refine Frz.hs1 (.head _) hcap (by rw [JoP];omega) (fun k _=> rfl) (fun k hk=> ?_);unfold Jc1;rw [List.getElem?_append_left (by simpa [hdn] using hk),List.getElem?_map,← hd];have:k < d'.size:=by omega
   simp [List.getD,this]
  ·refine Z ?_;exact Jb rfl Rf
end Go.Proofs.W

namespace Go.Proofs.W
open Go.Vl
set_option maxRecDepth 100000
def JU (s t:ByteArray):Bool:=s.toList ==t.toList
theorem JbS {s t:ByteArray}:JU s t=true↔s=t:=by
 unfold JU
 rw [beq_iff_eq,Lib.toList_data,Lib.toList_data]
 constructor
 ·intro h;obtain ⟨⟨a⟩⟩:=s;obtain ⟨⟨b⟩⟩:=t;simpa using h
 ·rintro rfl;rfl
def JaN:List (ByteArray×List Rul)→ByteArray→List Rul
 | [],_=> []
 | h::H,s=> if JU s h.1 then h.2 else JaN H s
def Jdg:List (ByteArray×List Rul)→ByteArray→Rul→List (ByteArray×List Rul)
 | [],s,n=> [(s, [n])]
 | h::H,s,n=> if JU s h.1 then (h.1,h.2++ [n])::H else h::Jdg H s n
def Jc4 (H:List (ByteArray×List Rul)) (r:Rul):List (ByteArray×List Rul):=
 match Jav r with
 | none=> H
 | some n=> if Jc8 (JaN H r.name) n then H else Jdg H r.name n
def J4 (rs:List Rul):List (ByteArray×List Rul):=rs.foldl Jc4 []
theorem JnZ {rs:List Rul} {i:Nat} (h:i < rs.length):J4 (rs.take (i+1))=Jc4 (J4 (rs.take i)) (rs.getD i Jg):=by
 unfold J4;rw [Ja9 Jg h,List.foldl_append];rfl
def Ja8 (R:List Rul) (k:Nat):AV:=J7 (R.getD k Jg)
abbrev Grp:=ByteArray×List Rul×Nat
def gE (g:Grp):Value×AV:=(.string g.1, .os 4 g.2.1.length (Ja8 g.2.1) (some (g.2.2,g.2.2)))
def gF (g:Grp):Value×AV:=(.string g.1,JW g.2.1)
def gP (g:Grp):Vl.Id×Nat:=((g.2.2,g.2.2),g.2.1.length * 4)
def Jb6 (G:List Grp):List (ByteArray×List Rul):=G.map fun g=> (g.1,g.2.1)
theorem Jhd (G:List Grp):Ja4 .string (G.map gE)=true:=by simp [Ja4,gE,JaO]
theorem Jz7 (G:List Grp):Ja4 .string (G.map gF)=true:=by simp [Ja4,gF,JaO]
theorem Jld {s:ByteArray} {e:Grp→Value×AV} (he:∀g,(e g).1= .string g.1):∀ {G:List Grp},(∀g∈G,JU s g.1=false)→JaV (.string s) (G.map e)=none
 | [],_=> rfl
 | g::G,h=> by
   have h0:(s.toList ==g.1.toList)=false:=h g (.head _);show (bif JcV (.string s) (e g).1 then _ else JaV (.string s) (G.map e))=none;rw [he g];show (bif s.toList ==g.1.toList then _ else JaV (.string s) (G.map e))=none;rw [h0];exact Jld he fun g' hg=> h g' (.tail _ hg)
theorem Jkd {s:ByteArray} {e:Grp→Value×AV} (he:∀g,(e g).1= .string g.1) {l:List Rul} {st:Nat} {G2:List Grp}:∀ {G1:List Grp},(∀g∈G1,JU s g.1=false)→JaV (.string s) ((G1++(s,l,st)::G2).map e)=some (e (s,l,st)).2
 | [],_=> by
   show (bif JcV (.string s) (e (s,l,st)).1 then _ else _)=_;rw [he];show (bif s.toList ==s.toList then _ else _)=_;rw [beq_self_eq_true];rfl
 | g::G,h=> by
   have h0:(s.toList ==g.1.toList)=false:=h g (.head _);show (bif JcV (.string s) (e g).1 then _ else JaV (.string s) ((G++(s,l,st)::G2).map e))=_;rw [he g];show (bif s.toList ==g.1.toList then _ else _)=_;rw [h0];exact Jkd he fun g' hg=> h g' (.tail _ hg)
theorem Jei {s:ByteArray} {v:AV}:∀ {G:List Grp},(∀g∈G,JU s g.1=false)→JcJ (.string s) v (G.map gE)=G.map gE++ [(.string s,v)]
 | [],_=> rfl
 | g::G,h=> by
   have h0:(s.toList ==g.1.toList)=false:=h g (.head _);show (bif s.toList ==g.1.toList then _ else gE g::JcJ (.string s) v (G.map gE))=_;rw [h0,Jei fun g' hg=> h g' (.tail _ hg)];rfl
theorem Jr0 {s:ByteArray} {v:AV} {l:List Rul} {st:Nat} {G2:List Grp}:∀ {G1:List Grp},(∀g∈G1,JU s g.1=false)→JcJ (.string s) v ((G1++(s,l,st)::G2).map gE)=G1.map gE++(.string s,v)::G2.map gE
 | [],_=> by
   show (bif s.toList ==s.toList then _ else _)=_;rw [beq_self_eq_true];rfl
 | g::G,h=> by
   have h0:(s.toList ==g.1.toList)=false:=h g (.head _);show (bif s.toList ==g.1.toList then _ else gE g::JcJ (.string s) v ((G++(s,l,st)::G2).map gE))=_;rw [h0,Jr0 fun g' hg=> h g' (.tail _ hg)];rfl
theorem Jm3 {s:ByteArray}:∀ {G:List Grp},(∀g∈G,JU s g.1=false)→JaN (Jb6 G) s= []
 | [],_=> rfl
 | g::G,h=> by
   show (if JU s g.1=true then _ else JaN (Jb6 G) s)=_;rw [if_neg (by rw [h g (.head _)];decide)];exact Jm3 fun g' hg=> h g' (.tail _ hg)
theorem Jma {s:ByteArray} {l:List Rul} {st:Nat} {G2:List Grp}:∀ {G1:List Grp},(∀g∈G1,JU s g.1=false)→JaN (Jb6 (G1++(s,l,st)::G2)) s=l
 | [],_=> if_pos (JbS.2 rfl)
 | g::G,h=> by
   show (if JU s g.1=true then _ else JaN (Jb6 (G++_)) s)=_;rw [if_neg (by rw [h g (.head _)];decide)];exact Jma fun g' hg=> h g' (.tail _ hg)
theorem Jm4 {s:ByteArray} {n:Rul} {st:Nat}:∀ {G:List Grp},(∀g∈G,JU s g.1=false)→Jdg (Jb6 G) s n=Jb6 (G++ [(s, [n],st)])
 | [],_=> rfl
 | g::G,h=> by
   show (if JU s g.1=true then _ else _::Jdg (Jb6 G) s n)=_;rw [if_neg (by rw [h g (.head _)];decide),Jm4 (st:=st) fun g' hg=> h g' (.tail _ hg)];rfl
theorem Jr1 {s:ByteArray} {n:Rul} {l:List Rul} {st st':Nat} {G2:List Grp}:∀ {G1:List Grp},(∀g∈G1,JU s g.1=false)→Jdg (Jb6 (G1++(s,l,st)::G2)) s n=Jb6 (G1++(s,l++ [n],st')::G2)
 | [],_=> if_pos (JbS.2 rfl)
 | g::G,h=> by
   show (if JU s g.1=true then _ else _::Jdg (Jb6 (G++(s,l,st)::G2)) s n)=_;rw [if_neg (by rw [h g (.head _)];decide),Jr1 (st':=st') fun g' hg=> h g' (.tail _ hg)];rfl
theorem JiE (s:ByteArray):∀(G:List Grp),(∀g∈G,JU s g.1=false)∨∃G1 l st G2,G=G1++(s,l,st)::G2∧∀g∈G1,JU s g.1=false
 | []=> .inl Si
 | g::G=> by
   cases hk:JU s g.1 with
   | true=>
     obtain ⟨t,l,st⟩:=g;obtain rfl:s=t:=JbS.1 hk;exact .inr ⟨[],l,st,G,rfl,by simp⟩
   | false=>
     rcases JiE s G with h | ⟨G1,l,st,G2,rfl,h⟩
     ·exact .inl fun g' hg=> by rcases List.mem_cons.1 hg with rfl | hg;exact hk;exact h g' hg
     ·exact .inr ⟨g::G1,l,st,G2,rfl,fun g' hg=> by rcases List.mem_cons.1 hg with rfl | hg;exact hk;exact h g' hg⟩
theorem Jle {s:ByteArray} {l:List Rul} {st:Nat} {G2:List Grp}:∀ {G1:List Grp},((G1++(s,l,st)::G2).map (·.2.2)).Nodup→Jbb st ((G1++(s,l,st)::G2).map gP)=some (st,l.length * 4)
 | [],_=> by
   show (bif Nat.beq st st then _ else _)=_;rw [Nat.beq_refl];rfl
 | g::G,h=> by
   simp only [List.cons_append,List.map_cons,List.nodup_cons] at h;have h0:Nat.beq g.2.2 st=false:=by
    cases hb:Nat.beq g.2.2 st with
    | false=> rfl
    | true=> exact absurd (by simp [Nat.eq_of_beq_eq_true hb]) h.1
   show (bif Nat.beq g.2.2 st then _ else Jbb st ((G++(s,l,st)::G2).map gP))=_;rw [h0];exact Jle h.2
theorem JiF {s:ByteArray} {l:List Rul} {st:Nat} {G2:List Grp}:∀ {G1:List Grp},((G1++(s,l,st)::G2).map (·.2.2)).Nodup→Jbv st ((G1++(s,l,st)::G2).map gP)=(G1++G2).map gP
 | [],_=> by
   show (bif Nat.beq st st then _ else _)=_;rw [Nat.beq_refl];rfl
 | g::G,h=> by
   simp only [List.cons_append,List.map_cons,List.nodup_cons] at h;have h0:Nat.beq g.2.2 st=false:=by
    cases hb:Nat.beq g.2.2 st with
    | false=> rfl
    | true=> exact absurd (by simp [Nat.eq_of_beq_eq_true hb]) h.1
   show (bif Nat.beq g.2.2 st then _ else gP g::Jbv st ((G++(s,l,st)::G2).map gP))=_;rw [h0,JiF h.2];rfl
theorem MpLe.appK16:∀ {a b c d:List (Value×AV)},MpLe a b→MpLe c d→MpLe (a++c) (b++d)
 | [], [],_,_,_,h=> h
 | _::_,_::_,_,_,h,k=> ⟨h.1,h.2.1,MpLe.appK16 h.2.2 k⟩
 | [],_::_,_,_,h,_=> h.elim
 | _::_, [],_,_,h,_=> h.elim
theorem Jy6 {s:ByteArray} {n:Rul} {st:Nat} {v:AV} {G:List Grp} (h:∀g∈G,JU s g.1=false) (hv:AVle v (.os 4 1 (Ja8 [n]) (some (st,st)))):OwnLe (.mp (JcJ (.string s) v (G.map gE))) (.mp ((G++ [(s, [n],st)]).map gE)):=by
 rw [Jei h,List.map_append]
 exact MpLe.appK16 (MpLe.refl _) ⟨rfl,hv,Tt⟩
theorem JAH {s:ByteArray} {l l':List Rul} {st st':Nat} {v:AV} {G1 G2:List Grp} (h:∀g∈G1,JU s g.1=false) (hv:AVle v (.os 4 l'.length (Ja8 l') (some (st',st')))):OwnLe (.mp (JcJ (.string s) v ((G1++(s,l,st)::G2).map gE))) (.mp ((G1++(s,l',st')::G2).map gE)):=by
 rw [Jr0 h,List.map_append]
 exact MpLe.appK16 (MpLe.refl _) ⟨rfl,hv,MpLe.refl _⟩
theorem JvH:∀(G:List Grp),MpLe (G.map gE) (G.map gF)
 | []=> trivial
 | g::G=> ⟨rfl,AVle.os_sl,JvH G⟩
theorem JxA {P:Program} {c:Code} {E:Env} {Q:AExit→Env→Prop} (h:(E.h.pm.map (·.1.2)).Nodup→AW P c E Q):AW P c E Q:=by
 have h2:=h
 unfold AW at h2⊢
 intro ro X M w0 a w g g0 hg hs
 refine h2 ?_ ro X M w0 a w g g0 hg hs
 have:=hs.hok.nodup
 unfold Heap.ids at this
 rw [List.map_append] at this
 have h3:=(List.nodup_append.1 this).2.1
 have:((E.h.pm.map (·.1.2)).map (fun i=> g[i]?)).Nodup:=h3
 exact (List.pairwise_map.1 this).imp fun h e=> h (congrArg (fun i=> g[i]?) e)
theorem Jm5 {E:Env} {n:Nat} {bx:List (Vl.Id×Own)} {pm pm':List (Vl.Id×Nat)} {nx nn:Nat} {L:List (Nat×AV)} (bx':List (Vl.Id×Own)) (hn:E.n=n) (hx:E.h.nx=nx) (hb:bx'.Sublist E.h.bx) (hp:E.h.pm=pm') (hq:(pm.map (fun p=> (p.1.2,p.2))).Perm (pm'.map (fun p=> (p.1.2,p.2))))
 (eb:BxLe bx' bx) (hL:LeT E.t L):ELe E (mk n L ⟨bx,pm,nx,nn⟩ E.df):=by
 subst hp
 refine ELe.trans (Jh (bx:=bx) (pm:=E.h.pm) (nn:=nn) (L:=L) bx' E.h.pm hn hx hb Sf eb Pf hL) ?_
 exact Jdo (E:=mk n L ⟨bx,E.h.pm,nx,nn⟩ E.df) (h':=⟨bx,pm,nx,nn⟩) ⟨.refl _,hq,rfl⟩
theorem Jr2 {L:List Rul} {c:Rul} {f':Nat→AV} {i j:Vl.Id} (hf:f' 0=J7 c:=by rfl) (h:i.2=j.2:=by rfl):AVle (.os 4 (L.length+1) (JcD L.length (Ja8 L) f') (some i)) (.os 4 (L++ [c]).length (Ja8 (L++ [c])) (some j)):=by
 rw [List.length_append]
 refine (AVle.os_fun (JbW (fun k hk=> ?_) ?_)).trans (AVle.os_nm h)
 ·simp [Ja8,List.getD,List.getElem?_append_left hk,hk]
 ·rw [hf];simp [Ja8,List.getD]
def Jcp (d:A2) (l:List Rul):List Rul:=(l.reverse.dropWhile fun r=> decide (r.act=d)).reverse
def JcO (H:List (ByteArray×List Rul)):List (List UInt8):=Jan Go.Sort.ltStr (H.map fun h=> h.1.data.toList)
def JfB (d:A2) (H:List (ByteArray×List Rul)) (N:List (List UInt8)):List Rul:=N.flatMap fun nm=> Jcp d (JaN H ⟨nm.toArray⟩)
def Je (p:Pol):Pol:=⟨p.dflt,p.x32,JfB p.dflt (J4 p.rules) (JcO (J4 p.rules))⟩
def JAZ:Pol:=⟨(0,0),false, []⟩
def Joa (p:Pol):AV:=if Jaq p then .tup [polA (Je p),int 0] else .tup [polA JAZ,int 13]
theorem Jm6 {d:A2} {l:List Rul} {r:Rul}:Jcp d (l++ [r])=if r.act=d then Jcp d l else l++ [r]:=by
 unfold Jcp
 rw [List.reverse_append]
 show (List.dropWhile _ (r::l.reverse)).reverse=_
 by_cases h:r.act=d
 ·rw [List.dropWhile_cons,if_pos (by simpa using h),if_pos h]
 ·rw [List.dropWhile_cons,if_neg (by simpa using h),if_neg h];simp
theorem Jm7 {l:List Rul} {m:Nat} (h0:0 < m) (h:m≤l.length):l.take m=l.take (m - 1)++ [l.getD (m - 1) Jg]:=by
 obtain ⟨k,rfl⟩:∃k,m=k+1:=⟨m - 1,Om⟩
 exact Ja9 Jg Om
def Jd5:List AV:= [int 0,int 0,boolA false, .os 0 0 (fun _=> .any) none]
def JfC (p:Pol):List AV:= [int p.dflt.1,int p.dflt.2,boolA p.x32,JW p.rules]
theorem Jbt {p:Pol} (h:Jaq p=true):p.rules.length≤500∧∀r∈p.rules,r.conds.length≤6:=by
 unfold Jaq at h
 simp only [Bool.and_eq_true,decide_eq_true_eq,Bool.not_eq_true',List.any_eq_false] at h
 refine ⟨h.2.1,fun r hr=> ?_⟩
 have:Jai r=true:=by have:=h.2.2 r hr;simpa using this
 unfold Jai at this
 simp only [Bool.and_eq_true,decide_eq_true_eq] at this
 exact this.2.2.1
theorem Jbp {r n:Rul} (h:Jav r=some n):n.conds.length≤r.conds.length∧n.name=r.name∧n.act=r.act:=by
 unfold Jav at h
 split at h
 ·cases h
 ·cases h;exact ⟨Nat.le_trans (Jtw _ _) (JpA _),rfl,rfl⟩
theorem Jhe:Jbc Tryz.prog 86=true:=by kernel_rfl
theorem gc_rul:Tryz.prog.cellsOf 86=4:=by kernel_rfl
theorem Jhf:Tryz.prog.bytesOf 86=56:=by kernel_rfl
theorem Jy7 {s:ByteArray} {l:List Rul} {n:Rul} {st st' nm:Nat} {G1 G2:List Grp} (hnd:((G1++(s,l,st)::G2).map (·.2.2)).Nodup):
 (((G1++(s,l++ [n],st')::G2).map gP).map (fun p=> (p.1.2,p.2))).Perm ((((nm,st'),(l.length+1) * Tryz.prog.cellsOf 86)::Jbv st ((G1++(s,l,st)::G2).map gP)).map (fun p=> (p.1.2,p.2))):=by
 rw [JiF hnd,gc_rul,List.map_append,List.map_cons,List.map_append,List.map_append,List.map_cons,List.map_cons,List.map_append]
 refine List.perm_middle.trans (.of_eq ?_)
 simp [gP]
theorem Jje (r:Rul):(J7 r).cells.all Jb3=true:=rfl
theorem Jjf {R l:List Rul} {m:Nat} {i j:Vl.Id} (hm:m≤l.length) (h:i.2=j.2):AVle (.os 4 (R.length+m) (JcD R.length (Ja8 R) (Ja8 l)) (some i)) (.os 4 (R++l.take m).length (Ja8 (R++l.take m)) (some j)):=by
 rw [List.length_append,List.length_take,Nat.min_eq_left hm]
 refine (AVle.os_fun (fun k hk=> ?_)).trans (AVle.os_nm h)
 unfold JcD
 by_cases hk2:k < R.length
 ·rw [show Nat.blt k R.length=true from Nat.ble_eq_true_of_le hk2];simp [Ja8,List.getD,List.getElem?_append_left hk2]
 ·rw [show Nat.blt k R.length=false from by cases hb:Nat.blt k R.length with | false=> rfl | true=> exact absurd (Nat.le_of_ble_eq_true hb) Om];simp only [Ja8,List.getD,cond_false];rw [List.getElem?_append_right Om,List.getElem?_take,if_pos Om]
theorem Jfp {a b c d:List Rul} (h:a=b) (k:c=d):a++c=b++d:=by rw [h,k]
theorem JcT {a b:AV} {K:AV→Prop} (h:a=b) (hk:Jci b K):Jci a K:=h ▸ hk
theorem Jn0 (p:Pol) (hp:p.ok):Tells Tryz.prog 15 [polA p] (Joa p):=by
 have hr:=Jfb p hp
 cases hb:Jaq p with
 | false=>
   rw [hb] at hr;unfold Joa;rw [hb,if_neg Dc];refine Jc Tryz.func15 rfl rfl fun nx=> ?_;refine Z ?_;refine Ja rfl rfl hr Y1 fun nx2=> ?_;refine Z ?_;exact Jf rfl ⟨rfl,Tt⟩ (AVle.tups (cs:= [_,_]) ⟨AVle.ags (cs:= [_,_,_,_]) ⟨Rf,Rf,Rf,AVle.os_sl0,Tt⟩,Y1⟩)
 | true=>
   rw [hb] at hr;obtain ⟨hl,hc6⟩:=Jbt hb;unfold Joa;rw [hb,if_pos rfl];refine Jc Tryz.func15 rfl rfl fun nx=> ?_;refine Z ?_;refine Ja rfl rfl hr Y1 fun nx2=> ?_;refine Z ?_;refine Jm (fun y:Nat×List Grp×Nat=> mk 94 [(1, .bp (0,nx) 0),(2, .bp (1,nx+1) 0),(4, .om (2,nx2)),(19,JW p.rules),(20,int p.rules.length),(21,int y.1)] ⟨[((2,nx2), .mp (y.2.1.map gE)),((1,nx+1), .c Jd5),((0,nx), .c (JfC p))],y.2.1.map gP,y.2.2,3⟩)
    (fun y=> y.1≤p.rules.length∧Jb6 y.2.1=J4 (p.rules.take y.1)∧y.2.1.length≤y.1∧∀g∈y.2.1,g.2.1.length≤y.1∧∀r∈g.2.1,r.conds.length≤6) (fun y=> p.rules.length - y.1) ?_ ?_
   ·exact ⟨(0, [],nx2+1),⟨Nat.zero_le _,rfl,Nat.le_refl _,by simp⟩,Et rfl rfl Bf Tt Y6⟩
   ·rintro ⟨i,G,nx3⟩ ⟨h1,h2,h3,h4⟩;dsimp only at h1 h2 h3 h4;refine Z ?_;intro c g;cases c
    ·have g:=Jn g;try dsimp only at g
     have hi:i=p.rules.length:=(by omega);subst hi;rw [List.take_length] at h2;refine JE ?_;refine AW.le (E':=mk 94 [(1, .bp (0,nx) 0),(2, .bp (1,nx+1) 0),(4, .om (2,nx2))] ⟨[((2,nx2), .mp (G.map gF)),((1,nx+1), .c Jd5),((0,nx), .c (JfC p))], [],nx3,3⟩) (Jh _ [] rfl rfl Sf (List.nil_sublist _) ⟨rfl,JvH G,Bf⟩ Tt Y3) ?_;refine JaX (n:=94) (nx:=nx3) (nn:=3) (pm:= []) (bx:= [((1,nx+1), .c Jd5),((0,nx), .c (JfC p))]) (L:= [(1, .bp (0,nx) 0),(2, .bp (1,nx+1) 0),(4, .fm (G.map gF))]) (df:=some []) [((2,nx2), .mp (G.map gF))] rfl rfl rfl (.refl _) Sf ⟨Frz.refl _,Frz.refl _,Frz.om (.head _),Tt⟩ ?_;have hzs:(G.map gF).map (·.1)=(G.map fun g:Grp=> g.1.data.toList).map encStr:=by
      rw [List.map_map,List.map_map];rfl
     have hsort:=JnY (G.map gF) (G.map fun g:Grp=> g.1.data.toList) hzs (by rw [List.length_map];omega);have hkeys:JcO (J4 p.rules)=Jan Go.Sort.ltStr (G.map fun g:Grp=> g.1.data.toList):=by
      rw [← h2];unfold JcO Jb6;rw [List.map_map];rfl
     have hNl:(Jan Go.Sort.ltStr (G.map fun g:Grp=> g.1.data.toList)).length≤500:=(by rw [Jbw,List.length_map];omega);have hNm:∀z,z∈Jan Go.Sort.ltStr (G.map fun g:Grp=> g.1.data.toList)→∃g∈G,g.1.data.toList=z:=fun z hz=> by
      rw [JhF] at hz;obtain ⟨g,hg,h⟩:=List.mem_map.1 hz;exact ⟨g,hg,h⟩
     unfold Je;rw [hkeys,← h2];generalize Jan Go.Sort.ltStr (G.map fun g:Grp=> g.1.data.toList)=N at hsort hNl hNm⊢;refine Z ?_;intro c hc;subst hc;refine Z ?_;refine Ja rfl rfl (Jla (G.map gF)) Y1 fun nx4=> ?_;refine Z ?_;refine Ja rfl rfl hsort Y1 fun nx5=> ?_;refine Z ?_;refine Jm (fun y:Nat×List Rul×Option Nat×Nat=> mk 94 [(1, .bp (0,nx) 0),(2, .bp (1,nx+1) 0),(4, .fm (G.map gF)),(9, .bp (3,nx3) 0),(58,JF 1 Jcy [] N),(59,int N.length),(60,int y.1)] ⟨[((3,nx3), .c [int p.dflt.1,int p.dflt.2,boolA p.x32, .os 4 y.2.1.length (Ja8 y.2.1) (nmd y.2.2.1)]),((1,nx+1), .c Jd5),((0,nx), .c (JfC p))],J2 (nmd y.2.2.1) (y.2.1.length * 4),y.2.2.2,4⟩)
      (fun y=> y.1≤N.length∧(y.2.2.1=none→y.2.1= [])∧y.2.1=JfB p.dflt (Jb6 G) (N.take y.1)∧y.2.1.length≤y.1 * 500) (fun y=> N.length - y.1) ?_ ?_
     ·exact ⟨(0, [],none,nx5),⟨Nat.zero_le _,fun _=> rfl,rfl,Nat.zero_le _⟩,Et (pm:= []) (bx:= [((3,nx3), .c [int p.dflt.1,int p.dflt.2,boolA p.x32, .os 4 0 (Ja8 []) none]),((1,nx+1), .c Jd5),((0,nx), .c (JfC p))]) rfl rfl ⟨rfl,⟨Rf,Rf,Rf,AVle.os_nil,Tt⟩,Bf⟩ Tt Y7⟩
     ·rintro ⟨j,R,oi,nx6⟩ ⟨k1,k2,k3,k4⟩;dsimp only at k1 k2 k3 k4;refine Z ?_;intro c gg;cases c
      ·have gg:=Jn gg;try dsimp only at gg
       have hj:j=N.length:=(by omega);subst hj;rw [List.take_length] at k3;rw [← k3];refine Z ?_;exact Jf rfl ⟨rfl,Tt⟩ (AVle.tups (cs:= [_,_]) ⟨AVle.ags (cs:= [_,_,_,_]) ⟨Rf,Rf,Rf,AVle.os_sl,Tt⟩,Y1⟩)
      ·have gg:=Jo gg;try dsimp only at gg
       have hj:j < N.length:=(by omega);have hNj:N.getD j []∈N:=(by simp [List.getD,hj]);rcases JiE ⟨(N.getD j []).toArray⟩ G with hno | ⟨G1,l,st,G2,hG,hno⟩
       ·exfalso
        obtain ⟨g,hg,hge⟩:=hNm _ hNj;have:=hno g hg;rw [Bool.eq_false_iff] at this;exact this (JbS.2 (by rw [← hge]))
       have hlk:=Jkd (e:=gF) (fun _=> rfl) (l:=l) (st:=st) (G2:=G2) hno;have hgl:=(h4 (⟨(N.getD j []).toArray⟩,l,st) (by rw [hG];simp)).1;dsimp only at hgl;have hgg:JaN (Jb6 G) ⟨(N.getD j []).toArray⟩=l:=(by rw [hG];exact Jma hno);have hout:JfB p.dflt (Jb6 G) (N.take (j+1))=JfB p.dflt (Jb6 G) (N.take j)++Jcp p.dflt l:=by
        unfold JfB;rw [Ja9 [] hj,List.flatMap_append];simp only [List.flatMap_cons,List.flatMap_nil,List.append_nil];rw [hgg]
       rw [← hG] at hlk;refine Z ?_;refine ⟨Bd, ?_⟩;refine Jby ?_;refine ⟨Jz7 G,Ji (b:=JW l) (congrArg (fun o:Option AV=> o.getD (.os 0 0 (fun _=> .any) none)) hlk) ?_⟩;refine Jby ?_;refine Jm (fun y:Nat×Nat=> mk 94 [(1, .bp (0,nx) 0),(2, .bp (1,nx+1) 0),(4, .fm (G.map gF)),(9, .bp (3,nx3) 0),(58,JF 1 Jcy [] N),(59,int N.length),(60,int j),(12, .sl 4 y.1 (Ja8 l))] ⟨[((3,nx3), .c [int p.dflt.1,int p.dflt.2,boolA p.x32, .os 4 R.length (Ja8 R) (nmd oi)]),((1,nx+1), .c Jd5),((0,nx), .c (JfC p))],J2 (nmd oi) (R.length * 4),nx6,4⟩)
        (fun y=> y.1≤l.length∧Jcp p.dflt l=Jcp p.dflt (l.take y.1)) (fun y=> y.1) ?_ ?_
       ·exact ⟨(l.length,0),⟨Nat.le_refl _,by rw [List.take_length]⟩,Et rfl rfl Bf Pf Y8⟩
       ·rintro ⟨m,zz⟩ ⟨hml,hcut⟩;dsimp only at hml hcut;have hlm:(l.take m).length=m:=(by rw [List.length_take];omega);by_cases hm0:0 < m
        ·have hd:decide ((m:Int) > 0)=true:=decide_eq_true Om;have hm1:IntKind.i64.wrap ((m:Int) - 1)=((m - 1:Nat):Int):=(by rw [JaE Om Om];omega);rw [Jm7 hm0 hml,Jm6] at hcut;refine Z ?_
         (refine JL 15 Kr Kr Kr ?_)
         refine Z ?_
         (conv=> whnf)
         refine Jfl hd ?_;refine Z ?_;refine ⟨⟨Jdb (i:=m - 1) hm1,Jdt (i:=m - 1) hm1 Om⟩,Ji (b:= .rp (J7 (l.getD (m - 1) Jg)).cells) (congrArg (fun z:Int=> AV.rp (Ja8 l z.toNat).cells) hm1) ?_⟩;refine Z ?_;intro c hc;have hc2:c=decide ((l.getD (m - 1) Jg).act=p.dflt):=hc.trans JyT;clear hc;cases c
         ·have hne:¬(l.getD (m - 1) Jg).act=p.dflt:=of_decide_eq_false hc2.symm;rw [if_neg hne,← Jm7 hm0 hml] at hcut;have hct:=hcut;clear hc2;refine JE ?_;refine JI (Ef [0]) 4 ?_;refine Z ?_;rcases oi with _ | o1
          ·obtain rfl:=k2 rfl;refine AOp.any (Jcv (e:=86) (n:=0) (oi:=none) (sz:=4) (f:=Ja8 []) (m:=m) (szx:=4) (f':=Ja8 l) rfl rfl (.inl rfl) Tryz.underlying50 Jhe (.inl ⟨rfl,rfl⟩) (.inr gc_rul.symm) (fun i h=> by cases h) (fun k _=> Jje _) (fun _=> by rw [Jhf];omega) (fun _=> by omega) (fun hm=> ?_) (fun hm=> ?_))
           ·subst hm;refine Z ?_;exact back (j+1, [],none,nx6) ⟨hj,fun _=> rfl,by rw [hout];exact (List.append_nil _).symm.trans (Jfp k3 hct.symm),Dm⟩ Dm (Et rfl rfl Bf Tt ⟨Rf,Rf,Rf,Rf,Rf,Rf,Lw,Tt⟩)
           ·refine Z ?_;exact back (j+1,l.take m,some nx6,nx6+1) ⟨hj,(fun h=> by cases h),by rw [hout];exact Jfp k3 hct.symm,by dsimp only;rw [hlm];omega⟩ Dm (Et (pm:= [((0,nx6),(l.take m).length * 4)]) (bx:= [((3,nx3), .c [int p.dflt.1,int p.dflt.2,boolA p.x32, .os 4 (l.take m).length (Ja8 (l.take m)) (some (0,nx6))]),((1,nx+1), .c Jd5),((0,nx), .c (JfC p))]) rfl rfl ⟨rfl,⟨Rf,Rf,Rf,Jjf (R:= []) hml rfl,Tt⟩,Bf⟩ ⟨rfl,show (0+m) * Tryz.prog.cellsOf 86=(l.take m).length * 4 by rw [hlm,gc_rul,Nat.zero_add],Tt⟩ ⟨Rf,Rf,Rf,Rf,Rf,Rf,Lw,Tt⟩)
          ·refine AOp.any (Jcv (e:=86) (n:=R.length) (oi:=some (0,o1)) (sz:=4) (f:=Ja8 R) (m:=m) (szx:=4) (f':=Ja8 l) rfl rfl (.inl rfl) Tryz.underlying50 Jhe (.inr gc_rul.symm) (.inr gc_rul.symm) (fun i h=> by cases h;rw [gc_rul];rfl) (fun k _=> Jje _) (fun _=> by rw [Jhf];omega) (fun _=> by omega) (fun hm=> ?_) (fun hm=> ?_))
           ·subst hm;refine Z ?_;exact back (j+1,R,some o1,nx6) ⟨hj,(fun h=> by cases h),by rw [hout];exact (List.append_nil _).symm.trans (Jfp k3 hct.symm),Dm⟩ Dm (Et rfl rfl Bf Pf ⟨Rf,Rf,Rf,Rf,Rf,Rf,Lw,Tt⟩)
           ·refine Z ?_;exact back (j+1,R++l.take m,some nx6,nx6+1) ⟨hj,(fun h=> by cases h),by rw [hout];exact Jfp k3 hct.symm,by dsimp only;rw [List.length_append,hlm];omega⟩ Dm (Et (pm:= [((0,nx6),(R++l.take m).length * 4)]) (bx:= [((3,nx3), .c [int p.dflt.1,int p.dflt.2,boolA p.x32, .os 4 (R++l.take m).length (Ja8 (R++l.take m)) (some (0,nx6))]),((1,nx+1), .c Jd5),((0,nx), .c (JfC p))]) rfl rfl ⟨rfl,⟨Rf,Rf,Rf,Jjf hml rfl,Tt⟩,Bf⟩ ⟨rfl,by rw [List.length_append,hlm,gc_rul],Tt⟩ ⟨Rf,Rf,Rf,Rf,Rf,Rf,Lw,Tt⟩)
         ·have heq:(l.getD (m - 1) Jg).act=p.dflt:=of_decide_eq_true hc2.symm;rw [if_pos heq] at hcut;clear hc2;refine Z ?_;refine ⟨⟨Jdb (i:=m - 1) hm1,Int.le_of_lt (Jdt (i:=m - 1) hm1 Om)⟩, ?_⟩;refine Z ?_;exact back (m - 1,0) ⟨Dm,hcut⟩ Dm (Et rfl rfl Bf Pf ⟨Rf,Rf,Rf,Rf,Rf,Rf,Rf,AVle.of_eq (congrArg (fun z:Int=> AV.sl 4 z.toNat (Ja8 l)) hm1),Tt⟩)
        ·have hd:decide ((m:Int) > 0)=false:=decide_eq_false Om;have hm00:m=0:=(by omega);have hct:Jcp p.dflt l=l.take m:=(by rw [hcut,hm00];rfl);refine Z ?_
         (refine JL 15 Kr Kr Kr ?_)
         refine Z ?_
         (conv=> whnf)
         refine Jfl hd ?_;refine JE ?_;refine JI (Ef [0]) 4 ?_;refine Z ?_;rcases oi with _ | o1
         ·obtain rfl:=k2 rfl;refine AOp.any (Jcv (e:=86) (n:=0) (oi:=none) (sz:=4) (f:=Ja8 []) (m:=m) (szx:=4) (f':=Ja8 l) rfl rfl (.inl rfl) Tryz.underlying50 Jhe (.inl ⟨rfl,rfl⟩) (.inr gc_rul.symm) (fun i h=> by cases h) (fun k _=> Jje _) (fun _=> by rw [Jhf];omega) (fun _=> by omega) (fun hm=> ?_) (fun hm=> ?_))
          ·subst hm;refine Z ?_;exact back (j+1, [],none,nx6) ⟨hj,fun _=> rfl,by rw [hout];exact (List.append_nil _).symm.trans (Jfp k3 hct.symm),Dm⟩ Dm (Et rfl rfl Bf Tt ⟨Rf,Rf,Rf,Rf,Rf,Rf,Lw,Tt⟩)
          ·refine Z ?_;exact back (j+1,l.take m,some nx6,nx6+1) ⟨hj,(fun h=> by cases h),by rw [hout];exact Jfp k3 hct.symm,by dsimp only;rw [hlm];omega⟩ Dm (Et (pm:= [((0,nx6),(l.take m).length * 4)]) (bx:= [((3,nx3), .c [int p.dflt.1,int p.dflt.2,boolA p.x32, .os 4 (l.take m).length (Ja8 (l.take m)) (some (0,nx6))]),((1,nx+1), .c Jd5),((0,nx), .c (JfC p))]) rfl rfl ⟨rfl,⟨Rf,Rf,Rf,Jjf (R:= []) hml rfl,Tt⟩,Bf⟩ ⟨rfl,show (0+m) * Tryz.prog.cellsOf 86=(l.take m).length * 4 by rw [hlm,gc_rul,Nat.zero_add],Tt⟩ ⟨Rf,Rf,Rf,Rf,Rf,Rf,Lw,Tt⟩)
         ·refine AOp.any (Jcv (e:=86) (n:=R.length) (oi:=some (0,o1)) (sz:=4) (f:=Ja8 R) (m:=m) (szx:=4) (f':=Ja8 l) rfl rfl (.inl rfl) Tryz.underlying50 Jhe (.inr gc_rul.symm) (.inr gc_rul.symm) (fun i h=> by cases h;rw [gc_rul];rfl) (fun k _=> Jje _) (fun _=> by rw [Jhf];omega) (fun _=> by omega) (fun hm=> ?_) (fun hm=> ?_))
          ·subst hm;refine Z ?_;exact back (j+1,R,some o1,nx6) ⟨hj,(fun h=> by cases h),by rw [hout];exact (List.append_nil _).symm.trans (Jfp k3 hct.symm),Dm⟩ Dm (Et rfl rfl Bf Pf ⟨Rf,Rf,Rf,Rf,Rf,Rf,Lw,Tt⟩)
          ·refine Z ?_;exact back (j+1,R++l.take m,some nx6,nx6+1) ⟨hj,(fun h=> by cases h),by rw [hout];exact Jfp k3 hct.symm,by dsimp only;rw [List.length_append,hlm];omega⟩ Dm (Et (pm:= [((0,nx6),(R++l.take m).length * 4)]) (bx:= [((3,nx3), .c [int p.dflt.1,int p.dflt.2,boolA p.x32, .os 4 (R++l.take m).length (Ja8 (R++l.take m)) (some (0,nx6))]),((1,nx+1), .c Jd5),((0,nx), .c (JfC p))]) rfl rfl ⟨rfl,⟨Rf,Rf,Rf,Jjf hml rfl,Tt⟩,Bf⟩ ⟨rfl,by rw [List.length_append,hlm,gc_rul],Tt⟩ ⟨Rf,Rf,Rf,Rf,Rf,Rf,Lw,Tt⟩)
    ·have g:=Jo g;try dsimp only at g
     have hi:i < p.rules.length:=(by omega);have hmem:p.rules.getD i Jg∈p.rules:=(by simp [List.getD,hi]);have hrs:=Jq9 (p.rules.getD i Jg) (hp.2 _ hmem).2.2 (by have:=hc6 _ hmem;omega);have hgn:=JnZ hi;have hnl:=hc6 _ hmem;rw [← h2] at hgn;refine JxA fun hnd=> ?_;have hnd:(G.map (·.2.2)).Nodup:=by
      have:((G.map gP).map (·.1.2)).Nodup:=hnd
      rwa [List.map_map] at this
     refine Z ?_;refine ⟨Bd, ?_⟩;refine Z ?_;cases hN:Jav (p.rules.getD i Jg) with
     | none=>
       rw [hN] at hrs;have hgn:J4 (p.rules.take (i+1))=Jb6 G:=(by rw [hgn];unfold Jc4;rw [hN]);refine Ja rfl rfl hrs Y1 fun nx4=> ?_;refine Z ?_;exact back (i+1,G,nx4+1) ⟨hi,hgn.symm,Dm,fun g hg=> ⟨by have:=(h4 g hg).1;dsimp only;omega,(h4 g hg).2⟩⟩ Dm (Jh _ _ rfl rfl (.cons _ (.cons _ Sf)) Sf Bf Pf ⟨Rf,Rf,Rf,Rf,Rf,Lw,Tt⟩)
     | some n=>
       rw [hN] at hrs;obtain ⟨hn1,hn2,hn3⟩:=Jbp hN;rcases JiE (p.rules.getD i Jg).name G with hno | ⟨G1,l,st,G2,hG,hno⟩
       ·have hgn:J4 (p.rules.take (i+1))=Jdg (Jb6 G) (p.rules.getD i Jg).name n:=by
         rw [hgn];unfold Jc4;rw [hN];dsimp only;rw [Jm3 hno];rfl
        have hlk:=Jld (e:=gE) (fun _=> rfl) hno;have hhd:=JjJ [] n Dc Si;refine Ja rfl rfl hrs Y1 fun nx4=> ?_;refine Jby ?_;refine ⟨⟨rfl,Jhd G⟩,Ji (b:= .os 0 0 (fun _=> .any) none) (congrArg (fun o:Option AV=> o.getD (.os 0 0 (fun _=> .any) none)) hlk) ?_⟩;refine Jby ?_;refine Ji (b:=J7 n) rfl ?_;refine Jby ?_;refine Ja rfl rfl hhd ⟨AVle.os_sl0,Y1⟩ fun nx5=> ?_;intro c hc;have hc2:c=false:=hc;clear hc;subst hc2;refine Jby ?_;refine Jaf 10 _ (Ef [9]) (Ef [6]) [0,1,2,3,4,5,6,7,8,9] Kr Kr (HB.refl _) ?_;refine Jby ?_;refine ⟨Jeu (JaV (.string (p.rules.getD i Jg).name) (G.map gE)) (.os 0 0 (fun _=> .any) none) false,JfI rfl (C:=some (nx2=nx2∧Ja4 .string (G.map gE)=true)) rfl ⟨rfl,Jhd G⟩,JcT (b:= .os 0 0 (fun _=> .any) none) (congrArg (fun o:Option AV=> o.getD (.os 0 0 (fun _=> .any) none)) hlk) ?_⟩;refine Jby ?_;refine JcT (b:=J7 n) rfl ?_;refine Jby ?_;refine ⟨_,JkH (e:=86) (n:=0) (oi:=none) (sz:=0) (f:=fun _=> .any) (m:=1) (szx:=4) (HB.refl _) rfl rfl rfl (.inr ⟨_,rfl⟩) Tryz.underlying50 Jhe (.inl ⟨rfl,rfl⟩) (.inr gc_rul.symm) (fun i h=> by cases h) (JG rfl) (fun _=> by rw [Jhf];omega) (fun _=> by omega),fun r h' hr=> ?_⟩;rcases hr with ⟨hr,-⟩ | ⟨-,rfl,rfl⟩
        ·exact absurd hr Dc
        refine Jby ?_;refine ⟨⟨rfl,Jhd G⟩, ?_⟩;refine Jby ?_;refine Jex ?_;refine Jby ?_;exact back (i+1,G++ [((p.rules.getD i Jg).name, [n],nx5)],nx5+1) ⟨hi,(hgn.trans (Jm4 hno)).symm,by simp;omega,fun g hg=> by
         rcases List.mem_append.1 hg with hg | hg
         ·exact ⟨by have:=(h4 g hg).1;dsimp only;omega,(h4 g hg).2⟩
         ·rw [List.mem_singleton.1 hg];exact ⟨by simp, fun r hr => by rw [List.mem_singleton.1 hr]; omega⟩⟩ Dm (Jm5 (bx := [((2, nx2), .mp ((G ++ [((p.rules.getD i Jg).name, [n], nx5)]).map gE)), ((1, nx + 1), .c Jd5), ((0, nx), .c (JfC p))]) _ rfl rfl (.cons _ (.cons _ Sf)) rfl (by rw [List.map_append]; exact (List.perm_append_singleton _ _).map _ |>.trans (.of_eq (by rw [gc_rul]; rfl))) ⟨rfl, Jy6 hno (Jr2 (L := [])), Bf⟩ ⟨Rf, Rf, Rf, Rf, Rf, Lw, Tt⟩)
       ·subst hG;have hlk:=Jkd (e:=gE) (fun _=> rfl) (l:=l) (st:=st) (G2:=G2) hno;have hgl:=h4 ((p.rules.getD i Jg).name,l,st) Si;dsimp only at hgl;have hhd:=JjJ l n Om (fun r hr=> by have:=hgl.2 r hr;omega);have hgg:JaN (Jb6 (G1++((p.rules.getD i Jg).name,l,st)::G2)) (p.rules.getD i Jg).name=l:=Jma hno;unfold Jc4 at hgn;rw [hN] at hgn;dsimp only at hgn;rw [hgg] at hgn;refine Ja rfl rfl hrs Y1 fun nx4=> ?_;refine Jby ?_;refine ⟨⟨rfl,Jhd _⟩,Ji (b:= .os 4 l.length (Ja8 l) (some (st,st))) (congrArg (fun o:Option AV=> o.getD (.os 0 0 (fun _=> .any) none)) hlk) ?_⟩;refine Jby ?_;refine Ji (b:=J7 n) rfl ?_;refine Jby ?_;refine Ja rfl rfl hhd ⟨AVle.os_sl,Y1⟩ fun nx5=> ?_;intro c hh;cases c
        ·have hh:Jc8 l n=false:=hh.symm;rw [hh,if_neg Dc] at hgn;refine Jby ?_;refine Jaf 10 _ (Ef [9]) (Ef [6]) [0,1,2,3,4,5,6,7,8,9] Kr Kr (HB.refl _) ?_;refine Jby ?_;refine ⟨Jeu (JaV (.string (p.rules.getD i Jg).name) ((G1++((p.rules.getD i Jg).name,l,st)::G2).map gE)) (.os 0 0 (fun _=> .any) none) false,JfI rfl (C:=some (nx2=nx2∧Ja4 .string ((G1++((p.rules.getD i Jg).name,l,st)::G2).map gE)=true)) rfl ⟨rfl,Jhd _⟩,JcT (b:= .os 4 l.length (Ja8 l) (some (st,st))) (congrArg (fun o:Option AV=> o.getD (.os 0 0 (fun _=> .any) none)) hlk) ?_⟩;refine Jby ?_;refine JcT (b:=J7 n) rfl ?_;refine Jby ?_;refine ⟨_,JkH (e:=86) (n:=l.length) (oi:=some (st,st)) (sz:=4) (f:=Ja8 l) (m:=1) (szx:=4) (HB.refl _) rfl rfl rfl (.inr ⟨_,rfl⟩) Tryz.underlying50 Jhe (.inr gc_rul.symm) (.inr gc_rul.symm) (fun i h=> by cases h;rw [gc_rul];exact Jle hnd) (JG rfl) (fun _=> by rw [Jhf];omega) (fun _=> by omega),fun r h' hr=> ?_⟩;rcases hr with ⟨hr,-⟩ | ⟨-,rfl,rfl⟩
         ·exact absurd hr Dc
         refine Jby ?_;refine ⟨⟨rfl,Jhd _⟩, ?_⟩;refine Jby ?_;refine Jex ?_;refine Jby ?_;exact back (i+1,G1++((p.rules.getD i Jg).name,l++ [n],nx5)::G2,nx5+1) ⟨hi,(hgn.trans (Jr1 hno)).symm,by simp at h3⊢;omega,fun g hg=> by
          rcases List.mem_append.1 hg with hg | hg
          ·have:=h4 g (List.mem_append_left _ hg);exact ⟨by have:=this.1;dsimp only;omega,this.2⟩
          ·rcases List.mem_cons.1 hg with rfl | hg
           ·exact ⟨by simp;omega,fun r hr=> by
             rcases List.mem_append.1 hr with hr | hr
             ·exact hgl.2 r hr
             ·rw [List.mem_singleton.1 hr];omega⟩
           ·have:=h4 g (List.mem_append_right _ (.tail _ hg));exact ⟨by have:=this.1;dsimp only;omega,this.2⟩⟩ Dm (Jm5 (bx:= [((2,nx2), .mp ((G1++((p.rules.getD i Jg).name,l++ [n],nx5)::G2).map gE)),((1,nx+1), .c Jd5),((0,nx), .c (JfC p))]) _ rfl rfl (.cons _ (.cons _ Sf)) rfl (Jy7 hnd) ⟨rfl,JAH hno Jr2,Bf⟩ ⟨Rf,Rf,Rf,Rf,Rf,Lw,Tt⟩)
        ·have hh:Jc8 l n=true:=hh.symm;rw [hh,if_pos rfl] at hgn;refine Jby ?_;exact back (i+1,G1++((p.rules.getD i Jg).name,l,st)::G2,nx5) ⟨hi,hgn.symm,Dm,fun g hg=> ⟨by have:=(h4 g hg).1;dsimp only;omega,(h4 g hg).2⟩⟩ Dm (Jh _ _ rfl rfl (.cons _ (.cons _ Sf)) Sf Bf Pf ⟨Rf,Rf,Rf,Rf,Rf,Lw,Tt⟩)
theorem JjK (c:Cnd):(JN c).2=0∨(JN c).2=1∨(JN c).2=2:=by
 unfold JN JaF JaC Jba Jc2 isC asC
 repeat' split
 all_goals simp
theorem JxB {c:Cnd} (ho:c.ok):(JN c).1.ok:=by
 obtain ⟨o1,o2⟩:=ho
 unfold JN JaF JaC Jba Jc2 isC asC cnd0 Cnd.ok
 repeat' split
 all_goals (refine ⟨?_, ?_⟩ <;> dsimp only <;> omega)
theorem Jm8 {α:Type} {R:α→α→Prop} (hi:∀x,¬R x x) (ht:∀x y z,R x y→R y z→R x z):∀ {l l':List α},l.Pairwise R→l'.Pairwise R→(∀x,x∈l↔x∈l')→l=l'
 | [], [],_,_,_=> rfl
 | [],y::l',_,_,h=> absurd ((h y).2 (.head _)) Si
 | x::l, [],_,_,h=> absurd ((h x).1 (.head _)) Si
 | x::l,y::l',h1,h2,h=> by
   rw [List.pairwise_cons] at h1 h2;have hxy:x=y:=by
    rcases List.mem_cons.1 ((h x).1 (.head _)) with e | e
    ·exact e
    ·rcases List.mem_cons.1 ((h y).2 (.head _)) with e' | e'
     ·exact e'.symm
     ·exact absurd (ht _ _ _ (h1.1 _ e') (h2.1 _ e)) (hi x)
   subst hxy;have hnx:∀ {m:List α},(∀z∈m,R x z)→x∉m:=fun hm hx=> hi x (hm x hx);rw [Jm8 hi ht h1.2 h2.2 fun z=> ?_]
   constructor
   ·intro hz;rcases List.mem_cons.1 ((h z).1 (.tail _ hz)) with e | e
    ·subst e;exact absurd hz (hnx h1.1)
    ·exact e
   ·intro hz;rcases List.mem_cons.1 ((h z).2 (.tail _ hz)) with e | e
    ·subst e;exact absurd hz (hnx h2.1)
    ·exact e
def RC (a b:Cnd):Prop:=ltC a b=true
theorem Jz8 (x:Cnd):¬RC x x:=by unfold RC;rw [swo_ltC.irrefl];decide
theorem JAI (x y z:Cnd) (h:RC x y) (k:RC y z):RC x z:=swo_ltC.trans x y z h k
theorem Jr3 {d:Array Cnd}:∀ {m:Nat},m≤d.size→(∀i j,i < j→j < m→ltC d[j]! d[i]! =false)→(cU d m).Pairwise RC∧∀x,x∈cU d m↔∃j,j < m∧d[j]! =x
 | 0,_,_=> ⟨List.Pairwise.nil,fun x=> by simp [cU]⟩
 | m+1,hm,hs=> by
   obtain ⟨h1,h2⟩:=Jr3 (m:=m) Om fun i j a b=> hs i j a Om;by_cases hc:m=0∨d[m]! ≠d[m - 1]!
   ·rw [cU,if_pos hc];refine ⟨?_,fun x=> ?_⟩
    ·rw [List.pairwise_append];refine ⟨h1,List.pairwise_singleton _ _,fun a ha b hb=> ?_⟩;rw [List.mem_singleton] at hb;subst hb;obtain ⟨j,hj,rfl⟩:=(h2 a).1 ha;cases hlt:ltC d[j]! d[m]! with
     | true=> exact hlt
     | false=>
       exfalso
       have h3:=hs (m - 1) m Om Om;have h4:ltC d[m - 1]! d[m]! =false:=by
        rcases Nat.lt_or_ge j (m - 1) with q | q
        ·exact swo_ltC.ntrans _ _ _ (hs j (m - 1) q Om) hlt
        ·rw [show m - 1=j by omega];exact hlt
       rcases hc with hc | hc
       ·omega
       ·exact hc (Jy4 h3 h4)
    ·rw [List.mem_append,h2,List.mem_singleton]
     constructor
     ·rintro (⟨j,hj,rfl⟩ | rfl)
      ·exact ⟨j,Om,rfl⟩
      ·exact ⟨m,Om,rfl⟩
     ·rintro ⟨j,hj,rfl⟩;rcases Nat.lt_or_ge j m with q | q
      ·exact .inl ⟨j,q,rfl⟩
      ·exact .inr (by rw [show j=m by omega])
   ·rw [cU,if_neg hc];refine ⟨h1,fun x=> ?_⟩;rw [h2]
    constructor
    ·rintro ⟨j,hj,rfl⟩;exact ⟨j,Om,rfl⟩
    ·rintro ⟨j,hj,rfl⟩;rcases Nat.lt_or_ge j m with q | q
     ·exact ⟨j,q,rfl⟩
     ·have hj':j=m:=(by omega);subst hj';have:j≠0:=fun h=> hc (.inl h);exact ⟨j - 1,Om,by by_cases he:d[j]! =d[j - 1]!;exact he.symm;exact absurd (.inr he) hc⟩
theorem Jcf (L:List Cnd):(Jdf L).Pairwise RC∧∀x,x∈Jdf L↔x∈L:=by
 have h:=Go.Sort.insertionSort_holds (lt:=ltC) swo_ltC L.toArray 0 L.length (Nat.zero_le _) Si
 have hsz:(Go.Sort.insertionSort ltC L.toArray 0 L.length).size=L.length:=by have:=h.1.1;simpa using this
 obtain ⟨h1,h2⟩:=Jr3 (d:=Go.Sort.insertionSort ltC L.toArray 0 L.length) (m:=L.length) Om fun i j a b=> h.2 i j (Nat.zero_le _) a b
 refine ⟨h1,fun x=> (h2 x).trans ?_⟩
 have hp:=h.1.2.2.mem_iff (a:=x)
 clear h h1 h2
 generalize Go.Sort.insertionSort ltC L.toArray 0 L.length=d at hsz hp⊢
 have e1:(d.extract 0 L.length).toList=d.toList:=by rw [← hsz];simp
 have e2:(L.toArray.extract 0 L.length).toList=L:=by simp
 rw [e1,e2] at hp
 rw [← hp,List.mem_iff_getElem]
 constructor
 ·rintro ⟨j,hj,rfl⟩;have hj':j < d.size:=by omega
  exact ⟨j,by simpa using hj',by simp [hj']⟩
 ·rintro ⟨j,hj,rfl⟩;have hj':j < d.size:=by simpa using hj
  exact ⟨j,Om,by simp [hj']⟩
theorem Jy8 {L L':List Cnd} (h:∀x,x∈L↔x∈L'):Jdf L=Jdf L':=
 Jm8 Jz8 JAI (Jcf L).1 (Jcf L').1 fun x=> ((Jcf L).2 x).trans ((h x).trans ((Jcf L').2 x).symm)
theorem JvI (L:List Cnd):Jdf (Jdf L)=Jdf L:=Jy8 fun x=> (Jcf L).2 x
theorem Jdy {arg:Int} {op:Int} {v:Nat} (h0:0≤arg) (h5:arg≤5) (h1:1≤op) (h7:op≤7):rightC ⟨arg,op,0,v⟩=true:=JX.2 ⟨h0,h5,h1,h7, .inr rfl⟩
theorem Jmb {arg:Int} {v:Nat} (h0:0≤arg) (h5:arg≤5):JN ⟨arg,1,0,v⟩=(⟨arg,1,0,v⟩,0):=by
 unfold JN;rw [if_pos (Jdy h0 h5 Dc Dc)];simp [JaF]
theorem Jy9 {arg:Int} {v:Nat} (h0:0≤arg) (h5:arg≤5) (hv:¬v=0) (hv1:¬v=1):JN ⟨arg,3,0,v⟩=(⟨arg,3,0,v⟩,0):=by
 unfold JN;rw [if_pos (Jdy h0 h5 Dc Dc)];simp [JaF,JaC,hv,hv1,asC]
theorem Jza {arg:Int} {v:Nat} (h0:0≤arg) (h5:arg≤5) (hv:¬v=0) (hv1:¬v=18446744073709551615):JN ⟨arg,6,0,v⟩=(⟨arg,6,0,v⟩,0):=by
 unfold JN;rw [if_pos (Jdy h0 h5 Dc Dc)];simp [JaF,Jba,hv,hv1,asC]
theorem JjL {c:Cnd} {v:Nat} (h0:0≤c.arg) (h5:c.arg≤5) (h:(JaC c v).2=0):rightC (JaC c v).1=true∧JN (JaC c v).1=((JaC c v).1,0):=by
 unfold JaC at h⊢
 by_cases e0:v=0
 ·rw [if_pos e0] at h;simp [isC] at h
 ·rw [if_neg e0] at h⊢;by_cases e1:v=1
  ·rw [if_pos e1];exact ⟨Jdy h0 h5 Dc Dc,Jmb h0 h5⟩
  ·rw [if_neg e1];exact ⟨Jdy h0 h5 Dc Dc,Jy9 h0 h5 e0 e1⟩
theorem Jlf {c:Cnd} {v:Nat} (h0:0≤c.arg) (h5:c.arg≤5) (h:(Jba c v).2=0):rightC (Jba c v).1=true∧JN (Jba c v).1=((Jba c v).1,0):=by
 unfold Jba at h⊢
 by_cases e0:v=0
 ·rw [if_pos e0] at h;simp [isC] at h
 ·rw [if_neg e0] at h⊢;by_cases e1:v=18446744073709551615
  ·rw [if_pos e1];exact ⟨Jdy h0 h5 Dc Dc,Jmb h0 h5⟩
  ·rw [if_neg e1];exact ⟨Jdy h0 h5 Dc Dc,Jza h0 h5 e0 e1⟩
theorem Jrb {c:Cnd} (h:(JN c).2=0):rightC (JN c).1=true∧JN (JN c).1=((JN c).1,0):=by
 have hr:rightC c=true:=by
  cases hr:rightC c with
  | true=> rfl
  | false=>
    unfold JN at h;rw [hr,if_neg Dc] at h;simp [isC] at h
 have hrc:=JX.1 hr
 have e:JN c=JaF c:=if_pos hr
 by_cases e3:c.op=3
 ·have e2:JaF c=JaC c c.value:=if_pos e3;rw [e,e2] at h⊢;exact JjL hrc.1 hrc.2.1 h
 by_cases e6:c.op=6
 ·have e2:JaF c=Jba c c.value:=by unfold JaF;rw [if_neg e3,if_pos e6]
  rw [e,e2] at h⊢;exact Jlf hrc.1 hrc.2.1 h
 by_cases e7:c.op=7
 ·have e2:JaF c=Jc2 c:=by unfold JaF;rw [if_neg e3,if_neg e6,if_pos e7]
  rw [e,e2] at h⊢;unfold Jc2 at h⊢;by_cases b0:JgP c.value c.mask≠0
  ·rw [if_pos b0] at h;simp [isC] at h
  ·rw [if_neg b0] at h⊢;by_cases b1:c.mask=0
   ·rw [if_pos b1] at h;simp [isC] at h
   ·rw [if_neg b1] at h⊢;by_cases b2:c.mask=18446744073709551615
    ·rw [if_pos b2];exact ⟨Jdy hrc.1 hrc.2.1 Dc Dc,Jmb hrc.1 hrc.2.1⟩
    ·rw [if_neg b2];refine ⟨hr, ?_⟩;rw [e,e2];unfold Jc2;rw [if_neg b0,if_neg b1,if_neg b2]
 by_cases e4:c.op=4
 ·by_cases v:c.value=18446744073709551615
  ·have e2:JaF c=isC true:=by unfold JaF;rw [if_neg e3,if_neg e6,if_neg e7,if_pos e4,if_pos v]
   rw [e,e2] at h;simp [isC] at h
  ·have e2:JaF c=JaC c (c.value+1):=by unfold JaF;rw [if_neg e3,if_neg e6,if_neg e7,if_pos e4,if_neg v]
   rw [e,e2] at h⊢;exact JjL hrc.1 hrc.2.1 h
 by_cases e5:c.op=5
 ·by_cases v:c.value=18446744073709551615
  ·have e2:JaF c=isC false:=by unfold JaF;rw [if_neg e3,if_neg e6,if_neg e7,if_neg e4,if_pos e5,if_pos v]
   rw [e,e2] at h;simp [isC] at h
  ·have e2:JaF c=Jba c (c.value+1):=by unfold JaF;rw [if_neg e3,if_neg e6,if_neg e7,if_neg e4,if_pos e5,if_neg v]
   rw [e,e2] at h⊢;exact Jlf hrc.1 hrc.2.1 h
 have e2:JaF c=(c,0):=by unfold JaF;rw [if_neg e3,if_neg e6,if_neg e7,if_neg e4,if_neg e5]
 rw [e,e2]
 exact ⟨hr,e.trans e2⟩
theorem Jtz {cs:List Cnd} {x:Cnd} (h:x∈Jbk cs):rightC x=true∧JbE x=false∧JhL x=some x:=by
 unfold Jbk at h
 obtain ⟨c,hc,hx⟩:=List.mem_filterMap.1 h
 unfold JhL at hx
 split at hx
 ·rename_i h0
  cases hx;obtain ⟨h1,h2⟩:=Jrb h0;refine ⟨h1, ?_, ?_⟩
  ·unfold JbE;rw [h2];rfl
  ·unfold JhL;rw [h2];rfl
 ·cases hx
theorem Jd1 {r n:Rul} (h:Jav r=some n):Jav n=some n∧(Jai r=true→Jai n=true)∧((∀c∈r.conds,c.ok)→∀c∈n.conds,c.ok):=by
 have hc:=Jbp h
 unfold Jav at h
 split at h
 ·cases h
 ·cases h;have hm:∀x,x∈Jdf (Jbk r.conds)→rightC x=true∧JbE x=false∧JhL x=some x:=fun x hx=> Jtz (((Jcf _).2 x).1 hx);refine ⟨?_,fun hr=> ?_,fun ho x hx=> ?_⟩
  ·unfold Jav;dsimp only;have e1:(Jdf (Jbk r.conds)).any JbE=false:=by
    rw [List.any_eq_false];intro x hx;rw [(hm x hx).2.1];decide
   have e2:Jbk (Jdf (Jbk r.conds))=Jdf (Jbk r.conds):=by
    generalize Jdf (Jbk r.conds)=l at hm;unfold Jbk
    induction l with
    | nil=> rfl
    | cons x l ih=>
      rw [List.filterMap_cons,(hm x (.head _)).2.2];dsimp only;rw [ih fun y hy=> hm y (.tail _ hy)]
   rw [e1,e2,JvI];rfl
  ·unfold Jai at hr⊢;simp only [Bool.and_eq_true,decide_eq_true_eq] at hr⊢;refine ⟨hr.1,hr.2.1,Nat.le_trans hc.1 hr.2.2.1, ?_⟩;rw [Bool.not_eq_true',List.any_eq_false];intro x hx;rw [(hm x hx).1];decide
  ·have hx2:=((Jcf _).2 x).1 hx;unfold Jbk at hx2;obtain ⟨c,hc,hy⟩:=List.mem_filterMap.1 hx2;unfold JhL at hy;split at hy
   ·cases hy;exact JxB (ho c hc)
   ·cases hy
def JcP (l:List Rul) (r:Rul):List Rul:=
 match Jav r with
 | none=> l
 | some n=> if Jc8 l n then l else l++ [n]
def gOf (s:ByteArray) (rs:List Rul):List Rul:=rs.foldl (fun l r=> if JU s r.name then JcP l r else l) []
theorem JiG (s:ByteArray):JU s s=true:=JbS.2 rfl
theorem JiH {s t:ByteArray} {n:Rul}:∀ {H:List (ByteArray×List Rul)},JaN (Jdg H t n) s=if JU s t then JaN H s++ [n] else JaN H s
 | []=> by
   show (if JU s t=true then [n] else [])=_;by_cases h:JU s t=true
   ·rw [if_pos h,if_pos h];rfl
   ·rw [if_neg h,if_neg h];rfl
 | h::H=> by
   unfold Jdg;by_cases ht:JU t h.1=true
   ·rw [if_pos ht];obtain rfl:=JbS.1 ht;show (if JU s h.1=true then _ else JaN H s)=_;by_cases hs:JU s h.1=true
    ·rw [if_pos hs,if_pos hs];show _=(if JU s h.1=true then _ else _)++_;rw [if_pos hs]
    ·rw [if_neg hs,if_neg hs];show _=(if JU s h.1=true then _ else _);rw [if_neg hs]
   ·rw [if_neg ht];show (if JU s h.1=true then h.2 else JaN (Jdg H t n) s)=if JU s t=true then (if JU s h.1=true then h.2 else JaN H s)++ [n] else (if JU s h.1=true then h.2 else JaN H s);by_cases hs:JU s h.1=true
    ·rw [if_pos hs,if_pos hs];have:¬JU s t=true:=fun k=> ht (by rw [← JbS.1 k];exact hs);rw [if_neg this]
    ·rw [if_neg hs,if_neg hs,JiH]
theorem JtA {s:ByteArray} {H:List (ByteArray×List Rul)} {r:Rul}:JaN (Jc4 H r) s=if JU s r.name then JcP (JaN H s) r else JaN H s:=by
 unfold Jc4 JcP
 cases hN:Jav r with
 | none=> simp
 | some n=>
   dsimp only;by_cases hs:JU s r.name=true
   ·obtain rfl:=JbS.1 hs;rw [if_pos hs];by_cases hh:Jc8 (JaN H r.name) n=true
    ·rw [if_pos hh,if_pos hh]
    ·rw [if_neg hh,if_neg hh,JiH,if_pos hs]
   ·rw [if_neg hs];by_cases hh:Jc8 (JaN H r.name) n=true
    ·rw [if_pos hh]
    ·rw [if_neg hh,JiH,if_neg hs]
theorem Jm9 {s:ByteArray}:∀(rs:List Rul) (H:List (ByteArray×List Rul)),JaN (rs.foldl Jc4 H) s=rs.foldl (fun l r=> if JU s r.name then JcP l r else l) (JaN H s)
 | [],_=> rfl
 | r::rs,H=> by
   rw [List.foldl_cons,Jm9 rs,List.foldl_cons,JtA]
theorem Jfc (s:ByteArray) (rs:List Rul):JaN (J4 rs) s=gOf s rs:=Jm9 rs []
theorem Jna {t:ByteArray} {n:Rul}:∀ {H:List (ByteArray×List Rul)} {s:ByteArray},s∈(Jdg H t n).map (·.1)↔s=t∨s∈H.map (·.1)
 | [],s=> by simp [Jdg]
 | h::H,s=> by
   unfold Jdg;by_cases ht:JU t h.1=true
   ·rw [if_pos ht];obtain rfl:=JbS.1 ht;simp
   ·rw [if_neg ht,List.map_cons,List.mem_cons,Jna,List.map_cons,List.mem_cons]
    constructor
    ·rintro (h | h | h)
     ·exact .inr (.inl h)
     ·exact .inl h
     ·exact .inr (.inr h)
    ·rintro (h | h | h)
     ·exact .inr (.inl h)
     ·exact .inl h
     ·exact .inr (.inr h)
theorem Jlg {t:ByteArray} {n:Rul}:∀ {H:List (ByteArray×List Rul)},(H.map (·.1)).Nodup→((Jdg H t n).map (·.1)).Nodup
 | [],_=> by simp [Jdg]
 | h::H,hn=> by
   unfold Jdg;by_cases ht:JU t h.1=true
   ·rw [if_pos ht];exact hn
   ·rw [if_neg ht];rw [List.map_cons,List.nodup_cons] at hn⊢;refine ⟨fun hm=> ?_,Jlg hn.2⟩;rcases Jna.1 hm with e | e
    ·exact ht (by rw [← e];exact JiG _)
    ·exact hn.1 e
theorem Jrc {H:List (ByteArray×List Rul)} {r:Rul} (h:(H.map (·.1)).Nodup):((Jc4 H r).map (·.1)).Nodup:=by
 unfold Jc4
 cases Jav r with
 | none=> exact h
 | some n=>
   dsimp only;split
   ·exact h
   ·exact Jlg h
theorem Jgi (rs:List Rul):((J4 rs).map (·.1)).Nodup:=by
 have key:∀(rs:List Rul) (H:List (ByteArray×List Rul)),(H.map (·.1)).Nodup→((rs.foldl Jc4 H).map (·.1)).Nodup:=by
  intro rs
  induction rs with
  | nil=> intro H h;exact h
  | cons r rs ih=> intro H h;exact ih _ (Jrc h)
 exact key rs [] List.nodup_nil
theorem JpE {s:ByteArray}:∀ {H:List (ByteArray×List Rul)},JaN H s≠ []→s∈H.map (·.1)
 | [],h=> absurd rfl h
 | h::H,hne=> by
   by_cases hs:JU s h.1=true
   ·rw [JbS.1 hs];simp
   ·have:JaN (h::H) s=JaN H s:=if_neg hs;rw [this] at hne;exact List.mem_cons_of_mem _ (JpE hne)
def RS (a b:List UInt8):Prop:=Go.Sort.ltStr a b=true
theorem JvJ (x:List UInt8):¬RS x x:=by unfold RS;rw [Go.Sort.swo_ltStr.irrefl];decide
theorem JAJ (x y z:List UInt8) (h:RS x y) (k:RS y z):RS x z:=Go.Sort.swo_ltStr.trans x y z h k
theorem Jke {s t:ByteArray} (h:s.data.toList=t.data.toList):s=t:=by
 obtain ⟨⟨a⟩⟩:=s;obtain ⟨⟨b⟩⟩:=t;simpa using h
theorem JjM {H:List (ByteArray×List Rul)} (hn:(H.map (·.1)).Nodup):(JcO H).Pairwise RS:=by
 have h1:=Je9 Go.Sort.swo_ltStr (H.map fun h=> h.1.data.toList)
 have h2:(JcO H).Nodup:=by
  refine (List.mergeSort_perm _ _).nodup_iff.2 ?_;have:(H.map fun h=> h.1.data.toList)=(H.map (·.1)).map (fun s:ByteArray=> s.data.toList):=by rw [List.map_map];rfl
  rw [this];exact List.pairwise_map.2 (hn.imp fun h e=> h (Jke e))
 refine (h1.and h2).imp fun {a b} h=> ?_
 unfold RS
 cases hl:Go.Sort.ltStr a b with
 | true=> rfl
 | false=> exact absurd (JiD _ _ hl h.1) h.2
theorem Jrd {H:List (ByteArray×List Rul)} {s:ByteArray}:s.data.toList∈JcO H↔s∈H.map (·.1):=by
 unfold JcO
 rw [JhF,List.mem_map,List.mem_map]
 constructor
 ·rintro ⟨h,hh,e⟩;exact ⟨h,hh,Jke e⟩
 ·rintro ⟨h,hh,e⟩;exact ⟨h,hh,by rw [e]⟩
theorem JfP (s:ByteArray) (rs:List Rul):gOf s rs=(rs.filter fun r=> JU s r.name).foldl JcP []:=by
 unfold gOf
 have key:∀(rs:List Rul) (l:List Rul),rs.foldl (fun l r=> if JU s r.name then JcP l r else l) l=(rs.filter fun r=> JU s r.name).foldl JcP l:=by
  intro rs
  induction rs with
  | nil=> intro l;rfl
  | cons r rs ih=>
    intro l;rw [List.foldl_cons,ih,List.filter_cons];by_cases h:JU s r.name=true
    ·rw [if_pos h,if_pos h];rfl
    ·rw [if_neg h,if_neg h]
 exact key rs []
theorem JgT (l:List Rul):l= []∨∃l' x,l=l'++ [x]:=by
 rcases List.eq_nil_or_concat l with h | ⟨l',x,h⟩
 ·exact .inl h
 ·exact .inr ⟨l',x,by rw [h,List.concat_eq_append]⟩
def JdN (l:List Rul):Prop:=∀a n b,l=a++n::b→Jav n=some n∧Jc8 a n=false
theorem JxC:JdN []:=fun a n b h=> by simp at h
theorem JvK {l:List Rul} {n:Rul} (h:JdN l) (h1:Jav n=some n) (h2:Jc8 l n=false):JdN (l++ [n]):=fun a m b he=> by
 rcases JgT b with rfl | ⟨b',x,rfl⟩
 ·have:=List.append_inj' he rfl;obtain ⟨rfl,hh⟩:=this;cases hh;exact ⟨h1,h2⟩
 ·rw [show a++m::(b'++ [x])=(a++m::b')++ [x] by simp] at he;have:=List.append_inj' he rfl;exact h a m b' this.1
theorem Jlh {l t:List Rul} (h:JdN (l++t)):JdN l:=fun a n b he=> h a n (b++t) (by rw [he];simp)
theorem JvL {l:List Rul} {r:Rul} (h:JdN l):JdN (JcP l r):=by
 unfold JcP
 cases hN:Jav r with
 | none=> exact h
 | some n=>
   dsimp only;by_cases hh:Jc8 l n=true
   ·rw [if_pos hh];exact h
   ·rw [if_neg hh];exact JvK h (Jd1 hN).1 (by simpa using hh)
theorem Jnb:∀(rs l:List Rul),JdN l→JdN (rs.foldl JcP l)
 | [],_,h=> h
 | r::rs,l,h=> Jnb rs _ (JvL h)
theorem JxD (s:ByteArray) (rs:List Rul):JdN (gOf s rs):=by rw [JfP];exact Jnb _ _ JxC
theorem JvM {l:List Rul} (h:JdN l):l.foldl JcP []=l:=by
 have key:∀(k:Nat) (l:List Rul),l.length=k→JdN l→l.foldl JcP []=l:=by
  intro k
  induction k with
  | zero=> intro l hk _;rw [List.eq_nil_of_length_eq_zero hk];rfl
  | succ k ih=>
    intro l hk h;rcases JgT l with rfl | ⟨l',x,rfl⟩
    ·simp at hk
    ·rw [List.foldl_append,ih l' (by simpa using hk) (Jlh h)];obtain ⟨h1,h2⟩:=h l' x [] rfl;show JcP l' x=_;unfold JcP;rw [h1];dsimp only;rw [if_neg (by rw [h2];decide)]
 exact key _ l rfl h
theorem JhM (d:A2) (l:List Rul):∃t,l=Jcp d l++t:=by
 unfold Jcp
 refine ⟨(l.reverse.takeWhile fun r=> decide (r.act=d)).reverse, ?_⟩
 rw [← List.reverse_append,List.takeWhile_append_dropWhile,List.reverse_reverse]
theorem Jzb (d:A2) (l:List Rul):(Jcp d l).length≤l.length:=by
 obtain ⟨t,h⟩:=JhM d l
 have:=congrArg List.length h
 rw [List.length_append] at this
 omega
theorem JxE {l:List Rul} {r n:Rul} (h:n∈JcP l r):n∈l∨Jav r=some n:=by
 unfold JcP at h
 cases hN:Jav r with
 | none=> rw [hN] at h;exact .inl h
 | some m=>
   rw [hN] at h;dsimp only at h;split at h
   ·exact .inl h
   ·rcases List.mem_append.1 h with h | h
    ·exact .inl h
    ·rw [List.mem_singleton.1 h];exact .inr rfl
theorem JpF:∀(rs l:List Rul) {n:Rul},n∈rs.foldl JcP l→n∈l∨∃r∈rs,Jav r=some n
 | [],_,_,h=> .inl h
 | r::rs,l,n,h=> by
   rcases JpF rs _ h with h | ⟨x,hx,h⟩
   ·rcases JxE h with h | h
    ·exact .inl h
    ·exact .inr ⟨r, .head _,h⟩
   ·exact .inr ⟨x, .tail _ hx,h⟩
theorem Jjg {s:ByteArray} {rs:List Rul} {n:Rul} (h:n∈gOf s rs):n.name=s∧∃r∈rs,Jav r=some n:=by
 rw [JfP] at h
 rcases JpF _ _ h with h | ⟨r,hr,h⟩
 ·cases h
 ·obtain ⟨h1,h2⟩:=List.mem_filter.1 hr;exact ⟨(Jbp h).2.1.trans (JbS.1 h2).symm,r,h1,h⟩
theorem JhN {d:A2} {l:List Rul} {x:Rul} (h:x∈Jcp d l):x∈l:=by
 obtain ⟨t,ht⟩:=JhM d l
 rw [ht];exact List.mem_append_left _ h
theorem Jjh {d:A2} {rs:List Rul} {N:List (List UInt8)} {n:Rul} (h:n∈JfB d (J4 rs) N):∃r∈rs,Jav r=some n:=by
 unfold JfB at h
 obtain ⟨z,hz,h⟩:=List.mem_flatMap.1 h
 have:=JhN h
 rw [Jfc] at this
 exact (Jjg this).2
theorem JpG {X:List Rul} {z0:List UInt8}:∀ {N:List (List UInt8)},N.Pairwise RS→N.flatMap (fun z=> if z=z0 then X else [])=if z0∈N then X else []
 | [],_=> by simp
 | z::N,h=> by
   rw [List.pairwise_cons] at h;rw [List.flatMap_cons,JpG h.2];by_cases hz:z=z0
   ·subst hz;have:z∉N:=fun hm=> JvJ z (h.1 z hm);simp [this]
   ·rw [if_neg hz,List.nil_append];simp [Ne.symm hz]
theorem JjN (s:ByteArray) (F:List UInt8→List Rul):∀N:List (List UInt8),(N.flatMap F).filter (fun r=> JU s r.name)=N.flatMap fun z=> (F z).filter fun r=> JU s r.name
 | []=> rfl
 | z::N=> by rw [List.flatMap_cons,List.filter_append,JjN s F N,List.flatMap_cons]
theorem Jzc (d:A2) (rs:List Rul) (s:ByteArray):gOf s (JfB d (J4 rs) (JcO (J4 rs)))=Jcp d (gOf s rs):=by
 rw [JfP]
 unfold JfB
 rw [JjN]
 have e:(fun z:List UInt8=> (Jcp d (JaN (J4 rs) ⟨z.toArray⟩)).filter fun r=> JU s r.name)=fun z=> if z=s.data.toList then Jcp d (gOf s rs) else []:=by
  funext z
  rw [Jfc];by_cases hz:z=s.data.toList
  ·subst hz;rw [if_pos rfl];have es:(⟨s.data.toList.toArray⟩:ByteArray)=s:=by obtain ⟨⟨a⟩⟩:=s;rfl
   rw [es,List.filter_eq_self];intro n hn;rw [(Jjg (JhN hn)).1];exact JiG s
  ·rw [if_neg hz,List.filter_eq_nil_iff];intro n hn hk;have:=(Jjg (JhN hn)).1;rw [this] at hk;exact hz (by rw [JbS.1 hk])
 rw [e,JpG (JjM (Jgi rs))]
 have hg:JdN (Jcp d (gOf s rs)):=by
  obtain ⟨t,ht⟩:=JhM d (gOf s rs);have:=JxD s rs;rw [ht] at this;exact Jlh this
 by_cases hm:s.data.toList∈JcO (J4 rs)
 ·rw [if_pos hm];exact JvM hg
 ·rw [if_neg hm];have:JaN (J4 rs) s= []:=by
   by_cases h:JaN (J4 rs) s= []
   ·exact h
   ·exact absurd (Jrd.2 (JpE h)) hm
  rw [Jfc] at this;rw [this];rfl
def Jgj (H:List (ByteArray×List Rul)):Nat:=(H.map fun h=> h.2.length).sum
theorem JpH {t:ByteArray} {n:Rul}:∀H:List (ByteArray×List Rul),Jgj (Jdg H t n)=Jgj H+1
 | []=> rfl
 | h::H=> by
   unfold Jdg;by_cases ht:JU t h.1=true
   ·rw [if_pos ht];unfold Jgj;simp;omega
   ·rw [if_neg ht];have:=JpH (t:=t) (n:=n) H;unfold Jgj at this⊢;rw [List.map_cons,List.sum_cons,this,List.map_cons,List.sum_cons];omega
theorem JvN {H:List (ByteArray×List Rul)} {r:Rul}:Jgj (Jc4 H r)≤Jgj H+1:=by
 unfold Jc4
 cases Jav r with
 | none=> exact Nat.le_succ _
 | some n=>
   dsimp only;split
   ·exact Nat.le_succ _
   ·rw [JpH];exact Nat.le_refl _
theorem JtB (rs:List Rul):Jgj (J4 rs)≤rs.length:=by
 have key:∀(rs:List Rul) (H:List (ByteArray×List Rul)),Jgj (rs.foldl Jc4 H)≤Jgj H+rs.length:=by
  intro rs
  induction rs with
  | nil=> intro H;exact Nat.le_refl _
  | cons r rs ih=>
    intro H;have h1:=ih (Jc4 H r);have h2:=JvN (H:=H) (r:=r);rw [List.foldl_cons,List.length_cons];omega
 have:=key rs []
 rw [show Jgj []=0 from rfl,Nat.zero_add] at this
 exact this
theorem JpI:∀ {H:List (ByteArray×List Rul)},(H.map (·.1)).Nodup→∀h∈H,JaN H h.1=h.2
 | [],_,_,hm=> by cases hm
 | g::H,hn,h,hm=> by
   rw [List.map_cons,List.nodup_cons] at hn;rcases List.mem_cons.1 hm with rfl | hm
   ·exact if_pos (JiG _)
   ·have:¬JU h.1 g.1=true:=fun hk=> hn.1 (by rw [← JbS.1 hk];exact List.mem_map_of_mem hm);show (if JU h.1 g.1=true then g.2 else JaN H h.1)=_;rw [if_neg this];exact JpI hn.2 h hm
theorem Jzd (d:A2) (rs:List Rul):(JfB d (J4 rs) (JcO (J4 rs))).length≤rs.length:=by
 refine Nat.le_trans ?_ (JtB rs)
 have hn:=Jgi rs
 generalize J4 rs=H at hn
 unfold JfB
 have hp:(JcO H).Perm (H.map fun h=> h.1.data.toList):=List.mergeSort_perm _ _
 rw [List.length_flatMap,(hp.map _).sum_nat,List.map_map]
 unfold Jgj
 have e:∀h∈H,((fun a:List UInt8=> (Jcp d (JaN H ⟨a.toArray⟩)).length)∘fun h:ByteArray×List Rul=> h.1.data.toList) h≤h.2.length:=fun h hh=> by
  show (Jcp d (JaN H ⟨h.1.data.toList.toArray⟩)).length≤_;have es:(⟨h.1.data.toList.toArray⟩:ByteArray)=h.1:=by obtain ⟨⟨⟨a⟩⟩,b⟩:=h;rfl
  rw [es,JpI hn h hh];exact Jzb d h.2
 clear hp hn
 generalize (fun a:List UInt8=> (Jcp d (JaN H ⟨a.toArray⟩)).length)∘(fun h:ByteArray×List Rul=> h.1.data.toList)=f at e
 induction H with
 | nil=> simp
 | cons h H ih=>
   rw [List.map_cons,List.sum_cons,List.map_cons,List.sum_cons];have h1:=e h (.head _);have h2:=ih fun x hx=> e x (.tail _ hx);omega
theorem Jli {p:Pol} (h:Jaq p=true):Jaq (Je p)=true:=by
 unfold Jaq at h⊢
 simp only [Bool.and_eq_true,decide_eq_true_eq,Bool.not_eq_true',List.any_eq_false] at h⊢
 have hl:=Jzd p.dflt p.rules
 refine ⟨h.1,Nat.le_trans hl h.2.1,fun n hn=> ?_⟩
 obtain ⟨r,hr,hN⟩:=Jjh hn
 have h2:=h.2.2 r hr
 have:Jai r=true:=by simpa using h2
 rw [(Jd1 hN).2.1 this];decide
def nmL (s:ByteArray):List UInt8:=s.data.toList
def Jji (r:Rul):List (ByteArray×List Rul)→List (ByteArray×List Rul)
 | (s,L)::t=> if kS s r.name then (s,r::L)::t else (r.name, [r])::(s,L)::t
 | []=> [(r.name, [r])]
def Jv (l:List Rul):List (ByteArray×List Rul):=l.foldr Jji []
def JvO (l:List Rul):Prop:=l.Pairwise fun a b=> Go.Sort.ltStr (nmL b.name) (nmL a.name)=false
structure GOk (l:List Rul) (gs:List (ByteArray×List Rul)):Prop where
 up:gs.Pairwise fun a b=> Go.Sort.ltStr (nmL a.1) (nmL b.1)=true
 rows:∀g∈gs,g.2=l.filter (fun r=> kS r.name g.1)∧g.2≠ []
 all:∀r∈l,∃g∈gs,g.1=r.name
theorem Jnc (s t:ByteArray):kS s t=kS t s:=by
 rw [Bool.eq_iff_iff,JaG,JaG]
 exact ⟨Eq.symm,Eq.symm⟩
theorem JhO (s:List UInt8):Go.Sort.ltStr s s=false:=Go.Sort.swo_ltStr.irrefl s
theorem JAK {s t:ByteArray} (h:Go.Sort.ltStr (nmL t) (nmL s)=false) (hne:s≠t):Go.Sort.ltStr (nmL s) (nmL t)=true:=by
 cases hl:Go.Sort.ltStr (nmL s) (nmL t) with
 | true=> rfl
 | false=> exact absurd (Jke (Jvc _ _ hl h)) hne
theorem Jcg:∀ {l:List Rul},JvO l→GOk l (Jv l)
 | [],_=> ⟨List.Pairwise.nil,fun g hg=> (by cases hg),fun r hr=> (by cases hr)⟩
 | r::l,h=> by
   obtain ⟨h1,h2⟩:=List.pairwise_cons.1 h;have ih:=Jcg h2;unfold Jv at ih⊢;rw [List.foldr_cons];generalize l.foldr Jji []=gs at ih;have hrow:∀g∈gs,g.1≠r.name→g.2=(r::l).filter (fun q=> kS q.name g.1)∧g.2≠ []:=fun g hg hne=> by
    obtain ⟨k1,k2⟩:=ih.rows g hg;refine ⟨?_,k2⟩;rw [List.filter_cons,if_neg (by rw [Jnc];exact fun e=> hne (JaG.1 e))];exact k1
   have hge:∀g∈gs,Go.Sort.ltStr (nmL g.1) (nmL r.name)=false:=fun g hg=> by
    obtain ⟨k1,k2⟩:=ih.rows g hg;obtain ⟨q,hq⟩:=List.exists_mem_of_ne_nil _ k2;rw [k1] at hq;obtain ⟨q1,q2⟩:=List.mem_filter.1 hq;rw [← JaG.1 q2];exact h1 q q1
   cases gs with
   | nil=>
     have hl:l= []:=List.eq_nil_iff_forall_not_mem.2 fun q hq=> by obtain ⟨g,hg,_⟩:=ih.all q hq;cases hg
     subst hl;refine ⟨List.pairwise_singleton _ _,fun g hg=> ?_,fun q hq=> ?_⟩
     ·rw [List.mem_singleton.1 hg];refine ⟨?_,List.cons_ne_nil _ _⟩;rw [List.filter_cons,if_pos (JaG.2 rfl)];rfl
     ·exact ⟨_, .head _,by rw [List.mem_singleton.1 hq]⟩
   | cons g t=>
     obtain ⟨s,L⟩:=g;show GOk (r::l) (if kS s r.name then (s,r::L)::t else (r.name, [r])::(s,L)::t);obtain ⟨u1,u2⟩:=List.pairwise_cons.1 ih.up;by_cases hs:kS s r.name=true
     ·rw [if_pos hs];have es:s=r.name:=JaG.1 hs;refine ⟨List.pairwise_cons.2 ⟨u1,u2⟩,fun g hg=> ?_,fun q hq=> ?_⟩
      ·rcases List.mem_cons.1 hg with rfl | hg
       ·refine ⟨?_,List.cons_ne_nil _ _⟩;have:=(ih.rows (s,L) (.head _)).1;rw [List.filter_cons,if_pos (by rw [Jnc];exact hs)];exact congrArg _ this
       ·refine hrow g (.tail _ hg) fun e=> ?_;have:=u1 g hg;rw [e,← es,JhO] at this;cases this
      ·rcases List.mem_cons.1 hq with rfl | hq
       ·exact ⟨_, .head _,es⟩
       ·obtain ⟨g,hg,e⟩:=ih.all q hq;rcases List.mem_cons.1 hg with rfl | hg
        ·exact ⟨_, .head _,e⟩
        ·exact ⟨g, .tail _ hg,e⟩
     ·rw [if_neg hs];have hne:s≠r.name:=fun e=> hs (JaG.2 e);have hlt:∀g∈(s,L)::t,Go.Sort.ltStr (nmL r.name) (nmL g.1)=true:=fun g hg=> by
       have hs0:=JAK (hge (s,L) (.head _)) hne.symm;rcases List.mem_cons.1 hg with rfl | hg
       ·exact hs0
       ·exact Go.Sort.swo_ltStr.trans _ _ _ hs0 (u1 g hg)
      have hno:∀g∈(s,L)::t,g.1≠r.name:=fun g hg e=> by
       have:=hlt g hg;rw [e,JhO] at this;cases this
      refine ⟨List.pairwise_cons.2 ⟨hlt,ih.up⟩,fun g hg=> ?_,fun q hq=> ?_⟩
      ·rcases List.mem_cons.1 hg with rfl | hg
       ·refine ⟨?_,List.cons_ne_nil _ _⟩;rw [List.filter_cons,if_pos (JaG.2 rfl)];refine congrArg _ (List.filter_eq_nil_iff.2 fun q hq e=> ?_).symm;obtain ⟨g,hg,e2⟩:=ih.all q hq;exact hno g hg (e2.trans (JaG.1 e))
       ·exact hrow g hg (hno g hg)
      ·rcases List.mem_cons.1 hq with rfl | hq
       ·exact ⟨_, .head _,rfl⟩
       ·obtain ⟨g,hg,e⟩:=ih.all q hq;exact ⟨g, .tail _ hg,e⟩
def JA (r:Rul):PRul:=⟨r.conds,JJ r.act⟩
theorem Jre (m:Rul) (M:List Rul):∃L t,Jv (m::M)=(m.name,L)::t:=by
 show ∃L t,Jji m (Jv M)=(m.name,L)::t
 cases Jv M with
 | nil=> exact ⟨_,_,rfl⟩
 | cons g t=>
   obtain ⟨s,L⟩:=g;show ∃L' t',(if kS s m.name then (s,m::L)::t else (m.name, [m])::(s,L)::t)=(m.name,L')::t';by_cases h:kS s m.name=true
   ·rw [if_pos h,JaG.1 h];exact ⟨_,_,rfl⟩
   ·rw [if_neg h];exact ⟨_,_,rfl⟩
def JxF (s:ByteArray) (M:List Rul):Prop:=∀m∈M.head?,m.name≠s
theorem Jlj {s:ByteArray} {M:List Rul} (hM:JxF s M):∀ {L:List Rul},L≠ []→(∀r∈L,r.name=s)→Jv (L++M)=(s,L)::Jv M
 | [],h,_=> absurd rfl h
 | [r],_,h=> by
   show Jji r (Jv M)=_;have hr:=h r (.head _);cases M with
   | nil=> rw [← hr];rfl
   | cons m M=>
     obtain ⟨L,t,e⟩:=Jre m M;rw [e];show (if kS m.name r.name then _ else _)=_;rw [if_neg (fun k=> hM m Si ((JaG.1 k).trans hr)),hr]
 | r::q::L,_,h=> by
   have ih:=Jlj hM (L:=q::L) Si fun x hx=> h x (.tail _ hx);show Jji r (Jv (q::L++M))=_;rw [ih];show (if kS s r.name then _ else _)=_;rw [if_pos (JaG.2 (h r (.head _)).symm)]
def JbZ (a:Nat) (n:Int):Nat:=if a=1 then n.toNat||| 1073741824 else n.toNat
def JaH (a d:Nat) (x:Bool) (row:TRow) (rs:List PRul):List PEnt:=
 if row.num a < 0∨(a=1∧x=false)∨Jbf a rs d= [] then [] else [⟨JbZ a (row.num a),Jbf a rs d⟩]
def JbB (m:Nat) (row:TRow) (rs:List PRul):List PSub:=if row.mux=(m:Int)+1 then [⟨row.sub.toNat,(rs.getD 0 ⟨[],0⟩).code⟩] else []
def Jbg (p:Pol) (l:List TRow) (gs:List (ByteArray×List Rul)) (a:Nat):List PEnt:=gs.flatMap fun g=> JaH a (JJ p.dflt) p.x32 (Jak l g.1) (g.2.map JA)
def Jb7 (l:List TRow) (gs:List (ByteArray×List Rul)) (m:Nat):List PSub:=gs.flatMap fun g=> JbB m (Jak l g.1) (g.2.map JA)
theorem JtC (p:Pol) (l:List TRow) (gs:List (ByteArray×List Rul)) (g:ByteArray×List Rul) (a:Nat):Jbg p l (gs++ [g]) a=Jbg p l gs a++JaH a (JJ p.dflt) p.x32 (Jak l g.1) (g.2.map JA):=by
 unfold Jbg;rw [List.flatMap_append];simp
theorem JtD (l:List TRow) (gs:List (ByteArray×List Rul)) (g:ByteArray×List Rul) (m:Nat):Jb7 l (gs++ [g]) m=Jb7 l gs m++JbB m (Jak l g.1) (g.2.map JA):=by
 unfold Jb7;rw [List.flatMap_append];simp
def JbT (s:ByteArray) (l:List Rul):List Rul:=l.takeWhile fun r=> kS r.name s
theorem Jnd (s:ByteArray):∀(l:List Rul),∀r∈JbT s l,r.name=s
 | [],r,hr=> by cases hr
 | q::l,r,hr=> by
   unfold JbT at hr;rw [List.takeWhile_cons] at hr;by_cases h:kS q.name s=true
   ·rw [if_pos h] at hr;rcases List.mem_cons.1 hr with rfl | hr
    ·exact JaG.1 h
    ·exact Jnd s l r hr
   ·rw [if_neg h] at hr;cases hr
theorem JxG (s:ByteArray) (l:List Rul):JxF s (l.drop (JbT s l).length):=by
 unfold JbT JxF
 induction l with
 | nil=> intro m hm;simp at hm
 | cons r l ih=>
   rw [List.takeWhile_cons];by_cases h:kS r.name s=true
   ·rw [if_pos h];simpa using ih
   ·rw [if_neg h];intro m hm;obtain rfl:r=m:=(by simpa using hm);exact fun e=> h (JaG.2 e)
theorem JgU {α:Type} {key:α→Nat}:∀ {l m:List α},l.Perm m→l.Pairwise (fun a b=> key a≤key b)→m.Pairwise (fun a b=> key a≤key b)→(l.map key).Nodup→l=m
 | [],m,hp,_,_,_=> (List.nil_perm.1 hp).symm
 | a::l, [],hp,_,_,_=> by cases hp.length_eq
 | a::l,b::m,hp,h1,h2,hn=> by
   obtain ⟨a1,a2⟩:=List.pairwise_cons.1 h1;obtain ⟨b1,b2⟩:=List.pairwise_cons.1 h2;have hb:b∈a::l:=hp.mem_iff.2 (.head _);have ha:a∈b::m:=hp.mem_iff.1 (.head _);have e:a=b:=by
    rcases List.mem_cons.1 hb with h | h
    ·exact h.symm
    ·rcases List.mem_cons.1 ha with k | k
     ·exact k
     ·have:=a1 b h;have:=b1 a k;have hk:key a=key b:=(by omega);rw [List.map_cons,List.nodup_cons] at hn;exact absurd (hk ▸ List.mem_map_of_mem h) hn.1
   subst e;rw [JgU ((List.perm_cons a).1 hp) a2 b2 (List.nodup_cons.1 hn).2]
def Jfd (l:List PEnt):List PEnt:=l.mergeSort fun a b=> decide (a.num≤b.num)
def Jjj (l:List PSub):List PSub:=l.mergeSort fun a b=> decide (a.num≤b.num)
theorem JfQ (l:List PEnt):(Jfd l).Perm l:=List.mergeSort_perm _ _
theorem JfR (l:List PSub):(Jjj l).Perm l:=List.mergeSort_perm _ _
theorem JpJ (l:List PEnt):(Jfd l).Pairwise fun a b=> a.num≤b.num:=
 (List.pairwise_mergeSort (le:=fun a b:PEnt=> decide (a.num≤b.num)) (fun a b c h1 h2=> decide_eq_true (Nat.le_trans (of_decide_eq_true h1) (of_decide_eq_true h2))) (fun a b=> by simpa using Nat.le_total a.num b.num) l).imp fun h=> of_decide_eq_true h
theorem JpK (l:List PSub):(Jjj l).Pairwise fun a b=> a.num≤b.num:=
 (List.pairwise_mergeSort (le:=fun a b:PSub=> decide (a.num≤b.num)) (fun a b c h1 h2=> decide_eq_true (Nat.le_trans (of_decide_eq_true h1) (of_decide_eq_true h2))) (fun a b=> by simpa using Nat.le_total a.num b.num) l).imp fun h=> of_decide_eq_true h
theorem Jmc {l:List TRow} (h:(JbO l).2=0) {a i j:Nat} (ha:a < 5) (hi:i < l.length) (hj:j < l.length) (h0:0≤(l.getD i Jd).num a) (e:(l.getD j Jd).num a=(l.getD i Jd).num a):i=j:=by
 have key:∀i j,i < l.length→j < i→0≤(l.getD i Jd).num a→(l.getD j Jd).num a=(l.getD i Jd).num a→False:=fun i j hi hji h0 e=> by
  have hc:=(JeT ((JdL h).2 i hi)).2.2.2.2.2;unfold JcM at hc;rw [List.any_eq_false] at hc;have:=hc (l.getD j Jd) (by
   rw [show l.getD j Jd=(l.take i)[j]'(by rw [List.length_take];omega) by simp [List.getD,show j < l.length by omega]];exact List.getElem_mem _)
  apply this;rw [Bool.or_eq_true]
  left
  unfold Jhb;refine List.any_eq_true.2 ⟨a, ?_, ?_⟩
  ·rcases (by omega:a=0∨a=1∨a=2∨a=3∨a=4) with rfl | rfl | rfl | rfl | rfl <;> simp
  ·rw [decide_eq_true h0,decide_eq_true e];rfl
 rcases Nat.lt_trichotomy i j with q | q | q
 ·exact (key j i hj q (by rw [e];exact h0) e.symm).elim
 ·exact q
 ·exact (key i j hi q h0 e).elim
theorem Jmd {l:List TRow} (h:(JbO l).2=0) {i j:Nat} (hi:i < l.length) (hj:j < l.length) (h0:0 < (l.getD i Jd).mux) (e:(l.getD j Jd).mux=(l.getD i Jd).mux) (e2:(l.getD j Jd).sub=(l.getD i Jd).sub):i=j:=by
 have key:∀i j,i < l.length→j < i→0 < (l.getD i Jd).mux→(l.getD j Jd).mux=(l.getD i Jd).mux→(l.getD j Jd).sub=(l.getD i Jd).sub→False:=fun i j hi hji h0 e e2=> by
  have hc:=(JeT ((JdL h).2 i hi)).2.2.2.2.2;unfold JcM at hc;rw [List.any_eq_false] at hc;have:=hc (l.getD j Jd) (by
   rw [show l.getD j Jd=(l.take i)[j]'(by rw [List.length_take];omega) by simp [List.getD,show j < l.length by omega]];exact List.getElem_mem _)
  apply this;rw [Bool.or_eq_true]
  right
  unfold Jiy;rw [decide_eq_true h0,decide_eq_true e,decide_eq_true e2];rfl
 rcases Nat.lt_trichotomy i j with q | q | q
 ·exact (key j i hj q (by rw [e];exact h0) e.symm e2.symm).elim
 ·exact q
 ·exact (key i j hi q h0 e e2).elim
theorem JeH {a:Nat} {z:Int} (h0:0≤z) (h1:z < 1073741824):JbZ a z=if a=1 then z.toNat+1073741824 else z.toNat:=by
 unfold JbZ
 split
 ·have h:z.toNat < 2 ^ 30:=by omega
  have:=Nat.two_pow_add_eq_or_of_lt h 1;rw [Nat.mul_one] at this;rw [Nat.or_comm,show (1073741824:Nat)=2 ^ 30 by decide,← this];omega
 ·rfl
theorem JcU {l:List TRow} (h:(JbO l).2=0) {i a:Nat} (hi:i < l.length):(l.getD i Jd).num a < 1073741824∧-1≤(l.getD i Jd).num a:=by
 have:=(JeT ((JdL h).2 i hi)).2.2.1
 generalize l.getD i Jd=r at this
 unfold Jfz at this
 rw [List.any_eq_false] at this
 have hb:∀n∈ [r.a0,r.a1,r.a2,r.a3,r.a4],n < 1073741824∧-1≤n:=fun n hn=> by
  have:=this n hn;unfold Jec at this;simp only [Bool.or_eq_true,decide_eq_true_eq,not_or] at this;omega
 match a with
 | 0=> exact hb r.a0 Si
 | 1=> exact hb r.a1 Si
 | 2=> exact hb r.a2 Si
 | 3=> exact hb r.a3 Si
 | a+4=> exact hb r.a4 Si
theorem Jda {l:List TRow} (h:(JbO l).2=0) {i:Nat} (hi:i < l.length):((l.getD i Jd).mux=0∨(l.getD i Jd).mux=1∨(l.getD i Jd).mux=2)∧0≤(l.getD i Jd).sub∧(l.getD i Jd).sub≤255:=by
 have:=(JeT ((JdL h).2 i hi)).2.2.2.1
 unfold Jgg at this
 simp only [Bool.or_eq_false_iff,Bool.and_eq_false_iff,decide_eq_false_iff_not] at this
 omega
def JpL (l:List TRow) (s:ByteArray):Prop:=∃i,i < l.length∧Jak l s=l.getD i Jd∧(l.getD i Jd).name=s
theorem JgC {a d:Nat} {x:Bool} {row:TRow} {rs:List PRul} {e:PEnt} (h:e∈JaH a d x row rs):¬row.num a < 0∧e.num=JbZ a (row.num a):=by
 unfold JaH at h
 split at h
 ·cases h
 ·rename_i q
  rw [List.mem_singleton.1 h];exact ⟨fun k=> q (.inl k),rfl⟩
theorem JgD {m:Nat} {row:TRow} {rs:List PRul} {e:PSub} (h:e∈JbB m row rs):row.mux=(m:Int)+1∧e.num=row.sub.toNat:=by
 unfold JbB at h
 split at h
 ·rename_i q
  rw [List.mem_singleton.1 h];exact ⟨q,rfl⟩
 ·cases h
theorem JvP {a d:Nat} {x:Bool} {row:TRow} {rs:List PRul}:((JaH a d x row rs).map (·.num)).Nodup:=by
 unfold JaH
 split
 ·exact List.nodup_nil
 ·simp
theorem JvQ {m:Nat} {row:TRow} {rs:List PRul}:((JbB m row rs).map (·.num)).Nodup:=by
 unfold JbB
 split
 ·simp
 ·exact List.nodup_nil
theorem JhP {p:Pol} {l:List TRow} (ht:(JbO l).2=0) {a:Nat} (ha:a < 5):∀ {gs:List (ByteArray×List Rul)},(gs.Pairwise fun x y=> x.1≠y.1)→(∀g∈gs,JpL l g.1)→((Jbg p l gs a).map (·.num)).Nodup
 | [],_,_=> List.nodup_nil
 | g::gs,h1,h2=> by
   obtain ⟨q1,q2⟩:=List.pairwise_cons.1 h1;have ih:=JhP (p:=p) ht ha q2 fun g hg=> h2 g (.tail _ hg);show (((JaH a (JJ p.dflt) p.x32 (Jak l g.1) (g.2.map JA))++Jbg p l gs a).map (·.num)).Nodup;rw [List.map_append,List.nodup_append];refine ⟨JvP,ih,fun n hn n' hn'=> ?_⟩;rintro rfl;obtain ⟨e,he,rfl⟩:=List.mem_map.1 hn;obtain ⟨e',he',hee⟩:=List.mem_map.1 hn';unfold Jbg at he';obtain ⟨g',hg',he'⟩:=List.mem_flatMap.1 he';obtain ⟨i,hi,r1,n1⟩:=h2 g (.head _);obtain ⟨j,hj,r2,n2⟩:=h2 g' (.tail _ hg');obtain ⟨k1,k2⟩:=JgC he;obtain ⟨k3,k4⟩:=JgC he';rw [r1] at k1 k2;rw [r2] at k3 k4;have b1:=JcU ht (a:=a) hi;have b2:=JcU ht (a:=a) hj;rw [k2,k4,JeH Om b2.1,JeH Om b1.1] at hee;have hnum:(l.getD j Jd).num a=(l.getD i Jd).num a:=by
    split at hee <;> omega
   have:=Jmc ht ha hi hj Om hnum;subst this;exact q1 g' hg' (n1.symm.trans n2)
theorem JhQ {l:List TRow} (ht:(JbO l).2=0) {m:Nat}:∀ {gs:List (ByteArray×List Rul)},(gs.Pairwise fun x y=> x.1≠y.1)→(∀g∈gs,JpL l g.1)→((Jb7 l gs m).map (·.num)).Nodup
 | [],_,_=> List.nodup_nil
 | g::gs,h1,h2=> by
   obtain ⟨q1,q2⟩:=List.pairwise_cons.1 h1;have ih:=JhQ ht (m:=m) q2 fun g hg=> h2 g (.tail _ hg);show (((JbB m (Jak l g.1) (g.2.map JA))++Jb7 l gs m).map (·.num)).Nodup;rw [List.map_append,List.nodup_append];refine ⟨JvQ,ih,fun n hn n' hn'=> ?_⟩;rintro rfl;obtain ⟨e,he,rfl⟩:=List.mem_map.1 hn;obtain ⟨e',he',hee⟩:=List.mem_map.1 hn';unfold Jb7 at he';obtain ⟨g',hg',he'⟩:=List.mem_flatMap.1 he';obtain ⟨i,hi,r1,n1⟩:=h2 g (.head _);obtain ⟨j,hj,r2,n2⟩:=h2 g' (.tail _ hg');obtain ⟨k1,k2⟩:=JgD he;obtain ⟨k3,k4⟩:=JgD he';rw [r1] at k1 k2;rw [r2] at k3 k4;have b1:=Jda ht hi;have b2:=Jda ht hj;have:=Jmd ht hi hj Om Om Om;subst this;exact q1 g' hg' (n1.symm.trans n2)
theorem Jne {l:List TRow} {s:ByteArray} (h:Jap l s=true):JpL l s:=by
 have h1:Jak l s=l.getD (Jbn l s) Jd:=if_pos h
 unfold Jap at h
 simp only [Bool.and_eq_true,decide_eq_true_eq] at h
 exact ⟨_,h.1,h1,JrS.1 h.2⟩
theorem JeY {p:Pol} {n:Rul} (h:n∈(Je p).rules):∃r∈p.rules,Jav r=some n:=Jjh h
theorem Jb8 (p:Pol):JvO (Je p).rules:=by
 show ((JcO (J4 p.rules)).flatMap fun nm=> Jcp p.dflt (JaN (J4 p.rules) ⟨nm.toArray⟩)).Pairwise _
 have hname:∀(z:List UInt8) (r:Rul),r∈Jcp p.dflt (JaN (J4 p.rules) ⟨z.toArray⟩)→nmL r.name=z:=fun z r hr=> by
  have h:=JhN hr;rw [Jfc] at h;rw [(Jjg h).1];unfold nmL;simp
 rw [List.pairwise_flatMap]
 refine ⟨fun z _=> ?_,(JjM (Jgi p.rules)).imp fun {a b} h x hx y hy=> ?_⟩
 ·refine List.pairwise_of_forall_mem_list fun x hx y hy=> ?_;rw [hname z x hx,hname z y hy,JhO]
 ·rw [hname a x hx,hname b y hy];cases hl:Go.Sort.ltStr b a with
  | false=> rfl
  | true=> exact absurd (JAJ _ _ _ h hl) (JvJ _)
theorem JeI {p:Pol}:(Jv (Je p).rules).Pairwise fun x y=> x.1≠y.1:=
 (Jcg (Jb8 p)).up.imp fun h e=> by rw [e,JhO] at h;cases h
theorem Jcz {p:Pol} {l:List TRow} (h:∀r∈p.rules,Jap l r.name=true):∀g∈Jv (Je p).rules,JpL l g.1:=fun g hg=> by
 obtain ⟨k1,k2⟩:=(Jcg (Jb8 p)).rows g hg
 obtain ⟨q,hq⟩:=List.exists_mem_of_ne_nil _ k2
 rw [k1] at hq
 obtain ⟨q1,q2⟩:=List.mem_filter.1 hq
 obtain ⟨r,hr,hn⟩:=JeY q1
 rw [← JaG.1 q2,(Jbp hn).2.1]
 exact Jne (h r hr)
theorem JbN {p:Pol} {l:List TRow} (h:(JT p l).2=0):∀r∈p.rules,Jap l r.name=true:=fun r hr=> by
 obtain ⟨_,_,h3⟩:=Jac.1 h
 obtain ⟨i,hi,rfl⟩:=List.getElem_of_mem hr
 have:=h3 i hi
 unfold JbQ at this
 rw [show p.rules.getD i Jg=p.rules[i] by simp [List.getD,hi]] at this
 cases hf:Jap l p.rules[i].name with
 | true=> rfl
 | false=> rw [if_pos hf] at this;cases this
def J0 (p:Pol) (l:List TRow):Plan:=⟨JJ p.dflt,p.x32,fun a=> Jfd (Jbg (Je p) l (Jv (Je p).rules) a),fun m=> Jjj (Jb7 l (Jv (Je p).rules) m)⟩
theorem JvR {p:Pol} {l:List TRow} (h:(JT p l).2=0) {a:Nat} (ha:a < 5) {D:List (Nat×AV)} (e:PEnt→Nat×AV) (he:∀x,(e x).1=x.num) (hp:D.Perm ((Jbg (Je p) l (Jv (Je p).rules) a).map e)) (hs:D.Pairwise fun x y=> x.1≤y.1):D=((J0 p l).ents a).map e:=by
 have hn:=JhP (p:=Je p) (Jac.1 h).2.1 ha JeI (Jcz (p:=p) (JbN h))
 refine JgU (key:=(·.1)) (hp.trans ((JfQ _).symm.map e)) hs ?_ ?_
 ·rw [List.pairwise_map];exact (JpJ _).imp fun h=> by rw [he,he];exact h
 ·refine (hp.map (·.1)).nodup_iff.2 ?_;rw [List.map_map,show ((fun x:Nat×AV=> x.1)∘e)=(fun x:PEnt=> x.num) from funext he];exact hn
theorem JvS {p:Pol} {l:List TRow} (h:(JT p l).2=0) {a:Nat} {D:List (Nat×AV)} (e:PSub→Nat×AV) (he:∀x,(e x).1=x.num) (hp:D.Perm ((Jb7 l (Jv (Je p).rules) a).map e)) (hs:D.Pairwise fun x y=> x.1≤y.1):D=((J0 p l).subs a).map e:=by
 have hn:=JhQ (m:=a) (Jac.1 h).2.1 JeI (Jcz (p:=p) (JbN h))
 refine JgU (key:=(·.1)) (hp.trans ((JfR _).symm.map e)) hs ?_ ?_
 ·rw [List.pairwise_map];exact (JpK _).imp fun h=> by rw [he,he];exact h
 ·refine (hp.map (·.1)).nodup_iff.2 ?_;rw [List.map_map,show ((fun x:Nat×AV=> x.1)∘e)=(fun x:PSub=> x.num) from funext he];exact hn
def Jy:PRul:=⟨[],0⟩
def Jb9 (r:PRul):AV:= .ag [JaT r.conds,u32 (r.code:Nat)]
def JK (l:List PRul):AV:=JF 2 Jb9 Jy l
def ent0:PEnt:=⟨0, []⟩
def sub0:PSub:=⟨0,0⟩
def Jar (e:PEnt):AV:= .ag [u32 (e.num:Nat),JK e.rules]
def JgV (s:PSub):AV:= .ag [u32 (s.num:Nat),u32 (s.code:Nat)]
def Jlk:Plan:=⟨0,false,fun _=> [],fun _=> []⟩
def JhR (P:Plan):AV:= .ag [u32 (P.dflt:Nat),boolA P.x32,JF 2 Jar ent0 (P.ents 0),JF 2 Jar ent0 (P.ents 1),JF 2 Jar ent0 (P.ents 2),JF 2 Jar ent0 (P.ents 3),JF 2 Jar ent0 (P.ents 4),JF 2 JgV sub0 (P.subs 0),JF 2 JgV sub0 (P.subs 1)]
theorem JxH {arg op:Int} {mask value:Nat} (h:value > 4294967295):JaU ⟨arg,op,mask,value⟩=(cnd0,if op=2∨op=3 then 1 else 2):=if_pos h
theorem Jkf {arg op:Int} {mask value:Nat} (h:¬value > 4294967295):JaU ⟨arg,op,mask,value⟩=if op=7 then (if mask&&& 4294967295=0 then (cnd0,1) else (⟨arg,op,mask&&& 4294967295,value⟩,0)) else (⟨arg,op,mask,value⟩,0):=if_neg h
theorem Jn1 (c:Cnd) (ho:c.ok):Tells Tryz.prog 105 [Jt c] (.tup [Jt (JaU c).1,int (JaU c).2]):=by
 obtain ⟨arg,op,mask,value⟩:=c
 refine Jc Tryz.func105 rfl rfl fun nx=> ?_
 have hb:Jb2 .and .u64 mask 4294967295=((mask&&& 4294967295:Nat):Int):=JrL ho.1 Dc
 (repeat' (refine Z ?_;intro c h;cases c))
 all_goals
  refine Z ?_;refine Jf rfl ⟨rfl,Tt⟩ (AVle.of_eq ?_)
  (try simp only [JaY, JaZ, Ja0, Ja1, JaR, JaS] at *)
  first
   | (rw [JxH Om];first | (rw [if_pos Om];rfl) | (rw [if_neg Om];rfl))
   | (exfalso;omega)
   | (rw [Jkf Om,if_neg Om];rfl)
   | (rw [Jkf Om,if_pos Om,if_pos Om];rfl)
   | (rw [Jkf Om,if_pos Om,if_neg Om];refine Eq.trans ?_ (congrArg (fun z:Int=> AV.tup [.ag [int arg,int op, .v (.int .u64 z), .v (.int .u64 value)],int 0]) hb);rfl)
theorem JjO (a:A2) (h:right9 a.1 a.2=true):Tells Tryz.prog 16 [Jw9 a] (u32 (JJ a:Nat)):=by
 refine Jc Tryz.func16 rfl rfl fun nx=> ?_
 refine Z ?_
 refine Ja rfl rfl (JrX a h) Y1 fun nx2=> ?_
 refine Z ?_
 exact Jb rfl Rf
def JA0:Option PRul→AV
 | none=> .tup [Jb9 Jy,boolA false]
 | some q=> .tup [Jb9 q,boolA true]
theorem Jef {α:Type} {e:α→AV} {d:α} {sz:Nat} {l:List α} {x:α} {f':Nat→AV} {i j:Vl.Id} (hf:f' 0=e x) (h:i.2=j.2):AVle (.os sz (l.length+1) (JcD l.length (fun k=> e (l.getD k d)) f') (some i)) (.os sz (l++ [x]).length (fun k=> e ((l++ [x]).getD k d)) (some j)):=by
 rw [List.length_append]
 refine (AVle.os_fun (JbW (fun k hk=> ?_) ?_)).trans (AVle.os_nm h)
 ·rw [show (l++ [x]).getD k d=l.getD k d by simp [List.getD,List.getElem?_append_left hk]]
 ·rw [hf,show (l++ [x]).getD l.length d=x by simp [List.getD]]
theorem JtE {cs:List Cnd} {i:Nat} (hi:i < cs.length):(cs.take (i+1)).filterMap JgR=(cs.take i).filterMap JgR++(JgR (cs.getD i cnd0)).toList:=by
 rw [Ja9 cnd0 hi,List.filterMap_append]
 congr 1
theorem JtF {cs:List Cnd} (h:∀j,j < cs.length→JcN (cs.getD j cnd0)=false):cs.any JcN=false:=by
 rw [Bool.eq_false_iff]
 intro ha
 obtain ⟨c,hc,hb⟩:=List.any_eq_true.1 ha
 obtain ⟨j,hj,rfl⟩:=List.getElem_of_mem hc
 have:=h j hj
 rw [show cs.getD j cnd0=cs[j] by simp [List.getD,hj]] at this
 rw [this] at hb;cases hb
theorem JxI {cs:List Cnd} {i:Nat} (hi:i < cs.length) (h:JcN (cs.getD i cnd0)=true):cs.any JcN=true:=by
 refine List.any_eq_true.2 ⟨cs.getD i cnd0, ?_,h⟩
 simp [List.getD,hi]
theorem JpM {oi:Option Vl.Id} {n:Nat}:Joy oi n (J2 oi n):=by
 have:=JqP (oi:=oi) (n:=n) (pm:= [])
 rwa [List.append_nil] at this
def JtG (l:List Cnd):Nat→AV:=fun k=> Jt (l.getD k cnd0)
theorem Jme (r:PRul) (hok:∀c∈r.conds,c.ok) (hl:r.conds.length≤1000000):Tells Tryz.prog 55 [Jb9 r] (JA0 (JeG r)):=by
 obtain ⟨cs,k⟩:=r
 dsimp only at hok hl
 refine Jc Tryz.func55 rfl rfl fun nx=> ?_
 refine Z ?_
 refine Jm (fun y:Nat×List Cnd×Option Nat×Nat=> mk 38 [(1, .bp (0,nx) 0),(2, .bp (1,nx+1) 0),(3,boolA false),(4, .bp (2,nx+2) 0),(13,JaT cs),(14,int cs.length),(15,int y.1)] ⟨[((2,nx+2), .c [.os 4 y.2.1.length (JtG y.2.1) (nmd y.2.2.1),u32 (k:Nat)]),((1,nx+1), .c [.os 0 0 (fun _=> .any) none,u32 0]),((0,nx), .c [JaT cs,u32 (k:Nat)])],J2 (nmd y.2.2.1) (y.2.1.length * 4),y.2.2.2,3⟩)
  (fun y=> y.1≤cs.length∧y.2.1=(cs.take y.1).filterMap JgR∧(y.2.2.1=none→y.2.1= [])∧∀j,j < y.1→JcN (cs.getD j cnd0)=false) (fun y=> cs.length - y.1) ?_ ?_
 ·exact ⟨(0, [],none,nx+3),⟨Nat.zero_le _,rfl,fun _=> rfl,fun j h=> absurd h (Nat.not_lt_zero _)⟩,Jh (pm:= []) _ [] rfl rfl Sf Sf ⟨rfl,⟨AVle.os_nil,Y1⟩,Bf⟩ Tt Y7⟩
 ·rintro ⟨i,L,oi,nx1⟩ ⟨h1,hL,h2,h3⟩;dsimp only at h1 hL h2 h3;have hal:L.length≤i:=by rw [hL];exact Nat.le_trans (List.length_filterMap_le _ _) (by simp;omega)
  refine Z ?_;intro c g;cases c
  ·have g:=Jn g;try dsimp only at g
   have hi:i=cs.length:=by omega
   subst hi;rw [List.take_length] at hL;have hR:JeG ⟨cs,k⟩=some ⟨L,k⟩:=by
    unfold JeG;dsimp only;rw [JtF h3,hL];rfl
   rw [hR];refine Z ?_;exact Jf rfl ⟨rfl,Tt⟩ (AVle.tups (cs:= [_,_]) ⟨AVle.ags (cs:= [_,_]) ⟨AVle.os_sl,Y1⟩,Y1⟩)
  ·have g:=Jo g;try dsimp only at g
   have hi:i < cs.length:=by omega
   have hn:=Jn1 (cs.getD i cnd0) (JpB hok hi);have hnx:=JtE hi;have hst:=Jk6 (cs.getD i cnd0);refine Z ?_;refine ⟨Bd, ?_⟩;refine Z ?_;refine Ja rfl rfl hn Y1 fun nx2=> ?_;refine Z ?_;intro c t2;cases c
   ·have ht2:(JaU (cs.getD i cnd0)).2≠2:=fun e=> by rw [e] at t2;cases t2
    have hnev:JcN (cs.getD i cnd0)=false:=decide_eq_false ht2;have hlast:∀j,j < i+1→JcN (cs.getD j cnd0)=false:=fun j hj=> by
     rcases Nat.lt_or_ge j i with h | h
     ·exact h3 j h
     ·obtain rfl:j=i:=(by omega);exact hnev
    refine Z ?_;intro c t0;cases c
    ·have ht0:(JaU (cs.getD i cnd0)).2≠0:=fun e=> by rw [e] at t0;cases t0
     rw [show JgR (cs.getD i cnd0)=none from if_neg ht0] at hnx;refine Z ?_;exact back (i+1,L,oi,nx2+1) ⟨hi,by dsimp only;rw [hnx,← hL];exact (List.append_nil _).symm,h2,hlast⟩ Dm (Jh _ _ rfl rfl (.cons _ (.cons _ Sf)) Sf Bf Pf ⟨Rf,Rf,Rf,Rf,Rf,Rf,Lw,Tt⟩)
    ·have ht0:(JaU (cs.getD i cnd0)).2=0:=by
      have:=of_decide_eq_true (p:=((JaU (cs.getD i cnd0)).2:Int)=0) t0.symm;omega
     rw [show JgR (cs.getD i cnd0)=some (JaU (cs.getD i cnd0)).1 from if_pos ht0] at hnx;refine Z ?_;refine ⟨JpM,JG rfl,by show (L.length+1) * 32≤_;omega,by show L.length+1≤_;omega, ?_⟩;refine Z ?_;exact back (i+1,L++ [(JaU (cs.getD i cnd0)).1],some (nx2+1),nx2+2) ⟨hi,by dsimp only;rw [hnx,← hL];rfl,(fun h=> by cases h),hlast⟩ Dm (Jh (bx:= [((2,nx+2), .c [.os 4 (L++ [(JaU (cs.getD i cnd0)).1]).length (JtG (L++ [(JaU (cs.getD i cnd0)).1])) (some (0,nx2+1)),u32 (k:Nat)]),((1,nx+1), .c [.os 0 0 (fun _=> .any) none,u32 0]),((0,nx), .c [JaT cs,u32 (k:Nat)])]) _ [((5,nx2+1),(L.length+1) * 4)] rfl rfl (.cons _ (.cons _ Sf)) (.cons_cons _ (List.nil_sublist _)) ⟨rfl,⟨Jef (e:=Jt) rfl rfl,Y1⟩,Bf⟩ ⟨rfl,by rw [List.length_append];rfl,Tt⟩ ⟨Rf,Rf,Rf,Rf,Rf,Rf,Lw,Tt⟩)
   ·have ht2:(JaU (cs.getD i cnd0)).2=2:=by
     have:=of_decide_eq_true (p:=((JaU (cs.getD i cnd0)).2:Int)=2) t2.symm;omega
    have hR:JeG ⟨cs,k⟩=none:=if_pos (JxI hi (decide_eq_true ht2));rw [hR];refine Z ?_;exact Jf rfl ⟨rfl,Tt⟩ (AVle.tups (cs:= [_,_]) ⟨AVle.ags (cs:= [_,_]) ⟨AVle.os_sl0,Y1⟩,Y1⟩)
def Jcj (l:List TRow) (r:Rul):Bool:=decide ((Jak l r.name).mux > 0)&& decide (0 < r.conds.length)
theorem JvT (l:List TRow) (r:Rul) (hl:l.length≤1000000) (hs:JhG l r.name):Tells Tryz.prog 48 (J7 r:: [.rp [trows l]]) (boolA (Jcj l r)):=by
 have hw:=Jvh l r.name hl hs
 unfold Jcj
 generalize decide ((Jak l r.name).mux > 0)=b at hw⊢
 generalize (Jap l r.name&& decide ((Jak l r.name).a2≥0))=b2 at hw
 refine Jc Tryz.func48 rfl rfl fun nx=> ?_
 refine Z ?_
 refine Ja rfl rfl hw Y2 fun nx2=> ?_
 refine Z ?_
 intro c1 hc1
 subst hc1
 refine Z ?_
 intro c e1;cases c
 ·have hb:b=false:=e1.symm;subst hb;refine Z ?_;exact Jb rfl Rf
 ·have hb:b=true:=e1.symm;subst hb;refine Z ?_;intro c2 hc2;have e2:decide (0 < r.conds.length)=c2:=by
   rw [hc2];by_cases h0:0 < r.conds.length
   ·rw [decide_eq_true h0];exact (decide_eq_true Om).symm
   ·rw [decide_eq_false h0];exact (decide_eq_false Om).symm
  rw [e2];clear hc2 e2;cases c2 <;> (refine Z ?_;exact Jb rfl Rf)
theorem JvU (x:List AV) (l:List Rul) (p:Rul→Bool) (f:Nat) (hl:l.length≤1000000000) (hp:∀i,i < l.length→Tells Tryz.prog f (J7 (l.getD i Jg):: [.rp x]) (boolA (p (l.getD i Jg)))):
 Tells Tryz.prog 47 [JF 4 J7 Jg l,(.fn (.func f) [] [.rp x])] (int (JhE (l.findIdx? p))):=by
 refine Jc Tryz.func47 rfl rfl fun nx=> ?_
 refine Z ?_
 refine Jm (fun s:Nat×Nat=> mk 19 [(0,JF 4 J7 Jg l),(1,(.fn (.func f) [] [.rp x])),(7,int l.length),(8,int s.1)] ⟨[], [],s.2,0⟩) (fun s=> s.1≤l.length∧∀j,j < s.1→p (l.getD j Jg)=false) (fun s=> l.length - s.1) ?_ ?_
 ·exact ⟨(0,nx),⟨by simp,by intro j hj;simp at hj⟩,Jax rfl rfl Y4⟩
 ·rintro ⟨i,nx⟩ ⟨h1,h2⟩;dsimp only at h1 h2;refine Z ?_;intro c h3;cases c
  ·have h3:=Jn h3;dsimp only at h3;refine Z ?_;refine Jb rfl (Jk ?_);rw [JeR Jg (fun j hj=> h2 j Om)];rfl
  ·have h3:=Jo h3;dsimp only at h3;have hi:i < l.length:=by omega
   refine Z ?_;refine ⟨⟨Dm,Dm⟩, ?_⟩;refine Z ?_;refine Ja rfl rfl (hp i hi) Y2 fun nx'=> ?_;intro c h4;cases c
   ·refine Z ?_;refine back (i+1,nx') ⟨Dm,fun j hj=> ?_⟩ Dm (Jax rfl rfl ⟨Rf,Rf,Rf,Jk (JC Dm),Tt⟩);dsimp only at hj;rcases Nat.lt_or_ge j i with h | h
    ·exact h2 j h
    ·obtain rfl:j=i:=(by omega);exact h4.symm
   ·refine Z ?_;refine Jb rfl (Jk ?_);rw [Jg6 Jg hi h2 h4.symm];rfl
theorem Jze {α:Type} {l:List α} {p:α→Bool} {i:Nat} (h:l.findIdx? p=some i):i < l.length:=(List.findIdx?_eq_some_iff_getElem.1 h).1
def JxJ (p:Pol) (l:List TRow):AV:=match p.rules.findIdx? (Jcj l) with
 | none=> .tup [int 0,boolA true]
 | some i=> .tup [int i,boolA false]
theorem Jmf (p:Pol) (l:List TRow) (hp:p.rules.length≤1000000) (hl:l.length≤1000000) (hs:Jl7 l):Tells Tryz.prog 14 [polA p,trows l] (JxJ p l):=by
 have hx:=JvU [trows l] p.rules (Jcj l) 48 Om fun i _=> JvT l _ hl (Jfa hs _)
 unfold JxJ
 cases hi:p.rules.findIdx? (Jcj l) with
 | none=>
   rw [hi] at hx;refine Jc Tryz.func14 rfl rfl fun nx=> ?_
   (refine JE ?_;refine JZ ?_;refine JE ?_)
   refine JaX (n:=15) (nx:=nx+2) (nn:=2) (pm:= []) (bx:= []) (L:= [(2, .rp [int p.dflt.1,int p.dflt.2,boolA p.x32,JW p.rules]),(3, .rp [trows l]),(4,int 0),(5,boolA false)]) (df:=some []) [((1,nx+1), .c [trows l]),((0,nx), .c [int p.dflt.1,int p.dflt.2,boolA p.x32,JW p.rules])] rfl rfl rfl (List.Perm.refl _) Sf ⟨Frz.bp (.tail _ (.head _)) rfl,Frz.bp (.head _) rfl,Frz.refl _,Frz.refl _,Tt⟩ ?_;refine Z ?_;refine Ja rfl rfl hx Y2 fun nx2=> ?_;refine Z ?_;exact Jf rfl Tt (AVle.of_eq rfl)
 | some i=>
   have hlt:=Jze hi;rw [hi] at hx;refine Jc Tryz.func14 rfl rfl fun nx=> ?_
   (refine JE ?_;refine JZ ?_;refine JE ?_)
   refine JaX (n:=15) (nx:=nx+2) (nn:=2) (pm:= []) (bx:= []) (L:= [(2, .rp [int p.dflt.1,int p.dflt.2,boolA p.x32,JW p.rules]),(3, .rp [trows l]),(4,int 0),(5,boolA false)]) (df:=some []) [((1,nx+1), .c [trows l]),((0,nx), .c [int p.dflt.1,int p.dflt.2,boolA p.x32,JW p.rules])] rfl rfl rfl (List.Perm.refl _) Sf ⟨Frz.bp (.tail _ (.head _)) rfl,Frz.bp (.head _) rfl,Frz.refl _,Frz.refl _,Tt⟩ ?_;refine Z ?_;refine Ja rfl rfl hx Y2 fun nx2=> ?_;refine Z ?_;exact Jf rfl Tt (AVle.tups (cs:= [_,_]) ⟨Jk (if_neg (show ¬(0:Int) > (i:Int) by omega)),Y1⟩)
theorem JtH {a b:Own} (h:a=b):OwnLe a b:=h ▸ OwnLe.refl a
theorem Jr4:Jbc Tryz.prog 73=true:=by kernel_rfl
theorem gc_trow:Tryz.prog.cellsOf 73=8:=by kernel_rfl
theorem Jr5:Tryz.prog.bytesOf 73=72:=by kernel_rfl
theorem Jjk (x:TRow):(Jj x).cells.length=8:=rfl
theorem Jzf (x:TRow):(Jj x).cells.all Jb3=true:=rfl
theorem JvV (n:Nat) (h0:0 < n) (hn:n≤100000) (nx:Nat):
 ECall Tryz.prog 135 [.os 0 0 (fun _=> .any) none,int n] ⟨[], [],nx,0⟩ (fun r h'=> ∃s cap nx' nn',n≤cap∧r= .hs (0,s) 0 0 cap∧h'=⟨[((0,s), .c (List.replicate (cap * 8) .any))], [],nx',nn'⟩):=by
 refine ECall.wk (JB Tryz.func135 rfl rfl ?_)
 refine Z ?_
 refine Jj2 rfl rfl Tryz.underlying54 ?_
 refine Z ?_
 intro c hc
 replace hc:c=decide (IntKind.i64.wrap ((n:Int) - 0) > 0):=hc
 rw [JaE Om Om,decide_eq_true Om] at hc
 subst hc
 refine JE ?_
 refine JI (Ef [7,6,4,1]) 10 ?_
 refine Z ?_
 refine Jj2 rfl rfl Tryz.underlying54 ?_
 refine Z ?_
 refine Jw0 rfl rfl rfl Tryz.underlying54 Tryz.underlying73 ?_
 refine Z ?_
 have hw:IntKind.i64.wrap ((n:Int) - 0)=n:=by rw [JaE Om Om];omega
 refine JnT (m:=n) (kq:= .i64) (kn:= .i64) (e:=73) rfl rfl (congrArg (fun z=> AV.v (.int .i64 z)) hw) Om Tryz.underlying3 Tryz.underlying54 Jr4 (by rw [Jr5];omega) Om fun cap hcap=> ?_
 refine Z ?_
 refine JoR (l:=0) (k':= .i64) rfl rfl rfl Tryz.underlying54 Tryz.underlying73 (Nat.zero_le _) Om ?_
 refine Z ?_
 exact Jad rfl ⟨_,_,Rf,HLe.refl _,nx,cap,_,_,hcap,rfl,by rw [gc_trow];rfl⟩
theorem JtI:Tells Tryz.prog 135 [.os 0 0 (fun _=> .any) none,int (0:Nat)] (.os 0 0 (fun _=> .any) none):=by
 refine Jc Tryz.func135 rfl rfl fun nx=> ?_
 refine Z ?_
 refine Jj2 rfl rfl Tryz.underlying54 ?_
 refine Z ?_
 exact Jb rfl Rf
def JdO (L:List (List TRow)) (oi:Option Vl.Id):AV:= .os 1 L.length (fun k=> JF 8 Jj Jd (L.getD k [])) oi
theorem Jnf (l:List TRow):Jw l.length (fun k=> Jj (l.getD k Jd))=l.flatMap fun x=> (Jj x).cells:=by
 have key:∀m,m≤l.length→Jw m (fun k=> Jj (l.getD k Jd))=(l.take m).flatMap fun x=> (Jj x).cells:=by
  intro m
  induction m with
  | zero=> intro _;rfl
  | succ m ih=>
    intro hm;have hm':m < l.length:=(by omega);have e:Jw (m+1) (fun k=> Jj (l.getD k Jd))=Jw m (fun k=> Jj (l.getD k Jd))++(Jj (l.getD m Jd)).cells:=(by unfold Jw;rw [List.range_succ,List.flatMap_append];simp);rw [e,ih Om,List.take_add_one,List.flatMap_append];simp [List.getD,hm']
 rw [key _ (Nat.le_refl _),List.take_of_length_le (Nat.le_refl _)]
theorem JiI (l:List TRow):(l.flatMap fun x=> (Jj x).cells).length=l.length * 8:=by
 induction l with
 | nil=> rfl
 | cons x l ih=> rw [List.flatMap_cons,List.length_append,ih,Jjk,List.length_cons];omega
theorem JvW (l:List TRow) (k j:Nat) (hk:k < l.length) (hj:j < 8):(l.flatMap fun x=> (Jj x).cells)[k * 8+j]? =(Jj (l.getD k Jd)).cells[j]? :=by
 rw [← Jnf]
 exact (Jds (sz:=8) (fun i hi=> Jjk _)).2 k j hk hj
theorem Jrf (L:List (List TRow)) (hL:L.length≤1000) (hn:L.flatten.length≤100000) (oi:Option Vl.Id):Tells Tryz.prog 77 [JdO L none] (JF 8 Jj Jd L.flatten):=by
 have hpre:∀i,i < L.length→(L.take (i+1)).flatten.length=(L.take i).flatten.length+(L.getD i []).length:=fun i hi=> by
  rw [Ja9 [] hi,List.flatten_append,List.length_append];simp
 have hle:∀i,(L.take i).flatten.length≤L.flatten.length:=fun i=> by
  conv=> rhs;rw [← List.take_append_drop i L,List.flatten_append,List.length_append]
  omega
 refine Jc Tryz.func77 rfl rfl fun nx=> ?_
 refine Z ?_
 refine JdG (fun y:Nat=> mk 36 [(0,JdO L none),(3,int (L.flatten.length:Nat))] ⟨[], [],y,0⟩) (fun _=> True) ?_ ?_
 ·refine Jm (fun y:Nat×Nat=> mk 36 [(0,JdO L none),(3,int ((L.take y.1).flatten.length:Nat)),(9,JdO L none),(10,int L.length),(11,int y.1)] ⟨[], [],y.2,0⟩) (fun y=> y.1≤L.length) (fun y=> L.length - y.1) ?_ ?_
  ·exact ⟨(0,nx),Nat.zero_le _,Jf9 rfl rfl Sf Sf Y5⟩
  ·rintro ⟨i,nx1⟩ h1;dsimp only at h1;refine Z ?_;intro c g;cases c
   ·have g:=Jn g;try dsimp only at g
    obtain rfl:i=L.length:=(by omega);refine Z ?_;refine ⟨nx1,trivial,Jf9 rfl rfl Sf Sf ⟨Rf, ?_,Tt⟩⟩;exact AVle.of_eq (congrArg (fun z:List (List TRow)=> int (z.flatten.length:Nat)) List.take_length)
   ·have g:=Jo g;try dsimp only at g
    have hi:i < L.length:=(by omega);have e1:=hpre i hi;have e2:=hle (i+1);refine Z ?_;refine ⟨Bd, ?_⟩;have hw:IntKind.i64.wrap ((((L.take i).flatten.length:Nat):Int)+((L.getD i []).length:Int))=(((L.take (i+1)).flatten.length:Nat):Int):=(by rw [JaE Om Om];omega);refine Z ?_;intro c hc
    replace hc:c=decide (IntKind.i64.wrap ((((L.take i).flatten.length:Nat):Int)+((L.getD i []).length:Int)) < 0):=hc
    rw [hw,decide_eq_false Om] at hc;subst hc;refine Z ?_;exact back (i+1,nx1) hi Dm (Jf9 rfl rfl Sf Sf ⟨Rf,Jk hw,Rf,Rf,Lw,Tt⟩)
 ·intro nx1 _;rcases Nat.eq_zero_or_pos L.flatten.length with h0 | h0
  ·have hemp:∀i,i < L.length→(L.getD i []).length=0:=fun i hi=> by
    have:=hpre i hi;have:=hle (i+1);omega
   have hnil:L.flatten= []:=List.eq_nil_of_length_eq_zero h0;rw [hnil];refine Z ?_;refine Ja rfl rfl JtI Y2 fun nx2=> ?_;refine Z ?_;refine Jm (fun y:Nat×Nat=> mk 36 [(6, .os 0 0 (fun _=> .any) none),(25,JdO L none),(26,int L.length),(27,int y.1)] ⟨[], [],y.2,0⟩) (fun y=> y.1≤L.length) (fun y=> L.length - y.1) ?_ ?_
   ·exact ⟨(0,nx2),Nat.zero_le _,Jf9 rfl rfl Sf Sf Y4⟩
   ·rintro ⟨i,nx3⟩ h1;dsimp only at h1;refine Z ?_;intro c g;cases c
    ·refine Z ?_;exact Jb rfl AVle.os_sl0
    ·have g:=Jo g;try dsimp only at g
     have hi:i < L.length:=(by omega);have e1:=hemp i hi;have e2:L.getD i []= []:=List.eq_nil_of_length_eq_zero e1;refine Z ?_;refine ⟨Bd, ?_⟩;refine Z ?_;refine Jky (fun _=> ?_) (fun h=> absurd e1 h);refine Z ?_;exact back (i+1,nx3) hi Dm (Jf9 rfl rfl Sf Sf ⟨Rf,Rf,Rf,Lw,Tt⟩)
  ·refine Z ?_;refine JH (xs:= [.os 0 0 (fun _=> .any) none,int (L.flatten.length:Nat)]) [] [] 1 rfl rfl rfl rfl Y2 (JvV L.flatten.length h0 hn nx1) Bf Pf rfl fun r h' hq=> ?_;obtain ⟨s,cap,nx2,nn2,hcap,rfl,rfl⟩:=hq;refine Z ?_;refine Jm (fun y:Nat×List AV×Nat=> mk 36 [(6, .hs (0,s) 0 ((L.take y.1).flatten.length) cap),(25,JdO L none),(26,int L.length),(27,int y.1)] ⟨[((0,s), .c y.2.1)], [],y.2.2,1⟩) (fun y=> y.1≤L.length∧y.2.1.length=cap * 8∧y.2.1.take ((L.take y.1).flatten.length * 8)=(L.take y.1).flatten.flatMap fun x=> (Jj x).cells) (fun y=> L.length - y.1) ?_ ?_
   ·exact ⟨(0,List.replicate (cap * 8) .any,nx2),⟨Nat.zero_le _,by simp,by simp⟩,Jh _ _ rfl rfl Sf .slnil Bf Tt Y4⟩
   ·rintro ⟨i,cs,nx3⟩ ⟨h1,h2,h3⟩;dsimp only at h1 h2 h3;refine Z ?_;intro c g;cases c
    ·have g:=Jn g;try dsimp only at g
     obtain rfl:i=L.length:=(by omega);rw [List.take_length] at h3;have hcl:L.flatten.length * 8≤cap * 8:=Nat.mul_le_mul_right _ hcap;refine JE ?_;refine AW.le (Jcw (L:= [(6,JF 8 Jj Jd L.flatten)]) (bx:= []) (pm:= []) (nn:=1) [((0,s), .c cs)] rfl rfl Sf .slnil ⟨?_,Tt⟩) ?_
     ·refine (Frz.of_le (AVle.of_eq (b:= .hs (0,s) 0 L.flatten.length cap) ?_)).trans (Frz.hs (cs:=cs) (.head _) hcap (.inr Om) (fun k hk=> Jjk _) (fun k hk j c hj=> ?_) Om)
      ·show AV.hs (0,s) 0 ((L.take L.length).flatten.length) cap=_;rw [List.take_length]
      ·have hjl:j < 8:=(by have:=(List.getElem?_eq_some_iff.1 hj).1;rw [Jjk] at this;exact this);refine ⟨c, ?_,Rf⟩;have hkk:k * 8+j < L.flatten.length * 8:=by
        have:(k+1) * 8≤L.flatten.length * 8:=Nat.mul_le_mul_right _ hk;omega
       have h4:=JvW L.flatten k j hk hjl;rw [← h3,List.getElem?_take,if_pos hkk,hj] at h4;rw [Nat.zero_add];exact h4
     ·refine Z ?_;exact Jb rfl Rf
    ·have g:=Jo g;try dsimp only at g
     have hi:i < L.length:=(by omega);have e1:=hpre i hi;have e2:=hle (i+1);have hfl:(L.take (i+1)).flatten=(L.take i).flatten++L.getD i []:=(by rw [Ja9 [] hi,List.flatten_append];simp);have hcl:((L.take i).flatten.length+(L.getD i []).length) * 8≤cap * 8:=Nat.mul_le_mul_right _ Om;refine Z ?_;refine ⟨Bd, ?_⟩;refine JE ?_;refine JI (Ef [1]) 4 ?_;refine Z ?_;refine Je7 (m:=(L.getD i []).length) (f':=fun k=> Jj ((L.getD i []).getD k Jd)) (szx:=8) (n:=(L.take i).flatten.length) (cap:=cap) (cs:=cs) (i:=(0,s)) rfl rfl (.inl rfl) Tryz.underlying54 Jr4 (.inr gc_trow.symm) (by rfl) Om (by rw [gc_trow];omega) (fun k hk=> Jzf _) (fun _=> by rw [Jr5];omega) (fun _=> by omega) (fun hm=> ?_) (fun hm hfit=> ?_) (fun hm hnf=> absurd Om hnf)
     ·have e3:L.getD i []= []:=List.eq_nil_of_length_eq_zero hm;rw [e3,List.append_nil] at hfl;refine Z ?_;exact back (i+1,cs,nx3) ⟨hi,h2,by dsimp only;rw [hfl];exact h3⟩ Dm (Es rfl rfl ⟨AVle.of_eq (congrArg (fun z=> AV.hs (0,s) 0 z cap) (by rw [hfl]:(L.take i).flatten.length=(L.take (i+1)).flatten.length)),Rf,Rf,Lw,Tt⟩)
     ·refine Z ?_;refine back (i+1,Jaa cs ((L.take i).flatten.length * 8) ((L.getD i []).flatMap fun x=> (Jj x).cells),nx3) ⟨hi, ?_, ?_⟩ Dm (Jh _ _ rfl rfl Sf .slnil ⟨rfl,JtH (congrArg Own.c ?_),Tt⟩ Tt ⟨AVle.of_eq (congrArg (fun z=> AV.hs (0,s) 0 z cap) e1.symm),Rf,Rf,Lw,Tt⟩)
      ·have hf:=JiI (L.getD i []);simp only [JaP,List.length_append,List.length_take,List.length_drop,hf];omega
      ·have hf:=JiI (L.getD i []);dsimp only;rw [hfl,List.flatMap_append,JaP,List.length_append,← List.append_assoc,h3];have hpl:(List.flatMap (fun x=> (Jj x).cells) (L.take i).flatten++List.flatMap (fun x=> (Jj x).cells) (L.getD i [])).length=((L.take i).flatten.length+(L.getD i []).length) * 8:=by
        rw [List.length_append,hf,JiI];omega
       rw [← hpl,List.take_left]
      ·rw [gc_trow,Jnf]
def JiJ:List TRow:= [
 ⟨⟨#[97,99,99,101,112,116]⟩,43,43,-1,202,202,1,5⟩,
 ⟨⟨#[97,99,99,101,112,116,52]⟩,288,288,364,242,242,1,18⟩,
 ⟨⟨#[98,105,110,100]⟩,49,49,361,200,200,1,2⟩,
 ⟨⟨#[98,114,107]⟩,12,12,45,214,214,0,0⟩,
 ⟨⟨#[99,108,111,110,101]⟩,56,56,120,220,220,0,0⟩,
 ⟨⟨#[99,108,111,115,101]⟩,3,3,6,57,57,0,0⟩,
 ⟨⟨#[99,111,110,110,101,99,116]⟩,42,42,362,203,203,1,3⟩,
 ⟨⟨#[100,117,112]⟩,32,32,41,23,23,0,0⟩,
 ⟨⟨#[100,117,112,50]⟩,33,33,63,-1,-1,0,0⟩,
 ⟨⟨#[101,112,111,108,108,95,99,114,101,97,116,101,49]⟩,291,291,329,20,20,0,0⟩,
 ⟨⟨#[101,112,111,108,108,95,99,116,108]⟩,233,233,255,21,21,0,0⟩,
 ⟨⟨#[101,112,111,108,108,95,119,97,105,116]⟩,232,232,256,-1,-1,0,0⟩,
 ⟨⟨#[101,120,101,99,118,101]⟩,59,520,11,221,221,0,0⟩,
 ⟨⟨#[101,120,105,116]⟩,60,60,1,93,93,0,0⟩,
 ⟨⟨#[101,120,105,116,95,103,114,111,117,112]⟩,231,231,252,94,94,0,0⟩,
 ⟨⟨#[102,99,104,100,105,114]⟩,81,81,133,50,50,0,0⟩,
 ⟨⟨#[102,99,110,116,108]⟩,72,72,55,25,25,0,0⟩,
 ⟨⟨#[102,111,114,107]⟩,57,57,2,-1,-1,0,0⟩,
 ⟨⟨#[102,115,116,97,116]⟩,5,5,108,80,80,0,0⟩,
 ⟨⟨#[102,117,116,101,120]⟩,202,202,240,98,98,0,0⟩,
 ⟨⟨#[103,101,116,99,119,100]⟩,79,79,183,17,17,0,0⟩,
 ⟨⟨#[103,101,116,112,101,101,114,110,97,109,101]⟩,52,52,368,205,205,1,7⟩,
 ⟨⟨#[103,101,116,112,105,100]⟩,39,39,20,172,172,0,0⟩,
 ⟨⟨#[103,101,116,114,97,110,100,111,109]⟩,318,318,355,278,278,0,0⟩,
 ⟨⟨#[103,101,116,115,111,99,107,110,97,109,101]⟩,51,51,367,204,204,1,6⟩,
 ⟨⟨#[103,101,116,115,111,99,107,111,112,116]⟩,55,542,365,209,209,1,15⟩,
 ⟨⟨#[103,101,116,117,105,100]⟩,102,102,24,174,174,0,0⟩,
 ⟨⟨#[105,111,99,116,108]⟩,16,514,54,29,29,0,0⟩,
 ⟨⟨#[107,105,108,108]⟩,62,62,37,129,129,0,0⟩,
 ⟨⟨#[108,105,115,116,101,110]⟩,50,50,363,201,201,1,4⟩]
theorem Jrg:JcE Tryz.prog 54 30 [(0,Jj ⟨⟨#[97,99,99,101,112,116]⟩,43,43,-1,202,202,1,5⟩),(1,Jj ⟨⟨#[97,99,99,101,112,116,52]⟩,288,288,364,242,242,1,18⟩),(2,Jj ⟨⟨#[98,105,110,100]⟩,49,49,361,200,200,1,2⟩),(3,Jj ⟨⟨#[98,114,107]⟩,12,12,45,214,214,0,0⟩),(4,Jj ⟨⟨#[99,108,111,110,101]⟩,56,56,120,220,220,0,0⟩),(5,Jj ⟨⟨#[99,108,111,115,101]⟩,3,3,6,57,57,0,0⟩),(6,Jj ⟨⟨#[99,111,110,110,101,99,116]⟩,42,42,362,203,203,1,3⟩),(7,Jj ⟨⟨#[100,117,112]⟩,32,32,41,23,23,0,0⟩),(8,Jj ⟨⟨#[100,117,112,50]⟩,33,33,63,-1,-1,0,0⟩),(9,Jj ⟨⟨#[101,112,111,108,108,95,99,114,101,97,116,101,49]⟩,291,291,329,20,20,0,0⟩),(10,Jj ⟨⟨#[101,112,111,108,108,95,99,116,108]⟩,233,233,255,21,21,0,0⟩),(11,Jj ⟨⟨#[101,112,111,108,108,95,119,97,105,116]⟩,232,232,256,-1,-1,0,0⟩),(12,Jj ⟨⟨#[101,120,101,99,118,101]⟩,59,520,11,221,221,0,0⟩),(13,Jj ⟨⟨#[101,120,105,116]⟩,60,60,1,93,93,0,0⟩),(14,Jj ⟨⟨#[101,120,105,116,95,103,114,111,117,112]⟩,231,231,252,94,94,0,0⟩),(15,Jj ⟨⟨#[102,99,104,100,105,114]⟩,81,81,133,50,50,0,0⟩),(16,Jj ⟨⟨#[102,99,110,116,108]⟩,72,72,55,25,25,0,0⟩),(17,Jj ⟨⟨#[102,111,114,107]⟩,57,57,2,-1,-1,0,0⟩),(18,Jj ⟨⟨#[102,115,116,97,116]⟩,5,5,108,80,80,0,0⟩),(19,Jj ⟨⟨#[102,117,116,101,120]⟩,202,202,240,98,98,0,0⟩),(20,Jj ⟨⟨#[103,101,116,99,119,100]⟩,79,79,183,17,17,0,0⟩),(21,Jj ⟨⟨#[103,101,116,112,101,101,114,110,97,109,101]⟩,52,52,368,205,205,1,7⟩),(22,Jj ⟨⟨#[103,101,116,112,105,100]⟩,39,39,20,172,172,0,0⟩),(23,Jj ⟨⟨#[103,101,116,114,97,110,100,111,109]⟩,318,318,355,278,278,0,0⟩),(24,Jj ⟨⟨#[103,101,116,115,111,99,107,110,97,109,101]⟩,51,51,367,204,204,1,6⟩),(25,Jj ⟨⟨#[103,101,116,115,111,99,107,111,112,116]⟩,55,542,365,209,209,1,15⟩),(26,Jj ⟨⟨#[103,101,116,117,105,100]⟩,102,102,24,174,174,0,0⟩),(27,Jj ⟨⟨#[105,111,99,116,108]⟩,16,514,54,29,29,0,0⟩),(28,Jj ⟨⟨#[107,105,108,108]⟩,62,62,37,129,129,0,0⟩),(29,Jj ⟨⟨#[108,105,115,116,101,110]⟩,50,50,363,201,201,1,4⟩)]=some (73, [strA ⟨#[97,99,99,101,112,116]⟩,int (43),int (43),int (-1),int (202),int (202),int 1,int 5,strA ⟨#[97,99,99,101,112,116,52]⟩,int (288),int (288),int (364),int (242),int (242),int 1,int 18,strA ⟨#[98,105,110,100]⟩,int (49),int (49),int (361),int (200),int (200),int 1,int 2,strA ⟨#[98,114,107]⟩,int (12),int (12),int (45),int (214),int (214),int 0,int 0,strA ⟨#[99,108,111,110,101]⟩,int (56),int (56),int (120),int (220),int (220),int 0,int 0,strA ⟨#[99,108,111,115,101]⟩,int (3),int (3),int (6),int (57),int (57),int 0,int 0,strA ⟨#[99,111,110,110,101,99,116]⟩,int (42),int (42),int (362),int (203),int (203),int 1,int 3,strA ⟨#[100,117,112]⟩,int (32),int (32),int (41),int (23),int (23),int 0,int 0,strA ⟨#[100,117,112,50]⟩,int (33),int (33),int (63),int (-1),int (-1),int 0,int 0,strA ⟨#[101,112,111,108,108,95,99,114,101,97,116,101,49]⟩,int (291),int (291),int (329),int (20),int (20),int 0,int 0,strA ⟨#[101,112,111,108,108,95,99,116,108]⟩,int (233),int (233),int (255),int (21),int (21),int 0,int 0,strA ⟨#[101,112,111,108,108,95,119,97,105,116]⟩,int (232),int (232),int (256),int (-1),int (-1),int 0,int 0,strA ⟨#[101,120,101,99,118,101]⟩,int (59),int (520),int (11),int (221),int (221),int 0,int 0,strA ⟨#[101,120,105,116]⟩,int (60),int (60),int (1),int (93),int (93),int 0,int 0,strA ⟨#[101,120,105,116,95,103,114,111,117,112]⟩,int (231),int (231),int (252),int (94),int (94),int 0,int 0,strA ⟨#[102,99,104,100,105,114]⟩,int (81),int (81),int (133),int (50),int (50),int 0,int 0,strA ⟨#[102,99,110,116,108]⟩,int (72),int (72),int (55),int (25),int (25),int 0,int 0,strA ⟨#[102,111,114,107]⟩,int (57),int (57),int (2),int (-1),int (-1),int 0,int 0,strA ⟨#[102,115,116,97,116]⟩,int (5),int (5),int (108),int (80),int (80),int 0,int 0,strA ⟨#[102,117,116,101,120]⟩,int (202),int (202),int (240),int (98),int (98),int 0,int 0,strA ⟨#[103,101,116,99,119,100]⟩,int (79),int (79),int (183),int (17),int (17),int 0,int 0,strA ⟨#[103,101,116,112,101,101,114,110,97,109,101]⟩,int (52),int (52),int (368),int (205),int (205),int 1,int 7,strA ⟨#[103,101,116,112,105,100]⟩,int (39),int (39),int (20),int (172),int (172),int 0,int 0,strA ⟨#[103,101,116,114,97,110,100,111,109]⟩,int (318),int (318),int (355),int (278),int (278),int 0,int 0,strA ⟨#[103,101,116,115,111,99,107,110,97,109,101]⟩,int (51),int (51),int (367),int (204),int (204),int 1,int 6,strA ⟨#[103,101,116,115,111,99,107,111,112,116]⟩,int (55),int (542),int (365),int (209),int (209),int 1,int 15,strA ⟨#[103,101,116,117,105,100]⟩,int (102),int (102),int (24),int (174),int (174),int 0,int 0,strA ⟨#[105,111,99,116,108]⟩,int (16),int (514),int (54),int (29),int (29),int 0,int 0,strA ⟨#[107,105,108,108]⟩,int (62),int (62),int (37),int (129),int (129),int 0,int 0,strA ⟨#[108,105,115,116,101,110]⟩,int (50),int (50),int (363),int (201),int (201),int 1,int 4]):=by kernel_rfl
theorem JtJ:Tells Tryz.prog 78 [] (trows JiJ):=by
 refine Jc Tryz.func78 rfl rfl fun nx=> ?_
 (refine JE ?_;refine JZ ?_;refine JE ?_)
 refine JI (fun n=> match n with | 0=> true | _=> false) 61 ?_
 refine Z ?_
 refine JmG rfl Jrg ?_
 refine Z ?_
 refine Jb rfl (AVle.os_sl.trans (AVle.sl_fun fun k hk=> ?_))
 match k,hk with
 | 0,_=> rfl
 | 1,_=> rfl
 | 2,_=> rfl
 | 3,_=> rfl
 | 4,_=> rfl
 | 5,_=> rfl
 | 6,_=> rfl
 | 7,_=> rfl
 | 8,_=> rfl
 | 9,_=> rfl
 | 10,_=> rfl
 | 11,_=> rfl
 | 12,_=> rfl
 | 13,_=> rfl
 | 14,_=> rfl
 | 15,_=> rfl
 | 16,_=> rfl
 | 17,_=> rfl
 | 18,_=> rfl
 | 19,_=> rfl
 | 20,_=> rfl
 | 21,_=> rfl
 | 22,_=> rfl
 | 23,_=> rfl
 | 24,_=> rfl
 | 25,_=> rfl
 | 26,_=> rfl
 | 27,_=> rfl
 | 28,_=> rfl
 | 29,_=> rfl
 | k+30,hk=> exact absurd hk Om
def Jll:List TRow:= [
 ⟨⟨#[108,115,101,101,107]⟩,8,8,19,62,62,0,0⟩,
 ⟨⟨#[109,107,100,105,114]⟩,83,83,39,-1,-1,0,0⟩,
 ⟨⟨#[109,109,97,112]⟩,9,9,-1,222,222,0,0⟩,
 ⟨⟨#[109,109,97,112,50]⟩,-1,-1,192,-1,-1,0,0⟩,
 ⟨⟨#[109,112,114,111,116,101,99,116]⟩,10,10,125,226,226,0,0⟩,
 ⟨⟨#[109,115,103,99,116,108]⟩,71,71,402,187,187,2,14⟩,
 ⟨⟨#[109,115,103,103,101,116]⟩,68,68,399,186,186,2,13⟩,
 ⟨⟨#[109,115,103,114,99,118]⟩,70,70,401,188,188,2,12⟩,
 ⟨⟨#[109,115,103,115,110,100]⟩,69,69,400,189,189,2,11⟩,
 ⟨⟨#[109,117,110,109,97,112]⟩,11,11,91,215,215,0,0⟩,
 ⟨⟨#[110,97,110,111,115,108,101,101,112]⟩,35,35,162,101,101,0,0⟩,
 ⟨⟨#[111,112,101,110]⟩,2,2,5,-1,-1,0,0⟩,
 ⟨⟨#[111,112,101,110,97,116]⟩,257,257,295,56,56,0,0⟩,
 ⟨⟨#[112,105,112,101]⟩,22,22,42,-1,-1,0,0⟩,
 ⟨⟨#[112,105,112,101,50]⟩,293,293,331,59,59,0,0⟩,
 ⟨⟨#[112,111,108,108]⟩,7,7,168,-1,-1,0,0⟩,
 ⟨⟨#[112,114,101,97,100,54,52]⟩,17,17,180,67,67,0,0⟩,
 ⟨⟨#[112,114,108,105,109,105,116,54,52]⟩,302,302,340,261,261,0,0⟩,
 ⟨⟨#[112,116,114,97,99,101]⟩,101,521,26,117,117,0,0⟩,
 ⟨⟨#[112,119,114,105,116,101,54,52]⟩,18,18,181,68,68,0,0⟩,
 ⟨⟨#[114,101,97,100]⟩,0,0,3,63,63,0,0⟩,
 ⟨⟨#[114,101,97,100,118]⟩,19,515,145,65,65,0,0⟩,
 ⟨⟨#[114,101,99,118]⟩,-1,-1,-1,-1,-1,1,10⟩,
 ⟨⟨#[114,101,99,118,102,114,111,109]⟩,45,517,371,207,207,1,12⟩,
 ⟨⟨#[114,101,99,118,109,115,103]⟩,47,519,372,212,212,1,17⟩,
 ⟨⟨#[114,101,110,97,109,101]⟩,82,82,38,-1,-1,0,0⟩,
 ⟨⟨#[114,105,115,99,118,95,102,108,117,115,104,95,105,99,97,99,104,101]⟩,-1,-1,-1,-1,259,0,0⟩,
 ⟨⟨#[114,116,95,115,105,103,97,99,116,105,111,110]⟩,13,512,174,134,134,0,0⟩,
 ⟨⟨#[114,116,95,115,105,103,114,101,116,117,114,110]⟩,15,513,173,139,139,0,0⟩,
 ⟨⟨#[115,101,99,99,111,109,112]⟩,317,317,354,277,277,0,0⟩,
 ⟨⟨#[115,101,108,101,99,116]⟩,23,23,82,-1,-1,0,0⟩,
 ⟨⟨#[115,101,109,99,116,108]⟩,66,66,394,191,191,2,3⟩,
 ⟨⟨#[115,101,109,103,101,116]⟩,64,64,393,190,190,2,2⟩,
 ⟨⟨#[115,101,109,111,112]⟩,65,65,-1,193,193,2,1⟩,
 ⟨⟨#[115,101,110,100]⟩,-1,-1,-1,-1,-1,1,9⟩,
 ⟨⟨#[115,101,110,100,109,115,103]⟩,46,518,370,211,211,1,16⟩,
 ⟨⟨#[115,101,110,100,116,111]⟩,44,44,369,206,206,1,11⟩,
 ⟨⟨#[115,101,116,115,111,99,107,111,112,116]⟩,54,541,366,208,208,1,14⟩,
 ⟨⟨#[115,104,109,97,116]⟩,30,30,397,196,196,2,21⟩,
 ⟨⟨#[115,104,109,99,116,108]⟩,31,31,396,195,195,2,24⟩,
 ⟨⟨#[115,104,109,100,116]⟩,67,67,398,197,197,2,22⟩,
 ⟨⟨#[115,104,109,103,101,116]⟩,29,29,395,194,194,2,23⟩,
 ⟨⟨#[115,104,117,116,100,111,119,110]⟩,48,48,373,210,210,1,13⟩,
 ⟨⟨#[115,111,99,107,101,116]⟩,41,41,359,198,198,1,1⟩,
 ⟨⟨#[115,111,99,107,101,116,112,97,105,114]⟩,53,53,360,199,199,1,8⟩,
 ⟨⟨#[115,116,97,116]⟩,4,4,106,-1,-1,0,0⟩,
 ⟨⟨#[116,105,109,101]⟩,201,201,13,-1,-1,0,0⟩,
 ⟨⟨#[117,110,97,109,101]⟩,63,63,122,160,160,0,0⟩,
 ⟨⟨#[117,110,108,105,110,107]⟩,87,87,10,-1,-1,0,0⟩,
 ⟨⟨#[118,102,111,114,107]⟩,58,58,190,-1,-1,0,0⟩,
 ⟨⟨#[119,97,105,116,112,105,100]⟩,-1,-1,7,-1,-1,0,0⟩,
 ⟨⟨#[119,114,105,116,101]⟩,1,1,4,64,64,0,0⟩,
 ⟨⟨#[119,114,105,116,101,118]⟩,20,516,146,66,66,0,0⟩]
theorem JtK:JcE Tryz.prog 54 53 [(0,Jj ⟨⟨#[108,115,101,101,107]⟩,8,8,19,62,62,0,0⟩),(1,Jj ⟨⟨#[109,107,100,105,114]⟩,83,83,39,-1,-1,0,0⟩),(2,Jj ⟨⟨#[109,109,97,112]⟩,9,9,-1,222,222,0,0⟩),(3,Jj ⟨⟨#[109,109,97,112,50]⟩,-1,-1,192,-1,-1,0,0⟩),(4,Jj ⟨⟨#[109,112,114,111,116,101,99,116]⟩,10,10,125,226,226,0,0⟩),(5,Jj ⟨⟨#[109,115,103,99,116,108]⟩,71,71,402,187,187,2,14⟩),(6,Jj ⟨⟨#[109,115,103,103,101,116]⟩,68,68,399,186,186,2,13⟩),(7,Jj ⟨⟨#[109,115,103,114,99,118]⟩,70,70,401,188,188,2,12⟩),(8,Jj ⟨⟨#[109,115,103,115,110,100]⟩,69,69,400,189,189,2,11⟩),(9,Jj ⟨⟨#[109,117,110,109,97,112]⟩,11,11,91,215,215,0,0⟩),(10,Jj ⟨⟨#[110,97,110,111,115,108,101,101,112]⟩,35,35,162,101,101,0,0⟩),(11,Jj ⟨⟨#[111,112,101,110]⟩,2,2,5,-1,-1,0,0⟩),(12,Jj ⟨⟨#[111,112,101,110,97,116]⟩,257,257,295,56,56,0,0⟩),(13,Jj ⟨⟨#[112,105,112,101]⟩,22,22,42,-1,-1,0,0⟩),(14,Jj ⟨⟨#[112,105,112,101,50]⟩,293,293,331,59,59,0,0⟩),(15,Jj ⟨⟨#[112,111,108,108]⟩,7,7,168,-1,-1,0,0⟩),(16,Jj ⟨⟨#[112,114,101,97,100,54,52]⟩,17,17,180,67,67,0,0⟩),(17,Jj ⟨⟨#[112,114,108,105,109,105,116,54,52]⟩,302,302,340,261,261,0,0⟩),(18,Jj ⟨⟨#[112,116,114,97,99,101]⟩,101,521,26,117,117,0,0⟩),(19,Jj ⟨⟨#[112,119,114,105,116,101,54,52]⟩,18,18,181,68,68,0,0⟩),(20,Jj ⟨⟨#[114,101,97,100]⟩,0,0,3,63,63,0,0⟩),(21,Jj ⟨⟨#[114,101,97,100,118]⟩,19,515,145,65,65,0,0⟩),(22,Jj ⟨⟨#[114,101,99,118]⟩,-1,-1,-1,-1,-1,1,10⟩),(23,Jj ⟨⟨#[114,101,99,118,102,114,111,109]⟩,45,517,371,207,207,1,12⟩),(24,Jj ⟨⟨#[114,101,99,118,109,115,103]⟩,47,519,372,212,212,1,17⟩),(25,Jj ⟨⟨#[114,101,110,97,109,101]⟩,82,82,38,-1,-1,0,0⟩),(26,Jj ⟨⟨#[114,105,115,99,118,95,102,108,117,115,104,95,105,99,97,99,104,101]⟩,-1,-1,-1,-1,259,0,0⟩),(27,Jj ⟨⟨#[114,116,95,115,105,103,97,99,116,105,111,110]⟩,13,512,174,134,134,0,0⟩),(28,Jj ⟨⟨#[114,116,95,115,105,103,114,101,116,117,114,110]⟩,15,513,173,139,139,0,0⟩),(29,Jj ⟨⟨#[115,101,99,99,111,109,112]⟩,317,317,354,277,277,0,0⟩),(30,Jj ⟨⟨#[115,101,108,101,99,116]⟩,23,23,82,-1,-1,0,0⟩),(31,Jj ⟨⟨#[115,101,109,99,116,108]⟩,66,66,394,191,191,2,3⟩),(32,Jj ⟨⟨#[115,101,109,103,101,116]⟩,64,64,393,190,190,2,2⟩),(33,Jj ⟨⟨#[115,101,109,111,112]⟩,65,65,-1,193,193,2,1⟩),(34,Jj ⟨⟨#[115,101,110,100]⟩,-1,-1,-1,-1,-1,1,9⟩),(35,Jj ⟨⟨#[115,101,110,100,109,115,103]⟩,46,518,370,211,211,1,16⟩),(36,Jj ⟨⟨#[115,101,110,100,116,111]⟩,44,44,369,206,206,1,11⟩),(37,Jj ⟨⟨#[115,101,116,115,111,99,107,111,112,116]⟩,54,541,366,208,208,1,14⟩),(38,Jj ⟨⟨#[115,104,109,97,116]⟩,30,30,397,196,196,2,21⟩),(39,Jj ⟨⟨#[115,104,109,99,116,108]⟩,31,31,396,195,195,2,24⟩),(40,Jj ⟨⟨#[115,104,109,100,116]⟩,67,67,398,197,197,2,22⟩),(41,Jj ⟨⟨#[115,104,109,103,101,116]⟩,29,29,395,194,194,2,23⟩),(42,Jj ⟨⟨#[115,104,117,116,100,111,119,110]⟩,48,48,373,210,210,1,13⟩),(43,Jj ⟨⟨#[115,111,99,107,101,116]⟩,41,41,359,198,198,1,1⟩),(44,Jj ⟨⟨#[115,111,99,107,101,116,112,97,105,114]⟩,53,53,360,199,199,1,8⟩),(45,Jj ⟨⟨#[115,116,97,116]⟩,4,4,106,-1,-1,0,0⟩),(46,Jj ⟨⟨#[116,105,109,101]⟩,201,201,13,-1,-1,0,0⟩),(47,Jj ⟨⟨#[117,110,97,109,101]⟩,63,63,122,160,160,0,0⟩),(48,Jj ⟨⟨#[117,110,108,105,110,107]⟩,87,87,10,-1,-1,0,0⟩),(49,Jj ⟨⟨#[118,102,111,114,107]⟩,58,58,190,-1,-1,0,0⟩),(50,Jj ⟨⟨#[119,97,105,116,112,105,100]⟩,-1,-1,7,-1,-1,0,0⟩),(51,Jj ⟨⟨#[119,114,105,116,101]⟩,1,1,4,64,64,0,0⟩),(52,Jj ⟨⟨#[119,114,105,116,101,118]⟩,20,516,146,66,66,0,0⟩)]=some (73, [strA ⟨#[108,115,101,101,107]⟩,int (8),int (8),int (19),int (62),int (62),int 0,int 0,strA ⟨#[109,107,100,105,114]⟩,int (83),int (83),int (39),int (-1),int (-1),int 0,int 0,strA ⟨#[109,109,97,112]⟩,int (9),int (9),int (-1),int (222),int (222),int 0,int 0,strA ⟨#[109,109,97,112,50]⟩,int (-1),int (-1),int (192),int (-1),int (-1),int 0,int 0,strA ⟨#[109,112,114,111,116,101,99,116]⟩,int (10),int (10),int (125),int (226),int (226),int 0,int 0,strA ⟨#[109,115,103,99,116,108]⟩,int (71),int (71),int (402),int (187),int (187),int 2,int 14,strA ⟨#[109,115,103,103,101,116]⟩,int (68),int (68),int (399),int (186),int (186),int 2,int 13,strA ⟨#[109,115,103,114,99,118]⟩,int (70),int (70),int (401),int (188),int (188),int 2,int 12,strA ⟨#[109,115,103,115,110,100]⟩,int (69),int (69),int (400),int (189),int (189),int 2,int 11,strA ⟨#[109,117,110,109,97,112]⟩,int (11),int (11),int (91),int (215),int (215),int 0,int 0,strA ⟨#[110,97,110,111,115,108,101,101,112]⟩,int (35),int (35),int (162),int (101),int (101),int 0,int 0,strA ⟨#[111,112,101,110]⟩,int (2),int (2),int (5),int (-1),int (-1),int 0,int 0,strA ⟨#[111,112,101,110,97,116]⟩,int (257),int (257),int (295),int (56),int (56),int 0,int 0,strA ⟨#[112,105,112,101]⟩,int (22),int (22),int (42),int (-1),int (-1),int 0,int 0,strA ⟨#[112,105,112,101,50]⟩,int (293),int (293),int (331),int (59),int (59),int 0,int 0,strA ⟨#[112,111,108,108]⟩,int (7),int (7),int (168),int (-1),int (-1),int 0,int 0,strA ⟨#[112,114,101,97,100,54,52]⟩,int (17),int (17),int (180),int (67),int (67),int 0,int 0,strA ⟨#[112,114,108,105,109,105,116,54,52]⟩,int (302),int (302),int (340),int (261),int (261),int 0,int 0,strA ⟨#[112,116,114,97,99,101]⟩,int (101),int (521),int (26),int (117),int (117),int 0,int 0,strA ⟨#[112,119,114,105,116,101,54,52]⟩,int (18),int (18),int (181),int (68),int (68),int 0,int 0,strA ⟨#[114,101,97,100]⟩,int (0),int (0),int (3),int (63),int (63),int 0,int 0,strA ⟨#[114,101,97,100,118]⟩,int (19),int (515),int (145),int (65),int (65),int 0,int 0,strA ⟨#[114,101,99,118]⟩,int (-1),int (-1),int (-1),int (-1),int (-1),int 1,int 10,strA ⟨#[114,101,99,118,102,114,111,109]⟩,int (45),int (517),int (371),int (207),int (207),int 1,int 12,strA ⟨#[114,101,99,118,109,115,103]⟩,int (47),int (519),int (372),int (212),int (212),int 1,int 17,strA ⟨#[114,101,110,97,109,101]⟩,int (82),int (82),int (38),int (-1),int (-1),int 0,int 0,strA ⟨#[114,105,115,99,118,95,102,108,117,115,104,95,105,99,97,99,104,101]⟩,int (-1),int (-1),int (-1),int (-1),int (259),int 0,int 0,strA ⟨#[114,116,95,115,105,103,97,99,116,105,111,110]⟩,int (13),int (512),int (174),int (134),int (134),int 0,int 0,strA ⟨#[114,116,95,115,105,103,114,101,116,117,114,110]⟩,int (15),int (513),int (173),int (139),int (139),int 0,int 0,strA ⟨#[115,101,99,99,111,109,112]⟩,int (317),int (317),int (354),int (277),int (277),int 0,int 0,strA ⟨#[115,101,108,101,99,116]⟩,int (23),int (23),int (82),int (-1),int (-1),int 0,int 0,strA ⟨#[115,101,109,99,116,108]⟩,int (66),int (66),int (394),int (191),int (191),int 2,int 3,strA ⟨#[115,101,109,103,101,116]⟩,int (64),int (64),int (393),int (190),int (190),int 2,int 2,strA ⟨#[115,101,109,111,112]⟩,int (65),int (65),int (-1),int (193),int (193),int 2,int 1,strA ⟨#[115,101,110,100]⟩,int (-1),int (-1),int (-1),int (-1),int (-1),int 1,int 9,strA ⟨#[115,101,110,100,109,115,103]⟩,int (46),int (518),int (370),int (211),int (211),int 1,int 16,strA ⟨#[115,101,110,100,116,111]⟩,int (44),int (44),int (369),int (206),int (206),int 1,int 11,strA ⟨#[115,101,116,115,111,99,107,111,112,116]⟩,int (54),int (541),int (366),int (208),int (208),int 1,int 14,strA ⟨#[115,104,109,97,116]⟩,int (30),int (30),int (397),int (196),int (196),int 2,int 21,strA ⟨#[115,104,109,99,116,108]⟩,int (31),int (31),int (396),int (195),int (195),int 2,int 24,strA ⟨#[115,104,109,100,116]⟩,int (67),int (67),int (398),int (197),int (197),int 2,int 22,strA ⟨#[115,104,109,103,101,116]⟩,int (29),int (29),int (395),int (194),int (194),int 2,int 23,strA ⟨#[115,104,117,116,100,111,119,110]⟩,int (48),int (48),int (373),int (210),int (210),int 1,int 13,strA ⟨#[115,111,99,107,101,116]⟩,int (41),int (41),int (359),int (198),int (198),int 1,int 1,strA ⟨#[115,111,99,107,101,116,112,97,105,114]⟩,int (53),int (53),int (360),int (199),int (199),int 1,int 8,strA ⟨#[115,116,97,116]⟩,int (4),int (4),int (106),int (-1),int (-1),int 0,int 0,strA ⟨#[116,105,109,101]⟩,int (201),int (201),int (13),int (-1),int (-1),int 0,int 0,strA ⟨#[117,110,97,109,101]⟩,int (63),int (63),int (122),int (160),int (160),int 0,int 0,strA ⟨#[117,110,108,105,110,107]⟩,int (87),int (87),int (10),int (-1),int (-1),int 0,int 0,strA ⟨#[118,102,111,114,107]⟩,int (58),int (58),int (190),int (-1),int (-1),int 0,int 0,strA ⟨#[119,97,105,116,112,105,100]⟩,int (-1),int (-1),int (7),int (-1),int (-1),int 0,int 0,strA ⟨#[119,114,105,116,101]⟩,int (1),int (1),int (4),int (64),int (64),int 0,int 0,strA ⟨#[119,114,105,116,101,118]⟩,int (20),int (516),int (146),int (66),int (66),int 0,int 0]):=by kernel_rfl
theorem JvX:Tells Tryz.prog 79 [] (trows Jll):=by
 refine Jc Tryz.func79 rfl rfl fun nx=> ?_
 (refine JE ?_;refine JZ ?_;refine JE ?_)
 refine JI (fun n=> match n with | 0=> true | _=> false) 107 ?_
 refine Z ?_
 refine JmG rfl JtK ?_
 refine Z ?_
 refine Jb rfl (AVle.os_sl.trans (AVle.sl_fun fun k hk=> ?_))
 match k,hk with
 | 0,_=> rfl
 | 1,_=> rfl
 | 2,_=> rfl
 | 3,_=> rfl
 | 4,_=> rfl
 | 5,_=> rfl
 | 6,_=> rfl
 | 7,_=> rfl
 | 8,_=> rfl
 | 9,_=> rfl
 | 10,_=> rfl
 | 11,_=> rfl
 | 12,_=> rfl
 | 13,_=> rfl
 | 14,_=> rfl
 | 15,_=> rfl
 | 16,_=> rfl
 | 17,_=> rfl
 | 18,_=> rfl
 | 19,_=> rfl
 | 20,_=> rfl
 | 21,_=> rfl
 | 22,_=> rfl
 | 23,_=> rfl
 | 24,_=> rfl
 | 25,_=> rfl
 | 26,_=> rfl
 | 27,_=> rfl
 | 28,_=> rfl
 | 29,_=> rfl
 | 30,_=> rfl
 | 31,_=> rfl
 | 32,_=> rfl
 | 33,_=> rfl
 | 34,_=> rfl
 | 35,_=> rfl
 | 36,_=> rfl
 | 37,_=> rfl
 | 38,_=> rfl
 | 39,_=> rfl
 | 40,_=> rfl
 | 41,_=> rfl
 | 42,_=> rfl
 | 43,_=> rfl
 | 44,_=> rfl
 | 45,_=> rfl
 | 46,_=> rfl
 | 47,_=> rfl
 | 48,_=> rfl
 | 49,_=> rfl
 | 50,_=> rfl
 | 51,_=> rfl
 | 52,_=> rfl
 | k+53,hk=> exact absurd hk Om
def builtL:List TRow:=JiJ++Jll
theorem Jlm (l:List TRow):NoId (trows l):=NoId.sl fun i _ c hc=> by
 have hc:c∈Jcx (l.getD i Jd):=hc
 unfold Jcx at hc
 simp only [List.mem_cons,List.not_mem_nil,or_false] at hc
 rcases hc with rfl | rfl | rfl | rfl | rfl | rfl | rfl | rfl <;> exact NoId.v _
theorem JpN:Tells Tryz.prog 37 [] (trows builtL):=by
 have hc:=Jrf [JiJ,Jll] Dc Dc none
 have e: [JiJ,Jll].flatten=builtL:=by unfold builtL;simp
 rw [e] at hc
 have he:=JtJ
 have hl:=JvX
 generalize JiJ=A at he hc
 generalize Jll=B at hl hc
 generalize builtL=C at hc
 refine Jc Tryz.func37 rfl rfl fun nx=> ?_
 refine Z ?_
 refine Ja rfl rfl he trivial fun nx2=> ?_
 refine Z ?_
 refine Ja rfl rfl hl trivial fun nx3=> ?_
 refine Z ?_
 refine Ja rfl rfl hc ⟨AVle.os_fun fun k hk=> ?_,Tt⟩ fun nx4=> ?_
 ·match k,hk with
  | 0,_=> rfl
  | 1,_=> rfl
 refine Z ?_
 exact Jb rfl Rf
theorem Jz9 {l:List TRow} (h:Jj8 l=true):l.length≤40∧∀r∈l,r.name.size≤60:=by
 unfold Jj8 at h
 simp only [Bool.and_eq_true,decide_eq_true_eq,Bool.not_eq_true',List.any_eq_false] at h
 exact ⟨h.1,fun r hr=> by have:=h.2 r hr;omega⟩
def JAL (a:Int) (x:Nat):Nat:=if a=2 then x % 4294967296 else x
def hR (a:Int) (x:Nat→Nat) (c:Cnd):Bool:=JaD c (JAL a (x c.arg.toNat))
theorem Jng {α:Type} {p q:α→Bool}:∀ {l:List α},(∀x∈l,p x=q x)→l.find? p=l.find? q
 | [],_=> rfl
 | x::l,h=> by
   rw [List.find?_cons,List.find?_cons,h x (.head _),Jng fun y hy=> h y (.tail _ hy)]
theorem Jr6:pAw.ok:=by
 refine ⟨by decide,fun r hr=> ?_⟩
 rw [List.mem_singleton.1 hr]
 exact ⟨by decide,by decide,fun c hc=> by cases hc⟩
theorem JtL {p:Pol} (h:JeC p=true):p.rules.length≤40∧∀r∈p.rules,r.conds.length≤12:=by
 unfold JeC at h
 simp only [Bool.and_eq_true,decide_eq_true_eq,List.all_eq_true] at h
 refine ⟨h.1,fun r hr=> ?_⟩
 have:=h.2 r hr
 unfold Jd0 at this
 simp only [Bool.and_eq_true,decide_eq_true_eq] at this
 exact this.2
theorem JxK {p:Pol} (hp:p.ok) (h:JeC p=true):JAD p:=by
 obtain ⟨h1,h2⟩:=JtL h
 exact ⟨Om,fun r hr=> ⟨by have:=h2 r hr;omega,(hp.2 r hr).2.2⟩⟩
end Go.Proofs.W
