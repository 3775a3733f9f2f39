import Derived.Test.YtokhkmgefndbaaaGreatDoorQG
import Derived.Test.YtokhkmgefndbaaaGreatDoorQF
import Derived.Test.YtokhkmgefndbaaaGreatDoorQE
import Derived.Test.YtokhkmgefndbaaaGreatDoorQC
set_option linter.unusedVariables false
set_option linter.unusedSimpArgs false
set_option maxHeartbeats 16000000
namespace Go.Proofs.W
open Go.Vl
set_option maxRecDepth 100000
theorem Jqm (l:List Itm) (hl:l.length≤1000000000000) (h:ItsOk l) (c0:Nat) (hlast:l.getD (l.length - 1) it0=⟨0,6,c0,0,0⟩) (hne:l.length≠0):Tells Tryz.prog 13 [JaN l] (Ji true):=by
 refine Jc Tryz.func13 rfl rfl fun nx=> ?_
 refine Z ?_
 refine Js (fun y:Nat×Nat=> mk 136 [(0,JaN l),(3,int y.1)] ⟨[], [],y.2,0⟩) (fun y=> y.1≤l.length) (fun y=> l.length - y.1) ?_ ?_
 ·exact ⟨(0,nx),Nat.zero_le _,Et rfl rfl Tt Tt Y2⟩
 ·rintro ⟨i,nx2⟩ k1;dsimp only at k1;refine Z ?_;intro c g;cases c
  ·have g:=Jw g;dsimp only at g;refine Z ?_;have hw:IntKind.i64.wrap ((l.length:Int) - 1)=((l.length - 1:Nat):Int):=by rw [Jq Om Om];omega
   have hm:l.getD (IntKind.i64.wrap ((l.length:Int) - 1)).toNat it0=⟨0,6,c0,0,0⟩:=by rw [hw];exact hlast
   have hb:0≤IntKind.i64.wrap ((l.length:Int) - 1)∧IntKind.i64.wrap ((l.length:Int) - 1) < (l.length:Int):=by rw [hw];omega
   intro c hc;have hc2:c=false:=hc.trans (beq_eq_false_iff_ne.2 Om);clear hc;cases hc2;refine Z ?_;refine ⟨hb, ?_⟩;refine Z ?_;intro c hc;have hc2:c=false:=hc.trans (by rw [hm];rfl);clear hc;cases hc2;refine Z ?_;refine ⟨hb, ?_⟩;refine Z ?_;refine Ja rfl rfl (Jan 6 Dc) ⟨Jf (congrArg (fun x:Itm=> (x.code:Int)) hm),Tt⟩ fun nx3=> ?_;rw [show kof 6=(14,false) from by decide];refine Z ?_;exact Jb rfl Rf
  ·have g:=Ju g;dsimp only at g;have hi:i < l.length:=by omega
   have hsh:=h.sh _ (ItsOk.mem hi);have hjmp:=fun t ht h0=> h.jump hi (t:=t) ht h0 (fun _=> 0);have hat:(l.getD i it0).mark≠0→Tells Tryz.prog 42 [JaN l,int (l.getD i it0).mark] (int i):=fun h0=> Jaq l hl h.nd i _ hi rfl h0;refine Z ?_;refine ⟨Bd, ?_⟩;change Jcl _ (AV.rp (itA (l.getD i it0)).cells) _;generalize l.getD i it0 = x at *
   obtain ⟨mk0,cd,k,t,f⟩:=x;dsimp only at hsh hjmp hat;rcases hsh with ⟨hm,rfl,rfl,rfl,rfl⟩ | ⟨rfl,hsh⟩
   ·refine Z ?_;intro c hc;have hc2:c=true:=hc.trans (bne_iff_ne.2 Om);clear hc;cases hc2;refine Z ?_;refine Ja rfl rfl (hat hm) Y2 fun nx3=> ?_;refine Z ?_;exact back (i+1,nx3) Dm Dm (Je _ _ rfl rfl (.cons _ Sf) Sf Tt Tt ⟨Rf,Lw,Tt⟩)
   ·rcases hsh with ⟨rfl,hk,rfl,rfl⟩ | ⟨rfl | rfl,rfl,rfl,hk⟩ | ⟨rfl,rfl⟩ | rfl | rfl | rfl | ⟨rfl,hk⟩
    ·refine Z ?_;refine Ja rfl rfl (Jan 32 Dc) Y1 fun nx3=> ?_;rw [show kof 32=(1,false) from by decide];refine Z ?_;exact back (i+1,nx3) Dm Dm (Je _ _ rfl rfl (.cons _ Sf) Sf Tt Tt ⟨Rf,Lw,Tt⟩)
    ·refine Z ?_;refine Ja rfl rfl (Jan 84 Dc) Y1 fun nx3=> ?_;rw [show kof 84=(21,false) from by decide];refine Z ?_;exact back (i+1,nx3) Dm Dm (Je _ _ rfl rfl (.cons _ Sf) Sf Tt Tt ⟨Rf,Lw,Tt⟩)
    ·refine Z ?_;refine Ja rfl rfl (Jan 6 Dc) Y1 fun nx3=> ?_;rw [show kof 6=(14,false) from by decide];refine Z ?_;exact back (i+1,nx3) Dm Dm (Je _ _ rfl rfl (.cons _ Sf) Sf Tt Tt ⟨Rf,Lw,Tt⟩)
    ·refine Z ?_;refine Ja rfl rfl (Jan 5 Dc) Y1 fun nx3=> ?_;rw [show kof 5=(13,false) from by decide];refine Z ?_;intro c2 hc2;by_cases h0t:t=0
     ·have hc3:c2=false:=hc2.trans (by rw [h0t];rfl);clear hc2;cases hc3;refine Z ?_;exact back (i+1,nx3) Dm Dm (Je _ _ rfl rfl (.cons _ Sf) Sf Tt Tt ⟨Rf,Lw,Tt⟩)
     ·have hc3:c2=true:=hc2.trans (bne_iff_ne.2 Dm);clear hc2;cases hc3;obtain ⟨j,j1,j2,j3,j4⟩:=hjmp t (.inl rfl) h0t;refine Z ?_;refine Ja rfl rfl (Jaq l hl h.nd j t j2 j3 h0t) Y2 fun nx4=> ?_;refine Z ?_;intro c4 hc4;have hc5:c4=false:=hc4.trans (decide_eq_false Dm);clear hc4;cases hc5;refine Z ?_;exact back (i+1,nx4) Dm Dm (Je _ _ rfl rfl (.cons _ Sf) Sf Tt Tt ⟨Rf,Lw,Tt⟩)
    ·refine Z ?_;refine Ja rfl rfl (Jan 21 Dc) Y1 fun nx3=> ?_;rw [show kof 21=(25,false) from by decide];refine Z ?_;intro c2 hc2;by_cases h0t:t=0
     ·have hc3:c2=false:=hc2.trans (by rw [h0t];rfl);clear hc2;cases hc3;refine Z ?_;intro c2 hc2;by_cases h0f:f=0
      ·have hc3:c2=false:=hc2.trans (by rw [h0f];rfl);clear hc2;cases hc3;refine Z ?_;exact back (i+1,nx3) Dm Dm (Je _ _ rfl rfl (.cons _ Sf) Sf Tt Tt ⟨Rf,Lw,Tt⟩)
      ·have hc3:c2=true:=hc2.trans (bne_iff_ne.2 Dm);clear hc2;cases hc3;obtain ⟨j,j1,j2,j3,j4⟩:=hjmp f (.inr rfl) h0f;refine Z ?_;refine Ja rfl rfl (Jaq l hl h.nd j f j2 j3 h0f) Y2 fun nx5=> ?_;refine Z ?_;intro c4 hc4;have hc5:c4=false:=hc4.trans (decide_eq_false Dm);clear hc4;cases hc5;refine Z ?_;exact back (i+1,nx5) Dm Dm (Je _ _ rfl rfl (.cons _ Sf) Sf Tt Tt ⟨Rf,Lw,Tt⟩)
     ·have hc3:c2=true:=hc2.trans (bne_iff_ne.2 Dm);clear hc2;cases hc3;obtain ⟨j,j1,j2,j3,j4⟩:=hjmp t (.inl rfl) h0t;refine Z ?_;refine Ja rfl rfl (Jaq l hl h.nd j t j2 j3 h0t) Y2 fun nx4=> ?_;refine Z ?_;intro c4 hc4;have hc5:c4=false:=hc4.trans (decide_eq_false Dm);clear hc4;cases hc5;refine Z ?_;intro c2 hc2;by_cases h0f:f=0
      ·have hc3:c2=false:=hc2.trans (by rw [h0f];rfl);clear hc2;cases hc3;refine Z ?_;exact back (i+1,nx4) Dm Dm (Je _ _ rfl rfl (.cons _ Sf) Sf Tt Tt ⟨Rf,Lw,Tt⟩)
      ·have hc3:c2=true:=hc2.trans (bne_iff_ne.2 Dm);clear hc2;cases hc3;obtain ⟨j,j1,j2,j3,j4⟩:=hjmp f (.inr rfl) h0f;refine Z ?_;refine Ja rfl rfl (Jaq l hl h.nd j f j2 j3 h0f) Y2 fun nx5=> ?_;refine Z ?_;intro c4 hc4;have hc5:c4=false:=hc4.trans (decide_eq_false Dm);clear hc4;cases hc5;refine Z ?_;exact back (i+1,nx5) Dm Dm (Je _ _ rfl rfl (.cons _ Sf) Sf Tt Tt ⟨Rf,Lw,Tt⟩)
    ·refine Z ?_;refine Ja rfl rfl (Jan 37 Dc) Y1 fun nx3=> ?_;rw [show kof 37=(26,false) from by decide];refine Z ?_;intro c2 hc2;by_cases h0t:t=0
     ·have hc3:c2=false:=hc2.trans (by rw [h0t];rfl);clear hc2;cases hc3;refine Z ?_;intro c2 hc2;by_cases h0f:f=0
      ·have hc3:c2=false:=hc2.trans (by rw [h0f];rfl);clear hc2;cases hc3;refine Z ?_;exact back (i+1,nx3) Dm Dm (Je _ _ rfl rfl (.cons _ Sf) Sf Tt Tt ⟨Rf,Lw,Tt⟩)
      ·have hc3:c2=true:=hc2.trans (bne_iff_ne.2 Dm);clear hc2;cases hc3;obtain ⟨j,j1,j2,j3,j4⟩:=hjmp f (.inr rfl) h0f;refine Z ?_;refine Ja rfl rfl (Jaq l hl h.nd j f j2 j3 h0f) Y2 fun nx5=> ?_;refine Z ?_;intro c4 hc4;have hc5:c4=false:=hc4.trans (decide_eq_false Dm);clear hc4;cases hc5;refine Z ?_;exact back (i+1,nx5) Dm Dm (Je _ _ rfl rfl (.cons _ Sf) Sf Tt Tt ⟨Rf,Lw,Tt⟩)
     ·have hc3:c2=true:=hc2.trans (bne_iff_ne.2 Dm);clear hc2;cases hc3;obtain ⟨j,j1,j2,j3,j4⟩:=hjmp t (.inl rfl) h0t;refine Z ?_;refine Ja rfl rfl (Jaq l hl h.nd j t j2 j3 h0t) Y2 fun nx4=> ?_;refine Z ?_;intro c4 hc4;have hc5:c4=false:=hc4.trans (decide_eq_false Dm);clear hc4;cases hc5;refine Z ?_;intro c2 hc2;by_cases h0f:f=0
      ·have hc3:c2=false:=hc2.trans (by rw [h0f];rfl);clear hc2;cases hc3;refine Z ?_;exact back (i+1,nx4) Dm Dm (Je _ _ rfl rfl (.cons _ Sf) Sf Tt Tt ⟨Rf,Lw,Tt⟩)
      ·have hc3:c2=true:=hc2.trans (bne_iff_ne.2 Dm);clear hc2;cases hc3;obtain ⟨j,j1,j2,j3,j4⟩:=hjmp f (.inr rfl) h0f;refine Z ?_;refine Ja rfl rfl (Jaq l hl h.nd j f j2 j3 h0f) Y2 fun nx5=> ?_;refine Z ?_;intro c4 hc4;have hc5:c4=false:=hc4.trans (decide_eq_false Dm);clear hc4;cases hc5;refine Z ?_;exact back (i+1,nx5) Dm Dm (Je _ _ rfl rfl (.cons _ Sf) Sf Tt Tt ⟨Rf,Lw,Tt⟩)
    ·refine Z ?_;refine Ja rfl rfl (Jan 53 Dc) Y1 fun nx3=> ?_;rw [show kof 53=(27,false) from by decide];refine Z ?_;intro c2 hc2;by_cases h0t:t=0
     ·have hc3:c2=false:=hc2.trans (by rw [h0t];rfl);clear hc2;cases hc3;refine Z ?_;intro c2 hc2;by_cases h0f:f=0
      ·have hc3:c2=false:=hc2.trans (by rw [h0f];rfl);clear hc2;cases hc3;refine Z ?_;exact back (i+1,nx3) Dm Dm (Je _ _ rfl rfl (.cons _ Sf) Sf Tt Tt ⟨Rf,Lw,Tt⟩)
      ·have hc3:c2=true:=hc2.trans (bne_iff_ne.2 Dm);clear hc2;cases hc3;obtain ⟨j,j1,j2,j3,j4⟩:=hjmp f (.inr rfl) h0f;refine Z ?_;refine Ja rfl rfl (Jaq l hl h.nd j f j2 j3 h0f) Y2 fun nx5=> ?_;refine Z ?_;intro c4 hc4;have hc5:c4=false:=hc4.trans (decide_eq_false Dm);clear hc4;cases hc5;refine Z ?_;exact back (i+1,nx5) Dm Dm (Je _ _ rfl rfl (.cons _ Sf) Sf Tt Tt ⟨Rf,Lw,Tt⟩)
     ·have hc3:c2=true:=hc2.trans (bne_iff_ne.2 Dm);clear hc2;cases hc3;obtain ⟨j,j1,j2,j3,j4⟩:=hjmp t (.inl rfl) h0t;refine Z ?_;refine Ja rfl rfl (Jaq l hl h.nd j t j2 j3 h0t) Y2 fun nx4=> ?_;refine Z ?_;intro c4 hc4;have hc5:c4=false:=hc4.trans (decide_eq_false Dm);clear hc4;cases hc5;refine Z ?_;intro c2 hc2;by_cases h0f:f=0
      ·have hc3:c2=false:=hc2.trans (by rw [h0f];rfl);clear hc2;cases hc3;refine Z ?_;exact back (i+1,nx4) Dm Dm (Je _ _ rfl rfl (.cons _ Sf) Sf Tt Tt ⟨Rf,Lw,Tt⟩)
      ·have hc3:c2=true:=hc2.trans (bne_iff_ne.2 Dm);clear hc2;cases hc3;obtain ⟨j,j1,j2,j3,j4⟩:=hjmp f (.inr rfl) h0f;refine Z ?_;refine Ja rfl rfl (Jaq l hl h.nd j f j2 j3 h0f) Y2 fun nx5=> ?_;refine Z ?_;intro c4 hc4;have hc5:c4=false:=hc4.trans (decide_eq_false Dm);clear hc4;cases hc5;refine Z ?_;exact back (i+1,nx5) Dm Dm (Je _ _ rfl rfl (.cons _ Sf) Sf Tt Tt ⟨Rf,Lw,Tt⟩)
    ·refine Z ?_;refine Ja rfl rfl (Jan 69 Dc) Y1 fun nx3=> ?_;rw [show kof 69=(28,false) from by decide];refine Z ?_;intro c2 hc2;by_cases h0t:t=0
     ·have hc3:c2=false:=hc2.trans (by rw [h0t];rfl);clear hc2;cases hc3;refine Z ?_;intro c2 hc2;by_cases h0f:f=0
      ·have hc3:c2=false:=hc2.trans (by rw [h0f];rfl);clear hc2;cases hc3;refine Z ?_;exact back (i+1,nx3) Dm Dm (Je _ _ rfl rfl (.cons _ Sf) Sf Tt Tt ⟨Rf,Lw,Tt⟩)
      ·have hc3:c2=true:=hc2.trans (bne_iff_ne.2 Dm);clear hc2;cases hc3;obtain ⟨j,j1,j2,j3,j4⟩:=hjmp f (.inr rfl) h0f;refine Z ?_;refine Ja rfl rfl (Jaq l hl h.nd j f j2 j3 h0f) Y2 fun nx5=> ?_;refine Z ?_;intro c4 hc4;have hc5:c4=false:=hc4.trans (decide_eq_false Dm);clear hc4;cases hc5;refine Z ?_;exact back (i+1,nx5) Dm Dm (Je _ _ rfl rfl (.cons _ Sf) Sf Tt Tt ⟨Rf,Lw,Tt⟩)
     ·have hc3:c2=true:=hc2.trans (bne_iff_ne.2 Dm);clear hc2;cases hc3;obtain ⟨j,j1,j2,j3,j4⟩:=hjmp t (.inl rfl) h0t;refine Z ?_;refine Ja rfl rfl (Jaq l hl h.nd j t j2 j3 h0t) Y2 fun nx4=> ?_;refine Z ?_;intro c4 hc4;have hc5:c4=false:=hc4.trans (decide_eq_false Dm);clear hc4;cases hc5;refine Z ?_;intro c2 hc2;by_cases h0f:f=0
      ·have hc3:c2=false:=hc2.trans (by rw [h0f];rfl);clear hc2;cases hc3;refine Z ?_;exact back (i+1,nx4) Dm Dm (Je _ _ rfl rfl (.cons _ Sf) Sf Tt Tt ⟨Rf,Lw,Tt⟩)
      ·have hc3:c2=true:=hc2.trans (bne_iff_ne.2 Dm);clear hc2;cases hc3;obtain ⟨j,j1,j2,j3,j4⟩:=hjmp f (.inr rfl) h0f;refine Z ?_;refine Ja rfl rfl (Jaq l hl h.nd j f j2 j3 h0f) Y2 fun nx5=> ?_;refine Z ?_;intro c4 hc4;have hc5:c4=false:=hc4.trans (decide_eq_false Dm);clear hc4;cases hc5;refine Z ?_;exact back (i+1,nx5) Dm Dm (Je _ _ rfl rfl (.cons _ Sf) Sf Tt Tt ⟨Rf,Lw,Tt⟩)
theorem JC9 {W:Nat→Nat} {T:Nat→Cnd→Bool} {P:Plan} (hP:PlanT W T P) (hT:T 1=T 0):(Jkg,5)∈(Jat P).b:=by
 have hm0:mOk frontM:=fun p hp=> by
  rw [JcG] at hp;obtain rfl:=List.mem_singleton.1 hp;exact ⟨by decide,by decide⟩
 have hnb0:∀k∈ [1,2,3,4],¬isBl frontM k:=fun k hk ⟨p,hp,e⟩=> by
  rw [JcG] at hp;obtain rfl:=List.mem_singleton.1 hp;subst e
  revert hk;decide
 obtain ⟨D,g,q⟩:=Jjh W (JbN P) (Jjk W T P) Jkg 5 (fun a=> a < 5) (fun m a ha hm _=> by
  obtain ⟨D,g,q⟩:=JrL hP hT 5 m a ha hm;exact ⟨D,g,fun s hb _ A=> q s hb A⟩) [(1,0),(2,2),(3,3),(4,4)] frontM hm0 ⟨by decide,by decide⟩ Dc (fun k hk=> ⟨by revert k;decide,by revert k;decide,hnb0 k hk,by revert k;decide⟩) Dc
 obtain ⟨nb,e,_⟩:=g.b
 show _∈(JbY (JbN P) frontM _).b
 rw [e]
 exact List.mem_append_left _ (by rw [JcG];exact List.mem_singleton.2 rfl)
theorem JBn {W:Nat→Nat} {T:Nat→Cnd→Bool} {P:Plan} (hP:PlanT W T P) (hT:T 1=T 0):∃c0,(JaI P).getD ((JaI P).length - 1) it0=⟨0,6,c0,0,0⟩∧(JaI P).length≠0:=by
 have hne:JbV (Jat P).b≠ []:=fun h=> by
  have:(Jkg,5)∈JbV (Jat P).b:=(List.mergeSort_perm _ _).mem_iff.2 (JC9 hP hT);rw [h] at this;cases this
 have he:JaI P=(Jat P).l++JdF (JbV (Jat P).b):=Joc _ _
 generalize JbV (Jat P).b=b at hne he
 have hb:b=b.dropLast++ [b.getLast hne]:=(List.dropLast_concat_getLast hne).symm
 generalize b.dropLast=L at hb
 generalize b.getLast hne=x at hb
 have e2:JaI P=((Jat P).l++JdF L++ [⟨x.2,0,0,0,0⟩])++ [⟨0,6,x.1,0,0⟩]:=by
  rw [he,hb];unfold JdF;simp
 rw [e2]
 generalize (Jat P).l++JdF L++ [⟨x.2,0,0,0,0⟩]=M
 exact ⟨x.1,by simp [List.getD],by simp⟩
theorem JlI (k n:Int) (x32:Bool) (rs:List Rul) (l:List TRow) (r:Rec) (i e:Int) (he:e≠0)
 (hlt:Tells Tryz.prog 5 [JcT ⟨(k,n),x32,rs⟩] (Ji true)) (hfew:Tells Tryz.prog 6 [JS l] (Ji true)) (hof:Tells Tryz.prog 8 [JcT ⟨(k,n),x32,rs⟩] (JcT ⟨(k,n),x32,rs⟩)) (hrw:Tells Tryz.prog 9 [JS l] (JS l))
 (hr:Tells Tryz.prog 7 [JcT ⟨(k,n),x32,rs⟩,JS l] (.tup [Jct JqA,int i,int e])):Tells Tryz.prog 3 [JcT ⟨(k,n),x32,rs⟩,JS l,Jja r] (Ji true):=by
 have hawk:=JkJ
 refine Jc Tryz.func3 rfl rfl fun nx=> ?_
 refine Z ?_
 refine Ja rfl rfl hlt Y1 fun nx1=> ?_
 refine Z ?_
 refine Ja rfl rfl hfew Y1 fun nx2=> ?_
 refine Z ?_
 refine Ja rfl rfl hof Y1 fun nx3=> ?_
 refine Z ?_
 refine Ja rfl rfl hrw Y1 fun nx4=> ?_
 refine Z ?_
 refine Ja rfl rfl hr Y2 fun nx5=> ?_
 refine Z ?_
 intro c hc
 have hc2:c=true:=hc.trans (bne_iff_ne.2 he)
 clear hc
 cases hc2
 refine Z ?_
 refine Ja rfl rfl hawk trivial fun nx7=> ?_
 refine Z ?_
 exact Jb rfl Rf
theorem Juf (k n:Int) (x32:Bool) (rs:List Rul) (l:List TRow) (r:Rec) (P:Plan) (v:Nat) (hv:v < 4294967296) (hP:PlanW P) (hrk:r.ok) (hok:ItsOk (JaI P)) (hsem:(Jp (fun k=> Jai (Jgd r) (k:Nat)) (JaI P) JbO).1 0=some v) (hlst:∃c0,(JaI P).getD ((JaI P).length - 1) it0=⟨0,6,c0,0,0⟩∧(JaI P).length≠0)
 (hlt:Tells Tryz.prog 5 [JcT ⟨(k,n),x32,rs⟩] (Ji true)) (hfew:Tells Tryz.prog 6 [JS l] (Ji true)) (hof:Tells Tryz.prog 8 [JcT ⟨(k,n),x32,rs⟩] (JcT ⟨(k,n),x32,rs⟩)) (hrw:Tells Tryz.prog 9 [JS l] (JS l))
 (hr:Tells Tryz.prog 7 [JcT ⟨(k,n),x32,rs⟩,JS l] (.tup [Jct P,int 0,int 0]))
 (hrj:Tells Tryz.prog 16 [JcT ⟨(k,n),x32,rs⟩,JS l,Jja r] (int (v:Nat))):Tells Tryz.prog 3 [JcT ⟨(k,n),x32,rs⟩,JS l,Jja r] (Ji true):=by
 have hawk:=JkJ
 refine Jc Tryz.func3 rfl rfl fun nx=> ?_
 refine Z ?_
 refine Ja rfl rfl hlt Y1 fun nx1=> ?_
 refine Z ?_
 refine Ja rfl rfl hfew Y1 fun nx2=> ?_
 refine Z ?_
 refine Ja rfl rfl hof Y1 fun nx3=> ?_
 refine Z ?_
 refine Ja rfl rfl hrw Y1 fun nx4=> ?_
 refine Z ?_
 refine Ja rfl rfl hr Y2 fun nx5=> ?_
 refine Jy ?_
 refine AW.le (Et (n:=61) (nx:=nx5+1) (nn:=5) (pm:= []) (bx:= [((2,nx5), .c (Jbz P)),((1,nx+1), .c (Jfq r)),((0,nx), .c [int k,int n,Ji x32,Jak rs])]) (L:= [(1,JS l),(3, .bp (0,nx) 0),(5, .bp (1,nx+1) 0),(7, .bp (2,nx5) 0),(9,int 0)]) rfl rfl ⟨rfl,OwnLe.refl _,rfl,OwnLe.refl _,rfl,OwnLe.refl _,Tt⟩ Tt ⟨Rf,Rf,Rf,AVle.bp_nm rfl,Y1⟩) ?_
 refine Jy ?_
 refine Jbl (n:=61) (nx:=nx5+1) (nn:=1) (pm:= []) (bx:= []) (L:= [(1,JS l),(3, .rp [int k,int n,Ji x32,Jak rs]),(5, .rp (Jfq r)),(7, .rp (Jbz P)),(9,int 0)]) (df:=some []) [((2,nx5), .c (Jbz P)),((1,nx+1), .c (Jfq r)),((0,nx), .c [int k,int n,Ji x32,Jak rs])] rfl rfl rfl (List.Perm.refl _) Sf ⟨Frz.refl _,Frz.bp (.tail _ (.tail _ (.head _))) rfl,Frz.bp (.tail _ (.head _)) rfl,Frz.bp (.head _) rfl,Frz.refl _,Tt⟩ ?_
 unfold Jbz
 have hI:=JnG P hP
 have hlen:=Jk8 hP.s
 have h20:=JkG (JaI P) hlen
 obtain ⟨c0,hl1,hl2⟩:=hlst
 have hfm:=Jqm (JaI P) hlen hok c0 hl1 hl2
 have hrun:=JjF (JaI P) hlen (Jgd r) (Jvj r) (Js1 r) hok v hsem
 have hno:=JBm (JaI P)
 clear hok hsem hl1 hl2
 generalize JaI P=L at hI hlen hno h20 hfm hrun
 refine Z ?_
 refine Ja rfl rfl hI Y1 fun nx6=> ?_
 refine Z ?_
 refine Ja rfl rfl h20 Y1 fun nx7=> ?_
 refine Z ?_
 refine Ja rfl rfl hfm Y1 fun nx8=> ?_
 refine Z ?_
 refine Ja rfl rfl (JkI r hrk) Y2 fun nx9=> ?_
 refine Z ?_
 refine JjZ rfl rfl hrun Y2 fun q nx10 hq=> ?_
 obtain ⟨s1,rfl⟩:=hq
 refine Z ?_
 refine Ja rfl rfl hrj Y3 fun nx11=> ?_
 refine Z ?_
 intro c hc
 have hc2:c=true:=hc.trans (show (IntKind.i64.wrap ((v:Nat):Int) ==((v:Nat):Int))=true by rw [Jq Om Om];exact beq_self_eq_true _)
 clear hc
 cases hc2
 refine Z ?_
 refine Ja rfl rfl hawk trivial fun nx12=> ?_
 refine Z ?_
 exact Jb rfl Rf
theorem Jqn (p:Pol) (l:List TRow) (r:Rec) (hp:p.ok) (hl:l.length≤maxLen) (hn:∀q∈l,q.name.size≤maxLen) (hr:r.ok):Tells Tryz.prog 3 [JcT p,JS l,Jja r] (Ji true):=by
 have hlt:=Jzr p hp.1
 have hfew:=JwT l hl hn
 obtain ⟨⟨k,n⟩,x32,rs⟩:=p
 cases hlp:Jgw ⟨(k,n),x32,rs⟩ with
 | false=>
   rw [hlp] at hlt;refine Jc Tryz.func3 rfl rfl fun nx=> ?_;refine Z ?_;refine Ja rfl rfl hlt Y1 fun nx5=> ?_;refine Z ?_;exact Jb rfl Rf
 | true=>
   rw [hlp] at hlt;have hpo:=JAH hp hlp;obtain ⟨h40,hps⟩:=JwU hlp;cases hfl:JlU l with
   | false=>
     rw [hfl] at hfew;refine Jc Tryz.func3 rfl rfl fun nx=> ?_;refine Z ?_;refine Ja rfl rfl hlt Y1 fun nx5=> ?_;refine Z ?_;refine Ja rfl rfl hfew Y1 fun nx6=> ?_;refine Z ?_;exact Jb rfl Rf
   | true=>
     rw [hfl] at hfew;obtain ⟨hl40,hn60⟩:=JDI hfl;have hof:=JC8 ⟨(k,n),x32,rs⟩ hpo.1 (fun r hr=> (hpo.2 r hr).1);have hrw:=Jtc l Om;have hR:=Jta ⟨(k,n),x32,rs⟩ l hp hps Om hn;unfold JBh at hR;by_cases hv:(Jaf ⟨(k,n),x32,rs⟩ l).2=0
     ·rw [if_neg (fun h=> h hv)] at hR;dsimp only at hR;cases hx:rs.findIdx? (Jeb l) with
      | some i=>
        rw [hx] at hR;exact JlI k n x32 rs l r i 17 Dc hlt hfew hof hrw hR
      | none=>
        rw [hx] at hR;have hm:∀r∈rs,Jeb l r=false:=fun r hr=> by
         have:=List.findIdx?_eq_none_iff.1 hx r hr;simpa using this
        have hc:∀r∈rs,∀c∈r.conds,c.ok:=fun r hr=> (hpo.2 r hr).2;have hT:=JDM (p:=⟨(k,n),x32,rs⟩) (l:=l) hv hc (Jg4 hr);have hI:=Jsl hT rfl (JA3 hc);have hje:=JAG (p:=⟨(k,n),x32,rs⟩) (l:=l) (r:=r) (JaC.1 hv).1 (JaC.1 hv).2.1;have hsem:=hI.2;rw [JAS hv (Jg4 hr),JAO (p:=⟨(k,n),x32,rs⟩) hv hc hm hr,hje] at hsem;exact Juf k n x32 rs l r _ (Jkr ⟨(k,n),x32,rs⟩ l r) (by rw [← hje];exact JAb (JrF (JaC.1 hv).1 l r)) (JD8 hv hc h40 fun r hr=> (hps r hr).1) hr hI.1 hsem (JBn hT rfl) hlt hfew hof hrw hR (Jqf ⟨(k,n),x32,rs⟩ l r hpo (JaC.1 hv).1 Om hr)
     ·rw [if_pos hv] at hR;exact JlI k n x32 rs l r (Jaf ⟨(k,n),x32,rs⟩ l).1 (Jaf ⟨(k,n),x32,rs⟩ l).2 hv hlt hfew hof hrw hR
end Go.Proofs.W
