import Derived.Test.YtcacleckdoninaaGreatDoorQF
import Derived.Test.YtcacleckdoninaaGreatDoorQE
import Derived.Test.YtcacleckdoninaaGreatDoorQD
import Derived.Test.YtcacleckdoninaaGreatDoorQC
set_option linter.unusedVariables false
set_option linter.unusedSimpArgs false
set_option maxHeartbeats 16000000
namespace Go.Proofs.W
open Go.Vl
set_option maxRecDepth 100000
def Jjr (r:Rec):Rec:=⟨0,0,0,r.a0,r.a1,r.a2,r.a3,r.a4,r.a5⟩
theorem Jqx (a:Nat) (r:Rec):Jq a (Jjr r)=Jq a r:=funext fun k=> by
 unfold Jq
 have:(Jjr r).arg k=r.arg k:=by
  match k with
  | 0 | 1 | 2 | 3 | 4=> rfl
  | k+5=> rfl
 rw [this]
theorem Juo {r:Rec} (h:r.ok):(Jjr r).ok:=⟨(by decide:(0:Nat) < 4294967296),(by decide:(0:Nat) < 4294967296),(by decide:(0:Nat) < 18446744073709551616),h.2.2.2.1,h.2.2.2.2.1,h.2.2.2.2.2.1,h.2.2.2.2.2.2.1,h.2.2.2.2.2.2.2.1,h.2.2.2.2.2.2.2.2⟩
def JfD (m:Nat) (s:PSub):Option Nat:=if s.num=m then some s.code else none
structure PlOk (P:Plan):Prop where
 ents:∀a,a < 5→(P.ents a).length≤1000000∧∀e∈P.ents a,e.rules.length≤1000000∧∀q∈e.rules,q.conds.length≤1000000∧∀c∈q.conds,c.ok
 subs:∀m,m < 2→(P.subs m).length≤1000000∧∀s∈P.subs m,s.num < 4294967296
theorem Jqy {s a:Nat} (h:s < 4294967296):(IntKind.u64.wrap ((s:Nat):Int) ==((a:Nat):Int).tmod 4294967296)=decide (s=a % 4294967296):=by
 rw [show ((a:Nat):Int).tmod 4294967296=((a % 4294967296:Nat):Int) from (Int.ofNat_tmod a 4294967296).symm,show IntKind.u64.wrap ((s:Nat):Int)=(s:Int) from by simp [IntKind.wrap,IntKind.signed,IntKind.bits];omega,Bool.eq_iff_iff]
 simp only [beq_iff_eq,decide_eq_true_eq]
 omega
theorem Je2 {α:Type} {F:α→Option Nat} {E:List α} {i:Nat} {d:α} (hi:i < E.length):(E.drop i).findSome? F=match F (E.getD i d) with | some b=> some b | none=> (E.drop (i+1)).findSome? F:=by
 rw [List.drop_eq_getElem_cons hi,List.findSome?_cons,show E.getD i d=E[i] by simp [List.getD,hi]]
 cases F E[i] <;> rfl
theorem Jhk (a b:Nat):(((a:Nat):Int) !=((b:Nat):Int))=decide (a≠b):=by
 by_cases h:a=b
 ·subst h;simp
 ·have:((a:Nat):Int)≠((b:Nat):Int):=by omega
  rw [bne_iff_ne.2 this,decide_eq_true h]
theorem Jd2 {x:Nat→Nat} {l:List PRul} (h:∀j,j < l.length→(l.getD j Jy).conds.all (hB x)=false):Jae x l=none:=by
 unfold Jae
 rw [List.find?_eq_none.2 fun r hr=> ?_]
 ·rfl
 ·obtain ⟨j,hj,rfl⟩:=List.mem_iff_getElem.1 hr;have:=h j hj;rw [show l.getD j Jy=l[j] by simp [List.getD,hj]] at this;rw [this];decide
theorem Jfw {x:Nat→Nat} {l:List PRul} {k:Nat} (hk:k < l.length) (h:∀j,j < k→(l.getD j Jy).conds.all (hB x)=false) (hb:(l.getD k Jy).conds.all (hB x)=true):Jae x l=some (l.getD k Jy).code:=by
 unfold Jae
 have e:l.find? (fun r=> r.conds.all (hB x))=some (l.getD k Jy):=by
  refine List.find?_eq_some_iff_getElem.2 ⟨hb,k,hk,by simp [List.getD,hk],fun j hj=> ?_⟩;have:=h j hj;rw [show l.getD j Jy=l[j] by simp [List.getD,(by omega:j < l.length)]] at this;rw [this];rfl
 rw [e];rfl
theorem Jbx {α:Type} {E:List α} {d:α} {i:Nat} (h:i < E.length):E.getD i d∈E:=by simp [List.getD,h]
theorem Jsu (P:Plan) (r:Rec) (hr:r.ok) (hP:PlOk P):Tells Tryz.prog 9 [JhR P,recA r] (u32 (byP P r:Nat)):=by
 have hsel:=Jq1 r.arch r.num hr.2.1 hr.1
 have hk:=Jpc r.num
 rw [JyP] at hsel
 unfold byP
 cases hs:JfA r.arch r.num with
 | none=>
   rw [hs] at hsel;refine Jc Tryz.func9 rfl rfl fun nx=> ?_;refine Z ?_;refine Ja rfl rfl hsel Y2 fun nx1=> ?_;refine Z ?_;exact Jb rfl Rf
 | some a=>
   rw [hs] at hsel;have ha:=JrN hs;dsimp only at hsel⊢;have hag:=Jpb a ha (Jjr r) (Juo hr);rw [Jqx] at hag;rcases (by omega:a=0∨a=1∨a=2∨a=3∨a=4) with rfl | rfl | rfl | rfl | rfl
   ·rw [if_neg (fun h=> by cases h.1),if_neg (show ¬0 < Jd4 0 r.num from Nat.lt_irrefl 0)];refine Jc Tryz.func9 rfl rfl fun nx=> ?_;refine Z ?_;refine Ja rfl rfl hsel Y2 fun nx1=> ?_;refine Z ?_;refine Ja rfl rfl hk Y1 fun nx7=> ?_;refine Z ?_;refine Ja rfl rfl hag Y2 fun nx2=> ?_;refine Z ?_;have hE:=hP.ents 0 Dc;have hxl:=JfY hr 0;refine Jm (fun y:Nat×Nat=> mk 130 [(2, .bp (0,nx) 0),(3, .bp (1,nx+1) 0),(4,u32 0),(5,int (0:Nat)),(9, .bp (2,nx2) 0),(10,int y.1)] ⟨[((2,nx2), .c (Jah (Jq 0 r))),((1,nx+1), .c (J3 r)),((0,nx), .c (planC P))], [],y.2,3⟩) (fun y=> y.1≤(P.ents 0).length∧((P.ents 0).drop y.1).findSome? (JbA (Jq 0 r) r.num)=(P.ents 0).findSome? (JbA (Jq 0 r) r.num)) (fun y=> (P.ents 0).length - y.1) ?_ ?_
    ·exact ⟨(0,nx2+1),⟨Nat.zero_le _,rfl⟩,Et (pm:= []) (bx:= [((2,nx2), .c (Jah (Jq 0 r))),((1,nx+1), .c (J3 r)),((0,nx), .c (planC P))]) rfl rfl Bf Tt Y6⟩
    ·rintro ⟨i,nx3⟩ ⟨hi1,hi2⟩;dsimp only at hi1 hi2;refine Z ?_;intro c g;cases c
     ·have g:=Jn g;try dsimp only at g
      have hi:i=(P.ents 0).length:=(by omega);rw [hi,List.drop_length] at hi2;rw [← hi2];refine Z ?_;exact Jb rfl Rf
     ·have g:=Jo g;try dsimp only at g
      have hi:i < (P.ents 0).length:=(by omega);have hd:=Je2 (F:=JbA (Jq 0 r) r.num) (d:=ent0) hi;have hem:=hE.2 _ (Jbx (d:=ent0) hi);refine Z ?_
      (refine JL 11 Kr Kr Kr ?_)
      refine Z ?_;refine ⟨Bd, ?_⟩;refine Z ?_;intro c hc;have hc2:c=decide (((P.ents 0).getD i ent0).num≠r.num):=hc.trans (Jhk _ _);clear hc;cases c
      ·have hne:((P.ents 0).getD i ent0).num=r.num:=by
        have:=of_decide_eq_false hc2.symm;exact Decidable.of_not_not this
       have hF:JbA (Jq 0 r) r.num ((P.ents 0).getD i ent0)=Jae (Jq 0 r) ((P.ents 0).getD i ent0).rules:=if_pos hne;rw [hF] at hd;clear hc2;refine Z ?_;refine ⟨Bd, ?_⟩;refine Z ?_;generalize hee:(P.ents 0).getD i ent0=e at hd hem;have hcell:AV.sl 2 ((P.ents 0).getD i ent0).rules.length (fun k=> Jb9 (((P.ents 0).getD i ent0).rules.getD k Jy))=JK e.rules:=(by rw [hee];rfl);refine Jm (fun y:Nat×Nat=> mk 130 [(2, .bp (0,nx) 0),(3, .bp (1,nx+1) 0),(4,u32 0),(5,int (0:Nat)),(9, .bp (2,nx2) 0),(10,int i),(11,JK e.rules),(12,int y.1)] ⟨[((2,nx2), .c (Jah (Jq 0 r))),((1,nx+1), .c (J3 r)),((0,nx), .c (planC P))], [],y.2,3⟩) (fun y=> y.1≤e.rules.length∧∀j,j < y.1→(e.rules.getD j Jy).conds.all (hB (Jq 0 r))=false) (fun y=> e.rules.length - y.1) ?_ ?_
       ·exact ⟨(0,nx3),⟨Nat.zero_le _,fun j h=> absurd h (Nat.not_lt_zero _)⟩,Et (pm:= []) (bx:= [((2,nx2), .c (Jah (Jq 0 r))),((1,nx+1), .c (J3 r)),((0,nx), .c (planC P))]) rfl rfl Bf Tt ⟨Rf,Rf,Rf,Rf,Rf,Rf,AVle.of_eq hcell,Y1⟩⟩
       ·rintro ⟨k,nx4⟩ ⟨hk1,hk2⟩;dsimp only at hk1 hk2;refine Z ?_;intro c g2;cases c
        ·have g2:=Jn g2;try dsimp only at g2
         have hkk:k=e.rules.length:=(by omega);subst hkk;rw [Jd2 hk2] at hd;refine Z ?_;exact back (i+1,nx4) ⟨hi,by rw [← hi2,hd]⟩ Dm (Et (pm:= []) (bx:= [((2,nx2), .c (Jah (Jq 0 r))),((1,nx+1), .c (J3 r)),((0,nx), .c (planC P))]) rfl rfl Bf Tt ⟨Rf,Rf,Rf,Rf,Rf,Lw,Tt⟩)
        ·have g2:=Jo g2;try dsimp only at g2
         have hkk:k < e.rules.length:=(by omega);have hq:=hem.2 _ (Jbx (d:=Jy) hkk);have hall:=Jgh (Jq 0 r) hxl (e.rules.getD k Jy).conds Om hq.2;refine Z ?_
         (refine JL 7 Kr Kr Kr ?_)
         refine Z ?_;refine ⟨Bd, ?_⟩;refine Z ?_;refine Jau (JQ rfl rfl hall Y2 (NoId.v _)) ?_;refine Z ?_;intro c hc;have hc2:c=(e.rules.getD k Jy).conds.all (hB (Jq 0 r)):=hc;clear hc;cases c
         ·refine Z ?_;exact back (k+1,nx4) ⟨hkk,fun j hj=> by dsimp only at hj;rcases Nat.lt_or_ge j k with q | q;exact hk2 j q;rw [show j=k by omega];exact hc2.symm⟩ Dm (Et (pm:= []) (bx:= [((2,nx2), .c (Jah (Jq 0 r))),((1,nx+1), .c (J3 r)),((0,nx), .c (planC P))]) rfl rfl Bf Tt ⟨Rf,Rf,Rf,Rf,Rf,Rf,Rf,Lw,Tt⟩)
         ·rw [Jfw hkk hk2 hc2.symm] at hd;rw [← hi2,hd];refine Z ?_;refine ⟨Bd, ?_⟩;refine Z ?_;exact Jb rfl Rf
      ·have hne:((P.ents 0).getD i ent0).num≠r.num:=of_decide_eq_true hc2.symm;rw [show JbA (Jq 0 r) r.num ((P.ents 0).getD i ent0)=none from if_neg hne] at hd;clear hc2;refine Z ?_;exact back (i+1,nx3) ⟨hi,by rw [← hi2,hd]⟩ Dm (Et (pm:= []) (bx:= [((2,nx2), .c (Jah (Jq 0 r))),((1,nx+1), .c (J3 r)),((0,nx), .c (planC P))]) rfl rfl Bf Tt ⟨Rf,Rf,Rf,Rf,Rf,Lw,Tt⟩)
   ·have hko:¬0 < Jd4 1 r.num:=Nat.lt_irrefl 0;refine Jc Tryz.func9 rfl rfl fun nx=> ?_;refine Z ?_;refine Ja rfl rfl hsel Y2 fun nx1=> ?_;refine Z ?_;intro c hc;have hc2:c=P.x32:=hc;clear hc;cases c
    ·rw [if_pos ⟨rfl,hc2.symm⟩];refine Z ?_;exact Jb rfl Rf
    ·rw [if_neg (fun h=> by rw [h.2] at hc2;cases hc2),if_neg hko];refine Z ?_;refine Ja rfl rfl hk Y1 fun nx7=> ?_;refine Z ?_;refine Ja rfl rfl hag Y2 fun nx2=> ?_;refine Z ?_;have hE:=hP.ents 1 Dc;have hxl:=JfY hr 1;refine Jm (fun y:Nat×Nat=> mk 130 [(2, .bp (0,nx) 0),(3, .bp (1,nx+1) 0),(4,u32 0),(5,int (1:Nat)),(9, .bp (2,nx2) 0),(10,int y.1)] ⟨[((2,nx2), .c (Jah (Jq 1 r))),((1,nx+1), .c (J3 r)),((0,nx), .c (planC P))], [],y.2,3⟩) (fun y=> y.1≤(P.ents 1).length∧((P.ents 1).drop y.1).findSome? (JbA (Jq 1 r) r.num)=(P.ents 1).findSome? (JbA (Jq 1 r) r.num)) (fun y=> (P.ents 1).length - y.1) ?_ ?_
     ·exact ⟨(0,nx2+1),⟨Nat.zero_le _,rfl⟩,Et (pm:= []) (bx:= [((2,nx2), .c (Jah (Jq 1 r))),((1,nx+1), .c (J3 r)),((0,nx), .c (planC P))]) rfl rfl Bf Tt Y6⟩
     ·rintro ⟨i,nx3⟩ ⟨hi1,hi2⟩;dsimp only at hi1 hi2;refine Z ?_;intro c g;cases c
      ·have g:=Jn g;try dsimp only at g
       have hi:i=(P.ents 1).length:=(by omega);rw [hi,List.drop_length] at hi2;rw [← hi2];refine Z ?_;exact Jb rfl Rf
      ·have g:=Jo g;try dsimp only at g
       have hi:i < (P.ents 1).length:=(by omega);have hd:=Je2 (F:=JbA (Jq 1 r) r.num) (d:=ent0) hi;have hem:=hE.2 _ (Jbx (d:=ent0) hi);refine Z ?_
       (refine JL 11 Kr Kr Kr ?_)
       refine Z ?_;refine ⟨Bd, ?_⟩;refine Z ?_;intro c hc;have hc2:c=decide (((P.ents 1).getD i ent0).num≠r.num):=hc.trans (Jhk _ _);clear hc;cases c
       ·have hne:((P.ents 1).getD i ent0).num=r.num:=by
         have:=of_decide_eq_false hc2.symm;exact Decidable.of_not_not this
        have hF:JbA (Jq 1 r) r.num ((P.ents 1).getD i ent0)=Jae (Jq 1 r) ((P.ents 1).getD i ent0).rules:=if_pos hne;rw [hF] at hd;clear hc2;refine Z ?_;refine ⟨Bd, ?_⟩;refine Z ?_;generalize hee:(P.ents 1).getD i ent0=e at hd hem;have hcell:AV.sl 2 ((P.ents 1).getD i ent0).rules.length (fun k=> Jb9 (((P.ents 1).getD i ent0).rules.getD k Jy))=JK e.rules:=(by rw [hee];rfl);refine Jm (fun y:Nat×Nat=> mk 130 [(2, .bp (0,nx) 0),(3, .bp (1,nx+1) 0),(4,u32 0),(5,int (1:Nat)),(9, .bp (2,nx2) 0),(10,int i),(11,JK e.rules),(12,int y.1)] ⟨[((2,nx2), .c (Jah (Jq 1 r))),((1,nx+1), .c (J3 r)),((0,nx), .c (planC P))], [],y.2,3⟩) (fun y=> y.1≤e.rules.length∧∀j,j < y.1→(e.rules.getD j Jy).conds.all (hB (Jq 1 r))=false) (fun y=> e.rules.length - y.1) ?_ ?_
        ·exact ⟨(0,nx3),⟨Nat.zero_le _,fun j h=> absurd h (Nat.not_lt_zero _)⟩,Et (pm:= []) (bx:= [((2,nx2), .c (Jah (Jq 1 r))),((1,nx+1), .c (J3 r)),((0,nx), .c (planC P))]) rfl rfl Bf Tt ⟨Rf,Rf,Rf,Rf,Rf,Rf,AVle.of_eq hcell,Y1⟩⟩
        ·rintro ⟨k,nx4⟩ ⟨hk1,hk2⟩;dsimp only at hk1 hk2;refine Z ?_;intro c g2;cases c
         ·have g2:=Jn g2;try dsimp only at g2
          have hkk:k=e.rules.length:=(by omega);subst hkk;rw [Jd2 hk2] at hd;refine Z ?_;exact back (i+1,nx4) ⟨hi,by rw [← hi2,hd]⟩ Dm (Et (pm:= []) (bx:= [((2,nx2), .c (Jah (Jq 1 r))),((1,nx+1), .c (J3 r)),((0,nx), .c (planC P))]) rfl rfl Bf Tt ⟨Rf,Rf,Rf,Rf,Rf,Lw,Tt⟩)
         ·have g2:=Jo g2;try dsimp only at g2
          have hkk:k < e.rules.length:=(by omega);have hq:=hem.2 _ (Jbx (d:=Jy) hkk);have hall:=Jgh (Jq 1 r) hxl (e.rules.getD k Jy).conds Om hq.2;refine Z ?_
          (refine JL 7 Kr Kr Kr ?_)
          refine Z ?_;refine ⟨Bd, ?_⟩;refine Z ?_;refine Jau (JQ rfl rfl hall Y2 (NoId.v _)) ?_;refine Z ?_;intro c hc;have hc2:c=(e.rules.getD k Jy).conds.all (hB (Jq 1 r)):=hc;clear hc;cases c
          ·refine Z ?_;exact back (k+1,nx4) ⟨hkk,fun j hj=> by dsimp only at hj;rcases Nat.lt_or_ge j k with q | q;exact hk2 j q;rw [show j=k by omega];exact hc2.symm⟩ Dm (Et (pm:= []) (bx:= [((2,nx2), .c (Jah (Jq 1 r))),((1,nx+1), .c (J3 r)),((0,nx), .c (planC P))]) rfl rfl Bf Tt ⟨Rf,Rf,Rf,Rf,Rf,Rf,Rf,Lw,Tt⟩)
          ·rw [Jfw hkk hk2 hc2.symm] at hd;rw [← hi2,hd];refine Z ?_;refine ⟨Bd, ?_⟩;refine Z ?_;exact Jb rfl Rf
       ·have hne:((P.ents 1).getD i ent0).num≠r.num:=of_decide_eq_true hc2.symm;rw [show JbA (Jq 1 r) r.num ((P.ents 1).getD i ent0)=none from if_neg hne] at hd;clear hc2;refine Z ?_;exact back (i+1,nx3) ⟨hi,by rw [← hi2,hd]⟩ Dm (Et (pm:= []) (bx:= [((2,nx2), .c (Jah (Jq 1 r))),((1,nx+1), .c (J3 r)),((0,nx), .c (planC P))]) rfl rfl Bf Tt ⟨Rf,Rf,Rf,Rf,Rf,Lw,Tt⟩)
   ·rw [if_neg (fun h=> by cases h.1)];have hkk:(JfL r.num=0∨JfL r.num=1∨JfL r.num=2):=by
     unfold JfL;split
     ·exact .inr (.inl rfl)
     ·split
      ·exact .inr (.inr rfl)
      ·exact .inl rfl
    have hko:Jd4 2 r.num=JfL r.num:=rfl;rw [hko];rcases hkk with h0 | h0 | h0
    ·rw [h0] at hk;rw [h0,if_neg Dc];refine Jc Tryz.func9 rfl rfl fun nx=> ?_;refine Z ?_;refine Ja rfl rfl hsel Y2 fun nx1=> ?_;refine Z ?_;refine Ja rfl rfl hk Y1 fun nx7=> ?_;refine Z ?_;refine Ja rfl rfl hag Y2 fun nx2=> ?_;refine Z ?_;have hE:=hP.ents 2 Dc;have hxl:=JfY hr 2;refine Jm (fun y:Nat×Nat=> mk 130 [(2, .bp (0,nx) 0),(3, .bp (1,nx+1) 0),(4,u32 0),(5,int (2:Nat)),(9, .bp (2,nx2) 0),(10,int y.1)] ⟨[((2,nx2), .c (Jah (Jq 2 r))),((1,nx+1), .c (J3 r)),((0,nx), .c (planC P))], [],y.2,3⟩) (fun y=> y.1≤(P.ents 2).length∧((P.ents 2).drop y.1).findSome? (JbA (Jq 2 r) r.num)=(P.ents 2).findSome? (JbA (Jq 2 r) r.num)) (fun y=> (P.ents 2).length - y.1) ?_ ?_
     ·exact ⟨(0,nx2+1),⟨Nat.zero_le _,rfl⟩,Et (pm:= []) (bx:= [((2,nx2), .c (Jah (Jq 2 r))),((1,nx+1), .c (J3 r)),((0,nx), .c (planC P))]) rfl rfl Bf Tt Y6⟩
     ·rintro ⟨i,nx3⟩ ⟨hi1,hi2⟩;dsimp only at hi1 hi2;refine Z ?_;intro c g;cases c
      ·have g:=Jn g;try dsimp only at g
       have hi:i=(P.ents 2).length:=(by omega);rw [hi,List.drop_length] at hi2;rw [← hi2];refine Z ?_;exact Jb rfl Rf
      ·have g:=Jo g;try dsimp only at g
       have hi:i < (P.ents 2).length:=(by omega);have hd:=Je2 (F:=JbA (Jq 2 r) r.num) (d:=ent0) hi;have hem:=hE.2 _ (Jbx (d:=ent0) hi);refine Z ?_
       (refine JL 11 Kr Kr Kr ?_)
       refine Z ?_;refine ⟨Bd, ?_⟩;refine Z ?_;intro c hc;have hc2:c=decide (((P.ents 2).getD i ent0).num≠r.num):=hc.trans (Jhk _ _);clear hc;cases c
       ·have hne:((P.ents 2).getD i ent0).num=r.num:=by
         have:=of_decide_eq_false hc2.symm;exact Decidable.of_not_not this
        have hF:JbA (Jq 2 r) r.num ((P.ents 2).getD i ent0)=Jae (Jq 2 r) ((P.ents 2).getD i ent0).rules:=if_pos hne;rw [hF] at hd;clear hc2;refine Z ?_;refine ⟨Bd, ?_⟩;refine Z ?_;generalize hee:(P.ents 2).getD i ent0=e at hd hem;have hcell:AV.sl 2 ((P.ents 2).getD i ent0).rules.length (fun k=> Jb9 (((P.ents 2).getD i ent0).rules.getD k Jy))=JK e.rules:=(by rw [hee];rfl);refine Jm (fun y:Nat×Nat=> mk 130 [(2, .bp (0,nx) 0),(3, .bp (1,nx+1) 0),(4,u32 0),(5,int (2:Nat)),(9, .bp (2,nx2) 0),(10,int i),(11,JK e.rules),(12,int y.1)] ⟨[((2,nx2), .c (Jah (Jq 2 r))),((1,nx+1), .c (J3 r)),((0,nx), .c (planC P))], [],y.2,3⟩) (fun y=> y.1≤e.rules.length∧∀j,j < y.1→(e.rules.getD j Jy).conds.all (hB (Jq 2 r))=false) (fun y=> e.rules.length - y.1) ?_ ?_
        ·exact ⟨(0,nx3),⟨Nat.zero_le _,fun j h=> absurd h (Nat.not_lt_zero _)⟩,Et (pm:= []) (bx:= [((2,nx2), .c (Jah (Jq 2 r))),((1,nx+1), .c (J3 r)),((0,nx), .c (planC P))]) rfl rfl Bf Tt ⟨Rf,Rf,Rf,Rf,Rf,Rf,AVle.of_eq hcell,Y1⟩⟩
        ·rintro ⟨k,nx4⟩ ⟨hk1,hk2⟩;dsimp only at hk1 hk2;refine Z ?_;intro c g2;cases c
         ·have g2:=Jn g2;try dsimp only at g2
          have hkk:k=e.rules.length:=(by omega);subst hkk;rw [Jd2 hk2] at hd;refine Z ?_;exact back (i+1,nx4) ⟨hi,by rw [← hi2,hd]⟩ Dm (Et (pm:= []) (bx:= [((2,nx2), .c (Jah (Jq 2 r))),((1,nx+1), .c (J3 r)),((0,nx), .c (planC P))]) rfl rfl Bf Tt ⟨Rf,Rf,Rf,Rf,Rf,Lw,Tt⟩)
         ·have g2:=Jo g2;try dsimp only at g2
          have hkk:k < e.rules.length:=(by omega);have hq:=hem.2 _ (Jbx (d:=Jy) hkk);have hall:=Jgh (Jq 2 r) hxl (e.rules.getD k Jy).conds Om hq.2;refine Z ?_
          (refine JL 7 Kr Kr Kr ?_)
          refine Z ?_;refine ⟨Bd, ?_⟩;refine Z ?_;refine Jau (JQ rfl rfl hall Y2 (NoId.v _)) ?_;refine Z ?_;intro c hc;have hc2:c=(e.rules.getD k Jy).conds.all (hB (Jq 2 r)):=hc;clear hc;cases c
          ·refine Z ?_;exact back (k+1,nx4) ⟨hkk,fun j hj=> by dsimp only at hj;rcases Nat.lt_or_ge j k with q | q;exact hk2 j q;rw [show j=k by omega];exact hc2.symm⟩ Dm (Et (pm:= []) (bx:= [((2,nx2), .c (Jah (Jq 2 r))),((1,nx+1), .c (J3 r)),((0,nx), .c (planC P))]) rfl rfl Bf Tt ⟨Rf,Rf,Rf,Rf,Rf,Rf,Rf,Lw,Tt⟩)
          ·rw [Jfw hkk hk2 hc2.symm] at hd;rw [← hi2,hd];refine Z ?_;refine ⟨Bd, ?_⟩;refine Z ?_;exact Jb rfl Rf
       ·have hne:((P.ents 2).getD i ent0).num≠r.num:=of_decide_eq_true hc2.symm;rw [show JbA (Jq 2 r) r.num ((P.ents 2).getD i ent0)=none from if_neg hne] at hd;clear hc2;refine Z ?_;exact back (i+1,nx3) ⟨hi,by rw [← hi2,hd]⟩ Dm (Et (pm:= []) (bx:= [((2,nx2), .c (Jah (Jq 2 r))),((1,nx+1), .c (J3 r)),((0,nx), .c (planC P))]) rfl rfl Bf Tt ⟨Rf,Rf,Rf,Rf,Rf,Lw,Tt⟩)
    ·rw [h0] at hk;rw [h0,if_pos Dc];show Tells Tryz.prog _ _ (u32 ((((P.subs 0).findSome? (JfD (r.a0 % 4294967296))).getD P.dflt:Nat):Int));refine Jc Tryz.func9 rfl rfl fun nx=> ?_;refine Z ?_;refine Ja rfl rfl hsel Y2 fun nx1=> ?_;refine Z ?_;refine Ja rfl rfl hk Y1 fun nx7=> ?_;refine Z ?_;refine Jm (fun y:Nat×Nat=> mk 130 [(2, .bp (0,nx) 0),(3, .bp (1,nx+1) 0),(4,u32 0),(7,int (1:Nat)),(8,int y.1)] ⟨[((1,nx+1), .c (J3 r)),((0,nx), .c (planC P))], [],y.2,2⟩) (fun y=> y.1≤(P.subs 0).length∧((P.subs 0).drop y.1).findSome? (JfD (r.a0 % 4294967296))=(P.subs 0).findSome? (JfD (r.a0 % 4294967296))) (fun y=> (P.subs 0).length - y.1) ?_ ?_
     ·exact ⟨(0,nx7),⟨Nat.zero_le _,rfl⟩,Et (pm:= []) (bx:= [((1,nx+1), .c (J3 r)),((0,nx), .c (planC P))]) rfl rfl Bf Tt Y5⟩
     ·rintro ⟨i,nx3⟩ ⟨hi1,hi2⟩;dsimp only at hi1 hi2;refine Z ?_;intro c g;cases c
      ·have g:=Jn g;try dsimp only at g
       have hi:i=(P.subs 0).length:=(by omega);rw [hi,List.drop_length] at hi2;rw [← hi2];refine Z ?_;exact Jb rfl Rf
      ·have g:=Jo g;try dsimp only at g
       have hi:i < (P.subs 0).length:=(by omega);have hd:=Je2 (F:=JfD (r.a0 % 4294967296)) (d:=sub0) hi;have hlm:=(hP.subs 0 Dc).1;have hem:=(hP.subs 0 Dc).2 _ (Jbx (d:=sub0) hi);refine Z ?_
       (refine JL 15 Kr Kr Kr ?_)
       refine Z ?_;refine ⟨Bd, ?_⟩;refine Z ?_;intro c hc;have hc2:c=decide (((P.subs 0).getD i sub0).num=r.a0 % 4294967296):=hc.trans (Jqy hem);clear hc;cases c
       ·have hne:((P.subs 0).getD i sub0).num≠r.a0 % 4294967296:=of_decide_eq_false hc2.symm;rw [show JfD (r.a0 % 4294967296) ((P.subs 0).getD i sub0)=none from if_neg hne] at hd;clear hc2;refine Z ?_;exact back (i+1,nx3) ⟨hi,by rw [← hi2,hd]⟩ Dm (Et (pm:= []) (bx:= [((1,nx+1), .c (J3 r)),((0,nx), .c (planC P))]) rfl rfl Bf Tt ⟨Rf,Rf,Rf,Rf,Lw,Tt⟩)
       ·have hne:((P.subs 0).getD i sub0).num=r.a0 % 4294967296:=of_decide_eq_true hc2.symm;rw [show JfD (r.a0 % 4294967296) ((P.subs 0).getD i sub0)=some ((P.subs 0).getD i sub0).code from if_pos hne] at hd;rw [← hi2,hd];clear hc2;refine Z ?_;refine ⟨Bd, ?_⟩;refine Z ?_;exact Jb rfl Rf
    ·rw [h0] at hk;rw [h0,if_pos Dc];show Tells Tryz.prog _ _ (u32 ((((P.subs 1).findSome? (JfD (r.a0 % 4294967296))).getD P.dflt:Nat):Int));refine Jc Tryz.func9 rfl rfl fun nx=> ?_;refine Z ?_;refine Ja rfl rfl hsel Y2 fun nx1=> ?_;refine Z ?_;refine Ja rfl rfl hk Y1 fun nx7=> ?_;refine Z ?_;refine Jm (fun y:Nat×Nat=> mk 130 [(2, .bp (0,nx) 0),(3, .bp (1,nx+1) 0),(4,u32 0),(7,int (2:Nat)),(8,int y.1)] ⟨[((1,nx+1), .c (J3 r)),((0,nx), .c (planC P))], [],y.2,2⟩) (fun y=> y.1≤(P.subs 1).length∧((P.subs 1).drop y.1).findSome? (JfD (r.a0 % 4294967296))=(P.subs 1).findSome? (JfD (r.a0 % 4294967296))) (fun y=> (P.subs 1).length - y.1) ?_ ?_
     ·exact ⟨(0,nx7),⟨Nat.zero_le _,rfl⟩,Et (pm:= []) (bx:= [((1,nx+1), .c (J3 r)),((0,nx), .c (planC P))]) rfl rfl Bf Tt Y5⟩
     ·rintro ⟨i,nx3⟩ ⟨hi1,hi2⟩;dsimp only at hi1 hi2;refine Z ?_;intro c g;cases c
      ·have g:=Jn g;try dsimp only at g
       have hi:i=(P.subs 1).length:=(by omega);rw [hi,List.drop_length] at hi2;rw [← hi2];refine Z ?_;exact Jb rfl Rf
      ·have g:=Jo g;try dsimp only at g
       have hi:i < (P.subs 1).length:=(by omega);have hd:=Je2 (F:=JfD (r.a0 % 4294967296)) (d:=sub0) hi;have hlm:=(hP.subs 1 Dc).1;have hem:=(hP.subs 1 Dc).2 _ (Jbx (d:=sub0) hi);refine Z ?_
       (refine JL 15 Kr Kr Kr ?_)
       refine Z ?_;refine ⟨Bd, ?_⟩;refine Z ?_;intro c hc;have hc2:c=decide (((P.subs 1).getD i sub0).num=r.a0 % 4294967296):=hc.trans (Jqy hem);clear hc;cases c
       ·have hne:((P.subs 1).getD i sub0).num≠r.a0 % 4294967296:=of_decide_eq_false hc2.symm;rw [show JfD (r.a0 % 4294967296) ((P.subs 1).getD i sub0)=none from if_neg hne] at hd;clear hc2;refine Z ?_;exact back (i+1,nx3) ⟨hi,by rw [← hi2,hd]⟩ Dm (Et (pm:= []) (bx:= [((1,nx+1), .c (J3 r)),((0,nx), .c (planC P))]) rfl rfl Bf Tt ⟨Rf,Rf,Rf,Rf,Lw,Tt⟩)
       ·have hne:((P.subs 1).getD i sub0).num=r.a0 % 4294967296:=of_decide_eq_true hc2.symm;rw [show JfD (r.a0 % 4294967296) ((P.subs 1).getD i sub0)=some ((P.subs 1).getD i sub0).code from if_pos hne] at hd;rw [← hi2,hd];clear hc2;refine Z ?_;refine ⟨Bd, ?_⟩;refine Z ?_;exact Jb rfl Rf
   ·rw [if_neg (fun h=> by cases h.1),if_neg (show ¬0 < Jd4 3 r.num from Nat.lt_irrefl 0)];refine Jc Tryz.func9 rfl rfl fun nx=> ?_;refine Z ?_;refine Ja rfl rfl hsel Y2 fun nx1=> ?_;refine Z ?_;refine Ja rfl rfl hk Y1 fun nx7=> ?_;refine Z ?_;refine Ja rfl rfl hag Y2 fun nx2=> ?_;refine Z ?_;have hE:=hP.ents 3 Dc;have hxl:=JfY hr 3;refine Jm (fun y:Nat×Nat=> mk 130 [(2, .bp (0,nx) 0),(3, .bp (1,nx+1) 0),(4,u32 0),(5,int (3:Nat)),(9, .bp (2,nx2) 0),(10,int y.1)] ⟨[((2,nx2), .c (Jah (Jq 3 r))),((1,nx+1), .c (J3 r)),((0,nx), .c (planC P))], [],y.2,3⟩) (fun y=> y.1≤(P.ents 3).length∧((P.ents 3).drop y.1).findSome? (JbA (Jq 3 r) r.num)=(P.ents 3).findSome? (JbA (Jq 3 r) r.num)) (fun y=> (P.ents 3).length - y.1) ?_ ?_
    ·exact ⟨(0,nx2+1),⟨Nat.zero_le _,rfl⟩,Et (pm:= []) (bx:= [((2,nx2), .c (Jah (Jq 3 r))),((1,nx+1), .c (J3 r)),((0,nx), .c (planC P))]) rfl rfl Bf Tt Y6⟩
    ·rintro ⟨i,nx3⟩ ⟨hi1,hi2⟩;dsimp only at hi1 hi2;refine Z ?_;intro c g;cases c
     ·have g:=Jn g;try dsimp only at g
      have hi:i=(P.ents 3).length:=(by omega);rw [hi,List.drop_length] at hi2;rw [← hi2];refine Z ?_;exact Jb rfl Rf
     ·have g:=Jo g;try dsimp only at g
      have hi:i < (P.ents 3).length:=(by omega);have hd:=Je2 (F:=JbA (Jq 3 r) r.num) (d:=ent0) hi;have hem:=hE.2 _ (Jbx (d:=ent0) hi);refine Z ?_
      (refine JL 11 Kr Kr Kr ?_)
      refine Z ?_;refine ⟨Bd, ?_⟩;refine Z ?_;intro c hc;have hc2:c=decide (((P.ents 3).getD i ent0).num≠r.num):=hc.trans (Jhk _ _);clear hc;cases c
      ·have hne:((P.ents 3).getD i ent0).num=r.num:=by
        have:=of_decide_eq_false hc2.symm;exact Decidable.of_not_not this
       have hF:JbA (Jq 3 r) r.num ((P.ents 3).getD i ent0)=Jae (Jq 3 r) ((P.ents 3).getD i ent0).rules:=if_pos hne;rw [hF] at hd;clear hc2;refine Z ?_;refine ⟨Bd, ?_⟩;refine Z ?_;generalize hee:(P.ents 3).getD i ent0=e at hd hem;have hcell:AV.sl 2 ((P.ents 3).getD i ent0).rules.length (fun k=> Jb9 (((P.ents 3).getD i ent0).rules.getD k Jy))=JK e.rules:=(by rw [hee];rfl);refine Jm (fun y:Nat×Nat=> mk 130 [(2, .bp (0,nx) 0),(3, .bp (1,nx+1) 0),(4,u32 0),(5,int (3:Nat)),(9, .bp (2,nx2) 0),(10,int i),(11,JK e.rules),(12,int y.1)] ⟨[((2,nx2), .c (Jah (Jq 3 r))),((1,nx+1), .c (J3 r)),((0,nx), .c (planC P))], [],y.2,3⟩) (fun y=> y.1≤e.rules.length∧∀j,j < y.1→(e.rules.getD j Jy).conds.all (hB (Jq 3 r))=false) (fun y=> e.rules.length - y.1) ?_ ?_
       ·exact ⟨(0,nx3),⟨Nat.zero_le _,fun j h=> absurd h (Nat.not_lt_zero _)⟩,Et (pm:= []) (bx:= [((2,nx2), .c (Jah (Jq 3 r))),((1,nx+1), .c (J3 r)),((0,nx), .c (planC P))]) rfl rfl Bf Tt ⟨Rf,Rf,Rf,Rf,Rf,Rf,AVle.of_eq hcell,Y1⟩⟩
       ·rintro ⟨k,nx4⟩ ⟨hk1,hk2⟩;dsimp only at hk1 hk2;refine Z ?_;intro c g2;cases c
        ·have g2:=Jn g2;try dsimp only at g2
         have hkk:k=e.rules.length:=(by omega);subst hkk;rw [Jd2 hk2] at hd;refine Z ?_;exact back (i+1,nx4) ⟨hi,by rw [← hi2,hd]⟩ Dm (Et (pm:= []) (bx:= [((2,nx2), .c (Jah (Jq 3 r))),((1,nx+1), .c (J3 r)),((0,nx), .c (planC P))]) rfl rfl Bf Tt ⟨Rf,Rf,Rf,Rf,Rf,Lw,Tt⟩)
        ·have g2:=Jo g2;try dsimp only at g2
         have hkk:k < e.rules.length:=(by omega);have hq:=hem.2 _ (Jbx (d:=Jy) hkk);have hall:=Jgh (Jq 3 r) hxl (e.rules.getD k Jy).conds Om hq.2;refine Z ?_
         (refine JL 7 Kr Kr Kr ?_)
         refine Z ?_;refine ⟨Bd, ?_⟩;refine Z ?_;refine Jau (JQ rfl rfl hall Y2 (NoId.v _)) ?_;refine Z ?_;intro c hc;have hc2:c=(e.rules.getD k Jy).conds.all (hB (Jq 3 r)):=hc;clear hc;cases c
         ·refine Z ?_;exact back (k+1,nx4) ⟨hkk,fun j hj=> by dsimp only at hj;rcases Nat.lt_or_ge j k with q | q;exact hk2 j q;rw [show j=k by omega];exact hc2.symm⟩ Dm (Et (pm:= []) (bx:= [((2,nx2), .c (Jah (Jq 3 r))),((1,nx+1), .c (J3 r)),((0,nx), .c (planC P))]) rfl rfl Bf Tt ⟨Rf,Rf,Rf,Rf,Rf,Rf,Rf,Lw,Tt⟩)
         ·rw [Jfw hkk hk2 hc2.symm] at hd;rw [← hi2,hd];refine Z ?_;refine ⟨Bd, ?_⟩;refine Z ?_;exact Jb rfl Rf
      ·have hne:((P.ents 3).getD i ent0).num≠r.num:=of_decide_eq_true hc2.symm;rw [show JbA (Jq 3 r) r.num ((P.ents 3).getD i ent0)=none from if_neg hne] at hd;clear hc2;refine Z ?_;exact back (i+1,nx3) ⟨hi,by rw [← hi2,hd]⟩ Dm (Et (pm:= []) (bx:= [((2,nx2), .c (Jah (Jq 3 r))),((1,nx+1), .c (J3 r)),((0,nx), .c (planC P))]) rfl rfl Bf Tt ⟨Rf,Rf,Rf,Rf,Rf,Lw,Tt⟩)
   ·rw [if_neg (fun h=> by cases h.1),if_neg (show ¬0 < Jd4 4 r.num from Nat.lt_irrefl 0)];refine Jc Tryz.func9 rfl rfl fun nx=> ?_;refine Z ?_;refine Ja rfl rfl hsel Y2 fun nx1=> ?_;refine Z ?_;refine Ja rfl rfl hk Y1 fun nx7=> ?_;refine Z ?_;refine Ja rfl rfl hag Y2 fun nx2=> ?_;refine Z ?_;have hE:=hP.ents 4 Dc;have hxl:=JfY hr 4;refine Jm (fun y:Nat×Nat=> mk 130 [(2, .bp (0,nx) 0),(3, .bp (1,nx+1) 0),(4,u32 0),(5,int (4:Nat)),(9, .bp (2,nx2) 0),(10,int y.1)] ⟨[((2,nx2), .c (Jah (Jq 4 r))),((1,nx+1), .c (J3 r)),((0,nx), .c (planC P))], [],y.2,3⟩) (fun y=> y.1≤(P.ents 4).length∧((P.ents 4).drop y.1).findSome? (JbA (Jq 4 r) r.num)=(P.ents 4).findSome? (JbA (Jq 4 r) r.num)) (fun y=> (P.ents 4).length - y.1) ?_ ?_
    ·exact ⟨(0,nx2+1),⟨Nat.zero_le _,rfl⟩,Et (pm:= []) (bx:= [((2,nx2), .c (Jah (Jq 4 r))),((1,nx+1), .c (J3 r)),((0,nx), .c (planC P))]) rfl rfl Bf Tt Y6⟩
    ·rintro ⟨i,nx3⟩ ⟨hi1,hi2⟩;dsimp only at hi1 hi2;refine Z ?_;intro c g;cases c
     ·have g:=Jn g;try dsimp only at g
      have hi:i=(P.ents 4).length:=(by omega);rw [hi,List.drop_length] at hi2;rw [← hi2];refine Z ?_;exact Jb rfl Rf
     ·have g:=Jo g;try dsimp only at g
      have hi:i < (P.ents 4).length:=(by omega);have hd:=Je2 (F:=JbA (Jq 4 r) r.num) (d:=ent0) hi;have hem:=hE.2 _ (Jbx (d:=ent0) hi);refine Z ?_
      (refine JL 11 Kr Kr Kr ?_)
      refine Z ?_;refine ⟨Bd, ?_⟩;refine Z ?_;intro c hc;have hc2:c=decide (((P.ents 4).getD i ent0).num≠r.num):=hc.trans (Jhk _ _);clear hc;cases c
      ·have hne:((P.ents 4).getD i ent0).num=r.num:=by
        have:=of_decide_eq_false hc2.symm;exact Decidable.of_not_not this
       have hF:JbA (Jq 4 r) r.num ((P.ents 4).getD i ent0)=Jae (Jq 4 r) ((P.ents 4).getD i ent0).rules:=if_pos hne;rw [hF] at hd;clear hc2;refine Z ?_;refine ⟨Bd, ?_⟩;refine Z ?_;generalize hee:(P.ents 4).getD i ent0=e at hd hem;have hcell:AV.sl 2 ((P.ents 4).getD i ent0).rules.length (fun k=> Jb9 (((P.ents 4).getD i ent0).rules.getD k Jy))=JK e.rules:=(by rw [hee];rfl);refine Jm (fun y:Nat×Nat=> mk 130 [(2, .bp (0,nx) 0),(3, .bp (1,nx+1) 0),(4,u32 0),(5,int (4:Nat)),(9, .bp (2,nx2) 0),(10,int i),(11,JK e.rules),(12,int y.1)] ⟨[((2,nx2), .c (Jah (Jq 4 r))),((1,nx+1), .c (J3 r)),((0,nx), .c (planC P))], [],y.2,3⟩) (fun y=> y.1≤e.rules.length∧∀j,j < y.1→(e.rules.getD j Jy).conds.all (hB (Jq 4 r))=false) (fun y=> e.rules.length - y.1) ?_ ?_
       ·exact ⟨(0,nx3),⟨Nat.zero_le _,fun j h=> absurd h (Nat.not_lt_zero _)⟩,Et (pm:= []) (bx:= [((2,nx2), .c (Jah (Jq 4 r))),((1,nx+1), .c (J3 r)),((0,nx), .c (planC P))]) rfl rfl Bf Tt ⟨Rf,Rf,Rf,Rf,Rf,Rf,AVle.of_eq hcell,Y1⟩⟩
       ·rintro ⟨k,nx4⟩ ⟨hk1,hk2⟩;dsimp only at hk1 hk2;refine Z ?_;intro c g2;cases c
        ·have g2:=Jn g2;try dsimp only at g2
         have hkk:k=e.rules.length:=(by omega);subst hkk;rw [Jd2 hk2] at hd;refine Z ?_;exact back (i+1,nx4) ⟨hi,by rw [← hi2,hd]⟩ Dm (Et (pm:= []) (bx:= [((2,nx2), .c (Jah (Jq 4 r))),((1,nx+1), .c (J3 r)),((0,nx), .c (planC P))]) rfl rfl Bf Tt ⟨Rf,Rf,Rf,Rf,Rf,Lw,Tt⟩)
        ·have g2:=Jo g2;try dsimp only at g2
         have hkk:k < e.rules.length:=(by omega);have hq:=hem.2 _ (Jbx (d:=Jy) hkk);have hall:=Jgh (Jq 4 r) hxl (e.rules.getD k Jy).conds Om hq.2;refine Z ?_
         (refine JL 7 Kr Kr Kr ?_)
         refine Z ?_;refine ⟨Bd, ?_⟩;refine Z ?_;refine Jau (JQ rfl rfl hall Y2 (NoId.v _)) ?_;refine Z ?_;intro c hc;have hc2:c=(e.rules.getD k Jy).conds.all (hB (Jq 4 r)):=hc;clear hc;cases c
         ·refine Z ?_;exact back (k+1,nx4) ⟨hkk,fun j hj=> by dsimp only at hj;rcases Nat.lt_or_ge j k with q | q;exact hk2 j q;rw [show j=k by omega];exact hc2.symm⟩ Dm (Et (pm:= []) (bx:= [((2,nx2), .c (Jah (Jq 4 r))),((1,nx+1), .c (J3 r)),((0,nx), .c (planC P))]) rfl rfl Bf Tt ⟨Rf,Rf,Rf,Rf,Rf,Rf,Rf,Lw,Tt⟩)
         ·rw [Jfw hkk hk2 hc2.symm] at hd;rw [← hi2,hd];refine Z ?_;refine ⟨Bd, ?_⟩;refine Z ?_;exact Jb rfl Rf
      ·have hne:((P.ents 4).getD i ent0).num≠r.num:=of_decide_eq_true hc2.symm;rw [show JbA (Jq 4 r) r.num ((P.ents 4).getD i ent0)=none from if_neg hne] at hd;clear hc2;refine Z ?_;exact back (i+1,nx3) ⟨hi,by rw [← hi2,hd]⟩ Dm (Et (pm:= []) (bx:= [((2,nx2), .c (Jah (Jq 4 r))),((1,nx+1), .c (J3 r)),((0,nx), .c (planC P))]) rfl rfl Bf Tt ⟨Rf,Rf,Rf,Rf,Rf,Lw,Tt⟩)
theorem Jko:∀ {l m:List Nat},l.Nodup→(∀x∈l,x∈m)→l.length≤m.length
 | [],m,_,_=> Nat.zero_le _
 | x::l,m,hn,h=> by
   obtain ⟨h1,h2⟩:=List.nodup_cons.1 hn;have hx:=h x (.head _);have h3:=Jko (m:=m.erase x) h2 fun y hy=> (List.mem_erase_of_ne (fun e:y=x=> h1 (e ▸ hy))).2 (h y (.tail _ hy));rw [List.length_erase_of_mem hx] at h3;have:=List.length_pos_of_mem hx;rw [List.length_cons];omega
theorem Jqz {A:List Nat} {n:Nat} {q:Nat→Bool} {f:Nat→Nat} (hA:A.Nodup) (hi:∀i j,i < n→j < n→q i=true→q j=true→f i=f j→i=j) (h:∀x,x∈A↔∃i,i < n∧q i=true∧x=f i):((List.range n).filter q).length=A.length:=by
 have hm:∀ {i},i∈(List.range n).filter q↔i < n∧q i=true:=fun {i}=> by rw [List.mem_filter,List.mem_range]
 have e1:(((List.range n).filter q).map f).length=((List.range n).filter q).length:=List.length_map ..
 rw [← e1]
 refine Nat.le_antisymm ?_ ?_
 ·skip
  refine Jko ?_ fun x hx=> ?_
  ·unfold List.Nodup;rw [List.pairwise_map];exact (List.Pairwise.filter q List.nodup_range).imp_of_mem fun {i j} h1 h2 hne e=> hne (hi i j (hm.1 h1).1 (hm.1 h2).1 (hm.1 h1).2 (hm.1 h2).2 e)
  ·obtain ⟨i,h1,rfl⟩:=List.mem_map.1 hx;exact (h _).2 ⟨i,(hm.1 h1).1,(hm.1 h1).2,rfl⟩
 ·refine Jko hA fun x hx=> ?_;obtain ⟨i,h1,h2,rfl⟩:=(h x).1 hx;exact List.mem_map_of_mem (hm.2 ⟨h1,h2⟩)
def Jcl (p:Pol) (l:List TRow) (i:Nat):List Rul:=p.rules.filter fun r=> kS r.name (l.getD i Jd).name
def Jgt (p:Pol) (l:List TRow) (a i:Nat):List PRul:=Jbf a ((Jcl p l i).map JA) (JJ p.dflt)
def JiW (p:Pol) (l:List TRow) (a i:Nat):Bool:=decide (0≤(l.getD i Jd).num a)&& ((decide (a≠1)|| p.x32)&& decide (0 < (Jgt p l a i).length))
theorem JfT {p:Pol} {l:List TRow} {a i:Nat}:JiW p l a i=true↔0≤(l.getD i Jd).num a∧¬(a=1∧p.x32=false)∧Jgt p l a i≠ []:=by
 unfold JiW
 simp only [Bool.and_eq_true,Bool.or_eq_true,decide_eq_true_eq]
 rw [List.length_pos_iff]
 refine and_congr_right fun _=> and_congr_left fun _=> ?_
 cases p.x32 <;> simp
theorem Jmu {p:Pol} {l:List TRow} {a:Nat} {e:PEnt} (hv:(JT p l).2=0):e∈(J0 p l).ents a↔∃i,i < l.length∧JiW (Je p) l a i=true∧e=⟨JbZ a ((l.getD i Jd).num a),Jgt (Je p) l a i⟩:=by
 have ht:=(Jac.1 hv).2.1
 have hG:=Jcz (p:=p) (JbN hv)
 constructor
 ·intro he;obtain ⟨g,hg,h2⟩:=JiL he;obtain ⟨j,hj,r1,n1⟩:=hG g hg;have hr:Jcl (Je p) l j=g.2:=by unfold Jcl;rw [n1,← JeZ hg]
  refine ⟨j,hj, ?_⟩;rw [r1] at h2;unfold JaH at h2;split at h2
  ·cases h2
  ·rename_i q
   have hS:Jgt (Je p) l a j=Jbf a (g.2.map JA) (JJ p.dflt):=by unfold Jgt;rw [hr];rfl
   rw [List.mem_singleton.1 h2,hS];refine ⟨JfT.2 ⟨?_,fun k=> q (.inr (.inl k)),fun k=> q (.inr (.inr (by rw [← hS];exact k)))⟩,rfl⟩;have:¬(l.getD j Jd).num a < 0:=fun k=> q (.inl k);omega
 ·rintro ⟨i,hi,hb,rfl⟩;obtain ⟨b1,b2,b3⟩:=JfT.1 hb;have hne:Jcl (Je p) l i≠ []:=fun k=> b3 (by unfold Jgt;rw [k];rfl);obtain ⟨n,hn⟩:=List.exists_mem_of_ne_nil _ hne;obtain ⟨hn1,hn2⟩:=List.mem_filter.1 hn;obtain ⟨g,hg,hgn⟩:=(Jcg (Jb8 p)).all n hn1;have hg1:g.1=(l.getD i Jd).name:=hgn.trans (JaG.1 hn2);have hg2:=JeZ hg;rw [hg1] at hg2;have hro:=JfS ht hi;refine Jnm hg ?_;rw [hg1,hro,hg2];have:=Jln (a:=a) (d:=JJ p.dflt) (x:=p.x32) (row:=l.getD i Jd) (rs:=(Jcl (Je p) l i).map JA) Om b2 b3;unfold Jcl at this;rw [this];exact .head _
theorem Jmv {p:Pol} {l:List TRow} {m:Nat} {s:PSub} (hv:(JT p l).2=0):s∈(J0 p l).subs m↔∃i r,i < l.length∧(l.getD i Jd).mux=(m:Int)+1∧(Jcl (Je p) l i).head? =some r∧s=⟨(l.getD i Jd).sub.toNat,JJ r.act⟩:=by
 have ht:=(Jac.1 hv).2.1
 have hG:=Jcz (p:=p) (JbN hv)
 constructor
 ·intro he;obtain ⟨g,hg,h2⟩:=JiM he;obtain ⟨j,hj,r1,n1⟩:=hG g hg;have hr:Jcl (Je p) l j=g.2:=by unfold Jcl;rw [n1,← JeZ hg]
  have hne:=((Jcg (Jb8 p)).rows g hg).2;obtain ⟨n,L,hL⟩:=List.exists_cons_of_ne_nil hne;rw [r1] at h2;unfold JbB at h2;split at h2
  ·rename_i q
   refine ⟨j,n,hj,q,by rw [hr,hL];rfl, ?_⟩;rw [List.mem_singleton.1 h2,hL];rfl
  ·cases h2
 ·rintro ⟨i,r,hi,hm,hh,rfl⟩;have hne:Jcl (Je p) l i≠ []:=fun k=> by rw [k] at hh;cases hh
  obtain ⟨n,hn⟩:=List.exists_mem_of_ne_nil _ hne;obtain ⟨hn1,hn2⟩:=List.mem_filter.1 hn;obtain ⟨g,hg,hgn⟩:=(Jcg (Jb8 p)).all n hn1;have hg1:g.1=(l.getD i Jd).name:=hgn.trans (JaG.1 hn2);have hg2:=JeZ hg;rw [hg1] at hg2;have hro:=JfS ht hi;refine Jnn hg ?_;rw [hg1,hro,hg2];unfold JbB;rw [if_pos hm];obtain ⟨n',L,hL⟩:=List.exists_cons_of_ne_nil hne;unfold Jcl at hL hh;rw [hL] at hh⊢;cases hh;exact .head _
theorem Jsv {α:Type} {f:α→Nat} {l:List α} (h1:l.Pairwise fun a b=> f a≤f b) (h2:(l.map f).Nodup):l.Pairwise fun a b=> f a < f b:=by
 unfold List.Nodup at h2
 rw [List.pairwise_map] at h2
 exact (h1.and h2).imp fun {a b} h=> Nat.lt_of_le_of_ne h.1 h.2
theorem Jwz {p:Pol} {l:List TRow} {a:Nat} (hv:(JT p l).2=0) (ha:a < 5):((J0 p l).ents a).Pairwise fun x y=> x.num < y.num:=
 Jsv (JpJ _) (((JfQ _).map _).nodup_iff.2 (JhP (p:=Je p) (Jac.1 hv).2.1 ha JeI (Jcz (p:=p) (JbN hv))))
theorem JwA {p:Pol} {l:List TRow} {m:Nat} (hv:(JT p l).2=0):((J0 p l).subs m).Pairwise fun x y=> x.num < y.num:=
 Jsv (JpK _) (((JfR _).map _).nodup_iff.2 (JhQ (Jac.1 hv).2.1 JeI (Jcz (p:=p) (JbN hv))))
theorem JlH {α:Type} {f:α→Nat} {l:List α} (h:l.Pairwise fun a b=> f a < f b):(l.map f).Nodup:=by
 unfold List.Nodup
 rw [List.pairwise_map]
 exact h.imp fun {a b} h=> Nat.ne_of_lt h
theorem Jup {p:Pol} {l:List TRow} {a:Nat} (hv:(JT p l).2=0) (ha:a < 5):((List.range l.length).filter (JiW (Je p) l a)).length=((J0 p l).ents a).length:=by
 have ht:=(Jac.1 hv).2.1
 have e1:(((J0 p l).ents a).map (·.num)).length=((J0 p l).ents a).length:=List.length_map ..
 rw [← e1]
 refine Jqz (f:=fun i=> JbZ a ((l.getD i Jd).num a)) (JlH (Jwz hv ha)) (fun i j hi hj h1 h2 e=> ?_) fun x=> ?_
 ·have b1:=(JfT.1 h1).1;have b2:=(JfT.1 h2).1;try dsimp only at e
  rw [JeH b1 (JcU ht hi).1,JeH b2 (JcU ht hj).1] at e;exact Jmc ht ha hi hj b1 (by split at e <;> omega)
 ·constructor
  ·intro h;obtain ⟨e,he,rfl⟩:=List.mem_map.1 h;obtain ⟨i,hi,hb,rfl⟩:=(Jmu hv).1 he;exact ⟨i,hi,hb,rfl⟩
  ·rintro ⟨i,hi,hb,rfl⟩;exact List.mem_map.2 ⟨_,(Jmu hv).2 ⟨i,hi,hb,rfl⟩,rfl⟩
def JlI (p:Pol) (l:List TRow) (m i:Nat):Bool:=decide ((l.getD i Jd).mux=(m:Int)+1)&& (Jcl p l i).head?.isSome
theorem Juq {p:Pol} {l:List TRow} {m:Nat} (hv:(JT p l).2=0):((List.range l.length).filter (JlI (Je p) l m)).length=((J0 p l).subs m).length:=by
 have ht:=(Jac.1 hv).2.1
 have e1:(((J0 p l).subs m).map (·.num)).length=((J0 p l).subs m).length:=List.length_map ..
 rw [← e1]
 have hB:∀i,JlI (Je p) l m i=true↔(l.getD i Jd).mux=(m:Int)+1∧∃r,(Jcl (Je p) l i).head? =some r:=fun i=> by
  unfold JlI;rw [Bool.and_eq_true,decide_eq_true_eq,Option.isSome_iff_exists]
 refine Jqz (f:=fun i=> (l.getD i Jd).sub.toNat) (JlH (JwA hv)) (fun i j hi hj h1 h2 e=> ?_) fun x=> ?_
 ·have b1:=((hB i).1 h1).1;have b2:=((hB j).1 h2).1;have c1:=Jda ht hi;have c2:=Jda ht hj;try dsimp only at e
  exact Jmd ht hi hj Om Om Om
 ·constructor
  ·intro h;obtain ⟨e,he,rfl⟩:=List.mem_map.1 h;obtain ⟨i,r,hi,hm,hh,rfl⟩:=(Jmv hv).1 he;exact ⟨i,hi,(hB i).2 ⟨hm,r,hh⟩,rfl⟩
  ·rintro ⟨i,hi,hb,rfl⟩;obtain ⟨hm,r,hh⟩:=(hB i).1 hb;exact List.mem_map.2 ⟨_,(Jmv hv).2 ⟨i,r,hi,hm,hh,rfl⟩,rfl⟩
theorem Jyl {p:Pol} (h:JeC p=true):∀r∈p.rules,r.conds.length≤12∧r.name.size≤1000000:=fun r hr=> by
 unfold JeC Jd0 at h
 simp only [Bool.and_eq_true,decide_eq_true_eq,List.all_eq_true] at h
 have:=h.2 r hr
 exact ⟨this.2,Om⟩
def stA (a:Nat) (c:Cnd):Cnd×Nat:=if a=2 then JaU c else (c,0)
def Jym (a:Nat) (c:Cnd):Bool:=decide ((stA a c).2=2)
def Jur (a:Nat) (c:Cnd):Option Cnd:=if (stA a c).2=0 then some (stA a c).1 else none
theorem JzD (a:Nat) (r:PRul):Jde a r=if r.conds.any (Jym a) then none else some ⟨r.conds.filterMap (Jur a),r.code⟩:=by
 unfold Jde
 by_cases h:a=2
 ·subst h;rfl
 ·rw [if_neg h];have h1:∀c,stA a c=(c,0):=fun c=> if_neg h;have h2:r.conds.any (Jym a)=false:=by
   rw [List.any_eq_false];intro c _;unfold Jym;rw [h1];simp
  have h3:Jur a=some:=funext fun c=> by unfold Jur;rw [h1];rfl
  rw [h2,h3,if_neg Dc,List.filterMap_some]
def Joe (a:Nat) (over:Bool) (l:List PRul):List PRul:=if over then [] else JbR a l
theorem JlJ {a:Nat} {q:PRul} {l:List PRul}:JbR a (q::l)=match Jde a q with
 | none=> JbR a l
 | some r=> r::Joe a (decide (r.conds.length=0)) l:=by
 show (match Jde a q with | none=> JbR a l | some q=> if q.conds.length=0 then [q] else q::JbR a l)=_
 cases Jde a q with
 | none=> rfl
 | some r=>
   dsimp only;unfold Joe;by_cases h:r.conds.length=0
   ·rw [if_pos h,decide_eq_true h];rfl
   ·rw [if_neg h,decide_eq_false h];rfl
theorem JzE {c:Cnd} (h:c.ok):(JaU c).1.ok:=by
 unfold JaU
 obtain ⟨h1,h2⟩:=h
 have h0:cnd0.ok:=⟨by decide,by decide⟩
 split
 ·exact h0
 ·split
  ·split
   ·exact h0
   ·exact ⟨Nat.lt_of_le_of_lt Nat.and_le_left h1,h2⟩
  ·exact ⟨h1,h2⟩
theorem Jsw {d:Nat} (l:List PRul):(JhJ d l).Sublist l:=by
 unfold JhJ
 have h:=(List.dropWhile_sublist (fun r:PRul=> decide (r.code=d)) (l:=l.reverse)).reverse
 rwa [List.reverse_reverse] at h
theorem JiX {a:Nat} {q:PRul}:∀ {l:List PRul},q∈JbR a l→∃r∈l,Jde a r=some q
 | [],h=> by cases h
 | r::l,h=> by
   rw [JlJ] at h;cases hr:Jde a r with
   | none=>
     rw [hr] at h;obtain ⟨r',h1,h2⟩:=JiX h;exact ⟨r', .tail _ h1,h2⟩
   | some q'=>
     rw [hr] at h;rcases List.mem_cons.1 h with rfl | h
     ·exact ⟨r, .head _,hr⟩
     ·unfold Joe at h;split at h
      ·cases h
      ·obtain ⟨r',h1,h2⟩:=JiX h;exact ⟨r', .tail _ h1,h2⟩
theorem JnJ {a:Nat}:∀l:List PRul,(JbR a l).length≤l.length
 | []=> Nat.le_refl _
 | r::l=> by
   have ih:=JnJ (a:=a) l;rw [JlJ];cases Jde a r with
   | none=> dsimp only;rw [List.length_cons];omega
   | some q=>
     dsimp only;rw [List.length_cons,List.length_cons];unfold Joe;split
     ·simp
     ·omega
theorem Jyn {a d:Nat} {q:PRul} {l:List PRul} (h:q∈Jbf a l d):∃r∈l,Jde a r=some q:=JiX ((Jsw _).subset h)
theorem Jyo {a d:Nat} (l:List PRul):(Jbf a l d).length≤l.length:=Nat.le_trans (Jsw _).length_le (JnJ l)
theorem JAp {a:Nat} {r q:PRul} (h:∀c∈r.conds,c.ok) (e:Jde a r=some q):∀c∈q.conds,c.ok:=by
 rw [JzD] at e
 split at e
 ·cases e
 ·obtain rfl:=Option.some.inj e;intro c hc;obtain ⟨c0,h0,h1⟩:=List.mem_filterMap.1 hc;unfold Jur at h1;split at h1
  ·obtain rfl:=Option.some.inj h1;unfold stA;split
   ·exact JzE (h c0 h0)
   ·exact h c0 h0
  ·cases h1
theorem Jsx {p:Pol} {l:List TRow} (hp:p.ok) (hps:∀r∈p.rules,r.conds.length≤12∧r.name.size≤1000000) (hv:(JT p l).2=0) (hl:l.length≤40):PlOk (J0 p l):=by
 have ht:=(Jac.1 hv).2.1
 have hr:=(Jac.1 hv).1
 have hcnt:∀q:Nat→Bool,((List.range l.length).filter q).length≤40:=fun q=> by
  have:=List.length_filter_le q (List.range l.length);rw [List.length_range] at this;omega
 refine ⟨fun a ha=> ⟨?_,fun e he=> ?_⟩,fun m hm=> ⟨?_,fun s hs=> ?_⟩⟩
 ·rw [← Jup hv ha];have:=hcnt (JiW (Je p) l a);omega
 ·obtain ⟨i,hi,hb,rfl⟩:=(Jmu hv).1 he;have hsub:∀q∈Jgt (Je p) l a i,∃r∈(Je p).rules,Jde a (JA r)=some q:=fun q hq=> by
   obtain ⟨q0,h0,h1⟩:=Jyn hq;obtain ⟨r,hr,rfl⟩:=List.mem_map.1 h0;exact ⟨r,(List.mem_filter.1 hr).1,h1⟩
  refine ⟨?_,fun q hq=> ?_⟩
  ·have h1:=Jyo (a:=a) (d:=JJ (Je p).dflt) ((Jcl (Je p) l i).map JA);have h2:(Jcl (Je p) l i).length≤(Je p).rules.length:=List.length_filter_le _ _;have h3:=(Jbt (Jli hr)).1;rw [List.length_map] at h1;exact Nat.le_trans h1 Om
  ·obtain ⟨r,hm,hq2⟩:=hsub q hq;obtain ⟨r0,h0,hN⟩:=JeY hm;have hok:∀c∈r.conds,c.ok:=(Jd1 hN).2.2 (hp.2 r0 h0).2.2;have hlr:r.conds.length≤12:=Nat.le_trans (Jbp hN).1 (hps r0 h0).1;refine ⟨?_,JAp hok hq2⟩;have:=(Jsh hq2).1;have e:(JA r).conds.length=r.conds.length:=rfl;omega
 ·rw [← Juq (m:=m) hv];have:=hcnt (JlI (Je p) l m);omega
 ·obtain ⟨i,r,hi,hmx,_,rfl⟩:=(Jmv hv).1 hs;have:=Jda ht hi;show (l.getD i Jd).sub.toNat < _;omega
def JlK (p:Pol) (l:List TRow) (nm:ByteArray) (r:Rec):List AV:= [int p.dflt.1,int p.dflt.2,boolA p.x32,JW p.rules,trows l,strA nm,u32 r.num,u32 r.arch,u64 r.ptr,u64 r.a0,u64 r.a1,u64 r.a2,u64 r.a3,u64 r.a4,u64 r.a5]
theorem Jsy:JgZ Tryz.prog 26=some [int 0,int 0,boolA false, .os 0 0 (fun _=> .any) none]:=by kernel_rfl
theorem Jsz:JgZ Tryz.prog 32=some [u32 0,u32 0,u64 0,u64 0,u64 0,u64 0,u64 0,u64 0,u64 0]:=by kernel_rfl
def JlL (p:Pol):List AV:= [int p.dflt.1,int p.dflt.2,boolA p.x32,JW p.rules]
def rsB (nx s1 s2:Nat) (p:Pol) (r:Rec):List (Vl.Id×Own):= [((2,s2), .c (J3 r)),((1,s1), .c (JlL p))]
def gR (nm:ByteArray) (k:Nat) (r:Rul):Bool:=kS r.name nm ==decide (k=0)
def tR (nm:ByteArray) (rs:List Rul):Nat→List Rul
 | 0=> []
 | k+1=> tR nm rs k++rs.filter (gR nm k)
theorem JBf (nm:ByteArray) (rs:List Rul):tR nm rs 2=Jb0 nm rs:=by
 unfold Jb0 tR tR tR
 rw [List.nil_append]
 congr 1
 ·exact List.filter_congr fun r _=> by unfold gR;cases kS r.name nm <;> rfl
 ·exact List.filter_congr fun r _=> by unfold gR;cases kS r.name nm <;> rfl
theorem JAq (nm:ByteArray) (rs:List Rul) (k:Nat):(tR nm rs k).length≤k * rs.length:=by
 induction k with
 | zero=> simp [tR]
 | succ k ih=>
   have:=List.length_filter_le (gR nm k) rs;unfold tR;rw [List.length_append,Nat.succ_mul];omega
theorem Jrx:Tryz.prog.bytesOf 39=56:=by kernel_rfl
def rsC (s1 s2 s4 s5:Nat) (p:Pol) (r:Rec) (A B:Plan):List (Vl.Id×Own):= [((5,s5), .c (planC B)),((4,s4), .c (planC A)),((2,s2), .c (J3 r)),((1,s1), .c (JlL p))]
def Jus (R:List Rul) (o:Option Nat):AV:= .os 4 R.length (fun k=> J7 (R.getD k Jg)) (nmN 9 o)
inductive RsOk (p:Pol) (l:List TRow) (nm:ByteArray) (r:Rec):Prop
 | mk (A B:Plan) (i1 e1 i2 e2:Int) (v:Nat) (T:Bts) (okb:Bool) (h40:p.rules.length≤40)
   (hofp:Tells Tryz.prog 7 [polA p] (polA p)) (hofq:Tells Tryz.prog 7 [polA (frontP nm p)] (polA (frontP nm p))) (hrw:Tells Tryz.prog 8 [trows l] (trows l))
   (hRp:Tells Tryz.prog 6 [polA p,trows l] (.tup [.ag (planC A),int i1,int e1])) (hRq:Tells Tryz.prog 6 [polA (frontP nm p),trows l] (.tup [.ag (planC B),int i2,int e2]))
   (he:(e1=0∧e2=0)∨(e1≠0∧e2≠0)) (hbA:Tells Tryz.prog 9 [.ag (planC A),recA r] (u32 (v:Nat))) (hbB:e1=0→Tells Tryz.prog 9 [.ag (planC B),recA r] (u32 (v:Nat)))
   (hpr:Tells Tryz.prog 10 [polA p] (.tup [strA (bs T),int (if okb then 0 else 13)])) (hpa:okb=true→Tells Tryz.prog 12 [strA (bs T)] (.tup [polA p,int 0,int 0])) (hawk:Tells Tryz.prog 11 [] (boolA true)):RsOk p l nm r
theorem JzF (p:Pol) (l:List TRow) (nm:ByteArray) (r:Rec) (b1 b2:Bool) (hlt:Tells Tryz.prog 4 [polA p] (boolA b1)) (hfew:Tells Tryz.prog 5 [trows l] (boolA b2)) (hsz:nm.size≤maxLen)
 (hh:b1=true→b2=true→nm.size≤60→RsOk p l nm r):Tells Tryz.prog 3 [.ag (JlK p l nm r)] (boolA true):=by
 refine Jc Tryz.func3 rfl rfl fun nx=> ?_
 refine JE ?_
 refine JZ ?_
 refine JE ?_
 refine Jij (fun y:Nat×Nat×Nat=> mk 160 [(2,boolA false),(3, .bp (1,y.1) 0),(4,trows l),(5,strA nm),(6, .bp (2,y.2.1) 0)] ⟨rsB nx y.1 y.2.1 p r, [],y.2.2,3⟩) (fun _=> True) ?_ ?_
 ·refine JyK 14 [((0,nx), .c (JlK p l nm r))] (Ef [8,9,10,13]) (fun _=> false) [0,1,2,3,4,5,6,7] 8 9 [10,11,12,13] Kr Kr (HB.refl _) ?_;refine Z ?_;refine ⟨?_, ?_⟩
  ·refine ⟨_,JcS rfl rfl Jsy (HB.one rfl),fun r' h' hr=> ?_⟩;obtain ⟨rfl,rfl⟩:=hr
   (conv=> whnf)
   refine ⟨_,JcS rfl rfl Jsz (HB.one rfl),fun r' h' hr=> ?_⟩;obtain ⟨rfl,rfl⟩:=hr
   (conv=> whnf)
   refine ⟨_,Jdr (i:=(1,nx+1)) (off:=0) (cs:= [int 0,int 0,boolA false, .os 0 0 (fun _=> .any) none]) rfl rfl rfl rfl rfl rfl rfl Kr Kr (by show 0+4≤4;omega) (HB.one rfl),fun r' h' hr=> ?_⟩;obtain rfl:=hr;refine Z ?_;refine ⟨_,Jdr (i:=(2,nx+2)) (off:=0) (cs:= [u32 0,u32 0,u64 0,u64 0,u64 0,u64 0,u64 0,u64 0,u64 0]) rfl rfl rfl rfl rfl rfl rfl Kr Kr (by show 0+9≤9;omega) (HB.one rfl),fun r' h' hr=> ?_⟩;obtain rfl:=hr;refine Z ?_;exact ⟨(nx+1,nx+2,nx+3),trivial,Jh (pm:= []) (bx:=rsB nx (nx+1) (nx+2) p r) _ _ rfl rfl (.cons_cons _ (.cons_cons _ (.cons _ .slnil))) Sf Bf Tt Y5⟩
  ·refine ⟨_,JcS rfl rfl Jsz (HB.one rfl),fun r' h' hr=> ?_⟩;obtain ⟨rfl,rfl⟩:=hr
   (conv=> whnf)
   refine ⟨_,JcS rfl rfl Jsy (HB.one rfl),fun r' h' hr=> ?_⟩;obtain ⟨rfl,rfl⟩:=hr
   (conv=> whnf)
   refine ⟨_,Jdr (i:=(2,nx+2)) (off:=0) (cs:= [int 0,int 0,boolA false, .os 0 0 (fun _=> .any) none]) rfl rfl rfl rfl rfl rfl rfl Kr Kr (by show 0+4≤4;omega) (HB.one rfl),fun r' h' hr=> ?_⟩;obtain rfl:=hr;refine Z ?_;refine ⟨_,Jdr (i:=(1,nx+1)) (off:=0) (cs:= [u32 0,u32 0,u64 0,u64 0,u64 0,u64 0,u64 0,u64 0,u64 0]) rfl rfl rfl rfl rfl rfl rfl Kr Kr (by show 0+9≤9;omega) (HB.one rfl),fun r' h' hr=> ?_⟩;obtain rfl:=hr;refine Z ?_;exact ⟨(nx+2,nx+1,nx+3),trivial,JuY (bx:=rsB nx (nx+2) (nx+1) p r) [_,_,_] _ [] [] rfl rfl (List.Perm.swap _ _ _) (List.Perm.refl _) (.cons_cons _ (.cons_cons _ (.cons _ .slnil))) Sf ⟨rfl,OwnLe.refl _,rfl,OwnLe.refl _,Tt⟩ Tt ⟨Rf,AVle.bp_nm rfl,Rf,Rf,AVle.bp_nm rfl,Tt⟩⟩
 ·rintro ⟨s1,s2,nx1⟩ -;refine Z ?_;refine Ja rfl rfl hlt Y1 fun nx2=> ?_;cases b1
  ·refine Z ?_;exact Jb rfl Rf
  refine Z ?_;refine Ja rfl rfl hfew Y1 fun nx3=> ?_;cases b2
  ·refine Z ?_;exact Jb rfl Rf
  refine Z ?_;intro c hc;by_cases hnm:nm.size≤60
  rotate_left
  ·obtain rfl:c=true:=hc.trans (decide_eq_true Om);refine Z ?_;exact Jb rfl Rf
  obtain ⟨A,B,i1,e1,i2,e2,v,T,okb,h40,hofp,hofq,hrw,hRp,hRq,he,hbA,hbB,hpr,hpa,hawk⟩:=hh rfl rfl hnm;obtain rfl:c=false:=hc.trans (decide_eq_false Om);refine Z ?_;intro c hc;have hc:c=p.x32:=hc;subst hc;refine Z ?_;refine Jm (fun y:Nat×Option Nat×Nat=> mk 160 [(2,boolA false),(3, .bp (1,s1) 0),(4,trows l),(5,strA nm),(6, .bp (2,s2) 0),(7, .bp (3,nx3) 0),(8,int y.1)] ⟨((3,nx3), .c [int p.dflt.1,int p.dflt.2,boolA p.x32,Jus (tR nm p.rules y.1) y.2.1])::rsB nx s1 s2 p r,J2 (nmN 9 y.2.1) ((tR nm p.rules y.1).length * 4),y.2.2,4⟩) (fun y=> y.1≤2∧(y.2.1=none→tR nm p.rules y.1= [])) (fun y=> 2 - y.1) ?_ ?_
  ·exact ⟨(0,none,nx3+1),⟨Nat.zero_le _,fun _=> rfl⟩,Et (pm:= []) (bx:=((3,nx3), .c [int p.dflt.1,int p.dflt.2,boolA p.x32,Jus [] none])::rsB nx s1 s2 p r) rfl rfl ⟨rfl,⟨Rf,Rf,Rf,AVle.os_nil,Tt⟩,Bf⟩ Tt Y7⟩
  ·rintro ⟨k,o,nx4⟩ ⟨k1,k2⟩;dsimp only at k1 k2;have hlen:=JAq nm p.rules k;refine Z ?_;intro c g;cases c
   ·have g:=Jn g;obtain rfl:k=2:=(by dsimp only at g;omega);rw [JBf] at *
    refine Z ?_;refine Ja rfl rfl hofp Y1 fun nx5=> ?_;refine Z ?_;refine Ja rfl rfl hrw Y1 fun nx6=> ?_;refine Z ?_;refine Ja rfl rfl hRp Y2 fun nx7=> ?_;refine Z ?_;refine Ja rfl rfl hofq ⟨AVle.ags (cs:= [_,_,_,_]) ⟨Rf,Rf,Rf,AVle.os_sl,Tt⟩,Tt⟩ fun nx8=> ?_;refine Z ?_;refine Ja rfl rfl hrw Y1 fun nx9=> ?_;refine Z ?_;refine Ja rfl rfl hRq Y2 fun nx10=> ?_;rcases he with ⟨rfl,rfl⟩ | ⟨he1,he2⟩;refine Z ?_;refine AW.le (E':=mk 160 [(2,boolA false),(3, .bp (1,s1) 0),(4,trows l),(6, .bp (2,s2) 0),(10, .bp (4,nx7) 0),(12,int 0),(13, .bp (5,nx10) 0),(15,int 0)] ⟨rsC s1 s2 nx7 nx10 p r A B, [],nx10+1,6⟩ (some [])) (Jh _ _ rfl rfl (.cons_cons _ (.cons_cons _ (.cons _ Sf))) (List.nil_sublist _) Bf Tt Y8) ?_;refine Jaf 18 (rsC s1 s2 nx7 nx10 p r A B) (fun _=> false) (Ef [11,14,15]) [0,1,2,3,4,5,6,7,8,9,10,11,12,13,14,15,16,17] Kr Kr (HB.refl _) ?_;refine Z ?_;refine ⟨_,Jag rfl rfl rfl rfl trivial, ?_⟩;refine Z ?_;refine ⟨_,Jag rfl rfl rfl rfl trivial, ?_⟩;refine Z ?_;refine ⟨_,Jag rfl rfl rfl rfl trivial, ?_⟩;refine Z ?_;refine ⟨_,Jag rfl rfl rfl rfl rfl, ?_⟩;refine Z ?_;refine ⟨_,Jag rfl rfl rfl rfl rfl, ?_⟩;refine Z ?_;refine ⟨_,Jfi rfl rfl rfl rfl rfl hbA Y2 (NoId.v _), ?_⟩;refine Z ?_;refine ⟨_,Jag rfl rfl rfl rfl rfl, ?_⟩;refine Z ?_;refine ⟨_,Jag rfl rfl rfl rfl rfl, ?_⟩;refine Z ?_;refine ⟨_,Jfi rfl rfl rfl rfl rfl (hbB rfl) Y2 (NoId.v _), ?_⟩;refine Z ?_;refine ⟨_,Jem (b':=false) rfl rfl rfl rfl Tt (bne_self_eq_false _), ?_⟩;refine Z ?_;refine ⟨_,Jag rfl rfl rfl rfl trivial, ?_⟩;refine Z ?_
    rotate_left
    refine Z ?_;refine AW.le (E':=mk 160 [(2,boolA false),(3, .bp (1,s1) 0),(4,trows l),(6, .bp (2,s2) 0),(10, .bp (4,nx7) 0),(12,int e1),(13, .bp (5,nx10) 0),(15,int e2)] ⟨rsC s1 s2 nx7 nx10 p r A B, [],nx10+1,6⟩ (some [])) (Jh _ _ rfl rfl (.cons_cons _ (.cons_cons _ (.cons _ Sf))) (List.nil_sublist _) Bf Tt Y8) ?_;refine Jaf 18 (rsC s1 s2 nx7 nx10 p r A B) (fun _=> false) (Ef [1,3,7,11,14]) [0,1,2,3,4,5,6,7,8,9,10,11,12,13,14,15,16,17] Kr Kr (HB.refl _) ?_;refine Z ?_;refine ⟨_,Jin (b':=false) rfl rfl Tt (beq_eq_false_iff_ne.2 he1), ?_⟩;refine Z ?_;refine ⟨_,Jin (b':=false) rfl rfl Tt (beq_eq_false_iff_ne.2 he2), ?_⟩;refine Z ?_;refine ⟨_,Jag rfl rfl rfl rfl trivial, ?_⟩;refine Z ?_;refine ⟨_,Jem (b':=false) rfl rfl rfl rfl Tt (beq_eq_false_iff_ne.2 he1), ?_⟩;refine Z ?_;refine ⟨_,Jag rfl rfl rfl rfl trivial, ?_⟩;refine Z ?_;refine ⟨_,JcK rfl rfl rfl, ?_⟩;refine Z ?_;refine ⟨_,JcK rfl rfl rfl, ?_⟩;refine Z ?_;refine ⟨_,JcK rfl rfl rfl, ?_⟩;refine Z ?_;refine ⟨_,JcK rfl rfl rfl, ?_⟩;refine Z ?_;refine ⟨_,JcK rfl rfl rfl, ?_⟩;refine Z ?_;refine ⟨_,JcK rfl rfl rfl, ?_⟩;refine Z ?_;refine ⟨_,JcK rfl rfl rfl, ?_⟩;refine Z ?_;refine ⟨_,Jag rfl rfl rfl rfl trivial, ?_⟩;refine Z ?_
    all_goals
     refine Ja rfl rfl hofp Y1 fun nx11=> ?_;refine Z ?_;refine Ja rfl rfl hpr Y1 fun nx12=> ?_;cases okb
     ·refine Z ?_;refine Ja rfl rfl hawk trivial fun nx13=> ?_;refine Z ?_;exact Jb rfl Rf
     ·refine Z ?_;refine Ja rfl rfl (hpa rfl) Y1 fun nx13=> ?_;refine Z ?_;refine AW.le (E':=mk 160 [(2,boolA false),(4,trows l),(6, .bp (2,s2) 0),(10, .bp (4,nx7) 0),(12,int _),(18, .bp (6,nx13) 0),(20,int 0)] ⟨[((6,nx13), .c (JlL p)),((4,nx7), .c (planC A)),((2,s2), .c (J3 r))], [],nx13+1,7⟩ (some [])) (Jh _ _ rfl rfl (.cons_cons _ (.cons _ (.cons_cons _ (.cons_cons _ (.cons _ .slnil))))) (List.nil_sublist _) Bf Tt Y7) ?_;refine Jaf 11 [((6,nx13), .c (JlL p)),((4,nx7), .c (planC A)),((2,s2), .c (J3 r))] (Ef [8,9]) (Ef [2,3]) [0,1,2,3,4,5,6,7,8,9,10] Kr Kr (HB.refl _) ?_;refine Z ?_;refine ⟨_,Jao rfl rfl rfl hrw Y1 (Jlm _), ?_⟩;refine Z ?_;refine ⟨_,Jao rfl rfl rfl hRp Y2 (JnI _ _ _), ?_⟩;refine Z ?_;refine ⟨_,JcS (cs:=JdS) rfl rfl Kr (HB.cons rfl (HB.cons rfl (HB.one rfl))),fun r' h' hr=> ?_⟩;obtain ⟨rfl,rfl⟩:=hr
      (conv=> whnf)
      refine ⟨_,Jdr (i:=(7,nx13+1)) (off:=0) (cs:=JdS) rfl rfl rfl rfl rfl rfl rfl Kr Kr (by show 0+9≤9;omega) (HB.cons rfl (HB.cons rfl (HB.one rfl))),fun r' h' hr=> ?_⟩;obtain rfl:=hr;refine Z ?_;refine AW.le (E':=mk 160 [(2,boolA false),(6, .bp (2,s2) 0),(10, .bp (4,nx7) 0),(12,int _),(20,int 0),(21, .bp (7,nx13+1) 0),(23,int _)] ⟨[((7,nx13+1), .c (planC A)),((4,nx7), .c (planC A)),((2,s2), .c (J3 r))], [],nx13+2,8⟩ (some [])) (Jh _ _ rfl rfl (.cons_cons _ (.cons _ Sf)) (List.nil_sublist _) Bf Tt Y7) ?_;refine Jaf 19 [((7,nx13+1), .c (planC A)),((4,nx7), .c (planC A)),((2,s2), .c (J3 r))] (fun _=> false) (Ef [1,5,10,13,14,17]) [0,1,2,3,4,5,6,7,8,9,10,11,12,13,14,15,16,17,18] Kr Kr (HB.refl _) ?_;refine Z ?_;refine ⟨_,Jin (b':=true) rfl rfl Tt (beq_self_eq_true _), ?_⟩;refine Z ?_;refine ⟨_,Jag rfl rfl rfl rfl trivial, ?_⟩;refine Z ?_;refine ⟨_,Jag rfl rfl rfl rfl trivial, ?_⟩;refine Z ?_;refine ⟨_,Jem (b':=true) rfl rfl rfl rfl Tt (beq_self_eq_true _), ?_⟩;refine Z ?_;refine ⟨_,Jag rfl rfl rfl rfl rfl, ?_⟩;refine Z ?_;refine ⟨_,Jag rfl rfl rfl rfl rfl, ?_⟩;refine Z ?_;refine ⟨_,Jfi rfl rfl rfl rfl rfl hbA Y2 (NoId.v _), ?_⟩;refine Z ?_;refine ⟨_,Jag rfl rfl rfl rfl rfl, ?_⟩;refine Z ?_;refine ⟨_,Jag rfl rfl rfl rfl rfl, ?_⟩;refine Z ?_;refine ⟨_,Jfi rfl rfl rfl rfl rfl hbA Y2 (NoId.v _), ?_⟩;refine Z ?_;refine ⟨_,Jem (b':=true) rfl rfl rfl rfl Tt (beq_self_eq_true _), ?_⟩;refine Z ?_;refine ⟨_,Jfi rfl rfl rfl rfl rfl hawk Tt (NoId.v _), ?_⟩;refine Z ?_;exact Jb rfl Rf
   ·have g:=Jo g;have hk:k < 2:=(by dsimp only at g;omega);refine Z ?_;refine Jm (fun z:Nat×Option Nat×Nat=> mk 160 [(2,boolA false),(3, .bp (1,s1) 0),(4,trows l),(5,strA nm),(6, .bp (2,s2) 0),(7, .bp (3,nx3) 0),(8,int k),(9,int z.1)] ⟨((3,nx3), .c [int p.dflt.1,int p.dflt.2,boolA p.x32,Jus (tR nm p.rules k++(p.rules.take z.1).filter (gR nm k)) z.2.1])::rsB nx s1 s2 p r,J2 (nmN 9 z.2.1) ((tR nm p.rules k++(p.rules.take z.1).filter (gR nm k)).length * 4),z.2.2,4⟩) (fun z=> z.1≤p.rules.length∧(z.2.1=none→tR nm p.rules k++(p.rules.take z.1).filter (gR nm k)= [])) (fun z=> p.rules.length - z.1) ?_ ?_
    ·have e0:tR nm p.rules k++(p.rules.take 0).filter (gR nm k)=tR nm p.rules k:=(by simp);refine ⟨(0,o,nx4),⟨Nat.zero_le _,fun h=> ?_⟩, ?_⟩
     ·dsimp only;rw [e0];exact k2 h
     ·dsimp only;rw [e0];exact Et rfl rfl Bf Pf Y8
    ·rintro ⟨i,o2,nx5⟩ ⟨q1,q2⟩;dsimp only at q1 q2;refine Z ?_;intro c g2;cases c
     ·have g2:=Jn g2;obtain rfl:i=p.rules.length:=(by dsimp only at g2;omega);rw [List.take_length] at *
      refine Z ?_;exact back (k+1,o2,nx5) ⟨Dm,q2⟩ Dm (Et rfl rfl Bf Pf ⟨Rf,Rf,Rf,Rf,Rf,Rf,Jk (JC Om),Tt⟩)
     ·have g2:=Jo g2;have hi:i < p.rules.length:=(by dsimp only at g2;omega);have htk:(p.rules.take (i+1)).filter (gR nm k)=(p.rules.take i).filter (gR nm k)++if gR nm k (p.rules.getD i Jg)=true then [p.rules.getD i Jg] else []:=by
       rw [Ja9 Jg hi,List.filter_append,List.filter_cons,List.filter_nil]
      have hL:(tR nm p.rules k++(p.rules.take i).filter (gR nm k)).length≤100:=by
       have:=List.length_filter_le (gR nm k) (p.rules.take i);rw [List.length_take] at this;have:k * p.rules.length≤1 * p.rules.length:=Nat.mul_le_mul_right _ Om;rw [List.length_append];omega
      have happ:tR nm p.rules k++(p.rules.take (i+1)).filter (gR nm k)=(tR nm p.rules k++(p.rules.take i).filter (gR nm k))++if gR nm k (p.rules.getD i Jg)=true then [p.rules.getD i Jg] else []:=(by rw [htk,List.append_assoc]);generalize tR nm p.rules k ++ (p.rules.take i).filter (gR nm k) = L at *
      generalize hx : p.rules.getD i Jg = x at *
      refine Z ?_;refine ⟨⟨Dm,Dm⟩,Ji (b:= .rp (J7 x).cells) (by dsimp only;rw [Int.toNat_natCast,hx]) ?_⟩;refine Z ?_;intro c1 h1;have h1:c1=kS x.name nm:=h1;refine Z ?_;intro c2 h2;have h2:c2=decide (k=0):=h2.trans (by rw [Bool.eq_iff_iff];simp);refine Z ?_;intro c3 h3;have h3:gR nm k x=c3:=(by unfold gR;rw [← h1,← h2];exact h3.symm);rw [h3] at happ;clear h3 h1 h2;cases c3
      ·rw [if_neg Dc,List.append_nil] at happ;refine Z ?_;refine back (i+1,o2,nx5) ⟨Dm, ?_⟩ Dm ?_
       ·dsimp only;rw [happ];exact q2
       ·dsimp only;rw [happ];exact Et rfl rfl Bf Pf ⟨Rf,Rf,Rf,Rf,Rf,Rf,Rf,Jk (JC Om),Tt⟩
      ·rw [if_pos rfl] at happ;refine Z ?_;refine Jaf 9 (((3,nx3), .c [int p.dflt.1,int p.dflt.2,boolA p.x32,Jus L o2])::rsB nx s1 s2 p r) (Ef [8]) (fun _=> false) [0,1,2,3,4,5,6,7,8] Kr Kr (HB.refl _) ?_;refine Z ?_;refine ⟨Bd,Jvb (b:= .rp (J7 x).cells) (by dsimp only;rw [Int.toNat_natCast,hx]) ?_⟩;refine Z ?_;refine ⟨_,JaK (e:=39) (c:=4) (pm:= []) (n:=L.length) (oi:=nmN 9 o2) (sz:=4) (f:=fun k=> J7 (L.getD k Jg)) (HB.refl _) rfl rfl rfl (.inr ⟨_,rfl⟩) Kr Kr Kr (.inr rfl) Kr (List.append_nil _).symm (JG rfl) (by rw [Jrx];omega) Om,fun r' h' hr=> ?_⟩;obtain ⟨rfl,rfl⟩:=hr;refine Z ?_;refine back (i+1,some nx5,nx5+1) ⟨Dm,fun h=> by cases h⟩ Dm ?_;dsimp only;rw [happ];exact Et rfl rfl ⟨rfl,⟨Rf,Rf,Rf,Jef (e:=J7) rfl rfl,Tt⟩,Bf⟩ ⟨rfl,by simp,Tt⟩ ⟨Rf,Rf,Rf,Rf,Rf,Rf,Rf,Jk (JC Om),Tt⟩
theorem JAr:PlOk Jlk:=⟨fun a _=> ⟨Nat.zero_le _,fun e he=> by cases he⟩,fun m _=> ⟨Nat.zero_le _,fun s hs=> by cases hs⟩⟩
theorem JsA (p:Pol) (l:List TRow):∃A i e,Jkn p l= .tup [.ag (planC A),int i,int e]∧(okE p l→A=J0 p l∧e=0)∧(¬okE p l→A=Jlk∧e≠0):=by
 unfold Jkn okE
 by_cases hv:(JT p l).2=0
 ·rw [if_neg (fun h=> h hv)];cases hx:p.rules.findIdx? (Jcj l) with
  | none=>
    have hm:∀r∈p.rules,Jcj l r=false:=fun r hr=> by
     have:=List.findIdx?_eq_none_iff.1 hx r hr;simpa using this
    exact ⟨_,_,_,rfl,fun _=> ⟨rfl,rfl⟩,fun h=> absurd ⟨hv,hm⟩ h⟩
  | some i=>
    refine ⟨_,_,_,rfl,fun h=> ?_,fun _=> ⟨rfl,by decide⟩⟩;have hn:p.rules.findIdx? (Jcj l)=none:=List.findIdx?_eq_none_iff.2 fun r hr=> by rw [h.2 r hr]
    rw [hn] at hx;cases hx
 ·rw [if_pos hv];exact ⟨_,_,_,rfl,fun h=> absurd h.1 hv,fun _=> ⟨rfl,hv⟩⟩
theorem JlM (p:Pol) (l:List TRow) (nm:ByteArray) (r:Rec) (hp:p.ok) (hl:l.length≤maxLen) (hn:∀q∈l,q.name.size≤maxLen) (hs:nm.size≤maxLen) (hr:r.ok):Tells Tryz.prog 3 [.ag (JlK p l nm r)] (boolA true):=by
 refine JzF p l nm r (JeC p) (Jj8 l) (Jwy p hp.1) (Jun l hl hn) hs fun hlp hfl hnm=> ?_
 have hpo:=JxK hp hlp
 have hps:=Jyl hlp
 obtain ⟨hl40,hn60⟩:=Jz9 hfl
 have h40:p.rules.length≤40:=by
  unfold JeC at hlp;simp only [Bool.and_eq_true,decide_eq_true_eq] at hlp;exact hlp.1
 have hc:∀r∈p.rules,∀c∈r.conds,c.ok:=fun r hr=> (hpo.2 r hr).2
 have hq:(frontP nm p).ok:=⟨by show (Jb0 nm p.rules).length≤_;rw [JiN];exact hp.1,fun r hr=> hp.2 r (Jch.1 hr)⟩
 have hqs:∀r∈(frontP nm p).rules,r.conds.length≤12∧r.name.size≤1000000:=fun r hr=> hps r (Jch.1 hr)
 have hRp:=Jgs p l hp hps Om hn
 have hRq:=Jgs (frontP nm p) l hq hqs Om hn
 obtain ⟨A,i1,e1,hA,hA1,hA2⟩:=JsA p l
 obtain ⟨B,i2,e2,hB,hB1,hB2⟩:=JsA (frontP nm p) l
 rw [hA] at hRp
 rw [hB] at hRq
 have hplA:PlOk A:=by
  by_cases h:okE p l
  ·rw [(hA1 h).1];exact Jsx hp hps h.1 hl40
  ·rw [(hA2 h).1];exact JAr
 have hbA:=Jsu A r hr hplA
 refine RsOk.mk A B i1 e1 i2 e2 (byP A r) (if Jaq p=true then JR (Jck p) else []) (Jaq p) h40 (Jst p hpo.1 (fun r hr=> (hpo.2 r hr).1)) (Jst (frontP nm p) (by show (Jb0 nm p.rules).length≤_;rw [JiN];omega) (fun r hr=> (hpo.2 r (Jch.1 hr)).1)) (Jqw l Om) hRp hRq ?_ hbA (fun he=> ?_) ?_ (fun hR=> ?_) Jn3
 ·by_cases h:okE p l
  ·exact .inl ⟨(hA1 h).2,(hB1 ((JhS nm p l).2 h)).2⟩
  ·exact .inr ⟨(hA2 h).2,(hB2 (fun q=> h ((JhS nm p l).1 q))).2⟩
 ·have h:okE p l:=Classical.byContradiction fun h=> (hA2 h).2 he;have h2:=(JhS nm p l).2 h;have hbB:=Jsu B r hr (by rw [(hB1 h2).1];exact Jsx hq hqs h2.1 hl40);rw [(hB1 h2).1,JxR nm h hc hr,← (hA1 h).1] at hbB;rw [(hB1 h2).1];exact hbB
 ·cases hR:Jaq p with
  | true=> exact Jww p hp hR h40
  | false=> exact Jyk p hp hR
 ·rw [if_pos hR,Jsb];have hP:=JhU hR;exact JnA _ p (Jx6 p hP (Nat.le_trans (JlF p hP hp h40).2.1 Dc)) hP hp
end Go.Proofs.W
