import Derived.Test.YtmipfkagmedcnaaGreatDoorJF
import Derived.Test.YtmipfkagmedcnaaGreatDoorJE
import Derived.Test.YtmipfkagmedcnaaGreatDoorJD
import Derived.Test.YtmipfkagmedcnaaGreatDoorJC
set_option linter.unusedVariables false
set_option linter.unusedSimpArgs false
namespace Go.Proofs.W
open Go.Vl
set_option maxRecDepth 100000
theorem Jy3:J7 pAw builtL=(0,0):=by kernel_rfl
theorem Jy4:pAw.rules.findIdx? (Jc4 builtL)=none:=by kernel_rfl
def eK (n:Nat):List PEnt:= [⟨n, [⟨[],2147418112⟩]⟩]
theorem Jzj:Jbh (Jc pAw) builtL (JN (Jc pAw).rules) 0=eK 0:=by kernel_rfl
theorem Jzk:Jbh (Jc pAw) builtL (JN (Jc pAw).rules) 1= []:=by kernel_rfl
theorem Jzl:Jbh (Jc pAw) builtL (JN (Jc pAw).rules) 2=eK 3:=by kernel_rfl
theorem Jzm:Jbh (Jc pAw) builtL (JN (Jc pAw).rules) 3=eK 63:=by kernel_rfl
theorem Jzn:Jbh (Jc pAw) builtL (JN (Jc pAw).rules) 4=eK 63:=by kernel_rfl
theorem Jzo:Jcd builtL (JN (Jc pAw).rules) 0= []:=by kernel_rfl
theorem Jzp:Jcd builtL (JN (Jc pAw).rules) 1= []:=by kernel_rfl
theorem JiY (e:PEnt):Jfj [e]= [e]:=List.mergeSort_singleton _
theorem JxC:Jfj []= []:=List.mergeSort_nil
theorem Jq3:JiU []= []:=List.mergeSort_nil
theorem Jyy:JlU pAw builtL= .tup [.ag [u32 2147483648,Jb false,JT 2 JaD ent0 (eK 0),JT 2 JaD ent0 [],JT 2 JaD ent0 (eK 3),JT 2 JaD ent0 (eK 63),JT 2 JaD ent0 (eK 63),JT 2 JgX sub0 [],JT 2 JgX sub0 []],int 0,int 0]:=by
 unfold JlU
 rw [Jy3,if_neg Dc,Jy4]
 show AV.tup [JeN (Jag pAw builtL),_,_]=_
 have h0:(Jag pAw builtL).ents 0=eK 0:=by show Jfj (Jbh (Jc pAw) builtL (JN (Jc pAw).rules) 0)=_;rw [Jzj];exact JiY _
 have h1:(Jag pAw builtL).ents 1= []:=by show Jfj (Jbh (Jc pAw) builtL (JN (Jc pAw).rules) 1)=_;rw [Jzk];exact JxC
 have h2:(Jag pAw builtL).ents 2=eK 3:=by show Jfj (Jbh (Jc pAw) builtL (JN (Jc pAw).rules) 2)=_;rw [Jzl];exact JiY _
 have h3:(Jag pAw builtL).ents 3=eK 63:=by show Jfj (Jbh (Jc pAw) builtL (JN (Jc pAw).rules) 3)=_;rw [Jzm];exact JiY _
 have h4:(Jag pAw builtL).ents 4=eK 63:=by show Jfj (Jbh (Jc pAw) builtL (JN (Jc pAw).rules) 4)=_;rw [Jzn];exact JiY _
 have s0:(Jag pAw builtL).subs 0= []:=by show JiU (Jcd builtL (JN (Jc pAw).rules) 0)=_;rw [Jzo];exact Jq3
 have s1:(Jag pAw builtL).subs 1= []:=by show JiU (Jcd builtL (JN (Jc pAw).rules) 1)=_;rw [Jzp];exact Jq3
 unfold JeN
 rw [h0,h1,h2,h3,h4,s0,s1]
 rfl
theorem Jqm:builtL.length≤1000000:=Nat.le_of_ble_eq_true (by kernel_rfl)
theorem Jnw:∀r∈builtL,r.name.size≤maxLen:=fun r hr=> by
 have:(builtL.all fun r=> decide (r.name.size≤1000))=true:=by kernel_rfl
 have:=of_decide_eq_true (List.all_eq_true.1 this r hr)
 exact Nat.le_trans this Dc
theorem JsL (l:List PRul):NoId (Jw l):=NoId.sl fun i _ c hc=> by
 have hc:c∈ [Jam (l.getD i Jv).conds,u32 ((l.getD i Jv).code:Nat)]:=hc
 simp only [List.mem_cons,List.not_mem_nil,or_false] at hc
 rcases hc with rfl | rfl
 ·exact Jjs _
 ·exact NoId.v _
theorem Jfy (l:List PEnt):NoId (JT 2 JaD ent0 l):=NoId.sl fun i _ c hc=> by
 have hc:c∈ [u32 ((l.getD i ent0).num:Nat),Jw (l.getD i ent0).rules]:=hc
 simp only [List.mem_cons,List.not_mem_nil,or_false] at hc
 rcases hc with rfl | rfl
 ·exact NoId.v _
 ·exact JsL _
theorem JmX (l:List PSub):NoId (JT 2 JgX sub0 l):=NoId.sl fun i _ c hc=> by
 have hc:c∈ [u32 ((l.getD i sub0).num:Nat),u32 ((l.getD i sub0).code:Nat)]:=hc
 simp only [List.mem_cons,List.not_mem_nil,or_false] at hc
 rcases hc with rfl | rfl <;> exact NoId.v _
def JH (P:Plan):List AV:= [u32 (P.dflt:Nat),Jb P.x32,JT 2 JaD ent0 (P.ents 0),JT 2 JaD ent0 (P.ents 1),JT 2 JaD ent0 (P.ents 2),JT 2 JaD ent0 (P.ents 3),JT 2 JaD ent0 (P.ents 4),JT 2 JgX sub0 (P.subs 0),JT 2 JgX sub0 (P.subs 1)]
theorem JuT (P:Plan) (i e:Int):NoId (.tup [.ag (JH P),int i,int e]):=NoId.tup fun y hy=> by
 simp only [List.mem_cons,List.not_mem_nil,or_false] at hy
 rcases hy with rfl | rfl | rfl
 ·refine NoId.ag fun z hz=> ?_
  unfold JH at hz
  simp only [List.mem_cons,List.not_mem_nil,or_false] at hz
  rcases hz with rfl | rfl | rfl | rfl | rfl | rfl | rfl | rfl | rfl
  ·exact NoId.v _
  ·exact NoId.v _
  ·exact Jfy _
  ·exact Jfy _
  ·exact Jfy _
  ·exact Jfy _
  ·exact Jfy _
  ·exact JmX _
  ·exact JmX _
 ·exact NoId.v _
 ·exact NoId.v _
def Jc6:Plan:=⟨2147483648,false,fun a=> match a with | 0=> eK 0 | 1=> [] | 2=> eK 3 | 3=> eK 63 | _=> eK 63,fun _=> []⟩
theorem JxD:JlU pAw builtL= .tup [.ag (JH Jc6),int 0,int 0]:=Jyy
set_option maxHeartbeats 8000000 in
theorem Jiu:Tells Tryz.prog 28 [] (Jb true):=by
 have hb:=Jpt
 have h1:=Jip pAw builtL JxB (fun r hr=> by simp only [pAw,List.mem_cons,List.not_mem_nil,or_false] at hr;subst hr;exact ⟨by decide,by decide⟩) Jqm Jnw
 rw [JxD] at h1
 generalize builtL=B at hb h1
 refine Jf Tryz.func28 rfl rfl fun nx=> ?_
 refine stp ?_
 refine Je rfl rfl Jr6 ⟨Rf,trivial⟩ fun nx2=> ?_
 refine stp ?_
 refine J1 10 _ (fun i=> match i with | 7=> true | 8=> true | _=> false) (fun i=> match i with | 1=> true | 2=> true | _=> false) [0,1,2,3,4,5,6,7,8,9] (by kernel_rfl) (by kernel_rfl) (HB.refl _) ?_
 refine stp ?_
 refine ⟨_,JD rfl rfl rfl hb trivial (JsJ _), ?_⟩
 refine stp ?_
 refine ⟨_,JD rfl rfl rfl h1 ⟨Rf,Rf,trivial⟩ (JuT _ _ _), ?_⟩
 refine stp ?_
 refine ⟨_,Jh3 (cs:=J5) rfl rfl (by kernel_rfl) (HB.one rfl),fun r' h' hr=> ?_⟩
 obtain ⟨rfl,rfl⟩:=hr
 (conv=> whnf)
 refine ⟨_,Jl8 (i:=(1,nx2+1)) (off:=0) (cs:=J5) rfl rfl rfl rfl rfl rfl rfl (by kernel_rfl) (by kernel_rfl) (by show 0+9≤9;omega) (HB.one rfl),fun r' h' hr=> ?_⟩
 obtain rfl:=hr
 refine stp ?_
 refine JdT (fun y:Nat=> mk 75 [(3,int 0),(4, .bp (0,nx2+1) 0),(6,int 0)] ⟨[((0,nx2+1), .c (JH Jc6))], [],y,3⟩) (fun _=> True) ?_ ?_
 ·refine Jx (fun y:Nat×Nat=> mk 75 [(3,int 0),(4, .bp (0,nx2+1) 0),(6,int 0),(7, .bp (1,nx2+2) 0),(8,int y.1)] ⟨[((1,nx2+2), .c [int 1,int 0,int 1,int 1,int 1]),((0,nx2+1), .c (JH Jc6))], [],y.2,3⟩) (fun y=> y.1≤5) (fun y=> 5 - y.1) ?_ ?_
  ·exact ⟨(0,nx2+3),Nat.zero_le _,Jm (pm:= []) _ _ rfl rfl (.cons_cons _ (.cons_cons _ (.cons _ .slnil))) Sf ⟨rfl,OwnLe.refl _,rfl,OwnLe.refl _,trivial⟩ trivial ⟨Rf,AVle.bp_nm rfl,Rf,AVle.bp_nm rfl,Rf,trivial⟩⟩
  ·rintro ⟨a,nx4⟩ ha
   dsimp only at ha
   rcases (by omega:a=0∨a=1∨a=2∨a=3∨a=4∨a=5) with rfl | rfl | rfl | rfl | rfl | rfl
   ·refine AW.le (Et (n:=75) (nn:=3) (pm:= []) (bx:= [((1,nx2+2), .c [int 1,int 0,int 1,int 1,int 1]),((0,nx2+1), .c (JH Jc6))]) (L:= [(3,int 0),(4, .bp (0,nx2+1) 0),(6,int 0),(7, .bp (1,nx2+2) 0),(8,int (0:Nat))]) rfl rfl Bf trivial ⟨Rf,Rf,Rf,Rf,Rf,trivial⟩) ?_
    refine stp ?_
    (refine JY 9 ?_ ?_ ?_ ?_;(· kernel_rfl);(· kernel_rfl);(· kernel_rfl))
    refine stp ?_
    exact back (1,nx4) Dm Dm (Et (pm:= []) (bx:= [((1,nx2+2), .c [int 1,int 0,int 1,int 1,int 1]),((0,nx2+1), .c (JH Jc6))]) rfl rfl Bf trivial ⟨Rf,Rf,Rf,Rf,Jk rfl,trivial⟩)
   ·refine AW.le (Et (n:=75) (nn:=3) (pm:= []) (bx:= [((1,nx2+2), .c [int 1,int 0,int 1,int 1,int 1]),((0,nx2+1), .c (JH Jc6))]) (L:= [(3,int 0),(4, .bp (0,nx2+1) 0),(6,int 0),(7, .bp (1,nx2+2) 0),(8,int (1:Nat))]) rfl rfl Bf trivial ⟨Rf,Rf,Rf,Rf,Rf,trivial⟩) ?_
    refine stp ?_
    (refine JY 9 ?_ ?_ ?_ ?_;(· kernel_rfl);(· kernel_rfl);(· kernel_rfl))
    refine stp ?_
    exact back (2,nx4) Dm Dm (Et (pm:= []) (bx:= [((1,nx2+2), .c [int 1,int 0,int 1,int 1,int 1]),((0,nx2+1), .c (JH Jc6))]) rfl rfl Bf trivial ⟨Rf,Rf,Rf,Rf,Jk rfl,trivial⟩)
   ·refine AW.le (Et (n:=75) (nn:=3) (pm:= []) (bx:= [((1,nx2+2), .c [int 1,int 0,int 1,int 1,int 1]),((0,nx2+1), .c (JH Jc6))]) (L:= [(3,int 0),(4, .bp (0,nx2+1) 0),(6,int 0),(7, .bp (1,nx2+2) 0),(8,int (2:Nat))]) rfl rfl Bf trivial ⟨Rf,Rf,Rf,Rf,Rf,trivial⟩) ?_
    refine stp ?_
    (refine JY 9 ?_ ?_ ?_ ?_;(· kernel_rfl);(· kernel_rfl);(· kernel_rfl))
    refine stp ?_
    exact back (3,nx4) Dm Dm (Et (pm:= []) (bx:= [((1,nx2+2), .c [int 1,int 0,int 1,int 1,int 1]),((0,nx2+1), .c (JH Jc6))]) rfl rfl Bf trivial ⟨Rf,Rf,Rf,Rf,Jk rfl,trivial⟩)
   ·refine AW.le (Et (n:=75) (nn:=3) (pm:= []) (bx:= [((1,nx2+2), .c [int 1,int 0,int 1,int 1,int 1]),((0,nx2+1), .c (JH Jc6))]) (L:= [(3,int 0),(4, .bp (0,nx2+1) 0),(6,int 0),(7, .bp (1,nx2+2) 0),(8,int (3:Nat))]) rfl rfl Bf trivial ⟨Rf,Rf,Rf,Rf,Rf,trivial⟩) ?_
    refine stp ?_
    (refine JY 9 ?_ ?_ ?_ ?_;(· kernel_rfl);(· kernel_rfl);(· kernel_rfl))
    refine stp ?_
    exact back (4,nx4) Dm Dm (Et (pm:= []) (bx:= [((1,nx2+2), .c [int 1,int 0,int 1,int 1,int 1]),((0,nx2+1), .c (JH Jc6))]) rfl rfl Bf trivial ⟨Rf,Rf,Rf,Rf,Jk rfl,trivial⟩)
   ·refine AW.le (Et (n:=75) (nn:=3) (pm:= []) (bx:= [((1,nx2+2), .c [int 1,int 0,int 1,int 1,int 1]),((0,nx2+1), .c (JH Jc6))]) (L:= [(3,int 0),(4, .bp (0,nx2+1) 0),(6,int 0),(7, .bp (1,nx2+2) 0),(8,int (4:Nat))]) rfl rfl Bf trivial ⟨Rf,Rf,Rf,Rf,Rf,trivial⟩) ?_
    refine stp ?_
    (refine JY 9 ?_ ?_ ?_ ?_;(· kernel_rfl);(· kernel_rfl);(· kernel_rfl))
    refine stp ?_
    exact back (5,nx4) Dm Dm (Et (pm:= []) (bx:= [((1,nx2+2), .c [int 1,int 0,int 1,int 1,int 1]),((0,nx2+1), .c (JH Jc6))]) rfl rfl Bf trivial ⟨Rf,Rf,Rf,Rf,Jk rfl,trivial⟩)
   ·refine stp ?_
    exact ⟨nx4,trivial,Jm (pm:= []) _ _ rfl rfl (.cons _ Sf) Sf Bf trivial ⟨Rf,Rf,Rf,trivial⟩⟩
 ·rintro nx4 -
  refine stp ?_
  exact Jd rfl Rf
end Go.Proofs.W

namespace Go.Proofs.W
open Go.Vl
set_option maxRecDepth 100000
end Go.Proofs.W

namespace Go.Proofs.W
open Go.Vl
set_option maxRecDepth 100000
theorem JsM {p:Pol} (h:Jft p=true):p.rules.length≤40∧∀r∈p.rules,r.conds.length≤12:=by
 unfold Jft at h
 simp only [Bool.and_eq_true,decide_eq_true_eq,List.all_eq_true] at h
 refine ⟨h.1,fun r hr=> ?_⟩
 have:=h.2 r hr
 unfold Jd8 at this
 simp only [Bool.and_eq_true,decide_eq_true_eq] at this
 exact this.2
theorem Jwi {p:Pol} (hp:p.ok) (h:Jft p=true):Jsd p:=by
 obtain ⟨h1,h2⟩:=JsM h
 exact ⟨by omega,fun r hr=> ⟨by have:=h2 r hr;omega,(hp.2 r hr).2.2⟩⟩
end Go.Proofs.W

namespace Go.Proofs.W
open Go.Vl
set_option maxRecDepth 100000
def JbT (x:Nat→Nat) (l:List Rul):Option A2:=(l.find? (Jb1 x)).map (·.act)
theorem Jq4 {x:Nat→Nat} (hx:∀i,x i < 18446744073709551616) {c:Cnd} (ho:c.ok):((J3 c).2=1→hB x c=true)∧((J3 c).2=2→hB x c=false)∧((J3 c).2=0→hB x (J3 c).1=hB x c):=by
 unfold hB
 by_cases hr:JK c=true
 ·have h:=Jp0 ho hr (JtS hx c.arg.toNat)
  rw [hr,Bool.true_and]
  refine ⟨h.1,h.2.1,fun h0=> ?_⟩
  obtain ⟨k1,k2,k3⟩:=h.2.2 h0
  rw [k1,k2,k3,Bool.true_and]
 ·have h2:(J3 c).2=2:=by unfold J3;rw [if_neg hr];rfl
  rw [h2,Bool.eq_false_iff.2 hr,Bool.false_and]
  exact ⟨fun h=> (by cases h),fun _=> rfl,fun h=> (by cases h)⟩
theorem Jwj {x:Nat→Nat} (hx:∀i,x i < 18446744073709551616) {r:Rul} (hc:∀c∈r.conds,c.ok) (h:JaF r=none):Jb1 x r=false:=by
 unfold JaF at h
 by_cases ha:r.conds.any JbO=true
 ·obtain ⟨c,h1,h2⟩:=List.any_eq_true.1 ha
  unfold JbO at h2
  unfold Jb1
  rw [List.all_eq_false]
  exact ⟨c,h1,by rw [(Jq4 hx (hc c h1)).2.1 (of_decide_eq_true h2)];decide⟩
 ·rw [if_neg ha] at h;cases h
theorem Jpu {x:Nat→Nat} (hx:∀i,x i < 18446744073709551616):∀(l:List Cnd),(∀c∈l,c.ok)→l.any JbO=false→(Jbo l).all (hB x)=l.all (hB x)
 | [],_,_=> rfl
 | c::l,hc,hn=> by
   have ih:=Jpu hx l (fun d hd=> hc d (List.mem_cons_of_mem _ hd)) (by simp at hn⊢;exact hn.2)
   have hcn:JbO c=false:=by simp at hn;simpa using hn.1
   unfold Jbo at ih⊢
   have h:=Jq4 hx (hc c List.mem_cons_self)
   rcases Jjm c with h0 | h0 | h0
   ·rw [List.filterMap_cons,JoX h0,List.all_cons,List.all_cons,ih,h.2.2 h0]
   ·rw [List.filterMap_cons,JkJ Om,List.all_cons,ih,h.1 h0,Bool.true_and]
   ·unfold JbO at hcn;rw [h0] at hcn;cases hcn
theorem Jwk {x:Nat→Nat} (hx:∀i,x i < 18446744073709551616) {r n:Rul} (hc:∀c∈r.conds,c.ok) (h:JaF r=some n):Jb1 x n=Jb1 x r∧n.act=r.act∧n.name=r.name:=by
 unfold JaF at h
 by_cases ha:r.conds.any JbO=true
 ·rw [if_pos ha] at h;cases h
 ·rw [if_neg ha] at h
  obtain rfl:=Option.some.inj h
  refine ⟨?_,rfl,rfl⟩
  unfold Jb1
  rw [← Jpu hx r.conds hc (Bool.eq_false_iff.2 ha),Bool.eq_iff_iff,List.all_eq_true,List.all_eq_true]
  exact ⟨fun k c hc => k c ((Jcl _).2 c |>.2 hc), fun k c hc => k c ((Jcl _).2 c |>.1 hc)⟩
theorem JjX {x:Nat→Nat} (l m:List Rul):JbT x (l++m)=(JbT x l).or (JbT x m):=by
 unfold JbT
 rw [List.find?_append]
 cases l.find? (Jb1 x) <;> rfl
theorem Jgu {x:Nat→Nat} (r:Rul):JbT x [r]=if Jb1 x r then some r.act else none:=by
 unfold JbT
 rw [List.find?_cons]
 cases Jb1 x r <;> rfl
theorem JxE {x:Nat→Nat} {l:List Rul} {m:Rul} (h:m∈l) (hl:Jb1 x m=true):∃a,JbT x l=some a:=by
 unfold JbT
 cases hf:l.find? (Jb1 x) with
 | none=> exact absurd hl (by simpa using List.find?_eq_none.1 hf m h)
 | some r=> exact ⟨r.act,rfl⟩
theorem Jwl {x:Nat→Nat} (hx:∀i,x i < 18446744073709551616) {l:List Rul} {r:Rul} (hc:∀c∈r.conds,c.ok):JbT x (Jc3 l r)=(JbT x l).or (JbT x [r]):=by
 unfold Jc3
 cases hn:JaF r with
 | none=>
   dsimp only
   rw [Jgu,Jwj hx hc hn]
   cases JbT x l <;> rfl
 | some n=>
   dsimp only
   obtain ⟨h1,h2,h3⟩:=Jwk hx hc hn
   by_cases hh:Jdm l n=true
   ·rw [if_pos hh,Jgu]
    unfold Jdm at hh
    obtain ⟨m,hm,hd⟩:=List.any_eq_true.1 hh
    cases hr:Jb1 x r with
    | false=> cases JbT x l <;> rfl
    | true=>
      have hlm:Jb1 x m=true:=by
       unfold Jif at hd
       rw [Bool.or_eq_true,decide_eq_true_iff,decide_eq_true_iff] at hd
       rcases hd with hd | hd
       ·unfold Jb1;rw [hd];rfl
       ·rw [← h1] at hr;unfold Jb1 at hr⊢;rw [hd];exact hr
      obtain ⟨a,ha⟩:=JxE hm hlm
      rw [ha];rfl
   ·rw [if_neg hh,JjX,Jgu,Jgu,h1,h2]
theorem JmY {x:Nat→Nat} (hx:∀i,x i < 18446744073709551616):∀(rs l:List Rul),(∀r∈rs,∀c∈r.conds,c.ok)→JbT x (rs.foldl Jc3 l)=(JbT x l).or (JbT x rs)
 | [],l,_=> by rw [List.foldl_nil];cases JbT x l <;> rfl
 | r::rs,l,h=> by
   rw [List.foldl_cons,JmY hx rs _ fun q hq=> h q (List.mem_cons_of_mem _ hq),Jwl hx (h r List.mem_cons_self),Option.or_assoc,← JjX]
   rfl
theorem Jpv {x:Nat→Nat} {d:A2}:∀(k:Nat) (l:List Rul),l.length≤k→(JbT x (JcB d l)).getD d=(JbT x l).getD d
 | 0,l,h=> by rw [List.length_eq_zero_iff.1 (by omega:l.length=0)];rfl
 | k+1,l,h=> by
   rcases JgT l with rfl | ⟨l',r,rfl⟩
   ·rfl
   ·rw [JmD]
    split
    ·rename_i hd
     rw [List.length_append,List.length_singleton] at h
     rw [Jpv k l' Om,JjX,Jgu]
     cases JbT x l' with
     | some a=> rfl
     | none=> cases Jb1 x r <;> simp [hd]
    ·rfl
theorem Jjw {q:Rul→Bool} {x:Nat→Nat}:∀l:List Rul,l.find? (fun r=> q r&& Jb1 x r)=(l.filter q).find? (Jb1 x)
 | []=> rfl
 | r::l=> by
   rw [List.find?_cons,List.filter_cons,Jjw l]
   cases hq:q r with
   | false=> rw [Bool.false_and];rfl
   | true=> rw [Bool.true_and,if_pos rfl,List.find?_cons]
theorem JuU (s t:ByteArray):kS s t=J6 t s:=by
 rw [Bool.eq_iff_iff,Ja4,Jb4]
 exact ⟨Eq.symm,Eq.symm⟩
theorem Jpw (p:Pol) (nm:ByteArray) (x:Nat→Nat):Jd2 p nm x=(JbT x (p.rules.filter fun r=> J6 nm r.name)).getD p.dflt:=by
 unfold Jd2 JbT
 rw [show (fun r:Rul=> kS r.name nm&& Jb1 x r)=fun r=> J6 nm r.name&& Jb1 x r from funext fun r=> by rw [JuU],Jjw]
 cases (p.rules.filter fun r=> J6 nm r.name).find? (Jb1 x) <;> rfl
theorem Jq5 (p:Pol) (hp:∀r∈p.rules,∀c∈r.conds,c.ok) (nm:ByteArray) {x:Nat→Nat} (hx:∀i,x i < 18446744073709551616):Jd2 p nm x=(JbT x (gOf nm p.rules)).getD p.dflt:=by
 rw [Jpw,JfS,JmY hx _ _ fun r hr=> hp r (List.mem_filter.1 hr).1]
 rfl
theorem JmZ {r n:Rul} (h:JaF r=some n) (hc:∀c∈r.conds,c.ok):∀c∈n.conds,c.ok:=(Jd9 h).2.2 hc
theorem Jwm {p:Pol} (hp:∀r∈p.rules,∀c∈r.conds,c.ok):∀r∈(Jc p).rules,∀c∈r.conds,c.ok:=fun n hn=> by
 obtain ⟨r,hr,h⟩:=JiS (d:=p.dflt) (rs:=p.rules) hn
 exact JmZ h (hp r hr)
theorem Jpx (p:Pol) (hp:∀r∈p.rules,∀c∈r.conds,c.ok) (nm:ByteArray) {x:Nat→Nat} (hx:∀i,x i < 18446744073709551616):Jd2 (Jc p) nm x=Jd2 p nm x:=by
 rw [Jq5 _ (Jwm hp) nm hx,Jq5 p hp nm hx]
 show (JbT x (gOf nm (JfD p.dflt (Jaa p.rules) (Jc2 (Jaa p.rules))))).getD p.dflt=_
 rw [Jxj,Jpv _ _ (Nat.le_refl _)]
theorem Jm0 {p:Pol} {nm:ByteArray} (x:Nat→Nat) (h:∀r∈p.rules,kS r.name nm=true→r.conds= []):Ja8 p nm=Jd2 p nm x:=by
 unfold Ja8 Jd2
 rw [show p.rules.find? (fun r=> kS r.name nm&& Jb1 x r)=p.rules.find? (fun r=> kS r.name nm) from Jit fun r hr=> by
  cases hk:kS r.name nm with
  | false=> rfl
  | true=> unfold Jb1;rw [h r hr hk];rfl]
 cases hf:p.rules.find? (fun r=> kS r.name nm) with
 | none=> rfl
 | some r=>
   dsimp only
   rw [h r (List.mem_of_find?_eq_some hf) (by simpa using List.find?_some hf)]
   rfl
theorem JsN {p:Pol} (hp:∀r∈p.rules,∀c∈r.conds,c.ok) {nm:ByteArray} (h:∀r∈p.rules,kS r.name nm=true→r.conds= []):Ja8 (Jc p) nm=Ja8 p nm:=by
 rw [Jm0 (fun _=> 0) h,Jm0 (p:=Jc p) (fun _=> 0),Jpx p hp nm fun _=> by decide]
 intro n hn hk
 obtain ⟨r,hr,hnr⟩:=JiS (d:=p.dflt) (rs:=p.rules) hn
 have h1:=Jbv hnr
 rw [h1.2.1] at hk
 have h2:=h r hr hk
 rw [h2] at h1
 exact List.length_eq_zero_iff.1 (Nat.le_zero.1 h1.1)
theorem JfW {l:List TRow} (hok:(JbK l).2=0) {a:Nat} (ha:a < l.length):Jau l (l.getD a Jg).name=l.getD a Jg:=by
 have hs:=JfP hok
 have hm:=Jfh hs (l.getD a Jg).name
 have h1:¬Jbr l (l.getD a Jg).name < a:=fun q=> by
  have:=JiK (l:=l) (s:=(l.getD a Jg).name) Om
  exact this (Jlz.2 (hs _ _ q ha))
 have h2:¬a < Jbr l (l.getD a Jg).name:=fun q=> by
  have:=Jly q
  rw [Jlz] at this
  exact JiN _ this
 have e:Jbr l (l.getD a Jg).name=a:=by omega
 unfold Jau Ja2
 rw [e,decide_eq_true ha,decide_eq_true (JqE.2 rfl)]
 rfl
end Go.Proofs.W

namespace Go.Proofs.W
open Go.Vl
set_option maxRecDepth 100000
theorem Jk7 {a d:Nat} {x:Bool} {row:TRow} {rs:List PRul} (h1:¬row.num a < 0) (h2:¬(a=1∧x=false)) (h3:Jaj a rs d≠ []):Jav a d x row rs= [⟨Jat a (row.num a),Jaj a rs d⟩]:=if_neg fun h=> h.elim h1 fun h=> h.elim h2 h3
theorem code_kill18:Jp (1,0)=2147483648:=by decide
theorem JsO {x:Nat→Nat} (L:List Rul):Jaq x (L.map JP)=(JbT x L).map Jp:=by
 unfold Jaq JbT
 rw [List.find?_map,Option.map_map,Option.map_map]
 rfl
theorem Jm1 (o:Option A2) (d:A2):Jp (o.getD d)=(o.map Jp).getD (Jp d):=by cases o <;> rfl
theorem Jpy {p:Pol} (hp:∀r∈p.rules,∀c∈r.conds,c.ok):∀n∈(Jc p).rules,(JP n).ok:=fun n hn c hc=> by
 obtain ⟨r,hr,hN⟩:=Je1 hn
 have hc:c∈n.conds:=hc
 refine ⟨JmZ hN (hp r hr) c hc, ?_⟩
 unfold JaF at hN
 split at hN
 ·cases hN
 ·obtain rfl:=Option.some.inj hN
  have h:=((Jcl _).2 c).1 hc
  unfold Jbo at h
  obtain ⟨c0,_,h1⟩:=List.mem_filterMap.1 h
  rcases Jjm c0 with h2 | h2 | h2
  ·rw [JoX h2] at h1
   obtain rfl:=Option.some.inj h1
   exact Jts h2
  ·rw [JkJ Om] at h1;cases h1
  ·rw [JkJ Om] at h1;cases h1
theorem Jk8 {α:Type} {l:List α} {F:α→Option Nat} {o:Option Nat} (h1:∀e∈l,F e=none∨F e=o) (h2:o≠none→∃e∈l,F e=o):l.findSome? F=o:=by
 cases hf:l.findSome? F with
 | none=>
   cases o with
   | none=> rfl
   | some v=>
     obtain ⟨e,he,hv⟩:=h2 (by simp)
     rw [List.findSome?_eq_none_iff.1 hf e he] at hv
     exact hv
 | some v=>
   obtain ⟨e,he,hv⟩:=List.exists_of_findSome?_eq_some hf
   rcases h1 e he with h | h
   ·rw [h] at hv;cases hv
   ·rw [← h,hv]
theorem JxF {arch num:Nat} (h:Jcv arch num=some 1):num / 1073741824 % 2=1:=by
 unfold Jcv at h
 cases hf:infN.find? (Jcu arch (JbM num)) with
 | none=> rw [hf] at h;cases h
 | some x=>
   rw [hf] at h
   have h1:x.1=1:=Option.some.inj h
   have hs:=List.find?_some hf
   have hm:=List.mem_of_find?_eq_some hf
   unfold infN at hm
   simp only [List.mem_cons,List.not_mem_nil,or_false] at hm
   rcases hm with rfl | rfl | rfl | rfl | rfl
   ·cases h1
   ·cases hw:JbM num with
    | true=>
      rw [JoO] at hw
      simp only [Bool.and_eq_true,decide_eq_true_eq] at hw
      exact hw.2
    | false=>
      rw [hw] at hs
      unfold Jcu at hs
      rw [Bool.and_eq_true] at hs
      exact absurd hs.2 Dc
   ·cases h1
   ·cases h1
   ·cases h1
theorem Jiv {arch num a:Nat} {n:Int} (h:Jcv arch num=some a) (h0:0≤n) (h1:n < 1073741824):Jat a n=num↔n=((JeD a num:Nat):Int):=by
 rw [JeK h0 h1]
 unfold JeD
 by_cases ha:a=1
 ·subst ha
  have hb:=JxF h
  rw [if_pos rfl,if_pos ⟨rfl,hb⟩]
  omega
 ·rw [if_neg ha,if_neg fun q=> ha q.1]
  omega
theorem Jm2 {l:List TRow} (ht:(JbK l).2=0) {i:Nat} (hi:i < l.length):(l.getD i Jg).name.size≠0:=fun h=> by
 have:=(Jen ((Jdh ht).2 i hi)).1
 have e:(l.getD i Jg).name.data.toList= []:=by
  apply List.eq_nil_of_length_eq_zero
  rw [Array.length_toList];exact h
 rw [e] at this
 exact absurd this Dc
theorem Je6 {p:Pol} {g:ByteArray×List Rul} (hg:g∈JN (Jc p).rules):g.2=(Jc p).rules.filter fun r=> kS r.name g.1:=((Jcm (Jcf p)).rows g hg).1
theorem JsP (p:Pol) (nm:ByteArray) (x:Nat→Nat):Jd2 p nm x=(JbT x (p.rules.filter fun r=> kS r.name nm)).getD p.dflt:=by
 rw [Jpw,show (fun r:Rul=> J6 nm r.name)=fun r=> kS r.name nm from funext fun r=> (JuU r.name nm).symm]
def JbL (x:Nat→Nat) (num:Nat) (e:PEnt):Option Nat:=if e.num=num then Jaq x e.rules else none
theorem Jiw {p:Pol} {l:List TRow} {a:Nat} {e:PEnt} (h:e∈(Jag p l).ents a):∃g∈JN (Jc p).rules,e∈Jav a (Jp p.dflt) p.x32 (Jau l g.1) (g.2.map JP):=by
 have h1:=(JfT (Jbh (Jc p) l (JN (Jc p).rules) a)).mem_iff.1 h
 unfold Jbh at h1
 obtain ⟨g,hg,h2⟩:=List.mem_flatMap.1 h1
 exact ⟨g,hg,h2⟩
theorem Jm3 {p:Pol} {l:List TRow} {a:Nat} {e:PEnt} {g:ByteArray×List Rul} (hg:g∈JN (Jc p).rules) (h:e∈Jav a (Jp p.dflt) p.x32 (Jau l g.1) (g.2.map JP)):e∈(Jag p l).ents a:=
 (JfT (Jbh (Jc p) l (JN (Jc p).rules) a)).mem_iff.2 (by unfold Jbh;exact List.mem_flatMap.2 ⟨g,hg,h⟩)
theorem Jix {p:Pol} {l:List TRow} {m:Nat} {e:PSub} (h:e∈(Jag p l).subs m):∃g∈JN (Jc p).rules,e∈Jbq m (Jau l g.1) (g.2.map JP):=by
 have h1:=(JfU (Jcd l (JN (Jc p).rules) m)).mem_iff.1 h
 unfold Jcd at h1
 obtain ⟨g,hg,h2⟩:=List.mem_flatMap.1 h1
 exact ⟨g,hg,h2⟩
theorem Jm4 {p:Pol} {l:List TRow} {m:Nat} {e:PSub} {g:ByteArray×List Rul} (hg:g∈JN (Jc p).rules) (h:e∈Jbq m (Jau l g.1) (g.2.map JP)):e∈(Jag p l).subs m:=
 (JfU (Jcd l (JN (Jc p).rules) m)).mem_iff.2 (by unfold Jcd;exact List.mem_flatMap.2 ⟨g,hg,h⟩)
theorem Jpz {l:List TRow} {q:TRow→Bool} (h:l.findIdx? q=none) {j:Nat} (hj:j < l.length):q (l.getD j Jg)=false:=by
 have:=List.findIdx?_eq_none_iff.1 h (l.getD j Jg) (by simp [List.getD,hj])
 simpa using this
theorem Jq6 {l:List TRow} {q:TRow→Bool} {i:Nat} (h:l.findIdx? q=some i):i < l.length∧q (l.getD i Jg)=true:=by
 obtain ⟨hi,hb,_⟩:=List.findIdx?_eq_some_iff_getElem.1 h
 exact ⟨hi,by rw [show l.getD i Jg=l[i] by simp [List.getD,hi]];exact hb⟩
theorem Jwn {r:Rec} {a:Nat} (h:a=2) (i:Nat):JA a r i < 4294967296:=by
 unfold JA;rw [if_pos h];exact Nat.mod_lt _ Dc
theorem JpA {p:Pol} {l:List TRow} {a:Nat} (hv:(J7 p l).2=0) (hc:∀r∈p.rules,∀c∈r.conds,c.ok) (ha:a < 5) {r:Rec} (hs:Jcv r.arch r.num=some a) (hx:¬(a=1∧p.x32=false)) (hr:r.ok):
 (((Jag p l).ents a).findSome? (JbL (JA a r) r.num)).getD (Jp p.dflt)=Jp (if (JeF l (l.findIdx? (Jdl a ((JeD a r.num:Nat):Int)))).size=0 then p.dflt else Jd2 p (JeF l (l.findIdx? (Jdl a ((JeD a r.num:Nat):Int)))) (JA a r)):=by
 have ht:=(Jab.1 hv).2.1
 have hG:=JcM (p:=p) (JbX hv)
 cases hf:l.findIdx? (Jdl a ((JeD a r.num:Nat):Int)) with
 | none=>
   rw [Jk8 (o:=none) (fun e he=> .inl ?_) (fun h=> absurd rfl h)]
   ·rfl
   ·obtain ⟨g,hg,h2⟩:=Jiw he
    obtain ⟨j,hj,r1,_⟩:=hG g hg
    obtain ⟨k1,k2⟩:=JgF h2
    rw [r1] at k1 k2
    refine if_neg fun q=> ?_
    have:=Jpz hf hj
    unfold Jdl at this
    exact of_decide_eq_false this ((Jiv hs Om (Jc8 ht hj).1).1 (k2.symm.trans q))
 | some i=>
   obtain ⟨hi,hb⟩:=Jq6 hf
   have hb:(l.getD i Jg).num a=((JeD a r.num:Nat):Int):=of_decide_eq_true hb
   have hsz:=Jm2 ht hi
   have hro:=JfW ht hi
   show _=Jp (if (l.getD i Jg).name.size=0 then _ else Jd2 p (l.getD i Jg).name (JA a r))
   rw [if_neg hsz,← Jpx p hc _ (Jf1 hr a),JsP,Jm1,← JsO]
   have hok:∀q∈((Jc p).rules.filter fun r=> kS r.name (l.getD i Jg).name).map JP,q.ok:=fun q hq=> by
    obtain ⟨n,hn,rfl⟩:=List.mem_map.1 hq
    exact Jpy hc n (List.mem_filter.1 hn).1
   show _=(Jaq (JA a r) _).getD (Jp p.dflt)
   rw [← Jqb (a:=a) (d:=Jp p.dflt) (fun h=> Jwn h) _ hok]
   refine congrArg (fun o:Option Nat=> o.getD (Jp p.dflt)) (Jk8 (fun e he=> ?_) fun h=> ?_)
   ·obtain ⟨g,hg,h2⟩:=Jiw he
    obtain ⟨j,hj,r1,n1⟩:=hG g hg
    obtain ⟨k1,k2⟩:=JgF h2
    rw [r1] at k1 k2
    by_cases q:e.num=r.num
    ·right
     have hn:=(Jiv hs Om (Jc8 ht hj).1).1 (k2.symm.trans q)
     have:=JlH ht ha hi hj Om Om
     subst this
     unfold Jav at h2
     split at h2
     ·cases h2
     ·rw [List.mem_singleton.1 h2] at q⊢
      rw [Je6 hg,← n1] at q⊢
      exact if_pos q
    ·exact .inl (if_neg q)
   ·have hne:((Jc p).rules.filter fun r=> kS r.name (l.getD i Jg).name)≠ []:=fun q=> h (by rw [q];unfold Jaj;rfl)
    have hse:Jaj a (((Jc p).rules.filter fun r=> kS r.name (l.getD i Jg).name).map JP) (Jp p.dflt)≠ []:=fun q=> h (by rw [q];rfl)
    obtain ⟨n,hn⟩:=List.exists_mem_of_ne_nil _ hne
    obtain ⟨hn1,hn2⟩:=List.mem_filter.1 hn
    obtain ⟨g,hg,hgn⟩:=(Jcm (Jcf p)).all n hn1
    have hg1:g.1=(l.getD i Jg).name:=hgn.trans (Ja4.1 hn2)
    have hg2:=Je6 hg
    rw [hg1] at hg2
    have hE:Jav a (Jp p.dflt) p.x32 (Jau l g.1) (g.2.map JP)= [⟨Jat a ((Jau l g.1).num a),Jaj a (g.2.map JP) (Jp p.dflt)⟩]:=
     Jk7 (by rw [hg1,hro];omega) hx (by rw [hg2];exact hse)
    refine ⟨_,Jm3 hg (by rw [hE];exact .head _), ?_⟩
    unfold JbL
    dsimp only
    rw [if_pos (by rw [hg1,hro];exact (Jiv hs Om (Jc8 ht hi).1).2 hb),hg2]
theorem Jwo {p:Pol} {l:List TRow} {k:Nat} (hv:(J7 p l).2=0) (hc:∀r∈p.rules,∀c∈r.conds,c.ok) (hm:∀r∈p.rules,Jc4 l r=false) (hk:0 < k) (m:Nat):
 (((Jag p l).subs (k - 1)).findSome? (fun s=> if s.num=m then some s.code else none)).getD (Jp p.dflt)=Jp (if (JeF l (l.findIdx? (JeX k (m:Nat)))).size=0 then p.dflt else Ja8 p (JeF l (l.findIdx? (JeX k (m:Nat))))):=by
 have ht:=(Jab.1 hv).2.1
 have hG:=JcM (p:=p) (JbX hv)
 cases hf:l.findIdx? (JeX k (m:Nat)) with
 | none=>
   rw [Jk8 (o:=none) (fun e he=> .inl ?_) (fun h=> absurd rfl h)]
   ·rfl
   ·obtain ⟨g,hg,h2⟩:=Jix he
    obtain ⟨j,hj,r1,_⟩:=hG g hg
    obtain ⟨k1,k2⟩:=JgG h2
    rw [r1] at k1 k2
    refine if_neg fun q=> ?_
    have:=Jpz hf hj
    have h3:=Jdn ht hj
    have:JeX k (m:Nat) (l.getD j Jg)=true:=by
     unfold JeX
     rw [decide_eq_true Om,decide_eq_true Om,decide_eq_true Om];rfl
    simp_all
 | some i=>
   obtain ⟨hi,hb⟩:=Jq6 hf
   unfold JeX at hb
   simp only [Bool.and_eq_true,decide_eq_true_eq] at hb
   have hsz:=Jm2 ht hi
   have hro:=JfW ht hi
   show _=Jp (if (l.getD i Jg).name.size=0 then _ else Ja8 p (l.getD i Jg).name)
   have hno:∀r∈p.rules,kS r.name (l.getD i Jg).name=true→r.conds= []:=fun r hr hn=> by
    have:=hm r hr
    unfold Jc4 at this
    rw [Ja4.1 hn,hro,decide_eq_true Om,Bool.true_and] at this
    exact List.eq_nil_of_length_eq_zero (by have:=of_decide_eq_false this;omega)
   rw [if_neg hsz,← JsN hc hno]
   have hbl:Ja8 (Jc p) (l.getD i Jg).name=(((Jc p).rules.filter fun r=> kS r.name (l.getD i Jg).name).head?.map (·.act)).getD p.dflt:=by
    unfold Ja8
    rw [List.head?_filter]
    cases hq:(Jc p).rules.find? (fun r=> kS r.name (l.getD i Jg).name) with
    | none=> rfl
    | some n=>
      have hn1:=List.mem_of_find?_eq_some hq
      have hn2:=List.find?_some hq
      obtain ⟨r,hr,hN⟩:=Je1 hn1
      have h5:=hno r hr (by rw [← (Jbv hN).2.1];exact hn2)
      have h6:=(Jbv hN).1
      rw [h5] at h6
      show (if n.conds.length=0 then _ else _)=_
      rw [if_pos (by simpa using h6)]
      rfl
   rw [hbl,Jm1]
   refine congrArg (fun o:Option Nat=> o.getD (Jp p.dflt)) (Jk8 (fun e he=> ?_) fun h=> ?_)
   ·obtain ⟨g,hg,h2⟩:=Jix he
    obtain ⟨j,hj,r1,n1⟩:=hG g hg
    obtain ⟨k1,k2⟩:=JgG h2
    rw [r1] at k1 k2
    by_cases q:e.num=m
    ·right
     have h3:=Jdn ht hj
     have h4:=Jdn ht hi
     have:=JlI ht hi hj Om Om Om
     subst this
     unfold Jbq at h2
     split at h2
     ·rw [List.mem_singleton.1 h2] at q⊢
      refine (if_pos q).trans ?_
      have hr:=(Jcm (Jcf p)).rows g hg
      rw [← n1] at hr
      rw [← hr.1]
      obtain ⟨n,L,e⟩:=List.exists_cons_of_ne_nil hr.2
      rw [e]
      rfl
     ·cases h2
    ·exact .inl (if_neg q)
   ·have hne:((Jc p).rules.filter fun r=> kS r.name (l.getD i Jg).name)≠ []:=fun q=> h (by rw [q];rfl)
    obtain ⟨n,hn⟩:=List.exists_mem_of_ne_nil _ hne
    obtain ⟨hn1,hn2⟩:=List.mem_filter.1 hn
    obtain ⟨g,hg,hgn⟩:=(Jcm (Jcf p)).all n hn1
    have hg1:g.1=(l.getD i Jg).name:=hgn.trans (Ja4.1 hn2)
    have hg2:=Je6 hg
    rw [hg1] at hg2
    have h4:=Jdn ht hi
    have hE:Jbq (k - 1) (Jau l g.1) (g.2.map JP)= [⟨(Jau l g.1).sub.toNat,((g.2.map JP).getD 0 ⟨[],0⟩).code⟩]:=if_pos (by rw [hg1,hro];omega)
    refine ⟨_,Jm4 hg (by rw [hE];exact .head _), ?_⟩
    dsimp only
    rw [if_pos (by rw [hg1,hro];omega),hg2]
    obtain ⟨n,L,e⟩:=List.exists_cons_of_ne_nil hne
    rw [e]
    rfl
def byP (P:Plan) (r:Rec):Nat:=match Jcv r.arch r.num with
 | none=> 2147483648
 | some a=> if a=1∧P.x32=false then 2147483648
   else if 0 < JcS a r.num then ((P.subs (JcS a r.num - 1)).findSome? fun s=> if s.num=r.a0 % 4294967296 then some s.code else none).getD P.dflt
   else ((P.ents a).findSome? (JbL (JA a r) r.num)).getD P.dflt
theorem Jwp {p:Pol} {l:List TRow} {r:Rec} (hv:(J7 p l).2=0) (hc:∀r∈p.rules,∀c∈r.conds,c.ok) (hm:∀r∈p.rules,Jc4 l r=false) (hr:r.ok):byP (Jag p l) r=Jp (JdX p l r):=by
 cases hs:Jcv r.arch r.num with
 | none=>
   have ho:ofI l r=JwC:=by unfold ofI;rw [hs]
   unfold byP JdX
   rw [ho,hs]
   exact code_kill18.symm
 | some a=>
   have hb:¬(a=1∧p.x32=false)→((!true|| (decide (((a:Nat):Int)=1)&& !p.x32))=true)=False:=fun hx=> by
    cases hx2:p.x32 with
    | true=> simp
    | false=>
      have:a≠1:=fun h=> hx ⟨h,hx2⟩
      have:¬((a:Nat):Int)=1:=by omega
      rw [decide_eq_false this];simp
   by_cases hk:0 < JcS a r.num
   ·have ho:ofI l r=⟨true,a,JeF l (l.findIdx? (JeX (JcS a r.num) ((r.a0 % 4294967296:Nat):Int))),true⟩:=by unfold ofI;rw [hs];exact if_pos hk
    have ha:¬(a=1∧p.x32=false):=fun h=> by
     rw [h.1] at hk
     unfold JcS at hk
     rw [if_neg Dc] at hk
     omega
    unfold byP JdX
    rw [ho,hs]
    dsimp only
    rw [if_neg (show ¬(a=1∧(Jag p l).x32=false) from ha),if_pos hk,if_neg (by rw [hb ha];exact id)]
    refine (Jwo hv hc hm hk _).trans (congrArg Jp ?_)
    split
    ·rfl
    ·rfl
   ·have ho:ofI l r=⟨true,a,JeF l (l.findIdx? (Jdl a ((JeD a r.num:Nat):Int))),false⟩:=by unfold ofI;rw [hs];exact if_neg hk
    unfold byP JdX
    rw [ho,hs]
    dsimp only
    by_cases hx:a=1∧p.x32=false
    ·rw [if_pos (show a=1∧(Jag p l).x32=false from hx)]
     obtain ⟨rfl,hx⟩:=hx
     rw [if_pos (by rw [hx];rfl)]
     exact code_kill18.symm
    ·rw [if_neg (show ¬(a=1∧(Jag p l).x32=false) from hx),if_neg hk,if_neg (by rw [hb hx];exact id)]
     exact JpA hv hc (Jlv hs) hs hx hr
end Go.Proofs.W

namespace Go.Proofs.W
open Go.Vl
set_option maxRecDepth 100000
theorem Jk9 (r:Rul):NoId (.ag [Jh r.name,int r.act.1,int r.act.2,Jam r.conds]):=NoId.ag (by
 intro y hy
 simp only [List.mem_cons,List.not_mem_nil,or_false] at hy
 rcases hy with rfl | rfl | rfl | rfl
 ·exact NoId.v _
 ·exact NoId.v _
 ·exact NoId.v _
 ·refine NoId.sl fun i hi c hc=> ?_
  simp only [JG,AV.cells,List.mem_cons,List.not_mem_nil,or_false] at hc
  rcases hc with rfl | rfl | rfl | rfl <;> exact NoId.v _)
theorem JhN:Tryz.prog.bytesOf 86=32:=by kernel_rfl
theorem Jeh:Tryz.prog.bytesOf 123=56:=by kernel_rfl
theorem JuV (c:Cnd):Tells Tryz.prog 36 [JG c] (JG c):=by
 refine Jf Tryz.func36 rfl rfl fun nx=> ?_
 refine stp ?_
 exact Jj rfl ⟨rfl,trivial⟩ Rf
set_option maxHeartbeats 1000000 in
theorem JpB (nm:ByteArray) (k n:Int) (cs:List Cnd) (hl:cs.length≤1000000):Tells Tryz.prog 76 [.ag [Jh nm,int k,int n,Jam cs]] (.ag [Jh nm,int k,int n,Jam cs]):=by
 refine Jf Tryz.func76 rfl rfl fun nx=> ?_
 refine stp ?_
 refine Jx (fun s:Nat×Option Nat×Nat=> mk 34 [(1, .bp (0,nx) 0),(2, .bp (1,nx+1) 0),(3, .bp (2,nx+2) 0),(4,int s.1)] ⟨[((2,nx+2), .c [Jh nm,int k,int n, .os 4 s.1 (fun j=> JG (cs.getD j cnd0)) (nmd s.2.1)]),((1,nx+1), .c [Jh ⟨#[]⟩,int 0,int 0, .os 0 0 (fun _=> .any) none]),((0,nx), .c [Jh nm,int k,int n,Jam cs])],JbH (nmd s.2.1) (s.1 * 4),s.2.2,3⟩) (fun s=> s.1≤cs.length∧(s.2.1=none→s.1=0)) (fun s=> cs.length - s.1) ?_ ?_
 ·exact ⟨(0,none,nx+3),⟨Nat.zero_le _,fun _=> rfl⟩,Jm (pm:= []) _ [] rfl rfl Sf Sf ⟨rfl,⟨Rf,Rf,Rf,AVle.os_nil,trivial⟩,rfl,OwnLe.refl _,rfl,OwnLe.refl _,trivial⟩ trivial ⟨Rf,Rf,Rf,Rf,trivial⟩⟩
 ·rintro ⟨i,oi,nx2⟩ ⟨h3,h4⟩
  dsimp only at h3 h4
  refine stp ?_
  intro c h5;cases c
  ·have h6:=Jt h5
   dsimp only at h6
   obtain rfl:i=cs.length:=by omega
   refine stp ?_
   exact Jj rfl ⟨rfl,trivial⟩ (AVle.ags ⟨Rf,Rf,Rf,AVle.os_sl,trivial⟩)
  ·have h6:=Ju h5
   dsimp only at h6
   have hi:i < cs.length:=by omega
   have hcall:=JuV (cs.getD i cnd0)
   refine stp ?_
   refine J1 11 [((2,nx+2), .c [Jh nm,int k,int n, .os 4 i (fun j=> JG (cs.getD j cnd0)) (nmd oi)]),((1,nx+1), .c [Jh ⟨#[]⟩,int 0,int 0, .os 0 0 (fun _=> .any) none]),((0,nx), .c [Jh nm,int k,int n,Jam cs])] (fun i=> match i with | 9=> true | _=> false) (fun i=> match i with | 7=> true | _=> false) [0,1,2,3,4,5,6,7,8,9,10] (by kernel_rfl) (by kernel_rfl) (HB.refl _) ?_
   refine stp ?_
   refine ⟨⟨by dsimp only;omega,by dsimp only;omega⟩, ?_⟩
   refine stp ?_
   refine ⟨_,JD rfl rfl rfl hcall ⟨Rf,trivial⟩ (Jty _), ?_⟩
   refine stp ?_
   rcases oi with _ | id
   ·obtain rfl:=h4 rfl
    refine ⟨_,Jbe (e:=86) (c:=4) (pm:= []) (n:=0) (oi:=none) (sz:=4) (f:=fun j=> JG (cs.getD j cnd0)) (HB.refl _) rfl rfl rfl (.inr ⟨_,rfl⟩) (by kernel_rfl) (by kernel_rfl) (by kernel_rfl) (.inr rfl) (by kernel_rfl) (List.append_nil _).symm (JC rfl) (by rw [JhN];omega) Om,fun r h' hr=> ?_⟩
    obtain ⟨rfl,rfl⟩:=hr
    refine stp ?_
    refine back (0+1,some nx2,nx2+1) ⟨by dsimp only;omega,(fun h=> by cases h)⟩ Dm (Et (pm:= [((0,nx2),(0+1) * 4)]) rfl rfl ⟨rfl,⟨Rf,Rf,Rf,(AVle.os_fun (Jb8 (fun k h=> absurd h (Nat.not_lt_zero k)) ?_)).trans (AVle.os_nm rfl),trivial⟩,rfl,OwnLe.refl _,rfl,OwnLe.refl _,trivial⟩ ⟨rfl,rfl,trivial⟩ ⟨Rf,Rf,Rf,Jk (J4 Dm),trivial⟩)
    rfl
   ·refine ⟨_,Jbe (e:=86) (c:=4) (pm:= []) (n:=i) (oi:=some (0,id)) (sz:=4) (f:=fun j=> JG (cs.getD j cnd0)) (HB.refl _) rfl rfl rfl (.inr ⟨_,rfl⟩) (by kernel_rfl) (by kernel_rfl) (by kernel_rfl) (.inr rfl) (by kernel_rfl) (List.append_nil _).symm (JC rfl) (by rw [JhN];omega) Om,fun r h' hr=> ?_⟩
    obtain ⟨rfl,rfl⟩:=hr
    refine stp ?_
    refine back (i+1,some nx2,nx2+1) ⟨by dsimp only;omega,(fun h=> by cases h)⟩ Dm (Et (pm:= [((0,nx2),(i+1) * 4)]) rfl rfl ⟨rfl,⟨Rf,Rf,Rf,(AVle.os_fun (Jb8 (fun k hk=> rfl) ?_)).trans (AVle.os_nm rfl),trivial⟩,rfl,OwnLe.refl _,rfl,OwnLe.refl _,trivial⟩ ⟨rfl,rfl,trivial⟩ ⟨Rf,Rf,Rf,Jk (J4 Dm),trivial⟩)
    rfl
set_option maxHeartbeats 1000000 in
theorem JxG (k n:Int) (rs:List Rul) (hl:rs.length≤1000000) (hc:∀r∈rs,r.conds.length≤1000000):Tells Tryz.prog 24 [.ag [int k,int n,Jb true,Ji rs]] (.ag [int k,int n,Jb true,Ji rs]):=by
 refine Jf Tryz.func24 rfl rfl fun nx=> ?_
 refine stp ?_
 refine Jx (fun s:Nat×Option Nat×Nat=> mk 34 [(1, .bp (0,nx) 0),(2, .bp (1,nx+1) 0),(3, .bp (2,nx+2) 0),(4,int s.1)] ⟨[((2,nx+2), .c [int k,int n,Jb true, .os 4 s.1 (fun j=> Jap (rs.getD j Jl)) (nmd s.2.1)]),((1,nx+1), .c [int 0,int 0,Jb false, .os 0 0 (fun _=> .any) none]),((0,nx), .c [int k,int n,Jb true,Ji rs])],JbH (nmd s.2.1) (s.1 * 4),s.2.2,3⟩) (fun s=> s.1≤rs.length∧(s.2.1=none→s.1=0)) (fun s=> rs.length - s.1) ?_ ?_
 ·exact ⟨(0,none,nx+3),⟨Nat.zero_le _,fun _=> rfl⟩,Jm (pm:= []) _ [] rfl rfl Sf Sf ⟨rfl,⟨Rf,Rf,Rf,AVle.os_nil,trivial⟩,rfl,OwnLe.refl _,rfl,OwnLe.refl _,trivial⟩ trivial ⟨Rf,Rf,Rf,Rf,trivial⟩⟩
 ·rintro ⟨i,oi,nx2⟩ ⟨h3,h4⟩
  dsimp only at h3 h4
  refine stp ?_
  intro c h5;cases c
  ·have h6:=Jt h5
   dsimp only at h6
   obtain rfl:i=rs.length:=by omega
   refine stp ?_
   exact Jj rfl ⟨rfl,trivial⟩ (AVle.ags ⟨Rf,Rf,Rf,AVle.os_sl,trivial⟩)
  ·have h6:=Ju h5
   dsimp only at h6
   have hi:i < rs.length:=by omega
   have hcall:=JpB (rs.getD i Jl).name (rs.getD i Jl).act.1 (rs.getD i Jl).act.2 (rs.getD i Jl).conds (hc _ (by simp [List.getD,hi]))
   refine stp ?_
   refine J1 11 [((2,nx+2), .c [int k,int n,Jb true, .os 4 i (fun j=> Jap (rs.getD j Jl)) (nmd oi)]),((1,nx+1), .c [int 0,int 0,Jb false, .os 0 0 (fun _=> .any) none]),((0,nx), .c [int k,int n,Jb true,Ji rs])] (fun i=> match i with | 9=> true | _=> false) (fun i=> match i with | 7=> true | _=> false) [0,1,2,3,4,5,6,7,8,9,10] (by kernel_rfl) (by kernel_rfl) (HB.refl _) ?_
   refine stp ?_
   refine ⟨⟨by dsimp only;omega,by dsimp only;omega⟩, ?_⟩
   refine stp ?_
   refine ⟨_,JD rfl rfl rfl hcall ⟨Rf,trivial⟩ (Jk9 (rs.getD i Jl)), ?_⟩
   refine stp ?_
   rcases oi with _ | id
   ·obtain rfl:=h4 rfl
    refine ⟨_,Jbe (e:=123) (c:=4) (pm:= []) (n:=0) (oi:=none) (sz:=4) (f:=fun j=> Jap (rs.getD j Jl)) (HB.refl _) rfl rfl rfl (.inr ⟨_,rfl⟩) (by kernel_rfl) (by kernel_rfl) (by kernel_rfl) (.inr rfl) (by kernel_rfl) (List.append_nil _).symm (JC rfl) (by rw [Jeh];omega) Om,fun r h' hr=> ?_⟩
    obtain ⟨rfl,rfl⟩:=hr
    refine stp ?_
    refine back (0+1,some nx2,nx2+1) ⟨by dsimp only;omega,(fun h=> by cases h)⟩ Dm (Et (pm:= [((0,nx2),(0+1) * 4)]) rfl rfl ⟨rfl,⟨Rf,Rf,Rf,(AVle.os_fun (Jb8 (fun k h=> absurd h (Nat.not_lt_zero k)) ?_)).trans (AVle.os_nm rfl),trivial⟩,rfl,OwnLe.refl _,rfl,OwnLe.refl _,trivial⟩ ⟨rfl,rfl,trivial⟩ ⟨Rf,Rf,Rf,Jk (J4 Dm),trivial⟩)
    rfl
   ·refine ⟨_,Jbe (e:=123) (c:=4) (pm:= []) (n:=i) (oi:=some (0,id)) (sz:=4) (f:=fun j=> Jap (rs.getD j Jl)) (HB.refl _) rfl rfl rfl (.inr ⟨_,rfl⟩) (by kernel_rfl) (by kernel_rfl) (by kernel_rfl) (.inr rfl) (by kernel_rfl) (List.append_nil _).symm (JC rfl) (by rw [Jeh];omega) Om,fun r h' hr=> ?_⟩
    obtain ⟨rfl,rfl⟩:=hr
    refine stp ?_
    refine back (i+1,some nx2,nx2+1) ⟨by dsimp only;omega,(fun h=> by cases h)⟩ Dm (Et (pm:= [((0,nx2),(i+1) * 4)]) rfl rfl ⟨rfl,⟨Rf,Rf,Rf,(AVle.os_fun (Jb8 (fun k hk=> rfl) ?_)).trans (AVle.os_nm rfl),trivial⟩,rfl,OwnLe.refl _,rfl,OwnLe.refl _,trivial⟩ ⟨rfl,rfl,trivial⟩ ⟨Rf,Rf,Rf,Jk (J4 Dm),trivial⟩)
    rfl
set_option maxHeartbeats 1000000 in
theorem JxH (k n:Int) (rs:List Rul) (hl:rs.length≤1000000) (hc:∀r∈rs,r.conds.length≤1000000):Tells Tryz.prog 24 [.ag [int k,int n,Jb false,Ji rs]] (.ag [int k,int n,Jb false,Ji rs]):=by
 refine Jf Tryz.func24 rfl rfl fun nx=> ?_
 refine stp ?_
 refine Jx (fun s:Nat×Option Nat×Nat=> mk 34 [(1, .bp (0,nx) 0),(2, .bp (1,nx+1) 0),(3, .bp (2,nx+2) 0),(4,int s.1)] ⟨[((2,nx+2), .c [int k,int n,Jb false, .os 4 s.1 (fun j=> Jap (rs.getD j Jl)) (nmd s.2.1)]),((1,nx+1), .c [int 0,int 0,Jb false, .os 0 0 (fun _=> .any) none]),((0,nx), .c [int k,int n,Jb false,Ji rs])],JbH (nmd s.2.1) (s.1 * 4),s.2.2,3⟩) (fun s=> s.1≤rs.length∧(s.2.1=none→s.1=0)) (fun s=> rs.length - s.1) ?_ ?_
 ·exact ⟨(0,none,nx+3),⟨Nat.zero_le _,fun _=> rfl⟩,Jm (pm:= []) _ [] rfl rfl Sf Sf ⟨rfl,⟨Rf,Rf,Rf,AVle.os_nil,trivial⟩,rfl,OwnLe.refl _,rfl,OwnLe.refl _,trivial⟩ trivial ⟨Rf,Rf,Rf,Rf,trivial⟩⟩
 ·rintro ⟨i,oi,nx2⟩ ⟨h3,h4⟩
  dsimp only at h3 h4
  refine stp ?_
  intro c h5;cases c
  ·have h6:=Jt h5
   dsimp only at h6
   obtain rfl:i=rs.length:=by omega
   refine stp ?_
   exact Jj rfl ⟨rfl,trivial⟩ (AVle.ags ⟨Rf,Rf,Rf,AVle.os_sl,trivial⟩)
  ·have h6:=Ju h5
   dsimp only at h6
   have hi:i < rs.length:=by omega
   have hcall:=JpB (rs.getD i Jl).name (rs.getD i Jl).act.1 (rs.getD i Jl).act.2 (rs.getD i Jl).conds (hc _ (by simp [List.getD,hi]))
   refine stp ?_
   refine J1 11 [((2,nx+2), .c [int k,int n,Jb false, .os 4 i (fun j=> Jap (rs.getD j Jl)) (nmd oi)]),((1,nx+1), .c [int 0,int 0,Jb false, .os 0 0 (fun _=> .any) none]),((0,nx), .c [int k,int n,Jb false,Ji rs])] (fun i=> match i with | 9=> true | _=> false) (fun i=> match i with | 7=> true | _=> false) [0,1,2,3,4,5,6,7,8,9,10] (by kernel_rfl) (by kernel_rfl) (HB.refl _) ?_
   refine stp ?_
   refine ⟨⟨by dsimp only;omega,by dsimp only;omega⟩, ?_⟩
   refine stp ?_
   refine ⟨_,JD rfl rfl rfl hcall ⟨Rf,trivial⟩ (Jk9 (rs.getD i Jl)), ?_⟩
   refine stp ?_
   rcases oi with _ | id
   ·obtain rfl:=h4 rfl
    refine ⟨_,Jbe (e:=123) (c:=4) (pm:= []) (n:=0) (oi:=none) (sz:=4) (f:=fun j=> Jap (rs.getD j Jl)) (HB.refl _) rfl rfl rfl (.inr ⟨_,rfl⟩) (by kernel_rfl) (by kernel_rfl) (by kernel_rfl) (.inr rfl) (by kernel_rfl) (List.append_nil _).symm (JC rfl) (by rw [Jeh];omega) Om,fun r h' hr=> ?_⟩
    obtain ⟨rfl,rfl⟩:=hr
    refine stp ?_
    refine back (0+1,some nx2,nx2+1) ⟨by dsimp only;omega,(fun h=> by cases h)⟩ Dm (Et (pm:= [((0,nx2),(0+1) * 4)]) rfl rfl ⟨rfl,⟨Rf,Rf,Rf,(AVle.os_fun (Jb8 (fun k h=> absurd h (Nat.not_lt_zero k)) ?_)).trans (AVle.os_nm rfl),trivial⟩,rfl,OwnLe.refl _,rfl,OwnLe.refl _,trivial⟩ ⟨rfl,rfl,trivial⟩ ⟨Rf,Rf,Rf,Jk (J4 Dm),trivial⟩)
    rfl
   ·refine ⟨_,Jbe (e:=123) (c:=4) (pm:= []) (n:=i) (oi:=some (0,id)) (sz:=4) (f:=fun j=> Jap (rs.getD j Jl)) (HB.refl _) rfl rfl rfl (.inr ⟨_,rfl⟩) (by kernel_rfl) (by kernel_rfl) (by kernel_rfl) (.inr rfl) (by kernel_rfl) (List.append_nil _).symm (JC rfl) (by rw [Jeh];omega) Om,fun r h' hr=> ?_⟩
    obtain ⟨rfl,rfl⟩:=hr
    refine stp ?_
    refine back (i+1,some nx2,nx2+1) ⟨by dsimp only;omega,(fun h=> by cases h)⟩ Dm (Et (pm:= [((0,nx2),(i+1) * 4)]) rfl rfl ⟨rfl,⟨Rf,Rf,Rf,(AVle.os_fun (Jb8 (fun k hk=> rfl) ?_)).trans (AVle.os_nm rfl),trivial⟩,rfl,OwnLe.refl _,rfl,OwnLe.refl _,trivial⟩ ⟨rfl,rfl,trivial⟩ ⟨Rf,Rf,Rf,Jk (J4 Dm),trivial⟩)
    rfl
theorem JxI (p:Pol) (hl:p.rules.length≤1000000) (hc:∀r∈p.rules,r.conds.length≤1000000):Tells Tryz.prog 24 [JbR p] (JbR p):=by
 obtain ⟨⟨k,n⟩,x,rs⟩:=p
 cases x
 ·exact JxH k n rs hl hc
 ·exact JxG k n rs hl hc
end Go.Proofs.W

namespace Go.Proofs.W
open Go.Vl
set_option maxRecDepth 100000
theorem JuW (p:Pol) (hl:p.rules.length≤maxLen):Tells Tryz.prog 22 [JbR p] (Jb (Jft p)):=by
 obtain ⟨⟨k,n⟩,x,rs⟩:=p
 dsimp only at hl
 refine Jf Tryz.func22 rfl rfl fun nx=> ?_
 refine stp ?_
 intro c g1;cases c
 rotate_left
 ·refine stp ?_
  have g1:((rs.length:Nat):Int) > 40:=Ju g1
  exact Jd rfl (JB (by show false=(decide (rs.length≤40)&& _);rw [decide_eq_false Om];rfl))
 have g1:¬((rs.length:Nat):Int) > 40:=Jt g1
 have h40:rs.length≤40:=by omega
 refine stp ?_
 refine Jx (fun s:Nat×Nat=> mk 33 [(1, .bp (0,nx) 0),(3,int s.1)] ⟨[((0,nx), .c [int k,int n,Jb x,Ji rs])], [],s.2,1⟩) (fun s=> s.1≤rs.length∧∀j,j < s.1→Jd8 (rs.getD j Jl)=true) (fun s=> rs.length - s.1) ?_ ?_
 ·exact ⟨(0,nx+1),⟨Nat.zero_le _,fun j h=> absurd h (Nat.not_lt_zero _)⟩,Jm (pm:= []) _ [] rfl rfl Sf Sf ⟨rfl,OwnLe.refl _,trivial⟩ trivial ⟨Rf,Rf,trivial⟩⟩
 ·rintro ⟨i,nx2⟩ ⟨h3,h4⟩
  dsimp only at h3 h4
  refine stp ?_
  intro c h5;cases c
  ·have h6:=Jt h5
   dsimp only at h6
   obtain rfl:i=rs.length:=by omega
   refine stp ?_
   refine Jd rfl (JB ?_)
   show true=(decide (rs.length≤40)&& rs.all Jd8)
   rw [decide_eq_true h40,Bool.true_and,eq_comm,List.all_eq_true]
   intro r hr
   obtain ⟨j,hj,rfl⟩:=List.getElem_of_mem hr
   have:=h4 j hj
   simpa [List.getD,hj] using this
  ·have h6:=Ju h5
   dsimp only at h6
   have hi:i < rs.length:=by omega
   have hbad:∀b:Bool,Jd8 (rs.getD i Jl)=false→false=Jft ⟨(k,n),x,rs⟩:=fun b hb=> by
    show false=(decide (rs.length≤40)&& rs.all Jd8)
    rw [decide_eq_true h40,Bool.true_and,eq_comm,List.all_eq_false]
    exact ⟨rs.getD i Jl,by simp [List.getD,hi],by rw [hb];decide⟩
   refine stp ?_
   refine ⟨⟨by dsimp only;omega,by dsimp only;omega⟩, ?_⟩
   refine stp ?_
   intro c t1;cases c
   ·have t1:¬(((rs.getD i Jl).name.size:Nat):Int) > 60:=Jt t1
    refine stp ?_
    refine ⟨⟨by dsimp only;omega,by dsimp only;omega⟩, ?_⟩
    refine stp ?_
    intro c t2;cases c
    ·have t2:¬(((rs.getD i Jl).conds.length:Nat):Int) > 12:=Jt t2
     refine stp ?_
     refine back (i+1,nx2) ⟨by dsimp only;omega,fun j hj=> ?_⟩ Dm (Jm (pm:= []) _ [] rfl rfl Sf Sf ⟨rfl,OwnLe.refl _,trivial⟩ trivial ⟨Rf,Jk (J4 Dm),trivial⟩)
     dsimp only at hj
     rcases Nat.lt_or_ge j i with h | h
     ·exact h4 j h
     ·obtain rfl:j=i:=by omega
      unfold Jd8
      rw [decide_eq_true Om,decide_eq_true Om];rfl
    ·have t2:(((rs.getD i Jl).conds.length:Nat):Int) > 12:=Ju t2
     refine stp ?_
     exact Jd rfl (JB (hbad true (by unfold Jd8;rw [decide_eq_false (p:=(rs.getD i Jl).conds.length≤12) Om,Bool.and_false])))
   ·have t1:(((rs.getD i Jl).name.size:Nat):Int) > 60:=Ju t1
    refine stp ?_
    exact Jd rfl (JB (hbad true (by unfold Jd8;rw [decide_eq_false (p:=(rs.getD i Jl).name.size≤60) Om,Bool.false_and])))
end Go.Proofs.W

namespace Go.Proofs.W
open Go.Vl
set_option maxRecDepth 100000
theorem Jiy:Tryz.prog.bytesOf 113=72:=by kernel_rfl
set_option maxHeartbeats 2000000 in
theorem JpC (l:List TRow) (hl:l.length≤1000000):Tells Tryz.prog 25 [JJ l] (JJ l):=by
 refine Jf Tryz.func25 rfl rfl fun nx=> ?_
 refine stp ?_
 refine Jx (fun s:Nat×Option Nat×Nat=> mk 36 [(0,JJ l),(3, .os 8 s.1 (fun j=> Js (l.getD j Jg)) (nmd s.2.1)),(4,int s.1)] ⟨[],JbH (nmd s.2.1) (s.1 * 8),s.2.2,1⟩) (fun s=> s.1≤l.length∧(s.2.1=none→s.1=0)) (fun s=> l.length - s.1) ?_ ?_
 ·exact ⟨(0,none,nx),⟨Nat.zero_le _,fun _=> rfl⟩,Jm (pm:= []) _ [] rfl rfl Sf Sf trivial trivial ⟨Rf,AVle.os_nil,Rf,trivial⟩⟩
 ·rintro ⟨i,oi,nx2⟩ ⟨h3,h4⟩
  dsimp only at h3 h4
  refine stp ?_
  intro c h5;cases c
  ·have h6:=Jt h5
   dsimp only at h6
   obtain rfl:i=l.length:=by omega
   rcases oi with _ | id
   all_goals
    refine stp ?_
    exact Jd rfl AVle.os_sl
  ·have h6:=Ju h5
   dsimp only at h6
   have hi:i < l.length:=by omega
   refine stp ?_
   refine J1 25 _ (fun i=> match i with | 23=> true | _=> false) (fun i=> match i with | 10=> true | _=> false) [0,1,2,3,4,5,6,7,8,9,10,11,12,13,14,15,16,17,18,19,20,21,22,23,24] (by kernel_rfl) (by kernel_rfl) (HB.refl _) ?_
   refine stp ?_
   refine ⟨⟨by dsimp only;omega,by dsimp only;omega⟩, ?_⟩
   refine stp ?_
   refine ⟨⟨by dsimp only;omega,by dsimp only;omega⟩, ?_⟩
   refine stp ?_
   refine ⟨Jx1 (l.getD i Jg),Jho rfl rfl (by first | trivial | exact ⟨rfl,Nat.le_of_ble_eq_true rfl⟩), ?_⟩
   refine stp ?_
   refine ⟨⟨by dsimp only;omega,by dsimp only;omega⟩, ?_⟩
   refine stp ?_
   refine ⟨⟨by dsimp only;omega,by dsimp only;omega⟩, ?_⟩
   refine stp ?_
   rcases oi with _ | id
   ·obtain rfl:=h4 rfl
    refine ⟨_,Jbe (e:=113) (c:=8) (pm:= []) (n:=0) (oi:=none) (sz:=8) (f:=fun j=> Js (l.getD j Jg)) (HB.refl _) rfl rfl rfl (.inr ⟨_,rfl⟩) (by kernel_rfl) (by kernel_rfl) (by kernel_rfl) (.inr rfl) (by kernel_rfl) (List.append_nil _).symm (JC rfl) (by rw [Jiy];omega) Om,fun r h' hr=> ?_⟩
    obtain ⟨rfl,rfl⟩:=hr
    refine stp ?_
    refine back (0+1,some nx2,nx2+1) ⟨by dsimp only;omega,(fun h=> by cases h)⟩ Dm (Et (pm:= [((0,nx2),(0+1) * 8)]) rfl rfl trivial ⟨rfl,rfl,trivial⟩ ⟨Rf,(AVle.os_fun (Jb8 (fun k hk=> absurd hk (Nat.not_lt_zero k)) ?_)).trans (AVle.os_nm rfl),Jk (J4 Dm),trivial⟩)
    rfl
   ·refine ⟨_,Jbe (e:=113) (c:=8) (pm:= []) (n:=i) (oi:=some (0,id)) (sz:=8) (f:=fun j=> Js (l.getD j Jg)) (HB.refl _) rfl rfl rfl (.inr ⟨_,rfl⟩) (by kernel_rfl) (by kernel_rfl) (by kernel_rfl) (.inr rfl) (by kernel_rfl) (List.append_nil _).symm (JC rfl) (by rw [Jiy];omega) Om,fun r h' hr=> ?_⟩
    obtain ⟨rfl,rfl⟩:=hr
    refine stp ?_
    refine back (i+1,some nx2,nx2+1) ⟨by dsimp only;omega,(fun h=> by cases h)⟩ Dm (Et (pm:= [((0,nx2),(i+1) * 8)]) rfl rfl trivial ⟨rfl,rfl,trivial⟩ ⟨Rf,(AVle.os_fun (Jb8 (fun k hk=> rfl) ?_)).trans (AVle.os_nm rfl),Jk (J4 Dm),trivial⟩)
    rfl
theorem JsQ (l:List TRow) (hl:l.length≤maxLen) (hn:∀r∈l,r.name.size≤maxLen):Tells Tryz.prog 23 [JJ l] (Jb (JjL l)):=by
 refine Jf Tryz.func23 rfl rfl fun nx=> ?_
 refine stp ?_
 by_cases hf:l.length≤40
 rotate_left
 ·refine stp ?_
  intro c h1;cases c
  ·exact absurd (Jt h1) (by first | omega | (dsimp only;omega))
  refine stp ?_
  exact Jd rfl (JB (by unfold JjL;rw [decide_eq_false hf];rfl))
 ·refine stp ?_
  intro c h1;cases c
  rotate_left
  ·exact absurd (Ju h1) (by first | omega | (dsimp only;omega))
  refine stp ?_
  refine Jx (fun s:Nat×Nat=> mk 20 [(0,JJ l),(3,int s.1)] ⟨[], [],s.2,0⟩) (fun s=> s.1≤l.length∧∀j,j < s.1→(l.getD j Jg).name.size≤60) (fun s=> l.length - s.1) ?_ ?_
  ·exact ⟨(0,nx),⟨Nat.zero_le _,fun j hj=> absurd hj (Nat.not_lt_zero j)⟩,Jaz rfl rfl ⟨Rf,Rf,trivial⟩⟩
  ·rintro ⟨i,nx2⟩ ⟨h3,h4⟩
   dsimp only at h3 h4
   refine stp ?_
   intro c h5;cases c
   ·have h6:=Jt h5
    dsimp only at h6
    obtain rfl:i=l.length:=by omega
    refine stp ?_
    refine Jd rfl (JB ?_)
    unfold JjL
    rw [decide_eq_true hf]
    symm
    simp only [Bool.true_and,Bool.not_eq_true',List.any_eq_false,decide_eq_true_eq]
    intro r hr
    obtain ⟨j,hj,rfl⟩:=List.mem_iff_getElem.1 hr
    have:=h4 j hj
    simp [List.getD,hj] at this
    omega
   ·have h6:=Ju h5
    dsimp only at h6
    have hi:i < l.length:=by omega
    have hnm:=hn (l.getD i Jg) (by simp [List.getD,hi])
    refine stp ?_
    refine ⟨⟨by dsimp only;omega,by dsimp only;omega⟩, ?_⟩
    refine stp ?_
    intro c h7;cases c
    ·have h7:=Jt h7
     dsimp only at h7
     rw [Int.toNat_natCast] at h7
     refine stp ?_
     exact back (i+1,nx2) ⟨hi,fun j hj=> by dsimp only at hj;rcases Nat.lt_or_ge j i with q | q;exact h4 j q;rw [show j=i by omega];omega⟩ Dm (Jaz rfl rfl ⟨Rf,Jk (J4 Dm),trivial⟩)
    ·have h7:=Ju h7
     dsimp only at h7
     rw [Int.toNat_natCast] at h7
     refine stp ?_
     refine Jd rfl (JB ?_)
     unfold JjL
     symm
     rw [Bool.and_eq_false_iff]
     right
     simp only [Bool.not_eq_false',List.any_eq_true,decide_eq_true_eq]
     exact ⟨l.getD i Jg,by simp [List.getD,hi],by omega⟩
end Go.Proofs.W

namespace Go.Proofs.W
open Go.Vl
set_option maxRecDepth 100000
def JiZ (r:Rec):Rec:=⟨0,0,0,r.a0,r.a1,r.a2,r.a3,r.a4,r.a5⟩
theorem JpD (a:Nat) (r:Rec):JA a (JiZ r)=JA a r:=funext fun k=> by
 unfold JA
 have:(JiZ r).arg k=r.arg k:=by
  match k with
  | 0 | 1 | 2 | 3 | 4=> rfl
  | k+5=> rfl
 rw [this]
theorem JsR {r:Rec} (h:r.ok):(JiZ r).ok:=⟨(by decide:(0:Nat) < 4294967296),(by decide:(0:Nat) < 4294967296),(by decide:(0:Nat) < 18446744073709551616),h.2.2.2.1,h.2.2.2.2.1,h.2.2.2.2.2.1,h.2.2.2.2.2.2.1,h.2.2.2.2.2.2.2.1,h.2.2.2.2.2.2.2.2⟩
def JfH (m:Nat) (s:PSub):Option Nat:=if s.num=m then some s.code else none
structure PlOk (P:Plan):Prop where
 ents:∀a,a < 5→(P.ents a).length≤1000000∧∀e∈P.ents a,e.rules.length≤1000000∧∀q∈e.rules,q.conds.length≤1000000∧∀c∈q.conds,c.ok
 subs:∀m,m < 2→(P.subs m).length≤1000000∧∀s∈P.subs m,s.num < 4294967296
theorem JpE {s a:Nat} (h:s < 4294967296):(IntKind.u64.wrap ((s:Nat):Int) ==((a:Nat):Int).tmod 4294967296)=decide (s=a % 4294967296):=by
 rw [show ((a:Nat):Int).tmod 4294967296=((a % 4294967296:Nat):Int) from (Int.ofNat_tmod a 4294967296).symm,show IntKind.u64.wrap ((s:Nat):Int)=(s:Int) from by simp [IntKind.wrap,IntKind.signed,IntKind.bits];omega,Bool.eq_iff_iff]
 simp only [beq_iff_eq,decide_eq_true_eq]
 omega
theorem Je7 {α:Type} {F:α→Option Nat} {E:List α} {i:Nat} {d:α} (hi:i < E.length):(E.drop i).findSome? F=match F (E.getD i d) with | some b=> some b | none=> (E.drop (i+1)).findSome? F:=by
 rw [List.drop_eq_getElem_cons hi,List.findSome?_cons,show E.getD i d=E[i] by simp [List.getD,hi]]
 cases F E[i] <;> rfl
theorem Jhd (a b:Nat):(((a:Nat):Int) !=((b:Nat):Int))=decide (a≠b):=by
 by_cases h:a=b
 ·subst h;simp
 ·have:((a:Nat):Int)≠((b:Nat):Int):=by omega
  rw [bne_iff_ne.2 this,decide_eq_true h]
theorem Jed {x:Nat→Nat} {l:List PRul} (h:∀j,j < l.length→(l.getD j Jv).conds.all (hB x)=false):Jaq x l=none:=by
 unfold Jaq
 rw [List.find?_eq_none.2 fun r hr=> ?_]
 ·rfl
 ·obtain ⟨j,hj,rfl⟩:=List.mem_iff_getElem.1 hr
  have:=h j hj
  rw [show l.getD j Jv=l[j] by simp [List.getD,hj]] at this
  rw [this];decide
theorem Jfz {x:Nat→Nat} {l:List PRul} {k:Nat} (hk:k < l.length) (h:∀j,j < k→(l.getD j Jv).conds.all (hB x)=false) (hb:(l.getD k Jv).conds.all (hB x)=true):Jaq x l=some (l.getD k Jv).code:=by
 unfold Jaq
 have e:l.find? (fun r=> r.conds.all (hB x))=some (l.getD k Jv):=by
  refine List.find?_eq_some_iff_getElem.2 ⟨hb,k,hk,by simp [List.getD,hk],fun j hj=> ?_⟩
  have:=h j hj
  rw [show l.getD j Jv=l[j] by simp [List.getD,(by omega:j < l.length)]] at this
  rw [this];rfl
 rw [e];rfl
theorem JbF {α:Type} {E:List α} {d:α} {i:Nat} (h:i < E.length):E.getD i d∈E:=by simp [List.getD,h]
set_option maxHeartbeats 8000000 in
theorem JxJ (P:Plan) (r:Rec) (hr:r.ok) (hP:PlOk P):Tells Tryz.prog 40 [JeN P,Jgi r] (u32 (byP P r:Nat)):=by
 have hsel:=Jp3 r.arch r.num hr.2.1 hr.1
 have hk:=JoF r.num
 rw [JwW] at hsel
 unfold byP
 cases hs:Jcv r.arch r.num with
 | none=>
   rw [hs] at hsel
   refine Jf Tryz.func40 rfl rfl fun nx=> ?_
   refine stp ?_
   refine Je rfl rfl hsel ⟨Rf,Rf,trivial⟩ fun nx1=> ?_
   refine stp ?_
   exact Jd rfl Rf
 | some a=>
   rw [hs] at hsel
   have ha:=Jlv hs
   dsimp only at hsel⊢
   have hag:=JoE a ha (JiZ r) (JsR hr)
   rw [JpD] at hag
   rcases (by omega:a=0∨a=1∨a=2∨a=3∨a=4) with rfl | rfl | rfl | rfl | rfl
   ·rw [if_neg (fun h=> by cases h.1),if_neg (show ¬0 < JcS 0 r.num from Nat.lt_irrefl 0)]
    refine Jf Tryz.func40 rfl rfl fun nx=> ?_
    refine stp ?_
    refine Je rfl rfl hsel ⟨Rf,Rf,trivial⟩ fun nx1=> ?_
    refine stp ?_
    refine Je rfl rfl hk ⟨Rf,trivial⟩ fun nx7=> ?_
    refine stp ?_
    refine Je rfl rfl hag ⟨Rf,Rf,trivial⟩ fun nx2=> ?_
    refine stp ?_
    have hE:=hP.ents 0 Dc
    have hxl:=Jf1 hr 0
    refine Jx (fun y:Nat×Nat=> mk 130 [(2, .bp (0,nx) 0),(3, .bp (1,nx+1) 0),(4,u32 0),(5,int (0:Nat)),(9, .bp (2,nx2) 0),(10,int y.1)] ⟨[((2,nx2), .c (Jar (JA 0 r))),((1,nx+1), .c (J9 r)),((0,nx), .c (JH P))], [],y.2,3⟩) (fun y=> y.1≤(P.ents 0).length∧((P.ents 0).drop y.1).findSome? (JbL (JA 0 r) r.num)=(P.ents 0).findSome? (JbL (JA 0 r) r.num)) (fun y=> (P.ents 0).length - y.1) ?_ ?_
    ·exact ⟨(0,nx2+1),⟨Nat.zero_le _,rfl⟩,Et (pm:= []) (bx:= [((2,nx2), .c (Jar (JA 0 r))),((1,nx+1), .c (J9 r)),((0,nx), .c (JH P))]) rfl rfl Bf trivial ⟨Rf,Rf,Rf,Rf,Rf,Rf,trivial⟩⟩
    ·rintro ⟨i,nx3⟩ ⟨hi1,hi2⟩
     dsimp only at hi1 hi2
     refine stp ?_
     intro c g;cases c
     ·have g:=Jt g
      try dsimp only at g
      have hi:i=(P.ents 0).length:=by omega
      rw [hi,List.drop_length] at hi2
      rw [← hi2]
      refine stp ?_
      exact Jd rfl Rf
     ·have g:=Ju g
      try dsimp only at g
      have hi:i < (P.ents 0).length:=by omega
      have hd:=Je7 (F:=JbL (JA 0 r) r.num) (d:=ent0) hi
      have hem:=hE.2 _ (JbF (d:=ent0) hi)
      refine stp ?_
      (refine JY 11 ?_ ?_ ?_ ?_;(· kernel_rfl);(· kernel_rfl);(· kernel_rfl))
      refine stp ?_
      refine ⟨Bd, ?_⟩
      refine stp ?_
      intro c hc
      have hc2:c=decide (((P.ents 0).getD i ent0).num≠r.num):=hc.trans (Jhd _ _)
      clear hc
      cases c
      ·have hne:((P.ents 0).getD i ent0).num=r.num:=by
        have:=of_decide_eq_false hc2.symm
        exact Decidable.of_not_not this
       have hF:JbL (JA 0 r) r.num ((P.ents 0).getD i ent0)=Jaq (JA 0 r) ((P.ents 0).getD i ent0).rules:=if_pos hne
       rw [hF] at hd
       clear hc2
       refine stp ?_
       refine ⟨Bd, ?_⟩
       refine stp ?_
       generalize hee:(P.ents 0).getD i ent0=e at hd hem
       have hcell:AV.sl 2 ((P.ents 0).getD i ent0).rules.length (fun k=> JbY (((P.ents 0).getD i ent0).rules.getD k Jv))=Jw e.rules:=by rw [hee];rfl
       refine Jx (fun y:Nat×Nat=> mk 130 [(2, .bp (0,nx) 0),(3, .bp (1,nx+1) 0),(4,u32 0),(5,int (0:Nat)),(9, .bp (2,nx2) 0),(10,int i),(11,Jw e.rules),(12,int y.1)] ⟨[((2,nx2), .c (Jar (JA 0 r))),((1,nx+1), .c (J9 r)),((0,nx), .c (JH P))], [],y.2,3⟩) (fun y=> y.1≤e.rules.length∧∀j,j < y.1→(e.rules.getD j Jv).conds.all (hB (JA 0 r))=false) (fun y=> e.rules.length - y.1) ?_ ?_
       ·exact ⟨(0,nx3),⟨Nat.zero_le _,fun j h=> absurd h (Nat.not_lt_zero _)⟩,Et (pm:= []) (bx:= [((2,nx2), .c (Jar (JA 0 r))),((1,nx+1), .c (J9 r)),((0,nx), .c (JH P))]) rfl rfl Bf trivial ⟨Rf,Rf,Rf,Rf,Rf,Rf,AVle.of_eq hcell,Rf,trivial⟩⟩
       ·rintro ⟨k,nx4⟩ ⟨hk1,hk2⟩
        dsimp only at hk1 hk2
        refine stp ?_
        intro c g2;cases c
        ·have g2:=Jt g2
         try dsimp only at g2
         have hkk:k=e.rules.length:=by omega
         subst hkk
         rw [Jed hk2] at hd
         refine stp ?_
         exact back (i+1,nx4) ⟨hi,by rw [← hi2,hd]⟩ Dm (Et (pm:= []) (bx:= [((2,nx2), .c (Jar (JA 0 r))),((1,nx+1), .c (J9 r)),((0,nx), .c (JH P))]) rfl rfl Bf trivial ⟨Rf,Rf,Rf,Rf,Rf,Lw,trivial⟩)
        ·have g2:=Ju g2
         try dsimp only at g2
         have hkk:k < e.rules.length:=by omega
         have hq:=hem.2 _ (JbF (d:=Jv) hkk)
         have hall:=Jgl (JA 0 r) hxl (e.rules.getD k Jv).conds Om hq.2
         refine stp ?_
         (refine JY 7 ?_ ?_ ?_ ?_;(· kernel_rfl);(· kernel_rfl);(· kernel_rfl))
         refine stp ?_
         refine ⟨Bd, ?_⟩
         refine stp ?_
         refine Jan (JV rfl rfl hall ⟨Rf,Rf,trivial⟩ (NoId.v _)) ?_
         refine stp ?_
         intro c hc
         have hc2:c=(e.rules.getD k Jv).conds.all (hB (JA 0 r)):=hc
         clear hc
         cases c
         ·refine stp ?_
          exact back (k+1,nx4) ⟨hkk,fun j hj=> by dsimp only at hj;rcases Nat.lt_or_ge j k with q | q;exact hk2 j q;rw [show j=k by omega];exact hc2.symm⟩ Dm (Et (pm:= []) (bx:= [((2,nx2), .c (Jar (JA 0 r))),((1,nx+1), .c (J9 r)),((0,nx), .c (JH P))]) rfl rfl Bf trivial ⟨Rf,Rf,Rf,Rf,Rf,Rf,Rf,Lw,trivial⟩)
         ·rw [Jfz hkk hk2 hc2.symm] at hd
          rw [← hi2,hd]
          refine stp ?_
          refine ⟨Bd, ?_⟩
          refine stp ?_
          exact Jd rfl Rf
      ·have hne:((P.ents 0).getD i ent0).num≠r.num:=of_decide_eq_true hc2.symm
       rw [show JbL (JA 0 r) r.num ((P.ents 0).getD i ent0)=none from if_neg hne] at hd
       clear hc2
       refine stp ?_
       exact back (i+1,nx3) ⟨hi,by rw [← hi2,hd]⟩ Dm (Et (pm:= []) (bx:= [((2,nx2), .c (Jar (JA 0 r))),((1,nx+1), .c (J9 r)),((0,nx), .c (JH P))]) rfl rfl Bf trivial ⟨Rf,Rf,Rf,Rf,Rf,Lw,trivial⟩)
   ·have hko:¬0 < JcS 1 r.num:=Nat.lt_irrefl 0
    refine Jf Tryz.func40 rfl rfl fun nx=> ?_
    refine stp ?_
    refine Je rfl rfl hsel ⟨Rf,Rf,trivial⟩ fun nx1=> ?_
    refine stp ?_
    intro c hc
    have hc2:c=P.x32:=hc
    clear hc
    cases c
    ·rw [if_pos ⟨rfl,hc2.symm⟩]
     refine stp ?_
     exact Jd rfl Rf
    ·rw [if_neg (fun h=> by rw [h.2] at hc2;cases hc2),if_neg hko]
     refine stp ?_
     refine Je rfl rfl hk ⟨Rf,trivial⟩ fun nx7=> ?_
     refine stp ?_
     refine Je rfl rfl hag ⟨Rf,Rf,trivial⟩ fun nx2=> ?_
     refine stp ?_
     have hE:=hP.ents 1 Dc
     have hxl:=Jf1 hr 1
     refine Jx (fun y:Nat×Nat=> mk 130 [(2, .bp (0,nx) 0),(3, .bp (1,nx+1) 0),(4,u32 0),(5,int (1:Nat)),(9, .bp (2,nx2) 0),(10,int y.1)] ⟨[((2,nx2), .c (Jar (JA 1 r))),((1,nx+1), .c (J9 r)),((0,nx), .c (JH P))], [],y.2,3⟩) (fun y=> y.1≤(P.ents 1).length∧((P.ents 1).drop y.1).findSome? (JbL (JA 1 r) r.num)=(P.ents 1).findSome? (JbL (JA 1 r) r.num)) (fun y=> (P.ents 1).length - y.1) ?_ ?_
     ·exact ⟨(0,nx2+1),⟨Nat.zero_le _,rfl⟩,Et (pm:= []) (bx:= [((2,nx2), .c (Jar (JA 1 r))),((1,nx+1), .c (J9 r)),((0,nx), .c (JH P))]) rfl rfl Bf trivial ⟨Rf,Rf,Rf,Rf,Rf,Rf,trivial⟩⟩
     ·rintro ⟨i,nx3⟩ ⟨hi1,hi2⟩
      dsimp only at hi1 hi2
      refine stp ?_
      intro c g;cases c
      ·have g:=Jt g
       try dsimp only at g
       have hi:i=(P.ents 1).length:=by omega
       rw [hi,List.drop_length] at hi2
       rw [← hi2]
       refine stp ?_
       exact Jd rfl Rf
      ·have g:=Ju g
       try dsimp only at g
       have hi:i < (P.ents 1).length:=by omega
       have hd:=Je7 (F:=JbL (JA 1 r) r.num) (d:=ent0) hi
       have hem:=hE.2 _ (JbF (d:=ent0) hi)
       refine stp ?_
       (refine JY 11 ?_ ?_ ?_ ?_;(· kernel_rfl);(· kernel_rfl);(· kernel_rfl))
       refine stp ?_
       refine ⟨Bd, ?_⟩
       refine stp ?_
       intro c hc
       have hc2:c=decide (((P.ents 1).getD i ent0).num≠r.num):=hc.trans (Jhd _ _)
       clear hc
       cases c
       ·have hne:((P.ents 1).getD i ent0).num=r.num:=by
         have:=of_decide_eq_false hc2.symm
         exact Decidable.of_not_not this
        have hF:JbL (JA 1 r) r.num ((P.ents 1).getD i ent0)=Jaq (JA 1 r) ((P.ents 1).getD i ent0).rules:=if_pos hne
        rw [hF] at hd
        clear hc2
        refine stp ?_
        refine ⟨Bd, ?_⟩
        refine stp ?_
        generalize hee:(P.ents 1).getD i ent0=e at hd hem
        have hcell:AV.sl 2 ((P.ents 1).getD i ent0).rules.length (fun k=> JbY (((P.ents 1).getD i ent0).rules.getD k Jv))=Jw e.rules:=by rw [hee];rfl
        refine Jx (fun y:Nat×Nat=> mk 130 [(2, .bp (0,nx) 0),(3, .bp (1,nx+1) 0),(4,u32 0),(5,int (1:Nat)),(9, .bp (2,nx2) 0),(10,int i),(11,Jw e.rules),(12,int y.1)] ⟨[((2,nx2), .c (Jar (JA 1 r))),((1,nx+1), .c (J9 r)),((0,nx), .c (JH P))], [],y.2,3⟩) (fun y=> y.1≤e.rules.length∧∀j,j < y.1→(e.rules.getD j Jv).conds.all (hB (JA 1 r))=false) (fun y=> e.rules.length - y.1) ?_ ?_
        ·exact ⟨(0,nx3),⟨Nat.zero_le _,fun j h=> absurd h (Nat.not_lt_zero _)⟩,Et (pm:= []) (bx:= [((2,nx2), .c (Jar (JA 1 r))),((1,nx+1), .c (J9 r)),((0,nx), .c (JH P))]) rfl rfl Bf trivial ⟨Rf,Rf,Rf,Rf,Rf,Rf,AVle.of_eq hcell,Rf,trivial⟩⟩
        ·rintro ⟨k,nx4⟩ ⟨hk1,hk2⟩
         dsimp only at hk1 hk2
         refine stp ?_
         intro c g2;cases c
         ·have g2:=Jt g2
          try dsimp only at g2
          have hkk:k=e.rules.length:=by omega
          subst hkk
          rw [Jed hk2] at hd
          refine stp ?_
          exact back (i+1,nx4) ⟨hi,by rw [← hi2,hd]⟩ Dm (Et (pm:= []) (bx:= [((2,nx2), .c (Jar (JA 1 r))),((1,nx+1), .c (J9 r)),((0,nx), .c (JH P))]) rfl rfl Bf trivial ⟨Rf,Rf,Rf,Rf,Rf,Lw,trivial⟩)
         ·have g2:=Ju g2
          try dsimp only at g2
          have hkk:k < e.rules.length:=by omega
          have hq:=hem.2 _ (JbF (d:=Jv) hkk)
          have hall:=Jgl (JA 1 r) hxl (e.rules.getD k Jv).conds Om hq.2
          refine stp ?_
          (refine JY 7 ?_ ?_ ?_ ?_;(· kernel_rfl);(· kernel_rfl);(· kernel_rfl))
          refine stp ?_
          refine ⟨Bd, ?_⟩
          refine stp ?_
          refine Jan (JV rfl rfl hall ⟨Rf,Rf,trivial⟩ (NoId.v _)) ?_
          refine stp ?_
          intro c hc
          have hc2:c=(e.rules.getD k Jv).conds.all (hB (JA 1 r)):=hc
          clear hc
          cases c
          ·refine stp ?_
           exact back (k+1,nx4) ⟨hkk,fun j hj=> by dsimp only at hj;rcases Nat.lt_or_ge j k with q | q;exact hk2 j q;rw [show j=k by omega];exact hc2.symm⟩ Dm (Et (pm:= []) (bx:= [((2,nx2), .c (Jar (JA 1 r))),((1,nx+1), .c (J9 r)),((0,nx), .c (JH P))]) rfl rfl Bf trivial ⟨Rf,Rf,Rf,Rf,Rf,Rf,Rf,Lw,trivial⟩)
          ·rw [Jfz hkk hk2 hc2.symm] at hd
           rw [← hi2,hd]
           refine stp ?_
           refine ⟨Bd, ?_⟩
           refine stp ?_
           exact Jd rfl Rf
       ·have hne:((P.ents 1).getD i ent0).num≠r.num:=of_decide_eq_true hc2.symm
        rw [show JbL (JA 1 r) r.num ((P.ents 1).getD i ent0)=none from if_neg hne] at hd
        clear hc2
        refine stp ?_
        exact back (i+1,nx3) ⟨hi,by rw [← hi2,hd]⟩ Dm (Et (pm:= []) (bx:= [((2,nx2), .c (Jar (JA 1 r))),((1,nx+1), .c (J9 r)),((0,nx), .c (JH P))]) rfl rfl Bf trivial ⟨Rf,Rf,Rf,Rf,Rf,Lw,trivial⟩)
   ·rw [if_neg (fun h=> by cases h.1)]
    have hkk:(JeE r.num=0∨JeE r.num=1∨JeE r.num=2):=by
     unfold JeE
     split
     ·exact .inr (.inl rfl)
     ·split
      ·exact .inr (.inr rfl)
      ·exact .inl rfl
    have hko:JcS 2 r.num=JeE r.num:=rfl
    rw [hko]
    rcases hkk with h0 | h0 | h0
    ·rw [h0] at hk
     rw [h0,if_neg Dc]
     refine Jf Tryz.func40 rfl rfl fun nx=> ?_
     refine stp ?_
     refine Je rfl rfl hsel ⟨Rf,Rf,trivial⟩ fun nx1=> ?_
     refine stp ?_
     refine Je rfl rfl hk ⟨Rf,trivial⟩ fun nx7=> ?_
     refine stp ?_
     refine Je rfl rfl hag ⟨Rf,Rf,trivial⟩ fun nx2=> ?_
     refine stp ?_
     have hE:=hP.ents 2 Dc
     have hxl:=Jf1 hr 2
     refine Jx (fun y:Nat×Nat=> mk 130 [(2, .bp (0,nx) 0),(3, .bp (1,nx+1) 0),(4,u32 0),(5,int (2:Nat)),(9, .bp (2,nx2) 0),(10,int y.1)] ⟨[((2,nx2), .c (Jar (JA 2 r))),((1,nx+1), .c (J9 r)),((0,nx), .c (JH P))], [],y.2,3⟩) (fun y=> y.1≤(P.ents 2).length∧((P.ents 2).drop y.1).findSome? (JbL (JA 2 r) r.num)=(P.ents 2).findSome? (JbL (JA 2 r) r.num)) (fun y=> (P.ents 2).length - y.1) ?_ ?_
     ·exact ⟨(0,nx2+1),⟨Nat.zero_le _,rfl⟩,Et (pm:= []) (bx:= [((2,nx2), .c (Jar (JA 2 r))),((1,nx+1), .c (J9 r)),((0,nx), .c (JH P))]) rfl rfl Bf trivial ⟨Rf,Rf,Rf,Rf,Rf,Rf,trivial⟩⟩
     ·rintro ⟨i,nx3⟩ ⟨hi1,hi2⟩
      dsimp only at hi1 hi2
      refine stp ?_
      intro c g;cases c
      ·have g:=Jt g
       try dsimp only at g
       have hi:i=(P.ents 2).length:=by omega
       rw [hi,List.drop_length] at hi2
       rw [← hi2]
       refine stp ?_
       exact Jd rfl Rf
      ·have g:=Ju g
       try dsimp only at g
       have hi:i < (P.ents 2).length:=by omega
       have hd:=Je7 (F:=JbL (JA 2 r) r.num) (d:=ent0) hi
       have hem:=hE.2 _ (JbF (d:=ent0) hi)
       refine stp ?_
       (refine JY 11 ?_ ?_ ?_ ?_;(· kernel_rfl);(· kernel_rfl);(· kernel_rfl))
       refine stp ?_
       refine ⟨Bd, ?_⟩
       refine stp ?_
       intro c hc
       have hc2:c=decide (((P.ents 2).getD i ent0).num≠r.num):=hc.trans (Jhd _ _)
       clear hc
       cases c
       ·have hne:((P.ents 2).getD i ent0).num=r.num:=by
         have:=of_decide_eq_false hc2.symm
         exact Decidable.of_not_not this
        have hF:JbL (JA 2 r) r.num ((P.ents 2).getD i ent0)=Jaq (JA 2 r) ((P.ents 2).getD i ent0).rules:=if_pos hne
        rw [hF] at hd
        clear hc2
        refine stp ?_
        refine ⟨Bd, ?_⟩
        refine stp ?_
        generalize hee:(P.ents 2).getD i ent0=e at hd hem
        have hcell:AV.sl 2 ((P.ents 2).getD i ent0).rules.length (fun k=> JbY (((P.ents 2).getD i ent0).rules.getD k Jv))=Jw e.rules:=by rw [hee];rfl
        refine Jx (fun y:Nat×Nat=> mk 130 [(2, .bp (0,nx) 0),(3, .bp (1,nx+1) 0),(4,u32 0),(5,int (2:Nat)),(9, .bp (2,nx2) 0),(10,int i),(11,Jw e.rules),(12,int y.1)] ⟨[((2,nx2), .c (Jar (JA 2 r))),((1,nx+1), .c (J9 r)),((0,nx), .c (JH P))], [],y.2,3⟩) (fun y=> y.1≤e.rules.length∧∀j,j < y.1→(e.rules.getD j Jv).conds.all (hB (JA 2 r))=false) (fun y=> e.rules.length - y.1) ?_ ?_
        ·exact ⟨(0,nx3),⟨Nat.zero_le _,fun j h=> absurd h (Nat.not_lt_zero _)⟩,Et (pm:= []) (bx:= [((2,nx2), .c (Jar (JA 2 r))),((1,nx+1), .c (J9 r)),((0,nx), .c (JH P))]) rfl rfl Bf trivial ⟨Rf,Rf,Rf,Rf,Rf,Rf,AVle.of_eq hcell,Rf,trivial⟩⟩
        ·rintro ⟨k,nx4⟩ ⟨hk1,hk2⟩
         dsimp only at hk1 hk2
         refine stp ?_
         intro c g2;cases c
         ·have g2:=Jt g2
          try dsimp only at g2
          have hkk:k=e.rules.length:=by omega
          subst hkk
          rw [Jed hk2] at hd
          refine stp ?_
          exact back (i+1,nx4) ⟨hi,by rw [← hi2,hd]⟩ Dm (Et (pm:= []) (bx:= [((2,nx2), .c (Jar (JA 2 r))),((1,nx+1), .c (J9 r)),((0,nx), .c (JH P))]) rfl rfl Bf trivial ⟨Rf,Rf,Rf,Rf,Rf,Lw,trivial⟩)
         ·have g2:=Ju g2
          try dsimp only at g2
          have hkk:k < e.rules.length:=by omega
          have hq:=hem.2 _ (JbF (d:=Jv) hkk)
          have hall:=Jgl (JA 2 r) hxl (e.rules.getD k Jv).conds Om hq.2
          refine stp ?_
          (refine JY 7 ?_ ?_ ?_ ?_;(· kernel_rfl);(· kernel_rfl);(· kernel_rfl))
          refine stp ?_
          refine ⟨Bd, ?_⟩
          refine stp ?_
          refine Jan (JV rfl rfl hall ⟨Rf,Rf,trivial⟩ (NoId.v _)) ?_
          refine stp ?_
          intro c hc
          have hc2:c=(e.rules.getD k Jv).conds.all (hB (JA 2 r)):=hc
          clear hc
          cases c
          ·refine stp ?_
           exact back (k+1,nx4) ⟨hkk,fun j hj=> by dsimp only at hj;rcases Nat.lt_or_ge j k with q | q;exact hk2 j q;rw [show j=k by omega];exact hc2.symm⟩ Dm (Et (pm:= []) (bx:= [((2,nx2), .c (Jar (JA 2 r))),((1,nx+1), .c (J9 r)),((0,nx), .c (JH P))]) rfl rfl Bf trivial ⟨Rf,Rf,Rf,Rf,Rf,Rf,Rf,Lw,trivial⟩)
          ·rw [Jfz hkk hk2 hc2.symm] at hd
           rw [← hi2,hd]
           refine stp ?_
           refine ⟨Bd, ?_⟩
           refine stp ?_
           exact Jd rfl Rf
       ·have hne:((P.ents 2).getD i ent0).num≠r.num:=of_decide_eq_true hc2.symm
        rw [show JbL (JA 2 r) r.num ((P.ents 2).getD i ent0)=none from if_neg hne] at hd
        clear hc2
        refine stp ?_
        exact back (i+1,nx3) ⟨hi,by rw [← hi2,hd]⟩ Dm (Et (pm:= []) (bx:= [((2,nx2), .c (Jar (JA 2 r))),((1,nx+1), .c (J9 r)),((0,nx), .c (JH P))]) rfl rfl Bf trivial ⟨Rf,Rf,Rf,Rf,Rf,Lw,trivial⟩)
    ·rw [h0] at hk
     rw [h0,if_pos Dc]
     show Tells Tryz.prog _ _ (u32 ((((P.subs 0).findSome? (JfH (r.a0 % 4294967296))).getD P.dflt:Nat):Int))
     refine Jf Tryz.func40 rfl rfl fun nx=> ?_
     refine stp ?_
     refine Je rfl rfl hsel ⟨Rf,Rf,trivial⟩ fun nx1=> ?_
     refine stp ?_
     refine Je rfl rfl hk ⟨Rf,trivial⟩ fun nx7=> ?_
     refine stp ?_
     refine Jx (fun y:Nat×Nat=> mk 130 [(2, .bp (0,nx) 0),(3, .bp (1,nx+1) 0),(4,u32 0),(7,int (1:Nat)),(8,int y.1)] ⟨[((1,nx+1), .c (J9 r)),((0,nx), .c (JH P))], [],y.2,2⟩) (fun y=> y.1≤(P.subs 0).length∧((P.subs 0).drop y.1).findSome? (JfH (r.a0 % 4294967296))=(P.subs 0).findSome? (JfH (r.a0 % 4294967296))) (fun y=> (P.subs 0).length - y.1) ?_ ?_
     ·exact ⟨(0,nx7),⟨Nat.zero_le _,rfl⟩,Et (pm:= []) (bx:= [((1,nx+1), .c (J9 r)),((0,nx), .c (JH P))]) rfl rfl Bf trivial ⟨Rf,Rf,Rf,Rf,Rf,trivial⟩⟩
     ·rintro ⟨i,nx3⟩ ⟨hi1,hi2⟩
      dsimp only at hi1 hi2
      refine stp ?_
      intro c g;cases c
      ·have g:=Jt g
       try dsimp only at g
       have hi:i=(P.subs 0).length:=by omega
       rw [hi,List.drop_length] at hi2
       rw [← hi2]
       refine stp ?_
       exact Jd rfl Rf
      ·have g:=Ju g
       try dsimp only at g
       have hi:i < (P.subs 0).length:=by omega
       have hd:=Je7 (F:=JfH (r.a0 % 4294967296)) (d:=sub0) hi
       have hlm:=(hP.subs 0 Dc).1
       have hem:=(hP.subs 0 Dc).2 _ (JbF (d:=sub0) hi)
       refine stp ?_
       (refine JY 15 ?_ ?_ ?_ ?_;(· kernel_rfl);(· kernel_rfl);(· kernel_rfl))
       refine stp ?_
       refine ⟨Bd, ?_⟩
       refine stp ?_
       intro c hc
       have hc2:c=decide (((P.subs 0).getD i sub0).num=r.a0 % 4294967296):=hc.trans (JpE hem)
       clear hc
       cases c
       ·have hne:((P.subs 0).getD i sub0).num≠r.a0 % 4294967296:=of_decide_eq_false hc2.symm
        rw [show JfH (r.a0 % 4294967296) ((P.subs 0).getD i sub0)=none from if_neg hne] at hd
        clear hc2
        refine stp ?_
        exact back (i+1,nx3) ⟨hi,by rw [← hi2,hd]⟩ Dm (Et (pm:= []) (bx:= [((1,nx+1), .c (J9 r)),((0,nx), .c (JH P))]) rfl rfl Bf trivial ⟨Rf,Rf,Rf,Rf,Lw,trivial⟩)
       ·have hne:((P.subs 0).getD i sub0).num=r.a0 % 4294967296:=of_decide_eq_true hc2.symm
        rw [show JfH (r.a0 % 4294967296) ((P.subs 0).getD i sub0)=some ((P.subs 0).getD i sub0).code from if_pos hne] at hd
        rw [← hi2,hd]
        clear hc2
        refine stp ?_
        refine ⟨Bd, ?_⟩
        refine stp ?_
        exact Jd rfl Rf
    ·rw [h0] at hk
     rw [h0,if_pos Dc]
     show Tells Tryz.prog _ _ (u32 ((((P.subs 1).findSome? (JfH (r.a0 % 4294967296))).getD P.dflt:Nat):Int))
     refine Jf Tryz.func40 rfl rfl fun nx=> ?_
     refine stp ?_
     refine Je rfl rfl hsel ⟨Rf,Rf,trivial⟩ fun nx1=> ?_
     refine stp ?_
     refine Je rfl rfl hk ⟨Rf,trivial⟩ fun nx7=> ?_
     refine stp ?_
     refine Jx (fun y:Nat×Nat=> mk 130 [(2, .bp (0,nx) 0),(3, .bp (1,nx+1) 0),(4,u32 0),(7,int (2:Nat)),(8,int y.1)] ⟨[((1,nx+1), .c (J9 r)),((0,nx), .c (JH P))], [],y.2,2⟩) (fun y=> y.1≤(P.subs 1).length∧((P.subs 1).drop y.1).findSome? (JfH (r.a0 % 4294967296))=(P.subs 1).findSome? (JfH (r.a0 % 4294967296))) (fun y=> (P.subs 1).length - y.1) ?_ ?_
     ·exact ⟨(0,nx7),⟨Nat.zero_le _,rfl⟩,Et (pm:= []) (bx:= [((1,nx+1), .c (J9 r)),((0,nx), .c (JH P))]) rfl rfl Bf trivial ⟨Rf,Rf,Rf,Rf,Rf,trivial⟩⟩
     ·rintro ⟨i,nx3⟩ ⟨hi1,hi2⟩
      dsimp only at hi1 hi2
      refine stp ?_
      intro c g;cases c
      ·have g:=Jt g
       try dsimp only at g
       have hi:i=(P.subs 1).length:=by omega
       rw [hi,List.drop_length] at hi2
       rw [← hi2]
       refine stp ?_
       exact Jd rfl Rf
      ·have g:=Ju g
       try dsimp only at g
       have hi:i < (P.subs 1).length:=by omega
       have hd:=Je7 (F:=JfH (r.a0 % 4294967296)) (d:=sub0) hi
       have hlm:=(hP.subs 1 Dc).1
       have hem:=(hP.subs 1 Dc).2 _ (JbF (d:=sub0) hi)
       refine stp ?_
       (refine JY 15 ?_ ?_ ?_ ?_;(· kernel_rfl);(· kernel_rfl);(· kernel_rfl))
       refine stp ?_
       refine ⟨Bd, ?_⟩
       refine stp ?_
       intro c hc
       have hc2:c=decide (((P.subs 1).getD i sub0).num=r.a0 % 4294967296):=hc.trans (JpE hem)
       clear hc
       cases c
       ·have hne:((P.subs 1).getD i sub0).num≠r.a0 % 4294967296:=of_decide_eq_false hc2.symm
        rw [show JfH (r.a0 % 4294967296) ((P.subs 1).getD i sub0)=none from if_neg hne] at hd
        clear hc2
        refine stp ?_
        exact back (i+1,nx3) ⟨hi,by rw [← hi2,hd]⟩ Dm (Et (pm:= []) (bx:= [((1,nx+1), .c (J9 r)),((0,nx), .c (JH P))]) rfl rfl Bf trivial ⟨Rf,Rf,Rf,Rf,Lw,trivial⟩)
       ·have hne:((P.subs 1).getD i sub0).num=r.a0 % 4294967296:=of_decide_eq_true hc2.symm
        rw [show JfH (r.a0 % 4294967296) ((P.subs 1).getD i sub0)=some ((P.subs 1).getD i sub0).code from if_pos hne] at hd
        rw [← hi2,hd]
        clear hc2
        refine stp ?_
        refine ⟨Bd, ?_⟩
        refine stp ?_
        exact Jd rfl Rf
   ·rw [if_neg (fun h=> by cases h.1),if_neg (show ¬0 < JcS 3 r.num from Nat.lt_irrefl 0)]
    refine Jf Tryz.func40 rfl rfl fun nx=> ?_
    refine stp ?_
    refine Je rfl rfl hsel ⟨Rf,Rf,trivial⟩ fun nx1=> ?_
    refine stp ?_
    refine Je rfl rfl hk ⟨Rf,trivial⟩ fun nx7=> ?_
    refine stp ?_
    refine Je rfl rfl hag ⟨Rf,Rf,trivial⟩ fun nx2=> ?_
    refine stp ?_
    have hE:=hP.ents 3 Dc
    have hxl:=Jf1 hr 3
    refine Jx (fun y:Nat×Nat=> mk 130 [(2, .bp (0,nx) 0),(3, .bp (1,nx+1) 0),(4,u32 0),(5,int (3:Nat)),(9, .bp (2,nx2) 0),(10,int y.1)] ⟨[((2,nx2), .c (Jar (JA 3 r))),((1,nx+1), .c (J9 r)),((0,nx), .c (JH P))], [],y.2,3⟩) (fun y=> y.1≤(P.ents 3).length∧((P.ents 3).drop y.1).findSome? (JbL (JA 3 r) r.num)=(P.ents 3).findSome? (JbL (JA 3 r) r.num)) (fun y=> (P.ents 3).length - y.1) ?_ ?_
    ·exact ⟨(0,nx2+1),⟨Nat.zero_le _,rfl⟩,Et (pm:= []) (bx:= [((2,nx2), .c (Jar (JA 3 r))),((1,nx+1), .c (J9 r)),((0,nx), .c (JH P))]) rfl rfl Bf trivial ⟨Rf,Rf,Rf,Rf,Rf,Rf,trivial⟩⟩
    ·rintro ⟨i,nx3⟩ ⟨hi1,hi2⟩
     dsimp only at hi1 hi2
     refine stp ?_
     intro c g;cases c
     ·have g:=Jt g
      try dsimp only at g
      have hi:i=(P.ents 3).length:=by omega
      rw [hi,List.drop_length] at hi2
      rw [← hi2]
      refine stp ?_
      exact Jd rfl Rf
     ·have g:=Ju g
      try dsimp only at g
      have hi:i < (P.ents 3).length:=by omega
      have hd:=Je7 (F:=JbL (JA 3 r) r.num) (d:=ent0) hi
      have hem:=hE.2 _ (JbF (d:=ent0) hi)
      refine stp ?_
      (refine JY 11 ?_ ?_ ?_ ?_;(· kernel_rfl);(· kernel_rfl);(· kernel_rfl))
      refine stp ?_
      refine ⟨Bd, ?_⟩
      refine stp ?_
      intro c hc
      have hc2:c=decide (((P.ents 3).getD i ent0).num≠r.num):=hc.trans (Jhd _ _)
      clear hc
      cases c
      ·have hne:((P.ents 3).getD i ent0).num=r.num:=by
        have:=of_decide_eq_false hc2.symm
        exact Decidable.of_not_not this
       have hF:JbL (JA 3 r) r.num ((P.ents 3).getD i ent0)=Jaq (JA 3 r) ((P.ents 3).getD i ent0).rules:=if_pos hne
       rw [hF] at hd
       clear hc2
       refine stp ?_
       refine ⟨Bd, ?_⟩
       refine stp ?_
       generalize hee:(P.ents 3).getD i ent0=e at hd hem
       have hcell:AV.sl 2 ((P.ents 3).getD i ent0).rules.length (fun k=> JbY (((P.ents 3).getD i ent0).rules.getD k Jv))=Jw e.rules:=by rw [hee];rfl
       refine Jx (fun y:Nat×Nat=> mk 130 [(2, .bp (0,nx) 0),(3, .bp (1,nx+1) 0),(4,u32 0),(5,int (3:Nat)),(9, .bp (2,nx2) 0),(10,int i),(11,Jw e.rules),(12,int y.1)] ⟨[((2,nx2), .c (Jar (JA 3 r))),((1,nx+1), .c (J9 r)),((0,nx), .c (JH P))], [],y.2,3⟩) (fun y=> y.1≤e.rules.length∧∀j,j < y.1→(e.rules.getD j Jv).conds.all (hB (JA 3 r))=false) (fun y=> e.rules.length - y.1) ?_ ?_
       ·exact ⟨(0,nx3),⟨Nat.zero_le _,fun j h=> absurd h (Nat.not_lt_zero _)⟩,Et (pm:= []) (bx:= [((2,nx2), .c (Jar (JA 3 r))),((1,nx+1), .c (J9 r)),((0,nx), .c (JH P))]) rfl rfl Bf trivial ⟨Rf,Rf,Rf,Rf,Rf,Rf,AVle.of_eq hcell,Rf,trivial⟩⟩
       ·rintro ⟨k,nx4⟩ ⟨hk1,hk2⟩
        dsimp only at hk1 hk2
        refine stp ?_
        intro c g2;cases c
        ·have g2:=Jt g2
         try dsimp only at g2
         have hkk:k=e.rules.length:=by omega
         subst hkk
         rw [Jed hk2] at hd
         refine stp ?_
         exact back (i+1,nx4) ⟨hi,by rw [← hi2,hd]⟩ Dm (Et (pm:= []) (bx:= [((2,nx2), .c (Jar (JA 3 r))),((1,nx+1), .c (J9 r)),((0,nx), .c (JH P))]) rfl rfl Bf trivial ⟨Rf,Rf,Rf,Rf,Rf,Lw,trivial⟩)
        ·have g2:=Ju g2
         try dsimp only at g2
         have hkk:k < e.rules.length:=by omega
         have hq:=hem.2 _ (JbF (d:=Jv) hkk)
         have hall:=Jgl (JA 3 r) hxl (e.rules.getD k Jv).conds Om hq.2
         refine stp ?_
         (refine JY 7 ?_ ?_ ?_ ?_;(· kernel_rfl);(· kernel_rfl);(· kernel_rfl))
         refine stp ?_
         refine ⟨Bd, ?_⟩
         refine stp ?_
         refine Jan (JV rfl rfl hall ⟨Rf,Rf,trivial⟩ (NoId.v _)) ?_
         refine stp ?_
         intro c hc
         have hc2:c=(e.rules.getD k Jv).conds.all (hB (JA 3 r)):=hc
         clear hc
         cases c
         ·refine stp ?_
          exact back (k+1,nx4) ⟨hkk,fun j hj=> by dsimp only at hj;rcases Nat.lt_or_ge j k with q | q;exact hk2 j q;rw [show j=k by omega];exact hc2.symm⟩ Dm (Et (pm:= []) (bx:= [((2,nx2), .c (Jar (JA 3 r))),((1,nx+1), .c (J9 r)),((0,nx), .c (JH P))]) rfl rfl Bf trivial ⟨Rf,Rf,Rf,Rf,Rf,Rf,Rf,Lw,trivial⟩)
         ·rw [Jfz hkk hk2 hc2.symm] at hd
          rw [← hi2,hd]
          refine stp ?_
          refine ⟨Bd, ?_⟩
          refine stp ?_
          exact Jd rfl Rf
      ·have hne:((P.ents 3).getD i ent0).num≠r.num:=of_decide_eq_true hc2.symm
       rw [show JbL (JA 3 r) r.num ((P.ents 3).getD i ent0)=none from if_neg hne] at hd
       clear hc2
       refine stp ?_
       exact back (i+1,nx3) ⟨hi,by rw [← hi2,hd]⟩ Dm (Et (pm:= []) (bx:= [((2,nx2), .c (Jar (JA 3 r))),((1,nx+1), .c (J9 r)),((0,nx), .c (JH P))]) rfl rfl Bf trivial ⟨Rf,Rf,Rf,Rf,Rf,Lw,trivial⟩)
   ·rw [if_neg (fun h=> by cases h.1),if_neg (show ¬0 < JcS 4 r.num from Nat.lt_irrefl 0)]
    refine Jf Tryz.func40 rfl rfl fun nx=> ?_
    refine stp ?_
    refine Je rfl rfl hsel ⟨Rf,Rf,trivial⟩ fun nx1=> ?_
    refine stp ?_
    refine Je rfl rfl hk ⟨Rf,trivial⟩ fun nx7=> ?_
    refine stp ?_
    refine Je rfl rfl hag ⟨Rf,Rf,trivial⟩ fun nx2=> ?_
    refine stp ?_
    have hE:=hP.ents 4 Dc
    have hxl:=Jf1 hr 4
    refine Jx (fun y:Nat×Nat=> mk 130 [(2, .bp (0,nx) 0),(3, .bp (1,nx+1) 0),(4,u32 0),(5,int (4:Nat)),(9, .bp (2,nx2) 0),(10,int y.1)] ⟨[((2,nx2), .c (Jar (JA 4 r))),((1,nx+1), .c (J9 r)),((0,nx), .c (JH P))], [],y.2,3⟩) (fun y=> y.1≤(P.ents 4).length∧((P.ents 4).drop y.1).findSome? (JbL (JA 4 r) r.num)=(P.ents 4).findSome? (JbL (JA 4 r) r.num)) (fun y=> (P.ents 4).length - y.1) ?_ ?_
    ·exact ⟨(0,nx2+1),⟨Nat.zero_le _,rfl⟩,Et (pm:= []) (bx:= [((2,nx2), .c (Jar (JA 4 r))),((1,nx+1), .c (J9 r)),((0,nx), .c (JH P))]) rfl rfl Bf trivial ⟨Rf,Rf,Rf,Rf,Rf,Rf,trivial⟩⟩
    ·rintro ⟨i,nx3⟩ ⟨hi1,hi2⟩
     dsimp only at hi1 hi2
     refine stp ?_
     intro c g;cases c
     ·have g:=Jt g
      try dsimp only at g
      have hi:i=(P.ents 4).length:=by omega
      rw [hi,List.drop_length] at hi2
      rw [← hi2]
      refine stp ?_
      exact Jd rfl Rf
     ·have g:=Ju g
      try dsimp only at g
      have hi:i < (P.ents 4).length:=by omega
      have hd:=Je7 (F:=JbL (JA 4 r) r.num) (d:=ent0) hi
      have hem:=hE.2 _ (JbF (d:=ent0) hi)
      refine stp ?_
      (refine JY 11 ?_ ?_ ?_ ?_;(· kernel_rfl);(· kernel_rfl);(· kernel_rfl))
      refine stp ?_
      refine ⟨Bd, ?_⟩
      refine stp ?_
      intro c hc
      have hc2:c=decide (((P.ents 4).getD i ent0).num≠r.num):=hc.trans (Jhd _ _)
      clear hc
      cases c
      ·have hne:((P.ents 4).getD i ent0).num=r.num:=by
        have:=of_decide_eq_false hc2.symm
        exact Decidable.of_not_not this
       have hF:JbL (JA 4 r) r.num ((P.ents 4).getD i ent0)=Jaq (JA 4 r) ((P.ents 4).getD i ent0).rules:=if_pos hne
       rw [hF] at hd
       clear hc2
       refine stp ?_
       refine ⟨Bd, ?_⟩
       refine stp ?_
       generalize hee:(P.ents 4).getD i ent0=e at hd hem
       have hcell:AV.sl 2 ((P.ents 4).getD i ent0).rules.length (fun k=> JbY (((P.ents 4).getD i ent0).rules.getD k Jv))=Jw e.rules:=by rw [hee];rfl
       refine Jx (fun y:Nat×Nat=> mk 130 [(2, .bp (0,nx) 0),(3, .bp (1,nx+1) 0),(4,u32 0),(5,int (4:Nat)),(9, .bp (2,nx2) 0),(10,int i),(11,Jw e.rules),(12,int y.1)] ⟨[((2,nx2), .c (Jar (JA 4 r))),((1,nx+1), .c (J9 r)),((0,nx), .c (JH P))], [],y.2,3⟩) (fun y=> y.1≤e.rules.length∧∀j,j < y.1→(e.rules.getD j Jv).conds.all (hB (JA 4 r))=false) (fun y=> e.rules.length - y.1) ?_ ?_
       ·exact ⟨(0,nx3),⟨Nat.zero_le _,fun j h=> absurd h (Nat.not_lt_zero _)⟩,Et (pm:= []) (bx:= [((2,nx2), .c (Jar (JA 4 r))),((1,nx+1), .c (J9 r)),((0,nx), .c (JH P))]) rfl rfl Bf trivial ⟨Rf,Rf,Rf,Rf,Rf,Rf,AVle.of_eq hcell,Rf,trivial⟩⟩
       ·rintro ⟨k,nx4⟩ ⟨hk1,hk2⟩
        dsimp only at hk1 hk2
        refine stp ?_
        intro c g2;cases c
        ·have g2:=Jt g2
         try dsimp only at g2
         have hkk:k=e.rules.length:=by omega
         subst hkk
         rw [Jed hk2] at hd
         refine stp ?_
         exact back (i+1,nx4) ⟨hi,by rw [← hi2,hd]⟩ Dm (Et (pm:= []) (bx:= [((2,nx2), .c (Jar (JA 4 r))),((1,nx+1), .c (J9 r)),((0,nx), .c (JH P))]) rfl rfl Bf trivial ⟨Rf,Rf,Rf,Rf,Rf,Lw,trivial⟩)
        ·have g2:=Ju g2
         try dsimp only at g2
         have hkk:k < e.rules.length:=by omega
         have hq:=hem.2 _ (JbF (d:=Jv) hkk)
         have hall:=Jgl (JA 4 r) hxl (e.rules.getD k Jv).conds Om hq.2
         refine stp ?_
         (refine JY 7 ?_ ?_ ?_ ?_;(· kernel_rfl);(· kernel_rfl);(· kernel_rfl))
         refine stp ?_
         refine ⟨Bd, ?_⟩
         refine stp ?_
         refine Jan (JV rfl rfl hall ⟨Rf,Rf,trivial⟩ (NoId.v _)) ?_
         refine stp ?_
         intro c hc
         have hc2:c=(e.rules.getD k Jv).conds.all (hB (JA 4 r)):=hc
         clear hc
         cases c
         ·refine stp ?_
          exact back (k+1,nx4) ⟨hkk,fun j hj=> by dsimp only at hj;rcases Nat.lt_or_ge j k with q | q;exact hk2 j q;rw [show j=k by omega];exact hc2.symm⟩ Dm (Et (pm:= []) (bx:= [((2,nx2), .c (Jar (JA 4 r))),((1,nx+1), .c (J9 r)),((0,nx), .c (JH P))]) rfl rfl Bf trivial ⟨Rf,Rf,Rf,Rf,Rf,Rf,Rf,Lw,trivial⟩)
         ·rw [Jfz hkk hk2 hc2.symm] at hd
          rw [← hi2,hd]
          refine stp ?_
          refine ⟨Bd, ?_⟩
          refine stp ?_
          exact Jd rfl Rf
      ·have hne:((P.ents 4).getD i ent0).num≠r.num:=of_decide_eq_true hc2.symm
       rw [show JbL (JA 4 r) r.num ((P.ents 4).getD i ent0)=none from if_neg hne] at hd
       clear hc2
       refine stp ?_
       exact back (i+1,nx3) ⟨hi,by rw [← hi2,hd]⟩ Dm (Et (pm:= []) (bx:= [((2,nx2), .c (Jar (JA 4 r))),((1,nx+1), .c (J9 r)),((0,nx), .c (JH P))]) rfl rfl Bf trivial ⟨Rf,Rf,Rf,Rf,Rf,Lw,trivial⟩)
end Go.Proofs.W

namespace Go.Proofs.W
open Go.Vl
set_option maxRecDepth 100000
end Go.Proofs.W

namespace Go.Proofs.W
open Go.Vl
set_option maxRecDepth 100000
theorem JjY:∀ {l m:List Nat},l.Nodup→(∀x∈l,x∈m)→l.length≤m.length
 | [],m,_,_=> Nat.zero_le _
 | x::l,m,hn,h=> by
   obtain ⟨h1,h2⟩:=List.nodup_cons.1 hn
   have hx:=h x (.head _)
   have h3:=JjY (m:=m.erase x) h2 fun y hy=> (List.mem_erase_of_ne (fun e:y=x=> h1 (e ▸ hy))).2 (h y (.tail _ hy))
   rw [List.length_erase_of_mem hx] at h3
   have:=List.length_pos_of_mem hx
   rw [List.length_cons];omega
theorem JpF {A:List Nat} {n:Nat} {q:Nat→Bool} {f:Nat→Nat} (hA:A.Nodup) (hi:∀i j,i < n→j < n→q i=true→q j=true→f i=f j→i=j) (h:∀x,x∈A↔∃i,i < n∧q i=true∧x=f i):((List.range n).filter q).length=A.length:=by
 have hm:∀ {i},i∈(List.range n).filter q↔i < n∧q i=true:=fun {i}=> by rw [List.mem_filter,List.mem_range]
 have e1:(((List.range n).filter q).map f).length=((List.range n).filter q).length:=List.length_map ..
 rw [← e1]
 refine Nat.le_antisymm ?_ ?_
 ·skip
  refine JjY ?_ fun x hx=> ?_
  ·unfold List.Nodup
   rw [List.pairwise_map]
   exact (List.Pairwise.filter q List.nodup_range).imp_of_mem fun {i j} h1 h2 hne e=> hne (hi i j (hm.1 h1).1 (hm.1 h2).1 (hm.1 h1).2 (hm.1 h2).2 e)
  ·obtain ⟨i,h1,rfl⟩:=List.mem_map.1 hx
   exact (h _).2 ⟨i,(hm.1 h1).1,(hm.1 h1).2,rfl⟩
 ·refine JjY hA fun x hx=> ?_
  obtain ⟨i,h1,h2,rfl⟩:=(h x).1 hx
  exact List.mem_map_of_mem (hm.2 ⟨h1,h2⟩)
def Jcx (p:Pol) (l:List TRow) (i:Nat):List Rul:=p.rules.filter fun r=> kS r.name (l.getD i Jg).name
def Jgv (p:Pol) (l:List TRow) (a i:Nat):List PRul:=Jaj a ((Jcx p l i).map JP) (Jp p.dflt)
def Jiz (p:Pol) (l:List TRow) (a i:Nat):Bool:=decide (0≤(l.getD i Jg).num a)&& ((decide (a≠1)|| p.x32)&& decide (0 < (Jgv p l a i).length))
theorem JfX {p:Pol} {l:List TRow} {a i:Nat}:Jiz p l a i=true↔0≤(l.getD i Jg).num a∧¬(a=1∧p.x32=false)∧Jgv p l a i≠ []:=by
 unfold Jiz
 simp only [Bool.and_eq_true,Bool.or_eq_true,decide_eq_true_eq]
 rw [List.length_pos_iff]
 refine and_congr_right fun _=> and_congr_left fun _=> ?_
 cases p.x32 <;> simp
theorem JlX {p:Pol} {l:List TRow} {a:Nat} {e:PEnt} (hv:(J7 p l).2=0):e∈(Jag p l).ents a↔∃i,i < l.length∧Jiz (Jc p) l a i=true∧e=⟨Jat a ((l.getD i Jg).num a),Jgv (Jc p) l a i⟩:=by
 have ht:=(Jab.1 hv).2.1
 have hG:=JcM (p:=p) (JbX hv)
 constructor
 ·intro he
  obtain ⟨g,hg,h2⟩:=Jiw he
  obtain ⟨j,hj,r1,n1⟩:=hG g hg
  have hr:Jcx (Jc p) l j=g.2:=by unfold Jcx;rw [n1,← Je6 hg]
  refine ⟨j,hj, ?_⟩
  rw [r1] at h2
  unfold Jav at h2
  split at h2
  ·cases h2
  ·rename_i q
   have hS:Jgv (Jc p) l a j=Jaj a (g.2.map JP) (Jp p.dflt):=by unfold Jgv;rw [hr];rfl
   rw [List.mem_singleton.1 h2,hS]
   refine ⟨JfX.2 ⟨?_,fun k=> q (.inr (.inl k)),fun k=> q (.inr (.inr (by rw [← hS];exact k)))⟩,rfl⟩
   have:¬(l.getD j Jg).num a < 0:=fun k=> q (.inl k)
   omega
 ·rintro ⟨i,hi,hb,rfl⟩
  obtain ⟨b1,b2,b3⟩:=JfX.1 hb
  have hne:Jcx (Jc p) l i≠ []:=fun k=> b3 (by unfold Jgv;rw [k];rfl)
  obtain ⟨n,hn⟩:=List.exists_mem_of_ne_nil _ hne
  obtain ⟨hn1,hn2⟩:=List.mem_filter.1 hn
  obtain ⟨g,hg,hgn⟩:=(Jcm (Jcf p)).all n hn1
  have hg1:g.1=(l.getD i Jg).name:=hgn.trans (Ja4.1 hn2)
  have hg2:=Je6 hg
  rw [hg1] at hg2
  have hro:=JfW ht hi
  refine Jm3 hg ?_
  rw [hg1,hro,hg2]
  have:=Jk7 (a:=a) (d:=Jp p.dflt) (x:=p.x32) (row:=l.getD i Jg) (rs:=(Jcx (Jc p) l i).map JP) Om b2 b3
  unfold Jcx at this
  rw [this]
  exact .head _
theorem JlY {p:Pol} {l:List TRow} {m:Nat} {s:PSub} (hv:(J7 p l).2=0):s∈(Jag p l).subs m↔∃i r,i < l.length∧(l.getD i Jg).mux=(m:Int)+1∧(Jcx (Jc p) l i).head? =some r∧s=⟨(l.getD i Jg).sub.toNat,Jp r.act⟩:=by
 have ht:=(Jab.1 hv).2.1
 have hG:=JcM (p:=p) (JbX hv)
 constructor
 ·intro he
  obtain ⟨g,hg,h2⟩:=Jix he
  obtain ⟨j,hj,r1,n1⟩:=hG g hg
  have hr:Jcx (Jc p) l j=g.2:=by unfold Jcx;rw [n1,← Je6 hg]
  have hne:=((Jcm (Jcf p)).rows g hg).2
  obtain ⟨n,L,hL⟩:=List.exists_cons_of_ne_nil hne
  rw [r1] at h2
  unfold Jbq at h2
  split at h2
  ·rename_i q
   refine ⟨j,n,hj,q,by rw [hr,hL];rfl, ?_⟩
   rw [List.mem_singleton.1 h2,hL];rfl
  ·cases h2
 ·rintro ⟨i,r,hi,hm,hh,rfl⟩
  have hne:Jcx (Jc p) l i≠ []:=fun k=> by rw [k] at hh;cases hh
  obtain ⟨n,hn⟩:=List.exists_mem_of_ne_nil _ hne
  obtain ⟨hn1,hn2⟩:=List.mem_filter.1 hn
  obtain ⟨g,hg,hgn⟩:=(Jcm (Jcf p)).all n hn1
  have hg1:g.1=(l.getD i Jg).name:=hgn.trans (Ja4.1 hn2)
  have hg2:=Je6 hg
  rw [hg1] at hg2
  have hro:=JfW ht hi
  refine Jm4 hg ?_
  rw [hg1,hro,hg2]
  unfold Jbq
  rw [if_pos hm]
  obtain ⟨n',L,hL⟩:=List.exists_cons_of_ne_nil hne
  unfold Jcx at hL hh
  rw [hL] at hh⊢
  cases hh
  exact .head _
theorem Jq7 {α:Type} {f:α→Nat} {l:List α} (h1:l.Pairwise fun a b=> f a≤f b) (h2:(l.map f).Nodup):l.Pairwise fun a b=> f a < f b:=by
 unfold List.Nodup at h2
 rw [List.pairwise_map] at h2
 exact (h1.and h2).imp fun {a b} h=> Nat.lt_of_le_of_ne h.1 h.2
theorem JuX {p:Pol} {l:List TRow} {a:Nat} (hv:(J7 p l).2=0) (ha:a < 5):((Jag p l).ents a).Pairwise fun x y=> x.num < y.num:=
 Jq7 (Jo7 _) (((JfT _).map _).nodup_iff.2 (JhD (p:=Jc p) (Jab.1 hv).2.1 ha JeM (JcM (p:=p) (JbX hv))))
theorem JuY {p:Pol} {l:List TRow} {m:Nat} (hv:(J7 p l).2=0):((Jag p l).subs m).Pairwise fun x y=> x.num < y.num:=
 Jq7 (Jo8 _) (((JfU _).map _).nodup_iff.2 (JhE (Jab.1 hv).2.1 JeM (JcM (p:=p) (JbX hv))))
theorem Jla {α:Type} {f:α→Nat} {l:List α} (h:l.Pairwise fun a b=> f a < f b):(l.map f).Nodup:=by
 unfold List.Nodup
 rw [List.pairwise_map]
 exact h.imp fun {a b} h=> Nat.ne_of_lt h
theorem JsS {p:Pol} {l:List TRow} {a:Nat} (hv:(J7 p l).2=0) (ha:a < 5):((List.range l.length).filter (Jiz (Jc p) l a)).length=((Jag p l).ents a).length:=by
 have ht:=(Jab.1 hv).2.1
 have e1:(((Jag p l).ents a).map (·.num)).length=((Jag p l).ents a).length:=List.length_map ..
 rw [← e1]
 refine JpF (f:=fun i=> Jat a ((l.getD i Jg).num a)) (Jla (JuX hv ha)) (fun i j hi hj h1 h2 e=> ?_) fun x=> ?_
 ·have b1:=(JfX.1 h1).1
  have b2:=(JfX.1 h2).1
  try dsimp only at e
  rw [JeK b1 (Jc8 ht hi).1,JeK b2 (Jc8 ht hj).1] at e
  exact JlH ht ha hi hj b1 (by split at e <;> omega)
 ·constructor
  ·intro h
   obtain ⟨e,he,rfl⟩:=List.mem_map.1 h
   obtain ⟨i,hi,hb,rfl⟩:=(JlX hv).1 he
   exact ⟨i,hi,hb,rfl⟩
  ·rintro ⟨i,hi,hb,rfl⟩
   exact List.mem_map.2 ⟨_,(JlX hv).2 ⟨i,hi,hb,rfl⟩,rfl⟩
def Jlb (p:Pol) (l:List TRow) (m i:Nat):Bool:=decide ((l.getD i Jg).mux=(m:Int)+1)&& (Jcx p l i).head?.isSome
theorem JsT {p:Pol} {l:List TRow} {m:Nat} (hv:(J7 p l).2=0):((List.range l.length).filter (Jlb (Jc p) l m)).length=((Jag p l).subs m).length:=by
 have ht:=(Jab.1 hv).2.1
 have e1:(((Jag p l).subs m).map (·.num)).length=((Jag p l).subs m).length:=List.length_map ..
 rw [← e1]
 have hB:∀i,Jlb (Jc p) l m i=true↔(l.getD i Jg).mux=(m:Int)+1∧∃r,(Jcx (Jc p) l i).head? =some r:=fun i=> by
  unfold Jlb
  rw [Bool.and_eq_true,decide_eq_true_eq,Option.isSome_iff_exists]
 refine JpF (f:=fun i=> (l.getD i Jg).sub.toNat) (Jla (JuY hv)) (fun i j hi hj h1 h2 e=> ?_) fun x=> ?_
 ·have b1:=((hB i).1 h1).1
  have b2:=((hB j).1 h2).1
  have c1:=Jdn ht hi
  have c2:=Jdn ht hj
  try dsimp only at e
  exact JlI ht hi hj Om Om Om
 ·constructor
  ·intro h
   obtain ⟨e,he,rfl⟩:=List.mem_map.1 h
   obtain ⟨i,r,hi,hm,hh,rfl⟩:=(JlY hv).1 he
   exact ⟨i,hi,(hB i).2 ⟨hm,r,hh⟩,rfl⟩
  ·rintro ⟨i,hi,hb,rfl⟩
   obtain ⟨hm,r,hh⟩:=(hB i).1 hb
   exact List.mem_map.2 ⟨_,(JlY hv).2 ⟨i,r,hi,hm,hh,rfl⟩,rfl⟩
end Go.Proofs.W

namespace Go.Proofs.W
open Go.Vl
set_option maxRecDepth 100000
theorem Jwq {p:Pol} (h:Jft p=true):∀r∈p.rules,r.conds.length≤12∧r.name.size≤1000000:=fun r hr=> by
 unfold Jft Jd8 at h
 simp only [Bool.and_eq_true,decide_eq_true_eq,List.all_eq_true] at h
 have:=h.2 r hr
 exact ⟨this.2,by omega⟩
end Go.Proofs.W

namespace Go.Proofs.W
open Go.Vl
set_option maxRecDepth 100000
def stA (a:Nat) (c:Cnd):Cnd×Nat:=if a=2 then Ja3 c else (c,0)
def Jwr (a:Nat) (c:Cnd):Bool:=decide ((stA a c).2=2)
def JsU (a:Nat) (c:Cnd):Option Cnd:=if (stA a c).2=0 then some (stA a c).1 else none
theorem JxK (a:Nat) (r:PRul):Jds a r=if r.conds.any (Jwr a) then none else some ⟨r.conds.filterMap (JsU a),r.code⟩:=by
 unfold Jds
 by_cases h:a=2
 ·subst h;rfl
 ·rw [if_neg h]
  have h1:∀c,stA a c=(c,0):=fun c=> if_neg h
  have h2:r.conds.any (Jwr a)=false:=by
   rw [List.any_eq_false]
   intro c _
   unfold Jwr
   rw [h1];simp
  have h3:JsU a=some:=funext fun c=> by unfold JsU;rw [h1];rfl
  rw [h2,h3,if_neg Dc,List.filterMap_some]
def JnH (a:Nat) (over:Bool) (l:List PRul):List PRul:=if over then [] else Jb3 a l
theorem Jlc {a:Nat} {q:PRul} {l:List PRul}:Jb3 a (q::l)=match Jds a q with
 | none=> Jb3 a l
 | some r=> r::JnH a (decide (r.conds.length=0)) l:=by
 show (match Jds a q with | none=> Jb3 a l | some q=> if q.conds.length=0 then [q] else q::Jb3 a l)=_
 cases Jds a q with
 | none=> rfl
 | some r=>
   dsimp only
   unfold JnH
   by_cases h:r.conds.length=0
   ·rw [if_pos h,decide_eq_true h];rfl
   ·rw [if_neg h,decide_eq_false h];rfl
end Go.Proofs.W

namespace Go.Proofs.W
open Go.Vl
set_option maxRecDepth 100000
end Go.Proofs.W

namespace Go.Proofs.W
open Go.Vl
set_option maxRecDepth 100000
end Go.Proofs.W

namespace Go.Proofs.W
open Go.Vl
set_option maxRecDepth 100000
end Go.Proofs.W

namespace Go.Proofs.W
open Go.Vl
set_option maxRecDepth 100000
end Go.Proofs.W

namespace Go.Proofs.W
open Go.Vl
set_option maxRecDepth 100000
theorem JxL {c:Cnd} (h:c.ok):(Ja3 c).1.ok:=by
 unfold Ja3
 obtain ⟨h1,h2⟩:=h
 have h0:cnd0.ok:=⟨by decide,by decide⟩
 split
 ·exact h0
 ·split
  ·split
   ·exact h0
   ·exact ⟨Nat.lt_of_le_of_lt Nat.and_le_left h1,h2⟩
  ·exact ⟨h1,h2⟩
end Go.Proofs.W

namespace Go.Proofs.W
open Go.Vl
set_option maxRecDepth 100000
end Go.Proofs.W

namespace Go.Proofs.W
open Go.Vl
set_option maxRecDepth 100000
theorem Jyz:Tells Tryz.prog 27 [JeN JcA] (Jb true):=by
 refine Jf Tryz.func27 rfl rfl fun nx=> ?_
 refine stp ?_
 refine Jx (fun y:Nat×Nat=> mk 36 [(1, .bp (0,nx) 0),(2,Jb false),(3,int y.1)] ⟨[((0,nx), .c (JH JcA))], [],y.2,1⟩) (fun y=> y.1≤5) (fun y=> 5 - y.1) ?_ ?_
 ·exact ⟨(0,nx+1),Nat.zero_le _,Et (pm:= []) (bx:= [((0,nx), .c (JH JcA))]) rfl rfl Bf trivial ⟨Rf,Rf,Rf,trivial⟩⟩
 ·rintro ⟨a,nx1⟩ ha
  dsimp only at ha
  rcases (by omega:a=0∨a=1∨a=2∨a=3∨a=4∨a=5) with rfl | rfl | rfl | rfl | rfl | rfl
  ·refine AW.le (Et (n:=36) (nn:=1) (pm:= []) (bx:= [((0,nx), .c (JH JcA))]) (L:= [(1, .bp (0,nx) 0),(2,Jb false),(3,int (0:Nat))]) rfl rfl Bf trivial ⟨Rf,Rf,Rf,trivial⟩) ?_
   refine stp ?_
   exact back (1,nx1) Dm Dm (Et (pm:= []) (bx:= [((0,nx), .c (JH JcA))]) rfl rfl Bf trivial ⟨Rf,Rf,Jk rfl,trivial⟩)
  ·refine AW.le (Et (n:=36) (nn:=1) (pm:= []) (bx:= [((0,nx), .c (JH JcA))]) (L:= [(1, .bp (0,nx) 0),(2,Jb false),(3,int (1:Nat))]) rfl rfl Bf trivial ⟨Rf,Rf,Rf,trivial⟩) ?_
   refine stp ?_
   exact back (2,nx1) Dm Dm (Et (pm:= []) (bx:= [((0,nx), .c (JH JcA))]) rfl rfl Bf trivial ⟨Rf,Rf,Jk rfl,trivial⟩)
  ·refine AW.le (Et (n:=36) (nn:=1) (pm:= []) (bx:= [((0,nx), .c (JH JcA))]) (L:= [(1, .bp (0,nx) 0),(2,Jb false),(3,int (2:Nat))]) rfl rfl Bf trivial ⟨Rf,Rf,Rf,trivial⟩) ?_
   refine stp ?_
   exact back (3,nx1) Dm Dm (Et (pm:= []) (bx:= [((0,nx), .c (JH JcA))]) rfl rfl Bf trivial ⟨Rf,Rf,Jk rfl,trivial⟩)
  ·refine AW.le (Et (n:=36) (nn:=1) (pm:= []) (bx:= [((0,nx), .c (JH JcA))]) (L:= [(1, .bp (0,nx) 0),(2,Jb false),(3,int (3:Nat))]) rfl rfl Bf trivial ⟨Rf,Rf,Rf,trivial⟩) ?_
   refine stp ?_
   exact back (4,nx1) Dm Dm (Et (pm:= []) (bx:= [((0,nx), .c (JH JcA))]) rfl rfl Bf trivial ⟨Rf,Rf,Jk rfl,trivial⟩)
  ·refine AW.le (Et (n:=36) (nn:=1) (pm:= []) (bx:= [((0,nx), .c (JH JcA))]) (L:= [(1, .bp (0,nx) 0),(2,Jb false),(3,int (4:Nat))]) rfl rfl Bf trivial ⟨Rf,Rf,Rf,trivial⟩) ?_
   refine stp ?_
   exact back (5,nx1) Dm Dm (Et (pm:= []) (bx:= [((0,nx), .c (JH JcA))]) rfl rfl Bf trivial ⟨Rf,Rf,Jk rfl,trivial⟩)
  ·refine stp ?_
   exact Jd rfl Rf
theorem Jq8 {d:Nat} (l:List PRul):(Jhx d l).Sublist l:=by
 unfold Jhx
 have h:=(List.dropWhile_sublist (fun r:PRul=> decide (r.code=d)) (l:=l.reverse)).reverse
 rwa [List.reverse_reverse] at h
theorem JiA {a:Nat} {q:PRul}:∀ {l:List PRul},q∈Jb3 a l→∃r∈l,Jds a r=some q
 | [],h=> by cases h
 | r::l,h=> by
   rw [Jlc] at h
   cases hr:Jds a r with
   | none=>
     rw [hr] at h
     obtain ⟨r',h1,h2⟩:=JiA h
     exact ⟨r', .tail _ h1,h2⟩
   | some q'=>
     rw [hr] at h
     rcases List.mem_cons.1 h with rfl | h
     ·exact ⟨r, .head _,hr⟩
     ·unfold JnH at h
      split at h
      ·cases h
      ·obtain ⟨r',h1,h2⟩:=JiA h
       exact ⟨r', .tail _ h1,h2⟩
theorem Jm5 {a:Nat}:∀l:List PRul,(Jb3 a l).length≤l.length
 | []=> Nat.le_refl _
 | r::l=> by
   have ih:=Jm5 (a:=a) l
   rw [Jlc]
   cases Jds a r with
   | none=> dsimp only;rw [List.length_cons];omega
   | some q=>
     dsimp only
     rw [List.length_cons,List.length_cons]
     unfold JnH
     split
     ·simp
     ·omega
theorem Jws {a d:Nat} {q:PRul} {l:List PRul} (h:q∈Jaj a l d):∃r∈l,Jds a r=some q:=JiA ((Jq8 _).subset h)
theorem Jwt {a d:Nat} (l:List PRul):(Jaj a l d).length≤l.length:=Nat.le_trans (Jq8 _).length_le (Jm5 l)
theorem JyA {a:Nat} {r q:PRul} (h:∀c∈r.conds,c.ok) (e:Jds a r=some q):∀c∈q.conds,c.ok:=by
 rw [JxK] at e
 split at e
 ·cases e
 ·obtain rfl:=Option.some.inj e
  intro c hc
  obtain ⟨c0,h0,h1⟩:=List.mem_filterMap.1 hc
  unfold JsU at h1
  split at h1
  ·obtain rfl:=Option.some.inj h1
   unfold stA
   split
   ·exact JxL (h c0 h0)
   ·exact h c0 h0
  ·cases h1
theorem JxM {p:Pol} {l:List TRow} (hp:p.ok) (hps:∀r∈p.rules,r.conds.length≤12∧r.name.size≤1000000) (hv:(J7 p l).2=0) (hl:l.length≤40):PlOk (Jag p l):=by
 have ht:=(Jab.1 hv).2.1
 have hr:=(Jab.1 hv).1
 have hcnt:∀q:Nat→Bool,((List.range l.length).filter q).length≤40:=fun q=> by
  have:=List.length_filter_le q (List.range l.length)
  rw [List.length_range] at this
  omega
 refine ⟨fun a ha=> ⟨?_,fun e he=> ?_⟩,fun m hm=> ⟨?_,fun s hs=> ?_⟩⟩
 ·rw [← JsS hv ha]
  have:=hcnt (Jiz (Jc p) l a)
  omega
 ·obtain ⟨i,hi,hb,rfl⟩:=(JlX hv).1 he
  have hsub:∀q∈Jgv (Jc p) l a i,∃r∈(Jc p).rules,Jds a (JP r)=some q:=fun q hq=> by
   obtain ⟨q0,h0,h1⟩:=Jws hq
   obtain ⟨r,hr,rfl⟩:=List.mem_map.1 h0
   exact ⟨r,(List.mem_filter.1 hr).1,h1⟩
  refine ⟨?_,fun q hq=> ?_⟩
  ·have h1:=Jwt (a:=a) (d:=Jp (Jc p).dflt) ((Jcx (Jc p) l i).map JP)
   have h2:(Jcx (Jc p) l i).length≤(Jc p).rules.length:=List.length_filter_le _ _
   have h3:=(JbA (JkT hr)).1
   rw [List.length_map] at h1
   exact Nat.le_trans h1 Om
  ·obtain ⟨r,hm,hq2⟩:=hsub q hq
   obtain ⟨r0,h0,hN⟩:=Je1 hm
   have hok:∀c∈r.conds,c.ok:=(Jd9 hN).2.2 (hp.2 r0 h0).2.2
   have hlr:r.conds.length≤12:=Nat.le_trans (Jbv hN).1 (hps r0 h0).1
   refine ⟨?_,JyA hok hq2⟩
   have:=(JqR hq2).1
   have e:(JP r).conds.length=r.conds.length:=rfl
   omega
 ·rw [← JsT (m:=m) hv]
  have:=hcnt (Jlb (Jc p) l m)
  omega
 ·obtain ⟨i,r,hi,hmx,_,rfl⟩:=(JlY hv).1 hs
  have:=Jdn ht hi
  show (l.getD i Jg).sub.toNat < _
  omega
set_option maxHeartbeats 8000000 in
theorem JuZ (k n:Int) (x32:Bool) (rs:List Rul) (l:List TRow) (r:Rec) (P:Plan) (v:Nat) (hv:v < 4294967296)
 (hlt:Tells Tryz.prog 22 [JbR ⟨(k,n),x32,rs⟩] (Jb true)) (hfew:Tells Tryz.prog 23 [JJ l] (Jb true)) (hof:Tells Tryz.prog 24 [JbR ⟨(k,n),x32,rs⟩] (JbR ⟨(k,n),x32,rs⟩)) (hrw:Tells Tryz.prog 25 [JJ l] (JJ l))
 (hr:Tells Tryz.prog 12 [JbR ⟨(k,n),x32,rs⟩,JJ l] (.tup [JeN P,int 0,int 0])) (hby:Tells Tryz.prog 40 [JeN P,Jgi r] (u32 (v:Nat)))
 (hrj:Tells Tryz.prog 21 [JbR ⟨(k,n),x32,rs⟩,JJ l,Jgi r] (int (v:Nat))):Tells Tryz.prog 8 [JbR ⟨(k,n),x32,rs⟩,JJ l,Jgi r] (Jb true):=by
 have hawk:=Jiu
 refine Jf Tryz.func8 rfl rfl fun nx=> ?_
 refine stp ?_
 refine Je rfl rfl hlt ⟨Rf,trivial⟩ fun nx1=> ?_
 refine stp ?_
 refine Je rfl rfl hfew ⟨Rf,trivial⟩ fun nx2=> ?_
 refine stp ?_
 refine Je rfl rfl hof ⟨Rf,trivial⟩ fun nx3=> ?_
 refine stp ?_
 refine Je rfl rfl hrw ⟨Rf,trivial⟩ fun nx4=> ?_
 refine stp ?_
 refine Je rfl rfl hr ⟨Rf,Rf,trivial⟩ fun nx5=> ?_
 refine JW ?_
 refine AW.le (Et (n:=46) (nx:=nx5+1) (nn:=5) (pm:= []) (bx:= [((2,nx5), .c (JH P)),((1,nx+1), .c (J9 r)),((0,nx), .c [int k,int n,Jb x32,Ji rs])]) (L:= [(1,JJ l),(3, .bp (0,nx) 0),(5, .bp (1,nx+1) 0),(7, .bp (2,nx5) 0),(9,int 0)]) rfl rfl ⟨rfl,OwnLe.refl _,rfl,OwnLe.refl _,rfl,OwnLe.refl _,trivial⟩ trivial ⟨Rf,Rf,Rf,AVle.bp_nm rfl,Rf,trivial⟩) ?_
 refine stp ?_
 (refine JY 13 ?_ ?_ ?_ ?_;(· kernel_rfl);(· kernel_rfl);(· kernel_rfl))
 refine stp ?_
 refine Jan (JV rfl rfl hby ⟨Rf,Rf,trivial⟩ (NoId.v _)) ?_
 refine stp ?_
 refine Jan (JV rfl rfl hrj ⟨Rf,Rf,Rf,trivial⟩ (NoId.v _)) ?_
 refine stp ?_
 intro c hc
 have hc2:c=true:=hc.trans (show (IntKind.i64.wrap ((v:Nat):Int) ==((v:Nat):Int))=true by rw [Jai Om Om];exact beq_self_eq_true _)
 clear hc
 cases hc2
 refine stp ?_
 refine Jan (JV rfl rfl hawk trivial (NoId.v _)) ?_
 refine stp ?_
 exact Jd rfl Rf
set_option maxHeartbeats 8000000 in
theorem Jm6 (k n:Int) (x32:Bool) (rs:List Rul) (l:List TRow) (r:Rec) (i e:Int) (he:e≠0)
 (hlt:Tells Tryz.prog 22 [JbR ⟨(k,n),x32,rs⟩] (Jb true)) (hfew:Tells Tryz.prog 23 [JJ l] (Jb true)) (hof:Tells Tryz.prog 24 [JbR ⟨(k,n),x32,rs⟩] (JbR ⟨(k,n),x32,rs⟩)) (hrw:Tells Tryz.prog 25 [JJ l] (JJ l))
 (hr:Tells Tryz.prog 12 [JbR ⟨(k,n),x32,rs⟩,JJ l] (.tup [JeN JcA,int i,int e])):Tells Tryz.prog 8 [JbR ⟨(k,n),x32,rs⟩,JJ l,Jgi r] (Jb true):=by
 have hawk:=Jiu
 refine Jf Tryz.func8 rfl rfl fun nx=> ?_
 refine stp ?_
 refine Je rfl rfl hlt ⟨Rf,trivial⟩ fun nx1=> ?_
 refine stp ?_
 refine Je rfl rfl hfew ⟨Rf,trivial⟩ fun nx2=> ?_
 refine stp ?_
 refine Je rfl rfl hof ⟨Rf,trivial⟩ fun nx3=> ?_
 refine stp ?_
 refine Je rfl rfl hrw ⟨Rf,trivial⟩ fun nx4=> ?_
 refine stp ?_
 refine Je rfl rfl hr ⟨Rf,Rf,trivial⟩ fun nx5=> ?_
 refine JW ?_
 refine AW.le (Jm (n:=46) (nx:=nx5+1) (nn:=5) (pm:= []) (bx:= [((0,nx5), .c (JH JcA))]) (L:= [(7, .bp (0,nx5) 0),(9,int e)]) _ _ rfl rfl (.cons_cons _ (.cons _ (.cons _ .slnil))) Sf ⟨rfl,OwnLe.refl _,trivial⟩ trivial ⟨AVle.bp_nm rfl,Rf,trivial⟩) ?_
 refine stp ?_
 intro c hc
 have hc2:c=true:=hc.trans (bne_iff_ne.2 he)
 clear hc
 cases hc2
 refine stp ?_
 refine Je rfl rfl Jyz ⟨Rf,trivial⟩ fun nx6=> ?_
 refine stp ?_
 refine Je rfl rfl hawk trivial fun nx7=> ?_
 refine stp ?_
 exact Jd rfl Rf
theorem Ji2 (p:Pol) (l:List TRow) (r:Rec) (hp:p.ok) (hl:l.length≤maxLen) (hn:∀q∈l,q.name.size≤maxLen) (hr:r.ok):Tells Tryz.prog 8 [JbR p,JJ l,Jgi r] (Jb true):=by
 have hlt:=JuW p hp.1
 have hfew:=JsQ l hl hn
 obtain ⟨⟨k,n⟩,x32,rs⟩:=p
 cases hlp:Jft ⟨(k,n),x32,rs⟩ with
 | false=>
   rw [hlp] at hlt
   refine Jf Tryz.func8 rfl rfl fun nx=> ?_
   refine stp ?_
   refine Je rfl rfl hlt ⟨Rf,trivial⟩ fun nx5=> ?_
   refine stp ?_
   exact Jd rfl Rf
 | true=>
   rw [hlp] at hlt
   have hpo:=Jwi hp hlp
   have hps:=Jwq hlp
   cases hfl:JjL l with
   | false=>
     rw [hfl] at hfew
     refine Jf Tryz.func8 rfl rfl fun nx=> ?_
     refine stp ?_
     refine Je rfl rfl hlt ⟨Rf,trivial⟩ fun nx5=> ?_
     refine stp ?_
     refine Je rfl rfl hfew ⟨Rf,trivial⟩ fun nx6=> ?_
     refine stp ?_
     exact Jd rfl Rf
   | true=>
     rw [hfl] at hfew
     obtain ⟨hl40,hn60⟩:=Jyu hfl
     have hof:=JxI ⟨(k,n),x32,rs⟩ hpo.1 (fun r hr=> (hpo.2 r hr).1)
     have hrw:=JpC l Om
     have hR:=Jip ⟨(k,n),x32,rs⟩ l hp hps Om hn
     unfold JlU at hR
     by_cases hv:(J7 ⟨(k,n),x32,rs⟩ l).2=0
     ·rw [if_neg (fun h=> h hv)] at hR
      dsimp only at hR
      cases hx:rs.findIdx? (Jc4 l) with
      | some i=>
        rw [hx] at hR
        exact Jm6 k n x32 rs l r i 17 Dc hlt hfew hof hrw hR
      | none=>
        rw [hx] at hR
        have hm:∀r∈rs,Jc4 l r=false:=fun r hr=> by
         have:=List.findIdx?_eq_none_iff.1 hx r hr
         simpa using this
        have hc:∀r∈rs,∀c∈r.conds,c.ok:=fun r hr=> (hpo.2 r hr).2
        have hby:=JxJ (Jag ⟨(k,n),x32,rs⟩ l) r hr (JxM hp hps hv hl40)
        have hje:=Jwh (p:=⟨(k,n),x32,rs⟩) (l:=l) (r:=r) (Jab.1 hv).1 (Jab.1 hv).2.1
        rw [Jwp (p:=⟨(k,n),x32,rs⟩) hv hc hm hr,hje] at hby
        exact JuZ k n x32 rs l r _ (Jis ⟨(k,n),x32,rs⟩ l r) (by rw [← hje];exact JvL (JoS (Jab.1 hv).1 l r)) hlt hfew hof hrw hR hby (Jnv ⟨(k,n),x32,rs⟩ l r hpo (Jab.1 hv).1 Om hr)
     ·rw [if_pos hv] at hR
      exact Jm6 k n x32 rs l r (J7 ⟨(k,n),x32,rs⟩ l).1 (J7 ⟨(k,n),x32,rs⟩ l).2 hv hlt hfew hof hrw hR
end Go.Proofs.W
