import Derived.Test.YtokhkmgefndbaaaGreatDoorQE
import Derived.Test.YtokhkmgefndbaaaGreatDoorQD
import Derived.Test.YtokhkmgefndbaaaGreatDoorQC
import Derived.Shelf.SlSortCmp.WholeK
import Derived.Shelf.Small.Bits
import Derived.Shelf.Lay
import Derived.Ground.SlsfProg
import Derived.Ground.SlgcProg
import Derived.Ground.NamesProg
import Derived.Lib.Walk
import Derived.Lib.ItoaMem
import Derived.Sort.WalkA
import Derived.Shelf.Strings.OnBuilder
import Derived.Shelf.SlicesG.CompactS
import Derived.Ground.SlgnProg
set_option linter.unusedVariables false
set_option linter.unusedSimpArgs false
set_option maxHeartbeats 16000000
namespace Go.Proofs.W
open Go.Vl
set_option maxRecDepth 100000
theorem Jpw {l:List TRow} {s:ByteArray} (h:Jbq l s=true):Jr4 l s:=by
 have h1:Jay l s=l.getD (Jce l s) Jd:=if_pos h
 unfold Jbq at h
 simp only [Bool.and_eq_true,decide_eq_true_eq] at h
 exact ⟨_,h.1,h1,JuE.1 h.2⟩
theorem Jf5 {p:Pol} {n:Rul} (h:n∈(Jh p).rules):∃r∈p.rules,JaW r=some n:=Jk2 h
theorem Je1 (p:Pol):Jyi (Jh p).rules:=by
 show ((JdR (Jal p.rules)).flatMap fun nm=> Jdr p.dflt (Jbm (Jal p.rules) ⟨nm.toArray⟩)).Pairwise _
 have hname:∀(z:List UInt8) (r:Rul),r∈Jdr p.dflt (Jbm (Jal p.rules) ⟨z.toArray⟩)→nmL r.name=z:=fun z r hr=> by
  have h:=Jjo hr;rw [Jgn] at h;rw [(Jk1 h).1];unfold nmL;simp
 rw [List.pairwise_flatMap]
 refine ⟨fun z _=> ?_,(Jlv (JhC p.rules)).imp fun {a b} h x hx y hy=> ?_⟩
 ·refine List.pairwise_of_forall_mem_list fun x hx y hy=> ?_;rw [hname z x hx,hname z y hy,Jjp]
 ·rw [hname a x hx,hname b y hy];cases hl:Go.Sort.ltStr b a with
  | false=> rfl
  | true=> exact absurd (JEw _ _ _ h hl) (Jyd _)
theorem JfR {p:Pol}:(Jaa (Jh p).rules).Pairwise fun x y=> x.1≠y.1:=
 (JeF (Je1 p)).up.imp fun h e=> by rw [e,Jjp] at h;cases h
theorem Jc8 {p:Pol} {l:List TRow} (h:∀r∈p.rules,Jbq l r.name=true):∀g∈Jaa (Jh p).rules,Jr4 l g.1:=fun g hg=> by
 obtain ⟨k1,k2⟩:=(JeF (Je1 p)).rows g hg
 obtain ⟨q,hq⟩:=List.exists_mem_of_ne_nil _ k2
 rw [k1] at hq
 obtain ⟨q1,q2⟩:=List.mem_filter.1 hq
 obtain ⟨r,hr,hn⟩:=Jf5 q1
 rw [← JbU.1 q2,(Jcg hn).2.1]
 exact Jpw (h r hr)
theorem Jch {p:Pol} {l:List TRow} (h:(Jaf p l).2=0):∀r∈p.rules,Jbq l r.name=true:=fun r hr=> by
 obtain ⟨_,_,h3⟩:=JaC.1 h
 obtain ⟨i,hi,rfl⟩:=List.getElem_of_mem hr
 have:=h3 i hi
 unfold JdD at this
 rw [show p.rules.getD i Jn=p.rules[i] by simp [List.getD,hi]] at this
 cases hf:Jbq l p.rules[i].name with
 | true=> rfl
 | false=> rw [if_pos hf] at this;cases this
def J8 (p:Pol) (l:List TRow):Plan:=⟨JX p.dflt,p.x32,fun a=> Jqy (JdI (Jh p) l (Jaa (Jh p).rules) a),fun m=> Jqz (JdJ l (Jaa (Jh p).rules) m)⟩
theorem Jyq {p:Pol} {l:List TRow} (h:(Jaf p l).2=0) {a:Nat} (ha:a < 5) {D:List (Nat×AV)} (e:PEnt→Nat×AV) (he:∀x,(e x).1=x.num) (hp:D.Perm ((JdI (Jh p) l (Jaa (Jh p).rules) a).map e)) (hs:D.Pairwise fun x y=> x.1≤y.1):D=((J8 p l).ents a).map e:=by
 have hn:=Jjq (p:=Jh p) (JaC.1 h).2.1 ha JfR (Jc8 (p:=p) (Jch h))
 refine Jgo (key:=(·.1)) (hp.trans ((JfO _).symm.map e)) hs ?_ ?_
 ·rw [List.pairwise_map];exact (JAz _).imp fun h=> by rw [he,he];exact h
 ·refine (hp.map (·.1)).nodup_iff.2 ?_;rw [List.map_map,show ((fun x:Nat×AV=> x.1)∘e)=(fun x:PEnt=> x.num) from funext he];exact hn
theorem Jyr {p:Pol} {l:List TRow} (h:(Jaf p l).2=0) {a:Nat} {D:List (Nat×AV)} (e:PSub→Nat×AV) (he:∀x,(e x).1=x.num) (hp:D.Perm ((JdJ l (Jaa (Jh p).rules) a).map e)) (hs:D.Pairwise fun x y=> x.1≤y.1):D=((J8 p l).subs a).map e:=by
 have hn:=Jjr (m:=a) (JaC.1 h).2.1 JfR (Jc8 (p:=p) (Jch h))
 refine Jgo (key:=(·.1)) (hp.trans ((JfP _).symm.map e)) hs ?_ ?_
 ·rw [List.pairwise_map];exact (Jr3 _).imp fun h=> by rw [he,he];exact h
 ·refine (hp.map (·.1)).nodup_iff.2 ?_;rw [List.map_map,show ((fun x:Nat×AV=> x.1)∘e)=(fun x:PSub=> x.num) from funext he];exact hn
def JI:PRul:=⟨[],0⟩
def Jer (r:PRul):AV:= .ag [Jaz r.conds,u32 (r.code:Nat)]
def J6 (l:List PRul):AV:=JK 2 Jer JI l
def ent0:PEnt:=⟨0, []⟩
def sub0:PSub:=⟨0,0⟩
def Ja2 (e:PEnt):AV:= .ag [u32 (e.num:Nat),J6 e.rules]
def JhE (s:PSub):AV:= .ag [u32 (s.num:Nat),u32 (s.code:Nat)]
def JqA:Plan:=⟨0,false,fun _=> [],fun _=> []⟩
def Jct (P:Plan):AV:= .ag [u32 (P.dflt:Nat),Ji P.x32,JK 2 Ja2 ent0 (P.ents 0),JK 2 Ja2 ent0 (P.ents 1),JK 2 Ja2 ent0 (P.ents 2),JK 2 Ja2 ent0 (P.ents 3),JK 2 Ja2 ent0 (P.ents 4),JK 2 JhE sub0 (P.subs 0),JK 2 JhE sub0 (P.subs 1)]
theorem JAD {arg op:Int} {mask value:Nat} (h:value > 4294967295):Jbd ⟨arg,op,mask,value⟩=(cnd0,if op=2∨op=3 then 1 else 2):=if_pos h
theorem Jma {arg op:Int} {mask value:Nat} (h:¬value > 4294967295):Jbd ⟨arg,op,mask,value⟩=if op=7 then (if mask&&& 4294967295=0 then (cnd0,1) else (⟨arg,op,mask&&& 4294967295,value⟩,0)) else (⟨arg,op,mask,value⟩,0):=if_neg h
theorem Jqc (c:Cnd) (ho:c.ok):Tells Tryz.prog 118 [JZ c] (.tup [JZ (Jbd c).1,int (Jbd c).2]):=by
 obtain ⟨arg,op,mask,value⟩:=c
 refine Jc Tryz.func118 rfl rfl fun nx=> ?_
 have hb:JbC .and .u64 mask 4294967295=((mask&&& 4294967295:Nat):Int):=Jux ho.1 Dc
 (repeat' (refine Z ?_;intro c h;cases c))
 all_goals
  refine Z ?_;refine Jk rfl ⟨rfl,Tt⟩ (AVle.of_eq ?_)
  (try simp only [Jb8, Jb9, JcR, JcS, JcA, JcB] at *)
  first
   | (rw [JAD Om];first | (rw [if_pos Om];rfl) | (rw [if_neg Om];rfl))
   | (exfalso;omega)
   | (rw [Jma Om,if_neg Om];rfl)
   | (rw [Jma Om,if_pos Om,if_pos Om];rfl)
   | (rw [Jma Om,if_pos Om,if_neg Om];refine Eq.trans ?_ (congrArg (fun z:Int=> AV.tup [.ag [int arg,int op, .v (.int .u64 z), .v (.int .u64 value)],int 0]) hb);rfl)
theorem Jly (a:A2) (h:Ja7 a.1 a.2=true):Tells Tryz.prog 20 [Jn4 a] (u32 (JX a:Nat)):=by
 refine Jc Tryz.func20 rfl rfl fun nx=> ?_
 refine Z ?_
 refine Ja rfl rfl (JuI a h) Y1 fun nx2=> ?_
 refine Z ?_
 exact Jb rfl Rf
def JEO:Option PRul→AV
 | none=> .tup [Jer JI,Ji false]
 | some q=> .tup [Jer q,Ji true]
theorem Jf6 {α:Type} {e:α→AV} {d:α} {sz:Nat} {l:List α} {x:α} {f':Nat→AV} {i j:Vl.Id} (hf:f' 0=e x) (h:i.2=j.2):AVle (.os sz (l.length+1) (JcO l.length (fun k=> e (l.getD k d)) f') (some i)) (.os sz (l++ [x]).length (fun k=> e ((l++ [x]).getD k d)) (some j)):=by
 rw [List.length_append]
 refine (AVle.os_fun (Jbw (fun k hk=> ?_) ?_)).trans (AVle.os_nm h)
 ·rw [show (l++ [x]).getD k d=l.getD k d by simp [List.getD,List.getElem?_append_left hk]]
 ·rw [hf,show (l++ [x]).getD l.length d=x by simp [List.getD]]
theorem Jwk {cs:List Cnd} {i:Nat} (hi:i < cs.length):(cs.take (i+1)).filterMap Jhy=(cs.take i).filterMap Jhy++(Jhy (cs.getD i cnd0)).toList:=by
 rw [JaP cnd0 hi,List.filterMap_append]
 congr 1
theorem Jwl {cs:List Cnd} (h:∀j,j < cs.length→JdQ (cs.getD j cnd0)=false):cs.any JdQ=false:=by
 rw [Bool.eq_false_iff]
 intro ha
 obtain ⟨c,hc,hb⟩:=List.any_eq_true.1 ha
 obtain ⟨j,hj,rfl⟩:=List.getElem_of_mem hc
 have:=h j hj
 rw [show cs.getD j cnd0=cs[j] by simp [List.getD,hj]] at this
 rw [this] at hb;cases hb
theorem JAE {cs:List Cnd} {i:Nat} (hi:i < cs.length) (h:JdQ (cs.getD i cnd0)=true):cs.any JdQ=true:=by
 refine List.any_eq_true.2 ⟨cs.getD i cnd0, ?_,h⟩
 simp [List.getD,hi]
theorem Jsc {oi:Option Vl.Id} {n:Nat}:JqV oi n (Jam oi n):=by
 have:=Jts (oi:=oi) (n:=n) (pm:= [])
 rwa [List.append_nil] at this
def Jwm (l:List Cnd):Nat→AV:=fun k=> JZ (l.getD k cnd0)
theorem Joh (r:PRul) (hok:∀c∈r.conds,c.ok) (hl:r.conds.length≤1000000):Tells Tryz.prog 67 [Jer r] (JEO (Je6 r)):=by
 obtain ⟨cs,k⟩:=r
 dsimp only at hok hl
 refine Jc Tryz.func67 rfl rfl fun nx=> ?_
 refine Z ?_
 refine Js (fun y:Nat×List Cnd×Option Nat×Nat=> mk 38 [(1, .bp (0,nx) 0),(2, .bp (1,nx+1) 0),(3,Ji false),(4, .bp (2,nx+2) 0),(13,Jaz cs),(14,int cs.length),(15,int y.1)] ⟨[((2,nx+2), .c [.os 4 y.2.1.length (Jwm y.2.1) (nmd y.2.2.1),u32 (k:Nat)]),((1,nx+1), .c [.os 0 0 (fun _=> .any) none,u32 0]),((0,nx), .c [Jaz cs,u32 (k:Nat)])],Jam (nmd y.2.2.1) (y.2.1.length * 4),y.2.2.2,3⟩)
  (fun y=> y.1≤cs.length∧y.2.1=(cs.take y.1).filterMap Jhy∧(y.2.2.1=none→y.2.1= [])∧∀j,j < y.1→JdQ (cs.getD j cnd0)=false) (fun y=> cs.length - y.1) ?_ ?_
 ·exact ⟨(0, [],none,nx+3),⟨Nat.zero_le _,rfl,fun _=> rfl,fun j h=> absurd h (Nat.not_lt_zero _)⟩,Je (pm:= []) _ [] rfl rfl Sf Sf ⟨rfl,⟨AVle.os_nil,Y1⟩,Bf⟩ Tt Y7⟩
 ·rintro ⟨i,L,oi,nx1⟩ ⟨h1,hL,h2,h3⟩;dsimp only at h1 hL h2 h3;have hal:L.length≤i:=by rw [hL];exact Nat.le_trans (List.length_filterMap_le _ _) (by simp;omega)
  refine Z ?_;intro c g;cases c
  ·have g:=Jw g;try dsimp only at g
   have hi:i=cs.length:=by omega
   subst hi;rw [List.take_length] at hL;have hR:Je6 ⟨cs,k⟩=some ⟨L,k⟩:=by
    unfold Je6;dsimp only;rw [Jwl h3,hL];rfl
   rw [hR];refine Z ?_;exact Jk rfl ⟨rfl,Tt⟩ (AVle.tups (cs:= [_,_]) ⟨AVle.ags (cs:= [_,_]) ⟨AVle.os_sl,Y1⟩,Y1⟩)
  ·have g:=Ju g;try dsimp only at g
   have hi:i < cs.length:=by omega
   have hn:=Jqc (cs.getD i cnd0) (JrV hok hi);have hnx:=Jwk hi;have hst:=Jm6 (cs.getD i cnd0);refine Z ?_;refine ⟨Bd, ?_⟩;refine Z ?_;refine Ja rfl rfl hn Y1 fun nx2=> ?_;refine Z ?_;intro c t2;cases c
   ·have ht2:(Jbd (cs.getD i cnd0)).2≠2:=fun e=> by rw [e] at t2;cases t2
    have hnev:JdQ (cs.getD i cnd0)=false:=decide_eq_false ht2;have hlast:∀j,j < i+1→JdQ (cs.getD j cnd0)=false:=fun j hj=> by
     rcases Nat.lt_or_ge j i with h | h
     ·exact h3 j h
     ·obtain rfl:j=i:=(by omega);exact hnev
    refine Z ?_;intro c t0;cases c
    ·have ht0:(Jbd (cs.getD i cnd0)).2≠0:=fun e=> by rw [e] at t0;cases t0
     rw [show Jhy (cs.getD i cnd0)=none from if_neg ht0] at hnx;refine Z ?_;exact back (i+1,L,oi,nx2+1) ⟨hi,by dsimp only;rw [hnx,← hL];exact (List.append_nil _).symm,h2,hlast⟩ Dm (Je _ _ rfl rfl (.cons _ (.cons _ Sf)) Sf Bf Pf ⟨Rf,Rf,Rf,Rf,Rf,Rf,Lw,Tt⟩)
    ·have ht0:(Jbd (cs.getD i cnd0)).2=0:=by
      have:=of_decide_eq_true (p:=((Jbd (cs.getD i cnd0)).2:Int)=0) t0.symm;omega
     rw [show Jhy (cs.getD i cnd0)=some (Jbd (cs.getD i cnd0)).1 from if_pos ht0] at hnx;refine Z ?_;refine ⟨Jsc,JM rfl,by show (L.length+1) * 32≤_;omega,by show L.length+1≤_;omega, ?_⟩;refine Z ?_;exact back (i+1,L++ [(Jbd (cs.getD i cnd0)).1],some (nx2+1),nx2+2) ⟨hi,by dsimp only;rw [hnx,← hL];rfl,(fun h=> by cases h),hlast⟩ Dm (Je (bx:= [((2,nx+2), .c [.os 4 (L++ [(Jbd (cs.getD i cnd0)).1]).length (Jwm (L++ [(Jbd (cs.getD i cnd0)).1])) (some (0,nx2+1)),u32 (k:Nat)]),((1,nx+1), .c [.os 0 0 (fun _=> .any) none,u32 0]),((0,nx), .c [Jaz cs,u32 (k:Nat)])]) _ [((5,nx2+1),(L.length+1) * 4)] rfl rfl (.cons _ (.cons _ Sf)) (.cons_cons _ (List.nil_sublist _)) ⟨rfl,⟨Jf6 (e:=JZ) rfl rfl,Y1⟩,Bf⟩ ⟨rfl,by rw [List.length_append];rfl,Tt⟩ ⟨Rf,Rf,Rf,Rf,Rf,Rf,Lw,Tt⟩)
   ·have ht2:(Jbd (cs.getD i cnd0)).2=2:=by
     have:=of_decide_eq_true (p:=((Jbd (cs.getD i cnd0)).2:Int)=2) t2.symm;omega
    have hR:Je6 ⟨cs,k⟩=none:=if_pos (JAE hi (decide_eq_true ht2));rw [hR];refine Z ?_;exact Jk rfl ⟨rfl,Tt⟩ (AVle.tups (cs:= [_,_]) ⟨AVle.ags (cs:= [_,_]) ⟨AVle.os_sl0,Y1⟩,Y1⟩)
def Jeb (l:List TRow) (r:Rul):Bool:=decide ((Jay l r.name).mux > 0)&& decide (0 < r.conds.length)
theorem Jys (l:List TRow) (r:Rul) (hl:l.length≤1000000) (hs:Jje l r.name):Tells Tryz.prog 60 (JaS r:: [.rp [JS l]]) (Ji (Jeb l r)):=by
 have hw:=JxG l r.name hl hs
 unfold Jeb
 generalize decide ((Jay l r.name).mux > 0)=b at hw⊢
 generalize (Jbq l r.name&& decide ((Jay l r.name).a2≥0))=b2 at hw
 refine Jc Tryz.func60 rfl rfl fun nx=> ?_
 refine Z ?_
 refine Ja rfl rfl hw Y2 fun nx2=> ?_
 refine Z ?_
 intro c1 hc1
 subst hc1
 refine Z ?_
 intro c e1;cases c
 ·have hb:b=false:=e1.symm;subst hb;refine Z ?_;exact Jb rfl Rf
 ·have hb:b=true:=e1.symm;subst hb;refine Z ?_;intro c2 hc2;have e2:decide (0 < r.conds.length)=c2:=by
   rw [hc2];by_cases h0:0 < r.conds.length
   ·rw [decide_eq_true h0];exact (decide_eq_true Om).symm
   ·rw [decide_eq_false h0];exact (decide_eq_false Om).symm
  rw [e2];clear hc2 e2;cases c2 <;> (refine Z ?_;exact Jb rfl Rf)
theorem Jyt (x:List AV) (l:List Rul) (p:Rul→Bool) (f:Nat) (hl:l.length≤1000000000) (hp:∀i,i < l.length→Tells Tryz.prog f (JaS (l.getD i Jn):: [.rp x]) (Ji (p (l.getD i Jn)))):
 Tells Tryz.prog 59 [JK 4 JaS Jn l,(.fn (.func f) [] [.rp x])] (int (Jfo (l.findIdx? p))):=by
 refine Jc Tryz.func59 rfl rfl fun nx=> ?_
 refine Z ?_
 refine Js (fun s:Nat×Nat=> mk 19 [(0,JK 4 JaS Jn l),(1,(.fn (.func f) [] [.rp x])),(7,int l.length),(8,int s.1)] ⟨[], [],s.2,0⟩) (fun s=> s.1≤l.length∧∀j,j < s.1→p (l.getD j Jn)=false) (fun s=> l.length - s.1) ?_ ?_
 ·exact ⟨(0,nx),⟨by simp,by intro j hj;simp at hj⟩,JaM rfl rfl Y4⟩
 ·rintro ⟨i,nx⟩ ⟨h1,h2⟩;dsimp only at h1 h2;refine Z ?_;intro c h3;cases c
  ·have h3:=Jw h3;dsimp only at h3;refine Z ?_;refine Jb rfl (Jf ?_);rw [Jfn Jn (fun j hj=> h2 j Om)];rfl
  ·have h3:=Ju h3;dsimp only at h3;have hi:i < l.length:=by omega
   refine Z ?_;refine ⟨⟨Dm,Dm⟩, ?_⟩;refine Z ?_;refine Ja rfl rfl (hp i hi) Y2 fun nx'=> ?_;intro c h4;cases c
   ·refine Z ?_;refine back (i+1,nx') ⟨Dm,fun j hj=> ?_⟩ Dm (JaM rfl rfl ⟨Rf,Rf,Rf,Jf (Jx Dm),Tt⟩);dsimp only at hj;rcases Nat.lt_or_ge j i with h | h
    ·exact h2 j h
    ·obtain rfl:j=i:=(by omega);exact h4.symm
   ·refine Z ?_;refine Jb rfl (Jf ?_);rw [Jhu Jn hi h2 h4.symm];rfl
theorem JCv {α:Type} {l:List α} {p:α→Bool} {i:Nat} (h:l.findIdx? p=some i):i < l.length:=(List.findIdx?_eq_some_iff_getElem.1 h).1
def JAF (p:Pol) (l:List TRow):AV:=match p.rules.findIdx? (Jeb l) with
 | none=> .tup [int 0,Ji true]
 | some i=> .tup [int i,Ji false]
theorem Joi (p:Pol) (l:List TRow) (hp:p.rules.length≤1000000) (hl:l.length≤1000000) (hs:Joa l):Tells Tryz.prog 18 [JcT p,JS l] (JAF p l):=by
 have hx:=Jyt [JS l] p.rules (Jeb l) 60 Om fun i _=> Jys l _ hl (Jgl hs _)
 unfold JAF
 cases hi:p.rules.findIdx? (Jeb l) with
 | none=>
   rw [hi] at hx;refine Jc Tryz.func18 rfl rfl fun nx=> ?_
   (refine Jy ?_;refine JQ ?_;refine Jy ?_)
   refine Jbl (n:=15) (nx:=nx+2) (nn:=2) (pm:= []) (bx:= []) (L:= [(2, .rp [int p.dflt.1,int p.dflt.2,Ji p.x32,Jak p.rules]),(3, .rp [JS l]),(4,int 0),(5,Ji false)]) (df:=some []) [((1,nx+1), .c [JS l]),((0,nx), .c [int p.dflt.1,int p.dflt.2,Ji p.x32,Jak p.rules])] rfl rfl rfl (List.Perm.refl _) Sf ⟨Frz.bp (.tail _ (.head _)) rfl,Frz.bp (.head _) rfl,Frz.refl _,Frz.refl _,Tt⟩ ?_;refine Z ?_;refine Ja rfl rfl hx Y2 fun nx2=> ?_;refine Z ?_;exact Jk rfl Tt (AVle.of_eq rfl)
 | some i=>
   have hlt:=JCv hi;rw [hi] at hx;refine Jc Tryz.func18 rfl rfl fun nx=> ?_
   (refine Jy ?_;refine JQ ?_;refine Jy ?_)
   refine Jbl (n:=15) (nx:=nx+2) (nn:=2) (pm:= []) (bx:= []) (L:= [(2, .rp [int p.dflt.1,int p.dflt.2,Ji p.x32,Jak p.rules]),(3, .rp [JS l]),(4,int 0),(5,Ji false)]) (df:=some []) [((1,nx+1), .c [JS l]),((0,nx), .c [int p.dflt.1,int p.dflt.2,Ji p.x32,Jak p.rules])] rfl rfl rfl (List.Perm.refl _) Sf ⟨Frz.bp (.tail _ (.head _)) rfl,Frz.bp (.head _) rfl,Frz.refl _,Frz.refl _,Tt⟩ ?_;refine Z ?_;refine Ja rfl rfl hx Y2 fun nx2=> ?_;refine Z ?_;exact Jk rfl Tt (AVle.tups (cs:= [_,_]) ⟨Jf (if_neg (show ¬(0:Int) > (i:Int) by omega)),Y1⟩)
theorem JDI {l:List TRow} (h:JlU l=true):l.length≤40∧∀r∈l,r.name.size≤60:=by
 unfold JlU at h
 simp only [Bool.and_eq_true,decide_eq_true_eq,Bool.not_eq_true',List.any_eq_false] at h
 exact ⟨h.1,fun r hr=> by have:=h.2 r hr;omega⟩
theorem Jqd (c:Cnd) (a:Nat) (hr:JR c=true) (ho:c.ok) (ha:a < 18446744073709551616):Tells Tryz.prog 95 [JZ c,u64 a] (Ji (JaD c a)):=by
 obtain ⟨_,_,h1,h7,_⟩:=Jag.1 hr
 obtain ⟨arg,op,mask,value⟩:=c
 dsimp only at h1 h7
 have ho1:mask < 18446744073709551616:=ho.1
 unfold JaD
 dsimp only
 rcases (by omega:op=1∨op=2∨op=3∨op=4∨op=5∨op=6∨op=7) with rfl | rfl | rfl | rfl | rfl | rfl | rfl
 all_goals
  refine Jc Tryz.func95 rfl rfl fun nx=> ?_;refine Z ?_;intro c h;cases c
 all_goals
  try rw [Jux ha ho1] at h
  refine Z ?_;refine Jb rfl (JN ?_)
  (try simp only [Jb8, Jb9, JcR, JcS, JcA, JcB] at *)
  first | omega | (simp;omega)
def Jh7 (a:Int) (x:Nat):Nat:=if a=2 then x % 4294967296 else x
def hR (a:Int) (x:Nat→Nat) (c:Cnd):Bool:=JaD c (Jh7 a (x c.arg.toNat))
def Jf7 (p:Pol) (nm:ByteArray) (a:Int) (x:Nat→Nat):A2:=match p.rules.find? (fun r=> kS r.name nm&& r.conds.all (hR a x)) with
 | some r=> r.act
 | none=> p.dflt
def JdT (k n:Int) (x32:Bool) (rs:List Rul):List AV:= [int k,int n,Ji x32,Jak rs]
def JgK (x:Nat→Nat):List AV:= [u64 (x 0),u64 (x 1),u64 (x 2),u64 (x 3),u64 (x 4),u64 (x 5)]
theorem Jyu {p:Cnd→Bool} {L:List Cnd} {i:Nat} (h:i < L.length):(L.take (i+1)).all p=((L.take i).all p&& p (L.getD i cnd0)):=by
 rw [JaP cnd0 h,List.all_append];simp
theorem JCw {a:Int} {x:Nat} (h:x < 18446744073709551616):Jh7 a x < 18446744073709551616:=by unfold Jh7;split <;> omega
theorem Jyv {p:Cnd→Bool} {L:List Cnd} {i:Nat} (h:(L.take i).all p=false):L.all p=false:=by
 rw [List.all_eq_false] at h⊢
 obtain ⟨c,hc,h⟩:=h
 exact ⟨c,List.mem_of_mem_take hc,h⟩
theorem Joj (p:Pol) (nm:ByteArray) (a:Int) (x:Nat→Nat) (hx:∀i,x i < 18446744073709551616) (hp:Jv5 p) (hrt:∀r∈p.rules,∀c∈r.conds,JR c=true):Tells Tryz.prog 50 [JcT p,JA nm,int a,JEL x] (Jn4 (Jf7 p nm a x)):=by
 obtain ⟨⟨k,n⟩,x32,rs⟩:=p
 obtain ⟨hl,hc⟩:=hp
 dsimp only at hl hc hrt
 refine Jc Tryz.func50 rfl rfl fun nx=> ?_
 refine Z ?_
 refine Js (fun y:Nat×Nat=> mk 60 [(1,JA nm),(2,int a),(4, .bp (0,nx) 0),(7, .bp (1,nx+1) 0),(8, .bp (2,nx+2) 0),(9,int y.1)] ⟨[((2,nx+2), .c [int 0,int 0]),((1,nx+1), .c (JgK x)),((0,nx), .c (JdT k n x32 rs))], [],y.2,3⟩) (fun y=> y.1≤rs.length∧∀j,j < y.1→(kS (rs.getD j Jn).name nm&& (rs.getD j Jn).conds.all (hR a x))=false) (fun y=> rs.length - y.1) ?_ ?_
 ·exact ⟨(0,nx+3),⟨Nat.zero_le _,fun j h=> absurd h (Nat.not_lt_zero _)⟩,Et (pm:= []) (bx:= [((2,nx+2), .c [int 0,int 0]),((1,nx+1), .c (JgK x)),((0,nx), .c (JdT k n x32 rs))]) rfl rfl Bf Tt Y6⟩
 ·rintro ⟨i,nx1⟩ ⟨h1,h2⟩;dsimp only at h1 h2;refine Z ?_;intro c g1;cases c
  ·have g1:=Jw g1;try dsimp only at g1
   have hi:i=rs.length:=by omega
   subst hi;have hd:Jf7 ⟨(k,n),x32,rs⟩ nm a x=(k,n):=by
    unfold Jf7;rw [List.find?_eq_none.2 fun r hr=> ?_];obtain ⟨j,hj,rfl⟩:=List.mem_iff_getElem.1 hr;have:=h2 j hj;rw [show rs.getD j Jn=rs[j] by simp [List.getD,hj]] at this;rw [this];decide
   refine Z ?_;exact Jk rfl ⟨rfl,Tt⟩ (AVle.of_eq (by rw [hd];rfl))
  ·have g1:=Ju g1;try dsimp only at g1
   have hi:i < rs.length:=by omega
   have hmem:rs.getD i Jn∈rs:=by simp [List.getD,hi]
   have hcr:=hc _ hmem;have hrr:=hrt _ hmem;generalize hr:rs.getD i Jn=r at hcr hrr;refine Z ?_;refine ⟨Bd,Jj (b:= .rp [JA r.name,int r.act.1,int r.act.2,Jaz r.conds]) (by rw [← hr];rfl) ?_⟩;refine Z ?_;intro c hc0;have hc2:c=kS r.name nm:=hc0;clear hc0;refine Z ?_;refine Js (fun y:Nat×Bool×Nat=> mk 60 [(1,JA nm),(2,int a),(4, .bp (0,nx) 0),(7, .bp (1,nx+1) 0),(8, .bp (2,nx+2) 0),(9,int i),(10, .bp (3,nx1) 0),(11,Ji y.2.1),(12,int y.1)] ⟨[((3,nx1), .c [JA r.name,int r.act.1,int r.act.2,Jaz r.conds]),((2,nx+2), .c [int 0,int 0]),((1,nx+1), .c (JgK x)),((0,nx), .c (JdT k n x32 rs))], [],y.2.2,4⟩) (fun y=> y.1≤r.conds.length∧y.2.1=(c&& (r.conds.take y.1).all (hR a x))) (fun y=> r.conds.length - y.1) ?_ ?_
   ·exact ⟨(0,c,nx1+1),⟨Nat.zero_le _,by simp⟩,Et (pm:= []) (bx:= [((3,nx1), .c [JA r.name,int r.act.1,int r.act.2,Jaz r.conds]),((2,nx+2), .c [int 0,int 0]),((1,nx+1), .c (JgK x)),((0,nx), .c (JdT k n x32 rs))]) rfl rfl Bf Tt Y9⟩
   ·rintro ⟨j,v,nx2⟩ ⟨k1,k2⟩;dsimp only at k1 k2;cases v with
    | false=>
      have hno:(kS r.name nm&& r.conds.all (hR a x))=false:=by
       rw [← hc2];cases c with
       | false=> rfl
       | true=> rw [Bool.true_and] at k2⊢;exact Jyv k2.symm
      refine Z ?_;intro c g2;cases c
      ·refine Z ?_;exact back (i+1,nx2) ⟨hi,fun j hj=> by dsimp only at hj;rcases Nat.lt_or_ge j i with q | q;exact h2 j q;rw [show j=i by omega,hr];exact hno⟩ Dm (Je (pm:= []) (bx:= [((2,nx+2), .c [int 0,int 0]),((1,nx+1), .c (JgK x)),((0,nx), .c (JdT k n x32 rs))]) _ _ rfl rfl (.cons _ Sf) Sf Bf Tt ⟨Rf,Rf,Rf,Rf,Rf,Lw,Tt⟩)
      ·refine Z ?_;exact back (i+1,nx2) ⟨hi,fun j hj=> by dsimp only at hj;rcases Nat.lt_or_ge j i with q | q;exact h2 j q;rw [show j=i by omega,hr];exact hno⟩ Dm (Je (pm:= []) (bx:= [((2,nx+2), .c [int 0,int 0]),((1,nx+1), .c (JgK x)),((0,nx), .c (JdT k n x32 rs))]) _ _ rfl rfl (.cons _ Sf) Sf Bf Tt ⟨Rf,Rf,Rf,Rf,Rf,Lw,Tt⟩)
    | true=>
      refine Z ?_;intro c g2;cases c
      ·have g2:=Jw g2;try dsimp only at g2
       have hj:j=r.conds.length:=(by omega);have hd:Jf7 ⟨(k,n),x32,rs⟩ nm a x=r.act:=by
        rw [hj,List.take_length,hc2] at k2;unfold Jf7;rw [Jm0 hi h2 (by rw [hr];exact k2.symm),hr]
       refine Z ?_;exact Jk rfl ⟨rfl,Tt⟩ (AVle.of_eq (by rw [hd];rfl))
      ·have g2:=Ju g2;try dsimp only at g2
       have hj:j < r.conds.length:=(by omega);have hmc:r.conds.getD j cnd0∈r.conds:=(by simp [List.getD,hj]);have hok:=hcr.2 _ hmc;have hri:=hrr _ hmc;have hnext:=Jyu (p:=hR a x) hj;generalize hcd:r.conds.getD j cnd0=cd at hok hri hnext;obtain ⟨q1,q2,_⟩:=Jag.1 hri;have hh:=Jqd cd (Jh7 a (x cd.arg.toNat)) hri hok (JCw (hx _));have ha8:=Jp7 a (x cd.arg.toNat) (hx _);have hvn:(c&& (r.conds.take (j+1)).all (hR a x))=hR a x cd:=(by rw [hnext,← Bool.and_assoc,← k2];rfl);unfold hR at hvn;generalize JaD cd (Jh7 a (x cd.arg.toNat))=hv at hh hvn;obtain ⟨arg,op,mask,value⟩:=cd;dsimp only at q1 q2 hh ha8;refine Z ?_;obtain rfl | rfl | rfl | rfl | rfl | rfl:arg=0∨arg=1∨arg=2∨arg=3∨arg=4∨arg=5:=by omega
       ·refine Jav 16 _ (fun _=> false) (Ef [14,15]) [0,1,2,3,4,5,6,7,8,9,10,11,12,13,14,15] Kr Kr (HB.refl _) ?_;refine Z ?_;refine ⟨Bd,JbT (b:= .rp [int 0,int op,u64 (mask:Nat),u64 (value:Nat)]) (congrArg (fun c:Cnd=> AV.rp (JZ c).cells) hcd) ?_⟩;refine Z ?_;refine ⟨Bd,JbT (b:= .rp [int 0,int op,u64 (mask:Nat),u64 (value:Nat)]) (congrArg (fun c:Cnd=> AV.rp (JZ c).cells) hcd) ?_⟩;refine Z ?_;refine ⟨_,J2 rfl rfl rfl ha8 Y2 (NoId.v _), ?_⟩;refine Z ?_;refine ⟨_,J2 rfl rfl rfl hh Y2 (NoId.v _), ?_⟩;refine Z ?_;exact back (j+1,hv,nx2) ⟨hj,hvn.symm⟩ Dm (Et (pm:= []) (bx:= [((3,nx1), .c [JA r.name,int r.act.1,int r.act.2,Jaz r.conds]),((2,nx+2), .c [int 0,int 0]),((1,nx+1), .c (JgK x)),((0,nx), .c (JdT k n x32 rs))]) rfl rfl Bf Tt ⟨Rf,Rf,Rf,Rf,Rf,Rf,Rf,Rf,Lw,Tt⟩)
       ·refine Jav 16 _ (fun _=> false) (Ef [14,15]) [0,1,2,3,4,5,6,7,8,9,10,11,12,13,14,15] Kr Kr (HB.refl _) ?_;refine Z ?_;refine ⟨Bd,JbT (b:= .rp [int 1,int op,u64 (mask:Nat),u64 (value:Nat)]) (congrArg (fun c:Cnd=> AV.rp (JZ c).cells) hcd) ?_⟩;refine Z ?_;refine ⟨Bd,JbT (b:= .rp [int 1,int op,u64 (mask:Nat),u64 (value:Nat)]) (congrArg (fun c:Cnd=> AV.rp (JZ c).cells) hcd) ?_⟩;refine Z ?_;refine ⟨_,J2 rfl rfl rfl ha8 Y2 (NoId.v _), ?_⟩;refine Z ?_;refine ⟨_,J2 rfl rfl rfl hh Y2 (NoId.v _), ?_⟩;refine Z ?_;exact back (j+1,hv,nx2) ⟨hj,hvn.symm⟩ Dm (Et (pm:= []) (bx:= [((3,nx1), .c [JA r.name,int r.act.1,int r.act.2,Jaz r.conds]),((2,nx+2), .c [int 0,int 0]),((1,nx+1), .c (JgK x)),((0,nx), .c (JdT k n x32 rs))]) rfl rfl Bf Tt ⟨Rf,Rf,Rf,Rf,Rf,Rf,Rf,Rf,Lw,Tt⟩)
       ·refine Jav 16 _ (fun _=> false) (Ef [14,15]) [0,1,2,3,4,5,6,7,8,9,10,11,12,13,14,15] Kr Kr (HB.refl _) ?_;refine Z ?_;refine ⟨Bd,JbT (b:= .rp [int 2,int op,u64 (mask:Nat),u64 (value:Nat)]) (congrArg (fun c:Cnd=> AV.rp (JZ c).cells) hcd) ?_⟩;refine Z ?_;refine ⟨Bd,JbT (b:= .rp [int 2,int op,u64 (mask:Nat),u64 (value:Nat)]) (congrArg (fun c:Cnd=> AV.rp (JZ c).cells) hcd) ?_⟩;refine Z ?_;refine ⟨_,J2 rfl rfl rfl ha8 Y2 (NoId.v _), ?_⟩;refine Z ?_;refine ⟨_,J2 rfl rfl rfl hh Y2 (NoId.v _), ?_⟩;refine Z ?_;exact back (j+1,hv,nx2) ⟨hj,hvn.symm⟩ Dm (Et (pm:= []) (bx:= [((3,nx1), .c [JA r.name,int r.act.1,int r.act.2,Jaz r.conds]),((2,nx+2), .c [int 0,int 0]),((1,nx+1), .c (JgK x)),((0,nx), .c (JdT k n x32 rs))]) rfl rfl Bf Tt ⟨Rf,Rf,Rf,Rf,Rf,Rf,Rf,Rf,Lw,Tt⟩)
       ·refine Jav 16 _ (fun _=> false) (Ef [14,15]) [0,1,2,3,4,5,6,7,8,9,10,11,12,13,14,15] Kr Kr (HB.refl _) ?_;refine Z ?_;refine ⟨Bd,JbT (b:= .rp [int 3,int op,u64 (mask:Nat),u64 (value:Nat)]) (congrArg (fun c:Cnd=> AV.rp (JZ c).cells) hcd) ?_⟩;refine Z ?_;refine ⟨Bd,JbT (b:= .rp [int 3,int op,u64 (mask:Nat),u64 (value:Nat)]) (congrArg (fun c:Cnd=> AV.rp (JZ c).cells) hcd) ?_⟩;refine Z ?_;refine ⟨_,J2 rfl rfl rfl ha8 Y2 (NoId.v _), ?_⟩;refine Z ?_;refine ⟨_,J2 rfl rfl rfl hh Y2 (NoId.v _), ?_⟩;refine Z ?_;exact back (j+1,hv,nx2) ⟨hj,hvn.symm⟩ Dm (Et (pm:= []) (bx:= [((3,nx1), .c [JA r.name,int r.act.1,int r.act.2,Jaz r.conds]),((2,nx+2), .c [int 0,int 0]),((1,nx+1), .c (JgK x)),((0,nx), .c (JdT k n x32 rs))]) rfl rfl Bf Tt ⟨Rf,Rf,Rf,Rf,Rf,Rf,Rf,Rf,Lw,Tt⟩)
       ·refine Jav 16 _ (fun _=> false) (Ef [14,15]) [0,1,2,3,4,5,6,7,8,9,10,11,12,13,14,15] Kr Kr (HB.refl _) ?_;refine Z ?_;refine ⟨Bd,JbT (b:= .rp [int 4,int op,u64 (mask:Nat),u64 (value:Nat)]) (congrArg (fun c:Cnd=> AV.rp (JZ c).cells) hcd) ?_⟩;refine Z ?_;refine ⟨Bd,JbT (b:= .rp [int 4,int op,u64 (mask:Nat),u64 (value:Nat)]) (congrArg (fun c:Cnd=> AV.rp (JZ c).cells) hcd) ?_⟩;refine Z ?_;refine ⟨_,J2 rfl rfl rfl ha8 Y2 (NoId.v _), ?_⟩;refine Z ?_;refine ⟨_,J2 rfl rfl rfl hh Y2 (NoId.v _), ?_⟩;refine Z ?_;exact back (j+1,hv,nx2) ⟨hj,hvn.symm⟩ Dm (Et (pm:= []) (bx:= [((3,nx1), .c [JA r.name,int r.act.1,int r.act.2,Jaz r.conds]),((2,nx+2), .c [int 0,int 0]),((1,nx+1), .c (JgK x)),((0,nx), .c (JdT k n x32 rs))]) rfl rfl Bf Tt ⟨Rf,Rf,Rf,Rf,Rf,Rf,Rf,Rf,Lw,Tt⟩)
       ·refine Jav 16 _ (fun _=> false) (Ef [14,15]) [0,1,2,3,4,5,6,7,8,9,10,11,12,13,14,15] Kr Kr (HB.refl _) ?_;refine Z ?_;refine ⟨Bd,JbT (b:= .rp [int 5,int op,u64 (mask:Nat),u64 (value:Nat)]) (congrArg (fun c:Cnd=> AV.rp (JZ c).cells) hcd) ?_⟩;refine Z ?_;refine ⟨Bd,JbT (b:= .rp [int 5,int op,u64 (mask:Nat),u64 (value:Nat)]) (congrArg (fun c:Cnd=> AV.rp (JZ c).cells) hcd) ?_⟩;refine Z ?_;refine ⟨_,J2 rfl rfl rfl ha8 Y2 (NoId.v _), ?_⟩;refine Z ?_;refine ⟨_,J2 rfl rfl rfl hh Y2 (NoId.v _), ?_⟩;refine Z ?_;exact back (j+1,hv,nx2) ⟨hj,hvn.symm⟩ Dm (Et (pm:= []) (bx:= [((3,nx1), .c [JA r.name,int r.act.1,int r.act.2,Jaz r.conds]),((2,nx+2), .c [int 0,int 0]),((1,nx+1), .c (JgK x)),((0,nx), .c (JdT k n x32 rs))]) rfl rfl Bf Tt ⟨Rf,Rf,Rf,Rf,Rf,Rf,Rf,Rf,Lw,Tt⟩)
theorem Jqe (p:Pol) (nm:ByteArray) (hl:p.rules.length≤1000000):Tells Tryz.prog 49 [JcT p,JA nm] (Jn4 (JbL p nm)):=by
 obtain ⟨⟨k,n⟩,x32,rs⟩:=p
 dsimp only at hl
 refine Jc Tryz.func49 rfl rfl fun nx=> ?_
 refine Z ?_
 refine Js (fun y:Nat×Nat=> mk 49 [(1,JA nm),(2, .bp (0,nx) 0),(4, .bp (1,nx+1) 0),(5,int y.1)] ⟨[((1,nx+1), .c [int 0,int 0]),((0,nx), .c (JdT k n x32 rs))], [],y.2,2⟩) (fun y=> y.1≤rs.length∧∀j,j < y.1→kS (rs.getD j Jn).name nm=false) (fun y=> rs.length - y.1) ?_ ?_
 ·exact ⟨(0,nx+2),⟨Nat.zero_le _,fun j h=> absurd h (Nat.not_lt_zero _)⟩,Et (pm:= []) (bx:= [((1,nx+1), .c [int 0,int 0]),((0,nx), .c (JdT k n x32 rs))]) rfl rfl Bf Tt Y4⟩
 ·rintro ⟨i,nx1⟩ ⟨h1,h2⟩;dsimp only at h1 h2;refine Z ?_;intro c g1;cases c
  ·have g1:=Jw g1;try dsimp only at g1
   have hi:i=rs.length:=by omega
   subst hi;have hd:JbL ⟨(k,n),x32,rs⟩ nm=(k,n):=by
    unfold JbL;rw [List.find?_eq_none.2 fun r hr=> ?_];obtain ⟨j,hj,rfl⟩:=List.mem_iff_getElem.1 hr;have:=h2 j hj;rw [show rs.getD j Jn=rs[j] by simp [List.getD,hj]] at this;rw [this];decide
   refine Z ?_;exact Jk rfl ⟨rfl,Tt⟩ (AVle.of_eq (by rw [hd];rfl))
  ·have g1:=Ju g1;try dsimp only at g1
   have hi:i < rs.length:=by omega
   generalize hr:rs.getD i Jn=r;have hcell:AV.rp (JaS (rs.getD i Jn)).cells= .rp [JA r.name,int r.act.1,int r.act.2,Jaz r.conds]:=by rw [hr];rfl
   refine Z ?_;refine ⟨Bd,Jj (b:= .rp [JA r.name,int r.act.1,int r.act.2,Jaz r.conds]) hcell ?_⟩;refine Z ?_;intro c hc;have hc2:c=kS r.name nm:=hc;cases c
   ·refine Z ?_;refine ⟨Bd,Jj (b:= .rp [JA r.name,int r.act.1,int r.act.2,Jaz r.conds]) hcell ?_⟩;refine Z ?_;intro c hc3;obtain rfl:c=false:=hc3.trans hc2.symm;refine Z ?_;exact back (i+1,nx1) ⟨hi,fun j hj=> by dsimp only at hj;rcases Nat.lt_or_ge j i with q | q;exact h2 j q;rw [show j=i by omega,hr];exact hc2.symm⟩ Dm (Et (pm:= []) (bx:= [((1,nx+1), .c [int 0,int 0]),((0,nx), .c (JdT k n x32 rs))]) rfl rfl Bf Tt ⟨Rf,Rf,Rf,Lw,Tt⟩)
   ·have hfnd:rs.find? (fun r=> kS r.name nm)=some r:=by
     have:=Jm0 (q:=fun r=> kS r.name nm) hi h2 (by rw [hr];exact hc2.symm);rw [hr] at this;exact this
    refine Z ?_;refine ⟨Bd,Jj (b:= .rp [JA r.name,int r.act.1,int r.act.2,Jaz r.conds]) hcell ?_⟩;refine Z ?_;intro c hc3;have hc4:c=decide (r.conds.length=0):=hc3.trans (by rw [Bool.eq_iff_iff];simp);cases c
    ·have hd:JbL ⟨(k,n),x32,rs⟩ nm=(k,n):=(by unfold JbL;rw [hfnd];exact if_neg (of_decide_eq_false hc4.symm));refine Z ?_;refine ⟨Bd,Jj (b:= .rp [JA r.name,int r.act.1,int r.act.2,Jaz r.conds]) hcell ?_⟩;refine Z ?_;intro c hc5;obtain rfl:c=true:=hc5.trans hc2.symm;refine Z ?_;exact Jk rfl ⟨rfl,Tt⟩ (AVle.of_eq (by rw [hd];rfl))
    ·have hd:JbL ⟨(k,n),x32,rs⟩ nm=r.act:=(by unfold JbL;rw [hfnd];exact if_pos (of_decide_eq_true hc4.symm));refine Z ?_;refine ⟨Bd,Jj (b:= .rp [JA r.name,int r.act.1,int r.act.2,Jaz r.conds]) hcell ?_⟩;refine Z ?_;exact Jk rfl ⟨rfl,Tt⟩ (AVle.of_eq (by rw [hd];rfl))
theorem Jmb (a:A2) (h:Ja7 a.1 a.2=true):Tells Tryz.prog 48 [Jn4 a] (int (JX a:Nat)):=by
 obtain ⟨k,n⟩:=a
 obtain ⟨k',n',rfl,rfl,h1,h2⟩:=Jik h
 have:=Jv0 k' n' h1 h2
 unfold JX
 dsimp only
 rw [show ((k'+1:Nat):Int).toNat - 1=k' by omega,show ((n':Nat):Int).toNat=n' by omega]
 exact this
theorem Jwn {p:Pol} (h:Ja8 p=true) (nm:ByteArray) (a:Int) (x:Nat→Nat):Ja7 (Jf7 p nm a x).1 (Jf7 p nm a x).2=true:=by
 obtain ⟨h1,h2⟩:=JfK h
 unfold Jf7
 cases hf:p.rules.find? (fun r=> kS r.name nm&& r.conds.all (hR a x)) with
 | none=> exact h1
 | some r=> exact JgW (h2 r (List.mem_of_find?_eq_some hf))
theorem Jlz {p:Pol} (h:Ja8 p=true):∀r∈p.rules,∀c∈r.conds,JR c=true:=fun r hr c hc=> by
 have:=(JfK h).2 r hr
 unfold JaJ at this
 simp only [Bool.and_eq_true,Bool.not_eq_true',List.any_eq_false] at this
 have:=this.2.2.2 c hc
 simpa using this
def JDJ (p:Pol) (l:List TRow) (s:Int) (x:Nat→Nat) (mx:Bool):Option Nat→A2
 | none=> p.dflt
 | some i=> if mx=true then JbL p (l.getD i Jd).name else Jf7 p (l.getD i Jd).name s x
def Jok (p:Pol) (l:List TRow) (r:Rec):A2:=JDJ p l (Jcf r.arch r.num) r.arg (JlW r) (atO l r)
def Jkr (p:Pol) (l:List TRow) (r:Rec):Nat:=if (decide (Jcf r.arch r.num < 0)|| (decide (Jcf r.arch r.num=1)&& !p.x32))=true then 2147483648 else JX (Jok p l r)
theorem Jqf (p:Pol) (l:List TRow) (r:Rec) (hp:Jv5 p) (hR:Ja8 p=true) (hl:l.length≤1000000) (hr:r.ok):Tells Tryz.prog 16 [JcT p,JS l,Jja r] (int (Jkr p l r:Nat)):=by
 have hof:=JxL l r hr hl
 unfold Jv3 at hof
 have hlt:∀i,atO l r=some i→i < l.length:=fun i h=> JxO h
 have hbl:∀nm,_:=fun nm=> Jqe p nm hp.1
 have hdc:∀nm,_:=fun nm=> Joj p nm (Jcf r.arch r.num) r.arg (JxM hr) hp (Jlz hR)
 have hblr:∀nm,_:=fun nm=> Jmb (JbL p nm) (Jlo hR nm)
 have hdcr:∀nm,_:=fun nm=> Jmb (Jf7 p nm (Jcf r.arch r.num) r.arg) (Jwn hR nm _ _)
 have hdf:=Jmb p.dflt (JfK hR).1
 unfold Jkr Jok
 generalize Jcf r.arch r.num=s at hof hdc hdcr
 generalize JlW r=mx at hof
 generalize atO l r=at' at hof hlt
 obtain ⟨⟨k,n⟩,x32,rs⟩:=p
 dsimp only at hdf⊢
 generalize hA:(if (decide (s < 0)|| (decide (s=1)&& !x32))=true then 2147483648 else JX (JDJ ⟨(k,n),x32,rs⟩ l s r.arg mx at'))=A
 refine Jc Tryz.func16 rfl rfl fun nx=> ?_
 refine Z ?_
 refine Jj (b:=Jja r) rfl ?_
 refine Z ?_
 refine Ja rfl rfl hof Y2 fun nx2=> ?_
 refine Jy ?_
 refine JmL (fun y:Nat=> mk 54 [(1,JS l),(3, .bp (0,nx) 0),(5, .bp (1,nx+1) 0),(7, .bp (2,nx2) 0),(23,Ji (decide (s < 0)|| (decide (s=1)&& !x32)))] ⟨[((2,nx2), .c [int s,int (Jfo at'),Ji mx]),((1,nx+1), .c (Jfq r)),((0,nx), .c (JdT k n x32 rs))], [],y,3⟩) (fun _=> True) ?_ ?_
 ·refine JQ ?_;refine Z ?_;intro c hc;have hc2:c=decide (s < 0):=hc;clear hc;cases c
  ·refine Z ?_;intro c hc;have hc3:c=decide (s=1):=hc.trans (by rw [Bool.eq_iff_iff];simp);clear hc;cases c
   ·refine Z ?_;exact ⟨nx2+1,trivial,Et (pm:= []) (bx:= [((2,nx2), .c [int s,int (Jfo at'),Ji mx]),((1,nx+1), .c (Jfq r)),((0,nx), .c (JdT k n x32 rs))]) rfl rfl Bf Tt ⟨Rf,Rf,Rf,Rf,AVle.of_eq (by rw [← hc2,← hc3];rfl),Tt⟩⟩
   ·cases x32
    ·refine Z ?_;exact ⟨nx2+1,trivial,Et (pm:= []) (bx:= [((2,nx2), .c [int s,int (Jfo at'),Ji mx]),((1,nx+1), .c (Jfq r)),((0,nx), .c (JdT k n false rs))]) rfl rfl Bf Tt ⟨Rf,Rf,Rf,Rf,AVle.of_eq (by rw [← hc2,← hc3];rfl),Tt⟩⟩
    ·refine Z ?_;exact ⟨nx2+1,trivial,Et (pm:= []) (bx:= [((2,nx2), .c [int s,int (Jfo at'),Ji mx]),((1,nx+1), .c (Jfq r)),((0,nx), .c (JdT k n true rs))]) rfl rfl Bf Tt ⟨Rf,Rf,Rf,Rf,AVle.of_eq (by rw [← hc2,← hc3];rfl),Tt⟩⟩
  ·refine Z ?_;exact ⟨nx2+1,trivial,Et (pm:= []) (bx:= [((2,nx2), .c [int s,int (Jfo at'),Ji mx]),((1,nx+1), .c (Jfq r)),((0,nx), .c (JdT k n x32 rs))]) rfl rfl Bf Tt ⟨Rf,Rf,Rf,Rf,AVle.of_eq (by rw [← hc2];rfl),Tt⟩⟩
 ·rintro nx3 -;generalize hb:(decide (s < 0)|| (decide (s=1)&& !x32))=bb at hA;cases bb with
  | true=>
    rw [if_pos rfl] at hA;refine Z ?_;exact Jb rfl (AVle.of_eq (by rw [← hA];rfl))
  | false=>
    rw [if_neg Dc] at hA;cases at' with
    | none=>
      have hA:JX (k,n)=A:=hA;refine Z ?_;refine Ja rfl rfl hdf Y1 fun nx4=> ?_;refine Z ?_;exact Jb rfl (AVle.of_eq (by rw [← hA];rfl))
    | some i=>
      have hi:=hlt i rfl;have hA:JX (if mx=true then JbL ⟨(k,n),x32,rs⟩ (l.getD i Jd).name else Jf7 ⟨(k,n),x32,rs⟩ (l.getD i Jd).name s r.arg)=A:=hA;have hbl:=hbl (l.getD i Jd).name;have hdc:=hdc (l.getD i Jd).name;have hblr:=hblr (l.getD i Jd).name;have hdcr:=hdcr (l.getD i Jd).name;cases mx with
      | true=>
        rw [if_pos rfl] at hA;refine Z ?_;refine Jav 9 _ (fun _=> false) (Ef [7,8]) [0,1,2,3,4,5,6,7,8] Kr Kr (HB.refl _) ?_;refine Z ?_;refine ⟨⟨Int.natCast_nonneg i,(show (i:Int) < (l.length:Int) by omega)⟩,JbT (b:= .rp (JbH (l.getD i Jd))) rfl ?_⟩;refine Z ?_;refine ⟨_,J2 rfl rfl rfl hbl Y2 (NoId.ag (by intro y hy;simp at hy;rcases hy with rfl | rfl <;> exact NoId.v _)), ?_⟩;refine Z ?_;refine ⟨_,J2 rfl rfl rfl hblr Y1 (NoId.v _), ?_⟩;refine Z ?_;exact Jb rfl (AVle.of_eq (by rw [← hA];rfl))
      | false=>
        rw [if_neg Dc] at hA;refine Z ?_;refine Jav 13 _ (fun _=> false) (Ef [11,12]) [0,1,2,3,4,5,6,7,8,9,10,11,12] Kr Kr (HB.refl _) ?_;refine Z ?_;refine ⟨⟨Int.natCast_nonneg i,(show (i:Int) < (l.length:Int) by omega)⟩,JbT (b:= .rp (JbH (l.getD i Jd))) rfl ?_⟩;refine Z ?_;refine ⟨_,J2 rfl rfl rfl hdc Y4 (NoId.ag (by intro y hy;simp at hy;rcases hy with rfl | rfl <;> exact NoId.v _)), ?_⟩;refine Z ?_;refine ⟨_,J2 rfl rfl rfl hdcr Y1 (NoId.v _), ?_⟩;refine Z ?_;exact Jb rfl (AVle.of_eq (by rw [← hA];rfl))
theorem Jks {α:Type} {p q:α→Bool}:∀ {l:List α},(∀x∈l,p x=q x)→l.find? p=l.find? q
 | [],_=> rfl
 | x::l,h=> by
   rw [List.find?_cons,List.find?_cons,h x (.head _),Jks fun y hy=> h y (.tail _ hy)]
theorem JBy {x y:Nat→Nat} {a:Int} {c:Cnd} (hc:JR c=true) (hxy:∀i,x i=Jh7 a (y i)):hB x c=hR a y c:=by
 obtain ⟨h1,h2,_⟩:=Jag.1 hc
 unfold hB hR
 rw [hc,Bool.true_and]
 obtain ⟨arg,op,mask,value⟩:=c
 dsimp only at h1 h2⊢
 obtain rfl | rfl | rfl | rfl | rfl | rfl:arg=0∨arg=1∨arg=2∨arg=3∨arg=4∨arg=5:=by omega
 ·rw [← hxy];rfl
 ·rw [← hxy];rfl
 ·rw [← hxy];rfl
 ·rw [← hxy];rfl
 ·rw [← hxy];rfl
 ·rw [← hxy];rfl
theorem JDK {p:Pol} (h:∀r∈p.rules,∀c∈r.conds,JR c=true) (nm:ByteArray) {x y:Nat→Nat} {a:Int} (hxy:∀i,x i=Jh7 a (y i)):Je5 p nm x=Jf7 p nm a y:=by
 have e:p.rules.find? (fun r=> kS r.name nm&& JcU x r)=p.rules.find? (fun r=> kS r.name nm&& r.conds.all (hR a y)):=Jks fun r hr=> by
  show (kS r.name nm&& r.conds.all (hB x))=(kS r.name nm&& r.conds.all (hR a y));refine congrArg (kS r.name nm&& ·) ?_;rw [Bool.eq_iff_iff,List.all_eq_true,List.all_eq_true];exact ⟨fun k c hc=> by rw [← JBy (h r hr c hc) hxy];exact k c hc,fun k c hc=> by rw [JBy (h r hr c hc) hxy];exact k c hc⟩
 unfold Je5 Jf7
 (rw [e]) <;> (cases p.rules.find? (fun r=> kS r.name nm&& r.conds.all (hR a y)) <;> rfl)
theorem JDL (l:List TRow) (r:Rec):(Jcf r.arch r.num < 0∧(ofI l r).some=false)∨(0≤Jcf r.arch r.num∧ofI l r=⟨true,Jcf r.arch r.num,JfI l (atO l r),JlW r⟩):=by
 unfold ofI Jcf atO JlW
 cases hs:Jdp r.arch r.num with
 | none=> exact .inl ⟨by decide,rfl⟩
 | some a=>
   refine .inr ⟨Int.natCast_nonneg _, ?_⟩;dsimp only;split
   ·rename_i h;rw [decide_eq_true h]
   ·rename_i h;rw [decide_eq_false h]
theorem JAG {p:Pol} {l:List TRow} {r:Rec} (hp:Ja8 p=true) (hl:(Jcx l).2=0):JX (JeV p l r)=Jkr p l r:=by
 unfold JeV Jkr Jok
 rcases JDL l r with ⟨h1,h2⟩ | ⟨h1,h2⟩
 ·rw [h2,if_pos (by rfl),if_pos (by rw [decide_eq_true h1];rfl)];rfl
 ·rw [h2];dsimp only;rw [show decide (Jcf r.arch r.num < 0)=false from decide_eq_false Om];by_cases hx:(decide (Jcf r.arch r.num=1)&& !p.x32)=true
  ·rw [if_pos (show (!true|| (decide (Jcf r.arch r.num=1)&& !p.x32))=true by rw [hx];rfl),if_pos (show (false|| (decide (Jcf r.arch r.num=1)&& !p.x32))=true by rw [hx];rfl)];rfl
  ·rw [Bool.not_eq_true] at hx;rw [if_neg (show ¬(!true|| (decide (Jcf r.arch r.num=1)&& !p.x32))=true by rw [hx];decide),if_neg (show ¬(false|| (decide (Jcf r.arch r.num=1)&& !p.x32))=true by rw [hx];decide)]
   congr 1
   cases hat:atO l r with
   | none=> rw [if_pos (show (JfI l none).size=0 from rfl)];rfl
   | some i=>
     have hn:=Jz9 hl (JxO hat);rw [if_neg (show ¬(JfI l (some i)).size=0 from hn)];show _=if JlW r=true then _ else _;split
     ·rfl
     ·refine JDK (Jlz hp) _ fun k=> ?_;unfold JbI Jh7;by_cases q:Jcf r.arch r.num=2
      ·rw [if_pos q,if_pos (by rw [q];rfl)]
      ·rw [if_neg q,if_neg Om]
theorem Jwo {p:Pol} (h:Jgw p=true):p.rules.length≤40∧∀r∈p.rules,r.conds.length≤12:=by
 unfold Jgw at h
 simp only [Bool.and_eq_true,decide_eq_true_eq,List.all_eq_true] at h
 refine ⟨h.1,fun r hr=> ?_⟩
 have:=h.2 r hr
 unfold Jfb at this
 simp only [Bool.and_eq_true,decide_eq_true_eq] at this
 exact this.2
theorem JAH {p:Pol} (hp:p.ok) (h:Jgw p=true):Jv5 p:=by
 obtain ⟨h1,h2⟩:=Jwo h
 exact ⟨Om,fun r hr=> ⟨by have:=h2 r hr;omega,(hp.2 r hr).2.2⟩⟩
def JcH (x:Nat→Nat) (l:List Rul):Option A2:=(l.find? (JcU x)).map (·.act)
theorem JuX {x:Nat→Nat} (hx:∀i,x i < 18446744073709551616) {c:Cnd} (ho:c.ok):((J5 c).2=1→hB x c=true)∧((J5 c).2=2→hB x c=false)∧((J5 c).2=0→hB x (J5 c).1=hB x c):=by
 unfold hB
 by_cases hr:JR c=true
 ·have h:=JtB ho hr (JDx hx c.arg.toNat);rw [hr,Bool.true_and];refine ⟨h.1,h.2.1,fun h0=> ?_⟩;obtain ⟨k1,k2,k3⟩:=h.2.2 h0;rw [k1,k2,k3,Bool.true_and]
 ·have h2:(J5 c).2=2:=by unfold J5;rw [if_neg hr];rfl
  rw [h2,Bool.eq_false_iff.2 hr,Bool.false_and];exact ⟨fun h=> (by cases h),fun _=> rfl,fun h=> (by cases h)⟩
theorem JAI {x:Nat→Nat} (hx:∀i,x i < 18446744073709551616) {r:Rul} (hc:∀c∈r.conds,c.ok) (h:JaW r=none):JcU x r=false:=by
 unfold JaW at h
 by_cases ha:r.conds.any JcC=true
 ·obtain ⟨c,h1,h2⟩:=List.any_eq_true.1 ha;unfold JcC at h2;unfold JcU;rw [List.all_eq_false];exact ⟨c,h1,by rw [(JuX hx (hc c h1)).2.1 (of_decide_eq_true h2)];decide⟩
 ·rw [if_neg ha] at h;cases h
theorem Jsd {x:Nat→Nat} (hx:∀i,x i < 18446744073709551616):∀(l:List Cnd),(∀c∈l,c.ok)→l.any JcC=false→(Jcc l).all (hB x)=l.all (hB x)
 | [],_,_=> rfl
 | c::l,hc,hn=> by
   have ih:=Jsd hx l (fun d hd=> hc d (List.mem_cons_of_mem _ hd)) (by simp at hn⊢;exact hn.2);have hcn:JcC c=false:=by simp at hn;simpa using hn.1
   unfold Jcc at ih⊢;have h:=JuX hx (hc c List.mem_cons_self);rcases Jlt c with h0 | h0 | h0
   ·rw [List.filterMap_cons,JrT h0,List.all_cons,List.all_cons,ih,h.2.2 h0]
   ·rw [List.filterMap_cons,Jne Om,List.all_cons,ih,h.1 h0,Bool.true_and]
   ·unfold JcC at hcn;rw [h0] at hcn;cases hcn
theorem JAJ {x:Nat→Nat} (hx:∀i,x i < 18446744073709551616) {r n:Rul} (hc:∀c∈r.conds,c.ok) (h:JaW r=some n):JcU x n=JcU x r∧n.act=r.act∧n.name=r.name:=by
 unfold JaW at h
 by_cases ha:r.conds.any JcC=true
 ·rw [if_pos ha] at h;cases h
 ·rw [if_neg ha] at h;obtain rfl:=Option.some.inj h;refine ⟨?_,rfl,rfl⟩;unfold JcU;rw [← Jsd hx r.conds hc (Bool.eq_false_iff.2 ha),Bool.eq_iff_iff,List.all_eq_true,List.all_eq_true];exact ⟨fun k c hc => k c ((Jde _).2 c |>.2 hc), fun k c hc => k c ((Jde _).2 c |>.1 hc)⟩
theorem Jmc {x:Nat→Nat} (l m:List Rul):JcH x (l++m)=(JcH x l).or (JcH x m):=by
 unfold JcH
 rw [List.find?_append]
 cases l.find? (JcU x) <;> rfl
theorem JhF {x:Nat→Nat} (r:Rul):JcH x [r]=if JcU x r then some r.act else none:=by
 unfold JcH
 rw [List.find?_cons]
 cases JcU x r <;> rfl
theorem JCx {x:Nat→Nat} {l:List Rul} {m:Rul} (h:m∈l) (hl:JcU x m=true):∃a,JcH x l=some a:=by
 unfold JcH
 cases hf:l.find? (JcU x) with
 | none=> exact absurd hl (by simpa using List.find?_eq_none.1 hf m h)
 | some r=> exact ⟨r.act,rfl⟩
theorem JAK {x:Nat→Nat} (hx:∀i,x i < 18446744073709551616) {l:List Rul} {r:Rul} (hc:∀c∈r.conds,c.ok):JcH x (JdS l r)=(JcH x l).or (JcH x [r]):=by
 unfold JdS
 cases hn:JaW r with
 | none=>
   dsimp only;rw [JhF,JAI hx hc hn];cases JcH x l <;> rfl
 | some n=>
   dsimp only;obtain ⟨h1,h2,h3⟩:=JAJ hx hc hn;by_cases hh:Jea l n=true
   ·rw [if_pos hh,JhF];unfold Jea at hh;obtain ⟨m,hm,hd⟩:=List.any_eq_true.1 hh;cases hr:JcU x r with
    | false=> cases JcH x l <;> rfl
    | true=>
      have hlm:JcU x m=true:=by
       unfold Jkk at hd;rw [Bool.or_eq_true,decide_eq_true_iff,decide_eq_true_iff] at hd;rcases hd with hd | hd
       ·unfold JcU;rw [hd];rfl
       ·rw [← h1] at hr;unfold JcU at hr⊢;rw [hd];exact hr
      obtain ⟨a,ha⟩:=JCx hm hlm;rw [ha];rfl
   ·rw [if_neg hh,Jmc,JhF,JhF,h1,h2]
theorem Jpx {x:Nat→Nat} (hx:∀i,x i < 18446744073709551616):∀(rs l:List Rul),(∀r∈rs,∀c∈r.conds,c.ok)→JcH x (rs.foldl JdS l)=(JcH x l).or (JcH x rs)
 | [],l,_=> by rw [List.foldl_nil];cases JcH x l <;> rfl
 | r::rs,l,h=> by
   rw [List.foldl_cons,Jpx hx rs _ fun q hq=> h q (List.mem_cons_of_mem _ hq),JAK hx (h r List.mem_cons_self),Option.or_assoc,← Jmc];rfl
theorem Jse {x:Nat→Nat} {d:A2}:∀(k:Nat) (l:List Rul),l.length≤k→(JcH x (Jdr d l)).getD d=(JcH x l).getD d
 | 0,l,h=> by rw [List.length_eq_zero_iff.1 (by omega:l.length=0)];rfl
 | k+1,l,h=> by
   rcases Jin l with rfl | ⟨l',r,rfl⟩
   ·rfl
   ·rw [Jpl];split
    ·rename_i hd
     rw [List.length_append,List.length_singleton] at h;rw [Jse k l' Om,Jmc,JhF];cases JcH x l' with
     | some a=> rfl
     | none=> cases JcU x r <;> simp [hd]
    ·rfl
theorem JlA {q:Rul→Bool} {x:Nat→Nat}:∀l:List Rul,l.find? (fun r=> q r&& JcU x r)=(l.filter q).find? (JcU x)
 | []=> rfl
 | r::l=> by
   rw [List.find?_cons,List.filter_cons,JlA l];cases hq:q r with
   | false=> rw [Bool.false_and];rfl
   | true=> rw [Bool.true_and,if_pos rfl,List.find?_cons]
theorem Jyw (s t:ByteArray):kS s t=Jae t s:=by
 rw [Bool.eq_iff_iff,JbU,JcZ]
 exact ⟨Eq.symm,Eq.symm⟩
theorem Jsf (p:Pol) (nm:ByteArray) (x:Nat→Nat):Je5 p nm x=(JcH x (p.rules.filter fun r=> Jae nm r.name)).getD p.dflt:=by
 unfold Je5 JcH
 rw [show (fun r:Rul=> kS r.name nm&& JcU x r)=fun r=> Jae nm r.name&& JcU x r from funext fun r=> by rw [Jyw],JlA]
 cases (p.rules.filter fun r=> Jae nm r.name).find? (JcU x) <;> rfl
theorem JuY (p:Pol) (hp:∀r∈p.rules,∀c∈r.conds,c.ok) (nm:ByteArray) {x:Nat→Nat} (hx:∀i,x i < 18446744073709551616):Je5 p nm x=(JcH x (gOf nm p.rules)).getD p.dflt:=by
 rw [Jsf,Jg1,Jpx hx _ _ fun r hr=> hp r (List.mem_filter.1 hr).1]
 rfl
theorem Jpy {r n:Rul} (h:JaW r=some n) (hc:∀c∈r.conds,c.ok):∀c∈n.conds,c.ok:=(Jgm h).2.2 hc
theorem JAL {p:Pol} (hp:∀r∈p.rules,∀c∈r.conds,c.ok):∀r∈(Jh p).rules,∀c∈r.conds,c.ok:=fun n hn=> by
 obtain ⟨r,hr,h⟩:=Jk2 (d:=p.dflt) (rs:=p.rules) hn
 exact Jpy h (hp r hr)
theorem Jsg (p:Pol) (hp:∀r∈p.rules,∀c∈r.conds,c.ok) (nm:ByteArray) {x:Nat→Nat} (hx:∀i,x i < 18446744073709551616):Je5 (Jh p) nm x=Je5 p nm x:=by
 rw [JuY _ (JAL hp) nm hx,JuY p hp nm hx]
 show (JcH x (gOf nm (JgH p.dflt (Jal p.rules) (JdR (Jal p.rules))))).getD p.dflt=_
 rw [JCq,Jse _ _ (Nat.le_refl _)]
theorem Jpz {p:Pol} {nm:ByteArray} (x:Nat→Nat) (h:∀r∈p.rules,kS r.name nm=true→r.conds= []):JbL p nm=Je5 p nm x:=by
 unfold JbL Je5
 rw [show p.rules.find? (fun r=> kS r.name nm&& JcU x r)=p.rules.find? (fun r=> kS r.name nm) from Jks fun r hr=> by
  cases hk:kS r.name nm with
  | false=> rfl
  | true=> unfold JcU;rw [h r hr hk];rfl]
 cases hf:p.rules.find? (fun r=> kS r.name nm) with
 | none=> rfl
 | some r=>
   dsimp only;rw [h r (List.mem_of_find?_eq_some hf) (by simpa using List.find?_some hf)];rfl
theorem Jwp {p:Pol} (hp:∀r∈p.rules,∀c∈r.conds,c.ok) {nm:ByteArray} (h:∀r∈p.rules,kS r.name nm=true→r.conds= []):JbL (Jh p) nm=JbL p nm:=by
 rw [Jpz (fun _=> 0) h,Jpz (p:=Jh p) (fun _=> 0),Jsg p hp nm fun _=> by decide]
 intro n hn hk
 obtain ⟨r,hr,hnr⟩:=Jk2 (d:=p.dflt) (rs:=p.rules) hn
 have h1:=Jcg hnr
 rw [h1.2.1] at hk
 have h2:=h r hr hk
 rw [h2] at h1
 exact List.length_eq_zero_iff.1 (Nat.le_zero.1 h1.1)
theorem Jnu {l:List TRow} (hok:(Jcx l).2=0) {a:Nat} (ha:a < l.length):Jay l (l.getD a Jd).name=l.getD a Jd:=by
 have hs:=JgV hok
 have hm:=Jgl hs (l.getD a Jd).name
 have h1:¬Jce l (l.getD a Jd).name < a:=fun q=> by
  have:=JkW (l:=l) (s:=(l.getD a Jd).name) Om;exact this (Jn9.2 (hs _ _ q ha))
 have h2:¬a < Jce l (l.getD a Jd).name:=fun q=> by
  have:=Jn8 q;rw [Jn9] at this;exact JkX _ this
 have e:Jce l (l.getD a Jd).name=a:=by omega
 unfold Jay Jbq
 rw [e,decide_eq_true ha,decide_eq_true (JuE.2 rfl)]
 rfl
theorem Jwq {a d:Nat} {x:Bool} {row:TRow} {rs:List PRul} (h1:¬row.num a < 0) (h2:¬(a=1∧x=false)) (h3:Jcq a rs d≠ []):JaX a d x row rs= [⟨JdB a (row.num a),Jcq a rs d⟩]:=if_neg fun h=> h.elim h1 fun h=> h.elim h2 h3
theorem code_kill18:JX (1,0)=2147483648:=by decide
theorem Jwr {x:Nat→Nat} (L:List Rul):Jbr x (L.map JW)=(JcH x L).map JX:=by
 unfold Jbr JcH
 rw [List.find?_map,Option.map_map,Option.map_map]
 rfl
theorem JpA (o:Option A2) (d:A2):JX (o.getD d)=(o.map JX).getD (JX d):=by cases o <;> rfl
theorem Jkt {p:Pol} (hp:∀r∈p.rules,∀c∈r.conds,c.ok):∀n∈(Jh p).rules,(JW n).ok:=fun n hn c hc=> by
 obtain ⟨r,hr,hN⟩:=Jf5 hn
 have hc:c∈n.conds:=hc
 refine ⟨Jpy hN (hp r hr) c hc, ?_⟩
 unfold JaW at hN
 split at hN
 ·cases hN
 ·obtain rfl:=Option.some.inj hN;have h:=((Jde _).2 c).1 hc;unfold Jcc at h;obtain ⟨c0,_,h1⟩:=List.mem_filterMap.1 h;rcases Jlt c0 with h2 | h2 | h2
  ·rw [JrT h2] at h1;obtain rfl:=Option.some.inj h1;exact Jxn h2
  ·rw [Jne Om] at h1;cases h1
  ·rw [Jne Om] at h1;cases h1
theorem JhG {α:Type} {l:List α} {F:α→Option Nat} {o:Option Nat} (h1:∀e∈l,F e=none∨F e=o) (h2:o≠none→∃e∈l,F e=o):l.findSome? F=o:=by
 cases hf:l.findSome? F with
 | none=>
   cases o with
   | none=> rfl
   | some v=>
     obtain ⟨e,he,hv⟩:=h2 Si;rw [List.findSome?_eq_none_iff.1 hf e he] at hv;exact hv
 | some v=>
   obtain ⟨e,he,hv⟩:=List.exists_of_findSome?_eq_some hf;rcases h1 e he with h | h
   ·rw [h] at hv;cases hv
   ·rw [← h,hv]
theorem JCy {arch num:Nat} (h:Jdp arch num=some 1):num / 1073741824 % 2=1:=by
 unfold Jdp at h
 cases hf:infN.find? (Jn5 arch (Jeo num)) with
 | none=> rw [hf] at h;cases h
 | some x=>
   rw [hf] at h;have h1:x.1=1:=Option.some.inj h;have hs:=List.find?_some hf;have hm:=List.mem_of_find?_eq_some hf;unfold infN at hm;simp only [List.mem_cons,List.not_mem_nil,or_false] at hm;rcases hm with rfl | rfl | rfl | rfl | rfl
   ·cases h1
   ·cases hw:Jeo num with
    | true=>
      rw [JlV] at hw;simp only [Bool.and_eq_true,decide_eq_true_eq] at hw;exact hw.2
    | false=>
      rw [hw] at hs;unfold Jn5 at hs;rw [Bool.and_eq_true] at hs;exact absurd hs.2 Dc
   ·cases h1
   ·cases h1
   ·cases h1
theorem Jku {arch num a:Nat} {n:Int} (h:Jdp arch num=some a) (h0:0≤n) (h1:n < 1073741824):JdB a n=num↔n=((JfH a num:Nat):Int):=by
 rw [JeZ h0 h1]
 unfold JfH
 by_cases ha:a=1
 ·subst ha;have hb:=JCy h;rw [if_pos rfl,if_pos ⟨rfl,hb⟩];omega
 ·rw [if_neg ha,if_neg fun q=> ha q.1];omega
theorem JpB {l:List TRow} (ht:(Jcx l).2=0) {i:Nat} (hi:i < l.length):(l.getD i Jd).name.size≠0:=fun h=> by
 have:=(JeB ((Jdz ht).2 i hi)).1
 have e:(l.getD i Jd).name.data.toList= []:=by
  apply List.eq_nil_of_length_eq_zero;rw [Array.length_toList];exact h
 rw [e] at this
 exact absurd this Dc
theorem Jha {p:Pol} {g:ByteArray×List Rul} (hg:g∈Jaa (Jh p).rules):g.2=(Jh p).rules.filter fun r=> kS r.name g.1:=((JeF (Je1 p)).rows g hg).1
theorem Jws (p:Pol) (nm:ByteArray) (x:Nat→Nat):Je5 p nm x=(JcH x (p.rules.filter fun r=> kS r.name nm)).getD p.dflt:=by
 rw [Jsf,show (fun r:Rul=> Jae nm r.name)=fun r=> kS r.name nm from funext fun r=> (Jyw r.name nm).symm]
def Jmd (x:Nat→Nat) (num:Nat) (e:PEnt):Option Nat:=if e.num=num then Jbr x e.rules else none
theorem JeH {p:Pol} {l:List TRow} {a:Nat} {e:PEnt} (h:e∈(J8 p l).ents a):∃g∈Jaa (Jh p).rules,e∈JaX a (JX p.dflt) p.x32 (Jay l g.1) (g.2.map JW):=by
 have h1:=(JfO (JdI (Jh p) l (Jaa (Jh p).rules) a)).mem_iff.1 h
 unfold JdI at h1
 obtain ⟨g,hg,h2⟩:=List.mem_flatMap.1 h1
 exact ⟨g,hg,h2⟩
theorem Jyx {p:Pol} {l:List TRow} {a:Nat} {e:PEnt} {g:ByteArray×List Rul} (hg:g∈Jaa (Jh p).rules) (h:e∈JaX a (JX p.dflt) p.x32 (Jay l g.1) (g.2.map JW)):e∈(J8 p l).ents a:=
 (JfO (JdI (Jh p) l (Jaa (Jh p).rules) a)).mem_iff.2 (by unfold JdI;exact List.mem_flatMap.2 ⟨g,hg,h⟩)
theorem JpC {p:Pol} {l:List TRow} {m:Nat} {e:PSub} (h:e∈(J8 p l).subs m):∃g∈Jaa (Jh p).rules,e∈JcM m (Jay l g.1) (g.2.map JW):=by
 have h1:=(JfP (JdJ l (Jaa (Jh p).rules) m)).mem_iff.1 h
 unfold JdJ at h1
 obtain ⟨g,hg,h2⟩:=List.mem_flatMap.1 h1
 exact ⟨g,hg,h2⟩
theorem Jyy {p:Pol} {l:List TRow} {m:Nat} {e:PSub} {g:ByteArray×List Rul} (hg:g∈Jaa (Jh p).rules) (h:e∈JcM m (Jay l g.1) (g.2.map JW)):e∈(J8 p l).subs m:=
 (JfP (JdJ l (Jaa (Jh p).rules) m)).mem_iff.2 (by unfold JdJ;exact List.mem_flatMap.2 ⟨g,hg,h⟩)
theorem Jsh {l:List TRow} {q:TRow→Bool} (h:l.findIdx? q=none) {j:Nat} (hj:j < l.length):q (l.getD j Jd)=false:=by
 have:=List.findIdx?_eq_none_iff.1 h (l.getD j Jd) (by simp [List.getD,hj])
 simpa using this
theorem JuZ {l:List TRow} {q:TRow→Bool} {i:Nat} (h:l.findIdx? q=some i):i < l.length∧q (l.getD i Jd)=true:=by
 obtain ⟨hi,hb,_⟩:=List.findIdx?_eq_some_iff_getElem.1 h
 exact ⟨hi,by rw [show l.getD i Jd=l[i] by simp [List.getD,hi]];exact hb⟩
theorem JAM {r:Rec} {a:Nat} (h:a=2) (i:Nat):JbI a r i < 4294967296:=by
 unfold JbI;rw [if_pos h];exact Nat.mod_lt _ Dc
theorem Jsi {p:Pol} {l:List TRow} {a:Nat} (hv:(Jaf p l).2=0) (hc:∀r∈p.rules,∀c∈r.conds,c.ok) (ha:a < 5) {r:Rec} (hs:Jdp r.arch r.num=some a) (hx:¬(a=1∧p.x32=false)) (hr:r.ok):
 (((J8 p l).ents a).findSome? (Jmd (JbI a r) r.num)).getD (JX p.dflt)=JX (if (JfI l (l.findIdx? (Jd8 a ((JfH a r.num:Nat):Int)))).size=0 then p.dflt else Je5 p (JfI l (l.findIdx? (Jd8 a ((JfH a r.num:Nat):Int)))) (JbI a r)):=by
 have ht:=(JaC.1 hv).2.1
 have hG:=Jc8 (p:=p) (Jch hv)
 cases hf:l.findIdx? (Jd8 a ((JfH a r.num:Nat):Int)) with
 | none=>
   rw [JhG (o:=none) (fun e he=> .inl ?_) (fun h=> absurd rfl h)]
   ·rfl
   ·obtain ⟨g,hg,h2⟩:=JeH he;obtain ⟨j,hj,r1,_⟩:=hG g hg;obtain ⟨k1,k2⟩:=JeG h2;rw [r1] at k1 k2;refine if_neg fun q=> ?_;have:=Jsh hf hj;unfold Jd8 at this;exact of_decide_eq_false this ((Jku hs Om (JdC ht hj).1).1 (k2.symm.trans q))
 | some i=>
   obtain ⟨hi,hb⟩:=JuZ hf;have hb:(l.getD i Jd).num a=((JfH a r.num:Nat):Int):=of_decide_eq_true hb;have hsz:=JpB ht hi;have hro:=Jnu ht hi;show _=JX (if (l.getD i Jd).name.size=0 then _ else Je5 p (l.getD i Jd).name (JbI a r));rw [if_neg hsz,← Jsg p hc _ (JB3 hr a),Jws,JpA,← Jwr];have hok:∀q∈((Jh p).rules.filter fun r=> kS r.name (l.getD i Jd).name).map JW,q.ok:=fun q hq=> by
    obtain ⟨n,hn,rfl⟩:=List.mem_map.1 hq;exact Jkt hc n (List.mem_filter.1 hn).1
   show _=(Jbr (JbI a r) _).getD (JX p.dflt);rw [← JtM (a:=a) (d:=JX p.dflt) (fun h=> JAM h) _ hok];refine congrArg (fun o:Option Nat=> o.getD (JX p.dflt)) (JhG (fun e he=> ?_) fun h=> ?_)
   ·obtain ⟨g,hg,h2⟩:=JeH he;obtain ⟨j,hj,r1,n1⟩:=hG g hg;obtain ⟨k1,k2⟩:=JeG h2;rw [r1] at k1 k2;by_cases q:e.num=r.num
    ·right
     have hn:=(Jku hs Om (JdC ht hj).1).1 (k2.symm.trans q);have:=JuT ht ha hi hj Om Om;subst this;unfold JaX at h2;split at h2
     ·cases h2
     ·rw [List.mem_singleton.1 h2] at q⊢;rw [Jha hg,← n1] at q⊢;exact if_pos q
    ·exact .inl (if_neg q)
   ·have hne:((Jh p).rules.filter fun r=> kS r.name (l.getD i Jd).name)≠ []:=fun q=> h (by rw [q];unfold Jcq;rfl);have hse:Jcq a (((Jh p).rules.filter fun r=> kS r.name (l.getD i Jd).name).map JW) (JX p.dflt)≠ []:=fun q=> h (by rw [q];rfl);obtain ⟨n,hn⟩:=List.exists_mem_of_ne_nil _ hne;obtain ⟨hn1,hn2⟩:=List.mem_filter.1 hn;obtain ⟨g,hg,hgn⟩:=(JeF (Je1 p)).all n hn1;have hg1:g.1=(l.getD i Jd).name:=hgn.trans (JbU.1 hn2);have hg2:=Jha hg;rw [hg1] at hg2;have hE:JaX a (JX p.dflt) p.x32 (Jay l g.1) (g.2.map JW)= [⟨JdB a ((Jay l g.1).num a),Jcq a (g.2.map JW) (JX p.dflt)⟩]:=
     Jwq (by rw [hg1,hro];omega) hx (by rw [hg2];exact hse)
    refine ⟨_,Jyx hg (by rw [hE];exact .head _), ?_⟩;unfold Jmd;dsimp only;rw [if_pos (by rw [hg1,hro];exact (Jku hs Om (JdC ht hi).1).2 hb),hg2]
theorem JAN {p:Pol} {l:List TRow} {k:Nat} (hv:(Jaf p l).2=0) (hc:∀r∈p.rules,∀c∈r.conds,c.ok) (hm:∀r∈p.rules,Jeb l r=false) (hk:0 < k) (m:Nat):
 (((J8 p l).subs (k - 1)).findSome? (fun s=> if s.num=m then some s.code else none)).getD (JX p.dflt)=JX (if (JfI l (l.findIdx? (Jf0 k (m:Nat)))).size=0 then p.dflt else JbL p (JfI l (l.findIdx? (Jf0 k (m:Nat))))):=by
 have ht:=(JaC.1 hv).2.1
 have hG:=Jc8 (p:=p) (Jch hv)
 cases hf:l.findIdx? (Jf0 k (m:Nat)) with
 | none=>
   rw [JhG (o:=none) (fun e he=> .inl ?_) (fun h=> absurd rfl h)]
   ·rfl
   ·obtain ⟨g,hg,h2⟩:=JpC he;obtain ⟨j,hj,r1,_⟩:=hG g hg;obtain ⟨k1,k2⟩:=Jh5 h2;rw [r1] at k1 k2;refine if_neg fun q=> ?_;have:=Jsh hf hj;have h3:=Jf4 ht hj;have:Jf0 k (m:Nat) (l.getD j Jd)=true:=by
     unfold Jf0;rw [decide_eq_true Om,decide_eq_true Om,decide_eq_true Om];rfl
    simp_all
 | some i=>
   obtain ⟨hi,hb⟩:=JuZ hf;unfold Jf0 at hb;simp only [Bool.and_eq_true,decide_eq_true_eq] at hb;have hsz:=JpB ht hi;have hro:=Jnu ht hi;show _=JX (if (l.getD i Jd).name.size=0 then _ else JbL p (l.getD i Jd).name);have hno:∀r∈p.rules,kS r.name (l.getD i Jd).name=true→r.conds= []:=fun r hr hn=> by
    have:=hm r hr;unfold Jeb at this;rw [JbU.1 hn,hro,decide_eq_true Om,Bool.true_and] at this;exact List.eq_nil_of_length_eq_zero (by have:=of_decide_eq_false this;omega)
   rw [if_neg hsz,← Jwp hc hno];have hbl:JbL (Jh p) (l.getD i Jd).name=(((Jh p).rules.filter fun r=> kS r.name (l.getD i Jd).name).head?.map (·.act)).getD p.dflt:=by
    unfold JbL;rw [List.head?_filter];cases hq:(Jh p).rules.find? (fun r=> kS r.name (l.getD i Jd).name) with
    | none=> rfl
    | some n=>
      have hn1:=List.mem_of_find?_eq_some hq;have hn2:=List.find?_some hq;obtain ⟨r,hr,hN⟩:=Jf5 hn1;have h5:=hno r hr (by rw [← (Jcg hN).2.1];exact hn2);have h6:=(Jcg hN).1;rw [h5] at h6;show (if n.conds.length=0 then _ else _)=_;rw [if_pos (by simpa using h6)];rfl
   rw [hbl,JpA];refine congrArg (fun o:Option Nat=> o.getD (JX p.dflt)) (JhG (fun e he=> ?_) fun h=> ?_)
   ·obtain ⟨g,hg,h2⟩:=JpC he;obtain ⟨j,hj,r1,n1⟩:=hG g hg;obtain ⟨k1,k2⟩:=Jh5 h2;rw [r1] at k1 k2;by_cases q:e.num=m
    ·right
     have h3:=Jf4 ht hj;have h4:=Jf4 ht hi;have:=JuU ht hi hj Om Om Om;subst this;unfold JcM at h2;split at h2
     ·rw [List.mem_singleton.1 h2] at q⊢;refine (if_pos q).trans ?_;have hr:=(JeF (Je1 p)).rows g hg;rw [← n1] at hr;rw [← hr.1];obtain ⟨n,L,e⟩:=List.exists_cons_of_ne_nil hr.2;rw [e];rfl
     ·cases h2
    ·exact .inl (if_neg q)
   ·have hne:((Jh p).rules.filter fun r=> kS r.name (l.getD i Jd).name)≠ []:=fun q=> h (by rw [q];rfl);obtain ⟨n,hn⟩:=List.exists_mem_of_ne_nil _ hne;obtain ⟨hn1,hn2⟩:=List.mem_filter.1 hn;obtain ⟨g,hg,hgn⟩:=(JeF (Je1 p)).all n hn1;have hg1:g.1=(l.getD i Jd).name:=hgn.trans (JbU.1 hn2);have hg2:=Jha hg;rw [hg1] at hg2;have h4:=Jf4 ht hi;have hE:JcM (k - 1) (Jay l g.1) (g.2.map JW)= [⟨(Jay l g.1).sub.toNat,((g.2.map JW).getD 0 ⟨[],0⟩).code⟩]:=if_pos (by rw [hg1,hro];omega);refine ⟨_,Jyy hg (by rw [hE];exact .head _), ?_⟩;dsimp only;rw [if_pos (by rw [hg1,hro];omega),hg2];obtain ⟨n,L,e⟩:=List.exists_cons_of_ne_nil hne;rw [e];rfl
def byP (P:Plan) (r:Rec):Nat:=match Jdp r.arch r.num with
 | none=> 2147483648
 | some a=> if a=1∧P.x32=false then 2147483648
   else if 0 < Jcp a r.num then ((P.subs (Jcp a r.num - 1)).findSome? fun s=> if s.num=r.a0 % 4294967296 then some s.code else none).getD P.dflt
   else ((P.ents a).findSome? (Jmd (JbI a r) r.num)).getD P.dflt
theorem JAO {p:Pol} {l:List TRow} {r:Rec} (hv:(Jaf p l).2=0) (hc:∀r∈p.rules,∀c∈r.conds,c.ok) (hm:∀r∈p.rules,Jeb l r=false) (hr:r.ok):byP (J8 p l) r=JX (JeV p l r):=by
 cases hs:Jdp r.arch r.num with
 | none=>
   have ho:ofI l r=JBu:=by unfold ofI;rw [hs]
   unfold byP JeV;rw [ho,hs];exact code_kill18.symm
 | some a=>
   have hb:¬(a=1∧p.x32=false)→((!true|| (decide (((a:Nat):Int)=1)&& !p.x32))=true)=False:=fun hx=> by
    cases hx2:p.x32 with
    | true=> simp
    | false=>
      have:a≠1:=fun h=> hx ⟨h,hx2⟩;have:¬((a:Nat):Int)=1:=(by omega);rw [decide_eq_false this];simp
   by_cases hk:0 < Jcp a r.num
   ·have ho:ofI l r=⟨true,a,JfI l (l.findIdx? (Jf0 (Jcp a r.num) ((r.a0 % 4294967296:Nat):Int))),true⟩:=(by unfold ofI;rw [hs];exact if_pos hk);have ha:¬(a=1∧p.x32=false):=fun h=> by
     rw [h.1] at hk;unfold Jcp at hk;rw [if_neg Dc] at hk;omega
    unfold byP JeV;rw [ho,hs];dsimp only;rw [if_neg (show ¬(a=1∧(J8 p l).x32=false) from ha),if_pos hk,if_neg (by rw [hb ha];exact id)];refine (JAN hv hc hm hk _).trans (congrArg JX ?_);split
    ·rfl
    ·rfl
   ·have ho:ofI l r=⟨true,a,JfI l (l.findIdx? (Jd8 a ((JfH a r.num:Nat):Int))),false⟩:=(by unfold ofI;rw [hs];exact if_neg hk);unfold byP JeV;rw [ho,hs];dsimp only;by_cases hx:a=1∧p.x32=false
    ·rw [if_pos (show a=1∧(J8 p l).x32=false from hx)];obtain ⟨rfl,hx⟩:=hx;rw [if_pos (by rw [hx];rfl)];exact code_kill18.symm
    ·rw [if_neg (show ¬(a=1∧(J8 p l).x32=false) from hx),if_neg hk,if_neg (by rw [hb hx];exact id)];exact Jsi hv hc (Juz hs) hs hx hr
theorem Jsj {d:Nat} {l:List PRul} {r:PRul} (h:r∈JgG d l):r∈l:=by
 unfold JgG at h
 have:=(List.dropWhile_sublist _).mem (List.mem_reverse.1 h)
 exact List.mem_reverse.1 this
theorem Jh8 {a:Nat} {r:PRul}:∀ {l:List PRul},r∈Jdn a l→∃q∈l,JgF a q=some r
 | [],h=> by cases h
 | q::l,h=> by
   unfold Jdn at h;cases hq:JgF a q with
   | none=>
     rw [hq] at h;obtain ⟨z,hz,e⟩:=Jh8 h;exact ⟨z,List.mem_cons_of_mem _ hz,e⟩
   | some y=>
     rw [hq] at h;dsimp only at h;split at h
     ·rw [List.mem_singleton.1 h];exact ⟨q,List.mem_cons_self ..,hq⟩
     ·rcases List.mem_cons.1 h with rfl | h
      ·exact ⟨q,List.mem_cons_self ..,hq⟩
      ·obtain ⟨z,hz,e⟩:=Jh8 h;exact ⟨z,List.mem_cons_of_mem _ hz,e⟩
def Jwt (a:Nat) (c:Cnd):Prop:=opN c.op∧JR c=true∧(a=2→c.value < 4294967296)∧c.ok
theorem Jyz {c:Cnd} (h:NFm c):opN c.op:=by
 rcases h.2 with h | h | h | h | h
 ·exact .inl h
 ·exact .inr (.inl h)
 ·exact .inr (.inr (.inl h))
 ·exact .inr (.inr (.inr (.inl h)))
 ·exact .inr (.inr (.inr (.inr h.1)))
theorem JyA {c:Cnd} (ho:c.ok) (h:(Jbd c).2=0):(Jbd c).1.op=c.op∧(Jbd c).1.value < 4294967296∧(Jbd c).1.ok:=by
 unfold Jbd at h⊢
 by_cases hv:c.value > lowM32
 ·rw [if_pos hv] at h;dsimp only at h;split at h <;> cases h
 ·rw [if_neg hv] at h⊢;unfold lowM32 at hv;split
  ·split
   ·rename_i h7 hm
    rw [if_pos h7,if_pos hm] at h;cases h
   ·exact ⟨rfl,Dm,Nat.lt_of_le_of_lt Nat.and_le_left ho.1,ho.2⟩
  ·exact ⟨rfl,Dm,ho⟩
theorem JAP {a d:Nat} {l:List PRul} (hl:∀r∈l,r.ok) {r:PRul} (hr:r∈Jcq a l d) {c:Cnd} (hc:c∈r.conds):Jwt a c:=by
 obtain ⟨q,hq,e⟩:=Jh8 (Jsj hr)
 have hok:=hl q hq
 unfold JgF at e
 by_cases ha:a=2
 ·rw [if_pos ha] at e;unfold Je6 at e;split at e
  ·cases e
  ·obtain rfl:=Option.some.inj e;obtain ⟨c0,h0,h1⟩:=List.mem_filterMap.1 hc;unfold Jhy at h1;split at h1
   ·rename_i h2
    obtain rfl:=Option.some.inj h1;obtain ⟨o1,o2⟩:=hok c0 h0;obtain ⟨s1,s2,s3⟩:=JyA o1 h2;exact ⟨by rw [s1];exact Jyz o2,((JoW o1 o2 (a:=0) Dc).2.2 h2).1,fun _=> s2,s3⟩
   ·cases h1
 ·rw [if_neg ha] at e;obtain rfl:=Option.some.inj e;obtain ⟨o1,o2⟩:=hok c hc;exact ⟨Jyz o2,o2.1,fun h=> absurd h ha,o1⟩
theorem Jme {p:Pol} {l:List TRow} (hc:∀r∈p.rules,∀c∈r.conds,c.ok) {a:Nat} {e:PEnt} (he:e∈(J8 p l).ents a) {r:PRul} (hr:r∈e.rules) {c:Cnd} (hcc:c∈r.conds):Jwt a c:=by
 obtain ⟨g,hg,h2⟩:=JeH he
 unfold JaX at h2
 split at h2
 ·cases h2
 ·rw [List.mem_singleton.1 h2] at hr;refine JAP (fun q hq=> ?_) hr hcc;obtain ⟨n,hn,rfl⟩:=List.mem_map.1 hq;rw [Jha hg] at hn;exact Jkt hc n (List.mem_filter.1 hn).1
theorem Ju0 {α:Type} {f:α→Nat} {l:List α} (h1:l.Pairwise fun a b=> f a≤f b) (h2:(l.map f).Nodup):(l.map f).Pairwise (· < ·):=by
 rw [List.pairwise_map]
 have h3:l.Pairwise fun a b=> f a≠f b:=List.pairwise_map.1 h2
 exact (h1.and h3).imp fun h=> Nat.lt_of_le_of_ne h.1 h.2
theorem JCz {p:Pol} {l:List TRow} (hv:(Jaf p l).2=0) {e:PEnt} (he:e∈(J8 p l).ents 2):e.num≠102∧e.num≠117:=by
 obtain ⟨g,hg,h2⟩:=JeH he
 obtain ⟨j,hj,r1,_⟩:=Jc8 (p:=p) (Jch hv) g hg
 obtain ⟨k1,k2⟩:=JeG h2
 rw [r1] at k1 k2
 have ht:=(JaC.1 hv).2.1
 have hb:=(JeB ((Jdz ht).2 j hj)).2.2.2.2.1
 have hn:=JdC ht (a:=2) hj
 rw [JeZ Om hn.1,if_neg Dc] at k2
 unfold Jjf at hb
 simp only [Bool.or_eq_false_iff,decide_eq_false_iff_not] at hb
 have e2:(l.getD j Jd).num 2=(l.getD j Jd).a2:=rfl
 omega
theorem Jju {p:Pol} {l:List TRow} (hv:(Jaf p l).2=0) {a:Nat} (ha:a < 5):((partsP (J8 p l) a).map Prt.num).Pairwise (· < ·):=by
 have hperm:(partsP (J8 p l) a).Perm (partsR (J8 p l) a):=List.mergeSort_perm _ _
 refine Ju0 ?_ ((hperm.map Prt.num).nodup_iff.2 ?_)
 ·exact (List.pairwise_mergeSort (le:=fun x y:Prt=> decide (x.num≤y.num)) (fun a b c h1 h2=> decide_eq_true (Nat.le_trans (of_decide_eq_true h1) (of_decide_eq_true h2))) (fun a b=> by simpa using Nat.le_total a.num b.num) _).imp fun h=> of_decide_eq_true h
 ·unfold partsR;have hn:(((J8 p l).ents a).map (·.num)).Nodup:=((JfO _).map _).nodup_iff.2 (Jjq (p:=Jh p) (JaC.1 hv).2.1 ha JfR (Jc8 (p:=p) (Jch hv)));have he:(((J8 p l).ents a).map Prt.ent).map Prt.num=((J8 p l).ents a).map (·.num):=by rw [List.map_map];rfl
  rw [List.map_append,he];by_cases h2:a=2
  ·subst h2;rw [if_pos rfl,List.nodup_append];refine ⟨hn,by decide,fun x hx y hy e=> ?_⟩;obtain ⟨z,hz,rfl⟩:=List.mem_map.1 hx;have:=JCz hv hz;subst e;have hy:z.num=102∨z.num=117:=by simpa [Prt.num] using hy
   omega
  ·rw [if_neg h2];simpa using hn
theorem Jnv {p:Pol} {l:List TRow} (hv:(Jaf p l).2=0) (k:Nat):(((J8 p l).subs k).map (·.num)).Pairwise (· < ·):=
 Ju0 (Jr3 _) (((JfP _).map _).nodup_iff.2 (Jjr (JaC.1 hv).2.1 JfR (Jc8 (p:=p) (Jch hv))))
structure Words (W:Nat→Nat) (r:Rec):Prop where
 num:W 0=r.num
 arch:W 4=r.arch
 low:∀i,i < 6→W (16+8 * i)=r.arg i % 4294967296
 high:∀i,i < 6→W (20+8 * i)=r.arg i / 4294967296
theorem JyB {W:Nat→Nat} {r:Rec} (hW:Words W r) {a:Nat} {c:Cnd} (h:Jwt a c) (y n:Nat):trueH W (hlvC c (a !=2) y n) c.op=hB (JbI a r) c:=by
 obtain ⟨h1,h2,h3⟩:=h
 obtain ⟨q1,q2,_⟩:=Jag.1 h2
 have hi:c.arg.toNat < 6:=by omega
 have hg: [JbI a r 0,JbI a r 1,JbI a r 2,JbI a r 3,JbI a r 4,JbI a r 5].getD c.arg.toNat 0=JbI a r c.arg.toNat:=by
  generalize c.arg.toNat=k at hi;rcases (by omega:k=0∨k=1∨k=2∨k=3∨k=4∨k=5) with rfl | rfl | rfl | rfl | rfl | rfl <;> rfl
 unfold hB
 rw [h2,Bool.true_and,hg]
 by_cases ha:a=2
 ·subst ha;show trueH W (hlvC c false y n) c.op=_;have hA:JbI 2 r c.arg.toNat=r.arg c.arg.toNat % 4294967296:=if_pos rfl;rw [hA];exact JAd h1 (hW.low _ hi) (Nat.mod_lt _ Dc) (h3.1 rfl)
 ·rw [show (a !=2)=true from bne_iff_ne.2 ha];have hA:JbI a r c.arg.toNat=r.arg c.arg.toNat:=if_neg ha;rw [hA];exact JxT h1 (hW.low _ hi) (hW.high _ hi)
theorem JDM {p:Pol} {l:List TRow} {W:Nat→Nat} {r:Rec} (hv:(Jaf p l).2=0) (hc:∀r∈p.rules,∀c∈r.conds,c.ok) (hW:Words W r):PlanT W (fun a c=> hB (JbI a r) c) (J8 p l):=
 ⟨Jnv hv,fun a ha=> Jju hv ha,fun a _ e he q hq c hcc y n=> JyB hW (Jme hc he hq hcc) y n⟩
theorem Jkv {W:Nat→Nat} {T:Cnd→Bool} {P:Plan} {a A:Nat} (hp:((partsP P a).map Prt.num).Pairwise (· < ·)) {z:Prt} (hz:z∈partsP P a) (he:z.num=A):Jeq W T P a A=Jh3 W T P z:=by
 obtain ⟨i,hi,e⟩:=List.getElem_of_mem hz
 have hg:(partsP P a).getD i z=z:=by simp [List.getD,hi,e]
 unfold Jeq
 rw [Jjj (z:=z) hi hp (by rw [← he];simp [List.getD,hi,e]),hg]
theorem JAQ {W:Nat→Nat} {T:Cnd→Bool} {P:Plan} {a A:Nat} (h:∀z∈partsP P a,z.num≠A):Jeq W T P a A=P.dflt:=by
 unfold Jeq
 refine Jji fun i hi e=> ?_
 have hm:(partsP P a)[i]∈partsP P a:=List.getElem_mem hi
 exact h _ hm (by rw [e];simp [List.getD,hi])
theorem Jjv {P:Plan} {a:Nat} {z:Prt}:z∈partsP P a↔z∈partsR P a:=(List.mergeSort_perm _ _).mem_iff
theorem Jsk {P:Plan} {a:Nat} {e:PEnt} (h:e∈P.ents a):Prt.ent e∈partsP P a:=Jjv.2 (List.mem_append_left _ (List.mem_map.2 ⟨e,h,rfl⟩))
theorem JiE {W:Nat→Nat} {P:Plan} {r:Rec} {a:Nat} (hp:((partsP P a).map Prt.num).Pairwise (· < ·)) (hk:a=2→r.num≠102∧r.num≠117):Jeq W (fun c=> hB (JbI a r) c) P a r.num=((P.ents a).findSome? (Jmd (JbI a r) r.num)).getD P.dflt:=by
 by_cases h:∃e∈P.ents a,e.num=r.num
 ·obtain ⟨e,he,hn⟩:=h;rw [Jkv hp (Jsk he) hn];show ((e.rules.find? fun q=> q.conds.all (hB (JbI a r))).map (·.code)).getD P.dflt=_;refine congrArg (fun o:Option Nat=> o.getD P.dflt) (JhG (fun e' he'=> ?_) fun _=> ⟨e,he,if_pos hn⟩).symm;by_cases h2:e'.num=r.num
  ·right
   have hu:e'=e:=by
    obtain ⟨i,hi,ei⟩:=List.getElem_of_mem (Jsk he);obtain ⟨j,hj,ej⟩:=List.getElem_of_mem (Jsk he');have key:∀i j (hi:i < (partsP P a).length) (hj:j < (partsP P a).length),i < j→((partsP P a)[i]).num < ((partsP P a)[j]).num:=fun i j hi hj hij=> by
     have:=List.pairwise_iff_getElem.1 hp i j (by simpa using hi) (by simpa using hj) hij;simpa using this
    have hij:i=j:=by
     rcases Nat.lt_trichotomy i j with q | q | q
     ·have:=key i j hi hj q;rw [ei,ej] at this;have:e.num < e'.num:=this;omega
     ·exact q
     ·have:=key j i hj hi q;rw [ei,ej] at this;have:e'.num < e.num:=this;omega
    subst hij;rw [ei] at ej
    injection ej with e2
    exact e2.symm
   rw [hu];exact if_pos hn
  ·exact .inl (if_neg h2)
 ·rw [JAQ fun z hz e=> ?_]
  ·rw [JhG (F:=Jmd (JbI a r) r.num) (o:=none) (fun e he=> .inl (if_neg fun q=> h ⟨e,he,q⟩)) (fun q=> absurd rfl q)];rfl
  ·rcases List.mem_append.1 (Jjv.1 hz) with hz | hz
   ·obtain ⟨y,hy,rfl⟩:=List.mem_map.1 hz;exact h ⟨y,hy,e⟩
   ·split at hz
    ·rename_i h2
     have:=hk h2;have hz:z= .sub 102 0∨z= .sub 117 1:=(by simpa using hz);rcases hz with rfl | rfl
     ·exact this.1 e.symm
     ·exact this.2 e.symm
    ·cases hz
theorem JDN (arch num:Nat):Jdp arch num=if arch=3221225534 then some (if Jeo num then 1 else 0) else if arch=1073741827 then some 2 else if arch=3221225655 then some 3 else if arch=3221225715 then some 4 else none:=by
 unfold Jdp infN
 simp only [List.find?_cons,Jn5,infL,List.getD_cons_zero,List.getD_cons_succ]
 by_cases h1:arch=3221225534
 ·subst h1;cases Jeo num <;> simp
 by_cases h2:arch=1073741827
 ·subst h2;simp
 by_cases h3:arch=3221225655
 ·subst h3;simp
 by_cases h4:arch=3221225715
 ·subst h4;simp
 rw [if_neg h1,if_neg h2,if_neg h3,if_neg h4]
 simp [Ne.symm h1,Ne.symm h2,Ne.symm h3,Ne.symm h4,Jb0]
theorem JDO (n:Nat):((n&&& 1073741824) !=0)=decide (n / 1073741824 % 2=1):=by
 have h:n&&& 1073741824=(n / 1073741824 % 2) * 1073741824:=by
  have h1:=Nat.and_div_two_pow (a:=n) (b:=1073741824) (n:=30);have h2:=Nat.and_mod_two_pow (a:=n) (b:=1073741824) (n:=30);rw [show (1073741824:Nat) / 2 ^ 30=1 from rfl,Nat.and_one_is_mod] at h1;rw [show (1073741824:Nat) % 2 ^ 30=0 from rfl,Nat.and_zero] at h2;have e:(2:Nat) ^ 30=1073741824:=rfl;rw [e] at h1 h2;omega
 rw [h,Bool.eq_iff_iff]
 simp only [bne_iff_ne,ne_eq,decide_eq_true_eq]
 have:=Nat.mod_two_eq_zero_or_one (n / 1073741824)
 omega
theorem JAR {p:Pol} {l:List TRow} (hv:(Jaf p l).2=0) {e:PEnt} (he:e∈(J8 p l).ents 0):e.num < 1073741824:=by
 obtain ⟨g,hg,h2⟩:=JeH he
 obtain ⟨j,hj,r1,_⟩:=Jc8 (p:=p) (Jch hv) g hg
 obtain ⟨k1,k2⟩:=JeG h2
 rw [r1] at k1 k2
 have hn:=JdC (JaC.1 hv).2.1 (a:=0) hj
 rw [JeZ Om hn.1,if_neg Dc] at k2
 omega
theorem JAS {p:Pol} {l:List TRow} {W:Nat→Nat} {r:Rec} (hv:(Jaf p l).2=0) (hW:Words W r):Jd9 W (fun a c=> hB (JbI a r) c) (J8 p l)=byP (J8 p l) r:=by
 have hp:=fun a (ha:a < 5)=> Jju (p:=p) hv (l:=l) (a:=a) ha
 unfold Jd9 byP
 rw [hW.arch,JDN]
 by_cases h1:r.arch=3221225534
 ·rw [if_pos h1,if_pos h1];show Job W (fun c=> hB (JbI 0 r) c) (J8 p l) (W 0)=_;rw [hW.num];unfold Job;have hw:Jeo r.num=(decide (r.num≠4294967295)&& decide (r.num / 1073741824 % 2=1)):=JlV _;rw [JDO];by_cases hf:r.num=4294967295
  ·rw [if_pos hf,hw,decide_eq_false (by omega:¬r.num≠4294967295),Bool.false_and];show _=(if 0=1∧_ then _ else if 0 < Jcp 0 r.num then _ else _);rw [if_neg (fun q=> by cases q.1),if_neg (by unfold Jcp;rw [if_neg Dc];decide)];show (J8 p l).dflt=(((J8 p l).ents 0).findSome? (Jmd (JbI 0 r) r.num)).getD (J8 p l).dflt;rw [JhG (F:=Jmd (JbI 0 r) r.num) (o:=none) (fun e he=> .inl (if_neg fun q=> by have:=JAR hv he;omega)) (fun q=> absurd rfl q)];rfl
  ·rw [if_neg hf,hw,decide_eq_true (by omega:r.num≠4294967295),Bool.true_and];by_cases hb:r.num / 1073741824 % 2=1
   ·rw [if_pos (decide_eq_true hb),if_pos (decide_eq_true hb)];show _=(if 1=1∧_ then _ else if 0 < Jcp 1 r.num then _ else _);cases hx:(J8 p l).x32
    ·rw [if_neg Bool.false_ne_true,if_pos ⟨rfl,rfl⟩];rfl
    ·rw [if_pos rfl,if_neg (fun q=> by cases q.2),if_neg (by unfold Jcp;rw [if_neg Dc];decide)];exact JiE (a:=1) (hp 1 Dc) (fun q=> by cases q)
   ·rw [if_neg (by simpa using hb),if_neg (by simpa using hb)];show _=(if 0=1∧_ then _ else if 0 < Jcp 0 r.num then _ else _);rw [if_neg (fun q=> by cases q.1),if_neg (by unfold Jcp;rw [if_neg Dc];decide)];exact JiE (a:=0) (hp 0 Dc) (fun q=> by cases q)
 rw [if_neg h1,if_neg h1]
 by_cases h2:r.arch=1073741827
 ·rw [if_pos h2,if_pos h2];show Jeq W (fun c=> hB (JbI 2 r) c) (J8 p l) 2 (W 0)=(if 2=1∧_ then _ else if 0 < Jcp 2 r.num then _ else _);rw [hW.num,if_neg (fun q=> by cases q.1)];have hk:Jcp 2 r.num=Jgk r.num:=if_pos rfl;rw [hk];have h16:W 16=r.a0 % 4294967296:=hW.low 0 Dc;by_cases hs:r.num=102
  ·rw [hs,Jkv (A:=102) (z:= .sub 102 0) (hp 2 Dc) (Jjv.2 (List.mem_append_right _ Si)) rfl];show ((_:List PSub).findSome? _).getD _=(if 0 < Jgk 102 then (((J8 p l).subs (Jgk 102 - 1)).findSome? _).getD _ else _);rw [h16];rfl
  by_cases hi:r.num=117
  ·rw [hi,Jkv (A:=117) (z:= .sub 117 1) (hp 2 Dc) (Jjv.2 (List.mem_append_right _ Si)) rfl];show ((_:List PSub).findSome? _).getD _=(if 0 < Jgk 117 then (((J8 p l).subs (Jgk 117 - 1)).findSome? _).getD _ else _);rw [h16];rfl
  have hk0:Jgk r.num=0:=by unfold Jgk;rw [if_neg hs,if_neg hi]
  rw [hk0,if_neg (Nat.lt_irrefl _)];exact JiE (a:=2) (hp 2 Dc) (fun _=> ⟨hs,hi⟩)
 rw [if_neg h2,if_neg h2]
 by_cases h3:r.arch=3221225655
 ·rw [if_pos h3,if_pos h3];show Jeq W (fun c=> hB (JbI 3 r) c) (J8 p l) 3 (W 0)=(if 3=1∧_ then _ else if 0 < Jcp 3 r.num then _ else _);rw [hW.num,if_neg (fun q=> by cases q.1),if_neg (by unfold Jcp;rw [if_neg Dc];decide)];exact JiE (a:=3) (hp 3 Dc) (fun q=> by cases q)
 rw [if_neg h3,if_neg h3]
 by_cases h4:r.arch=3221225715
 ·rw [if_pos h4,if_pos h4];show Jeq W (fun c=> hB (JbI 4 r) c) (J8 p l) 4 (W 0)=(if 4=1∧_ then _ else if 0 < Jcp 4 r.num then _ else _);rw [hW.num,if_neg (fun q=> by cases q.1),if_neg (by unfold Jcp;rw [if_neg Dc];decide)];exact JiE (a:=4) (hp 4 Dc) (fun q=> by cases q)
 rw [if_neg h4,if_neg h4];rfl
structure ItsOk (l:List Itm):Prop where
 nd:(marksO l).Nodup
 tg:tgtOk (fun _=> False) l
 sh:∀x∈l,shape x
theorem ItsOk.mem {l:List Itm} {i:Nat} (h:i < l.length):l.getD i it0∈l:=by simp [List.getD,h]
theorem ItsOk.jump {l:List Itm} (h:ItsOk l) {i t:Nat} (hi:i < l.length) (ht:t=(l.getD i it0).t∨t=(l.getD i it0).f) (h0:t≠0) (W:Nat→Nat):∃j,i < j∧j < l.length∧(l.getD j it0).mark=t∧(Jp W (l.drop (i+1)) JbO).2 t=(Jp W (l.drop j) JbO).1:=by
 have htg:=JrN i h.tg
 rw [List.drop_eq_getElem_cons hi] at htg
 have htg:=htg.1
 rw [show l[i]=l.getD i it0 by simp [List.getD,hi]] at htg
 rcases htg t ht h0 with ⟨y,hy,e⟩ | e
 ·obtain ⟨j,hj,ej⟩:=List.getElem_of_mem hy;have hj2:i+1+j < l.length:=by rw [List.length_drop] at hj;omega
  have e3:l.getD (i+1+j) it0=y:=by rw [← ej,List.getElem_drop];simp [List.getD,hj2]
  refine ⟨i+1+j,Om,hj2,by rw [e3];exact e, ?_⟩;have hlb:=JxZ W (s:=JbO) (k:=t) h0 (l:=l.drop (i+1)) (j:=j) hj (by rw [show (l.drop (i+1)).getD j it0=y from (by rw [List.getD_eq_getElem?_getD,List.getElem?_eq_getElem hj];exact ej)];exact e) (Jv8 _ h.nd);rw [hlb,List.drop_drop,← Nat.add_assoc,Jx0 W hj2,e3,if_neg (by rw [e];exact h0)]
 ·exact e.elim
theorem ItsOk.once {l:List Itm} (h:(marksO l).Nodup) {i j:Nat} (hi:i < l.length) (hj:j < l.length) (h0:(l.getD i it0).mark≠0) (e:(l.getD j it0).mark=(l.getD i it0).mark):j=i:=by
 have key:∀(l:List Itm),(marksO l).Nodup→∀i j,i < j→j < l.length→(l.getD i it0).mark≠0→(l.getD j it0).mark≠(l.getD i it0).mark:=fun l=> by
  induction l with
  | nil=> intro _ i j _ hj;cases hj
  | cons x l ih=>
    intro hn i j hij hj h0 e;obtain ⟨j,rfl⟩:∃k,j=k+1:=⟨j - 1,Om⟩;have hj':j < l.length:=(by simpa using hj);have e:(l.getD j it0).mark=_:=e;cases i with
    | zero=>
      have h0:x.mark≠0:=h0;have e:(l.getD j it0).mark=x.mark:=e;have h2:marksO (x::l)=x.mark::marksO l:=(by unfold marksO;rw [List.map_cons,List.filter_cons,if_pos (by simpa using h0)]);rw [h2] at hn;exact (List.nodup_cons.1 hn).1 (Jcb.2 ⟨h0,_,(by simp [List.getD,hj']:l.getD j it0∈l),e⟩)
    | succ i=>
      refine ih ?_ i j Om hj' h0 e;unfold marksO at hn⊢;rw [List.map_cons,List.filter_cons] at hn;split at hn
      ·exact (List.nodup_cons.1 hn).2
      ·exact hn
 rcases Nat.lt_trichotomy i j with q | q | q
 ·exact absurd e (key l h i j q hj h0)
 ·exact q.symm
 ·exact absurd e.symm (key l h j i q hi (by rw [e];exact h0))
theorem Jsl {W:Nat→Nat} {T:Nat→Cnd→Bool} {P:Plan} (hP:PlanT W T P) (hT:T 1=T 0) (hc:∀a,∀e∈P.ents a,∀r∈e.rules,∀c∈r.conds,Jd3 c):ItsOk (JaI P)∧(Jp W (JaI P) JbO).1 0=some (Jd9 W T P):=
 ⟨⟨(JgZ hP hT).2.1,(JgZ hP hT).2.2.1,JxY hc (JgZ hP hT).2.2.2⟩,(JgZ hP hT).1⟩
def szM (m:Mk):Nat:=m.l.length+m.n+2 * m.b.length
theorem Jec (m:Mk) (D:List Itm):szM (JE m D)=szM m+D.length:=by unfold szM JE;simp;omega
theorem Jk6 (m:Mk):szM (Jz m)=szM m+1:=by unfold szM Jz;simp;omega
theorem JiF (m:Mk) (k:Nat):szM (J3 m k)=szM m+1:=Jec _ _
theorem JiG (m:Mk) (c:Nat):szM (JB m c).2≤szM m+3:=by
 unfold JB szM
 cases Jcy m.b c with
 | some k=> exact Nat.le_add_right _ _
 | none=> dsimp only;rw [List.length_append,List.length_singleton];omega
theorem JAT (h:Hlv) (op:Int):(Jfr h op).length≤6:=by
 unfold Jfr
 repeat' split
 all_goals simp [Jdv,Jcn,Jcz,Jbp,JeT,Jdl]
theorem Jsm {w:Bool} {n:Nat}:∀(cs:List Cnd) (m:Mk),szM (J7 w n m cs)≤szM m+8 * cs.length
 | [],m=> Nat.le_refl _
 | c::cs,m=> by
   have h:=Jsm (w:=w) (n:=n) cs (J3 (Jdw (Jz m) c w (m.n+1) n) (m.n+1));have h2:szM (Jdw (Jz m) c w (m.n+1) n)≤szM m+7:=by
    unfold Jdw;rw [JrH];have:=JAT (hlvC c w (m.n+1) n) c.op;have e:=Jec (Jz m) (Jfr (hlvC c w (m.n+1) n) c.op);have e2:=Jk6 m;have e:szM ⟨(Jz m).l++Jfr (hlvC c w (m.n+1) n) c.op,(Jz m).n,(Jz m).b⟩=_:=e;omega
   rw [JiF] at h;rw [List.length_cons];exact Nat.le_trans h Om
theorem JCA {w:Bool} {m:Mk} {r:PRul} (h:r.conds.length≤12):szM (JaV w m r)≤szM m+102:=by
 have h1:=Jsm (w:=w) (n:=m.n+1) r.conds (Jz m)
 have h2:=JiG (J7 w (m.n+1) (Jz m) r.conds) r.code
 have h3:=Jk6 m
 show szM (J3 (JE _ [_]) _)≤_
 rw [JiF,Jec,List.length_singleton]
 omega
theorem Ju1 {α:Type} {f:Mk→α→Mk} {C:Nat} {ok:α→Prop} (hf:∀m x,ok x→szM (f m x)≤szM m+C):∀(l:List α) (m:Mk),(∀x∈l,ok x)→szM (l.foldl f m)≤szM m+C * l.length
 | [],m,h=> Nat.le_refl _
 | x::l,m,h=> by
   have h1:=Ju1 hf l (f m x) fun y hy=> h y (List.mem_cons_of_mem _ hy);have h2:=hf m x (h x (List.mem_cons_self ..));rw [List.length_cons,Nat.mul_succ];exact Nat.le_trans h1 Om
theorem JAU {w:Bool} {o:Nat} {m:Mk} {l:List PRul} (hl:l.length≤40) (h:∀r∈l,r.conds.length≤12):szM (Jd7 w o m l)≤szM m+4081:=by
 have h1:=Ju1 (f:=JaV w) (C:=102) (ok:=fun r=> r.conds.length≤12) (fun m r hr=> JCA hr) l m h
 have h2:102 * l.length≤102 * 40:=Nat.mul_le_mul_left _ hl
 show szM (JE _ [_])≤_
 rw [Jec,List.length_singleton]
 omega
theorem Jol {marks:List Nat} {o:Nat}:∀(N:Nat) (l:List Nat) (pl:Nat) (m:Mk),l.length≤N→0 < l.length→szM (JbG marks o l pl m)+3≤szM m+4 * l.length
 | 0,l,pl,m,h,h0=> by omega
 | N+1,l,pl,m,h,h0=> by
   rw [JbG];split
   ·rw [Jec];show szM m+1+3≤_;omega
   ·have e1:(l.take (l.length / 2)).length=l.length / 2:=(by simp;omega);have e2:(l.drop (l.length / 2)).length=l.length - l.length / 2:=(by simp);have h1:=Jol (marks:=marks) (o:=o) N (l.take (l.length / 2)) pl (JE (Jz m) [⟨0,0x35,l.getD (l.length / 2) 0,m.n+1,0⟩]) Om Om;have h2:=Jol (marks:=marks) (o:=o) N (l.drop (l.length / 2)) (pl+l.length / 2) (J3 (JbG marks o (l.take (l.length / 2)) pl (JE (Jz m) [⟨0,0x35,l.getD (l.length / 2) 0,m.n+1,0⟩])) (m.n+1)) Om Om;rw [JiF] at h2;rw [Jec,Jk6] at h1;rw [e1] at h1;rw [e2] at h2;have h1:szM (JbG marks o (l.take (l.length / 2)) pl (JE (Jz m) [⟨0,0x35,l.getD (l.length / 2) 0,m.n+1,0⟩]))+3≤szM m+1+1+4 * (l.length / 2):=h1;omega
theorem JpD {marks:List Nat} {o:Nat} {l:List Nat} {m:Mk}:szM (JaA marks o l m)≤szM m+4 * l.length+1:=by
 unfold JaA
 split
 ·rw [Jec];show szM m+1≤_;omega
 ·have:=Jol (marks:=marks) (o:=o) l.length l 0 m (Nat.le_refl _) (List.length_pos_iff.2 (by assumption));omega
theorem JpE:∀(l:List PSub) (m:Mk),szM (Jad m l).2≤szM m+3 * l.length
 | [],m=> Nat.le_refl _
 | s::l,m=> by
   have h1:=JpE l (JB m s.code).2;have h2:=JiG m s.code;rw [List.length_cons];exact Nat.le_trans h1 Om
structure PlanS (P:Plan):Prop where
 ents:∀a,(P.ents a).length≤40
 rules:∀a,∀e∈P.ents a,e.rules.length≤40
 conds:∀a,∀e∈P.ents a,∀r∈e.rules,r.conds.length≤12
 subs:∀k,(P.subs k).length≤40
theorem JCB {P:Plan} (hP:PlanS P) {a o:Nat} {m:Mk} {x:Prt} (hx:x∈partsP P a):szM (Jdx P a o m x)≤szM m+4081:=by
 cases x with
 | ent e=> exact JAU (hP.rules a e (Jki hx)) (hP.conds a e (Jki hx))
 | sub n k=>
   have h1:=JpE (P.subs k) (JE m [⟨0,0x20,16,0,0⟩]);have h2:=Jec m [⟨0,0x20,16,0,0⟩];have h3:=JpD (marks:=(Jad (JE m [⟨0,0x20,16,0,0⟩]) (P.subs k)).1) (o:=o) (l:=(P.subs k).map (·.num)) (m:=(Jad (JE m [⟨0,0x20,16,0,0⟩]) (P.subs k)).2);have h4:=hP.subs k;rw [List.length_map] at h3;show szM (JaA _ _ _ _)≤_;have h2:szM (JE m [⟨0,0x20,16,0,0⟩])=szM m+1:=h2;omega
theorem Jsn {β:Type} {f:Mk→β→Mk} {C:Nat} {ok:β→Prop} (hf:∀m x,ok x→szM (f m x)≤szM m+C):∀(l:List (Nat×β)) (m:Mk),(∀x∈l,ok x.2)→szM (JbY f m l)≤szM m+(C+1) * l.length
 | [],m,h=> Nat.le_refl _
 | x::l,m,h=> by
   have h1:=Jsn hf l (f (J3 m x.1) x.2) fun y hy=> h y (List.mem_cons_of_mem _ hy);have h2:=hf (J3 m x.1) x.2 (h x (List.mem_cons_self ..));rw [JiF] at h2;rw [List.length_cons,Nat.mul_succ];exact Nat.le_trans h1 Om
theorem JpF {P:Plan} (hP:PlanS P) (a:Nat):(partsP P a).length≤42:=by
 have h1:=(List.mergeSort_perm (partsR P a) fun x y=> decide (x.num≤y.num)).length_eq
 show (List.mergeSort _ _).length≤_
 rw [h1]
 unfold partsR
 rw [List.length_append,List.length_map]
 have:=hP.ents a
 split
 ·show _+2≤_;omega
 ·show _+0≤_;omega
theorem Jjw {P:Plan} (hP:PlanS P) (m:Mk) (a:Nat):szM (Ja6 P m a)≤szM m+172000:=by
 have hl:=JpF hP a
 have hg:=JiG m P.dflt
 unfold Ja6
 dsimp only
 generalize JB m P.dflt = g at *
 have h1:=JpD (marks:=(List.range (partsP P a).length).map fun i=> g.2.n+1+i) (o:=g.1) (l:=(partsP P a).map Prt.num) (m:=⟨g.2.l,g.2.n+(partsP P a).length,g.2.b⟩)
 have h2:=Jsn (f:=Jdx P a g.1) (C:=4081) (ok:=fun x=> x∈partsP P a) (fun m x hx=> JCB hP hx) (((List.range (partsP P a).length).map fun i=> g.2.n+1+i).zip (partsP P a)) (JaA ((List.range (partsP P a).length).map fun i=> g.2.n+1+i) g.1 ((partsP P a).map Prt.num) ⟨g.2.l,g.2.n+(partsP P a).length,g.2.b⟩) fun x hx=> (List.of_mem_zip (a:=x.1) (b:=x.2) hx).2
 have h3:(((List.range (partsP P a).length).map fun i=> g.2.n+1+i).zip (partsP P a)).length=(partsP P a).length:=by simp
 rw [h3] at h2
 rw [List.length_map] at h1
 have h4:szM ⟨g.2.l,g.2.n+(partsP P a).length,g.2.b⟩=szM g.2+(partsP P a).length:=by unfold szM;dsimp only;omega
 have h5:(4081+1) * (partsP P a).length≤(4081+1) * 42:=Nat.mul_le_mul_left _ hl
 refine Nat.le_trans h2 ?_
 omega
theorem JDP {P:Plan} (hP:PlanS P) (m:Mk):szM (JeA P m)≤szM m+344020:=by
 have hg:=JiG m P.dflt
 unfold JeA
 dsimp only
 generalize JB m P.dflt = g at *
 have h1:szM (JE g.2 [⟨0,0x15,4294967295,g.1,0⟩])=szM g.2+1:=Jec _ _
 generalize JE g.2 [(⟨0, 0x15, 4294967295, g.1, 0⟩ : Itm)] = m1 at *
 split
 ·have h2:=Jjw hP (JE (Jz m1) [⟨0,0x45,1073741824,m1.n+1,0⟩]) 0;have h3:=Jjw hP (J3 (Ja6 P (JE (Jz m1) [⟨0,0x45,1073741824,m1.n+1,0⟩]) 0) (m1.n+1)) 1;rw [JiF] at h3;have h4:szM (JE (Jz m1) [⟨0,0x45,1073741824,m1.n+1,0⟩])=szM (Jz m1)+1:=Jec _ _;rw [Jk6] at h4;omega
 ·have h2:=JiG m1 2147483648;have h3:=Jjw hP (JE (JB m1 2147483648).2 [⟨0,0x45,1073741824,(JB m1 2147483648).1,0⟩]) 0;have h4:szM (JE (JB m1 2147483648).2 [⟨0,0x45,1073741824,(JB m1 2147483648).1,0⟩])=szM (JB m1 2147483648).2+1:=Jec _ _;omega
theorem JyC {P:Plan} (hP:PlanS P):szM (Jat P)≤1400000:=by
 have h:=Jsn (f:=JbN P) (C:=344021) (ok:=fun _=> True) (fun m a _=> by
  have h1:szM (JE m [⟨0,0x20,0,0,0⟩])=szM m+1:=Jec _ _;unfold JbN;split
  ·have:=JDP hP (JE m [⟨0,0x20,0,0,0⟩]);omega
  ·have:=Jjw hP (JE m [⟨0,0x20,0,0,0⟩]) a;omega) [(1,0),(2,2),(3,3),(4,4)] frontM (fun _ _=> trivial)
 have h0:szM frontM=13:=by rw [JcG];rfl
 rw [h0] at h
 exact Nat.le_trans h Dc
theorem JCC {P:Plan} (hP:PlanS P):(Jat P).b.length≤1000000:=by
 have h:=JyC hP
 unfold szM at h
 omega
theorem Jso:∀(l:List (Nat×Nat)) (m:Mk),(l.foldl JbZ m).n=m.n∧(l.foldl JbZ m).l.length=m.l.length+2 * l.length
 | [],m=> ⟨rfl,rfl⟩
 | x::l,m=> by
   have h:=Jso l (JbZ m x);refine ⟨h.1,h.2.trans ?_⟩;show (m.l++ [_]++ [_]).length+_=_;simp;omega
theorem Jsp {P:Plan} (hP:PlanS P):((JbV (Jat P).b).foldl JbZ (Jat P)).fits:=by
 have h:=JyC hP
 have h1:=Jso (JbV (Jat P).b) (Jat P)
 have h2:(JbV (Jat P).b).length=(Jat P).b.length:=List.length_mergeSort _
 unfold szM at h
 exact ⟨by rw [h1.2,h2];omega,by rw [h1.1];omega⟩
theorem JtV (l:List Cnd):NoId (Jaz l):=NoId.sl fun i _ c hc=> by
 simp only [JZ,AV.cells,List.mem_cons,List.not_mem_nil,or_false] at hc
 rcases hc with rfl | rfl | rfl | rfl <;> exact NoId.v _
theorem Jsq (ts:List Cnd) (hl:ts.length≤1000000):Tells Tryz.prog 68 [Jaz ts] (Jaz ts):=by
 refine Jc Tryz.func68 rfl rfl fun nx=> ?_
 refine Z ?_
 refine Jq7 (e:=150) rfl (.inl rfl) Kr (.inl rfl) fun c hc=> ?_
 cases c
 ·refine Z ?_
  (conv=> whnf)
  refine Jvu (fun hm=> ?_) fun hm=> ?_
  ·refine Z ?_;obtain rfl:ts= []:=List.eq_nil_of_length_eq_zero hm;exact Jk rfl Tt AVle.os_sl0
  ·refine ⟨fun k hk=> rfl,by show (0+ts.length) * 32≤_;omega,Om, ?_⟩;refine Z ?_;have e5:0+ts.length=ts.length:=Nat.zero_add _;refine Jk rfl trivial ?_;exact AVle.trans (b:= .os 4 ts.length (Jwm ts) (some (0,nx))) (AVle.trans (b:= .os 4 (0+ts.length) (Jwm ts) (some (0,nx))) (AVle.os_fun fun k hk=> rfl) (AVle.of_eq (by rw [e5]))) AVle.os_sl
 ·obtain rfl:ts= []:=List.eq_nil_of_length_eq_zero (hc rfl);refine Z ?_;exact Jk rfl Tt AVle.os_sl0
def JdK (l:List PRul):Nat→AV:=fun k=> Jer (l.getD k JI)
theorem JAV {L:List PRul} {m:Nat} (hm:m≤L.length):AVle (.sl 2 m (JdK L)) (J6 (L.take m)):=by
 unfold J6 JK
 rw [List.length_take,Nat.min_eq_left hm]
 refine AVle.sl_fun fun k hk=> ?_
 show Jer (L.getD k JI)=Jer ((L.take m).getD k JI)
 rw [show (L.take m).getD k JI=L.getD k JI by simp [List.getD,List.getElem?_take,hk]]
theorem Jwu {a:Nat} {l:List PRul} {i:Nat} (hi:i < l.length):Jdn a (l.drop i)=match JgF a (l.getD i JI) with
 | none=> Jdn a (l.drop (i+1))
 | some q=> if q.conds.length=0 then [q] else q::Jdn a (l.drop (i+1)):=by
 rw [List.drop_eq_getElem_cons hi,show l.getD i JI=l[i] by simp [List.getD,hi]]
 rfl
theorem Jnw:Tryz.prog.bytesOf 88=32:=by kernel_rfl
theorem JCD {r q:PRul} (h:Je6 r=some q):q.conds.length≤r.conds.length∧q.code=r.code:=by
 unfold Je6 at h
 split at h
 ·cases h
 ·cases h;exact ⟨List.length_filterMap_le _ _,rfl⟩
theorem JCE {a:Nat} {r q:PRul} (h:JgF a r=some q):q.conds.length≤r.conds.length∧q.code=r.code:=by
 unfold JgF at h
 split at h
 ·exact JCD h
 ·cases h;exact ⟨Nat.le_refl _,rfl⟩
def JyD (nx:Nat):Option PRul→List (Vl.Id×Own)
 | none=> [((0,nx), .c [Jaz [],u32 0])]
 | some q=> [((0,nx), .c [Jaz q.conds,u32 (q.code:Nat)])]
theorem JyE (a:Nat) (l:List PRul) (d:Nat) (ha:a < 5) (hl:l.length≤1000000) (hc:∀r∈l,r.conds.length≤1000000∧∀c∈r.conds,c.ok):Tells Tryz.prog 22 [int a,J6 l,u32 (d:Nat)] (J6 (Jcq a l d)):=by
 refine Jc Tryz.func22 rfl rfl fun nx=> ?_
 refine Z ?_
 refine Jbj (fun y:List PRul×Option Nat×Nat=> mk 62 [(0,int a),(2,u32 (d:Nat)),(7, .os 2 y.1.length (JdK y.1) (nmd y.2.1))] ⟨[],Jam (nmd y.2.1) (y.1.length * 2),y.2.2,0⟩) (fun y=> y.1=Jdn a l∧(y.2.1=none→y.1= [])∧y.1.length≤l.length) ?_ ?_
 ·refine Js (fun y:Nat×List PRul×Option Nat×Nat=> mk 62 [(0,int a),(2,u32 (d:Nat)),(7, .os 2 y.2.1.length (JdK y.2.1) (nmd y.2.2.1)),(11,J6 l),(12,int l.length),(13,int y.1)] ⟨[],Jam (nmd y.2.2.1) (y.2.1.length * 2),y.2.2.2,0⟩)
   (fun y=> y.1≤l.length∧y.2.1++Jdn a (l.drop y.1)=Jdn a l∧(y.2.2.1=none→y.2.1= [])∧y.2.1.length≤y.1) (fun y=> l.length - y.1) ?_ ?_
  ·exact ⟨(0, [],none,nx),⟨Nat.zero_le _,rfl,fun _=> rfl,Nat.le_refl _⟩,Je (pm:= []) (bx:= []) _ [] rfl rfl Sf Sf Tt Tt ⟨Rf,Rf,AVle.os_nil,Y3⟩⟩
  ·rintro ⟨i,L,oi,nx1⟩ ⟨h1,hL,h2,h3⟩;dsimp only at h1 hL h2 h3;refine Z ?_;intro c g;cases c
   ·have g:=Jw g;try dsimp only at g
    have hi:i=l.length:=(by omega);subst hi;rw [List.drop_length] at hL;refine Z ?_;exact ⟨(L,oi,nx1),⟨by rw [← hL];exact (List.append_nil _).symm,h2,h3⟩,Et rfl rfl Tt Pf Y3⟩
   ·have g:=Ju g;try dsimp only at g
    have hi:i < l.length:=(by omega);have hnx:=Jwu (a:=a) hi;have hr:l.getD i JI∈l:=(by simp [List.getD,hi]);have hn:=Joh (l.getD i JI) (hc _ hr).2 (hc _ hr).1;have hcl:=(hc _ hr).1;rw [hnx] at hL;clear hnx;refine Z ?_;refine ⟨Bd, ?_⟩;refine Z ?_;intro c6 hc6;refine Z ?_;refine JmL (fun y:Option PRul×Nat=> mk 62 [(0,int a),(2,u32 (d:Nat)),(7, .os 2 L.length (JdK L) (nmd oi)),(9, .bp (0,nx1) 0),(10,Ji y.1.isSome),(11,J6 l),(12,int l.length),(13,int i)] ⟨JyD nx1 y.1,Jam (nmd oi) (L.length * 2),y.2,1⟩) (fun y=> y.1=JgF a (l.getD i JI)) ?_ ?_
    ·cases c6
     ·have ha2:a≠2:=fun e=> by subst e;cases hc6
      refine Z ?_;exact ⟨(some (l.getD i JI),nx1+1),(if_neg ha2).symm,Et rfl rfl Bf Pf Y8⟩
     ·have ha2:a=2:=by
       have:=of_decide_eq_true (p:=(a:Int)=2) hc6.symm;omega
      refine Z ?_;refine Ja rfl rfl hn Y1 fun nx2=> ?_;have hab:JgF a (l.getD i JI)=Je6 (l.getD i JI):=if_pos ha2;rw [hab];cases Je6 (l.getD i JI) with
      | none=>
        refine Z ?_;exact ⟨(none,nx2),rfl,Et rfl rfl Bf Pf Y8⟩
      | some q=>
        refine Z ?_;exact ⟨(some q,nx2),rfl,Et rfl rfl Bf Pf Y8⟩
    ·rintro ⟨oq,nx3⟩ hoq;dsimp only at hoq;rw [← hoq] at hL;cases oq with
     | none=>
       dsimp only at hL;refine Z ?_;exact back (i+1,L,oi,nx3) ⟨hi,hL,h2,Dm⟩ Dm (Je _ _ rfl rfl (.cons _ Sf) Sf Tt Pf ⟨Rf,Rf,Rf,Rf,Rf,Lw,Tt⟩)
     | some q=>
       dsimp only at hL;have hqc:=(JCE hoq.symm).1;have hcq:=Jsq q.conds Om;refine Z ?_;refine Jav 9 (JyD nx1 (some q)) (Ef [8]) (Ef [3]) [0,1,2,3,4,5,6,7,8] Kr Kr (HB.refl _) ?_;refine Z ?_;refine ⟨_,J2 rfl rfl rfl hcq Y1 (JtV _), ?_⟩;refine Z ?_;refine ⟨_,JbB (e:=88) (c:=2) (pm:= []) (n:=L.length) (oi:=nmd oi) (sz:=2) (f:=JdK L) (HB.refl _) rfl rfl rfl (.inr ⟨_,rfl⟩) Kr Kr Kr (.inr rfl) Kr (List.append_nil _).symm (JM rfl) (by rw [Jnw];omega) Om,fun r h' hr=> ?_⟩;obtain ⟨rfl,rfl⟩:=hr;refine Z ?_;intro c e;cases c
       ·have hne:¬q.conds.length=0:=fun h=> by
         have:=of_decide_eq_false (p:=(q.conds.length:Int)=0) e.symm;omega
        rw [if_neg hne] at hL;refine Z ?_;exact back (i+1,L++ [q],some nx3,nx3+1) ⟨hi,by dsimp only;rw [List.append_assoc];exact hL,(fun h=> by cases h),by dsimp only;rw [List.length_append,List.length_singleton];omega⟩ Dm (Je (bx:= []) (pm:= [((0,nx3),(L++ [q]).length * 2)]) _ _ rfl rfl (.cons _ Sf) Sf Tt ⟨rfl,by rw [List.length_append];rfl,Tt⟩ ⟨Rf,Rf,Jf6 (e:=Jer) rfl rfl,Rf,Rf,Lw,Tt⟩)
       ·have he:q.conds.length=0:=by
         have:=of_decide_eq_true (p:=(q.conds.length:Int)=0) e.symm;omega
        rw [if_pos he] at hL;refine Z ?_;exact ⟨(L++ [q],some nx3,nx3+1),⟨hL,(fun h=> by cases h),by dsimp only;rw [List.length_append,List.length_singleton];omega⟩,Je (bx:= []) (pm:= [((0,nx3),(L++ [q]).length * 2)]) _ _ rfl rfl (.cons _ Sf) Sf Tt ⟨rfl,by rw [List.length_append];rfl,Tt⟩ ⟨Rf,Rf,Jf6 (e:=Jer) rfl rfl,Tt⟩⟩
 ·rintro ⟨L,oi,nx1⟩ ⟨hL,h2,h3⟩;dsimp only at hL h2 h3;refine Z ?_;refine Js (fun y:Nat×Nat=> mk 62 [(2,u32 (d:Nat)),(7, .sl 2 y.1 (JdK L))] ⟨[], [],y.2,0⟩)
   (fun y=> y.1≤L.length∧JgG d L=JgG d (L.take y.1)) (fun y=> y.1) ?_ ?_
  ·exact ⟨(L.length,nx1),⟨Nat.le_refl _,by rw [List.take_length]⟩,Je (pm:= []) (bx:= []) _ [] rfl rfl Sf (List.nil_sublist _) Tt Tt ⟨Rf,AVle.os_sl,Tt⟩⟩
  ·rintro ⟨m,nx2⟩ ⟨hm,hcut⟩;dsimp only at hm hcut;refine Z ?_;intro c g;cases c
   ·have g:=Jw g;try dsimp only at g
    have hm0:m=0:=(by omega);subst hm0;have hS:Jcq a l d= []:=(by unfold Jcq;rw [← hL,hcut];rfl);rw [hS];refine Z ?_;exact Jk rfl Tt (AVle.sl_fun fun k hk=> absurd hk (Nat.not_lt_zero k))
   ·have g:=Ju g;try dsimp only at g
    have hm0:0 < m:=(by omega);have hm1:IntKind.i64.wrap ((m:Int) - 1)=((m - 1:Nat):Int):=(by rw [Jq Om Om];omega);have htk:L.take m=L.take (m - 1)++ [L.getD (m - 1) JI]:=by
     obtain ⟨k,rfl⟩:∃k,m=k+1:=⟨m - 1,Om⟩;exact JaP JI Om
    refine Z ?_;refine ⟨⟨JG (i:=m - 1) hm1,JH (i:=m - 1) hm1 Om⟩,Jj (b:= .rp (Jer (L.getD (m - 1) JI)).cells) (congrArg (fun z:Int=> AV.rp (JdK L z.toNat).cells) hm1) ?_⟩;refine Z ?_;intro c e;cases c
    ·have e:¬(L.getD (m - 1) JI).code=d:=fun h=> by
      have:=of_decide_eq_false (p:=((L.getD (m - 1) JI).code:Int)=d) e.symm;omega
     rw [htk,Jkd,if_neg e,← htk] at hcut;have hS:Jcq a l d=L.take m:=(by unfold Jcq;rw [← hL,hcut]);rw [hS];refine Z ?_;exact Jk rfl Tt (JAV hm)
    ·have e:(L.getD (m - 1) JI).code=d:=by
      have:=of_decide_eq_true (p:=((L.getD (m - 1) JI).code:Int)=d) e.symm;omega
     rw [htk,Jkd,if_pos e] at hcut;refine Z ?_;refine ⟨⟨JG (i:=m - 1) hm1,by rw [hm1];dsimp only;omega⟩,Jj (b:= .sl 2 (m - 1) (JdK L)) (congrArg (fun z:Int=> AV.sl 2 z.toNat (JdK L)) hm1) ?_⟩;refine Z ?_;exact back (m - 1,nx2) ⟨Dm,hcut⟩ Dm (Et rfl rfl Tt Tt Y2)
end Go.Proofs.W

namespace Go.Proofs
open Go.Shelf Go.RowKit Go.Lib Go.Sort
shelf_lay_g SlLaysF0.n6 Slsf 6 at Tryz 25 as Tryz.sortEnt
shelf_lay_g SlLaysF0.n6 Slsf 6 at Tryz 28 as Tryz.sortSub
namespace W
theorem JCF (x:Nat) (w:World):Calls Tryz.prog 74 #[.int .u32 x] w fun e w'=> e= .returned (.bool false)∧w'=w:=by
 go_enter Tryz.func74,Tryz.ntmps74
 go_wp2
 go_ret
 exact ⟨by simp,rfl⟩
theorem JpG (x y:Nat) (w:World):Calls Tryz.prog 27 #[.int .u32 x, .int .u32 y] w fun e w'=> e= .returned (.int .i64 (Lib.compareInt x y))∧w'=w:=by
 go_enter Tryz.func27,Tryz.ntmps27
 go_wp2_with (go_at_call 74;refine (JCF _ _).mono ?_;rintro e w' ⟨rfl,hw⟩;rw [hw])
 all_goals (go_ret;refine ⟨?_,rfl⟩;unfold Lib.compareInt;(repeat' split) <;> first | rfl | (exfalso;omega))
theorem JDQ (k1 k2:Nat) (v1 v2:Value) (W:World):Calls Tryz.prog 26 #[.agg #[.int .u32 k1,v1], .agg #[.int .u32 k2,v2]] W fun e w'=> e= .returned (.int .i64 (Lib.compareInt k1 k2))∧∃q os',w'=grow (W.drewN q) os':=by
 have hcon:=fun W'=> JpG k1 k2 W'
 generalize Lib.compareInt k1 k2=r at hcon⊢
 go_enter Tryz.func26,Tryz.ntmps26
 go_wp2_with (go_at_call 27;refine (hcon _).mono ?_;rintro e w' ⟨rfl,rfl⟩)
 go_ret
 exact ⟨rfl,0,_,by rw [alloc_eq_grow,alloc_eq_grow,grow_grow];rfl⟩
theorem JDR (k1 k2:Nat) (v1 v2:Value) (W:World):Calls Tryz.prog 29 #[.agg #[.int .u32 k1,v1], .agg #[.int .u32 k2,v2]] W fun e w'=> e= .returned (.int .i64 (Lib.compareInt k1 k2))∧∃q os',w'=grow (W.drewN q) os':=by
 have hcon:=fun W'=> JpG k1 k2 W'
 generalize Lib.compareInt k1 k2=r at hcon⊢
 go_enter Tryz.func29,Tryz.ntmps29
 go_wp2_with (go_at_call 27;refine (hcon _).mono ?_;rintro e w' ⟨rfl,rfl⟩)
 go_ret
 exact ⟨rfl,0,_,by rw [alloc_eq_grow,alloc_eq_grow,grow_grow];rfl⟩
open Go.Vl
theorem Jsr {D:List (Nat×AV)} {tl:List AV} {nm s cap nx nn:Nat} (hone:∀x∈D,Jcj x.2=true) (hl:D.length < 4611686018427387904):
 ECall Tryz.prog 25 [.hs (nm,s) 0 D.length cap, .fn (.func 26) [] []] ⟨[((nm,s), .c (JC D++tl))], [],nx,nn⟩
  fun r h'=> r= .tup []∧∃cs',(∃D',D'.Perm D∧D'.Pairwise (fun a b=> a.1≤b.1)∧cs'=JC D')∧h'=⟨[((nm,s), .c (cs'++tl))], [],nx,nn⟩:=by
 have eg:∀args w,(callFunc 26 args).run Tryz.prog w= .ok (.enter 26 args) w:=enters_of Tryz.func26 Kr rfl
 refine Jig ⟨_,Tryz.func25,rfl,rfl⟩ hone fun d w blk hd _ hH hb=> ?_
 exact AnyQ.slices_SortFunc Tryz.sortEnt 2 Tryz.isAgg85 Tryz.sizeOf85 KX.enc (fun _=> rfl) KX.one KX.cmp KX.swo 26 #[] blk 0 cap d w eg (fun _ _ _ _ x y=> JDQ _ _ _ _ _) hH hb Om
theorem Jss {D:List (Nat×AV)} {tl:List AV} {nm s cap nx nn:Nat} (hone:∀x∈D,Jcj x.2=true) (hl:D.length < 4611686018427387904):
 ECall Tryz.prog 28 [.hs (nm,s) 0 D.length cap, .fn (.func 29) [] []] ⟨[((nm,s), .c (JC D++tl))], [],nx,nn⟩
  fun r h'=> r= .tup []∧∃cs',(∃D',D'.Perm D∧D'.Pairwise (fun a b=> a.1≤b.1)∧cs'=JC D')∧h'=⟨[((nm,s), .c (cs'++tl))], [],nx,nn⟩:=by
 have eg:∀args w,(callFunc 29 args).run Tryz.prog w= .ok (.enter 29 args) w:=enters_of Tryz.func29 Kr rfl
 refine Jig ⟨_,Tryz.func28,rfl,rfl⟩ hone fun d w blk hd _ hH hb=> ?_
 exact AnyQ.slices_SortFunc Tryz.sortSub 2 Tryz.isAgg90 Tryz.sizeOf90 KX.enc (fun _=> rfl) KX.one KX.cmp KX.swo 29 #[] blk 0 cap d w eg (fun _ _ _ _ x y=> JDR _ _ _ _ _) hH hb Om
set_option maxRecDepth 100000
theorem JDS (n:Nat):Tells Tryz.prog 120 [Je7 2,int 0,int 0,fn0 n] (.tup []):=by
 refine Jc Tryz.func120 rfl rfl fun nx=> ?_
 refine Z ?_
 refine JeX ?_
 refine Z ?_
 exact Jb rfl Rf
theorem JDT (n:Nat):Tells Tryz.prog 72 [Je7 2,int 0,int 0,int 0,fn0 n] (.tup []):=by
 refine Jc Tryz.func72 rfl rfl fun nx=> ?_
 refine Z ?_
 refine JeX ?_
 refine Z ?_
 refine Ja rfl rfl (JDS n) Y4 fun nx=> ?_
 refine Z ?_
 exact Jb rfl Rf
theorem JtW (n:Nat):Tells Tryz.prog 25 [Je7 2,fn0 n] (.tup []):=by
 refine Jc Tryz.func25 rfl rfl fun nx=> ?_
 refine Z ?_
 refine Ja rfl rfl Jqw Y1 fun nx=> ?_
 refine Z ?_
 refine Ja rfl rfl (JDT n) Y5 fun nx=> ?_
 refine Z ?_
 exact Jb rfl Rf
theorem JDU (n:Nat):Tells Tryz.prog 130 [Je7 2,int 0,int 0,fn0 n] (.tup []):=by
 refine Jc Tryz.func130 rfl rfl fun nx=> ?_
 refine Z ?_
 refine JeX ?_
 refine Z ?_
 exact Jb rfl Rf
theorem JDV (n:Nat):Tells Tryz.prog 75 [Je7 2,int 0,int 0,int 0,fn0 n] (.tup []):=by
 refine Jc Tryz.func75 rfl rfl fun nx=> ?_
 refine Z ?_
 refine JeX ?_
 refine Z ?_
 refine Ja rfl rfl (JDU n) Y4 fun nx=> ?_
 refine Z ?_
 exact Jb rfl Rf
theorem JtX (n:Nat):Tells Tryz.prog 28 [Je7 2,fn0 n] (.tup []):=by
 refine Jc Tryz.func28 rfl rfl fun nx=> ?_
 refine Z ?_
 refine Ja rfl rfl Jqw Y1 fun nx=> ?_
 refine Z ?_
 refine Ja rfl rfl (JDV n) Y5 fun nx=> ?_
 refine Z ?_
 exact Jb rfl Rf
end W
end Go.Proofs

namespace Go.Proofs.W
open Go.Vl
set_option maxRecDepth 100000
theorem Jnx (a:Nat) (z:Int) (h0:0≤z) (h:z < 1073741824):Tells Tryz.prog 23 [int a,u32 z] (u32 (JdB a z:Nat)):=by
 obtain ⟨n,rfl⟩:∃n:Nat,z=n:=⟨z.toNat,Om⟩
 have hb:JbC .or .u32 (n:Int) 1073741824=((n||| 1073741824:Nat):Int):=by
  have hlt:n||| 1073741824 < 2 ^ 32:=Nat.or_lt_two_pow Om Dc;exact Jup (k:= .u32) (a:=n) (b:=1073741824) (by show n < 2 ^ 32;omega) Dc (by simp [IntKind.wrap,IntKind.signed,IntKind.bits] at hlt⊢;omega)
 refine Jc Tryz.func23 rfl rfl fun nx=> ?_
 unfold JdB
 refine Z ?_
 intro c e;cases c
 ·have e1:¬a=1:=fun h=> by subst h;cases e
  rw [if_neg e1];refine Z ?_;exact Jb rfl Rf
 ·have e1:a=1:=by
   have:=of_decide_eq_true (p:=(a:Int)=1) e.symm;omega
  rw [if_pos e1];refine Z ?_;exact Jb rfl (AVle.of_eq (congrArg u32 hb))
abbrev J9:=List (Nat×AV)×Option (Nat×Nat×List AV)
def JaF (nm:Nat):J9→AV
 | (_,none)=> .os 0 0 (fun _=> .any) none
 | (R,some (s,cap,_))=> .hs (nm,s) 0 R.length cap
def JbW (nm:Nat):J9→List (Vl.Id×Own)
 | (_,none)=> []
 | (R,some (s,_,tl))=> [((nm,s), .c (JC R++tl))]
def Jbs:J9→Prop
 | (R,none)=> R= []
 | (R,some (_,cap,tl))=> R.length≤cap∧cap * 2≤R.length * 2+tl.length
def Jbv (st:Nat→J9):List (Vl.Id×Own):=(List.range 7).flatMap fun j=> JbW (10+j) (st j)
def Jah (k:Nat) (st:Nat→J9):List (Vl.Id×Own):=((List.range 7).filter (·≠k)).flatMap fun j=> JbW (10+j) (st j)
def JbJ (d:Nat) (x:Bool) (st:Nat→J9):List AV:= [u32 (d:Nat),Ji x,JaF 10 (st 0),JaF 11 (st 1),JaF 12 (st 2),JaF 13 (st 3),JaF 14 (st 4),JaF 15 (st 5),JaF 16 (st 6)]
def JaL (st:Nat→J9) (k:Nat) (r:J9):Nat→J9:=fun j=> if j=k then r else st j
theorem JhH {k:Nat} (hk:k < 7) (st:Nat→J9):(Jbv st).Perm (JbW (10+k) (st k)++Jah k st):=by
 unfold Jbv Jah
 have h:(List.range 7).Perm (k::(List.range 7).filter (·≠k)):=by
  have:k=0∨k=1∨k=2∨k=3∨k=4∨k=5∨k=6:=by omega
  rcases this with rfl | rfl | rfl | rfl | rfl | rfl | rfl <;> decide
 exact (h.flatMap_right _).trans (.of_eq (List.flatMap_cons ..))
theorem JCG {k:Nat} (st:Nat→J9) (r:J9):Jah k (JaL st k r)=Jah k st:=by
 unfold Jah
 rw [List.flatMap_def,List.flatMap_def]
 refine congrArg List.flatten (List.map_congr_left fun j hj=> ?_)
 have:j≠k:=by simpa using (List.mem_filter.1 hj).2
 unfold JaL
 rw [if_neg this]
theorem Jmf {k:Nat} (hk:k < 7) (st:Nat→J9) (r:J9):(Jbv (JaL st k r)).Perm (JbW (10+k) r++Jah k st):=by
 have h:=JhH hk (JaL st k r)
 rw [JCG] at h
 unfold JaL at h
 rwa [if_pos rfl] at h
theorem BxLe.of_eq {a b:List (Vl.Id×Own)} (h:a=b):BxLe a b:=h ▸ Bf
theorem Jkw {k:Nat} {st:Nat→J9} {r:J9} (h:∀j,j < 7→Jbs (st j)) (hr:Jbs r):∀j,j < 7→Jbs (JaL st k r j):=fun j hj=> by
 unfold JaL
 split
 ·exact hr
 ·exact h j hj
theorem JlB (R:List (Nat×AV)) (e:Nat×AV):JC (R++ [e])=JC R++ [.v (.int .u32 e.1),e.2]:=by
 unfold JC;rw [List.flatMap_append];rfl
def Jem (e:PEnt):Nat×AV:=(e.num,J6 e.rules)
def Jby (s:PSub):Nat×AV:=(s.num,u32 (s.code:Nat))
theorem Jf8 {a d:Nat} {x:Bool} {row:TRow} {rs:List PRul} (h:row.num a < 0∨(a=1∧x=false)∨Jcq a rs d= []):JaX a d x row rs= []:=if_pos h
theorem JpH {a d:Nat} {x:Bool} {row:TRow} {rs:List PRul} (h1:¬row.num a < 0) (h2:¬(a=1∧x=false)) (h3:Jcq a rs d≠ []):JaX a d x row rs= [⟨JdB a (row.num a),Jcq a rs d⟩]:=if_neg fun h=> h.elim h1 fun h=> h.elim h2 h3
theorem Jhb {k d:Nat} {x:Bool} {row:TRow} {rs:List PRul} {st st1:Nat→J9} (h:∀j,j < k→(st1 j).1=(st j).1++(JaX j d x row rs).map Jem) (hk:st1 k=st k) (he:JaX k d x row rs= []):∀j,j < k+1→(st1 j).1=(st j).1++(JaX j d x row rs).map Jem:=fun j hj=> by
 rcases Nat.lt_or_ge j k with h1 | h1
 ·exact h j h1
 ·obtain rfl:j=k:=by omega
  rw [he,hk];exact (List.append_nil _).symm
theorem Jom {z:Int} (h0:0≤z) (h:z < 1073741824):IntKind.u32.wrap z=z:=by
 simp [IntKind.wrap,IntKind.signed,IntKind.bits];omega
theorem JyF:JbK Tryz.prog 85=true:=by kernel_rfl
theorem gc_ent:Tryz.prog.cellsOf 85=2:=by kernel_rfl
theorem JyG:Tryz.prog.bytesOf 85=32:=by kernel_rfl
theorem JyH:JbK Tryz.prog 90=true:=by kernel_rfl
theorem gc_sub:Tryz.prog.cellsOf 90=2:=by kernel_rfl
theorem JyI:Tryz.prog.bytesOf 90=8:=by kernel_rfl
theorem JkN {f':Nat→AV} {e:Nat×AV} {m:Nat} {T:TypeId} (hT:Tryz.prog.cellsOf T=2) (h:JD 1 f'= [.v (.int .u32 e.1),e.2]):OwnLe (.c (JD 1 f'++List.replicate (m * Tryz.prog.cellsOf T) .any)) (.c (JC [e]++List.replicate (m * 2) .any)):=by
 rw [hT,h];exact OwnLe.refl _
theorem JyJ {f':Nat→AV} {e:Nat×AV} {R:List (Nat×AV)} {tl:List AV} {T:TypeId} (hT:Tryz.prog.cellsOf T=2) (h:JD 1 f'= [.v (.int .u32 e.1),e.2]):OwnLe (.c (Jab (JC R++tl) (R.length * Tryz.prog.cellsOf T) (JD 1 f'))) (.c (JC (R++ [e])++tl.drop 2)):=by
 have e1:Jab (JC R++tl) (R.length * Tryz.prog.cellsOf T) (JD 1 f')=JC (R++ [e])++tl.drop 2:=by
  rw [hT,h,show R.length * 2=(JC R).length+0 by rw [JcK];rfl,JfG,JlB,JbE];simp
 rw [e1];exact OwnLe.refl _
theorem Jst {f':Nat→AV} {e:Nat×AV} {R:List (Nat×AV)} {tl:List AV} {m:Nat} {T:TypeId} (hT:Tryz.prog.cellsOf T=2) (h:JD 1 f'= [.v (.int .u32 e.1),e.2]):OwnLe (.c ((JC R++tl).take (R.length * Tryz.prog.cellsOf T)++JD 1 f'++List.replicate (m * Tryz.prog.cellsOf T) .any)) (.c (JC (R++ [e])++List.replicate (m * 2) .any)):=by
 have e1:(JC R++tl).take (R.length * Tryz.prog.cellsOf T)=JC R:=by
  rw [hT,← JcK,List.take_left]
 rw [e1,hT,h,JlB];exact OwnLe.refl _
theorem Jon {k:Nat} (hk:k < 7) {n nx nn:Nat} {L:List (Nat×AV)} {F:List (Vl.Id×Own)} {st:Nat→J9} {r:J9} {df:Option (List DA)}:ELe (mk n L ⟨F++(JbW (10+k) r++Jah k st), [],nx,nn⟩ df) (mk n L ⟨F++Jbv (JaL st k r), [],nx,nn⟩ df):=
 JdX (E:=mk n L ⟨F++(JbW (10+k) r++Jah k st), [],nx,nn⟩ df) (h':=⟨F++Jbv (JaL st k r), [],nx,nn⟩) ⟨(List.Perm.append_left _ (Jmf hk st r)).map _, .refl _,rfl⟩
theorem Jmg {k d:Nat} {x:Bool} {row:TRow} {rs:List PRul} {st st1:Nat→J9} {R:List (Nat×AV)} {md:Option (Nat×Nat×List AV)} {z:Nat} {W:List PRul} {md':Option (Nat×Nat×List AV)} (h:∀j,j < k→(st1 j).1=(st j).1++(JaX j d x row rs).map Jem) (hk:st1 k=st k) (hR:st1 k=(R,md)) (he:JaX k d x row rs= [⟨z,W⟩]):∀j,j < k+1→(JaL st1 k (R++ [(z,J6 W)],md') j).1=(st j).1++(JaX j d x row rs).map Jem:=fun j hj=> by
 unfold JaL
 rcases Nat.lt_or_ge j k with h1 | h1
 ·rw [if_neg Om];exact h j h1
 ·obtain rfl:j=k:=by omega
  rw [if_pos rfl,he,← hk,hR];rfl
theorem Jmh {k:Nat} {st st1:Nat→J9} {r:J9} (h:∀j,k≤j→st1 j=st j):∀j,k+1≤j→JaL st1 k r j=st j:=fun j hj=> by
 unfold JaL
 rw [if_neg Om];exact h j Om
def Jc9 (d:Nat) (x:Bool) (f:Nat→AV):List AV:= [u32 (d:Nat),Ji x,f 0,f 1,f 2,f 3,f 4,f 5,f 6]
def Jc3 (q:Nat) (v:AV) (st:Nat→J9):Nat→AV:=fun j=> bif Nat.beq j q then v else JaF (10+j) (st j)
theorem Joo {d:Nat} {x:Bool} {f g:Nat→AV} (h:∀j,AVle (f j) (g j)):OwnLe (.c (Jc9 d x f)) (.c (Jc9 d x g)):=⟨Rf,Rf,h 0,h 1,h 2,h 3,h 4,h 5,h 6,Tt⟩
theorem Jgz {d q:Nat} {x:Bool} {st:Nat→J9} {v:AV} (h:AVle (JaF (10+q) (st q)) v):OwnLe (.c (JbJ d x st)) (.c (Jc9 d x (Jc3 q v st))):=Joo (f:=fun j=> JaF (10+j) (st j)) fun j=> by
 unfold Jc3
 cases hb:Nat.beq j q
 ·exact Rf
 ·rw [Nat.eq_of_beq_eq_true hb];exact h
theorem Jsu {d q:Nat} {x:Bool} {st:Nat→J9} {v:AV} {r:J9} (h:AVle v (JaF (10+q) r)):OwnLe (.c (Jc9 d x (Jc3 q v st))) (.c (JbJ d x (JaL st q r))):=Joo (g:=fun j=> JaF (10+j) (JaL st q r j)) fun j=> by
 unfold Jc3 JaL
 cases hb:Nat.beq j q
 ·rw [if_neg (Nat.ne_of_beq_eq_false hb)];exact Rf
 ·have e:=Nat.eq_of_beq_eq_true hb;subst e;rw [if_pos rfl];exact h
theorem Jfy {d q:Nat} {x:Bool} {st:Nat→J9} {v:AV} (h:AVle v (JaF (10+q) (st q))):OwnLe (.c (Jc9 d x (Jc3 q v st))) (.c (JbJ d x st)):=Joo (g:=fun j=> JaF (10+j) (st j)) fun j=> by
 unfold Jc3
 cases hb:Nat.beq j q
 ·exact Rf
 ·rw [Nat.eq_of_beq_eq_true hb];exact h
def B20 (s0 s1 nx0:Nat) (ps:List Rul) (dk dn:Int) (x:Bool) (rw0 cs:List AV):List (Vl.Id×Own):= [((20,nx0), .c rw0),((1,s1), .c cs),((0,s0), .c [int dk,int dn,Ji x,Jak ps])]
theorem Jhc {d q:Nat} {x:Bool} {st:Nat→J9} {v w:AV} {r:J9} (hq:q < 7) (h:AVle w (JaF (10+q) r)):OwnLe (.c (Jab (Jc9 d x (Jc3 q v st)) (2+q) [w])) (.c (JbJ d x (JaL st q r))):=by
 rw [show Jab (Jc9 d x (Jc3 q v st)) (2+q) [w]=Jc9 d x (Jc3 q w st) by
  rcases (by omega:q=0∨q=1∨q=2∨q=3∨q=4∨q=5∨q=6) with rfl | rfl | rfl | rfl | rfl | rfl | rfl <;> rfl]
 exact Jsu h
theorem JiH {a s k cap:Nat} {R:List (Nat×AV)} {e:Nat×AV} {tl:List AV}:AVle (.hs (a,s) 0 (R.length+1) cap) (JaF k (R++ [e],some (s,cap,tl))):=by
 show AVle _ (.hs (k,s) 0 (R++ [e]).length cap)
 rw [List.length_append];exact AVle.hs_nm rfl
theorem Jkx {i j:Vl.Id} {x y:Own} (h2:OwnLe x y) (h1:i.2=j.2):∀F:List (Vl.Id×Own),BxLe (F++ [(i,x)]) (F++ [(j,y)])
 | []=> ⟨h1,h2,Tt⟩
 | _::F=> ⟨rfl,OwnLe.refl _,Jkx h2 h1 F⟩
theorem Je2 {i j:Vl.Id} {o o':Own} {R:List (Vl.Id×Own)} (h2:OwnLe o o') (h1:i.2=j.2):BxLe ((i,o)::R) ((j,o')::R):=⟨h1,h2,Bf⟩
theorem Jsv {i2 i3:Vl.Id} {o2 o2' o3:Own} {R R':List (Vl.Id×Own)} (h:OwnLe o2 o2') (hR:BxLe R R'):BxLe ([(i2,o2),(i3,o3)]++R) ([(i2,o2'),(i3,o3)]++R'):=⟨rfl,h,rfl,OwnLe.refl _,hR⟩
theorem Jjx {k:Nat} (hk:k < 7) {n nx nn:Nat} {L:List (Nat×AV)} {F:List (Vl.Id×Own)} {st:Nat→J9} {df:Option (List DA)}:ELe (mk n L ⟨F++(JbW (10+k) (st k)++Jah k st), [],nx,nn⟩ df) (mk n L ⟨F++Jbv st, [],nx,nn⟩ df):=
 JdX (E:=mk n L ⟨F++(JbW (10+k) (st k)++Jah k st), [],nx,nn⟩ df) (h':=⟨F++Jbv st, [],nx,nn⟩) ⟨(List.Perm.append_left _ (JhH hk st)).map _, .refl _,rfl⟩
theorem JeI {s0 s1 nx0:Nat} {ps:List Rul} {dk dn:Int} {x:Bool} {rw0 cs cs':List AV} {R R':List (Vl.Id×Own)} (h:OwnLe (.c cs) (.c cs')) (hR:BxLe R R'):BxLe (B20 s0 s1 nx0 ps dk dn x rw0 cs++R) (B20 s0 s1 nx0 ps dk dn x rw0 cs'++R'):=⟨rfl,OwnLe.refl _,rfl,h,rfl,OwnLe.refl _,hR⟩
def Jwv (d:Nat) (x:Bool) (row:TRow) (rs:List PRul) (st st':Nat→J9):Prop:=(∀j,j < 7→Jbs (st' j))∧(∀k,k < 5→(st' k).1=(st k).1++(JaX k d x row rs).map Jem)∧∀m,m < 2→(st' (5+m)).1=(st (5+m)).1++(JcM m row rs).map Jby
theorem Jop {m d:Nat} {x:Bool} {row:TRow} {rs:List PRul} {st st1:Nat→J9} {R:List (Nat×AV)} {md md':Option (Nat×Nat×List AV)} {q:PSub} (hm:m < 2) (hok1:∀j,j < 7→Jbs (st1 j)) (hdone:∀k,k < 5→(st1 k).1=(st k).1++(JaX k d x row rs).map Jem)
 (hrest:∀j,j < 2→st1 (5+j)=st (5+j)) (hR:st1 (5+m)=(R,md)) (hrow:Jbs (R++ [Jby q],md')) (hs:JcM m row rs= [q]) (ho:∀j,j < 2→j≠m→JcM j row rs= []):Jwv d x row rs st (JaL st1 (5+m) (R++ [Jby q],md')):=by
 refine ⟨Jkw hok1 hrow,fun k hk=> ?_,fun j hj=> ?_⟩
 ·unfold JaL;rw [if_neg Om];exact hdone k hk
 ·unfold JaL;by_cases h:j=m
  ·subst h;rw [if_pos rfl,hs,← hrest j hj,hR];rfl
  ·rw [if_neg Om,ho j hj h,hrest j hj];exact (List.append_nil _).symm
theorem Jky {h:Heap} {bx:List (Vl.Id×Own)} {nx nn:Nat} (bx'' bx':List (Vl.Id×Own)) (hx:h.nx=nx) (h0:bx''.Perm h.bx) (hb:bx'.Sublist bx'') (hp:h.pm= []) (eb:BxLe bx' bx):HLe h ⟨bx, [],nx,nn⟩:=
 HLe.trans (JlN (h':=⟨bx'',h.pm,h.nx,h.nn⟩) ⟨h0.map _, .refl _,rfl⟩) (Jr bx' [] hx hb (List.nil_sublist _) eb trivial)
theorem Joq {k:Nat} (hk:k < 7) {nx nn:Nat} {F:List (Vl.Id×Own)} {st:Nat→J9} {r:J9}:HLe ⟨F++(JbW (10+k) r++Jah k st), [],nx,nn⟩ ⟨F++Jbv (JaL st k r), [],nx,nn⟩:=
 JlN ⟨(List.Perm.append_left _ (Jmf hk st r)).map _, .refl _,rfl⟩
theorem Jww (dk dn:Int) (x:Bool) (ps:List Rul) (d:Nat) (row:TRow) (rs:List PRul) (s0 s1 nx0:Nat) (st:Nat→J9) (hok:∀j,j < 7→Jbs (st j)) (hlen:∀j,j < 7→(st j).1.length≤1000000)
 (hn:∀k,row.num k < 1073741824) (hm:row.mux=0∨row.mux=1∨row.mux=2) (hs:0≤row.sub∧row.sub≤255) (hr:rs≠ []) (hl:rs.length≤1000000) (hc:∀r∈rs,r.conds.length≤1000000∧∀c∈r.conds,c.ok):
 ECall Tryz.prog 21 [Jfd row,J6 rs, .bp (0,s0) 0, .bp (1,s1) 0] ⟨[((1,s1), .c (JbJ d x st)),((0,s0), .c [int dk,int dn,Ji x,Jak ps])]++Jbv st, [],nx0,20⟩
  fun r h'=> r= .tup []∧∃st' nx' nn',Jwv d x row rs st st'∧h'=⟨[((1,s1), .c (JbJ d x st')),((0,s0), .c [int dk,int dn,Ji x,Jak ps])]++Jbv st', [],nx',nn'⟩:=by
 obtain ⟨nm,a0,a1,a2,a3,a4,mux,sub⟩:=row
 refine ECall.wk (Jo Tryz.func21 rfl rfl ?_)
 refine Z ?_
 refine Jbj (fun y:(Nat→J9)×Nat=> mk 75 [(1,J6 rs),(2, .bp (0,s0) 0),(3, .bp (1,s1) 0),(4, .bp (20,nx0) 0)] ⟨[((20,nx0), .c [JA nm,int a0,int a1,int a2,int a3,int a4,int mux,int sub]),((1,s1), .c (JbJ d x y.1)),((0,s0), .c [int dk,int dn,Ji x,Jak ps])]++Jbv y.1, [],y.2,21⟩) (fun y=> (∀j,j < 7→Jbs (y.1 j))∧(∀k,k < 5→(y.1 k).1=(st k).1++(JaX k d x ⟨nm,a0,a1,a2,a3,a4,mux,sub⟩ rs).map Jem)∧∀m,m < 2→y.1 (5+m)=st (5+m)) ?_ ?_
 ·refine Js (fun y:Nat×(Nat→J9)×Nat=> mk 75 [(1,J6 rs),(2, .bp (0,s0) 0),(3, .bp (1,s1) 0),(4, .bp (20,nx0) 0),(9,int y.1)] ⟨[((20,nx0), .c [JA nm,int a0,int a1,int a2,int a3,int a4,int mux,int sub]),((1,s1), .c (JbJ d x y.2.1)),((0,s0), .c [int dk,int dn,Ji x,Jak ps])]++Jbv y.2.1, [],y.2.2,21⟩) (fun y=> y.1≤5∧(∀j,j < 7→Jbs (y.2.1 j))∧(∀k,k < y.1→(y.2.1 k).1=(st k).1++(JaX k d x ⟨nm,a0,a1,a2,a3,a4,mux,sub⟩ rs).map Jem)∧∀j,y.1≤j→y.2.1 j=st j) (fun y=> 5 - y.1) ?_ ?_
  ·exact ⟨(0,st,nx0+1),⟨Nat.zero_le _,hok,fun k h=> absurd h (Nat.not_lt_zero _),fun j _=> rfl⟩,Et rfl rfl Bf Tt Y5⟩
  ·rintro ⟨a,st1,nx2⟩ ⟨h1,hok1,hdone,hrest⟩;dsimp only at h1 hok1 hdone hrest;by_cases h5:a=5
   ·subst h5;refine Z ?_;exact ⟨(st1,nx2),⟨hok1,hdone,fun m hm=> hrest _ Om⟩,Et rfl rfl Bf Tt Y4⟩
   ·obtain ⟨q,hq⟩:∃q,q=a:=⟨a,rfl⟩;have hq7:q < 7:=(by omega);have hP:=JhH hq7 st1;have hrk:Jbs (st1 q):=hok1 _ hq7;have hrs:st1 q=st q:=hrest _ Om;have hln:(st1 q).1.length≤1000000:=(by rw [hrs];exact hlen _ hq7);have hse:=JyE q rs d Om hl hc;have hdq:∀k,k < q→(st1 k).1=(st k).1++(JaX k d x ⟨nm,a0,a1,a2,a3,a4,mux,sub⟩ rs).map Jem:=(by rw [hq];exact hdone);have hrq:∀j,q≤j→st1 j=st j:=(by rw [hq];exact hrest);have hnq:=hn q;by_cases hx1:a=1∧x=false
    ·obtain ⟨rfl,rfl⟩:=hx1;subst hq;refine AW.le (E':=mk 75 [(1,J6 rs),(2, .bp (0,s0) 0),(3, .bp (1,s1) 0),(4, .bp (20,nx0) 0),(9,int (1:Nat))] ⟨B20 s0 s1 nx0 ps dk dn _ [JA nm,int a0,int a1,int a2,int a3,int a4,int mux,int sub] (JbJ d _ st1)++Jbv st1, [],nx2,21⟩) (Et rfl rfl Bf Tt Y5) ?_;unfold B20 JbJ;refine Z ?_;intro c t1;cases c
     ·refine Z ?_;exact back (2,st1,nx2) ⟨Dm,hok1,Jhb hdq hrs (Jf8 (.inr (.inl ⟨rfl,rfl⟩))),fun j hj=> hrq j (by dsimp only at hj;omega)⟩ Dm (Et rfl rfl Bf Tt ⟨Rf,Rf,Rf,Rf,Jf rfl,Tt⟩)
     ·refine Z ?_;exact back (2,st1,nx2) ⟨Dm,hok1,Jhb hdq hrs (Jf8 (.inr (.inl ⟨rfl,rfl⟩))),fun j hj=> hrq j (by dsimp only at hj;omega)⟩ Dm (Et rfl rfl Bf Tt ⟨Rf,Rf,Rf,Rf,Jf rfl,Tt⟩)
    have hx2:a=1→x=true:=fun e=> by
     cases x
     ·exact absurd ⟨e,rfl⟩ hx1
     ·rfl
    rcases hk:st1 q with ⟨R,_ | ⟨s,cap,tl⟩⟩
    ·rw [hk] at hP hrk hln;dsimp only at hln;have hv:AVle (JaF (10+q) (st1 q)) (.os 0 0 (fun _=> .any) none):=(by rw [hk];exact Rf);have hw:AVle (.os 0 0 (fun _=> .any) none) (JaF (10+q) (st1 q)):=(by rw [hk];exact Rf);have hbx:BxLe (Jah q st1) (JbW (10+q) (st1 q)++Jah q st1):=(by rw [hk];exact Bf);obtain rfl:R= []:=hrk;refine AW.le (E':=mk 75 [(1,J6 rs),(2, .bp (0,s0) 0),(3, .bp (1,s1) 0),(4, .bp (20,nx0) 0),(9,int (a:Nat))] (⟨B20 s0 s1 nx0 ps dk dn x [JA nm,int a0,int a1,int a2,int a3,int a4,int mux,int sub] (Jc9 d x (Jc3 a (.os 0 0 (fun _=> .any) none) st1))++([]++Jah q st1), [],nx2,21⟩:Heap)) (JaK (B20 s0 s1 nx0 ps dk dn x [JA nm,int a0,int a1,int a2,int a3,int a4,int mux,int sub] (JbJ d x st1)++(_++Jah q st1)) _ [] rfl rfl (List.Perm.append_left _ hP.symm) Sf Sf (JeI (by subst hq;exact Jgz hv) Bf) Tt Y5) ?_;obtain ⟨B,hB⟩:∃B:List (Vl.Id×Own),B=B20 s0 s1 nx0 ps dk dn x [JA nm,int a0,int a1,int a2,int a3,int a4,int mux,int sub] (Jc9 d x (Jc3 a (.os 0 0 (fun _=> .any) none) st1)):=⟨_,rfl⟩;rcases (by omega:a=0∨a=1∨a=2∨a=3∨a=4) with rfl | rfl | rfl | rfl | rfl
     all_goals
      try (obtain rfl:=hx2 rfl)
      unfold B20;refine Z ?_;intro c t1;cases c
      ·have t1:=Jw t1;have t1q:¬(⟨nm,a0,a1,a2,a3,a4,mux,sub⟩:TRow).num q < 0:=(by subst hq;exact t1);refine Z ?_;refine Ja rfl rfl hse ⟨Jf (by subst hq;rfl),Y2⟩ fun nx3=> ?_;refine Z ?_;intro c t2;cases c
       ·have t2:=Jw t2;refine Z ?_;exact back (q+1,st1,nx3) ⟨Dm,hok1,Jhb hdq hrs (Jf8 (.inr (.inr (List.eq_nil_of_length_eq_zero Om)))),fun j hj=> hrq j (by dsimp only at hj;omega)⟩ Dm (ELe.trans (JaK (L:= [(1,J6 rs),(2, .bp (0,s0) 0),(3, .bp (1,s1) 0),(4, .bp (20,nx0) 0),(9,int (q+1:Nat))]) _ _ [] rfl rfl (List.Perm.refl _) Sf Sf (JeI (cs:=Jc9 d _ (Jc3 _ (.os 0 0 (fun _=> .any) none) st1)) (by subst hq;exact Jfy hw) hbx) Pf ⟨Rf,Rf,Rf,Rf,Jf (by subst hq;rfl),Tt⟩) (Jjx hq7))
       ·have t2:=Ju t2;have hwh:=Jnx q ((⟨nm,a0,a1,a2,a3,a4,mux,sub⟩:TRow).num q) Om hnq;have hen:JaX q d _ (⟨nm,a0,a1,a2,a3,a4,mux,sub⟩:TRow) rs= [⟨JdB q ((⟨nm,a0,a1,a2,a3,a4,mux,sub⟩:TRow).num q),Jcq q rs d⟩]:=JpH t1q (fun h=> hx1 ⟨hq.symm.trans h.1,h.2⟩) (fun h=> by rw [h] at t2;exact absurd t2 Dc);have hwz:AVle (AV.v (.int .u32 (IntKind.u32.wrap ((⟨nm,a0,a1,a2,a3,a4,mux,sub⟩:TRow).num q)))) (u32 ((⟨nm,a0,a1,a2,a3,a4,mux,sub⟩:TRow).num q)):=AVle.of_eq (congrArg u32 (Jom Om hnq));generalize hW:Jcq q rs d=W at t2 hen;generalize hz:JdB q ((⟨nm,a0,a1,a2,a3,a4,mux,sub⟩:TRow).num q)=z at hwh hen;refine Z ?_;refine Jav 14 B (Ef [12]) (Ef [8]) [0,1,2,3,4,5,6,7,8,9,10,11,13,12] Kr Kr (by subst hB;exact HB.cons rfl (HB.cons rfl (HB.one rfl))) ?_;subst hB;unfold B20;refine Z ?_;refine ⟨_,J2 rfl rfl rfl hwh ⟨Jf (by subst hq;rfl),by subst hq;exact hwz,Tt⟩ (NoId.v _), ?_⟩;refine Z ?_;refine ⟨_,Jj6 (e:=85) (szx:=2) (m:=1) rfl rfl rfl (.inr ⟨_,rfl⟩) Tryz.underlying35 JyF gc_ent.symm Dc (JM rfl) (by rw [JyG];omega) Om (fun _=> (HB.cons rfl (HB.cons rfl (HB.one rfl)))),fun r h' hr=> ?_⟩;obtain ⟨ncap,hge,rfl,rfl⟩:=hr;have hro:Jbs ([]++ [(z,J6 W)],some (nx3,ncap,List.replicate ((ncap - 1) * 2) .any)):=⟨(by simpa using hge),by rw [List.length_replicate];show ncap * 2≤1 * 2+_;omega⟩;refine Z ?_;exact back (q+1,JaL st1 q ([]++ [(z,J6 W)],some (nx3,ncap,List.replicate ((ncap - 1) * 2) .any)),nx3+1) ⟨Dm,Jkw hok1 hro,Jmg (R:= []) hdq hrs hk hen,Jmh hrq⟩ Dm (ELe.trans (JaK (L:= [(1,J6 rs),(2, .bp (0,s0) 0),(3, .bp (1,s1) 0),(4, .bp (20,nx0) 0),(9,int (q+1:Nat))]) (bx:=B20 s0 s1 nx0 ps dk dn _ [JA nm,int a0,int a1,int a2,int a3,int a4,int mux,int sub] (JbJ d _ (JaL st1 q ([]++ [(z,J6 W)],some (nx3,ncap,List.replicate ((ncap - 1) * 2) .any))))++(JbW (10+q) ([]++ [(z,J6 W)],some (nx3,ncap,List.replicate ((ncap - 1) * 2) .any))++Jah q st1)) (pm:= []) _ _ [] rfl rfl (List.perm_middle (l₁:= [_,_,_])) Sf Sf (JeI (by subst hq;exact Jhc (r:=([]++ [(z,J6 W)],some (nx3,ncap,List.replicate ((ncap - 1) * 2) .any))) Dc (JiH (R:= []))) (Je2 (JkN gc_ent rfl) rfl)) Pf ⟨Rf,Rf,Rf,Rf,Jf (by subst hq;rfl),Tt⟩) (Jon hq7))
      ·have t1:=Ju t1;have t1q:(⟨nm,a0,a1,a2,a3,a4,mux,sub⟩:TRow).num q < 0:=(by subst hq;exact t1);refine Z ?_;exact back (q+1,st1,nx2) ⟨Dm,hok1,Jhb hdq hrs (Jf8 (.inl t1q)),fun j hj=> hrq j (by dsimp only at hj;omega)⟩ Dm (ELe.trans (JaK (L:= [(1,J6 rs),(2, .bp (0,s0) 0),(3, .bp (1,s1) 0),(4, .bp (20,nx0) 0),(9,int (q+1:Nat))]) _ _ [] rfl rfl (List.Perm.refl _) Sf Sf (JeI (cs:=Jc9 d _ (Jc3 _ (.os 0 0 (fun _=> .any) none) st1)) (by subst hq;exact Jfy hw) hbx) Pf ⟨Rf,Rf,Rf,Rf,Jf (by subst hq;rfl),Tt⟩) (Jjx hq7))
    ·rw [hk] at hP hrk hln;dsimp only at hln;have hv:AVle (JaF (10+q) (st1 q)) (.hs (30,s) 0 R.length cap):=(by rw [hk];exact AVle.hs_nm rfl);have hw:AVle (.hs (30,s) 0 R.length cap) (JaF (10+q) (st1 q)):=(by rw [hk];exact AVle.hs_nm rfl);have hbx:BxLe (((30,s),Own.c (JC R++tl))::Jah q st1) (JbW (10+q) (st1 q)++Jah q st1):=(by rw [hk];exact Je2 (OwnLe.refl _) rfl);refine AW.le (E':=mk 75 [(1,J6 rs),(2, .bp (0,s0) 0),(3, .bp (1,s1) 0),(4, .bp (20,nx0) 0),(9,int (a:Nat))] (⟨B20 s0 s1 nx0 ps dk dn x [JA nm,int a0,int a1,int a2,int a3,int a4,int mux,int sub] (Jc9 d x (Jc3 a (.hs (30,s) 0 R.length cap) st1))++([((30,s),Own.c (JC R++tl))]++Jah q st1), [],nx2,21⟩:Heap)) (JaK (B20 s0 s1 nx0 ps dk dn x [JA nm,int a0,int a1,int a2,int a3,int a4,int mux,int sub] (JbJ d x st1)++(_++Jah q st1)) _ [] rfl rfl (List.Perm.append_left _ hP.symm) Sf Sf (JeI (by subst hq;exact Jgz hv) (show BxLe (((10+q,s),Own.c (JC R++tl))::Jah q st1) _ from Je2 (OwnLe.refl _) rfl)) Tt Y5) ?_;obtain ⟨B,hB⟩:∃B:List (Vl.Id×Own),B=B20 s0 s1 nx0 ps dk dn x [JA nm,int a0,int a1,int a2,int a3,int a4,int mux,int sub] (Jc9 d x (Jc3 a (.hs (30,s) 0 R.length cap) st1)):=⟨_,rfl⟩;rcases (by omega:a=0∨a=1∨a=2∨a=3∨a=4) with rfl | rfl | rfl | rfl | rfl
     all_goals
      try (obtain rfl:=hx2 rfl)
      unfold B20;refine Z ?_;intro c t1;cases c
      ·have t1:=Jw t1;have t1q:¬(⟨nm,a0,a1,a2,a3,a4,mux,sub⟩:TRow).num q < 0:=(by subst hq;exact t1);refine Z ?_;refine Ja rfl rfl hse ⟨Jf (by subst hq;rfl),Y2⟩ fun nx3=> ?_;refine Z ?_;intro c t2;cases c
       ·have t2:=Jw t2;refine Z ?_;exact back (q+1,st1,nx3) ⟨Dm,hok1,Jhb hdq hrs (Jf8 (.inr (.inr (List.eq_nil_of_length_eq_zero Om)))),fun j hj=> hrq j (by dsimp only at hj;omega)⟩ Dm (ELe.trans (JaK (L:= [(1,J6 rs),(2, .bp (0,s0) 0),(3, .bp (1,s1) 0),(4, .bp (20,nx0) 0),(9,int (q+1:Nat))]) _ _ [] rfl rfl (List.Perm.refl _) Sf Sf (JeI (cs:=Jc9 d _ (Jc3 _ (.hs (30,s) 0 R.length cap) st1)) (by subst hq;exact Jfy hw) hbx) Pf ⟨Rf,Rf,Rf,Rf,Jf (by subst hq;rfl),Tt⟩) (Jjx hq7))
       ·have t2:=Ju t2;have hwh:=Jnx q ((⟨nm,a0,a1,a2,a3,a4,mux,sub⟩:TRow).num q) Om hnq;have hen:JaX q d _ (⟨nm,a0,a1,a2,a3,a4,mux,sub⟩:TRow) rs= [⟨JdB q ((⟨nm,a0,a1,a2,a3,a4,mux,sub⟩:TRow).num q),Jcq q rs d⟩]:=JpH t1q (fun h=> hx1 ⟨hq.symm.trans h.1,h.2⟩) (fun h=> by rw [h] at t2;exact absurd t2 Dc);have hwz:AVle (AV.v (.int .u32 (IntKind.u32.wrap ((⟨nm,a0,a1,a2,a3,a4,mux,sub⟩:TRow).num q)))) (u32 ((⟨nm,a0,a1,a2,a3,a4,mux,sub⟩:TRow).num q)):=AVle.of_eq (congrArg u32 (Jom Om hnq));generalize hW:Jcq q rs d=W at t2 hen;generalize hz:JdB q ((⟨nm,a0,a1,a2,a3,a4,mux,sub⟩:TRow).num q)=z at hwh hen;refine Z ?_;refine Jav 14 B (Ef [12]) (Ef [8]) [0,1,2,3,4,5,6,7,8,9,10,11,13,12] Kr Kr (by subst hB;exact HB.cons rfl (HB.cons rfl (HB.one rfl))) ?_;subst hB;unfold B20;refine Z ?_;refine ⟨_,J2 rfl rfl rfl hwh ⟨Jf (by subst hq;rfl),by subst hq;exact hwz,Tt⟩ (NoId.v _), ?_⟩;refine Z ?_;refine ⟨_,Jlm (e:=85) (szx:=2) (m:=1) (n:=R.length) (cap:=cap) (i:=(30,s)) (cs:=JC R++tl) rfl rfl rfl (.inr ⟨_,rfl⟩) Tryz.underlying35 JyF gc_ent.symm Dc rfl hrk.1 (by rw [gc_ent,List.length_append,JcK];exact hrk.2) (JM rfl) (by rw [JyG];omega) Om (HB.cons rfl (HB.cons rfl (HB.one rfl))) (fun _=> (HB.cons rfl (HB.cons rfl (HB.one rfl)))),fun r h' hr=> ?_⟩;rcases hr with ⟨hfit,rfl,rfl⟩ | ⟨ncap,hge,rfl,rfl⟩
        ·have hro:Jbs (R++ [(z,J6 W)],some (s,cap,tl.drop 2)):=⟨by rw [List.length_append];exact hfit,by have:=hrk.2;rw [List.length_append,List.length_drop,List.length_singleton];omega⟩;refine Z ?_;exact back (q+1,JaL st1 q (R++ [(z,J6 W)],some (s,cap,tl.drop 2)),nx3) ⟨Dm,Jkw hok1 hro,Jmg (R:=R) hdq hrs hk hen,Jmh hrq⟩ Dm (ELe.trans (JaK (L:= [(1,J6 rs),(2, .bp (0,s0) 0),(3, .bp (1,s1) 0),(4, .bp (20,nx0) 0),(9,int (q+1:Nat))]) (bx:=B20 s0 s1 nx0 ps dk dn _ [JA nm,int a0,int a1,int a2,int a3,int a4,int mux,int sub] (JbJ d _ (JaL st1 q (R++ [(z,J6 W)],some (s,cap,tl.drop 2))))++(JbW (10+q) (R++ [(z,J6 W)],some (s,cap,tl.drop 2))++Jah q st1)) (pm:= []) _ _ [] rfl rfl (List.Perm.refl _) Sf Sf (JeI (by subst hq;exact Jhc (r:=(R++ [(z,J6 W)],some (s,cap,tl.drop 2))) Dc JiH) (Je2 (JyJ gc_ent rfl) rfl)) Pf ⟨Rf,Rf,Rf,Rf,Jf (by subst hq;rfl),Tt⟩) (Jon hq7))
        ·have hro:Jbs (R++ [(z,J6 W)],some (nx3,ncap,List.replicate ((ncap - (R.length+1)) * 2) .any)):=⟨by rw [List.length_append];exact hge,by rw [List.length_append,List.length_replicate,List.length_singleton,← Nat.add_mul];omega⟩;refine Z ?_;exact back (q+1,JaL st1 q (R++ [(z,J6 W)],some (nx3,ncap,List.replicate ((ncap - (R.length+1)) * 2) .any)),nx3+1) ⟨Dm,Jkw hok1 hro,Jmg (R:=R) hdq hrs hk hen,Jmh hrq⟩ Dm (ELe.trans (JaK (L:= [(1,J6 rs),(2, .bp (0,s0) 0),(3, .bp (1,s1) 0),(4, .bp (20,nx0) 0),(9,int (q+1:Nat))]) (bx:=B20 s0 s1 nx0 ps dk dn _ [JA nm,int a0,int a1,int a2,int a3,int a4,int mux,int sub] (JbJ d _ (JaL st1 q (R++ [(z,J6 W)],some (nx3,ncap,List.replicate ((ncap - (R.length+1)) * 2) .any))))++(JbW (10+q) (R++ [(z,J6 W)],some (nx3,ncap,List.replicate ((ncap - (R.length+1)) * 2) .any))++Jah q st1)) (pm:= []) _ _ [] rfl rfl (List.perm_middle (l₁:= [_,_,_])) (List.Sublist.append_left (.cons_cons _ (.cons _ Sf)) [_,_,_]) Sf (JeI (by subst hq;exact Jhc (r:=(R++ [(z,J6 W)],some (nx3,ncap,List.replicate ((ncap - (R.length+1)) * 2) .any))) Dc JiH) (Je2 (Jst gc_ent rfl) rfl)) Pf ⟨Rf,Rf,Rf,Rf,Jf (by subst hq;rfl),Tt⟩) (Jon hq7))
      ·have t1:=Ju t1;have t1q:(⟨nm,a0,a1,a2,a3,a4,mux,sub⟩:TRow).num q < 0:=(by subst hq;exact t1);refine Z ?_;exact back (q+1,st1,nx2) ⟨Dm,hok1,Jhb hdq hrs (Jf8 (.inl t1q)),fun j hj=> hrq j (by dsimp only at hj;omega)⟩ Dm (ELe.trans (JaK (L:= [(1,J6 rs),(2, .bp (0,s0) 0),(3, .bp (1,s1) 0),(4, .bp (20,nx0) 0),(9,int (q+1:Nat))]) _ _ [] rfl rfl (List.Perm.refl _) Sf Sf (JeI (cs:=Jc9 d _ (Jc3 _ (.hs (30,s) 0 R.length cap) st1)) (by subst hq;exact Jfy hw) hbx) Pf ⟨Rf,Rf,Rf,Rf,Jf (by subst hq;rfl),Tt⟩) (Jjx hq7))
 ·rintro ⟨st1,nx2⟩ ⟨hok1,hdone,hrest⟩;dsimp only at hok1 hdone hrest;rcases hm with rfl | hm
  ·refine Z ?_;exact Jt rfl ⟨.tup [],⟨[((1,s1), .c (JbJ d x st1)),((0,s0), .c [int dk,int dn,Ji x,Jak ps])]++Jbv st1, [],nx2,21⟩,Rf,Jr _ [] rfl (.cons _ Sf) Sf Bf trivial,rfl,st1,_,_,⟨hok1,hdone,fun m hm=> by rw [show JcM m ⟨nm,a0,a1,a2,a3,a4,0,sub⟩ rs= [] from if_neg (show ¬(0:Int)=(m:Int)+1 by omega),hrest m hm];exact (List.append_nil _).symm⟩,rfl⟩
  ·obtain ⟨m,hm2,rfl⟩:∃m:Nat,m < 2∧mux=((m+1:Nat):Int):=by
    rcases hm with rfl | rfl
    ·exact ⟨0,by decide,rfl⟩
    ·exact ⟨1,by decide,rfl⟩
   obtain ⟨q,hq⟩:∃q,q=m:=⟨m,rfl⟩;have hq7:5+q < 7:=by omega
   have hP:=JhH hq7 st1;have hrk:Jbs (st1 (5+q)):=hok1 _ hq7;have hln:(st1 (5+q)).1.length≤1000000:=by rw [hrest q Om];exact hlen _ hq7
   obtain ⟨sx,hsx⟩:∃sx:PSub,sx=⟨sub.toNat,(rs.getD 0 JI).code⟩:=⟨_,rfl⟩;have hsb:JcM q ⟨nm,a0,a1,a2,a3,a4,((m+1:Nat):Int),sub⟩ rs= [sx]:=by rw [hsx];exact if_pos (show ((m+1:Nat):Int)=(q:Int)+1 by omega)
   have hso:∀j,j < 2→j≠q→JcM j ⟨nm,a0,a1,a2,a3,a4,((m+1:Nat):Int),sub⟩ rs= []:=fun j hj hne=> if_neg (show ¬((m+1:Nat):Int)=(j:Int)+1 by omega);have hs1:0≤sub:=hs.1;have hs2:sub≤255:=hs.2;have hr0:0 < rs.length:=List.length_pos_iff.2 hr;have hw2: [AV.v (.int .u32 (IntKind.u32.wrap sub)),u32 ((rs.getD 0 JI).code:Nat)]= [AV.v (.int .u32 ((Jby sx).1:Nat)),(Jby sx).2]:=by
    rw [hsx];exact congrArg (fun z:Int=> [AV.v (.int .u32 z),u32 ((rs.getD 0 JI).code:Nat)]) (show IntKind.u32.wrap sub=((sub.toNat:Nat):Int) by rw [Jom hs1 Om];omega)
   rcases hk:st1 (5+q) with ⟨R,_ | ⟨s,cap,tl⟩⟩
   ·rw [hk] at hP hrk hln;dsimp only at hln;have hv:AVle (JaF (10+(5+q)) (st1 (5+q))) (.os 0 0 (fun _=> .any) none):=(by rw [hk];exact Rf);obtain rfl:R= []:=hrk;refine AW.le (E':=mk 75 [(1,J6 rs),(2, .bp (0,s0) 0),(3, .bp (1,s1) 0),(4, .bp (20,nx0) 0)] (⟨B20 s0 s1 nx0 ps dk dn x [JA nm,int a0,int a1,int a2,int a3,int a4,int (m+1:Nat),int sub] (Jc9 d x (Jc3 (5+m) (.os 0 0 (fun _=> .any) none) st1))++([]++Jah (5+q) st1), [],nx2,21⟩:Heap)) (JaK (B20 s0 s1 nx0 ps dk dn x [JA nm,int a0,int a1,int a2,int a3,int a4,int (m+1:Nat),int sub] (JbJ d x st1)++(_++Jah (5+q) st1)) _ [] rfl rfl (List.Perm.append_left _ hP.symm) Sf Sf (JeI (by subst hq;exact Jgz hv) Bf) Tt Y4) ?_;obtain ⟨B,hB⟩:∃B:List (Vl.Id×Own),B=B20 s0 s1 nx0 ps dk dn x [JA nm,int a0,int a1,int a2,int a3,int a4,int (m+1:Nat),int sub] (Jc9 d x (Jc3 (5+m) (.os 0 0 (fun _=> .any) none) st1)):=⟨_,rfl⟩;rcases (by omega:m=0∨m=1) with rfl | rfl
    all_goals
     unfold B20;refine Z ?_;refine Jav 20 B (Ef [18]) (fun _=> false) [0,1,2,3,4,5,6,7,8,9,10,11,12,13,14,15,16,17,19,18] Kr Kr (by subst hB;exact HB.cons rfl (HB.cons rfl (HB.one rfl))) ?_;subst hB;unfold B20;refine Z ?_;refine ⟨Bd,JdV (b:= .rp (Jer (rs.getD 0 JI)).cells) rfl ?_⟩;refine Z ?_;refine ⟨_,Jj6 (e:=90) (szx:=2) (m:=1) rfl rfl rfl (.inr ⟨_,rfl⟩) Tryz.underlying37 JyH gc_sub.symm Dc (JM rfl) (by rw [JyI];omega) Om (fun _=> (HB.cons rfl (HB.cons rfl (HB.one rfl)))),fun r h' hr=> ?_⟩;obtain ⟨ncap,hge,rfl,rfl⟩:=hr;have hro:Jbs ([]++ [Jby sx],some (nx2,ncap,List.replicate ((ncap - 1) * 2) .any)):=⟨(by simpa using hge),by rw [List.length_replicate];show ncap * 2≤1 * 2+_;omega⟩;refine Z ?_;exact Jt rfl ⟨.tup [],⟨[((1,s1), .c (JbJ d x (JaL st1 (5+q) ([]++ [Jby sx],some (nx2,ncap,List.replicate ((ncap - 1) * 2) .any))))),((0,s0), .c [int dk,int dn,Ji x,Jak ps])]++Jbv (JaL st1 (5+q) ([]++ [Jby sx],some (nx2,ncap,List.replicate ((ncap - 1) * 2) .any))), [],nx2+1,21⟩,Rf,HLe.trans (Jky (bx:= [((1,s1), .c (JbJ d x (JaL st1 (5+q) ([]++ [Jby sx],some (nx2,ncap,List.replicate ((ncap - 1) * 2) .any))))),((0,s0), .c [int dk,int dn,Ji x,Jak ps])]++(JbW (10+(5+q)) ([]++ [Jby sx],some (nx2,ncap,List.replicate ((ncap - 1) * 2) .any))++Jah (5+q) st1)) _ _ rfl (List.perm_middle (l₁:= [_,_,_])) (.cons _ Sf) rfl (Jsv (by subst hq;exact Jhc (r:=([]++ [Jby sx],some (nx2,ncap,List.replicate ((ncap - 1) * 2) .any))) Dc (JiH (R:= []))) (Je2 (JkN (e:=Jby sx) gc_sub (by exact hw2)) rfl))) (Joq hq7),rfl,_,_,_,Jop (R:= []) Om hok1 hdone hrest hk hro hsb hso,rfl⟩
   ·rw [hk] at hP hrk hln;dsimp only at hln;have hv:AVle (JaF (10+(5+q)) (st1 (5+q))) (.hs (30,s) 0 R.length cap):=(by rw [hk];exact AVle.hs_nm rfl);refine AW.le (E':=mk 75 [(1,J6 rs),(2, .bp (0,s0) 0),(3, .bp (1,s1) 0),(4, .bp (20,nx0) 0)] (⟨B20 s0 s1 nx0 ps dk dn x [JA nm,int a0,int a1,int a2,int a3,int a4,int (m+1:Nat),int sub] (Jc9 d x (Jc3 (5+m) (.hs (30,s) 0 R.length cap) st1))++([((30,s),Own.c (JC R++tl))]++Jah (5+q) st1), [],nx2,21⟩:Heap)) (JaK (B20 s0 s1 nx0 ps dk dn x [JA nm,int a0,int a1,int a2,int a3,int a4,int (m+1:Nat),int sub] (JbJ d x st1)++(_++Jah (5+q) st1)) _ [] rfl rfl (List.Perm.append_left _ hP.symm) Sf Sf (JeI (by subst hq;exact Jgz hv) (show BxLe (((10+(5+q),s),Own.c (JC R++tl))::Jah (5+q) st1) _ from Je2 (OwnLe.refl _) rfl)) Tt Y4) ?_;obtain ⟨B,hB⟩:∃B:List (Vl.Id×Own),B=B20 s0 s1 nx0 ps dk dn x [JA nm,int a0,int a1,int a2,int a3,int a4,int (m+1:Nat),int sub] (Jc9 d x (Jc3 (5+m) (.hs (30,s) 0 R.length cap) st1)):=⟨_,rfl⟩;rcases (by omega:m=0∨m=1) with rfl | rfl
    all_goals
     unfold B20;refine Z ?_;refine Jav 20 B (Ef [18]) (fun _=> false) [0,1,2,3,4,5,6,7,8,9,10,11,12,13,14,15,16,17,19,18] Kr Kr (by subst hB;exact HB.cons rfl (HB.cons rfl (HB.one rfl))) ?_;subst hB;unfold B20;refine Z ?_;refine ⟨Bd,JdV (b:= .rp (Jer (rs.getD 0 JI)).cells) rfl ?_⟩;refine Z ?_;refine ⟨_,Jlm (e:=90) (szx:=2) (m:=1) (n:=R.length) (cap:=cap) (i:=(30,s)) (cs:=JC R++tl) rfl rfl rfl (.inr ⟨_,rfl⟩) Tryz.underlying37 JyH gc_sub.symm Dc rfl hrk.1 (by rw [gc_sub,List.length_append,JcK];exact hrk.2) (JM rfl) (by rw [JyI];omega) Om (HB.cons rfl (HB.cons rfl (HB.one rfl))) (fun _=> (HB.cons rfl (HB.cons rfl (HB.one rfl)))),fun r h' hr=> ?_⟩;rcases hr with ⟨hfit,rfl,rfl⟩ | ⟨ncap,hge,rfl,rfl⟩
     ·have hro:Jbs (R++ [Jby sx],some (s,cap,tl.drop 2)):=⟨by rw [List.length_append];exact hfit,by have:=hrk.2;rw [List.length_append,List.length_drop,List.length_singleton];omega⟩;refine Z ?_;exact Jt rfl ⟨.tup [],⟨[((1,s1), .c (JbJ d x (JaL st1 (5+q) (R++ [Jby sx],some (s,cap,tl.drop 2))))),((0,s0), .c [int dk,int dn,Ji x,Jak ps])]++Jbv (JaL st1 (5+q) (R++ [Jby sx],some (s,cap,tl.drop 2))), [],nx2,21⟩,Rf,HLe.trans (Jky (bx:= [((1,s1), .c (JbJ d x (JaL st1 (5+q) (R++ [Jby sx],some (s,cap,tl.drop 2))))),((0,s0), .c [int dk,int dn,Ji x,Jak ps])]++(JbW (10+(5+q)) (R++ [Jby sx],some (s,cap,tl.drop 2))++Jah (5+q) st1)) (B20 s0 s1 nx0 ps dk dn x _ _++(((30,s), .c _)::Jah (5+q) st1)) ([((1,s1), .c _),((0,s0), .c [int dk,int dn,Ji x,Jak ps])]++(((30,s), .c _)::Jah (5+q) st1)) rfl (List.Perm.refl _) (.cons _ Sf) rfl (Jsv (by subst hq;exact Jhc (r:=(R++ [Jby sx],some (s,cap,tl.drop 2))) Dc JiH) (Je2 (JyJ (e:=Jby sx) gc_sub (by exact hw2)) rfl))) (Joq hq7),rfl,_,_,_,Jop (R:=R) Om hok1 hdone hrest hk hro hsb hso,rfl⟩
     ·have hro:Jbs (R++ [Jby sx],some (nx2,ncap,List.replicate ((ncap - (R.length+1)) * 2) .any)):=⟨by rw [List.length_append];exact hge,by rw [List.length_append,List.length_replicate,List.length_singleton,← Nat.add_mul];omega⟩;refine Z ?_;exact Jt rfl ⟨.tup [],⟨[((1,s1), .c (JbJ d x (JaL st1 (5+q) (R++ [Jby sx],some (nx2,ncap,List.replicate ((ncap - (R.length+1)) * 2) .any))))),((0,s0), .c [int dk,int dn,Ji x,Jak ps])]++Jbv (JaL st1 (5+q) (R++ [Jby sx],some (nx2,ncap,List.replicate ((ncap - (R.length+1)) * 2) .any))), [],nx2+1,21⟩,Rf,HLe.trans (Jky (bx:= [((1,s1), .c (JbJ d x (JaL st1 (5+q) (R++ [Jby sx],some (nx2,ncap,List.replicate ((ncap - (R.length+1)) * 2) .any))))),((0,s0), .c [int dk,int dn,Ji x,Jak ps])]++(JbW (10+(5+q)) (R++ [Jby sx],some (nx2,ncap,List.replicate ((ncap - (R.length+1)) * 2) .any))++Jah (5+q) st1)) (B20 s0 s1 nx0 ps dk dn x _ _++(((21,nx2), .c _)::((30,s), .c _)::Jah (5+q) st1)) ([((1,s1), .c _),((0,s0), .c [int dk,int dn,Ji x,Jak ps])]++(((21,nx2), .c _)::Jah (5+q) st1)) rfl (List.perm_middle (l₁:= [_,_,_])) (.cons _ (.cons_cons _ (.cons_cons _ (.cons_cons _ (.cons _ Sf))))) rfl (Jsv (by subst hq;exact Jhc (r:=(R++ [Jby sx],some (nx2,ncap,List.replicate ((ncap - (R.length+1)) * 2) .any))) Dc JiH) (Je2 (Jst (e:=Jby sx) gc_sub (by exact hw2)) rfl))) (Joq hq7),rfl,_,_,_,Jop (R:=R) Om hok1 hdone hrest hk hro hsb hso,rfl⟩
open Go.Vl Go.Shelf Go.RowKit
theorem JyK (n:Nat) (h1:1≤n) (h2:n < 18446744073709551616):Tells Tryz.prog 307 [u64 n] (int (Lib.nDigits n:Nat)):=
 Jen (vs:= [.int .u64 n]) ⟨_,Tryz.func307,rfl,rfl⟩ fun w hk=> (Any.internal_strconv_numDigits { Tryz.laysM171 with} n h1 h2 w (JuV hk)).mono fun e w' ⟨h1,h2⟩=> ⟨h1,h2 ▸ Below.refl _ _⟩
theorem Jwx (n:Nat) (h:n < 100):Tells Tryz.prog 306 [int n] (JA (Jel n)):=
 Jen (vs:= [.int .i64 n]) ⟨_,Tryz.func306,rfl,rfl⟩ fun w hk=> (Any.internal_strconv_small { Tryz.laysM171 with} n h w).mono fun e w' ⟨h1,h2⟩=> ⟨h1,h2 ▸ Below.refl _ _⟩
def byV (b:UInt8):Value:= .int .u8 (b.toNat:Int)
def zer (k:Nat):List AV:=List.replicate k (.v (.int .u8 0))
theorem JCH {k:Nat} (h:k≤24):zer 24=(Array.replicate k (0:UInt8)).toList.map (fun b=> AV.v (byV b))++zer (24 - k):=by
 unfold zer
 rw [Array.toList_replicate,List.map_replicate,show byV 0= .int .u8 0 from rfl,List.replicate_append_replicate]
 congr 1
 omega
theorem JBz {n:Nat} (h1:1≤n) (h:n < 18446744073709551616):Lib.nDigits n≤20:=by
 have:=Lib.numDigits_eq n h1 h
 split at this <;> omega
def JAW (n:Nat):List AV:=(Lib.decDigits n).map (fun b=> AV.v (byV b))++zer (24 - Lib.nDigits n)
theorem Jwy (n:Nat) (h1:1≤n) (h:n < 18446744073709551616) (s nx:Nat):
 ECall Tryz.prog 308 [.hs (0,s) 0 (Lib.nDigits n) 24,u64 n] ⟨[((0,s), .c (zer 24))], [],nx,1⟩ fun r h'=> r= .tup []∧h'=⟨[((0,s), .c (JAW n))], [],nx,1⟩:=by
 have h20:=JBz h1 h
 have hd:(Array.replicate (Lib.nDigits n) (0:UInt8)).size=Lib.nDigits n:=Array.size_replicate
 rw [JCH (k:=Lib.nDigits n) Om]
 have:=JoU (P:=Tryz.prog) (enc:=byV) (d:=Array.replicate (Lib.nDigits n) (0:UInt8)) (d':=(Lib.decDigits n).toArray) (tl:=zer (24 - Lib.nDigits n)) (vs:= [.int .u64 n]) (R:= .tup []) (res:=fun _=> .tuple #[]) (nm:=0) (s:=s) (cap:=24) (nx:=nx) (nn:=1) (f:=308) ⟨_,Tryz.func308,rfl,rfl⟩ (by rw [hd,List.size_toArray,Lib.decDigits_length]) (fun _ _ _ _ _=> .tup [] [] rfl Si) (fun w blk hk hH hb=> by
  have k:=Any.internal_strconv_formatBase10 { Tryz.laysM171 with} blk 0 24 n (Array.replicate (Lib.nDigits n) 0) w hH (by rw [hd];exact Lib.lt_pow_nDigits n) h (by rw [hd];omega);refine k.mono fun e w' ⟨h1,q,v',dk,h2,hF⟩=> ⟨h1,q, #[], ?_⟩;rw [hd] at hF;have e1:dk=(Lib.decDigits n).toArray:=by
   refine Array.ext (by rw [hF.size,List.size_toArray,Lib.decDigits_length]) fun j hj1 hj2=> ?_;have hj3:j < (Lib.decDigits n).length:=by simpa using hj2
   have:=Lib.row_is_numeral hF j hj3;have e3:dk[j]! =dk[j]:=by simp [hj1]
   exact e3.symm.trans (this.symm.trans Si)
  have e2:(Sort.putRow byV w blk 0 dk).drewN q=Sort.putRow byV (Sort.ahead w q) blk 0 dk:=by
   have:=putRow_drewN byV w 0 q blk 0 dk;rw [Nat.zero_add] at this;exact this
  rw [h2,← e1];show (Sort.putRow byV w blk 0 dk).drewN q=_;rw [e2];unfold Sort.grow;rw [Array.append_empty])
 rw [hd] at this
 exact this
theorem JDW {n j:Nat} (hj:j < (Lib.decDigits n).length):(JAW n)[0+j]? =some (.v (.int .u8 ((Lib.decDigits n)[j].toNat:Int))):=by
 unfold JAW
 rw [Nat.zero_add,List.getElem?_append_left (by simpa using hj),List.getElem?_map,List.getElem?_eq_getElem hj]
 rfl
theorem Jsw (n:Nat) (hn:n < 18446744073709551616):Tells Tryz.prog 286 [u64 n,int 10] (JA (Jel n)):=by
 refine Jc Tryz.func286 rfl rfl fun nx=> ?_
 refine Z ?_
 intro c t1;cases c
 ·have t1:=Jw t1;have h1:1≤n:=by omega
  have h20:=JBz h1 hn;refine Z ?_;refine Ja rfl rfl (JyK n h1 hn) Y1 fun nx2=> ?_;refine Jy ?_;refine JF (fun n=> match n with | 0=> true | _=> false) 2 ?_;refine Z ?_;refine JoV (n:=24) (h:=Lib.nDigits n) rfl rfl rfl Tryz.underlying367 Tryz.underlying5 Kr Om Dc ?_;refine Z ?_;refine Jg (xs:= [.hs (0,nx) 0 (Lib.nDigits n) 24,u64 n]) [] [] 1 rfl rfl rfl rfl Y2 (Jwy n h1 hn nx _) Bf Pf rfl fun r h' hq=> ?_;obtain ⟨rfl,rfl⟩:=hq;refine Jy ?_;refine JF (fun n=> match n with | 0=> true | 1=> true | _=> false) 3 ?_;refine Z ?_;refine JoV (n:=24) (h:=Lib.nDigits n) rfl rfl rfl Tryz.underlying367 Tryz.underlying5 Kr Om Dc ?_;refine Z ?_;refine Jxj (l:=Lib.decDigits n) (cap:=24) (off:=0) (i:=(0,nx)) rfl (by rw [Lib.decDigits_length];rfl) rfl (fun j hj=> JDW hj) Tryz.underlying59 Tryz.underlying5 Tryz.underlying9 ?_;refine Z ?_;exact Jb rfl Rf
 ·have t1:=Ju t1;refine Z ?_;refine Ja rfl rfl (Jwx n Om) ⟨Jf (Jq Om Om),Tt⟩ fun nx2=> ?_;refine Z ?_;exact Jb rfl Rf
theorem Jw5 {a b:ByteArray} (h:a=b):AVle (JA a) (JA b):=h ▸ Rf
theorem Ju2:∀(k n:Nat),n < 10 ^ (k+1)→(Lib.decDigits n).length≤k+1
 | 0,n,h=> by rw [Lib.decDigits,dif_pos Om];exact Nat.le_refl _
 | k+1,n,h=> by
   rw [Lib.decDigits];split
   ·exact Nat.succ_le_succ (Nat.zero_le _)
   ·rw [List.length_append,List.length_singleton];have:=Ju2 k (n / 10) (by rw [Nat.pow_succ] at h;omega);omega
theorem JpI {n:Nat} (h:n≤18446744073709551615):(Jel n).size≤20:=Ju2 19 n Om
theorem JpJ {a b:AV} {K:AV→Prop} (h:a=b) (hk:Jdi b K):Jdi a K:=h ▸ hk
def spB:ByteArray:=⟨#[32]⟩
end Go.Proofs.W

namespace Go.Proofs
open Go.Shelf
shelf_lay Lays.n156 Nm 156 at Tryz as Tryz.lays156
end Go.Proofs
namespace Go.Proofs.W
open Go.Vl Go.Shelf Go.RowKit
set_option maxRecDepth 100000
theorem JBA:Builder.Extra Tryz.prog Tryz.lays156_ren where
 sizeBuilder:=by kernel_rfl
 liesBuilder:=by kernel_rfl
 t5:=Tryz.underlying5
 a5:=Tryz.isAgg5
 z5:=Tryz.sizeOf5
 v5:=Tryz.zeroValue5
 infoByte:=by kernel_rfl
 cellsByte:=by kernel_rfl
 sizeByte:=by kernel_rfl
 neB5:=by decide
def JqB (l:List ByteArray):AV:=JK 1 JA ⟨#[]⟩ l
def Jff (l:List ByteArray) (sep:ByteArray):ByteArray:=⟨(Lib.join (l.map (·.data.toList)) sep.data.toList).toArray⟩
theorem Jh9 (l:List ByteArray) (sep:ByteArray) (hl:l.length≤1000000) (hs:(Jff l sep).size≤140737488355328):Tells Tryz.prog 107 [JqB l,JA sep] (JA (Jff l sep)):=by
 have h:=JvE (P:=Tryz.prog) (f:=107) (u:= .string (Jff l sep)) (xs:=l.map .string) (vs:= [.string sep]) ⟨_,Tryz.func107,rfl,rfl⟩ (fun h0 a cap w _=> ?_) (fun b off cap w hk hc hb hcap h0=> ?_)
 refine Tells.args (bs:= [.sl 1 (l.map Value.string).length (fun k=> .v ((l.map Value.string).getD k undef)),JA sep]) ⟨?_,Y1⟩ h
 ·rw [List.length_map];refine AVle.sl_fun fun k hk=> ?_;simp [JA,List.getD,List.getElem?_map,List.getElem?_eq_getElem hk]
 ·obtain rfl:l= []:=by simpa using h0
  exact (Any.strings_Join_none Tryz.lays156 JBA a cap sep w).mono fun e w' ⟨h1,h2⟩=> ⟨h1,h2 ▸ Below.refl _ _⟩
 ·rw [List.length_map] at hcap⊢;exact Any.strings_Join Tryz.lays156 JBA b off cap l sep w (fun j x hx=> hc j _ (by rw [List.getElem?_map,hx];rfl)) hb Om hcap (by simpa [Jff,ByteArray.size] using hs)
theorem Jsx (n:Nat) (h:n < 18446744073709551616):Tells Tryz.prog 163 [u64 n] (JA (Jel n)):=by
 have h1:Tells Tryz.prog 225 [u64 n,int 10] (JA (Jel n)):=by
  refine Jc Tryz.func225 rfl rfl fun nx=> ?_;refine Z ?_;refine Ja rfl rfl (Jsw n h) Y2 fun nx2=> ?_;refine Z ?_;exact Jb rfl Rf
 refine Jc Tryz.func163 rfl rfl fun nx=> ?_
 refine Z ?_
 refine Ja rfl rfl h1 Y2 fun nx2=> ?_
 refine Z ?_
 exact Jb rfl Rf
def Jor (c:Cnd):ByteArray:=⟨(Jar c).toArray⟩
theorem Jmi {n:Nat} (h:n < 18446744073709551616):(Lib.decDigits n).length≤20:=by
 have h2:(Jel n).size≤20:=JpI Om
 exact h2
theorem JCI {k:Nat} (hk:k < 7):∃s:ByteArray,s.data.toList=opT k∧s.size≤2∧∃f,JfV JvU k= .ag [JA s,fn0 f]:=by
 match k,hk with
 | 0,_ | 1,_ | 2,_ | 3,_ | 4,_ | 5,_ | 6,_=> exact ⟨_,rfl,by decide,_,rfl⟩
theorem Jwz {f:Nat→AV} (h:(f 0).cells.all Jcj=true) (h':(f 1).cells.all Jcj=true):JcP 2 f:=fun k hk=> by
 rcases k with _ | _ | k
 ·exact h
 ·exact h'
 ·omega
theorem JEy (a b c:Bts):Lib.join [a,b,c] [32]=a++32::(b++32::c):=by simp [Lib.join,List.intercalate,List.intersperse]
theorem JEz (a b c d e:Bts):Lib.join [a,b,c,d,e] [32]=a++32::(b++32::(c++32::(d++32::e))):=by simp [Lib.join,List.intercalate,List.intersperse]
def aB:ByteArray:=⟨#[97]⟩
def eqB:ByteArray:=⟨#[61,61]⟩
theorem JhI (a b:ByteArray):(a++b).data.toList=a.data.toList++b.data.toList:=by simp
theorem JhJ (n:Nat):(Jel n).data.toList=Lib.decDigits n:=rfl
theorem JEP {i k m v:Nat} {so:ByteArray} (h:so.data.toList=opT k) (hk:k≠6):Jff [aB++Jel i,so,Jel v] spB=Jor ⟨(i:Nat),(k:Int)+1,m,v⟩:=by
 unfold Jff Jor Jar
 rw [List.map_cons,List.map_cons,List.map_cons,List.map_nil,JhI,h,JhJ,JhJ,show spB.data.toList= [32] from rfl,JEy]
 dsimp only
 rw [if_neg Om,show ((k:Int)+1).toNat - 1=k by omega,Int.toNat_natCast]
 rfl
theorem JEQ {i m v:Nat} {so:ByteArray} (h:so.data.toList=opT 6):Jff [aB++Jel i,so,Jel m,eqB,Jel v] spB=Jor ⟨(i:Nat),7,m,v⟩:=by
 unfold Jff Jor Jar
 rw [List.map_cons,List.map_cons,List.map_cons,List.map_cons,List.map_cons,List.map_nil,JhI,h,JhJ,JhJ,JhJ,show spB.data.toList= [32] from rfl,JEz]
 dsimp only
 rw [if_pos rfl,Int.toNat_natCast]
 rfl
theorem Jkz {c:Cnd} (hr:JR c=true) (hok:c.ok):(Jor c).size≤1000:=by
 obtain ⟨h1,h2,h3,h4,h5⟩:=Jag.1 hr
 show (Jar c).length≤1000
 have d1:=Jmi (n:=c.arg.toNat) Om
 have d2:=Jmi hok.1
 have d3:=Jmi hok.2
 have d4:∀k:Nat,k < 7→(opT k).length≤2:=by decide
 have d5:=d4 (c.op.toNat - 1) Om
 unfold Jar
 simp only [List.length_append,List.length_cons,List.length_nil]
 split
 ·simp only [List.length_append,List.length_cons];omega
 ·omega
theorem Jsy {a b:ByteArray} (h:a=b):AVle (JA a) (JA b):=Jw5 h
theorem JyL (c:Cnd) (hr:JR c=true) (hok:c.ok):Tells Tryz.prog 105 [JZ c] (JA (Jor c)):=by
 obtain ⟨h1,h2,h3,h4,h5⟩:=Jag.1 hr
 have hR:=JgU c
 rw [hr] at hR
 obtain ⟨arg,op,mask,value⟩:=c
 dsimp only at h1 h2 h3 h4 h5
 obtain ⟨i,rfl⟩:∃i:Nat,arg=i:=⟨arg.toNat,Om⟩
 obtain ⟨k,rfl⟩:∃k:Nat,op=k+1:=⟨(op - 1).toNat,Om⟩
 have hit:=Jym i Om
 have hdv:=Jsx value hok.2
 have hdm:=Jsx mask hok.1
 have hk7:k < 7:=by omega
 obtain ⟨so,hso,hss,f,hf⟩:=JCI hk7
 have hx:IntKind.i64.wrap ((k:Int)+1 - 1)=(k:Int):=by rw [Jq Om Om];omega
 refine Jc Tryz.func105 rfl rfl fun nx=> ?_
 refine Z ?_
 refine Ja rfl rfl hR Y1 fun nx2=> ?_
 refine Z ?_
 refine Jav 12 _ (fun _=> false) (Ef [2,4]) [0,1,2,3,4,5,6,7,8,9,10,11] Kr Kr (HB.refl _) ?_
 refine Z ?_
 refine ⟨_,J2 rfl rfl rfl hit Y1 (NoId.v _), ?_⟩
 refine Z ?_
 refine ⟨by have:=JpI (n:=i) Om;have h2:(⟨#[97]⟩:ByteArray).size=1:=rfl;rw [h2];omega, ?_⟩
 refine Z ?_
 refine ⟨_,J2 rfl rfl rfl JzY trivial JzZ, ?_⟩
 refine Z ?_
 refine ⟨⟨by rw [hx];omega,by rw [hx];omega⟩,JpJ (b:= .rp [JA so,fn0 f]) (by rw [hx];show AV.rp (JfV JvU k).cells=_;rw [hf];rfl) ?_⟩
 refine Z ?_
 intro c t1;cases c
 ·have t1:k≠6:=fun e=> by subst e;cases t1
  refine Z ?_;refine Ja rfl rfl hdv Y1 fun nx3=> ?_;refine Z ?_;refine ⟨JM rfl,by show (2+1) * 16≤_;decide,by decide, ?_⟩;refine Z ?_;have e:=JEP (i:=i) (m:=mask) (v:=value) hso t1;refine Ja rfl rfl (Jh9 [aB++Jel i,so,Jel value] spB (by show 3≤_;decide) (by rw [e];exact Nat.le_trans (Jkz hr hok) Dc)) ⟨AVle.os_sl.trans (AVle.sl_fun fun j hj=> ?_),Y1⟩ fun nx3=> ?_
  ·match j,hj with
   | 0,_ | 1,_ | 2,_=> rfl
  refine Z ?_;exact Jb rfl (Jsy e)
 ·have t1:k=6:=by have:(k:Int)+1=7:=by simpa using t1.symm
                  omega
  subst t1;refine Z ?_;refine Ja rfl rfl hdm Y1 fun nx3=> ?_;refine Z ?_;refine ⟨Jwz rfl rfl,by show (2+2) * 16≤_;decide,by decide, ?_⟩;refine Z ?_;refine Ja rfl rfl hdv Y1 fun nx3=> ?_;refine Z ?_;refine ⟨JM rfl,by show (4+1) * 16≤_;decide,by decide, ?_⟩;refine Z ?_;have e:=JEQ (i:=i) (m:=mask) (v:=value) hso;refine Ja rfl rfl (Jh9 [aB++Jel i,so,Jel mask,eqB,Jel value] spB (by show 5≤_;decide) (by rw [e];exact Nat.le_trans (Jkz hr hok) Dc)) ⟨AVle.os_sl.trans (AVle.sl_fun fun j hj=> ?_),Y1⟩ fun nx3=> ?_
  ·match j,hj with
   | 0,_ | 1,_ | 2,_ | 3,_ | 4,_=> rfl
  refine Z ?_;exact Jb rfl (Jsy e)
end Go.Proofs.W

namespace Go.Proofs
open Go.Shelf
shelf_lay_g SlLaysN.n44 Slgn 44 at Tryz 108 as Tryz.laysN44
end Go.Proofs
namespace Go.Proofs.W
open Go.Vl Go.Shelf
set_option maxRecDepth 100000
theorem Jny (d:Array Bts):∀m,Lib.compactUpTo d m=cUs d m
 | 0=> rfl
 | m+1=> by
   rw [Lib.compactUpTo_succ,Jny d m,cUs];unfold Lib.keeps;by_cases h:m=0∨d[m]! ≠d[m - 1]!
   ·rw [if_pos h,decide_eq_true h];rfl
   ·rw [if_neg h,decide_eq_false h];simp
theorem JyM (d0:Array Bts) (tl:List AV) (n:Nat) (hn:d0.size=n) (hsz:n≤1000000) (s cap nx:Nat) (hcap:n≤cap):
 ECall Tryz.prog 108 [.hs (0,s) 0 n cap] ⟨Jd2 s d0 tl, [],nx,1⟩ (fun r h'=> ∃tl' nx' nn',r= .hs (0,s) 0 (cUs d0 n).length cap∧h'=⟨Jd2 s (cUs d0 n).toArray tl', [],nx',nn'⟩):=by
 subst hn
 have hle:=Jr7 d0 d0.size
 have h:=JoU (P:=Tryz.prog) (enc:=encStr) (d:=d0) (d':=(cUs d0 d0.size++List.replicate (d0.size - (cUs d0 d0.size).length) []).toArray) (tl:=tl) (vs:= []) (R:= .hs (0,s) 0 (cUs d0 d0.size).length cap) (res:=fun b=> .slice (some ⟨b,0,none⟩) (cUs d0 d0.size).length cap) (nm:=0) (s:=s) (cap:=cap) (nx:=nx) (nn:=1) (f:=108) ⟨_,Tryz.func108,rfl,rfl⟩ (by simp;omega) (fun w X g b hg=> .hs _ _ _ _ b hg) (fun w blk hk hH hb=> by
  have k:=AnyG.slices_Compact_string_arr Tryz.laysN44 blk 0 cap d0 w hH Om hcap;rw [Jny] at k;exact k.mono fun e w' ⟨h1,q,h2⟩=> ⟨h1,q, #[],by rw [h2];unfold Sort.grow;rw [Array.append_empty]⟩)
 refine h.mono fun r h' ⟨h1,h2⟩=> ⟨List.replicate (d0.size - (cUs d0 d0.size).length) (Jbe [])++tl,nx,1,h1, ?_⟩
 rw [h2]
 unfold Jd2 Jba
 simp [Jbe]
def JwA (sz:Nat):AV:= .os sz 0 (fun _=> .any) none
theorem JyN:Tells Tryz.prog 108 [JwA 1] (JwA 1):=by
 refine Jc Tryz.func108 rfl rfl fun nx=> ?_
 refine Z ?_
 exact Jb rfl Rf
theorem JkA (d:Array Bts) (tl:List AV):Jba Jbe d tl=Jas (fun z=> [Jbe z]) d tl:=by
 unfold Jba Jas
 rw [List.map_eq_flatMap]
theorem Jsz:∀z:Bts,([Jbe z]:List AV).length=1:=fun _=> rfl
theorem c_str:Tryz.prog.cellsOf 9=1:=by kernel_rfl
theorem JyO:JbK Tryz.prog 9=true:=by kernel_rfl
theorem JyP:Tryz.prog.bytesOf 9=16:=by kernel_rfl
theorem JEA {l:List Bts} {x:Bts} {tl:List AV} (h:1≤tl.length):Jab (Jba Jbe l.toArray tl) (l.length * Tryz.prog.cellsOf 9) [Jbe x]=Jba Jbe (l++ [x]).toArray (tl.drop 1):=by
 rw [c_str,JkA,JkA];exact JoR Jsz h
theorem JEB {x:Bts} {m:Nat}: [Jbe x]++List.replicate (m * Tryz.prog.cellsOf 9) AV.any=Jba Jbe #[x] (List.replicate m .any):=by
 rw [c_str];simp [Jba]
theorem JEC {l:List Bts} {x:Bts} {tl:List AV} {m:Nat}:(Jba Jbe l.toArray tl).take (l.length * Tryz.prog.cellsOf 9)++ [Jbe x]++List.replicate (m * Tryz.prog.cellsOf 9) .any=Jba Jbe (l++ [x]).toArray (List.replicate m .any):=by
 rw [c_str,JkA,JkA,JoS Jsz,Nat.mul_one];exact Jri
def JER (L:List Bts):Option (Nat×Nat×List AV)→AV
 | none=> JwA 1
 | some (s1,cap,_)=> .hs (0,s1) 0 L.length cap
def JES (L:List Bts):Option (Nat×Nat×List AV)→List (Vl.Id×Own)
 | none=> []
 | some (s1,_,tl)=> Jd2 s1 L.toArray tl
def JET (L:List Bts):Option (Nat×Nat×List AV)→Prop
 | none=> L= []
 | some (_,cap,tl)=> 1≤L.length∧L.length≤cap∧cap≤L.length+tl.length
theorem Ju3 {i j:Vl.Id} {L:List Bts} {x:Bts} {cap:Nat} (h:i.2=j.2):AVle (.hs i 0 (L.length+1) cap) (.hs j 0 (L++ [x]).length cap):=by
 rw [List.length_append];exact AVle.hs_nm h
theorem JED {L:List Bts}:AVle (JK 1 Jbe [] L) (JqB (L.map fun z=> ⟨z.toArray⟩)):=by
 unfold JK JqB JK
 rw [List.length_map]
 refine AVle.sl_fun fun k hk=> ?_
 simp [Jbe,encStr,JA,List.getD,List.getElem?_map,List.getElem?_eq_getElem hk]
def semiB:ByteArray:=⟨#[59]⟩
theorem Ju4:∀L:List Bts,Lib.join L [59]=JfQ 59 L
 | []=> rfl
 | [a]=> by rw [Lib.join_one];rfl
 | a::b::l=> by
   have:=Ju4 (b::l);rw [Jc7 (List.cons_ne_nil _ _),← this];simp [Lib.join,List.intercalate,List.intersperse]
theorem JAX (L:List Bts):Jff (L.map fun z=> ⟨z.toArray⟩) semiB=⟨(JfQ 59 L).toArray⟩:=by
 unfold Jff
 rw [List.map_map,show ((fun x:ByteArray=> x.data.toList)∘fun z:Bts=> (⟨z.toArray⟩:ByteArray))=id from funext fun z=> by simp,List.map_id,show semiB.data.toList= [59] from rfl,Ju4]
theorem JpK:∀(L:List Bts) (N:Nat),(∀a∈L,a.length≤N)→(JfQ 59 L).length≤L.length * (N+1)
 | [],N,_=> Nat.zero_le _
 | [a],N,h=> by have:=h a (.head _);show a.length≤_;simp;omega
 | a::b::l,N,h=> by
   have h1:=h a (.head _);have h2:=JpK (b::l) N fun x hx=> h x (.tail _ hx);rw [Jc7 (List.cons_ne_nil _ _),List.length_append,List.length_cons];rw [show (a::b::l).length=(b::l).length+1 from rfl,Nat.succ_mul];omega
def JgA (cs:List Cnd):ByteArray:=⟨(Jio cs).toArray⟩
theorem JwB {cs:List Cnd} {i:Nat} (hi:i < cs.length):(cs.take (i+1)).map Jar=(cs.take i).map Jar++ [Jar (cs.getD i cnd0)]:=by
 rw [JaP cnd0 hi,List.map_append];rfl
theorem Ju5 (cs:List Cnd):Jff ((Jdo (cs.map Jar)).map fun z=> ⟨z.toArray⟩) semiB=JgA cs:=JAX _
theorem JAY:JA (Jff [] semiB)=JA (JgA []):=by
 unfold JgA
 rw [Jl9.2 rfl];rfl
theorem JqC {a b:Own} (h:a=b):OwnLe a b:=h ▸ OwnLe.refl a
theorem JAZ {bs:List (Nat×Own)} {i:Vl.Id} {n cap:Nat} {l:List Bts} {tl:List AV} (hn:l.length=n) (hm:(i.2, .c (Jba Jbe l.toArray tl))∈bs) (hcap:n≤cap):Frz bs (.hs i 0 n cap) (JK 1 Jbe [] l):=
 Jhr Jsz (fun _=> rfl) hn (by rw [← JkA];exact hm) hcap
theorem JyQ {c:Cnd} (hr:JR c=true) (hok:c.ok):(Jar c).length≤1000:=Jkz hr hok
theorem JpL (l:List Bts):(Jdo l).length≤l.length:=by
 have:=Jr7 (Jg2 l).toArray (Jg2 l).length
 unfold Jdo
 have h2:(Jg2 l).length=l.length:=JaZ
 omega
theorem Jnz {cs:List Cnd} (hr:∀c∈cs,JR c=true) (hok:∀c∈cs,c.ok) (hl:cs.length≤12):(JgA cs).size≤12012:=by
 have h1:=JpK (Jdo (cs.map Jar)) 1000 fun a ha=> by
  obtain ⟨c,hc,rfl⟩:=List.mem_map.1 (((Jcs _).2 a).1 ha);exact JyQ (hr c hc) (hok c hc)
 have h2:=JpL (cs.map Jar)
 rw [List.length_map] at h2
 have h3:(Jdo (cs.map Jar)).length * (1000+1)≤12 * (1000+1):=Nat.mul_le_mul_right _ Om
 show (Jio cs).length≤_
 unfold Jio
 omega
theorem JA0 (cs:List Cnd) (hr:∀c∈cs,JR c=true) (hok:∀c∈cs,c.ok) (hl:cs.length≤12):Tells Tryz.prog 57 [Jaz cs] (JA (JgA cs)):=by
 refine Jc Tryz.func57 rfl rfl fun nx=> ?_
 refine Z ?_
 refine Js (fun y:Nat×List Bts×Option (Nat×Nat×List AV)×Nat=> mk 23 [(3,JER y.2.1 y.2.2.1),(6,Jaz cs),(7,int cs.length),(8,int y.1)] ⟨JES y.2.1 y.2.2.1, [],y.2.2.2,1⟩) (fun y=> y.1≤cs.length∧y.2.1=(cs.take y.1).map Jar∧JET y.2.1 y.2.2.1) (fun y=> cs.length - y.1) ?_ ?_
 ·exact ⟨(0, [],none,nx),⟨Nat.zero_le _,rfl,rfl⟩,Je (bx:= []) (pm:= []) [] [] rfl rfl (List.nil_sublist _) Sf Tt Tt ⟨AVle.os_nil,Y3⟩⟩
 ·rintro ⟨i,L,md,nx1⟩ ⟨h1,hL,h2⟩;dsimp only at h1 hL h2;have hLl:L.length=i:=by rw [hL,List.length_map,List.length_take];omega
  refine Z ?_;intro c g;cases c
  ·have g:=Jw g;try dsimp only at g
   have hi:i=cs.length:=by omega
   subst hi;rw [List.take_length] at hL;rcases md with _ | ⟨s1,cap,tl⟩
   ·obtain rfl:L= []:=h2;obtain rfl:cs= []:=List.length_eq_zero_iff.1 (by simpa using hLl.symm);refine Z ?_;refine Ja rfl rfl (JxD _) Y1 fun nx2=> ?_;refine Z ?_;refine Ja rfl rfl JyN Y1 fun nx3=> ?_;refine Z ?_;refine Ja rfl rfl (Jh9 [] semiB Dc Dc) ⟨AVle.os_sl0,Y1⟩ fun nx4=> ?_;refine Z ?_;exact Jb rfl (AVle.of_eq JAY)
   ·obtain ⟨q1,q2,q3⟩:=h2;refine Z ?_;refine Jg (xs:= [.hs (0,s1) 0 L.length cap]) [] [] 1 rfl rfl rfl rfl Y1 (JxC L.toArray tl L.length Si Om s1 cap _) Bf Pf rfl fun r h' hq=> ?_;obtain ⟨nx2,nn2,rfl⟩:=hq;refine Z ?_;refine Jg (xs:= [.hs (0,s1) 0 L.length cap]) [] [] 1 rfl rfl rfl rfl Y1 (JyM (J0 Go.Sort.ltStr L.toArray.toList).toArray tl L.length (by simp [JaZ]) Om s1 cap _ q2) Bf Pf rfl fun r h' hq=> ?_;obtain ⟨tl2,nx3,nn3,rfl,rfl⟩:=hq;refine Z ?_;have hst:∀l:List Bts,(J0 Go.Sort.ltStr l).length=l.length:=fun l=> JaZ;have hcT:cUs (J0 Go.Sort.ltStr L.toArray.toList).toArray L.length=Jdo (cs.map Jar):=by
     unfold Jdo Jg2;rw [hst,← hL]
    rw [hcT];have hcl:=JpL (cs.map Jar);rw [← hL] at hcl;rw [← hL];have hj:Tells Tryz.prog 107 [JK 1 Jbe [] (Jdo L),JA semiB] _:=Tells.args (bs:= [JqB ((Jdo L).map fun z=> ⟨z.toArray⟩),JA semiB]) ⟨JED,Y1⟩ (Jh9 ((Jdo L).map fun z=> ⟨z.toArray⟩) semiB (by rw [List.length_map];omega) (by rw [hL,Ju5];exact Nat.le_trans (Jnz hr hok hl) Dc));refine AOp.of_yields (Jtq rfl rfl hj ⟨JAZ (i:=(0,s1)) rfl (.head _) Om,Frz.refl _,Tt⟩ (Flat.v _)) ?_;refine Z ?_;exact Jb rfl (Jsy (by rw [hL];exact Ju5 cs))
  ·have g:=Ju g;try dsimp only at g
   have hi:i < cs.length:=by omega
   have hm:cs.getD i cnd0∈cs:=by simp [List.getD,hi]
   have ht:=JyL _ (hr _ hm) (hok _ hm);have hn:=JwB hi;rw [← hL] at hn;rcases md with _ | ⟨s1,cap,tl⟩
   ·obtain rfl:L= []:=h2;refine Z ?_;refine ⟨Bd, ?_⟩;refine Jy ?_;refine JF (Ef [0]) 5 ?_;refine Z ?_;refine Ja rfl rfl ht Y1 fun nx2=> ?_;refine Z ?_;refine JfF (m:=1) rfl rfl (.inr ⟨_,rfl⟩) Tryz.underlying163 JyO c_str.symm Dc (JM rfl) (by rw [JyP];omega) Om fun ncap hcap=> ?_;refine Z ?_;exact back (i+1, [Jar (cs.getD i cnd0)],some (nx2,ncap,List.replicate (ncap - 1) .any),nx2+1) ⟨hi,hn.symm,⟨Nat.le_refl _,hcap,by simp;omega⟩⟩ Dm (Je (pm:= []) (bx:=Jd2 nx2 #[Jar (cs.getD i cnd0)] (List.replicate (ncap - 1) .any)) [((2,nx2), .c ([Jbe (Jar (cs.getD i cnd0))]++List.replicate ((ncap - 1) * Tryz.prog.cellsOf 9) .any))] [] rfl rfl (.cons_cons _ (.cons _ .slnil)) .slnil ⟨rfl,JqC (congrArg Own.c JEB),Tt⟩ Tt ⟨AVle.hs_nm rfl,Rf,Rf,Lw,Tt⟩)
   ·obtain ⟨q1,q2,q3⟩:=h2;refine Z ?_;refine ⟨Bd, ?_⟩;refine Jy ?_;refine JF (Ef [0]) 5 ?_;refine Z ?_;refine Ja rfl rfl ht Y1 fun nx2=> ?_;refine Z ?_;refine Jgh (m:=1) (szx:=1) (n:=L.length) (cap:=cap) (cs:=Jba Jbe L.toArray tl) (i:=(0,s1)) rfl rfl (.inr ⟨_,rfl⟩) Tryz.underlying163 JyO (.inr c_str.symm) (by rfl) q2 (by rw [c_str,JfW];simpa using q3) (JM rfl) (fun _=> by rw [JyP];omega) (fun _=> by omega) (fun hm=> absurd hm Dc) (fun hm hfit=> ?_) (fun hm hfit ncap hcap=> ?_)
    ·refine Z ?_
     (conv=> whnf)
     exact back (i+1,L++ [Jar (cs.getD i cnd0)],some (s1,cap,tl.drop 1),nx2) ⟨hi,hn.symm,⟨by simp,by simpa using hfit,by simp;omega⟩⟩ Dm (Je (pm:= []) (bx:=Jd2 s1 (L++ [Jar (cs.getD i cnd0)]).toArray (tl.drop 1)) [((0,s1), .c (Jab (Jba Jbe L.toArray tl) (L.length * Tryz.prog.cellsOf 9) [Jbe (Jar (cs.getD i cnd0))]))] [] rfl rfl (.cons _ (.cons_cons _ .slnil)) .slnil ⟨rfl,JqC (congrArg Own.c (JEA (by have:=hfit;omega))),Tt⟩ Tt ⟨Ju3 rfl,Rf,Rf,Lw,Tt⟩)
    ·refine Z ?_
     (conv=> whnf)
     exact back (i+1,L++ [Jar (cs.getD i cnd0)],some (nx2,ncap,List.replicate (ncap - (L.length+1)) .any),nx2+1) ⟨hi,hn.symm,⟨by simp,by simpa using hcap,by simp;omega⟩⟩ Dm (Je (pm:= []) (bx:=Jd2 nx2 (L++ [Jar (cs.getD i cnd0)]).toArray (List.replicate (ncap - (L.length+1)) .any)) [((2,nx2), .c ((Jba Jbe L.toArray tl).take (L.length * Tryz.prog.cellsOf 9)++ [Jbe (Jar (cs.getD i cnd0))]++List.replicate ((ncap - (L.length+1)) * Tryz.prog.cellsOf 9) .any))] [] rfl rfl (.cons_cons _ (.cons _ (.cons _ .slnil))) .slnil ⟨rfl,JqC (congrArg Own.c JEC),Tt⟩ Tt ⟨Ju3 rfl,Rf,Rf,Lw,Tt⟩)
end Go.Proofs.W

namespace Go.Proofs.W
open Go.Vl
set_option maxRecDepth 100000
def esV (N:List ByteArray):List (Value×AV):=N.map fun s=> (.string s, .v (.bool true))
def inV (N:List ByteArray) (s:ByteArray):Bool:=N.any fun t=> kS s t
theorem Jos (N:List ByteArray):Ja9 .string (esV N)=true:=by simp [Ja9,esV,Jbc]
theorem JsA (s:ByteArray):∀N:List ByteArray,Jbf (.string s) (esV N)=if inV N s then some (.v (.bool true)) else none
 | []=> rfl
 | t::N=> by
   have ih:=JsA s N;show (bif s.toList ==t.toList then _ else Jbf (.string s) (esV N))=_;rw [ih];unfold inV;rw [List.any_cons];unfold kS;cases s.toList ==t.toList <;> rfl
theorem Ju6 (s:ByteArray):∀N:List ByteArray,inV N s=false→JcN (.string s) (.v (.bool true)) (esV N)=esV (N++ [s])
 | [],_=> rfl
 | t::N,h=> by
   unfold inV at h;rw [List.any_cons,Bool.or_eq_false_iff] at h;show (bif s.toList ==t.toList then _ else (_:Value×AV)::JcN _ _ (esV N))=_;unfold kS at h;rw [h.1,cond_false,Ju6 s N h.2];rfl
theorem Ju7 {s:ByteArray} {N:List ByteArray}:Jge (Jbf (.string s) (esV N)) (.v (.bool false)) false= .v (.bool (inV N s)):=by
 rw [JsA];cases inV N s <;> rfl
def Jf9 (r:Rul):List AV:= [JA r.name,int r.act.1,int r.act.2,Jaz r.conds]
theorem JwC (c:Cnd) (hok:c.ok):Tells Tryz.prog 56 [JZ c] (Ji (JgJ c)):=by
 obtain ⟨arg,op,mask,value⟩:=c
 refine Jc Tryz.func56 rfl rfl fun nx=> ?_
 refine Z ?_
 intro c t1;cases c
 ·refine Z ?_;refine Jb rfl (JN ?_);have:¬op=7:=fun e=> by subst e;cases t1
  unfold JgJ;rw [decide_eq_false this];rfl
 ·have h7:op=7:=by simpa using t1.symm
  refine Z ?_;intro c hc;have e:JgJ ⟨arg,op,mask,value⟩=c:=by
   unfold JgJ;rw [decide_eq_true h7,Bool.true_and,hc];dsimp only;rw [JmQ hok.2 hok.1];by_cases h0:Jih value mask=0
   ·rw [h0];rfl
   ·rw [decide_eq_true h0];exact (bne_iff_ne.2 (fun e=> h0 (Int.ofNat.inj e))).symm
  rw [e];cases c
  ·refine Z ?_;exact Jb rfl Rf
  ·refine Z ?_;exact Jb rfl Rf
theorem JyR (r:Rul) (hok:∀c∈r.conds,c.ok) (hl:r.conds.length≤1000000000):Tells Tryz.prog 54 [.rp (Jf9 r)] (Ji (!(r.conds.any JgJ))):=by
 have hc:=Jrr r.conds JgJ 56 hl fun i hi=> JwC _ (hok _ (by simp [List.getD,hi]))
 generalize r.conds.any JgJ=b at hc⊢
 refine Jc Tryz.func54 rfl rfl fun nx=> ?_
 refine Z ?_
 refine Ja rfl rfl hc Y2 fun nx2=> ?_
 cases b
 ·refine Z ?_;exact Jb rfl Rf
 ·refine Z ?_;exact Jb rfl Rf
theorem JyS (l:List TRow) (r:Rul) (hl:l.length≤1000000) (hs:Jje l r.name):Tells Tryz.prog 53 [.rp [JS l], .rp (Jf9 r)] (Ji (Jbq l r.name)):=by
 have hf:=Jhw l r.name hl hs
 unfold JmY at hf
 refine Jc Tryz.func53 rfl rfl fun nx=> ?_
 cases hb:Jbq l r.name with
 | true=>
   rw [hb,if_pos rfl] at hf;refine Z ?_;refine Ja rfl rfl hf Y2 fun nx2=> ?_;refine Z ?_;exact Jb rfl Rf
 | false=>
   rw [hb,if_neg Dc] at hf;refine Z ?_;refine Ja rfl rfl hf Y2 fun nx2=> ?_;refine Z ?_;exact Jb rfl Rf
def colB:ByteArray:=⟨#[58]⟩
def JhK (N:List ByteArray) (s own:ByteArray):Bool:= !inV N (s++colB)&& !inV N own
theorem JyT (N:List ByteArray) (r:Rul) (own:ByteArray) (hs:r.name.size≤1000000) (s nx:Nat):
 ECall Tryz.prog 58 [.rp [.om (0,s)], .rp (Jf9 r), .rp [JA own]] ⟨[((0,s), .mp (esV N))], [],nx,1⟩ fun b h'=> ∃nx' nn',b=Ji (JhK N r.name own)∧h'=⟨[((0,s), .mp (esV N))], [],nx',nn'⟩:=by
 refine ECall.wk (Jo Tryz.func58 rfl rfl ?_)
 refine JaR ?_
 refine ⟨by have h2:(⟨#[58]⟩:ByteArray).size=1:=rfl;rw [h2];omega, ?_⟩
 refine JaR ?_
 refine ⟨⟨rfl,Jos _⟩,Jj (b:= .v (.bool (inV N (r.name++colB)))) Ju7 ?_⟩
 unfold JhK
 cases h1:inV N (r.name++colB)
 ·refine JaR ?_;refine ⟨⟨rfl,Jos _⟩,Jj (b:= .v (.bool (inV N own))) Ju7 ?_⟩;cases h2:inV N own
  ·refine Z ?_;exact Jt rfl ⟨_,_,Rf,HLe.refl _,_,_,rfl,rfl⟩
  ·refine Z ?_;exact Jt rfl ⟨_,_,Rf,HLe.refl _,_,_,rfl,rfl⟩
 ·refine Z ?_;exact Jt rfl ⟨_,_,Rf,HLe.refl _,_,_,rfl,rfl⟩
def JeJ (r:Rul):ByteArray:=r.name++colB++JgA r.conds
theorem JpM (r:Rul):(JeJ r).data.toList=Jjt r:=by
 unfold JeJ Jjt JgA Jjs
 rw [JhI,JhI,show colB.data.toList= [58] from rfl]
 simp
theorem Ju8 {N:List ByteArray} {s:ByteArray}:inV N s=true↔s.data.toList∈N.map (fun t=> t.data.toList):=by
 unfold inV
 rw [List.any_eq_true,List.mem_map]
 exact ⟨fun ⟨t,h1,h2⟩=> ⟨t,h1,by rw [JbU.1 h2]⟩,fun ⟨t,h1,h2⟩=> ⟨t,h1,JbU.2 (JhY h2.symm)⟩⟩
def Jb5 (rs:List Rul) (i:Nat):List ByteArray:=(rs.take i).map JeJ
theorem JwD (rs:List Rul) (i:Nat):(Jb5 rs i).map (fun t=> t.data.toList)=Jnr rs i:=by
 unfold Jb5 Jnr
 rw [List.map_map]
 exact List.map_congr_left fun r _=> JpM r
theorem JsB {rs:List Rul} (h:∀r∈rs,JaJ r=true) {i:Nat} {r:Rul} (hr:JaJ r=true):JhK (Jb5 rs i) r.name (JeJ r)= !(rs.take i).any (Jip r):=by
 unfold JhK
 rw [← Bool.not_or]
 congr 1
 rw [Bool.eq_iff_iff,Bool.or_eq_true,Ju8,Ju8,JwD,JpM,JhI,show colB.data.toList= [58] from rfl]
 exact Jyn h hr
theorem JyU {rs:List Rul} {i:Nat} (hi:i < rs.length):Jb5 rs (i+1)=Jb5 rs i++ [JeJ (rs.getD i Jn)]:=by
 unfold Jb5
 rw [JaP Jn hi,List.map_append];rfl
def JEU (l:List TRow) (r:Rul) (s:Nat):List AV:= [.ag [.fn (.func 53) [] [.rp [JS l], .rp (Jf9 r)],int 14], .ag [.fn (.func 54) [] [.rp (Jf9 r)],int 16], .ag [.fn (.func 58) [] [.rp [.om (0,s)], .rp (Jf9 r), .rp [JA (JeJ r)]],int 15]]
theorem JyV {rs:List Rul} {i:Nat} {r:Rul} (h:JhK (Jb5 rs i) r.name (JeJ r)=true):inV (Jb5 rs i) (JeJ r)=false:=by
 unfold JhK at h
 simp only [Bool.and_eq_true,Bool.not_eq_true'] at h
 exact h.2
theorem JiI {a b c d:Int} (h:(a,b)=(c,d)):AVle (.tup [int a,int b]) (.tup [int c,int d]):=by
 cases h;exact Rf
theorem JDX:Jmw Tryz.prog 9=some [JA ⟨#[]⟩]:=by kernel_rfl
theorem AVle.om_nm {i j:Vl.Id} (h:i.2=j.2):AVle (.om i) (.om j):=fun w X g u hr=> by
 cases hr with
 | om _ b hg=> exact .om _ b (h ▸ hg)
theorem AVle.rps {cs ds:List AV} (h:LeL cs ds):AVle (.rp cs) (.rp ds):=fun w X g u hr=> by
 obtain ⟨hl,h⟩:=h.get
 cases hr with
 | rp _ b off vs hn hcell hr=>
   refine .rp _ b off vs (by rw [hn,hl]) hcell fun k d u hd hu=> ?_;have hlt:k < cs.length:=by rw [hl];exact (List.getElem?_eq_some_iff.1 hd).1
   exact h k _ d (List.getElem?_eq_getElem hlt) hd _ _ _ _ (hr k _ u (List.getElem?_eq_getElem hlt) hu)
theorem JCJ {rs:List Rul} {i:Nat} (h:i < rs.length):rs.getD i Jn∈rs:=by simp [List.getD,h]
theorem JsC (p:Pol) (l:List TRow) (hp:p.ok) (hp2:∀r∈p.rules,r.conds.length≤12∧r.name.size≤1000000) (hl:l.length≤1000000) (hn:∀r∈l,r.name.size≤maxLen):Tells Tryz.prog 17 [JcT p,JS l] (.tup [int (Jaf p l).1,int (Jaf p l).2]):=by
 have hR:=Jln p hp
 have hT:=Jp4 l hl hn
 cases hb:Ja8 p with
 | false=>
   rw [hb] at hR;obtain ⟨⟨k,n⟩,x,rs⟩:=p;refine Jc Tryz.func17 rfl rfl fun nx=> ?_;refine Z ?_;refine Ja rfl rfl hR Y1 fun nx2=> ?_;refine Z ?_;exact Jb rfl (JiI (by unfold Jaf;rw [if_pos hb]))
 | true=>
 rw [hb] at hR
 by_cases ht:(Jcx l).2=0
 rotate_left
 ·obtain ⟨⟨k,n⟩,x,rs⟩:=p;refine Jc Tryz.func17 rfl rfl fun nx=> ?_;refine Z ?_;refine Ja rfl rfl hR Y1 fun nx2=> ?_;refine Z ?_;refine Ja rfl rfl hT Y1 fun nx3=> ?_;refine Z ?_;intro c hc;obtain rfl:c=true:=hc.trans (bne_iff_ne.2 ht);refine Z ?_;exact Jb rfl (JiI (by unfold Jaf;rw [if_neg (by rw [hb];decide),if_pos ht]))
 ·have hs:=JgV ht;have hrr:=(Jnt.1 hb).2.2;have hok:=hp.2;have hlen:p.rules.length≤500:=(Jnt.1 hb).2.1;have hat:∀i v,i < p.rules.length→(∀j,j < i→JdD l p.rules j=0)→JdD l p.rules i=v→v≠0→((i:Int),v)=Jaf p l:=fun i v h1 h2 h3 h4=> (Jyp hb ht h1 h2 h3 h4).symm;have hnone:(∀j,j < p.rules.length→JdD l p.rules j=0)→((0:Int),(0:Int))=Jaf p l:=fun h=> (Jyo (JaC.2 ⟨hb,ht,h⟩)).symm;generalize hV:Jaf p l=V at hat hnone⊢;obtain ⟨V1,V2⟩:=V;obtain ⟨⟨k,n⟩,x,rs⟩:=p;dsimp only at hok hrr hat hnone hlen hp2;rw [ht] at hT;refine Jc Tryz.func17 rfl rfl fun nx=> ?_;refine Z ?_;refine Ja rfl rfl hR Y1 fun nx2=> ?_;refine Z ?_;refine Ja rfl rfl hT Y1 fun nx3=> ?_
  (refine Jy ?_;refine JQ ?_;refine Jy ?_;refine JQ ?_;refine Jy ?_)
  refine Jbl (n:=69) (nx:=nx3+2) (nn:=4) (pm:= []) (bx:= [((2,nx3), .mp [])]) (L:= [(2, .rp [int k,int n,Ji x,Jak rs]),(3, .rp [JS l]),(8, .rp [.om (2,nx3)])]) (df:=some []) [((3,nx3+1), .c [.om (2,nx3)]),((1,nx+1), .c [JS l]),((0,nx), .c [int k,int n,Ji x,Jak rs])] rfl rfl rfl (.cons _ ((List.perm_append_comm (l₁:= [((2,nx3),Own.mp [])]) (l₂:= [((1,nx+1), .c [JS l]),((0,nx), .c [int k,int n,Ji x,Jak rs])])))) Sf ⟨Frz.bp (.tail _ (.tail _ (.head _))) rfl,Frz.bp (.tail _ (.head _)) rfl,Frz.bp (.head _) rfl,Tt⟩ ?_;refine Z ?_;refine Js (fun y:Nat×Nat=> mk 69 [(3, .rp [JS l]),(8, .rp [.om (0,nx3)]),(29,Jak rs),(30,int rs.length),(31,int y.1)] ⟨[((0,nx3), .mp (esV (Jb5 rs y.1)))], [],y.2,1⟩) (fun y=> y.1≤rs.length∧∀j,j < y.1→JdD l rs j=0) (fun y=> rs.length - y.1) ?_ ?_
  ·exact ⟨(0,nx3+2),⟨Nat.zero_le _,fun j h=> absurd h (Nat.not_lt_zero _)⟩,Je (pm:= []) (bx:= [((0,nx3), .mp (esV (Jb5 rs 0)))]) [((2,nx3), .mp [])] [] rfl rfl Sf .slnil ⟨rfl,OwnLe.refl _,Tt⟩ Tt ⟨Rf,W.AVle.rps ⟨W.AVle.om_nm rfl,Tt⟩,Y3⟩⟩
  ·rintro ⟨i,nx4⟩ ⟨h1,h2⟩;dsimp only at h1 h2;refine Z ?_;intro c g;cases c
   ·have g:=Jw g;try dsimp only at g
    obtain rfl:i=rs.length:=(by omega);refine Z ?_;exact Jb rfl (JiI (hnone h2))
   ·have g:=Ju g;try dsimp only at g
    have hi:i < rs.length:=(by omega);have hm:rs.getD i Jn∈rs:=JCJ hi;have hri:=hrr _ hm;have hoki:=hok _ hm;have hsi:=hp2 _ hm;have hk:=JA0 (rs.getD i Jn).conds (Je0 hri) hoki.2.2 hsi.1;have ha1:=JyS l (rs.getD i Jn) hl (Jgl hs _);have ha2:=JyR (rs.getD i Jn) hoki.2.2 Om;have ha3:=JyT (Jb5 rs i) (rs.getD i Jn) (JeJ (rs.getD i Jn)) hsi.2 nx3;rw [JsB hrr hri] at ha3;have hv:= @JCu l rs i;have hks:(JgA (rs.getD i Jn).conds).size≤12012:=Jnz (Je0 hri) hoki.2.2 hsi.1;refine Z ?_;refine ⟨Bd, ?_⟩;refine Jy ?_;refine Jbl (n:=69) (nx:=nx4+1) (nn:=2) (pm:= []) (bx:= [((0,nx3), .mp (esV (Jb5 rs i)))]) (L:= [(3, .rp [JS l]),(8, .rp [.om (0,nx3)]),(9,int i),(10, .rp (Jf9 (rs.getD i Jn))),(29,Jak rs),(30,int rs.length),(31,int i)]) (df:=some []) [((1,nx4), .c (Jf9 (rs.getD i Jn)))] rfl rfl rfl (List.Perm.refl _) Sf ⟨Frz.refl _,Frz.refl _,Frz.refl _,Frz.bp (.head _) rfl,Frz.refl _,Frz.refl _,Frz.refl _,Tt⟩ ?_;refine Z ?_;refine Jav 8 [] (Ef [7]) (Ef [5]) [0,1,2,3,4,5,6,7] Kr Kr (fun _ _ _ h=> by cases h) ?_;refine Z ?_;refine ⟨by have h2:(⟨#[58]⟩:ByteArray).size=1:=rfl;rw [h2];omega, ?_⟩;refine Z ?_;refine ⟨_,J2 rfl rfl rfl hk Y1 (NoId.v _), ?_⟩;refine Z ?_;refine ⟨by rw [ByteArray.size_append];have h2:(⟨#[58]⟩:ByteArray).size=1:=rfl;rw [h2];omega,JpJ (b:=JA (JeJ (rs.getD i Jn))) rfl ?_⟩;refine Z ?_;refine ⟨_,JoK rfl rfl JDX (fun _ _ _ h=> by cases h),fun r' h' hr=> ?_⟩;obtain ⟨rfl,rfl⟩:=hr;refine Jy ?_;refine Jbl (n:=69) (nx:=nx4+2) (nn:=2) (pm:= []) (bx:= [((0,nx3), .mp (esV (Jb5 rs i)))]) (L:= [(3, .rp [JS l]),(8, .rp [.om (0,nx3)]),(9,int i),(10, .rp (Jf9 (rs.getD i Jn))),(11, .fn (.func 53) [] [.rp [JS l], .rp (Jf9 (rs.getD i Jn))]),(12, .fn (.func 54) [] [.rp (Jf9 (rs.getD i Jn))]),(13, .rp [JA (JeJ (rs.getD i Jn))]),(29,Jak rs),(30,int rs.length),(31,int i)]) (df:=some []) [((2,nx4+1), .c [JA (JeJ (rs.getD i Jn))])] rfl rfl rfl (List.Perm.refl _) Sf ⟨Frz.refl _,Frz.refl _,Frz.refl _,Frz.refl _,Frz.refl _,Frz.refl _,Frz.bp (.head _) rfl,Frz.refl _,Frz.refl _,Frz.refl _,Tt⟩ ?_;refine Z ?_;refine Js (fun y:Nat×Nat=> mk 69 [(3, .rp [JS l]),(8, .rp [.om (0,nx3)]),(9,int i),(13, .rp [JA (JeJ (rs.getD i Jn))]),(29,Jak rs),(30,int rs.length),(31,int i),(52, .sl 2 3 (JfV (JEU l (rs.getD i Jn) nx3))),(53,int 3),(54,int y.1)] ⟨[((0,nx3), .mp (esV (Jb5 rs i)))], [],y.2,1⟩) (fun y=> y.1≤3∧(1≤y.1→Jbq l (rs.getD i Jn).name=true)∧(2≤y.1→(rs.getD i Jn).conds.any JgJ=false)∧(3≤y.1→(rs.take i).any (Jip (rs.getD i Jn))=false)) (fun y=> 3 - y.1) ?_ ?_
    ·refine ⟨(0,nx4+2),⟨Nat.zero_le _,fun h=> absurd h (Nat.not_succ_le_zero _),fun h=> absurd h (Nat.not_succ_le_zero _),fun h=> absurd h (Nat.not_succ_le_zero _)⟩, ?_⟩;exact Je (pm:= []) (bx:= [((0,nx3), .mp (esV (Jb5 rs i)))]) [((0,nx3), .mp (esV (Jb5 rs i)))] [] rfl rfl Sf .slnil Bf Tt ⟨Rf,Rf,Rf,Rf,Rf,Rf,Rf,JnQ ⟨⟨⟨trivial,rfl⟩,rfl⟩,rfl⟩,Y2⟩
    ·rintro ⟨j,nx5⟩ ⟨k0,k1,k2,k3⟩;dsimp only at k0 k1 k2 k3;rcases j with _ | _ | _ | _ | j
     ·refine Z ?_;refine ⟨⟨by show (0:Int)≤0;decide,by show (0:Int) < 3;decide⟩, ?_⟩;refine Z ?_;refine Ja rfl rfl ha1 Y2 fun nx6=> ?_;cases hf:Jbq l (rs.getD i Jn).name
      ·refine Z ?_
       (refine JJ 4 Kr Kr Kr ?_)
       refine Z ?_;exact Jb rfl (JiI (hat i 14 hi h2 (if_pos hf) Dc))
      ·refine Z ?_;exact back (1,nx6) ⟨by show 1≤3;decide,fun _=> rfl,fun h=> absurd h (by show ¬2≤1;decide),fun h=> absurd h (by show ¬3≤1;decide)⟩ (by show 3 - 1 < 3 - 0;decide) (Je (pm:= []) (bx:= [((0,nx3), .mp (esV (Jb5 rs i)))]) [((0,nx3), .mp (esV (Jb5 rs i)))] [] rfl rfl (.cons _ Sf) .slnil Bf Tt Y10)
     ·have q1:=k1 (Nat.le_refl _);refine Z ?_;refine ⟨⟨by show (0:Int)≤1;decide,by show (1:Int) < 3;decide⟩, ?_⟩;refine Z ?_;refine Ja rfl rfl ha2 Y1 fun nx6=> ?_;cases hf:(rs.getD i Jn).conds.any JgJ
      ·refine Z ?_;exact back (2,nx6) ⟨by show 2≤3;decide,fun _=> q1,fun _=> rfl,fun h=> absurd h (by show ¬3≤2;decide)⟩ (by show 3 - 2 < 3 - 1;decide) (Je (pm:= []) (bx:= [((0,nx3), .mp (esV (Jb5 rs i)))]) [((0,nx3), .mp (esV (Jb5 rs i)))] [] rfl rfl (.cons _ Sf) .slnil Bf Tt Y10)
      ·refine Z ?_
       (refine JJ 4 Kr Kr Kr ?_)
       refine Z ?_;exact Jb rfl (JiI (hat i 16 hi h2 (by unfold JdD;rw [if_neg (by rw [q1];decide),if_pos hf]) Dc))
     ·have q1:=k1 Dc;have q2:=k2 (Nat.le_refl _);refine Z ?_;refine ⟨⟨by show (0:Int)≤2;decide,by show (2:Int) < 3;decide⟩, ?_⟩;refine Z ?_;refine Jg (xs:= [.rp [.om (0,nx3)], .rp (Jf9 (rs.getD i Jn)), .rp [JA (JeJ (rs.getD i Jn))]]) [((1,nx5), .c [.fn (.func 58) [] [.rp [.om (0,nx3)], .rp (Jf9 (rs.getD i Jn)), .rp [JA (JeJ (rs.getD i Jn))]],int 15])] [] 2 rfl rfl rfl rfl Y3 (ha3 (nx5+1)) Bf Pf rfl fun r h' hq=> ?_;obtain ⟨nx6,nn6,rfl,rfl⟩:=hq;cases hf:(rs.take i).any (Jip (rs.getD i Jn))
      ·refine Z ?_;exact back (3,nx6) ⟨by show 3≤3;decide,fun _=> q1,fun _=> q2,fun _=> rfl⟩ (by show 3 - 3 < 3 - 2;decide) (Je (pm:= []) (bx:= [((0,nx3), .mp (esV (Jb5 rs i)))]) [((0,nx3), .mp (esV (Jb5 rs i)))] [] rfl rfl (.cons _ Sf) .slnil Bf Tt Y10)
      ·refine Z ?_
       (refine JJ 4 Kr Kr Kr ?_)
       refine Z ?_;exact Jb rfl (JiI (hat i 15 hi h2 (by unfold JdD;rw [if_neg (by rw [q1];decide),if_neg (by rw [q2];decide),if_pos hf]) Dc))
     ·have q1:=k1 Dc;have q2:=k2 Dc;have q3:=k3 (Nat.le_refl _);have q4:JhK (Jb5 rs i) (rs.getD i Jn).name (JeJ (rs.getD i Jn))=true:=(by rw [JsB hrr hri,q3];rfl);have q5:=Ju6 _ _ (JyV q4);rw [← JyU hi] at q5;refine JaR ?_;refine ⟨⟨rfl,Jos _⟩, ?_⟩;refine JaR ?_;refine JcQ ?_;refine Z ?_;exact back (i+1,nx5) ⟨hi,fun m hm2=> by
       rcases Nat.lt_or_ge m i with q | q
       ·exact h2 m q
       ·rw [show m=i by omega];exact hv.2 ⟨q1,q2,q3⟩⟩ Dm (Je (pm:= []) (bx:= [((0,nx3), .mp (esV (Jb5 rs (i+1))))]) [((0,nx3), .mp (JcN (.string (JeJ (rs.getD i Jn))) (.v (.bool true)) (esV (Jb5 rs i))))] [] rfl rfl Sf .slnil ⟨rfl,JqC (congrArg Own.mp q5),Tt⟩ Tt ⟨Rf,Rf,Rf,Rf,Lw,Tt⟩)
     ·exact absurd k0 Om
def LpI (p:Pol) (l:List TRow) (i:Nat) (st:Nat→J9):Prop:=i≤(Jh p).rules.length∧(∀j,j < 7→Jbs (st j))∧∃gs,Jaa (Jh p).rules=gs++Jaa ((Jh p).rules.drop i)∧(∀k,k < 5→(st k).1=(JdI (Jh p) l gs k).map Jem)∧∀m,m < 2→(st (5+m)).1=(JdJ l gs m).map Jby
theorem JEE (p:Pol) (l:List TRow):LpI p l 0 fun _=> ([],none):=⟨Nat.zero_le _,fun _ _=> rfl, [],rfl,fun _ _=> rfl,fun _ _=> rfl⟩
theorem Jjy:∀l:List Rul,(Jaa l).length≤l.length
 | []=> Nat.le_refl _
 | r::l=> by
   have ih:=Jjy l;show (Jk3 r (Jaa l)).length≤l.length+1;cases hg:Jaa l with
   | nil=> show 1≤_;omega
   | cons g t=>
     rw [hg] at ih;obtain ⟨s,L⟩:=g;show (if kS s r.name then (s,r::L)::t else (r.name, [r])::(s,L)::t).length≤_;rw [List.length_cons] at ih;split <;> simp only [List.length_cons] <;> omega
theorem JnA {a d:Nat} {x:Bool} {row:TRow} {rs:List PRul}:(JaX a d x row rs).length≤1:=by
 unfold JaX;split <;> simp
theorem JnB {m:Nat} {row:TRow} {rs:List PRul}:(JcM m row rs).length≤1:=by
 unfold JcM;split <;> simp
theorem JhL {α β:Type} {f:α→List β} (h:∀x,(f x).length≤1):∀l:List α,(l.flatMap f).length≤l.length
 | []=> Nat.le_refl _
 | x::l=> by
   rw [List.flatMap_cons,List.length_append,List.length_cons];have:=h x;have:=JhL h l;omega
theorem Ju9 {p:Pol} {l:List TRow} {i:Nat} {st:Nat→J9} (hr:(Jh p).rules.length≤500) (h:LpI p l i st):∀j,j < 7→(st j).1.length≤1000000:=fun j hj=> by
 obtain ⟨_,_,gs,h1,h2,h3⟩:=h
 have hg:=Jjy (Jh p).rules
 rw [h1,List.length_append] at hg
 rcases Nat.lt_or_ge j 5 with h5 | h5
 ·rw [h2 j h5,List.length_map];have:=JhL (f:=fun g:ByteArray×List Rul=> JaX j (JX (Jh p).dflt) (Jh p).x32 (Jay l g.1) (g.2.map JW)) (fun _=> JnA) gs;unfold JdI;omega
 ·obtain ⟨m,rfl⟩:∃m,j=5+m:=⟨j - 5,Om⟩;rw [h3 m Om,List.length_map];have:=JhL (f:=fun g:ByteArray×List Rul=> JcM m (Jay l g.1) (g.2.map JW)) (fun _=> JnB) gs;unfold JdJ;omega
theorem JCK {l:List TRow} {s:ByteArray} (ht:(Jcx l).2=0) (h:Jr4 l s):(∀k,(Jay l s).num k < 1073741824)∧((Jay l s).mux=0∨(Jay l s).mux=1∨(Jay l s).mux=2)∧0≤(Jay l s).sub∧(Jay l s).sub≤255:=by
 obtain ⟨i,hi,h1,_⟩:=h
 rw [h1]
 exact ⟨fun k=> (JdC ht hi).1,Jf4 ht hi⟩
theorem JpN (s:ByteArray) (l:List Rul):(Jc0 s l).length≤l.length:=List.Sublist.length_le (List.takeWhile_sublist _)
theorem JA1 (s:ByteArray) (l:List Rul):l=Jc0 s l++l.drop (Jc0 s l).length:=by
 induction l with
 | nil=> rfl
 | cons r l ih=>
   unfold Jc0 at ih⊢;rw [List.takeWhile_cons];by_cases h:kS r.name s=true
   ·rw [if_pos h,List.length_cons,List.drop_succ_cons,List.cons_append,← ih]
   ·rw [if_neg h];rfl
theorem JyW {l:List Rul} {i:Nat} (hi:i < l.length):Jc0 (l.getD i Jn).name (l.drop i)≠ []:=by
 rw [List.drop_eq_getElem_cons hi,show l.getD i Jn=l[i] by simp [List.getD,hi]]
 unfold Jc0
 rw [List.takeWhile_cons,if_pos (JbU.2 rfl)]
 exact List.cons_ne_nil _ _
theorem JA2 {p:Pol} {l:List TRow} {i:Nat} {st st':Nat→J9} (hi:i < (Jh p).rules.length) {s:ByteArray} {L:List Rul} (hs:s=((Jh p).rules.getD i Jn).name) (hL:L=Jc0 s ((Jh p).rules.drop i)) (h:LpI p l i st) (hq:Jwv (JX (Jh p).dflt) (Jh p).x32 (Jay l s) (L.map JW) st st'):LpI p l (i+L.length) st':=by
 obtain ⟨h0,h1,gs,h2,h3,h4⟩:=h
 have hne:L≠ []:=by rw [hL,hs];exact JyW hi
 have hd:=JA1 s ((Jh p).rules.drop i)
 have he:=JAy s ((Jh p).rules.drop i)
 have ha:=Jps s ((Jh p).rules.drop i)
 have hl:=JpN s ((Jh p).rules.drop i)
 rw [← hL] at hd he ha hl
 rw [List.drop_drop] at hd he
 rw [List.length_drop] at hl
 have hgr:=Jno he hne ha
 rw [← hd] at hgr
 refine ⟨Om,hq.1,gs++ [(s,L)],by rw [h2,hgr,List.append_assoc];rfl,fun k hk=> ?_,fun m hm=> ?_⟩
 ·rw [hq.2.1 k hk,h3 k hk,Jwi,List.map_append]
 ·rw [hq.2.2 m hm,h4 m hm,Jwj,List.map_append]
theorem JyX {p:Pol} (hp:p.ok) (hr:Ja8 p=true) {s:ByteArray} {i:Nat}:∀r∈(Jc0 s ((Jh p).rules.drop i)).map JW,r.conds.length≤1000000∧∀c∈r.conds,c.ok:=fun q hq=> by
 obtain ⟨r,hr1,rfl⟩:=List.mem_map.1 hq
 have hm:r∈(Jh p).rules:=List.mem_of_mem_drop ((List.takeWhile_sublist _).subset hr1)
 obtain ⟨r0,h0,h1⟩:=Jf5 hm
 have:=(JcV hr).2 r0 h0
 have:=(Jcg h1).1
 exact ⟨by show r.conds.length≤_;omega,(Jgm h1).2.2 (hp.2 r0 h0).2.2⟩
theorem JCL {p:Pol} {l:List TRow} {st:Nat→J9} (h:LpI p l (Jh p).rules.length st):(∀j,j < 7→Jbs (st j))∧(∀k,k < 5→(st k).1=(JdI (Jh p) l (Jaa (Jh p).rules) k).map Jem)∧∀m,m < 2→(st (5+m)).1=(JdJ l (Jaa (Jh p).rules) m).map Jby:=by
 obtain ⟨h0,h1,gs,h2,h3,h4⟩:=h
 rw [List.drop_length] at h2
 obtain rfl:Jaa (Jh p).rules=gs:=by rw [h2];exact List.append_nil _
 exact ⟨h1,h3,h4⟩
def LpS (k:Nat) (st st':Nat→J9):Prop:=k≤7∧(∀j,j < 7→Jbs (st' j))∧(∀j,j < 7→(st' j).1.Perm (st j).1)∧∀j,j < k→(st' j).1.Pairwise fun a b=> a.1≤b.1
theorem JEF {st:Nat→J9} (h:∀j,j < 7→Jbs (st j)):LpS 0 st st:=⟨Om,h,fun _ _=> .refl _,fun j hj=> absurd hj (Nat.not_lt_zero j)⟩
theorem JsD {k:Nat} {st st1:Nat→J9} (hk:k < 7) (h:LpS k st st1) (he:(st1 k).1= []):LpS (k+1) st st1:=by
 obtain ⟨h0,h1,h2,h3⟩:=h
 refine ⟨hk,h1,h2,fun j hj=> ?_⟩
 rcases Nat.lt_or_ge j k with q | q
 ·exact h3 j q
 ·obtain rfl:j=k:=by omega
  rw [he];exact List.Pairwise.nil
theorem JsE {k:Nat} {st st1:Nat→J9} {R D:List (Nat×AV)} {s cap:Nat} {tl:List AV} (hk:k < 7) (h:LpS k st st1) (hR:st1 k=(R,some (s,cap,tl))) (hp:D.Perm R) (hs:D.Pairwise fun a b=> a.1≤b.1):LpS (k+1) st (JaL st1 k (D,some (s,cap,tl))):=by
 obtain ⟨h0,h1,h2,h3⟩:=h
 have hok:=h1 k hk
 rw [hR] at hok
 refine ⟨hk,Jkw h1 (show D.length≤cap∧cap * 2≤D.length * 2+tl.length from by rw [hp.length_eq];exact hok),fun j hj=> ?_,fun j hj=> ?_⟩
 ·unfold JaL;by_cases e:j=k
  ·subst e;rw [if_pos rfl];have:=h2 j hj;rw [hR] at this;exact hp.trans this
  ·rw [if_neg e];exact h2 j hj
 ·unfold JaL;by_cases e:j=k
  ·subst e;rw [if_pos rfl];exact hs
  ·rw [if_neg e];exact h3 j Om
theorem JCM {d:Nat} {l:List PRul}:(JgG d l).length≤l.length:=by
 unfold JgG
 rw [List.length_reverse]
 exact Nat.le_trans (List.dropWhile_sublist _).length_le (Nat.le_of_eq List.length_reverse)
theorem JnC (a:Nat):∀l:List PRul,(Jdn a l).length≤l.length
 | []=> Nat.le_refl _
 | q::l=> by
   have ih:=JnC a l;unfold Jdn;rw [List.length_cons];split
   ·omega
   ·split
    ·rw [List.length_singleton];omega
    ·rw [List.length_cons];omega
theorem JyY {a:Nat} {q r:PRul} (h:JgF a q=some r):r.conds.length≤q.conds.length:=by
 unfold JgF at h
 split at h
 ·unfold Je6 at h;split at h
  ·cases h
  ·obtain rfl:=Option.some.inj h;exact List.length_filterMap_le _ _
 ·obtain rfl:=Option.some.inj h;exact Nat.le_refl _
theorem JDY {p:Pol} {l:List TRow} (hr:(Jh p).rules.length≤40) (hc:∀r∈(Jh p).rules,r.conds.length≤12):PlanS (J8 p l):=by
 have hg:=Jjy (Jh p).rules
 have he:∀ {a:Nat} {e:PEnt},e∈(J8 p l).ents a→∃L:List Rul,L.length≤40∧(∀r∈L,r∈(Jh p).rules)∧e.rules=Jcq a (L.map JW) (JX p.dflt):=fun {a e} h=> by
  obtain ⟨g,hg,h2⟩:=JeH h;unfold JaX at h2;split at h2
  ·cases h2
  ·refine ⟨g.2, ?_,fun r hr=> ?_,by rw [List.mem_singleton.1 h2]⟩
   ·rw [Jha hg];exact Nat.le_trans (List.length_filter_le _ _) hr
   ·rw [Jha hg] at hr;exact (List.mem_filter.1 hr).1
 refine ⟨fun a=> ?_,fun a e h=> ?_,fun a e h r hr=> ?_,fun k=> ?_⟩
 ·show (Jqy _).length≤_;rw [(JfO _).length_eq];have:=JhL (f:=fun g:ByteArray×List Rul=> JaX a (JX (Jh p).dflt) (Jh p).x32 (Jay l g.1) (g.2.map JW)) (fun _=> JnA) (Jaa (Jh p).rules);unfold JdI;omega
 ·obtain ⟨L,h1,_,h3⟩:=he h;rw [h3];have h4:=JnC a (L.map JW);have h5:=JCM (d:=JX p.dflt) (l:=Jdn a (L.map JW));rw [List.length_map] at h4;show (JgG _ _).length≤_;omega
 ·obtain ⟨L,_,h2,h3⟩:=he h;rw [h3] at hr;obtain ⟨q,hq,e⟩:=Jh8 (Jsj hr);obtain ⟨n,hn,rfl⟩:=List.mem_map.1 hq;have:=JyY e;have:=hc n (h2 n hn);show _≤12;unfold JW at *
  dsimp only at *
  omega
 ·show (Jqz _).length≤_;rw [(JfP _).length_eq];have:=JhL (f:=fun g:ByteArray×List Rul=> JcM k (Jay l g.1) (g.2.map JW)) (fun _=> JnB) (Jaa (Jh p).rules);unfold JdJ;omega
theorem JA3 {p:Pol} {l:List TRow} (hc:∀r∈p.rules,∀c∈r.conds,c.ok):∀a,∀e∈(J8 p l).ents a,∀r∈e.rules,∀c∈r.conds,Jd3 c:=fun a e he r hr c hcc=> by
 have h2:=Jme hc he hr hcc
 have h:=h2.2.1
 unfold JR at h
 simp only [Bool.and_eq_true,decide_eq_true_eq] at h
 exact ⟨Om,h2.2.2.2.1⟩
def itA (x:Itm):AV:= .ag [int x.mark,u16 x.code,u32 x.k,int x.t,int x.f]
def itF (l:List Itm):Nat→AV:=fun k=> itA (l.getD k it0)
def JaN (l:List Itm):AV:=JK 5 itA it0 l
def bE (b:List (Nat×Nat)):List (Value×AV):=b.map fun p:Nat×Nat=> (.int .u32 (p.1:Int),int p.2)
def mkB (s0 s1:Nat) (m:Mk) (oi:Option Nat):List (Vl.Id×Own):= [((0,s0), .c [.os 5 m.l.length (itF m.l) (nmN 2 oi),int m.n, .om (1,s1)]),((1,s1), .mp (bE m.b))]
def mkP (m:Mk) (oi:Option Nat):List (Vl.Id×Nat):=Jam (nmN 2 oi) (m.l.length * 5)
def MkQ (s0 s1:Nat) (m:Mk) (a r:AV) (h':Heap):Prop:=∃oi nx' nn',r=a∧(oi=none→m.l= [])∧h'=⟨mkB s0 s1 m oi,mkP m oi,nx',nn'⟩
theorem c_it:Tryz.prog.cellsOf 65=5:=by kernel_rfl
theorem JDZ:Tryz.prog.bytesOf 65=32:=by kernel_rfl
theorem JyZ {L M:List Itm} {c s:Nat}:AVle (.os 5 (L.length+M.length) (JcO L.length (itF L) (itF M)) (some (c,s))) (.os 5 (L++M).length (itF (L++M)) (nmN 2 (some s))):=by
 rw [List.length_append]
 refine AVle.trans (AVle.os_fun (f':=itF (L++M)) fun k hk=> ?_) (AVle.os_nm rfl)
 show (bif Nat.blt k L.length then itF L k else itF M (k - L.length))=itF (L++M) k
 unfold itF
 cases h:Nat.blt k L.length
 ·have:L.length≤k:=by
   rcases Nat.lt_or_ge k L.length with h' | h'
   ·have h2:Nat.blt k L.length=true:=(by simpa using h');rw [h] at h2;cases h2
   ·exact h'
  rw [show (L++M).getD k it0=M.getD (k - L.length) it0 by simp [List.getD,List.getElem?_append_right this]];rfl
 ·have:k < L.length:=by simpa using h
  rw [show (L++M).getD k it0=L.getD k it0 by simp [List.getD,List.getElem?_append_left this]];rfl
def mkC (s0:Nat) (c2:AV) (m:Mk) (oi:Option Nat):List (Vl.Id×Own):= [((0,s0), .c [.os 5 m.l.length (itF m.l) (nmN 2 oi),int m.n,c2])]
def MkC (s0:Nat) (c2:AV) (m:Mk) (a r:AV) (h':Heap):Prop:=∃oi nx' nn',r=a∧(oi=none→m.l= [])∧h'=⟨mkC s0 c2 m oi,mkP m oi,nx',nn'⟩
theorem Jjz (s0 nx:Nat) (c2:AV) (m:Mk) (oi:Option Nat) (x:List Itm) (h0:oi=none→m.l= []) (hx:x≠ []) (hf:(JE m x).fits):ECall Tryz.prog 31 [.bp (0,s0) 0,JaN x] ⟨mkC s0 c2 m oi,mkP m oi,nx,3⟩ (MkC s0 c2 (JE m x) (.tup [])):=by
 have hl:m.l.length+x.length≤1000000000000:=by have:=hf.1;unfold JE at this;simpa using this
 have hxl:x.length≠0:=fun h=> hx (List.eq_nil_of_length_eq_zero h)
 obtain ⟨l,n,b⟩:=m
 dsimp only at hl h0
 refine ECall.wk (Jo Tryz.func31 rfl rfl ?_)
 unfold mkC mkP JaN JK
 dsimp only
 refine Jy ?_
 refine JF (fun n=> match n with | 3=> true | _=> false) 10 ?_
 refine Z ?_
 rcases oi with _ | s
 ·obtain rfl:=h0 rfl;refine AOp.kp (JbF (e:=65) (oi:=none) (n:=0) (m:=x.length) (f:=itF []) (f':=itF x) (sz:=5) (szx:=5) rfl rfl (.inl rfl) Kr Kr (.inl ⟨rfl,rfl⟩) (.inr c_it.symm) (fun i hi=> by cases hi) (fun _ _=> rfl) (fun _=> by rw [JDZ];omega) (fun _=> by omega) (fun h=> absurd h hxl) (fun _=> ?_));refine Z ?_;refine AOp.kp (Jgs (i:=(0,s0)) (off:=0) rfl rfl rfl rfl rfl rfl Kr (by show 0+1≤3;decide) ?_);refine Z ?_;refine Jt rfl ⟨.tup [],⟨mkC s0 c2 (JE ⟨[],n,b⟩ x) (some nx),mkP (JE ⟨[],n,b⟩ x) (some nx),nx+1,3⟩,Rf,Jr _ [((3,nx),(0+x.length) * Tryz.prog.cellsOf 65)] rfl Sf Sf ⟨rfl,⟨?_,Y2⟩,Tt⟩ ⟨rfl,by rw [c_it,Nat.zero_add];rfl,Tt⟩,some nx,nx+1,3,rfl,(fun h=> by cases h),rfl⟩
  (conv=> arg 1;whnf)
  exact JyZ (L:= []) (M:=x)
 ·refine AOp.kp (JbF (e:=65) (oi:=some (2,s)) (n:=l.length) (m:=x.length) (f:=itF l) (f':=itF x) (sz:=5) (szx:=5) rfl rfl (.inl rfl) Kr Kr (.inr c_it.symm) (.inr c_it.symm) (fun i hi=> by cases hi;rw [c_it];rfl) (fun _ _=> rfl) (fun _=> by rw [JDZ];omega) (fun _=> by omega) (fun h=> absurd h hxl) (fun _=> ?_));refine Z ?_;refine AOp.kp (Jgs (i:=(0,s0)) (off:=0) rfl rfl rfl rfl rfl rfl Kr (by show 0+1≤3;decide) ?_);refine Z ?_;refine Jt rfl ⟨.tup [],⟨mkC s0 c2 (JE ⟨l,n,b⟩ x) (some nx),mkP (JE ⟨l,n,b⟩ x) (some nx),nx+1,3⟩,Rf,Jr _ [((3,nx),(l.length+x.length) * Tryz.prog.cellsOf 65)] rfl Sf Sf ⟨rfl,⟨?_,Y2⟩,Tt⟩ ⟨rfl,by rw [c_it];show _=(l++x).length * 5;rw [List.length_append],Tt⟩,some nx,nx+1,3,rfl,(fun h=> by cases h),rfl⟩
  (conv=> arg 1;whnf)
  exact JyZ (L:=l) (M:=x)
theorem JpO {f:FuncId} {args:List AV} {s0 s1 nx:Nat} {m m':Mk} {oi:Option Nat} {a:AV} (hb:m'.b=m.b) (h:ECall Tryz.prog f args ⟨mkC s0 (.om (1,s1)) m oi,mkP m oi,nx,3⟩ (MkC s0 (.om (1,s1)) m' a)):ECall Tryz.prog f args ⟨mkB s0 s1 m oi,mkP m oi,nx,3⟩ (MkQ s0 s1 m' a):=
 (ECall.frame (h:=⟨mkB s0 s1 m oi,mkP m oi,nx,3⟩) h [((1,s1), .mp (bE m.b))] [] (.refl _) (.of_eq (List.append_nil _).symm) rfl).mono fun r h' ⟨h1,⟨o2,nx',nn',e1,e2,e3⟩,e⟩=> by
   subst e3;refine ⟨o2,nx',nn',e1,e2,e.trans ?_⟩;unfold mkB;rw [hb];show Heap.mk _ (mkP m' o2++ []) _ _=_;rw [List.append_nil];rfl
theorem Jax (s0 s1 nx:Nat) (m:Mk) (oi:Option Nat) (x:List Itm) (h0:oi=none→m.l= []) (hx:x≠ []) (hf:(JE m x).fits):ECall Tryz.prog 31 [.bp (0,s0) 0,JaN x] ⟨mkB s0 s1 m oi,mkP m oi,nx,3⟩ (MkQ s0 s1 (JE m x) (.tup [])):=
 JpO rfl (Jjz s0 nx _ m oi x h0 hx hf)
theorem Jd5 (s0 s1 nx:Nat) (m:Mk) (oi:Option Nat) (h0:oi=none→m.l= []) (hf:(Jz m).fits):ECall Tryz.prog 33 [.bp (0,s0) 0] ⟨mkB s0 s1 m oi,mkP m oi,nx,3⟩ (MkQ s0 s1 (Jz m) (int (m.n+1:Nat))):=by
 have hn:m.n+1≤1000000000000:=hf.2
 obtain ⟨l,n,b⟩:=m
 dsimp only at hn h0
 refine ECall.wk (Jo Tryz.func33 rfl rfl ?_)
 unfold mkB mkP
 dsimp only
 refine Z ?_
 exact Jt rfl ⟨int (n+1:Nat),⟨mkB s0 s1 (Jz ⟨l,n,b⟩) oi,mkP (Jz ⟨l,n,b⟩) oi,nx,3⟩,Jf (Jx Om),Jr _ _ rfl Sf Sf ⟨rfl,⟨Rf,Jf (Jx Om),Y1⟩,Bf⟩ Pf,oi,nx,3,rfl,h0,rfl⟩
theorem Jfu {f:Nat→AV} {o:Option Vl.Id} {x:List Itm} (h:∀k,k < 1→f k=itF x k) (hl:x.length=1:=by rfl):AVle (.os 5 1 f o) (JaN x):=by
 unfold JaN JK;rw [hl];exact AVle.os_sl.trans (AVle.sl_fun h)
theorem JsF {f:Nat→AV} {o:Option Vl.Id} {x:List Itm} (h:∀k,k < 2→f k=itF x k) (hl:x.length=2:=by rfl):AVle (.os 5 2 f o) (JaN x):=by
 unfold JaN JK;rw [hl];exact AVle.os_sl.trans (AVle.sl_fun h)
theorem JwE {f:Nat→AV} {o:Option Vl.Id} {x:List Itm} (h:∀k,k < 3→f k=itF x k) (hl:x.length=3:=by rfl):AVle (.os 5 3 f o) (JaN x):=by
 unfold JaN JK;rw [hl];exact AVle.os_sl.trans (AVle.sl_fun h)
theorem JlC (s0 nx:Nat) (c2:AV) (m:Mk) (oi:Option Nat) (k:Nat) (h0:oi=none→m.l= []) (hf:(J3 m k).fits):ECall Tryz.prog 37 [.bp (0,s0) 0,int k] ⟨mkC s0 c2 m oi,mkP m oi,nx,3⟩ (MkC s0 c2 (J3 m k) (.tup [])):=by
 refine ECall.wk (Jo Tryz.func37 rfl rfl ?_)
 refine Z ?_
 refine Jg (xs:= [.bp (0,s0) 0,JaN [⟨k,0,0,0,0⟩]]) [] [] 3 rfl rfl rfl rfl ⟨Rf,Jfu (fun k hk=> by match k,hk with | 0,_=> rfl),Tt⟩ (Jjz s0 nx c2 m oi _ h0 Si hf) Bf Pf rfl fun r h' hq=> ?_
 obtain ⟨oi2,nx2,nn2,rfl,h2,rfl⟩:=hq
 refine Z ?_
 exact Jt rfl ⟨.tup [],⟨mkC s0 c2 _ oi2,mkP _ oi2,nx2,3⟩,Rf,HLe.refl _,oi2,nx2,3,rfl,h2,rfl⟩
theorem Je3 (s0 s1 nx:Nat) (m:Mk) (oi:Option Nat) (k:Nat) (h0:oi=none→m.l= []) (hf:(J3 m k).fits):ECall Tryz.prog 37 [.bp (0,s0) 0,int k] ⟨mkB s0 s1 m oi,mkP m oi,nx,3⟩ (MkQ s0 s1 (J3 m k) (.tup [])):=
 JpO rfl (JlC s0 nx _ m oi k h0 hf)
def hlA (h:Hlv):AV:= .ag [u32 h.la,u32 h.ha,u32 h.lo,u32 h.hi,u32 h.ml,u32 h.mh,Ji h.w,int h.yes,int h.no]
theorem JnD (s0 s1 nx:Nat) (m:Mk) (oi:Option Nat) (h:Hlv) (h0:oi=none→m.l= []) (hf:(Jco m h (Jdv h) (Jcn h)).fits):ECall Tryz.prog 263 [.bp (0,s0) 0,hlA h] ⟨mkB s0 s1 m oi,mkP m oi,nx,3⟩ (MkQ s0 s1 (Jco m h (Jdv h) (Jcn h)) (.tup [])):=by
 obtain ⟨la,ha,lo,hi,ml,mh,w,yes,no⟩:=h
 refine ECall.wk (Jo Tryz.func263 rfl rfl ?_)
 unfold hlA Jco at *
 dsimp only at *
 cases w
 ·refine Z ?_;refine Jg (xs:= [.bp (0,s0) 0,JaN (Jcn ⟨la,ha,lo,hi,ml,mh,false,yes,no⟩)]) [((3,nx), .c [u32 la,u32 ha,u32 lo,u32 hi,u32 ml,u32 mh,Ji false,int yes,int no])] [] 4 rfl rfl rfl rfl ⟨Rf,JsF (fun k hk=> by match k,hk with | 0,_=> rfl | 1,_=> rfl),Tt⟩ (Jax s0 s1 (nx+1) m oi _ h0 (by simp [Jcn]) hf) Bf Pf rfl fun r h' hq=> ?_;obtain ⟨oi2,nx2,nn2,rfl,h2,rfl⟩:=hq;refine Z ?_;exact Jt rfl ⟨.tup [],⟨mkB s0 s1 _ oi2,mkP _ oi2,nx2,3⟩,Rf,Jr _ _ rfl (.cons _ Sf) Sf Bf Pf,oi2,nx2,3,rfl,h2,rfl⟩
 ·refine Z ?_;refine Jg (xs:= [.bp (0,s0) 0,JaN (Jdv ⟨la,ha,lo,hi,ml,mh,true,yes,no⟩)]) [((3,nx), .c [u32 la,u32 ha,u32 lo,u32 hi,u32 ml,u32 mh,Ji true,int yes,int no])] [] 4 rfl rfl rfl rfl ⟨Rf,JsF (fun k hk=> by match k,hk with | 0,_=> rfl | 1,_=> rfl),Tt⟩ (Jax s0 s1 (nx+1) m oi _ h0 (by simp [Jdv]) ((JaE _ _).fits hf)) Bf Pf rfl fun r h' hq=> ?_;obtain ⟨oi2,nx2,nn2,rfl,h2,rfl⟩:=hq;refine Z ?_;refine Jg (xs:= [.bp (0,s0) 0,JaN (Jcn ⟨la,ha,lo,hi,ml,mh,true,yes,no⟩)]) [((3,nx), .c [u32 la,u32 ha,u32 lo,u32 hi,u32 ml,u32 mh,Ji true,int yes,int no])] [] 4 rfl rfl rfl rfl ⟨Rf,JsF (fun k hk=> by match k,hk with | 0,_=> rfl | 1,_=> rfl),Tt⟩ (Jax s0 s1 nx2 _ oi2 _ h2 (by simp [Jcn]) hf) Bf Pf rfl fun r h' hq=> ?_;obtain ⟨oi3,nx3,nn3,rfl,h3,rfl⟩:=hq;refine Z ?_;exact Jt rfl ⟨.tup [],⟨mkB s0 s1 _ oi3,mkP _ oi3,nx3,3⟩,Rf,Jr _ _ rfl (.cons _ Sf) Sf Bf Pf,oi3,nx3,3,rfl,h3,rfl⟩
theorem JsG (s0 s1 nx:Nat) (m:Mk) (oi:Option Nat) (h:Hlv) (h0:oi=none→m.l= []) (hf:(Jco m (Ja1 h) (Jdv (Ja1 h)) (Jcn (Ja1 h))).fits):ECall Tryz.prog 264 [.bp (0,s0) 0,hlA h] ⟨mkB s0 s1 m oi,mkP m oi,nx,3⟩ (MkQ s0 s1 (Jco m (Ja1 h) (Jdv (Ja1 h)) (Jcn (Ja1 h))) (.tup [])):=by
 obtain ⟨la,ha,lo,hi,ml,mh,w,yes,no⟩:=h
 refine ECall.wk (Jo Tryz.func264 rfl rfl ?_)
 unfold hlA
 refine Z ?_
 refine Jg (xs:= [.bp (0,s0) 0,hlA (Ja1 ⟨la,ha,lo,hi,ml,mh,w,yes,no⟩)]) [((3,nx), .c [u32 la,u32 ha,u32 lo,u32 hi,u32 ml,u32 mh,Ji w,int no,int yes])] [] 4 rfl rfl rfl rfl Y2 (JnD s0 s1 (nx+1) m oi _ h0 hf) Bf Pf rfl fun r h' hq=> ?_
 obtain ⟨oi2,nx2,nn2,rfl,h2,rfl⟩:=hq
 refine Z ?_
 exact Jt rfl ⟨.tup [],⟨mkB s0 s1 _ oi2,mkP _ oi2,nx2,3⟩,Rf,Jr _ _ rfl (.cons _ Sf) Sf Bf Pf,oi2,nx2,3,rfl,h2,rfl⟩
theorem JlD (s0 s1 nx:Nat) (m:Mk) (oi:Option Nat) (h:Hlv) (h0:oi=none→m.l= []) (hf:(Jco m h (Jcz h) (Jbp h)).fits):ECall Tryz.prog 266 [.bp (0,s0) 0,hlA h] ⟨mkB s0 s1 m oi,mkP m oi,nx,3⟩ (MkQ s0 s1 (Jco m h (Jcz h) (Jbp h)) (.tup [])):=by
 obtain ⟨la,ha,lo,hi,ml,mh,w,yes,no⟩:=h
 refine ECall.wk (Jo Tryz.func266 rfl rfl ?_)
 unfold hlA Jco at *
 dsimp only at *
 cases w
 ·refine Z ?_;refine Jg (xs:= [.bp (0,s0) 0,JaN (Jbp ⟨la,ha,lo,hi,ml,mh,false,yes,no⟩)]) [((3,nx), .c [u32 la,u32 ha,u32 lo,u32 hi,u32 ml,u32 mh,Ji false,int yes,int no])] [] 4 rfl rfl rfl rfl ⟨Rf,JsF (fun k hk=> by match k,hk with | 0,_=> rfl | 1,_=> rfl),Tt⟩ (Jax s0 s1 (nx+1) m oi _ h0 (by simp [Jbp]) hf) Bf Pf rfl fun r h' hq=> ?_;obtain ⟨oi2,nx2,nn2,rfl,h2,rfl⟩:=hq;refine Z ?_;exact Jt rfl ⟨.tup [],⟨mkB s0 s1 _ oi2,mkP _ oi2,nx2,3⟩,Rf,Jr _ _ rfl (.cons _ Sf) Sf Bf Pf,oi2,nx2,3,rfl,h2,rfl⟩
 ·refine Z ?_;refine Jg (xs:= [.bp (0,s0) 0,JaN (Jcz ⟨la,ha,lo,hi,ml,mh,true,yes,no⟩)]) [((3,nx), .c [u32 la,u32 ha,u32 lo,u32 hi,u32 ml,u32 mh,Ji true,int yes,int no])] [] 4 rfl rfl rfl rfl ⟨Rf,JwE (fun k hk=> by match k,hk with | 0,_=> rfl | 1,_=> rfl | 2,_=> rfl),Tt⟩ (Jax s0 s1 (nx+1) m oi _ h0 (by simp [Jcz]) ((JaE _ _).fits hf)) Bf Pf rfl fun r h' hq=> ?_;obtain ⟨oi2,nx2,nn2,rfl,h2,rfl⟩:=hq;refine Z ?_;refine Jg (xs:= [.bp (0,s0) 0,JaN (Jbp ⟨la,ha,lo,hi,ml,mh,true,yes,no⟩)]) [((3,nx), .c [u32 la,u32 ha,u32 lo,u32 hi,u32 ml,u32 mh,Ji true,int yes,int no])] [] 4 rfl rfl rfl rfl ⟨Rf,JsF (fun k hk=> by match k,hk with | 0,_=> rfl | 1,_=> rfl),Tt⟩ (Jax s0 s1 nx2 _ oi2 _ h2 (by simp [Jbp]) hf) Bf Pf rfl fun r h' hq=> ?_;obtain ⟨oi3,nx3,nn3,rfl,h3,rfl⟩:=hq;refine Z ?_;exact Jt rfl ⟨.tup [],⟨mkB s0 s1 _ oi3,mkP _ oi3,nx3,3⟩,Rf,Jr _ _ rfl (.cons _ Sf) Sf Bf Pf,oi3,nx3,3,rfl,h3,rfl⟩
theorem JtY (s0 s1 nx:Nat) (m:Mk) (oi:Option Nat) (h:Hlv) (h0:oi=none→m.l= []) (hf:(Jco m (Ja1 h) (Jcz (Ja1 h)) (Jbp (Ja1 h))).fits):ECall Tryz.prog 265 [.bp (0,s0) 0,hlA h] ⟨mkB s0 s1 m oi,mkP m oi,nx,3⟩ (MkQ s0 s1 (Jco m (Ja1 h) (Jcz (Ja1 h)) (Jbp (Ja1 h))) (.tup [])):=by
 obtain ⟨la,ha,lo,hi,ml,mh,w,yes,no⟩:=h
 refine ECall.wk (Jo Tryz.func265 rfl rfl ?_)
 unfold hlA
 refine Z ?_
 refine Jg (xs:= [.bp (0,s0) 0,hlA (Ja1 ⟨la,ha,lo,hi,ml,mh,w,yes,no⟩)]) [((3,nx), .c [u32 la,u32 ha,u32 lo,u32 hi,u32 ml,u32 mh,Ji w,int no,int yes])] [] 4 rfl rfl rfl rfl Y2 (JlD s0 s1 (nx+1) m oi _ h0 hf) Bf Pf rfl fun r h' hq=> ?_
 obtain ⟨oi2,nx2,nn2,rfl,h2,rfl⟩:=hq
 refine Z ?_
 exact Jt rfl ⟨.tup [],⟨mkB s0 s1 _ oi2,mkP _ oi2,nx2,3⟩,Rf,Jr _ _ rfl (.cons _ Sf) Sf Bf Pf,oi2,nx2,3,rfl,h2,rfl⟩
theorem JsH (s0 s1 nx:Nat) (m:Mk) (oi:Option Nat) (h:Hlv) (h0:oi=none→m.l= []) (hf:(Jco m h (JeT h) (Jdl h)).fits):ECall Tryz.prog 267 [.bp (0,s0) 0,hlA h] ⟨mkB s0 s1 m oi,mkP m oi,nx,3⟩ (MkQ s0 s1 (Jco m h (JeT h) (Jdl h)) (.tup [])):=by
 obtain ⟨la,ha,lo,hi,ml,mh,w,yes,no⟩:=h
 refine ECall.wk (Jo Tryz.func267 rfl rfl ?_)
 unfold hlA Jco at *
 dsimp only at *
 cases w
 ·refine Z ?_;refine Jg (xs:= [.bp (0,s0) 0,JaN (Jdl ⟨la,ha,lo,hi,ml,mh,false,yes,no⟩)]) [((3,nx), .c [u32 la,u32 ha,u32 lo,u32 hi,u32 ml,u32 mh,Ji false,int yes,int no])] [] 4 rfl rfl rfl rfl ⟨Rf,JwE (fun k hk=> by match k,hk with | 0,_=> rfl | 1,_=> rfl | 2,_=> rfl),Tt⟩ (Jax s0 s1 (nx+1) m oi _ h0 (by simp [Jdl]) hf) Bf Pf rfl fun r h' hq=> ?_;obtain ⟨oi2,nx2,nn2,rfl,h2,rfl⟩:=hq;refine Z ?_;exact Jt rfl ⟨.tup [],⟨mkB s0 s1 _ oi2,mkP _ oi2,nx2,3⟩,Rf,Jr _ _ rfl (.cons _ Sf) Sf Bf Pf,oi2,nx2,3,rfl,h2,rfl⟩
 ·refine Z ?_;refine Jg (xs:= [.bp (0,s0) 0,JaN (JeT ⟨la,ha,lo,hi,ml,mh,true,yes,no⟩)]) [((3,nx), .c [u32 la,u32 ha,u32 lo,u32 hi,u32 ml,u32 mh,Ji true,int yes,int no])] [] 4 rfl rfl rfl rfl ⟨Rf,JwE (fun k hk=> by match k,hk with | 0,_=> rfl | 1,_=> rfl | 2,_=> rfl),Tt⟩ (Jax s0 s1 (nx+1) m oi _ h0 (by simp [JeT]) ((JaE _ _).fits hf)) Bf Pf rfl fun r h' hq=> ?_;obtain ⟨oi2,nx2,nn2,rfl,h2,rfl⟩:=hq;refine Z ?_;refine Jg (xs:= [.bp (0,s0) 0,JaN (Jdl ⟨la,ha,lo,hi,ml,mh,true,yes,no⟩)]) [((3,nx), .c [u32 la,u32 ha,u32 lo,u32 hi,u32 ml,u32 mh,Ji true,int yes,int no])] [] 4 rfl rfl rfl rfl ⟨Rf,JwE (fun k hk=> by match k,hk with | 0,_=> rfl | 1,_=> rfl | 2,_=> rfl),Tt⟩ (Jax s0 s1 nx2 _ oi2 _ h2 (by simp [Jdl]) hf) Bf Pf rfl fun r h' hq=> ?_;obtain ⟨oi3,nx3,nn3,rfl,h3,rfl⟩:=hq;refine Z ?_;exact Jt rfl ⟨.tup [],⟨mkB s0 s1 _ oi3,mkP _ oi3,nx3,3⟩,Rf,Jr _ _ rfl (.cons _ Sf) Sf Bf Pf,oi3,nx3,3,rfl,h3,rfl⟩
theorem JgB (b:List (Nat×Nat)):Ja9 (.int .u32) (bE b)=true:=by simp [Ja9,bE,Jbc,show Jdh .u32 .u32=true from rfl]
theorem Jga (c:Nat):∀b:List (Nat×Nat),Jbf (.int .u32 (c:Int)) (bE b)=(Jcy b c).map fun k:Nat=> int k
 | []=> rfl
 | p::b=> by
   have ih:=Jga c b;have hb:JcX (.int .u32 (c:Int)) (.int .u32 (p.1:Int))=(p.1 ==c):=by
    simp only [JcX,show Jdh .u32 .u32=true from rfl,Bool.true_and];by_cases h:p.1=c
    ·rw [h];simp
    ·have h':¬(c:Int)=(p.1:Int):=(by omega);rw [beq_eq_false_iff_ne.2 h,beq_eq_false_iff_ne.2 h']
   show (bif JcX (.int .u32 (c:Int)) (.int .u32 (p.1:Int)) then _ else Jbf (.int .u32 (c:Int)) (bE b))=_;rw [ih,hb];unfold Jcy;rw [List.find?_cons];cases p.1 ==c <;> rfl
theorem JsI (c k:Nat):∀b:List (Nat×Nat),Jcy b c=none→JcN (.int .u32 (c:Int)) (int k) (bE b)=bE (b++ [(c,k)])
 | [],h=> rfl
 | p::b,h=> by
   have hne:(p.1 ==c)=false∧Jcy b c=none:=by
    unfold Jcy at h⊢;rw [List.find?_cons] at h;cases hb:p.1 ==c with
    | true=> rw [hb] at h;cases h
    | false=> rw [hb] at h;exact ⟨rfl,h⟩
   have ih:=JsI c k b hne.2;have hb:JcX (.int .u32 (c:Int)) (.int .u32 (p.1:Int))=false:=by
    simp only [JcX,show Jdh .u32 .u32=true from rfl,Bool.true_and];have h':¬(c:Int)=(p.1:Int):=(by have:=ne_of_beq_false hne.1;omega);exact beq_eq_false_iff_ne.2 h'
   show (bif JcX (.int .u32 (c:Int)) (.int .u32 (p.1:Int)) then _ else (_:Value×AV)::JcN _ _ (bE b))=_;rw [hb,cond_false,ih];rfl
theorem JsJ {b:List (Nat×Nat)} {c k:Nat} (h:Jcy b c=none):Jcy (b++ [(c,k)]) c=some k:=by
 unfold Jcy at h⊢
 rw [List.find?_append,Option.map_eq_none_iff.1 h]
 simp
theorem Jy0 {ops:Array Oper} {B:List (Vl.Id×Own)} {o:Oper} {E:Env} {C:Option Prop} {r:AV} (hg:o.guard=none) (hp:JbD Tryz.prog o.op E=some (C,r)) (hC:Jau C) (hB:HB B E.h.bx):Eff Tryz.prog ops B o E fun r' h'=> r'=r∧h'=E.h:=
 ⟨hg,fun E' hh ht=> AOp.of_yields (JbA (JeO (E:=E) (E':=E') (by rw [hh];exact HB.refl _) (Jcm ht) hp) hC) ⟨_,_,⟨rfl,hh⟩,by rw [hh];exact hB,rfl⟩⟩
theorem Je4 (s0 s1 nx:Nat) (m:Mk) (oi:Option Nat) (c:Nat) (h0:oi=none→m.l= []) (hb:∀p∈m.b,p.2≠0) (hf:(JB m c).2.fits):ECall Tryz.prog 34 [.bp (0,s0) 0,u32 c] ⟨mkB s0 s1 m oi,mkP m oi,nx,3⟩ (MkQ s0 s1 (JB m c).2 (int (JB m c).1)):=by
 refine ECall.wk (Jo Tryz.func34 rfl rfl ?_)
 unfold JB at *
 cases hl:Jcy m.b c with
 | some k=>
   have hk:k≠0:=by
    unfold Jcy at hl;obtain ⟨p,h1,h2⟩:=Option.map_eq_some_iff.1 hl;rw [← h2];exact hb p (List.mem_of_find?_eq_some h1)
   unfold mkB;refine JaR ?_;refine ⟨⟨rfl,JgB _⟩, ?_⟩;rw [Jga,hl];refine Z ?_;intro c' hc;obtain rfl:c'=false:=hc.trans (beq_eq_false_iff_ne.2 Om);refine JaR ?_;refine ⟨⟨rfl,JgB _⟩, ?_⟩;rw [Jga,hl];refine Z ?_;exact Jt rfl ⟨_,_,Rf,HLe.refl _,oi,nx,3,rfl,h0,rfl⟩
 | none=>
   rw [hl] at hf;unfold mkB;refine JaR ?_;refine ⟨⟨rfl,JgB _⟩, ?_⟩;rw [Jga,hl];refine JaR ?_;have hf:(Jz m).fits:=hf;have hmark:∀(E:Env) (o:Oper) (ops:Array Oper),o.guard=none→o.op= .call { callee:= .value (.func 33),args:= #[.tmp 17],argTypes:= #[103]}→E.h=⟨mkB s0 s1 m oi,mkP m oi,nx,3⟩→E.ev (.tmp 17)= .bp (0,s0) 0→Eff Tryz.prog ops [] o E (fun r h'=> ∃oi nx',r=int (m.n+1:Nat)∧(oi=none→(Jz m).l= [])∧h'=⟨mkB s0 s1 (Jz m) oi,mkP (Jz m) oi,nx',3⟩):=fun E o ops hg ho hh he=> by
    refine JlP (f:=33) (Q:=MkQ s0 s1 (Jz m) (int (m.n+1:Nat))) hg ho rfl (by rw [hh];show ECall Tryz.prog _ [E.ev (.tmp 17)] _ _;rw [he];exact Jd5 s0 s1 nx m oi h0 hf) (fun r h' hq=> ?_);obtain ⟨oi2,nx',nn',rfl,h1,rfl⟩:=hq;exact ⟨_,⟨_,_,nx',3⟩,Rf,⟨List.Perm.refl _,List.Perm.refl _,rfl⟩,⟨oi2,nx',rfl,h1,rfl⟩,fun _ _ _ h=> by cases h⟩
   refine JBM 7 [] (Ef [3,6]) (fun _=> false) [0,1,2,4,5] (.br 3 [] (.br 6 [] .nil .nil) (.br 6 [] (.br 3 [] .nil .nil) .nil)) Kr Kr (fun _ _ _ h=> by cases h) ?_;refine JaR ?_;refine ⟨?_, ?_,Tt⟩
   ·refine ⟨_,Jy0 rfl rfl ⟨rfl,Nat.le_of_ble_eq_true rfl⟩ (fun _ _ _ h=> by cases h),fun r h' hr=> ?_⟩;obtain ⟨rfl,rfl⟩:=hr;refine JaR ?_;refine ⟨⟨_,hmark _ _ _ rfl rfl rfl rfl,fun r h' hr=> ?_⟩,Tt⟩;obtain ⟨oi2,nx2,rfl,h2,rfl⟩:=hr;refine JaR ?_;refine ⟨⟨rfl,JgB _⟩, ?_⟩;refine Jhq ?_;show Jhk (JcN (Value.int .u32 (c:Int)) (int (m.n+1:Nat)) (bE m.b)) _;rw [JsI c (m.n+1) m.b hl];refine JcQ ?_;refine JaR ?_;refine ⟨⟨rfl,JgB _⟩, ?_⟩;rw [Jga,JsJ hl];refine Z ?_;exact Jt rfl ⟨int (m.n+1:Nat),⟨mkB s0 s1 ⟨m.l,m.n+1,m.b++ [(c,m.n+1)]⟩ oi2,mkP ⟨m.l,m.n+1,m.b++ [(c,m.n+1)]⟩ oi2,nx2,3⟩,Rf,Jr _ _ rfl Sf Sf Bf Pf,oi2,nx2,3,rfl,h2,rfl⟩
   ·refine ⟨_,hmark _ _ _ rfl rfl rfl rfl,fun r h' hr=> ?_⟩;obtain ⟨oi2,nx2,rfl,h2,rfl⟩:=hr;refine JaR ?_;refine ⟨⟨_,Jy0 rfl rfl ⟨rfl,Nat.le_of_ble_eq_true rfl⟩ (fun _ _ _ h=> by cases h),fun r h' hr=> ?_⟩,Tt⟩;obtain ⟨rfl,rfl⟩:=hr;refine JaR ?_;refine ⟨⟨rfl,JgB _⟩, ?_⟩;refine Jhq ?_;show Jhk (JcN (Value.int .u32 (c:Int)) (int (m.n+1:Nat)) (bE m.b)) _;rw [JsI c (m.n+1) m.b hl];refine JcQ ?_;refine JaR ?_;refine ⟨⟨rfl,JgB _⟩, ?_⟩;rw [Jga,JsJ hl];refine Z ?_;exact Jt rfl ⟨int (m.n+1:Nat),⟨mkB s0 s1 ⟨m.l,m.n+1,m.b++ [(c,m.n+1)]⟩ oi2,mkP ⟨m.l,m.n+1,m.b++ [(c,m.n+1)]⟩ oi2,nx2,3⟩,Rf,Jr _ _ rfl Sf Sf Bf Pf,oi2,nx2,3,rfl,h2,rfl⟩
theorem JlE (n:Nat) (hn:n < 18446744073709551616):Tells Tryz.prog 261 [u64 n] (.tup [u32 (n % 4294967296:Nat),u32 (n / 4294967296:Nat)]):=by
 have e1:IntKind.u32.wrap (n:Int)=((n % 4294967296:Nat):Int):=by show (n:Int) % 4294967296=_;omega
 have e2:IntKind.u32.wrap ((n:Int).fdiv (2 ^ min (Int.toNat 32) IntKind.u64.bits))=((n / 4294967296:Nat):Int):=by
  show ((n:Int).fdiv 4294967296) % 4294967296=_;rw [Int.fdiv_eq_ediv_of_nonneg _ Dc];omega
 refine Jc Tryz.func261 rfl rfl fun nx=> ?_
 refine Z ?_
 exact Jb (r:= .tup [u32 (IntKind.u32.wrap (n:Int)),u32 (IntKind.u32.wrap ((n:Int).fdiv (2 ^ min (Int.toNat 32) IntKind.u64.bits)))]) rfl (AVle.of_eq (by rw [e1,e2]))
theorem JsK (a:Nat) (b:Bool) (ha:a≤5):Tells Tryz.prog 268 [int a,Ji b] (.tup [int ((if b then 20 else 16)+8 * a:Nat),int 0]):=by
 have e8:IntKind.i64.wrap (8 * (a:Int))=8 * (a:Int):=Jq Om Om
 refine Jc Tryz.func268 rfl rfl fun nx=> ?_
 refine Z ?_
 intro c hc
 obtain rfl:c=false:=hc.trans (decide_eq_false Om)
 refine Z ?_
 cases b
 ·refine Z ?_;refine Jb rfl (AVle.tups (cs:= [_,_]) ⟨Jf ?_,Y1⟩);rw [e8,Jq Om Om,if_neg Bool.false_ne_true];omega
 ·refine Z ?_;refine Jb rfl (AVle.tups (cs:= [_,_]) ⟨Jf ?_,Y1⟩);rw [e8,Jq (n:=16+8 * (a:Int)) Om Om,Jq Om Om,if_pos rfl];omega
theorem JpP (a:Nat) (ha:a≤5):Tells Tryz.prog 195 [int a,Ji false] (.tup [int (16+8 * a:Nat),int 0]):=by
 refine Jc Tryz.func195 rfl rfl fun nx=> ?_
 refine Z ?_
 refine Ja rfl rfl (JsK a false ha) Y2 fun nx1=> ?_
 refine Z ?_
 exact Jb rfl Rf
theorem JwF (a:Nat) (ha:a≤5):Tells Tryz.prog 262 [int a,Ji false] (.tup [int (20+8 * a:Nat),int 0]):=by
 refine Jc Tryz.func262 rfl rfl fun nx=> ?_
 refine Z ?_
 refine Ja rfl rfl (JsK a true ha) Y2 fun nx1=> ?_
 refine Z ?_
 exact Jb rfl Rf
theorem JwG (s0 s1 nx:Nat) (m:Mk) (oi:Option Nat) (c:Cnd) (w:Bool) (yes no:Nat) (h0:oi=none→m.l= []) (ho:c.op=1∨c.op=2∨c.op=3∨c.op=6∨c.op=7) (ha:0≤c.arg∧c.arg≤5) (hc:c.ok) (hf:(Jdw m c w yes no).fits):
 ECall Tryz.prog 194 [.bp (0,s0) 0,JZ c,Ji w,int yes,int no] ⟨mkB s0 s1 m oi,mkP m oi,nx,3⟩ (MkQ s0 s1 (Jdw m c w yes no) (.tup [])):=by
 obtain ⟨arg,op,mask,value⟩:=c
 obtain ⟨hm,hv⟩:=hc
 obtain ⟨a,rfl⟩:∃a:Nat,arg=a:=⟨arg.toNat,by have:=ha.1;dsimp only at this;omega⟩
 have ha5:a≤5:=by have:=ha.2;dsimp only at this;omega
 unfold Jdw at hf⊢
 have hH:hlvC ⟨(a:Int),op,mask,value⟩ w yes no=⟨16+8 * a,20+8 * a,value % 4294967296,value / 4294967296,mask % 4294967296,mask / 4294967296,w,yes,no⟩:=by unfold hlvC;simp
 have w1:IntKind.u32.wrap ((16+8 * a:Nat):Int)=((16+8 * a:Nat):Int):=by show _ % 4294967296=_;omega
 have w2:IntKind.u32.wrap ((20+8 * a:Nat):Int)=((20+8 * a:Nat):Int):=by show _ % 4294967296=_;omega
 rw [hH] at hf⊢
 refine ECall.wk (Jo Tryz.func194 rfl rfl ?_)
 refine Z ?_
 refine Ja rfl rfl (JlE value (by first | exact hv | exact hm)) Y1 fun nx1=> ?_
 refine Z ?_
 refine Ja rfl rfl (JlE mask (by first | exact hm | exact hv)) Y1 fun nx2=> ?_
 refine Z ?_
 refine Ja rfl rfl (JpP a ha5) Y2 fun nx3=> ?_
 refine Z ?_
 refine Ja rfl rfl (JwF a ha5) Y2 fun nx4=> ?_
 dsimp only at ho
 rcases ho with rfl | rfl | rfl | rfl | rfl
 ·refine Z ?_;refine Jg (xs:= [.bp (0,s0) 0,hlA ⟨16+8 * a,20+8 * a,value % 4294967296,value / 4294967296,mask % 4294967296,mask / 4294967296,w,yes,no⟩]) [_,_,_] [] 6 rfl rfl rfl rfl ⟨Rf,AVle.ags (cs:= [_,_,_,_,_,_,_,_,_]) ⟨AVle.of_eq (congrArg u32 w1),AVle.of_eq (congrArg u32 w2),Y7⟩,Tt⟩ (JnD s0 s1 (nx4+1) m oi _ h0 hf) Bf Pf rfl fun r h' hq=> ?_;obtain ⟨oi2,nx5,nn5,rfl,h2,rfl⟩:=hq;refine Z ?_;exact Jt rfl ⟨.tup [],⟨mkB s0 s1 _ oi2,mkP _ oi2,nx5,3⟩,Rf,Jr _ _ rfl (.cons _ (.cons _ (.cons _ Sf))) Sf Bf Pf,oi2,nx5,3,rfl,h2,rfl⟩
 ·refine Z ?_;refine Jg (xs:= [.bp (0,s0) 0,hlA ⟨16+8 * a,20+8 * a,value % 4294967296,value / 4294967296,mask % 4294967296,mask / 4294967296,w,yes,no⟩]) [_,_,_] [] 6 rfl rfl rfl rfl ⟨Rf,AVle.ags (cs:= [_,_,_,_,_,_,_,_,_]) ⟨AVle.of_eq (congrArg u32 w1),AVle.of_eq (congrArg u32 w2),Y7⟩,Tt⟩ (JsG s0 s1 (nx4+1) m oi _ h0 hf) Bf Pf rfl fun r h' hq=> ?_;obtain ⟨oi2,nx5,nn5,rfl,h2,rfl⟩:=hq;refine Z ?_;exact Jt rfl ⟨.tup [],⟨mkB s0 s1 _ oi2,mkP _ oi2,nx5,3⟩,Rf,Jr _ _ rfl (.cons _ (.cons _ (.cons _ Sf))) Sf Bf Pf,oi2,nx5,3,rfl,h2,rfl⟩
 ·refine Z ?_;refine Jg (xs:= [.bp (0,s0) 0,hlA ⟨16+8 * a,20+8 * a,value % 4294967296,value / 4294967296,mask % 4294967296,mask / 4294967296,w,yes,no⟩]) [_,_,_] [] 6 rfl rfl rfl rfl ⟨Rf,AVle.ags (cs:= [_,_,_,_,_,_,_,_,_]) ⟨AVle.of_eq (congrArg u32 w1),AVle.of_eq (congrArg u32 w2),Y7⟩,Tt⟩ (JtY s0 s1 (nx4+1) m oi _ h0 hf) Bf Pf rfl fun r h' hq=> ?_;obtain ⟨oi2,nx5,nn5,rfl,h2,rfl⟩:=hq;refine Z ?_;exact Jt rfl ⟨.tup [],⟨mkB s0 s1 _ oi2,mkP _ oi2,nx5,3⟩,Rf,Jr _ _ rfl (.cons _ (.cons _ (.cons _ Sf))) Sf Bf Pf,oi2,nx5,3,rfl,h2,rfl⟩
 ·refine Z ?_;refine Jg (xs:= [.bp (0,s0) 0,hlA ⟨16+8 * a,20+8 * a,value % 4294967296,value / 4294967296,mask % 4294967296,mask / 4294967296,w,yes,no⟩]) [_,_,_] [] 6 rfl rfl rfl rfl ⟨Rf,AVle.ags (cs:= [_,_,_,_,_,_,_,_,_]) ⟨AVle.of_eq (congrArg u32 w1),AVle.of_eq (congrArg u32 w2),Y7⟩,Tt⟩ (JlD s0 s1 (nx4+1) m oi _ h0 hf) Bf Pf rfl fun r h' hq=> ?_;obtain ⟨oi2,nx5,nn5,rfl,h2,rfl⟩:=hq;refine Z ?_;exact Jt rfl ⟨.tup [],⟨mkB s0 s1 _ oi2,mkP _ oi2,nx5,3⟩,Rf,Jr _ _ rfl (.cons _ (.cons _ (.cons _ Sf))) Sf Bf Pf,oi2,nx5,3,rfl,h2,rfl⟩
 ·refine Z ?_;refine Jg (xs:= [.bp (0,s0) 0,hlA ⟨16+8 * a,20+8 * a,value % 4294967296,value / 4294967296,mask % 4294967296,mask / 4294967296,w,yes,no⟩]) [_,_,_] [] 6 rfl rfl rfl rfl ⟨Rf,AVle.ags (cs:= [_,_,_,_,_,_,_,_,_]) ⟨AVle.of_eq (congrArg u32 w1),AVle.of_eq (congrArg u32 w2),Y7⟩,Tt⟩ (JsH s0 s1 (nx4+1) m oi _ h0 hf) Bf Pf rfl fun r h' hq=> ?_;obtain ⟨oi2,nx5,nn5,rfl,h2,rfl⟩:=hq;refine Z ?_;exact Jt rfl ⟨.tup [],⟨mkB s0 s1 _ oi2,mkP _ oi2,nx5,3⟩,Rf,Jr _ _ rfl (.cons _ (.cons _ (.cons _ Sf))) Sf Bf Pf,oi2,nx5,3,rfl,h2,rfl⟩
def JwH (n:Int):AV:= .v (.int .u32 n)
def JEG (b:Bool):AV:= .v (.bool b)
def JgL (l:List Int):AV:=JK 1 JwH 0 l
structure TNd where
 leaf:Bool
 num:Int
 place:Int
 low:Int
 high:Int
def Jmj (n:TNd):AV:= .ag [JEG n.leaf,JwH n.num,int n.place,int n.low,int n.high]
def JkB:TNd:=⟨false,0,0,0,0⟩
def JD0 (l:List TNd):AV:=JK 5 Jmj JkB l
def JsL (l:List TNd) (k:Nat):AV:=Jmj (l.getD k JkB)
def JD1:Option Nat→Option Vl.Id
 | none=> none
 | some k=> some (3,k)
def JiJ (s5 s6 s7 nx:Nat) (out:List TNd) (oi:Option Nat):Heap:=
 ⟨[((2,s7), .c [.fn (.func 198) [] [.bp (1,s6) 0, .bp (2,s7) 0]]),((1,s6), .c [.fn (.func 197) [] [.bp (0,s5) 0]]),((0,s5), .c [.os 5 out.length (JsL out) (JD1 oi)])],Jam (JD1 oi) (out.length * 5),nx,4⟩
theorem JpQ (s5 s6 s7 nx:Nat) (out:List TNd) (oi:Option Nat) (n:TNd) (h:out.length≤100000) (h0:oi=none→out= []):
 ECall Tryz.prog 197 [Jmj n, .bp (0,s5) 0] (JiJ s5 s6 s7 nx out oi) (fun r h'=> r=int out.length∧∃k nx',h'=JiJ s5 s6 s7 nx' (out++ [n]) (some k)):=by
 refine Jo Tryz.func197 rfl rfl ?_
 rcases oi with _ | id
 ·obtain rfl:=h0 rfl
  (repeat ((conv=>whnf);first|refine ω0 ?_|refine ω1 ?_|refine ω2 ?_|refine ω3 ?_|refine ω4 rfl ?_|refine ω5 rfl ?_|refine ω6 ?_|refine ω7 ?_|refine ⟨rfl,?_⟩|refine ⟨trivial,?_⟩|refine ⟨⟨rfl,Nat.le_of_ble_eq_true rfl⟩,?_⟩|refine ⟨⟨by kernel_rfl,by kernel_rfl⟩,?_⟩|refine ⟨by decide,?_⟩|refine JdE ?_|refine Jdd ?_))
  refine ⟨JM rfl,by show (0+1) * 32≤_;omega,by decide, ?_⟩
  (repeat ((conv=>whnf);first|refine ω0 ?_|refine ω1 ?_|refine ω2 ?_|refine ω3 ?_|refine ω4 rfl ?_|refine ω5 rfl ?_|refine ω6 ?_|refine ω7 ?_|refine ⟨rfl,?_⟩|refine ⟨trivial,?_⟩|refine ⟨⟨rfl,Nat.le_of_ble_eq_true rfl⟩,?_⟩|refine ⟨⟨by kernel_rfl,by kernel_rfl⟩,?_⟩|refine ⟨by decide,?_⟩|refine JdE ?_|refine Jdd ?_))
  refine AW.le (Je (nn:=4) (L:= [(3,int 0)]) (bx:=(JiJ s5 s6 s7 nx [n] (some (nx+1))).bx) (pm:= [((3,nx+1),5)]) _ _ rfl rfl (.cons _ (.cons_cons _ (.cons_cons _ (.cons_cons _ .slnil)))) (.cons_cons _ .slnil) ?_ ?_ ?_) ?_
  ·refine ⟨rfl,OwnLe.refl _,rfl,OwnLe.refl _,rfl,⟨AVle.trans (b:= .os 5 1 (JsL [n]) _) (AVle.os_fun (Jbw (fun k hk=> absurd hk (Nat.not_lt_zero _)) rfl)) (AVle.os_nm rfl),Tt⟩,Tt⟩
  ·exact ⟨rfl,rfl,Tt⟩
  ·exact ⟨Jf rfl,Tt⟩
  refine Z ?_;refine Jt rfl ⟨rfl,nx+1,_,rfl⟩
 ·(repeat ((conv=>whnf);first|refine ω0 ?_|refine ω1 ?_|refine ω2 ?_|refine ω3 ?_|refine ω4 rfl ?_|refine ω5 rfl ?_|refine ω6 ?_|refine ω7 ?_|refine ⟨rfl,?_⟩|refine ⟨trivial,?_⟩|refine ⟨⟨rfl,Nat.le_of_ble_eq_true rfl⟩,?_⟩|refine ⟨⟨by kernel_rfl,by kernel_rfl⟩,?_⟩|refine ⟨by decide,?_⟩|refine JdE ?_|refine Jdd ?_))
  refine ⟨JM rfl,by show (out.length+1) * 32≤_;omega,Om, ?_⟩
  (repeat ((conv=>whnf);first|refine ω0 ?_|refine ω1 ?_|refine ω2 ?_|refine ω3 ?_|refine ω4 rfl ?_|refine ω5 rfl ?_|refine ω6 ?_|refine ω7 ?_|refine ⟨rfl,?_⟩|refine ⟨trivial,?_⟩|refine ⟨⟨rfl,Nat.le_of_ble_eq_true rfl⟩,?_⟩|refine ⟨⟨by kernel_rfl,by kernel_rfl⟩,?_⟩|refine ⟨by decide,?_⟩|refine JdE ?_|refine Jdd ?_))
  refine AW.le (Je (nn:=4) (L:= [(3,int out.length)]) (bx:=(JiJ s5 s6 s7 nx (out++ [n]) (some (nx+1))).bx) (pm:= [((3,nx+1),(out++ [n]).length * 5)]) _ _ rfl rfl (.cons _ (.cons_cons _ (.cons_cons _ (.cons_cons _ .slnil)))) (.cons_cons _ .slnil) ?_ ?_ ?_) ?_
  ·refine ⟨rfl,OwnLe.refl _,rfl,OwnLe.refl _,rfl,⟨AVle.trans (b:= .os 5 (out.length+1) (JsL (out++ [n])) _) (AVle.os_fun (Jbw (fun k hk=> ?_) ?_)) ?_,Tt⟩,Tt⟩
   ·simp [JsL,List.getD,List.getElem?_append_left hk,hk]
   ·simp [JsL,List.getD];rfl
   ·simp only [List.length_append,List.length_cons,List.length_nil];exact AVle.os_nm rfl
  ·exact ⟨rfl,by simp;rfl,Tt⟩
  ·exact ⟨Jf ((Jq Om Om).trans Om),Tt⟩
  refine Z ?_;refine Jt rfl ⟨rfl,nx+1,_,rfl⟩
def tre (l:List Int) (at_ base:Nat):List TNd:=
 if h:l.length≤1 then [⟨true,l.getD 0 0,at_,0,0⟩]
 else
  let half:=l.length / 2
  let L:=tre (l.take half) at_ base
  let H:=tre (l.drop half) (at_+half) (base+L.length)
  L++H++ [⟨false,l.getD half 0,0,base+L.length - 1,base+L.length+H.length - 1⟩]
termination_by l.length
decreasing_by
 ·simp;omega
 ·simp;omega
theorem Jot {l:List Int} {a b:Nat} (h:l.length≤1):tre l a b= [⟨true,l.getD 0 0,a,0,0⟩]:=by
 rw [tre,dif_pos h]
theorem Jmk {l:List Int} {a b:Nat} (h:¬l.length≤1):tre l a b=tre (l.take (l.length / 2)) a b++tre (l.drop (l.length / 2)) (a+l.length / 2) (b+(tre (l.take (l.length / 2)) a b).length)++
 [⟨false,l.getD (l.length / 2) 0,0,b+(tre (l.take (l.length / 2)) a b).length - 1,b+(tre (l.take (l.length / 2)) a b).length+(tre (l.drop (l.length / 2)) (a+l.length / 2) (b+(tre (l.take (l.length / 2)) a b).length)).length - 1⟩]:=by
 rw [tre,dif_neg h]
theorem JfS:∀(n:Nat) (l:List Int) (a b:Nat),l.length=n→1≤n→(tre l a b).length=2 * n - 1:=by
 intro n
 induction n using Nat.strongRecOn with
 | _ n ih=>
   intro l a b hn h1;by_cases h:l.length≤1
   ·rw [Jot h];simp;omega
   ·rw [Jmk h];have e1:=ih (l.length / 2) Om (l.take (l.length / 2)) a b (by simp;omega) Om;have e2:=ih (l.length - l.length / 2) Om (l.drop (l.length / 2)) (a+l.length / 2) (b+(tre (l.take (l.length / 2)) a b).length) Si Om;simp only [List.length_append,List.length_cons,List.length_nil,e1] at e2⊢;rw [e2];omega
theorem JwI:∀(N:Nat) (s5 s6 s7 nx:Nat) (l:List Int) (a:Nat) (out:List TNd) (oi:Option Nat),l.length=N→1≤N→out.length+2 * N≤50000→a+N≤50000→(oi=none→out= [])→
 ECall Tryz.prog 198 [JgL l,int a, .bp (1,s6) 0, .bp (2,s7) 0] (JiJ s5 s6 s7 nx out oi) (fun r h'=> r=int (out.length+2 * N - 2:Nat)∧∃k nx',h'=JiJ s5 s6 s7 nx' (out++tre l a out.length) (some k)):=by
 intro N
 induction N using Nat.strongRecOn with
 | _ N ih=>
   intro s5 s6 s7 nx l a out oi hN h1 hb ha h0;refine Jo Tryz.func198 rfl rfl ?_;refine Z ?_;intro c h2;cases c
   ·have h3:¬l.length≤1:=(by have:=Jw (p:=(l.length:Int)=1) (by simpa using h2);omega);have hl1:(l.take (l.length / 2)).length=l.length / 2:=(by simp;omega);have hl2:(l.drop (l.length / 2)).length=l.length - l.length / 2:=(by simp);have ht:=JfS (l.length / 2) (l.take (l.length / 2)) a out.length hl1 Om;have hw:IntKind.i64.wrap ((l.length:Int).tdiv 2)=((l.length / 2:Nat):Int):=(by rw [Int.tdiv_eq_ediv_of_nonneg Om,Jq Om Om];omega);refine Z ?_
    (refine JJ 6 Kr Kr Kr ?_)
    refine Z ?_;rw [hw];refine ⟨⟨Om,Om,rfl⟩, ?_⟩;refine Z ?_;refine Jb6 rfl rfl (ECall.args (bs:= [JgL (l.take (l.length / 2)),int a, .bp (1,s6) 0, .bp (2,s7) 0]) ⟨?_,Y3⟩ (ih (l.length / 2) Om s5 s6 s7 nx (l.take (l.length / 2)) a out oi hl1 Om Om Om h0)) fun r h' hq=> ?_
    ·refine AVle.os_sl.trans ?_;show AVle (.sl 1 (l.length / 2) _) (.sl 1 (l.take (l.length / 2)).length _);rw [hl1];refine AVle.sl_fun fun k hk=> ?_;simp [List.getD,List.getElem?_take,hk]
    obtain ⟨rfl,k,nx',rfl⟩:=hq;refine Named.same ?_;have hw2:IntKind.i64.wrap ((a:Int)+((l.length / 2:Nat):Int))=((a+l.length / 2:Nat):Int):=(by rw [Jq Om Om];omega);refine Z ?_
    (refine JJ 7 Kr Kr Kr ?_)
    refine Z ?_;refine ⟨⟨Om,Om⟩, ?_⟩;refine Z ?_;refine Jb6 rfl rfl (ECall.args (bs:= [JgL (l.drop (l.length / 2)),int ((a+l.length / 2:Nat):Int), .bp (1,s6) 0, .bp (2,s7) 0]) ⟨?_,Jf hw2,Y2⟩
     (ih (l.length - l.length / 2) Om s5 s6 s7 nx' (l.drop (l.length / 2)) (a+l.length / 2) (out++tre (l.take (l.length / 2)) a out.length) (some k) hl2 Om (by rw [List.length_append,ht];omega) Om (fun h=> by cases h))) fun r h' hq=> ?_
    ·show AVle (.sl 1 (l.length - l.length / 2) _) (.sl 1 (l.drop (l.length / 2)).length _);rw [hl2];refine AVle.sl_fun fun k hk=> ?_;show JwH (l.getD (l.length / 2+k) 0)=JwH ((l.drop (l.length / 2)).getD k 0);simp only [List.getD_eq_getElem?_getD,List.getElem?_drop]
    obtain ⟨rfl,k2,nx2,rfl⟩:=hq;refine Named.same ?_;refine Z ?_
    (refine JJ 8 Kr Kr Kr ?_)
    refine Z ?_;refine ⟨⟨Om,Om⟩, ?_⟩;refine Z ?_;have ht2:=JfS (l.length - l.length / 2) (l.drop (l.length / 2)) (a+l.length / 2) (out++tre (l.take (l.length / 2)) a out.length).length hl2 Om;refine Jb6 rfl rfl (ECall.args (bs:= [Jmj ⟨false,l.getD (l.length / 2) 0,0,(out.length+2 * (l.length / 2) - 2:Nat),((out++tre (l.take (l.length / 2)) a out.length).length+2 * (l.length - l.length / 2) - 2:Nat)⟩, .bp (0,s5) 0]) Y2
     (JpQ s5 s6 s7 nx2 ((out++tre (l.take (l.length / 2)) a out.length)++tre (l.drop (l.length / 2)) (a+l.length / 2) (out++tre (l.take (l.length / 2)) a out.length).length) (some k2) _ (by simp only [List.length_append] at ht2⊢;omega) (fun h=> by cases h))) fun r h' hq=> ?_
    obtain ⟨rfl,k3,nx3,rfl⟩:=hq;refine Named.same ?_;refine Z ?_;refine Jt rfl ⟨?_,k3,nx3, ?_⟩
    ·rw [show out.length+2 * N - 2=((out++tre (l.take (l.length / 2)) a out.length)++tre (l.drop (l.length / 2)) (a+l.length / 2) (out++tre (l.take (l.length / 2)) a out.length).length).length by
      rw [List.length_append,ht2,List.length_append,ht];omega]
     rfl
    ·have e:out++tre l a out.length=((out++tre (l.take (l.length / 2)) a out.length)++tre (l.drop (l.length / 2)) (a+l.length / 2) (out++tre (l.take (l.length / 2)) a out.length).length)++
      [⟨false,l.getD (l.length / 2) 0,0,(out.length+2 * (l.length / 2) - 2:Nat),((out++tre (l.take (l.length / 2)) a out.length).length+2 * (l.length - l.length / 2) - 2:Nat)⟩]:=by
      rw [Jmk h3];simp only [List.length_append] at ht2⊢;rw [ht2,ht];simp only [List.append_assoc]
      congr 5
      all_goals omega
     rw [e];rfl
   ·have h3:l.length=1:=(by have:=Ju (p:=(l.length:Int)=1) (by simpa using h2);omega);refine Z ?_
    (refine JJ 6 Kr Kr Kr ?_)
    refine Z ?_;refine ⟨⟨Om,Om⟩, ?_⟩;refine Z ?_;refine Jb6 rfl rfl (ECall.args (bs:= [Jmj ⟨true,l.getD 0 0,a,0,0⟩, .bp (0,s5) 0]) Y2 (JpQ s5 s6 s7 nx out oi ⟨true,l.getD 0 0,a,0,0⟩ Om h0)) fun r h' hq=> ?_;obtain ⟨rfl,k,nx',rfl⟩:=hq;refine Named.same ?_;refine Z ?_;refine Jt rfl ⟨?_,k,nx', ?_⟩
    ·rw [show out.length+2 * N - 2=out.length by omega];rfl
    ·rw [Jot Om];rfl
def risesT (l:List Int):Prop:=∀i,1≤i→i < l.length→l.getD (i - 1) 0 < l.getD i 0
instance (l:List Int):Decidable (risesT l):=
 decidable_of_iff (∀i,i < l.length→1≤i→l.getD (i - 1) 0 < l.getD i 0) ⟨fun h i h1 h2=> h i h2 h1,fun h i h1 h2=> h i h2 h1⟩
def JhM (l:List Int):List TNd×Int:=
 if ¬risesT l then ([],15) else if 4096 < l.length then ([],3) else if l.length=0 then ([⟨true,0,-1,0,0⟩],0) else (tre l 0 0,0)
theorem Jou (l:List Int) (hl:l.length≤1000000000):Tells Tryz.prog 148 [JgL l] (.tup [JD0 (JhM l).1,int (JhM l).2]):=by
 refine Jc Tryz.func148 rfl rfl fun nx=> ?_
 refine Z ?_
 refine Js (fun i:Nat=> mk 38 [(0,JgL l),(2, .os 0 0 (fun _=> .any) none),(3,int 0),(4,int i)] ⟨[], [],nx,0⟩) (fun i=> 1≤i∧(i≤l.length∨i=1)∧∀j,1≤j→j < i→l.getD (j - 1) 0 < l.getD j 0) (fun i=> l.length - i) ?_ ?_
 ·exact ⟨1,⟨Om,Om,by intro j h1 h2;omega⟩,JaM rfl rfl Y4⟩
 ·rintro i ⟨h1,h2,h3⟩;refine Z ?_;intro c h4;cases c
  ·have h5:¬(i:Int) < l.length:=Jw h4;have hr:risesT l:=fun j hj1 hj2=> h3 j hj1 Om;refine Z ?_;intro c h6;cases c
   ·have h7:¬(l.length:Int) > 4096:=Jw h6;refine Z ?_;intro c h8;cases c
    ·have h9:¬(l.length:Int)=0:=Jw (p:=(l.length:Int)=0) (by simpa using h8);refine Z ?_;refine Jb6 rfl rfl (ECall.tell (ECall.args (bs:= [JgL l,int ((0:Nat):Int), .bp (1,nx+1) 0, .bp (2,nx+2) 0]) Y4
      (JwI l.length nx (nx+1) (nx+2) (nx+3) l 0 [] none rfl Om (by simp;omega) Om (fun _=> rfl))) ⟨rfl,OwnLe.refl _,rfl,OwnLe.refl _,rfl,⟨AVle.os_nil,Tt⟩,Tt⟩ trivial rfl) fun r h' hq=> ?_
     obtain ⟨rfl,k,nx',rfl⟩:=hq;refine Named.same ?_;refine Z ?_;refine Jb rfl ?_;rw [JhM,if_neg (by simpa using hr),if_neg Om,if_neg Om];exact AVle.tups ⟨AVle.os_sl,Y1⟩
    ·have h9:(l.length:Int)=0:=Ju (p:=(l.length:Int)=0) (by simpa using h8);refine Z ?_;refine Jb rfl ?_;rw [JhM,if_neg (by simpa using hr),if_neg Om,if_pos Om];exact AVle.tups ⟨AVle.os_sl.trans (AVle.sl_fun (Jhp ⟨trivial,rfl⟩)),Y1⟩
   ·have h7:(l.length:Int) > 4096:=Ju h6;refine Z ?_;refine Jb rfl ?_;rw [JhM,if_neg (by simpa using hr),if_pos Om];exact AVle.tups ⟨AVle.os_sl0,Y1⟩
  ·have h5:(i:Int) < l.length:=Ju h4;obtain ⟨j,rfl⟩:∃j,i=j+1:=⟨i - 1,Om⟩;have hw:IntKind.i64.wrap (((j+1:Nat):Int) - 1)=(j:Int):=by rw [Jq Om Om];omega
   refine Z ?_
   (refine JJ 10 Kr Kr Kr ?_)
   refine Z ?_;refine ⟨⟨Om,Om⟩, ?_⟩;refine Z ?_
   (conv=> whnf)
   rw [hw];refine ⟨⟨Om,Om⟩, ?_⟩;refine Z ?_;intro c h6;cases c
   ·have h7:¬l.getD (j+1) 0≤l.getD j 0:=Jw h6;refine Z ?_;refine back (j+2) ⟨Om,Om,fun k hk1 hk2=> ?_⟩ Om (JaM rfl rfl ⟨Rf,Rf,Rf,Jf (Jx Om),Tt⟩);rcases Nat.lt_or_ge k (j+1) with h | h
    ·exact h3 k hk1 h
    ·obtain rfl:k=j+1:=(by omega);exact Int.not_le.1 h7
   ·have h7:l.getD (j+1) 0≤l.getD j 0:=Ju h6;refine Z ?_;refine Jb rfl ?_;have hr:¬risesT l:=fun hr=> absurd (hr (j+1) Om Om) (Int.not_lt.2 h7);rw [JhM,if_pos hr];exact AVle.tups ⟨AVle.os_sl0,Y1⟩
def Jbn (l:List Nat):List Int:=l.map fun n:Nat=> (n:Int)
def JjA (l:List Nat):AV:=JK 1 (fun n:Nat=> int n) 0 l
def srB (s0 s3 s4 s5 s6 s7:Nat) (T:List TNd) (marks:List Nat) (other:Nat):List (Vl.Id×Own):=
 [((7,s7), .c [.fn (.func 149) [] [.bp (6,s6) 0, .bp (3,s3) 0, .bp (5,s5) 0, .bp (4,s4) 0, .bp (7,s7) 0]]),((6,s6), .c [JD0 T]),((5,s5), .c [int other]),((4,s4), .c [JjA marks]),((3,s3), .c [.bp (0,s0) 0])]
def SrQ (rb:List (Vl.Id×Own)) (s0 s1:Nat) (m:Mk) (h':Heap):Prop:=∃oi nx' nn',(oi=none→m.l= [])∧h'=⟨rb++mkB s0 s1 m oi,mkP m oi,nx',nn'⟩
theorem JcI (l:List Nat):(Jbn l).length=l.length:=List.length_map ..
theorem Jgb (l:List Nat) (i:Nat):(Jbn l).getD i 0=((l.getD i 0:Nat):Int):=by
 unfold Jbn
 rcases Nat.lt_or_ge i l.length with h | h
 ·simp [List.getD,h]
 ·simp [List.getD,h]
theorem Jy1 (l:List Nat) (k:Nat):Jbn (l.take k)=(Jbn l).take k:=List.map_take ..
theorem Jy2 (l:List Nat) (k:Nat):Jbn (l.drop k)=(Jbn l).drop k:=List.map_drop ..
theorem JwJ (s0 s1 s3 s4 s5 s6 s7:Nat) (T:List TNd) (marks:List Nat) (other:Nat) (hT:T.length≤50000):∀(N:Nat) (l:List Nat) (a base:Nat) (m:Mk) (oi:Option Nat) (nx:Nat),l.length=N→1≤N→base+2 * N≤T.length+1→a+N≤marks.length→marks.length≤50000→
 (∀k,k < 2 * N - 1→T.getD (base+k) JkB=(tre (Jbn l) a base).getD k JkB)→(oi=none→m.l= [])→(JbG marks other l a m).fits→
 ECall Tryz.prog 149 [int (base+2 * N - 2:Nat), .bp (6,s6) 0, .bp (3,s3) 0, .bp (5,s5) 0, .bp (4,s4) 0, .bp (7,s7) 0] ⟨srB s0 s3 s4 s5 s6 s7 T marks other++mkB s0 s1 m oi,mkP m oi,nx,8⟩ (fun r h'=> r= .tup []∧SrQ (srB s0 s3 s4 s5 s6 s7 T marks other) s0 s1 (JbG marks other l a m) h'):=by
 intro N
 induction N using Nat.strongRecOn with
 | _ N ih=>
   intro l a base m oi nx hN h1 hb ha hm hg h0 hf;refine ECall.wk (Jo Tryz.func149 rfl rfl ?_);obtain ⟨p,hp⟩:∃p,p=base+2 * N - 2:=⟨_,rfl⟩;have hlast:=hg (2 * N - 2) Om;rw [show base+(2 * N - 2)=p by omega] at hlast;rw [← hp];unfold srB;refine Z ?_;refine ⟨Bd, ?_⟩;by_cases h2:N≤1
   ·obtain rfl:N=1:=(by omega);rw [Jot (by rw [JcI];omega)] at hlast;have hlast:T.getD p JkB=⟨true,(l.getD 0 0:Nat),a,0,0⟩:=(by rw [hlast,Jgb];rfl);rw [JbG,dif_pos Om] at hf⊢;change Jcl _ (AV.rp (Jmj (T.getD p JkB)).cells) _;rw [hlast];refine Z ?_
    (refine JJ 11 Kr Kr Kr ?_)
    refine Z ?_;refine ⟨Bd, ?_⟩;refine Z ?_;refine Jg (xs:= [.bp (0,s0) 0,JaN [⟨0,0x15,l.getD 0 0,marks.getD a 0,other⟩]]) (_::srB s0 s3 s4 s5 s6 s7 T marks other) [] 9 rfl rfl rfl rfl ⟨Rf,Jfu (fun k hk=> by match k,hk with | 0,_=> rfl),Tt⟩ (Jax s0 s1 _ m oi _ h0 Si hf) Bf Pf rfl fun r h' hq=> ?_;obtain ⟨oi2,nx2,nn2,rfl,h2,rfl⟩:=hq;refine Z ?_;exact Jt rfl ⟨.tup [],⟨srB s0 s3 s4 s5 s6 s7 T marks other++mkB s0 s1 _ oi2,mkP _ oi2,nx2,9⟩,Rf,Jr _ _ rfl (.cons _ Sf) Sf Bf Pf,rfl,oi2,nx2,9,h2,rfl⟩
   ·have hl1:(l.take (l.length / 2)).length=l.length / 2:=(by simp;omega);have hl2:(l.drop (l.length / 2)).length=l.length - l.length / 2:=(by simp);have ht:=JfS (l.length / 2) (Jbn (l.take (l.length / 2))) a base (by rw [JcI,hl1]) Om;have ht2:=JfS (l.length - l.length / 2) (Jbn (l.drop (l.length / 2))) (a+l.length / 2) (base+(2 * (l.length / 2) - 1)) (by rw [JcI,hl2]) Om;have htre:tre (Jbn l) a base=tre (Jbn (l.take (l.length / 2))) a base++tre (Jbn (l.drop (l.length / 2))) (a+l.length / 2) (base+(2 * (l.length / 2) - 1))++ [⟨false,(l.getD (l.length / 2) 0:Nat),0,(base+2 * (l.length / 2) - 2:Nat),(base+(2 * (l.length / 2) - 1)+2 * (l.length - l.length / 2) - 2:Nat)⟩]:=by
     rw [Jmk (by rw [JcI];omega),JcI,← Jy1,← Jy2,ht,ht2,Jgb]
     congr 3
     all_goals omega
    rw [htre] at hg hlast;have hlast:T.getD p JkB=⟨false,(l.getD (l.length / 2) 0:Nat),0,(base+2 * (l.length / 2) - 2:Nat),(base+(2 * (l.length / 2) - 1)+2 * (l.length - l.length / 2) - 2:Nat)⟩:=by
     rw [hlast];have hle:(tre (Jbn (l.take (l.length / 2))) a base++tre (Jbn (l.drop (l.length / 2))) (a+l.length / 2) (base+(2 * (l.length / 2) - 1))).length=2 * N - 2:=(by rw [List.length_append,ht,ht2];omega);rw [← hle];simp
    rw [JbG,dif_neg Om] at hf⊢;change Jcl _ (AV.rp (Jmj (T.getD p JkB)).cells) _;rw [hlast];refine Z ?_;have hz1:(JbG marks other (l.take (l.length / 2)) a (JE (Jz m) [⟨0,0x35,l.getD (l.length / 2) 0,m.n+1,0⟩])).le (J3 (JbG marks other (l.take (l.length / 2)) a (JE (Jz m) [⟨0,0x35,l.getD (l.length / 2) 0,m.n+1,0⟩])) (m.n+1)):=JcY _ _;have hz2:=hz1.trans (Jg9 marks other _ (l.drop (l.length / 2)) (a+l.length / 2) _ (Nat.le_refl _));have hz3:(JE (Jz m) [⟨0,0x35,l.getD (l.length / 2) 0,m.n+1,0⟩]).fits:=(((Jg9 marks other _ _ _ _ (Nat.le_refl _)).trans hz2).fits hf);refine Jg (xs:= [.bp (0,s0) 0]) (_::srB s0 s3 s4 s5 s6 s7 T marks other) [] 9 rfl rfl rfl rfl Y1 (Jd5 s0 s1 _ m oi h0 ((JaE _ _).fits hz3)) Bf Pf rfl fun r h' hq=> ?_;obtain ⟨o2,nx2,nn2,rfl,h2,rfl⟩:=hq;refine Z ?_;refine Jg (xs:= [.bp (0,s0) 0,JaN [⟨0,0x35,l.getD (l.length / 2) 0,m.n+1,0⟩]]) (_::srB s0 s3 s4 s5 s6 s7 T marks other) [] 9 rfl rfl rfl rfl ⟨Rf,Jfu (fun k hk=> by match k,hk with | 0,_=> rfl),Tt⟩ (Jax s0 s1 _ _ o2 _ h2 Si hz3) Bf Pf rfl fun r h' hq=> ?_;obtain ⟨o3,nx3,nn3,rfl,h3,rfl⟩:=hq;refine Z ?_;refine Jg (xs:= [int (base+2 * (l.length / 2) - 2:Nat), .bp (6,s6) 0, .bp (3,s3) 0, .bp (5,s5) 0, .bp (4,s4) 0, .bp (7,s7) 0]) [_] [] 9 rfl rfl rfl rfl Y6 (ih (l.length / 2) Om (l.take (l.length / 2)) a base _ o3 nx3 hl1 Om Om Om hm (fun k hk=> ?_) h3 (hz2.fits hf)) Bf Pf rfl fun r h' hq=> ?_
    ·rw [hg k Om,List.append_assoc];simp only [List.getD_eq_getElem?_getD];rw [List.getElem?_append_left Om]
    obtain ⟨rfl,o4,nx4,nn4,h4,rfl⟩:=hq;refine Z ?_;refine Jg (xs:= [.bp (0,s0) 0,int (m.n+1:Nat)]) (_::srB s0 s3 s4 s5 s6 s7 T marks other) [] 9 rfl rfl rfl rfl Y2 (Je3 s0 s1 nx4 _ o4 _ h4 ((Jg9 marks other _ (l.drop (l.length / 2)) (a+l.length / 2) _ (Nat.le_refl _)).fits hf)) Bf Pf rfl fun r h' hq=> ?_;obtain ⟨o5,nx5,nn5,rfl,h5,rfl⟩:=hq;refine Z ?_;refine Jg (xs:= [int (base+(2 * (l.length / 2) - 1)+2 * (l.length - l.length / 2) - 2:Nat), .bp (6,s6) 0, .bp (3,s3) 0, .bp (5,s5) 0, .bp (4,s4) 0, .bp (7,s7) 0]) [_] [] 9 rfl rfl rfl rfl Y6 (ih (l.length - l.length / 2) Om (l.drop (l.length / 2)) (a+l.length / 2) (base+(2 * (l.length / 2) - 1)) _ o5 nx5 hl2 Om Om Om hm (fun k hk=> ?_) h5 hf) Bf Pf rfl fun r h' hq=> ?_
    ·rw [Nat.add_assoc,hg (2 * (l.length / 2) - 1+k) Om,List.append_assoc];simp only [List.getD_eq_getElem?_getD];rw [List.getElem?_append_right Om,ht,List.getElem?_append_left Om]
     congr 2
     omega
    obtain ⟨rfl,o6,nx6,nn6,h6,rfl⟩:=hq;refine Z ?_;exact Jt rfl ⟨.tup [],⟨srB s0 s3 s4 s5 s6 s7 T marks other++mkB s0 s1 _ o6,mkP _ o6,nx6,9⟩,Rf,Jr _ _ rfl (.cons _ Sf) Sf Bf Pf,rfl,o6,nx6,9,h6,rfl⟩
theorem JtZ (s0 s1 s3 s4 s5 s6 s7:Nat) (marks:List Nat) (other:Nat) (m:Mk) (oi:Option Nat) (nx:Nat) (h0:oi=none→m.l= []) (hf:(JE m [Jb3 other]).fits):
 ECall Tryz.prog 149 [int 0, .bp (6,s6) 0, .bp (3,s3) 0, .bp (5,s5) 0, .bp (4,s4) 0, .bp (7,s7) 0] ⟨srB s0 s3 s4 s5 s6 s7 [⟨true,0,-1,0,0⟩] marks other++mkB s0 s1 m oi,mkP m oi,nx,8⟩ (fun r h'=> r= .tup []∧SrQ (srB s0 s3 s4 s5 s6 s7 [⟨true,0,-1,0,0⟩] marks other) s0 s1 (JE m [Jb3 other]) h'):=by
 refine ECall.wk (Jo Tryz.func149 rfl rfl ?_)
 unfold srB
 refine Z ?_
 refine Jg (xs:= [.bp (0,s0) 0,JaN [Jb3 other]]) (_::srB s0 s3 s4 s5 s6 s7 _ marks other) [] 9 rfl rfl rfl rfl ⟨Rf,Jfu (fun k hk=> by match k,hk with | 0,_=> rfl),Tt⟩ (Jax s0 s1 _ m oi _ h0 Si hf) Bf Pf rfl fun r h' hq=> ?_
 obtain ⟨oi2,nx2,nn2,rfl,h2,rfl⟩:=hq
 refine Z ?_
 exact Jt rfl ⟨.tup [],⟨srB s0 s3 s4 s5 s6 s7 [⟨true,0,-1,0,0⟩] marks other++mkB s0 s1 _ oi2,mkP _ oi2,nx2,9⟩,Rf,Jr _ _ rfl (.cons _ Sf) Sf Bf Pf,rfl,oi2,nx2,9,h2,rfl⟩
theorem JkC (s0 s1 nx:Nat) (m:Mk) (oi:Option Nat) (l marks:List Nat) (other:Nat) (h0:oi=none→m.l= []) (hr:risesT (Jbn l)) (hl:l.length≤4096) (hm:marks.length=l.length) (hf:(JaA marks other l m).fits):
 ECall Tryz.prog 82 [.bp (0,s0) 0,JgL (Jbn l),JjA marks,int other] ⟨mkB s0 s1 m oi,mkP m oi,nx,3⟩ (MkQ s0 s1 (JaA marks other l m) (.tup [])):=by
 refine ECall.wk (Jo Tryz.func82 rfl rfl ?_)
 refine Z ?_
 refine Ja rfl rfl (Jou (Jbn l) (by rw [JcI];omega)) Y1 fun nx1=> ?_
 unfold JaA JhM at *
 rw [if_neg (by simpa using hr),if_neg (by rw [JcI];omega)]
 by_cases hl0:l= []
 ·subst hl0;rw [if_pos rfl] at hf⊢;rw [if_pos (show (Jbn []).length=0 from rfl)];refine Z ?_;refine Jg (xs:= [int 0, .bp (6,nx1) 0, .bp (3,nx) 0, .bp (5,nx+2) 0, .bp (4,nx+1) 0, .bp (7,nx1+1) 0]) [] [] 8 rfl rfl rfl rfl Y6 (JtZ s0 s1 nx (nx+1) (nx+2) nx1 (nx1+1) marks other m oi (nx1+2) h0 hf) Bf Pf rfl fun r h' hq=> ?_;obtain ⟨rfl,oi2,nx2,nn2,h2,rfl⟩:=hq;refine Z ?_;exact Jt rfl ⟨.tup [],⟨mkB s0 s1 _ oi2,mkP _ oi2,nx2,8⟩,Rf,Jr _ _ rfl (.cons _ (.cons _ (.cons _ (.cons _ (.cons _ Sf))))) Sf Bf Pf,oi2,nx2,8,rfl,h2,rfl⟩
 ·have hn:1≤l.length:=by have:=mt List.eq_nil_of_length_eq_zero hl0;omega
  have ht:=JfS l.length (Jbn l) 0 0 (JcI l) hn;rw [if_neg hl0] at hf⊢;rw [if_neg (by rw [JcI];omega)];refine Z ?_;refine Jg (xs:= [int (0+2 * l.length - 2:Nat), .bp (6,nx1) 0, .bp (3,nx) 0, .bp (5,nx+2) 0, .bp (4,nx+1) 0, .bp (7,nx1+1) 0]) [] [] 8 rfl rfl rfl rfl ⟨Jf ?_,Y5⟩ (JwJ s0 s1 nx (nx+1) (nx+2) nx1 (nx1+1) (tre (Jbn l) 0 0) marks other Om l.length l 0 0 m oi (nx1+2) rfl hn Om Om Om (fun k hk=> by rw [Nat.zero_add]) h0 hf) Bf Pf rfl fun r h' hq=> ?_
  ·rw [ht,Jq Om Om];omega
  obtain ⟨rfl,oi2,nx2,nn2,h2,rfl⟩:=hq;refine Z ?_;exact Jt rfl ⟨.tup [],⟨mkB s0 s1 _ oi2,mkP _ oi2,nx2,8⟩,Rf,Jr _ _ rfl (.cons _ (.cons _ (.cons _ (.cons _ (.cons _ Sf))))) Sf Bf Pf,oi2,nx2,8,rfl,h2,rfl⟩
theorem JjB {w:Bool} {next:Nat}:∀(a b:List Cnd) (m:Mk),J7 w next m (a++b)=J7 w next (J7 w next m a) b
 | [],b,m=> rfl
 | c::a,b,m=> JjB a b _
theorem Jt0 {w:Bool} {next:Nat} {m:Mk} {cs:List Cnd} {i:Nat} (h:i < cs.length):J7 w next m (cs.take (i+1))=J3 (Jdw (Jz (J7 w next m (cs.take i))) (cs.getD i cnd0) w ((J7 w next m (cs.take i)).n+1) next) ((J7 w next m (cs.take i)).n+1):=by
 rw [JaP cnd0 h,JjB];rfl
theorem Jqg {w:Bool} {next:Nat} {m:Mk} {cs:List Cnd} (i:Nat):(J7 w next m (cs.take i)).le (J7 w next m cs):=by
 have h:=JjB (w:=w) (next:=next) (cs.take i) (cs.drop i) m
 rw [List.take_append_drop] at h
 rw [h]
 exact Ji6 _ _ _ _
def cOk (c:Cnd):Prop:=(c.op=1∨c.op=2∨c.op=3∨c.op=6∨c.op=7)∧(0≤c.arg∧c.arg≤5)∧c.ok
theorem JwK {w:Bool} {m:Mk} {l:List PRul} {i:Nat} (h:i < l.length):(l.take (i+1)).foldl (JaV w) m=JaV w ((l.take i).foldl (JaV w) m) (l.getD i JI):=by
 rw [JaP JI h,List.foldl_append];rfl
theorem JsM {w:Bool} {m:Mk} {l:List PRul} (i:Nat):((l.take i).foldl (JaV w) m).le (l.foldl (JaV w) m):=by
 have h:=List.foldl_append (f:=JaV w) (b:=m) (l:=l.take i) (l':=l.drop i)
 rw [List.take_append_drop] at h
 rw [h]
 exact Jiu (Jut w) _ _
theorem JkD {α:Type} {d:α} {l:List α} {i:Nat} (h:i < l.length):l.getD i d∈l:=by simp [List.getD,h]
theorem JCN (m:Mk) (c:Cnd) (w:Bool) (y n:Nat):(Jdw m c w y n).b=m.b:=by
 unfold Jdw Jn3 Jco JE
 repeat' split
 all_goals rfl
theorem Jml (w:Bool) (n:Nat):∀(cs:List Cnd) (m:Mk),(J7 w n m cs).b=m.b
 | [],m=> rfl
 | c::cs,m=> (Jml w n cs _).trans (JCN (Jz m) c w _ _)
theorem Jhd {m:Mk} {c:Nat} (h:∀p∈m.b,p.2≠0):∀p∈(JB m c).2.b,p.2≠0:=by
 unfold JB
 cases Jcy m.b c with
 | some k=> exact h
 | none=>
   intro p hp;rcases List.mem_append.1 hp with hp | hp
   ·exact h p hp
   ·obtain rfl:=List.mem_singleton.1 hp;exact Nat.succ_ne_zero _
theorem Jt1 (s0 s1 nx:Nat) (m:Mk) (oi:Option Nat) (l:List PRul) (w:Bool) (other:Nat) (h0:oi=none→m.l= []) (hb:∀p∈m.b,p.2≠0) (hl:l.length≤1000000) (hc:∀r∈l,r.conds.length≤1000000∧∀c∈r.conds,cOk c) (hf:(Jd7 w other m l).fits):
 ECall Tryz.prog 142 [.bp (0,s0) 0,J6 l,Ji w,int other] ⟨mkB s0 s1 m oi,mkP m oi,nx,3⟩ (MkQ s0 s1 (Jd7 w other m l) (.tup [])):=by
 have hfold:(l.foldl (JaV w) m).fits:=(JaE _ _).fits hf
 refine ECall.wk (Jo Tryz.func142 rfl rfl ?_)
 refine Z ?_
 refine Js (fun y:Nat×Option Nat×Nat=> mk 58 [(0, .bp (0,s0) 0),(2,Ji w),(3,int other),(14,J6 l),(15,int l.length),(16,int y.1)] ⟨mkB s0 s1 ((l.take y.1).foldl (JaV w) m) y.2.1,mkP ((l.take y.1).foldl (JaV w) m) y.2.1,y.2.2,3⟩) (fun y=> y.1≤l.length∧(y.2.1=none→((l.take y.1).foldl (JaV w) m).l= [])∧∀p∈((l.take y.1).foldl (JaV w) m).b,p.2≠0) (fun y=> l.length - y.1) ?_ ?_
 ·exact ⟨(0,oi,nx),⟨Nat.zero_le _,h0,hb⟩,Et rfl rfl Bf Pf Y6⟩
 ·rintro ⟨i,oj,nx2⟩ ⟨k1,k2,k3⟩;dsimp only at k1 k2 k3;refine Z ?_;intro c g;cases c
  ·have g:=Jw g;dsimp only at g;obtain rfl:i=l.length:=by omega
   have hR:JE ((l.take l.length).foldl (JaV w) m) [Jb3 other]=Jd7 w other m l:=by unfold Jd7;rw [List.take_length]
   refine Z ?_;refine Jg (xs:= [.bp (0,s0) 0,JaN [Jb3 other]]) [] [] 3 rfl rfl rfl rfl ⟨Rf,Jfu (fun k hk=> by match k,hk with | 0,_=> rfl),Tt⟩ (Jax s0 s1 nx2 _ oj _ k2 Si (by rw [hR];exact hf)) Bf Pf rfl fun r h' hq=> ?_;rw [hR] at hq;obtain ⟨oi2,nx3,nn3,rfl,h2,rfl⟩:=hq;refine Z ?_;exact Jt rfl ⟨.tup [],⟨mkB s0 s1 _ oi2,mkP _ oi2,nx3,3⟩,Rf,HLe.refl _,oi2,nx3,3,rfl,h2,rfl⟩
  ·have g:=Ju g;dsimp only at g;have hi:i < l.length:=by omega
   have hm:l.getD i JI∈l:=by simp [List.getD,hi]
   obtain ⟨c1,c2⟩:=hc _ hm;have hsn:=JwK (w:=w) (m:=m) hi;have hfr:(JaV w ((l.take i).foldl (JaV w) m) (l.getD i JI)).fits:=by rw [← hsn];exact (JsM (i+1)).fits hfold
   generalize hM : (l.take i).foldl (JaV w) m = M at *
   unfold JaV at hfr;dsimp only at hfr;refine Z ?_;refine ⟨Bd, ?_⟩;refine Z ?_;have hz:(J7 w (M.n+1) (Jz M) (l.getD i JI).conds).le (J3 (JE (JB (J7 w (M.n+1) (Jz M) (l.getD i JI).conds) (l.getD i JI).code).2 [Jb3 (JB (J7 w (M.n+1) (Jz M) (l.getD i JI).conds) (l.getD i JI).code).1]) (M.n+1)):=((JfX _ _).trans (JaE _ _)).trans (JcY _ _);refine Jg (xs:= [.bp (0,s0) 0]) [((3,nx2), .c [Jaz (l.getD i JI).conds,u32 (l.getD i JI).code])] [] 4 rfl rfl rfl rfl Y1 (Jd5 s0 s1 (nx2+1) M oj k2 ((Ji6 _ _ _ _).fits (hz.fits hfr))) Bf Pf rfl fun r h' hq=> ?_;obtain ⟨ok,nx3,nn3,rfl,h2,rfl⟩:=hq;refine Z ?_;refine Js (fun y:Nat×Option Nat×Nat=> mk 58 [(0, .bp (0,s0) 0),(2,Ji w),(3,int other),(9, .bp (3,nx2) 0),(10,int (M.n+1:Nat)),(14,J6 l),(15,int l.length),(16,int i),(23,Jaz (l.getD i JI).conds),(24,int (l.getD i JI).conds.length),(25,int y.1)] ⟨((3,nx2), .c [Jaz (l.getD i JI).conds,u32 (l.getD i JI).code])::mkB s0 s1 (J7 w (M.n+1) (Jz M) ((l.getD i JI).conds.take y.1)) y.2.1,mkP (J7 w (M.n+1) (Jz M) ((l.getD i JI).conds.take y.1)) y.2.1,y.2.2,4⟩) (fun y=> y.1≤(l.getD i JI).conds.length∧(y.2.1=none→(J7 w (M.n+1) (Jz M) ((l.getD i JI).conds.take y.1)).l= [])) (fun y=> (l.getD i JI).conds.length - y.1) ?_ ?_
   ·exact ⟨(0,ok,nx3),⟨Nat.zero_le _,h2⟩,Et rfl rfl Bf Pf ⟨Rf,Rf,Rf,Rf,Rf,Rf,Rf,Rf,Rf,Rf,Rf,Tt⟩⟩
   ·rintro ⟨j,o4,nx4⟩ ⟨q1,q2⟩;dsimp only at q1 q2;refine Z ?_;intro c g2;cases c
    ·have g2:=Jw g2;dsimp only at g2;have hN:J7 w (M.n+1) (Jz M) ((l.getD i JI).conds.take j)=J7 w (M.n+1) (Jz M) (l.getD i JI).conds:=(by rw [List.take_of_length_le Om]);have hbN:∀p∈(J7 w (M.n+1) (Jz M) ((l.getD i JI).conds.take j)).b,p.2≠0:=(by rw [Jml];exact k3);rw [← hN] at hfr;have hru:JaV w M (l.getD i JI)=J3 (JE (JB (J7 w (M.n+1) (Jz M) ((l.getD i JI).conds.take j)) (l.getD i JI).code).2 [Jb3 (JB (J7 w (M.n+1) (Jz M) ((l.getD i JI).conds.take j)) (l.getD i JI).code).1]) (M.n+1):=(by rw [hN];rfl);have hb9:∀p∈(JaV w M (l.getD i JI)).b,p.2≠0:=(by rw [hru];exact Jhd (c:=(l.getD i JI).code) hbN);generalize J7 w (M.n + 1) (Jz M) ((l.getD i JI).conds.take j) = N at *
     refine Z ?_;refine Jg (xs:= [.bp (0,s0) 0,u32 (l.getD i JI).code]) [((3,nx2), .c [Jaz (l.getD i JI).conds,u32 (l.getD i JI).code])] [] 4 rfl rfl rfl rfl Y2 (Je4 s0 s1 nx4 N o4 _ q2 hbN (((JaE _ _).trans (JcY _ _)).fits hfr)) Bf Pf rfl fun r h' hq=> ?_;obtain ⟨o5,nx5,nn5,rfl,h5,rfl⟩:=hq;refine Z ?_;refine Jg (xs:= [.bp (0,s0) 0,JaN [Jb3 (JB N (l.getD i JI).code).1]]) [_] [] 4 rfl rfl rfl rfl ⟨Rf,Jfu (fun k hk=> by match k,hk with | 0,_=> rfl),Tt⟩ (Jax s0 s1 nx5 _ o5 _ h5 Si ((JcY _ _).fits hfr)) Bf Pf rfl fun r h' hq=> ?_;obtain ⟨o6,nx6,nn6,rfl,h6,rfl⟩:=hq;refine Z ?_;refine Jg (xs:= [.bp (0,s0) 0,int (M.n+1:Nat)]) [_] [] 4 rfl rfl rfl rfl Y2 (Je3 s0 s1 nx6 _ o6 _ h6 hfr) Bf Pf rfl fun r h' hq=> ?_;rw [← hru] at hq;obtain ⟨o7,nx7,nn7,rfl,h7,rfl⟩:=hq;refine Z ?_;refine back (i+1,o7,nx7) ⟨Dm, ?_, ?_⟩ Dm ?_
     ·dsimp only;rw [hsn];exact h7
     ·dsimp only;rw [hsn];exact hb9
     ·dsimp only;rw [hsn];exact Je _ _ rfl rfl (.cons _ Sf) Sf Bf Pf ⟨Rf,Rf,Rf,Rf,Rf,Jf (Jx Om),Tt⟩
    ·have g2:=Ju g2;dsimp only at g2;have hj:j < (l.getD i JI).conds.length:=(by omega);have hjm:(l.getD i JI).conds.getD j cnd0∈(l.getD i JI).conds:=JkD hj;obtain ⟨d1,d2,d3⟩:=c2 _ hjm;have hsj:=Jt0 (w:=w) (next:=M.n+1) (m:=Jz M) hj;have hfj:(J3 (Jdw (Jz (J7 w (M.n+1) (Jz M) ((l.getD i JI).conds.take j))) ((l.getD i JI).conds.getD j cnd0) w ((J7 w (M.n+1) (Jz M) ((l.getD i JI).conds.take j)).n+1) (M.n+1)) ((J7 w (M.n+1) (Jz M) ((l.getD i JI).conds.take j)).n+1)).fits:=(by rw [← hsj];exact (Jqg (j+1)).fits (hz.fits hfr));generalize hN : J7 w (M.n + 1) (Jz M) ((l.getD i JI).conds.take j) = N at *
     refine Z ?_;refine ⟨Bd, ?_⟩;refine Z ?_;refine Jg (xs:= [.bp (0,s0) 0]) [((4,nx4), .c [int ((l.getD i JI).conds.getD j cnd0).arg,int ((l.getD i JI).conds.getD j cnd0).op,u64 ((l.getD i JI).conds.getD j cnd0).mask,u64 ((l.getD i JI).conds.getD j cnd0).value]),((3,nx2), .c [Jaz (l.getD i JI).conds,u32 (l.getD i JI).code])] [] 5 rfl rfl rfl rfl Y1 (Jd5 s0 s1 (nx4+1) N o4 q2 (((Jxm _ _ _).trans (JcY _ _)).fits hfj)) Bf Pf rfl fun r h' hq=> ?_;obtain ⟨o5,nx5,nn5,rfl,h5,rfl⟩:=hq;refine Z ?_;refine Jg (xs:= [.bp (0,s0) 0,JZ ((l.getD i JI).conds.getD j cnd0),Ji w,int (N.n+1:Nat),int (M.n+1:Nat)]) [_,_] [] 5 rfl rfl rfl rfl Y5 (JwG s0 s1 nx5 (Jz N) o5 _ w _ _ h5 d1 d2 d3 ((JcY _ _).fits hfj)) Bf Pf rfl fun r h' hq=> ?_;obtain ⟨o6,nx6,nn6,rfl,h6,rfl⟩:=hq;refine Z ?_;refine Jg (xs:= [.bp (0,s0) 0,int (N.n+1:Nat)]) [_,_] [] 5 rfl rfl rfl rfl Y2 (Je3 s0 s1 nx6 _ o6 _ h6 hfj) Bf Pf rfl fun r h' hq=> ?_;rw [← hsj] at hq;obtain ⟨o7,nx7,nn7,rfl,h7,rfl⟩:=hq;refine Z ?_;exact back (j+1,o7,nx7) ⟨Dm,h7⟩ Dm (Je _ _ rfl rfl (.cons _ Sf) Sf Bf Pf ⟨Rf,Rf,Rf,Rf,Rf,Rf,Rf,Rf,Rf,Rf,Jf (Jx Om),Tt⟩)
theorem Jy3 {ops:Array Oper} {B:List (Vl.Id×Own)} {o:Oper} {E:Env} {fo:Operand} {args:Array Operand} {tys:Array TypeId} {f:FuncId} {first caps xs:List AV} {h1:Heap} {Q:AV→Heap→Prop} {bx1:List (Vl.Id×Own)} {pm1:List (Vl.Id×Nat)}
 (rb:List (Vl.Id×Own)) (rp:List (Vl.Id×Nat)) (nn:Nat) (hg:o.guard=none) (ho:o.op= .call { callee:= .value fo,args:=args,argTypes:=tys}) (hf:E.ev fo= .fn (.func f) first caps) (hbx:E.h.bx=rb++bx1) (hpm:E.h.pm=rp++pm1)
 (hl:LeL (first++args.toList.map E.ev++caps) xs) (hc:ECall Tryz.prog f xs h1 Q) (hbl:BxLe bx1 h1.bx) (hpe:PmEq pm1 h1.pm) (hn:h1.nx=E.h.nx) (hB:∀r h',Q r h'→HB B (rb++h'.bx)):
 Eff Tryz.prog ops B o E fun r h'=> ∃h2,Q r h2∧h'=⟨rb++h2.bx,rp++h2.pm,h2.nx,nn⟩:=by
 have h2:ECall Tryz.prog f xs ⟨bx1,pm1,h1.nx,h1.nn⟩ Q:=hc.tell hbl hpe rfl
 have h3:=(ECall.frame (h:=E.h) h2 rb rp (by rw [hbx];exact List.perm_append_comm) (by rw [hpm];exact List.perm_append_comm) hn).args hl
 refine JlP hg ho hf h3 fun r h' hq=> ?_
 obtain ⟨h1',q1,rfl⟩:=hq
 exact ⟨r,⟨rb++h1'.bx,rp++h1'.pm,h1'.nx,nn⟩,Rf,⟨List.perm_append_comm.map _,List.perm_append_comm.map _,rfl⟩,⟨h1',q1,rfl⟩,hB r h1' q1⟩
theorem JpR {E:Env} {n:Nat} {bx:List (Vl.Id×Own)} {pm:List (Vl.Id×Nat)} {nx nn:Nat} {L:List (Nat×AV)} (bx'' bx':List (Vl.Id×Own)) (pm'' pm':List (Vl.Id×Nat)) (hn:E.n=n) (hx:E.h.nx=nx) (h0:bx''.Perm E.h.bx) (g0:pm''.Perm E.h.pm) (hb:bx'.Sublist bx'') (hp:pm'.Sublist pm'')
 (eb:BxLe bx' bx) (ep:PmEq pm' pm) (hL:LeT E.t L):ELe E (mk n L ⟨bx,pm,nx,nn⟩ E.df):=
 (JdX (E:=E) (h':=⟨bx'',pm'',E.h.nx,E.h.nn⟩) ⟨h0.map _,g0.map _,rfl⟩).trans (Je (E:= { E with h:=⟨bx'',pm'',E.h.nx,E.h.nn⟩}) bx' pm' hn hx hb hp eb ep hL)
theorem JlF {o:Oper} {E:Env} {K:Env→Prop} {Kp:AV→Env→Prop} {s x:Operand} {t e:TypeId} {sz n szx c:Nat} {f f':Nat→AV} {oi:Option Vl.Id} {p:Vl.Id×Nat} {pm:List (Vl.Id×Nat)}
 (ho:o.op= .call { callee:= .builtin .append,args:= #[s,x],argTypes:= #[t,t]}) (hs:E.ev s= .os sz n f oi) (hx:E.ev x= .sl szx 1 f'∨∃oj,E.ev x= .os szx 1 f' oj)
 (ht:Tryz.prog.underlying t=some (.slice e)) (hgr:JbK Tryz.prog e=true) (hc:Tryz.prog.cellsOf e=c) (hsz:(n=0∧oi=none)∨sz=c) (hszx:szx=c) (hpm:E.h.pm=p::(Jam oi (n * c)++pm)) (hne:∀i,oi=some i→Nat.beq p.1.1 i.1=false) (hone:JcP 1 f')
 (hroom:(n+1) * Tryz.prog.bytesOf e≤140737488355328) (hlen:n+1≤9223372036854775807)
 (hk:K (({ E with h:=⟨E.h.bx,((E.h.nn,E.h.nx),(n+1) * c)::p::pm,E.h.nx+1,E.h.nn+1⟩}:Env).set o.dst (.os c (n+1) (JcO n f f') (some (E.h.nn,E.h.nx))))):AOp Tryz.prog o E K Kp:=by
 subst hc
 have hp1:∀i,oi=some i→Jbi i.1 E.h.pm=some (i.2,n * Tryz.prog.cellsOf e):=fun i hi=> by
  subst hi;have:=hne i rfl;rw [hpm];show Jbi i.1 (p::(i,_)::pm)=_;simp [Jbi,this]
 have hd:Jfi oi E.h.pm=p::pm:=by
  rw [hpm];cases oi with
  | none=> rfl
  | some i=>
    have:=hne i rfl;show JbQ i.1 (p::(i,_)::pm)=_;simp [JbQ,this]
 refine AOp.kp (JbF ho hs hx ht hgr hsz (.inr hszx) hp1 hone (fun _=> hroom) (fun _=> hlen) (fun h=> by cases h) fun _=> ?_)
 unfold Heap.grow
 rw [hd]
 exact hk
theorem Jt2 {ops:Array Oper} {B:List (Vl.Id×Own)} {o:Oper} {E:Env} {s x:Operand} {t e:TypeId} {sz n szx c:Nat} {f f':Nat→AV} {oi:Option Vl.Id} {p:Vl.Id×Nat} {pm:List (Vl.Id×Nat)} (hB:HB B E.h.bx) (hg:o.guard=none)
 (ho:o.op= .call { callee:= .builtin .append,args:= #[s,x],argTypes:= #[t,t]}) (hs:E.ev s= .os sz n f oi) (hx:E.ev x= .sl szx 1 f'∨∃oj,E.ev x= .os szx 1 f' oj)
 (ht:Tryz.prog.underlying t=some (.slice e)) (hgr:JbK Tryz.prog e=true) (hc:Tryz.prog.cellsOf e=c) (hsz:(n=0∧oi=none)∨sz=c) (hszx:szx=c) (hpm:E.h.pm=p::(Jam oi (n * c)++pm)) (hne:∀i,oi=some i→Nat.beq p.1.1 i.1=false) (hone:JcP 1 f')
 (hroom:(n+1) * Tryz.prog.bytesOf e≤140737488355328) (hlen:n+1≤9223372036854775807):
 Eff Tryz.prog ops B o E fun r h'=> r= .os c (n+1) (JcO n f f') (some (E.h.nn,E.h.nx))∧h'=⟨E.h.bx,((E.h.nn,E.h.nx),(n+1) * c)::p::pm,E.h.nx+1,E.h.nn+1⟩:=by
 refine ⟨hg,fun E' hh htt=> ?_⟩
 have hev:=Jcm htt
 have es:E'.ev s=E.ev s:=hev s (by rw [ho];simp [Op.operands,Call.operands])
 have ex:E'.ev x=E.ev x:=hev x (by rw [ho];simp [Op.operands,Call.operands])
 refine JlF ho (es.trans hs) (by rw [ex];exact hx) ht hgr hc hsz hszx (by rw [hh];exact hpm) hne hone hroom hlen ?_
 exact ⟨_,_,⟨by rw [hh],by rw [hh]⟩,by rw [hh];exact hB,rfl⟩
def Jmm (l:List Nat):Nat→AV:=fun k=> u32 (l.getD k 0:Nat)
def Jmn (l:List Nat):Nat→AV:=fun k=> int (l.getD k 0:Nat)
theorem Jva {n:Nat} {l:List Nat} {o:Option Vl.Id} (h:n=l.length):AVle (.os 1 n (Jmm l) o) (JgL (Jbn l)):=by
 subst h
 unfold JgL JK
 rw [JcI]
 exact AVle.os_sl.trans (AVle.sl_fun fun k _=> by rw [Jgb];rfl)
theorem Jvb {n:Nat} {l:List Nat} {o:Option Vl.Id} (h:n=l.length):AVle (.os 1 n (Jmn l) o) (JjA l):=by
 subst h;exact AVle.os_sl
theorem JsN {l:List Nat} {n x:Nat} {f':Nat→AV} {i j:Vl.Id} (hn:n=l.length) (hf:f' 0=u32 x) (h:i.2=j.2):AVle (.os 1 (n+1) (JcO n (Jmm l) f') (some i)) (.os 1 (n+1) (Jmm (l++ [x])) (some j)):=by
 subst hn
 have:=Jf6 (e:=fun n:Nat=> u32 n) (d:=0) (sz:=1) (l:=l) (x:=x) (f':=f') hf h
 rwa [List.length_append] at this
theorem JsO {l:List Nat} {n x:Nat} {f':Nat→AV} {i j:Vl.Id} (hn:n=l.length) (hf:f' 0=int x) (h:i.2=j.2):AVle (.os 1 (n+1) (JcO n (Jmn l) f') (some i)) (.os 1 (n+1) (Jmn (l++ [x])) (some j)):=by
 subst hn
 have:=Jf6 (e:=fun n:Nat=> int n) (d:=0) (sz:=1) (l:=l) (x:=x) (f':=f') hf h
 rwa [List.length_append] at this
theorem JjC:∀(a b:List PSub) (m:Mk),Jad m (a++b)=((Jad m a).1++(Jad (Jad m a).2 b).1,(Jad (Jad m a).2 b).2)
 | [],b,m=> rfl
 | s::a,b,m=> by
   show ((JB m s.code).1::(Jad (JB m s.code).2 (a++b)).1,(Jad (JB m s.code).2 (a++b)).2)=_;rw [JjC a b];rfl
theorem Jt3 {m:Mk} {l:List PSub} {i:Nat} (h:i < l.length):Jad m (l.take (i+1))=((Jad m (l.take i)).1++ [(JB (Jad m (l.take i)).2 (l.getD i sub0).code).1],(JB (Jad m (l.take i)).2 (l.getD i sub0).code).2):=by
 rw [JaP sub0 h,JjC];rfl
theorem Jov {m:Mk} {l:List PSub} (i:Nat):(Jad m (l.take i)).2.le (Jad m l).2:=by
 have h:=JjC (l.take i) (l.drop i) m
 rw [List.take_append_drop] at h
 rw [h]
 exact JhU _ _
theorem JwL:Tryz.prog.cellsOf 28=1:=by kernel_rfl
theorem JD2:Tryz.prog.bytesOf 28=4:=by kernel_rfl
theorem JwM:Tryz.prog.cellsOf 3=1:=by kernel_rfl
theorem JD3:Tryz.prog.bytesOf 3=8:=by kernel_rfl
theorem JnE (s0 s1 nx:Nat) (m:Mk) (oi:Option Nat) (l:List PSub) (other:Nat) (h0:oi=none→m.l= []) (hb:∀p∈m.b,p.2≠0) (hr:risesT (Jbn (l.map (·.num)))) (hl:l.length≤4096) (hf:(Jfc other m l).fits):
 ECall Tryz.prog 144 [.bp (0,s0) 0,JK 2 JhE sub0 l,int other] ⟨mkB s0 s1 m oi,mkP m oi,nx,3⟩ (MkQ s0 s1 (Jfc other m l) (.tup [])):=by
 have hfs:(Jad (JE m [⟨0,0x20,16,0,0⟩]) l).2.fits:=(JhT _ _ _ _).fits hf
 refine ECall.wk (Jo Tryz.func144 rfl rfl ?_)
 refine Z ?_
 refine Ja rfl rfl (JpP 0 Dc) Y2 fun nx1=> ?_
 refine Z ?_
 refine Jg (xs:= [.bp (0,s0) 0,JaN [⟨0,0x20,16,0,0⟩]]) [] [] 3 rfl rfl rfl rfl ⟨Rf,Jfu (fun k hk=> by match k,hk with | 0,_=> rfl),Tt⟩ (Jax s0 s1 nx1 m oi _ h0 Si ((JhU _ _).fits hfs)) Bf Pf rfl fun r h' hq=> ?_
 obtain ⟨oi2,nx2,nn2,rfl,h2,rfl⟩:=hq
 unfold Jfc at hf⊢
 dsimp only at hf⊢
 have hb1:∀p∈(JE m [⟨0,0x20,16,0,0⟩]).b,p.2≠0:=hb
 generalize JE m [(⟨0, 0x20, 16, 0, 0⟩ : Itm)] = M1 at *
 refine Z ?_
 refine Js (fun y:Nat×Option Nat×Option Nat×Option Nat×Nat=> mk 46 [(0, .bp (0,s0) 0),(2,int other),(8, .os 1 y.1 (Jmm ((l.take y.1).map (·.num))) (nmN 3 y.2.1)),(9, .os 1 y.1 (Jmn (Jad M1 (l.take y.1)).1) (nmN 4 y.2.2.1)),(22,JK 2 JhE sub0 l),(23,int l.length),(24,int y.1)] ⟨mkB s0 s1 (Jad M1 (l.take y.1)).2 y.2.2.2.1,Jam (nmN 3 y.2.1) (y.1 * 1)++(Jam (nmN 4 y.2.2.1) (y.1 * 1)++mkP (Jad M1 (l.take y.1)).2 y.2.2.2.1),y.2.2.2.2,5⟩) (fun y=> y.1≤l.length∧(y.2.2.2.1=none→(Jad M1 (l.take y.1)).2.l= [])∧∀p∈(Jad M1 (l.take y.1)).2.b,p.2≠0) (fun y=> l.length - y.1) ?_ ?_
 ·exact ⟨(0,none,none,oi2,nx2),⟨Nat.zero_le _,h2,hb1⟩,Et rfl rfl Bf Pf ⟨Rf,Rf,AVle.os_nil,AVle.os_nil,Y3⟩⟩
 ·rintro ⟨i,oa,ob,o4,nx3⟩ ⟨k1,k2,k3⟩;dsimp only at k1 k2 k3;refine Z ?_;intro c g;cases c
  ·have g:=Jw g;dsimp only at g;obtain rfl:i=l.length:=by omega
   rw [List.take_length] at *
   refine Z ?_;refine Jg (xs:= [.bp (0,s0) 0,JgL (Jbn (l.map (·.num))),JjA (Jad M1 l).1,int other]) [] (Jam (nmN 3 oa) (l.length * 1)++Jam (nmN 4 ob) (l.length * 1)) 5 rfl rfl rfl (List.append_assoc _ _ _).symm ⟨Rf,Jva (by rw [List.length_map]),Jvb (JfL _ _).symm,Y1⟩ (JkC s0 s1 nx3 _ o4 _ _ _ k2 hr (by rw [List.length_map];exact hl) (by rw [JfL,List.length_map]) hf) Bf Pf rfl fun r h' hq=> ?_;obtain ⟨o5,nx4,nn4,rfl,h5,rfl⟩:=hq;refine Z ?_;exact Jt rfl ⟨.tup [],⟨mkB s0 s1 _ o5,mkP _ o5,nx4,5⟩,Rf,Jr _ _ rfl Sf (List.sublist_append_right _ _) Bf Pf,o5,nx4,5,rfl,h5,rfl⟩
  ·have g:=Ju g;dsimp only at g;have hi:i < l.length:=by omega
   have hsn:=Jt3 (m:=M1) hi;have hfg:(JB (Jad M1 (l.take i)).2 (l.getD i sub0).code).2.fits:=by
    have:=(Jov (i+1)).fits hfs
    rwa [hsn] at this
   have hlen:=JfL (l.take i) M1;rw [List.length_take,Nat.min_eq_left k1] at hlen;have hnt:(l.take (i+1)).map (·.num)=(l.take i).map (·.num)++ [(l.getD i sub0).num]:=by rw [JaP sub0 hi,List.map_append];rfl
   have hnl:i=((l.take i).map (·.num)).length:=by rw [List.length_map,List.length_take];omega
   generalize hG : Jad M1 (l.take i) = G at *
   generalize hN : (l.take i).map (·.num) = N at *
   refine Z ?_;refine ⟨Bd, ?_⟩;refine Z ?_;refine Jav 12 [((5,nx3), .c [u32 (l.getD i sub0).num,u32 (l.getD i sub0).code])] (Ef [4,9,11]) (fun _=> false) [0,1,2,3,5,6,7,8,4,9,10,11] Kr Kr (HB.one rfl) ?_;refine Z ?_;refine ⟨_,JbB (e:=28) (c:=1) (n:=i) (oi:=nmN 3 oa) (sz:=1) (f:=Jmm N) (HB.one rfl) rfl rfl rfl (.inr ⟨_,rfl⟩) Kr Kr JwL (.inr rfl) JwL rfl (JM rfl) (by rw [JD2];omega) Om,fun r h' hr=> ?_⟩;obtain ⟨rfl,rfl⟩:=hr;refine Z ?_;refine ⟨_,Jy3 (xs:= [.bp (0,s0) 0,u32 (l.getD i sub0).code]) [_] (_::Jam (nmN 4 ob) (i * 1)) 7 rfl rfl rfl rfl rfl Y2 (Je4 s0 s1 (nx3+1+1) G.2 o4 _ k2 k3 hfg) Bf Pf rfl (fun _ _ _=> HB.one rfl),fun r h' hr=> ?_⟩;obtain ⟨h2',⟨o5,nx5,nn5,rfl,h5,rfl⟩,rfl⟩:=hr;refine Z ?_;refine ⟨_,Jt2 (e:=3) (c:=1) (n:=i) (oi:=nmN 4 ob) (sz:=1) (f:=Jmn G.1) (HB.one rfl) rfl rfl rfl (.inr ⟨_,rfl⟩) Kr Kr JwM (.inr rfl) JwM rfl (fun _ h=> by cases ob with | none=> cases h | some=> cases h;rfl) (JM rfl) (by rw [JD3];omega) Om,fun r h' hr=> ?_⟩;obtain ⟨rfl,rfl⟩:=hr;refine Z ?_;refine back (i+1,some (nx3+1),some nx5,o5,nx5+1) ⟨Dm, ?_, ?_⟩ Dm ?_
   ·dsimp only;rw [hsn];exact h5
   ·dsimp only;rw [hsn];exact Jhd k3
   ·dsimp only;rw [hsn,hnt];exact JpR (_::mkB s0 s1 _ o5) (mkB s0 s1 _ o5) (_::_::mkP _ o5) (_::_::mkP _ o5) rfl rfl (List.Perm.refl _) (List.Perm.swap _ _ _) (.cons _ Sf) Sf Bf ⟨rfl,rfl,rfl,rfl,Pf⟩ ⟨Rf,Rf,JsN hnl rfl rfl,JsO hlen.symm rfl rfl,Rf,Rf,Jf (Jx Om),Tt⟩
end Go.Proofs.W
