import Derived.Test.YtmipfkagmedcnaaGreatDoorPF
import Derived.Test.YtmipfkagmedcnaaGreatDoorPD
import Derived.Test.YtmipfkagmedcnaaGreatDoorPE
import Derived.Test.YtmipfkagmedcnaaGreatDoorPC
import Derived.Sort.Walk0
set_option linter.unusedVariables false
set_option linter.unusedSimpArgs false
namespace Go.Proofs.W
open Go.Vl
set_option maxRecDepth 100000
def ent0:PEnt:=⟨0, []⟩
def sub0:PSub:=⟨0,0⟩
def Jaf (e:PEnt):AV:= .ag [u32 (e.num:Nat),Jx e.rules]
def JdT (s:PSub):AV:= .ag [u32 (s.num:Nat),u32 (s.code:Nat)]
def Jcx:Plan:=⟨0,false,fun _=> [],fun _=> []⟩
def JfO (P:Plan):AV:= .ag [u32 (P.dflt:Nat),Jb P.x32,JN 2 Jaf ent0 (P.ents 0),JN 2 Jaf ent0 (P.ents 1),JN 2 Jaf ent0 (P.ents 2),JN 2 Jaf ent0 (P.ents 3),JN 2 Jaf ent0 (P.ents 4),JN 2 JdT sub0 (P.subs 0),JN 2 JdT sub0 (P.subs 1)]
def JlH (p:Pol) (l:List TRow):AV:=if (JR p l).2≠0 then .tup [JfO Jcx,int (JR p l).1,int (JR p l).2] else match p.rules.findIdx? (Jca l) with
 | some i=> .tup [JfO Jcx,int i,int 17]
 | none=> .tup [JfO (Jal p l),int 0,int 0]
def J8:List AV:= [u32 0,Jb false, .os 0 0 (fun _=> .any) none, .os 0 0 (fun _=> .any) none, .os 0 0 (fun _=> .any) none, .os 0 0 (fun _=> .any) none, .os 0 0 (fun _=> .any) none, .os 0 0 (fun _=> .any) none, .os 0 0 (fun _=> .any) none]
theorem Jo6:AVle (.ag [u32 0,Jb false, .os 0 0 (fun _=> .any) none, .os 0 0 (fun _=> .any) none, .os 0 0 (fun _=> .any) none, .os 0 0 (fun _=> .any) none, .os 0 0 (fun _=> .any) none, .os 0 0 (fun _=> .any) none, .os 0 0 (fun _=> .any) none]) (JfO Jcx):=
 AVle.ags ⟨Rf,Rf,AVle.os_sl0,AVle.os_sl0,AVle.os_sl0,AVle.os_sl0,AVle.os_sl0,AVle.os_sl0,AVle.os_sl0,trivial⟩
def LpT (nx nx4:Nat) (l:List TRow) (e:List (Nat×AV)):List (Nat×AV):= [(1,Jv l),(4, .bp (2,nx+1) 0),(5,int 0),(6,int 0),(11, .bp (0,nx4) 0),(13, .bp (1,nx4+1) 0),(14, .fn (.func 47) [] [.bp (0,nx4) 0, .bp (1,nx4+1) 0])]++e
def LpB (nx nx4:Nat) (p:Pol) (st:Nat→J0):List (Vl.Id×Own):= [((2,nx+1), .c J8),((1,nx4+1), .c (Js (codeA (Jc p).dflt) (Jc p).x32 st)),((0,nx4), .c [int (Jc p).dflt.1,int (Jc p).dflt.2,Jb (Jc p).x32,Ji (Jc p).rules])]++JG st
theorem JvL {α:Type} {a b c:α} {t:List α}:(c::a::b::t).Perm (a::b::c::t):=(List.Perm.swap a c _).trans ((List.Perm.swap b c _).cons a)
theorem Je4 {d:Nat} {x:Bool} {st:Nat→J0} {k:Nat} {r:J0} (h:Ja (10+k) r=Ja (10+k) (st k)):Js d x (JC st k r)=Js d x st:=by
 have h':∀j,Ja (10+j) (JC st k r j)=Ja (10+j) (st j):=fun j=> by
  unfold JC
  by_cases e:j=k
  ·subst e;rw [if_pos rfl];exact h
  ·rw [if_neg e]
 have h0:=h' 0
 have h1:=h' 1
 have h2:=h' 2
 have h3:=h' 3
 have h4:=h' 4
 have h5:=h' 5
 have h6:=h' 6
 unfold Js
 rw [h0,h1,h2,h3,h4,h5,h6]
theorem Je5 {k:Nat} (hk:k < 7) {st:Nat→J0} {R:List (Nat×AV)} {s cap:Nat} {tl:List AV} {F:List (Vl.Id×Own)} (h:st k=(R,some (s,cap,tl))):((F++Jp k st)++ [((10+k,s),Own.c (JA R++tl))]).Perm (F++JG st):=by
 have hp:=Jdc hk st
 rw [h] at hp
 rw [List.append_assoc]
 exact (hp.trans List.perm_append_comm).symm.append_left F
theorem Jeh {k:Nat} (hk:k < 7) {st:Nat→J0} {R:List (Nat×AV)} {s cap:Nat} {tl:List AV} {F:List (Vl.Id×Own)}:((F++Jp k st)++ [((10+k,s),Own.c (JA R++tl))]).Perm (F++JG (JC st k (R,some (s,cap,tl)))):=by
 have hp:=JjP hk st (R,some (s,cap,tl))
 rw [List.append_assoc]
 exact (hp.trans List.perm_append_comm).symm.append_left F
theorem JcL {nx nx4:Nat} {p:Pol} {st:Nat→J0} {cs:List AV} {R:List (Vl.Id×Own)} (h:Js (codeA (Jc p).dflt) (Jc p).x32 st=cs):BxLe ([((2,nx+1), .c J8),((1,nx4+1), .c (Js (codeA (Jc p).dflt) (Jc p).x32 st)),((0,nx4), .c [int (Jc p).dflt.1,int (Jc p).dflt.2,Jb (Jc p).x32,Ji (Jc p).rules])]++R) ([((2,nx+1), .c J8),((1,nx4+1), .c cs),((0,nx4), .c [int (Jc p).dflt.1,int (Jc p).dflt.2,Jb (Jc p).x32,Ji (Jc p).rules])]++R):=BxLe.of_eq (by rw [h])
theorem JcM {nx nx4:Nat} {p:Pol} {st:Nat→J0} {cs:List AV} {R:List (Vl.Id×Own)} (h:cs=Js (codeA (Jc p).dflt) (Jc p).x32 st):BxLe ([((2,nx+1), .c J8),((1,nx4+1), .c cs),((0,nx4), .c [int (Jc p).dflt.1,int (Jc p).dflt.2,Jb (Jc p).x32,Ji (Jc p).rules])]++R) ([((2,nx+1), .c J8),((1,nx4+1), .c (Js (codeA (Jc p).dflt) (Jc p).x32 st)),((0,nx4), .c [int (Jc p).dflt.1,int (Jc p).dflt.2,Jb (Jc p).x32,Ji (Jc p).rules])]++R):=BxLe.of_eq (by rw [h])
theorem JvM {nx nx4:Nat} {p:Pol} {st:Nat→J0}:(LpB nx nx4 p st).Perm (([((1,nx4+1),Own.c (Js (codeA (Jc p).dflt) (Jc p).x32 st)),((0,nx4),Own.c [int (Jc p).dflt.1,int (Jc p).dflt.2,Jb (Jc p).x32,Ji (Jc p).rules])]++JG st)++ [((2,nx+1),Own.c J8)]):=List.perm_append_comm (l₁:= [((2,nx+1),Own.c J8)]) (l₂:=([((1,nx4+1),Own.c (Js (codeA (Jc p).dflt) (Jc p).x32 st)),((0,nx4),Own.c [int (Jc p).dflt.1,int (Jc p).dflt.2,Jb (Jc p).x32,Ji (Jc p).rules])]++JG st))
theorem Jo7:∀l:List PEnt,JA (l.map JdD)=l.flatMap fun e=> [u32 (e.num:Nat),Jx e.rules]
 | []=> rfl
 | e::l=> by
   show _::_::JA (l.map JdD)=_::_::_
   rw [Jo7 l];rfl
theorem Jo8:∀l:List PSub,JA (l.map Jar)=l.flatMap fun e=> [u32 (e.num:Nat),u32 (e.code:Nat)]
 | []=> rfl
 | e::l=> by
   show _::_::JA (l.map Jar)=_::_::_
   rw [Jo8 l];rfl
instance:Inhabited PEnt:=⟨ent0⟩
instance:Inhabited PSub:=⟨sub0⟩
theorem Jg7 {bs:List (Nat×Own)} {nm:Nat}:∀ {r:J0} {l:List PEnt},JbN r→r.1=l.map JdD→(∀b∈JaS nm r,((b.1.2,b.2))∈bs)→Frz bs (Ja nm r) (JN 2 Jaf ent0 l)
 | (R,none),l,hok,h,_=> by
   have hok:R= []:=hok
   have h:R=l.map JdD:=h
   obtain rfl:l= []:=List.map_eq_nil_iff.1 (h.symm.trans hok)
   exact Frz.of_le AVle.os_sl0
 | (R,some (s,cap,tl)),l,hok,h,hm=> by
   have h:R=l.map JdD:=h
   subst h
   have hm:=hm _ (.head _)
   have hk:=hok.1
   rw [List.length_map] at hk
   exact Jhm (E:=fun e:PEnt=> [u32 (e.num:Nat),Jx e.rules]) (fun _=> rfl) (fun _=> rfl) (List.length_map _).symm (by unfold Jax;rw [← Jo7];exact hm) (by rw [List.length_map];exact hk)
theorem JqL {bs:List (Nat×Own)} {nm:Nat}:∀ {r:J0} {l:List PSub},JbN r→r.1=l.map Jar→(∀b∈JaS nm r,((b.1.2,b.2))∈bs)→Frz bs (Ja nm r) (JN 2 JdT sub0 l)
 | (R,none),l,hok,h,_=> by
   have hok:R= []:=hok
   have h:R=l.map Jar:=h
   obtain rfl:l= []:=List.map_eq_nil_iff.1 (h.symm.trans hok)
   exact Frz.of_le AVle.os_sl0
 | (R,some (s,cap,tl)),l,hok,h,hm=> by
   have h:R=l.map Jar:=h
   subst h
   have hm:=hm _ (.head _)
   have hk:=hok.1
   rw [List.length_map] at hk
   exact Jhm (E:=fun e:PSub=> [u32 (e.num:Nat),u32 (e.code:Nat)]) (fun _=> rfl) (fun _=> rfl) (List.length_map _).symm (by unfold Jax;rw [← Jo8];exact hm) (by rw [List.length_map];exact hk)
theorem Jgn {F:List (Vl.Id×Own)} {st:Nat→J0} {j:Nat} (hj:j < 7):∀b∈JaS (10+j) (st j),((b.1.2,b.2))∈(F++JG st).map fun p=> (p.1.2,p.2):=fun b hb=>
 List.mem_map.2 ⟨b,List.mem_append.2 (.inr (List.mem_flatMap.2 ⟨j,List.mem_range.2 hj,hb⟩)),rfl⟩
theorem JvN {i:Nat} {L:List Rul} {r:Rul} (h:i+L.length < 1000000):IntKind.i64.wrap (((i+L.length:Nat):Int)+1)=((i+(L++ [r]).length:Nat):Int):=by
 rw [List.length_append,List.length_singleton,← Nat.add_assoc];exact JF Om
theorem Jw8 {L:List Rul} {r:Rul}:((L.map JL).length+1) * 2=((L++ [r]).map JL).length * 2:=by simp
theorem Jx2 {L:List Rul} {r:Rul} {f':Nat→AV} {a b s:Nat} (hf:f' 0=JcQ (JL r)):AVle (.os 2 ((L.map JL).length+1) (Jby (L.map JL).length (JcR (L.map JL)) f') (some (a,s))) (.os 2 ((L++ [r]).map JL).length (JcR ((L++ [r]).map JL)) (some (b,s))):=by
 rw [List.map_append];exact Jed (e:=JcQ) hf rfl
set_option maxHeartbeats 8000000 in
theorem Jip (p:Pol) (l:List TRow) (hp:p.ok) (hp2:∀r∈p.rules,r.conds.length≤12∧r.name.size≤1000000) (hl:l.length≤1000000) (hn:∀r∈l,r.name.size≤maxLen):Tells Tryz.prog 12 [JaL p,Jv l] (JlH p l):=by
 have hV:=Jo2 p l hp hp2 hl hn
 unfold JlH
 by_cases hv:(JR p l).2=0
 ·rw [if_neg (fun h=> h hv)]
  have hE:=Jlv p l (by have:=(JaU (Jak.1 hv).1).1;omega) hl (JeD (Jak.1 hv).2.1)
  unfold Jvv at hE
  rw [hv] at hV
  generalize (JR p l).1=v1 at hV
  cases hx:p.rules.findIdx? (Jca l) with
  | some i=>
    rw [hx] at hE
    refine Jf Tryz.func12 rfl rfl fun nx=> ?_
    refine stp ?_
    refine Je rfl rfl hV ⟨Rf,Rf,trivial⟩ fun nx2=> ?_
    refine stp ?_
    refine Je rfl rfl hE ⟨Rf,Rf,trivial⟩ fun nx3=> ?_
    refine stp ?_
    exact Jh rfl ⟨rfl,trivial⟩ (AVle.tups (cs:= [_,_,_]) ⟨Jo6,Rf,Rf,trivial⟩)
  | none=>
    rw [hx] at hE
    refine Jf Tryz.func12 rfl rfl fun nx=> ?_
    refine stp ?_
    refine Je rfl rfl hV ⟨Rf,Rf,trivial⟩ fun nx2=> ?_
    refine stp ?_
    refine Je rfl rfl hE ⟨Rf,Rf,trivial⟩ fun nx3=> ?_
    refine stp ?_
    have hN:=Jna p hp
    unfold Jnn at hN
    rw [if_pos (Jak.1 hv).1] at hN
    have hnr:=JeG (Jak.1 hv).1
    have hcd:=Jqk p.dflt (Jd0 (Jak.1 hv).1).1
    refine Je rfl rfl hN ⟨Rf,trivial⟩ fun nx4=> ?_
    refine stp ?_
    have hc18:=Jjo (Jc p).dflt (Jd0 hnr).1
    refine JZ 7 [((2,nx4), .c [int (Jc p).dflt.1,int (Jc p).dflt.2,Jb (Jc p).x32,Ji (Jc p).rules]),((1,nx+1), .c J8),((0,nx), .c [int p.dflt.1,int p.dflt.2,Jb p.x32,Ji p.rules])] (fun i=> match i with | 6=> true | _=> false) (fun i=> match i with | 2=> true | _=> false) [0,1,2,3,4,5,6] (by kernel_rfl) (by kernel_rfl) (HB.refl _) ?_
    refine stp ?_
    refine ⟨_,Jao rfl rfl rfl hc18 ⟨Rf,trivial⟩ (NoId.v _), ?_⟩
    refine stp ?_
    refine ⟨_,Jh2 (cs:=J8) rfl rfl (by kernel_rfl) (HB.cons rfl (HB.cons rfl (HB.one rfl))),fun r h' hr=> ?_⟩
    obtain ⟨rfl,rfl⟩:=hr
    refine stp ?_
    refine Jan (fun y:(Nat→J0)×Nat=> mk 131 (LpT nx nx4 l []) ⟨LpB nx nx4 p y.1, [],y.2,20⟩) (fun y=> LpI p l (Jc p).rules.length y.1) ?_ ?_
    ·refine Jo (fun y:Nat×(Nat→J0)×Nat=> mk 131 (LpT nx nx4 l [(15,int y.1)]) ⟨LpB nx nx4 p y.2.1, [],y.2.2,20⟩) (fun y=> LpI p l y.1 y.2.1) (fun y=> (Jc p).rules.length - y.1) ?_ ?_
     ·exact ⟨(0,fun _=> ([],none),nx4+2),Jyv p l,Jr (pm:= []) (bx:= [((2,nx+1), .c J8),((1,nx4+1), .c (Js (codeA (Jc p).dflt) (Jc p).x32 fun _=> ([],none))),((0,nx4), .c [int (Jc p).dflt.1,int (Jc p).dflt.2,Jb (Jc p).x32,Ji (Jc p).rules])]) (L:= [(1,Jv l),(4, .bp (2,nx+1) 0),(5,int 0),(6,int 0),(11, .bp (0,nx4) 0),(13, .bp (1,nx4+1) 0),(14, .fn (.func 47) [] [.bp (0,nx4) 0, .bp (1,nx4+1) 0]),(15,int (0:Nat))]) _ _ [] rfl rfl JvL (.cons_cons _ (.cons_cons _ (.cons_cons _ (.cons _ .slnil)))) Sf ⟨rfl,OwnLe.refl _,rfl,OwnLe.refl _,rfl,OwnLe.refl _,trivial⟩ trivial ⟨Rf,AVle.bp_nm rfl,Rf,Rf,AVle.bp_nm rfl,AVle.bp_nm rfl,AVle.fn_caps (cs:= [.bp (2,nx4) 0, .bp (3,nx4+1) 0]) (ds:= [.bp (0,nx4) 0, .bp (1,nx4+1) 0]) ⟨AVle.bp_nm rfl,AVle.bp_nm rfl,trivial⟩,Rf,trivial⟩⟩
     ·rintro ⟨i,st,nx5⟩ hI
      refine stp ?_
      intro c g;cases c
      ·have g:=Jm g
       try dsimp only at g
       have hi:i=(Jc p).rules.length:=by have:=hI.1;dsimp only at this;omega
       subst hi
       refine stp ?_
       exact ⟨(st,nx5),hI,Et rfl rfl Bf trivial ⟨Rf,Rf,Rf,Rf,Rf,Rf,Rf,trivial⟩⟩
      ·have g:=Jn g
       try dsimp only at g
       have hi:i < (Jc p).rules.length:=by omega
       refine stp ?_
       refine ⟨Bd, ?_⟩
       refine stp ?_
       refine Jan (fun y:List Rul×Option Nat×Nat=> mk 131 (LpT nx nx4 l [(15,int (i+y.1.length:Nat)),(16,Jg ((Jc p).rules.getD i rul0).name),(17, .os 2 (y.1.map JL).length (JcR (y.1.map JL)) (nmd y.2.1))]) ⟨LpB nx nx4 p st,Jad (nmd y.2.1) ((y.1.map JL).length * 2),y.2.2,20⟩) (fun y=> y.1=Jb2 ((Jc p).rules.getD i rul0).name ((Jc p).rules.drop i)) ?_ ?_
       ·refine Jo (fun y:List Rul×Option Nat×Nat=> mk 131 (LpT nx nx4 l [(15,int (i+y.1.length:Nat)),(16,Jg ((Jc p).rules.getD i rul0).name),(17, .os 2 (y.1.map JL).length (JcR (y.1.map JL)) (nmd y.2.1))]) ⟨LpB nx nx4 p st,Jad (nmd y.2.1) ((y.1.map JL).length * 2),y.2.2,20⟩)
         (fun y=> y.1++Jb2 ((Jc p).rules.getD i rul0).name ((Jc p).rules.drop (i+y.1.length))=Jb2 ((Jc p).rules.getD i rul0).name ((Jc p).rules.drop i)∧i+y.1.length≤(Jc p).rules.length∧(y.2.1=none→y.1= [])) (fun y=> (Jc p).rules.length - (i+y.1.length)) ?_ ?_
        ·exact ⟨([],none,nx5),⟨rfl,Nat.le_of_lt hi,fun _=> rfl⟩,Jk (pm:= []) (L:= [(1,Jv l),(4, .bp (2,nx+1) 0),(5,int 0),(6,int 0),(11, .bp (0,nx4) 0),(13, .bp (1,nx4+1) 0),(14, .fn (.func 47) [] [.bp (0,nx4) 0, .bp (1,nx4+1) 0]),(15,int (i:Nat)),(16,Jg ((Jc p).rules.getD i rul0).name),(17, .os 2 0 (JcR []) none)]) _ [] rfl rfl Sf Sf Bf trivial ⟨Rf,Rf,Rf,Rf,Rf,Rf,Rf,Rf,Rf,AVle.os_nil,trivial⟩⟩
        ·rintro ⟨L,oi,nx6⟩ ⟨hL,hle,ho⟩
         dsimp only at hL hle ho
         refine stp ?_
         intro c g2;cases c
         ·have g2:=Jm g2
          try dsimp only at g2
          have hj:i+L.length=(Jc p).rules.length:=by omega
          rw [hj,List.drop_length] at hL
          refine stp ?_
          exact ⟨(L,oi,nx6),by rw [← hL];exact (List.append_nil _).symm,Et rfl rfl Bf Pf ⟨Rf,Rf,Rf,Rf,Rf,Rf,Rf,Rf,Rf,Rf,trivial⟩⟩
         ·have g2:=Jn g2
          try dsimp only at g2
          have hj:i+L.length < (Jc p).rules.length:=by omega
          have hdr:(Jc p).rules.drop (i+L.length)=(Jc p).rules.getD (i+L.length) rul0::(Jc p).rules.drop (i+L.length+1):=by
           rw [List.drop_eq_getElem_cons hj];simp [List.getD,hj]
          rw [hdr] at hL
          refine stp ?_
          refine ⟨Bd, ?_⟩
          refine stp ?_
          intro c3 hc3
          have hc3:c3=kS ((Jc p).rules.getD (i+L.length) rul0).name ((Jc p).rules.getD i rul0).name:=hc3
          cases c3
          ·have hrn:Jb2 ((Jc p).rules.getD i rul0).name ((Jc p).rules.getD (i+L.length) rul0::(Jc p).rules.drop (i+L.length+1))= []:=by
            unfold Jb2;rw [List.takeWhile_cons,if_neg (by rw [← hc3];decide)]
           rw [hrn] at hL
           refine stp ?_
           exact ⟨(L,oi,nx6),by rw [← hL];exact (List.append_nil _).symm,Et rfl rfl Bf Pf ⟨Rf,Rf,Rf,Rf,Rf,Rf,Rf,Rf,Rf,Rf,trivial⟩⟩
          ·have hrn:Jb2 ((Jc p).rules.getD i rul0).name ((Jc p).rules.getD (i+L.length) rul0::(Jc p).rules.drop (i+L.length+1))=(Jc p).rules.getD (i+L.length) rul0::Jb2 ((Jc p).rules.getD i rul0).name ((Jc p).rules.drop (i+L.length+1)):=by
            unfold Jb2;rw [List.takeWhile_cons,if_pos hc3.symm]
           rw [hrn] at hL
           have hcj:=Jjo ((Jc p).rules.getD (i+L.length) rul0).act (JeE ((Jd0 hnr).2 _ (by simp [List.getD,hj])))
           refine stp ?_
           refine JZ 17 (LpB nx nx4 p st) (fun i=> match i with | 16=> true | _=> false) (fun i=> match i with | 13=> true | _=> false) [0,1,2,3,4,5,6,7,8,9,10,11,12,13,14,15,16] (by kernel_rfl) (by kernel_rfl) (HB.refl _) ?_
           refine stp ?_
           refine ⟨Bd,J7 (b:= .rp (Jaj ((Jc p).rules.getD (i+L.length) rul0)).cells) rfl ?_⟩
           refine stp ?_
           refine ⟨Bd,J7 (b:= .rp (Jaj ((Jc p).rules.getD (i+L.length) rul0)).cells) rfl ?_⟩
           refine stp ?_
           refine ⟨_,Jao rfl rfl rfl hcj ⟨Rf,trivial⟩ (NoId.v _), ?_⟩
           refine stp ?_
           refine ⟨_,Jbe (e:=118) (c:=2) (pm:= []) (n:=(L.map JL).length) (oi:=nmd oi) (sz:=2) (f:=JcR (L.map JL)) (HB.refl _) rfl rfl rfl (.inr ⟨_,rfl⟩) (by kernel_rfl) (by kernel_rfl) (by kernel_rfl) (.inr rfl) (by kernel_rfl) (List.append_nil _).symm (Jy rfl) (by rw [JkV,List.length_map];have:=(JaU hnr).1;omega) (by rw [List.length_map];have:=(JaU hnr).1;omega),fun r h' hr=> ?_⟩
           obtain ⟨rfl,rfl⟩:=hr
           refine stp ?_
           exact back (L++ [(Jc p).rules.getD (i+L.length) rul0],some nx6,nx6+1) ⟨by dsimp only;rw [List.append_assoc,List.length_append,List.length_singleton];exact hL,by dsimp only;rw [List.length_append,List.length_singleton];omega,(fun h=> by cases h)⟩ (by dsimp only;rw [List.length_append,List.length_singleton];omega) (Et (bx:=LpB nx nx4 p st) (pm:= [((0,nx6),((L++ [(Jc p).rules.getD (i+L.length) rul0]).map JL).length * 2)]) (L:= [(1,Jv l),(4, .bp (2,nx+1) 0),(5,int 0),(6,int 0),(11, .bp (0,nx4) 0),(13, .bp (1,nx4+1) 0),(14, .fn (.func 47) [] [.bp (0,nx4) 0, .bp (1,nx4+1) 0]),(15,int (i+(L++ [(Jc p).rules.getD (i+L.length) rul0]).length:Nat)),(16,Jg ((Jc p).rules.getD i rul0).name),(17, .os 2 ((L++ [(Jc p).rules.getD (i+L.length) rul0]).map JL).length (JcR ((L++ [(Jc p).rules.getD (i+L.length) rul0]).map JL)) (some (0,nx6)))]) rfl rfl Bf ⟨rfl,Jw8,trivial⟩ ⟨Rf,Rf,Rf,Rf,Rf,Rf,Rf,Jl (JvN (by have:=(JaU hnr).1;dsimp only;omega)),Rf,Jx2 rfl,trivial⟩)
       ·rintro ⟨L,oi,nx6⟩ hL
        dsimp only at hL
        have hmem:(Jc p).rules.getD i rul0∈(Jc p).rules:=by simp [List.getD,hi]
        have hfb:JaD l ((Jc p).rules.getD i rul0).name=true:=by
         obtain ⟨r0,h0,h1⟩:=JhD hmem
         rw [(Jbg h1).2.1]
         exact Jck hv r0 h0
        have hF:=Jgd l ((Jc p).rules.getD i rul0).name hl (Jfg (JeD (Jak.1 hv).2.1) _)
        unfold Jkm at hF
        rw [if_pos hfb,← (show JaK l ((Jc p).rules.getD i rul0).name=_ from if_pos hfb)] at hF
        refine stp ?_
        refine Je rfl rfl hF ⟨Rf,Rf,trivial⟩ fun nx7=> ?_
        refine stp ?_
        have hLn:L≠ []:=by rw [hL];exact Jul hi
        have hrc:=Jum (s:=((Jc p).rules.getD i rul0).name) (i:=i) hp (Jak.1 hv).1
        rw [← hL] at hrc
        have hrow:=Jw6 (Jak.1 hv).2.1 (Jih hfb)
        have hlr:L.length≤(Jc p).rules.length - i:=by rw [hL,← List.length_drop];exact JmN _ _
        have h500:=(JaU hnr).1
        have hput:=Jsm (Jc p).dflt.1 (Jc p).dflt.2 (Jc p).x32 (Jc p).rules (codeA (Jc p).dflt) (JaK l ((Jc p).rules.getD i rul0).name) (L.map JL) nx4 (nx4+1) (nx7+1) st hI.2.1 (JqK h500 hI) hrow.1 hrow.2.1 hrow.2.2 (fun h=> hLn (List.map_eq_nil_iff.1 h)) (by rw [List.length_map];omega) hrc
        have hnext:∀st',Jsl (codeA (Jc p).dflt) (Jc p).x32 (JaK l ((Jc p).rules.getD i rul0).name) (L.map JL) st st'→LpI p l (i+L.length) st':=fun st' hq=> JvK hi rfl hL hI hq
        have hpos:0 < L.length:=List.length_pos_iff.2 hLn
        refine J1 (xs:= [Jq (JaK l ((Jc p).rules.getD i rul0).name),Jx (L.map JL), .bp (0,nx4) 0, .bp (1,nx4+1) 0]) [((20,nx7), .c (Ja3 (JaK l ((Jc p).rules.getD i rul0).name))),((2,nx+1), .c J8)] (Jad (nmd oi) ((L.map JL).length * 2)) 20 rfl rfl rfl (List.append_nil _).symm ⟨Rf,AVle.os_sl,Rf,Rf,trivial⟩ hput Bf trivial rfl fun r h' hq=> ?_
        obtain ⟨rfl,st',nx8,nn8,hq,rfl⟩:=hq
        refine stp ?_
        exact back (i+L.length,st',nx8) (hnext st' hq) Dm (Jk (pm:= []) (bx:=LpB nx nx4 p st') (L:= [(1,Jv l),(4, .bp (2,nx+1) 0),(5,int 0),(6,int 0),(11, .bp (0,nx4) 0),(13, .bp (1,nx4+1) 0),(14, .fn (.func 47) [] [.bp (0,nx4) 0, .bp (1,nx4+1) 0]),(15,int (i+L.length:Nat))]) _ [] rfl rfl (.cons _ Sf) (List.nil_sublist _) Bf trivial ⟨Rf,Rf,Rf,Rf,Rf,Rf,Rf,Rf,trivial⟩)
    ·rintro ⟨st,nx5⟩ hI
     dsimp only at hI
     have hE:=Jw7 hI
     have hlen:=JqK (JaU hnr).1 hI
     have hone:∀ {m:Nat} {st1:Nat→J0} (k:Nat),LpS m st st1→∀ {R:List (Nat×AV)},k < 7→(st1 k).1=R→(∀x∈R,Jcc x.2=true)∧R.length < 4611686018427387904:=fun {m st1} k hS {R} hk h=> by
      subst h
      have hp:=hS.2.2.1 k hk
      refine ⟨fun x hx=> ?_,by have:=hlen k hk;rw [hp.length_eq];omega⟩
      have hx:=hp.mem_iff.1 hx
      rcases Nat.lt_or_ge k 5 with h5 | h5
      ·rw [hE.2.1 k h5] at hx
       obtain ⟨e,_,rfl⟩:=List.mem_map.1 hx
       rfl
      ·obtain ⟨m',rfl⟩:∃m',k=5+m':=⟨k - 5,by omega⟩
       rw [hE.2.2 m' Om] at hx
       obtain ⟨e,_,rfl⟩:=List.mem_map.1 hx
       rfl
     refine stp ?_
     refine Jan (fun y:(Nat→J0)×Nat=> mk 131 [(4, .bp (2,nx+1) 0),(5,int 0),(6,int 0),(13, .bp (1,nx4+1) 0)] ⟨LpB nx nx4 p y.1, [],y.2,20⟩) (fun y=> LpS 5 st y.1) ?_ ?_
     ·refine Jo (fun y:Nat×(Nat→J0)×Nat=> mk 131 [(4, .bp (2,nx+1) 0),(5,int 0),(6,int 0),(13, .bp (1,nx4+1) 0),(112,int y.1)] ⟨LpB nx nx4 p y.2.1, [],y.2.2,20⟩) (fun y=> y.1≤5∧LpS (y.1) st y.2.1) (fun y=> 5 - y.1) ?_ ?_
      ·exact ⟨(0,st,nx5),⟨Nat.zero_le _,Jyw hE.1⟩,Et rfl rfl Bf trivial ⟨Rf,Rf,Rf,Rf,Rf,trivial⟩⟩
      ·rintro ⟨a,st1,nx5⟩ ⟨ha,hS⟩
       dsimp only at ha hS
       rcases (by omega:a=0∨a=1∨a=2∨a=3∨a=4∨a=5) with rfl | rfl | rfl | rfl | rfl | rfl
       ·rcases hk:st1 0 with ⟨R,_ | ⟨s,cap,tl⟩⟩
        ·have hR:R= []:=by have:=hS.2.1 0 Dc;rw [hk] at this;exact this
         have hN0:(st1 0).1= []:=by rw [hk];exact hR
         have eo:Js (codeA (Jc p).dflt) (Jc p).x32 st1= [u32 (codeA (Jc p).dflt:Nat),Jb (Jc p).x32, .os 0 0 (fun _=> .any) none,Ja 11 (st1 1),Ja 12 (st1 2),Ja 13 (st1 3),Ja 14 (st1 4),Ja 15 (st1 5),Ja 16 (st1 6)]:=by simp only [Js,hk,Ja]
         refine AW.le (Et (n:=131) (nn:=20) (pm:= []) (bx:= [((2,nx+1),Own.c J8),((1,nx4+1), .c [u32 (codeA (Jc p).dflt:Nat),Jb (Jc p).x32, .os 0 0 (fun _=> .any) none,Ja 11 (st1 1),Ja 12 (st1 2),Ja 13 (st1 3),Ja 14 (st1 4),Ja 15 (st1 5),Ja 16 (st1 6)]),((0,nx4), .c [int (Jc p).dflt.1,int (Jc p).dflt.2,Jb (Jc p).x32,Ji (Jc p).rules])]++JG st1) (L:= [(4, .bp (2,nx+1) 0),(5,int 0),(6,int 0),(13, .bp (1,nx4+1) 0),(112,int (0:Nat))]) rfl rfl (JcL eo) trivial ⟨Rf,Rf,Rf,Rf,Rf,trivial⟩) ?_
         refine stp ?_
         refine Je rfl rfl (Jd2 52) ⟨AVle.os_nil,Rf,trivial⟩ fun nx6=> ?_
         refine stp ?_
         exact back (1,st1,nx6) ⟨by dsimp only;omega,Jef Dc hS hN0⟩ Dm (Et (bx:=LpB nx nx4 p st1) rfl rfl (JcM eo.symm) trivial ⟨Rf,Rf,Rf,Rf,Jl rfl,trivial⟩)
        ·have eo:Js (codeA (Jc p).dflt) (Jc p).x32 st1= [u32 (codeA (Jc p).dflt:Nat),Jb (Jc p).x32, .hs (10,s) 0 R.length cap,Ja 11 (st1 1),Ja 12 (st1 2),Ja 13 (st1 3),Ja 14 (st1 4),Ja 15 (st1 5),Ja 16 (st1 6)]:=by simp only [Js,hk,Ja]
         refine AW.le (Jr (n:=131) (nn:=20) (pm:= []) (bx:=([((2,nx+1),Own.c J8),((1,nx4+1), .c [u32 (codeA (Jc p).dflt:Nat),Jb (Jc p).x32, .hs (10,s) 0 R.length cap,Ja 11 (st1 1),Ja 12 (st1 2),Ja 13 (st1 3),Ja 14 (st1 4),Ja 15 (st1 5),Ja 16 (st1 6)]),((0,nx4), .c [int (Jc p).dflt.1,int (Jc p).dflt.2,Jb (Jc p).x32,Ji (Jc p).rules])]++Jp 0 st1)++ [((10,s),Own.c (JA R++tl))]) (L:= [(4, .bp (2,nx+1) 0),(5,int 0),(6,int 0),(13, .bp (1,nx4+1) 0),(112,int (0:Nat))]) _ _ [] rfl rfl (Je5 (F:= [((2,nx+1),Own.c J8),((1,nx4+1), .c (Js (codeA (Jc p).dflt) (Jc p).x32 st1)),((0,nx4), .c [int (Jc p).dflt.1,int (Jc p).dflt.2,Jb (Jc p).x32,Ji (Jc p).rules])]) (k:=0) Dc hk) Sf Sf (by rw [List.append_assoc,List.append_assoc];exact JcL eo) trivial ⟨Rf,Rf,Rf,Rf,Rf,trivial⟩) ?_
         have hR:=hone 0 hS (R:=R) Dc (by rw [hk])
         refine stp ?_
         refine J1 (xs:= [.hs (10,s) 0 R.length cap, .fn (.func 52) [] []]) ([((2,nx+1),Own.c J8),((1,nx4+1), .c [u32 (codeA (Jc p).dflt:Nat),Jb (Jc p).x32, .hs (10,s) 0 R.length cap,Ja 11 (st1 1),Ja 12 (st1 2),Ja 13 (st1 3),Ja 14 (st1 4),Ja 15 (st1 5),Ja 16 (st1 6)]),((0,nx4), .c [int (Jc p).dflt.1,int (Jc p).dflt.2,Jb (Jc p).x32,Ji (Jc p).rules])]++Jp 0 st1) [] 20 rfl rfl rfl rfl ⟨Rf,Rf,trivial⟩ (JdC (D:=R) (tl:=tl) (nm:=10) (s:=s) (cap:=cap) (nx:=nx5) (nn:=20) hR.1 hR.2) Bf trivial rfl fun r h' hq=> ?_
         obtain ⟨rfl,cs',⟨D,hp1,hp2,rfl⟩,rfl⟩:=hq
         refine stp ?_
         exact back (1,JC st1 0 (D,some (s,cap,tl)),nx5) ⟨by dsimp only;omega,Jeg Dc hS hk hp1 hp2⟩ Dm (Jr (pm:= []) (bx:=LpB nx nx4 p (JC st1 0 (D,some (s,cap,tl)))) (L:= [(4, .bp (2,nx+1) 0),(5,int 0),(6,int 0),(13, .bp (1,nx4+1) 0),(112,int (1:Nat))]) _ _ [] rfl rfl (Jeh (F:= [((2,nx+1),Own.c J8),((1,nx4+1), .c [u32 (codeA (Jc p).dflt:Nat),Jb (Jc p).x32, .hs (10,s) 0 R.length cap,Ja 11 (st1 1),Ja 12 (st1 2),Ja 13 (st1 3),Ja 14 (st1 4),Ja 15 (st1 5),Ja 16 (st1 6)]),((0,nx4), .c [int (Jc p).dflt.1,int (Jc p).dflt.2,Jb (Jc p).x32,Ji (Jc p).rules])]) (k:=0) Dc).symm Sf Sf (JcM (by rw [Je4 (st:=st1) (k:=0) (by rw [hk];show AV.hs _ 0 D.length cap=AV.hs _ 0 R.length cap;rw [hp1.length_eq]),eo])) trivial ⟨Rf,Rf,Rf,Rf,Jl rfl,trivial⟩)
       ·rcases hk:st1 1 with ⟨R,_ | ⟨s,cap,tl⟩⟩
        ·have hR:R= []:=by have:=hS.2.1 1 Dc;rw [hk] at this;exact this
         have hN0:(st1 1).1= []:=by rw [hk];exact hR
         have eo:Js (codeA (Jc p).dflt) (Jc p).x32 st1= [u32 (codeA (Jc p).dflt:Nat),Jb (Jc p).x32,Ja 10 (st1 0), .os 0 0 (fun _=> .any) none,Ja 12 (st1 2),Ja 13 (st1 3),Ja 14 (st1 4),Ja 15 (st1 5),Ja 16 (st1 6)]:=by simp only [Js,hk,Ja]
         refine AW.le (Et (n:=131) (nn:=20) (pm:= []) (bx:= [((2,nx+1),Own.c J8),((1,nx4+1), .c [u32 (codeA (Jc p).dflt:Nat),Jb (Jc p).x32,Ja 10 (st1 0), .os 0 0 (fun _=> .any) none,Ja 12 (st1 2),Ja 13 (st1 3),Ja 14 (st1 4),Ja 15 (st1 5),Ja 16 (st1 6)]),((0,nx4), .c [int (Jc p).dflt.1,int (Jc p).dflt.2,Jb (Jc p).x32,Ji (Jc p).rules])]++JG st1) (L:= [(4, .bp (2,nx+1) 0),(5,int 0),(6,int 0),(13, .bp (1,nx4+1) 0),(112,int (1:Nat))]) rfl rfl (JcL eo) trivial ⟨Rf,Rf,Rf,Rf,Rf,trivial⟩) ?_
         refine stp ?_
         refine Je rfl rfl (Jd2 52) ⟨AVle.os_nil,Rf,trivial⟩ fun nx6=> ?_
         refine stp ?_
         exact back (2,st1,nx6) ⟨by dsimp only;omega,Jef Dc hS hN0⟩ Dm (Et (bx:=LpB nx nx4 p st1) rfl rfl (JcM eo.symm) trivial ⟨Rf,Rf,Rf,Rf,Jl rfl,trivial⟩)
        ·have eo:Js (codeA (Jc p).dflt) (Jc p).x32 st1= [u32 (codeA (Jc p).dflt:Nat),Jb (Jc p).x32,Ja 10 (st1 0), .hs (11,s) 0 R.length cap,Ja 12 (st1 2),Ja 13 (st1 3),Ja 14 (st1 4),Ja 15 (st1 5),Ja 16 (st1 6)]:=by simp only [Js,hk,Ja]
         refine AW.le (Jr (n:=131) (nn:=20) (pm:= []) (bx:=([((2,nx+1),Own.c J8),((1,nx4+1), .c [u32 (codeA (Jc p).dflt:Nat),Jb (Jc p).x32,Ja 10 (st1 0), .hs (11,s) 0 R.length cap,Ja 12 (st1 2),Ja 13 (st1 3),Ja 14 (st1 4),Ja 15 (st1 5),Ja 16 (st1 6)]),((0,nx4), .c [int (Jc p).dflt.1,int (Jc p).dflt.2,Jb (Jc p).x32,Ji (Jc p).rules])]++Jp 1 st1)++ [((11,s),Own.c (JA R++tl))]) (L:= [(4, .bp (2,nx+1) 0),(5,int 0),(6,int 0),(13, .bp (1,nx4+1) 0),(112,int (1:Nat))]) _ _ [] rfl rfl (Je5 (F:= [((2,nx+1),Own.c J8),((1,nx4+1), .c (Js (codeA (Jc p).dflt) (Jc p).x32 st1)),((0,nx4), .c [int (Jc p).dflt.1,int (Jc p).dflt.2,Jb (Jc p).x32,Ji (Jc p).rules])]) (k:=1) Dc hk) Sf Sf (by rw [List.append_assoc,List.append_assoc];exact JcL eo) trivial ⟨Rf,Rf,Rf,Rf,Rf,trivial⟩) ?_
         have hR:=hone 1 hS (R:=R) Dc (by rw [hk])
         refine stp ?_
         refine J1 (xs:= [.hs (11,s) 0 R.length cap, .fn (.func 52) [] []]) ([((2,nx+1),Own.c J8),((1,nx4+1), .c [u32 (codeA (Jc p).dflt:Nat),Jb (Jc p).x32,Ja 10 (st1 0), .hs (11,s) 0 R.length cap,Ja 12 (st1 2),Ja 13 (st1 3),Ja 14 (st1 4),Ja 15 (st1 5),Ja 16 (st1 6)]),((0,nx4), .c [int (Jc p).dflt.1,int (Jc p).dflt.2,Jb (Jc p).x32,Ji (Jc p).rules])]++Jp 1 st1) [] 20 rfl rfl rfl rfl ⟨Rf,Rf,trivial⟩ (JdC (D:=R) (tl:=tl) (nm:=11) (s:=s) (cap:=cap) (nx:=nx5) (nn:=20) hR.1 hR.2) Bf trivial rfl fun r h' hq=> ?_
         obtain ⟨rfl,cs',⟨D,hp1,hp2,rfl⟩,rfl⟩:=hq
         refine stp ?_
         exact back (2,JC st1 1 (D,some (s,cap,tl)),nx5) ⟨by dsimp only;omega,Jeg Dc hS hk hp1 hp2⟩ Dm (Jr (pm:= []) (bx:=LpB nx nx4 p (JC st1 1 (D,some (s,cap,tl)))) (L:= [(4, .bp (2,nx+1) 0),(5,int 0),(6,int 0),(13, .bp (1,nx4+1) 0),(112,int (2:Nat))]) _ _ [] rfl rfl (Jeh (F:= [((2,nx+1),Own.c J8),((1,nx4+1), .c [u32 (codeA (Jc p).dflt:Nat),Jb (Jc p).x32,Ja 10 (st1 0), .hs (11,s) 0 R.length cap,Ja 12 (st1 2),Ja 13 (st1 3),Ja 14 (st1 4),Ja 15 (st1 5),Ja 16 (st1 6)]),((0,nx4), .c [int (Jc p).dflt.1,int (Jc p).dflt.2,Jb (Jc p).x32,Ji (Jc p).rules])]) (k:=1) Dc).symm Sf Sf (JcM (by rw [Je4 (st:=st1) (k:=1) (by rw [hk];show AV.hs _ 0 D.length cap=AV.hs _ 0 R.length cap;rw [hp1.length_eq]),eo])) trivial ⟨Rf,Rf,Rf,Rf,Jl rfl,trivial⟩)
       ·rcases hk:st1 2 with ⟨R,_ | ⟨s,cap,tl⟩⟩
        ·have hR:R= []:=by have:=hS.2.1 2 Dc;rw [hk] at this;exact this
         have hN0:(st1 2).1= []:=by rw [hk];exact hR
         have eo:Js (codeA (Jc p).dflt) (Jc p).x32 st1= [u32 (codeA (Jc p).dflt:Nat),Jb (Jc p).x32,Ja 10 (st1 0),Ja 11 (st1 1), .os 0 0 (fun _=> .any) none,Ja 13 (st1 3),Ja 14 (st1 4),Ja 15 (st1 5),Ja 16 (st1 6)]:=by simp only [Js,hk,Ja]
         refine AW.le (Et (n:=131) (nn:=20) (pm:= []) (bx:= [((2,nx+1),Own.c J8),((1,nx4+1), .c [u32 (codeA (Jc p).dflt:Nat),Jb (Jc p).x32,Ja 10 (st1 0),Ja 11 (st1 1), .os 0 0 (fun _=> .any) none,Ja 13 (st1 3),Ja 14 (st1 4),Ja 15 (st1 5),Ja 16 (st1 6)]),((0,nx4), .c [int (Jc p).dflt.1,int (Jc p).dflt.2,Jb (Jc p).x32,Ji (Jc p).rules])]++JG st1) (L:= [(4, .bp (2,nx+1) 0),(5,int 0),(6,int 0),(13, .bp (1,nx4+1) 0),(112,int (2:Nat))]) rfl rfl (JcL eo) trivial ⟨Rf,Rf,Rf,Rf,Rf,trivial⟩) ?_
         refine stp ?_
         refine Je rfl rfl (Jd2 52) ⟨AVle.os_nil,Rf,trivial⟩ fun nx6=> ?_
         refine stp ?_
         exact back (3,st1,nx6) ⟨by dsimp only;omega,Jef Dc hS hN0⟩ Dm (Et (bx:=LpB nx nx4 p st1) rfl rfl (JcM eo.symm) trivial ⟨Rf,Rf,Rf,Rf,Jl rfl,trivial⟩)
        ·have eo:Js (codeA (Jc p).dflt) (Jc p).x32 st1= [u32 (codeA (Jc p).dflt:Nat),Jb (Jc p).x32,Ja 10 (st1 0),Ja 11 (st1 1), .hs (12,s) 0 R.length cap,Ja 13 (st1 3),Ja 14 (st1 4),Ja 15 (st1 5),Ja 16 (st1 6)]:=by simp only [Js,hk,Ja]
         refine AW.le (Jr (n:=131) (nn:=20) (pm:= []) (bx:=([((2,nx+1),Own.c J8),((1,nx4+1), .c [u32 (codeA (Jc p).dflt:Nat),Jb (Jc p).x32,Ja 10 (st1 0),Ja 11 (st1 1), .hs (12,s) 0 R.length cap,Ja 13 (st1 3),Ja 14 (st1 4),Ja 15 (st1 5),Ja 16 (st1 6)]),((0,nx4), .c [int (Jc p).dflt.1,int (Jc p).dflt.2,Jb (Jc p).x32,Ji (Jc p).rules])]++Jp 2 st1)++ [((12,s),Own.c (JA R++tl))]) (L:= [(4, .bp (2,nx+1) 0),(5,int 0),(6,int 0),(13, .bp (1,nx4+1) 0),(112,int (2:Nat))]) _ _ [] rfl rfl (Je5 (F:= [((2,nx+1),Own.c J8),((1,nx4+1), .c (Js (codeA (Jc p).dflt) (Jc p).x32 st1)),((0,nx4), .c [int (Jc p).dflt.1,int (Jc p).dflt.2,Jb (Jc p).x32,Ji (Jc p).rules])]) (k:=2) Dc hk) Sf Sf (by rw [List.append_assoc,List.append_assoc];exact JcL eo) trivial ⟨Rf,Rf,Rf,Rf,Rf,trivial⟩) ?_
         have hR:=hone 2 hS (R:=R) Dc (by rw [hk])
         refine stp ?_
         refine J1 (xs:= [.hs (12,s) 0 R.length cap, .fn (.func 52) [] []]) ([((2,nx+1),Own.c J8),((1,nx4+1), .c [u32 (codeA (Jc p).dflt:Nat),Jb (Jc p).x32,Ja 10 (st1 0),Ja 11 (st1 1), .hs (12,s) 0 R.length cap,Ja 13 (st1 3),Ja 14 (st1 4),Ja 15 (st1 5),Ja 16 (st1 6)]),((0,nx4), .c [int (Jc p).dflt.1,int (Jc p).dflt.2,Jb (Jc p).x32,Ji (Jc p).rules])]++Jp 2 st1) [] 20 rfl rfl rfl rfl ⟨Rf,Rf,trivial⟩ (JdC (D:=R) (tl:=tl) (nm:=12) (s:=s) (cap:=cap) (nx:=nx5) (nn:=20) hR.1 hR.2) Bf trivial rfl fun r h' hq=> ?_
         obtain ⟨rfl,cs',⟨D,hp1,hp2,rfl⟩,rfl⟩:=hq
         refine stp ?_
         exact back (3,JC st1 2 (D,some (s,cap,tl)),nx5) ⟨by dsimp only;omega,Jeg Dc hS hk hp1 hp2⟩ Dm (Jr (pm:= []) (bx:=LpB nx nx4 p (JC st1 2 (D,some (s,cap,tl)))) (L:= [(4, .bp (2,nx+1) 0),(5,int 0),(6,int 0),(13, .bp (1,nx4+1) 0),(112,int (3:Nat))]) _ _ [] rfl rfl (Jeh (F:= [((2,nx+1),Own.c J8),((1,nx4+1), .c [u32 (codeA (Jc p).dflt:Nat),Jb (Jc p).x32,Ja 10 (st1 0),Ja 11 (st1 1), .hs (12,s) 0 R.length cap,Ja 13 (st1 3),Ja 14 (st1 4),Ja 15 (st1 5),Ja 16 (st1 6)]),((0,nx4), .c [int (Jc p).dflt.1,int (Jc p).dflt.2,Jb (Jc p).x32,Ji (Jc p).rules])]) (k:=2) Dc).symm Sf Sf (JcM (by rw [Je4 (st:=st1) (k:=2) (by rw [hk];show AV.hs _ 0 D.length cap=AV.hs _ 0 R.length cap;rw [hp1.length_eq]),eo])) trivial ⟨Rf,Rf,Rf,Rf,Jl rfl,trivial⟩)
       ·rcases hk:st1 3 with ⟨R,_ | ⟨s,cap,tl⟩⟩
        ·have hR:R= []:=by have:=hS.2.1 3 Dc;rw [hk] at this;exact this
         have hN0:(st1 3).1= []:=by rw [hk];exact hR
         have eo:Js (codeA (Jc p).dflt) (Jc p).x32 st1= [u32 (codeA (Jc p).dflt:Nat),Jb (Jc p).x32,Ja 10 (st1 0),Ja 11 (st1 1),Ja 12 (st1 2), .os 0 0 (fun _=> .any) none,Ja 14 (st1 4),Ja 15 (st1 5),Ja 16 (st1 6)]:=by simp only [Js,hk,Ja]
         refine AW.le (Et (n:=131) (nn:=20) (pm:= []) (bx:= [((2,nx+1),Own.c J8),((1,nx4+1), .c [u32 (codeA (Jc p).dflt:Nat),Jb (Jc p).x32,Ja 10 (st1 0),Ja 11 (st1 1),Ja 12 (st1 2), .os 0 0 (fun _=> .any) none,Ja 14 (st1 4),Ja 15 (st1 5),Ja 16 (st1 6)]),((0,nx4), .c [int (Jc p).dflt.1,int (Jc p).dflt.2,Jb (Jc p).x32,Ji (Jc p).rules])]++JG st1) (L:= [(4, .bp (2,nx+1) 0),(5,int 0),(6,int 0),(13, .bp (1,nx4+1) 0),(112,int (3:Nat))]) rfl rfl (JcL eo) trivial ⟨Rf,Rf,Rf,Rf,Rf,trivial⟩) ?_
         refine stp ?_
         refine Je rfl rfl (Jd2 52) ⟨AVle.os_nil,Rf,trivial⟩ fun nx6=> ?_
         refine stp ?_
         exact back (4,st1,nx6) ⟨by dsimp only;omega,Jef Dc hS hN0⟩ Dm (Et (bx:=LpB nx nx4 p st1) rfl rfl (JcM eo.symm) trivial ⟨Rf,Rf,Rf,Rf,Jl rfl,trivial⟩)
        ·have eo:Js (codeA (Jc p).dflt) (Jc p).x32 st1= [u32 (codeA (Jc p).dflt:Nat),Jb (Jc p).x32,Ja 10 (st1 0),Ja 11 (st1 1),Ja 12 (st1 2), .hs (13,s) 0 R.length cap,Ja 14 (st1 4),Ja 15 (st1 5),Ja 16 (st1 6)]:=by simp only [Js,hk,Ja]
         refine AW.le (Jr (n:=131) (nn:=20) (pm:= []) (bx:=([((2,nx+1),Own.c J8),((1,nx4+1), .c [u32 (codeA (Jc p).dflt:Nat),Jb (Jc p).x32,Ja 10 (st1 0),Ja 11 (st1 1),Ja 12 (st1 2), .hs (13,s) 0 R.length cap,Ja 14 (st1 4),Ja 15 (st1 5),Ja 16 (st1 6)]),((0,nx4), .c [int (Jc p).dflt.1,int (Jc p).dflt.2,Jb (Jc p).x32,Ji (Jc p).rules])]++Jp 3 st1)++ [((13,s),Own.c (JA R++tl))]) (L:= [(4, .bp (2,nx+1) 0),(5,int 0),(6,int 0),(13, .bp (1,nx4+1) 0),(112,int (3:Nat))]) _ _ [] rfl rfl (Je5 (F:= [((2,nx+1),Own.c J8),((1,nx4+1), .c (Js (codeA (Jc p).dflt) (Jc p).x32 st1)),((0,nx4), .c [int (Jc p).dflt.1,int (Jc p).dflt.2,Jb (Jc p).x32,Ji (Jc p).rules])]) (k:=3) Dc hk) Sf Sf (by rw [List.append_assoc,List.append_assoc];exact JcL eo) trivial ⟨Rf,Rf,Rf,Rf,Rf,trivial⟩) ?_
         have hR:=hone 3 hS (R:=R) Dc (by rw [hk])
         refine stp ?_
         refine J1 (xs:= [.hs (13,s) 0 R.length cap, .fn (.func 52) [] []]) ([((2,nx+1),Own.c J8),((1,nx4+1), .c [u32 (codeA (Jc p).dflt:Nat),Jb (Jc p).x32,Ja 10 (st1 0),Ja 11 (st1 1),Ja 12 (st1 2), .hs (13,s) 0 R.length cap,Ja 14 (st1 4),Ja 15 (st1 5),Ja 16 (st1 6)]),((0,nx4), .c [int (Jc p).dflt.1,int (Jc p).dflt.2,Jb (Jc p).x32,Ji (Jc p).rules])]++Jp 3 st1) [] 20 rfl rfl rfl rfl ⟨Rf,Rf,trivial⟩ (JdC (D:=R) (tl:=tl) (nm:=13) (s:=s) (cap:=cap) (nx:=nx5) (nn:=20) hR.1 hR.2) Bf trivial rfl fun r h' hq=> ?_
         obtain ⟨rfl,cs',⟨D,hp1,hp2,rfl⟩,rfl⟩:=hq
         refine stp ?_
         exact back (4,JC st1 3 (D,some (s,cap,tl)),nx5) ⟨by dsimp only;omega,Jeg Dc hS hk hp1 hp2⟩ Dm (Jr (pm:= []) (bx:=LpB nx nx4 p (JC st1 3 (D,some (s,cap,tl)))) (L:= [(4, .bp (2,nx+1) 0),(5,int 0),(6,int 0),(13, .bp (1,nx4+1) 0),(112,int (4:Nat))]) _ _ [] rfl rfl (Jeh (F:= [((2,nx+1),Own.c J8),((1,nx4+1), .c [u32 (codeA (Jc p).dflt:Nat),Jb (Jc p).x32,Ja 10 (st1 0),Ja 11 (st1 1),Ja 12 (st1 2), .hs (13,s) 0 R.length cap,Ja 14 (st1 4),Ja 15 (st1 5),Ja 16 (st1 6)]),((0,nx4), .c [int (Jc p).dflt.1,int (Jc p).dflt.2,Jb (Jc p).x32,Ji (Jc p).rules])]) (k:=3) Dc).symm Sf Sf (JcM (by rw [Je4 (st:=st1) (k:=3) (by rw [hk];show AV.hs _ 0 D.length cap=AV.hs _ 0 R.length cap;rw [hp1.length_eq]),eo])) trivial ⟨Rf,Rf,Rf,Rf,Jl rfl,trivial⟩)
       ·rcases hk:st1 4 with ⟨R,_ | ⟨s,cap,tl⟩⟩
        ·have hR:R= []:=by have:=hS.2.1 4 Dc;rw [hk] at this;exact this
         have hN0:(st1 4).1= []:=by rw [hk];exact hR
         have eo:Js (codeA (Jc p).dflt) (Jc p).x32 st1= [u32 (codeA (Jc p).dflt:Nat),Jb (Jc p).x32,Ja 10 (st1 0),Ja 11 (st1 1),Ja 12 (st1 2),Ja 13 (st1 3), .os 0 0 (fun _=> .any) none,Ja 15 (st1 5),Ja 16 (st1 6)]:=by simp only [Js,hk,Ja]
         refine AW.le (Et (n:=131) (nn:=20) (pm:= []) (bx:= [((2,nx+1),Own.c J8),((1,nx4+1), .c [u32 (codeA (Jc p).dflt:Nat),Jb (Jc p).x32,Ja 10 (st1 0),Ja 11 (st1 1),Ja 12 (st1 2),Ja 13 (st1 3), .os 0 0 (fun _=> .any) none,Ja 15 (st1 5),Ja 16 (st1 6)]),((0,nx4), .c [int (Jc p).dflt.1,int (Jc p).dflt.2,Jb (Jc p).x32,Ji (Jc p).rules])]++JG st1) (L:= [(4, .bp (2,nx+1) 0),(5,int 0),(6,int 0),(13, .bp (1,nx4+1) 0),(112,int (4:Nat))]) rfl rfl (JcL eo) trivial ⟨Rf,Rf,Rf,Rf,Rf,trivial⟩) ?_
         refine stp ?_
         refine Je rfl rfl (Jd2 52) ⟨AVle.os_nil,Rf,trivial⟩ fun nx6=> ?_
         refine stp ?_
         exact back (5,st1,nx6) ⟨by dsimp only;omega,Jef Dc hS hN0⟩ Dm (Et (bx:=LpB nx nx4 p st1) rfl rfl (JcM eo.symm) trivial ⟨Rf,Rf,Rf,Rf,Jl rfl,trivial⟩)
        ·have eo:Js (codeA (Jc p).dflt) (Jc p).x32 st1= [u32 (codeA (Jc p).dflt:Nat),Jb (Jc p).x32,Ja 10 (st1 0),Ja 11 (st1 1),Ja 12 (st1 2),Ja 13 (st1 3), .hs (14,s) 0 R.length cap,Ja 15 (st1 5),Ja 16 (st1 6)]:=by simp only [Js,hk,Ja]
         refine AW.le (Jr (n:=131) (nn:=20) (pm:= []) (bx:=([((2,nx+1),Own.c J8),((1,nx4+1), .c [u32 (codeA (Jc p).dflt:Nat),Jb (Jc p).x32,Ja 10 (st1 0),Ja 11 (st1 1),Ja 12 (st1 2),Ja 13 (st1 3), .hs (14,s) 0 R.length cap,Ja 15 (st1 5),Ja 16 (st1 6)]),((0,nx4), .c [int (Jc p).dflt.1,int (Jc p).dflt.2,Jb (Jc p).x32,Ji (Jc p).rules])]++Jp 4 st1)++ [((14,s),Own.c (JA R++tl))]) (L:= [(4, .bp (2,nx+1) 0),(5,int 0),(6,int 0),(13, .bp (1,nx4+1) 0),(112,int (4:Nat))]) _ _ [] rfl rfl (Je5 (F:= [((2,nx+1),Own.c J8),((1,nx4+1), .c (Js (codeA (Jc p).dflt) (Jc p).x32 st1)),((0,nx4), .c [int (Jc p).dflt.1,int (Jc p).dflt.2,Jb (Jc p).x32,Ji (Jc p).rules])]) (k:=4) Dc hk) Sf Sf (by rw [List.append_assoc,List.append_assoc];exact JcL eo) trivial ⟨Rf,Rf,Rf,Rf,Rf,trivial⟩) ?_
         have hR:=hone 4 hS (R:=R) Dc (by rw [hk])
         refine stp ?_
         refine J1 (xs:= [.hs (14,s) 0 R.length cap, .fn (.func 52) [] []]) ([((2,nx+1),Own.c J8),((1,nx4+1), .c [u32 (codeA (Jc p).dflt:Nat),Jb (Jc p).x32,Ja 10 (st1 0),Ja 11 (st1 1),Ja 12 (st1 2),Ja 13 (st1 3), .hs (14,s) 0 R.length cap,Ja 15 (st1 5),Ja 16 (st1 6)]),((0,nx4), .c [int (Jc p).dflt.1,int (Jc p).dflt.2,Jb (Jc p).x32,Ji (Jc p).rules])]++Jp 4 st1) [] 20 rfl rfl rfl rfl ⟨Rf,Rf,trivial⟩ (JdC (D:=R) (tl:=tl) (nm:=14) (s:=s) (cap:=cap) (nx:=nx5) (nn:=20) hR.1 hR.2) Bf trivial rfl fun r h' hq=> ?_
         obtain ⟨rfl,cs',⟨D,hp1,hp2,rfl⟩,rfl⟩:=hq
         refine stp ?_
         exact back (5,JC st1 4 (D,some (s,cap,tl)),nx5) ⟨by dsimp only;omega,Jeg Dc hS hk hp1 hp2⟩ Dm (Jr (pm:= []) (bx:=LpB nx nx4 p (JC st1 4 (D,some (s,cap,tl)))) (L:= [(4, .bp (2,nx+1) 0),(5,int 0),(6,int 0),(13, .bp (1,nx4+1) 0),(112,int (5:Nat))]) _ _ [] rfl rfl (Jeh (F:= [((2,nx+1),Own.c J8),((1,nx4+1), .c [u32 (codeA (Jc p).dflt:Nat),Jb (Jc p).x32,Ja 10 (st1 0),Ja 11 (st1 1),Ja 12 (st1 2),Ja 13 (st1 3), .hs (14,s) 0 R.length cap,Ja 15 (st1 5),Ja 16 (st1 6)]),((0,nx4), .c [int (Jc p).dflt.1,int (Jc p).dflt.2,Jb (Jc p).x32,Ji (Jc p).rules])]) (k:=4) Dc).symm Sf Sf (JcM (by rw [Je4 (st:=st1) (k:=4) (by rw [hk];show AV.hs _ 0 D.length cap=AV.hs _ 0 R.length cap;rw [hp1.length_eq]),eo])) trivial ⟨Rf,Rf,Rf,Rf,Jl rfl,trivial⟩)
       ·refine stp ?_
        exact ⟨(st1,nx5),hS,Et rfl rfl Bf trivial ⟨Rf,Rf,Rf,Rf,trivial⟩⟩
     rintro ⟨st0,nx5⟩ hS0
     dsimp only at hS0
     refine stp ?_
     refine Jan (fun y:(Nat→J0)×Nat=> mk 131 [(4, .bp (2,nx+1) 0),(5,int 0),(6,int 0),(13, .bp (1,nx4+1) 0)] ⟨LpB nx nx4 p y.1, [],y.2,20⟩) (fun y=> LpS 7 st y.1) ?_ ?_
     ·refine Jo (fun y:Nat×(Nat→J0)×Nat=> mk 131 [(4, .bp (2,nx+1) 0),(5,int 0),(6,int 0),(13, .bp (1,nx4+1) 0),(121,int y.1)] ⟨LpB nx nx4 p y.2.1, [],y.2.2,20⟩) (fun y=> y.1≤2∧LpS (5+y.1) st y.2.1) (fun y=> 2 - y.1) ?_ ?_
      ·exact ⟨(0,st0,nx5),⟨Nat.zero_le _,hS0⟩,Et rfl rfl Bf trivial ⟨Rf,Rf,Rf,Rf,Rf,trivial⟩⟩
      ·rintro ⟨a,st1,nx5⟩ ⟨ha,hS⟩
       dsimp only at ha hS
       rcases (by omega:a=0∨a=1∨a=2) with rfl | rfl | rfl
       ·rcases hk:st1 5 with ⟨R,_ | ⟨s,cap,tl⟩⟩
        ·have hR:R= []:=by have:=hS.2.1 5 Dc;rw [hk] at this;exact this
         have hN0:(st1 5).1= []:=by rw [hk];exact hR
         have eo:Js (codeA (Jc p).dflt) (Jc p).x32 st1= [u32 (codeA (Jc p).dflt:Nat),Jb (Jc p).x32,Ja 10 (st1 0),Ja 11 (st1 1),Ja 12 (st1 2),Ja 13 (st1 3),Ja 14 (st1 4), .os 0 0 (fun _=> .any) none,Ja 16 (st1 6)]:=by simp only [Js,hk,Ja]
         refine AW.le (Et (n:=131) (nn:=20) (pm:= []) (bx:= [((2,nx+1),Own.c J8),((1,nx4+1), .c [u32 (codeA (Jc p).dflt:Nat),Jb (Jc p).x32,Ja 10 (st1 0),Ja 11 (st1 1),Ja 12 (st1 2),Ja 13 (st1 3),Ja 14 (st1 4), .os 0 0 (fun _=> .any) none,Ja 16 (st1 6)]),((0,nx4), .c [int (Jc p).dflt.1,int (Jc p).dflt.2,Jb (Jc p).x32,Ji (Jc p).rules])]++JG st1) (L:= [(4, .bp (2,nx+1) 0),(5,int 0),(6,int 0),(13, .bp (1,nx4+1) 0),(121,int (0:Nat))]) rfl rfl (JcL eo) trivial ⟨Rf,Rf,Rf,Rf,Rf,trivial⟩) ?_
         refine stp ?_
         refine Je rfl rfl (Jjq 55) ⟨AVle.os_nil,Rf,trivial⟩ fun nx6=> ?_
         refine stp ?_
         exact back (1,st1,nx6) ⟨by dsimp only;omega,Jef Dc hS hN0⟩ Dm (Et (bx:=LpB nx nx4 p st1) rfl rfl (JcM eo.symm) trivial ⟨Rf,Rf,Rf,Rf,Jl rfl,trivial⟩)
        ·have eo:Js (codeA (Jc p).dflt) (Jc p).x32 st1= [u32 (codeA (Jc p).dflt:Nat),Jb (Jc p).x32,Ja 10 (st1 0),Ja 11 (st1 1),Ja 12 (st1 2),Ja 13 (st1 3),Ja 14 (st1 4), .hs (15,s) 0 R.length cap,Ja 16 (st1 6)]:=by simp only [Js,hk,Ja]
         refine AW.le (Jr (n:=131) (nn:=20) (pm:= []) (bx:=([((2,nx+1),Own.c J8),((1,nx4+1), .c [u32 (codeA (Jc p).dflt:Nat),Jb (Jc p).x32,Ja 10 (st1 0),Ja 11 (st1 1),Ja 12 (st1 2),Ja 13 (st1 3),Ja 14 (st1 4), .hs (15,s) 0 R.length cap,Ja 16 (st1 6)]),((0,nx4), .c [int (Jc p).dflt.1,int (Jc p).dflt.2,Jb (Jc p).x32,Ji (Jc p).rules])]++Jp 5 st1)++ [((15,s),Own.c (JA R++tl))]) (L:= [(4, .bp (2,nx+1) 0),(5,int 0),(6,int 0),(13, .bp (1,nx4+1) 0),(121,int (0:Nat))]) _ _ [] rfl rfl (Je5 (F:= [((2,nx+1),Own.c J8),((1,nx4+1), .c (Js (codeA (Jc p).dflt) (Jc p).x32 st1)),((0,nx4), .c [int (Jc p).dflt.1,int (Jc p).dflt.2,Jb (Jc p).x32,Ji (Jc p).rules])]) (k:=5) Dc hk) Sf Sf (by rw [List.append_assoc,List.append_assoc];exact JcL eo) trivial ⟨Rf,Rf,Rf,Rf,Rf,trivial⟩) ?_
         have hR:=hone 5 hS (R:=R) Dc (by rw [hk])
         refine stp ?_
         refine J1 (xs:= [.hs (15,s) 0 R.length cap, .fn (.func 55) [] []]) ([((2,nx+1),Own.c J8),((1,nx4+1), .c [u32 (codeA (Jc p).dflt:Nat),Jb (Jc p).x32,Ja 10 (st1 0),Ja 11 (st1 1),Ja 12 (st1 2),Ja 13 (st1 3),Ja 14 (st1 4), .hs (15,s) 0 R.length cap,Ja 16 (st1 6)]),((0,nx4), .c [int (Jc p).dflt.1,int (Jc p).dflt.2,Jb (Jc p).x32,Ji (Jc p).rules])]++Jp 5 st1) [] 20 rfl rfl rfl rfl ⟨Rf,Rf,trivial⟩ (Jio (D:=R) (tl:=tl) (nm:=15) (s:=s) (cap:=cap) (nx:=nx5) (nn:=20) hR.1 hR.2) Bf trivial rfl fun r h' hq=> ?_
         obtain ⟨rfl,cs',⟨D,hp1,hp2,rfl⟩,rfl⟩:=hq
         refine stp ?_
         exact back (1,JC st1 5 (D,some (s,cap,tl)),nx5) ⟨by dsimp only;omega,Jeg Dc hS hk hp1 hp2⟩ Dm (Jr (pm:= []) (bx:=LpB nx nx4 p (JC st1 5 (D,some (s,cap,tl)))) (L:= [(4, .bp (2,nx+1) 0),(5,int 0),(6,int 0),(13, .bp (1,nx4+1) 0),(121,int (1:Nat))]) _ _ [] rfl rfl (Jeh (F:= [((2,nx+1),Own.c J8),((1,nx4+1), .c [u32 (codeA (Jc p).dflt:Nat),Jb (Jc p).x32,Ja 10 (st1 0),Ja 11 (st1 1),Ja 12 (st1 2),Ja 13 (st1 3),Ja 14 (st1 4), .hs (15,s) 0 R.length cap,Ja 16 (st1 6)]),((0,nx4), .c [int (Jc p).dflt.1,int (Jc p).dflt.2,Jb (Jc p).x32,Ji (Jc p).rules])]) (k:=5) Dc).symm Sf Sf (JcM (by rw [Je4 (st:=st1) (k:=5) (by rw [hk];show AV.hs _ 0 D.length cap=AV.hs _ 0 R.length cap;rw [hp1.length_eq]),eo])) trivial ⟨Rf,Rf,Rf,Rf,Jl rfl,trivial⟩)
       ·rcases hk:st1 6 with ⟨R,_ | ⟨s,cap,tl⟩⟩
        ·have hR:R= []:=by have:=hS.2.1 6 Dc;rw [hk] at this;exact this
         have hN0:(st1 6).1= []:=by rw [hk];exact hR
         have eo:Js (codeA (Jc p).dflt) (Jc p).x32 st1= [u32 (codeA (Jc p).dflt:Nat),Jb (Jc p).x32,Ja 10 (st1 0),Ja 11 (st1 1),Ja 12 (st1 2),Ja 13 (st1 3),Ja 14 (st1 4),Ja 15 (st1 5), .os 0 0 (fun _=> .any) none]:=by simp only [Js,hk,Ja]
         refine AW.le (Et (n:=131) (nn:=20) (pm:= []) (bx:= [((2,nx+1),Own.c J8),((1,nx4+1), .c [u32 (codeA (Jc p).dflt:Nat),Jb (Jc p).x32,Ja 10 (st1 0),Ja 11 (st1 1),Ja 12 (st1 2),Ja 13 (st1 3),Ja 14 (st1 4),Ja 15 (st1 5), .os 0 0 (fun _=> .any) none]),((0,nx4), .c [int (Jc p).dflt.1,int (Jc p).dflt.2,Jb (Jc p).x32,Ji (Jc p).rules])]++JG st1) (L:= [(4, .bp (2,nx+1) 0),(5,int 0),(6,int 0),(13, .bp (1,nx4+1) 0),(121,int (1:Nat))]) rfl rfl (JcL eo) trivial ⟨Rf,Rf,Rf,Rf,Rf,trivial⟩) ?_
         refine stp ?_
         refine Je rfl rfl (Jjq 55) ⟨AVle.os_nil,Rf,trivial⟩ fun nx6=> ?_
         refine stp ?_
         exact back (2,st1,nx6) ⟨by dsimp only;omega,Jef Dc hS hN0⟩ Dm (Et (bx:=LpB nx nx4 p st1) rfl rfl (JcM eo.symm) trivial ⟨Rf,Rf,Rf,Rf,Jl rfl,trivial⟩)
        ·have eo:Js (codeA (Jc p).dflt) (Jc p).x32 st1= [u32 (codeA (Jc p).dflt:Nat),Jb (Jc p).x32,Ja 10 (st1 0),Ja 11 (st1 1),Ja 12 (st1 2),Ja 13 (st1 3),Ja 14 (st1 4),Ja 15 (st1 5), .hs (16,s) 0 R.length cap]:=by simp only [Js,hk,Ja]
         refine AW.le (Jr (n:=131) (nn:=20) (pm:= []) (bx:=([((2,nx+1),Own.c J8),((1,nx4+1), .c [u32 (codeA (Jc p).dflt:Nat),Jb (Jc p).x32,Ja 10 (st1 0),Ja 11 (st1 1),Ja 12 (st1 2),Ja 13 (st1 3),Ja 14 (st1 4),Ja 15 (st1 5), .hs (16,s) 0 R.length cap]),((0,nx4), .c [int (Jc p).dflt.1,int (Jc p).dflt.2,Jb (Jc p).x32,Ji (Jc p).rules])]++Jp 6 st1)++ [((16,s),Own.c (JA R++tl))]) (L:= [(4, .bp (2,nx+1) 0),(5,int 0),(6,int 0),(13, .bp (1,nx4+1) 0),(121,int (1:Nat))]) _ _ [] rfl rfl (Je5 (F:= [((2,nx+1),Own.c J8),((1,nx4+1), .c (Js (codeA (Jc p).dflt) (Jc p).x32 st1)),((0,nx4), .c [int (Jc p).dflt.1,int (Jc p).dflt.2,Jb (Jc p).x32,Ji (Jc p).rules])]) (k:=6) Dc hk) Sf Sf (by rw [List.append_assoc,List.append_assoc];exact JcL eo) trivial ⟨Rf,Rf,Rf,Rf,Rf,trivial⟩) ?_
         have hR:=hone 6 hS (R:=R) Dc (by rw [hk])
         refine stp ?_
         refine J1 (xs:= [.hs (16,s) 0 R.length cap, .fn (.func 55) [] []]) ([((2,nx+1),Own.c J8),((1,nx4+1), .c [u32 (codeA (Jc p).dflt:Nat),Jb (Jc p).x32,Ja 10 (st1 0),Ja 11 (st1 1),Ja 12 (st1 2),Ja 13 (st1 3),Ja 14 (st1 4),Ja 15 (st1 5), .hs (16,s) 0 R.length cap]),((0,nx4), .c [int (Jc p).dflt.1,int (Jc p).dflt.2,Jb (Jc p).x32,Ji (Jc p).rules])]++Jp 6 st1) [] 20 rfl rfl rfl rfl ⟨Rf,Rf,trivial⟩ (Jio (D:=R) (tl:=tl) (nm:=16) (s:=s) (cap:=cap) (nx:=nx5) (nn:=20) hR.1 hR.2) Bf trivial rfl fun r h' hq=> ?_
         obtain ⟨rfl,cs',⟨D,hp1,hp2,rfl⟩,rfl⟩:=hq
         refine stp ?_
         exact back (2,JC st1 6 (D,some (s,cap,tl)),nx5) ⟨by dsimp only;omega,Jeg Dc hS hk hp1 hp2⟩ Dm (Jr (pm:= []) (bx:=LpB nx nx4 p (JC st1 6 (D,some (s,cap,tl)))) (L:= [(4, .bp (2,nx+1) 0),(5,int 0),(6,int 0),(13, .bp (1,nx4+1) 0),(121,int (2:Nat))]) _ _ [] rfl rfl (Jeh (F:= [((2,nx+1),Own.c J8),((1,nx4+1), .c [u32 (codeA (Jc p).dflt:Nat),Jb (Jc p).x32,Ja 10 (st1 0),Ja 11 (st1 1),Ja 12 (st1 2),Ja 13 (st1 3),Ja 14 (st1 4),Ja 15 (st1 5), .hs (16,s) 0 R.length cap]),((0,nx4), .c [int (Jc p).dflt.1,int (Jc p).dflt.2,Jb (Jc p).x32,Ji (Jc p).rules])]) (k:=6) Dc).symm Sf Sf (JcM (by rw [Je4 (st:=st1) (k:=6) (by rw [hk];show AV.hs _ 0 D.length cap=AV.hs _ 0 R.length cap;rw [hp1.length_eq]),eo])) trivial ⟨Rf,Rf,Rf,Rf,Jl rfl,trivial⟩)
       ·refine stp ?_
        exact ⟨(st1,nx5),hS,Et rfl rfl Bf trivial ⟨Rf,Rf,Rf,Rf,trivial⟩⟩
     rintro ⟨st2,nx5⟩ hS
     dsimp only at hS
     have hr:∀k,k < 5→(st2 k).1=((Jal p l).ents k).map JdD:=fun k hk=> JtT hv hk JdD (fun _=> rfl) (by rw [← hE.2.1 k hk];exact hS.2.2.1 k Om) (hS.2.2.2 k Om)
     have hr2:∀m,m < 2→(st2 (5+m)).1=((Jal p l).subs m).map Jar:=fun m hm=> JtU hv Jar (fun _=> rfl) (by rw [← hE.2.2 m hm];exact hS.2.2.1 (5+m) Om) (hS.2.2.2 (5+m) Om)
     have ho:=hS.2.1
     refine Jbq (n:=131) (nx:=nx5) (nn:=20) (pm:= []) (bx:= [((2,nx+1), .c J8)]) (df:=some []) (L:= [(4, .bp (2,nx+1) 0),(5,int 0),(6,int 0),(13, .rp [u32 (codeA (Jc p).dflt:Nat),Jb (Jc p).x32,JN 2 Jaf ent0 ((Jal p l).ents 0),JN 2 Jaf ent0 ((Jal p l).ents 1),JN 2 Jaf ent0 ((Jal p l).ents 2),JN 2 Jaf ent0 ((Jal p l).ents 3),JN 2 Jaf ent0 ((Jal p l).ents 4),JN 2 JdT sub0 ((Jal p l).subs 0),JN 2 JdT sub0 ((Jal p l).subs 1)])]) ([((1,nx4+1),Own.c (Js (codeA (Jc p).dflt) (Jc p).x32 st2)),((0,nx4),Own.c [int (Jc p).dflt.1,int (Jc p).dflt.2,Jb (Jc p).x32,Ji (Jc p).rules])]++JG st2) rfl rfl rfl JvM Sf ⟨Frz.refl _,Frz.refl _,Frz.refl _,Frz.bpL (cs:=Js (codeA (Jc p).dflt) (Jc p).x32 st2) (.head _) ⟨Frz.refl _,Frz.refl _,Jg7 (ho 0 Dc) (hr 0 Dc) (Jgn (j:=0) Dc),Jg7 (ho 1 Dc) (hr 1 Dc) (Jgn (j:=1) Dc),Jg7 (ho 2 Dc) (hr 2 Dc) (Jgn (j:=2) Dc),Jg7 (ho 3 Dc) (hr 3 Dc) (Jgn (j:=3) Dc),Jg7 (ho 4 Dc) (hr 4 Dc) (Jgn (j:=4) Dc),JqL (ho 5 Dc) (hr2 0 Dc) (Jgn (j:=5) Dc),JqL (ho 6 Dc) (hr2 1 Dc) (Jgn (j:=6) Dc),trivial⟩,trivial⟩ ?_
     refine stp ?_
     exact Jh rfl ⟨rfl,trivial⟩ Rf
 ·rw [if_pos hv]
  generalize (JR p l).1=v1 at hV⊢
  generalize (JR p l).2=v2 at hV hv⊢
  refine Jf Tryz.func12 rfl rfl fun nx=> ?_
  refine stp ?_
  refine Je rfl rfl hV ⟨Rf,Rf,trivial⟩ fun nx2=> ?_
  refine stp ?_
  intro c hc
  obtain rfl:c=true:=by rw [hc];simpa using hv
  refine stp ?_
  exact Jh rfl ⟨rfl,trivial⟩ (AVle.tups (cs:= [_,_,_]) ⟨Jo6,Rf,Rf,trivial⟩)
end Go.Proofs.W

namespace Go.Proofs.W
open Go.Vl
set_option maxRecDepth 100000
theorem Jyx:JR pAw builtL=(0,0):=by kernel_rfl
theorem Jyy:pAw.rules.findIdx? (Jca builtL)=none:=by kernel_rfl
def eK (n:Nat):List PEnt:= [⟨n, [⟨[],2147418112⟩]⟩]
theorem JyS:Jbk (Jc pAw) builtL (JM (Jc pAw).rules) 0=eK 0:=by kernel_rfl
theorem JyT:Jbk (Jc pAw) builtL (JM (Jc pAw).rules) 1= []:=by kernel_rfl
theorem JyU:Jbk (Jc pAw) builtL (JM (Jc pAw).rules) 2=eK 3:=by kernel_rfl
theorem JyV:Jbk (Jc pAw) builtL (JM (Jc pAw).rules) 3=eK 63:=by kernel_rfl
theorem JyW:Jbk (Jc pAw) builtL (JM (Jc pAw).rules) 4=eK 63:=by kernel_rfl
theorem JyX:Jce builtL (JM (Jc pAw).rules) 0= []:=by kernel_rfl
theorem JyY:Jce builtL (JM (Jc pAw).rules) 1= []:=by kernel_rfl
theorem JiU (e:PEnt):Jfi [e]= [e]:=List.mergeSort_singleton _
theorem Jw9:Jfi []= []:=List.mergeSort_nil
theorem JqM:JiM []= []:=List.mergeSort_nil
theorem Jx3:JlH pAw builtL= .tup [.ag [u32 2147483648,Jb false,JN 2 Jaf ent0 (eK 0),JN 2 Jaf ent0 [],JN 2 Jaf ent0 (eK 3),JN 2 Jaf ent0 (eK 63),JN 2 Jaf ent0 (eK 63),JN 2 JdT sub0 [],JN 2 JdT sub0 []],int 0,int 0]:=by
 unfold JlH
 rw [Jyx,if_neg Dc,Jyy]
 show AV.tup [JfO (Jal pAw builtL),_,_]=_
 have h0:(Jal pAw builtL).ents 0=eK 0:=by show Jfi (Jbk (Jc pAw) builtL (JM (Jc pAw).rules) 0)=_;rw [JyS];exact JiU _
 have h1:(Jal pAw builtL).ents 1= []:=by show Jfi (Jbk (Jc pAw) builtL (JM (Jc pAw).rules) 1)=_;rw [JyT];exact Jw9
 have h2:(Jal pAw builtL).ents 2=eK 3:=by show Jfi (Jbk (Jc pAw) builtL (JM (Jc pAw).rules) 2)=_;rw [JyU];exact JiU _
 have h3:(Jal pAw builtL).ents 3=eK 63:=by show Jfi (Jbk (Jc pAw) builtL (JM (Jc pAw).rules) 3)=_;rw [JyV];exact JiU _
 have h4:(Jal pAw builtL).ents 4=eK 63:=by show Jfi (Jbk (Jc pAw) builtL (JM (Jc pAw).rules) 4)=_;rw [JyW];exact JiU _
 have s0:(Jal pAw builtL).subs 0= []:=by show JiM (Jce builtL (JM (Jc pAw).rules) 0)=_;rw [JyX];exact JqM
 have s1:(Jal pAw builtL).subs 1= []:=by show JiM (Jce builtL (JM (Jc pAw).rules) 1)=_;rw [JyY];exact JqM
 unfold JfO
 rw [h0,h1,h2,h3,h4,s0,s1]
 rfl
theorem JpX:builtL.length≤1000000:=Nat.le_of_ble_eq_true (by kernel_rfl)
theorem Jnc:∀r∈builtL,r.name.size≤maxLen:=fun r hr=> by
 have:(builtL.all fun r=> decide (r.name.size≤1000))=true:=by kernel_rfl
 have:=of_decide_eq_true (List.all_eq_true.1 this r hr)
 exact Nat.le_trans this Dc
theorem Jsp (l:List PRul):NoId (Jx l):=NoId.sl fun i _ c hc=> by
 have hc:c∈ [JW (l.getD i Jw).conds,u32 ((l.getD i Jw).code:Nat)]:=hc
 simp only [List.mem_cons,List.not_mem_nil,or_false] at hc
 rcases hc with rfl | rfl
 ·exact JgR _
 ·exact NoId.v _
theorem Jfw (l:List PEnt):NoId (JN 2 Jaf ent0 l):=NoId.sl fun i _ c hc=> by
 have hc:c∈ [u32 ((l.getD i ent0).num:Nat),Jx (l.getD i ent0).rules]:=hc
 simp only [List.mem_cons,List.not_mem_nil,or_false] at hc
 rcases hc with rfl | rfl
 ·exact NoId.v _
 ·exact Jsp _
theorem JmO (l:List PSub):NoId (JN 2 JdT sub0 l):=NoId.sl fun i _ c hc=> by
 have hc:c∈ [u32 ((l.getD i sub0).num:Nat),u32 ((l.getD i sub0).code:Nat)]:=hc
 simp only [List.mem_cons,List.not_mem_nil,or_false] at hc
 rcases hc with rfl | rfl <;> exact NoId.v _
def Jav (P:Plan):List AV:= [u32 (P.dflt:Nat),Jb P.x32,JN 2 Jaf ent0 (P.ents 0),JN 2 Jaf ent0 (P.ents 1),JN 2 Jaf ent0 (P.ents 2),JN 2 Jaf ent0 (P.ents 3),JN 2 Jaf ent0 (P.ents 4),JN 2 JdT sub0 (P.subs 0),JN 2 JdT sub0 (P.subs 1)]
theorem Jun (P:Plan) (i e:Int):NoId (.tup [.ag (Jav P),int i,int e]):=NoId.tup fun y hy=> by
 simp only [List.mem_cons,List.not_mem_nil,or_false] at hy
 rcases hy with rfl | rfl | rfl
 ·refine NoId.ag fun z hz=> ?_
  unfold Jav at hz
  simp only [List.mem_cons,List.not_mem_nil,or_false] at hz
  rcases hz with rfl | rfl | rfl | rfl | rfl | rfl | rfl | rfl | rfl
  ·exact NoId.v _
  ·exact NoId.v _
  ·exact Jfw _
  ·exact Jfw _
  ·exact Jfw _
  ·exact Jfw _
  ·exact Jfw _
  ·exact JmO _
  ·exact JmO _
 ·exact NoId.v _
 ·exact NoId.v _
def Jc1:Plan:=⟨2147483648,false,fun a=> match a with | 0=> eK 0 | 1=> [] | 2=> eK 3 | 3=> eK 63 | _=> eK 63,fun _=> []⟩
theorem Jxa:JlH pAw builtL= .tup [.ag (Jav Jc1),int 0,int 0]:=Jx3
set_option maxHeartbeats 8000000 in
theorem Jiq:Tells Tryz.prog 28 [] (Jb true):=by
 have hb:=JoU
 have h1:=Jip pAw builtL JwX (fun r hr=> by simp only [pAw,List.mem_cons,List.not_mem_nil,or_false] at hr;subst hr;exact ⟨by decide,by decide⟩) JpX Jnc
 rw [Jxa] at h1
 generalize builtL=B at hb h1
 refine Jf Tryz.func28 rfl rfl fun nx=> ?_
 refine stp ?_
 refine Je rfl rfl JrG ⟨Rf,trivial⟩ fun nx2=> ?_
 refine stp ?_
 refine JZ 10 _ (fun i=> match i with | 7=> true | 8=> true | _=> false) (fun i=> match i with | 1=> true | 2=> true | _=> false) [0,1,2,3,4,5,6,7,8,9] (by kernel_rfl) (by kernel_rfl) (HB.refl _) ?_
 refine stp ?_
 refine ⟨_,Jao rfl rfl rfl hb trivial (Jr6 _), ?_⟩
 refine stp ?_
 refine ⟨_,Jao rfl rfl rfl h1 ⟨Rf,Rf,trivial⟩ (Jun _ _ _), ?_⟩
 refine stp ?_
 refine ⟨_,Jh2 (cs:=J8) rfl rfl (by kernel_rfl) (HB.one rfl),fun r' h' hr=> ?_⟩
 obtain ⟨rfl,rfl⟩:=hr
 (conv=> whnf)
 refine ⟨_,JlS (i:=(1,nx2+1)) (off:=0) (cs:=J8) rfl rfl rfl rfl rfl rfl rfl (by kernel_rfl) (by kernel_rfl) (by show 0+9≤9;omega) (HB.one rfl),fun r' h' hr=> ?_⟩
 obtain rfl:=hr
 refine stp ?_
 refine Jan (fun y:Nat=> mk 75 [(3,int 0),(4, .bp (0,nx2+1) 0),(6,int 0)] ⟨[((0,nx2+1), .c (Jav Jc1))], [],y,3⟩) (fun _=> True) ?_ ?_
 ·refine Jo (fun y:Nat×Nat=> mk 75 [(3,int 0),(4, .bp (0,nx2+1) 0),(6,int 0),(7, .bp (1,nx2+2) 0),(8,int y.1)] ⟨[((1,nx2+2), .c [int 1,int 0,int 1,int 1,int 1]),((0,nx2+1), .c (Jav Jc1))], [],y.2,3⟩) (fun y=> y.1≤5) (fun y=> 5 - y.1) ?_ ?_
  ·exact ⟨(0,nx2+3),Nat.zero_le _,Jk (pm:= []) _ _ rfl rfl (.cons_cons _ (.cons_cons _ (.cons _ .slnil))) Sf ⟨rfl,OwnLe.refl _,rfl,OwnLe.refl _,trivial⟩ trivial ⟨Rf,AVle.bp_nm rfl,Rf,AVle.bp_nm rfl,Rf,trivial⟩⟩
  ·rintro ⟨a,nx4⟩ ha
   dsimp only at ha
   rcases (by omega:a=0∨a=1∨a=2∨a=3∨a=4∨a=5) with rfl | rfl | rfl | rfl | rfl | rfl
   ·refine AW.le (Et (n:=75) (nn:=3) (pm:= []) (bx:= [((1,nx2+2), .c [int 1,int 0,int 1,int 1,int 1]),((0,nx2+1), .c (Jav Jc1))]) (L:= [(3,int 0),(4, .bp (0,nx2+1) 0),(6,int 0),(7, .bp (1,nx2+2) 0),(8,int (0:Nat))]) rfl rfl Bf trivial ⟨Rf,Rf,Rf,Rf,Rf,trivial⟩) ?_
    refine stp ?_
    (refine Ju 9 ?_ ?_ ?_ ?_;(· kernel_rfl);(· kernel_rfl);(· kernel_rfl))
    refine stp ?_
    exact back (1,nx4) Dm Dm (Et (pm:= []) (bx:= [((1,nx2+2), .c [int 1,int 0,int 1,int 1,int 1]),((0,nx2+1), .c (Jav Jc1))]) rfl rfl Bf trivial ⟨Rf,Rf,Rf,Rf,Jl rfl,trivial⟩)
   ·refine AW.le (Et (n:=75) (nn:=3) (pm:= []) (bx:= [((1,nx2+2), .c [int 1,int 0,int 1,int 1,int 1]),((0,nx2+1), .c (Jav Jc1))]) (L:= [(3,int 0),(4, .bp (0,nx2+1) 0),(6,int 0),(7, .bp (1,nx2+2) 0),(8,int (1:Nat))]) rfl rfl Bf trivial ⟨Rf,Rf,Rf,Rf,Rf,trivial⟩) ?_
    refine stp ?_
    (refine Ju 9 ?_ ?_ ?_ ?_;(· kernel_rfl);(· kernel_rfl);(· kernel_rfl))
    refine stp ?_
    exact back (2,nx4) Dm Dm (Et (pm:= []) (bx:= [((1,nx2+2), .c [int 1,int 0,int 1,int 1,int 1]),((0,nx2+1), .c (Jav Jc1))]) rfl rfl Bf trivial ⟨Rf,Rf,Rf,Rf,Jl rfl,trivial⟩)
   ·refine AW.le (Et (n:=75) (nn:=3) (pm:= []) (bx:= [((1,nx2+2), .c [int 1,int 0,int 1,int 1,int 1]),((0,nx2+1), .c (Jav Jc1))]) (L:= [(3,int 0),(4, .bp (0,nx2+1) 0),(6,int 0),(7, .bp (1,nx2+2) 0),(8,int (2:Nat))]) rfl rfl Bf trivial ⟨Rf,Rf,Rf,Rf,Rf,trivial⟩) ?_
    refine stp ?_
    (refine Ju 9 ?_ ?_ ?_ ?_;(· kernel_rfl);(· kernel_rfl);(· kernel_rfl))
    refine stp ?_
    exact back (3,nx4) Dm Dm (Et (pm:= []) (bx:= [((1,nx2+2), .c [int 1,int 0,int 1,int 1,int 1]),((0,nx2+1), .c (Jav Jc1))]) rfl rfl Bf trivial ⟨Rf,Rf,Rf,Rf,Jl rfl,trivial⟩)
   ·refine AW.le (Et (n:=75) (nn:=3) (pm:= []) (bx:= [((1,nx2+2), .c [int 1,int 0,int 1,int 1,int 1]),((0,nx2+1), .c (Jav Jc1))]) (L:= [(3,int 0),(4, .bp (0,nx2+1) 0),(6,int 0),(7, .bp (1,nx2+2) 0),(8,int (3:Nat))]) rfl rfl Bf trivial ⟨Rf,Rf,Rf,Rf,Rf,trivial⟩) ?_
    refine stp ?_
    (refine Ju 9 ?_ ?_ ?_ ?_;(· kernel_rfl);(· kernel_rfl);(· kernel_rfl))
    refine stp ?_
    exact back (4,nx4) Dm Dm (Et (pm:= []) (bx:= [((1,nx2+2), .c [int 1,int 0,int 1,int 1,int 1]),((0,nx2+1), .c (Jav Jc1))]) rfl rfl Bf trivial ⟨Rf,Rf,Rf,Rf,Jl rfl,trivial⟩)
   ·refine AW.le (Et (n:=75) (nn:=3) (pm:= []) (bx:= [((1,nx2+2), .c [int 1,int 0,int 1,int 1,int 1]),((0,nx2+1), .c (Jav Jc1))]) (L:= [(3,int 0),(4, .bp (0,nx2+1) 0),(6,int 0),(7, .bp (1,nx2+2) 0),(8,int (4:Nat))]) rfl rfl Bf trivial ⟨Rf,Rf,Rf,Rf,Rf,trivial⟩) ?_
    refine stp ?_
    (refine Ju 9 ?_ ?_ ?_ ?_;(· kernel_rfl);(· kernel_rfl);(· kernel_rfl))
    refine stp ?_
    exact back (5,nx4) Dm Dm (Et (pm:= []) (bx:= [((1,nx2+2), .c [int 1,int 0,int 1,int 1,int 1]),((0,nx2+1), .c (Jav Jc1))]) rfl rfl Bf trivial ⟨Rf,Rf,Rf,Rf,Jl rfl,trivial⟩)
   ·refine stp ?_
    exact ⟨nx4,trivial,Jk (pm:= []) _ _ rfl rfl (.cons _ Sf) Sf Bf trivial ⟨Rf,Rf,Rf,trivial⟩⟩
 ·rintro nx4 -
  refine stp ?_
  exact Jd rfl Rf
end Go.Proofs.W

namespace Go.Proofs.W
open Go.Vl
set_option maxRecDepth 100000
theorem JkZ (r:Rul):NoId (.ag [Jg r.name,int r.act.1,int r.act.2,JW r.conds]):=NoId.ag (by
 intro y hy
 simp only [List.mem_cons,List.not_mem_nil,or_false] at hy
 rcases hy with rfl | rfl | rfl | rfl
 ·exact NoId.v _
 ·exact NoId.v _
 ·exact NoId.v _
 ·refine NoId.sl fun i hi c hc=> ?_
  simp only [JD,AV.cells,List.mem_cons,List.not_mem_nil,or_false] at hc
  rcases hc with rfl | rfl | rfl | rfl <;> exact NoId.v _)
theorem JhM:Tryz.prog.bytesOf 86=32:=by kernel_rfl
theorem Jd7:Tryz.prog.bytesOf 123=56:=by kernel_rfl
theorem JmP (c:Cnd):Tells Tryz.prog 36 [JD c] (JD c):=by
 refine Jf Tryz.func36 rfl rfl fun nx=> ?_
 refine stp ?_
 exact Jh rfl ⟨rfl,trivial⟩ Rf
set_option maxHeartbeats 1000000 in
theorem Jo9 (nm:ByteArray) (k n:Int) (cs:List Cnd) (hl:cs.length≤1000000):Tells Tryz.prog 76 [.ag [Jg nm,int k,int n,JW cs]] (.ag [Jg nm,int k,int n,JW cs]):=by
 refine Jf Tryz.func76 rfl rfl fun nx=> ?_
 refine stp ?_
 refine Jo (fun s:Nat×Option Nat×Nat=> mk 34 [(1, .bp (0,nx) 0),(2, .bp (1,nx+1) 0),(3, .bp (2,nx+2) 0),(4,int s.1)] ⟨[((2,nx+2), .c [Jg nm,int k,int n, .os 4 s.1 (fun j=> JD (cs.getD j cnd0)) (nmd s.2.1)]),((1,nx+1), .c [Jg ⟨#[]⟩,int 0,int 0, .os 0 0 (fun _=> .any) none]),((0,nx), .c [Jg nm,int k,int n,JW cs])],Jad (nmd s.2.1) (s.1 * 4),s.2.2,3⟩) (fun s=> s.1≤cs.length∧(s.2.1=none→s.1=0)) (fun s=> cs.length - s.1) ?_ ?_
 ·exact ⟨(0,none,nx+3),⟨Nat.zero_le _,fun _=> rfl⟩,Jk (pm:= []) _ [] rfl rfl Sf Sf ⟨rfl,⟨Rf,Rf,Rf,AVle.os_nil,trivial⟩,rfl,OwnLe.refl _,rfl,OwnLe.refl _,trivial⟩ trivial ⟨Rf,Rf,Rf,Rf,trivial⟩⟩
 ·rintro ⟨i,oi,nx2⟩ ⟨h3,h4⟩
  dsimp only at h3 h4
  refine stp ?_
  intro c h5;cases c
  ·have h6:=Jm h5
   dsimp only at h6
   obtain rfl:i=cs.length:=by omega
   refine stp ?_
   exact Jh rfl ⟨rfl,trivial⟩ (AVle.ags ⟨Rf,Rf,Rf,AVle.os_sl,trivial⟩)
  ·have h6:=Jn h5
   dsimp only at h6
   have hi:i < cs.length:=by omega
   have hcall:=JmP (cs.getD i cnd0)
   refine stp ?_
   refine JZ 11 [((2,nx+2), .c [Jg nm,int k,int n, .os 4 i (fun j=> JD (cs.getD j cnd0)) (nmd oi)]),((1,nx+1), .c [Jg ⟨#[]⟩,int 0,int 0, .os 0 0 (fun _=> .any) none]),((0,nx), .c [Jg nm,int k,int n,JW cs])] (fun i=> match i with | 9=> true | _=> false) (fun i=> match i with | 7=> true | _=> false) [0,1,2,3,4,5,6,7,8,9,10] (by kernel_rfl) (by kernel_rfl) (HB.refl _) ?_
   refine stp ?_
   refine ⟨⟨by dsimp only;omega,by dsimp only;omega⟩, ?_⟩
   refine stp ?_
   refine ⟨_,Jao rfl rfl rfl hcall ⟨Rf,trivial⟩ (Jl5 _), ?_⟩
   refine stp ?_
   rcases oi with _ | id
   ·obtain rfl:=h4 rfl
    refine ⟨_,Jbe (e:=86) (c:=4) (pm:= []) (n:=0) (oi:=none) (sz:=4) (f:=fun j=> JD (cs.getD j cnd0)) (HB.refl _) rfl rfl rfl (.inr ⟨_,rfl⟩) (by kernel_rfl) (by kernel_rfl) (by kernel_rfl) (.inr rfl) (by kernel_rfl) (List.append_nil _).symm (Jy rfl) (by rw [JhM];omega) Om,fun r h' hr=> ?_⟩
    obtain ⟨rfl,rfl⟩:=hr
    refine stp ?_
    refine back (0+1,some nx2,nx2+1) ⟨by dsimp only;omega,(fun h=> by cases h)⟩ Dm (Et (pm:= [((0,nx2),(0+1) * 4)]) rfl rfl ⟨rfl,⟨Rf,Rf,Rf,(AVle.os_fun (Jb5 (fun k h=> absurd h (Nat.not_lt_zero k)) ?_)).trans (AVle.os_nm rfl),trivial⟩,rfl,OwnLe.refl _,rfl,OwnLe.refl _,trivial⟩ ⟨rfl,rfl,trivial⟩ ⟨Rf,Rf,Rf,Jl (JF Dm),trivial⟩)
    rfl
   ·refine ⟨_,Jbe (e:=86) (c:=4) (pm:= []) (n:=i) (oi:=some (0,id)) (sz:=4) (f:=fun j=> JD (cs.getD j cnd0)) (HB.refl _) rfl rfl rfl (.inr ⟨_,rfl⟩) (by kernel_rfl) (by kernel_rfl) (by kernel_rfl) (.inr rfl) (by kernel_rfl) (List.append_nil _).symm (Jy rfl) (by rw [JhM];omega) Om,fun r h' hr=> ?_⟩
    obtain ⟨rfl,rfl⟩:=hr
    refine stp ?_
    refine back (i+1,some nx2,nx2+1) ⟨by dsimp only;omega,(fun h=> by cases h)⟩ Dm (Et (pm:= [((0,nx2),(i+1) * 4)]) rfl rfl ⟨rfl,⟨Rf,Rf,Rf,(AVle.os_fun (Jb5 (fun k hk=> rfl) ?_)).trans (AVle.os_nm rfl),trivial⟩,rfl,OwnLe.refl _,rfl,OwnLe.refl _,trivial⟩ ⟨rfl,rfl,trivial⟩ ⟨Rf,Rf,Rf,Jl (JF Dm),trivial⟩)
    rfl
set_option maxHeartbeats 1000000 in
theorem Jxb (k n:Int) (rs:List Rul) (hl:rs.length≤1000000) (hc:∀r∈rs,r.conds.length≤1000000):Tells Tryz.prog 24 [.ag [int k,int n,Jb true,Ji rs]] (.ag [int k,int n,Jb true,Ji rs]):=by
 refine Jf Tryz.func24 rfl rfl fun nx=> ?_
 refine stp ?_
 refine Jo (fun s:Nat×Option Nat×Nat=> mk 34 [(1, .bp (0,nx) 0),(2, .bp (1,nx+1) 0),(3, .bp (2,nx+2) 0),(4,int s.1)] ⟨[((2,nx+2), .c [int k,int n,Jb true, .os 4 s.1 (fun j=> Jaj (rs.getD j rul0)) (nmd s.2.1)]),((1,nx+1), .c [int 0,int 0,Jb false, .os 0 0 (fun _=> .any) none]),((0,nx), .c [int k,int n,Jb true,Ji rs])],Jad (nmd s.2.1) (s.1 * 4),s.2.2,3⟩) (fun s=> s.1≤rs.length∧(s.2.1=none→s.1=0)) (fun s=> rs.length - s.1) ?_ ?_
 ·exact ⟨(0,none,nx+3),⟨Nat.zero_le _,fun _=> rfl⟩,Jk (pm:= []) _ [] rfl rfl Sf Sf ⟨rfl,⟨Rf,Rf,Rf,AVle.os_nil,trivial⟩,rfl,OwnLe.refl _,rfl,OwnLe.refl _,trivial⟩ trivial ⟨Rf,Rf,Rf,Rf,trivial⟩⟩
 ·rintro ⟨i,oi,nx2⟩ ⟨h3,h4⟩
  dsimp only at h3 h4
  refine stp ?_
  intro c h5;cases c
  ·have h6:=Jm h5
   dsimp only at h6
   obtain rfl:i=rs.length:=by omega
   refine stp ?_
   exact Jh rfl ⟨rfl,trivial⟩ (AVle.ags ⟨Rf,Rf,Rf,AVle.os_sl,trivial⟩)
  ·have h6:=Jn h5
   dsimp only at h6
   have hi:i < rs.length:=by omega
   have hcall:=Jo9 (rs.getD i rul0).name (rs.getD i rul0).act.1 (rs.getD i rul0).act.2 (rs.getD i rul0).conds (hc _ (by simp [List.getD,hi]))
   refine stp ?_
   refine JZ 11 [((2,nx+2), .c [int k,int n,Jb true, .os 4 i (fun j=> Jaj (rs.getD j rul0)) (nmd oi)]),((1,nx+1), .c [int 0,int 0,Jb false, .os 0 0 (fun _=> .any) none]),((0,nx), .c [int k,int n,Jb true,Ji rs])] (fun i=> match i with | 9=> true | _=> false) (fun i=> match i with | 7=> true | _=> false) [0,1,2,3,4,5,6,7,8,9,10] (by kernel_rfl) (by kernel_rfl) (HB.refl _) ?_
   refine stp ?_
   refine ⟨⟨by dsimp only;omega,by dsimp only;omega⟩, ?_⟩
   refine stp ?_
   refine ⟨_,Jao rfl rfl rfl hcall ⟨Rf,trivial⟩ (JkZ (rs.getD i rul0)), ?_⟩
   refine stp ?_
   rcases oi with _ | id
   ·obtain rfl:=h4 rfl
    refine ⟨_,Jbe (e:=123) (c:=4) (pm:= []) (n:=0) (oi:=none) (sz:=4) (f:=fun j=> Jaj (rs.getD j rul0)) (HB.refl _) rfl rfl rfl (.inr ⟨_,rfl⟩) (by kernel_rfl) (by kernel_rfl) (by kernel_rfl) (.inr rfl) (by kernel_rfl) (List.append_nil _).symm (Jy rfl) (by rw [Jd7];omega) Om,fun r h' hr=> ?_⟩
    obtain ⟨rfl,rfl⟩:=hr
    refine stp ?_
    refine back (0+1,some nx2,nx2+1) ⟨by dsimp only;omega,(fun h=> by cases h)⟩ Dm (Et (pm:= [((0,nx2),(0+1) * 4)]) rfl rfl ⟨rfl,⟨Rf,Rf,Rf,(AVle.os_fun (Jb5 (fun k h=> absurd h (Nat.not_lt_zero k)) ?_)).trans (AVle.os_nm rfl),trivial⟩,rfl,OwnLe.refl _,rfl,OwnLe.refl _,trivial⟩ ⟨rfl,rfl,trivial⟩ ⟨Rf,Rf,Rf,Jl (JF Dm),trivial⟩)
    rfl
   ·refine ⟨_,Jbe (e:=123) (c:=4) (pm:= []) (n:=i) (oi:=some (0,id)) (sz:=4) (f:=fun j=> Jaj (rs.getD j rul0)) (HB.refl _) rfl rfl rfl (.inr ⟨_,rfl⟩) (by kernel_rfl) (by kernel_rfl) (by kernel_rfl) (.inr rfl) (by kernel_rfl) (List.append_nil _).symm (Jy rfl) (by rw [Jd7];omega) Om,fun r h' hr=> ?_⟩
    obtain ⟨rfl,rfl⟩:=hr
    refine stp ?_
    refine back (i+1,some nx2,nx2+1) ⟨by dsimp only;omega,(fun h=> by cases h)⟩ Dm (Et (pm:= [((0,nx2),(i+1) * 4)]) rfl rfl ⟨rfl,⟨Rf,Rf,Rf,(AVle.os_fun (Jb5 (fun k hk=> rfl) ?_)).trans (AVle.os_nm rfl),trivial⟩,rfl,OwnLe.refl _,rfl,OwnLe.refl _,trivial⟩ ⟨rfl,rfl,trivial⟩ ⟨Rf,Rf,Rf,Jl (JF Dm),trivial⟩)
    rfl
set_option maxHeartbeats 1000000 in
theorem Jxc (k n:Int) (rs:List Rul) (hl:rs.length≤1000000) (hc:∀r∈rs,r.conds.length≤1000000):Tells Tryz.prog 24 [.ag [int k,int n,Jb false,Ji rs]] (.ag [int k,int n,Jb false,Ji rs]):=by
 refine Jf Tryz.func24 rfl rfl fun nx=> ?_
 refine stp ?_
 refine Jo (fun s:Nat×Option Nat×Nat=> mk 34 [(1, .bp (0,nx) 0),(2, .bp (1,nx+1) 0),(3, .bp (2,nx+2) 0),(4,int s.1)] ⟨[((2,nx+2), .c [int k,int n,Jb false, .os 4 s.1 (fun j=> Jaj (rs.getD j rul0)) (nmd s.2.1)]),((1,nx+1), .c [int 0,int 0,Jb false, .os 0 0 (fun _=> .any) none]),((0,nx), .c [int k,int n,Jb false,Ji rs])],Jad (nmd s.2.1) (s.1 * 4),s.2.2,3⟩) (fun s=> s.1≤rs.length∧(s.2.1=none→s.1=0)) (fun s=> rs.length - s.1) ?_ ?_
 ·exact ⟨(0,none,nx+3),⟨Nat.zero_le _,fun _=> rfl⟩,Jk (pm:= []) _ [] rfl rfl Sf Sf ⟨rfl,⟨Rf,Rf,Rf,AVle.os_nil,trivial⟩,rfl,OwnLe.refl _,rfl,OwnLe.refl _,trivial⟩ trivial ⟨Rf,Rf,Rf,Rf,trivial⟩⟩
 ·rintro ⟨i,oi,nx2⟩ ⟨h3,h4⟩
  dsimp only at h3 h4
  refine stp ?_
  intro c h5;cases c
  ·have h6:=Jm h5
   dsimp only at h6
   obtain rfl:i=rs.length:=by omega
   refine stp ?_
   exact Jh rfl ⟨rfl,trivial⟩ (AVle.ags ⟨Rf,Rf,Rf,AVle.os_sl,trivial⟩)
  ·have h6:=Jn h5
   dsimp only at h6
   have hi:i < rs.length:=by omega
   have hcall:=Jo9 (rs.getD i rul0).name (rs.getD i rul0).act.1 (rs.getD i rul0).act.2 (rs.getD i rul0).conds (hc _ (by simp [List.getD,hi]))
   refine stp ?_
   refine JZ 11 [((2,nx+2), .c [int k,int n,Jb false, .os 4 i (fun j=> Jaj (rs.getD j rul0)) (nmd oi)]),((1,nx+1), .c [int 0,int 0,Jb false, .os 0 0 (fun _=> .any) none]),((0,nx), .c [int k,int n,Jb false,Ji rs])] (fun i=> match i with | 9=> true | _=> false) (fun i=> match i with | 7=> true | _=> false) [0,1,2,3,4,5,6,7,8,9,10] (by kernel_rfl) (by kernel_rfl) (HB.refl _) ?_
   refine stp ?_
   refine ⟨⟨by dsimp only;omega,by dsimp only;omega⟩, ?_⟩
   refine stp ?_
   refine ⟨_,Jao rfl rfl rfl hcall ⟨Rf,trivial⟩ (JkZ (rs.getD i rul0)), ?_⟩
   refine stp ?_
   rcases oi with _ | id
   ·obtain rfl:=h4 rfl
    refine ⟨_,Jbe (e:=123) (c:=4) (pm:= []) (n:=0) (oi:=none) (sz:=4) (f:=fun j=> Jaj (rs.getD j rul0)) (HB.refl _) rfl rfl rfl (.inr ⟨_,rfl⟩) (by kernel_rfl) (by kernel_rfl) (by kernel_rfl) (.inr rfl) (by kernel_rfl) (List.append_nil _).symm (Jy rfl) (by rw [Jd7];omega) Om,fun r h' hr=> ?_⟩
    obtain ⟨rfl,rfl⟩:=hr
    refine stp ?_
    refine back (0+1,some nx2,nx2+1) ⟨by dsimp only;omega,(fun h=> by cases h)⟩ Dm (Et (pm:= [((0,nx2),(0+1) * 4)]) rfl rfl ⟨rfl,⟨Rf,Rf,Rf,(AVle.os_fun (Jb5 (fun k h=> absurd h (Nat.not_lt_zero k)) ?_)).trans (AVle.os_nm rfl),trivial⟩,rfl,OwnLe.refl _,rfl,OwnLe.refl _,trivial⟩ ⟨rfl,rfl,trivial⟩ ⟨Rf,Rf,Rf,Jl (JF Dm),trivial⟩)
    rfl
   ·refine ⟨_,Jbe (e:=123) (c:=4) (pm:= []) (n:=i) (oi:=some (0,id)) (sz:=4) (f:=fun j=> Jaj (rs.getD j rul0)) (HB.refl _) rfl rfl rfl (.inr ⟨_,rfl⟩) (by kernel_rfl) (by kernel_rfl) (by kernel_rfl) (.inr rfl) (by kernel_rfl) (List.append_nil _).symm (Jy rfl) (by rw [Jd7];omega) Om,fun r h' hr=> ?_⟩
    obtain ⟨rfl,rfl⟩:=hr
    refine stp ?_
    refine back (i+1,some nx2,nx2+1) ⟨by dsimp only;omega,(fun h=> by cases h)⟩ Dm (Et (pm:= [((0,nx2),(i+1) * 4)]) rfl rfl ⟨rfl,⟨Rf,Rf,Rf,(AVle.os_fun (Jb5 (fun k hk=> rfl) ?_)).trans (AVle.os_nm rfl),trivial⟩,rfl,OwnLe.refl _,rfl,OwnLe.refl _,trivial⟩ ⟨rfl,rfl,trivial⟩ ⟨Rf,Rf,Rf,Jl (JF Dm),trivial⟩)
    rfl
theorem Jxd (p:Pol) (hl:p.rules.length≤1000000) (hc:∀r∈p.rules,r.conds.length≤1000000):Tells Tryz.prog 24 [JaL p] (JaL p):=by
 obtain ⟨⟨k,n⟩,x,rs⟩:=p
 cases x
 ·exact Jxc k n rs hl hc
 ·exact Jxb k n rs hl hc
end Go.Proofs.W

namespace Go.Proofs.W
open Go.Vl
set_option maxRecDepth 100000
theorem Juo (p:Pol) (hl:p.rules.length≤maxLen):Tells Tryz.prog 22 [JaL p] (Jb (Jfq p)):=by
 obtain ⟨⟨k,n⟩,x,rs⟩:=p
 dsimp only at hl
 refine Jf Tryz.func22 rfl rfl fun nx=> ?_
 refine stp ?_
 intro c g1;cases c
 rotate_left
 ·refine stp ?_
  have g1:((rs.length:Nat):Int) > 40:=Jn g1
  exact Jd rfl (Jt (by show false=(decide (rs.length≤40)&& _);rw [decide_eq_false Om];rfl))
 have g1:¬((rs.length:Nat):Int) > 40:=Jm g1
 have h40:rs.length≤40:=by omega
 refine stp ?_
 refine Jo (fun s:Nat×Nat=> mk 33 [(1, .bp (0,nx) 0),(3,int s.1)] ⟨[((0,nx), .c [int k,int n,Jb x,Ji rs])], [],s.2,1⟩) (fun s=> s.1≤rs.length∧∀j,j < s.1→JdY (rs.getD j rul0)=true) (fun s=> rs.length - s.1) ?_ ?_
 ·exact ⟨(0,nx+1),⟨Nat.zero_le _,fun j h=> absurd h (Nat.not_lt_zero _)⟩,Jk (pm:= []) _ [] rfl rfl Sf Sf ⟨rfl,OwnLe.refl _,trivial⟩ trivial ⟨Rf,Rf,trivial⟩⟩
 ·rintro ⟨i,nx2⟩ ⟨h3,h4⟩
  dsimp only at h3 h4
  refine stp ?_
  intro c h5;cases c
  ·have h6:=Jm h5
   dsimp only at h6
   obtain rfl:i=rs.length:=by omega
   refine stp ?_
   refine Jd rfl (Jt ?_)
   show true=(decide (rs.length≤40)&& rs.all JdY)
   rw [decide_eq_true h40,Bool.true_and,eq_comm,List.all_eq_true]
   intro r hr
   obtain ⟨j,hj,rfl⟩:=List.getElem_of_mem hr
   have:=h4 j hj
   simpa [List.getD,hj] using this
  ·have h6:=Jn h5
   dsimp only at h6
   have hi:i < rs.length:=by omega
   have hbad:∀b:Bool,JdY (rs.getD i rul0)=false→false=Jfq ⟨(k,n),x,rs⟩:=fun b hb=> by
    show false=(decide (rs.length≤40)&& rs.all JdY)
    rw [decide_eq_true h40,Bool.true_and,eq_comm,List.all_eq_false]
    exact ⟨rs.getD i rul0,by simp [List.getD,hi],by rw [hb];decide⟩
   refine stp ?_
   refine ⟨⟨by dsimp only;omega,by dsimp only;omega⟩, ?_⟩
   refine stp ?_
   intro c t1;cases c
   ·have t1:¬(((rs.getD i rul0).name.size:Nat):Int) > 60:=Jm t1
    refine stp ?_
    refine ⟨⟨by dsimp only;omega,by dsimp only;omega⟩, ?_⟩
    refine stp ?_
    intro c t2;cases c
    ·have t2:¬(((rs.getD i rul0).conds.length:Nat):Int) > 12:=Jm t2
     refine stp ?_
     refine back (i+1,nx2) ⟨by dsimp only;omega,fun j hj=> ?_⟩ Dm (Jk (pm:= []) _ [] rfl rfl Sf Sf ⟨rfl,OwnLe.refl _,trivial⟩ trivial ⟨Rf,Jl (JF Dm),trivial⟩)
     dsimp only at hj
     rcases Nat.lt_or_ge j i with h | h
     ·exact h4 j h
     ·obtain rfl:j=i:=by omega
      unfold JdY
      rw [decide_eq_true Om,decide_eq_true Om];rfl
    ·have t2:(((rs.getD i rul0).conds.length:Nat):Int) > 12:=Jn t2
     refine stp ?_
     exact Jd rfl (Jt (hbad true (by unfold JdY;rw [decide_eq_false (p:=(rs.getD i rul0).conds.length≤12) Om,Bool.and_false])))
   ·have t1:(((rs.getD i rul0).name.size:Nat):Int) > 60:=Jn t1
    refine stp ?_
    exact Jd rfl (Jt (hbad true (by unfold JdY;rw [decide_eq_false (p:=(rs.getD i rul0).name.size≤60) Om,Bool.false_and])))
end Go.Proofs.W

namespace Go.Proofs.W
open Go.Vl
set_option maxRecDepth 100000
theorem Jir:Tryz.prog.bytesOf 113=72:=by kernel_rfl
set_option maxHeartbeats 2000000 in
theorem Jpa (l:List TRow) (hl:l.length≤1000000):Tells Tryz.prog 25 [Jv l] (Jv l):=by
 refine Jf Tryz.func25 rfl rfl fun nx=> ?_
 refine stp ?_
 refine Jo (fun s:Nat×Option Nat×Nat=> mk 36 [(0,Jv l),(3, .os 8 s.1 (fun j=> Jq (l.getD j trow0)) (nmd s.2.1)),(4,int s.1)] ⟨[],Jad (nmd s.2.1) (s.1 * 8),s.2.2,1⟩) (fun s=> s.1≤l.length∧(s.2.1=none→s.1=0)) (fun s=> l.length - s.1) ?_ ?_
 ·exact ⟨(0,none,nx),⟨Nat.zero_le _,fun _=> rfl⟩,Jk (pm:= []) _ [] rfl rfl Sf Sf trivial trivial ⟨Rf,AVle.os_nil,Rf,trivial⟩⟩
 ·rintro ⟨i,oi,nx2⟩ ⟨h3,h4⟩
  dsimp only at h3 h4
  refine stp ?_
  intro c h5;cases c
  ·have h6:=Jm h5
   dsimp only at h6
   obtain rfl:i=l.length:=by omega
   rcases oi with _ | id
   all_goals
    refine stp ?_
    exact Jd rfl AVle.os_sl
  ·have h6:=Jn h5
   dsimp only at h6
   have hi:i < l.length:=by omega
   refine stp ?_
   refine JZ 25 _ (fun i=> match i with | 23=> true | _=> false) (fun i=> match i with | 10=> true | _=> false) [0,1,2,3,4,5,6,7,8,9,10,11,12,13,14,15,16,17,18,19,20,21,22,23,24] (by kernel_rfl) (by kernel_rfl) (HB.refl _) ?_
   refine stp ?_
   refine ⟨⟨by dsimp only;omega,by dsimp only;omega⟩, ?_⟩
   refine stp ?_
   refine ⟨⟨by dsimp only;omega,by dsimp only;omega⟩, ?_⟩
   refine stp ?_
   refine ⟨JxA (l.getD i trow0),JfD rfl rfl (by first | trivial | exact ⟨rfl,Nat.le_of_ble_eq_true rfl⟩), ?_⟩
   refine stp ?_
   refine ⟨⟨by dsimp only;omega,by dsimp only;omega⟩, ?_⟩
   refine stp ?_
   refine ⟨⟨by dsimp only;omega,by dsimp only;omega⟩, ?_⟩
   refine stp ?_
   rcases oi with _ | id
   ·obtain rfl:=h4 rfl
    refine ⟨_,Jbe (e:=113) (c:=8) (pm:= []) (n:=0) (oi:=none) (sz:=8) (f:=fun j=> Jq (l.getD j trow0)) (HB.refl _) rfl rfl rfl (.inr ⟨_,rfl⟩) (by kernel_rfl) (by kernel_rfl) (by kernel_rfl) (.inr rfl) (by kernel_rfl) (List.append_nil _).symm (Jy rfl) (by rw [Jir];omega) Om,fun r h' hr=> ?_⟩
    obtain ⟨rfl,rfl⟩:=hr
    refine stp ?_
    refine back (0+1,some nx2,nx2+1) ⟨by dsimp only;omega,(fun h=> by cases h)⟩ Dm (Et (pm:= [((0,nx2),(0+1) * 8)]) rfl rfl trivial ⟨rfl,rfl,trivial⟩ ⟨Rf,(AVle.os_fun (Jb5 (fun k hk=> absurd hk (Nat.not_lt_zero k)) ?_)).trans (AVle.os_nm rfl),Jl (JF Dm),trivial⟩)
    rfl
   ·refine ⟨_,Jbe (e:=113) (c:=8) (pm:= []) (n:=i) (oi:=some (0,id)) (sz:=8) (f:=fun j=> Jq (l.getD j trow0)) (HB.refl _) rfl rfl rfl (.inr ⟨_,rfl⟩) (by kernel_rfl) (by kernel_rfl) (by kernel_rfl) (.inr rfl) (by kernel_rfl) (List.append_nil _).symm (Jy rfl) (by rw [Jir];omega) Om,fun r h' hr=> ?_⟩
    obtain ⟨rfl,rfl⟩:=hr
    refine stp ?_
    refine back (i+1,some nx2,nx2+1) ⟨by dsimp only;omega,(fun h=> by cases h)⟩ Dm (Et (pm:= [((0,nx2),(i+1) * 8)]) rfl rfl trivial ⟨rfl,rfl,trivial⟩ ⟨Rf,(AVle.os_fun (Jb5 (fun k hk=> rfl) ?_)).trans (AVle.os_nm rfl),Jl (JF Dm),trivial⟩)
    rfl
theorem Jsq (l:List TRow) (hl:l.length≤maxLen) (hn:∀r∈l,r.name.size≤maxLen):Tells Tryz.prog 23 [Jv l] (Jb (JjC l)):=by
 refine Jf Tryz.func23 rfl rfl fun nx=> ?_
 refine stp ?_
 by_cases hf:l.length≤40
 rotate_left
 ·refine stp ?_
  intro c h1;cases c
  ·exact absurd (Jm h1) (by first | omega | (dsimp only;omega))
  refine stp ?_
  exact Jd rfl (Jt (by unfold JjC;rw [decide_eq_false hf];rfl))
 ·refine stp ?_
  intro c h1;cases c
  rotate_left
  ·exact absurd (Jn h1) (by first | omega | (dsimp only;omega))
  refine stp ?_
  refine Jo (fun s:Nat×Nat=> mk 20 [(0,Jv l),(3,int s.1)] ⟨[], [],s.2,0⟩) (fun s=> s.1≤l.length∧∀j,j < s.1→(l.getD j trow0).name.size≤60) (fun s=> l.length - s.1) ?_ ?_
  ·exact ⟨(0,nx),⟨Nat.zero_le _,fun j hj=> absurd hj (Nat.not_lt_zero j)⟩,J5 rfl rfl ⟨Rf,Rf,trivial⟩⟩
  ·rintro ⟨i,nx2⟩ ⟨h3,h4⟩
   dsimp only at h3 h4
   refine stp ?_
   intro c h5;cases c
   ·have h6:=Jm h5
    dsimp only at h6
    obtain rfl:i=l.length:=by omega
    refine stp ?_
    refine Jd rfl (Jt ?_)
    unfold JjC
    rw [decide_eq_true hf]
    symm
    simp only [Bool.true_and,Bool.not_eq_true',List.any_eq_false,decide_eq_true_eq]
    intro r hr
    obtain ⟨j,hj,rfl⟩:=List.mem_iff_getElem.1 hr
    have:=h4 j hj
    simp [List.getD,hj] at this
    omega
   ·have h6:=Jn h5
    dsimp only at h6
    have hi:i < l.length:=by omega
    have hnm:=hn (l.getD i trow0) (by simp [List.getD,hi])
    refine stp ?_
    refine ⟨⟨by dsimp only;omega,by dsimp only;omega⟩, ?_⟩
    refine stp ?_
    intro c h7;cases c
    ·have h7:=Jm h7
     dsimp only at h7
     rw [Int.toNat_natCast] at h7
     refine stp ?_
     exact back (i+1,nx2) ⟨hi,fun j hj=> by dsimp only at hj;rcases Nat.lt_or_ge j i with q | q;exact h4 j q;rw [show j=i by omega];omega⟩ Dm (J5 rfl rfl ⟨Rf,Jl (JF Dm),trivial⟩)
    ·have h7:=Jn h7
     dsimp only at h7
     rw [Int.toNat_natCast] at h7
     refine stp ?_
     refine Jd rfl (Jt ?_)
     unfold JjC
     symm
     rw [Bool.and_eq_false_iff]
     right
     simp only [Bool.not_eq_false',List.any_eq_true,decide_eq_true_eq]
     exact ⟨l.getD i trow0,by simp [List.getD,hi],by omega⟩
end Go.Proofs.W

namespace Go.Proofs.W
open Go.Vl
set_option maxRecDepth 100000
structure PlOk (P:Plan):Prop where
 ents:∀a,a < 5→(P.ents a).length≤1000000∧∀e∈P.ents a,e.rules.length≤1000000∧∀q∈e.rules,q.conds.length≤1000000∧∀c∈q.conds,c.ok
 subs:∀m,m < 2→(P.subs m).length≤1000000∧∀s∈P.subs m,s.num < 4294967296
theorem Jc3 {α:Type} {E:List α} {d:α} {i:Nat} (h:i < E.length):E.getD i d∈E:=by simp [List.getD,h]
end Go.Proofs.W

namespace Go.Proofs.W
open Go.Vl
set_option maxRecDepth 100000
end Go.Proofs.W

namespace Go.Proofs.W
open Go.Vl
set_option maxRecDepth 100000
def plX (d:Nat) (b:Bool) (E0 E1 E2 E3 E4:List PEnt) (S0 S1:List PSub):List AV:= [u32 (d:Nat),Jb b,JN 2 Jaf ent0 E0,JN 2 Jaf ent0 E1,JN 2 Jaf ent0 E2,JN 2 Jaf ent0 E3,JN 2 Jaf ent0 E4,JN 2 JdT sub0 S0,JN 2 JdT sub0 S1]
theorem JvO {p:Pol} (h:Jfq p=true):∀r∈p.rules,r.conds.length≤12∧r.name.size≤1000000:=fun r hr=> by
 unfold Jfq JdY at h
 simp only [Bool.and_eq_true,decide_eq_true_eq,List.all_eq_true] at h
 have:=h.2 r hr
 exact ⟨this.2,by omega⟩
end Go.Proofs.W

namespace Go.Proofs.W
open Go.Vl
set_option maxRecDepth 100000
theorem Jsr (c:Cnd):(!(c.arg ==c.arg&& (c.op ==c.op&& ((c.mask:Int) ==(c.mask:Int)&& ((c.value:Int) ==(c.value:Int)&& true)))))=false:=by rw [Jve];rfl
theorem Jxe {c:Cnd} (h:c.ok):(JbQ c).1.ok:=by
 unfold JbQ
 obtain ⟨h1,h2⟩:=h
 have h0:cnd0.ok:=⟨by decide,by decide⟩
 split
 ·exact h0
 ·split
  ·split
   ·exact h0
   ·exact ⟨Nat.lt_of_le_of_lt Nat.and_le_left h1,h2⟩
  ·exact ⟨h1,h2⟩
end Go.Proofs.W

namespace Go.Proofs.W
open Go.Vl
set_option maxRecDepth 100000
end Go.Proofs.W

namespace Go.Proofs.W
open Go.Vl
set_option maxRecDepth 100000
theorem Jx4:Tells Tryz.prog 27 [JfO Jcx] (Jb true):=by
 refine Jf Tryz.func27 rfl rfl fun nx=> ?_
 refine stp ?_
 refine Jo (fun y:Nat×Nat=> mk 36 [(1, .bp (0,nx) 0),(2,Jb false),(3,int y.1)] ⟨[((0,nx), .c (Jav Jcx))], [],y.2,1⟩) (fun y=> y.1≤5) (fun y=> 5 - y.1) ?_ ?_
 ·exact ⟨(0,nx+1),Nat.zero_le _,Et (pm:= []) (bx:= [((0,nx), .c (Jav Jcx))]) rfl rfl Bf trivial ⟨Rf,Rf,Rf,trivial⟩⟩
 ·rintro ⟨a,nx1⟩ ha
  dsimp only at ha
  rcases (by omega:a=0∨a=1∨a=2∨a=3∨a=4∨a=5) with rfl | rfl | rfl | rfl | rfl | rfl
  ·refine AW.le (Et (n:=36) (nn:=1) (pm:= []) (bx:= [((0,nx), .c (Jav Jcx))]) (L:= [(1, .bp (0,nx) 0),(2,Jb false),(3,int (0:Nat))]) rfl rfl Bf trivial ⟨Rf,Rf,Rf,trivial⟩) ?_
   refine stp ?_
   exact back (1,nx1) Dm Dm (Et (pm:= []) (bx:= [((0,nx), .c (Jav Jcx))]) rfl rfl Bf trivial ⟨Rf,Rf,Jl rfl,trivial⟩)
  ·refine AW.le (Et (n:=36) (nn:=1) (pm:= []) (bx:= [((0,nx), .c (Jav Jcx))]) (L:= [(1, .bp (0,nx) 0),(2,Jb false),(3,int (1:Nat))]) rfl rfl Bf trivial ⟨Rf,Rf,Rf,trivial⟩) ?_
   refine stp ?_
   exact back (2,nx1) Dm Dm (Et (pm:= []) (bx:= [((0,nx), .c (Jav Jcx))]) rfl rfl Bf trivial ⟨Rf,Rf,Jl rfl,trivial⟩)
  ·refine AW.le (Et (n:=36) (nn:=1) (pm:= []) (bx:= [((0,nx), .c (Jav Jcx))]) (L:= [(1, .bp (0,nx) 0),(2,Jb false),(3,int (2:Nat))]) rfl rfl Bf trivial ⟨Rf,Rf,Rf,trivial⟩) ?_
   refine stp ?_
   exact back (3,nx1) Dm Dm (Et (pm:= []) (bx:= [((0,nx), .c (Jav Jcx))]) rfl rfl Bf trivial ⟨Rf,Rf,Jl rfl,trivial⟩)
  ·refine AW.le (Et (n:=36) (nn:=1) (pm:= []) (bx:= [((0,nx), .c (Jav Jcx))]) (L:= [(1, .bp (0,nx) 0),(2,Jb false),(3,int (3:Nat))]) rfl rfl Bf trivial ⟨Rf,Rf,Rf,trivial⟩) ?_
   refine stp ?_
   exact back (4,nx1) Dm Dm (Et (pm:= []) (bx:= [((0,nx), .c (Jav Jcx))]) rfl rfl Bf trivial ⟨Rf,Rf,Jl rfl,trivial⟩)
  ·refine AW.le (Et (n:=36) (nn:=1) (pm:= []) (bx:= [((0,nx), .c (Jav Jcx))]) (L:= [(1, .bp (0,nx) 0),(2,Jb false),(3,int (4:Nat))]) rfl rfl Bf trivial ⟨Rf,Rf,Rf,trivial⟩) ?_
   refine stp ?_
   exact back (5,nx1) Dm Dm (Et (pm:= []) (bx:= [((0,nx), .c (Jav Jcx))]) rfl rfl Bf trivial ⟨Rf,Rf,Jl rfl,trivial⟩)
  ·refine stp ?_
   exact Jd rfl Rf
theorem JqN {d:Nat} (l:List PRul):(JgM d l).Sublist l:=by
 unfold JgM
 have h:=(List.dropWhile_sublist (fun r:PRul=> decide (r.code=d)) (l:=l.reverse)).reverse
 rwa [List.reverse_reverse] at h
theorem Jis {a:Nat} {q:PRul}:∀ {l:List PRul},q∈JbY a l→∃r∈l,Jdg a r=some q
 | [],h=> by cases h
 | r::l,h=> by
   rw [JhG] at h
   cases hr:Jdg a r with
   | none=>
     rw [hr] at h
     obtain ⟨r',h1,h2⟩:=Jis h
     exact ⟨r', .tail _ h1,h2⟩
   | some q'=>
     rw [hr] at h
     rcases List.mem_cons.1 h with rfl | h
     ·exact ⟨r, .head _,hr⟩
     ·unfold JiS at h
      split at h
      ·cases h
      ·obtain ⟨r',h1,h2⟩:=Jis h
       exact ⟨r', .tail _ h1,h2⟩
theorem JmQ {a:Nat}:∀l:List PRul,(JbY a l).length≤l.length
 | []=> Nat.le_refl _
 | r::l=> by
   have ih:=JmQ (a:=a) l
   rw [JhG]
   cases Jdg a r with
   | none=> dsimp only;rw [List.length_cons];omega
   | some q=>
     dsimp only
     rw [List.length_cons,List.length_cons]
     unfold JiS
     split
     ·simp
     ·omega
theorem Jpb {a d:Nat} {q:PRul} {l:List PRul} (h:q∈Jau a l d):∃r∈l,Jdg a r=some q:=Jis ((JqN _).subset h)
theorem Jpc {a d:Nat} (l:List PRul):(Jau a l d).length≤l.length:=Nat.le_trans (JqN _).length_le (JmQ l)
theorem Jx5 {a:Nat} {r q:PRul} (h:∀c∈r.conds,c.ok) (e:Jdg a r=some q):∀c∈q.conds,c.ok:=by
 rw [JqA] at e
 split at e
 ·cases e
 ·obtain rfl:=Option.some.inj e
  intro c hc
  obtain ⟨c0,h0,h1⟩:=List.mem_filterMap.1 hc
  unfold Je3 at h1
  split at h1
  ·obtain rfl:=Option.some.inj h1
   unfold stA
   split
   ·exact Jxe (h c0 h0)
   ·exact h c0 h0
  ·cases h1
theorem JlI {p:Pol} {l:List TRow} (hp:p.ok) (hps:∀r∈p.rules,r.conds.length≤12∧r.name.size≤1000000) (hv:(JR p l).2=0) (hl:l.length≤40):PlOk (Jal p l):=by
 have ht:=(Jak.1 hv).2.1
 have hr:=(Jak.1 hv).1
 have hcnt:∀q:Nat→Bool,((List.range l.length).filter q).length≤40:=fun q=> by
  have:=List.length_filter_le q (List.range l.length)
  rw [List.length_range] at this
  omega
 refine ⟨fun a ha=> ⟨?_,fun e he=> ?_⟩,fun m hm=> ⟨?_,fun s hs=> ?_⟩⟩
 ·rw [← JkP hv ha]
  have:=hcnt (entryB (Jc p) l a)
  omega
 ·obtain ⟨i,hi,hb,rfl⟩:=(JiR hv).1 he
  have hsub:∀q∈rowS18 (Jc p) l a i,∃r∈(Jc p).rules,Jdg a (JL r)=some q:=fun q hq=> by
   obtain ⟨q0,h0,h1⟩:=Jpb hq
   obtain ⟨r,hr,rfl⟩:=List.mem_map.1 h0
   exact ⟨r,(List.mem_filter.1 hr).1,h1⟩
  refine ⟨?_,fun q hq=> ?_⟩
  ·have h1:=Jpc (a:=a) (d:=codeA (Jc p).dflt) ((rowR18 (Jc p) l i).map JL)
   have h2:(rowR18 (Jc p) l i).length≤(Jc p).rules.length:=List.length_filter_le _ _
   have h3:=(JaU (JeG hr)).1
   rw [List.length_map] at h1
   exact Nat.le_trans h1 Om
  ·obtain ⟨r,hm,hq2⟩:=hsub q hq
   obtain ⟨r0,h0,hN⟩:=JhD hm
   have hok:∀c∈r.conds,c.ok:=(Jfh hN).2.2 (hp.2 r0 h0).2.2
   have hlr:r.conds.length≤12:=Nat.le_trans (Jbg hN).1 (hps r0 h0).1
   refine ⟨?_,Jx5 hok hq2⟩
   have:=(Jlz hq2).1
   have e:(JL r).conds.length=r.conds.length:=rfl
   omega
 ·rw [← JkQ (m:=m) hv]
  have:=hcnt (subB18 (Jc p) l m)
  omega
 ·obtain ⟨i,r,hi,hmx,_,rfl⟩:=(Jg5 hv).1 hs
  have:=Je0 ht hi
  show (l.getD i trow0).sub.toNat < _
  omega
end Go.Proofs.W

namespace Go.Proofs.W
open Go.Vl
set_option maxRecDepth 100000
theorem Jbv (l:List PRul):NoId (JeL l):=NoId.sl fun i _ c hc=> by
 have hc:c∈ [JW (l.getD i Jw).conds,int ((l.getD i Jw).code:Nat)]:=hc
 simp only [List.mem_cons,List.not_mem_nil,or_false] at hc
 rcases hc with rfl | rfl
 ·exact JgR _
 ·exact NoId.v _
theorem Jit {n:Nat}:decide (((n:Nat):Int) > 0)=decide (0 < n):=by
 by_cases h:0 < n
 ·rw [decide_eq_true h];exact decide_eq_true Om
 ·rw [decide_eq_false h];exact decide_eq_false Om
set_option maxHeartbeats 8000000 in
theorem Jss (p:Pol) (l:List TRow) (a i:Nat) (ha:a < 5) (hi:i < l.length) (hl:l.length≤1000000) (hp:p.rules.length≤1000000) (hc:∀r∈p.rules,r.conds.length≤1000000∧∀c∈r.conds,c.ok) (hR:JaB p=true):
 Tells Tryz.prog 31 [JaL p,Jv l,int a,int i] (Jb (entryB p l a i)):=by
 have hS:=Jg6 p (l.getD i trow0).name a hp hc hR
 obtain ⟨⟨k,n⟩,x32,rs⟩:=p
 have hB:entryB ⟨(k,n),x32,rs⟩ l a i=(decide (0≤(l.getD i trow0).num a)&& ((decide (a≠1)|| x32)&& decide (0 < (rowS18 ⟨(k,n),x32,rs⟩ l a i).length))):=rfl
 have hS:Tells Tryz.prog 33 [JaL ⟨(k,n),x32,rs⟩,Jg (l.getD i trow0).name,int a] (JeL (rowS18 ⟨(k,n),x32,rs⟩ l a i)):=hS
 generalize rowS18 ⟨(k,n),x32,rs⟩ l a i=W at hS hB
 rw [hB]
 generalize hq:l.getD i trow0=q at hS⊢
 obtain ⟨nm,a0,a1,a2,a3,a4,mux,sub⟩:=q
 have hcell:AV.rp (Jq (l.getD i trow0)).cells= .rp [Jg nm,int a0,int a1,int a2,int a3,int a4,int mux,int sub]:=by rw [hq];rfl
 clear hB
 rcases (by omega:a=0∨a=1∨a=2∨a=3∨a=4) with rfl | rfl | rfl | rfl | rfl
 ·refine Jf Tryz.func31 rfl rfl fun nx=> ?_
  refine stp ?_
  (refine Ju 29 ?_ ?_ ?_ ?_;(· kernel_rfl);(· kernel_rfl);(· kernel_rfl))
  refine stp ?_
  refine ⟨Bd,Jj (b:= .rp [Jg nm,int a0,int a1,int a2,int a3,int a4,int mux,int sub]) hcell ?_⟩
  (conv=> whnf)
  refine ⟨⟨by decide,by decide,Nat.le_of_ble_eq_true (by kernel_rfl)⟩, ?_⟩
  refine stp ?_
  intro c hc1
  have hc2:c=decide (0≤a0):=hc1
  clear hc1
  rw [show (TRow.mk nm a0 a1 a2 a3 a4 mux sub).num 0=a0 from rfl,← hc2]
  cases c
  ·refine stp ?_
   exact Jd rfl Rf
  ·refine stp ?_
   refine ⟨Bd,Jj (b:= .rp [Jg nm,int a0,int a1,int a2,int a3,int a4,int mux,int sub]) hcell ?_⟩
   refine stp ?_
   refine JP (Jz rfl rfl hS ⟨Rf,Rf,Rf,trivial⟩ (Jbv _)) ?_
   refine stp ?_
   intro c hc3
   have hc4:c=decide (0 < W.length):=hc3.trans Jit
   clear hc3
   rw [← hc4]
   cases c
   ·refine stp ?_
    exact Jd rfl Rf
   ·refine stp ?_
    exact Jd rfl Rf
 ·refine Jf Tryz.func31 rfl rfl fun nx=> ?_
  refine stp ?_
  (refine Ju 29 ?_ ?_ ?_ ?_;(· kernel_rfl);(· kernel_rfl);(· kernel_rfl))
  refine stp ?_
  refine ⟨Bd,Jj (b:= .rp [Jg nm,int a0,int a1,int a2,int a3,int a4,int mux,int sub]) hcell ?_⟩
  (conv=> whnf)
  refine ⟨⟨by decide,by decide,Nat.le_of_ble_eq_true (by kernel_rfl)⟩, ?_⟩
  refine stp ?_
  intro c hc1
  have hc2:c=decide (0≤a1):=hc1
  clear hc1
  rw [show (TRow.mk nm a0 a1 a2 a3 a4 mux sub).num 1=a1 from rfl,← hc2]
  cases c
  ·refine stp ?_
   exact Jd rfl Rf
  ·refine stp ?_
   cases x32
   ·refine stp ?_
    exact Jd rfl Rf
   ·refine stp ?_
    refine ⟨Bd,Jj (b:= .rp [Jg nm,int a0,int a1,int a2,int a3,int a4,int mux,int sub]) hcell ?_⟩
    refine stp ?_
    refine JP (Jz rfl rfl hS ⟨Rf,Rf,Rf,trivial⟩ (Jbv _)) ?_
    refine stp ?_
    intro c hc3
    have hc4:c=decide (0 < W.length):=hc3.trans Jit
    clear hc3
    rw [← hc4]
    cases c
    ·refine stp ?_
     exact Jd rfl Rf
    ·refine stp ?_
     exact Jd rfl Rf
 ·refine Jf Tryz.func31 rfl rfl fun nx=> ?_
  refine stp ?_
  (refine Ju 29 ?_ ?_ ?_ ?_;(· kernel_rfl);(· kernel_rfl);(· kernel_rfl))
  refine stp ?_
  refine ⟨Bd,Jj (b:= .rp [Jg nm,int a0,int a1,int a2,int a3,int a4,int mux,int sub]) hcell ?_⟩
  (conv=> whnf)
  refine ⟨⟨by decide,by decide,Nat.le_of_ble_eq_true (by kernel_rfl)⟩, ?_⟩
  refine stp ?_
  intro c hc1
  have hc2:c=decide (0≤a2):=hc1
  clear hc1
  rw [show (TRow.mk nm a0 a1 a2 a3 a4 mux sub).num 2=a2 from rfl,← hc2]
  cases c
  ·refine stp ?_
   exact Jd rfl Rf
  ·refine stp ?_
   refine ⟨Bd,Jj (b:= .rp [Jg nm,int a0,int a1,int a2,int a3,int a4,int mux,int sub]) hcell ?_⟩
   refine stp ?_
   refine JP (Jz rfl rfl hS ⟨Rf,Rf,Rf,trivial⟩ (Jbv _)) ?_
   refine stp ?_
   intro c hc3
   have hc4:c=decide (0 < W.length):=hc3.trans Jit
   clear hc3
   rw [← hc4]
   cases c
   ·refine stp ?_
    exact Jd rfl Rf
   ·refine stp ?_
    exact Jd rfl Rf
 ·refine Jf Tryz.func31 rfl rfl fun nx=> ?_
  refine stp ?_
  (refine Ju 29 ?_ ?_ ?_ ?_;(· kernel_rfl);(· kernel_rfl);(· kernel_rfl))
  refine stp ?_
  refine ⟨Bd,Jj (b:= .rp [Jg nm,int a0,int a1,int a2,int a3,int a4,int mux,int sub]) hcell ?_⟩
  (conv=> whnf)
  refine ⟨⟨by decide,by decide,Nat.le_of_ble_eq_true (by kernel_rfl)⟩, ?_⟩
  refine stp ?_
  intro c hc1
  have hc2:c=decide (0≤a3):=hc1
  clear hc1
  rw [show (TRow.mk nm a0 a1 a2 a3 a4 mux sub).num 3=a3 from rfl,← hc2]
  cases c
  ·refine stp ?_
   exact Jd rfl Rf
  ·refine stp ?_
   refine ⟨Bd,Jj (b:= .rp [Jg nm,int a0,int a1,int a2,int a3,int a4,int mux,int sub]) hcell ?_⟩
   refine stp ?_
   refine JP (Jz rfl rfl hS ⟨Rf,Rf,Rf,trivial⟩ (Jbv _)) ?_
   refine stp ?_
   intro c hc3
   have hc4:c=decide (0 < W.length):=hc3.trans Jit
   clear hc3
   rw [← hc4]
   cases c
   ·refine stp ?_
    exact Jd rfl Rf
   ·refine stp ?_
    exact Jd rfl Rf
 ·refine Jf Tryz.func31 rfl rfl fun nx=> ?_
  refine stp ?_
  (refine Ju 29 ?_ ?_ ?_ ?_;(· kernel_rfl);(· kernel_rfl);(· kernel_rfl))
  refine stp ?_
  refine ⟨Bd,Jj (b:= .rp [Jg nm,int a0,int a1,int a2,int a3,int a4,int mux,int sub]) hcell ?_⟩
  (conv=> whnf)
  refine ⟨⟨by decide,by decide,Nat.le_of_ble_eq_true (by kernel_rfl)⟩, ?_⟩
  refine stp ?_
  intro c hc1
  have hc2:c=decide (0≤a4):=hc1
  clear hc1
  rw [show (TRow.mk nm a0 a1 a2 a3 a4 mux sub).num 4=a4 from rfl,← hc2]
  cases c
  ·refine stp ?_
   exact Jd rfl Rf
  ·refine stp ?_
   refine ⟨Bd,Jj (b:= .rp [Jg nm,int a0,int a1,int a2,int a3,int a4,int mux,int sub]) hcell ?_⟩
   refine stp ?_
   refine JP (Jz rfl rfl hS ⟨Rf,Rf,Rf,trivial⟩ (Jbv _)) ?_
   refine stp ?_
   intro c hc3
   have hc4:c=decide (0 < W.length):=hc3.trans Jit
   clear hc3
   rw [← hc4]
   cases c
   ·refine stp ?_
    exact Jd rfl Rf
   ·refine stp ?_
    exact Jd rfl Rf
theorem JeM (L:List PRul) (hL:L.length≤1000000) (hc:∀r∈L,r.conds.length≤1000000∧r.code < 4294967296):Tells Tryz.prog 32 [Jx L,JeL L] (Jb true):=by
 refine Jf Tryz.func32 rfl rfl fun nx=> ?_
 refine stp ?_
 intro c hc1
 have hc2:c=false:=hc1.trans (bne_self_eq_false _)
 clear hc1
 cases hc2
 refine stp ?_
 refine Jo (fun y:Nat×Nat=> mk 73 [(0,Jx L),(1,JeL L),(4,Jb false),(5,int y.1)] ⟨[], [],y.2,0⟩) (fun y=> y.1≤L.length) (fun y=> L.length - y.1) ?_ ?_
 ·exact ⟨(0,nx),Nat.zero_le _,Et (pm:= []) (bx:= []) rfl rfl trivial trivial ⟨Rf,Rf,Rf,Rf,trivial⟩⟩
 ·rintro ⟨i,nx1⟩ hi
  dsimp only at hi
  refine stp ?_
  intro c g;cases c
  ·have g:=Jm g
   refine stp ?_
   exact Jd rfl Rf
  ·have g:=Jn g
   try dsimp only at g
   have hi2:i < L.length:=by omega
   have hlc:=hc _ (Jc3 (d:=Jw) hi2)
   refine stp ?_
   (refine Ju 27 ?_ ?_ ?_ ?_;(· kernel_rfl);(· kernel_rfl);(· kernel_rfl))
   refine stp ?_
   refine ⟨Bd, ?_⟩
   refine stp ?_
   refine ⟨Bd, ?_⟩
   refine stp ?_
   intro c hc1
   have hc2:c=false:=hc1.trans (show (IntKind.i64.wrap (((L.getD i Jw).code:Nat):Int) !=(((L.getD i Jw).code:Nat):Int))=false by rw [Jac Om Om];exact bne_self_eq_false _)
   clear hc1
   cases hc2
   refine stp ?_
   refine ⟨Bd, ?_⟩
   refine stp ?_
   refine ⟨Bd, ?_⟩
   refine stp ?_
   intro c hc1
   have hc2:c=false:=hc1.trans (bne_self_eq_false _)
   clear hc1
   cases hc2
   refine stp ?_
   refine Jo (fun y:Nat×Nat=> mk 73 [(0,Jx L),(1,JeL L),(4,Jb false),(5,int i),(6,int y.1)] ⟨[], [],y.2,0⟩) (fun y=> y.1≤(L.getD i Jw).conds.length) (fun y=> (L.getD i Jw).conds.length - y.1) ?_ ?_
   ·exact ⟨(0,nx1),Nat.zero_le _,Et (pm:= []) (bx:= []) rfl rfl trivial trivial ⟨Rf,Rf,Rf,Rf,Rf,trivial⟩⟩
   ·rintro ⟨k,nx2⟩ hk
    dsimp only at hk
    refine stp ?_
    refine ⟨Bd, ?_⟩
    refine stp ?_
    intro c g2;cases c
    ·have g2:=Jm g2
     refine stp ?_
     exact back (i+1,nx2) hi2 Dm (Et (pm:= []) (bx:= []) rfl rfl trivial trivial ⟨Rf,Rf,Rf,Lw,trivial⟩)
    ·have g2:=Jn g2
     have g3:((k:Nat):Int) < (((L.getD i Jw).conds.length:Nat):Int):=g2
     have hk2:k < (L.getD i Jw).conds.length:=by omega
     refine stp ?_
     (refine Ju 18 ?_ ?_ ?_ ?_;(· kernel_rfl);(· kernel_rfl);(· kernel_rfl))
     refine stp ?_
     refine ⟨⟨by first | omega | (dsimp only;omega) | exact Int.natCast_nonneg _,by first | omega | (dsimp only;omega) | exact Int.ofNat_lt.2 hk2⟩, ?_⟩
     refine stp ?_
     refine ⟨⟨by first | omega | (dsimp only;omega) | exact Int.natCast_nonneg _,by first | omega | (dsimp only;omega) | exact Int.ofNat_lt.2 hk2⟩, ?_⟩
     refine stp ?_
     refine ⟨⟨by first | omega | (dsimp only;omega) | exact Int.natCast_nonneg _,by first | omega | (dsimp only;omega) | exact Int.ofNat_lt.2 hk2⟩, ?_⟩
     refine stp ?_
     refine ⟨⟨by first | omega | (dsimp only;omega) | exact Int.natCast_nonneg _,by first | omega | (dsimp only;omega) | exact Int.ofNat_lt.2 hk2⟩, ?_⟩
     refine stp ?_
     refine JP (Jz rfl rfl (JmP ((L.getD i Jw).conds.getD k cnd0)) ⟨Rf,trivial⟩ (Jl5 _)) ?_
     refine stp ?_
     intro c hc1
     have hc2:c=false:=hc1.trans (Jsr ((L.getD i Jw).conds.getD k cnd0))
     clear hc1
     cases hc2
     refine stp ?_
     exact back (k+1,nx2) hk2 Dm (Et (pm:= []) (bx:= []) rfl rfl trivial trivial ⟨Rf,Rf,Rf,Rf,Lw,trivial⟩)
end Go.Proofs.W

namespace Go.Proofs.W
open Go.Vl
set_option maxRecDepth 100000
structure SubOk (p:Pol) (l:List TRow) (S:List PSub) (m:Nat):Prop where
 len:S.length≤1000000
 small:∀s∈S,s.num < 4294967296∧s.code < 4294967296
 count:((List.range l.length).filter (subB18 p l m)).length=S.length
 found:∀i r,i < l.length→(l.getD i trow0).mux=(m:Int)+1→(rowR18 p l i).head? =some r→(⟨(l.getD i trow0).sub.toNat,codeA r.act⟩:PSub)∈S
 rise:S.Pairwise fun x y=> x.num < y.num
 sub:∀i,i < l.length→0≤(l.getD i trow0).sub
def Jcy (n c:Nat) (s:PSub):Bool:=decide (s.num=n)&& decide (s.code=c)
theorem Jb7 {α:Type} {f:α→Bool} {S:List α} {d:α} {j:Nat} (hj:j < S.length):(S.take (j+1)).any f=((S.take j).any f|| f (S.getD j d)):=by
 rw [JaZ d hj,List.any_append]
 simp
theorem Jdd {q:Nat→Bool} {i:Nat}:((List.range (i+1)).filter q).length=((List.range i).filter q).length+(if q i then 1 else 0):=by
 rw [List.range_succ,List.filter_append,List.length_append,List.filter_cons]
 cases q i <;> rfl
theorem Jei {q:Nat→Bool} {i:Nat}:((List.range i).filter q).length≤i:=by
 have:=List.length_filter_le q (List.range i)
 rwa [List.length_range] at this
theorem Je6 {α:Type} {f:α→Nat} {S:List α} {d:α} (h:S.Pairwise fun x y=> f x < f y) {j:Nat} (h0:0 < j) (hj:j < S.length):f (S.getD (j - 1) d) < f (S.getD j d):=by
 have:=List.pairwise_iff_getElem.1 h (j - 1) j Om hj Om
 rw [show S.getD (j - 1) d=S[j - 1] by simp [List.getD,(by omega:j - 1 < S.length)],show S.getD j d=S[j] by simp [List.getD,hj]]
 exact this
theorem Jup {n:Nat} {z:Int} (hn:n < 4294967296) (hz:0≤z):(IntKind.i64.wrap ((n:Nat):Int) ==z)=decide (n=z.toNat):=by
 rw [Jac Om Om,Bool.eq_iff_iff]
 simp only [beq_iff_eq,decide_eq_true_eq]
 omega
theorem JqO {n c:Nat} (hn:n < 4294967296):(IntKind.i64.wrap ((n:Nat):Int) ==((c:Nat):Int))=decide (n=c):=by
 rw [Jac Om Om,Bool.eq_iff_iff]
 simp only [beq_iff_eq,decide_eq_true_eq]
 omega
theorem Jgo {a b:Nat} (h:b < a):decide (((a:Nat):Int)≤((b:Nat):Int))=false:=decide_eq_false Om
theorem Jpd {z:Int} (m:Nat) (hm:m < 2):(z !=IntKind.i64.wrap (((m:Nat):Int)+1))=decide (z≠(m:Int)+1):=by
 rw [Jac Om Om]
 by_cases h:z=(m:Int)+1
 ·rw [h];simp
 ·rw [bne_iff_ne.2 h,decide_eq_true h]
theorem JfP (a:Int) (b:Bool):NoId (.tup [int a,Jb b]):=NoId.tup fun y hy=> by
 simp only [List.mem_cons,List.not_mem_nil,or_false] at hy
 rcases hy with rfl | rfl <;> exact NoId.v _
def Jej (p:Pol) (l:List TRow) (i:Nat):Nat×Bool:=match (rowR18 p l i).head? with
 | some r=> (codeA r.act,true)
 | none=> (0,false)
set_option maxHeartbeats 8000000 in
theorem Juq (P:Plan) (p:Pol) (l:List TRow) (hl:l.length≤1000000) (hp:p.rules.length≤1000000) (hR:JaB p=true) (h0:SubOk p l (P.subs 0) 0) (h1:SubOk p l (P.subs 1) 1):Tells Tryz.prog 34 [JfO P,JaL p,Jv l] (Jb true):=by
 have hF:∀i,Tells Tryz.prog 82 [JaL p,Jg (l.getD i trow0).name] (.tup [int ((Jej p l i).1:Nat),Jb (Jej p l i).2]):=fun i=> by
  have:=JkT p (l.getD i trow0).name hp hR
  unfold Jo4 at this
  unfold Jej rowR18
  rw [List.head?_filter]
  cases hq:p.rules.find? fun r=> kS r.name (l.getD i trow0).name with
  | none=> rw [hq] at this;exact this
  | some r=> rw [hq] at this;exact this
 refine Jf Tryz.func34 rfl rfl fun nx=> ?_
 refine stp ?_
 refine Jo (fun y:Nat×Nat=> mk 121 [(2,Jv l),(3, .bp (0,nx) 0),(4, .bp (1,nx+1) 0),(6,Jb false),(7,int y.1)] ⟨[((1,nx+1), .c [int p.dflt.1,int p.dflt.2,Jb p.x32,Ji p.rules]),((0,nx), .c (Jav P))], [],y.2,2⟩) (fun y=> y.1≤2) (fun y=> 2 - y.1) ?_ ?_
 ·exact ⟨(0,nx+2),Nat.zero_le _,Et rfl rfl Bf trivial ⟨Rf,Rf,Rf,Rf,Rf,trivial⟩⟩
 ·rintro ⟨m,nx1⟩ hm
  dsimp only at hm
  rcases (by omega:m=0∨m=1∨m=2) with rfl | rfl | rfl
  ·refine AW.le (Et (n:=121) (nn:=2) (pm:= []) (bx:= [((1,nx+1), .c [int p.dflt.1,int p.dflt.2,Jb p.x32,Ji p.rules]),((0,nx), .c (Jav P))]) (L:= [(2,Jv l),(3, .bp (0,nx) 0),(4, .bp (1,nx+1) 0),(6,Jb false),(7,int (0:Nat))]) rfl rfl Bf trivial ⟨Rf,Rf,Rf,Rf,Rf,trivial⟩) ?_
   refine stp ?_
   refine Jan (fun y:Nat=> mk 121 [(2,Jv l),(3, .bp (0,nx) 0),(4, .bp (1,nx+1) 0),(6,Jb false),(7,int (0:Nat)),(8,int (P.subs 0).length)] ⟨[((1,nx+1), .c [int p.dflt.1,int p.dflt.2,Jb p.x32,Ji p.rules]),((0,nx), .c (Jav P))], [],y,2⟩) (fun _=> True) ?_ ?_
   ·refine Jo (fun y:Nat×Nat=> mk 121 [(2,Jv l),(3, .bp (0,nx) 0),(4, .bp (1,nx+1) 0),(6,Jb false),(7,int (0:Nat)),(8,int (((List.range y.1).filter (subB18 p l 0)).length:Nat)),(9,int y.1)] ⟨[((1,nx+1), .c [int p.dflt.1,int p.dflt.2,Jb p.x32,Ji p.rules]),((0,nx), .c (Jav P))], [],y.2,2⟩) (fun y=> y.1≤l.length) (fun y=> l.length - y.1) ?_ ?_
    ·exact ⟨(0,nx1),Nat.zero_le _,Et rfl rfl Bf trivial ⟨Rf,Rf,Rf,Rf,Rf,Rf,Rf,trivial⟩⟩
    ·rintro ⟨i,nx2⟩ hi
     dsimp only at hi
     refine stp ?_
     intro c g;cases c
     ·have g:=Jm g
      try dsimp only at g
      have hil:i=l.length:=by omega
      subst hil
      have hct:=h0.count
      refine stp ?_
      exact ⟨nx2,trivial,Et rfl rfl Bf trivial ⟨Rf,Rf,Rf,Rf,Rf,AVle.of_eq (congrArg (fun z:Nat=> int ((z:Nat):Int)) hct),trivial⟩⟩
     ·have g:=Jn g
      try dsimp only at g
      have hil:i < l.length:=by omega
      have hFi:=hF i
      have hfd:=h0.found i
      have hsb:=h0.sub i hil
      have hrn:=Jdd (q:=subB18 p l 0) (i:=i)
      have hle:=Jei (q:=subB18 p l 0) (i:=i)
      have hsB:subB18 p l 0 i=(decide ((l.getD i trow0).mux=((0:Nat):Int)+1)&& (Jej p l i).2):=by
       unfold subB18 Jej
       cases (rowR18 p l i).head? <;> rfl
      have hhd:(Jej p l i).2=true→∃r,(rowR18 p l i).head? =some r∧(Jej p l i).1=codeA r.act:=fun h=> by
       unfold Jej at h⊢
       cases hq:(rowR18 p l i).head? with
       | none=> rw [hq] at h;cases h
       | some r=> exact ⟨r,rfl,rfl⟩
      generalize Jej p l i=fc at hFi hsB hhd
      obtain ⟨cd,fb⟩:=fc
      dsimp only at hFi hsB hhd
      generalize hq:l.getD i trow0=q at hFi hfd hsb hsB
      obtain ⟨nm,a0,a1,a2,a3,a4,mux,sub⟩:=q
      dsimp only at hFi hfd hsb hsB
      have hcell:AV.rp (Jq (l.getD i trow0)).cells= .rp [Jg nm,int a0,int a1,int a2,int a3,int a4,int mux,int sub]:=by rw [hq];rfl
      cases fb
      ·rw [Bool.and_false] at hsB
       rw [hsB] at hrn
       refine stp ?_
       (refine Ju 12 ?_ ?_ ?_ ?_;(· kernel_rfl);(· kernel_rfl);(· kernel_rfl))
       refine stp ?_
       refine ⟨Bd,Jj (b:= .rp [Jg nm,int a0,int a1,int a2,int a3,int a4,int mux,int sub]) hcell ?_⟩
       refine stp ?_
       refine JP (Jz rfl rfl hFi ⟨Rf,Rf,trivial⟩ (JfP _ _)) ?_
       refine stp ?_
       refine ⟨Bd,Jj (b:= .rp [Jg nm,int a0,int a1,int a2,int a3,int a4,int mux,int sub]) hcell ?_⟩
       refine stp ?_
       intro c hc1
       clear hc1
       cases c
       ·refine stp ?_
        exact back (i+1,nx2) hil Dm (Et rfl rfl Bf trivial ⟨Rf,Rf,Rf,Rf,Rf,AVle.of_eq (congrArg (fun z:Nat=> int ((z:Nat):Int)) hrn.symm),Lw,trivial⟩)
       ·refine stp ?_
        exact back (i+1,nx2) hil Dm (Et rfl rfl Bf trivial ⟨Rf,Rf,Rf,Rf,Rf,AVle.of_eq (congrArg (fun z:Nat=> int ((z:Nat):Int)) hrn.symm),Lw,trivial⟩)
      ·rw [Bool.and_true] at hsB
       obtain ⟨r,hr1,hr2⟩:=hhd rfl
       refine stp ?_
       (refine Ju 12 ?_ ?_ ?_ ?_;(· kernel_rfl);(· kernel_rfl);(· kernel_rfl))
       refine stp ?_
       refine ⟨Bd,Jj (b:= .rp [Jg nm,int a0,int a1,int a2,int a3,int a4,int mux,int sub]) hcell ?_⟩
       refine stp ?_
       refine JP (Jz rfl rfl hFi ⟨Rf,Rf,trivial⟩ (JfP _ _)) ?_
       refine stp ?_
       refine ⟨Bd,Jj (b:= .rp [Jg nm,int a0,int a1,int a2,int a3,int a4,int mux,int sub]) hcell ?_⟩
       refine stp ?_
       intro c hc1
       have hc2:c=decide (mux≠((0:Nat):Int)+1):=hc1.trans (Jpd 0 Dc)
       clear hc1
       cases c
       ·have hmx:mux=((0:Nat):Int)+1:=Decidable.of_not_not (of_decide_eq_false hc2.symm)
        rw [decide_eq_true hmx] at hsB
        rw [hsB] at hrn
        have hin:=hfd r hil hmx hr1
        rw [← hr2] at hin
        refine stp ?_
        refine Jan (fun y:Nat=> mk 121 [(2,Jv l),(3, .bp (0,nx) 0),(4, .bp (1,nx+1) 0),(6,Jb false),(7,int (0:Nat)),(8,int (((List.range (i+1)).filter (subB18 p l 0)).length:Nat)),(9,int i),(12,Jb true)] ⟨[((1,nx+1), .c [int p.dflt.1,int p.dflt.2,Jb p.x32,Ji p.rules]),((0,nx), .c (Jav P))], [],y,2⟩) (fun _=> True) ?_ ?_
        ·refine Jo (fun y:Nat×Nat=> mk 121 [(2,Jv l),(3, .bp (0,nx) 0),(4, .bp (1,nx+1) 0),(6,Jb false),(7,int (0:Nat)),(8,int (((List.range (i+1)).filter (subB18 p l 0)).length:Nat)),(9,int i),(10,int (cd:Nat)),(12,Jb (((P.subs 0).take y.1).any (Jcy sub.toNat cd))),(13,int y.1)] ⟨[((1,nx+1), .c [int p.dflt.1,int p.dflt.2,Jb p.x32,Ji p.rules]),((0,nx), .c (Jav P))], [],y.2,2⟩) (fun y=> y.1≤(P.subs 0).length) (fun y=> (P.subs 0).length - y.1) ?_ ?_
         ·exact ⟨(0,nx2),Nat.zero_le _,Et rfl rfl Bf trivial ⟨Rf,Rf,Rf,Rf,Rf,AVle.of_eq (congrArg int ((JF Dm).trans (congrArg (fun z:Nat=> ((z:Nat):Int)) hrn.symm))),Rf,Rf,Rf,Rf,trivial⟩⟩
         ·rintro ⟨j,nx3⟩ hj
          dsimp only at hj
          refine stp ?_
          intro c g2;cases c
          ·have g2:=Jm g2
           try dsimp only at g2
           have hjl:j=(P.subs 0).length:=by omega
           have hany:((P.subs 0).take j).any (Jcy sub.toNat cd)=true:=by
            rw [hjl,List.take_length]
            exact List.any_eq_true.2 ⟨_,hin,by unfold Jcy;rw [decide_eq_true rfl,decide_eq_true rfl];rfl⟩
           refine stp ?_
           exact ⟨nx3,trivial,Et rfl rfl Bf trivial ⟨Rf,Rf,Rf,Rf,Rf,Rf,Rf,AVle.of_eq (congrArg Jb hany),trivial⟩⟩
          ·have g2:=Jn g2
           try dsimp only at g2
           have hjl:j < (P.subs 0).length:=by omega
           have hsm:=h0.small _ (Jc3 (d:=sub0) hjl)
           have hnx:=Jb7 (f:=Jcy sub.toNat cd) (d:=sub0) hjl
           have hlen:=h0.len
           generalize hanyv:((P.subs 0).take j).any (Jcy sub.toNat cd)=fnd at hnx
           cases fnd
           ·refine stp ?_
            (refine Ju 32 ?_ ?_ ?_ ?_;(· kernel_rfl);(· kernel_rfl);(· kernel_rfl))
            refine stp ?_
            refine ⟨Bd, ?_⟩
            refine stp ?_
            refine ⟨Bd,Jj (b:= .rp [Jg nm,int a0,int a1,int a2,int a3,int a4,int mux,int sub]) hcell ?_⟩
            refine stp ?_
            intro c hc3
            have hc4:c=decide (((P.subs 0).getD j sub0).num=sub.toNat):=hc3.trans (Jup hsm.1 hsb)
            clear hc3
            cases c
            ·have hne:Jcy sub.toNat cd ((P.subs 0).getD j sub0)=false:=by unfold Jcy;rw [← hc4];rfl
             refine stp ?_
             exact back (j+1,nx3) hjl Dm (Et rfl rfl Bf trivial ⟨Rf,Rf,Rf,Rf,Rf,Rf,Rf,Rf,AVle.of_eq (congrArg Jb (by rw [hnx,hne];rfl)),Lw,trivial⟩)
            ·refine stp ?_
             refine ⟨Bd, ?_⟩
             refine stp ?_
             intro c hc3
             have hc5:c=decide (((P.subs 0).getD j sub0).code=cd):=hc3.trans (JqO hsm.2)
             clear hc3
             have hne:Jcy sub.toNat cd ((P.subs 0).getD j sub0)=c:=by unfold Jcy;rw [← hc4,← hc5];rfl
             refine stp ?_
             exact back (j+1,nx3) hjl Dm (Et rfl rfl Bf trivial ⟨Rf,Rf,Rf,Rf,Rf,Rf,Rf,Rf,AVle.of_eq (congrArg Jb (by rw [hnx,hne];rfl)),Lw,trivial⟩)
           ·refine stp ?_
            (refine Ju 32 ?_ ?_ ?_ ?_;(· kernel_rfl);(· kernel_rfl);(· kernel_rfl))
            refine stp ?_
            exact back (j+1,nx3) hjl Dm (Et rfl rfl Bf trivial ⟨Rf,Rf,Rf,Rf,Rf,Rf,Rf,Rf,AVle.of_eq (congrArg Jb (by rw [hnx];rfl)),Lw,trivial⟩)
        ·rintro nx3 -
         refine stp ?_
         exact back (i+1,nx3) hil Dm (Et rfl rfl Bf trivial ⟨Rf,Rf,Rf,Rf,Rf,Rf,Lw,trivial⟩)
       ·have hmx:mux≠((0:Nat):Int)+1:=of_decide_eq_true hc2.symm
        rw [decide_eq_false hmx] at hsB
        rw [hsB] at hrn
        refine stp ?_
        exact back (i+1,nx2) hil Dm (Et rfl rfl Bf trivial ⟨Rf,Rf,Rf,Rf,Rf,AVle.of_eq (congrArg (fun z:Nat=> int ((z:Nat):Int)) hrn.symm),Lw,trivial⟩)
   ·rintro nx2 -
    refine stp ?_
    intro c hc1
    have hc2:c=false:=hc1.trans (bne_self_eq_false _)
    clear hc1
    cases hc2
    have hlen:=h0.len
    refine stp ?_
    refine Jo (fun y:Nat×Nat=> mk 121 [(2,Jv l),(3, .bp (0,nx) 0),(4, .bp (1,nx+1) 0),(6,Jb false),(7,int (0:Nat)),(8,int (P.subs 0).length),(14,int y.1)] ⟨[((1,nx+1), .c [int p.dflt.1,int p.dflt.2,Jb p.x32,Ji p.rules]),((0,nx), .c (Jav P))], [],y.2,2⟩) (fun y=> 1≤y.1∧(y.1≤(P.subs 0).length∨y.1=1)) (fun y=> (P.subs 0).length - y.1) ?_ ?_
    ·exact ⟨(1,nx2),⟨Nat.le_refl _, .inr rfl⟩,Et rfl rfl Bf trivial ⟨Rf,Rf,Rf,Rf,Rf,Rf,Rf,trivial⟩⟩
    ·rintro ⟨j,nx3⟩ ⟨hj1,hj2⟩
     dsimp only at hj1 hj2
     refine stp ?_
     intro c g;cases c
     ·have g:=Jm g
      refine stp ?_
      exact back (1,nx3) Dm Dm (Et rfl rfl Bf trivial ⟨Rf,Rf,Rf,Rf,Jl rfl,trivial⟩)
     ·have g:=Jn g
      try dsimp only at g
      have hjl:j < (P.subs 0).length:=by omega
      have hri:=Je6 (f:=fun s:PSub=> s.num) (d:=sub0) h0.rise hj1 hjl
      have hm1:IntKind.i64.wrap ((j:Int) - 1)=((j - 1:Nat):Int):=by rw [Jac Om Om];omega
      refine stp ?_
      (refine Ju 18 ?_ ?_ ?_ ?_;(· kernel_rfl);(· kernel_rfl);(· kernel_rfl))
      refine stp ?_
      refine ⟨Bd, ?_⟩
      refine stp ?_
      refine ⟨⟨Jbs (i:=j - 1) hm1,JbJ (i:=j - 1) hm1 Om⟩,Jj (b:= .rp (JdT ((P.subs 0).getD (j - 1) sub0)).cells) (congrArg (fun z:Int=> AV.rp (JdT ((P.subs 0).getD z.toNat sub0)).cells) hm1) ?_⟩
      refine stp ?_
      intro c hc1
      have hc2:c=false:=hc1.trans (Jgo hri)
      clear hc1
      cases hc2
      refine stp ?_
      exact back (j+1,nx3) ⟨by dsimp only;omega, .inl Dm⟩ Dm (Et rfl rfl Bf trivial ⟨Rf,Rf,Rf,Rf,Rf,Rf,Lw,trivial⟩)
  ·refine AW.le (Et (n:=121) (nn:=2) (pm:= []) (bx:= [((1,nx+1), .c [int p.dflt.1,int p.dflt.2,Jb p.x32,Ji p.rules]),((0,nx), .c (Jav P))]) (L:= [(2,Jv l),(3, .bp (0,nx) 0),(4, .bp (1,nx+1) 0),(6,Jb false),(7,int (1:Nat))]) rfl rfl Bf trivial ⟨Rf,Rf,Rf,Rf,Rf,trivial⟩) ?_
   refine stp ?_
   refine Jan (fun y:Nat=> mk 121 [(2,Jv l),(3, .bp (0,nx) 0),(4, .bp (1,nx+1) 0),(6,Jb false),(7,int (1:Nat)),(8,int (P.subs 1).length)] ⟨[((1,nx+1), .c [int p.dflt.1,int p.dflt.2,Jb p.x32,Ji p.rules]),((0,nx), .c (Jav P))], [],y,2⟩) (fun _=> True) ?_ ?_
   ·refine Jo (fun y:Nat×Nat=> mk 121 [(2,Jv l),(3, .bp (0,nx) 0),(4, .bp (1,nx+1) 0),(6,Jb false),(7,int (1:Nat)),(8,int (((List.range y.1).filter (subB18 p l 1)).length:Nat)),(9,int y.1)] ⟨[((1,nx+1), .c [int p.dflt.1,int p.dflt.2,Jb p.x32,Ji p.rules]),((0,nx), .c (Jav P))], [],y.2,2⟩) (fun y=> y.1≤l.length) (fun y=> l.length - y.1) ?_ ?_
    ·exact ⟨(0,nx1),Nat.zero_le _,Et rfl rfl Bf trivial ⟨Rf,Rf,Rf,Rf,Rf,Rf,Rf,trivial⟩⟩
    ·rintro ⟨i,nx2⟩ hi
     dsimp only at hi
     refine stp ?_
     intro c g;cases c
     ·have g:=Jm g
      try dsimp only at g
      have hil:i=l.length:=by omega
      subst hil
      have hct:=h1.count
      refine stp ?_
      exact ⟨nx2,trivial,Et rfl rfl Bf trivial ⟨Rf,Rf,Rf,Rf,Rf,AVle.of_eq (congrArg (fun z:Nat=> int ((z:Nat):Int)) hct),trivial⟩⟩
     ·have g:=Jn g
      try dsimp only at g
      have hil:i < l.length:=by omega
      have hFi:=hF i
      have hfd:=h1.found i
      have hsb:=h1.sub i hil
      have hrn:=Jdd (q:=subB18 p l 1) (i:=i)
      have hle:=Jei (q:=subB18 p l 1) (i:=i)
      have hsB:subB18 p l 1 i=(decide ((l.getD i trow0).mux=((1:Nat):Int)+1)&& (Jej p l i).2):=by
       unfold subB18 Jej
       cases (rowR18 p l i).head? <;> rfl
      have hhd:(Jej p l i).2=true→∃r,(rowR18 p l i).head? =some r∧(Jej p l i).1=codeA r.act:=fun h=> by
       unfold Jej at h⊢
       cases hq:(rowR18 p l i).head? with
       | none=> rw [hq] at h;cases h
       | some r=> exact ⟨r,rfl,rfl⟩
      generalize Jej p l i=fc at hFi hsB hhd
      obtain ⟨cd,fb⟩:=fc
      dsimp only at hFi hsB hhd
      generalize hq:l.getD i trow0=q at hFi hfd hsb hsB
      obtain ⟨nm,a0,a1,a2,a3,a4,mux,sub⟩:=q
      dsimp only at hFi hfd hsb hsB
      have hcell:AV.rp (Jq (l.getD i trow0)).cells= .rp [Jg nm,int a0,int a1,int a2,int a3,int a4,int mux,int sub]:=by rw [hq];rfl
      cases fb
      ·rw [Bool.and_false] at hsB
       rw [hsB] at hrn
       refine stp ?_
       (refine Ju 12 ?_ ?_ ?_ ?_;(· kernel_rfl);(· kernel_rfl);(· kernel_rfl))
       refine stp ?_
       refine ⟨Bd,Jj (b:= .rp [Jg nm,int a0,int a1,int a2,int a3,int a4,int mux,int sub]) hcell ?_⟩
       refine stp ?_
       refine JP (Jz rfl rfl hFi ⟨Rf,Rf,trivial⟩ (JfP _ _)) ?_
       refine stp ?_
       refine ⟨Bd,Jj (b:= .rp [Jg nm,int a0,int a1,int a2,int a3,int a4,int mux,int sub]) hcell ?_⟩
       refine stp ?_
       intro c hc1
       clear hc1
       cases c
       ·refine stp ?_
        exact back (i+1,nx2) hil Dm (Et rfl rfl Bf trivial ⟨Rf,Rf,Rf,Rf,Rf,AVle.of_eq (congrArg (fun z:Nat=> int ((z:Nat):Int)) hrn.symm),Lw,trivial⟩)
       ·refine stp ?_
        exact back (i+1,nx2) hil Dm (Et rfl rfl Bf trivial ⟨Rf,Rf,Rf,Rf,Rf,AVle.of_eq (congrArg (fun z:Nat=> int ((z:Nat):Int)) hrn.symm),Lw,trivial⟩)
      ·rw [Bool.and_true] at hsB
       obtain ⟨r,hr1,hr2⟩:=hhd rfl
       refine stp ?_
       (refine Ju 12 ?_ ?_ ?_ ?_;(· kernel_rfl);(· kernel_rfl);(· kernel_rfl))
       refine stp ?_
       refine ⟨Bd,Jj (b:= .rp [Jg nm,int a0,int a1,int a2,int a3,int a4,int mux,int sub]) hcell ?_⟩
       refine stp ?_
       refine JP (Jz rfl rfl hFi ⟨Rf,Rf,trivial⟩ (JfP _ _)) ?_
       refine stp ?_
       refine ⟨Bd,Jj (b:= .rp [Jg nm,int a0,int a1,int a2,int a3,int a4,int mux,int sub]) hcell ?_⟩
       refine stp ?_
       intro c hc1
       have hc2:c=decide (mux≠((1:Nat):Int)+1):=hc1.trans (Jpd 1 Dc)
       clear hc1
       cases c
       ·have hmx:mux=((1:Nat):Int)+1:=Decidable.of_not_not (of_decide_eq_false hc2.symm)
        rw [decide_eq_true hmx] at hsB
        rw [hsB] at hrn
        have hin:=hfd r hil hmx hr1
        rw [← hr2] at hin
        refine stp ?_
        refine Jan (fun y:Nat=> mk 121 [(2,Jv l),(3, .bp (0,nx) 0),(4, .bp (1,nx+1) 0),(6,Jb false),(7,int (1:Nat)),(8,int (((List.range (i+1)).filter (subB18 p l 1)).length:Nat)),(9,int i),(12,Jb true)] ⟨[((1,nx+1), .c [int p.dflt.1,int p.dflt.2,Jb p.x32,Ji p.rules]),((0,nx), .c (Jav P))], [],y,2⟩) (fun _=> True) ?_ ?_
        ·refine Jo (fun y:Nat×Nat=> mk 121 [(2,Jv l),(3, .bp (0,nx) 0),(4, .bp (1,nx+1) 0),(6,Jb false),(7,int (1:Nat)),(8,int (((List.range (i+1)).filter (subB18 p l 1)).length:Nat)),(9,int i),(10,int (cd:Nat)),(12,Jb (((P.subs 1).take y.1).any (Jcy sub.toNat cd))),(13,int y.1)] ⟨[((1,nx+1), .c [int p.dflt.1,int p.dflt.2,Jb p.x32,Ji p.rules]),((0,nx), .c (Jav P))], [],y.2,2⟩) (fun y=> y.1≤(P.subs 1).length) (fun y=> (P.subs 1).length - y.1) ?_ ?_
         ·exact ⟨(0,nx2),Nat.zero_le _,Et rfl rfl Bf trivial ⟨Rf,Rf,Rf,Rf,Rf,AVle.of_eq (congrArg int ((JF Dm).trans (congrArg (fun z:Nat=> ((z:Nat):Int)) hrn.symm))),Rf,Rf,Rf,Rf,trivial⟩⟩
         ·rintro ⟨j,nx3⟩ hj
          dsimp only at hj
          refine stp ?_
          intro c g2;cases c
          ·have g2:=Jm g2
           try dsimp only at g2
           have hjl:j=(P.subs 1).length:=by omega
           have hany:((P.subs 1).take j).any (Jcy sub.toNat cd)=true:=by
            rw [hjl,List.take_length]
            exact List.any_eq_true.2 ⟨_,hin,by unfold Jcy;rw [decide_eq_true rfl,decide_eq_true rfl];rfl⟩
           refine stp ?_
           exact ⟨nx3,trivial,Et rfl rfl Bf trivial ⟨Rf,Rf,Rf,Rf,Rf,Rf,Rf,AVle.of_eq (congrArg Jb hany),trivial⟩⟩
          ·have g2:=Jn g2
           try dsimp only at g2
           have hjl:j < (P.subs 1).length:=by omega
           have hsm:=h1.small _ (Jc3 (d:=sub0) hjl)
           have hnx:=Jb7 (f:=Jcy sub.toNat cd) (d:=sub0) hjl
           have hlen:=h1.len
           generalize hanyv:((P.subs 1).take j).any (Jcy sub.toNat cd)=fnd at hnx
           cases fnd
           ·refine stp ?_
            (refine Ju 32 ?_ ?_ ?_ ?_;(· kernel_rfl);(· kernel_rfl);(· kernel_rfl))
            refine stp ?_
            refine ⟨Bd, ?_⟩
            refine stp ?_
            refine ⟨Bd,Jj (b:= .rp [Jg nm,int a0,int a1,int a2,int a3,int a4,int mux,int sub]) hcell ?_⟩
            refine stp ?_
            intro c hc3
            have hc4:c=decide (((P.subs 1).getD j sub0).num=sub.toNat):=hc3.trans (Jup hsm.1 hsb)
            clear hc3
            cases c
            ·have hne:Jcy sub.toNat cd ((P.subs 1).getD j sub0)=false:=by unfold Jcy;rw [← hc4];rfl
             refine stp ?_
             exact back (j+1,nx3) hjl Dm (Et rfl rfl Bf trivial ⟨Rf,Rf,Rf,Rf,Rf,Rf,Rf,Rf,AVle.of_eq (congrArg Jb (by rw [hnx,hne];rfl)),Lw,trivial⟩)
            ·refine stp ?_
             refine ⟨Bd, ?_⟩
             refine stp ?_
             intro c hc3
             have hc5:c=decide (((P.subs 1).getD j sub0).code=cd):=hc3.trans (JqO hsm.2)
             clear hc3
             have hne:Jcy sub.toNat cd ((P.subs 1).getD j sub0)=c:=by unfold Jcy;rw [← hc4,← hc5];rfl
             refine stp ?_
             exact back (j+1,nx3) hjl Dm (Et rfl rfl Bf trivial ⟨Rf,Rf,Rf,Rf,Rf,Rf,Rf,Rf,AVle.of_eq (congrArg Jb (by rw [hnx,hne];rfl)),Lw,trivial⟩)
           ·refine stp ?_
            (refine Ju 32 ?_ ?_ ?_ ?_;(· kernel_rfl);(· kernel_rfl);(· kernel_rfl))
            refine stp ?_
            exact back (j+1,nx3) hjl Dm (Et rfl rfl Bf trivial ⟨Rf,Rf,Rf,Rf,Rf,Rf,Rf,Rf,AVle.of_eq (congrArg Jb (by rw [hnx];rfl)),Lw,trivial⟩)
        ·rintro nx3 -
         refine stp ?_
         exact back (i+1,nx3) hil Dm (Et rfl rfl Bf trivial ⟨Rf,Rf,Rf,Rf,Rf,Rf,Lw,trivial⟩)
       ·have hmx:mux≠((1:Nat):Int)+1:=of_decide_eq_true hc2.symm
        rw [decide_eq_false hmx] at hsB
        rw [hsB] at hrn
        refine stp ?_
        exact back (i+1,nx2) hil Dm (Et rfl rfl Bf trivial ⟨Rf,Rf,Rf,Rf,Rf,AVle.of_eq (congrArg (fun z:Nat=> int ((z:Nat):Int)) hrn.symm),Lw,trivial⟩)
   ·rintro nx2 -
    refine stp ?_
    intro c hc1
    have hc2:c=false:=hc1.trans (bne_self_eq_false _)
    clear hc1
    cases hc2
    have hlen:=h1.len
    refine stp ?_
    refine Jo (fun y:Nat×Nat=> mk 121 [(2,Jv l),(3, .bp (0,nx) 0),(4, .bp (1,nx+1) 0),(6,Jb false),(7,int (1:Nat)),(8,int (P.subs 1).length),(14,int y.1)] ⟨[((1,nx+1), .c [int p.dflt.1,int p.dflt.2,Jb p.x32,Ji p.rules]),((0,nx), .c (Jav P))], [],y.2,2⟩) (fun y=> 1≤y.1∧(y.1≤(P.subs 1).length∨y.1=1)) (fun y=> (P.subs 1).length - y.1) ?_ ?_
    ·exact ⟨(1,nx2),⟨Nat.le_refl _, .inr rfl⟩,Et rfl rfl Bf trivial ⟨Rf,Rf,Rf,Rf,Rf,Rf,Rf,trivial⟩⟩
    ·rintro ⟨j,nx3⟩ ⟨hj1,hj2⟩
     dsimp only at hj1 hj2
     refine stp ?_
     intro c g;cases c
     ·have g:=Jm g
      refine stp ?_
      exact back (2,nx3) Dm Dm (Et rfl rfl Bf trivial ⟨Rf,Rf,Rf,Rf,Jl rfl,trivial⟩)
     ·have g:=Jn g
      try dsimp only at g
      have hjl:j < (P.subs 1).length:=by omega
      have hri:=Je6 (f:=fun s:PSub=> s.num) (d:=sub0) h1.rise hj1 hjl
      have hm1:IntKind.i64.wrap ((j:Int) - 1)=((j - 1:Nat):Int):=by rw [Jac Om Om];omega
      refine stp ?_
      (refine Ju 18 ?_ ?_ ?_ ?_;(· kernel_rfl);(· kernel_rfl);(· kernel_rfl))
      refine stp ?_
      refine ⟨Bd, ?_⟩
      refine stp ?_
      refine ⟨⟨Jbs (i:=j - 1) hm1,JbJ (i:=j - 1) hm1 Om⟩,Jj (b:= .rp (JdT ((P.subs 1).getD (j - 1) sub0)).cells) (congrArg (fun z:Int=> AV.rp (JdT ((P.subs 1).getD z.toNat sub0)).cells) hm1) ?_⟩
      refine stp ?_
      intro c hc1
      have hc2:c=false:=hc1.trans (Jgo hri)
      clear hc1
      cases hc2
      refine stp ?_
      exact back (j+1,nx3) ⟨by dsimp only;omega, .inl Dm⟩ Dm (Et rfl rfl Bf trivial ⟨Rf,Rf,Rf,Rf,Rf,Rf,Lw,trivial⟩)
  ·refine stp ?_
   exact Jd rfl Rf
end Go.Proofs.W

namespace Go.Proofs.W
open Go.Vl
set_option maxRecDepth 100000
end Go.Proofs.W

namespace Go.Proofs.W
open Go.Vl
set_option maxRecDepth 100000
def JbF:List Cnd→Cnd→List Cnd
 | [],c=> [c]
 | x::l,c=> if ltC x c=true then x::JbF l c else if x=c then x::l else c::x::l
theorem JqP {c:Cnd}:∀ {l:List Cnd} {k:Nat},k≤l.length→(∀j,j < k→ltC (l.getD j cnd0) c=true)→(k < l.length→ltC (l.getD k cnd0) c=false)→
 JbF l c=if k < l.length∧l.getD k cnd0=c then l else l.take k++c::l.drop k
 | [],k,hk,_,_=> by
   obtain rfl:k=0:=by simpa using hk
   simp [JbF]
 | x::l,0,_,_,h=> by
   have h:ltC x c=false:=h (by simp)
   unfold JbF
   rw [h,if_neg Dc]
   by_cases e:x=c
   ·rw [if_pos e,if_pos ⟨by simp,e⟩]
   ·rw [if_neg e,if_neg (fun k=> e k.2)];rfl
 | x::l,k+1,hk,hj,h=> by
   have h0:ltC x c=true:=hj 0 Om
   have ih:=JqP (c:=c) (l:=l) (k:=k) (by simpa using hk) (fun j q=> hj (j+1) Om) (fun q=> h (by simpa using q))
   unfold JbF
   rw [if_pos h0,ih]
   by_cases e:k < l.length∧l.getD k cnd0=c
   ·rw [if_pos e,if_pos ⟨by simpa using e.1,by simpa [List.getD] using e.2⟩]
   ·rw [if_neg e,if_neg (fun q=> e ⟨by simpa using q.1,by simpa [List.getD] using q.2⟩)];rfl
theorem JjR {c x:Cnd}:∀ {l:List Cnd},x∈JbF l c↔x=c∨x∈l
 | []=> by simp [JbF]
 | y::l=> by
   unfold JbF
   split
   ·rw [List.mem_cons,JjR,List.mem_cons]
    constructor
    ·rintro (h | h | h)
     ·exact .inr (.inl h)
     ·exact .inl h
     ·exact .inr (.inr h)
    ·rintro (h | h | h)
     ·exact .inr (.inl h)
     ·exact .inl h
     ·exact .inr (.inr h)
   ·split
    ·rename_i h;subst h;simp
    ·simp
theorem JqQ {c:Cnd}:∀ {l:List Cnd},l.Pairwise RC→(JbF l c).Pairwise RC
 | [],_=> List.pairwise_singleton _ _
 | y::l,h=> by
   have hc:=List.pairwise_cons.1 h
   unfold JbF
   split
   ·rename_i hy
    refine List.pairwise_cons.2 ⟨fun z hz=> ?_,JqQ hc.2⟩
    rcases JjR.1 hz with rfl | hz
    ·exact hy
    ·exact hc.1 z hz
   ·split
    ·exact h
    ·rename_i hy hne
     have hcy:RC c y:=by
      unfold RC
      cases hl:ltC c y with
      | true=> rfl
      | false=> exact absurd (Jqm (by simpa using hy) hl) hne
     refine List.pairwise_cons.2 ⟨fun z hz=> ?_,h⟩
     rcases List.mem_cons.1 hz with rfl | hz
     ·exact hcy
     ·exact JrT _ _ _ hcy (hc.1 z hz)
theorem Jpe (L:List Cnd):L.foldl JbF []=JcY L:=by
 have key:∀(L acc:List Cnd),acc.Pairwise RC→(L.foldl JbF acc).Pairwise RC∧∀x,x∈L.foldl JbF acc↔x∈L∨x∈acc:=by
  intro L
  induction L with
  | nil=> intro acc h;exact ⟨h,fun x=> by simp⟩
  | cons c L ih=>
    intro acc h
    obtain ⟨h1,h2⟩:=ih (JbF acc c) (JqQ h)
    refine ⟨h1,fun x=> ?_⟩
    rw [List.foldl_cons,h2,JjR,List.mem_cons]
    constructor
    ·rintro (h | h | h)
     ·exact .inl (.inr h)
     ·exact .inl (.inl h)
     ·exact .inr h
    ·rintro ((h | h) | h)
     ·exact .inr (.inl h)
     ·exact .inl h
     ·exact .inr (.inr h)
 obtain ⟨h1,h2⟩:=key L [] List.Pairwise.nil
 exact JgC JtJ JrT h1 (JcK L).1 fun x=> (h2 x).trans (by simpa using ((JcK L).2 x).symm)
theorem Jpf (L:List Cnd):(L.foldl JbF []).length≤L.length:=by rw [Jpe];exact JwO L
def nmR16 (r:Rul):List UInt8:=r.name.data.toList
def Jd5 (N:List (List UInt8)) (rs:List Rul):Nat:=(rs.filter fun r=> !decide (nmR16 r∈N)).length
theorem JmR (N:List (List UInt8)) (z:List UInt8):∀rs:List Rul,Jd5 (N++ [z]) rs≤Jd5 N rs
 | []=> Nat.le_refl _
 | r::rs=> by
   have ih:=JmR N z rs
   unfold Jd5 at ih⊢
   rw [List.filter_cons,List.filter_cons]
   by_cases h:nmR16 r∈N
   ·rw [if_neg (by simp [h]),if_neg (by simp [h])];exact ih
   ·by_cases h2:nmR16 r=z
    ·rw [if_neg (by simp [h2]),if_pos (by simp [h])]
     simp only [List.length_cons];omega
    ·rw [if_pos (by simp [h,h2]),if_pos (by simp [h])]
     simp only [List.length_cons];omega
theorem JmS {N:List (List UInt8)}:∀ {rs:List Rul} {r:Rul},r∈rs→¬nmR16 r∈N→Jd5 (N++ [nmR16 r]) rs < Jd5 N rs
 | [],_,h,_=> by cases h
 | x::rs,r,h,hn=> by
   have hle:=JmR N (nmR16 r) rs
   rcases List.mem_cons.1 h with rfl | h
   ·unfold Jd5 at hle⊢
    rw [List.filter_cons,List.filter_cons,if_neg (by simp),if_pos (by simp [hn])]
    simp only [List.length_cons];omega
   ·have ih:=JmS h hn
    unfold Jd5 at ih⊢
    rw [List.filter_cons,List.filter_cons]
    by_cases h:nmR16 x∈N
    ·rw [if_neg (by simp [h]),if_neg (by simp [h])];exact ih
    ·by_cases h2:nmR16 x=nmR16 r
     ·rw [if_neg (by simp [h2]),if_pos (by simp [h])]
      simp only [List.length_cons];omega
     ·rw [if_pos (by simp [h,h2]),if_pos (by simp [h])]
      simp only [List.length_cons];omega
structure RefI (p:Pol) (N:List (List UInt8)) (D:List Bool):Prop where
 len:D.length=p.rules.length
 pw:N.Pairwise RS
 done:∀j,j < p.rules.length→D.getD j false=decide (nmR16 (p.rules.getD j rul0)∈N)
 above:∀j,j < p.rules.length→¬nmR16 (p.rules.getD j rul0)∈N→∀z∈N,RS z (nmR16 (p.rules.getD j rul0))
theorem Jur (p:Pol):RefI p [] (List.replicate p.rules.length false):=
 ⟨List.length_replicate,List.Pairwise.nil,fun j hj=> by simp [List.getD,hj],fun _ _ _ z hz=> by cases hz⟩
theorem Jxf {p:Pol} {N:List (List UInt8)} {D:List Bool} (h:RefI p N D) (hall:∀j,j < p.rules.length→D.getD j false=true):
 JbT p.dflt (J9 p.rules) N=JbT p.dflt (J9 p.rules) (JcZ (J9 p.rules)):=by
 refine Jvn h.pw (Jjm (Jgh _)) (fun _=> rfl) fun s hs=> ⟨?_,JwR hs⟩
 have hne:gOf s p.rules≠ []:=by
  rw [← Jd1]
  intro e;rw [e] at hs;exact hs rfl
 obtain ⟨n,hn⟩:=List.exists_mem_of_ne_nil _ hne
 obtain ⟨h1,r,hr,h2⟩:=JiK hn
 obtain ⟨j,hj,rfl⟩:=List.getElem_of_mem hr
 have h3:=h.done j hj
 rw [hall j hj] at h3
 have h4:nmR16 (p.rules.getD j rul0)∈N:=of_decide_eq_true h3.symm
 have h5:p.rules.getD j rul0=p.rules[j]:=by simp [List.getD,hj]
 rw [h5] at h4
 unfold nmR16 at h4
 have h6:=(Jbg h2).2.1
 rw [h1] at h6
 rwa [← h6] at h4
theorem JvP {p:Pol} {N:List (List UInt8)} {D D':List Bool} {a:Nat} (h:RefI p N D) (ha:a < p.rules.length) (hd:D.getD a false=false)
 (hmin:∀j,j < p.rules.length→D.getD j false=false→Go.Sort.ltStr (nmR16 (p.rules.getD j rul0)) (nmR16 (p.rules.getD a rul0))=false)
 (hl:D'.length=p.rules.length) (hD:∀j,j < p.rules.length→D'.getD j false=(D.getD j false|| Jae (p.rules.getD j rul0).name (p.rules.getD a rul0).name)):
 RefI p (N++ [nmR16 (p.rules.getD a rul0)]) D':=by
 have hna:¬nmR16 (p.rules.getD a rul0)∈N:=by
  have:=h.done a ha
  rw [hd] at this
  exact of_decide_eq_false this.symm
 have hk:∀s t:Rul,Jae s.name t.name=decide (nmR16 s=nmR16 t):=fun s t=> by
  rw [Bool.eq_iff_iff,JbS,decide_eq_true_iff]
  exact ⟨fun e=> by unfold nmR16;rw [e],fun e=> Jhx e⟩
 refine ⟨hl, ?_,fun j hj=> ?_,fun j hj hn z hz=> ?_⟩
 ·rw [List.pairwise_append]
  refine ⟨h.pw,List.pairwise_singleton _ _,fun z hz b hb=> ?_⟩
  rw [List.mem_singleton.1 hb]
  exact h.above a ha hna z hz
 ·rw [hD j hj,h.done j hj,hk]
  rw [Bool.eq_iff_iff];simp
 ·have hn1:¬nmR16 (p.rules.getD j rul0)∈N:=fun q=> hn (List.mem_append_left _ q)
  have hn2:¬nmR16 (p.rules.getD j rul0)=nmR16 (p.rules.getD a rul0):=fun q=> hn (by rw [q];simp)
  rcases List.mem_append.1 hz with hz | hz
  ·exact h.above j hj hn1 z hz
  ·rw [List.mem_singleton.1 hz]
   unfold RS
   cases hl:Go.Sort.ltStr (nmR16 (p.rules.getD a rul0)) (nmR16 (p.rules.getD j rul0)) with
   | true=> rfl
   | false=> exact absurd (Jgg _ _ (hmin j hj (by rw [h.done j hj];exact decide_eq_false hn1)) hl) hn2
theorem JvQ {d:A2} {rs:List Rul} {N:List (List UInt8)} {r:Rul}:JbT d (J9 rs) (N++ [nmR16 r])=JbT d (J9 rs) N++JbD d (gOf r.name rs):=by
 unfold JbT
 rw [List.flatMap_append]
 simp only [List.flatMap_cons,List.flatMap_nil,List.append_nil]
 have:(⟨(nmR16 r).toArray⟩:ByteArray)=r.name:=by unfold nmR16;obtain ⟨⟨⟨a⟩⟩,b,c⟩:=r;rfl
 rw [this,Jd1]
theorem Jpg {s:ByteArray} {rs:List Rul} {i:Nat} (h:i < rs.length):gOf s (rs.take (i+1))=if Jae s (rs.getD i rul0).name then Jeb (gOf s (rs.take i)) (rs.getD i rul0) else gOf s (rs.take i):=by
 unfold gOf;rw [JaZ rul0 h,List.foldl_append];rfl
theorem JvR {l:List Rul} {r:Rul}:(Jeb l r).length≤l.length+1:=by
 unfold Jeb
 split
 ·omega
 ·split
  ·omega
  ·simp
theorem JiV {s:ByteArray}:∀ {i:Nat} {rs:List Rul},i≤rs.length→(gOf s (rs.take i)).length≤i
 | 0,_,_=> by simp [gOf]
 | i+1,rs,h=> by
   have ih:=JiV (s:=s) (i:=i) (rs:=rs) Om
   rw [Jpg Om]
   split
   ·have:=JvR (l:=gOf s (rs.take i)) (r:=rs.getD i rul0);omega
   ·omega
theorem JvS {p:Pol} {N:List (List UInt8)} {D:List Bool} (h:RefI p N D):(JbT p.dflt (J9 p.rules) N).length≤N.length * p.rules.length:=by
 unfold JbT
 have hb:∀z:List UInt8,(JbD p.dflt (JaO (J9 p.rules) ⟨z.toArray⟩)).length≤p.rules.length:=fun z=> by
  refine Nat.le_trans (Jqq _ _) ?_
  rw [Jd1]
  have:=JiV (s:=⟨z.toArray⟩) (i:=p.rules.length) (rs:=p.rules) (Nat.le_refl _)
  rwa [List.take_length] at this
 clear h
 induction N with
 | nil=> simp
 | cons z N ih=>
   rw [List.flatMap_cons,List.length_append,List.length_cons,Nat.succ_mul]
   have:=hb z
   omega
end Go.Proofs.W

namespace Go.Proofs.W
open Go.Vl
set_option maxRecDepth 100000
theorem Jst (a b:Cnd):Tells Tryz.prog 300 [JD a,JD b] (Jb (ltC a b)):=by
 refine Jf Tryz.func300 rfl rfl fun nx=> ?_
 have hlt:=Jg1 (a:=a) (b:=b)
 generalize ltC a b=t at hlt
 obtain ⟨a1,a2,a3,a4⟩:=a
 obtain ⟨b1,b2,b3,b4⟩:=b
 dsimp only at hlt
 refine stp ?_
 intro c g1;cases c
 ·have g1:a1=b1:=by simpa using g1.symm
  refine stp ?_
  intro c g2;cases c
  ·have g2:a2=b2:=by simpa using g2.symm
   refine stp ?_
   intro c g3;cases c
   ·have g3:a3=b3:=by have:(a3:Int)=(b3:Int):=by simpa using g3.symm
                      omega
    refine stp ?_
    have hq:decide ((a4:Int) < (b4:Int))=t:=by rw [Bool.eq_iff_iff,decide_eq_true_iff,hlt];omega
    intro c h9;cases c
    all_goals
     refine stp ?_
     exact Jd rfl (Jt (h9.trans hq))
   ·have g3:¬a3=b3:=fun h=> by subst h;simp at g3
    refine stp ?_
    have hq:decide ((a3:Int) < (b3:Int))=t:=by rw [Bool.eq_iff_iff,decide_eq_true_iff,hlt];omega
    intro c h9;cases c
    all_goals
     refine stp ?_
     exact Jd rfl (Jt (h9.trans hq))
  ·have g2:¬a2=b2:=fun h=> by subst h;simp at g2
   refine stp ?_
   have hq:decide (a2 < b2)=t:=by rw [Bool.eq_iff_iff,decide_eq_true_iff,hlt];omega
   intro c h9;cases c
   all_goals
    refine stp ?_
    exact Jd rfl (Jt (h9.trans hq))
 ·have g1:¬a1=b1:=fun h=> by subst h;simp at g1
  refine stp ?_
  have hq:decide (a1 < b1)=t:=by rw [Bool.eq_iff_iff,decide_eq_true_iff,hlt];omega
  intro c h9;cases c
  all_goals
   refine stp ?_
   exact Jd rfl (Jt (h9.trans hq))
theorem JpY (a b:List Cnd) (ha:a.length≤1000000):Tells Tryz.prog 150 [JW a,JW b] (Jb (decide (a=b))):=by
 refine Jf Tryz.func150 rfl rfl fun nx=> ?_
 refine stp ?_
 intro c g1;cases c
 rotate_left
 ·have g1:((a.length:Nat):Int)≠((b.length:Nat):Int):=Jab.1 g1
  refine stp ?_
  exact Jd rfl (Jt (by rw [eq_comm];exact decide_eq_false (fun h=> g1 (by rw [h]))))
 have g1:((a.length:Nat):Int)=((b.length:Nat):Int):=Jaa.1 g1
 have hl:a.length=b.length:=by omega
 refine stp ?_
 refine Jo (fun s:Nat×Nat=> mk 26 [(0,JW a),(1,JW b),(5,int s.1)] ⟨[], [],s.2,0⟩) (fun s=> s.1≤a.length∧∀j,j < s.1→a.getD j cnd0=b.getD j cnd0) (fun s=> a.length - s.1) ?_ ?_
 ·exact ⟨(0,nx),⟨Nat.zero_le _,fun j h=> absurd h (Nat.not_lt_zero _)⟩,J5 rfl rfl ⟨Rf,Rf,Rf,trivial⟩⟩
 ·rintro ⟨i,nx2⟩ ⟨h3,h4⟩
  dsimp only at h3 h4
  refine stp ?_
  intro c h5;cases c
  ·have h6:=Jm h5
   dsimp only at h6
   obtain rfl:i=a.length:=by omega
   have he:=Jmf hl h4
   refine stp ?_
   exact Jd rfl (Jt (by rw [eq_comm];exact decide_eq_true he))
  ·have h6:=Jn h5
   dsimp only at h6
   have hi:i < a.length:=by omega
   refine stp ?_
   (refine Ju 9 ?_ ?_ ?_ ?_;(· kernel_rfl);(· kernel_rfl);(· kernel_rfl))
   refine stp ?_
   refine ⟨⟨by dsimp only;omega,by dsimp only;omega⟩, ?_⟩
   refine stp ?_
   refine ⟨⟨by dsimp only;omega,by dsimp only;omega⟩, ?_⟩
   refine stp ?_
   intro c hc
   have hc2:c= !decide (a.getD i cnd0=b.getD i cnd0):=hc.trans (congrArg (!·) cnd_eqb)
   cases c
   ·have he:a.getD i cnd0=b.getD i cnd0:=by simpa using hc2
    refine stp ?_
    refine back (i+1,nx2) ⟨by dsimp only;omega,fun j hj=> ?_⟩ Dm (J5 rfl rfl ⟨Rf,Rf,Jl (JF Dm),trivial⟩)
    dsimp only at hj
    rcases Nat.lt_or_ge j i with h | h
    ·exact h4 j h
    ·obtain rfl:j=i:=by omega
     exact he
   ·have he:¬a.getD i cnd0=b.getD i cnd0:=by simpa using hc2
    refine stp ?_
    exact Jd rfl (Jt (by rw [eq_comm];exact decide_eq_false (fun h=> he (by rw [h]))))
def cdF (R:List Cnd) (j:Nat):AV:=JD (R.getD j cnd0)
theorem Jk0:Jba Tryz.prog 85=true:=by kernel_rfl
theorem gc_c10:Tryz.prog.cellsOf 85=4:=by kernel_rfl
theorem Jk1:Tryz.prog.bytesOf 85=32:=by kernel_rfl
theorem JqR {n:Nat} {f f':Nat→AV} {k:Nat} (h:k < n):Jby n f f' k=f k:=by
 unfold Jby
 rw [show Nat.blt k n=true from Nat.ble_eq_true_of_le h];rfl
theorem JiW {n:Nat} {f f':Nat→AV} {k:Nat} (h:¬k < n):Jby n f f' k=f' (k - n):=by
 unfold Jby
 rw [show Nat.blt k n=false from by cases hb:Nat.blt k n with | false=> rfl | true=> exact absurd (Nat.le_of_ble_eq_true hb) Om];rfl
theorem JvT {l:List Cnd} {c:Cnd} {m k:Nat} {f f' f'':Nat→AV} {i j:Vl.Id} (hm:m=k) (hk:k≤l.length) (h1:∀j,j < k→f' j=JD (l.getD j cnd0)) (h2:f'' 0=JD c) (h:i.2=j.2):
 AVle (.os 4 (0+m+1) (Jby (0+m) (Jby 0 f f') f'') (some i)) (.os 4 (k+1) (cdF (l.take k++ [c])) (some j)):=by
 subst hm
 rw [Nat.zero_add]
 refine (AVle.os_fun fun q hq=> ?_).trans (AVle.os_nm h)
 by_cases hq2:q < m
 ·rw [JqR hq2,JiW (Nat.not_lt_zero _),Nat.sub_zero,h1 q hq2]
  unfold cdF
  congr 1
  simp only [List.getD]
  rw [List.getElem?_append_left (by rw [List.length_take];omega),List.getElem?_take,if_pos hq2]
 ·rw [JiW hq2,show q - m=0 by omega,h2]
  unfold cdF
  simp [List.getD,List.getElem?_append_right,hk,show q=m by omega]
theorem JvU {l:List Cnd} {c:Cnd} {f f'':Nat→AV} {i j:Vl.Id} (h2:f'' 0=JD c) (h:i.2=j.2):
 AVle (.os 4 (0+1) (Jby 0 f f'') (some i)) (.os 4 (0+1) (cdF (l.take 0++ [c])) (some j)):=by
 refine (AVle.os_fun fun q hq=> ?_).trans (AVle.os_nm h)
 obtain rfl:q=0:=by omega
 rw [JiW Om,Nat.sub_zero,h2];rfl
theorem JvV {l:List Cnd} {c:Cnd} {k:Nat} {f':Nat→AV} {oi:Option Vl.Id} (hk:k≤l.length) (h1:∀j,j < l.length - k→f' j=JD (l.getD (k+j) cnd0)):
 AVle (.os 4 (k+1+(l.length - k)) (Jby (k+1) (cdF (l.take k++ [c])) f') oi) (JW (l.take k++c::l.drop k)):=by
 have hlen:(l.take k++c::l.drop k).length=k+1+(l.length - k):=by simp;omega
 refine AVle.os_sl.trans ?_
 unfold JW JN
 rw [hlen]
 refine AVle.sl_fun fun q hq=> ?_
 by_cases hq2:q < k+1
 ·rw [JqR hq2]
  unfold cdF
  rw [show l.take k++c::l.drop k=(l.take k++ [c])++l.drop k by simp]
  congr 1
  simp only [List.getD]
  have e:(l.take k++ [c]).length=k+1:=by rw [List.length_append,List.length_take];simp;omega
  have h2:=List.getElem?_append_left (l₂:=l.drop k) (show q < (l.take k++ [c]).length by omega)
  rw [h2]
 ·rw [JiW hq2,h1 _ Om]
  rw [show l.take k++c::l.drop k=(l.take k++ [c])++l.drop k by simp]
  congr 1
  simp only [List.getD]
  have e:(l.take k++ [c]).length=k+1:=by rw [List.length_append,List.length_take];simp;omega
  have h2:=List.getElem?_append_right (l₂:=l.drop k) (show (l.take k++ [c]).length≤q by omega)
  rw [h2,List.getElem?_drop,e]
theorem JvW {l:List Cnd} {c:Cnd} {k:Nat} {oi:Option Vl.Id} (hk:l.length - k=0) (hk2:k≤l.length):AVle (.os 4 (k+1) (cdF (l.take k++ [c])) oi) (JW (l.take k++c::l.drop k)):=by
 have hlen:(l.take k++c::l.drop k).length=k+1:=by simp;omega
 refine AVle.os_sl.trans ?_
 unfold JW JN
 rw [hlen]
 refine AVle.sl_fun fun q hq=> ?_
 unfold cdF
 rw [show l.drop k= [] from List.drop_eq_nil_of_le Om]
set_option maxHeartbeats 4000000 in
theorem Jsu (l:List Cnd) (c:Cnd) (hl:l.length≤1000000):Tells Tryz.prog 240 [JW l,JD c] (JW (JbF l c)):=by
 refine Jf Tryz.func240 rfl rfl fun nx=> ?_
 refine stp ?_
 refine Jan (fun y:Nat×Nat=> mk 47 [(0,JW l),(3, .bp (0,nx) 0),(5,int y.1)] ⟨[((0,nx), .c [int c.arg,int c.op,u64 c.mask,u64 c.value])], [],y.2,1⟩) (fun y=> y.1≤l.length∧(∀j,j < y.1→ltC (l.getD j cnd0) c=true)∧(y.1 < l.length→ltC (l.getD y.1 cnd0) c=false)) ?_ ?_
 ·refine Jo (fun y:Nat×Nat=> mk 47 [(0,JW l),(3, .bp (0,nx) 0),(5,int y.1)] ⟨[((0,nx), .c [int c.arg,int c.op,u64 c.mask,u64 c.value])], [],y.2,1⟩) (fun y=> y.1≤l.length∧∀j,j < y.1→ltC (l.getD j cnd0) c=true) (fun y=> l.length - y.1) ?_ ?_
  ·exact ⟨(0,nx+1),⟨Nat.zero_le _,fun j h=> absurd h (Nat.not_lt_zero _)⟩,Jk _ _ rfl rfl Sf .slnil Bf trivial ⟨Rf,Rf,Rf,trivial⟩⟩
  ·rintro ⟨k,nx1⟩ ⟨h1,h2⟩
   dsimp only at h1 h2
   refine stp ?_
   by_cases hk:k < l.length
   ·have hd:decide ((k:Int) < (l.length:Int))=true:=decide_eq_true Om
    have hah:=Jst (l.getD k cnd0) c
    cases hb:ltC (l.getD k cnd0) c with
    | true=>
      rw [hb] at hah
      refine JZ 12 _ (fun _=> false) (fun i=> match i with | 3=> true | 10=> true | _=> false) [0,1,2,3,4,5,6,7,8,9,10,11] (by kernel_rfl) (by kernel_rfl) (HB.refl _) ?_
      refine stp ?_
      refine ⟨.v (.bool true),Jen rfl rfl trivial hd, ?_⟩
      refine stp ?_
      refine ⟨_,JJ rfl rfl rfl rfl trivial, ?_⟩
      refine stp ?_
      refine ⟨_,JJ rfl rfl rfl rfl trivial, ?_⟩
      refine stp ?_
      refine ⟨_,JJ rfl rfl rfl rfl Bd, ?_⟩
      refine stp ?_
      refine J7 (b:= .rp (JD (l.getD k cnd0)).cells) rfl ?_
      refine stp ?_
      refine ⟨_,JJ rfl rfl rfl rfl trivial, ?_⟩
      refine stp ?_
      refine J7 (b:=JD (l.getD k cnd0)) rfl ?_
      refine stp ?_
      refine ⟨_,JJ rfl rfl rfl rfl (by first | trivial | exact ⟨rfl,Nat.le_of_ble_eq_true rfl⟩), ?_⟩
      refine stp ?_
      refine J7 (b:=JD c) rfl ?_
      refine stp ?_
      refine ⟨_,Jgt rfl rfl rfl rfl rfl hah ⟨Rf,Rf,trivial⟩ (NoId.v _), ?_⟩
      refine stp ?_
      exact back (k+1,nx1) ⟨hk,fun j hj=> by dsimp only at hj;rcases Nat.lt_or_ge j k with q | q;exact h2 j q;rw [show j=k by omega];exact hb⟩ Dm (Jk _ _ rfl rfl Sf .slnil Bf trivial ⟨Rf,Rf,Lw,trivial⟩)
    | false=>
      rw [hb] at hah
      refine JZ 12 _ (fun _=> false) (fun i=> match i with | 3=> true | 10=> true | _=> false) [0,1,2,3,4,5,6,7,8,9,10,11] (by kernel_rfl) (by kernel_rfl) (HB.refl _) ?_
      refine stp ?_
      refine ⟨.v (.bool true),Jen rfl rfl trivial hd, ?_⟩
      refine stp ?_
      refine ⟨_,JJ rfl rfl rfl rfl trivial, ?_⟩
      refine stp ?_
      refine ⟨_,JJ rfl rfl rfl rfl trivial, ?_⟩
      refine stp ?_
      refine ⟨_,JJ rfl rfl rfl rfl Bd, ?_⟩
      refine stp ?_
      refine J7 (b:= .rp (JD (l.getD k cnd0)).cells) rfl ?_
      refine stp ?_
      refine ⟨_,JJ rfl rfl rfl rfl trivial, ?_⟩
      refine stp ?_
      refine J7 (b:=JD (l.getD k cnd0)) rfl ?_
      refine stp ?_
      refine ⟨_,JJ rfl rfl rfl rfl (by first | trivial | exact ⟨rfl,Nat.le_of_ble_eq_true rfl⟩), ?_⟩
      refine stp ?_
      refine J7 (b:=JD c) rfl ?_
      refine stp ?_
      refine ⟨_,Jgt rfl rfl rfl rfl rfl hah ⟨Rf,Rf,trivial⟩ (NoId.v _), ?_⟩
      refine stp ?_
      exact ⟨(k,nx1),⟨h1,h2,fun _=> hb⟩,Jk _ _ rfl rfl Sf .slnil Bf trivial ⟨Rf,Rf,Rf,trivial⟩⟩
   ·have hd:decide ((k:Int) < (l.length:Int))=false:=decide_eq_false Om
    refine JZ 12 _ (fun _=> false) (fun i=> match i with | 3=> true | 10=> true | _=> false) [0,1,2,3,4,5,6,7,8,9,10,11] (by kernel_rfl) (by kernel_rfl) (HB.refl _) ?_
    refine stp ?_
    refine ⟨.v (.bool false),Jen rfl rfl trivial hd, ?_⟩
    refine stp ?_
    refine ⟨_,JX rfl rfl rfl, ?_⟩
    refine stp ?_
    refine ⟨_,JX rfl rfl rfl, ?_⟩
    refine stp ?_
    refine ⟨_,JX rfl rfl rfl, ?_⟩
    refine stp ?_
    refine ⟨_,JX rfl rfl rfl, ?_⟩
    refine stp ?_
    refine ⟨_,JX rfl rfl rfl, ?_⟩
    refine stp ?_
    refine ⟨_,JX rfl rfl rfl, ?_⟩
    refine stp ?_
    exact ⟨(k,nx1),⟨h1,h2,fun h=> absurd h hk⟩,Jk _ _ rfl rfl Sf .slnil Bf trivial ⟨Rf,Rf,Rf,trivial⟩⟩
 ·rintro ⟨k,nx1⟩ ⟨h1,h2,h3⟩
  dsimp only at h1 h2 h3
  rw [JqP h1 h2 h3]
  refine stp ?_
  refine JgW (fun y:Nat=> mk 47 [(0,JW l),(3, .bp (0,nx) 0),(5,int k),(32,Jb (decide (k < l.length∧l.getD k cnd0=c)))] ⟨[((0,nx), .c [int c.arg,int c.op,u64 c.mask,u64 c.value])], [],y,1⟩) (fun _=> True) ?_ ?_
  ·by_cases hk:k < l.length
   ·have hd:decide ((k:Int) < (l.length:Int))=true:=decide_eq_true Om
    by_cases he:l.getD k cnd0=c
    ·rw [decide_eq_true (show k < l.length∧l.getD k cnd0=c from ⟨hk,he⟩)]
     refine JZ 12 _ (fun _=> false) (fun i=> match i with | 3=> true | 10=> true | _=> false) [0,1,2,3,4,5,6,7,8,9,10,11] (by kernel_rfl) (by kernel_rfl) (HB.refl _) ?_
     refine stp ?_
     refine ⟨.v (.bool true),Jen rfl rfl trivial hd, ?_⟩
     refine stp ?_
     refine ⟨_,JJ rfl rfl rfl rfl trivial, ?_⟩
     refine stp ?_
     refine ⟨_,JJ rfl rfl rfl rfl trivial, ?_⟩
     refine stp ?_
     refine ⟨_,JJ rfl rfl rfl rfl Bd, ?_⟩
     refine stp ?_
     refine J7 (b:= .rp (JD (l.getD k cnd0)).cells) rfl ?_
     refine stp ?_
     refine ⟨_,JJ rfl rfl rfl rfl trivial, ?_⟩
     refine stp ?_
     refine J7 (b:=JD (l.getD k cnd0)) rfl ?_
     refine stp ?_
     refine ⟨_,JJ rfl rfl rfl rfl (by first | trivial | exact ⟨rfl,Nat.le_of_ble_eq_true rfl⟩), ?_⟩
     refine stp ?_
     refine J7 (b:=JD c) rfl ?_
     refine stp ?_
     refine ⟨.v (.bool true),Jem rfl rfl rfl rfl ⟨by kernel_rfl,by kernel_rfl⟩ (cnd_eqb.trans (decide_eq_true he)), ?_⟩
     refine stp ?_
     exact ⟨nx1,trivial,Jk _ _ rfl rfl Sf .slnil Bf trivial ⟨Rf,Rf,Rf,Rf,trivial⟩⟩
    ·rw [decide_eq_false (show ¬(k < l.length∧l.getD k cnd0=c) from fun h=> he h.2)]
     refine JZ 12 _ (fun _=> false) (fun i=> match i with | 3=> true | 10=> true | _=> false) [0,1,2,3,4,5,6,7,8,9,10,11] (by kernel_rfl) (by kernel_rfl) (HB.refl _) ?_
     refine stp ?_
     refine ⟨.v (.bool true),Jen rfl rfl trivial hd, ?_⟩
     refine stp ?_
     refine ⟨_,JJ rfl rfl rfl rfl trivial, ?_⟩
     refine stp ?_
     refine ⟨_,JJ rfl rfl rfl rfl trivial, ?_⟩
     refine stp ?_
     refine ⟨_,JJ rfl rfl rfl rfl Bd, ?_⟩
     refine stp ?_
     refine J7 (b:= .rp (JD (l.getD k cnd0)).cells) rfl ?_
     refine stp ?_
     refine ⟨_,JJ rfl rfl rfl rfl trivial, ?_⟩
     refine stp ?_
     refine J7 (b:=JD (l.getD k cnd0)) rfl ?_
     refine stp ?_
     refine ⟨_,JJ rfl rfl rfl rfl (by first | trivial | exact ⟨rfl,Nat.le_of_ble_eq_true rfl⟩), ?_⟩
     refine stp ?_
     refine J7 (b:=JD c) rfl ?_
     refine stp ?_
     refine ⟨.v (.bool false),Jem rfl rfl rfl rfl ⟨by kernel_rfl,by kernel_rfl⟩ (cnd_eqb.trans (decide_eq_false he)), ?_⟩
     refine stp ?_
     exact ⟨nx1,trivial,Jk _ _ rfl rfl Sf .slnil Bf trivial ⟨Rf,Rf,Rf,Rf,trivial⟩⟩
   ·have hd:decide ((k:Int) < (l.length:Int))=false:=decide_eq_false Om
    rw [decide_eq_false (show ¬(k < l.length∧l.getD k cnd0=c) from fun h=> hk h.1)]
    refine JZ 12 _ (fun _=> false) (fun i=> match i with | 3=> true | 10=> true | _=> false) [0,1,2,3,4,5,6,7,8,9,10,11] (by kernel_rfl) (by kernel_rfl) (HB.refl _) ?_
    refine stp ?_
    refine ⟨.v (.bool false),Jen rfl rfl trivial hd, ?_⟩
    refine stp ?_
    refine ⟨_,JX rfl rfl rfl, ?_⟩
    refine stp ?_
    refine ⟨_,JX rfl rfl rfl, ?_⟩
    refine stp ?_
    refine ⟨_,JX rfl rfl rfl, ?_⟩
    refine stp ?_
    refine ⟨_,JX rfl rfl rfl, ?_⟩
    refine stp ?_
    refine ⟨_,JX rfl rfl rfl, ?_⟩
    refine stp ?_
    refine ⟨_,JX rfl rfl rfl, ?_⟩
    refine stp ?_
    exact ⟨nx1,trivial,Jk _ _ rfl rfl Sf .slnil Bf trivial ⟨Rf,Rf,Rf,Rf,trivial⟩⟩
  ·rintro nx2 -
   by_cases hq:k < l.length∧l.getD k cnd0=c
   ·rw [decide_eq_true hq,if_pos hq]
    refine stp ?_
    exact Jd rfl Rf
   ·rw [decide_eq_false hq,if_neg hq]
    refine stp ?_
    refine JgW (fun y:Nat×Nat=> mk 47 [(0,JW l),(5,int k),(6, .os 4 (k+1) (cdF (l.take k++ [c])) (some (0,y.1)))] ⟨[], [((0,y.1),(k+1) * 4)],y.2,1⟩) (fun _=> True) ?_ ?_
    ·refine JZ 9 _ (fun i=> match i with | 4=> true | 7=> true | _=> false) (fun _=> false) [0,1,2,3,5,6,4,7,8] (by kernel_rfl) (by kernel_rfl) (HB.refl _) ?_
     refine stp ?_
     refine ⟨Bd, ?_⟩
     refine stp ?_
     refine J7 (b:=JD c) rfl ?_
     refine stp ?_
     refine ⟨_,Jex (e:=85) (n:=0) (oi:=none) (sz:=4) (m:=k) (szx:=4) (f':=fun k=> JD (l.getD k cnd0)) (HB.refl _) rfl rfl rfl (.inl rfl) Tryz.underlying98 Jk0 (.inl ⟨rfl,rfl⟩) (.inr gc_c10.symm) (fun i h=> by cases h) (fun k _=> rfl) (fun _=> by rw [Jk1];omega) (fun _=> by omega),fun r h' hr=> ?_⟩
     rcases hr with ⟨hm,rfl,rfl⟩ | ⟨hm,rfl,rfl⟩
     ·obtain rfl:k=0:=hm
      refine stp ?_
      refine ⟨_,Jex (e:=85) (n:=0) (oi:=none) (sz:=4) (f:=_) (m:=1) (szx:=4) (HB.refl _) rfl rfl rfl (.inr ⟨_,rfl⟩) Tryz.underlying98 Jk0 (.inr gc_c10.symm) (.inr gc_c10.symm) (fun i h=> by cases h) (Jy rfl) (fun _=> by rw [Jk1];omega) (fun _=> by omega),fun r h' hr=> ?_⟩
      rcases hr with ⟨hr,-⟩ | ⟨-,rfl,rfl⟩
      ·exact absurd hr Dc
      refine stp ?_
      exact ⟨(nx2,nx2+1),trivial,Jk (pm:= [((0,nx2),(0+1) * 4)]) (bx:= []) _ _ rfl rfl (.cons _ .slnil) Sf trivial ⟨rfl,show (0+1) * Tryz.prog.cellsOf 85=(0+1) * 4 by rw [gc_c10],trivial⟩ ⟨Rf,Rf,JvU rfl rfl,trivial⟩⟩
     ·refine stp ?_
      refine ⟨_,Jex (e:=85) (n:=0+k) (oi:=some (1,nx2)) (sz:=4) (f:=_) (m:=1) (szx:=4) (HB.refl _) rfl rfl rfl (.inr ⟨_,rfl⟩) Tryz.underlying98 Jk0 (.inr gc_c10.symm) (.inr gc_c10.symm) (fun i h=> by cases h;rw [gc_c10];rfl) (Jy rfl) (fun _=> by rw [Jk1];omega) (fun _=> by omega),fun r h' hr=> ?_⟩
      rcases hr with ⟨hr,-⟩ | ⟨-,rfl,rfl⟩
      ·exact absurd hr Dc
      refine stp ?_
      exact ⟨(nx2+1,nx2+2),trivial,Jk (pm:= [((0,nx2+1),(k+1) * 4)]) (bx:= []) _ _ rfl rfl (.cons _ .slnil) Sf trivial ⟨rfl,show (0+k+1) * Tryz.prog.cellsOf 85=(k+1) * 4 by rw [gc_c10,Nat.zero_add],trivial⟩ ⟨Rf,Rf,JvT rfl h1 (fun _ _=> rfl) rfl rfl,trivial⟩⟩
    ·rintro ⟨s1,nx3⟩ -
     refine JB ?_
     refine JO (fun i=> match i with | 1=> true | _=> false) 6 ?_
     refine stp ?_
     refine ⟨Bd, ?_⟩
     refine stp ?_
     refine Jj (b:= .sl 4 (l.length - k) (fun j=> JD (l.getD (k+j) cnd0))) rfl ?_
     refine stp ?_
     refine AOp.any (Ja8 (e:=85) (n:=k+1) (oi:=some (0,s1)) (sz:=4) (f:=cdF (l.take k++ [c])) (m:=l.length - k) (szx:=4) (f':=fun j=> JD (l.getD (k+j) cnd0)) rfl rfl (.inl rfl) Tryz.underlying98 Jk0 (.inr gc_c10.symm) (.inr gc_c10.symm) (fun i h=> by cases h;rw [gc_c10];rfl) (fun k _=> rfl) (fun _=> by rw [Jk1];omega) (fun _=> by omega) (fun hm=> ?_) (fun hm=> ?_))
     ·refine stp ?_
      exact Jd rfl (JvW hm h1)
     ·refine stp ?_
      exact Jd rfl (JvV h1 (fun _ _=> rfl))
end Go.Proofs.W

namespace Go.Proofs.W
open Go.Vl
set_option maxRecDepth 100000
def rrB (nx:Nat) (s:ByteArray) (k n:Int) (cs L:List Cnd):List (Vl.Id×Own):= [((2,nx+2), .c [Jg s,int k,int n,JW L]),((1,nx+1), .c [Jg ⟨#[]⟩,int 0,int 0, .os 0 0 (fun _=> .any) none]),((0,nx), .c [Jg s,int k,int n,JW cs])]
theorem JyZ (nx:Nat) (s:ByteArray) (k n:Int) (cs:List Cnd):BxLe [((2,nx+2), .c [Jg s,int k,int n, .os 0 0 (fun _=> .any) none]),((1,nx+1), .c [Jg ⟨#[]⟩,int 0,int 0, .os 0 0 (fun _=> .any) none]),((0,nx), .c [Jg s,int k,int n,JW cs])] (rrB nx s k n cs []):=
 ⟨rfl,⟨Rf,Rf,Rf,AVle.os_sl0,trivial⟩,Bf⟩
set_option maxHeartbeats 8000000 in
theorem JpZ (r:Rul) (hok:∀c∈r.conds,c.ok) (hrt:∀c∈r.conds,JU c=true) (hl:r.conds.length≤1000000):Tells Tryz.prog 149 [Jaj r] (JoA (JaF r)):=by
 obtain ⟨s,⟨k,n⟩,cs⟩:=r
 dsimp only at hok hl hrt
 refine Jf Tryz.func149 rfl rfl fun nx=> ?_
 refine stp ?_
 refine Jo (fun y:Nat×List Cnd×Nat=> mk 40 [(1, .bp (0,nx) 0),(2, .bp (1,nx+1) 0),(4, .bp (2,nx+2) 0),(5,int y.1)] ⟨rrB nx s k n cs y.2.1, [],y.2.2,3⟩) (fun y=> y.1≤cs.length∧y.2.1=(JbC (cs.take y.1)).foldl JbF []∧∀j,j < y.1→Jct (cs.getD j cnd0)=false) (fun y=> cs.length - y.1) ?_ ?_
 ·exact ⟨(0, [],nx+3),⟨Nat.zero_le _,rfl,fun j h=> absurd h (Nat.not_lt_zero _)⟩,Jk (pm:= []) _ [] rfl rfl Sf Sf (JyZ nx s k n cs) trivial ⟨Rf,Rf,Rf,Rf,trivial⟩⟩
 ·rintro ⟨i,L,nx1⟩ ⟨h1,hL,h3⟩
  dsimp only at h1 hL h3
  have hLl:L.length≤cs.length:=by
   rw [hL]
   refine Nat.le_trans (Jpf _) (Nat.le_trans (JjH _) ?_)
   rw [List.length_take];omega
  refine stp ?_
  intro c g;cases c
  ·have g:=Jm g
   try dsimp only at g
   have hi:i=cs.length:=by omega
   subst hi
   rw [List.take_length] at hL
   have hR:JaF ⟨s,(k,n),cs⟩=some ⟨s,(k,n),L⟩:=by
    unfold JaF
    dsimp only
    rw [JoB h3,hL,Jpe];rfl
   rw [hR]
   refine stp ?_
   exact Jh rfl ⟨rfl,trivial⟩ (AVle.tups (cs:= [_,_]) ⟨Rf,Rf,trivial⟩)
  ·have g:=Jn g
   try dsimp only at g
   have hi:i < cs.length:=by omega
   have hcs:=JrN (cs.getD i cnd0) (Jhw hok hi) (hrt _ (by simp [List.getD,hi]))
   have ha:=Jmk hi
   have hnv:Jct (cs.getD i cnd0)=decide ((JaE (cs.getD i cnd0)).2=2):=rfl
   have hak0:=Jtz (c:=cs.getD i cnd0)
   have hak1:=JtA (c:=cs.getD i cnd0)
   generalize JaE (cs.getD i cnd0)=N at hcs hnv hak0 hak1
   obtain ⟨⟨qa,qo,qm,qv⟩,st⟩:=N
   dsimp only at hnv hak0 hak1
   have hput:=Jsu L ⟨qa,qo,qm,qv⟩ Om
   refine stp ?_
   refine ⟨Bd, ?_⟩
   refine stp ?_
   refine Je rfl rfl hcs ⟨Rf,trivial⟩ fun nx2=> ?_
   refine stp ?_
   intro c g2;cases c
   ·have g2:st≠2:=fun h=> by subst h;cases g2
    rw [decide_eq_false g2] at hnv
    have h3':∀j,j < i+1→Jct (cs.getD j cnd0)=false:=fun j hj=> by
     rcases Nat.lt_or_ge j i with q | q
     ·exact h3 j q
     ·rw [show j=i by omega];exact hnv
    refine stp ?_
    intro c g3;cases c
    ·have g3:st≠0:=fun h=> by subst h;cases g3
     rw [hak1 g3] at ha
     refine stp ?_
     exact back (i+1,L,_) ⟨hi,by dsimp only;rw [ha,hL];simp,h3'⟩ Dm (Jk (bx:=rrB nx s k n cs L) _ [] rfl rfl (.cons _ Sf) Sf Bf trivial ⟨Rf,Rf,Rf,Lw,trivial⟩)
    ·have g3:st=0:=by
      by_cases h:st=0
      ·exact h
      ·exfalso
       have:((st:Int) ==0)=false:=beq_eq_false_iff_ne.2 Om
       exact absurd (g3.trans this) Dc
     rw [hak0 g3] at ha
     have hL2:JbF L ⟨qa,qo,qm,qv⟩=(JbC (cs.take (i+1))).foldl JbF []:=by rw [ha,List.foldl_append,← hL];rfl
     refine stp ?_
     refine Je rfl rfl hput ⟨Rf,Rf,trivial⟩ fun nx3=> ?_
     refine stp ?_
     exact back (i+1,JbF L ⟨qa,qo,qm,qv⟩,_) ⟨hi,hL2,h3'⟩ Dm (Jk (bx:=rrB nx s k n cs (JbF L ⟨qa,qo,qm,qv⟩)) _ [] rfl rfl (.cons _ Sf) Sf Bf trivial ⟨Rf,Rf,Rf,Lw,trivial⟩)
   ·have g2:st=2:=by
     by_cases h:st=2
     ·exact h
     ·exfalso
      have:((st:Int) ==2)=false:=beq_eq_false_iff_ne.2 Om
      exact absurd (g2.trans this) Dc
    have hR:JaF ⟨s,(k,n),cs⟩=none:=by
     unfold JaF
     dsimp only
     rw [JtB hi (by rw [hnv];exact decide_eq_true g2)];rfl
    rw [hR]
    refine stp ?_
    exact Jh rfl ⟨rfl,trivial⟩ (AVle.tups (cs:= [_,_]) ⟨AVle.ags (cs:= [_,_,_,_]) ⟨Rf,Rf,Rf,AVle.os_sl0,trivial⟩,Rf,trivial⟩)
end Go.Proofs.W

namespace Go.Proofs.W
open Go.Vl
set_option maxRecDepth 100000
def qC (p:Pol) (R:List Rul) (oi:Option Nat):List AV:= [int p.dflt.1,int p.dflt.2,Jb p.x32, .os 4 R.length (Jaz R) (nmd oi)]
def nmq:Option Nat→Option Vl.Id
 | none=> none
 | some s=> some (1,s)
def rpB (nx:Nat) (p:Pol) (D:List Bool) (R:List Rul) (oi:Option Nat):List (Vl.Id×Own):= [((3,nx+3), .c (D.map Jb)),((2,nx+2), .c (qC p R oi)),((1,nx+1), .c JdM),((0,nx), .c (JeZ p))]
def atI:Option Nat→Int
 | none=> -1
 | some a=> a
def AtI (p:Pol) (D:List Bool) (i:Nat):Option Nat→Prop
 | none=> ∀j,j < i→D.getD j false=true
 | some a=> a < i∧D.getD a false=false∧∀j,j < i→D.getD j false=false→Go.Sort.ltStr (nmR16 (p.rules.getD j rul0)) (nmR16 (p.rules.getD a rul0))=false
theorem Jxg (r t:Rul):Op.bytesLess r.name.toList t.name.toList=Go.Sort.ltStr (nmR16 r) (nmR16 t):=by
 rw [Go.Proofs.bytesLess_eq,Lib.toList_data,Lib.toList_data];rfl
theorem Jxh {p:Pol} {D:List Bool} {i:Nat} {a:Option Nat} (h:AtI p D i a) (hd:D.getD i false=true):AtI p D (i+1) a:=by
 cases a with
 | none=> exact fun j hj=> by rcases Nat.lt_or_ge j i with q | q;exact h j q;rw [show j=i by omega];exact hd
 | some a=> exact ⟨Nat.lt_succ_of_lt h.1,h.2.1,fun j hj hn=> by
    rcases Nat.lt_or_ge j i with q | q
    ·exact h.2.2 j q hn
    ·rw [show j=i by omega,hd] at hn;cases hn⟩
theorem JvX {p:Pol} {D:List Bool} {i:Nat} (h:AtI p D i none) (hd:D.getD i false=false):AtI p D (i+1) (some i):=
 ⟨Nat.lt_succ_self _,hd,fun j hj hn=> by
   rcases Nat.lt_or_ge j i with q | q
   ·rw [h j q] at hn;cases hn
   ·rw [show j=i by omega];exact Go.Sort.swo_ltStr.irrefl _⟩
theorem Jxi {p:Pol} {D:List Bool} {i a:Nat} (h:AtI p D i (some a)) (hd:D.getD i false=false) (hl:Go.Sort.ltStr (nmR16 (p.rules.getD i rul0)) (nmR16 (p.rules.getD a rul0))=true):AtI p D (i+1) (some i):=
 ⟨Nat.lt_succ_self _,hd,fun j hj hn=> by
   rcases Nat.lt_or_ge j i with q | q
   ·cases hc:Go.Sort.ltStr (nmR16 (p.rules.getD j rul0)) (nmR16 (p.rules.getD i rul0)) with
    | false=> rfl
    | true=> rw [← h.2.2 j q hn];exact (Go.Sort.swo_ltStr.trans _ _ _ hc hl).symm
   ·rw [show j=i by omega];exact Go.Sort.swo_ltStr.irrefl _⟩
theorem Jxj {p:Pol} {D:List Bool} {i a:Nat} (h:AtI p D i (some a)) (hl:Go.Sort.ltStr (nmR16 (p.rules.getD i rul0)) (nmR16 (p.rules.getD a rul0))=false):AtI p D (i+1) (some a):=
 ⟨Nat.lt_succ_of_lt h.1,h.2.1,fun j hj hn=> by
   rcases Nat.lt_or_ge j i with q | q
   ·exact h.2.2 j q hn
   ·rw [show j=i by omega];exact hl⟩
theorem Jus {D D':List Bool} {n i:Nat} {key:Nat→Bool} (h:∀j,j < n→D'.getD j false=(D.getD j false|| (decide (j < i)&& key j))) (hk:key i=false):∀j,j < n→D'.getD j false=(D.getD j false|| (decide (j < i+1)&& key j)):=fun j hj=> by
 rw [h j hj]
 by_cases e:j=i
 ·subst e;rw [hk,Bool.and_false,Bool.and_false]
 ·rw [show decide (j < i+1)=decide (j < i) from by rw [Bool.eq_iff_iff,decide_eq_true_iff,decide_eq_true_iff];omega]
theorem JvY {D D':List Bool} {n i:Nat} {key:Nat→Bool} (h:∀j,j < n→D'.getD j false=(D.getD j false|| (decide (j < i)&& key j))) (hk:key i=true) (hl:D'.length=n) (hi:i < n):∀j,j < n→(D'.set i true).getD j false=(D.getD j false|| (decide (j < i+1)&& key j)):=fun j hj=> by
 by_cases e:j=i
 ·subst e;rw [hk,decide_eq_true (Nat.lt_succ_self _)];simp [List.getD,hl,hi]
 ·rw [show decide (j < i+1)=decide (j < i) from by rw [Bool.eq_iff_iff,decide_eq_true_iff,decide_eq_true_iff];omega,← h j hj]
  simp [List.getD,List.getElem?_set,Ne.symm e]
def nor (r:Rul):Rul:=(JaF r).getD rul0
def isN (r:Rul) (L:List Rul) (k:Nat):Bool:=(JaF r).isSome&& !Jb9 (L.take k) (nor r)
theorem Jsv (r:Rul):JoA (JaF r)= .tup [Jaj (nor r),Jb (JaF r).isSome]:=by
 unfold nor
 cases JaF r <;> rfl
theorem JvZ {L:List Rul} {n:Rul} {k:Nat} (h:k < L.length):Jb9 (L.take (k+1)) n=(Jb9 (L.take k) n|| JeF n (L.getD k rul0)):=by
 unfold Jb9;rw [JaZ rul0 h,List.any_append];simp
theorem Jv0 {r:Rul} {L:List Rul} {k:Nat} (h:k < L.length):isN r L (k+1)=(isN r L k&& !JeF (nor r) (L.getD k rul0)):=by
 unfold isN;rw [JvZ h]
 cases (JaF r).isSome <;> cases Jb9 (L.take k) (nor r) <;> cases JeF (nor r) (L.getD k rul0) <;> rfl
theorem Jxk {r:Rul} {L:List Rul}:Jeb L r=if isN r L L.length then L++ [nor r] else L:=by
 unfold Jeb isN nor
 rw [List.take_length]
 cases JaF r with
 | none=> rfl
 | some n=>
   show (if Jb9 L n=true then L else L++ [n])=if (true&& !Jb9 L n)=true then L++ [n] else L
   cases Jb9 L n <;> rfl
theorem Jk2:Jba Tryz.prog 100=true:=by kernel_rfl
theorem gc_r14:Tryz.prog.cellsOf 100=4:=by kernel_rfl
theorem Jk3:Tryz.prog.bytesOf 100=56:=by kernel_rfl
theorem Jut {s:ByteArray} {rs:List Rul} {k:Nat} (h:∀r∈rs,r.conds.length≤k) {n:Rul} (hn:n∈gOf s rs):n.conds.length≤k:=by
 obtain ⟨_,r,hr,h2⟩:=JiK hn
 exact Nat.le_trans (Jbg h2).1 (h r hr)
theorem Jnd {p:Pol} (h:JaB p=true):∀r∈p.rules,∀c∈r.conds,JU c=true:=by
 unfold JaB at h
 simp only [Bool.and_eq_true,decide_eq_true_eq,Bool.not_eq_true',List.any_eq_false] at h
 intro r hr c hc
 have h1:J6 r=true:=by have:=h.2.2 r hr;simpa using this
 unfold J6 at h1
 simp only [Bool.and_eq_true,decide_eq_true_eq,Bool.not_eq_true',List.any_eq_false] at h1
 have:=h1.2.2.2 c hc
 simpa using this
theorem Jxl {r:Rul} {k:Nat} (h:r.conds.length≤k):(nor r).conds.length≤k:=by
 unfold nor
 cases hN:JaF r with
 | none=> exact Nat.zero_le _
 | some n=> exact Nat.le_trans (Jbg hN).1 h
theorem Jx6:Tryz.prog.bytesOf 4=1:=by kernel_rfl
theorem Juu:Tryz.prog.cellsOf 4=1:=by kernel_rfl
set_option maxHeartbeats 8000000 in
theorem JjS (p:Pol) (hp:p.ok) (hr:JaB p=true):Tells Tryz.prog 80 [JaL p] (JaL (Jc p)):=by
 obtain ⟨hl,hc6⟩:=JaU hr
 refine Jf Tryz.func80 rfl rfl fun nx=> ?_
 refine stp ?_
 intro c hc
 subst hc
 refine stp ?_
 (conv=> whnf)
 refine ⟨by omega,by omega,by rw [Jx6];omega,by omega, ?_⟩
 refine stp ?_
 refine Jo (fun y:List (List UInt8)×List Bool×List Rul×Option Nat×Nat=> mk 147 [(1, .bp (0,nx) 0),(2, .bp (1,nx+1) 0),(3, .bp (2,nx+2) 0),(4, .hs (3,nx+3) 0 p.rules.length p.rules.length)] ⟨rpB nx p y.2.1 y.2.2.1 y.2.2.2.1,Jad (nmd y.2.2.2.1) (y.2.2.1.length * 4),y.2.2.2.2,4⟩)
  (fun y=> RefI p y.1 y.2.1∧y.2.2.1=JbT p.dflt (J9 p.rules) y.1∧(y.2.2.2.1=none→y.2.2.1= [])∧y.1.length+Jd5 y.1 p.rules≤p.rules.length) (fun y=> Jd5 y.1 p.rules) ?_ ?_
 ·refine ⟨([],List.replicate p.rules.length false, [],none,nx+4),⟨Jur p,rfl,fun _=> rfl, ?_⟩, ?_⟩
  ·dsimp only;unfold Jd5;rw [List.length_nil,Nat.zero_add];exact List.length_filter_le _ _
  ·refine Jk (pm:= []) (bx:=rpB nx p (List.replicate p.rules.length false) [] none) _ [] rfl rfl Sf Sf ⟨rfl,Jkz ?_,rfl,⟨Rf,Rf,Rf,AVle.os_nil,trivial⟩,Bf⟩ trivial ⟨Rf,Rf,Rf,Rf,trivial⟩
   rw [List.map_replicate];rfl
 ·rintro ⟨N,D,R,oi,nx1⟩ ⟨h1,h2,h3,h4⟩
  dsimp only at h1 h2 h3 h4
  have hRl:=JvS h1
  rw [← h2] at hRl
  have hDl:=h1.len
  refine stp ?_
  refine Jan (fun y:Option Nat×Nat=> mk 147 [(1, .bp (0,nx) 0),(2, .bp (1,nx+1) 0),(3, .bp (2,nx+2) 0),(4, .hs (3,nx+3) 0 p.rules.length p.rules.length),(5,int (atI y.1))] ⟨rpB nx p D R oi,Jad (nmd oi) (R.length * 4),y.2,4⟩) (fun y=> AtI p D p.rules.length y.1) ?_ ?_
  ·refine Jo (fun y:Nat×Option Nat×Nat=> mk 147 [(1, .bp (0,nx) 0),(2, .bp (1,nx+1) 0),(3, .bp (2,nx+2) 0),(4, .hs (3,nx+3) 0 p.rules.length p.rules.length),(5,int (atI y.2.1)),(6,int y.1)] ⟨rpB nx p D R oi,Jad (nmd oi) (R.length * 4),y.2.2,4⟩) (fun y=> y.1≤p.rules.length∧AtI p D y.1 y.2.1) (fun y=> p.rules.length - y.1) ?_ ?_
   ·exact ⟨(0,none,nx1),⟨Nat.zero_le _,fun j h=> absurd h (Nat.not_lt_zero _)⟩,Et rfl rfl Bf Pf ⟨Rf,Rf,Rf,Rf,Rf,Rf,trivial⟩⟩
   ·rintro ⟨i,a,nx2⟩ ⟨k1,k2⟩
    dsimp only at k1 k2
    refine stp ?_
    intro c g;cases c
    ·have g:=Jm g
     try dsimp only at g
     have hi:i=p.rules.length:=by omega
     subst hi
     refine stp ?_
     exact ⟨(a,nx2),k2,Et rfl rfl Bf Pf ⟨Rf,Rf,Rf,Rf,Rf,trivial⟩⟩
    ·have g:=Jn g
     try dsimp only at g
     have hi:i < p.rules.length:=by omega
     have hit:(0+(Int.toNat (i:Int)) * Tryz.prog.cellsOf 4)=i:=by rw [Juu];omega
     refine stp ?_
     (refine Ju 24 ?_ ?_ ?_ ?_;(· kernel_rfl);(· kernel_rfl);(· kernel_rfl))
     refine stp ?_
     refine ⟨Bd,Jj (b:= .bp (3,nx+3) i) (congrArg (AV.bp (3,nx+3)) hit) ?_⟩
     (conv=> whnf)
     cases hD:D.getD i false with
     | true=>
       refine ⟨⟨rfl,by rw [List.length_map];omega⟩,Jj (b:= .v (.bool true)) ((JnM Om).trans (by rw [hD];rfl)) ?_⟩
       refine stp ?_
       exact back (i+1,a,nx2) ⟨hi,Jxh k2 hD⟩ Dm (Et rfl rfl Bf Pf ⟨Rf,Rf,Rf,Rf,Rf,Lw,trivial⟩)
     | false=>
       refine ⟨⟨rfl,by rw [List.length_map];omega⟩,Jj (b:= .v (.bool false)) ((JnM Om).trans (by rw [hD];rfl)) ?_⟩
       cases a with
       | none=>
         refine stp ?_
         exact back (i+1,some i,nx2) ⟨hi,JvX k2 hD⟩ Dm (Et rfl rfl Bf Pf ⟨Rf,Rf,Rf,Rf,Rf,Lw,trivial⟩)
       | some a=>
         have ha:=k2.1
         refine stp ?_
         (conv=> whnf)
         refine ⟨Bd, ?_⟩
         refine stp ?_
         (conv=> whnf)
         refine ⟨⟨Int.natCast_nonneg a,show (a:Int) < (p.rules.length:Int) by omega⟩, ?_⟩
         refine stp ?_
         intro c hc
         have hc2:c=Go.Sort.ltStr (nmR16 (p.rules.getD i rul0)) (nmR16 (p.rules.getD a rul0)):=hc.trans (Jxg _ _)
         clear hc
         cases c
         ·refine stp ?_
          exact back (i+1,some a,nx2) ⟨hi,Jxj k2 hc2.symm⟩ Dm (Et rfl rfl Bf Pf ⟨Rf,Rf,Rf,Rf,Rf,Lw,trivial⟩)
         ·refine stp ?_
          exact back (i+1,some i,nx2) ⟨hi,Jxi k2 hD hc2.symm⟩ Dm (Et rfl rfl Bf Pf ⟨Rf,Rf,Rf,Rf,Rf,Lw,trivial⟩)
  ·rintro ⟨a,nx2⟩ hat
   dsimp only at hat
   refine stp ?_
   cases a with
   | none=>
     have hall:JbT p.dflt (J9 p.rules) N=JbT p.dflt (J9 p.rules) (JcZ (J9 p.rules)):=Jxf h1 hat
     refine stp ?_
     unfold Jc
     rw [← hall,← h2]
     exact Jh rfl (by first | trivial | exact ⟨rfl,trivial⟩ | exact ⟨⟨rfl,rfl⟩,trivial⟩) (AVle.ags (cs:= [_,_,_,_]) ⟨Rf,Rf,Rf,AVle.os_sl,trivial⟩)
   | some a=>
     obtain ⟨ha,hDa,hmin⟩:=hat
     refine stp ?_
     (conv=> whnf)
     refine ⟨⟨Int.natCast_nonneg a,show (a:Int) < (p.rules.length:Int) by omega⟩, ?_⟩
     refine stp ?_
     refine Jan (fun y:List Bool×List Rul×Option Nat×Nat=> mk 147 [(1, .bp (0,nx) 0),(2, .bp (1,nx+1) 0),(3, .bp (2,nx+2) 0),(4, .hs (3,nx+3) 0 p.rules.length p.rules.length),(8, .os 4 y.2.1.length (Jaz y.2.1) (nmq y.2.2.1))] ⟨rpB nx p y.1 R oi,Jad (nmq y.2.2.1) (y.2.1.length * 4)++Jad (nmd oi) (R.length * 4),y.2.2.2,4⟩) (fun y=> y.1.length=p.rules.length∧(∀j,j < p.rules.length→y.1.getD j false=(D.getD j false|| Jae (p.rules.getD j rul0).name (p.rules.getD a rul0).name))∧y.2.1=gOf (p.rules.getD a rul0).name p.rules∧(y.2.2.1=none→y.2.1= [])) ?_ ?_
     ·refine Jo (fun y:Nat×List Bool×List Rul×Option Nat×Nat=> mk 147 [(1, .bp (0,nx) 0),(2, .bp (1,nx+1) 0),(3, .bp (2,nx+2) 0),(4, .hs (3,nx+3) 0 p.rules.length p.rules.length),(7,Jg (p.rules.getD a rul0).name),(8, .os 4 y.2.2.1.length (Jaz y.2.2.1) (nmq y.2.2.2.1)),(9,int y.1)] ⟨rpB nx p y.2.1 R oi,Jad (nmq y.2.2.2.1) (y.2.2.1.length * 4)++Jad (nmd oi) (R.length * 4),y.2.2.2.2,4⟩) (fun y=> y.1≤p.rules.length∧y.2.1.length=p.rules.length∧(∀j,j < p.rules.length→y.2.1.getD j false=(D.getD j false|| (decide (j < y.1)&& Jae (p.rules.getD j rul0).name (p.rules.getD a rul0).name)))∧y.2.2.1=gOf (p.rules.getD a rul0).name (p.rules.take y.1)∧(y.2.2.2.1=none→y.2.2.1= [])) (fun y=> p.rules.length - y.1) ?_ ?_
      ·exact ⟨(0,D, [],none,nx2),⟨Nat.zero_le _,hDl,fun j _=> by simp,rfl,fun _=> rfl⟩,Et rfl rfl Bf Pf ⟨Rf,Rf,Rf,Rf,Rf,AVle.os_nil,Rf,trivial⟩⟩
      ·rintro ⟨i,D',L,li,nx3⟩ ⟨k1,k2,k3,k4,k5⟩
       dsimp only at k1 k2 k3 k4 k5
       refine stp ?_
       intro c g;cases c
       ·have g:=Jm g
        try dsimp only at g
        have hi:i=p.rules.length:=by omega
        subst hi
        rw [List.take_length] at k4
        refine stp ?_
        exact ⟨(D',L,li,nx3),⟨k2,fun j hj=> by rw [k3 j hj,decide_eq_true hj,Bool.true_and],k4,k5⟩,Et rfl rfl Bf Pf ⟨Rf,Rf,Rf,Rf,Rf,trivial⟩⟩
       ·have g:=Jn g
        try dsimp only at g
        have hi:i < p.rules.length:=by omega
        have hmem:p.rules.getD i rul0∈p.rules:=by simp [List.getD,hi]
        have hnext:=Jpg (s:=(p.rules.getD a rul0).name) hi
        have hLl:L.length≤i:=by rw [k4];exact JiV k1
        refine stp ?_
        (conv=> whnf)
        refine ⟨Bd, ?_⟩
        refine stp ?_
        intro c hc
        have hk:c= !Jae (p.rules.getD i rul0).name (p.rules.getD a rul0).name:=hc
        clear hc
        cases c
        ·have hk1:Jae (p.rules.getD i rul0).name (p.rules.getD a rul0).name=true:=by simpa using hk.symm
         rw [Jms,if_pos hk1,← k4] at hnext
         have hit:(0+(Int.toNat (i:Int)) * Tryz.prog.cellsOf 4)=i:=by rw [Juu];omega
         have hsp:Jat (D'.map Jb) i [.v (.bool true)]=(D'.set i true).map Jb:=JqZ (f:=Jb) (x:=true) Om
         have hrp:Tells Tryz.prog 149 [Jaj (p.rules.getD i rul0)] (.tup [Jaj (nor (p.rules.getD i rul0)),Jb (JaF (p.rules.getD i rul0)).isSome]):=by
          rw [← Jsv]
          exact JpZ _ (hp.2 _ hmem).2.2 (Jnd hr _ hmem) (by have:=hc6 _ hmem;omega)
         have Jet:=JvY k3 hk1 k2 hi
         have hnc:(nor (p.rules.getD i rul0)).conds.length≤6:=Jxl (hc6 _ hmem)
         have hLc:∀x∈L,x.conds.length≤6:=fun x hx=> Jut (fun r hr=> hc6 r (List.mem_of_mem_take hr)) (by rw [← k4];exact hx)
         refine stp ?_
         refine ⟨Bd,Jj (b:= .bp (3,nx+3) i) (congrArg (AV.bp (3,nx+3)) hit) ?_⟩
         (conv=> whnf)
         refine ⟨⟨rfl,by rw [List.length_map];show i+1≤D'.length;omega⟩, ?_⟩
         rw [hsp]
         refine stp ?_
         refine ⟨Bd, ?_⟩
         refine stp ?_
         refine Je rfl rfl hrp ⟨Rf,trivial⟩ fun nx4=> ?_
         intro c hc
         have hc2:c=isN (p.rules.getD i rul0) L 0:=hc.trans (by unfold isN Jb9;simp)
         clear hc
         refine stp ?_
         refine Jan (fun y:Bool×Nat=> mk 147 [(1, .bp (0,nx) 0),(2, .bp (1,nx+1) 0),(3, .bp (2,nx+2) 0),(4, .hs (3,nx+3) 0 p.rules.length p.rules.length),(7,Jg (p.rules.getD a rul0).name),(8, .os 4 L.length (Jaz L) (nmq li)),(9,int i),(10, .bp (4,nx4) 0),(11,Jb y.1)] ⟨((4,nx4), .c (JfK (nor (p.rules.getD i rul0))))::rpB nx p (D'.set i true) R oi,Jad (nmq li) (L.length * 4)++Jad (nmd oi) (R.length * 4),y.2,5⟩) (fun y=> y.1=isN (p.rules.getD i rul0) L L.length) ?_ ?_
         ·refine Jo (fun y:Nat×Bool×Nat=> mk 147 [(1, .bp (0,nx) 0),(2, .bp (1,nx+1) 0),(3, .bp (2,nx+2) 0),(4, .hs (3,nx+3) 0 p.rules.length p.rules.length),(7,Jg (p.rules.getD a rul0).name),(8, .os 4 L.length (Jaz L) (nmq li)),(9,int i),(10, .bp (4,nx4) 0),(11,Jb y.2.1),(12,int y.1)] ⟨((4,nx4), .c (JfK (nor (p.rules.getD i rul0))))::rpB nx p (D'.set i true) R oi,Jad (nmq li) (L.length * 4)++Jad (nmd oi) (R.length * 4),y.2.2,5⟩) (fun y=> y.1≤L.length∧y.2.1=isN (p.rules.getD i rul0) L y.1) (fun y=> L.length - y.1) ?_ ?_
          ·exact ⟨(0,c,nx4+1),⟨Nat.zero_le _,hc2⟩,Et rfl rfl Bf Pf ⟨Rf,Rf,Rf,Rf,Rf,Rf,Rf,Rf,Rf,Rf,trivial⟩⟩
          ·rintro ⟨k,b,nx5⟩ ⟨q1,q2⟩
           dsimp only at q1 q2
           refine stp ?_
           intro c gk;cases c
           ·have gk:=Jm gk
            try dsimp only at gk
            have hk:k=L.length:=by omega
            subst hk
            refine stp ?_
            exact ⟨(b,nx5),q2,Et rfl rfl Bf Pf ⟨Rf,Rf,Rf,Rf,Rf,Rf,Rf,Rf,Rf,trivial⟩⟩
           ·have gk:=Jn gk
            try dsimp only at gk
            have hk:k < L.length:=by omega
            have hnx:=Jv0 (r:=p.rules.getD i rul0) hk
            rw [← q2] at hnx
            refine stp ?_
            cases b with
            | false=>
              refine stp ?_
              refine JZ 21 _ (fun _=> false) (fun _=> false) [0,1,2,3,4,5,6,7,8,9,10,11,12,13,14,15,16,17,18,19,20] (by kernel_rfl) (by kernel_rfl) (HB.refl _) ?_
              refine stp ?_
              refine ⟨_,JX rfl rfl rfl, ?_⟩
              refine stp ?_
              refine ⟨_,JX rfl rfl rfl, ?_⟩
              refine stp ?_
              refine ⟨_,JX rfl rfl rfl, ?_⟩
              refine stp ?_
              refine ⟨_,JX rfl rfl rfl, ?_⟩
              refine stp ?_
              refine ⟨_,JX rfl rfl rfl, ?_⟩
              refine stp ?_
              refine ⟨_,JX rfl rfl rfl, ?_⟩
              refine stp ?_
              refine ⟨_,JX rfl rfl rfl, ?_⟩
              refine stp ?_
              refine ⟨_,JX rfl rfl rfl, ?_⟩
              refine stp ?_
              refine ⟨_,JX rfl rfl rfl, ?_⟩
              refine stp ?_
              refine ⟨_,JX rfl rfl rfl, ?_⟩
              refine stp ?_
              refine ⟨_,JX rfl rfl rfl, ?_⟩
              refine stp ?_
              refine ⟨_,JX rfl rfl rfl, ?_⟩
              refine stp ?_
              refine ⟨_,JX rfl rfl rfl, ?_⟩
              refine stp ?_
              refine ⟨_,JX rfl rfl rfl, ?_⟩
              refine stp ?_
              refine ⟨_,JX rfl rfl rfl, ?_⟩
              refine stp ?_
              refine ⟨_,JX rfl rfl rfl, ?_⟩
              refine stp ?_
              exact back (k+1,false,nx5) ⟨hk,hnx.symm⟩ Dm (Et rfl rfl Bf Pf ⟨Rf,Rf,Rf,Rf,Rf,Rf,Rf,Rf,Rf,Lw,trivial⟩)
            | true=>
              refine stp ?_
              refine JZ 21 _ (fun _=> false) (fun _=> false) [0,1,2,3,4,5,6,7,8,9,10,11,12,13,14,15,16,17,18,19,20] (by kernel_rfl) (by kernel_rfl) (HB.refl _) ?_
              refine stp ?_
              refine ⟨_,JJ rfl rfl rfl rfl (by first | trivial | exact ⟨rfl,Nat.le_of_ble_eq_true rfl⟩ | exact Bd), ?_⟩
              refine stp ?_
              refine ⟨_,JJ rfl rfl rfl rfl (by first | trivial | exact ⟨rfl,Nat.le_of_ble_eq_true rfl⟩ | exact Bd), ?_⟩
              refine stp ?_
              refine ⟨_,JJ rfl rfl rfl rfl (by first | trivial | exact ⟨rfl,Nat.le_of_ble_eq_true rfl⟩ | exact Bd), ?_⟩
              refine stp ?_
              refine J7 (b:= .rp (JfK (L.getD k rul0))) rfl ?_
              refine stp ?_
              refine ⟨_,JJ rfl rfl rfl rfl (by first | trivial | exact ⟨rfl,Nat.le_of_ble_eq_true rfl⟩ | exact Bd), ?_⟩
              refine stp ?_
              refine ⟨_,JJ rfl rfl rfl rfl (by first | trivial | exact ⟨rfl,Nat.le_of_ble_eq_true rfl⟩ | exact Bd), ?_⟩
              refine stp ?_
              refine ⟨_,JJ rfl rfl rfl rfl (by first | trivial | exact ⟨rfl,Nat.le_of_ble_eq_true rfl⟩ | exact Bd), ?_⟩
              refine stp ?_
              by_cases hz:(L.getD k rul0).conds= []
              ·have hdz:decide (((L.getD k rul0).conds.length:Int) > 0)=false:=by rw [hz];rfl
               have hid:JeF (nor (p.rules.getD i rul0)) (L.getD k rul0)=true:=by unfold JeF;rw [decide_eq_true hz];rfl
               refine ⟨.v (.bool false),Jem rfl rfl rfl rfl trivial hdz, ?_⟩
               refine stp ?_
               refine ⟨_,JX rfl rfl rfl, ?_⟩
               refine stp ?_
               refine ⟨_,JX rfl rfl rfl, ?_⟩
               refine stp ?_
               refine ⟨_,JX rfl rfl rfl, ?_⟩
               refine stp ?_
               refine ⟨_,JX rfl rfl rfl, ?_⟩
               refine stp ?_
               refine ⟨_,JX rfl rfl rfl, ?_⟩
               refine stp ?_
               refine ⟨_,JX rfl rfl rfl, ?_⟩
               refine stp ?_
               refine ⟨_,JX rfl rfl rfl, ?_⟩
               refine stp ?_
               refine ⟨_,JX rfl rfl rfl, ?_⟩
               refine stp ?_
               refine ⟨_,JX rfl rfl rfl, ?_⟩
               refine stp ?_
               exact back (k+1,false,nx5) ⟨hk,by dsimp only;rw [hnx,hid];rfl⟩ Dm (Et rfl rfl Bf Pf ⟨Rf,Rf,Rf,Rf,Rf,Rf,Rf,Rf,Rf,Lw,trivial⟩)
              ·have hdz:decide (((L.getD k rul0).conds.length:Int) > 0)=true:=decide_eq_true (by have:(L.getD k rul0).conds.length≠0:=fun h=> hz (List.eq_nil_of_length_eq_zero h)
                                                                                                 omega)
               have hid:JeF (nor (p.rules.getD i rul0)) (L.getD k rul0)=decide ((L.getD k rul0).conds=(nor (p.rules.getD i rul0)).conds):=by unfold JeF;rw [decide_eq_false hz];rfl
               have hsm:=JpY (L.getD k rul0).conds (nor (p.rules.getD i rul0)).conds (by have:=hLc _ (show L.getD k rul0∈L by simp [List.getD,hk]);omega)
               refine ⟨.v (.bool true),Jem rfl rfl rfl rfl trivial hdz, ?_⟩
               refine stp ?_
               refine ⟨_,JJ rfl rfl rfl rfl (by first | trivial | exact ⟨rfl,Nat.le_of_ble_eq_true rfl⟩ | exact Bd), ?_⟩
               refine stp ?_
               refine ⟨_,JJ rfl rfl rfl rfl (by first | trivial | exact ⟨rfl,Nat.le_of_ble_eq_true rfl⟩ | exact Bd), ?_⟩
               refine stp ?_
               refine ⟨_,JJ rfl rfl rfl rfl (by first | trivial | exact ⟨rfl,Nat.le_of_ble_eq_true rfl⟩ | exact Bd), ?_⟩
               refine stp ?_
               refine J7 (b:= .rp (JfK (L.getD k rul0))) rfl ?_
               refine stp ?_
               refine ⟨_,JJ rfl rfl rfl rfl (by first | trivial | exact ⟨rfl,Nat.le_of_ble_eq_true rfl⟩ | exact Bd), ?_⟩
               refine stp ?_
               refine ⟨_,JJ rfl rfl rfl rfl (by first | trivial | exact ⟨rfl,Nat.le_of_ble_eq_true rfl⟩ | exact Bd), ?_⟩
               refine stp ?_
               refine ⟨_,JJ rfl rfl rfl rfl (by first | trivial | exact ⟨rfl,Nat.le_of_ble_eq_true rfl⟩ | exact Bd), ?_⟩
               refine stp ?_
               refine ⟨_,JJ rfl rfl rfl rfl (by first | trivial | exact ⟨rfl,Nat.le_of_ble_eq_true rfl⟩ | exact Bd), ?_⟩
               refine stp ?_
               cases hq:decide ((L.getD k rul0).conds=(nor (p.rules.getD i rul0)).conds) with
               | true=>
                 rw [hq] at hsm hid
                 refine ⟨_,Jgt rfl rfl rfl rfl rfl hsm ⟨Rf,Rf,trivial⟩ (NoId.v _), ?_⟩
                 refine stp ?_
                 refine J7 (b:= .v (.bool true)) rfl ?_
                 refine stp ?_
                 refine ⟨_,JJ rfl rfl rfl rfl (by first | trivial | exact ⟨rfl,Nat.le_of_ble_eq_true rfl⟩ | exact Bd), ?_⟩
                 refine stp ?_
                 exact back (k+1,false,nx5) ⟨hk,by dsimp only;rw [hnx,hid];rfl⟩ Dm (Et rfl rfl Bf Pf ⟨Rf,Rf,Rf,Rf,Rf,Rf,Rf,Rf,Rf,Lw,trivial⟩)
               | false=>
                 rw [hq] at hsm hid
                 refine ⟨_,Jgt rfl rfl rfl rfl rfl hsm ⟨Rf,Rf,trivial⟩ (NoId.v _), ?_⟩
                 refine stp ?_
                 refine J7 (b:= .v (.bool false)) rfl ?_
                 refine stp ?_
                 refine ⟨_,JJ rfl rfl rfl rfl (by first | trivial | exact ⟨rfl,Nat.le_of_ble_eq_true rfl⟩ | exact Bd), ?_⟩
                 refine stp ?_
                 exact back (k+1,true,nx5) ⟨hk,by dsimp only;rw [hnx,hid];rfl⟩ Dm (Et rfl rfl Bf Pf ⟨Rf,Rf,Rf,Rf,Rf,Rf,Rf,Rf,Rf,Lw,trivial⟩)
         ·rintro ⟨b,nx5⟩ hb
          dsimp only at hb
          have hadd:=Jxk (r:=p.rules.getD i rul0) (L:=L)
          rw [← hb] at hadd
          rw [hadd] at hnext
          clear hadd
          cases b with
          | false=>
            refine stp ?_
            exact back (i+1,D'.set i true,L,li,nx5) ⟨hi,by dsimp only;rw [List.length_set];exact k2,Jet,hnext.symm,k5⟩ Dm (Jk (bx:=rpB nx p (D'.set i true) R oi) _ _ rfl rfl (.cons _ Sf) Sf Bf Pf ⟨Rf,Rf,Rf,Rf,Rf,Rf,Lw,trivial⟩)
          | true=>
            refine JB ?_
            refine JE ?_
            refine JB ?_
            refine JO (fun i=> match i with | 1=> true | _=> false) 5 ?_
            refine stp ?_
            rcases li with _ | l1
            ·obtain rfl:=k5 rfl
             refine AOp.any (Ja8 (e:=100) (n:=0) (oi:=none) (sz:=4) (f:=Jaz []) (m:=1) (szx:=4) rfl rfl (.inr ⟨_,rfl⟩) Tryz.underlying24 Jk2 (.inl ⟨rfl,rfl⟩) (.inr gc_r14.symm) (fun i h=> by cases h) (Jy rfl) (fun _=> by rw [Jk3];omega) (fun _=> by omega) (fun hm=> absurd hm Dc) (fun hm=> ?_))
             refine stp ?_
             exact back (i+1,D'.set i true, [nor (p.rules.getD i rul0)],some nx5,nx5+1) ⟨hi,by dsimp only;rw [List.length_set];exact k2,Jet,hnext.symm,(fun h=> by cases h)⟩ Dm (Jk (pm:=((1,nx5), [nor (p.rules.getD i rul0)].length * 4)::Jad (nmd oi) (R.length * 4)) (bx:=rpB nx p (D'.set i true) R oi) _ _ rfl rfl (.cons _ Sf) Sf Bf ⟨rfl,show (0+1) * Tryz.prog.cellsOf 100=1 * 4 by rw [gc_r14],Pf⟩ ⟨Rf,Rf,Rf,Rf,Rf,JiJ (L:= []),Lw,trivial⟩)
            ·refine AOp.any (Ja8 (e:=100) (n:=L.length) (oi:=some (1,l1)) (sz:=4) (f:=Jaz L) (m:=1) (szx:=4) rfl rfl (.inr ⟨_,rfl⟩) Tryz.underlying24 Jk2 (.inr gc_r14.symm) (.inr gc_r14.symm) (fun i h=> by cases h;rw [gc_r14];rfl) (Jy rfl) (fun _=> by rw [Jk3];omega) (fun _=> by omega) (fun hm=> absurd hm Dc) (fun hm=> ?_))
             refine stp ?_
             exact back (i+1,D'.set i true,L++ [nor (p.rules.getD i rul0)],some nx5,nx5+1) ⟨hi,by dsimp only;rw [List.length_set];exact k2,Jet,hnext.symm,(fun h=> by cases h)⟩ Dm (Jk (pm:=((1,nx5),(L++ [nor (p.rules.getD i rul0)]).length * 4)::Jad (nmd oi) (R.length * 4)) (bx:=rpB nx p (D'.set i true) R oi) _ _ rfl rfl (.cons _ Sf) Sf Bf ⟨rfl,show (L.length+1) * Tryz.prog.cellsOf 100=(L++ [nor (p.rules.getD i rul0)]).length * 4 by rw [gc_r14];simp,Pf⟩ ⟨Rf,Rf,Rf,Rf,Rf,JiJ,Lw,trivial⟩)
        ·have hk1:Jae (p.rules.getD i rul0).name (p.rules.getD a rul0).name=false:=by simpa using hk.symm
         rw [Jms,hk1,if_neg Dc,← k4] at hnext
         refine stp ?_
         exact back (i+1,D',L,li,nx3) ⟨hi,k2,Jus k3 hk1,hnext.symm,k5⟩ Dm (Et rfl rfl Bf Pf ⟨Rf,Rf,Rf,Rf,Rf,Rf,Lw,trivial⟩)
     ·rintro ⟨D',L,li,nx3⟩ ⟨k2,k3,k4,k5⟩
      dsimp only at k2 k3 k4 k5
      have hI:=JvP h1 ha hDa hmin k2 k3
      have hna:¬nmR16 (p.rules.getD a rul0)∈N:=by
       have:=h1.done a ha
       rw [hDa] at this
       exact of_decide_eq_false this.symm
      have hmem:p.rules.getD a rul0∈p.rules:=by simp [List.getD,ha]
      have hun:=JmS hmem hna
      have hLl:L.length≤p.rules.length:=by rw [k4];have:=JiV (s:=(p.rules.getD a rul0).name) (i:=p.rules.length) (rs:=p.rules) (Nat.le_refl _);rwa [List.take_length] at this
      have hNl:N.length * p.rules.length≤500 * 500:=Nat.mul_le_mul Om hl
      have hout:=JvQ (d:=p.dflt) (rs:=p.rules) (N:=N) (r:=p.rules.getD a rul0)
      rw [← h2,← k4] at hout
      refine AW.le (E':=mk 147 [(1, .bp (0,nx) 0),(2, .bp (1,nx+1) 0),(3, .bp (2,nx+2) 0),(4, .hs (3,nx+3) 0 p.rules.length p.rules.length),(8, .sl 4 L.length (Jaz L))] ⟨rpB nx p D' R oi,Jad (nmd oi) (R.length * 4),nx3,4⟩) (Jk _ _ rfl rfl Sf (List.sublist_append_right _ _) Bf Pf ⟨Rf,Rf,Rf,Rf,AVle.os_sl,trivial⟩) ?_
      refine stp ?_
      refine Jan (fun y:Nat×Nat=> mk 147 [(1, .bp (0,nx) 0),(2, .bp (1,nx+1) 0),(3, .bp (2,nx+2) 0),(4, .hs (3,nx+3) 0 p.rules.length p.rules.length),(8, .sl 4 y.1 (Jaz L))] ⟨rpB nx p D' R oi,Jad (nmd oi) (R.length * 4),y.2,4⟩) (fun y=> y.1≤L.length∧JbD p.dflt L=L.take y.1) ?_ ?_
      ·refine Jo (fun y:Nat×Nat=> mk 147 [(1, .bp (0,nx) 0),(2, .bp (1,nx+1) 0),(3, .bp (2,nx+2) 0),(4, .hs (3,nx+3) 0 p.rules.length p.rules.length),(8, .sl 4 y.1 (Jaz L))] ⟨rpB nx p D' R oi,Jad (nmd oi) (R.length * 4),nx3,4⟩) (fun y=> y.1≤L.length∧JbD p.dflt L=JbD p.dflt (L.take y.1)) (fun y=> y.1) ?_ ?_
       ·exact ⟨(L.length,0),⟨Nat.le_refl _,by rw [List.take_length]⟩,Et rfl rfl Bf Pf ⟨Rf,Rf,Rf,Rf,Rf,trivial⟩⟩
       ·rintro ⟨m,zz⟩ ⟨hml,hcut⟩
        dsimp only at hml hcut
        by_cases hm0:0 < m
        ·have hd:decide ((m:Int) > 0)=true:=decide_eq_true Om
         have hm1:IntKind.i64.wrap ((m:Int) - 1)=((m - 1:Nat):Int):=by rw [Jac Om Om];omega
         rw [JgB hm0 hml,Jmo] at hcut
         refine stp ?_
         (refine Ju 15 ?_ ?_ ?_ ?_;(· kernel_rfl);(· kernel_rfl);(· kernel_rfl))
         refine stp ?_
         (conv=> whnf)
         refine JaN hd ?_
         refine stp ?_
         refine ⟨⟨Jbs (i:=m - 1) hm1,JbJ (i:=m - 1) hm1 Om⟩,Jj (b:= .rp (Jaj (L.getD (m - 1) rul0)).cells) (congrArg (fun z:Int=> AV.rp (Jaz L z.toNat).cells) hm1) ?_⟩
         refine stp ?_
         intro c hc
         have hc2:c=decide ((L.getD (m - 1) rul0).act=p.dflt):=hc.trans Jqi
         clear hc
         cases c
         ·have hne:¬(L.getD (m - 1) rul0).act=p.dflt:=of_decide_eq_false hc2.symm
          rw [if_neg hne,← JgB hm0 hml] at hcut
          clear hc2
          refine stp ?_
          exact ⟨(m,nx3),⟨hml,hcut⟩,Et rfl rfl Bf Pf ⟨Rf,Rf,Rf,Rf,Rf,trivial⟩⟩
         ·have heq:(L.getD (m - 1) rul0).act=p.dflt:=of_decide_eq_true hc2.symm
          rw [if_pos heq] at hcut
          clear hc2
          refine stp ?_
          refine ⟨⟨Jbs (i:=m - 1) hm1,Int.le_of_lt (JbJ (i:=m - 1) hm1 Om)⟩, ?_⟩
          refine stp ?_
          exact back (m - 1,0) ⟨by dsimp only;omega,hcut⟩ Dm (Et rfl rfl Bf Pf ⟨Rf,Rf,Rf,Rf,AVle.of_eq (congrArg (fun z:Int=> AV.sl 4 z.toNat (Jaz L)) hm1),trivial⟩)
        ·have hd:decide ((m:Int) > 0)=false:=decide_eq_false Om
         have hm00:m=0:=by omega
         have hct:JbD p.dflt L=L.take m:=by rw [hcut,hm00];rfl
         refine stp ?_
         (refine Ju 15 ?_ ?_ ?_ ?_;(· kernel_rfl);(· kernel_rfl);(· kernel_rfl))
         refine stp ?_
         (conv=> whnf)
         refine JaN hd ?_
         refine stp ?_
         exact ⟨(m,nx3),⟨hml,hct⟩,Et rfl rfl Bf Pf ⟨Rf,Rf,Rf,Rf,Rf,trivial⟩⟩
      ·rintro ⟨m,nx6⟩ ⟨hml,hct⟩
       dsimp only at hml hct
       rw [hct] at hout
       refine JB ?_
       refine JO (fun i=> match i with | 0=> true | _=> false) 4 ?_
       refine stp ?_
       rcases oi with _ | o1
       ·have hR0:=h3 rfl
        subst hR0
        refine AOp.any (Ja8 (e:=100) (n:=0) (oi:=none) (sz:=4) (f:=Jaz []) (m:=m) (szx:=4) (f':=Jaz L) rfl rfl (.inl rfl) Tryz.underlying24 Jk2 (.inl ⟨rfl,rfl⟩) (.inr gc_r14.symm) (fun i h=> by cases h) (fun k _=> JfT _) (fun _=> by rw [Jk3];omega) (fun _=> by omega) (fun hm=> ?_) (fun hm=> ?_))
        ·subst hm
         refine stp ?_
         exact back (N++ [nmR16 (p.rules.getD a rul0)],D', [],none,nx6) ⟨hI,by dsimp only;rw [hout];rfl,fun _=> rfl,by dsimp only;rw [List.length_append,List.length_singleton];omega⟩ hun (Et (pm:= []) (bx:=rpB nx p D' [] none) rfl rfl Bf trivial ⟨Rf,Rf,Rf,Rf,trivial⟩)
        ·refine stp ?_
         exact back (N++ [nmR16 (p.rules.getD a rul0)],D',L.take m,some nx6,nx6+1) ⟨hI,by dsimp only;rw [hout];rfl,(fun h=> by cases h),by dsimp only;rw [List.length_append,List.length_singleton];omega⟩ hun (Et (pm:= [((0,nx6),(L.take m).length * 4)]) (bx:=rpB nx p D' (L.take m) (some nx6)) rfl rfl ⟨rfl,OwnLe.refl _,rfl,⟨Rf,Rf,Rf,JfU (R:= []) hml rfl,trivial⟩,Bf⟩ ⟨rfl,show (0+m) * Tryz.prog.cellsOf 100=(L.take m).length * 4 by rw [gc_r14,List.length_take];omega,trivial⟩ ⟨Rf,Rf,Rf,Rf,trivial⟩)
       ·refine AOp.any (Ja8 (e:=100) (n:=R.length) (oi:=some (0,o1)) (sz:=4) (f:=Jaz R) (m:=m) (szx:=4) (f':=Jaz L) rfl rfl (.inl rfl) Tryz.underlying24 Jk2 (.inr gc_r14.symm) (.inr gc_r14.symm) (fun i h=> by cases h;rw [gc_r14];rfl) (fun k _=> JfT _) (fun _=> by rw [Jk3];omega) (fun _=> by omega) (fun hm=> ?_) (fun hm=> ?_))
        ·subst hm
         refine stp ?_
         exact back (N++ [nmR16 (p.rules.getD a rul0)],D',R,some o1,nx6) ⟨hI,by dsimp only;rw [hout];exact (List.append_nil _).symm,(fun h=> by cases h),by dsimp only;rw [List.length_append,List.length_singleton];omega⟩ hun (Et (pm:=Jad (nmd (some o1)) (R.length * 4)) (bx:=rpB nx p D' R (some o1)) rfl rfl Bf Pf ⟨Rf,Rf,Rf,Rf,trivial⟩)
        ·refine stp ?_
         exact back (N++ [nmR16 (p.rules.getD a rul0)],D',R++L.take m,some nx6,nx6+1) ⟨hI,hout.symm,(fun h=> by cases h),by dsimp only;rw [List.length_append,List.length_singleton];omega⟩ hun (Et (pm:= [((0,nx6),(R++L.take m).length * 4)]) (bx:=rpB nx p D' (R++L.take m) (some nx6)) rfl rfl ⟨rfl,OwnLe.refl _,rfl,⟨Rf,Rf,Rf,JfU hml rfl,trivial⟩,Bf⟩ ⟨rfl,show (R.length+m) * Tryz.prog.cellsOf 100=(R++L.take m).length * 4 by rw [gc_r14,List.length_append,List.length_take];omega,trivial⟩ ⟨Rf,Rf,Rf,Rf,trivial⟩)
end Go.Proofs.W

namespace Go.Proofs.W
open Go.Vl
set_option maxRecDepth 100000
structure EntOk (p:Pol) (l:List TRow) (E:List PEnt) (a:Nat):Prop where
 len:E.length≤1000000
 count:((List.range l.length).filter (entryB p l a)).length=E.length
 found:∀i,i < l.length→entryB p l a i=true→(⟨wholeN a ((l.getD i trow0).num a),rowS18 p l a i⟩:PEnt)∈E
 rise:E.Pairwise fun x y=> x.num < y.num
 num:∀i,i < l.length→entryB p l a i=true→0≤(l.getD i trow0).num a∧(l.getD i trow0).num a < 1073741824
 rules:∀i,(rowS18 p l a i).length≤1000000∧∀r∈rowS18 p l a i,r.conds.length≤1000000∧r.code < 4294967296
theorem EntOk.uniq {p:Pol} {l:List TRow} {E:List PEnt} {a:Nat} (h:EntOk p l E a) {e:PEnt} (he:e∈E) {i:Nat} (hi:i < l.length) (hb:entryB p l a i=true) (hn:e.num=wholeN a ((l.getD i trow0).num a)):e.rules=rowS18 p l a i:=by
 have hf:=h.found i hi hb
 have hr:=h.rise
 generalize h1:(⟨wholeN a ((l.getD i trow0).num a),rowS18 p l a i⟩:PEnt)=e2 at hf
 have h2:e2.num=e.num:=by rw [← h1];exact hn.symm
 have h3:e2.rules=rowS18 p l a i:=by rw [← h1]
 obtain ⟨j,hj,rfl⟩:=List.getElem_of_mem he
 obtain ⟨k,hk,rfl⟩:=List.getElem_of_mem hf
 rcases Nat.lt_trichotomy j k with q | q | q
 ·have:=List.pairwise_iff_getElem.1 hr j k hj hk q;omega
 ·subst q;exact h3
 ·have:=List.pairwise_iff_getElem.1 hr k j hk hj q;omega
theorem Jph {z:Int} (h0:0≤z) (h:z < 1073741824):IntKind.u32.wrap z=z:=by
 simp [IntKind.wrap,IntKind.signed,IntKind.bits];omega
theorem JhH {a:Nat} {z:Int} (h0:0≤z) (h:z < 1073741824) (ha:a≠1):IntKind.u32.wrap z=((wholeN a z:Nat):Int):=by
 rw [Jph h0 h,JdN h0 h,if_neg ha];omega
theorem Jxm {z:Int} (h0:0≤z) (h:z < 1073741824):IntKind.u32.wrap (IntKind.u32.wrap z+1073741824)=((wholeN 1 z:Nat):Int):=by
 rw [Jph h0 h,JdN h0 h,if_pos rfl]
 simp [IntKind.wrap,IntKind.signed,IntKind.bits];omega
theorem Jiu (a b:Nat):(((a:Nat):Int) ==((b:Nat):Int))=decide (a=b):=by
 rw [Bool.eq_iff_iff]
 simp only [beq_iff_eq,decide_eq_true_eq]
 omega
def PlB (nx5 nx7:Nat) (N:Pol) (d:Nat) (x32:Bool) (E0 E1 E2 E3 E4:List PEnt) (S0 S1:List PSub):List (Vl.Id×Own):= [((2,nx7), .c [int N.dflt.1,int N.dflt.2,Jb N.x32,Ji N.rules]),((1,nx5), .c (plX d x32 E0 E1 E2 E3 E4 S0 S1))]
def PlT (nx5 nx7:Nat) (l:List TRow) (a:Nat) (e:List (Nat×AV)):List (Nat×AV):=(1,Jv l)::(4,Jb false)::(5, .bp (1,nx5) 0)::(10, .bp (2,nx7) 0)::(11,int (a:Nat))::e
def JaX (w:Nat) (e:PEnt):Bool:=decide (e.num=w)
set_option maxHeartbeats 32000000 in
theorem Jv1 (k n:Int) (x32:Bool) (rs:List Rul) (l:List TRow) (N:Pol) (d:Nat) (E0 E1 E2 E3 E4:List PEnt) (S0 S1:List PSub) (hl:l.length≤1000000) (hd:d < 4294967296) (h0:EntOk N l E0 0) (h1:EntOk N l E1 1) (h2:EntOk N l E2 2) (h3:EntOk N l E3 3) (h4:EntOk N l E4 4)
 (hlt:Tells Tryz.prog 22 [JaL ⟨(k,n),x32,rs⟩] (Jb true)) (hfew:Tells Tryz.prog 23 [Jv l] (Jb true)) (hof:Tells Tryz.prog 24 [JaL ⟨(k,n),x32,rs⟩] (JaL ⟨(k,n),x32,rs⟩)) (hrw:Tells Tryz.prog 25 [Jv l] (Jv l))
 (hr:Tells Tryz.prog 12 [JaL ⟨(k,n),x32,rs⟩,Jv l] (.tup [.ag (plX d x32 E0 E1 E2 E3 E4 S0 S1),int 0,int 0])) (hwr:Tells Tryz.prog 26 [JaL ⟨(k,n),x32,rs⟩,Jv l] (.tup [int 0,int 0])) (hno:Tells Tryz.prog 29 [JaL ⟨(k,n),x32,rs⟩] (JaL N))
 (hco:Tells Tryz.prog 30 [Joh (k,n)] (int (d:Nat))) (hen:∀a i:Nat,a < 5→i < l.length→Tells Tryz.prog 31 [JaL N,Jv l,int a,int i] (Jb (entryB N l a i)))
 (hse:∀a i:Nat,a < 5→Tells Tryz.prog 33 [JaL N,Jg (l.getD i trow0).name,int a] (JeL (rowS18 N l a i))) (hsu:Tells Tryz.prog 34 [.ag (plX d x32 E0 E1 E2 E3 E4 S0 S1),JaL N,Jv l] (Jb true)):Tells Tryz.prog 5 [JaL ⟨(k,n),x32,rs⟩,Jv l] (Jb true):=by
 have hawk:=Jiq
 refine Jf Tryz.func5 rfl rfl fun nx=> ?_
 refine stp ?_
 refine Je rfl rfl hlt ⟨Rf,trivial⟩ fun nx1=> ?_
 refine stp ?_
 refine Je rfl rfl hfew ⟨Rf,trivial⟩ fun nx2=> ?_
 refine stp ?_
 refine Je rfl rfl hof ⟨Rf,trivial⟩ fun nx3=> ?_
 refine stp ?_
 refine Je rfl rfl hrw ⟨Rf,trivial⟩ fun nx4=> ?_
 refine stp ?_
 refine Je rfl rfl hr ⟨Rf,Rf,trivial⟩ fun nx5=> ?_
 refine stp ?_
 refine Je rfl rfl hwr ⟨Rf,Rf,trivial⟩ fun nx6=> ?_
 refine stp ?_
 refine Je rfl rfl hno ⟨Rf,trivial⟩ fun nx7=> ?_
 refine stp ?_
 refine AW.le (Et (n:=196) (nx:=nx7+1) (nn:=5) (pm:= []) (bx:= [((2,nx7), .c [int N.dflt.1,int N.dflt.2,Jb N.x32,Ji N.rules]),((1,nx5), .c (plX d x32 E0 E1 E2 E3 E4 S0 S1)),((0,nx), .c [int k,int n,Jb x32,Ji rs])]) (L:= [(1,Jv l),(2, .bp (0,nx) 0),(4,Jb false),(5, .bp (1,nx5) 0),(6,int 0),(7,int 0),(10, .bp (2,nx7) 0)]) rfl rfl ⟨rfl,OwnLe.refl _,rfl,OwnLe.refl _,rfl,OwnLe.refl _,trivial⟩ trivial ⟨Rf,Rf,Rf,AVle.bp_nm rfl,Rf,Rf,AVle.bp_nm rfl,trivial⟩) ?_
 (refine Ju 22 ?_ ?_ ?_ ?_;(· kernel_rfl);(· kernel_rfl);(· kernel_rfl))
 refine stp ?_
 refine JP (Jz rfl rfl hco ⟨Rf,trivial⟩ (NoId.v _)) ?_
 refine stp ?_
 intro c hc1
 have hc2:c=false:=hc1.trans (show (IntKind.i64.wrap ((d:Nat):Int) !=((d:Nat):Int))=false by rw [Jac Om Om];exact bne_self_eq_false _)
 clear hc1
 cases hc2
 refine stp ?_
 intro b1 hb1
 refine stp ?_
 intro b2 hb2
 refine stp ?_
 intro b3 hb3
 have hc2:b3=false:=hb3.trans (show (b1 !=b2)=false by rw [hb1,hb2];exact bne_self_eq_false _)
 clear hb3
 cases hc2
 refine stp ?_
 refine Jan (fun y:Nat=> mk 196 [(1,Jv l),(4,Jb false),(5, .bp (1,nx5) 0),(10, .bp (2,nx7) 0)] ⟨(PlB nx5 nx7 N d x32 E0 E1 E2 E3 E4 S0 S1), [],y,5⟩) (fun _=> True) ?_ ?_
 ·refine Jo (fun y:Nat×Nat=> mk 196 [(1,Jv l),(4,Jb false),(5, .bp (1,nx5) 0),(10, .bp (2,nx7) 0),(11,int y.1)] ⟨(PlB nx5 nx7 N d x32 E0 E1 E2 E3 E4 S0 S1), [],y.2,5⟩) (fun y=> y.1≤5) (fun y=> 5 - y.1) ?_ ?_
  ·exact ⟨(0,nx7+1),Nat.zero_le _,Jk _ _ rfl rfl (.cons_cons _ (.cons_cons _ (.cons _ .slnil))) Sf Bf trivial ⟨Rf,Rf,Rf,Rf,Rf,trivial⟩⟩
  ·rintro ⟨m,nx1⟩ hm
   dsimp only at hm
   rcases (by omega:m=0∨m=1∨m=2∨m=3∨m=4∨m=5) with rfl | rfl | rfl | rfl | rfl | rfl
   ·refine AW.le (Et (n:=196) (nn:=5) (pm:= []) (bx:=(PlB nx5 nx7 N d x32 E0 E1 E2 E3 E4 S0 S1)) (L:=(PlT nx5 nx7 l 0 [])) rfl rfl Bf trivial ⟨Rf,Rf,Rf,Rf,Rf,trivial⟩) ?_
    refine stp ?_
    refine Jan (fun y:Nat=> mk 196 (PlT nx5 nx7 l 0 [(12,int (E0).length)]) ⟨(PlB nx5 nx7 N d x32 E0 E1 E2 E3 E4 S0 S1), [],y,5⟩) (fun _=> True) ?_ ?_
    ·refine Jo (fun y:Nat×Nat=> mk 196 (PlT nx5 nx7 l 0 [(12,int (((List.range y.1).filter (entryB N l 0)).length:Nat)),(13,int y.1)]) ⟨(PlB nx5 nx7 N d x32 E0 E1 E2 E3 E4 S0 S1), [],y.2,5⟩) (fun y=> y.1≤l.length) (fun y=> l.length - y.1) ?_ ?_
     ·exact ⟨(0,nx1),Nat.zero_le _,Et rfl rfl Bf trivial ⟨Rf,Rf,Rf,Rf,Rf,Rf,Rf,trivial⟩⟩
     ·rintro ⟨i,nx2⟩ hi
      dsimp only at hi
      refine stp ?_
      intro c g;cases c
      ·have g:=Jm g
       try dsimp only at g
       have hil:i=l.length:=by omega
       subst hil
       have hct:=h0.count
       refine stp ?_
       exact ⟨nx2,trivial,Et rfl rfl Bf trivial ⟨Rf,Rf,Rf,Rf,Rf,AVle.of_eq (congrArg (fun z:Nat=> int ((z:Nat):Int)) hct),trivial⟩⟩
      ·have g:=Jn g
       try dsimp only at g
       have hil:i < l.length:=by omega
       have hEi:=hen 0 i Dc hil
       have hrn:=Jdd (q:=entryB N l 0) (i:=i)
       have hle:=Jei (q:=entryB N l 0) (i:=i)
       cases hb:entryB N l 0 i with
       | false=>
         rw [hb] at hEi hrn
         refine stp ?_
         refine Je rfl rfl hEi ⟨Rf,Rf,Rf,Rf,trivial⟩ fun nx3=> ?_
         refine stp ?_
         exact back (i+1,nx3) hil Dm (Et rfl rfl Bf trivial ⟨Rf,Rf,Rf,Rf,Rf,AVle.of_eq (congrArg (fun z:Nat=> int ((z:Nat):Int)) hrn.symm),Lw,trivial⟩)
       | true=>
         rw [hb] at hEi hrn
         have hSi:=hse 0 i Dc
         have hfd:=h0.found i hil hb
         have hnum:=h0.num i hil hb
         have hru:=h0.rules i
         have htd:=JeM (rowS18 N l 0 i) hru.1 hru.2
         have huq:∀e∈E0,e.num=wholeN 0 ((l.getD i trow0).num 0)→e.rules=rowS18 N l 0 i:=fun e he hn=> h0.uniq he hil hb hn
         generalize rowS18 N l 0 i=W at hSi hfd htd huq
         generalize hq:l.getD i trow0=q at hSi hfd hnum huq
         obtain ⟨nm,a0,a1,a2,a3,a4,mux,sub⟩:=q
         have hcell:AV.rp (Jq (l.getD i trow0)).cells= .rp [Jg nm,int a0,int a1,int a2,int a3,int a4,int mux,int sub]:=by rw [hq];rfl
         have hwh:IntKind.u32.wrap a0=((wholeN 0 a0:Nat):Int):=JhH (a:=0) hnum.1 hnum.2 Dc
         have hfd:(⟨wholeN 0 a0,W⟩:PEnt)∈E0:=hfd
         have huq:∀e∈E0,e.num=wholeN 0 a0→e.rules=W:=huq
         generalize wholeN 0 a0=w at hfd huq hwh
         refine stp ?_
         refine Je rfl rfl hEi ⟨Rf,Rf,Rf,Rf,trivial⟩ fun nx3=> ?_
         refine stp ?_
         refine ⟨Bd,Jj (b:= .rp [Jg nm,int a0,int a1,int a2,int a3,int a4,int mux,int sub]) hcell ?_⟩
         (conv=> whnf)
         refine ⟨⟨by decide,by decide,Nat.le_of_ble_eq_true (by kernel_rfl)⟩, ?_⟩
         refine stp ?_
         refine Jan (fun y:Nat=> mk 196 (PlT nx5 nx7 l 0 [(12,int (((List.range (i+1)).filter (entryB N l 0)).length:Nat)),(13,int i),(15,Jb true)]) ⟨(PlB nx5 nx7 N d x32 E0 E1 E2 E3 E4 S0 S1), [],y,5⟩) (fun _=> True) ?_ ?_
         ·refine Jo (fun y:Nat×Nat=> mk 196 (PlT nx5 nx7 l 0 [(12,int (((List.range (i+1)).filter (entryB N l 0)).length:Nat)),(13,int i),(14,u32 (w:Nat)),(15,Jb (((E0).take y.1).any (JaX w))),(16,int y.1)]) ⟨(PlB nx5 nx7 N d x32 E0 E1 E2 E3 E4 S0 S1), [],y.2,5⟩) (fun y=> y.1≤(E0).length) (fun y=> (E0).length - y.1) ?_ ?_
          ·exact ⟨(0,nx3),Nat.zero_le _,Et rfl rfl Bf trivial ⟨Rf,Rf,Rf,Rf,Rf,AVle.of_eq (congrArg int ((JF Dm).trans (congrArg (fun z:Nat=> ((z:Nat):Int)) hrn.symm))),Rf,AVle.of_eq (congrArg u32 hwh),Rf,Rf,trivial⟩⟩
          ·rintro ⟨j,nx4⟩ hj
           dsimp only at hj
           refine stp ?_
           intro c g2;cases c
           ·have g2:=Jm g2
            try dsimp only at g2
            have hjl:j=(E0).length:=by omega
            have hany:((E0).take j).any (JaX w)=true:=by
             rw [hjl,List.take_length]
             exact List.any_eq_true.2 ⟨_,hfd,by unfold JaX;exact decide_eq_true rfl⟩
            refine stp ?_
            exact ⟨nx4,trivial,Et rfl rfl Bf trivial ⟨Rf,Rf,Rf,Rf,Rf,Rf,Rf,AVle.of_eq (congrArg Jb hany),trivial⟩⟩
           ·have g2:=Jn g2
            try dsimp only at g2
            have hjl:j < (E0).length:=by omega
            have hnx:=Jb7 (f:=JaX w) (d:=ent0) hjl
            have hlen:=h0.len
            have hue:=huq _ (Jc3 (d:=ent0) hjl)
            generalize hanyv:((E0).take j).any (JaX w)=fnd at hnx
            cases fnd
            ·refine stp ?_
             (refine Ju 33 ?_ ?_ ?_ ?_;(· kernel_rfl);(· kernel_rfl);(· kernel_rfl))
             refine stp ?_
             refine ⟨Bd, ?_⟩
             refine stp ?_
             intro c hc3
             have hc4:c=decide (((E0).getD j ent0).num=w):=hc3.trans (Jiu _ _)
             clear hc3
             have hne:JaX w ((E0).getD j ent0)=c:=hc4.symm
             cases c
             ·refine stp ?_
              exact back (j+1,nx4) hjl Dm (Et rfl rfl Bf trivial ⟨Rf,Rf,Rf,Rf,Rf,Rf,Rf,Rf,AVle.of_eq (congrArg Jb (by rw [hnx,hne];rfl)),Lw,trivial⟩)
             ·have hue:=hue (of_decide_eq_true hc4.symm)
              refine stp ?_
              refine ⟨Bd, ?_⟩
              refine stp ?_
              refine ⟨Bd,Jj (b:= .rp [Jg nm,int a0,int a1,int a2,int a3,int a4,int mux,int sub]) hcell ?_⟩
              refine stp ?_
              refine JP (Jz rfl rfl hSi ⟨Rf,Rf,Rf,trivial⟩ (Jbv _)) ?_
              refine stp ?_
              refine JP (Jz rfl rfl htd ⟨AVle.of_eq (by rw [← hue];rfl),Rf,trivial⟩ (NoId.v _)) ?_
              refine stp ?_
              exact back (j+1,nx4) hjl Dm (Et rfl rfl Bf trivial ⟨Rf,Rf,Rf,Rf,Rf,Rf,Rf,Rf,AVle.of_eq (congrArg Jb (by rw [hnx,hne];rfl)),Lw,trivial⟩)
            ·refine stp ?_
             (refine Ju 33 ?_ ?_ ?_ ?_;(· kernel_rfl);(· kernel_rfl);(· kernel_rfl))
             refine stp ?_
             exact back (j+1,nx4) hjl Dm (Et rfl rfl Bf trivial ⟨Rf,Rf,Rf,Rf,Rf,Rf,Rf,Rf,AVle.of_eq (congrArg Jb (by rw [hnx];rfl)),Lw,trivial⟩)
         ·rintro nx4 -
          refine stp ?_
          exact back (i+1,nx4) hil Dm (Et rfl rfl Bf trivial ⟨Rf,Rf,Rf,Rf,Rf,Rf,Lw,trivial⟩)
    ·rintro nx2 -
     refine stp ?_
     intro c hc1
     have hc2:c=false:=hc1.trans (bne_self_eq_false _)
     clear hc1
     cases hc2
     have hlen:=h0.len
     refine stp ?_
     refine Jo (fun y:Nat×Nat=> mk 196 (PlT nx5 nx7 l 0 [(17,int y.1)]) ⟨(PlB nx5 nx7 N d x32 E0 E1 E2 E3 E4 S0 S1), [],y.2,5⟩) (fun y=> 1≤y.1∧(y.1≤(E0).length∨y.1=1)) (fun y=> (E0).length - y.1) ?_ ?_
     ·exact ⟨(1,nx2),⟨Nat.le_refl _, .inr rfl⟩,Et rfl rfl Bf trivial ⟨Rf,Rf,Rf,Rf,Rf,Rf,trivial⟩⟩
     ·rintro ⟨j,nx3⟩ ⟨hj1,hj2⟩
      dsimp only at hj1 hj2
      refine stp ?_
      intro c g;cases c
      ·have g:=Jm g
       refine stp ?_
       exact back (1,nx3) Dm Dm (Et rfl rfl Bf trivial ⟨Rf,Rf,Rf,Rf,Jl rfl,trivial⟩)
      ·have g:=Jn g
       try dsimp only at g
       have hjl:j < (E0).length:=by omega
       have hri:=Je6 (f:=fun s:PEnt=> s.num) (d:=ent0) h0.rise hj1 hjl
       have hm1:IntKind.i64.wrap ((j:Int) - 1)=((j - 1:Nat):Int):=by rw [Jac Om Om];omega
       refine stp ?_
       (refine Ju 18 ?_ ?_ ?_ ?_;(· kernel_rfl);(· kernel_rfl);(· kernel_rfl))
       refine stp ?_
       refine ⟨Bd, ?_⟩
       refine stp ?_
       refine ⟨⟨Jbs (i:=j - 1) hm1,JbJ (i:=j - 1) hm1 Om⟩,Jj (b:= .rp (Jaf ((E0).getD (j - 1) ent0)).cells) (congrArg (fun z:Int=> AV.rp (Jaf ((E0).getD z.toNat ent0)).cells) hm1) ?_⟩
       refine stp ?_
       intro c hc1
       have hc2:c=false:=hc1.trans (Jgo hri)
       clear hc1
       cases hc2
       refine stp ?_
       exact back (j+1,nx3) ⟨by dsimp only;omega, .inl Dm⟩ Dm (Et rfl rfl Bf trivial ⟨Rf,Rf,Rf,Rf,Rf,Lw,trivial⟩)
   ·refine AW.le (Et (n:=196) (nn:=5) (pm:= []) (bx:=(PlB nx5 nx7 N d x32 E0 E1 E2 E3 E4 S0 S1)) (L:=(PlT nx5 nx7 l 1 [])) rfl rfl Bf trivial ⟨Rf,Rf,Rf,Rf,Rf,trivial⟩) ?_
    refine stp ?_
    refine Jan (fun y:Nat=> mk 196 (PlT nx5 nx7 l 1 [(12,int (E1).length)]) ⟨(PlB nx5 nx7 N d x32 E0 E1 E2 E3 E4 S0 S1), [],y,5⟩) (fun _=> True) ?_ ?_
    ·refine Jo (fun y:Nat×Nat=> mk 196 (PlT nx5 nx7 l 1 [(12,int (((List.range y.1).filter (entryB N l 1)).length:Nat)),(13,int y.1)]) ⟨(PlB nx5 nx7 N d x32 E0 E1 E2 E3 E4 S0 S1), [],y.2,5⟩) (fun y=> y.1≤l.length) (fun y=> l.length - y.1) ?_ ?_
     ·exact ⟨(0,nx1),Nat.zero_le _,Et rfl rfl Bf trivial ⟨Rf,Rf,Rf,Rf,Rf,Rf,Rf,trivial⟩⟩
     ·rintro ⟨i,nx2⟩ hi
      dsimp only at hi
      refine stp ?_
      intro c g;cases c
      ·have g:=Jm g
       try dsimp only at g
       have hil:i=l.length:=by omega
       subst hil
       have hct:=h1.count
       refine stp ?_
       exact ⟨nx2,trivial,Et rfl rfl Bf trivial ⟨Rf,Rf,Rf,Rf,Rf,AVle.of_eq (congrArg (fun z:Nat=> int ((z:Nat):Int)) hct),trivial⟩⟩
      ·have g:=Jn g
       try dsimp only at g
       have hil:i < l.length:=by omega
       have hEi:=hen 1 i Dc hil
       have hrn:=Jdd (q:=entryB N l 1) (i:=i)
       have hle:=Jei (q:=entryB N l 1) (i:=i)
       cases hb:entryB N l 1 i with
       | false=>
         rw [hb] at hEi hrn
         refine stp ?_
         refine Je rfl rfl hEi ⟨Rf,Rf,Rf,Rf,trivial⟩ fun nx3=> ?_
         refine stp ?_
         exact back (i+1,nx3) hil Dm (Et rfl rfl Bf trivial ⟨Rf,Rf,Rf,Rf,Rf,AVle.of_eq (congrArg (fun z:Nat=> int ((z:Nat):Int)) hrn.symm),Lw,trivial⟩)
       | true=>
         rw [hb] at hEi hrn
         have hSi:=hse 1 i Dc
         have hfd:=h1.found i hil hb
         have hnum:=h1.num i hil hb
         have hru:=h1.rules i
         have htd:=JeM (rowS18 N l 1 i) hru.1 hru.2
         have huq:∀e∈E1,e.num=wholeN 1 ((l.getD i trow0).num 1)→e.rules=rowS18 N l 1 i:=fun e he hn=> h1.uniq he hil hb hn
         generalize rowS18 N l 1 i=W at hSi hfd htd huq
         generalize hq:l.getD i trow0=q at hSi hfd hnum huq
         obtain ⟨nm,a0,a1,a2,a3,a4,mux,sub⟩:=q
         have hcell:AV.rp (Jq (l.getD i trow0)).cells= .rp [Jg nm,int a0,int a1,int a2,int a3,int a4,int mux,int sub]:=by rw [hq];rfl
         have hwh:IntKind.u32.wrap (IntKind.u32.wrap a1+1073741824)=((wholeN 1 a1:Nat):Int):=Jxm hnum.1 hnum.2
         have hfd:(⟨wholeN 1 a1,W⟩:PEnt)∈E1:=hfd
         have huq:∀e∈E1,e.num=wholeN 1 a1→e.rules=W:=huq
         generalize wholeN 1 a1=w at hfd huq hwh
         refine stp ?_
         refine Je rfl rfl hEi ⟨Rf,Rf,Rf,Rf,trivial⟩ fun nx3=> ?_
         refine stp ?_
         refine ⟨Bd,Jj (b:= .rp [Jg nm,int a0,int a1,int a2,int a3,int a4,int mux,int sub]) hcell ?_⟩
         (conv=> whnf)
         refine ⟨⟨by decide,by decide,Nat.le_of_ble_eq_true (by kernel_rfl)⟩, ?_⟩
         refine stp ?_
         refine Jan (fun y:Nat=> mk 196 (PlT nx5 nx7 l 1 [(12,int (((List.range (i+1)).filter (entryB N l 1)).length:Nat)),(13,int i),(15,Jb true)]) ⟨(PlB nx5 nx7 N d x32 E0 E1 E2 E3 E4 S0 S1), [],y,5⟩) (fun _=> True) ?_ ?_
         ·refine Jo (fun y:Nat×Nat=> mk 196 (PlT nx5 nx7 l 1 [(12,int (((List.range (i+1)).filter (entryB N l 1)).length:Nat)),(13,int i),(14,u32 (w:Nat)),(15,Jb (((E1).take y.1).any (JaX w))),(16,int y.1)]) ⟨(PlB nx5 nx7 N d x32 E0 E1 E2 E3 E4 S0 S1), [],y.2,5⟩) (fun y=> y.1≤(E1).length) (fun y=> (E1).length - y.1) ?_ ?_
          ·exact ⟨(0,nx3),Nat.zero_le _,Et rfl rfl Bf trivial ⟨Rf,Rf,Rf,Rf,Rf,AVle.of_eq (congrArg int ((JF Dm).trans (congrArg (fun z:Nat=> ((z:Nat):Int)) hrn.symm))),Rf,AVle.of_eq (congrArg u32 hwh),Rf,Rf,trivial⟩⟩
          ·rintro ⟨j,nx4⟩ hj
           dsimp only at hj
           refine stp ?_
           intro c g2;cases c
           ·have g2:=Jm g2
            try dsimp only at g2
            have hjl:j=(E1).length:=by omega
            have hany:((E1).take j).any (JaX w)=true:=by
             rw [hjl,List.take_length]
             exact List.any_eq_true.2 ⟨_,hfd,by unfold JaX;exact decide_eq_true rfl⟩
            refine stp ?_
            exact ⟨nx4,trivial,Et rfl rfl Bf trivial ⟨Rf,Rf,Rf,Rf,Rf,Rf,Rf,AVle.of_eq (congrArg Jb hany),trivial⟩⟩
           ·have g2:=Jn g2
            try dsimp only at g2
            have hjl:j < (E1).length:=by omega
            have hnx:=Jb7 (f:=JaX w) (d:=ent0) hjl
            have hlen:=h1.len
            have hue:=huq _ (Jc3 (d:=ent0) hjl)
            generalize hanyv:((E1).take j).any (JaX w)=fnd at hnx
            cases fnd
            ·refine stp ?_
             (refine Ju 33 ?_ ?_ ?_ ?_;(· kernel_rfl);(· kernel_rfl);(· kernel_rfl))
             refine stp ?_
             refine ⟨Bd, ?_⟩
             refine stp ?_
             intro c hc3
             have hc4:c=decide (((E1).getD j ent0).num=w):=hc3.trans (Jiu _ _)
             clear hc3
             have hne:JaX w ((E1).getD j ent0)=c:=hc4.symm
             cases c
             ·refine stp ?_
              exact back (j+1,nx4) hjl Dm (Et rfl rfl Bf trivial ⟨Rf,Rf,Rf,Rf,Rf,Rf,Rf,Rf,AVle.of_eq (congrArg Jb (by rw [hnx,hne];rfl)),Lw,trivial⟩)
             ·have hue:=hue (of_decide_eq_true hc4.symm)
              refine stp ?_
              refine ⟨Bd, ?_⟩
              refine stp ?_
              refine ⟨Bd,Jj (b:= .rp [Jg nm,int a0,int a1,int a2,int a3,int a4,int mux,int sub]) hcell ?_⟩
              refine stp ?_
              refine JP (Jz rfl rfl hSi ⟨Rf,Rf,Rf,trivial⟩ (Jbv _)) ?_
              refine stp ?_
              refine JP (Jz rfl rfl htd ⟨AVle.of_eq (by rw [← hue];rfl),Rf,trivial⟩ (NoId.v _)) ?_
              refine stp ?_
              exact back (j+1,nx4) hjl Dm (Et rfl rfl Bf trivial ⟨Rf,Rf,Rf,Rf,Rf,Rf,Rf,Rf,AVle.of_eq (congrArg Jb (by rw [hnx,hne];rfl)),Lw,trivial⟩)
            ·refine stp ?_
             (refine Ju 33 ?_ ?_ ?_ ?_;(· kernel_rfl);(· kernel_rfl);(· kernel_rfl))
             refine stp ?_
             exact back (j+1,nx4) hjl Dm (Et rfl rfl Bf trivial ⟨Rf,Rf,Rf,Rf,Rf,Rf,Rf,Rf,AVle.of_eq (congrArg Jb (by rw [hnx];rfl)),Lw,trivial⟩)
         ·rintro nx4 -
          refine stp ?_
          exact back (i+1,nx4) hil Dm (Et rfl rfl Bf trivial ⟨Rf,Rf,Rf,Rf,Rf,Rf,Lw,trivial⟩)
    ·rintro nx2 -
     refine stp ?_
     intro c hc1
     have hc2:c=false:=hc1.trans (bne_self_eq_false _)
     clear hc1
     cases hc2
     have hlen:=h1.len
     refine stp ?_
     refine Jo (fun y:Nat×Nat=> mk 196 (PlT nx5 nx7 l 1 [(17,int y.1)]) ⟨(PlB nx5 nx7 N d x32 E0 E1 E2 E3 E4 S0 S1), [],y.2,5⟩) (fun y=> 1≤y.1∧(y.1≤(E1).length∨y.1=1)) (fun y=> (E1).length - y.1) ?_ ?_
     ·exact ⟨(1,nx2),⟨Nat.le_refl _, .inr rfl⟩,Et rfl rfl Bf trivial ⟨Rf,Rf,Rf,Rf,Rf,Rf,trivial⟩⟩
     ·rintro ⟨j,nx3⟩ ⟨hj1,hj2⟩
      dsimp only at hj1 hj2
      refine stp ?_
      intro c g;cases c
      ·have g:=Jm g
       refine stp ?_
       exact back (2,nx3) Dm Dm (Et rfl rfl Bf trivial ⟨Rf,Rf,Rf,Rf,Jl rfl,trivial⟩)
      ·have g:=Jn g
       try dsimp only at g
       have hjl:j < (E1).length:=by omega
       have hri:=Je6 (f:=fun s:PEnt=> s.num) (d:=ent0) h1.rise hj1 hjl
       have hm1:IntKind.i64.wrap ((j:Int) - 1)=((j - 1:Nat):Int):=by rw [Jac Om Om];omega
       refine stp ?_
       (refine Ju 18 ?_ ?_ ?_ ?_;(· kernel_rfl);(· kernel_rfl);(· kernel_rfl))
       refine stp ?_
       refine ⟨Bd, ?_⟩
       refine stp ?_
       refine ⟨⟨Jbs (i:=j - 1) hm1,JbJ (i:=j - 1) hm1 Om⟩,Jj (b:= .rp (Jaf ((E1).getD (j - 1) ent0)).cells) (congrArg (fun z:Int=> AV.rp (Jaf ((E1).getD z.toNat ent0)).cells) hm1) ?_⟩
       refine stp ?_
       intro c hc1
       have hc2:c=false:=hc1.trans (Jgo hri)
       clear hc1
       cases hc2
       refine stp ?_
       exact back (j+1,nx3) ⟨by dsimp only;omega, .inl Dm⟩ Dm (Et rfl rfl Bf trivial ⟨Rf,Rf,Rf,Rf,Rf,Lw,trivial⟩)
   ·refine AW.le (Et (n:=196) (nn:=5) (pm:= []) (bx:=(PlB nx5 nx7 N d x32 E0 E1 E2 E3 E4 S0 S1)) (L:=(PlT nx5 nx7 l 2 [])) rfl rfl Bf trivial ⟨Rf,Rf,Rf,Rf,Rf,trivial⟩) ?_
    refine stp ?_
    refine Jan (fun y:Nat=> mk 196 (PlT nx5 nx7 l 2 [(12,int (E2).length)]) ⟨(PlB nx5 nx7 N d x32 E0 E1 E2 E3 E4 S0 S1), [],y,5⟩) (fun _=> True) ?_ ?_
    ·refine Jo (fun y:Nat×Nat=> mk 196 (PlT nx5 nx7 l 2 [(12,int (((List.range y.1).filter (entryB N l 2)).length:Nat)),(13,int y.1)]) ⟨(PlB nx5 nx7 N d x32 E0 E1 E2 E3 E4 S0 S1), [],y.2,5⟩) (fun y=> y.1≤l.length) (fun y=> l.length - y.1) ?_ ?_
     ·exact ⟨(0,nx1),Nat.zero_le _,Et rfl rfl Bf trivial ⟨Rf,Rf,Rf,Rf,Rf,Rf,Rf,trivial⟩⟩
     ·rintro ⟨i,nx2⟩ hi
      dsimp only at hi
      refine stp ?_
      intro c g;cases c
      ·have g:=Jm g
       try dsimp only at g
       have hil:i=l.length:=by omega
       subst hil
       have hct:=h2.count
       refine stp ?_
       exact ⟨nx2,trivial,Et rfl rfl Bf trivial ⟨Rf,Rf,Rf,Rf,Rf,AVle.of_eq (congrArg (fun z:Nat=> int ((z:Nat):Int)) hct),trivial⟩⟩
      ·have g:=Jn g
       try dsimp only at g
       have hil:i < l.length:=by omega
       have hEi:=hen 2 i Dc hil
       have hrn:=Jdd (q:=entryB N l 2) (i:=i)
       have hle:=Jei (q:=entryB N l 2) (i:=i)
       cases hb:entryB N l 2 i with
       | false=>
         rw [hb] at hEi hrn
         refine stp ?_
         refine Je rfl rfl hEi ⟨Rf,Rf,Rf,Rf,trivial⟩ fun nx3=> ?_
         refine stp ?_
         exact back (i+1,nx3) hil Dm (Et rfl rfl Bf trivial ⟨Rf,Rf,Rf,Rf,Rf,AVle.of_eq (congrArg (fun z:Nat=> int ((z:Nat):Int)) hrn.symm),Lw,trivial⟩)
       | true=>
         rw [hb] at hEi hrn
         have hSi:=hse 2 i Dc
         have hfd:=h2.found i hil hb
         have hnum:=h2.num i hil hb
         have hru:=h2.rules i
         have htd:=JeM (rowS18 N l 2 i) hru.1 hru.2
         have huq:∀e∈E2,e.num=wholeN 2 ((l.getD i trow0).num 2)→e.rules=rowS18 N l 2 i:=fun e he hn=> h2.uniq he hil hb hn
         generalize rowS18 N l 2 i=W at hSi hfd htd huq
         generalize hq:l.getD i trow0=q at hSi hfd hnum huq
         obtain ⟨nm,a0,a1,a2,a3,a4,mux,sub⟩:=q
         have hcell:AV.rp (Jq (l.getD i trow0)).cells= .rp [Jg nm,int a0,int a1,int a2,int a3,int a4,int mux,int sub]:=by rw [hq];rfl
         have hwh:IntKind.u32.wrap a2=((wholeN 2 a2:Nat):Int):=JhH (a:=2) hnum.1 hnum.2 Dc
         have hfd:(⟨wholeN 2 a2,W⟩:PEnt)∈E2:=hfd
         have huq:∀e∈E2,e.num=wholeN 2 a2→e.rules=W:=huq
         generalize wholeN 2 a2=w at hfd huq hwh
         refine stp ?_
         refine Je rfl rfl hEi ⟨Rf,Rf,Rf,Rf,trivial⟩ fun nx3=> ?_
         refine stp ?_
         refine ⟨Bd,Jj (b:= .rp [Jg nm,int a0,int a1,int a2,int a3,int a4,int mux,int sub]) hcell ?_⟩
         (conv=> whnf)
         refine ⟨⟨by decide,by decide,Nat.le_of_ble_eq_true (by kernel_rfl)⟩, ?_⟩
         refine stp ?_
         refine Jan (fun y:Nat=> mk 196 (PlT nx5 nx7 l 2 [(12,int (((List.range (i+1)).filter (entryB N l 2)).length:Nat)),(13,int i),(15,Jb true)]) ⟨(PlB nx5 nx7 N d x32 E0 E1 E2 E3 E4 S0 S1), [],y,5⟩) (fun _=> True) ?_ ?_
         ·refine Jo (fun y:Nat×Nat=> mk 196 (PlT nx5 nx7 l 2 [(12,int (((List.range (i+1)).filter (entryB N l 2)).length:Nat)),(13,int i),(14,u32 (w:Nat)),(15,Jb (((E2).take y.1).any (JaX w))),(16,int y.1)]) ⟨(PlB nx5 nx7 N d x32 E0 E1 E2 E3 E4 S0 S1), [],y.2,5⟩) (fun y=> y.1≤(E2).length) (fun y=> (E2).length - y.1) ?_ ?_
          ·exact ⟨(0,nx3),Nat.zero_le _,Et rfl rfl Bf trivial ⟨Rf,Rf,Rf,Rf,Rf,AVle.of_eq (congrArg int ((JF Dm).trans (congrArg (fun z:Nat=> ((z:Nat):Int)) hrn.symm))),Rf,AVle.of_eq (congrArg u32 hwh),Rf,Rf,trivial⟩⟩
          ·rintro ⟨j,nx4⟩ hj
           dsimp only at hj
           refine stp ?_
           intro c g2;cases c
           ·have g2:=Jm g2
            try dsimp only at g2
            have hjl:j=(E2).length:=by omega
            have hany:((E2).take j).any (JaX w)=true:=by
             rw [hjl,List.take_length]
             exact List.any_eq_true.2 ⟨_,hfd,by unfold JaX;exact decide_eq_true rfl⟩
            refine stp ?_
            exact ⟨nx4,trivial,Et rfl rfl Bf trivial ⟨Rf,Rf,Rf,Rf,Rf,Rf,Rf,AVle.of_eq (congrArg Jb hany),trivial⟩⟩
           ·have g2:=Jn g2
            try dsimp only at g2
            have hjl:j < (E2).length:=by omega
            have hnx:=Jb7 (f:=JaX w) (d:=ent0) hjl
            have hlen:=h2.len
            have hue:=huq _ (Jc3 (d:=ent0) hjl)
            generalize hanyv:((E2).take j).any (JaX w)=fnd at hnx
            cases fnd
            ·refine stp ?_
             (refine Ju 33 ?_ ?_ ?_ ?_;(· kernel_rfl);(· kernel_rfl);(· kernel_rfl))
             refine stp ?_
             refine ⟨Bd, ?_⟩
             refine stp ?_
             intro c hc3
             have hc4:c=decide (((E2).getD j ent0).num=w):=hc3.trans (Jiu _ _)
             clear hc3
             have hne:JaX w ((E2).getD j ent0)=c:=hc4.symm
             cases c
             ·refine stp ?_
              exact back (j+1,nx4) hjl Dm (Et rfl rfl Bf trivial ⟨Rf,Rf,Rf,Rf,Rf,Rf,Rf,Rf,AVle.of_eq (congrArg Jb (by rw [hnx,hne];rfl)),Lw,trivial⟩)
             ·have hue:=hue (of_decide_eq_true hc4.symm)
              refine stp ?_
              refine ⟨Bd, ?_⟩
              refine stp ?_
              refine ⟨Bd,Jj (b:= .rp [Jg nm,int a0,int a1,int a2,int a3,int a4,int mux,int sub]) hcell ?_⟩
              refine stp ?_
              refine JP (Jz rfl rfl hSi ⟨Rf,Rf,Rf,trivial⟩ (Jbv _)) ?_
              refine stp ?_
              refine JP (Jz rfl rfl htd ⟨AVle.of_eq (by rw [← hue];rfl),Rf,trivial⟩ (NoId.v _)) ?_
              refine stp ?_
              exact back (j+1,nx4) hjl Dm (Et rfl rfl Bf trivial ⟨Rf,Rf,Rf,Rf,Rf,Rf,Rf,Rf,AVle.of_eq (congrArg Jb (by rw [hnx,hne];rfl)),Lw,trivial⟩)
            ·refine stp ?_
             (refine Ju 33 ?_ ?_ ?_ ?_;(· kernel_rfl);(· kernel_rfl);(· kernel_rfl))
             refine stp ?_
             exact back (j+1,nx4) hjl Dm (Et rfl rfl Bf trivial ⟨Rf,Rf,Rf,Rf,Rf,Rf,Rf,Rf,AVle.of_eq (congrArg Jb (by rw [hnx];rfl)),Lw,trivial⟩)
         ·rintro nx4 -
          refine stp ?_
          exact back (i+1,nx4) hil Dm (Et rfl rfl Bf trivial ⟨Rf,Rf,Rf,Rf,Rf,Rf,Lw,trivial⟩)
    ·rintro nx2 -
     refine stp ?_
     intro c hc1
     have hc2:c=false:=hc1.trans (bne_self_eq_false _)
     clear hc1
     cases hc2
     have hlen:=h2.len
     refine stp ?_
     refine Jo (fun y:Nat×Nat=> mk 196 (PlT nx5 nx7 l 2 [(17,int y.1)]) ⟨(PlB nx5 nx7 N d x32 E0 E1 E2 E3 E4 S0 S1), [],y.2,5⟩) (fun y=> 1≤y.1∧(y.1≤(E2).length∨y.1=1)) (fun y=> (E2).length - y.1) ?_ ?_
     ·exact ⟨(1,nx2),⟨Nat.le_refl _, .inr rfl⟩,Et rfl rfl Bf trivial ⟨Rf,Rf,Rf,Rf,Rf,Rf,trivial⟩⟩
     ·rintro ⟨j,nx3⟩ ⟨hj1,hj2⟩
      dsimp only at hj1 hj2
      refine stp ?_
      intro c g;cases c
      ·have g:=Jm g
       refine stp ?_
       exact back (3,nx3) Dm Dm (Et rfl rfl Bf trivial ⟨Rf,Rf,Rf,Rf,Jl rfl,trivial⟩)
      ·have g:=Jn g
       try dsimp only at g
       have hjl:j < (E2).length:=by omega
       have hri:=Je6 (f:=fun s:PEnt=> s.num) (d:=ent0) h2.rise hj1 hjl
       have hm1:IntKind.i64.wrap ((j:Int) - 1)=((j - 1:Nat):Int):=by rw [Jac Om Om];omega
       refine stp ?_
       (refine Ju 18 ?_ ?_ ?_ ?_;(· kernel_rfl);(· kernel_rfl);(· kernel_rfl))
       refine stp ?_
       refine ⟨Bd, ?_⟩
       refine stp ?_
       refine ⟨⟨Jbs (i:=j - 1) hm1,JbJ (i:=j - 1) hm1 Om⟩,Jj (b:= .rp (Jaf ((E2).getD (j - 1) ent0)).cells) (congrArg (fun z:Int=> AV.rp (Jaf ((E2).getD z.toNat ent0)).cells) hm1) ?_⟩
       refine stp ?_
       intro c hc1
       have hc2:c=false:=hc1.trans (Jgo hri)
       clear hc1
       cases hc2
       refine stp ?_
       exact back (j+1,nx3) ⟨by dsimp only;omega, .inl Dm⟩ Dm (Et rfl rfl Bf trivial ⟨Rf,Rf,Rf,Rf,Rf,Lw,trivial⟩)
   ·refine AW.le (Et (n:=196) (nn:=5) (pm:= []) (bx:=(PlB nx5 nx7 N d x32 E0 E1 E2 E3 E4 S0 S1)) (L:=(PlT nx5 nx7 l 3 [])) rfl rfl Bf trivial ⟨Rf,Rf,Rf,Rf,Rf,trivial⟩) ?_
    refine stp ?_
    refine Jan (fun y:Nat=> mk 196 (PlT nx5 nx7 l 3 [(12,int (E3).length)]) ⟨(PlB nx5 nx7 N d x32 E0 E1 E2 E3 E4 S0 S1), [],y,5⟩) (fun _=> True) ?_ ?_
    ·refine Jo (fun y:Nat×Nat=> mk 196 (PlT nx5 nx7 l 3 [(12,int (((List.range y.1).filter (entryB N l 3)).length:Nat)),(13,int y.1)]) ⟨(PlB nx5 nx7 N d x32 E0 E1 E2 E3 E4 S0 S1), [],y.2,5⟩) (fun y=> y.1≤l.length) (fun y=> l.length - y.1) ?_ ?_
     ·exact ⟨(0,nx1),Nat.zero_le _,Et rfl rfl Bf trivial ⟨Rf,Rf,Rf,Rf,Rf,Rf,Rf,trivial⟩⟩
     ·rintro ⟨i,nx2⟩ hi
      dsimp only at hi
      refine stp ?_
      intro c g;cases c
      ·have g:=Jm g
       try dsimp only at g
       have hil:i=l.length:=by omega
       subst hil
       have hct:=h3.count
       refine stp ?_
       exact ⟨nx2,trivial,Et rfl rfl Bf trivial ⟨Rf,Rf,Rf,Rf,Rf,AVle.of_eq (congrArg (fun z:Nat=> int ((z:Nat):Int)) hct),trivial⟩⟩
      ·have g:=Jn g
       try dsimp only at g
       have hil:i < l.length:=by omega
       have hEi:=hen 3 i Dc hil
       have hrn:=Jdd (q:=entryB N l 3) (i:=i)
       have hle:=Jei (q:=entryB N l 3) (i:=i)
       cases hb:entryB N l 3 i with
       | false=>
         rw [hb] at hEi hrn
         refine stp ?_
         refine Je rfl rfl hEi ⟨Rf,Rf,Rf,Rf,trivial⟩ fun nx3=> ?_
         refine stp ?_
         exact back (i+1,nx3) hil Dm (Et rfl rfl Bf trivial ⟨Rf,Rf,Rf,Rf,Rf,AVle.of_eq (congrArg (fun z:Nat=> int ((z:Nat):Int)) hrn.symm),Lw,trivial⟩)
       | true=>
         rw [hb] at hEi hrn
         have hSi:=hse 3 i Dc
         have hfd:=h3.found i hil hb
         have hnum:=h3.num i hil hb
         have hru:=h3.rules i
         have htd:=JeM (rowS18 N l 3 i) hru.1 hru.2
         have huq:∀e∈E3,e.num=wholeN 3 ((l.getD i trow0).num 3)→e.rules=rowS18 N l 3 i:=fun e he hn=> h3.uniq he hil hb hn
         generalize rowS18 N l 3 i=W at hSi hfd htd huq
         generalize hq:l.getD i trow0=q at hSi hfd hnum huq
         obtain ⟨nm,a0,a1,a2,a3,a4,mux,sub⟩:=q
         have hcell:AV.rp (Jq (l.getD i trow0)).cells= .rp [Jg nm,int a0,int a1,int a2,int a3,int a4,int mux,int sub]:=by rw [hq];rfl
         have hwh:IntKind.u32.wrap a3=((wholeN 3 a3:Nat):Int):=JhH (a:=3) hnum.1 hnum.2 Dc
         have hfd:(⟨wholeN 3 a3,W⟩:PEnt)∈E3:=hfd
         have huq:∀e∈E3,e.num=wholeN 3 a3→e.rules=W:=huq
         generalize wholeN 3 a3=w at hfd huq hwh
         refine stp ?_
         refine Je rfl rfl hEi ⟨Rf,Rf,Rf,Rf,trivial⟩ fun nx3=> ?_
         refine stp ?_
         refine ⟨Bd,Jj (b:= .rp [Jg nm,int a0,int a1,int a2,int a3,int a4,int mux,int sub]) hcell ?_⟩
         (conv=> whnf)
         refine ⟨⟨by decide,by decide,Nat.le_of_ble_eq_true (by kernel_rfl)⟩, ?_⟩
         refine stp ?_
         refine Jan (fun y:Nat=> mk 196 (PlT nx5 nx7 l 3 [(12,int (((List.range (i+1)).filter (entryB N l 3)).length:Nat)),(13,int i),(15,Jb true)]) ⟨(PlB nx5 nx7 N d x32 E0 E1 E2 E3 E4 S0 S1), [],y,5⟩) (fun _=> True) ?_ ?_
         ·refine Jo (fun y:Nat×Nat=> mk 196 (PlT nx5 nx7 l 3 [(12,int (((List.range (i+1)).filter (entryB N l 3)).length:Nat)),(13,int i),(14,u32 (w:Nat)),(15,Jb (((E3).take y.1).any (JaX w))),(16,int y.1)]) ⟨(PlB nx5 nx7 N d x32 E0 E1 E2 E3 E4 S0 S1), [],y.2,5⟩) (fun y=> y.1≤(E3).length) (fun y=> (E3).length - y.1) ?_ ?_
          ·exact ⟨(0,nx3),Nat.zero_le _,Et rfl rfl Bf trivial ⟨Rf,Rf,Rf,Rf,Rf,AVle.of_eq (congrArg int ((JF Dm).trans (congrArg (fun z:Nat=> ((z:Nat):Int)) hrn.symm))),Rf,AVle.of_eq (congrArg u32 hwh),Rf,Rf,trivial⟩⟩
          ·rintro ⟨j,nx4⟩ hj
           dsimp only at hj
           refine stp ?_
           intro c g2;cases c
           ·have g2:=Jm g2
            try dsimp only at g2
            have hjl:j=(E3).length:=by omega
            have hany:((E3).take j).any (JaX w)=true:=by
             rw [hjl,List.take_length]
             exact List.any_eq_true.2 ⟨_,hfd,by unfold JaX;exact decide_eq_true rfl⟩
            refine stp ?_
            exact ⟨nx4,trivial,Et rfl rfl Bf trivial ⟨Rf,Rf,Rf,Rf,Rf,Rf,Rf,AVle.of_eq (congrArg Jb hany),trivial⟩⟩
           ·have g2:=Jn g2
            try dsimp only at g2
            have hjl:j < (E3).length:=by omega
            have hnx:=Jb7 (f:=JaX w) (d:=ent0) hjl
            have hlen:=h3.len
            have hue:=huq _ (Jc3 (d:=ent0) hjl)
            generalize hanyv:((E3).take j).any (JaX w)=fnd at hnx
            cases fnd
            ·refine stp ?_
             (refine Ju 33 ?_ ?_ ?_ ?_;(· kernel_rfl);(· kernel_rfl);(· kernel_rfl))
             refine stp ?_
             refine ⟨Bd, ?_⟩
             refine stp ?_
             intro c hc3
             have hc4:c=decide (((E3).getD j ent0).num=w):=hc3.trans (Jiu _ _)
             clear hc3
             have hne:JaX w ((E3).getD j ent0)=c:=hc4.symm
             cases c
             ·refine stp ?_
              exact back (j+1,nx4) hjl Dm (Et rfl rfl Bf trivial ⟨Rf,Rf,Rf,Rf,Rf,Rf,Rf,Rf,AVle.of_eq (congrArg Jb (by rw [hnx,hne];rfl)),Lw,trivial⟩)
             ·have hue:=hue (of_decide_eq_true hc4.symm)
              refine stp ?_
              refine ⟨Bd, ?_⟩
              refine stp ?_
              refine ⟨Bd,Jj (b:= .rp [Jg nm,int a0,int a1,int a2,int a3,int a4,int mux,int sub]) hcell ?_⟩
              refine stp ?_
              refine JP (Jz rfl rfl hSi ⟨Rf,Rf,Rf,trivial⟩ (Jbv _)) ?_
              refine stp ?_
              refine JP (Jz rfl rfl htd ⟨AVle.of_eq (by rw [← hue];rfl),Rf,trivial⟩ (NoId.v _)) ?_
              refine stp ?_
              exact back (j+1,nx4) hjl Dm (Et rfl rfl Bf trivial ⟨Rf,Rf,Rf,Rf,Rf,Rf,Rf,Rf,AVle.of_eq (congrArg Jb (by rw [hnx,hne];rfl)),Lw,trivial⟩)
            ·refine stp ?_
             (refine Ju 33 ?_ ?_ ?_ ?_;(· kernel_rfl);(· kernel_rfl);(· kernel_rfl))
             refine stp ?_
             exact back (j+1,nx4) hjl Dm (Et rfl rfl Bf trivial ⟨Rf,Rf,Rf,Rf,Rf,Rf,Rf,Rf,AVle.of_eq (congrArg Jb (by rw [hnx];rfl)),Lw,trivial⟩)
         ·rintro nx4 -
          refine stp ?_
          exact back (i+1,nx4) hil Dm (Et rfl rfl Bf trivial ⟨Rf,Rf,Rf,Rf,Rf,Rf,Lw,trivial⟩)
    ·rintro nx2 -
     refine stp ?_
     intro c hc1
     have hc2:c=false:=hc1.trans (bne_self_eq_false _)
     clear hc1
     cases hc2
     have hlen:=h3.len
     refine stp ?_
     refine Jo (fun y:Nat×Nat=> mk 196 (PlT nx5 nx7 l 3 [(17,int y.1)]) ⟨(PlB nx5 nx7 N d x32 E0 E1 E2 E3 E4 S0 S1), [],y.2,5⟩) (fun y=> 1≤y.1∧(y.1≤(E3).length∨y.1=1)) (fun y=> (E3).length - y.1) ?_ ?_
     ·exact ⟨(1,nx2),⟨Nat.le_refl _, .inr rfl⟩,Et rfl rfl Bf trivial ⟨Rf,Rf,Rf,Rf,Rf,Rf,trivial⟩⟩
     ·rintro ⟨j,nx3⟩ ⟨hj1,hj2⟩
      dsimp only at hj1 hj2
      refine stp ?_
      intro c g;cases c
      ·have g:=Jm g
       refine stp ?_
       exact back (4,nx3) Dm Dm (Et rfl rfl Bf trivial ⟨Rf,Rf,Rf,Rf,Jl rfl,trivial⟩)
      ·have g:=Jn g
       try dsimp only at g
       have hjl:j < (E3).length:=by omega
       have hri:=Je6 (f:=fun s:PEnt=> s.num) (d:=ent0) h3.rise hj1 hjl
       have hm1:IntKind.i64.wrap ((j:Int) - 1)=((j - 1:Nat):Int):=by rw [Jac Om Om];omega
       refine stp ?_
       (refine Ju 18 ?_ ?_ ?_ ?_;(· kernel_rfl);(· kernel_rfl);(· kernel_rfl))
       refine stp ?_
       refine ⟨Bd, ?_⟩
       refine stp ?_
       refine ⟨⟨Jbs (i:=j - 1) hm1,JbJ (i:=j - 1) hm1 Om⟩,Jj (b:= .rp (Jaf ((E3).getD (j - 1) ent0)).cells) (congrArg (fun z:Int=> AV.rp (Jaf ((E3).getD z.toNat ent0)).cells) hm1) ?_⟩
       refine stp ?_
       intro c hc1
       have hc2:c=false:=hc1.trans (Jgo hri)
       clear hc1
       cases hc2
       refine stp ?_
       exact back (j+1,nx3) ⟨by dsimp only;omega, .inl Dm⟩ Dm (Et rfl rfl Bf trivial ⟨Rf,Rf,Rf,Rf,Rf,Lw,trivial⟩)
   ·refine AW.le (Et (n:=196) (nn:=5) (pm:= []) (bx:=(PlB nx5 nx7 N d x32 E0 E1 E2 E3 E4 S0 S1)) (L:=(PlT nx5 nx7 l 4 [])) rfl rfl Bf trivial ⟨Rf,Rf,Rf,Rf,Rf,trivial⟩) ?_
    refine stp ?_
    refine Jan (fun y:Nat=> mk 196 (PlT nx5 nx7 l 4 [(12,int (E4).length)]) ⟨(PlB nx5 nx7 N d x32 E0 E1 E2 E3 E4 S0 S1), [],y,5⟩) (fun _=> True) ?_ ?_
    ·refine Jo (fun y:Nat×Nat=> mk 196 (PlT nx5 nx7 l 4 [(12,int (((List.range y.1).filter (entryB N l 4)).length:Nat)),(13,int y.1)]) ⟨(PlB nx5 nx7 N d x32 E0 E1 E2 E3 E4 S0 S1), [],y.2,5⟩) (fun y=> y.1≤l.length) (fun y=> l.length - y.1) ?_ ?_
     ·exact ⟨(0,nx1),Nat.zero_le _,Et rfl rfl Bf trivial ⟨Rf,Rf,Rf,Rf,Rf,Rf,Rf,trivial⟩⟩
     ·rintro ⟨i,nx2⟩ hi
      dsimp only at hi
      refine stp ?_
      intro c g;cases c
      ·have g:=Jm g
       try dsimp only at g
       have hil:i=l.length:=by omega
       subst hil
       have hct:=h4.count
       refine stp ?_
       exact ⟨nx2,trivial,Et rfl rfl Bf trivial ⟨Rf,Rf,Rf,Rf,Rf,AVle.of_eq (congrArg (fun z:Nat=> int ((z:Nat):Int)) hct),trivial⟩⟩
      ·have g:=Jn g
       try dsimp only at g
       have hil:i < l.length:=by omega
       have hEi:=hen 4 i Dc hil
       have hrn:=Jdd (q:=entryB N l 4) (i:=i)
       have hle:=Jei (q:=entryB N l 4) (i:=i)
       cases hb:entryB N l 4 i with
       | false=>
         rw [hb] at hEi hrn
         refine stp ?_
         refine Je rfl rfl hEi ⟨Rf,Rf,Rf,Rf,trivial⟩ fun nx3=> ?_
         refine stp ?_
         exact back (i+1,nx3) hil Dm (Et rfl rfl Bf trivial ⟨Rf,Rf,Rf,Rf,Rf,AVle.of_eq (congrArg (fun z:Nat=> int ((z:Nat):Int)) hrn.symm),Lw,trivial⟩)
       | true=>
         rw [hb] at hEi hrn
         have hSi:=hse 4 i Dc
         have hfd:=h4.found i hil hb
         have hnum:=h4.num i hil hb
         have hru:=h4.rules i
         have htd:=JeM (rowS18 N l 4 i) hru.1 hru.2
         have huq:∀e∈E4,e.num=wholeN 4 ((l.getD i trow0).num 4)→e.rules=rowS18 N l 4 i:=fun e he hn=> h4.uniq he hil hb hn
         generalize rowS18 N l 4 i=W at hSi hfd htd huq
         generalize hq:l.getD i trow0=q at hSi hfd hnum huq
         obtain ⟨nm,a0,a1,a2,a3,a4,mux,sub⟩:=q
         have hcell:AV.rp (Jq (l.getD i trow0)).cells= .rp [Jg nm,int a0,int a1,int a2,int a3,int a4,int mux,int sub]:=by rw [hq];rfl
         have hwh:IntKind.u32.wrap a4=((wholeN 4 a4:Nat):Int):=JhH (a:=4) hnum.1 hnum.2 Dc
         have hfd:(⟨wholeN 4 a4,W⟩:PEnt)∈E4:=hfd
         have huq:∀e∈E4,e.num=wholeN 4 a4→e.rules=W:=huq
         generalize wholeN 4 a4=w at hfd huq hwh
         refine stp ?_
         refine Je rfl rfl hEi ⟨Rf,Rf,Rf,Rf,trivial⟩ fun nx3=> ?_
         refine stp ?_
         refine ⟨Bd,Jj (b:= .rp [Jg nm,int a0,int a1,int a2,int a3,int a4,int mux,int sub]) hcell ?_⟩
         (conv=> whnf)
         refine ⟨⟨by decide,by decide,Nat.le_of_ble_eq_true (by kernel_rfl)⟩, ?_⟩
         refine stp ?_
         refine Jan (fun y:Nat=> mk 196 (PlT nx5 nx7 l 4 [(12,int (((List.range (i+1)).filter (entryB N l 4)).length:Nat)),(13,int i),(15,Jb true)]) ⟨(PlB nx5 nx7 N d x32 E0 E1 E2 E3 E4 S0 S1), [],y,5⟩) (fun _=> True) ?_ ?_
         ·refine Jo (fun y:Nat×Nat=> mk 196 (PlT nx5 nx7 l 4 [(12,int (((List.range (i+1)).filter (entryB N l 4)).length:Nat)),(13,int i),(14,u32 (w:Nat)),(15,Jb (((E4).take y.1).any (JaX w))),(16,int y.1)]) ⟨(PlB nx5 nx7 N d x32 E0 E1 E2 E3 E4 S0 S1), [],y.2,5⟩) (fun y=> y.1≤(E4).length) (fun y=> (E4).length - y.1) ?_ ?_
          ·exact ⟨(0,nx3),Nat.zero_le _,Et rfl rfl Bf trivial ⟨Rf,Rf,Rf,Rf,Rf,AVle.of_eq (congrArg int ((JF Dm).trans (congrArg (fun z:Nat=> ((z:Nat):Int)) hrn.symm))),Rf,AVle.of_eq (congrArg u32 hwh),Rf,Rf,trivial⟩⟩
          ·rintro ⟨j,nx4⟩ hj
           dsimp only at hj
           refine stp ?_
           intro c g2;cases c
           ·have g2:=Jm g2
            try dsimp only at g2
            have hjl:j=(E4).length:=by omega
            have hany:((E4).take j).any (JaX w)=true:=by
             rw [hjl,List.take_length]
             exact List.any_eq_true.2 ⟨_,hfd,by unfold JaX;exact decide_eq_true rfl⟩
            refine stp ?_
            exact ⟨nx4,trivial,Et rfl rfl Bf trivial ⟨Rf,Rf,Rf,Rf,Rf,Rf,Rf,AVle.of_eq (congrArg Jb hany),trivial⟩⟩
           ·have g2:=Jn g2
            try dsimp only at g2
            have hjl:j < (E4).length:=by omega
            have hnx:=Jb7 (f:=JaX w) (d:=ent0) hjl
            have hlen:=h4.len
            have hue:=huq _ (Jc3 (d:=ent0) hjl)
            generalize hanyv:((E4).take j).any (JaX w)=fnd at hnx
            cases fnd
            ·refine stp ?_
             (refine Ju 33 ?_ ?_ ?_ ?_;(· kernel_rfl);(· kernel_rfl);(· kernel_rfl))
             refine stp ?_
             refine ⟨Bd, ?_⟩
             refine stp ?_
             intro c hc3
             have hc4:c=decide (((E4).getD j ent0).num=w):=hc3.trans (Jiu _ _)
             clear hc3
             have hne:JaX w ((E4).getD j ent0)=c:=hc4.symm
             cases c
             ·refine stp ?_
              exact back (j+1,nx4) hjl Dm (Et rfl rfl Bf trivial ⟨Rf,Rf,Rf,Rf,Rf,Rf,Rf,Rf,AVle.of_eq (congrArg Jb (by rw [hnx,hne];rfl)),Lw,trivial⟩)
             ·have hue:=hue (of_decide_eq_true hc4.symm)
              refine stp ?_
              refine ⟨Bd, ?_⟩
              refine stp ?_
              refine ⟨Bd,Jj (b:= .rp [Jg nm,int a0,int a1,int a2,int a3,int a4,int mux,int sub]) hcell ?_⟩
              refine stp ?_
              refine JP (Jz rfl rfl hSi ⟨Rf,Rf,Rf,trivial⟩ (Jbv _)) ?_
              refine stp ?_
              refine JP (Jz rfl rfl htd ⟨AVle.of_eq (by rw [← hue];rfl),Rf,trivial⟩ (NoId.v _)) ?_
              refine stp ?_
              exact back (j+1,nx4) hjl Dm (Et rfl rfl Bf trivial ⟨Rf,Rf,Rf,Rf,Rf,Rf,Rf,Rf,AVle.of_eq (congrArg Jb (by rw [hnx,hne];rfl)),Lw,trivial⟩)
            ·refine stp ?_
             (refine Ju 33 ?_ ?_ ?_ ?_;(· kernel_rfl);(· kernel_rfl);(· kernel_rfl))
             refine stp ?_
             exact back (j+1,nx4) hjl Dm (Et rfl rfl Bf trivial ⟨Rf,Rf,Rf,Rf,Rf,Rf,Rf,Rf,AVle.of_eq (congrArg Jb (by rw [hnx];rfl)),Lw,trivial⟩)
         ·rintro nx4 -
          refine stp ?_
          exact back (i+1,nx4) hil Dm (Et rfl rfl Bf trivial ⟨Rf,Rf,Rf,Rf,Rf,Rf,Lw,trivial⟩)
    ·rintro nx2 -
     refine stp ?_
     intro c hc1
     have hc2:c=false:=hc1.trans (bne_self_eq_false _)
     clear hc1
     cases hc2
     have hlen:=h4.len
     refine stp ?_
     refine Jo (fun y:Nat×Nat=> mk 196 (PlT nx5 nx7 l 4 [(17,int y.1)]) ⟨(PlB nx5 nx7 N d x32 E0 E1 E2 E3 E4 S0 S1), [],y.2,5⟩) (fun y=> 1≤y.1∧(y.1≤(E4).length∨y.1=1)) (fun y=> (E4).length - y.1) ?_ ?_
     ·exact ⟨(1,nx2),⟨Nat.le_refl _, .inr rfl⟩,Et rfl rfl Bf trivial ⟨Rf,Rf,Rf,Rf,Rf,Rf,trivial⟩⟩
     ·rintro ⟨j,nx3⟩ ⟨hj1,hj2⟩
      dsimp only at hj1 hj2
      refine stp ?_
      intro c g;cases c
      ·have g:=Jm g
       refine stp ?_
       exact back (5,nx3) Dm Dm (Et rfl rfl Bf trivial ⟨Rf,Rf,Rf,Rf,Jl rfl,trivial⟩)
      ·have g:=Jn g
       try dsimp only at g
       have hjl:j < (E4).length:=by omega
       have hri:=Je6 (f:=fun s:PEnt=> s.num) (d:=ent0) h4.rise hj1 hjl
       have hm1:IntKind.i64.wrap ((j:Int) - 1)=((j - 1:Nat):Int):=by rw [Jac Om Om];omega
       refine stp ?_
       (refine Ju 18 ?_ ?_ ?_ ?_;(· kernel_rfl);(· kernel_rfl);(· kernel_rfl))
       refine stp ?_
       refine ⟨Bd, ?_⟩
       refine stp ?_
       refine ⟨⟨Jbs (i:=j - 1) hm1,JbJ (i:=j - 1) hm1 Om⟩,Jj (b:= .rp (Jaf ((E4).getD (j - 1) ent0)).cells) (congrArg (fun z:Int=> AV.rp (Jaf ((E4).getD z.toNat ent0)).cells) hm1) ?_⟩
       refine stp ?_
       intro c hc1
       have hc2:c=false:=hc1.trans (Jgo hri)
       clear hc1
       cases hc2
       refine stp ?_
       exact back (j+1,nx3) ⟨by dsimp only;omega, .inl Dm⟩ Dm (Et rfl rfl Bf trivial ⟨Rf,Rf,Rf,Rf,Rf,Lw,trivial⟩)
   ·refine stp ?_
    exact ⟨nx1,trivial,Et rfl rfl Bf trivial ⟨Rf,Rf,Rf,Rf,trivial⟩⟩
 ·rintro nx8 -
  refine stp ?_
  refine Je rfl rfl hsu ⟨Rf,Rf,Rf,trivial⟩ fun nx9=> ?_
  refine stp ?_
  refine Je rfl rfl hawk trivial fun nx10=> ?_
  refine stp ?_
  exact Jd rfl Rf
end Go.Proofs.W

namespace Go.Proofs.W
open Go.Vl
set_option maxRecDepth 100000
set_option maxHeartbeats 8000000 in
theorem Jpi (k n:Int) (x32:Bool) (rs:List Rul) (l:List TRow) (i e:Int) (he:e≠0)
 (hlt:Tells Tryz.prog 22 [JaL ⟨(k,n),x32,rs⟩] (Jb true)) (hfew:Tells Tryz.prog 23 [Jv l] (Jb true)) (hof:Tells Tryz.prog 24 [JaL ⟨(k,n),x32,rs⟩] (JaL ⟨(k,n),x32,rs⟩)) (hrw:Tells Tryz.prog 25 [Jv l] (Jv l))
 (hr:Tells Tryz.prog 12 [JaL ⟨(k,n),x32,rs⟩,Jv l] (.tup [JfO Jcx,int i,int e])) (hwr:Tells Tryz.prog 26 [JaL ⟨(k,n),x32,rs⟩,Jv l] (.tup [int i,int e])):Tells Tryz.prog 5 [JaL ⟨(k,n),x32,rs⟩,Jv l] (Jb true):=by
 have hawk:=Jiq
 refine Jf Tryz.func5 rfl rfl fun nx=> ?_
 refine stp ?_
 refine Je rfl rfl hlt ⟨Rf,trivial⟩ fun nx1=> ?_
 refine stp ?_
 refine Je rfl rfl hfew ⟨Rf,trivial⟩ fun nx2=> ?_
 refine stp ?_
 refine Je rfl rfl hof ⟨Rf,trivial⟩ fun nx3=> ?_
 refine stp ?_
 refine Je rfl rfl hrw ⟨Rf,trivial⟩ fun nx4=> ?_
 refine stp ?_
 refine Je rfl rfl hr ⟨Rf,Rf,trivial⟩ fun nx5=> ?_
 refine stp ?_
 refine Je rfl rfl hwr ⟨Rf,Rf,trivial⟩ fun nx6=> ?_
 refine JB ?_
 refine AW.le (Jk (n:=196) (nx:=nx6) (nn:=5) (pm:= []) (bx:= [((0,nx5), .c (Jav Jcx))]) (L:= [(5, .bp (0,nx5) 0),(6,int i),(7,int e),(8,int i),(9,int e)]) _ _ rfl rfl (.cons_cons _ (.cons _ .slnil)) Sf ⟨rfl,OwnLe.refl _,trivial⟩ trivial ⟨AVle.bp_nm rfl,Rf,Rf,Rf,Rf,trivial⟩) ?_
 refine stp ?_
 intro c hc
 have hc2:c=true:=hc.trans (bne_iff_ne.2 he)
 clear hc
 cases hc2
 refine stp ?_
 refine Je rfl rfl Jx4 ⟨Rf,trivial⟩ fun nx7=> ?_
 refine stp ?_
 intro c hc
 have hc2:c=true:=hc.trans (beq_self_eq_true _)
 clear hc
 cases hc2
 refine stp ?_
 intro c hc
 have hc2:c=true:=hc.trans (beq_self_eq_true _)
 clear hc
 cases hc2
 refine stp ?_
 refine Je rfl rfl hawk trivial fun nx8=> ?_
 refine stp ?_
 exact Jd rfl Rf
theorem Jne (p:Pol) (hp:p.ok) (hr:JaB p=true):Tells Tryz.prog 29 [JaL p] (JaL (Jc p)):=by
 have h:=JjS p hp hr
 obtain ⟨⟨k,n⟩,x32,rs⟩:=p
 refine Jf Tryz.func29 rfl rfl fun nx=> ?_
 refine stp ?_
 refine Je rfl rfl h ⟨Rf,trivial⟩ fun nx1=> ?_
 refine stp ?_
 exact Jh rfl ⟨rfl,trivial⟩ Rf
theorem Jpj {p:Pol} (hp:JrM p):JrM (Jc p):=by
 refine ⟨Nat.le_trans (Jqr p.dflt p.rules) hp.1,fun n hn=> ?_⟩
 obtain ⟨r,hr,hN⟩:=Jlt hn
 obtain ⟨h1,h2⟩:=hp.2 r hr
 exact ⟨Nat.le_trans (Jbg hN).1 h1,(Jfh hN).2.2 h2⟩
theorem Jsw {p:Pol} {l:List TRow} (hp:p.ok) (hps:∀r∈p.rules,r.conds.length≤12∧r.name.size≤1000000) (hr:JaB p=true) (a i:Nat):(rowS18 (Jc p) l a i).length≤1000000∧∀q∈rowS18 (Jc p) l a i,q.conds.length≤1000000∧q.code < 4294967296:=by
 have hR:=JeG hr
 refine ⟨?_,fun q hq=> ?_⟩
 ·have h1:=Jpc (a:=a) (d:=codeA (Jc p).dflt) ((rowR18 (Jc p) l i).map JL)
  have h2:(rowR18 (Jc p) l i).length≤(Jc p).rules.length:=List.length_filter_le _ _
  have h3:=(JaU hR).1
  rw [List.length_map] at h1
  exact Nat.le_trans h1 Om
 ·obtain ⟨q0,h0,h1⟩:=Jpb hq
  obtain ⟨r,hr2,rfl⟩:=List.mem_map.1 h0
  have hm:r∈(Jc p).rules:=(List.mem_filter.1 hr2).1
  have hl:=(JaU hR).2 r hm
  have hx:=Jlz h1
  have e:(JL r).conds.length=r.conds.length:=rfl
  refine ⟨by omega, ?_⟩
  rw [hx.2]
  exact JjF (JeE ((Jd0 hR).2 r hm))
theorem Jx7 {p:Pol} {l:List TRow} (hp:p.ok) (hps:∀r∈p.rules,r.conds.length≤12∧r.name.size≤1000000) (hv:(JR p l).2=0) (hl:l.length≤40) {a:Nat} (ha:a < 5):EntOk (Jc p) l ((Jal p l).ents a) a:=by
 have ht:=(Jak.1 hv).2.1
 refine ⟨((JlI hp hps hv hl).ents a ha).1,JkP hv ha,fun i hi hb=> (JiR hv).2 ⟨i,hi,hb,rfl⟩,JmD hv ha,fun i hi hb=> ⟨(JeK.1 hb).1,(Jeo ht hi).1⟩,fun i=> Jsw hp hps (Jak.1 hv).1 a i⟩
theorem Juv {p:Pol} {l:List TRow} (hp:p.ok) (hps:∀r∈p.rules,r.conds.length≤12∧r.name.size≤1000000) (hv:(JR p l).2=0) (hl:l.length≤40) {m:Nat} (hm:m < 2):SubOk (Jc p) l ((Jal p l).subs m) m:=by
 have ht:=(Jak.1 hv).2.1
 have hR:=JeG (Jak.1 hv).1
 refine ⟨((JlI hp hps hv hl).subs m hm).1,fun s hs=> ⟨((JlI hp hps hv hl).subs m hm).2 s hs, ?_⟩,JkQ hv,fun i r hi h1 h2=> (Jg5 hv).2 ⟨i,r,hi,h1,h2,rfl⟩,JmE hv,fun i hi=> (Je0 ht hi).2.1⟩
 obtain ⟨i,r,hi,_,hh,rfl⟩:=(Jg5 hv).1 hs
 have hm:r∈(Jc p).rules:=(List.mem_filter.1 (List.mem_of_mem_head? hh)).1
 exact JjF (JeE ((Jd0 hR).2 r hm))
theorem JjT (p:Pol) (l:List TRow) (hp:p.ok) (hl:l.length≤maxLen) (hn:∀q∈l,q.name.size≤maxLen):Tells Tryz.prog 5 [JaL p,Jv l] (Jb true):=by
 have hlt:=Juo p hp.1
 have hfew:=Jsq l hl hn
 obtain ⟨⟨k,n⟩,x32,rs⟩:=p
 cases hlp:Jfq ⟨(k,n),x32,rs⟩ with
 | false=>
   rw [hlp] at hlt
   refine Jf Tryz.func5 rfl rfl fun nx=> ?_
   refine stp ?_
   refine Je rfl rfl hlt ⟨Rf,trivial⟩ fun nx5=> ?_
   refine stp ?_
   exact Jd rfl Rf
 | true=>
   rw [hlp] at hlt
   have hpo:=Jvw hp hlp
   have hps:=JvO hlp
   cases hfl:JjC l with
   | false=>
     rw [hfl] at hfew
     refine Jf Tryz.func5 rfl rfl fun nx=> ?_
     refine stp ?_
     refine Je rfl rfl hlt ⟨Rf,trivial⟩ fun nx5=> ?_
     refine stp ?_
     refine Je rfl rfl hfew ⟨Rf,trivial⟩ fun nx6=> ?_
     refine stp ?_
     exact Jd rfl Rf
   | true=>
     rw [hfl] at hfew
     obtain ⟨hl40,hn60⟩:=JxR hfl
     have hof:=Jxd ⟨(k,n),x32,rs⟩ hpo.1 (fun r hr=> (hpo.2 r hr).1)
     have hrw:=Jpa l Om
     have hR:=Jip ⟨(k,n),x32,rs⟩ l hp hps Om hn
     have hW:=JkU ⟨(k,n),x32,rs⟩ l ⟨hpo.1,fun r hr=> ⟨(hps r hr).1,(hpo.2 r hr).2⟩⟩ Om
     unfold JlH at hR
     unfold JjO at hW
     by_cases hv:(JR ⟨(k,n),x32,rs⟩ l).2=0
     ·rw [if_neg (fun h=> h hv)] at hR hW
      dsimp only at hR hW
      cases hx:rs.findIdx? (Jca l) with
      | some i=>
        rw [hx] at hR hW
        exact Jpi k n x32 rs l i 17 Dc hlt hfew hof hrw hR hW
      | none=>
        rw [hx] at hR hW
        have hrt:=(Jak.1 hv).1
        have hNR:=JeG hrt
        have hNp:=Jpj hpo
        have hcN:∀r∈(Jc ⟨(k,n),x32,rs⟩).rules,r.conds.length≤1000000∧∀c∈r.conds,c.ok:=hNp.2
        have hE:∀ {a},a < 5→_:=fun {a} ha=> Jx7 hp hps hv hl40 (a:=a) ha
        exact Jv1 k n x32 rs l (Jc ⟨(k,n),x32,rs⟩) (codeA (k,n)) ((Jal ⟨(k,n),x32,rs⟩ l).ents 0) ((Jal ⟨(k,n),x32,rs⟩ l).ents 1) ((Jal ⟨(k,n),x32,rs⟩ l).ents 2) ((Jal ⟨(k,n),x32,rs⟩ l).ents 3) ((Jal ⟨(k,n),x32,rs⟩ l).ents 4) ((Jal ⟨(k,n),x32,rs⟩ l).subs 0) ((Jal ⟨(k,n),x32,rs⟩ l).subs 1) Om (JjF (Jd0 hrt).1)
         (hE Dc) (hE Dc) (hE Dc) (hE Dc) (hE Dc) hlt hfew hof hrw hR hW (Jne _ hp hrt) (JhE (k,n) (Jd0 hrt).1) (fun a i ha hi=> Jss _ l a i ha hi Om hNp.1 hcN hNR) (fun a i ha=> Jg6 _ _ a hNp.1 hcN hNR)
         (Juq (Jal ⟨(k,n),x32,rs⟩ l) _ l Om hNp.1 hNR (Juv hp hps hv hl40 Dc) (Juv hp hps hv hl40 Dc))
     ·rw [if_pos hv] at hR hW
      exact Jpi k n x32 rs l (JR ⟨(k,n),x32,rs⟩ l).1 (JR ⟨(k,n),x32,rs⟩ l).2 hv hlt hfew hof hrw hR hW
end Go.Proofs.W
