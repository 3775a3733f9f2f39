import Derived.Test.YtokhkmgefndbaaaGreatDoorQF
import Derived.Test.YtokhkmgefndbaaaGreatDoorQD
import Derived.Test.YtokhkmgefndbaaaGreatDoorQE
import Derived.Test.YtokhkmgefndbaaaGreatDoorQC
import Derived.Shelf.SortM.Plain
import Derived.Shelf.SortM.SortNone
import Derived.Shelf.SlGeneric
import Derived.Ground.SlgmProg
import Derived.Sort.LotC
set_option linter.unusedVariables false
set_option linter.unusedSimpArgs false
set_option maxHeartbeats 16000000
namespace Go.Proofs
open Go.Shelf Go.RowKit Go.Lib Go.Sort
shelf_lay_g SlLaysF0.n6 Slsf 6 at Tryz 146 as Tryz.sortPart
namespace W
theorem JCO (k1 k2:Nat) (h1:k1 < 4294967296) (h2:k2 < 4294967296) (v1 v2:Value) (W:World):Calls Tryz.prog 147 #[.agg #[.int .u32 k1,v1], .agg #[.int .u32 k2,v2]] W fun e w'=> e= .returned (.int .i64 ((k1:Int) - k2))∧∃q os',w'=grow (W.drewN q) os':=by
 have e1:IntKind.i64.wrap (k1:Int)=k1:=Go.Vl.Jq Om Om
 have e2:IntKind.i64.wrap (k2:Int)=k2:=Go.Vl.Jq Om Om
 have e3:IntKind.i64.wrap ((k1:Int) - k2)=(k1:Int) - k2:=Go.Vl.Jq Om Om
 go_enter Tryz.func147,Tryz.ntmps147
 go_wp2
 go_ret
 exact ⟨by simp [e1,e2,e3],0,_,by rw [alloc_eq_grow,alloc_eq_grow,grow_grow];rfl⟩
open Go.Vl
theorem Jqh {D:List (Nat×AV)} {tl:List AV} {nm s cap nx nn:Nat} (hone:∀x∈D,Jcj x.2=true) (hk:∀x∈D,x.1 < 4294967296) (hl:D.length < 4611686018427387904):
 ECall Tryz.prog 146 [.hs (nm,s) 0 D.length cap, .fn (.func 147) [] []] ⟨[((nm,s), .c (JC D++tl))], [],nx,nn⟩
  fun r h'=> r= .tup []∧∃cs',(∃D',D'.Perm D∧D'.Pairwise (fun a b=> a.1≤b.1)∧cs'=JC D')∧h'=⟨[((nm,s), .c (cs'++tl))], [],nx,nn⟩:=by
 have eg:∀args w,(callFunc 147 args).run Tryz.prog w= .ok (.enter 147 args) w:=enters_of Tryz.func147 Kr rfl
 refine Jtz ⟨_,Tryz.func146,rfl,rfl⟩ hone hk fun d w blk hd hH hb=> ?_
 exact AnyQ.slices_SortFunc Tryz.sortPart 2 Tryz.isAgg191 Tryz.sizeOf191 KX.encM (fun _=> rfl) KX.oneM KX.cmpM KX.swoM 147 #[] blk 0 cap d w eg (fun _ _ _ _ x y=> JCO _ _ (Nat.mod_lt _ Dc) (Nat.mod_lt _ Dc) _ _ _) hH hb Om
set_option maxRecDepth 100000
theorem JD4 (n:Nat):Tells Tryz.prog 269 [Je7 2,int 0,int 0,fn0 n] (.tup []):=by
 refine Jc Tryz.func269 rfl rfl fun nx=> ?_
 refine Z ?_
 refine JeX ?_
 refine Z ?_
 exact Jb rfl Rf
theorem JD5 (n:Nat):Tells Tryz.prog 196 [Je7 2,int 0,int 0,int 0,fn0 n] (.tup []):=by
 refine Jc Tryz.func196 rfl rfl fun nx=> ?_
 refine Z ?_
 refine JeX ?_
 refine Z ?_
 refine Ja rfl rfl (JD4 n) Y4 fun nx=> ?_
 refine Z ?_
 exact Jb rfl Rf
theorem Jt4 (n:Nat):Tells Tryz.prog 146 [Je7 2,fn0 n] (.tup []):=by
 refine Jc Tryz.func146 rfl rfl fun nx=> ?_
 refine Z ?_
 refine Ja rfl rfl Jqw Y1 fun nx=> ?_
 refine Z ?_
 refine Ja rfl rfl (JD5 n) Y5 fun nx=> ?_
 refine Z ?_
 exact Jb rfl Rf
def Jbz (P:Plan):List AV:= [u32 (P.dflt:Nat),Ji P.x32,JK 2 Ja2 ent0 (P.ents 0),JK 2 Ja2 ent0 (P.ents 1),JK 2 Ja2 ent0 (P.ents 2),JK 2 Ja2 ent0 (P.ents 3),JK 2 Ja2 ent0 (P.ents 4),JK 2 JhE sub0 (P.subs 0),JK 2 JhE sub0 (P.subs 1)]
def JsP (s0:Nat) (P:Plan) (a other:Nat):Prt→AV
 | .ent e=> .fn (.func 141) [] [.rp [.bp (0,s0) 0], .rp [u32 e.num,J6 e.rules], .rp [int a], .rp [int other]]
 | .sub _ 0=> .fn (.func 143) [] [.rp [.bp (0,s0) 0], .rp (Jbz P), .rp [int other]]
 | .sub _ (_+1)=> .fn (.func 145) [] [.rp [.bp (0,s0) 0], .rp (Jbz P), .rp [int other]]
def Jb1 (s0:Nat) (P:Plan) (a other:Nat) (x:Prt):Nat×AV:=(x.num,JsP s0 P a other x)
def JjD (s0:Nat) (P:Plan) (a other:Nat) (x:Prt):AV:= .ag [u32 x.num,JsP s0 P a other x]
def prt0:Prt:= .sub 0 0
instance:Inhabited Prt:=⟨prt0⟩
theorem JCP (s0:Nat) (P:Plan) (a other:Nat):∀x:Prt,Jcj (JsP s0 P a other x)=true
 | .ent _=> rfl
 | .sub _ 0=> rfl
 | .sub _ (_+1)=> rfl
theorem JsQ {s0:Nat} {P:Plan} {a other:Nat}:∀l:List Prt,JC (l.map (Jb1 s0 P a other))=l.flatMap fun x=> [u32 x.num,JsP s0 P a other x]
 | []=> rfl
 | x::l=> by
   show _::_::JC (l.map _)=_::_::_;rw [JsQ l];rfl
theorem Jt5 (s0 s1 nx:Nat) (m:Mk) (oi:Option Nat) (e:PEnt) (a other:Nat) (ha:a≤4) (h0:oi=none→m.l= []) (hb:∀p∈m.b,p.2≠0) (hl:e.rules.length≤1000000) (hc:∀r∈e.rules,r.conds.length≤1000000∧∀c∈r.conds,cOk c) (hf:(Jd7 (a !=2) other m e.rules).fits):
 ECall Tryz.prog 141 [.rp [.bp (0,s0) 0], .rp [u32 e.num,J6 e.rules], .rp [int a], .rp [int other]] ⟨mkB s0 s1 m oi,mkP m oi,nx,3⟩ (MkQ s0 s1 (Jd7 (a !=2) other m e.rules) (.tup [])):=by
 refine ECall.wk (Jo Tryz.func141 rfl rfl ?_)
 refine Z ?_
 intro c hw
 have hw2:c=(a !=2):=hw.trans (by
  by_cases h:a=2
  ·subst h;rfl
  ·rw [bne_iff_ne.2 h];exact bne_iff_ne.2 Om)
 clear hw
 refine Z ?_
 refine Jg (xs:= [.bp (0,s0) 0,J6 e.rules,Ji (a !=2),int other]) [] [] 3 rfl rfl rfl rfl ⟨Rf,Rf,JN hw2,Y1⟩ (Jt1 s0 s1 nx m oi e.rules _ other h0 hb hl hc hf) Bf Pf rfl fun r h' hq=> ?_
 obtain ⟨oi2,nx2,nn2,rfl,h2,rfl⟩:=hq
 refine Z ?_
 exact Jt rfl ⟨.tup [],⟨mkB s0 s1 _ oi2,mkP _ oi2,nx2,3⟩,Rf,HLe.refl _,oi2,nx2,3,rfl,h2,rfl⟩
theorem JsR (s0 s1 nx:Nat) (m:Mk) (oi:Option Nat) (P:Plan) (other:Nat) (h0:oi=none→m.l= []) (hb:∀p∈m.b,p.2≠0) (hr:risesT (Jbn ((P.subs 0).map (·.num)))) (hl:(P.subs 0).length≤4096) (hf:(Jfc other m (P.subs 0)).fits):
 ECall Tryz.prog 143 [.rp [.bp (0,s0) 0], .rp (Jbz P), .rp [int other]] ⟨mkB s0 s1 m oi,mkP m oi,nx,3⟩ (MkQ s0 s1 (Jfc other m (P.subs 0)) (.tup [])):=by
 refine ECall.wk (Jo Tryz.func143 rfl rfl ?_)
 unfold Jbz
 refine Z ?_
 refine ⟨⟨by decide,by decide,Nat.le_of_ble_eq_true rfl⟩, ?_⟩
 refine Z ?_
 refine Jg (xs:= [.bp (0,s0) 0,JK 2 JhE sub0 (P.subs 0),int other]) [] [] 3 rfl rfl rfl rfl Y3 (JnE s0 s1 nx m oi _ other h0 hb hr hl hf) Bf Pf rfl fun r h' hq=> ?_
 obtain ⟨oi2,nx2,nn2,rfl,h2,rfl⟩:=hq
 refine Z ?_
 exact Jt rfl ⟨.tup [],⟨mkB s0 s1 _ oi2,mkP _ oi2,nx2,3⟩,Rf,HLe.refl _,oi2,nx2,3,rfl,h2,rfl⟩
theorem JsS (s0 s1 nx:Nat) (m:Mk) (oi:Option Nat) (P:Plan) (other:Nat) (h0:oi=none→m.l= []) (hb:∀p∈m.b,p.2≠0) (hr:risesT (Jbn ((P.subs 1).map (·.num)))) (hl:(P.subs 1).length≤4096) (hf:(Jfc other m (P.subs 1)).fits):
 ECall Tryz.prog 145 [.rp [.bp (0,s0) 0], .rp (Jbz P), .rp [int other]] ⟨mkB s0 s1 m oi,mkP m oi,nx,3⟩ (MkQ s0 s1 (Jfc other m (P.subs 1)) (.tup [])):=by
 refine ECall.wk (Jo Tryz.func145 rfl rfl ?_)
 unfold Jbz
 refine Z ?_
 refine ⟨⟨by decide,by decide,Nat.le_of_ble_eq_true rfl⟩, ?_⟩
 refine Z ?_
 refine Jg (xs:= [.bp (0,s0) 0,JK 2 JhE sub0 (P.subs 1),int other]) [] [] 3 rfl rfl rfl rfl Y3 (JnE s0 s1 nx m oi _ other h0 hb hr hl hf) Bf Pf rfl fun r h' hq=> ?_
 obtain ⟨oi2,nx2,nn2,rfl,h2,rfl⟩:=hq
 refine Z ?_
 exact Jt rfl ⟨.tup [],⟨mkB s0 s1 _ oi2,mkP _ oi2,nx2,3⟩,Rf,HLe.refl _,oi2,nx2,3,rfl,h2,rfl⟩
theorem JnF (R D:List (Nat×AV)):JC (R++D)=JC R++JC D:=by unfold JC;rw [List.flatMap_append]
theorem JA4 {D:List (Nat×AV)} {n m:Nat} {f':Nat→AV} {T:TypeId} (hT:Tryz.prog.cellsOf T=2) (h:JD n f'=JC D):OwnLe (.c (JD n f'++List.replicate (m * Tryz.prog.cellsOf T) .any)) (.c (JC D++List.replicate (m * 2) .any)):=by
 rw [hT,h];exact OwnLe.refl _
theorem JCQ {D R:List (Nat×AV)} {n:Nat} {f':Nat→AV} {tl:List AV} {T:TypeId} (hT:Tryz.prog.cellsOf T=2) (h:JD n f'=JC D):OwnLe (.c (Jab (JC R++tl) (R.length * Tryz.prog.cellsOf T) (JD n f'))) (.c (JC (R++D)++tl.drop (D.length * 2))):=by
 have e1:Jab (JC R++tl) (R.length * Tryz.prog.cellsOf T) (JD n f')=JC (R++D)++tl.drop (D.length * 2):=by
  rw [hT,h,show R.length * 2=(JC R).length+0 by rw [JcK];rfl,JfG,JnF,JbE,JcK];simp
 rw [e1];exact OwnLe.refl _
theorem Jy4 {D R:List (Nat×AV)} {n m:Nat} {f':Nat→AV} {tl:List AV} {T:TypeId} (hT:Tryz.prog.cellsOf T=2) (h:JD n f'=JC D):OwnLe (.c ((JC R++tl).take (R.length * Tryz.prog.cellsOf T)++JD n f'++List.replicate (m * Tryz.prog.cellsOf T) .any)) (.c (JC (R++D)++List.replicate (m * 2) .any)):=by
 have e1:(JC R++tl).take (R.length * Tryz.prog.cellsOf T)=JC R:=by
  rw [hT,← JcK,List.take_left]
 rw [e1,hT,h,JnF];exact OwnLe.refl _
theorem Jy5:JbK Tryz.prog 191=true:=by kernel_rfl
theorem gc_prt:Tryz.prog.cellsOf 191=2:=by kernel_rfl
theorem Jy6:Tryz.prog.bytesOf 191=16:=by kernel_rfl
def JEV (F:List (Vl.Id×Own)) (nm:Nat) (pm:List (Vl.Id×Nat)) (row:J9) (r2:AV) (h2:Heap):Prop:=∃bxs bs,bxs.Perm h2.bx∧bs.Sublist bxs∧BxLe bs (F++JbW nm row)∧AVle r2 (JaF nm row)∧h2.pm=pm
theorem JlG {o:Oper} {E:Env} {K:Env→Prop} {Kp:AV→Env→Prop} {s x:Operand} {n:Nat} {f':Nat→AV} {R D:List (Nat×AV)} {md:Option (Nat×Nat×List AV)} {F:List (Vl.Id×Own)} {nm:Nat} {pm:List (Vl.Id×Nat)} (hok:Jbs (R,md)) (hbx:E.h.bx=F++JbW nm (R,md)) (hpm:E.h.pm=pm)
 (ho:o.op= .call { callee:= .builtin .append,args:= #[s,x],argTypes:= #[188,188]}) (hs:E.ev s=JaF nm (R,md)) (hx:∃oj,E.ev x= .os 2 n f' oj) (hD:D.length=n) (hn:n≠0) (hlen:R.length+n≤1000000)
 (hone:JcP n f') (hc:JD n f'=JC D) (JbM:∀c s,JbM nm (F++ [((nm,s), .c c)])=some (s,c)) (Jeg:∀c c' s,Jeg nm c' (F++ [((nm,s), .c c)])=F++ [((nm,s), .c c')])
 (hk:∀id n2 c2 h2 md',Jbs (R++D,md')→JEV F nm pm (R++D,md') (.hs id 0 n2 c2) h2→K (({ E with h:=h2}:Env).set o.dst (.hs id 0 n2 c2))):AOp Tryz.prog o E K Kp:=by
 subst hD
 have hnew:∀ncap,R.length+D.length≤ncap→Jbs (R++D,some (E.h.nx,ncap,List.replicate ((ncap - (R.length+D.length)) * 2) .any)):=fun ncap hge=> by
  refine ⟨by rw [List.length_append];exact hge, ?_⟩;rw [List.length_append,List.length_replicate,← Nat.add_mul];omega
 rcases md with _ | ⟨st,cap,tl⟩
 ·obtain rfl:R= []:=hok;refine JfF (e:=191) (szx:=2) (m:=D.length) ho hs (.inr hx) Kr Jy5 gc_prt.symm hn hone (by rw [Jy6];simp at hlen;omega) (by simp at hlen;omega) fun ncap hge=> ?_;have hnew:=hnew ncap (by simpa using hge);rw [show ([]:List (Nat×AV)).length+D.length=D.length from Nat.zero_add _] at hnew;refine hk _ _ _ _ (some (E.h.nx,ncap,_)) hnew ⟨F++ [((E.h.nn,E.h.nx), .c (JD D.length f'++List.replicate ((ncap - D.length) * Tryz.prog.cellsOf 191) .any))],_, ?_,Sf, ?_, ?_,hpm⟩
  ·show (F++ [_]).Perm (_::E.h.bx);rw [hbx];show (F++ [_]).Perm (_::(F++ []));rw [List.append_nil];exact List.perm_append_comm
  ·show BxLe _ (F++ [((nm,E.h.nx),Own.c (JC ([]++D)++_))]);refine Jkx (JA4 (D:= []++D) gc_prt hc) ?_ F;rfl
  ·show AVle (.hs _ 0 _ _) (.hs (nm,E.h.nx) 0 ([]++D).length ncap);exact AVle.hs_nm rfl
 ·have hok':=hok;obtain ⟨k1,k2⟩:=hok';refine Jgh (e:=191) (szx:=2) (m:=D.length) (n:=R.length) (cap:=cap) (i:=(nm,st)) (cs:=JC R++tl) ho hs (.inr hx) Kr Jy5 (.inr gc_prt.symm) (by rw [hbx];exact JbM _ _) k1 (by rw [gc_prt,List.length_append,JcK];exact k2) hone (fun _=> by rw [Jy6];omega) (fun _=> by omega) (fun h=> absurd h hn) (fun _ hfit=> ?_) (fun _ _ ncap hge=> ?_)
  ·rw [hbx];refine hk _ _ _ _ (some (st,cap,tl.drop (D.length * 2))) ⟨by rw [List.length_append];exact hfit,by rw [List.length_append,List.length_drop,Nat.add_mul];omega⟩ ⟨F++ [((nm,st), .c (Jab (JC R++tl) (R.length * Tryz.prog.cellsOf 191) (JD D.length f')))],_, ?_,Sf, ?_, ?_,hpm⟩
   ·show (F++ [_]).Perm (Vl.Jeg nm _ (F++ [_]));rw [Jeg]
   ·show BxLe _ (F++ [((nm,st),Own.c (JC (R++D)++_))]);refine Jkx (JCQ gc_prt hc) ?_ F;rfl
   ·show AVle (.hs _ 0 _ _) (.hs (nm,st) 0 (R++D).length cap);rw [List.length_append];exact Rf
  ·refine hk _ _ _ _ (some (E.h.nx,ncap,_)) (hnew ncap hge) ⟨F++ [((E.h.nn,E.h.nx), .c ((JC R++tl).take (R.length * Tryz.prog.cellsOf 191)++JD D.length f'++List.replicate ((ncap - (R.length+D.length)) * Tryz.prog.cellsOf 191) .any)),((nm,st), .c (JC R++tl))],F++ [((E.h.nn,E.h.nx), .c _)], ?_,List.Sublist.append_left (.cons_cons _ (List.nil_sublist _)) _, ?_, ?_,hpm⟩
   ·show (F++ [_,_]).Perm (_::E.h.bx);rw [hbx];exact List.perm_middle
   ·show BxLe _ (F++ [((nm,E.h.nx),Own.c (JC (R++D)++_))]);refine Jkx (Jy4 gc_prt hc) ?_ F;rfl
   ·show AVle (.hs _ 0 _ _) (.hs (nm,E.h.nx) 0 (R++D).length ncap);rw [List.length_append];exact AVle.hs_nm rfl
theorem JwN {s0:Nat} {P:Plan} {a other:Nat} {D:List (Nat×AV)} (hp:D.Perm ((partsR P a).map (Jb1 s0 P a other))) (hs:D.Pairwise fun x y=> x.1≤y.1) (hN:((partsP P a).map Prt.num).Pairwise (· < ·)):D=(partsP P a).map (Jb1 s0 P a other):=by
 have hm:(partsP P a).Perm (partsR P a):=List.mergeSort_perm _ _
 have hN2:=List.pairwise_map.1 hN
 refine Jgo (key:=(·.1)) (hp.trans (hm.symm.map _)) hs ?_ ?_
 ·rw [List.pairwise_map];exact hN2.imp fun h=> Nat.le_of_lt h
 ·refine ((hp.trans (hm.symm.map _)).map (·.1)).nodup_iff.2 ?_;rw [List.map_map];exact hN.imp fun h=> Nat.ne_of_lt h
theorem JwO {P:Plan} {a:Nat} (h:(P.ents a).length≤1000):(partsR P a).length≤1002:=by
 unfold partsR
 rw [List.length_append,List.length_map]
 split
 ·show _+2≤_;omega
 ·show _+0≤_;omega
theorem JCR {P:Plan} {a:Nat} (h:partsR P a= []):partsP P a= []:=by
 unfold partsP;rw [h];exact List.mergeSort_nil
theorem Jt6 {o:Oper} {E:Env} {p:Operand} {a:Nat} {P:Plan} (ho:o.op= .load 35 p) (hp:E.ev p= .rp (((Jbz P).drop 2).drop (Int.toNat (a:Int) * Tryz.prog.cellsOf 35))) (h:a < 5):Vl.Yields Tryz.prog o E (JK 2 Ja2 ent0 (P.ents a)):=by
 rcases (by omega:a=0∨a=1∨a=2∨a=3∨a=4) with rfl | rfl | rfl | rfl | rfl
 all_goals exact JbA (C:=none) (by rw [ho];show JdG _ _ _ _=_;rw [hp];rfl) trivial
theorem Jt7 (s0 s1 nx:Nat) (m:Mk) (oi:Option Nat) (P:Plan) (a other:Nat) (ha:a≤4) (hl:(P.ents a).length≤1000) (hk:∀x∈partsR P a,x.num < 4294967296) (hN:((partsP P a).map Prt.num).Pairwise (· < ·)):
 ECall Tryz.prog 81 [.bp (0,s0) 0,Jct P,int a,int other] ⟨mkB s0 s1 m oi,mkP m oi,nx,3⟩ (fun r h'=> r=JK 2 (JjD s0 P a other) prt0 (partsP P a)∧∃nx' nn',h'=⟨mkB s0 s1 m oi,mkP m oi,nx',nn'⟩):=by
 refine ECall.wk (Jo Tryz.func81 rfl rfl ?_)
 unfold Jct
 (refine Jy ?_;refine JQ ?_;refine Jy ?_;refine JQ ?_;refine Jy ?_)
 refine Jbl (n:=41) (nx:=nx+4) (nn:=3) (bx:=mkB s0 s1 m oi) (pm:=mkP m oi) (L:= [(4, .rp [.bp (0,s0) 0]),(5, .rp (Jbz P)),(6, .rp [int a]),(7, .rp [int other]),(9, .os 0 0 (fun _=> .any) none)]) (df:=some []) [((6,nx+3), .c [int other]),((5,nx+2), .c [int a]),((4,nx+1), .c (Jbz P)),((3,nx), .c [.bp (0,s0) 0])] rfl rfl rfl (List.Perm.refl _) Sf ⟨Frz.bp (i:=(3,nx)) (.tail _ (.tail _ (.tail _ (.head _)))) rfl,Frz.bp (.tail _ (.tail _ (.head _))) rfl,Frz.bp (.tail _ (.head _)) rfl,Frz.bp (.head _) rfl,Frz.refl _,Tt⟩ ?_
 have hP:∀i,i≤(P.ents a).length→(((P.ents a).take i).map fun e=> Jb1 s0 P a other (.ent e)).length=i:=fun i hi=> by rw [List.length_map,List.length_take];omega
 unfold Jbz
 refine Jy ?_
 refine JF (fun n=> match n with | 2=> true | _=> false) 6 ?_
 refine Z ?_
 refine ⟨⟨Om,Om, ?_⟩, ?_⟩
 ·rw [show Tryz.prog.cellsOf 35=1 by kernel_rfl,Nat.mul_one];show Int.toNat (a:Int)≤7;omega
 refine Z ?_
 refine AOp.of_yields (Jt6 rfl rfl Om) ?_
 refine Z ?_
 refine Jbj (fun y:Option (Nat×Nat×List AV)×Nat=> mk 41 [(4, .rp [.bp (0,s0) 0]),(5, .rp (Jbz P)),(6, .rp [int a]),(7, .rp [int other]),(9,JaF 3 ((P.ents a).map fun e=> Jb1 s0 P a other (.ent e),y.1))] ⟨mkB s0 s1 m oi++JbW 3 ((P.ents a).map fun e=> Jb1 s0 P a other (.ent e),y.1),mkP m oi,y.2,4⟩) (fun y=> Jbs ((P.ents a).map fun e=> Jb1 s0 P a other (.ent e),y.1)) ?_ ?_
 ·refine Js (fun y:Nat×Option (Nat×Nat×List AV)×Nat=> mk 41 [(4, .rp [.bp (0,s0) 0]),(5, .rp (Jbz P)),(6, .rp [int a]),(7, .rp [int other]),(9,JaF 3 (((P.ents a).take y.1).map fun e=> Jb1 s0 P a other (.ent e),y.2.1)),(15,JK 2 Ja2 ent0 (P.ents a)),(16,int (P.ents a).length),(17,int y.1)] ⟨mkB s0 s1 m oi++JbW 3 (((P.ents a).take y.1).map fun e=> Jb1 s0 P a other (.ent e),y.2.1),mkP m oi,y.2.2,4⟩) (fun y=> y.1≤(P.ents a).length∧Jbs (((P.ents a).take y.1).map fun e=> Jb1 s0 P a other (.ent e),y.2.1)) (fun y=> (P.ents a).length - y.1) ?_ ?_
  ·exact ⟨(0,none,nx+4),⟨Nat.zero_le _,rfl⟩,Et rfl rfl Bf Pf Y8⟩
  ·rintro ⟨i,md,nx2⟩ ⟨k1,k2⟩;dsimp only at k1 k2;refine Z ?_;intro c g;cases c
   ·have g:=Jw g;dsimp only at g;obtain rfl:i=(P.ents a).length:=(by omega);rw [List.take_length] at *
    refine Z ?_;exact ⟨(md,nx2),k2,Et rfl rfl Bf Pf Y5⟩
   ·have g:=Ju g;dsimp only at g;have hi:i < (P.ents a).length:=(by omega);have hsn:((P.ents a).take (i+1)).map (fun e=> Jb1 s0 P a other (.ent e))=((P.ents a).take i).map (fun e=> Jb1 s0 P a other (.ent e))++ [Jb1 s0 P a other (.ent ((P.ents a).getD i ent0))]:=(by rw [JaP ent0 hi,List.map_append];rfl);refine Z ?_;refine ⟨Bd, ?_⟩;refine Jy ?_;refine Jbl (n:=41) (nx:=nx2+1) (nn:=4) (bx:=mkB s0 s1 m oi++JbW 3 (((P.ents a).take i).map fun e=> Jb1 s0 P a other (.ent e),md)) (pm:=mkP m oi) (L:= [(4, .rp [.bp (0,s0) 0]),(5, .rp (Jbz P)),(6, .rp [int a]),(7, .rp [int other]),(9,JaF 3 (((P.ents a).take i).map fun e=> Jb1 s0 P a other (.ent e),md)),(11, .rp [u32 ((P.ents a).getD i ent0).num,J6 ((P.ents a).getD i ent0).rules]),(15,JK 2 Ja2 ent0 (P.ents a)),(16,int (P.ents a).length),(17,int i)]) (df:=some []) [((4,nx2), .c [u32 ((P.ents a).getD i ent0).num,J6 ((P.ents a).getD i ent0).rules])] rfl rfl rfl (List.Perm.refl _) Sf ⟨Frz.refl _,Frz.refl _,Frz.refl _,Frz.refl _,Frz.refl _,Frz.bp (.head _) rfl,Frz.refl _,Frz.refl _,Frz.refl _,Tt⟩ ?_;rcases md with _ | ⟨st,cap,tl⟩
    all_goals
     refine Jy ?_;refine JF (fun n=> match n with | 1=> true | _=> false) 8 ?_;refine Z ?_;refine JlG (s:= .tmp 21) (x:= .tmp 26) (n:=1) (R:=((P.ents a).take i).map fun e=> Jb1 s0 P a other (.ent e)) (D:= [Jb1 s0 P a other (.ent ((P.ents a).getD i ent0))]) (F:=mkB s0 s1 m oi) (nm:=3) (pm:=mkP m oi) k2 rfl rfl rfl rfl ⟨_,rfl⟩ rfl Dc (by rw [hP i k1];omega) (JM rfl) rfl (fun _ _=> rfl) (fun _ _ _=> rfl) fun id2 n2 c2 h2 md2 hok2 hput=> ?_;refine Z ?_;obtain ⟨bxs,bs,p1,p2,p3,p4,p5⟩:=hput;refine back (i+1,md2,h2.nx) ⟨Dm, ?_⟩ Dm ?_
     ·dsimp only;rw [hsn];exact hok2
     ·dsimp only;rw [hsn];exact JaK bxs bs (mkP m oi) rfl rfl p1 p2 (by show (mkP m oi).Sublist h2.pm;rw [p5];exact Sf) p3 Pf ⟨Rf,Rf,Rf,Rf,p4,Rf,Rf,Jf (Jx Om),Tt⟩
 ·rintro ⟨md,nx2⟩ hrow;dsimp only at hrow;rcases md with _ | ⟨st,cap,tl⟩
  all_goals
   refine Z ?_;intro c hc;refine JmL (fun y:Option (Nat×Nat×List AV)×Nat=> mk 41 [(9,JaF 3 ((partsR P a).map (Jb1 s0 P a other),y.1))] ⟨mkB s0 s1 m oi++JbW 3 ((partsR P a).map (Jb1 s0 P a other),y.1),mkP m oi,y.2,4⟩) (fun y=> Jbs ((partsR P a).map (Jb1 s0 P a other),y.1)) ?_ ?_
   ·cases c with
    | false=>
      have h2:a≠2:=fun h=> by subst h;cases hc
      have hR:(partsR P a).map (Jb1 s0 P a other)=(P.ents a).map fun e=> Jb1 s0 P a other (.ent e):=by
       unfold partsR;rw [if_neg h2,List.append_nil,List.map_map];rfl
      rw [hR];refine Z ?_;exact ⟨(_,nx2),hrow,Et rfl rfl Bf Pf Y1⟩
    | true=>
      have h2:a=2:=by
       have:=eq_of_beq hc.symm;omega
      have hR:(partsR P a).map (Jb1 s0 P a other)=(P.ents a).map (fun e=> Jb1 s0 P a other (.ent e))++ [Jb1 s0 P a other (.sub 102 0),Jb1 s0 P a other (.sub 117 1)]:=by
       unfold partsR;rw [if_pos h2,List.map_append,List.map_map];rfl
      rw [hR];refine Jy ?_;refine JF (fun n=> match n with | 1=> true | _=> false) 8 ?_;refine Z ?_;refine JlG (s:= .tmp 31) (x:= .tmp 36) (n:=2) (R:=(P.ents a).map fun e=> Jb1 s0 P a other (.ent e)) (D:= [Jb1 s0 P a other (.sub 102 0),Jb1 s0 P a other (.sub 117 1)]) (F:=mkB s0 s1 m oi) (nm:=3) (pm:=mkP m oi) hrow rfl rfl rfl rfl ⟨_,rfl⟩ rfl Dc (by rw [List.length_map];omega) (fun k hk=> by match k,hk with | 0,_=> rfl | 1,_=> rfl) rfl (fun _ _=> rfl) (fun _ _ _=> rfl) fun id2 n2 c2 h3 md2 hok2 hput=> ?_;refine Z ?_;obtain ⟨bxs,bs,p1,p2,p3,p4,p5⟩:=hput;exact ⟨(md2,h3.nx),hok2,JaK bxs bs (mkP m oi) rfl rfl p1 p2 (by show (mkP m oi).Sublist h3.pm;rw [p5];exact Sf) p3 Pf ⟨p4,Tt⟩⟩
   ·rintro ⟨md3,nx3⟩ hrow3;dsimp only at hrow3;rcases md3 with _ | ⟨st3,cap3,tl3⟩
    ·have h0:partsR P a= []:=List.map_eq_nil_iff.1 hrow3;refine Z ?_;refine Ja rfl rfl (Jt4 147) ⟨AVle.os_nil,Y1⟩ fun nx4=> ?_;refine Z ?_;exact Jt rfl ⟨JK 2 (JjD s0 P a other) prt0 (partsP P a),⟨mkB s0 s1 m oi,mkP m oi,nx4,4⟩,by rw [JCR h0];exact AVle.os_sl0,Jr _ _ rfl (List.sublist_append_left _ _) Sf Bf Pf,rfl,nx4,4,rfl⟩
    ·refine Z ?_;refine Jg (xs:= [.hs (3,st3) 0 ((partsR P a).map (Jb1 s0 P a other)).length cap3, .fn (.func 147) [] []]) (mkB s0 s1 m oi) (mkP m oi) 4 rfl rfl rfl (List.append_nil _).symm Y2 (Jqh (D:=(partsR P a).map (Jb1 s0 P a other)) (tl:=tl3) (nm:=3) (s:=st3) (cap:=cap3) (nx:=nx3) (nn:=4) (fun x hx=> by obtain ⟨z,_,rfl⟩:=List.mem_map.1 hx;exact JCP s0 P a other z) (fun x hx=> by obtain ⟨z,hz,rfl⟩:=List.mem_map.1 hx;exact hk z hz) (by have:=JwO hl;rw [List.length_map];omega)) Bf trivial rfl fun r h' hq=> ?_;obtain ⟨rfl,cs',⟨D,hp1,hp2,rfl⟩,rfl⟩:=hq;have hD:=JwN hp1 hp2 hN;subst hD;refine Jy ?_;refine Jbl (n:=41) (nx:=nx3) (nn:=4) (bx:=mkB s0 s1 m oi) (pm:=mkP m oi) (L:= [(9,JK 2 (JjD s0 P a other) prt0 (partsP P a))]) (df:=some []) [((3,st3), .c (JC ((partsP P a).map (Jb1 s0 P a other))++tl3))] rfl rfl rfl List.perm_append_comm (List.sublist_append_left _ _) ⟨?_,Tt⟩ ?_
     ·exact Jhr (E:=fun x:Prt=> [u32 x.num,JsP s0 P a other x]) (fun _=> rfl) (fun _=> rfl) (by rw [List.length_map];exact (List.mergeSort_perm _ _).length_eq) (by unfold Jas;rw [← JsQ];exact .head _) hrow3.1
     refine Z ?_;exact Jt rfl ⟨_,⟨mkB s0 s1 m oi,mkP m oi,nx3,4⟩,Rf,HLe.refl _,rfl,nx3,4,rfl⟩
end W
end Go.Proofs

namespace Go.Proofs.W
open Go.Vl
set_option maxRecDepth 100000
def Jg3 (Q:List (Nat×Nat)→Prop):Prop:=∀(m:Mk) (c:Nat),Q m.b→Q (JB m c).2.b
variable {Q:List (Nat×Nat)→Prop}
theorem JCS (hQ:Jg3 Q) {w:Bool} {m:Mk} {r:PRul} (h:Q m.b):Q (JaV w m r).b:=
 hQ (J7 w (m.n+1) (Jz m) r.conds) r.code (by rw [Jml];exact h)
theorem Jvc (hQ:Jg3 Q) {w:Bool}:∀(l:List PRul) (m:Mk),Q m.b→Q (l.foldl (JaV w) m).b
 | [],m,h=> h
 | r::l,m,h=> Jvc hQ l _ (JCS hQ h)
theorem JpS (hQ:Jg3 Q):∀(l:List PSub) (m:Mk),Q m.b→Q (Jad m l).2.b
 | [],m,h=> h
 | s::l,m,h=> JpS hQ l _ (hQ _ s.code h)
theorem JsT {marks:List Nat} {o:Nat}:∀(N:Nat) (l:List Nat) (pl:Nat) (m:Mk),l.length≤N→(JbG marks o l pl m).b=m.b
 | 0,l,pl,m,h=> by rw [JbG,dif_pos Om];rfl
 | N+1,l,pl,m,h=> by
   rw [JbG];split
   ·rfl
   ·rw [JsT N _ _ _ (by simp;omega)];show (JbG marks o (l.take (l.length / 2)) pl _).b=_;rw [JsT N _ _ _ (by simp;omega)];rfl
theorem Jmo {marks:List Nat} {o:Nat} {l:List Nat} {m:Mk}:(JaA marks o l m).b=m.b:=by
 unfold JaA
 split
 ·rfl
 ·exact JsT _ _ _ _ (Nat.le_refl _)
theorem Jvd (hQ:Jg3 Q) {P:Plan} {a o:Nat} {m:Mk} {x:Prt} (h:Q m.b):Q (Jdx P a o m x).b:=by
 cases x with
 | ent e=> exact Jvc hQ e.rules m h
 | sub n k=>
   have h2:Q (Jad (JE m [⟨0,0x20,16,0,0⟩]) (P.subs k)).2.b:=JpS hQ _ _ h;show Q (JaA _ _ _ _).b;rw [Jmo];exact h2
theorem JsU {β:Type} {f:Mk→β→Mk} (h:∀m x,Q m.b→Q (f m x).b):∀(l:List (Nat×β)) (m:Mk),Q m.b→Q (JbY f m l).b
 | [],m,hm=> hm
 | x::l,m,hm=> JsU h l _ (h _ _ hm)
theorem JhN (hQ:Jg3 Q) {P:Plan} {a:Nat} {m:Mk} (h:Q m.b):Q (Ja6 P m a).b:=by
 refine JsU (fun m x hm=> Jvd hQ hm) _ _ ?_
 show Q (JaA _ _ _ _).b
 rw [Jmo]
 exact hQ _ P.dflt h
theorem JD6 (hQ:Jg3 Q) {P:Plan} {m:Mk} (h:Q m.b):Q (JeA P m).b:=by
 have h1:Q (JE (JB m P.dflt).2 [⟨0,0x15,4294967295,(JB m P.dflt).1,0⟩]).b:=hQ _ P.dflt h
 unfold JeA
 dsimp only
 split
 ·exact JhN hQ (m:=J3 (Ja6 P (JE (Jz _) _) 0) _) (JhN hQ (m:=JE (Jz _) _) h1)
 ·exact JhN hQ (m:=JE (JB _ 2147483648).2 _) (hQ _ 2147483648 h1)
theorem Jy7 (hQ:Jg3 Q) {P:Plan} {m:Mk} {a:Nat} (h:Q m.b):Q (JbN P m a).b:=by
 unfold JbN
 split
 ·exact JD6 hQ (m:=JE m _) h
 ·exact JhN hQ (m:=JE m _) h
def b0 (m:Mk):Prop:=∀p∈m.b,p.2≠0
theorem Jow:Jg3 fun b=> ∀p∈b,p.2≠0:=fun _ _ h=> Jhd h
theorem JCT {P:Plan} {a o:Nat} {m:Mk} {x:Prt} (h:b0 m):b0 (Jdx P a o m x):=Jvd Jow h
theorem JA5 {P:Plan} {a:Nat} {m:Mk} (h:b0 m):b0 (Ja6 P m a):=JhN Jow h
theorem JA6:Jg3 fun b=> (b.map (·.1)).Nodup:=fun m c h=> by
 unfold JB
 cases hl:Jcy m.b c with
 | some k=> exact h
 | none=>
   show ((m.b++ [_]).map _).Nodup;rw [List.map_append,List.nodup_append];refine ⟨h,List.nodup_cons.2 ⟨List.not_mem_nil,List.nodup_nil⟩,fun x hx y hy e=> ?_⟩;obtain ⟨p,hp,rfl⟩:=List.mem_map.1 hx;obtain rfl:=List.mem_singleton.1 hy;unfold Jcy at hl;have:=List.find?_eq_none.1 (Option.map_eq_none_iff.1 hl) p hp;exact this (beq_iff_eq.2 e)
theorem JpT:∀ {b:List (Nat×Nat)} {p:Nat×Nat},(b.map (·.1)).Nodup→p∈b→Jcy b p.1=some p.2
 | [],p,_,h=> by cases h
 | q::b,p,hn,h=> by
   obtain ⟨n1,n2⟩:=List.nodup_cons.1 hn;unfold Jcy;rw [List.find?_cons];rcases List.mem_cons.1 h with rfl | h
   ·rw [beq_self_eq_true];rfl
   ·have:(q.1 ==p.1)=false:=beq_eq_false_iff_ne.2 fun e=> n1 (List.mem_map.2 ⟨p,h,e.symm⟩);rw [this];exact JpT n2 h
theorem Jk7 {β:Type} {f:Mk→β→Mk}:∀(a b:List (Nat×β)) (m:Mk),JbY f m (a++b)=JbY f (JbY f m a) b
 | [],b,m=> rfl
 | x::a,b,m=> Jk7 a b _
theorem JlH {β:Type} {f:Mk→β→Mk} (h:∀(m:Mk) (x:β),m.le (f m x)) {l:List (Nat×β)} {m:Mk} (i:Nat):(JbY f m (l.take i)).le (JbY f m l):=by
 have e:=Jk7 (f:=f) (l.take i) (l.drop i) m
 rw [List.take_append_drop] at e
 rw [e]
 exact JmN h _ _
theorem Jmp {l:List Nat} (h:l.Pairwise (· < ·)):risesT (Jbn l):=fun i h1 h2=> by
 rw [JcI] at h2
 rw [Jgb,Jgb]
 have:=List.pairwise_iff_getElem.1 h (i - 1) i Om h2 Om
 simp only [List.getD_eq_getElem?_getD]
 rw [List.getElem?_eq_getElem (show i - 1 < l.length by omega),List.getElem?_eq_getElem h2]
 exact Int.ofNat_lt.2 this
structure PlanW (P:Plan):Prop where
 s:PlanS P
 conds:∀a,∀e∈P.ents a,∀r∈e.rules,∀c∈r.conds,cOk c
 up:∀a,a≤4→((partsP P a).map Prt.num).Pairwise (· < ·)
 num:∀a,a≤4→∀x∈partsR P a,x.num < 4294967296
 sub:∀k,((P.subs k).map (·.num)).Pairwise (· < ·)
theorem Jmq {P:Plan} {a:Nat} {x:Prt} (h:x∈partsP P a):(∃e,x= .ent e∧e∈P.ents a)∨x= .sub 102 0∨x= .sub 117 1:=by
 have h:=(List.mergeSort_perm (partsR P a) _).mem_iff.1 h
 unfold partsR at h
 rcases List.mem_append.1 h with h | h
 ·obtain ⟨e,he,rfl⟩:=List.mem_map.1 h;exact .inl ⟨e,rfl,he⟩
 ·split at h
  ·rcases List.mem_cons.1 h with rfl | h
   ·exact .inr (.inl rfl)
   ·exact .inr (.inr (List.mem_singleton.1 h))
  ·cases h
def JcW (n k:Nat):List Nat:=(List.range k).map fun i=> n+1+i
theorem Jhe (n k:Nat):(JcW n k).length=k:=by unfold JcW;simp
theorem JA7 (n k:Nat):JcW n (k+1)=JcW n k++ [n+k+1]:=by
 unfold JcW
 rw [List.range_succ,List.map_append,List.map_singleton,Nat.add_right_comm n 1 k]
def JD7:Nat×Prt:=(0,prt0)
theorem JCU {M:List Nat} {l:List Prt} {i:Nat} (h1:i < M.length) (h2:i < l.length):(M.zip l).getD i JD7=(M.getD i 0,l.getD i prt0):=by
 have h3:i < (M.zip l).length:=by rw [List.length_zip];omega
 simp only [List.getD_eq_getElem?_getD]
 rw [List.getElem?_eq_getElem h1,List.getElem?_eq_getElem h2,List.getElem?_eq_getElem h3,List.getElem_zip];rfl
theorem Jy8 {P:Plan} {a o:Nat} {m:Mk} {M:List Nat} {l:List Prt} {i:Nat} (h1:i < M.length) (h2:i < l.length):Jdy P a o m ((M.zip l).take (i+1))=Jdx P a o (J3 (Jdy P a o m ((M.zip l).take i)) (M.getD i 0)) (l.getD i prt0):=by
 unfold Jdy
 rw [JaP JD7 (by rw [List.length_zip];omega),Jk7,JCU h1 h2];rfl
theorem JA8 {P:Plan} (hP:PlanW P) {a other s0 s1 nx:Nat} {m:Mk} {oi:Option Nat} {x:Prt} (ha:a≤4) (hx:x∈partsP P a) (h0:oi=none→m.l= []) (hb:b0 m) (hf:(Jdx P a other m x).fits):
 (∃e,x= .ent e∧ECall Tryz.prog 141 [.rp [.bp (0,s0) 0], .rp [u32 e.num,J6 e.rules], .rp [int a], .rp [int other]] ⟨mkB s0 s1 m oi,mkP m oi,nx,3⟩ (MkQ s0 s1 (Jdx P a other m x) (.tup [])))∨
 (x= .sub 102 0∧ECall Tryz.prog 143 [.rp [.bp (0,s0) 0], .rp (Jbz P), .rp [int other]] ⟨mkB s0 s1 m oi,mkP m oi,nx,3⟩ (MkQ s0 s1 (Jdx P a other m x) (.tup [])))∨
 (x= .sub 117 1∧ECall Tryz.prog 145 [.rp [.bp (0,s0) 0], .rp (Jbz P), .rp [int other]] ⟨mkB s0 s1 m oi,mkP m oi,nx,3⟩ (MkQ s0 s1 (Jdx P a other m x) (.tup []))):=by
 rcases Jmq hx with ⟨e,rfl,he⟩ | rfl | rfl
 ·have h1:=hP.s.rules a e he;exact .inl ⟨e,rfl,Jt5 s0 s1 nx m oi e a other ha h0 hb Om (fun r hr=> ⟨by have:=hP.s.conds a e he r hr;omega,hP.conds a e he r hr⟩) hf⟩
 ·have h1:=hP.s.subs 0;exact .inr (.inl ⟨rfl,JsR s0 s1 nx m oi P other h0 hb (Jmp (hP.sub 0)) Om hf⟩)
 ·have h1:=hP.s.subs 1;exact .inr (.inr ⟨rfl,JsS s0 s1 nx m oi P other h0 hb (Jmp (hP.sub 1)) Om hf⟩)
theorem Jgp (s0 s1 nx:Nat) (m:Mk) (oi:Option Nat) (P:Plan) (hP:PlanW P) (a:Nat) (ha:a≤4) (h0:oi=none→m.l= []) (hb:b0 m) (hf:(Ja6 P m a).fits):
 ECall Tryz.prog 39 [.bp (0,s0) 0,Jct P,int a] ⟨mkB s0 s1 m oi,mkP m oi,nx,3⟩ (MkQ s0 s1 (Ja6 P m a) (.tup [])):=by
 have hlen:=JpF hP.s a
 refine ECall.wk (Jo Tryz.func39 rfl rfl ?_)
 unfold Ja6 at hf⊢
 dsimp only at hf⊢
 have hS:=((Juu P a (JB m P.dflt).1 (((List.range (partsP P a).length).map fun i=> (JB m P.dflt).2.n+1+i).zip (partsP P a)) (JaA ((List.range (partsP P a).length).map fun i=> (JB m P.dflt).2.n+1+i) (JB m P.dflt).1 ((partsP P a).map Prt.num) ⟨(JB m P.dflt).2.l,(JB m P.dflt).2.n+(partsP P a).length,(JB m P.dflt).2.b⟩))).fits hf
 have hM:=(JhT _ _ _ _).fits hS
 have hG:=(Juv _ _).fits hM
 have hbG:b0 (JB m P.dflt).2:=Jhd hb
 generalize hg : JB m P.dflt = G at *
 change _ at hf
 unfold Jct
 refine Z ?_
 refine Jg (xs:= [.bp (0,s0) 0,u32 P.dflt]) [((3,nx), .c (Jbz P))] [] 4 rfl rfl rfl rfl Y2 (Je4 s0 s1 (nx+1) m oi P.dflt h0 hb (by rw [hg];exact hG)) Bf Pf rfl fun r h' hq=> ?_
 rw [hg] at hq
 obtain ⟨oi2,nx2,nn2,rfl,h2,rfl⟩:=hq
 unfold Jbz
 refine Z ?_
 refine Jg (xs:= [.bp (0,s0) 0,Jct P,int a,int G.1]) [((3,nx), .c (Jbz P))] [] 4 rfl rfl rfl rfl Y4 (Jt7 s0 s1 nx2 G.2 oi2 P a G.1 ha (Nat.le_trans (hP.s.ents a) Dc) (hP.num a ha) (hP.up a ha)) Bf Pf rfl fun r h' hq=> ?_
 obtain ⟨rfl,nx3,nn3,rfl⟩:=hq
 unfold Jbz
 refine Z ?_
 refine Jbj (fun y:Option Nat×Nat=> mk 62 [(0, .bp (0,s0) 0),(6,int G.1),(7,JK 2 (JjD s0 P a G.1) prt0 (partsP P a)),(8,JgL (Jbn ((partsP P a).map Prt.num))),(9,JjA (JcW G.2.n (partsP P a).length))] ⟨mkB s0 s1 ⟨G.2.l,G.2.n+(partsP P a).length,G.2.b⟩ y.1,mkP ⟨G.2.l,G.2.n+(partsP P a).length,G.2.b⟩ y.1,y.2,3⟩) (fun y=> y.1=none→G.2.l= []) ?_ ?_
 ·refine Js (fun y:Nat×Option Nat×Option Nat×Option Nat×Nat=> mk 62 [(0, .bp (0,s0) 0),(6,int G.1),(7,JK 2 (JjD s0 P a G.1) prt0 (partsP P a)),(8, .os 1 y.1 (Jmm (((partsP P a).take y.1).map Prt.num)) (nmN 3 y.2.1)),(9, .os 1 y.1 (Jmn (JcW G.2.n y.1)) (nmN 4 y.2.2.1)),(23,JK 2 (JjD s0 P a G.1) prt0 (partsP P a)),(24,int (partsP P a).length),(25,int y.1)] ⟨mkB s0 s1 ⟨G.2.l,G.2.n+y.1,G.2.b⟩ y.2.2.2.1,Jam (nmN 3 y.2.1) (y.1 * 1)++(Jam (nmN 4 y.2.2.1) (y.1 * 1)++mkP ⟨G.2.l,G.2.n+y.1,G.2.b⟩ y.2.2.2.1),y.2.2.2.2,5⟩) (fun y=> y.1≤(partsP P a).length∧(y.2.2.2.1=none→G.2.l= [])) (fun y=> (partsP P a).length - y.1) ?_ ?_
  ·exact ⟨(0,none,none,oi2,nx3),⟨Nat.zero_le _,h2⟩,Je _ _ rfl rfl (.cons _ Sf) Sf Bf Pf ⟨Rf,Rf,Rf,AVle.os_nil,AVle.os_nil,Y3⟩⟩
  ·rintro ⟨i,oa,ob,o4,nx4⟩ ⟨k1,k2⟩;dsimp only at k1 k2;refine Z ?_;intro c g;cases c
   ·have g:=Jw g;dsimp only at g;obtain rfl:i=(partsP P a).length:=(by omega);rw [List.take_length] at *
    refine Z ?_;exact ⟨(o4,nx4),k2,Je _ _ rfl rfl Sf (by rw [← List.append_assoc];exact List.sublist_append_right _ _) Bf Pf ⟨Rf,Rf,Rf,Jva (by rw [List.length_map]),Jvb (Jhe _ _).symm,Tt⟩⟩
   ·have g:=Ju g;dsimp only at g;have hi:i < (partsP P a).length:=(by omega);have hmem:(partsP P a).getD i prt0∈partsP P a:=JkD hi;have hnt:((partsP P a).take (i+1)).map Prt.num=((partsP P a).take i).map Prt.num++ [((partsP P a).getD i prt0).num]:=(by rw [JaP prt0 hi,List.map_append];rfl);have hnl:i=(((partsP P a).take i).map Prt.num).length:=(by rw [List.length_map,List.length_take];omega);have hMi:(⟨G.2.l,G.2.n+(i+1),G.2.b⟩:Mk).fits:=(show (⟨G.2.l,G.2.n+(i+1),G.2.b⟩:Mk).le ⟨G.2.l,G.2.n+(partsP P a).length,G.2.b⟩ from ⟨Nat.le_refl _,Dm⟩).fits hM;refine Z ?_;refine ⟨Bd, ?_⟩;change Jcl _ (AV.rp (JjD s0 P a G.1 ((partsP P a).getD i prt0)).cells) _;rcases Jmq hmem with ⟨e,hx,_⟩ | hx | hx
    all_goals
     rw [hx] at hnt⊢;refine Jy ?_;refine JF (fun n=> match n with | 2=> true | 7=> true | _=> false) 12 ?_;refine Z ?_;refine Jee (e:=28) (c:=1) (n:=i) (oi:=nmN 3 oa) (sz:=1) (f:=Jmm (((partsP P a).take i).map Prt.num)) rfl rfl (.inr ⟨_,rfl⟩) Kr Kr JwL (.inr rfl) JwL rfl (JM rfl) (by rw [JD2];omega) Om ?_;refine Z ?_;refine Jg (xs:= [.bp (0,s0) 0]) [_] (_::Jam (nmN 4 ob) (i * 1)) 7 rfl rfl rfl rfl Y1 (Jd5 s0 s1 (nx4+1+1) ⟨G.2.l,G.2.n+i,G.2.b⟩ o4 k2 hMi) Bf Pf rfl fun r h' hq=> ?_;obtain ⟨o5,nx5,nn5,rfl,h5,rfl⟩:=hq;refine Z ?_;refine JlF (e:=3) (c:=1) (n:=i) (oi:=nmN 4 ob) (sz:=1) (f:=Jmn (JcW G.2.n i)) rfl rfl (.inr ⟨_,rfl⟩) Kr Kr JwM (.inr rfl) JwM rfl (fun _ h=> by cases ob with | none=> cases h | some=> cases h;rfl) (JM rfl) (by rw [JD3];omega) Om ?_;refine Z ?_;refine back (i+1,some (nx4+1),some nx5,o5,nx5+1) ⟨Dm,h5⟩ Dm ?_;dsimp only;rw [hnt,JA7];exact JpR (_::mkB s0 s1 _ o5) (mkB s0 s1 _ o5) (_::_::mkP _ o5) (_::_::mkP _ o5) rfl rfl (List.Perm.refl _) (List.Perm.swap _ _ _) (.cons _ Sf) Sf Bf ⟨rfl,rfl,rfl,rfl,Pf⟩ ⟨Rf,Rf,Rf,JsN hnl rfl rfl,JsO (Jhe _ _).symm rfl rfl,Rf,Rf,Jf (Jx Om),Tt⟩
 ·rintro ⟨o3,nx4⟩ h3;dsimp only at h3;have hmks:((List.range (partsP P a).length).map fun i=> G.2.n+1+i)=JcW G.2.n (partsP P a).length:=rfl;rw [hmks] at hf hS⊢;refine Z ?_;refine Jg (xs:= [.bp (0,s0) 0,JgL (Jbn ((partsP P a).map Prt.num)),JjA (JcW G.2.n (partsP P a).length),int G.1]) [] [] 3 rfl rfl rfl rfl Y4 (JkC s0 s1 nx4 ⟨G.2.l,G.2.n+(partsP P a).length,G.2.b⟩ o3 _ _ _ h3 (Jmp (hP.up a ha)) (by rw [List.length_map];omega) (by rw [Jhe,List.length_map]) hS) Bf Pf rfl fun r h' hq=> ?_;obtain ⟨o5,nx5,nn5,rfl,h5,rfl⟩:=hq;have hbS:b0 (JaA (JcW G.2.n (partsP P a).length) G.1 ((partsP P a).map Prt.num) ⟨G.2.l,G.2.n+(partsP P a).length,G.2.b⟩):=by
   show ∀p∈(JaA _ _ _ _).b,p.2≠0;rw [Jmo];exact hbG
  generalize JaA (JcW G.2.n (partsP P a).length) G.1 ((partsP P a).map Prt.num) ⟨G.2.l, G.2.n + (partsP P a).length, G.2.b⟩ = S at *
  refine Z ?_;refine Js (fun y:Nat×Option Nat×Nat=> mk 62 [(0, .bp (0,s0) 0),(9,JjA (JcW G.2.n (partsP P a).length)),(45,JK 2 (JjD s0 P a G.1) prt0 (partsP P a)),(46,int (partsP P a).length),(47,int y.1)] ⟨mkB s0 s1 (Jdy P a G.1 S (((JcW G.2.n (partsP P a).length).zip (partsP P a)).take y.1)) y.2.1,mkP (Jdy P a G.1 S (((JcW G.2.n (partsP P a).length).zip (partsP P a)).take y.1)) y.2.1,y.2.2,3⟩) (fun y=> y.1≤(partsP P a).length∧(y.2.1=none→(Jdy P a G.1 S (((JcW G.2.n (partsP P a).length).zip (partsP P a)).take y.1)).l= [])∧b0 (Jdy P a G.1 S (((JcW G.2.n (partsP P a).length).zip (partsP P a)).take y.1))) (fun y=> (partsP P a).length - y.1) ?_ ?_
  ·exact ⟨(0,o5,nx5),⟨Nat.zero_le _,h5,hbS⟩,Et rfl rfl Bf Pf Y5⟩
  ·rintro ⟨i,o6,nx6⟩ ⟨k1,k2,k3⟩;dsimp only at k1 k2 k3;refine Z ?_;intro c g;cases c
   ·have g:=Jw g;dsimp only at g;have hZ:(((JcW G.2.n (partsP P a).length).zip (partsP P a)).take i)=(JcW G.2.n (partsP P a).length).zip (partsP P a):=List.take_of_length_le (by rw [List.length_zip,Jhe];omega);refine Z ?_;refine Jt rfl ⟨.tup [],⟨mkB s0 s1 _ o6,mkP _ o6,nx6,3⟩,Rf,HLe.refl _, ?_⟩;rw [hZ] at k2⊢;exact ⟨o6,nx6,3,rfl,k2,rfl⟩
   ·have g:=Ju g;dsimp only at g;have hi:i < (partsP P a).length:=(by omega);have hmem:(partsP P a).getD i prt0∈partsP P a:=JkD hi;have hsn:=Jy8 (P:=P) (a:=a) (o:=G.1) (m:=S) (M:=JcW G.2.n (partsP P a).length) (l:=partsP P a) (i:=i) (by rw [Jhe];exact hi) hi;have hf2:=(JlH (JlR P a G.1) (l:=(JcW G.2.n (partsP P a).length).zip (partsP P a)) (m:=S) (i+1)).fits hf;change (Jdy P a G.1 S (((JcW G.2.n (partsP P a).length).zip (partsP P a)).take (i+1))).fits at hf2;rw [hsn] at hf2;have hb2:b0 (Jdx P a G.1 (J3 (Jdy P a G.1 S (((JcW G.2.n (partsP P a).length).zip (partsP P a)).take i)) ((JcW G.2.n (partsP P a).length).getD i 0)) ((partsP P a).getD i prt0)):=JCT k3;generalize Jdy P a G.1 S (((JcW G.2.n (partsP P a).length).zip (partsP P a)).take i) = N at *
    have hml:=Jhe G.2.n (partsP P a).length;generalize JcW G.2.n (partsP P a).length = MK at *
    refine Z ?_;refine ⟨Bd, ?_⟩;change Jcl _ (AV.rp (JjD s0 P a G.1 ((partsP P a).getD i prt0)).cells) _;have hcl:∀nx7 o7,(o7=none→(J3 N (MK.getD i 0)).l= [])→_:=fun nx7 o7 h7=> JA8 hP (s0:=s0) (s1:=s1) (other:=G.1) (m:=J3 N (MK.getD i 0)) (oi:=o7) (nx:=nx7) ha hmem h7 k3 hf2;rcases Jmq hmem with ⟨e,hx,_⟩ | hx | hx
    all_goals
     rw [hx] at hsn hf2 hb2 hcl⊢;refine Z ?_;refine ⟨Bd, ?_⟩;refine Z ?_;refine Jg (xs:= [.bp (0,s0) 0,int (MK.getD i 0:Nat)]) [_] [] 4 rfl rfl rfl rfl Y2 (Je3 s0 s1 (nx6+1) N o6 (MK.getD i 0) k2 ((JlR P a G.1 _ _).fits hf2)) Bf Pf rfl fun r h' hq=> ?_;obtain ⟨o7,nx7,nn7,rfl,h7,rfl⟩:=hq;refine Z ?_;rcases hcl nx7 o7 h7 with ⟨e',he,hcall⟩ | ⟨he,hcall⟩ | ⟨he,hcall⟩ <;> first | (exfalso;cases he;done) | skip
     try cases he
     refine Jg [_] [] 4 rfl rfl rfl rfl (LeL.refl _) hcall Bf Pf rfl fun r h' hq=> ?_;rw [← hsn] at hq;obtain ⟨o8,nx8,nn8,rfl,h8,rfl⟩:=hq;refine Z ?_;refine back (i+1,o8,nx8) ⟨Dm,h8,by dsimp only;rw [hsn];exact hb2⟩ Dm (Je _ _ rfl rfl (.cons _ Sf) Sf Bf Pf ⟨Rf,Rf,Rf,Rf,Jf (Jx Om),Tt⟩)
theorem JA9 {p:Pol} {l:List TRow} (hv:(Jaf p l).2=0) {a:Nat} (ha:a≤4) {x:Prt} (hx:x∈partsR (J8 p l) a):x.num < 4294967296:=by
 unfold partsR at hx
 rcases List.mem_append.1 hx with hx | hx
 ·obtain ⟨e,he,rfl⟩:=List.mem_map.1 hx;obtain ⟨g,hg,h2⟩:=JeH he;obtain ⟨j,hj,r1,_⟩:=Jc8 (p:=p) (Jch hv) g hg;obtain ⟨k1,k2⟩:=JeG h2;rw [r1] at k1 k2;have hn:=JdC (JaC.1 hv).2.1 (a:=a) hj;rw [JeZ Om hn.1] at k2;show e.num < _;rw [k2];split <;> omega
 ·split at hx
  ·rcases List.mem_cons.1 hx with rfl | hx
   ·show 102 < _;decide
   ·rw [List.mem_singleton.1 hx];show 117 < _;decide
  ·cases hx
theorem JD8 {p:Pol} {l:List TRow} (hv:(Jaf p l).2=0) (hc:∀r∈p.rules,∀c∈r.conds,c.ok) (h40:p.rules.length≤40) (h12:∀r∈p.rules,r.conds.length≤12):PlanW (J8 p l) where
 s:=JDY (Nat.le_trans (JuS p.dflt p.rules) h40) fun r hr=> by
  obtain ⟨r0,h0,h1⟩:=Jf5 hr;exact Nat.le_trans (Jcg h1).1 (h12 r0 h0)
 conds:=fun a e he r hr c hcc=> by
  have h:=Jme hc he hr hcc;obtain ⟨q1,q2,_⟩:=Jag.1 h.2.1;exact ⟨h.1,⟨q1,Om⟩,h.2.2.2⟩
 up:=fun a ha=> Jju hv Om
 num:=fun a ha x hx=> JA9 hv ha hx
 sub:=fun k=> Jnv hv k
theorem Jy9 (P:Plan) (m:Mk):m.le (JeA P m):=by
 unfold JeA
 dsimp only
 have h0:=(JfX m P.dflt).trans (JaE _ [⟨0,0x15,4294967295,(JB m P.dflt).1,0⟩])
 split
 ·exact h0.trans ((Jit _).trans ((JaE _ _).trans ((JcF P _ 0).trans ((JcY _ _).trans (JcF P _ 1)))))
 ·exact h0.trans ((JfX _ _).trans ((JaE _ _).trans (JcF P _ 0)))
theorem Jza (s0 s1 nx:Nat) (m:Mk) (oi:Option Nat) (P:Plan) (hP:PlanW P) (h0:oi=none→m.l= []) (hb:b0 m) (hf:(JeA P m).fits):
 ECall Tryz.prog 38 [.bp (0,s0) 0,Jct P] ⟨mkB s0 s1 m oi,mkP m oi,nx,3⟩ (MkQ s0 s1 (JeA P m) (.tup [])):=by
 refine ECall.wk (Jo Tryz.func38 rfl rfl ?_)
 generalize hR:JeA P m=R at hf⊢
 unfold JeA at hR
 dsimp only at hR
 have hf1:(JE (JB m P.dflt).2 [⟨0,0x15,4294967295,(JB m P.dflt).1,0⟩]).fits:=by
  cases hx:P.x32 with
  | true=> rw [hx,if_pos rfl] at hR;subst hR;exact ((Jit _).trans ((JaE _ _).trans ((JcF P _ 0).trans ((JcY _ _).trans (JcF P _ 1))))).fits hf
  | false=> rw [hx,if_neg Bool.false_ne_true] at hR;subst hR;exact ((JfX _ _).trans ((JaE _ _).trans (JcF P _ 0))).fits hf
 have hb1:b0 (JE (JB m P.dflt).2 [⟨0,0x15,4294967295,(JB m P.dflt).1,0⟩]):=Jhd (c:=P.dflt) hb
 unfold Jct
 refine Z ?_
 refine Jg (xs:= [.bp (0,s0) 0,u32 P.dflt]) [((3,nx), .c (Jbz P))] [] 4 rfl rfl rfl rfl Y2 (Je4 s0 s1 (nx+1) m oi P.dflt h0 hb ((JaE _ _).fits hf1)) Bf Pf rfl fun r h' hq=> ?_
 obtain ⟨oi2,nx2,nn2,rfl,h2,rfl⟩:=hq
 unfold Jbz
 refine Z ?_
 refine Jg (xs:= [.bp (0,s0) 0,JaN [⟨0,0x15,4294967295,(JB m P.dflt).1,0⟩]]) [((3,nx), .c (Jbz P))] [] 4 rfl rfl rfl rfl ⟨Rf,Jfu (fun k hk=> by match k,hk with | 0,_=> rfl),Tt⟩ (Jax s0 s1 nx2 _ oi2 _ h2 Si hf1) Bf Pf rfl fun r h' hq=> ?_
 obtain ⟨oi3,nx3,nn3,rfl,h3,rfl⟩:=hq
 generalize JE (JB m P.dflt).2 [(⟨0, 0x15, 4294967295, (JB m P.dflt).1, 0⟩ : Itm)] = m1 at *
 unfold Jbz
 refine Z ?_
 intro c hc
 cases hx:P.x32 with
 | false=>
   have hc2:c=false:=hc.trans hx;rw [hx] at hR;clear hc;cases hc2;rw [if_neg Bool.false_ne_true] at hR;subst hR;refine Z ?_;refine Jg (xs:= [.bp (0,s0) 0,u32 (2147483648:Nat)]) [_] [] 4 rfl rfl rfl rfl Y2 (Je4 s0 s1 nx3 m1 oi3 2147483648 h3 hb1 (((JaE _ _).trans (JcF P _ 0)).fits hf)) Bf Pf rfl fun r h' hq=> ?_;obtain ⟨oi4,nx4,nn4,rfl,h4,rfl⟩:=hq;refine Z ?_;refine Jg (xs:= [.bp (0,s0) 0,JaN [⟨0,0x45,1073741824,(JB m1 2147483648).1,0⟩]]) [_] [] 4 rfl rfl rfl rfl ⟨Rf,Jfu (fun k hk=> by match k,hk with | 0,_=> rfl),Tt⟩ (Jax s0 s1 nx4 _ oi4 _ h4 Si ((JcF P _ 0).fits hf)) Bf Pf rfl fun r h' hq=> ?_;obtain ⟨oi5,nx5,nn5,rfl,h5,rfl⟩:=hq;refine Z ?_;refine Jg (xs:= [.bp (0,s0) 0,Jct P,int (0:Nat)]) [_] [] 4 rfl rfl rfl rfl ⟨Rf,AVle.of_eq (by unfold Jct;rw [hx];rfl),Y1⟩ (Jgp s0 s1 nx5 _ oi5 P hP 0 Dc h5 (Jhd (c:=2147483648) hb1) hf) Bf Pf rfl fun r h' hq=> ?_;obtain ⟨oi6,nx6,nn6,rfl,h6,rfl⟩:=hq;refine Z ?_;exact Jt rfl ⟨.tup [],⟨mkB s0 s1 _ oi6,mkP _ oi6,nx6,3⟩,Rf,Jr _ _ rfl (.cons _ Sf) Sf Bf Pf,oi6,nx6,3,rfl,h6,rfl⟩
 | true=>
   have hc2:c=true:=hc.trans hx;rw [hx] at hR;clear hc;cases hc2;rw [if_pos rfl] at hR;subst hR;have hb2:b0 (Ja6 P (JE (Jz m1) [⟨0,0x45,1073741824,m1.n+1,0⟩]) 0):=JA5 hb1;have hf3:=((JcY _ _).trans (JcF P _ 1)).fits hf;have hf4:=(JcF P _ 0).fits hf3;refine Z ?_;refine Jg (xs:= [.bp (0,s0) 0]) [_] [] 4 rfl rfl rfl rfl Y1 (Jd5 s0 s1 nx3 m1 oi3 h3 ((JaE _ _).fits hf4)) Bf Pf rfl fun r h' hq=> ?_;obtain ⟨oi4,nx4,nn4,rfl,h4,rfl⟩:=hq;refine Z ?_;refine Jg (xs:= [.bp (0,s0) 0,JaN [⟨0,0x45,1073741824,m1.n+1,0⟩]]) [_] [] 4 rfl rfl rfl rfl ⟨Rf,Jfu (fun k hk=> by match k,hk with | 0,_=> rfl),Tt⟩ (Jax s0 s1 nx4 _ oi4 _ h4 Si hf4) Bf Pf rfl fun r h' hq=> ?_;obtain ⟨oi5,nx5,nn5,rfl,h5,rfl⟩:=hq;refine Z ?_;refine Jg (xs:= [.bp (0,s0) 0,Jct P,int (0:Nat)]) [_] [] 4 rfl rfl rfl rfl ⟨Rf,AVle.of_eq (by unfold Jct;rw [hx];rfl),Y1⟩ (Jgp s0 s1 nx5 _ oi5 P hP 0 Dc h5 hb1 hf3) Bf Pf rfl fun r h' hq=> ?_;obtain ⟨oi6,nx6,nn6,rfl,h6,rfl⟩:=hq;refine Z ?_;refine Jg (xs:= [.bp (0,s0) 0,int (m1.n+1:Nat)]) [_] [] 4 rfl rfl rfl rfl Y2 (Je3 s0 s1 nx6 _ oi6 (m1.n+1) h6 ((JcF P _ 1).fits hf)) Bf Pf rfl fun r h' hq=> ?_;obtain ⟨oi7,nx7,nn7,rfl,h7,rfl⟩:=hq;refine Z ?_;refine Jg (xs:= [.bp (0,s0) 0,Jct P,int (1:Nat)]) [_] [] 4 rfl rfl rfl rfl ⟨Rf,AVle.of_eq (by unfold Jct;rw [hx];rfl),Y1⟩ (Jgp s0 s1 nx7 _ oi7 P hP 1 Dc h7 hb2 hf) Bf Pf rfl fun r h' hq=> ?_;obtain ⟨oi8,nx8,nn8,rfl,h8,rfl⟩:=hq;refine Z ?_;exact Jt rfl ⟨.tup [],⟨mkB s0 s1 _ oi8,mkP _ oi8,nx8,3⟩,Rf,Jr _ _ rfl (.cons _ Sf) Sf Bf Pf,oi8,nx8,3,rfl,h8,rfl⟩
def Jcd (l:List Value) (k:Nat):AV:= .v (l.getD k (.bool false))
theorem JEH:Tryz.prog.bytesOf 3=8:=by kernel_rfl
theorem Jqi {it:FuncId} {es:List (Value×AV)} {S:List Value→Prop} (hit:JeP Tryz.prog it [] [.rp [.fm es]] (fun v:Value=> [.v v]) S) (hS:∀xs,S xs→xs.length≤1000000∧∀v∈xs,∃z,v= .int .i64 z) (nx:Nat):
 ECall Tryz.prog 139 [.os 0 0 (fun _=> .any) none, .fn (.func it) [] [.rp [.fm es]]] ⟨[], [],nx,0⟩ fun r h'=> ∃xs oi nx' nn',S xs∧(oi=none→xs= [])∧r= .os 1 xs.length (Jcd xs) oi∧h'=⟨[],Jam oi (xs.length * 1),nx',nn'⟩:=by
 refine ECall.wk (Jo Tryz.func139 rfl rfl ?_)
 refine Z ?_
 refine AW.le (E':=mk 13 [(2, .bp (0,nx) 0),(6, .fn (.func it) [] [.rp [.fm es]])] ⟨[((0,nx), .c [.os 1 0 (Jcd []) none])], [],nx+1,1⟩) ?_ ?_
 ·exact Je _ _ rfl rfl Sf .slnil ⟨rfl,⟨AVle.os_nil,Tt⟩,Tt⟩ Tt Y2
 refine JnV (σ:=Nat×(Nat→AV)×Option Vl.Id) (α:=Value) (e:=fun v=> [.v v]) (S:=S) (first':= []) (caps':= [.rp [.fm es]]) (fun x=> [((0,nx), .c [.os 1 x.1 x.2.1 x.2.2])]) (fun x=> Jam x.2.2 (x.1 * 1)) (fun pre x=> x.1=pre.length∧(∀k,k < x.1→x.2.1 k=Jcd pre k)∧(x.2.2=none→pre= [])) (0,Jcd [],none) rfl rfl hit (LeL.refl _) (LeL.refl _) rfl rfl ⟨rfl,fun _ _=> rfl,fun _=> rfl⟩ (fun _=> rfl) ?_ ?_
 ·rintro pre x post ⟨n,f,oi⟩ nx3 nn3 hx ⟨hp,hf,ho⟩;dsimp only at hp hf ho;subst hp;obtain ⟨hlen,hty⟩:=hS _ hx;obtain ⟨z,rfl⟩:=hty x Si;simp at hlen;refine Jy ?_;refine JQ ?_;refine Jy ?_;refine JF (fun n=> match n with | 0=> true | _=> false) 4 ?_;refine Z ?_;refine Jee (e:=3) (c:=1) (pm:= []) (n:=pre.length) (oi:=oi) (sz:=1) (f:=f) rfl rfl (.inr ⟨_,rfl⟩) Kr Kr Kr (.inr rfl) Kr (List.append_nil _).symm (JM rfl) (by rw [JEH];omega) Om ?_;refine Z ?_;refine ⟨(pre.length+1,_,some (nn3,nx3)), .inl ⟨rfl,by simp,fun k hk=> ?_,fun h=> by cases h⟩,rfl,rfl⟩;refine Jbw (fun k hk=> ?_) ?_ k hk
  ·rw [hf k hk];simp [Jcd,List.getD,List.getElem?_append_left hk,hk]
  ·simp [Jcd,List.getD];rfl
 ·rintro xs ⟨n,f,oi⟩ nx3 nn3 hx ⟨hp,hf,ho⟩;dsimp only at hp hf ho;subst hp;refine Z ?_;refine Jt rfl ⟨.os 1 xs.length (Jcd xs) oi,⟨[],Jam oi (xs.length * 1),nx3,0⟩,AVle.os_fun hf, ?_,xs,oi,nx3,0,hx,ho,rfl,rfl⟩;exact Jr [] _ rfl (List.nil_sublist _) Sf Tt Pf
theorem JEI:Tryz.prog.bytesOf 28=4:=by kernel_rfl
theorem Jqj {it:FuncId} {es:List (Value×AV)} {S:List Value→Prop} (hit:JeP Tryz.prog it [] [.rp [.fm es]] (fun v:Value=> [.v v]) S) (hS:∀xs,S xs→xs.length≤1000000∧∀v∈xs,∃z,v= .int .u32 z) (nx:Nat):
 ECall Tryz.prog 150 [.os 0 0 (fun _=> .any) none, .fn (.func it) [] [.rp [.fm es]]] ⟨[], [],nx,0⟩ fun r h'=> ∃xs oi nx' nn',S xs∧(oi=none→xs= [])∧r= .os 1 xs.length (Jcd xs) oi∧h'=⟨[],Jam oi (xs.length * 1),nx',nn'⟩:=by
 refine ECall.wk (Jo Tryz.func150 rfl rfl ?_)
 refine Z ?_
 refine AW.le (E':=mk 13 [(2, .bp (0,nx) 0),(6, .fn (.func it) [] [.rp [.fm es]])] ⟨[((0,nx), .c [.os 1 0 (Jcd []) none])], [],nx+1,1⟩) ?_ ?_
 ·exact Je _ _ rfl rfl Sf .slnil ⟨rfl,⟨AVle.os_nil,Tt⟩,Tt⟩ Tt Y2
 refine JnV (σ:=Nat×(Nat→AV)×Option Vl.Id) (α:=Value) (e:=fun v=> [.v v]) (S:=S) (first':= []) (caps':= [.rp [.fm es]]) (fun x=> [((0,nx), .c [.os 1 x.1 x.2.1 x.2.2])]) (fun x=> Jam x.2.2 (x.1 * 1)) (fun pre x=> x.1=pre.length∧(∀k,k < x.1→x.2.1 k=Jcd pre k)∧(x.2.2=none→pre= [])) (0,Jcd [],none) rfl rfl hit (LeL.refl _) (LeL.refl _) rfl rfl ⟨rfl,fun _ _=> rfl,fun _=> rfl⟩ (fun _=> rfl) ?_ ?_
 ·rintro pre x post ⟨n,f,oi⟩ nx3 nn3 hx ⟨hp,hf,ho⟩;dsimp only at hp hf ho;subst hp;obtain ⟨hlen,hty⟩:=hS _ hx;obtain ⟨z,rfl⟩:=hty x Si;simp at hlen;refine Jy ?_;refine JQ ?_;refine Jy ?_;refine JF (fun n=> match n with | 0=> true | _=> false) 4 ?_;refine Z ?_;refine Jee (e:=28) (c:=1) (pm:= []) (n:=pre.length) (oi:=oi) (sz:=1) (f:=f) rfl rfl (.inr ⟨_,rfl⟩) Kr Kr Kr (.inr rfl) Kr (List.append_nil _).symm (JM rfl) (by rw [JEI];omega) Om ?_;refine Z ?_;refine ⟨(pre.length+1,_,some (nn3,nx3)), .inl ⟨rfl,by simp,fun k hk=> ?_,fun h=> by cases h⟩,rfl,rfl⟩;refine Jbw (fun k hk=> ?_) ?_ k hk
  ·rw [hf k hk];simp [Jcd,List.getD,List.getElem?_append_left hk,hk]
  ·simp [Jcd,List.getD];rfl
 ·rintro xs ⟨n,f,oi⟩ nx3 nn3 hx ⟨hp,hf,ho⟩;dsimp only at hp hf ho;subst hp;refine Z ?_;refine Jt rfl ⟨.os 1 xs.length (Jcd xs) oi,⟨[],Jam oi (xs.length * 1),nx3,0⟩,AVle.os_fun hf, ?_,xs,oi,nx3,0,hx,ho,rfl,rfl⟩;exact Jr [] _ rfl (List.nil_sublist _) Sf Tt Pf
end Go.Proofs.W

namespace Go.Proofs
open Go.Shelf
shelf_lay_g SlLaysM.n5 Slgm 5 at Tryz 79 as Tryz.laysM5
end Go.Proofs
namespace Go.Proofs.W
open Go.Vl Go.Shelf
set_option maxRecDepth 100000
def JhO (z:Int):AV:= .v (.int .i64 z)
def Jmr (s:Nat) (d:Array Int) (tl:List AV):List (Vl.Id×Own):= [((0,s), .c (Jba JhO d tl))]
theorem JsV (l:List Int):l.mergeSort (fun x y=> decide (x≤y))=J0 Go.Sort.ltInt l:=by
 unfold J0
 congr 1
 funext x y
 simp only [Go.Sort.ltInt]
 by_cases h:x≤y
 ·rw [decide_eq_true h,decide_eq_false Om];rfl
 ·rw [decide_eq_false h,decide_eq_true Om];rfl
theorem Jzb (d0:Array Int) (tl:List AV) (n:Nat) (hn:d0.size=n) (hsz:n≤1000000) (s cap nx:Nat):
 ECall Tryz.prog 79 [.hs (0,s) 0 n cap] ⟨Jmr s d0 tl, [],nx,1⟩ (fun r h'=> ∃nx' nn',h'=⟨Jmr s (J0 Go.Sort.ltInt d0.toList).toArray tl, [],nx',nn'⟩):=by
 subst hn
 have h:=Jie (P:=Tryz.prog) (enc:=Value.int .i64) (d:=d0) (d':=(J0 Go.Sort.ltInt d0.toList).toArray) (tl:=tl) (nm:=0) (s:=s) (cap:=cap) (nx:=nx) (nn:=1) (f:=79) ⟨_,Tryz.func79,rfl,rfl⟩ (by simp [JaZ]) (fun w blk hH hb=> by
  have k:=AnyM.slices_Sort_int Tryz.laysM5 blk 0 cap d0.toList w hH hb (by simp;omega);rw [JsV] at k;exact k)
 exact h.mono fun r h' ⟨_,h2⟩=> ⟨nx,1,h2⟩
theorem Jzc (F:Nat→AV):Tells Tryz.prog 79 [.os 1 0 F none] (.tup []):=
 Jif (nx:=0) ⟨_,Tryz.func79,rfl,rfl⟩ fun p cap w=> AnyM.slices_Sort_int_none Tryz.laysM5 p cap w
def Jve:Value→Int
 | .int _ z=> z
 | _=> 0
end Go.Proofs.W

namespace Go.Proofs.W
open Go.Vl
set_option maxRecDepth 100000
theorem Jzd (es:List (Value×AV)) (hky:∀p∈es,∃z,p.1= .int .i64 z):JeP Tryz.prog 80 [] [.rp [.fm es]] (fun v:Value=> [.v v]) (fun xs=> xs.Perm (es.map (·.1))):=by
 intro i σ Cb Cp I J hc s0 nx nn h0
 refine ECall.wk (Jo Tryz.func80 rfl rfl ?_)
 refine Jy ?_
 refine JF (fun n=> match n with | 0=> true | _=> false) 2 ?_
 refine Z ?_
 refine Ji0 rfl Tryz.underlying108 rfl ?_
 refine Z ?_
 refine Js (fun y:List Nat×σ×Nat=> mk 14 [(0, .yl i),(5, .bp (nn,nx) 0)] ⟨((nn,nx), .it es y.1)::Cb y.2.1,Cp y.2.1,y.2.2,nn+1⟩) (fun y=> y.1.Nodup∧(∀j∈y.1,j < es.length)∧I (y.1.map (Jb4 es)) y.2.1) (fun y=> es.length - y.1.length) ?_ ?_
 ·exact ⟨([],s0,nx+1),⟨List.nodup_nil,(fun j (h:j∈ [])=> by cases h),h0⟩,Et rfl rfl ⟨rfl,OwnLe.refl _,Bf⟩ Pf Y2⟩
 ·rintro ⟨seen,s,nx1⟩ ⟨h1,h2,h3⟩;dsimp only at h1 h2 h3;refine Jy ?_;refine JF (fun n=> match n with | 0=> true | _=> false) 1 ?_;refine Jj1 (i:=(nn,nx)) (es:=es) (seen:=seen) (R:=Cb s) rfl rfl rfl (fun k p hk hn=> ?_) (fun hall=> ?_)
  ·obtain ⟨z,hz⟩:=hky p (List.mem_of_getElem? hk);obtain ⟨key,val⟩:=p;dsimp only at hz;subst hz;have hk2:k < es.length:=(List.getElem?_eq_some_iff.1 hk).1;have hka:Jb4 es k= .int .i64 z:=Jjd hk;obtain ⟨post,hperm⟩:=Jj2 h1 h2 hk2 hn;have hS:(seen.map (Jb4 es)++(.int .i64 z)::post.map (Jb4 es)).Perm (es.map (·.1)):=by
    rw [← Jfw,← hka];simpa using hperm.map (Jb4 es)
   have hlen:=hperm.length_eq;have hnd:(seen++ [k]).Nodup:=by
    rw [List.nodup_append];exact ⟨h1,by simp,fun a ha b hb hab=> by rw [List.mem_singleton] at hb;subst hb;subst hab;exact hn ha⟩
   have hlt:∀j∈seen++ [k],j < es.length:=fun j hj=> by
    rcases List.mem_append.1 hj with h | h
    ·exact h2 j h
    ·rw [List.mem_singleton] at h;omega
   have hmk:(seen++ [k]).map (Jb4 es)=seen.map (Jb4 es)++ [.int .i64 z]:=by rw [List.map_append,← hka];rfl
   have hlen2:seen.length < es.length:=by simp at hlen;omega
   refine Jy ?_;refine JF (fun n=> match n with | 0=> true | _=> false) 1 ?_;refine Ji1 (i:=(nn,nx)) (seen:=seen) (k:=k) (R:=Cb s) rfl rfl rfl hk ?_;refine Jy ?_;refine JF (fun n=> match n with | 0=> true | _=> false) 3 ?_;refine Z ?_;refine Jex [((nn,nx), .it es (seen++ [k]))] [] rfl rfl rfl (hc _ hS) rfl h3 Y1 (fun s' nx' hI=> ?_) (fun s' nx' hJ=> ?_)
   ·refine Z ?_;exact back (seen++ [k],s',nx') ⟨hnd,hlt,by dsimp only;rw [hmk];exact hI⟩ (by simp;omega) (Et rfl rfl Bf Pf Y2)
   ·refine Z ?_;exact Jt rfl ⟨_,⟨Cb s',Cp s',nx',nn⟩,Rf,Jr _ _ rfl (.cons _ Sf) Sf Bf Pf,_,s',hS, .inr ⟨_,_,_,rfl,hJ⟩,rfl,rfl⟩
  ·refine Z ?_;refine Jt rfl ⟨_,⟨Cb s,Cp s,nx1,nn⟩,Rf,Jr _ _ rfl (.cons _ Sf) Sf Bf Pf,_,s, ?_, .inl h3,rfl,rfl⟩;rw [← Jfw];exact (Jj3 h1 h2 hall).map _
theorem Jze (es:List (Value×AV)) (hky:∀p∈es,∃z,p.1= .int .u32 z):JeP Tryz.prog 85 [] [.rp [.fm es]] (fun v:Value=> [.v v]) (fun xs=> xs.Perm (es.map (·.1))):=by
 intro i σ Cb Cp I J hc s0 nx nn h0
 refine ECall.wk (Jo Tryz.func85 rfl rfl ?_)
 refine Jy ?_
 refine JF (fun n=> match n with | 0=> true | _=> false) 2 ?_
 refine Z ?_
 refine Ji0 rfl Tryz.underlying104 rfl ?_
 refine Z ?_
 refine Js (fun y:List Nat×σ×Nat=> mk 14 [(0, .yl i),(5, .bp (nn,nx) 0)] ⟨((nn,nx), .it es y.1)::Cb y.2.1,Cp y.2.1,y.2.2,nn+1⟩) (fun y=> y.1.Nodup∧(∀j∈y.1,j < es.length)∧I (y.1.map (Jb4 es)) y.2.1) (fun y=> es.length - y.1.length) ?_ ?_
 ·exact ⟨([],s0,nx+1),⟨List.nodup_nil,(fun j (h:j∈ [])=> by cases h),h0⟩,Et rfl rfl ⟨rfl,OwnLe.refl _,Bf⟩ Pf Y2⟩
 ·rintro ⟨seen,s,nx1⟩ ⟨h1,h2,h3⟩;dsimp only at h1 h2 h3;refine Jy ?_;refine JF (fun n=> match n with | 0=> true | _=> false) 1 ?_;refine Jj1 (i:=(nn,nx)) (es:=es) (seen:=seen) (R:=Cb s) rfl rfl rfl (fun k p hk hn=> ?_) (fun hall=> ?_)
  ·obtain ⟨z,hz⟩:=hky p (List.mem_of_getElem? hk);obtain ⟨key,val⟩:=p;dsimp only at hz;subst hz;have hk2:k < es.length:=(List.getElem?_eq_some_iff.1 hk).1;have hka:Jb4 es k= .int .u32 z:=Jjd hk;obtain ⟨post,hperm⟩:=Jj2 h1 h2 hk2 hn;have hS:(seen.map (Jb4 es)++(.int .u32 z)::post.map (Jb4 es)).Perm (es.map (·.1)):=by
    rw [← Jfw,← hka];simpa using hperm.map (Jb4 es)
   have hlen:=hperm.length_eq;have hnd:(seen++ [k]).Nodup:=by
    rw [List.nodup_append];exact ⟨h1,by simp,fun a ha b hb hab=> by rw [List.mem_singleton] at hb;subst hb;subst hab;exact hn ha⟩
   have hlt:∀j∈seen++ [k],j < es.length:=fun j hj=> by
    rcases List.mem_append.1 hj with h | h
    ·exact h2 j h
    ·rw [List.mem_singleton] at h;omega
   have hmk:(seen++ [k]).map (Jb4 es)=seen.map (Jb4 es)++ [.int .u32 z]:=by rw [List.map_append,← hka];rfl
   have hlen2:seen.length < es.length:=by simp at hlen;omega
   refine Jy ?_;refine JF (fun n=> match n with | 0=> true | _=> false) 1 ?_;refine Ji1 (i:=(nn,nx)) (seen:=seen) (k:=k) (R:=Cb s) rfl rfl rfl hk ?_;refine Jy ?_;refine JF (fun n=> match n with | 0=> true | _=> false) 3 ?_;refine Z ?_;refine Jex [((nn,nx), .it es (seen++ [k]))] [] rfl rfl rfl (hc _ hS) rfl h3 Y1 (fun s' nx' hI=> ?_) (fun s' nx' hJ=> ?_)
   ·refine Z ?_;exact back (seen++ [k],s',nx') ⟨hnd,hlt,by dsimp only;rw [hmk];exact hI⟩ (by simp;omega) (Et rfl rfl Bf Pf Y2)
   ·refine Z ?_;exact Jt rfl ⟨_,⟨Cb s',Cp s',nx',nn⟩,Rf,Jr _ _ rfl (.cons _ Sf) Sf Bf Pf,_,s',hS, .inr ⟨_,_,_,rfl,hJ⟩,rfl,rfl⟩
  ·refine Z ?_;refine Jt rfl ⟨_,⟨Cb s,Cp s,nx1,nn⟩,Rf,Jr _ _ rfl (.cons _ Sf) Sf Bf Pf,_,s, ?_, .inl h3,rfl,rfl⟩;rw [← Jfw];exact (Jj3 h1 h2 hall).map _
theorem Jqk (es:List (Value×AV)):Tells Tryz.prog 36 [.fm es] (.fn (.func 80) [] [.rp [.fm es]]):=by
 refine Jc Tryz.func36 rfl rfl fun nx=> ?_
 (repeat ((conv=>whnf);first|refine ω0 ?_|refine ω1 ?_|refine ω2 ?_|refine ω3 ?_|refine ω4 rfl ?_|refine ω5 rfl ?_|refine ω6 ?_|refine ω7 ?_|refine ⟨rfl,?_⟩|refine ⟨trivial,?_⟩|refine ⟨⟨rfl,Nat.le_of_ble_eq_true rfl⟩,?_⟩|refine ⟨⟨by kernel_rfl,by kernel_rfl⟩,?_⟩|refine ⟨by decide,?_⟩|refine JdE ?_|refine Jdd ?_))
 refine AW.le (JcJ (L:= [(2, .fn (.func 80) [] [.rp [.fm es]])]) (bx:= []) (pm:= []) (nn:=1) [((0,nx), .c [.fm es])] rfl rfl Sf .slnil ⟨Frz.fn Tt ⟨Frz.bp (.head _) rfl,Tt⟩,Tt⟩) ?_
 refine Z ?_
 exact Jb rfl Rf
theorem JsW (es:List (Value×AV)) (hl:es.length≤1000000) (hky:∀p∈es,∃z,p.1= .int .i64 z) (nx:Nat):
 ECall Tryz.prog 78 [.fn (.func 80) [] [.rp [.fm es]]] ⟨[], [],nx,0⟩ (Jqt (fun n f=> ∃xs:List Value,xs.Perm (es.map (·.1))∧n=xs.length∧∀k,k < n→f k=Jcd xs k) 1):=by
 refine Ji2 Dc (fun n f ⟨xs,_,_,hf⟩ k hk c hc=> ?_) ?_
 ·rw [hf k hk] at hc;obtain rfl:c=Jcd xs k:=by simpa [Jcd,AV.cells] using hc
  exact Flat.v _
 refine ECall.wk (Jo Tryz.func78 rfl rfl ?_)
 refine Z ?_
 refine Jb6 rfl rfl (ECall.args (bs:= [.os 0 0 (fun _=> .any) none, .fn (.func 80) [] [.rp [.fm es]]]) Y2 (Jqi (Jzd es hky) (fun xs hx=> ⟨by have:=hx.length_eq;simp at this;omega,fun v hv=> ?_⟩) nx)) fun r h' hq=> ?_
 ·obtain ⟨p,hp,rfl⟩:=List.mem_map.1 (hx.mem_iff.1 hv);exact hky p hp
 obtain ⟨xs,oi,nx',nn',hS,ho,rfl,rfl⟩:=hq
 refine Named.same ?_
 refine Z ?_
 exact Jt rfl ⟨_,_,Rf,HLe.refl _,xs.length,Jcd xs,oi,nx',_,⟨xs,hS,rfl,fun _ _=> rfl⟩,(fun h=> by rw [ho h];rfl),rfl,rfl⟩
theorem Jql (es:List (Value×AV)):Tells Tryz.prog 41 [.fm es] (.fn (.func 85) [] [.rp [.fm es]]):=by
 refine Jc Tryz.func41 rfl rfl fun nx=> ?_
 (repeat ((conv=>whnf);first|refine ω0 ?_|refine ω1 ?_|refine ω2 ?_|refine ω3 ?_|refine ω4 rfl ?_|refine ω5 rfl ?_|refine ω6 ?_|refine ω7 ?_|refine ⟨rfl,?_⟩|refine ⟨trivial,?_⟩|refine ⟨⟨rfl,Nat.le_of_ble_eq_true rfl⟩,?_⟩|refine ⟨⟨by kernel_rfl,by kernel_rfl⟩,?_⟩|refine ⟨by decide,?_⟩|refine JdE ?_|refine Jdd ?_))
 refine AW.le (JcJ (L:= [(2, .fn (.func 85) [] [.rp [.fm es]])]) (bx:= []) (pm:= []) (nn:=1) [((0,nx), .c [.fm es])] rfl rfl Sf .slnil ⟨Frz.fn Tt ⟨Frz.bp (.head _) rfl,Tt⟩,Tt⟩) ?_
 refine Z ?_
 exact Jb rfl Rf
theorem JsX (es:List (Value×AV)) (hl:es.length≤1000000) (hky:∀p∈es,∃z,p.1= .int .u32 z) (nx:Nat):
 ECall Tryz.prog 83 [.fn (.func 85) [] [.rp [.fm es]]] ⟨[], [],nx,0⟩ (Jqt (fun n f=> ∃xs:List Value,xs.Perm (es.map (·.1))∧n=xs.length∧∀k,k < n→f k=Jcd xs k) 1):=by
 refine Ji2 Dc (fun n f ⟨xs,_,_,hf⟩ k hk c hc=> ?_) ?_
 ·rw [hf k hk] at hc;obtain rfl:c=Jcd xs k:=by simpa [Jcd,AV.cells] using hc
  exact Flat.v _
 refine ECall.wk (Jo Tryz.func83 rfl rfl ?_)
 refine Z ?_
 refine Jb6 rfl rfl (ECall.args (bs:= [.os 0 0 (fun _=> .any) none, .fn (.func 85) [] [.rp [.fm es]]]) Y2 (Jqj (Jze es hky) (fun xs hx=> ⟨by have:=hx.length_eq;simp at this;omega,fun v hv=> ?_⟩) nx)) fun r h' hq=> ?_
 ·obtain ⟨p,hp,rfl⟩:=List.mem_map.1 (hx.mem_iff.1 hv);exact hky p hp
 obtain ⟨xs,oi,nx',nn',hS,ho,rfl,rfl⟩:=hq
 refine Named.same ?_
 refine Z ?_
 exact Jt rfl ⟨_,_,Rf,HLe.refl _,xs.length,Jcd xs,oi,nx',_,⟨xs,hS,rfl,fun _ _=> rfl⟩,(fun h=> by rw [ho h];rfl),rfl,rfl⟩
theorem Jt8 (es:List (Value×AV)) (zs:List (Int)) (hz:es.map (·.1)=zs.map (Value.int .i64)) (hl:es.length≤1000000):
 Tells Tryz.prog 35 [.fn (.func 80) [] [.rp [.fm es]]] (JK 1 JhO 0 (J0 Go.Sort.ltInt zs)):=by
 have hky:∀p∈es,∃z,p.1=Value.int .i64 z:=fun p hp=> by
  have:p.1∈zs.map (Value.int .i64):=hz ▸ List.mem_map_of_mem hp;obtain ⟨z,_,h⟩:=List.mem_map.1 this;exact ⟨z,h.symm⟩
 refine Jc Tryz.func35 rfl rfl fun nx=> ?_
 refine Z ?_
 refine Jb6 rfl rfl (JsW es hl hky nx) fun r h' hq=> ?_
 obtain ⟨n,f,⟨xs,hxp,hxn,hxf⟩,hq⟩:=hq
 obtain ⟨ys,rfl⟩:∃ys:List (Int),xs=ys.map (Value.int .i64):=by
  have hall:∀v∈xs,∃z,v=Value.int .i64 z:=fun v hv=> by
   have hv2:=hxp.mem_iff.1 hv;rw [hz] at hv2;obtain ⟨z,_,h⟩:=List.mem_map.1 hv2;exact ⟨z,h.symm⟩
  clear hxp hxn hxf hq
  induction xs with
  | nil=> exact ⟨[],rfl⟩
  | cons x xs ih=>
    obtain ⟨z,rfl⟩:=hall x Si;obtain ⟨ys,rfl⟩:=ih fun v hv=> hall v (by simp [hv]);exact ⟨z::ys,rfl⟩
 have hperm:ys.Perm zs:=by
  rw [hz] at hxp;have h2:=hxp.map Jve
  rwa [List.map_map,List.map_map,show (Jve∘(Value.int .i64))=id from rfl,List.map_id,List.map_id] at h2
 have hsz:n≤1000000:=by
  have:=hxp.length_eq;simp at this;rw [hxn];simp;omega
 rcases hq with ⟨rfl,hb,hp,rfl⟩ | ⟨s,cap,more,nx',nn',hcap,hmore,rfl,rfl⟩
 ·have hys:ys= []:=by cases ys with | nil=> rfl | cons y ys=> simp at hxn
  subst hys;have hzs:zs= []:=hperm.symm.eq_nil;subst hzs;rw [show J0 Go.Sort.ltInt ([]:List (Int))= [] from List.eq_nil_of_length_eq_zero JaZ];obtain ⟨bx,pm,nxx,nnn⟩:=h';dsimp only at hb hp;subst hb;subst hp;refine Named.same ?_;refine Z ?_;refine Ja rfl rfl (Jzc f) Y1 fun nx2=> ?_;refine Z ?_;exact Jb rfl AVle.os_sl0
 ·refine Named.same ?_;have hcells:JD n f=ys.toArray.toList.map JhO:=by
   have key:∀m,m≤n→JD m f=(ys.take m).map JhO:=by
    intro m
    induction m with
    | zero=> intro _;rfl
    | succ m ih=>
      intro hm;have hm':m < ys.length:=(by simp at hxn;omega);have e:JD (m+1) f=JD m f++(f m).cells:=(by unfold JD;rw [List.range_succ,List.flatMap_append];simp);rw [e,ih Om,hxf m Om,List.take_add_one,List.map_append];simp [Jcd,List.getD,hm',AV.cells,JhO]
   rw [key n (Nat.le_refl _),List.take_of_length_le (by simp at hxn;omega)]
  have hnn:ys.toArray.size=n:=by simp at hxn;simp [hxn]
  rw [hcells];refine Jy ?_;refine AW.le (E':=mk 9 [(3, .hs (0,s) 0 n cap)] ⟨Jmr s ys.toArray (List.replicate more .any), [],nx',1⟩) (Es rfl rfl Y1) ?_;refine Z ?_;refine Jg (xs:= [.hs (0,s) 0 n cap]) [] [] 1 rfl rfl rfl rfl Y1 (Jzb ys.toArray _ n hnn hsz s cap _) Bf Pf rfl fun r h' hq=> ?_;obtain ⟨nx2,nn2,rfl⟩:=hq;have hd:(J0 Go.Sort.ltInt ys.toArray.toList).toArray.toList=J0 Go.Sort.ltInt zs:=by
   show J0 Go.Sort.ltInt ys=_;exact JeU Go.Sort.swo_ltInt JhX hperm
  generalize (J0 Go.Sort.ltInt ys.toArray.toList).toArray=d' at hd⊢;have hdn:d'.size=n:=by
   rw [← Array.length_toList,hd,JaZ,← hperm.length_eq];simpa using hnn
  have hln:(J0 Go.Sort.ltInt zs).length=n:=by rw [← hd];simpa using hdn
  refine Jy ?_;refine AW.le (JcJ (L:= [(3,JK 1 JhO 0 (J0 Go.Sort.ltInt zs))]) (bx:= []) (pm:= []) (nn:=1) [((0,s), .c (Jba JhO d' (List.replicate more .any)))] rfl rfl Sf .slnil ⟨?_,Tt⟩) ?_
  ·unfold JK;rw [hln];refine Frz.hs1 (.head _) hcap (by rw [JfW];omega) (fun k _=> rfl) (fun k hk=> ?_);unfold Jba;rw [List.getElem?_append_left (by simpa [hdn] using hk),List.getElem?_map,← hd];have:k < d'.size:=by omega
   simp [List.getD,this]
  ·refine Z ?_;exact Jb rfl Rf
def Jl (z:Int):AV:= .v (.int .u32 z)
theorem Jv:Tryz.prog.cellsOf 28=1:=by kernel_rfl
theorem Jbh:Tryz.prog.underlying 28=some (.int .u32):=by kernel_rfl
theorem Jcu (x y:Int):Tells Tryz.prog 205 [Jl x,Jl y] (.v (.bool (Go.Sort.ltInt x y))):=by
 have hn:∀z:Int,Tells Tryz.prog 74 [Jl z] (.v (.bool false)):=fun z=> by
  refine Jc Tryz.func74 rfl rfl fun nx=> ?_;refine Z ?_
  (intro c hc;(first | (rw [bne_self_eq_false] at hc;subst hc) | (obtain rfl:c=false:=hc.trans (bne_self_eq_false _)));refine Z ?_)
  exact Jb rfl Rf
 refine Jc Tryz.func205 rfl rfl fun nx=> ?_
 refine Z ?_
 refine Ja rfl rfl (hn x) Y1 fun nx1=> ?_
 refine Z ?_
 intro c h;cases c
 ·refine Z ?_;exact Jb rfl (JN h)
 ·refine Z ?_;exact Jb rfl (JN h)
def Jm (s:Nat) (d:Array (Int)) (tl:List AV):List (Vl.Id×Own):= [((0,s), .c (Jba Jl d tl))]
theorem JCV (d0:Array (Int)) (tl:List AV) (n a b:Nat) (hn:d0.size=n) (hab:a≤b) (hb:b≤n) (hsz:n≤1000000) (s cap nx:Nat):
 ECall Tryz.prog 199 [.hs (0,s) 0 n cap,int a,int b] ⟨Jm s d0 tl, [],nx,1⟩ (fun r h'=> ∃nx' nn',h'=⟨Jm s (Go.Sort.insertionSort Go.Sort.ltInt d0 a b) tl, [],nx',nn'⟩):=by
 refine ECall.wk (Jo Tryz.func199 rfl rfl ?_)
 refine Z ?_
 refine Js (fun y:Array (Int)×Nat×Nat=> mk 49 [(0, .hs (0,s) 0 n cap),(1,int a),(2,int b),(6,int y.2.1)] ⟨Jm s y.1 tl, [],y.2.2,1⟩) (fun y=> y.1.size=n∧a+1≤y.2.1∧y.2.1≤b+1∧Go.Sort.insOuter Go.Sort.ltInt a b y.2.1 y.1=Go.Sort.insertionSort Go.Sort.ltInt d0 a b) (fun y=> b+1 - y.2.1) ?_ ?_
 ·exact ⟨(d0,a+1,nx),⟨hn,Nat.le_refl _,Dm,rfl⟩,Je _ _ rfl rfl Sf .slnil Bf Tt ⟨Rf,Rf,Rf,Lw,Tt⟩⟩
 ·rintro ⟨d,i,nx1⟩ ⟨h1,h2,h3,h4⟩;dsimp only at h1 h2 h3 h4;refine Z ?_;intro c g;cases c
  ·have g:=Jw g;try dsimp only at g
   rw [Go.Sort.insOuter,if_neg Om] at h4;subst h4;refine Z ?_;exact Jt rfl ⟨_,_,Rf,Jr (Jm s (Go.Sort.insertionSort Go.Sort.ltInt d0 a b) tl) [] rfl Sf .slnil Bf Pf,_,1,rfl⟩
  ·have g:=Ju g;try dsimp only at g
   have hi:i < b:=by omega
   rw [Go.Sort.insOuter,if_pos hi] at h4;refine Z ?_;refine Js (fun y:Array (Int)×Nat×Nat=> mk 49 [(0, .hs (0,s) 0 n cap),(1,int a),(2,int b),(6,int i),(7,int y.2.1)] ⟨Jm s y.1 tl, [],y.2.2,1⟩) (fun y=> y.1.size=n∧y.2.1≤i∧Go.Sort.insInner Go.Sort.ltInt a y.2.1 y.1=Go.Sort.insInner Go.Sort.ltInt a i d) (fun y=> y.2.1) ?_ ?_
   ·exact ⟨(d,i,nx1),⟨h1,Nat.le_refl _,rfl⟩,Je _ _ rfl rfl Sf .slnil Bf Tt Y5⟩
   ·rintro ⟨e,j,nx2⟩ ⟨k1,k2,k3⟩;dsimp only at k1 k2 k3;by_cases hja:a < j
    ·have hd:decide ((j:Int) > (a:Int))=true:=decide_eq_true Om;have hj1:IntKind.i64.wrap ((j:Int) - 1)=((j - 1:Nat):Int):=(by rw [Jq Om Om];omega);refine Z ?_
     (refine JJ 15 Kr Kr Kr ?_)
     refine Z ?_
     (conv=> whnf)
     refine JaU hd ?_;refine Z ?_;refine ⟨⟨JG (i:=j) (rfl),JH (i:=j) (rfl) Om⟩,Jj (b:= .bp (0,s) (j)) (congrArg (AV.bp (0,s)) (JO (i:=j) Jv (rfl))) ?_⟩
     (conv=> whnf)
     refine ⟨⟨rfl,Jaw (show j < e.size by omega)⟩,Jj (b:=Jl e[j]!) (Jac (show j < e.size by omega)) ?_⟩;refine Z ?_;refine ⟨⟨JG (i:=j - 1) (hj1),JH (i:=j - 1) (hj1) Om⟩,Jj (b:= .bp (0,s) (j - 1)) (congrArg (AV.bp (0,s)) (JO (i:=j - 1) Jv (hj1))) ?_⟩
     (conv=> whnf)
     refine ⟨⟨rfl,Jaw (show j - 1 < e.size by omega)⟩,Jj (b:=Jl e[j - 1]!) (Jac (show j - 1 < e.size by omega)) ?_⟩;refine Z ?_;refine Jaj (JV rfl rfl (Jcu e[j]! e[j - 1]!) Y2 (NoId.v _)) ?_;refine Z ?_;intro c hlt;cases c
     ·have hl:Go.Sort.ltInt e[j]! e[j - 1]! =false:=hlt.symm;rw [Jrt hl] at k3;subst k3;refine Z ?_;exact back (_,i+1,nx2) ⟨k1,Dm,Dm,h4⟩ Dm (Es rfl rfl ⟨Rf,Rf,Rf,Lw,Tt⟩)
     ·have hl:Go.Sort.ltInt e[j]! e[j - 1]! =true:=hlt.symm;rw [Juy hja hl] at k3;refine Z ?_;refine Jcv 18 (Ef [15,17]) (Ef [9,13]) [0,1,2,3,4,5,6,7,8,10,11,12,9,13,14,15,16,17] Kr Kr ?_
      (conv=> whnf)
      refine ⟨⟨JG (i:=j - 1) (hj1),JH (i:=j - 1) (hj1) Om⟩, ?_⟩
      (conv=> whnf)
      refine ⟨⟨JG (i:=j) (rfl),JH (i:=j) (rfl) Om⟩, ?_⟩
      (conv=> whnf)
      refine ⟨Jl e[j - 1]!,Jap (E:=Jl) (d:=e) (tl:=tl) (j:=j - 1) rfl rfl rfl (JO (i:=j - 1) Jv (hj1)) rfl Jbh rfl Om, ?_⟩
      (conv=> whnf)
      refine ⟨Jl e[j]!,Jap (E:=Jl) (d:=e) (tl:=tl) (j:=j) rfl rfl rfl (JO (i:=j) Jv (rfl)) rfl Jbh rfl Om, ?_⟩
      (conv=> whnf)
      refine ⟨⟨JG (i:=j) (rfl),JH (i:=j) (rfl) Om⟩, ?_⟩
      (conv=> whnf)
      refine ⟨_,Jao (E:=Jl) (d:=e) (tl:=tl) (j:=j) (z:=e[j - 1]!) rfl rfl rfl rfl (JO (i:=j) Jv (rfl)) rfl rfl rfl rfl Kr Jv Om,fun r0 h0 hr0=> ?_⟩;subst hr0
      (conv=> whnf)
      refine ⟨⟨JG (i:=j - 1) (hj1),JH (i:=j - 1) (hj1) Om⟩, ?_⟩
      (conv=> whnf)
      refine ⟨_,Jao (E:=Jl) (d:=(e).setIfInBounds (j) e[j - 1]!) (tl:=tl) (j:=j - 1) (z:=e[j]!) rfl rfl rfl rfl (JO (i:=j - 1) Jv (hj1)) rfl rfl rfl rfl Kr Jv (by simp;omega),fun r0 h0 hr0=> ?_⟩;subst hr0;refine Z ?_;exact back (Go.Sort.swp e j (j - 1),j - 1,nx2) ⟨by dsimp only;rw [← k1];simp [Go.Sort.swp],Dm,k3⟩ Dm (Es rfl rfl ⟨Rf,Rf,Rf,Rf,Jf hj1,Tt⟩)
    ·have hd:decide ((j:Int) > (a:Int))=false:=decide_eq_false Om;rw [Jo0 hja] at k3;subst k3;refine Z ?_
     (refine JJ 15 Kr Kr Kr ?_)
     refine Z ?_
     (conv=> whnf)
     refine JaU hd ?_;refine Z ?_;exact back (_,i+1,nx2) ⟨k1,Dm,Dm,h4⟩ Dm (Es rfl rfl ⟨Rf,Rf,Rf,Lw,Tt⟩)
theorem JsY (d0:Array (Int)) (tl:List AV) (n lo hi F:Nat) (hn:d0.size=n) (hlo:lo≤hi) (hb:F+hi≤n) (hsz:n≤1000000) (s cap nx:Nat):
 ECall Tryz.prog 277 [.hs (0,s) 0 n cap,int lo,int hi,int F] ⟨Jm s d0 tl, [],nx,1⟩ (fun r h'=> ∃nx' nn',h'=⟨Jm s (Go.Sort.siftDown Go.Sort.ltInt hi F lo d0) tl, [],nx',nn'⟩):=by
 refine ECall.wk (Jo Tryz.func277 rfl rfl ?_)
 refine Z ?_
 refine Js (fun y:Array (Int)×Nat×Nat=> mk 76 [(0, .hs (0,s) 0 n cap),(1,int lo),(2,int hi),(3,int F),(8,int y.2.1)] ⟨Jm s y.1 tl, [],y.2.2,1⟩) (fun y=> y.1.size=n∧y.2.1≤hi∧Go.Sort.siftDown Go.Sort.ltInt hi F y.2.1 y.1=Go.Sort.siftDown Go.Sort.ltInt hi F lo d0) (fun y=> hi - y.2.1) ?_ ?_
 ·exact ⟨(d0,lo,nx),⟨hn,hlo,rfl⟩,Je _ _ rfl rfl Sf .slnil Bf Tt Y5⟩
 ·rintro ⟨d,r,nx1⟩ ⟨h1,h2,h3⟩;dsimp only at h1 h2 h3;have hc1:IntKind.i64.wrap (IntKind.i64.wrap (2 * (r:Int))+1)=((2 * r+1:Nat):Int):=by rw [show IntKind.i64.wrap (2 * (r:Int))=((2 * r:Nat):Int) from JdH Om Om];exact JdH Om Om
  refine Jy ?_;refine JQ ?_;refine Jy ?_;refine JiZ (bx:=Jm s d tl) (pm:= []) (nx:=nx1) (nn:=1) (df:=some []) (L:= [(0, .hs (0,s) 0 n cap),(1,int lo),(2,int hi),(3,int F),(8,int r),(9,int (2 * r+1:Nat))]) rfl rfl rfl Sf .slnil ⟨Rf,Rf,Rf,Rf,Rf,Jf hc1,Tt⟩ ?_;refine Z ?_;intro c g;cases c
  ·have g:=Jw g;try dsimp only at g
   have hlt:¬2 * r+1≥hi:=by omega
   have hc2:IntKind.i64.wrap (((2 * r+1:Nat):Int)+1)=((2 * r+2:Nat):Int):=JdH Om Om;refine Jy ?_;refine JeR (fun nx2:Nat=> mk 76 [(0, .hs (0,s) 0 n cap),(1,int lo),(2,int hi),(3,int F),(8,int r),(9,int (Jdm Go.Sort.ltInt hi F r d:Nat))] ⟨Jm s d tl, [],nx2,1⟩) (fun _=> True) ?_ ?_
   ·by_cases hg:2 * r+2 < hi
    ·have hd:decide (IntKind.i64.wrap (((2 * r+1:Nat):Int)+1) < (hi:Int))=true:=decide_eq_true (by rw [hc2];omega);have e1:IntKind.i64.wrap ((F:Int)+((2 * r+1:Nat):Int))=((F+(2 * r+1):Nat):Int):=JdH Om Om;have e2:IntKind.i64.wrap (IntKind.i64.wrap ((F:Int)+((2 * r+1:Nat):Int))+1)=((F+(2 * r+2):Nat):Int):=by rw [e1];exact JdH Om Om
     (refine JJ 20 Kr Kr Kr ?_)
     refine Z ?_
     (conv=> whnf)
     refine JaU hd ?_;refine Z ?_;refine ⟨⟨JG (i:=F+(2 * r+1)) (e1),JH (i:=F+(2 * r+1)) (e1) Om⟩,Jj (b:= .bp (0,s) (F+(2 * r+1))) (congrArg (AV.bp (0,s)) (JO (i:=F+(2 * r+1)) Jv (e1))) ?_⟩
     (conv=> whnf)
     refine ⟨⟨rfl,Jaw (show F+(2 * r+1) < d.size by omega)⟩,Jj (b:=Jl d[F+(2 * r+1)]!) (Jac (show F+(2 * r+1) < d.size by omega)) ?_⟩;refine Z ?_;refine ⟨⟨JG (i:=F+(2 * r+2)) (e2),JH (i:=F+(2 * r+2)) (e2) Om⟩,Jj (b:= .bp (0,s) (F+(2 * r+2))) (congrArg (AV.bp (0,s)) (JO (i:=F+(2 * r+2)) Jv (e2))) ?_⟩
     (conv=> whnf)
     refine ⟨⟨rfl,Jaw (show F+(2 * r+2) < d.size by omega)⟩,Jj (b:=Jl d[F+(2 * r+2)]!) (Jac (show F+(2 * r+2) < d.size by omega)) ?_⟩;refine Z ?_;refine Jaj (JV rfl rfl (Jcu d[F+(2 * r+1)]! d[F+(2 * r+2)]!) Y2 (NoId.v _)) ?_;refine Z ?_;intro c hlt;cases c
     ·have hs:Jdm Go.Sort.ltInt hi F r d=2 * r+1:=if_neg (fun hh=> by rw [← hlt] at hh;cases hh.2);refine Z ?_;rw [hs];exact ⟨nx1,trivial,Je _ _ rfl rfl Sf .slnil Bf Tt Y6⟩
     ·have hs:Jdm Go.Sort.ltInt hi F r d=2 * r+2:=if_pos ⟨hg,hlt.symm⟩;refine Z ?_;rw [hs];exact ⟨nx1,trivial,Je _ _ rfl rfl Sf .slnil Bf Tt ⟨Rf,Rf,Rf,Rf,Rf,Jf hc2,Tt⟩⟩
    ·have hd:decide (IntKind.i64.wrap (((2 * r+1:Nat):Int)+1) < (hi:Int))=false:=decide_eq_false (by rw [hc2];omega);have hs:Jdm Go.Sort.ltInt hi F r d=2 * r+1:=if_neg (fun hh=> hg hh.1)
     (refine JJ 20 Kr Kr Kr ?_)
     refine Z ?_
     (conv=> whnf)
     refine JaU hd ?_;refine Z ?_;rw [hs];exact ⟨nx1,trivial,Je _ _ rfl rfl Sf .slnil Bf Tt Y6⟩
   ·intro nx2 _;have hcc:Jdm Go.Sort.ltInt hi F r d=2 * r+1∨Jdm Go.Sort.ltInt hi F r d=2 * r+2:=(by unfold Jdm;split <;> simp);have hch:Jdm Go.Sort.ltInt hi F r d < hi:=(by unfold Jdm;split <;> omega);have kend:=Jo1 (lt:=Go.Sort.ltInt) (hi:=hi) (F:=F) (root:=r) (d:=d) hlt;have kgo:=Jru (lt:=Go.Sort.ltInt) (hi:=hi) (F:=F) (root:=r) (d:=d) hlt;generalize Jdm Go.Sort.ltInt hi F r d=c at hcc hch kend kgo⊢;have e1:IntKind.i64.wrap ((F:Int)+(r:Int))=((F+r:Nat):Int):=JdH Om Om;have e2:IntKind.i64.wrap ((F:Int)+(c:Int))=((F+c:Nat):Int):=JdH Om Om;refine Z ?_
    (refine JJ 14 Kr Kr Kr ?_)
    refine Z ?_;refine ⟨⟨JG (i:=F+r) (e1),JH (i:=F+r) (e1) Om⟩,Jj (b:= .bp (0,s) (F+r)) (congrArg (AV.bp (0,s)) (JO (i:=F+r) Jv (e1))) ?_⟩
    (conv=> whnf)
    refine ⟨⟨rfl,Jaw (show F+r < d.size by omega)⟩,Jj (b:=Jl d[F+r]!) (Jac (show F+r < d.size by omega)) ?_⟩;refine Z ?_;refine ⟨⟨JG (i:=F+c) (e2),JH (i:=F+c) (e2) Om⟩,Jj (b:= .bp (0,s) (F+c)) (congrArg (AV.bp (0,s)) (JO (i:=F+c) Jv (e2))) ?_⟩
    (conv=> whnf)
    refine ⟨⟨rfl,Jaw (show F+c < d.size by omega)⟩,Jj (b:=Jl d[F+c]!) (Jac (show F+c < d.size by omega)) ?_⟩;refine Z ?_;refine Jaj (JV rfl rfl (Jcu d[F+r]! d[F+c]!) Y2 (NoId.v _)) ?_;refine Z ?_;intro c hlt2;cases c
    ·have hl:Go.Sort.ltInt d[F+r]! d[F+c]! =false:=hlt2.symm;rw [kend hl] at h3;subst h3;refine Z ?_;exact Jt rfl ⟨_,_,Rf,Jr (Jm s (Go.Sort.siftDown Go.Sort.ltInt hi F lo d0) tl) [] rfl Sf .slnil Bf Pf,_,1,rfl⟩
    ·have hl:Go.Sort.ltInt d[F+r]! d[F+c]! =true:=hlt2.symm;rw [kgo hl] at h3;refine Z ?_;refine Jcv 24 (Ef [21,23]) (Ef [13,19]) [0,1,2,3,4,5,6,7,8,9,10,11,12,14,15,16,17,18,13,19,20,21,22,23] Kr Kr ?_
     (conv=> whnf)
     refine ⟨⟨JG (i:=F+c) (e2),JH (i:=F+c) (e2) Om⟩, ?_⟩
     (conv=> whnf)
     refine ⟨⟨JG (i:=F+r) (e1),JH (i:=F+r) (e1) Om⟩, ?_⟩
     (conv=> whnf)
     refine ⟨Jl d[F+c]!,Jap (E:=Jl) (d:=d) (tl:=tl) (j:=F+c) rfl rfl rfl (JO (i:=F+c) Jv (e2)) rfl Jbh rfl Om, ?_⟩
     (conv=> whnf)
     refine ⟨Jl d[F+r]!,Jap (E:=Jl) (d:=d) (tl:=tl) (j:=F+r) rfl rfl rfl (JO (i:=F+r) Jv (e1)) rfl Jbh rfl Om, ?_⟩
     (conv=> whnf)
     refine ⟨⟨JG (i:=F+r) (e1),JH (i:=F+r) (e1) Om⟩, ?_⟩
     (conv=> whnf)
     refine ⟨_,Jao (E:=Jl) (d:=d) (tl:=tl) (j:=F+r) (z:=d[F+c]!) rfl rfl rfl rfl (JO (i:=F+r) Jv (e1)) rfl rfl rfl rfl Kr Jv Om,fun r0 h0 hr0=> ?_⟩;subst hr0
     (conv=> whnf)
     refine ⟨⟨JG (i:=F+c) (e2),JH (i:=F+c) (e2) Om⟩, ?_⟩
     (conv=> whnf)
     refine ⟨_,Jao (E:=Jl) (d:=(d).setIfInBounds (F+r) d[F+c]!) (tl:=tl) (j:=F+c) (z:=d[F+r]!) rfl rfl rfl rfl (JO (i:=F+c) Jv (e2)) rfl rfl rfl rfl Kr Jv (by simp;omega),fun r0 h0 hr0=> ?_⟩;subst hr0;refine Z ?_;exact back (Go.Sort.swp d (F+r) (F+c),c,nx2) ⟨by dsimp only;rw [JbS];exact h1,Dm,h3⟩ Dm (Es rfl rfl Y5)
  ·have g:=Ju g;try dsimp only at g
   rw [Jjb Om] at h3;subst h3;refine Z ?_;exact Jt rfl ⟨_,_,Rf,Jr (Jm s (Go.Sort.siftDown Go.Sort.ltInt hi F lo d0) tl) [] rfl Sf .slnil Bf Pf,_,1,rfl⟩
theorem JBa (d0:Array (Int)) (tl:List AV) (n a b:Nat) (hn:d0.size=n) (hab:a≤b) (hb:b≤n) (hsz:n≤1000000) (s cap nx:Nat):
 ECall Tryz.prog 200 [.hs (0,s) 0 n cap,int a,int b] ⟨Jm s d0 tl, [],nx,1⟩ (fun r h'=> ∃nx' nn',h'=⟨Jm s (Go.Sort.heapSort Go.Sort.ltInt d0 a b) tl, [],nx',nn'⟩):=by
 refine ECall.wk (Jo Tryz.func200 rfl rfl ?_)
 have hq:Go.Sort.heapSort Go.Sort.ltInt d0 a b=Go.Sort.heapPop Go.Sort.ltInt a (b - a) (Go.Sort.heapBuild Go.Sort.ltInt (b - a) a ((b - a - 1) / 2+1) d0):=rfl
 have eh:IntKind.i64.wrap ((b:Int) - (a:Int))=((b - a:Nat):Int):=JdH Om Om
 have hab':a+(b - a)≤n:=by omega
 generalize b - a=m at hq eh hab'
 have e1:IntKind.i64.wrap (Int.tdiv (IntKind.i64.wrap ((m:Int) - 1)) 2)=(((m - 1) / 2+1:Nat):Int) - 1:=by
  rw [Jq (n:=(m:Int) - 1) Om Om];rcases Nat.eq_zero_or_pos m with h | h
  ·subst h;decide
  ·rw [show (m:Int) - 1=((m - 1:Nat):Int) by omega,show Int.tdiv ((m - 1:Nat):Int) 2=(((m - 1) / 2:Nat):Int) from rfl];rw [Jq Om Om];omega
 have hm0:(m - 1) / 2+1≤m+1:=by omega
 generalize hk0:(m - 1) / 2+1=k0 at hq e1 hm0
 have hk00:k0≤m∨(m=0∧k0=1):=by omega
 rw [hq]
 (refine Jy ?_;refine JQ ?_;refine Jy ?_;refine JQ ?_;refine Jy ?_;refine JQ ?_;refine Jy ?_)
 refine JiZ (bx:=Jm s d0 tl) (pm:= []) (nx:=nx) (nn:=1) (df:=some []) (L:= [(0, .hs (0,s) 0 n cap),(1,int a),(2,int b),(6,int a),(7,int (0:Nat)),(8,int m)]) rfl rfl rfl Sf .slnil ⟨Rf,Rf,Rf,Rf,Rf,Jf eh,Tt⟩ ?_
 refine Z ?_
 refine Jbj (fun y:Array (Int)×Nat=> mk 56 [(0, .hs (0,s) 0 n cap),(6,int a),(7,int (0:Nat)),(8,int m)] ⟨Jm s y.1 tl, [],y.2,1⟩) (fun y=> y.1.size=n∧y.1=Go.Sort.heapBuild Go.Sort.ltInt m a k0 d0) ?_ ?_
 ·refine Js (fun y:Array (Int)×Nat×Nat=> mk 56 [(0, .hs (0,s) 0 n cap),(6,int a),(7,int (0:Nat)),(8,int m),(9,int ((y.2.1:Int) - 1))] ⟨Jm s y.1 tl, [],y.2.2,1⟩) (fun y=> y.1.size=n∧y.2.1≤k0∧Go.Sort.heapBuild Go.Sort.ltInt m a y.2.1 y.1=Go.Sort.heapBuild Go.Sort.ltInt m a k0 d0) (fun y=> y.2.1) ?_ ?_
  ·exact ⟨(d0,k0,nx),⟨hn,Nat.le_refl _,rfl⟩,Je _ _ rfl rfl Sf .slnil Bf Tt ⟨Rf,Rf,Rf,Rf,Jf e1,Tt⟩⟩
  ·rintro ⟨d,k,nx1⟩ ⟨h1,h2,h3⟩;dsimp only at h1 h2 h3;refine Z ?_;intro c g;cases c
   ·have g:=Jw g;try dsimp only at g
    obtain rfl:k=0:=(by omega);refine Z ?_;exact ⟨(d,nx1),⟨h1,h3⟩,Je _ _ rfl rfl Sf .slnil Bf Tt Y4⟩
   ·have g:=Ju g;try dsimp only at g
    obtain ⟨k,rfl⟩:∃k',k=k'+1:=⟨k - 1,Om⟩;refine Z ?_;refine Jg (xs:= [.hs (0,s) 0 n cap,int k,int m,int a]) [] [] 1 rfl rfl rfl rfl ⟨Rf,Jf Bo,Y2⟩ (JsY d tl n k m a h1 Om Om hsz s cap nx1) Bf Pf rfl fun r h' hq=> ?_;obtain ⟨nx2,nn',rfl⟩:=hq;refine Z ?_;exact back (_,k,nx2) ⟨by dsimp only;rw [JmV _ _ _ (Nat.le_refl _)];exact h1,Dm,h3⟩ Dm (Es rfl rfl ⟨Rf,Rf,Rf,Rf,Jf (by rw [Jq Bo Bo];first | omega | (dsimp only;omega)),Tt⟩)
 ·rintro ⟨d1,nx1⟩ ⟨h1,h2⟩;dsimp only at h1 h2;refine Z ?_;refine Js (fun y:Array (Int)×Nat×Nat=> mk 56 [(0, .hs (0,s) 0 n cap),(6,int a),(7,int (0:Nat)),(8,int m),(10,int ((y.2.1:Int) - 1))] ⟨Jm s y.1 tl, [],y.2.2,1⟩) (fun y=> y.1.size=n∧y.2.1≤m∧Go.Sort.heapPop Go.Sort.ltInt a y.2.1 y.1=Go.Sort.heapPop Go.Sort.ltInt a m (Go.Sort.heapBuild Go.Sort.ltInt m a k0 d0)) (fun y=> y.2.1) ?_ ?_
  ·exact ⟨(d1,m,nx1),⟨h1,Nat.le_refl _,by dsimp only;rw [h2]⟩,Je _ _ rfl rfl Sf .slnil Bf Tt ⟨Rf,Rf,Rf,Rf,Jf (by rw [Jq Bo Bo]),Tt⟩⟩
  ·rintro ⟨d,k,nx2⟩ ⟨k1,k2,k3⟩;dsimp only at k1 k2 k3;refine Z ?_;intro c g;cases c
   ·have g:=Jw g;try dsimp only at g
    obtain rfl:k=0:=(by omega);refine Z ?_;rw [← k3];exact Jt rfl ⟨_,_,Rf,Jr (Jm s (d) tl) [] rfl Sf .slnil Bf Pf,_,1,rfl⟩
   ·have g:=Ju g;try dsimp only at g
    obtain ⟨k,rfl⟩:∃k',k=k'+1:=⟨k - 1,Om⟩;have ek:IntKind.i64.wrap ((a:Int)+(((k+1:Nat):Int) - 1))=((a+k:Nat):Int):=(by rw [Jq Om Om];omega);refine Z ?_;refine Jcv 20 (Ef [17,19]) (Ef [11,15]) [0,1,2,3,4,5,6,7,8,9,10,12,13,14,11,15,16,17,18,19] Kr Kr ?_
    (conv=> whnf)
    refine ⟨⟨JG (i:=a+k) (ek),JH (i:=a+k) (ek) Om⟩, ?_⟩
    (conv=> whnf)
    refine ⟨⟨JG (i:=a) (rfl),JH (i:=a) (rfl) Om⟩, ?_⟩
    (conv=> whnf)
    refine ⟨Jl d[a+k]!,Jap (E:=Jl) (d:=d) (tl:=tl) (j:=a+k) rfl rfl rfl (JO (i:=a+k) Jv (ek)) rfl Jbh rfl Om, ?_⟩
    (conv=> whnf)
    refine ⟨Jl d[a]!,Jap (E:=Jl) (d:=d) (tl:=tl) (j:=a) rfl rfl rfl (JO (i:=a) Jv (rfl)) rfl Jbh rfl Om, ?_⟩
    (conv=> whnf)
    refine ⟨⟨JG (i:=a) (rfl),JH (i:=a) (rfl) Om⟩, ?_⟩
    (conv=> whnf)
    refine ⟨_,Jao (E:=Jl) (d:=d) (tl:=tl) (j:=a) (z:=d[a+k]!) rfl rfl rfl rfl (JO (i:=a) Jv (rfl)) rfl rfl rfl rfl Kr Jv Om,fun r0 h0 hr0=> ?_⟩;subst hr0
    (conv=> whnf)
    refine ⟨⟨JG (i:=a+k) (ek),JH (i:=a+k) (ek) Om⟩, ?_⟩
    (conv=> whnf)
    refine ⟨_,Jao (E:=Jl) (d:=(d).setIfInBounds (a) d[a+k]!) (tl:=tl) (j:=a+k) (z:=d[a]!) rfl rfl rfl rfl (JO (i:=a+k) Jv (ek)) rfl rfl rfl rfl Kr Jv (by simp;omega),fun r0 h0 hr0=> ?_⟩;subst hr0;refine Z ?_;refine Jg (xs:= [.hs (0,s) 0 n cap,int (0:Nat),int k,int a]) [] [] 1 rfl rfl rfl rfl ⟨Rf,Rf,Jf Bo,Y1⟩ (JsY (Go.Sort.swp d a (a+k)) tl n 0 k a (by rw [JbS];exact k1) Om Om hsz s cap nx2) Bf Pf rfl fun r h' hq=> ?_;obtain ⟨nx3,nn',rfl⟩:=hq;refine Z ?_;exact back (_,k,nx3) ⟨by dsimp only;rw [JmV _ _ _ (Nat.le_refl _),JbS];exact k1,Dm,k3⟩ Dm (Es rfl rfl ⟨Rf,Rf,Rf,Rf,Jf (by rw [Jq Bo Bo];first | omega | (dsimp only;omega)),Tt⟩)
theorem JCW (d0:Array (Int)) (tl:List AV) (n a b:Nat) (hn:d0.size=n) (hab:a < b) (hb:b≤n) (hsz:n≤1000000) (s cap nx:Nat):
 ECall Tryz.prog 203 [.hs (0,s) 0 n cap,int a,int b] ⟨Jm s d0 tl, [],nx,1⟩ (fun r h'=> ∃nx' nn',h'=⟨Jm s (Go.Sort.reverseRange d0 a b) tl, [],nx',nn'⟩):=by
 refine ECall.wk (Jo Tryz.func203 rfl rfl ?_)
 refine Z ?_
 refine Js (fun y:Array (Int)×(Nat×Nat)×Nat=> mk 32 [(0, .hs (0,s) 0 n cap),(6,int y.2.1.1),(7,int y.2.1.2)] ⟨Jm s y.1 tl, [],y.2.2,1⟩) (fun y=> y.1.size=n∧y.2.1.2 < n∧y.2.1.1≤n∧Go.Sort.reverseLoop y.2.1.1 y.2.1.2 y.1=Go.Sort.reverseRange d0 a b) (fun y=> y.2.1.2 - y.2.1.1) ?_ ?_
 ·exact ⟨(d0,(a,b - 1),nx),⟨hn,Dm,Dm,rfl⟩,Je _ _ rfl rfl Sf .slnil Bf Tt ⟨Rf,Rf,Jf (by rw [Jq Bo Bo];first | omega | (dsimp only;omega)),Tt⟩⟩
 ·rintro ⟨d,⟨i,j⟩,nx1⟩ ⟨h1,h2,h3,h4⟩;dsimp only at h1 h2 h3 h4;refine Z ?_;intro c g;cases c
  ·have g:=Jw g;try dsimp only at g
   rw [Go.Sort.reverseLoop,if_neg Om] at h4;refine Z ?_;rw [← h4];exact Jt rfl ⟨_,_,Rf,Jr (Jm s (d) tl) [] rfl Sf .slnil Bf Pf,_,1,rfl⟩
  ·have g:=Ju g;try dsimp only at g
   have hij:i < j:=by omega
   rw [Go.Sort.reverseLoop,if_pos hij] at h4;refine Z ?_;refine Jcv 16 (Ef [13,15]) (Ef [7,11]) [0,1,2,3,4,5,6,8,9,10,7,11,12,13,14,15] Kr Kr ?_
   (conv=> whnf)
   refine ⟨⟨JG (i:=j) (rfl),JH (i:=j) (rfl) Om⟩, ?_⟩
   (conv=> whnf)
   refine ⟨⟨JG (i:=i) (rfl),JH (i:=i) (rfl) Om⟩, ?_⟩
   (conv=> whnf)
   refine ⟨Jl d[j]!,Jap (E:=Jl) (d:=d) (tl:=tl) (j:=j) rfl rfl rfl (JO (i:=j) Jv (rfl)) rfl Jbh rfl Om, ?_⟩
   (conv=> whnf)
   refine ⟨Jl d[i]!,Jap (E:=Jl) (d:=d) (tl:=tl) (j:=i) rfl rfl rfl (JO (i:=i) Jv (rfl)) rfl Jbh rfl Om, ?_⟩
   (conv=> whnf)
   refine ⟨⟨JG (i:=i) (rfl),JH (i:=i) (rfl) Om⟩, ?_⟩
   (conv=> whnf)
   refine ⟨_,Jao (E:=Jl) (d:=d) (tl:=tl) (j:=i) (z:=d[j]!) rfl rfl rfl rfl (JO (i:=i) Jv (rfl)) rfl rfl rfl rfl Kr Jv Om,fun r0 h0 hr0=> ?_⟩;subst hr0
   (conv=> whnf)
   refine ⟨⟨JG (i:=j) (rfl),JH (i:=j) (rfl) Om⟩, ?_⟩
   (conv=> whnf)
   refine ⟨_,Jao (E:=Jl) (d:=(d).setIfInBounds (i) d[j]!) (tl:=tl) (j:=j) (z:=d[i]!) rfl rfl rfl rfl (JO (i:=j) Jv (rfl)) rfl rfl rfl rfl Kr Jv (by simp;omega),fun r0 h0 hr0=> ?_⟩;subst hr0;refine Z ?_;exact back (Go.Sort.swp d i j,(i+1,j - 1),nx1) ⟨by dsimp only;rw [JbS];exact h1,Dm,Dm,h4⟩ Dm (Es rfl rfl ⟨Rf,Lw,Jf (by rw [Jq Bo Bo];first | omega | (dsimp only;omega)),Tt⟩)
theorem JBb (d0:Array (Int)) (tl:List AV) (n a b p:Nat) (hn:d0.size=n) (hap:a≤p) (hpb:p < b) (hb:b≤n) (hsz:n≤1000000) (s cap nx:Nat):
 ECall Tryz.prog 207 [.hs (0,s) 0 n cap,int a,int b,int p] ⟨Jm s d0 tl, [],nx,1⟩ (fun r h'=> ∃fl nx' nn',r= .tup [int (Go.Sort.partition Go.Sort.ltInt d0 a b p).1, .v (.bool fl)]∧h'=⟨Jm s (Go.Sort.partition Go.Sort.ltInt d0 a b p).2.2 tl, [],nx',nn'⟩):=by
 refine ECall.wk (Jo Tryz.func207 rfl rfl ?_)
 refine Z ?_
 refine Jcv 16 (Ef [13,15]) (Ef [7,11]) [0,1,2,3,4,5,6,8,9,10,7,11,12,13,14,15] Kr Kr ?_
 (conv=> whnf)
 refine ⟨⟨JG (i:=p) (rfl),JH (i:=p) (rfl) Om⟩, ?_⟩
 (conv=> whnf)
 refine ⟨⟨JG (i:=a) (rfl),JH (i:=a) (rfl) Om⟩, ?_⟩
 (conv=> whnf)
 refine ⟨Jl d0[p]!,Jap (E:=Jl) (d:=d0) (tl:=tl) (j:=p) rfl rfl rfl (JO (i:=p) Jv (rfl)) rfl Jbh rfl Om, ?_⟩
 (conv=> whnf)
 refine ⟨Jl d0[a]!,Jap (E:=Jl) (d:=d0) (tl:=tl) (j:=a) rfl rfl rfl (JO (i:=a) Jv (rfl)) rfl Jbh rfl Om, ?_⟩
 (conv=> whnf)
 refine ⟨⟨JG (i:=a) (rfl),JH (i:=a) (rfl) Om⟩, ?_⟩
 (conv=> whnf)
 refine ⟨_,Jao (E:=Jl) (d:=d0) (tl:=tl) (j:=a) (z:=d0[p]!) rfl rfl rfl rfl (JO (i:=a) Jv (rfl)) rfl rfl rfl rfl Kr Jv Om,fun r0 h0 hr0=> ?_⟩
 subst hr0
 (conv=> whnf)
 refine ⟨⟨JG (i:=p) (rfl),JH (i:=p) (rfl) Om⟩, ?_⟩
 (conv=> whnf)
 refine ⟨_,Jao (E:=Jl) (d:=(d0).setIfInBounds (a) d0[p]!) (tl:=tl) (j:=p) (z:=d0[a]!) rfl rfl rfl rfl (JO (i:=p) Jv (rfl)) rfl rfl rfl rfl Kr Jv (by simp;omega),fun r0 h0 hr0=> ?_⟩
 subst hr0
 refine Z ?_
 have hnow:=fun i j=> Jxz (lt:=Go.Sort.ltInt) (d:=d0) (a:=a) (b:=b) (p:=p) (i:=i) (j:=j)
 have hgo:=fun i j=> Jz6 (lt:=Go.Sort.ltInt) (d:=d0) (a:=a) (b:=b) (p:=p) (i:=i) (j:=j)
 have h1n:(Go.Sort.swp d0 a p).size=n:=by rw [JbS];exact hn
 refine AW.le (E':=mk 168 [(0, .hs (0,s) 0 n cap),(1,int a),(10,int (a+1:Nat)),(11,int (b - 1:Nat))] ⟨Jm s (Go.Sort.swp d0 a p) tl, [],nx,1⟩) (Es rfl rfl ⟨Rf,Rf,Jf (Jx Om),Jf (by rw [Jq Om Om];omega),Tt⟩) ?_
 generalize Go.Sort.swp d0 a p=d at hnow hgo h1n
 generalize hP:Go.Sort.partition Go.Sort.ltInt d0 a b p=Pt at hnow hgo⊢
 refine Jbj (fun y:Nat×Nat=> mk 168 [(0, .hs (0,s) 0 n cap),(1,int a),(10,int y.1),(11,int (b - 1:Nat))] ⟨Jm s d tl, [],y.2,1⟩) (fun y=> (a+1:Nat)≤y.1∧y.1≤n+2∧y.1=Go.Sort.scanUp (fun x=> Go.Sort.ltInt x d[a]!) d (b - 1:Nat) (a+1:Nat)) ?_ ?_
 ·refine Js (fun y:Nat×Nat=> mk 168 [(0, .hs (0,s) 0 n cap),(1,int a),(10,int y.1),(11,int (b - 1:Nat))] ⟨Jm s d tl, [],y.2,1⟩) (fun y=> (a+1:Nat)≤y.1∧y.1≤n+2∧Go.Sort.scanUp (fun x=> Go.Sort.ltInt x d[a]!) d (b - 1:Nat) y.1=Go.Sort.scanUp (fun x=> Go.Sort.ltInt x d[a]!) d (b - 1:Nat) (a+1:Nat)) (fun y=> (b - 1:Nat)+1 - y.1) ?_ ?_
  ·exact ⟨((a+1:Nat),_),⟨Nat.le_refl _,Dm,rfl⟩,Je _ _ rfl rfl Sf .slnil Bf Tt Y4⟩
  ·rintro ⟨k,nx1⟩ ⟨h1,h2,h3⟩;dsimp only at h1 h2 h3;by_cases hij:k≤(b - 1:Nat)
   ·have hd:decide (((k:Nat):Int)≤(((b - 1:Nat):Nat):Int))=true:=decide_eq_true Om;refine Z ?_
    (refine JJ 14 Kr Kr Kr ?_)
    refine Z ?_
    (conv=> whnf)
    refine JaU hd ?_;refine Z ?_;refine ⟨⟨JG (i:=k) (rfl),JH (i:=k) (rfl) Om⟩,Jj (b:= .bp (0,s) (k)) (congrArg (AV.bp (0,s)) (JO (i:=k) Jv (rfl))) ?_⟩
    (conv=> whnf)
    refine ⟨⟨rfl,Jaw (show k < d.size by omega)⟩,Jj (b:=Jl d[k]!) (Jac (show k < d.size by omega)) ?_⟩;refine Z ?_;refine ⟨⟨JG (i:=a) (rfl),JH (i:=a) (rfl) Om⟩,Jj (b:= .bp (0,s) (a)) (congrArg (AV.bp (0,s)) (JO (i:=a) Jv (rfl))) ?_⟩
    (conv=> whnf)
    refine ⟨⟨rfl,Jaw (show a < d.size by omega)⟩,Jj (b:=Jl d[a]!) (Jac (show a < d.size by omega)) ?_⟩;refine Z ?_;refine Jaj (JV rfl rfl (Jcu d[k]! d[a]!) Y2 (NoId.v _)) ?_;refine Z ?_;intro c hlt;cases c
    ·have hl:(fun x=> Go.Sort.ltInt x d[a]!) d[k]! =false:=hlt.symm;rw [JdN (p:=fun x=> Go.Sort.ltInt x d[a]!) (d:=d) (i:=k) (fun hh=> Bool.false_ne_true (hl.symm.trans hh.2))] at h3;refine Z ?_;exact ⟨(k,nx1),⟨h1,h2,h3⟩,Je _ _ rfl rfl Sf .slnil Bf Tt Y4⟩
    ·have hl:(fun x=> Go.Sort.ltInt x d[a]!) d[k]! =true:=hlt.symm;rw [Jii (p:=fun x=> Go.Sort.ltInt x d[a]!) (d:=d) (i:=k) hij hl] at h3;refine Z ?_;exact back (k+1,nx1) ⟨Dm,Dm,h3⟩ Dm (Es rfl rfl ⟨Rf,Rf,Jf (Jx Dm),Y1⟩)
   ·have hd:decide (((k:Nat):Int)≤(((b - 1:Nat):Nat):Int))=false:=decide_eq_false Om;rw [JdN (p:=fun x=> Go.Sort.ltInt x d[a]!) (d:=d) (i:=k) (fun hh=> hij hh.1)] at h3;refine Z ?_
    (refine JJ 14 Kr Kr Kr ?_)
    refine Z ?_
    (conv=> whnf)
    refine JaU hd ?_;refine Z ?_;exact ⟨(k,nx1),⟨h1,h2,h3⟩,Je _ _ rfl rfl Sf .slnil Bf Tt Y4⟩
 rintro ⟨i,nx1⟩ ⟨hi1,hi2,hi3⟩
 dsimp only at hi1 hi2 hi3
 refine Z ?_
 refine Jbj (fun y:Nat×Nat=> mk 168 [(0, .hs (0,s) 0 n cap),(1,int a),(10,int i),(11,int y.1)] ⟨Jm s d tl, [],y.2,1⟩) (fun y=> y.1≤(b - 1:Nat)∧y.1=Go.Sort.scanDown (fun x=> !Go.Sort.ltInt x d[a]!) d i (b - 1:Nat)) ?_ ?_
 ·refine Js (fun y:Nat×Nat=> mk 168 [(0, .hs (0,s) 0 n cap),(1,int a),(10,int i),(11,int y.1)] ⟨Jm s d tl, [],y.2,1⟩) (fun y=> y.1≤(b - 1:Nat)∧Go.Sort.scanDown (fun x=> !Go.Sort.ltInt x d[a]!) d i y.1=Go.Sort.scanDown (fun x=> !Go.Sort.ltInt x d[a]!) d i (b - 1:Nat)) (fun y=> y.1) ?_ ?_
  ·exact ⟨((b - 1:Nat),_),⟨Nat.le_refl _,rfl⟩,Je _ _ rfl rfl Sf .slnil Bf Tt Y4⟩
  ·rintro ⟨k,nx1⟩ ⟨h2,h3⟩;dsimp only at h2 h3;by_cases hij:i≤k
   ·have hd:decide (((i:Nat):Int)≤((k:Nat):Int))=true:=decide_eq_true Om;refine Z ?_
    (refine JJ 15 Kr Kr Kr ?_)
    refine Z ?_
    (conv=> whnf)
    refine JaU hd ?_;refine Z ?_;refine ⟨⟨JG (i:=k) (rfl),JH (i:=k) (rfl) Om⟩,Jj (b:= .bp (0,s) (k)) (congrArg (AV.bp (0,s)) (JO (i:=k) Jv (rfl))) ?_⟩
    (conv=> whnf)
    refine ⟨⟨rfl,Jaw (show k < d.size by omega)⟩,Jj (b:=Jl d[k]!) (Jac (show k < d.size by omega)) ?_⟩;refine Z ?_;refine ⟨⟨JG (i:=a) (rfl),JH (i:=a) (rfl) Om⟩,Jj (b:= .bp (0,s) (a)) (congrArg (AV.bp (0,s)) (JO (i:=a) Jv (rfl))) ?_⟩
    (conv=> whnf)
    refine ⟨⟨rfl,Jaw (show a < d.size by omega)⟩,Jj (b:=Jl d[a]!) (Jac (show a < d.size by omega)) ?_⟩;refine Z ?_;refine Jaj (JV rfl rfl (Jcu d[k]! d[a]!) Y2 (NoId.v _)) ?_;refine Z ?_;intro c hlt;cases c
    ·have hl:(fun x=> !Go.Sort.ltInt x d[a]!) d[k]! =true:=(congrArg Bool.not hlt).symm;rw [Jij (p:=fun x=> !Go.Sort.ltInt x d[a]!) (d:=d) (j:=k) Om hij hl] at h3;refine Z ?_;exact back (k - 1,nx1) ⟨Dm,h3⟩ Dm (Es rfl rfl ⟨Rf,Rf,Rf,Jf (by rw [Jq Dm Dm];dsimp only;omega),Tt⟩)
    ·have hl:(fun x=> !Go.Sort.ltInt x d[a]!) d[k]! =false:=(congrArg Bool.not hlt).symm;rw [JdO (p:=fun x=> !Go.Sort.ltInt x d[a]!) (d:=d) (j:=k) (fun hh=> Bool.false_ne_true (hl.symm.trans hh.2))] at h3;refine Z ?_;exact ⟨(k,nx1),⟨h2,h3⟩,Je _ _ rfl rfl Sf .slnil Bf Tt Y4⟩
   ·have hd:decide (((i:Nat):Int)≤((k:Nat):Int))=false:=decide_eq_false Om;rw [JdO (p:=fun x=> !Go.Sort.ltInt x d[a]!) (d:=d) (j:=k) (fun hh=> hij hh.1)] at h3;refine Z ?_
    (refine JJ 15 Kr Kr Kr ?_)
    refine Z ?_
    (conv=> whnf)
    refine JaU hd ?_;refine Z ?_;exact ⟨(k,nx1),⟨h2,h3⟩,Je _ _ rfl rfl Sf .slnil Bf Tt Y4⟩
 rintro ⟨j,nx2⟩ ⟨hj1,hj2⟩
 dsimp only at hj1 hj2
 refine Z ?_
 intro c g;cases c
 ·have g:=Jw g;try dsimp only at g
  have hP:=(hgo i j hi3 hj2 Om);have hij:i≤j:=by omega
  refine Z ?_;refine Jcv 16 (Ef [13,15]) (Ef [7,11]) [0,1,2,3,4,5,6,8,9,10,7,11,12,13,14,15] Kr Kr ?_
  (conv=> whnf)
  refine ⟨⟨JG (i:=j) (rfl),JH (i:=j) (rfl) Om⟩, ?_⟩
  (conv=> whnf)
  refine ⟨⟨JG (i:=i) (rfl),JH (i:=i) (rfl) Om⟩, ?_⟩
  (conv=> whnf)
  refine ⟨Jl d[j]!,Jap (E:=Jl) (d:=d) (tl:=tl) (j:=j) rfl rfl rfl (JO (i:=j) Jv (rfl)) rfl Jbh rfl Om, ?_⟩
  (conv=> whnf)
  refine ⟨Jl d[i]!,Jap (E:=Jl) (d:=d) (tl:=tl) (j:=i) rfl rfl rfl (JO (i:=i) Jv (rfl)) rfl Jbh rfl Om, ?_⟩
  (conv=> whnf)
  refine ⟨⟨JG (i:=i) (rfl),JH (i:=i) (rfl) Om⟩, ?_⟩
  (conv=> whnf)
  refine ⟨_,Jao (E:=Jl) (d:=d) (tl:=tl) (j:=i) (z:=d[j]!) rfl rfl rfl rfl (JO (i:=i) Jv (rfl)) rfl rfl rfl rfl Kr Jv Om,fun r0 h0 hr0=> ?_⟩;subst hr0
  (conv=> whnf)
  refine ⟨⟨JG (i:=j) (rfl),JH (i:=j) (rfl) Om⟩, ?_⟩
  (conv=> whnf)
  refine ⟨_,Jao (E:=Jl) (d:=(d).setIfInBounds (i) d[j]!) (tl:=tl) (j:=j) (z:=d[i]!) rfl rfl rfl rfl (JO (i:=j) Jv (rfl)) rfl rfl rfl rfl Kr Jv (by simp;omega),fun r0 h0 hr0=> ?_⟩;subst hr0;refine Z ?_;have h2n:(Go.Sort.swp d i j).size=n:=by rw [JbS];exact h1n
  clear hnow hgo;refine AW.le (E':=mk 168 [(0, .hs (0,s) 0 n cap),(1,int a),(10,int (i+1:Nat)),(11,int (j - 1:Nat))] ⟨Jm s (Go.Sort.swp d i j) tl, [],nx2,1⟩) (Es rfl rfl ⟨Rf,Rf,Jf (Jx Om),Jf (by rw [Jq Om Om];omega),Tt⟩) ?_;have hi1':1≤i+1:=by omega
  have hi2':i+1≤n+2:=by omega
  have hj1':j - 1 < n:=by omega
  generalize Go.Sort.swp d i j=e0 at hP h2n⊢;generalize i+1=i0 at hP hi1' hi2'⊢;generalize j - 1=j0 at hP hj1'⊢;refine Jbj (fun y:Array (Int)×Nat×Nat=> mk 168 [(0, .hs (0,s) 0 n cap),(1,int a),(11,int y.2.1)] ⟨Jm s y.1 tl, [],y.2.2,1⟩) (fun y=> y.1.size=n∧y.2.1 < n∧(y.2.1,y.1)=Go.Sort.partLoop Go.Sort.ltInt a i0 j0 e0) ?_ ?_
  ·refine Js (fun y:Array (Int)×(Nat×Nat)×Nat=> mk 168 [(0, .hs (0,s) 0 n cap),(1,int a),(10,int y.2.1.1),(11,int y.2.1.2)] ⟨Jm s y.1 tl, [],y.2.2,1⟩) (fun y=> y.1.size=n∧1≤y.2.1.1∧y.2.1.1≤n+2∧y.2.1.2 < n∧Go.Sort.partLoop Go.Sort.ltInt a y.2.1.1 y.2.1.2 y.1=Go.Sort.partLoop Go.Sort.ltInt a i0 j0 e0) (fun y=> y.2.1.2+1 - y.2.1.1) ?_ ?_
   ·exact ⟨(e0,(i0,j0),_),⟨h2n,hi1',hi2',hj1',rfl⟩,Je _ _ rfl rfl Sf .slnil Bf Tt Y4⟩
   ·rintro ⟨e,⟨i,j⟩,nx3⟩ ⟨m1,m2,m3,m4,m5⟩;dsimp only at m1 m2 m3 m4 m5;rw [Go.Sort.partLoop_eq] at m5;refine Z ?_;refine Jbj (fun y:Nat×Nat=> mk 168 [(0, .hs (0,s) 0 n cap),(1,int a),(10,int y.1),(11,int j)] ⟨Jm s e tl, [],y.2,1⟩) (fun y=> i≤y.1∧y.1≤n+2∧y.1=Go.Sort.scanUp (fun x=> Go.Sort.ltInt x e[a]!) e j i) ?_ ?_
    ·refine Js (fun y:Nat×Nat=> mk 168 [(0, .hs (0,s) 0 n cap),(1,int a),(10,int y.1),(11,int j)] ⟨Jm s e tl, [],y.2,1⟩) (fun y=> i≤y.1∧y.1≤n+2∧Go.Sort.scanUp (fun x=> Go.Sort.ltInt x e[a]!) e j y.1=Go.Sort.scanUp (fun x=> Go.Sort.ltInt x e[a]!) e j i) (fun y=> j+1 - y.1) ?_ ?_
     ·exact ⟨(i,_),⟨Nat.le_refl _,Dm,rfl⟩,Je _ _ rfl rfl Sf .slnil Bf Tt Y4⟩
     ·rintro ⟨k,nx1⟩ ⟨h1,h2,h3⟩;dsimp only at h1 h2 h3;by_cases hij:k≤j
      ·have hd:decide (((k:Nat):Int)≤((j:Nat):Int))=true:=decide_eq_true Om;refine Z ?_
       (refine JJ 14 Kr Kr Kr ?_)
       refine Z ?_
       (conv=> whnf)
       refine JaU hd ?_;refine Z ?_;refine ⟨⟨JG (i:=k) (rfl),JH (i:=k) (rfl) Om⟩,Jj (b:= .bp (0,s) (k)) (congrArg (AV.bp (0,s)) (JO (i:=k) Jv (rfl))) ?_⟩
       (conv=> whnf)
       refine ⟨⟨rfl,Jaw (show k < e.size by omega)⟩,Jj (b:=Jl e[k]!) (Jac (show k < e.size by omega)) ?_⟩;refine Z ?_;refine ⟨⟨JG (i:=a) (rfl),JH (i:=a) (rfl) Om⟩,Jj (b:= .bp (0,s) (a)) (congrArg (AV.bp (0,s)) (JO (i:=a) Jv (rfl))) ?_⟩
       (conv=> whnf)
       refine ⟨⟨rfl,Jaw (show a < e.size by omega)⟩,Jj (b:=Jl e[a]!) (Jac (show a < e.size by omega)) ?_⟩;refine Z ?_;refine Jaj (JV rfl rfl (Jcu e[k]! e[a]!) Y2 (NoId.v _)) ?_;refine Z ?_;intro c hlt;cases c
       ·have hl:(fun x=> Go.Sort.ltInt x e[a]!) e[k]! =false:=hlt.symm;rw [JdN (p:=fun x=> Go.Sort.ltInt x e[a]!) (d:=e) (i:=k) (fun hh=> Bool.false_ne_true (hl.symm.trans hh.2))] at h3;refine Z ?_;exact ⟨(k,nx1),⟨h1,h2,h3⟩,Je _ _ rfl rfl Sf .slnil Bf Tt Y4⟩
       ·have hl:(fun x=> Go.Sort.ltInt x e[a]!) e[k]! =true:=hlt.symm;rw [Jii (p:=fun x=> Go.Sort.ltInt x e[a]!) (d:=e) (i:=k) hij hl] at h3;refine Z ?_;exact back (k+1,nx1) ⟨Dm,Dm,h3⟩ Dm (Es rfl rfl ⟨Rf,Rf,Jf (Jx Dm),Y1⟩)
      ·have hd:decide (((k:Nat):Int)≤((j:Nat):Int))=false:=decide_eq_false Om;rw [JdN (p:=fun x=> Go.Sort.ltInt x e[a]!) (d:=e) (i:=k) (fun hh=> hij hh.1)] at h3;refine Z ?_
       (refine JJ 14 Kr Kr Kr ?_)
       refine Z ?_
       (conv=> whnf)
       refine JaU hd ?_;refine Z ?_;exact ⟨(k,nx1),⟨h1,h2,h3⟩,Je _ _ rfl rfl Sf .slnil Bf Tt Y4⟩
    rintro ⟨i2,nx4⟩ ⟨hi1,hi2,hi3⟩;dsimp only at hi1 hi2 hi3;rw [← hi3] at m5;have hi1:1≤i2:=(by omega);refine Z ?_;refine Jbj (fun y:Nat×Nat=> mk 168 [(0, .hs (0,s) 0 n cap),(1,int a),(10,int i2),(11,int y.1)] ⟨Jm s e tl, [],y.2,1⟩) (fun y=> y.1≤j∧y.1=Go.Sort.scanDown (fun x=> !Go.Sort.ltInt x e[a]!) e i2 j) ?_ ?_
    ·refine Js (fun y:Nat×Nat=> mk 168 [(0, .hs (0,s) 0 n cap),(1,int a),(10,int i2),(11,int y.1)] ⟨Jm s e tl, [],y.2,1⟩) (fun y=> y.1≤j∧Go.Sort.scanDown (fun x=> !Go.Sort.ltInt x e[a]!) e i2 y.1=Go.Sort.scanDown (fun x=> !Go.Sort.ltInt x e[a]!) e i2 j) (fun y=> y.1) ?_ ?_
     ·exact ⟨(j,_),⟨Nat.le_refl _,rfl⟩,Je _ _ rfl rfl Sf .slnil Bf Tt Y4⟩
     ·rintro ⟨k,nx1⟩ ⟨h2,h3⟩;dsimp only at h2 h3;by_cases hij:i2≤k
      ·have hd:decide (((i2:Nat):Int)≤((k:Nat):Int))=true:=decide_eq_true Om;refine Z ?_
       (refine JJ 15 Kr Kr Kr ?_)
       refine Z ?_
       (conv=> whnf)
       refine JaU hd ?_;refine Z ?_;refine ⟨⟨JG (i:=k) (rfl),JH (i:=k) (rfl) Om⟩,Jj (b:= .bp (0,s) (k)) (congrArg (AV.bp (0,s)) (JO (i:=k) Jv (rfl))) ?_⟩
       (conv=> whnf)
       refine ⟨⟨rfl,Jaw (show k < e.size by omega)⟩,Jj (b:=Jl e[k]!) (Jac (show k < e.size by omega)) ?_⟩;refine Z ?_;refine ⟨⟨JG (i:=a) (rfl),JH (i:=a) (rfl) Om⟩,Jj (b:= .bp (0,s) (a)) (congrArg (AV.bp (0,s)) (JO (i:=a) Jv (rfl))) ?_⟩
       (conv=> whnf)
       refine ⟨⟨rfl,Jaw (show a < e.size by omega)⟩,Jj (b:=Jl e[a]!) (Jac (show a < e.size by omega)) ?_⟩;refine Z ?_;refine Jaj (JV rfl rfl (Jcu e[k]! e[a]!) Y2 (NoId.v _)) ?_;refine Z ?_;intro c hlt;cases c
       ·have hl:(fun x=> !Go.Sort.ltInt x e[a]!) e[k]! =true:=(congrArg Bool.not hlt).symm;rw [Jij (p:=fun x=> !Go.Sort.ltInt x e[a]!) (d:=e) (j:=k) Om hij hl] at h3;refine Z ?_;exact back (k - 1,nx1) ⟨Dm,h3⟩ Dm (Es rfl rfl ⟨Rf,Rf,Rf,Jf (by rw [Jq Dm Dm];dsimp only;omega),Tt⟩)
       ·have hl:(fun x=> !Go.Sort.ltInt x e[a]!) e[k]! =false:=(congrArg Bool.not hlt).symm;rw [JdO (p:=fun x=> !Go.Sort.ltInt x e[a]!) (d:=e) (j:=k) (fun hh=> Bool.false_ne_true (hl.symm.trans hh.2))] at h3;refine Z ?_;exact ⟨(k,nx1),⟨h2,h3⟩,Je _ _ rfl rfl Sf .slnil Bf Tt Y4⟩
      ·have hd:decide (((i2:Nat):Int)≤((k:Nat):Int))=false:=decide_eq_false Om;rw [JdO (p:=fun x=> !Go.Sort.ltInt x e[a]!) (d:=e) (j:=k) (fun hh=> hij hh.1)] at h3;refine Z ?_
       (refine JJ 15 Kr Kr Kr ?_)
       refine Z ?_
       (conv=> whnf)
       refine JaU hd ?_;refine Z ?_;exact ⟨(k,nx1),⟨h2,h3⟩,Je _ _ rfl rfl Sf .slnil Bf Tt Y4⟩
    rintro ⟨j2,nx5⟩ ⟨hj1,hj2⟩;dsimp only at hj1 hj2;rw [← hj2] at m5;refine Z ?_;intro c g;cases c
    ·have g:=Jw g;try dsimp only at g
     rw [if_neg Om] at m5;refine Z ?_;refine Jcv 16 (Ef [13,15]) (Ef [7,11]) [0,1,2,3,4,5,6,8,9,10,7,11,12,13,14,15] Kr Kr ?_
     (conv=> whnf)
     refine ⟨⟨JG (i:=j2) (rfl),JH (i:=j2) (rfl) Om⟩, ?_⟩
     (conv=> whnf)
     refine ⟨⟨JG (i:=i2) (rfl),JH (i:=i2) (rfl) Om⟩, ?_⟩
     (conv=> whnf)
     refine ⟨Jl e[j2]!,Jap (E:=Jl) (d:=e) (tl:=tl) (j:=j2) rfl rfl rfl (JO (i:=j2) Jv (rfl)) rfl Jbh rfl Om, ?_⟩
     (conv=> whnf)
     refine ⟨Jl e[i2]!,Jap (E:=Jl) (d:=e) (tl:=tl) (j:=i2) rfl rfl rfl (JO (i:=i2) Jv (rfl)) rfl Jbh rfl Om, ?_⟩
     (conv=> whnf)
     refine ⟨⟨JG (i:=i2) (rfl),JH (i:=i2) (rfl) Om⟩, ?_⟩
     (conv=> whnf)
     refine ⟨_,Jao (E:=Jl) (d:=e) (tl:=tl) (j:=i2) (z:=e[j2]!) rfl rfl rfl rfl (JO (i:=i2) Jv (rfl)) rfl rfl rfl rfl Kr Jv Om,fun r0 h0 hr0=> ?_⟩;subst hr0
     (conv=> whnf)
     refine ⟨⟨JG (i:=j2) (rfl),JH (i:=j2) (rfl) Om⟩, ?_⟩
     (conv=> whnf)
     refine ⟨_,Jao (E:=Jl) (d:=(e).setIfInBounds (i2) e[j2]!) (tl:=tl) (j:=j2) (z:=e[i2]!) rfl rfl rfl rfl (JO (i:=j2) Jv (rfl)) rfl rfl rfl rfl Kr Jv (by simp;omega),fun r0 h0 hr0=> ?_⟩;subst hr0;refine Z ?_;exact back (Go.Sort.swp e i2 j2,(i2+1,j2 - 1),nx5) ⟨by dsimp only;rw [JbS];exact m1,Bo,Bo,Bo,m5⟩ Bo (Es rfl rfl ⟨Rf,Rf,Lw,Jf (by rw [Jq Bo Bo];dsimp only;omega),Tt⟩)
    ·have g:=Ju g;try dsimp only at g
     rw [if_pos Om] at m5;refine Z ?_;exact ⟨(e,j2,nx5),⟨m1,Bo,m5⟩,Je _ _ rfl rfl Sf .slnil Bf Tt Y3⟩
  ·rintro ⟨e,j,nx3⟩ ⟨m1,m2,m3⟩;dsimp only at m1 m2 m3;rw [← m3] at hP;subst hP;dsimp only;refine Z ?_;refine Jcv 16 (Ef [13,15]) (Ef [7,11]) [0,1,2,3,4,5,6,8,9,10,7,11,12,13,14,15] Kr Kr ?_
   (conv=> whnf)
   refine ⟨⟨JG (i:=a) (rfl),JH (i:=a) (rfl) Om⟩, ?_⟩
   (conv=> whnf)
   refine ⟨⟨JG (i:=j) (rfl),JH (i:=j) (rfl) Om⟩, ?_⟩
   (conv=> whnf)
   refine ⟨Jl e[a]!,Jap (E:=Jl) (d:=e) (tl:=tl) (j:=a) rfl rfl rfl (JO (i:=a) Jv (rfl)) rfl Jbh rfl Om, ?_⟩
   (conv=> whnf)
   refine ⟨Jl e[j]!,Jap (E:=Jl) (d:=e) (tl:=tl) (j:=j) rfl rfl rfl (JO (i:=j) Jv (rfl)) rfl Jbh rfl Om, ?_⟩
   (conv=> whnf)
   refine ⟨⟨JG (i:=j) (rfl),JH (i:=j) (rfl) Om⟩, ?_⟩
   (conv=> whnf)
   refine ⟨_,Jao (E:=Jl) (d:=e) (tl:=tl) (j:=j) (z:=e[a]!) rfl rfl rfl rfl (JO (i:=j) Jv (rfl)) rfl rfl rfl rfl Kr Jv Om,fun r0 h0 hr0=> ?_⟩;subst hr0
   (conv=> whnf)
   refine ⟨⟨JG (i:=a) (rfl),JH (i:=a) (rfl) Om⟩, ?_⟩
   (conv=> whnf)
   refine ⟨_,Jao (E:=Jl) (d:=(e).setIfInBounds (j) e[a]!) (tl:=tl) (j:=a) (z:=e[j]!) rfl rfl rfl rfl (JO (i:=a) Jv (rfl)) rfl rfl rfl rfl Kr Jv (by simp;omega),fun r0 h0 hr0=> ?_⟩;subst hr0;refine Z ?_;exact Jt rfl ⟨_,_,Rf,Jr (Jm s (Go.Sort.swp e j a) tl) [] rfl Sf .slnil Bf Pf,false,_,1,rfl,rfl⟩
 ·have g:=Ju g;try dsimp only at g
  have hP:=(hnow i j hi3 hj2 Om);subst hP;dsimp only;refine Z ?_;refine Jcv 16 (Ef [13,15]) (Ef [7,11]) [0,1,2,3,4,5,6,8,9,10,7,11,12,13,14,15] Kr Kr ?_
  (conv=> whnf)
  refine ⟨⟨JG (i:=a) (rfl),JH (i:=a) (rfl) Om⟩, ?_⟩
  (conv=> whnf)
  refine ⟨⟨JG (i:=j) (rfl),JH (i:=j) (rfl) Om⟩, ?_⟩
  (conv=> whnf)
  refine ⟨Jl d[a]!,Jap (E:=Jl) (d:=d) (tl:=tl) (j:=a) rfl rfl rfl (JO (i:=a) Jv (rfl)) rfl Jbh rfl Om, ?_⟩
  (conv=> whnf)
  refine ⟨Jl d[j]!,Jap (E:=Jl) (d:=d) (tl:=tl) (j:=j) rfl rfl rfl (JO (i:=j) Jv (rfl)) rfl Jbh rfl Om, ?_⟩
  (conv=> whnf)
  refine ⟨⟨JG (i:=j) (rfl),JH (i:=j) (rfl) Om⟩, ?_⟩
  (conv=> whnf)
  refine ⟨_,Jao (E:=Jl) (d:=d) (tl:=tl) (j:=j) (z:=d[a]!) rfl rfl rfl rfl (JO (i:=j) Jv (rfl)) rfl rfl rfl rfl Kr Jv Om,fun r0 h0 hr0=> ?_⟩;subst hr0
  (conv=> whnf)
  refine ⟨⟨JG (i:=a) (rfl),JH (i:=a) (rfl) Om⟩, ?_⟩
  (conv=> whnf)
  refine ⟨_,Jao (E:=Jl) (d:=(d).setIfInBounds (j) d[a]!) (tl:=tl) (j:=a) (z:=d[j]!) rfl rfl rfl rfl (JO (i:=a) Jv (rfl)) rfl rfl rfl rfl Kr Jv (by simp;omega),fun r0 h0 hr0=> ?_⟩;subst hr0;refine Z ?_;exact Jt rfl ⟨_,_,Rf,Jr (Jm s (Go.Sort.swp d j a) tl) [] rfl Sf .slnil Bf Pf,true,_,1,rfl,rfl⟩
theorem JwP (d0:Array (Int)) (tl:List AV) (n a b p:Nat) (hn:d0.size=n) (hap:a≤p) (hpb:p < b) (hb:b≤n) (hsz:n≤1000000) (s cap nx:Nat):
 ECall Tryz.prog 206 [.hs (0,s) 0 n cap,int a,int b,int p] ⟨Jm s d0 tl, [],nx,1⟩ (fun r h'=> ∃nx' nn',r=int (Go.Sort.partitionEqual Go.Sort.ltInt d0 a b p).1∧h'=⟨Jm s (Go.Sort.partitionEqual Go.Sort.ltInt d0 a b p).2 tl, [],nx',nn'⟩):=by
 refine ECall.wk (Jo Tryz.func206 rfl rfl ?_)
 refine Z ?_
 refine Jcv 16 (Ef [13,15]) (Ef [7,11]) [0,1,2,3,4,5,6,8,9,10,7,11,12,13,14,15] Kr Kr ?_
 (conv=> whnf)
 refine ⟨⟨JG (i:=p) (rfl),JH (i:=p) (rfl) Om⟩, ?_⟩
 (conv=> whnf)
 refine ⟨⟨JG (i:=a) (rfl),JH (i:=a) (rfl) Om⟩, ?_⟩
 (conv=> whnf)
 refine ⟨Jl d0[p]!,Jap (E:=Jl) (d:=d0) (tl:=tl) (j:=p) rfl rfl rfl (JO (i:=p) Jv (rfl)) rfl Jbh rfl Om, ?_⟩
 (conv=> whnf)
 refine ⟨Jl d0[a]!,Jap (E:=Jl) (d:=d0) (tl:=tl) (j:=a) rfl rfl rfl (JO (i:=a) Jv (rfl)) rfl Jbh rfl Om, ?_⟩
 (conv=> whnf)
 refine ⟨⟨JG (i:=a) (rfl),JH (i:=a) (rfl) Om⟩, ?_⟩
 (conv=> whnf)
 refine ⟨_,Jao (E:=Jl) (d:=d0) (tl:=tl) (j:=a) (z:=d0[p]!) rfl rfl rfl rfl (JO (i:=a) Jv (rfl)) rfl rfl rfl rfl Kr Jv Om,fun r0 h0 hr0=> ?_⟩
 subst hr0
 (conv=> whnf)
 refine ⟨⟨JG (i:=p) (rfl),JH (i:=p) (rfl) Om⟩, ?_⟩
 (conv=> whnf)
 refine ⟨_,Jao (E:=Jl) (d:=(d0).setIfInBounds (a) d0[p]!) (tl:=tl) (j:=p) (z:=d0[a]!) rfl rfl rfl rfl (JO (i:=p) Jv (rfl)) rfl rfl rfl rfl Kr Jv (by simp;omega),fun r0 h0 hr0=> ?_⟩
 subst hr0
 refine Z ?_
 have h2n:(Go.Sort.swp d0 a p).size=n:=by rw [JbS];exact hn
 have hP:Go.Sort.partitionEqual Go.Sort.ltInt d0 a b p=Go.Sort.partEqLoop Go.Sort.ltInt a (a+1) (b - 1) (Go.Sort.swp d0 a p):=rfl
 refine AW.le (E':=mk 84 [(0, .hs (0,s) 0 n cap),(1,int a),(9,int (a+1:Nat)),(10,int (b - 1:Nat))] ⟨Jm s (Go.Sort.swp d0 a p) tl, [],nx,1⟩) (Es rfl rfl ⟨Rf,Rf,Jf (Jx Om),Jf (by rw [Jq Om Om];omega),Tt⟩) ?_
 have hi1':1≤a+1:=by omega
 have hi2':a+1≤n+2:=by omega
 have hj1':b - 1 < n:=by omega
 generalize Go.Sort.partitionEqual Go.Sort.ltInt d0 a b p=Pt at hP⊢
 generalize Go.Sort.swp d0 a p=e0 at hP h2n⊢
 generalize a+1=i0 at hP hi1' hi2'⊢
 generalize b - 1=j0 at hP hj1'⊢
 refine Jbj (fun y:Array (Int)×Nat×Nat=> mk 84 [(0, .hs (0,s) 0 n cap),(1,int a),(9,int y.2.1)] ⟨Jm s y.1 tl, [],y.2.2,1⟩) (fun y=> (y.2.1,y.1)=Go.Sort.partEqLoop Go.Sort.ltInt a i0 j0 e0) ?_ ?_
 ·refine Js (fun y:Array (Int)×(Nat×Nat)×Nat=> mk 84 [(0, .hs (0,s) 0 n cap),(1,int a),(9,int y.2.1.1),(10,int y.2.1.2)] ⟨Jm s y.1 tl, [],y.2.2,1⟩) (fun y=> y.1.size=n∧1≤y.2.1.1∧y.2.1.1≤n+2∧y.2.1.2 < n∧Go.Sort.partEqLoop Go.Sort.ltInt a y.2.1.1 y.2.1.2 y.1=Go.Sort.partEqLoop Go.Sort.ltInt a i0 j0 e0) (fun y=> y.2.1.2+1 - y.2.1.1) ?_ ?_
  ·exact ⟨(e0,(i0,j0),_),⟨h2n,hi1',hi2',hj1',rfl⟩,Je _ _ rfl rfl Sf .slnil Bf Tt Y4⟩
  ·rintro ⟨e,⟨i,j⟩,nx3⟩ ⟨m1,m2,m3,m4,m5⟩;dsimp only at m1 m2 m3 m4 m5;rw [Go.Sort.partEqLoop_eq] at m5;refine Z ?_;refine Jbj (fun y:Nat×Nat=> mk 84 [(0, .hs (0,s) 0 n cap),(1,int a),(9,int y.1),(10,int j)] ⟨Jm s e tl, [],y.2,1⟩) (fun y=> i≤y.1∧y.1≤n+2∧y.1=Go.Sort.scanUp (fun x=> !Go.Sort.ltInt e[a]! x) e j i) ?_ ?_
   ·refine Js (fun y:Nat×Nat=> mk 84 [(0, .hs (0,s) 0 n cap),(1,int a),(9,int y.1),(10,int j)] ⟨Jm s e tl, [],y.2,1⟩) (fun y=> i≤y.1∧y.1≤n+2∧Go.Sort.scanUp (fun x=> !Go.Sort.ltInt e[a]! x) e j y.1=Go.Sort.scanUp (fun x=> !Go.Sort.ltInt e[a]! x) e j i) (fun y=> j+1 - y.1) ?_ ?_
    ·exact ⟨(i,_),⟨Nat.le_refl _,Dm,rfl⟩,Je _ _ rfl rfl Sf .slnil Bf Tt Y4⟩
    ·rintro ⟨k,nx1⟩ ⟨h1,h2,h3⟩;dsimp only at h1 h2 h3;by_cases hij:k≤j
     ·have hd:decide (((k:Nat):Int)≤((j:Nat):Int))=true:=decide_eq_true Om;refine Z ?_
      (refine JJ 15 Kr Kr Kr ?_)
      refine Z ?_
      (conv=> whnf)
      refine JaU hd ?_;refine Z ?_;refine ⟨⟨JG (i:=a) (rfl),JH (i:=a) (rfl) Om⟩,Jj (b:= .bp (0,s) (a)) (congrArg (AV.bp (0,s)) (JO (i:=a) Jv (rfl))) ?_⟩
      (conv=> whnf)
      refine ⟨⟨rfl,Jaw (show a < e.size by omega)⟩,Jj (b:=Jl e[a]!) (Jac (show a < e.size by omega)) ?_⟩;refine Z ?_;refine ⟨⟨JG (i:=k) (rfl),JH (i:=k) (rfl) Om⟩,Jj (b:= .bp (0,s) (k)) (congrArg (AV.bp (0,s)) (JO (i:=k) Jv (rfl))) ?_⟩
      (conv=> whnf)
      refine ⟨⟨rfl,Jaw (show k < e.size by omega)⟩,Jj (b:=Jl e[k]!) (Jac (show k < e.size by omega)) ?_⟩;refine Z ?_;refine Jaj (JV rfl rfl (Jcu e[a]! e[k]!) Y2 (NoId.v _)) ?_;refine Z ?_;intro c hlt;cases c
      ·have hl:(fun x=> !Go.Sort.ltInt e[a]! x) e[k]! =true:=(congrArg Bool.not hlt).symm;rw [Jii (p:=fun x=> !Go.Sort.ltInt e[a]! x) (d:=e) (i:=k) hij hl] at h3;refine Z ?_;exact back (k+1,nx1) ⟨Dm,Dm,h3⟩ Dm (Es rfl rfl ⟨Rf,Rf,Jf (Jx Dm),Y1⟩)
      ·have hl:(fun x=> !Go.Sort.ltInt e[a]! x) e[k]! =false:=(congrArg Bool.not hlt).symm;rw [JdN (p:=fun x=> !Go.Sort.ltInt e[a]! x) (d:=e) (i:=k) (fun hh=> Bool.false_ne_true (hl.symm.trans hh.2))] at h3;refine Z ?_;exact ⟨(k,nx1),⟨h1,h2,h3⟩,Je _ _ rfl rfl Sf .slnil Bf Tt Y4⟩
     ·have hd:decide (((k:Nat):Int)≤((j:Nat):Int))=false:=decide_eq_false Om;rw [JdN (p:=fun x=> !Go.Sort.ltInt e[a]! x) (d:=e) (i:=k) (fun hh=> hij hh.1)] at h3;refine Z ?_
      (refine JJ 15 Kr Kr Kr ?_)
      refine Z ?_
      (conv=> whnf)
      refine JaU hd ?_;refine Z ?_;exact ⟨(k,nx1),⟨h1,h2,h3⟩,Je _ _ rfl rfl Sf .slnil Bf Tt Y4⟩
   rintro ⟨i2,nx4⟩ ⟨hi1,hi2,hi3⟩;dsimp only at hi1 hi2 hi3;rw [← hi3] at m5;have hi1:1≤i2:=by omega
   refine Z ?_;refine Jbj (fun y:Nat×Nat=> mk 84 [(0, .hs (0,s) 0 n cap),(1,int a),(9,int i2),(10,int y.1)] ⟨Jm s e tl, [],y.2,1⟩) (fun y=> y.1≤j∧y.1=Go.Sort.scanDown (fun x=> Go.Sort.ltInt e[a]! x) e i2 j) ?_ ?_
   ·refine Js (fun y:Nat×Nat=> mk 84 [(0, .hs (0,s) 0 n cap),(1,int a),(9,int i2),(10,int y.1)] ⟨Jm s e tl, [],y.2,1⟩) (fun y=> y.1≤j∧Go.Sort.scanDown (fun x=> Go.Sort.ltInt e[a]! x) e i2 y.1=Go.Sort.scanDown (fun x=> Go.Sort.ltInt e[a]! x) e i2 j) (fun y=> y.1) ?_ ?_
    ·exact ⟨(j,_),⟨Nat.le_refl _,rfl⟩,Je _ _ rfl rfl Sf .slnil Bf Tt Y4⟩
    ·rintro ⟨k,nx1⟩ ⟨h2,h3⟩;dsimp only at h2 h3;by_cases hij:i2≤k
     ·have hd:decide (((i2:Nat):Int)≤((k:Nat):Int))=true:=decide_eq_true Om;refine Z ?_
      (refine JJ 14 Kr Kr Kr ?_)
      refine Z ?_
      (conv=> whnf)
      refine JaU hd ?_;refine Z ?_;refine ⟨⟨JG (i:=a) (rfl),JH (i:=a) (rfl) Om⟩,Jj (b:= .bp (0,s) (a)) (congrArg (AV.bp (0,s)) (JO (i:=a) Jv (rfl))) ?_⟩
      (conv=> whnf)
      refine ⟨⟨rfl,Jaw (show a < e.size by omega)⟩,Jj (b:=Jl e[a]!) (Jac (show a < e.size by omega)) ?_⟩;refine Z ?_;refine ⟨⟨JG (i:=k) (rfl),JH (i:=k) (rfl) Om⟩,Jj (b:= .bp (0,s) (k)) (congrArg (AV.bp (0,s)) (JO (i:=k) Jv (rfl))) ?_⟩
      (conv=> whnf)
      refine ⟨⟨rfl,Jaw (show k < e.size by omega)⟩,Jj (b:=Jl e[k]!) (Jac (show k < e.size by omega)) ?_⟩;refine Z ?_;refine Jaj (JV rfl rfl (Jcu e[a]! e[k]!) Y2 (NoId.v _)) ?_;refine Z ?_;intro c hlt;cases c
      ·have hl:(fun x=> Go.Sort.ltInt e[a]! x) e[k]! =false:=hlt.symm;rw [JdO (p:=fun x=> Go.Sort.ltInt e[a]! x) (d:=e) (j:=k) (fun hh=> Bool.false_ne_true (hl.symm.trans hh.2))] at h3;refine Z ?_;exact ⟨(k,nx1),⟨h2,h3⟩,Je _ _ rfl rfl Sf .slnil Bf Tt Y4⟩
      ·have hl:(fun x=> Go.Sort.ltInt e[a]! x) e[k]! =true:=hlt.symm;rw [Jij (p:=fun x=> Go.Sort.ltInt e[a]! x) (d:=e) (j:=k) Om hij hl] at h3;refine Z ?_;exact back (k - 1,nx1) ⟨Dm,h3⟩ Dm (Es rfl rfl ⟨Rf,Rf,Rf,Jf (by rw [Jq Dm Dm];dsimp only;omega),Tt⟩)
     ·have hd:decide (((i2:Nat):Int)≤((k:Nat):Int))=false:=decide_eq_false Om;rw [JdO (p:=fun x=> Go.Sort.ltInt e[a]! x) (d:=e) (j:=k) (fun hh=> hij hh.1)] at h3;refine Z ?_
      (refine JJ 14 Kr Kr Kr ?_)
      refine Z ?_
      (conv=> whnf)
      refine JaU hd ?_;refine Z ?_;exact ⟨(k,nx1),⟨h2,h3⟩,Je _ _ rfl rfl Sf .slnil Bf Tt Y4⟩
   rintro ⟨j2,nx5⟩ ⟨hj1,hj2⟩;dsimp only at hj1 hj2;rw [← hj2] at m5;refine Z ?_;intro c g;cases c
   ·have g:=Jw g;try dsimp only at g
    rw [if_neg Om] at m5;refine Z ?_;refine Jcv 16 (Ef [13,15]) (Ef [7,11]) [0,1,2,3,4,5,6,8,9,10,7,11,12,13,14,15] Kr Kr ?_
    (conv=> whnf)
    refine ⟨⟨JG (i:=j2) (rfl),JH (i:=j2) (rfl) Om⟩, ?_⟩
    (conv=> whnf)
    refine ⟨⟨JG (i:=i2) (rfl),JH (i:=i2) (rfl) Om⟩, ?_⟩
    (conv=> whnf)
    refine ⟨Jl e[j2]!,Jap (E:=Jl) (d:=e) (tl:=tl) (j:=j2) rfl rfl rfl (JO (i:=j2) Jv (rfl)) rfl Jbh rfl Om, ?_⟩
    (conv=> whnf)
    refine ⟨Jl e[i2]!,Jap (E:=Jl) (d:=e) (tl:=tl) (j:=i2) rfl rfl rfl (JO (i:=i2) Jv (rfl)) rfl Jbh rfl Om, ?_⟩
    (conv=> whnf)
    refine ⟨⟨JG (i:=i2) (rfl),JH (i:=i2) (rfl) Om⟩, ?_⟩
    (conv=> whnf)
    refine ⟨_,Jao (E:=Jl) (d:=e) (tl:=tl) (j:=i2) (z:=e[j2]!) rfl rfl rfl rfl (JO (i:=i2) Jv (rfl)) rfl rfl rfl rfl Kr Jv Om,fun r0 h0 hr0=> ?_⟩;subst hr0
    (conv=> whnf)
    refine ⟨⟨JG (i:=j2) (rfl),JH (i:=j2) (rfl) Om⟩, ?_⟩
    (conv=> whnf)
    refine ⟨_,Jao (E:=Jl) (d:=(e).setIfInBounds (i2) e[j2]!) (tl:=tl) (j:=j2) (z:=e[i2]!) rfl rfl rfl rfl (JO (i:=j2) Jv (rfl)) rfl rfl rfl rfl Kr Jv (by simp;omega),fun r0 h0 hr0=> ?_⟩;subst hr0;refine Z ?_;exact back (Go.Sort.swp e i2 j2,(i2+1,j2 - 1),nx5) ⟨by dsimp only;rw [JbS];exact m1,Bo,Bo,Bo,m5⟩ Bo (Es rfl rfl ⟨Rf,Rf,Lw,Jf (by rw [Jq Bo Bo];dsimp only;omega),Tt⟩)
   ·have g:=Ju g;try dsimp only at g
    rw [if_pos Om] at m5;refine Z ?_;exact ⟨(e,i2,nx5),m5,Je _ _ rfl rfl Sf .slnil Bf Tt Y3⟩
 ·rintro ⟨e,i,nx3⟩ m3;dsimp only at m3;rw [← m3] at hP;subst hP;dsimp only;refine Z ?_;exact Jt rfl ⟨_,_,Rf,Jr (Jm s e tl) [] rfl Sf .slnil Bf Pf,_,1,rfl,rfl⟩
def Jdf (s s2:Nat) (k:Int) (d:Array (Int)) (tl:List AV):List (Vl.Id×Own):= [((1,s2), .c [int k]),((0,s), .c (Jba Jl d tl))]
theorem Jms (d:Array (Int)) (tl:List AV) (n a b:Nat) (hn:d.size=n) (ha:a < n) (hb:b < n) (hsz:n≤1000000) (k:Int) (s s2 cap nx:Nat):
 ECall Tryz.prog 302 [.hs (0,s) 0 n cap,int a,int b, .bp (1,s2) 0] ⟨Jdf s s2 k d tl, [],nx,2⟩ (fun r h'=> ∃x y:Nat,∃k' nx' nn',((x=a∧y=b)∨(x=b∧y=a))∧r= .tup [int x,int y]∧h'=⟨Jdf s s2 k' d tl, [],nx',nn'⟩):=by
 refine ECall.wk (Jo Tryz.func302 rfl rfl ?_)
 refine Z ?_
 (refine JJ 9 Kr Kr Kr ?_)
 refine Z ?_
 refine ⟨⟨JG (i:=b) (rfl),JH (i:=b) (rfl) Om⟩,Jj (b:= .bp (0,s) (b)) (congrArg (AV.bp (0,s)) (JO (i:=b) Jv (rfl))) ?_⟩
 (conv=> whnf)
 refine ⟨⟨rfl,Jaw (show b < d.size by omega)⟩,Jj (b:=Jl d[b]!) (Jac (show b < d.size by omega)) ?_⟩
 refine Z ?_
 refine ⟨⟨JG (i:=a) (rfl),JH (i:=a) (rfl) Om⟩,Jj (b:= .bp (0,s) (a)) (congrArg (AV.bp (0,s)) (JO (i:=a) Jv (rfl))) ?_⟩
 (conv=> whnf)
 refine ⟨⟨rfl,Jaw (show a < d.size by omega)⟩,Jj (b:=Jl d[a]!) (Jac (show a < d.size by omega)) ?_⟩
 refine Z ?_
 refine Jaj (JV rfl rfl (Jcu d[b]! d[a]!) Y2 (NoId.v _)) ?_
 refine Z ?_
 intro c hlt;cases c
 ·refine Z ?_;exact Jt rfl ⟨_,_,Rf,Jr (Jdf s s2 _ d tl) [] rfl Sf .slnil Bf Pf,a,b,k,nx,2, .inl ⟨rfl,rfl⟩,rfl,rfl⟩
 ·refine Z ?_;exact Jt rfl ⟨_,_,Rf,Jr (Jdf s s2 _ d tl) [] rfl Sf .slnil Bf Pf,b,a,_,nx,2, .inr ⟨rfl,rfl⟩,rfl,rfl⟩
theorem Jvf (d:Array (Int)) (tl:List AV) (n a b c:Nat) (hn:d.size=n) (ha:a < n) (hb:b < n) (hc:c < n) (hsz:n≤1000000) (k:Int) (s s2 cap nx:Nat):
 ECall Tryz.prog 279 [.hs (0,s) 0 n cap,int a,int b,int c, .bp (1,s2) 0] ⟨Jdf s s2 k d tl, [],nx,2⟩ (fun r h'=> ∃x:Nat,∃k' nx' nn',(x=a∨x=b∨x=c)∧r=int x∧h'=⟨Jdf s s2 k' d tl, [],nx',nn'⟩):=by
 refine ECall.wk (Jo Tryz.func279 rfl rfl ?_)
 refine Z ?_
 refine Jg (xs:= [.hs (0,s) 0 n cap,int a,int b, .bp (1,s2) 0]) [] [] 2 rfl rfl rfl rfl Y4 (Jms d tl n a b hn ha hb hsz k s s2 cap _) Bf Pf rfl fun r h' hq=> ?_
 obtain ⟨x1,y1,k1,nx1,nn1,ho1,rfl,rfl⟩:=hq
 refine Z ?_
 refine Jg (xs:= [.hs (0,s) 0 n cap,int y1,int c, .bp (1,s2) 0]) [] [] 2 rfl rfl rfl rfl Y4 (Jms d tl n y1 c hn Om hc hsz k1 s s2 cap _) Bf Pf rfl fun r h' hq=> ?_
 obtain ⟨x2,y2,k2,nx2,nn2,ho2,rfl,rfl⟩:=hq
 refine Z ?_
 refine Jg (xs:= [.hs (0,s) 0 n cap,int x1,int x2, .bp (1,s2) 0]) [] [] 2 rfl rfl rfl rfl Y4 (Jms d tl n x1 x2 hn Om Om hsz k2 s s2 cap _) Bf Pf rfl fun r h' hq=> ?_
 obtain ⟨x3,y3,k3,nx3,nn3,ho3,rfl,rfl⟩:=hq
 refine Z ?_
 exact Jt rfl ⟨_,_,Rf,Jr (Jdf s s2 _ d tl) [] rfl Sf .slnil Bf Pf,y3,k3,nx3,2,Om,rfl,rfl⟩
theorem JjE (d:Array (Int)) (tl:List AV) (n a:Nat) (hn:d.size=n) (h1:1≤a) (ha:a+1 < n) (hsz:n≤1000000) (k:Int) (s s2 cap nx:Nat):
 ECall Tryz.prog 278 [.hs (0,s) 0 n cap,int a, .bp (1,s2) 0] ⟨Jdf s s2 k d tl, [],nx,2⟩ (fun r h'=> ∃x:Nat,∃k' nx' nn',(x=a - 1∨x=a∨x=a+1)∧r=int x∧h'=⟨Jdf s s2 k' d tl, [],nx',nn'⟩):=by
 refine ECall.wk (Jo Tryz.func278 rfl rfl ?_)
 refine Z ?_
 refine Jg (xs:= [.hs (0,s) 0 n cap,int (a - 1:Nat),int a,int (a+1:Nat), .bp (1,s2) 0]) [] [] 2 rfl rfl rfl rfl ⟨Rf,Jf (by rw [Jq Om Om];omega),Rf,Jf (Jx Om),Y1⟩ (Jvf d tl n (a - 1) a (a+1) hn Om Om ha hsz k s s2 cap _) Bf Pf rfl fun r h' hq=> ?_
 obtain ⟨x1,k1,nx1,nn1,ho1,rfl,rfl⟩:=hq
 refine Z ?_
 exact Jt rfl ⟨_,_,Rf,Jr (Jdf s s2 _ d tl) [] rfl Sf .slnil Bf Pf,x1,k1,nx1,2,ho1,rfl,rfl⟩
theorem Jzf (d:Array (Int)) (tl:List AV) (n a b:Nat) (hn:d.size=n) (hab:a < b) (hb:b≤n) (hsz:n≤1000000) (s cap nx:Nat):
 ECall Tryz.prog 202 [.hs (0,s) 0 n cap,int a,int b] ⟨Jm s d tl, [],nx,1⟩ (fun r h'=> ∃p:Nat,∃hint:Int,∃nx' nn',a≤p∧p < b∧r= .tup [int p,int hint]∧h'=⟨Jm s d tl, [],nx',nn'⟩):=by
 refine ECall.wk (Jo Tryz.func202 rfl rfl ?_)
 have el:IntKind.i64.wrap ((b:Int) - (a:Int))=((b - a:Nat):Int):=JdH Om Om
 have e1:∀c:Nat,c≤3→IntKind.i64.wrap ((a:Int)+IntKind.i64.wrap (IntKind.i64.wrap (Int.tdiv ((b - a:Nat):Int) 4) * (c:Int)))=((a+(b - a) / 4 * c:Nat):Int):=fun c hc=> by
  have h4:(b - a) / 4 * c≤(b - a) / 4 * 3:=Nat.mul_le_mul_left _ hc;rw [show Int.tdiv ((b - a:Nat):Int) 4=(((b - a) / 4:Nat):Int) from rfl,Jq (n:=(((b - a) / 4:Nat):Int)) Om Om,← Int.natCast_mul,Jq (n:=(((b - a) / 4 * c:Nat):Int)) Om Om,← Int.natCast_add];exact JdH rfl Om
 (refine Jy ?_;refine JQ ?_;refine Jy ?_;refine JQ ?_;refine Jy ?_)
 refine JiZ (bx:=Jm s d tl) (pm:= []) (nx:=nx) (nn:=1) (df:=some []) (L:= [(0, .hs (0,s) 0 n cap),(1,int a),(2,int b),(8,int (b - a:Nat))]) rfl rfl rfl Sf .slnil ⟨Rf,Rf,Rf,Jf el,Tt⟩ ?_
 (refine Jy ?_;refine JQ ?_;refine Jy ?_;refine JQ ?_;refine Jy ?_;refine JQ ?_;refine Jy ?_;refine JQ ?_;refine Jy ?_)
 refine AW.le (E':=mk 57 [(0, .hs (0,s) 0 n cap),(1,int a),(2,int b),(8,int (b - a:Nat)),(9, .bp (1,nx) 0),(10,int (a+(b - a) / 4 * 1:Nat)),(11,int (a+(b - a) / 4 * 2:Nat)),(12,int (a+(b - a) / 4 * 3:Nat))] ⟨Jdf s nx 0 d tl, [],nx+1,2⟩) (Es rfl rfl ⟨Rf,Rf,Rf,Rf,Rf,Jf (e1 1 Om),Jf (e1 2 Om),Jf (e1 3 Om),Tt⟩) ?_
 clear e1 el
 refine JeR (fun y:Nat×Int×Nat=> mk 57 [(9, .bp (1,nx) 0),(11,int y.1)] ⟨Jdf s nx y.2.1 d tl, [],y.2.2,2⟩) (fun y=> a≤y.1∧y.1 < b) ?_ ?_
 ·refine Z ?_;intro c g8;cases c
  ·have g8:=Jw g8;try dsimp only at g8
   refine Z ?_;exact ⟨(a+(b - a) / 4 * 2,0,nx+1),⟨Dm,Dm⟩,Je _ _ rfl rfl Sf .slnil Bf Tt Y2⟩
  ·have g8:=Ju g8;try dsimp only at g8
   refine Jy ?_;refine JeR (fun y:(Nat×Nat×Nat)×Int×Nat=> mk 57 [(0, .hs (0,s) 0 n cap),(9, .bp (1,nx) 0),(10,int y.1.1),(11,int y.1.2.1),(12,int y.1.2.2)] ⟨Jdf s nx y.2.1 d tl, [],y.2.2,2⟩) (fun y=> (a≤y.1.1∧y.1.1 < b)∧(a≤y.1.2.1∧y.1.2.1 < b)∧a≤y.1.2.2∧y.1.2.2 < b) ?_ ?_
   ·refine Z ?_;intro c g;cases c
    ·have g:=Jw g;try dsimp only at g
     refine Z ?_;exact ⟨((a+(b - a) / 4 * 1,a+(b - a) / 4 * 2,a+(b - a) / 4 * 3),0,nx+1),⟨⟨Dm,Dm⟩,⟨Dm,Dm⟩,Dm,Dm⟩,Je _ _ rfl rfl Sf .slnil Bf Tt Y5⟩
    ·have g:=Ju g;try dsimp only at g
     refine Z ?_;refine Jg (xs:= [.hs (0,s) 0 n cap,int (a+(b - a) / 4 * 1:Nat), .bp (1,nx) 0]) [] [] 2 rfl rfl rfl rfl Y3 (JjE d tl n (a+(b - a) / 4 * 1) hn Om Om hsz 0 s nx cap _) Bf Pf rfl fun r h' hq=> ?_;obtain ⟨x1,k1,nx1,nn1,ho1,rfl,rfl⟩:=hq;refine Z ?_;refine Jg (xs:= [.hs (0,s) 0 n cap,int (a+(b - a) / 4 * 2:Nat), .bp (1,nx) 0]) [] [] 2 rfl rfl rfl rfl Y3 (JjE d tl n (a+(b - a) / 4 * 2) hn Om Om hsz k1 s nx cap _) Bf Pf rfl fun r h' hq=> ?_;obtain ⟨x2,k2,nx2,nn2,ho2,rfl,rfl⟩:=hq;refine Z ?_;refine Jg (xs:= [.hs (0,s) 0 n cap,int (a+(b - a) / 4 * 3:Nat), .bp (1,nx) 0]) [] [] 2 rfl rfl rfl rfl Y3 (JjE d tl n (a+(b - a) / 4 * 3) hn Om Om hsz k2 s nx cap _) Bf Pf rfl fun r h' hq=> ?_;obtain ⟨x3,k3,nx3,nn3,ho3,rfl,rfl⟩:=hq;refine Z ?_;exact ⟨((x1,x2,x3),k3,nx3),⟨⟨Dm,Dm⟩,⟨Dm,Dm⟩,Dm,Dm⟩,Je _ _ rfl rfl Sf .slnil Bf Tt Y5⟩
   ·rintro ⟨⟨i,j,l⟩,k,nx1⟩ ⟨hi,hj,hl⟩;dsimp only at hi hj hl;refine Z ?_;refine Jg (xs:= [.hs (0,s) 0 n cap,int i,int j,int l, .bp (1,nx) 0]) [] [] 2 rfl rfl rfl rfl Y5 (Jvf d tl n i j l hn Om Om Om hsz k s nx cap _) Bf Pf rfl fun r h' hq=> ?_;obtain ⟨x3,k3,nx3,nn3,ho3,rfl,rfl⟩:=hq;refine Z ?_;exact ⟨(x3,k3,nx3),⟨Dm,Dm⟩,Je _ _ rfl rfl Sf .slnil Bf Tt Y2⟩
 ·rintro ⟨p,k,nx1⟩ ⟨h1,h2⟩;dsimp only at h1 h2;refine Z ?_;intro c g0;cases c
  ·refine Z ?_;intro c g1;cases c
   ·refine Z ?_;exact Jt rfl ⟨_,_,Rf,Jr (Jm s d tl) [] rfl (.cons _ Sf) .slnil Bf Pf,p,0,_,2,h1,h2,rfl,rfl⟩
   ·refine Z ?_;exact Jt rfl ⟨_,_,Rf,Jr (Jm s d tl) [] rfl (.cons _ Sf) .slnil Bf Pf,p,2,_,2,h1,h2,rfl,rfl⟩
  ·refine Z ?_;exact Jt rfl ⟨_,_,Rf,Jr (Jm s d tl) [] rfl (.cons _ Sf) .slnil Bf Pf,p,1,_,2,h1,h2,rfl,rfl⟩
def Jox (s s2:Nat) (z:Int) (d:Array (Int)) (tl:List AV):List (Vl.Id×Own):= [((1,s2), .c [.v (.int .u64 z)]),((0,s), .c (Jba Jl d tl))]
theorem Jzg (d0:Array (Int)) (tl:List AV) (n a b:Nat) (hn:d0.size=n) (hab:a≤b) (hb:b≤n) (hsz:n≤1000000) (s cap nx:Nat):
 ECall Tryz.prog 201 [.hs (0,s) 0 n cap,int a,int b] ⟨Jm s d0 tl, [],nx,1⟩ (fun r h'=> ∃d' nx' nn',Go.Sort.PermIn a b d0 d'∧h'=⟨Jm s d' tl, [],nx',nn'⟩):=by
 refine ECall.wk (Jo Tryz.func201 rfl rfl ?_)
 have el:IntKind.i64.wrap ((b:Int) - (a:Int))=((b - a:Nat):Int):=JdH Om Om
 obtain ⟨L,hL⟩:∃L,L=b - a:=⟨_,rfl⟩
 rw [← hL] at el
 (refine Jy ?_;refine JQ ?_;refine Jy ?_)
 refine JiZ (bx:=Jm s d0 tl) (pm:= []) (nx:=nx) (nn:=1) (df:=some []) (L:= [(0, .hs (0,s) 0 n cap),(1,int a),(6,int L)]) rfl rfl rfl Sf .slnil ⟨Rf,Rf,Jf el,Tt⟩ ?_
 refine Z ?_
 intro c g8;cases c
 ·refine Z ?_;exact Jt rfl ⟨_,_,Rf,Jr (Jm s d0 tl) [] rfl Sf .slnil Bf Pf,d0,_,1,Go.Sort.permIn_refl _ _ _,rfl⟩
 ·have g8:=Ju g8;try dsimp only at g8
  have hM2:=Jnd (n:=L) Om Om;have hM0:0 < 2 ^ Lib.bitLen L:=Nat.two_pow_pos _;have hnp:=JrO L Om Om;refine Z ?_;refine Ja rfl rfl hnp Y1 fun nx1=> ?_
  replace hM2:=hM2.1
  generalize 2 ^ Lib.bitLen L=M at hM0 hM2 hnp;have e1:IntKind.i64.wrap (IntKind.i64.wrap ((a:Int)+IntKind.i64.wrap (IntKind.i64.wrap (Int.tdiv (L:Int) 4) * 2)) - 1)=((a+L / 4 * 2 - 1+0:Nat):Int):=by
   rw [show Int.tdiv (L:Int) 4=((L / 4:Nat):Int) from rfl,Jq (n:=((L / 4:Nat):Int)) Om Om,Jq (n:=((L / 4:Nat):Int) * 2) Om Om,Jq (n:=(a:Int)+((L / 4:Nat):Int) * 2) Om Om,Jq Om Om];omega
  have e2:IntKind.i64.wrap (IntKind.i64.wrap ((a:Int)+IntKind.i64.wrap (IntKind.i64.wrap (Int.tdiv (L:Int) 4) * 2))+1)=((a+L / 4 * 2+1:Nat):Int):=by
   rw [show Int.tdiv (L:Int) 4=((L / 4:Nat):Int) from rfl,Jq (n:=((L / 4:Nat):Int)) Om Om,Jq (n:=((L / 4:Nat):Int) * 2) Om Om,Jq (n:=(a:Int)+((L / 4:Nat):Int) * 2) Om Om,Jq Om Om];omega
  have eM:IntKind.u64.wrap ((M:Int) - 1)=((M - 1:Nat):Int):=(IntWalk.u64_in _ Om).trans Om;refine Z ?_;refine Js (fun y:Array (Int)×Nat×Int×Nat=> mk 65 [(0, .hs (0,s) 0 n cap),(1,int a),(6,int L),(7, .bp (1,nx) 0),(8, .v (.int .u64 (M:Int))),(9,int (a+L / 4 * 2 - 1+y.2.1:Nat))] ⟨Jox s nx y.2.2.1 y.1 tl, [],y.2.2.2,2⟩) (fun y=> y.1.size=n∧y.2.1≤3∧Go.Sort.PermIn a b d0 y.1) (fun y=> 3 - y.2.1) ?_ ?_
  ·exact ⟨(d0,0,_,nx1),⟨hn,Dm,Go.Sort.permIn_refl _ _ _⟩,Je _ _ rfl rfl Sf .slnil Bf Tt ⟨Rf,Rf,Rf,Rf,Rf,Jf e1,Tt⟩⟩
  ·rintro ⟨d,m,z,nx2⟩ ⟨h1,h2,h3⟩;dsimp only at h1 h2 h3;refine Z ?_;intro c g;cases c
   ·refine Z ?_;exact Jt rfl ⟨_,_,Rf,Jr (Jm s d tl) [] rfl (.cons _ Sf) .slnil Bf Pf,d,_,1,h3,rfl⟩
   ·have g:=Ju g
    replace g:=(show ((a+L / 4 * 2 - 1+m:Nat):Int)≤IntKind.i64.wrap (IntKind.i64.wrap ((a:Int)+IntKind.i64.wrap (IntKind.i64.wrap (Int.tdiv (L:Int) 4) * 2))+1) from g)
    rw [e2] at g;have hm:m≤2:=(by omega);refine Jy ?_;refine JQ ?_;refine Jy ?_;refine Jg (xs:= [.bp (1,nx) 0]) [] [] 2 rfl rfl rfl rfl Y1 (JrP z (Jba Jl d tl) s nx _) Bf Pf rfl fun r h' hq=> ?_;obtain ⟨z',nx3,nn',rfl,rfl⟩:=hq;obtain ⟨k,hk1,hk2⟩:=JCc z' (m:=M - 1) Om;rw [← eM] at hk2;refine Jy ?_;refine AW.le (E':=mk 65 [(0, .hs (0,s) 0 n cap),(1,int a),(6,int L),(7, .bp (1,nx) 0),(8, .v (.int .u64 (M:Int))),(9,int (a+L / 4 * 2 - 1+m:Nat)),(10,int k)] ⟨Jox s nx z' d tl, [],nx3,2⟩) (Es rfl rfl ⟨Rf,Rf,Rf,Rf,Rf,Rf,Jf (by rw [hk2];exact JdH rfl Om),Tt⟩) ?_;clear hk2 e2 eM e1;refine JeR (fun y:Nat×Nat=> mk 65 [(0, .hs (0,s) 0 n cap),(1,int a),(6,int L),(7, .bp (1,nx) 0),(8, .v (.int .u64 (M:Int))),(9,int (a+L / 4 * 2 - 1+m:Nat)),(10,int y.1)] ⟨Jox s nx z' d tl, [],y.2,2⟩) (fun y=> y.1 < L) ?_ ?_
    ·refine Z ?_;intro c g2;cases c
     ·have g2:=Jw g2;try dsimp only at g2
      refine Z ?_;exact ⟨(k,nx3),Bo,Je _ _ rfl rfl Sf .slnil Bf Tt Y7⟩
     ·have g2:=Ju g2;try dsimp only at g2
      refine Z ?_;exact ⟨(k - L,nx3),Bo,Je _ _ rfl rfl Sf .slnil Bf Tt ⟨Rf,Rf,Rf,Rf,Rf,Rf,Jf (by rw [Jq Bo Bo];dsimp only;omega),Tt⟩⟩
    ·rintro ⟨o,nx4⟩ ho;dsimp only at ho;have eo:IntKind.i64.wrap ((a:Int)+(o:Int))=((a+o:Nat):Int):=JdH Om Om;refine Z ?_;refine Jcv 20 (Ef [17,19]) (Ef [11,15]) [0,1,2,3,4,5,6,7,8,9,10,12,13,14,11,15,16,17,18,19] Kr Kr ?_
     (conv=> whnf)
     refine ⟨⟨JG (i:=a+o) (eo),JH (i:=a+o) (eo) Om⟩, ?_⟩
     (conv=> whnf)
     refine ⟨⟨JG (i:=a+L / 4 * 2 - 1+m) (rfl),JH (i:=a+L / 4 * 2 - 1+m) (rfl) Om⟩, ?_⟩
     (conv=> whnf)
     refine ⟨Jl d[a+o]!,Jap (E:=Jl) (d:=d) (tl:=tl) (j:=a+o) rfl rfl rfl (JO (i:=a+o) Jv (eo)) rfl Jbh rfl Om, ?_⟩
     (conv=> whnf)
     refine ⟨Jl d[a+L / 4 * 2 - 1+m]!,Jap (E:=Jl) (d:=d) (tl:=tl) (j:=a+L / 4 * 2 - 1+m) rfl rfl rfl (JO (i:=a+L / 4 * 2 - 1+m) Jv (rfl)) rfl Jbh rfl Om, ?_⟩
     (conv=> whnf)
     refine ⟨⟨JG (i:=a+L / 4 * 2 - 1+m) (rfl),JH (i:=a+L / 4 * 2 - 1+m) (rfl) Om⟩, ?_⟩
     (conv=> whnf)
     refine ⟨_,Jao (E:=Jl) (d:=d) (tl:=tl) (j:=a+L / 4 * 2 - 1+m) (z:=d[a+o]!) rfl rfl rfl rfl (JO (i:=a+L / 4 * 2 - 1+m) Jv (rfl)) rfl rfl rfl rfl Kr Jv Om,fun r0 h0 hr0=> ?_⟩;subst hr0
     (conv=> whnf)
     refine ⟨⟨JG (i:=a+o) (eo),JH (i:=a+o) (eo) Om⟩, ?_⟩
     (conv=> whnf)
     refine ⟨_,Jao (E:=Jl) (d:=(d).setIfInBounds (a+L / 4 * 2 - 1+m) d[a+o]!) (tl:=tl) (j:=a+o) (z:=d[a+L / 4 * 2 - 1+m]!) rfl rfl rfl rfl (JO (i:=a+o) Jv (eo)) rfl rfl rfl rfl Kr Jv (by simp;omega),fun r0 h0 hr0=> ?_⟩;subst hr0;refine Z ?_;exact back (Go.Sort.swp d (a+L / 4 * 2 - 1+m) (a+o),m+1,z',nx4) ⟨by dsimp only;rw [JbS];exact h1,Dm,Go.Sort.permIn_trans _ _ _ a b h3 (Go.Sort.swp_permIn d a b _ _ Om Om Om Om Om)⟩ Dm (Es rfl rfl ⟨Rf,Rf,Rf,Rf,Rf,Jf (by rw [Jq Bo Bo];dsimp only;omega),Tt⟩)
theorem JBc (d0:Array (Int)) (tl:List AV) (n a b:Nat) (hn:d0.size=n) (hab:a < b) (hb:b≤n) (hsz:n≤1000000) (s cap nx:Nat):
 ECall Tryz.prog 204 [.hs (0,s) 0 n cap,int a,int b] ⟨Jm s d0 tl, [],nx,1⟩ (fun r h'=> ∃nx' nn',r= .v (.bool (Go.Sort.partialInsertionSort Go.Sort.ltInt d0 a b).2)∧h'=⟨Jm s (Go.Sort.partialInsertionSort Go.Sort.ltInt d0 a b).1 tl, [],nx',nn'⟩):=by
 refine ECall.wk (Jo Tryz.func204 rfl rfl ?_)
 have hP:Go.Sort.partialIns Go.Sort.ltInt a b 5 (a+1) d0=Go.Sort.partialInsertionSort Go.Sort.ltInt d0 a b:=rfl
 generalize Go.Sort.partialInsertionSort Go.Sort.ltInt d0 a b=Pt at hP⊢
 refine Z ?_
 refine Js (fun y:Array (Int)×(Nat×Nat)×Nat=> mk 133 [(0, .hs (0,s) 0 n cap),(1,int a),(2,int b),(7,int y.2.1.1),(8,int y.2.1.2)] ⟨Jm s y.1 tl, [],y.2.2,1⟩) (fun y=> y.1.size=n∧(a+1≤y.2.1.1∧y.2.1.1≤b)∧y.2.1.2≤5∧Go.Sort.partialIns Go.Sort.ltInt a b (5 - y.2.1.2) y.2.1.1 y.1=Pt) (fun y=> 5 - y.2.1.2) ?_ ?_
 ·exact ⟨(d0,(a+1,0),_),⟨hn,⟨Nat.le_refl _,Dm⟩,Dm,hP⟩,Je _ _ rfl rfl Sf .slnil Bf Tt ⟨Rf,Rf,Rf,Jf (Jx Om),Y1⟩⟩
 ·rintro ⟨d1,⟨i1,st⟩,nx1⟩ ⟨h1,h2,h3,h4⟩;dsimp only at h1 h2 h3 h4;refine Z ?_;intro c g;cases c
  ·have g:=Jw g;try dsimp only at g
   obtain rfl:st=5:=by omega
   subst h4;refine Z ?_;exact Jt rfl ⟨_,_,Rf,Jr (Jm s d1 tl) [] rfl Sf .slnil Bf Pf,_,1,rfl,rfl⟩
  ·have g:=Ju g;try dsimp only at g
   obtain ⟨m,hm⟩:∃m,5 - st=m+1:=⟨4 - st,Om⟩;rw [hm,Go.Sort.partialIns_succ] at h4;refine Z ?_;refine Jbj (fun y:Nat×Nat=> mk 133 [(0, .hs (0,s) 0 n cap),(1,int a),(2,int b),(7,int y.1),(8,int st)] ⟨Jm s d1 tl, [],y.2,1⟩) (fun y=> (a+1≤y.1∧y.1≤b)∧y.1=Go.Sort.scanSorted Go.Sort.ltInt d1 b i1) ?_ ?_
   ·refine Js (fun y:Nat×Nat=> mk 133 [(0, .hs (0,s) 0 n cap),(1,int a),(2,int b),(7,int y.1),(8,int st)] ⟨Jm s d1 tl, [],y.2,1⟩) (fun y=> (a+1≤y.1∧y.1≤b)∧Go.Sort.scanSorted Go.Sort.ltInt d1 b y.1=Go.Sort.scanSorted Go.Sort.ltInt d1 b i1) (fun y=> b - y.1) ?_ ?_
    ·exact ⟨(i1,nx1),⟨h2,rfl⟩,Je _ _ rfl rfl Sf .slnil Bf Tt Y5⟩
    ·rintro ⟨k,nx2⟩ ⟨k1,k2⟩;dsimp only at k1 k2;by_cases hij:k < b
     ·have hd:decide (((k:Nat):Int) < ((b:Nat):Int))=true:=decide_eq_true Om;have hj1:IntKind.i64.wrap ((k:Int) - 1)=((k - 1:Nat):Int):=(by rw [Jq Om Om];omega);refine Z ?_
      (refine JJ 16 Kr Kr Kr ?_)
      refine Z ?_
      (conv=> whnf)
      refine JaU hd ?_;refine Z ?_;refine ⟨⟨JG (i:=k) (rfl),JH (i:=k) (rfl) Om⟩,Jj (b:= .bp (0,s) (k)) (congrArg (AV.bp (0,s)) (JO (i:=k) Jv (rfl))) ?_⟩
      (conv=> whnf)
      refine ⟨⟨rfl,Jaw (show k < d1.size by omega)⟩,Jj (b:=Jl d1[k]!) (Jac (show k < d1.size by omega)) ?_⟩;refine Z ?_;refine ⟨⟨JG (i:=k - 1) (hj1),JH (i:=k - 1) (hj1) Om⟩,Jj (b:= .bp (0,s) (k - 1)) (congrArg (AV.bp (0,s)) (JO (i:=k - 1) Jv (hj1))) ?_⟩
      (conv=> whnf)
      refine ⟨⟨rfl,Jaw (show k - 1 < d1.size by omega)⟩,Jj (b:=Jl d1[k - 1]!) (Jac (show k - 1 < d1.size by omega)) ?_⟩;refine Z ?_;refine Jaj (JV rfl rfl (Jcu d1[k]! d1[k - 1]!) Y2 (NoId.v _)) ?_;refine Z ?_;intro c hlt;cases c
      ·rw [JtF hij hlt.symm] at k2;refine Z ?_;exact back (k+1,nx2) ⟨Bd,k2⟩ Bo (Es rfl rfl ⟨Rf,Rf,Rf,Lw,Y1⟩)
      ·rw [Jj9 (fun hh=> Bool.false_ne_true (hh.2.symm.trans hlt.symm))] at k2;refine Z ?_;exact ⟨(k,nx2),⟨k1,k2⟩,Je _ _ rfl rfl Sf .slnil Bf Tt Y5⟩
     ·have hd:decide (((k:Nat):Int) < ((b:Nat):Int))=false:=decide_eq_false Om;rw [Jj9 (fun hh=> hij hh.1)] at k2;refine Z ?_
      (refine JJ 16 Kr Kr Kr ?_)
      refine Z ?_
      (conv=> whnf)
      refine JaU hd ?_;refine Z ?_;exact ⟨(k,nx2),⟨k1,k2⟩,Je _ _ rfl rfl Sf .slnil Bf Tt Y5⟩
   ·rintro ⟨i,nx2⟩ ⟨k1,k2⟩;dsimp only at k1 k2;rw [← k2] at h4;clear k2;refine Z ?_;intro c g2;cases c
    ·have g2:¬i=b:=fun h=> by
      subst h;exact Bool.false_ne_true (g2.trans (beq_self_eq_true _))
     rw [if_neg g2] at h4;refine Z ?_;intro c g3;cases c
     ·have g3:=Jw g3
      replace g3:=(show ¬(IntKind.i64.wrap ((b:Int) - (a:Int)) < 50) from g3)
      rw [Jq Om Om] at g3;rw [if_neg Om] at h4;have hj1:IntKind.i64.wrap ((i:Int) - 1)=((i - 1:Nat):Int):=(by rw [Jq Om Om];omega);refine Z ?_;refine Jcv 18 (Ef [15,17]) (Ef [9,13]) [0,1,2,3,4,5,6,7,8,10,11,12,9,13,14,15,16,17] Kr Kr ?_
      (conv=> whnf)
      refine ⟨⟨JG (i:=i - 1) (hj1),JH (i:=i - 1) (hj1) Om⟩, ?_⟩
      (conv=> whnf)
      refine ⟨⟨JG (i:=i) (rfl),JH (i:=i) (rfl) Om⟩, ?_⟩
      (conv=> whnf)
      refine ⟨Jl d1[i - 1]!,Jap (E:=Jl) (d:=d1) (tl:=tl) (j:=i - 1) rfl rfl rfl (JO (i:=i - 1) Jv (hj1)) rfl Jbh rfl Om, ?_⟩
      (conv=> whnf)
      refine ⟨Jl d1[i]!,Jap (E:=Jl) (d:=d1) (tl:=tl) (j:=i) rfl rfl rfl (JO (i:=i) Jv (rfl)) rfl Jbh rfl Om, ?_⟩
      (conv=> whnf)
      refine ⟨⟨JG (i:=i) (rfl),JH (i:=i) (rfl) Om⟩, ?_⟩
      (conv=> whnf)
      refine ⟨_,Jao (E:=Jl) (d:=d1) (tl:=tl) (j:=i) (z:=d1[i - 1]!) rfl rfl rfl rfl (JO (i:=i) Jv (rfl)) rfl rfl rfl rfl Kr Jv Om,fun r0 h0 hr0=> ?_⟩;subst hr0
      (conv=> whnf)
      refine ⟨⟨JG (i:=i - 1) (hj1),JH (i:=i - 1) (hj1) Om⟩, ?_⟩
      (conv=> whnf)
      refine ⟨_,Jao (E:=Jl) (d:=(d1).setIfInBounds (i) d1[i - 1]!) (tl:=tl) (j:=i - 1) (z:=d1[i]!) rfl rfl rfl rfl (JO (i:=i - 1) Jv (hj1)) rfl rfl rfl rfl Kr Jv (by simp;omega),fun r0 h0 hr0=> ?_⟩;subst hr0;refine Jy ?_;refine AW.le (E':=mk 133 [(0, .hs (0,s) 0 n cap),(1,int a),(2,int b),(7,int i),(8,int st)] ⟨Jm s (Go.Sort.swp d1 i (i - 1)) tl, [],nx2,1⟩) (Es rfl rfl Y5) ?_;have hd1:(Go.Sort.swp d1 i (i - 1)).size=n:=(by rw [JbS];exact h1);generalize Go.Sort.swp d1 i (i - 1)=d at h4 hd1⊢;refine JeR (fun y:Array (Int)×Nat=> mk 133 [(0, .hs (0,s) 0 n cap),(1,int a),(2,int b),(7,int i),(8,int st)] ⟨Jm s y.1 tl, [],y.2,1⟩) (fun y=> y.1.size=n∧y.1=Go.Sort.fixDown Go.Sort.ltInt a i d) ?_ ?_
      ·refine Z ?_;intro c g;cases c
       ·have g:=Jw g
        replace g:=(show ¬(IntKind.i64.wrap ((i:Int) - (a:Int))≥2) from g)
        rw [Jq Om Om] at g;have hfx:Go.Sort.fixDown Go.Sort.ltInt a i d=d:=if_neg Om;refine Z ?_;exact ⟨(d,_),⟨hd1,hfx.symm⟩,Je _ _ rfl rfl Sf .slnil Bf Tt Y5⟩
       ·have g:=Ju g
        replace g:=(show IntKind.i64.wrap ((i:Int) - (a:Int))≥2 from g)
        rw [Jq Om Om] at g;have hfx:Go.Sort.fixDown Go.Sort.ltInt a i d=Go.Sort.shiftDown Go.Sort.ltInt (i - 1) d:=if_pos Om;rw [hfx];refine Z ?_;refine Js (fun y:Array (Int)×Nat×Nat=> mk 133 [(0, .hs (0,s) 0 n cap),(1,int a),(2,int b),(7,int i),(8,int st),(9,int y.2.1)] ⟨Jm s y.1 tl, [],y.2.2,1⟩) (fun y=> (y.1.size=n∧y.2.1≤i - 1∧Go.Sort.shiftDown Go.Sort.ltInt y.2.1 y.1=Go.Sort.shiftDown Go.Sort.ltInt (i - 1) d)) (fun y=> y.2.1) ?_ ?_
        ·exact ⟨(d,i - 1,_),⟨hd1,Nat.le_refl _,rfl⟩,Je _ _ rfl rfl Sf .slnil Bf Tt ⟨Rf,Rf,Rf,Rf,Rf,Jf (by rw [Jq Om Om];dsimp only;omega),Tt⟩⟩
        ·rintro ⟨e,j,nx5⟩ ⟨q1,q2,q4⟩;dsimp only at q1 q2 q4;refine Z ?_;intro c g2;cases c
         ·have g2:=Jw g2;try dsimp only at g2
          obtain rfl:j=0:=(by omega);refine Z ?_;exact ⟨(e,nx5),⟨q1,q4⟩,Je _ _ rfl rfl Sf .slnil Bf Tt Y5⟩
         ·have g2:=Ju g2;try dsimp only at g2
          have hj1:IntKind.i64.wrap ((j:Int) - 1)=((j - 1:Nat):Int):=(by rw [Jq Om Om];omega);refine Z ?_
          (refine JJ 11 Kr Kr Kr ?_)
          refine Z ?_;refine ⟨⟨JG (i:=j) (rfl),JH (i:=j) (rfl) Om⟩,Jj (b:= .bp (0,s) (j)) (congrArg (AV.bp (0,s)) (JO (i:=j) Jv (rfl))) ?_⟩
          (conv=> whnf)
          refine ⟨⟨rfl,Jaw (show j < e.size by omega)⟩,Jj (b:=Jl e[j]!) (Jac (show j < e.size by omega)) ?_⟩;refine Z ?_;refine ⟨⟨JG (i:=j - 1) (hj1),JH (i:=j - 1) (hj1) Om⟩,Jj (b:= .bp (0,s) (j - 1)) (congrArg (AV.bp (0,s)) (JO (i:=j - 1) Jv (hj1))) ?_⟩
          (conv=> whnf)
          refine ⟨⟨rfl,Jaw (show j - 1 < e.size by omega)⟩,Jj (b:=Jl e[j - 1]!) (Jac (show j - 1 < e.size by omega)) ?_⟩;refine Z ?_;refine Jaj (JV rfl rfl (Jcu e[j]! e[j - 1]!) Y2 (NoId.v _)) ?_;refine Z ?_;intro c hlt;cases c
          ·rw [Jz5 hlt.symm] at q4;refine Z ?_;exact ⟨(e,nx5),⟨q1,q4⟩,Je _ _ rfl rfl Sf .slnil Bf Tt Y5⟩
          ·rw [JBT Om hlt.symm] at q4;refine Z ?_;refine Jcv 18 (Ef [15,17]) (Ef [9,13]) [0,1,2,3,4,5,6,7,8,10,11,12,9,13,14,15,16,17] Kr Kr ?_
           (conv=> whnf)
           refine ⟨⟨JG (i:=j - 1) (hj1),JH (i:=j - 1) (hj1) Om⟩, ?_⟩
           (conv=> whnf)
           refine ⟨⟨JG (i:=j) (rfl),JH (i:=j) (rfl) Om⟩, ?_⟩
           (conv=> whnf)
           refine ⟨Jl e[j - 1]!,Jap (E:=Jl) (d:=e) (tl:=tl) (j:=j - 1) rfl rfl rfl (JO (i:=j - 1) Jv (hj1)) rfl Jbh rfl Om, ?_⟩
           (conv=> whnf)
           refine ⟨Jl e[j]!,Jap (E:=Jl) (d:=e) (tl:=tl) (j:=j) rfl rfl rfl (JO (i:=j) Jv (rfl)) rfl Jbh rfl Om, ?_⟩
           (conv=> whnf)
           refine ⟨⟨JG (i:=j) (rfl),JH (i:=j) (rfl) Om⟩, ?_⟩
           (conv=> whnf)
           refine ⟨_,Jao (E:=Jl) (d:=e) (tl:=tl) (j:=j) (z:=e[j - 1]!) rfl rfl rfl rfl (JO (i:=j) Jv (rfl)) rfl rfl rfl rfl Kr Jv Om,fun r0 h0 hr0=> ?_⟩;subst hr0
           (conv=> whnf)
           refine ⟨⟨JG (i:=j - 1) (hj1),JH (i:=j - 1) (hj1) Om⟩, ?_⟩
           (conv=> whnf)
           refine ⟨_,Jao (E:=Jl) (d:=(e).setIfInBounds (j) e[j - 1]!) (tl:=tl) (j:=j - 1) (z:=e[j]!) rfl rfl rfl rfl (JO (i:=j - 1) Jv (hj1)) rfl rfl rfl rfl Kr Jv (by simp;omega),fun r0 h0 hr0=> ?_⟩;subst hr0;refine Z ?_;exact back (Go.Sort.swp e j (j - 1),j - 1,nx5) ⟨by dsimp only;rw [JbS];exact q1,Bo,q4⟩ Bo (Es rfl rfl ⟨Rf,Rf,Rf,Rf,Rf,Jf hj1,Tt⟩)
      rintro ⟨d2,nx3⟩ ⟨hd2,hf⟩;dsimp only at hd2 hf;rw [← hf] at h4;clear hf;refine Jy ?_;refine JzN (fun y:Array (Int)×Nat=> mk 133 [(0, .hs (0,s) 0 n cap),(1,int a),(2,int b),(7,int i),(8,int st)] ⟨Jm s y.1 tl, [],y.2,1⟩) (fun y=> y.1.size=n∧y.1=Go.Sort.fixUp Go.Sort.ltInt b i d2) ?_ ?_
      ·refine Z ?_;intro c g;cases c
       ·have g:=Jw g
        replace g:=(show ¬(IntKind.i64.wrap ((b:Int) - (i:Int))≥2) from g)
        rw [Jq Om Om] at g;have hfx:Go.Sort.fixUp Go.Sort.ltInt b i d2=d2:=if_neg Om;refine Z ?_;exact ⟨(d2,_),⟨hd2,hfx.symm⟩,Je _ _ rfl rfl Sf .slnil Bf Tt Y5⟩
       ·have g:=Ju g
        replace g:=(show IntKind.i64.wrap ((b:Int) - (i:Int))≥2 from g)
        rw [Jq Om Om] at g;have hfx:Go.Sort.fixUp Go.Sort.ltInt b i d2=Go.Sort.shiftUp Go.Sort.ltInt b (i+1) d2:=if_pos Om;rw [hfx];refine Z ?_;refine Js (fun y:Array (Int)×Nat×Nat=> mk 133 [(0, .hs (0,s) 0 n cap),(1,int a),(2,int b),(7,int i),(8,int st),(10,int y.2.1)] ⟨Jm s y.1 tl, [],y.2.2,1⟩) (fun y=> (y.1.size=n∧i+1≤y.2.1∧y.2.1≤b+1∧Go.Sort.shiftUp Go.Sort.ltInt b y.2.1 y.1=Go.Sort.shiftUp Go.Sort.ltInt b (i+1) d2)) (fun y=> b+1 - y.2.1) ?_ ?_
        ·exact ⟨(d2,i+1,_),⟨hd2,Nat.le_refl _,Dm,rfl⟩,Je _ _ rfl rfl Sf .slnil Bf Tt ⟨Rf,Rf,Rf,Rf,Rf,Jf (Jx Om),Tt⟩⟩
        ·rintro ⟨e,j,nx5⟩ ⟨q1,q2,q3,q4⟩;dsimp only at q1 q2 q3 q4;refine Z ?_;intro c g2;cases c
         ·have g2:=Jw g2;try dsimp only at g2
          rw [Jrv (fun hh=> by omega)] at q4;refine Z ?_;exact ⟨(e,nx5),⟨q1,q4⟩,Je _ _ rfl rfl Sf .slnil Bf Tt Y5⟩
         ·have g2:=Ju g2;try dsimp only at g2
          have hj1:IntKind.i64.wrap ((j:Int) - 1)=((j - 1:Nat):Int):=(by rw [Jq Om Om];omega);refine Z ?_
          (refine JJ 11 Kr Kr Kr ?_)
          refine Z ?_;refine ⟨⟨JG (i:=j) (rfl),JH (i:=j) (rfl) Om⟩,Jj (b:= .bp (0,s) (j)) (congrArg (AV.bp (0,s)) (JO (i:=j) Jv (rfl))) ?_⟩
          (conv=> whnf)
          refine ⟨⟨rfl,Jaw (show j < e.size by omega)⟩,Jj (b:=Jl e[j]!) (Jac (show j < e.size by omega)) ?_⟩;refine Z ?_;refine ⟨⟨JG (i:=j - 1) (hj1),JH (i:=j - 1) (hj1) Om⟩,Jj (b:= .bp (0,s) (j - 1)) (congrArg (AV.bp (0,s)) (JO (i:=j - 1) Jv (hj1))) ?_⟩
          (conv=> whnf)
          refine ⟨⟨rfl,Jaw (show j - 1 < e.size by omega)⟩,Jj (b:=Jl e[j - 1]!) (Jac (show j - 1 < e.size by omega)) ?_⟩;refine Z ?_;refine Jaj (JV rfl rfl (Jcu e[j]! e[j - 1]!) Y2 (NoId.v _)) ?_;refine Z ?_;intro c hlt;cases c
          ·rw [Jrv (fun hh=> Bool.false_ne_true (hlt.trans hh.2))] at q4;refine Z ?_;exact ⟨(e,nx5),⟨q1,q4⟩,Je _ _ rfl rfl Sf .slnil Bf Tt Y5⟩
          ·rw [JBU Om hlt.symm] at q4;refine Z ?_;refine Jcv 18 (Ef [15,17]) (Ef [9,13]) [0,1,2,3,4,5,6,7,8,10,11,12,9,13,14,15,16,17] Kr Kr ?_
           (conv=> whnf)
           refine ⟨⟨JG (i:=j - 1) (hj1),JH (i:=j - 1) (hj1) Om⟩, ?_⟩
           (conv=> whnf)
           refine ⟨⟨JG (i:=j) (rfl),JH (i:=j) (rfl) Om⟩, ?_⟩
           (conv=> whnf)
           refine ⟨Jl e[j - 1]!,Jap (E:=Jl) (d:=e) (tl:=tl) (j:=j - 1) rfl rfl rfl (JO (i:=j - 1) Jv (hj1)) rfl Jbh rfl Om, ?_⟩
           (conv=> whnf)
           refine ⟨Jl e[j]!,Jap (E:=Jl) (d:=e) (tl:=tl) (j:=j) rfl rfl rfl (JO (i:=j) Jv (rfl)) rfl Jbh rfl Om, ?_⟩
           (conv=> whnf)
           refine ⟨⟨JG (i:=j) (rfl),JH (i:=j) (rfl) Om⟩, ?_⟩
           (conv=> whnf)
           refine ⟨_,Jao (E:=Jl) (d:=e) (tl:=tl) (j:=j) (z:=e[j - 1]!) rfl rfl rfl rfl (JO (i:=j) Jv (rfl)) rfl rfl rfl rfl Kr Jv Om,fun r0 h0 hr0=> ?_⟩;subst hr0
           (conv=> whnf)
           refine ⟨⟨JG (i:=j - 1) (hj1),JH (i:=j - 1) (hj1) Om⟩, ?_⟩
           (conv=> whnf)
           refine ⟨_,Jao (E:=Jl) (d:=(e).setIfInBounds (j) e[j - 1]!) (tl:=tl) (j:=j - 1) (z:=e[j]!) rfl rfl rfl rfl (JO (i:=j - 1) Jv (hj1)) rfl rfl rfl rfl Kr Jv (by simp;omega),fun r0 h0 hr0=> ?_⟩;subst hr0;refine Z ?_;exact back (Go.Sort.swp e j (j - 1),j+1,nx5) ⟨by dsimp only;rw [JbS];exact q1,Bo,Bo,q4⟩ Bo (Es rfl rfl ⟨Rf,Rf,Rf,Rf,Rf,Lw,Tt⟩)
      rintro ⟨d3,nx4⟩ ⟨hd3,hf⟩;dsimp only at hd3 hf;rw [← hf] at h4;refine Z ?_;exact back (d3,(i,st+1),nx4) ⟨hd3,Bd,Bo,by dsimp only;rw [show 5 - (st+1)=m by omega];exact h4⟩ Bo (Es rfl rfl ⟨Rf,Rf,Rf,Rf,Lw,Tt⟩)
     ·have g3:=Ju g3
      replace g3:=(show IntKind.i64.wrap ((b:Int) - (a:Int)) < 50 from g3)
      rw [Jq Om Om] at g3;rw [if_pos Om] at h4;subst h4;refine Z ?_;exact Jt rfl ⟨_,_,Rf,Jr (Jm s d1 tl) [] rfl Sf .slnil Bf Pf,_,1,rfl,rfl⟩
    ·have g2:i=b:=by
      have:=eq_of_beq g2.symm;exact Int.ofNat_inj.1 this
     rw [if_pos g2] at h4;subst h4;refine Z ?_;exact Jt rfl ⟨_,_,Rf,Jr (Jm s d1 tl) [] rfl Sf .slnil Bf Pf,_,1,rfl,rfl⟩
theorem JCX (tl:List AV) (n:Nat) (hsz:n≤1000000) (s cap:Nat):∀(M:Nat) (d0:Array (Int)) (a0 b0:Nat) (lim0:Int) (nx:Nat),b0 - a0≤M→d0.size=n→a0≤b0→b0≤n→Go.Sort.Below Go.Sort.ltInt a0 b0 d0→
 ECall Tryz.prog 151 [.hs (0,s) 0 n cap,int a0,int b0,int lim0] ⟨Jm s d0 tl, [],nx,1⟩ (fun r h'=> ∃d' nx' nn',Go.Sort.PermIn a0 b0 d0 d'∧Go.Sort.SortedIn Go.Sort.ltInt a0 b0 d'∧h'=⟨Jm s d' tl, [],nx',nn'⟩):=by
 intro M
 induction M using Nat.strongRecOn with
 | _ M ih=>
 intro d0 a0 b0 lim0 nx hM hn0 hab0 hb0 hB0
 refine ECall.wk (Jo Tryz.func151 rfl rfl ?_)
 refine Z ?_
 refine Js (fun y:Array (Int)×(Nat×Nat)×Int×(Bool×Bool)×Nat=> mk 134 [(0, .hs (0,s) 0 n cap),(1,int y.2.1.1),(2,int y.2.1.2),(3,int y.2.2.1),(8, .v (.bool y.2.2.2.1.1)),(9, .v (.bool y.2.2.2.1.2))] ⟨Jm s y.1 tl, [],y.2.2.2.2,1⟩) (fun y=> y.1.size=n∧(y.2.1.1≤y.2.1.2∧y.2.1.2≤n∧y.2.1.2 - y.2.1.1≤b0 - a0)∧Go.Sort.Below Go.Sort.ltInt y.2.1.1 y.2.1.2 y.1∧∀R,Go.Sort.PermIn y.2.1.1 y.2.1.2 y.1 R→Go.Sort.SortedIn Go.Sort.ltInt y.2.1.1 y.2.1.2 R→Go.Sort.PermIn a0 b0 d0 R∧Go.Sort.SortedIn Go.Sort.ltInt a0 b0 R) (fun y=> y.2.1.2 - y.2.1.1) ?_ ?_
 ·exact ⟨(d0,(a0,b0),lim0,(true,true),_),⟨hn0,⟨hab0,hb0,Nat.le_refl _⟩,hB0,fun R h1 h2=> ⟨h1,h2⟩⟩,Je _ _ rfl rfl Sf .slnil Bf Tt Y6⟩
 ·rintro ⟨d,⟨a,b⟩,lim,⟨wb,wp⟩,nx1⟩ ⟨h1,⟨hab,hb,hle⟩,hB,hK⟩;dsimp only at h1 hab hb hle hB hK;have el:IntKind.i64.wrap ((b:Int) - (a:Int))=((b - a:Nat):Int):=JdH Om Om;refine Jy ?_;refine JQ ?_;refine Jy ?_;refine AW.le (E':=mk 134 [(0, .hs (0,s) 0 n cap),(1,int a),(2,int b),(3,int lim),(8, .v (.bool wb)),(9, .v (.bool wp)),(10,int (b - a:Nat))] ⟨Jm s d tl, [],nx1,1⟩) (Es rfl rfl ⟨Rf,Rf,Rf,Rf,Rf,Rf,Jf el,Tt⟩) ?_;clear el;refine Z ?_;intro c g12;cases c
  ·have g12:=Jw g12;try dsimp only at g12
   refine Z ?_;intro c0 hc0;cases c0
   ·refine Jy ?_;refine JeR (fun y:Array (Int)×Int×Nat=> mk 134 [(0, .hs (0,s) 0 n cap),(1,int a),(2,int b),(3,int y.2.1),(8, .v (.bool wb)),(9, .v (.bool wp)),(10,int (b - a:Nat))] ⟨Jm s y.1 tl, [],y.2.2,1⟩) (fun y=> Go.Sort.PermIn a b d y.1) ?_ ?_
    ·cases wb
     ·refine Z ?_;refine Jg (xs:= [.hs (0,s) 0 n cap,int a,int b]) [] [] 1 rfl rfl rfl rfl Y3 (Jzg d tl n a b h1 hab hb hsz s cap _) Bf Pf rfl fun r h' hq=> ?_;obtain ⟨d1,nx2,nn2,hp,rfl⟩:=hq;refine Z ?_;exact ⟨(d1,_,nx2),hp,Je _ _ rfl rfl Sf .slnil Bf Tt Y7⟩
     ·refine Z ?_;exact ⟨(d,lim,nx1),Go.Sort.permIn_refl _ _ _,Je _ _ rfl rfl Sf .slnil Bf Tt Y7⟩
    ·rintro ⟨d1,lim1,nx2⟩ hp1;dsimp only at hp1;have s1:d1.size=n:=hp1.1.trans h1;refine Jy ?_;refine JQ ?_;refine Jy ?_;refine Jg (xs:= [.hs (0,s) 0 n cap,int a,int b]) [] [] 1 rfl rfl rfl rfl Y3 (Jzf d1 tl n a b s1 Om hb hsz s cap _) Bf Pf rfl fun r h' hq=> ?_;obtain ⟨p,hint,nx3,nn3,hpa,hpb,rfl,rfl⟩:=hq;refine Jy ?_;refine AW.le (E':=mk 134 [(0, .hs (0,s) 0 n cap),(1,int a),(2,int b),(3,int lim1),(8, .v (.bool wb)),(9, .v (.bool wp)),(10,int (b - a:Nat)),(11,int p),(12,int hint)] ⟨Jm s d1 tl, [],nx3,1⟩) (Es rfl rfl Y9) ?_;refine JeR (fun y:Array (Int)×(Nat×Int)×Nat=> mk 134 [(0, .hs (0,s) 0 n cap),(1,int a),(2,int b),(3,int lim1),(8, .v (.bool wb)),(9, .v (.bool wp)),(10,int (b - a:Nat)),(11,int y.2.1.1),(12,int y.2.1.2)] ⟨Jm s y.1 tl, [],y.2.2,1⟩) (fun y=> Go.Sort.PermIn a b d y.1∧a≤y.2.1.1∧y.2.1.1 < b) ?_ ?_
     ·refine Z ?_;intro c1 hc1;cases c1
      ·refine Z ?_;exact ⟨(d1,(p,hint),nx3),⟨hp1,hpa,hpb⟩,Je _ _ rfl rfl Sf .slnil Bf Tt Y9⟩
      ·refine Z ?_;refine Jg (xs:= [.hs (0,s) 0 n cap,int a,int b]) [] [] 1 rfl rfl rfl rfl Y3 (JCW d1 tl n a b s1 Om hb hsz s cap _) Bf Pf rfl fun r h' hq=> ?_;obtain ⟨nx4,nn4,rfl⟩:=hq;refine Z ?_;exact ⟨(Go.Sort.reverseRange d1 a b,(b - 1 - (p - a),1),nx4),⟨Go.Sort.permIn_trans _ _ _ a b hp1 (Go.Sort.reverseRange_holds d1 a b hab Om),Dm,Dm⟩,Je _ _ rfl rfl Sf .slnil Bf Tt ⟨Rf,Rf,Rf,Rf,Rf,Rf,Rf,Jf (by rw [Jq (n:=(b:Int) - 1) Om Om,Jq (n:=(p:Int) - (a:Int)) Om Om,Jq Om Om];dsimp only;omega),Y1⟩⟩
     ·rintro ⟨d2,⟨p,hint⟩,nx4⟩ ⟨hp2,hpa,hpb⟩;clear hp1 s1;clear d1;dsimp only at hp2 hpa hpb;have s2:d2.size=n:=hp2.1.trans h1;have B2:Go.Sort.Below Go.Sort.ltInt a b d2:=hB.perm Om hp2;have hpi:=(Go.Sort.partialInsertionSort_holds:Go.Sort.partialInsertionSort_stmt Go.Sort.ltInt) Go.Sort.swo_ltInt d2 a b Om Om B2;refine Jy ?_;refine JeR (fun y:Array (Int)×Nat=> mk 134 [(0, .hs (0,s) 0 n cap),(1,int a),(2,int b),(3,int lim1),(8, .v (.bool wb)),(9, .v (.bool wp)),(10,int (b - a:Nat)),(11,int p)] ⟨Jm s y.1 tl, [],y.2,1⟩) (fun y=> Go.Sort.PermIn a b d y.1) ?_ ?_
      ·cases wb
       ·refine Z ?_;exact ⟨(d2,nx4),hp2,Je _ _ rfl rfl Sf .slnil Bf Tt Y8⟩
       ·cases wp
        ·refine Z ?_;exact ⟨(d2,nx4),hp2,Je _ _ rfl rfl Sf .slnil Bf Tt Y8⟩
        ·refine Z ?_;intro c2 hc2;cases c2
         ·refine Z ?_;exact ⟨(d2,nx4),hp2,Je _ _ rfl rfl Sf .slnil Bf Tt Y8⟩
         ·refine Z ?_;refine Jg (xs:= [.hs (0,s) 0 n cap,int a,int b]) [] [] 1 rfl rfl rfl rfl Y3 (JBc d2 tl n a b s2 Om hb hsz s cap _) Bf Pf rfl fun r h' hq=> ?_;obtain ⟨nx5,nn5,rfl,rfl⟩:=hq;obtain ⟨q1,q2⟩:=hpi;generalize Go.Sort.partialInsertionSort Go.Sort.ltInt d2 a b=Pt at q1 q2⊢;obtain ⟨d3,fl⟩:=Pt;dsimp only at q1 q2;cases fl
          ·refine Z ?_;exact ⟨(d3,nx5),Go.Sort.permIn_trans _ _ _ a b hp2 q1,Je _ _ rfl rfl Sf .slnil Bf Tt Y8⟩
          ·obtain ⟨k1,k2⟩:=hK d3 (Go.Sort.permIn_trans _ _ _ a b hp2 q1) (q2 rfl);refine Z ?_;exact Jt rfl ⟨_,_,Rf,Jr (Jm s d3 tl) [] rfl Sf .slnil Bf Pf,d3,_,1,k1,k2,rfl⟩
      ·rintro ⟨d3,nx5⟩ hp3;clear hpi B2 s2 hp2;clear d2;dsimp only at hp3;have s3:d3.size=n:=hp3.1.trans h1;have B3:Go.Sort.Below Go.Sort.ltInt a b d3:=hB.perm Om hp3;have hK3:∀R,Go.Sort.PermIn a b d3 R→Go.Sort.SortedIn Go.Sort.ltInt a b R→Go.Sort.PermIn a0 b0 d0 R∧Go.Sort.SortedIn Go.Sort.ltInt a0 b0 R:=fun R k1 k2=> hK R (Go.Sort.permIn_trans _ _ _ a b hp3 k1) k2;clear hK hB hp3;refine Jy ?_;refine JeR (fun y:Nat=> mk 134 [(0, .hs (0,s) 0 n cap),(1,int a),(2,int b),(3,int lim1),(8, .v (.bool wb)),(9, .v (.bool wp)),(10,int (b - a:Nat)),(11,int p)] ⟨Jm s d3 tl, [],y,1⟩) (fun y=> True) ?_ ?_
       ·by_cases ha:0 < a
        ·have hd:decide (((a:Nat):Int) > 0)=true:=decide_eq_true Om;have ea:IntKind.i64.wrap ((a:Int) - 1)=((a - 1:Nat):Int):=by rw [Jq Om Om];omega
         (refine JJ 15 Kr Kr Kr ?_)
         refine Z ?_
         (conv=> whnf)
         refine JaU hd ?_;refine Z ?_;refine ⟨⟨JG (i:=a - 1) (ea),JH (i:=a - 1) (ea) Om⟩,Jj (b:= .bp (0,s) (a - 1)) (congrArg (AV.bp (0,s)) (JO (i:=a - 1) Jv (ea))) ?_⟩
         (conv=> whnf)
         refine ⟨⟨rfl,Jaw (show a - 1 < d3.size by omega)⟩,Jj (b:=Jl d3[a - 1]!) (Jac (show a - 1 < d3.size by omega)) ?_⟩;refine Z ?_;refine ⟨⟨JG (i:=p) (rfl),JH (i:=p) (rfl) Om⟩,Jj (b:= .bp (0,s) (p)) (congrArg (AV.bp (0,s)) (JO (i:=p) Jv (rfl))) ?_⟩
         (conv=> whnf)
         refine ⟨⟨rfl,Jaw (show p < d3.size by omega)⟩,Jj (b:=Jl d3[p]!) (Jac (show p < d3.size by omega)) ?_⟩;refine Z ?_;refine Jaj (JV rfl rfl (Jcu d3[a - 1]! d3[p]!) Y2 (NoId.v _)) ?_;refine Z ?_;intro c hlt;cases c
         ·refine Z ?_;obtain ⟨m1,m2,m3,m4,m5⟩:=Go.Sort.round_eq (lt:=Go.Sort.ltInt) (mid:=(Go.Sort.partitionEqual Go.Sort.ltInt d3 a b p).1) (d4:=(Go.Sort.partitionEqual Go.Sort.ltInt d3 a b p).2) Go.Sort.swo_ltInt (by first | exact Go.Sort.partitionEqual_holds _ | exact Go.Sort.partitionEqual_holds) ha hpa hpb Om B3 hlt.symm (rfl:Go.Sort.partitionEqual Go.Sort.ltInt d3 a b p=((Go.Sort.partitionEqual Go.Sort.ltInt d3 a b p).1,(Go.Sort.partitionEqual Go.Sort.ltInt d3 a b p).2));refine Jg (xs:= [.hs (0,s) 0 n cap,int a,int b,int p]) [] [] 1 rfl rfl rfl rfl Y4 (JwP d3 tl n a b p s3 hpa hpb hb hsz s cap _) Bf Pf rfl fun r h' hq=> ?_;obtain ⟨nx6,nn6,rfl,rfl⟩:=hq;generalize (Go.Sort.partitionEqual Go.Sort.ltInt d3 a b p).1=mid at m1 m2 m4 m5⊢;generalize (Go.Sort.partitionEqual Go.Sort.ltInt d3 a b p).2=d4 at m3 m4 m5⊢;refine Z ?_;exact back (d4,(mid,b),lim1,(wb,wp),nx6) ⟨m3.trans s3,⟨m2,hb,Dm⟩,m4,fun R k1 k2=> hK3 R (m5 R k1 k2).1 (m5 R k1 k2).2⟩ Dm (Es rfl rfl Y6)
         ·refine Z ?_;exact ⟨nx5,trivial,Je _ _ rfl rfl Sf .slnil Bf Tt Y8⟩
        ·have hd:decide (((a:Nat):Int) > 0)=false:=decide_eq_false Om
         (refine JJ 15 Kr Kr Kr ?_)
         refine Z ?_
         (conv=> whnf)
         refine JaU hd ?_;refine Z ?_;exact ⟨nx5,trivial,Je _ _ rfl rfl Sf .slnil Bf Tt Y8⟩
       ·intro nx6 _;refine Jy ?_;refine JQ ?_;refine Jy ?_;obtain ⟨m1,m2,m3,m4,m5,m6,m7⟩:=Go.Sort.round_part (lt:=Go.Sort.ltInt) (mid:=(Go.Sort.partition Go.Sort.ltInt d3 a b p).1) (ap:=(Go.Sort.partition Go.Sort.ltInt d3 a b p).2.1) (d4:=(Go.Sort.partition Go.Sort.ltInt d3 a b p).2.2) Go.Sort.swo_ltInt (by first | exact Go.Sort.partition_holds _ | exact Go.Sort.partition_holds) hpa hpb Om B3 (rfl:Go.Sort.partition Go.Sort.ltInt d3 a b p=((Go.Sort.partition Go.Sort.ltInt d3 a b p).1,(Go.Sort.partition Go.Sort.ltInt d3 a b p).2.1,(Go.Sort.partition Go.Sort.ltInt d3 a b p).2.2));refine Jg (xs:= [.hs (0,s) 0 n cap,int a,int b,int p]) [] [] 1 rfl rfl rfl rfl Y4 (JBb d3 tl n a b p s3 hpa hpb hb hsz s cap _) Bf Pf rfl fun r h' hq=> ?_;obtain ⟨fl,nx7,nn7,rfl,rfl⟩:=hq;generalize (Go.Sort.partition Go.Sort.ltInt d3 a b p).1=mid at m1 m2 m4 m5 m6 m7⊢;generalize (Go.Sort.partition Go.Sort.ltInt d3 a b p).2.2=d4 at m3 m4 m5 m6 m7⊢;have s4:d4.size=n:=m3.trans s3;have e1:IntKind.i64.wrap ((mid:Int) - (a:Int))=((mid - a:Nat):Int):=JdH Om Om;have e2:IntKind.i64.wrap ((b:Int) - (mid:Int))=((b - mid:Nat):Int):=JdH Om Om;refine Jy ?_;intro f1 hf1
        (refine Jy ?_;refine JQ ?_;refine Jy ?_;refine JQ ?_;refine Jy ?_)
        refine AW.le (E':=mk 134 [(0, .hs (0,s) 0 n cap),(1,int a),(2,int b),(3,int lim1),(9, .v (.bool f1)),(10,int (b - a:Nat)),(14,int mid),(16,int (mid - a:Nat)),(17,int (b - mid:Nat))] ⟨Jm s d4 tl, [],nx7,1⟩) (Es rfl rfl ⟨Rf,Rf,Rf,Rf,Rf,Rf,Rf,Jf e1,Jf e2,Tt⟩) ?_;refine Z ?_;intro c g;cases c
        ·refine Z ?_;intro wb2 hwb2;refine Z ?_;refine Jg (xs:= [.hs (0,s) 0 n cap,int (mid+1:Nat),int b,int lim1]) [] [] 1 rfl rfl rfl rfl ⟨Rf,Jf (Jx Om),Y2⟩ (ih (b - (mid+1)) Om d4 (mid+1) b lim1 _ (Nat.le_refl _) s4 Om hb m5) Bf Pf rfl fun r h' hq=> ?_;obtain ⟨d5,nx8,nn8,q1,q2,rfl⟩:=hq;obtain ⟨m8,m9⟩:=m7 d5 q1 q2;refine Z ?_;exact back (d5,(a,mid),lim1,(wb2,f1),nx8) ⟨q1.1.trans s4,⟨m1,Dm,Dm⟩,m8,fun R k1 k2=> hK3 R (m9 R k1 k2).1 (m9 R k1 k2).2⟩ Dm (Es rfl rfl Y6)
        ·refine Z ?_;intro wb2 hwb2;refine Z ?_;refine Jg (xs:= [.hs (0,s) 0 n cap,int a,int mid,int lim1]) [] [] 1 rfl rfl rfl rfl Y4 (ih (mid - a) Om d4 a mid lim1 _ (Nat.le_refl _) s4 m1 Om m4) Bf Pf rfl fun r h' hq=> ?_;obtain ⟨d5,nx8,nn8,q1,q2,rfl⟩:=hq;obtain ⟨m8,m9⟩:=m6 d5 q1 q2;refine Z ?_;exact back (d5,(mid+1,b),lim1,(wb2,f1),nx8) ⟨q1.1.trans s4,⟨Dm,hb,Dm⟩,m8,fun R k1 k2=> hK3 R (m9 R k1 k2).1 (m9 R k1 k2).2⟩ Dm (Es rfl rfl ⟨Rf,Lw,Y4⟩)
   ·obtain ⟨q1,q2⟩:=(Go.Sort.heapSort_holds:Go.Sort.heapSort_stmt Go.Sort.ltInt) Go.Sort.swo_ltInt d a b hab Om;obtain ⟨k1,k2⟩:=hK _ q1 q2;refine Z ?_;refine Jg (xs:= [.hs (0,s) 0 n cap,int a,int b]) [] [] 1 rfl rfl rfl rfl Y3 (JBa d tl n a b h1 hab hb hsz s cap _) Bf Pf rfl fun r h' hq=> ?_;obtain ⟨nx2,nn2,rfl⟩:=hq;refine Z ?_;exact Jt rfl ⟨_,_,Rf,Jr (Jm s (Go.Sort.heapSort Go.Sort.ltInt d a b) tl) [] rfl Sf .slnil Bf Pf,(Go.Sort.heapSort Go.Sort.ltInt d a b),_,1,k1,k2,rfl⟩
  ·obtain ⟨q1,q2⟩:=(Go.Sort.insertionSort_holds:Go.Sort.insertionSort_stmt Go.Sort.ltInt) Go.Sort.swo_ltInt d a b hab Om;obtain ⟨k1,k2⟩:=hK _ q1 q2;refine Z ?_;refine Jg (xs:= [.hs (0,s) 0 n cap,int a,int b]) [] [] 1 rfl rfl rfl rfl Y3 (JCV d tl n a b h1 hab hb hsz s cap _) Bf Pf rfl fun r h' hq=> ?_;obtain ⟨nx2,nn2,rfl⟩:=hq;refine Z ?_;exact Jt rfl ⟨_,_,Rf,Jr (Jm s (Go.Sort.insertionSort Go.Sort.ltInt d a b) tl) [] rfl Sf .slnil Bf Pf,(Go.Sort.insertionSort Go.Sort.ltInt d a b),_,1,k1,k2,rfl⟩
theorem Jzh (d0:Array (Int)) (tl:List AV) (n:Nat) (hn:d0.size=n) (hsz:n≤1000000) (s cap nx:Nat):
 ECall Tryz.prog 84 [.hs (0,s) 0 n cap] ⟨Jm s d0 tl, [],nx,1⟩ (fun r h'=> ∃d' nx' nn',Go.Sort.PermIn 0 n d0 d'∧Go.Sort.SortedIn Go.Sort.ltInt 0 n d'∧h'=⟨Jm s d' tl, [],nx',nn'⟩):=by
 refine ECall.wk (Jo Tryz.func84 rfl rfl ?_)
 refine Z ?_
 refine Ja rfl rfl (JfN n Om) ⟨AVle.of_eq (congrArg (fun z=> AV.v (.int .u64 z)) (IntWalk.u64_in _ Om)),Tt⟩ fun nx1=> ?_
 refine Z ?_
 refine Jg (xs:= [.hs (0,s) 0 n cap,int (0:Nat),int n,int (Lib.bitLen n)]) [] [] 1 rfl rfl rfl rfl Y4 (JCX tl n hsz s cap n d0 0 n _ _ Om hn (Nat.zero_le _) (Nat.le_refl _) (.inl rfl)) Bf Pf rfl fun r h' hq=> ?_
 obtain ⟨d',nx2,nn2,h1,h2,rfl⟩:=hq
 refine Z ?_
 exact Jt rfl ⟨_,_,Rf,Jr (Jm s d' tl) [] rfl Sf .slnil Bf Pf,d',nx2,1,h1,h2,rfl⟩
theorem Jzi (F:Nat→AV):Tells Tryz.prog 84 [.os 1 0 F none] .any:=by
 have hi:Tells Tryz.prog 199 [.os 1 0 F none,int (0:Nat),int (0:Nat)] .any:=by
  refine Jc Tryz.func199 rfl rfl fun nx=> ?_;refine Z ?_;refine Js (fun y:Nat=> mk 49 [(0, .os 1 0 F none),(1,int (0:Nat)),(2,int (0:Nat)),(6,int (1:Nat))] ⟨[], [],y,0⟩) (fun _=> True) (fun _=> 0) ?_ ?_
  ·exact ⟨nx,trivial,Jfl rfl rfl Sf Sf Y4⟩
  ·intro nx1 _;refine Z ?_;exact Jb rfl (AVle.any _)
 have hp:∀lim:Int,Tells Tryz.prog 151 [.os 1 0 F none,int (0:Nat),int (0:Nat),int lim] .any:=fun lim=> by
  refine Jc Tryz.func151 rfl rfl fun nx=> ?_;refine Z ?_;refine Js (fun y:Nat=> mk 134 [(0, .os 1 0 F none),(1,int (0:Nat)),(2,int (0:Nat)),(3,int lim)] ⟨[], [],y,0⟩) (fun _=> True) (fun _=> 0) ?_ ?_
  ·exact ⟨nx,trivial,Jfl rfl rfl Sf Sf Y4⟩
  ·intro nx1 _;refine Z ?_;refine Ja rfl rfl hi Y3 fun nx2=> ?_;refine Z ?_;exact Jb rfl (AVle.any _)
 refine Jc Tryz.func84 rfl rfl fun nx=> ?_
 refine Z ?_
 refine Ja rfl rfl (JfN 0 Om) Y1 fun nx1=> ?_
 refine Z ?_
 refine Ja rfl rfl (hp _) Y4 fun nx2=> ?_
 refine Z ?_
 exact Jb rfl (AVle.any _)
def Jvg:Value→Int
 | .int _ z=> z
 | _=> 0
theorem Jt9 (es:List (Value×AV)) (zs:List (Int)) (hz:es.map (·.1)=zs.map (Value.int .u32)) (hl:es.length≤1000000):
 Tells Tryz.prog 40 [.fn (.func 85) [] [.rp [.fm es]]] (JK 1 Jl 0 (J0 Go.Sort.ltInt zs)):=by
 have hky:∀p∈es,∃z,p.1=Value.int .u32 z:=fun p hp=> by
  have:p.1∈zs.map (Value.int .u32):=hz ▸ List.mem_map_of_mem hp;obtain ⟨z,_,h⟩:=List.mem_map.1 this;exact ⟨z,h.symm⟩
 refine Jc Tryz.func40 rfl rfl fun nx=> ?_
 refine Z ?_
 refine Jb6 rfl rfl (JsX es hl hky nx) fun r h' hq=> ?_
 obtain ⟨n,f,⟨xs,hxp,hxn,hxf⟩,hq⟩:=hq
 obtain ⟨ys,rfl⟩:∃ys:List (Int),xs=ys.map (Value.int .u32):=by
  have hall:∀v∈xs,∃z,v=Value.int .u32 z:=fun v hv=> by
   have hv2:=hxp.mem_iff.1 hv;rw [hz] at hv2;obtain ⟨z,_,h⟩:=List.mem_map.1 hv2;exact ⟨z,h.symm⟩
  clear hxp hxn hxf hq
  induction xs with
  | nil=> exact ⟨[],rfl⟩
  | cons x xs ih=>
    obtain ⟨z,rfl⟩:=hall x Si;obtain ⟨ys,rfl⟩:=ih fun v hv=> hall v (by simp [hv]);exact ⟨z::ys,rfl⟩
 have hperm:ys.Perm zs:=by
  rw [hz] at hxp;have h2:=hxp.map Jvg
  rwa [List.map_map,List.map_map,show (Jvg∘(Value.int .u32))=id from rfl,List.map_id,List.map_id] at h2
 have hsz:n≤1000000:=by
  have:=hxp.length_eq;simp at this;rw [hxn];simp;omega
 rcases hq with ⟨rfl,hb,hp,rfl⟩ | ⟨s,cap,more,nx',nn',hcap,hmore,rfl,rfl⟩
 ·have hys:ys= []:=by cases ys with | nil=> rfl | cons y ys=> simp at hxn
  subst hys;have hzs:zs= []:=hperm.symm.eq_nil;subst hzs;rw [show J0 Go.Sort.ltInt ([]:List (Int))= [] from List.eq_nil_of_length_eq_zero JaZ];obtain ⟨bx,pm,nxx,nnn⟩:=h';dsimp only at hb hp;subst hb;subst hp;refine Named.same ?_;refine Z ?_;refine Ja rfl rfl (Jzi f) Y1 fun nx2=> ?_;refine Z ?_;exact Jb rfl AVle.os_sl0
 ·refine Named.same ?_;have hcells:JD n f=ys.toArray.toList.map Jl:=by
   have key:∀m,m≤n→JD m f=(ys.take m).map Jl:=by
    intro m
    induction m with
    | zero=> intro _;rfl
    | succ m ih=>
      intro hm;have hm':m < ys.length:=(by simp at hxn;omega);have e:JD (m+1) f=JD m f++(f m).cells:=(by unfold JD;rw [List.range_succ,List.flatMap_append];simp);rw [e,ih Om,hxf m Om,List.take_add_one,List.map_append];simp [Jcd,List.getD,hm',AV.cells,Jl]
   rw [key n (Nat.le_refl _),List.take_of_length_le (by simp at hxn;omega)]
  have hnn:ys.toArray.size=n:=by simp at hxn;simp [hxn]
  rw [hcells];refine Jy ?_;refine AW.le (E':=mk 9 [(3, .hs (0,s) 0 n cap)] ⟨Jm s ys.toArray (List.replicate more .any), [],nx',1⟩) (Es rfl rfl Y1) ?_;refine Z ?_;refine Jg (xs:= [.hs (0,s) 0 n cap]) [] [] 1 rfl rfl rfl rfl Y1 (Jzh ys.toArray _ n hnn hsz s cap _) Bf Pf rfl fun r h' hq=> ?_;obtain ⟨d',nx2,nn2,h1,h2,rfl⟩:=hq;have hd:d'.toList=J0 Go.Sort.ltInt zs:=by
   subst hnn;rw [Go.Sort.sorted_unique_holds (by first | exact Go.Sort.swo_ltInt | exact Go.Sort.ltInt) (by first | exact JhX | exact Go.Sort.swo_ltInt) ys.toArray d' h1 h2];exact JeU Go.Sort.swo_ltInt JhX hperm
  have hdn:d'.size=n:=h1.1.trans hnn;have hln:(J0 Go.Sort.ltInt zs).length=n:=by rw [← hd];simpa using hdn
  refine Jy ?_;refine AW.le (JcJ (L:= [(3,JK 1 Jl 0 (J0 Go.Sort.ltInt zs))]) (bx:= []) (pm:= []) (nn:=1) [((0,s), .c (Jba Jl d' (List.replicate more .any)))] rfl rfl Sf .slnil ⟨?_,Tt⟩) ?_
  ·unfold JK;rw [hln];refine Frz.hs1 (.head _) hcap (by rw [JfW];omega) (fun k _=> rfl) (fun k hk=> ?_);unfold Jba;rw [List.getElem?_append_left (by simpa [hdn] using hk),List.getElem?_map,← hd];have:k < d'.size:=by omega
   simp [List.getD,this]
  ·refine Z ?_;exact Jb rfl Rf
def abiN:List Nat:= [0,2,3,4]
def tokI:List Itm:= [⟨0,0x15,0xc000003e,1,0⟩,⟨0,0x15,0x40000003,2,0⟩,⟨0,0x15,0xc00000b7,3,0⟩,⟨0,0x15,0xc00000f3,4,0⟩]
def frM (k:Nat):Mk:=⟨⟨0,0x20,4,0,0⟩::tokI.take k,k, []⟩
def tkE (k:Nat):List (Value×AV):= [(Value.int .i64 0,int 1),(Value.int .i64 2,int 2),(Value.int .i64 3,int 3),(Value.int .i64 4,int 4)].take k
theorem Jzj {k:Nat} (h:k≤4):Ja9 (.int .i64) (tkE k)=true:=by
 rcases (by omega:k=0∨k=1∨k=2∨k=3∨k=4) with rfl | rfl | rfl | rfl | rfl <;> rfl
theorem JD9 {i:Nat} (h:i < 4):JcN (Value.int .i64 (abiN.getD i 0:Nat)) (int (i+1:Nat)) (tkE i)=tkE (i+1):=by
 rcases (by omega:i=0∨i=1∨i=2∨i=3) with rfl | rfl | rfl | rfl <;> rfl
theorem Jzk {i k:Nat} (h:i < k) (hk:k≤4):Jbf (Value.int .i64 (abiN.getD i 0:Nat)) (tkE k)=some (int (i+1:Nat)):=by
 rcases (by omega:k=1∨k=2∨k=3∨k=4) with rfl | rfl | rfl | rfl <;> rcases (by omega:i=0∨i=1∨i=2∨i=3) with rfl | rfl | rfl | rfl <;> first | rfl | (exfalso;omega)
theorem JCY {i:Nat} (h:i < 4):JE (Jz (frM i)) [⟨0,0x15,(infL.getD (abiN.getD i 0) Jb0).token,i+1,0⟩]=frM (i+1):=by
 rcases (by omega:i=0∨i=1∨i=2∨i=3) with rfl | rfl | rfl | rfl <;> rfl
theorem Joy {i:Nat} (h:i≤4):(frM i).fits:=⟨by unfold frM tokI;simp;omega,by show i≤_;omega⟩
theorem Jzl {o:Op} {es:List (Value×AV)} {K:AV→Prop} (h:K (.fm es)):Jcl o (.fm es) K:=by
 unfold Jcl
 split <;> first | exact h | exact JcQ h
theorem JsZ (b:List (Nat×Nat)):J0 Go.Sort.ltInt (Jbn (b.map (·.1)))=Jbn ((JbV b).map (·.1)):=by
 have hp:(Jbn (b.map (·.1))).Perm (Jbn ((JbV b).map (·.1))):=((List.mergeSort_perm b _).symm.map _).map _
 rw [JeU Go.Sort.swo_ltInt JhX hp]
 refine List.mergeSort_of_pairwise ?_
 unfold Jbn
 rw [List.pairwise_map,List.pairwise_map]
 refine (List.pairwise_mergeSort (le:=fun x y:Nat×Nat=> decide (x.1≤y.1)) (fun a b c h1 h2=> decide_eq_true (Nat.le_trans (of_decide_eq_true h1) (of_decide_eq_true h2))) (fun a b=> by simpa using Nat.le_total a.1 b.1) b).imp fun h=> ?_
 have:=of_decide_eq_true h
 simp only [Go.Sort.ltInt,Bool.not_eq_true',decide_eq_false_iff_not]
 omega
def JEa (l:List Nat):AV:=JK 1 (fun n:Nat=> u32 n) 0 l
theorem JpU {L:List (Nat×Nat)} {i:Nat} (h:i < L.length):(L.map (·.1)).getD i 0=(L.getD i (0,0)).1:=by
 simp only [List.getD_eq_getElem?_getD]
 rw [List.getElem?_map,List.getElem?_eq_getElem h];rfl
theorem JBd {A:Mk} {L:List (Nat×Nat)} {i:Nat} (h:i < L.length):(L.take (i+1)).foldl JbZ A=JbZ ((L.take i).foldl JbZ A) (L.getD i (0,0)):=by
 rw [JaP (0,0) h,List.foldl_append];rfl
theorem Jua {A:Mk} {L:List (Nat×Nat)} (hb:∀(m:Mk) (x:Nat×Nat),m.le (JbZ m x)) (i:Nat):((L.take i).foldl JbZ A).le (L.foldl JbZ A):=by
 have h:=List.foldl_append (f:=JbZ) (b:=A) (l:=L.take i) (l':=L.drop i)
 rw [List.take_append_drop] at h
 rw [h]
 exact Jiu hb _ _
theorem Jzm (m:Mk) (x:Nat×Nat):m.le (JbZ m x):=(JcY m x.2).trans (JaE _ _)
def zA:List (Nat×Nat):= [(1,0),(2,2),(3,3),(4,4)]
theorem JBe {P:Plan} {m:Mk} {i:Nat} (h:i < 4):JbY (JbN P) m (zA.take (i+1))=JbN P (J3 (JbY (JbN P) m (zA.take i)) (i+1)) (abiN.getD i 0):=by
 have e:zA.getD i (0,0)=(i+1,abiN.getD i 0):=by
  rcases (by omega:i=0∨i=1∨i=2∨i=3) with rfl | rfl | rfl | rfl <;> rfl
 rw [JaP (0,0) (show i < zA.length from h),Jk7,e];rfl
theorem JnG (P:Plan) (hP:PlanW P):Tells Tryz.prog 12 [Jct P] (JaN (JaI P)):=by
 refine Jc Tryz.func12 rfl rfl fun nx=> ?_
 unfold Jct
 (refine Jy ?_;refine JQ ?_;refine Jy ?_;refine JQ ?_;refine Jy ?_)
 refine AW.le (JaK (n:=108) (nn:=4) (bx:=((3,nx), .c (Jbz P))::mkB (nx+2) (nx+1) ⟨[],0, []⟩ none) (pm:= []) (L:= [(1, .bp (3,nx) 0),(3, .bp (0,nx+2) 0)]) [((0,nx), .c (Jbz P)),((2,nx+2), .c [.os 0 0 (fun _=> .any) none,int 0, .om (1,nx+1)]),((1,nx+1), .mp [])] _ [] rfl rfl ?_ Sf Sf ?_ Tt ⟨AVle.bp_nm rfl,AVle.bp_nm rfl,Tt⟩) ?_
 ·exact List.perm_append_comm (l₁:= [_]) (l₂:= [_,_])
 ·exact ⟨rfl,OwnLe.refl _,rfl,⟨AVle.os_nil,Y2⟩,rfl,OwnLe.refl _,Tt⟩
 refine Z ?_
 refine Jg (xs:= [.bp (0,nx+2) 0,JaN [⟨0,0x20,4,0,0⟩]]) [_] [] 4 rfl rfl rfl rfl ⟨Rf,Jfu (fun k hk=> by match k,hk with | 0,_=> rfl),Tt⟩ (Jax (nx+2) (nx+1) (nx+3) ⟨[],0, []⟩ none _ (fun _=> rfl) Si (Joy (i:=0) Dc)) Bf Pf rfl fun r h' hq=> ?_
 obtain ⟨oi,nx2,nn2,rfl,h2,rfl⟩:=hq
 generalize nx+2=s0
 generalize nx+1=s1
 refine Z ?_
 refine Jbj (fun y:Option Nat×Nat=> mk 108 [(1, .bp (3,nx) 0),(3, .bp (0,s0) 0),(4, .om (4,nx2))] ⟨((3,nx), .c (Jbz P))::((4,nx2), .mp (tkE 4))::mkB s0 s1 (frM 4) y.1,mkP (frM 4) y.1,y.2,5⟩) (fun y=> y.1=none→(frM 4).l= []) ?_ ?_
 ·refine Js (fun y:Nat×Option Nat×Nat=> mk 108 [(1, .bp (3,nx) 0),(3, .bp (0,s0) 0),(4, .om (4,nx2)),(21,JjA abiN),(22,int (4:Nat)),(23,int y.1)] ⟨((3,nx), .c (Jbz P))::((4,nx2), .mp (tkE y.1))::mkB s0 s1 (frM y.1) y.2.1,mkP (frM y.1) y.2.1,y.2.2,5⟩) (fun y=> y.1≤4∧(y.2.1=none→(frM y.1).l= [])) (fun y=> 4 - y.1) ?_ ?_
  ·refine ⟨(0,oi,nx2+1),⟨Nat.zero_le _,h2⟩,JaK (((3,nx), .c (Jbz P))::((4,nx2), .mp [])::mkB s0 s1 (frM 0) oi) _ _ rfl rfl (List.Perm.swap _ _ _) Sf Sf Bf Pf ⟨Rf,Rf,Rf, ?_,Y2⟩⟩;exact AVle.os_sl.trans (AVle.sl_fun fun k hk=> by match k,hk with | 0,_=> rfl | 1,_=> rfl | 2,_=> rfl | 3,_=> rfl)
  ·rintro ⟨i,o3,nx3⟩ ⟨k1,k2⟩;dsimp only at k1 k2;refine Z ?_;intro c g;cases c
   ·have g:=Jw g;dsimp only at g;obtain rfl:i=4:=(by omega);refine Z ?_;exact ⟨(o3,nx3),k2,Et rfl rfl Bf Pf Y3⟩
   ·have g:=Ju g;dsimp only at g;have hi:i < 4:=(by omega);have hfn:=JCY hi;have hff:(frM (i+1)).fits:=Joy Om;refine Z ?_;refine ⟨⟨Dm,by show (i:Int) < ((4:Nat):Int);omega⟩, ?_⟩;refine Z ?_;refine Ja rfl rfl (JvX (abiN.getD i 0) (by rcases (by omega:i=0∨i=1∨i=2∨i=3) with rfl | rfl | rfl | rfl <;> decide)) Y1 fun nx4=> ?_;refine Z ?_;refine Jg (xs := [.bp (0, s0) 0]) [_, _, _] [] 6 rfl rfl rfl rfl Y1 (Jd5 s0 s1 (nx4 + 1) (frM i) o3 k2 (Joy (by omega : i ≤ 4) |> fun h => ⟨h.1, by show i + 1 ≤ _; omega⟩)) Bf Pf rfl fun r h' hq => ?_;obtain ⟨o5,nx5,nn5,rfl,h5,rfl⟩:=hq;refine JaR ?_;refine ⟨⟨rfl,Jzj k1⟩, ?_⟩;refine Jhq ?_;show Jhk (JcN (Value.int .i64 (abiN.getD i 0:Nat)) (int (i+1:Nat)) (tkE i)) _;rw [JD9 hi];refine JcQ ?_;refine JaR ?_;refine ⟨⟨rfl,Jzj Om⟩, ?_⟩;show Jcl _ ((Jbf (Value.int .i64 (abiN.getD i 0:Nat)) (tkE (i+1))).getD _) _;rw [Jzk (Nat.lt_succ_self i) Om];refine Z ?_;refine Jg (xs:= [.bp (0,s0) 0,JaN [⟨0,0x15,(infL.getD (abiN.getD i 0) Jb0).token,i+1,0⟩]]) [_,_,_] [] 6 rfl rfl rfl rfl ⟨Rf,Jfu (fun k hk=> by match k,hk with | 0,_=> rfl),Tt⟩ (Jax s0 s1 nx5 (Jz (frM i)) o5 _ h5 Si (by rw [hfn];exact hff)) Bf Pf rfl fun r h' hq=> ?_;rw [hfn] at hq;obtain ⟨o6,nx6,nn6,rfl,h6,rfl⟩:=hq;refine Z ?_;exact back (i+1,o6,nx6) ⟨Dm,h6⟩ Dm (Je _ _ rfl rfl (.cons _ Sf) Sf Bf Pf ⟨Rf,Rf,Rf,Rf,Rf,Jf (Jx Om),Tt⟩)
 ·rintro ⟨o3,nx3⟩ h3;dsimp only at h3;have hfit:=Jsp hP.s;have hall:(Jat P).fits:=(Jiu Jzm (JbV (Jat P).b) (Jat P)).fits hfit;have habi:∀(m:Mk) (a:Nat),m.le (JbN P m a):=fun m a=> by
   unfold JbN;split
   ·exact (JaE _ _).trans (Jy9 P _)
   ·exact (JaE _ _).trans (JcF P _ a)
  have hfr:frontM.fits:=((JmN habi _ _):frontM.le (Jat P)).fits hall;refine Jbl (n:=108) (nx:=nx3) (nn:=5) (bx:=((3,nx), .c (Jbz P))::mkB s0 s1 (frM 4) o3) (pm:=mkP (frM 4) o3) (L:= [(1, .bp (3,nx) 0),(3, .bp (0,s0) 0),(4, .fm (tkE 4))]) (df:=some []) [((4,nx2), .mp (tkE 4))] rfl rfl rfl (List.Perm.swap _ _ _) Sf ⟨Frz.refl _,Frz.refl _,Frz.om (.head _),Tt⟩ ?_;refine Z ?_;refine Jg (xs:= [.bp (0,s0) 0,u32 (2147483648:Nat)]) [_] [] 5 rfl rfl rfl rfl Y2 (Je4 s0 s1 nx3 (frM 4) o3 2147483648 h3 (fun _ h=> by cases h) ((JaE _ _:(JB (frM 4) 2147483648).2.le frontM).fits hfr)) Bf Pf rfl fun r h' hq=> ?_;obtain ⟨o4,nx4,nn4,rfl,h4,rfl⟩:=hq;refine Z ?_;refine Jg (xs:= [.bp (0,s0) 0,JaN [Jb3 (JB (frM 4) 2147483648).1]]) [_] [] 5 rfl rfl rfl rfl ⟨Rf,Jfu (fun k hk=> by match k,hk with | 0,_=> rfl),Tt⟩ (Jax s0 s1 nx4 _ o4 _ h4 Si hfr) Bf Pf rfl fun r h' hq=> ?_;rw [show JE (JB (frM 4) 2147483648).2 [Jb3 (JB (frM 4) 2147483648).1]=frontM from rfl] at hq;obtain ⟨o5,nx5,nn5,rfl,h5,rfl⟩:=hq;have hb5:b0 frontM:=by
   rw [JcG];intro p hp;obtain rfl:=List.mem_singleton.1 hp;exact Nat.succ_ne_zero 4
  generalize hF : frontM = F at *
  refine Z ?_;refine Ja rfl rfl (Jqk (tkE 4)) Y1 fun nx6=> ?_;refine Z ?_;refine Ja rfl rfl (Jt8 (tkE 4) [0,2,3,4] rfl Dc) Y1 fun nx7=> ?_;rw [show J0 Go.Sort.ltInt ([0,2,3,4]:List Int)=Jbn abiN from List.mergeSort_of_pairwise Dc];refine Z ?_;refine Jbj (fun y:Option Nat×Nat=> mk 108 [(3, .bp (0,s0) 0)] ⟨mkB s0 s1 (Jat P) y.1,mkP (Jat P) y.1,y.2,5⟩) (fun y=> y.1=none→(Jat P).l= []) ?_ ?_
  ·refine Js (fun y:Nat×Option Nat×Nat=> mk 108 [(1, .bp (3,nx) 0),(3, .bp (0,s0) 0),(4, .fm (tkE 4)),(54,JjA abiN),(55,int (4:Nat)),(56,int y.1)] ⟨((3,nx), .c (Jbz P))::mkB s0 s1 (JbY (JbN P) F (zA.take y.1)) y.2.1,mkP (JbY (JbN P) F (zA.take y.1)) y.2.1,y.2.2,5⟩) (fun y=> y.1≤4∧(y.2.1=none→(JbY (JbN P) F (zA.take y.1)).l= [])∧b0 (JbY (JbN P) F (zA.take y.1))) (fun y=> 4 - y.1) ?_ ?_
   ·refine ⟨(0,o5,nx7),⟨Nat.zero_le _,h5,hb5⟩,Et rfl rfl Bf Pf ⟨Rf,Rf,Rf, ?_,Y2⟩⟩;exact AVle.sl_fun fun k hk=> by match k,hk with | 0,_=> rfl | 1,_=> rfl | 2,_=> rfl | 3,_=> rfl
   ·rintro ⟨i,o6,nx8⟩ ⟨k1,k2,k3⟩;dsimp only at k1 k2 k3;refine Z ?_;intro c g;cases c
    ·have g:=Jw g;dsimp only at g;obtain rfl:i=4:=(by omega);have hA:JbY (JbN P) F (zA.take 4)=Jat P:=(by rw [← hF];rfl);rw [hA] at k2⊢;refine Z ?_;exact ⟨(o6,nx8),k2,Je _ _ rfl rfl (.cons _ Sf) Sf Bf Pf Y1⟩
    ·have g:=Ju g;dsimp only at g;have hi:i < 4:=(by omega);have hsn:=JBe (P:=P) (m:=F) hi;have hfi:(JbY (JbN P) F (zA.take (i+1))).fits:=((JlH habi (l:=zA) (m:=F) (i+1)):(JbY (JbN P) F (zA.take (i+1))).le (JbY (JbN P) F zA)).fits (by rw [← hF];exact hall);rw [hsn] at hfi;have hb6:b0 (JbN P (J3 (JbY (JbN P) F (zA.take i)) (i+1)) (abiN.getD i 0)):=Jy7 Jow (m:=J3 _ _) k3;generalize JbY (JbN P) F (zA.take i) = N at *
     refine Z ?_;refine ⟨⟨Dm,by show (i:Int) < ((4:Nat):Int);omega⟩, ?_⟩;refine JaR ?_;erw [Jzk hi (Nat.le_refl 4)];refine Z ?_;have hput:(JE (J3 N (i+1)) [⟨0,0x20,0,0,0⟩]).fits:=by
      unfold JbN at hfi;split at hfi
      ·exact (Jy9 P _).fits hfi
      ·exact (JcF P _ _).fits hfi
     refine Jg (xs:= [.bp (0,s0) 0,int (i+1:Nat)]) [_] [] 5 rfl rfl rfl rfl Y2 (Je3 s0 s1 nx8 N o6 (i+1) k2 ((JaE _ _).fits hput)) Bf Pf rfl fun r h' hq=> ?_;obtain ⟨o7,nx9,nn9,rfl,h7,rfl⟩:=hq;refine Z ?_;refine Jg (xs:= [.bp (0,s0) 0,JaN [⟨0,0x20,0,0,0⟩]]) [_] [] 5 rfl rfl rfl rfl ⟨Rf,Jfu (fun k hk=> by match k,hk with | 0,_=> rfl),Tt⟩ (Jax s0 s1 nx9 _ o7 _ h7 Si hput) Bf Pf rfl fun r h' hq=> ?_;obtain ⟨o8,nx10,nn10,rfl,h8,rfl⟩:=hq;have hb7:b0 (JE (J3 N (i+1)) [⟨0,0x20,0,0,0⟩]):=k3;unfold Jbz;refine Z ?_;intro c hc;cases c with
     | true=>
       have ha:abiN.getD i 0=0:=by
        have:=eq_of_beq hc.symm;exact Int.ofNat_inj.1 this
       have hR:JbN P (J3 N (i+1)) (abiN.getD i 0)=JeA P (JE (J3 N (i+1)) [⟨0,0x20,0,0,0⟩]):=if_pos ha;rw [hR] at hsn hfi hb6;refine Z ?_;refine Jg (xs:= [.bp (0,s0) 0,Jct P]) [_] [] 5 rfl rfl rfl rfl Y2 (Jza s0 s1 nx10 _ o8 P hP h8 hb7 hfi) Bf Pf rfl fun r h' hq=> ?_;rw [← hsn] at hq;obtain ⟨o9,nx11,nn11,rfl,h9,rfl⟩:=hq;refine Z ?_;exact back (i+1,o9,nx11) ⟨Dm,h9,by dsimp only;rw [hsn];exact hb6⟩ Dm (Et rfl rfl Bf Pf ⟨Rf,Rf,Rf,Rf,Rf,Jf (Jx Om),Tt⟩)
     | false=>
       have ha:abiN.getD i 0≠0:=fun e=> by
        have:=beq_eq_false_iff_ne.1 hc.symm;exact this (congrArg Int.ofNat e)
       have ha4:abiN.getD i 0≤4:=by
        rcases (by omega:i=0∨i=1∨i=2∨i=3) with rfl | rfl | rfl | rfl <;> decide
       have hR:JbN P (J3 N (i+1)) (abiN.getD i 0)=Ja6 P (JE (J3 N (i+1)) [⟨0,0x20,0,0,0⟩]) (abiN.getD i 0):=if_neg ha;rw [hR] at hsn hfi hb6;refine Z ?_;refine Jg (xs:= [.bp (0,s0) 0,Jct P,int (abiN.getD i 0:Nat)]) [_] [] 5 rfl rfl rfl rfl Y3 (Jgp s0 s1 nx10 _ o8 P hP _ ha4 h8 hb7 hfi) Bf Pf rfl fun r h' hq=> ?_;rw [← hsn] at hq;obtain ⟨o9,nx11,nn11,rfl,h9,rfl⟩:=hq;refine Z ?_;exact back (i+1,o9,nx11) ⟨Dm,h9,by dsimp only;rw [hsn];exact hb6⟩ Dm (Et rfl rfl Bf Pf ⟨Rf,Rf,Rf,Rf,Rf,Jf (Jx Om),Tt⟩)
  ·rintro ⟨o6,nx8⟩ h6;dsimp only at h6;have hnd:((Jat P).b.map (·.1)).Nodup:=by
    refine JsU (Q:=fun b=> (b.map (·.1)).Nodup) (fun m x h=> Jy7 JA6 h) _ _ ?_;rw [JcG];exact List.nodup_cons.2 ⟨List.not_mem_nil,List.nodup_nil⟩
   have hbl:=JCC hP.s;have hIt:(JaI P)=((JbV (Jat P).b).foldl JbZ (Jat P)).l:=rfl;rw [hIt];generalize Jat P = A at *
   refine JvF (n:=108) (nx:=nx8) (nn:=5) (i:=(0,s0)) (j:=(0,s0)) (cs':= [.os 5 A.l.length (itF A.l) (nmN 2 o6),int A.n, .fm (bE A.b)]) (bx:= []) (pm:=mkP A o6) (L:= [(3, .bp (0,s0) 0)]) (df:=some []) [((1,s1), .mp (bE A.b))] rfl rfl rfl rfl (List.Perm.swap _ _ _) Sf ⟨Frz.refl _,Frz.refl _,Frz.om (.head _),Tt⟩ ⟨Frz.refl _,Tt⟩ ?_;refine Z ?_;refine Ja rfl rfl (Jql (bE A.b)) Y1 fun nx9=> ?_;refine Z ?_;refine Ja rfl rfl (Jt9 (bE A.b) (Jbn (A.b.map (·.1))) (by unfold bE Jbn;rw [List.map_map,List.map_map,List.map_map];rfl) (by unfold bE;rw [List.length_map];exact hbl)) Y1 fun nx10=> ?_;rw [JsZ];have hsl:(JbV A.b).length≤1000000:=by rw [show (JbV A.b).length=A.b.length from List.length_mergeSort _];exact hbl
   have hmemS:∀p∈JbV A.b,p∈A.b:=fun p hp=> (List.mergeSort_perm A.b _).mem_iff.1 hp;generalize JbV A.b = S at *
   refine Z ?_;refine Js (fun y:Nat×Option Nat×Nat=> mk 108 [(3, .bp (0,s0) 0),(84,JEa (S.map (·.1))),(85,int S.length),(86,int y.1)] ⟨mkC s0 (.fm (bE A.b)) ((S.take y.1).foldl JbZ A) y.2.1,mkP ((S.take y.1).foldl JbZ A) y.2.1,y.2.2,5⟩) (fun y=> y.1≤S.length∧(y.2.1=none→((S.take y.1).foldl JbZ A).l= [])) (fun y=> S.length - y.1) ?_ ?_
   ·refine ⟨(0,o6,nx10),⟨Nat.zero_le _,h6⟩,Et rfl rfl Bf Pf ⟨Rf, ?_,Jf (by rw [JcI,List.length_map]),Y1⟩⟩;unfold JEa JK
    (conv=> arg 1;whnf)
    rw [JcI];exact AVle.sl_fun fun k _=> by rw [Jgb];rfl
   ·rintro ⟨i,o7,nx11⟩ ⟨k1,k2⟩;dsimp only at k1 k2;refine Z ?_;intro c g;cases c
    ·have g:=Jw g;dsimp only at g;obtain rfl:i=S.length:=(by omega);refine Z ?_;refine Jb rfl ?_;rw [List.take_length];exact AVle.os_sl
    ·have g:=Ju g;dsimp only at g;have hi:i < S.length:=(by omega);have hsn:=JBd (A:=A) hi;have hfi:=(Jua Jzm (A:=A) (L:=S) (i+1)).fits hfit;rw [hsn] at hfi;have hmi:S.getD i (0,0)∈A.b:=hmemS _ (by simp [List.getD,hi]);have hlk:Jbf (Value.int .u32 ((S.map (·.1)).getD i 0:Nat)) (bE A.b)=some (int (S.getD i (0,0)).2):=(by rw [JpU hi,Jga,JpT hnd hmi];rfl);have hcg:=JpU hi;generalize (S.take i).foldl JbZ A = N at *
     refine Z ?_;refine ⟨⟨Dm,by show (i:Int) < (((S.map (·.1)).length:Nat):Int);rw [List.length_map];omega⟩, ?_⟩;refine Z ?_;change Jcl _ (.fm (bE A.b)) _;refine Jzl ?_;refine JaR ?_;refine ⟨JgB _, ?_⟩;erw [hlk];refine Z ?_;refine Jg (xs:= [.bp (0,s0) 0,int (S.getD i (0,0)).2]) [] [] 5 rfl rfl rfl rfl Y2 (JlC s0 nx11 _ N o7 _ k2 ((JaE _ _).fits hfi)) Bf Pf rfl fun r h' hq=> ?_;obtain ⟨o8,nx12,nn12,rfl,h8,rfl⟩:=hq;refine Z ?_;refine Jg (xs:= [.bp (0,s0) 0,JaN [⟨0,6,(S.getD i (0,0)).1,0,0⟩]]) [] [] 5 rfl rfl rfl rfl ⟨Rf,Jfu (fun k hk=> by match k,hk with | 0,_=> (rw [← hcg];rfl)),Tt⟩ (Jjz s0 nx12 _ _ o8 _ h8 Si hfi) Bf Pf rfl fun r h' hq=> ?_;obtain ⟨o9,nx13,nn13,rfl,h9,rfl⟩:=hq;refine Z ?_;refine back (i+1,o9,nx13) ⟨Dm,by dsimp only;rw [hsn];exact h9⟩ Dm ?_;dsimp only;rw [hsn];exact Et rfl rfl Bf Pf ⟨Rf,Rf,Rf,Jf (Jx Om),Tt⟩
def okL (l:List Ins):Prop:=∀i∈l,i.ok
theorem okL.get {l:List Ins} (h:okL l) {n:Nat} (hn:n < l.length):(l.getD n ins0).ok:=by
 have:l.getD n ins0∈l:=by simp [List.getD,hn]
 exact h _ this
def kind (l:List Ins) (n:Nat):Nat:=(kof (l.getD n ins0).code).1
structure Formed (l:List Ins):Prop where
 pos:0 < l.length
 le:l.length≤4096
 ok:∀n,n < l.length→wrongI (l.getD n ins0) (l.length - 1 - n)=0
 last:kind l (l.length - 1)=14∨kind l (l.length - 1)=15
def nextsI (l:List Ins) (n:Nat):List Nat:=
 if kind l n=14∨kind l n=15 then [] else if kind l n=13 then [n+1+(l.getD n ins0).k] else if 25≤kind l n then [n+1+(l.getD n ins0).jt,n+1+(l.getD n ins0).jf] else [n+1]
def isStore (k:Nat):Prop:=k=8∨k=9
instance (k:Nat):Decidable (isStore k):=inferInstanceAs (Decidable (_∨_))
theorem OwnLe.of_eq {a b:Own} (h:a=b):OwnLe a b:=h ▸ OwnLe.refl a
inductive Rch (l:List Ins) (stop:Nat→Bool):Nat→Prop
 | zero:Rch l stop 0
 | step (n t:Nat) (h:Rch l stop n) (hs:stop n=false) (ht:t∈nextsI l n):Rch l stop t
def JEb (o:List Bool) (t:Nat):List Bool:=o.set t true
abbrev Reached (l:List Ins) (n:Nat):Prop:=Rch l (fun _=> false) n
def aloneC:List Nat:= [32,0,96,128,1,97,129,2,3,7,135,132,5,6,22]
def bothC:List Nat:= [4,20,36,52,68,84,100,116,164,21,37,53,69]
theorem JCZ:Jdc Tryz.prog 109 15 [(0,int 32),(1,int 0),(2,int 96),(3,int 128),(4,int 1),(5,int 97),(6,int 129),(7,int 2),(8,int 3),(9,int 7),(10,int 135),(11,int 132),(12,int 5),(13,int 6),(14,int 22)]=some (3, [int 32,int 0,int 96,int 128,int 1,int 97,int 129,int 2,int 3,int 7,int 135,int 132,int 5,int 6,int 22]):=by kernel_rfl
theorem JC0:Jdc Tryz.prog 109 13 [(0,int 4),(1,int 20),(2,int 36),(3,int 52),(4,int 68),(5,int 84),(6,int 100),(7,int 116),(8,int 164),(9,int 21),(10,int 37),(11,int 53),(12,int 69)]=some (3, [int 4,int 20,int 36,int 52,int 68,int 84,int 100,int 116,int 164,int 21,int 37,int 53,int 69]):=by kernel_rfl
theorem JkE {l:List Nat} {p:Nat→Bool} {i:Nat} (hi:i < l.length) (h:p (l.getD i 0)=true) (hb:∀j,j < i→p (l.getD j 0)=false):l.findIdx? p=some i:=by
 rw [List.findIdx?_eq_some_iff_getElem]
 refine ⟨hi, ?_,fun j hj=> ?_⟩
 ·simpa [List.getD,hi] using h
 ·have:=hb j hj;simpa [List.getD,show j < l.length by omega] using this
theorem JkF {l:List Nat} {p:Nat→Bool} (hb:∀j,j < l.length→p (l.getD j 0)=false):l.findIdx? p=none:=by
 rw [List.findIdx?_eq_none_iff]
 intro x hx
 obtain ⟨j,hj,rfl⟩:=List.getElem_of_mem hx
 have:=hb j hj
 simpa [List.getD,hj] using this
theorem Jub {c i:Nat} (hi:i < 15) (h:c=aloneC.getD i 0) (hb:∀j,j < i→(c ==aloneC.getD j 0)=false):Ji7 c=(i+1,false):=by
 have e:aloneC.findIdx? (fun a=> c ==a)=some i:=JkE hi (by rw [h];simp) hb
 show (match aloneC.findIdx? (fun a=> c ==a) with | some i=> (i+1,false) | none=> _)=_
 rw [e]
theorem Jzn {c:Nat} (hb:∀j,j < 15→(c ==aloneC.getD j 0)=false):Ji7 c=match bothC.findIdx? (fun a=> c ==a|| c ==a+8) with | some i=> (i+16,c !=bothC.getD i 0) | none=> (0,false):=by
 have e:aloneC.findIdx? (fun a=> c ==a)=none:=JkF hb
 show (match aloneC.findIdx? (fun a=> c ==a) with | some i=> (i+1,false) | none=> (match bothC.findIdx? (fun a=> c ==a|| c ==a+8) with | some i=> (i+16,c !=bothC.getD i 0) | none=> (0,false)))=_
 rw [e]
theorem JC1:∀i,i < 13→bothC.getD i 0 < 200:=by decide
theorem Jan (c:Nat) (hc:c < 65536):Tells Tryz.prog 43 [u16 c] (.tup [int (kof c).1,Ji (kof c).2]):=by
 rw [← JzV]
 have hw:IntKind.i64.wrap (c:Int)=(c:Int):=Jq Om Om
 refine Jc Tryz.func43 rfl rfl fun nx=> ?_
 (refine Jy ?_;refine JQ ?_;refine Jy ?_)
 refine JF (fun n=> match n with | 0=> true | _=> false) 1 ?_
 refine Jj0 rfl JCZ ?_
 refine Z ?_
 refine Js (fun y:Nat×Nat=> mk 50 [(0,u16 c),(4, .os 1 15 (fun k=> int (aloneC.getD k 0:Nat)) none),(5,int y.1)] ⟨[], [],y.2,0⟩) (fun y=> y.1≤15∧∀j,j < y.1→(c ==aloneC.getD j 0)=false) (fun y=> 15 - y.1) ?_ ?_
 ·exact ⟨(0,nx),⟨Nat.zero_le _,fun j h=> absurd h (Nat.not_lt_zero _)⟩,Jfl rfl rfl (List.nil_sublist _) (List.nil_sublist _) ⟨Rf,AVle.os_fun (Jhp ⟨⟨⟨⟨⟨⟨⟨⟨⟨⟨⟨⟨⟨⟨⟨trivial,rfl⟩,rfl⟩,rfl⟩,rfl⟩,rfl⟩,rfl⟩,rfl⟩,rfl⟩,rfl⟩,rfl⟩,rfl⟩,rfl⟩,rfl⟩,rfl⟩,rfl⟩),Y1⟩⟩
 ·rintro ⟨i,nx1⟩ ⟨h1,h2⟩;dsimp only at h1 h2;refine Z ?_;intro c g;cases c
  ·have g:=Jw g;dsimp only at g;obtain rfl:i=15:=by omega
   have hr:=Jzn h2
   (refine Jy ?_)
   refine JF (fun n=> match n with | 0=> true | _=> false) 1 ?_;refine Jj0 rfl JC0 ?_;refine Z ?_;refine Js (fun y:Nat×Nat=> mk 50 [(0,u16 c),(6, .os 1 13 (fun k=> int (bothC.getD k 0:Nat)) none),(7,int y.1)] ⟨[], [],y.2,0⟩) (fun y=> y.1≤13∧∀j,j < y.1→(c ==bothC.getD j 0|| c ==bothC.getD j 0+8)=false) (fun y=> 13 - y.1) ?_ ?_
   ·exact ⟨(0,nx1),⟨Nat.zero_le _,fun j h=> absurd h (Nat.not_lt_zero _)⟩,Jfl rfl rfl (List.nil_sublist _) (List.nil_sublist _) ⟨Rf,AVle.os_fun (Jhp ⟨⟨⟨⟨⟨⟨⟨⟨⟨⟨⟨⟨⟨trivial,rfl⟩,rfl⟩,rfl⟩,rfl⟩,rfl⟩,rfl⟩,rfl⟩,rfl⟩,rfl⟩,rfl⟩,rfl⟩,rfl⟩,rfl⟩),Y1⟩⟩
   ·rintro ⟨i,nx2⟩ ⟨k1,k2⟩;dsimp only at k1 k2;refine Z ?_;intro c g3;cases c
    ·have g3:=Jw g3;dsimp only at g3;obtain rfl:i=13:=(by omega);have hn:bothC.findIdx? (fun a=> c ==a|| c ==a+8)=none:=JkF k2;rw [hn] at hr;rw [hr];refine Z ?_;exact Jb rfl (AVle.tups (cs:= [_,_]) Y2)
    ·have g3:=Ju g3;dsimp only at g3;have hi:i < 13:=(by omega);have hlt:=JC1 i hi;have hsucc:∀v,bothC.getD i 0=v→c≠v→c≠v+8→∀j,j < i+1→(c ==bothC.getD j 0|| c ==bothC.getD j 0+8)=false:=fun v hv e1 e2 j hj=> by
      rcases Nat.lt_or_ge j i with h | h
      ·exact k2 j h
      ·obtain rfl:j=i:=(by omega);rw [hv];simp [e1,e2]
     have hfound:∀v,bothC.getD i 0=v→(c=v∨c=v+8)→Ji7 c=(i+16,c !=v):=fun v hv e=> by
      have hn:bothC.findIdx? (fun a=> c ==a|| c ==a+8)=some i:=JkE hi (by rw [hv];rcases e with e | e <;> simp [e]) k2;rw [hn] at hr;rw [hr];dsimp only;rw [hv]
     generalize hv:bothC.getD i 0=v at hlt;have hsucc:=hsucc v hv;have hfound:=hfound v hv;have hw8:IntKind.i64.wrap ((v:Int)+8)=((v+8:Nat):Int):=Jq Om Om;refine Z ?_;refine ⟨Bd, ?_⟩;refine Z ?_;intro c q1;cases c
     ·have q1:c≠v:=by
       have q1:=Jb8.1 q1;intro h;apply q1;rw [hw];show ((c:Nat):Int)=((bothC.getD i 0:Nat):Int);rw [hv,h]
      refine Z ?_;refine ⟨Bd, ?_⟩;refine Z ?_;intro c q2;cases c
      ·have q2:c≠v+8:=by
        have q2:=Jb8.1 q2;intro h;apply q2;rw [hw];show ((c:Nat):Int)=IntKind.i64.wrap (((bothC.getD i 0:Nat):Int)+8);rw [hv,hw8,h]
       refine Z ?_;exact back (i + 1, _) ⟨(by first | omega | (dsimp only at *; omega) | (simp; done) | (simp; omega)), hsucc q1 q2⟩ (by first | omega | (dsimp only at *; omega) | (simp; done) | (simp; omega)) (Jfl rfl rfl (List.nil_sublist _) (List.nil_sublist _) ⟨Rf, Rf, Jf (Jx (by first | omega | (dsimp only at *; omega) | (simp; done) | (simp; omega))), Tt⟩)
      ·have q2:c=v+8:=by
        have q2:=Jb9.1 q2;rw [hw] at q2;have q3:((c:Nat):Int)=IntKind.i64.wrap (((bothC.getD i 0:Nat):Int)+8):=q2;rw [hv,hw8] at q3;omega
       rw [hfound (.inr q2)];refine Z ?_;refine Jb rfl (AVle.tups (cs := [_, _]) ⟨Jf (Jq (by first | omega | (dsimp only at *; omega) | (simp; done) | (simp; omega)) (by first | omega | (dsimp only at *; omega) | (simp; done) | (simp; omega))), JN ?_, Tt⟩);rw [q2];simp
     ·have q1:c=v:=by
       have q1:=Jb9.1 q1;rw [hw] at q1;have q3:((c:Nat):Int)=((bothC.getD i 0:Nat):Int):=q1;rw [hv] at q3;omega
      rw [hfound (.inl q1)];refine Z ?_;refine Jb rfl (AVle.tups (cs := [_, _]) ⟨Jf (Jq (by first | omega | (dsimp only at *; omega) | (simp; done) | (simp; omega)) (by first | omega | (dsimp only at *; omega) | (simp; done) | (simp; omega))), JN ?_, Tt⟩);rw [q1];simp
  ·have g:=Ju g;dsimp only at g;have hi:i < 15:=by omega
   refine Z ?_;refine ⟨Bd, ?_⟩;refine Z ?_;intro c q1;cases c
   ·have q1:(c ==aloneC.getD i 0)=false:=by
     have q1:=Jb8.1 q1;rw [hw] at q1;have q3:((c:Nat):Int)≠((aloneC.getD i 0:Nat):Int):=q1;simp only [beq_eq_false_iff_ne];omega
    refine Z ?_;refine back (i + 1, _) ⟨(by first | omega | (dsimp only at *; omega) | (simp; done) | (simp; omega)), fun j hj => ?_⟩ (by first | omega | (dsimp only at *; omega) | (simp; done) | (simp; omega)) (Jfl rfl rfl (List.nil_sublist _) (List.nil_sublist _) ⟨Rf, Rf, Jf (Jx (by first | omega | (dsimp only at *; omega) | (simp; done) | (simp; omega))), Tt⟩);rcases Nat.lt_or_ge j i with h | h
    ·exact h2 j h
    ·obtain rfl:j=i:=(by omega);exact q1
   ·have q1:c=aloneC.getD i 0:=by
     have q1:=Jb9.1 q1;rw [hw] at q1;have q3:((c:Nat):Int)=((aloneC.getD i 0:Nat):Int):=q1;omega
    rw [Jub hi q1 h2];refine Z ?_;exact Jb rfl (AVle.tups (cs := [_, _]) ⟨Jf (Jx (by first | omega | (dsimp only at *; omega) | (simp; done) | (simp; omega))), Y1⟩)
structure Tst where
 at':Nat
 mask:Nat
 kind:Nat
 k:Nat
 is:Bool
structure Pth where
 tests:List Tst
 steps:Nat
 value:Nat
def asks (l:List Ins) (n:Nat):Prop:=kind l n=21∨25≤kind l n
instance (l:List Ins) (n:Nat):Decidable (asks l n):=by unfold asks;infer_instance
def JqD (l:List Ins):Nat→List Bool
 | 0=> JEb (List.replicate l.length false) 0
 | n+1=> if (JqD l n).getD n false=true∧kind l n=13 then JEb (JqD l n) (n+1+(l.getD n ins0).k) else JqD l n
def okP (l:List Ins) (n:Nat):Prop:=(asks l n∨kind l n=1∨kind l n=13∨kind l n=14)∧(kof (l.getD n ins0).code).2=false∧¬(asks l n∧(JqD l n).getD n false=true)
instance (l:List Ins) (n:Nat):Decidable (okP l n):=by unfold okP;infer_instance
def JfT (l:List Nat):AV:=JK 1 (fun n:Nat=> u8 n) 0 l
def okB (b:List Nat):Prop:=∀x∈b,x < 256
def okI (n:Int):Prop:=-9223372036854775808≤n∧n≤9223372036854775807
def JbX (at' w:Nat) (big:Bool):List Nat:=(List.range w).map fun i=> if big then at'+i else at'+w - 1 - i
theorem Jgc (at' w:Nat) (big:Bool):(JbX at' w big).length=w:=by simp [JbX]
theorem Juc {at' w i:Nat} {big:Bool} (h:i < w):(JbX at' w big).getD i 0=if big then at'+i else at'+w - 1 - i:=by
 simp [JbX,List.getD,List.getElem?_map,List.getElem?_range h]
def JgM (b:List Nat) (ks:List Nat):Nat:=ks.foldl (fun n k=> n * 256+b.getD k 0) 0
theorem Jzo (b ks:List Nat) (k:Nat):JgM b (ks++ [k])=JgM b ks * 256+b.getD k 0:=by simp [JgM]
theorem okB.get {b:List Nat} (h:okB b) (k:Nat):b.getD k 0 < 256:=by
 rcases Nat.lt_or_ge k b.length with hk | hk
 ·have e:b.getD k 0=b[k]:=by simp [List.getD,hk]
  rw [e];exact h _ (List.getElem_mem hk)
 ·simp [List.getD,List.getElem?_eq_none hk]
theorem Jvh {b:List Nat} (h:okB b):∀(ks:List Nat) (n:Nat),ks.foldl (fun n k=> n * 256+b.getD k 0) n+1≤(n+1) * 256 ^ ks.length
 | [],n=> by simp
 | k::ks,n=> by
   have h1:=Jvh h ks (n * 256+b.getD k 0);have h2:=h.get k;rw [List.foldl_cons,List.length_cons,Nat.pow_succ];refine Nat.le_trans h1 ?_;rw [Nat.mul_comm (256 ^ ks.length) 256,← Nat.mul_assoc];exact Nat.mul_le_mul_right _ Om
theorem Jvi {b:List Nat} (h:okB b) (ks:List Nat):JgM b ks < 256 ^ ks.length:=by
 have:=Jvh h ks 0
 simp only [Nat.zero_add,Nat.one_mul] at this
 exact this
structure Weak (n:Nat) (s:List Bool×List Nat):Prop where
 len:s.1.length=n
 few:s.2.length≤s.1.count true
structure Inv (l:List Ins) (s:List Bool×List Nat):Prop where
 weak:Weak l.length s
 zero:s.1.getD 0 false=true
 sound:∀x,s.1.getD x false=true→Reached l x
 mem:∀x∈s.2,s.1.getD x false=true
 full:∀x,s.1.getD x false=true→x∈s.2∨∀t∈nextsI l x,s.1.getD t false=true
theorem c4:Tryz.prog.cellsOf 4=1:=by kernel_rfl
theorem c3:Tryz.prog.cellsOf 3=1:=by kernel_rfl
structure TstZ where
 at':Int
 mask:Nat
 kind:Int
 k:Nat
 is:Bool
def TstZ.ok (t:TstZ):Prop:=okI t.at'∧t.mask < 4294967296∧okI t.kind∧t.k < 4294967296
def Jai (b:List Nat) (at':Int):Nat:=JgM b (JbX at'.toNat 4 false)
theorem Js0 {b:List Nat} (hb:okB b) (at':Int):Jai b at' < 4294967296:=by
 have:=Jvi hb (JbX at'.toNat 4 false)
 rw [Jgc] at this
 exact this
theorem Jud (b:List Nat) (hb:okB b) (hl:b.length≤8):Tells Tryz.prog 86 [JfT b] (u64 (JgM b (JbX 0 b.length false):Nat)):=by
 refine Jc Tryz.func86 rfl rfl fun nx=> ?_
 refine Z ?_
 have hle:∀i,i≤b.length→∀n:Nat,(int ((b.length:Int) - 1 - i))=int ((b.length:Int) - 1 - i):=fun _ _ _=> rfl
 refine Js (fun i:Nat=> mk 21 [(0,JfT b),(3,u64 (JgM b ((JbX 0 b.length false).take i):Nat)),(4,int ((b.length:Int) - 1 - i))] ⟨[], [],nx,0⟩) (fun i=> i≤b.length) (fun i=> b.length - i) ?_ ?_
 ·exact ⟨0,Om,JaM rfl rfl ⟨Rf,Rf,Jf ((Jq Om Om).trans Om),Tt⟩⟩
 ·rintro i h1;refine Z ?_;intro c g;cases c
  ·have g:=Jw g;refine Z ?_;refine Jb rfl (AVle.of_eq ?_);rw [List.take_of_length_le (by rw [Jgc];omega)];rfl
  ·have g:=Ju g;have hi:i < b.length:=by omega
   have hpl:=Jgc 0 b.length false;have hgt:(JbX 0 b.length false).getD i 0=b.length - 1 - i:=by rw [Juc hi];simp
   have hst:(JbX 0 b.length false).take (i+1)=(JbX 0 b.length false).take i++ [b.length - 1 - i]:=by rw [← hgt];exact JaP 0 (by rw [hpl];exact hi)
   have hacc:JgM b ((JbX 0 b.length false).take i) < 72057594037927936:=Nat.lt_of_lt_of_le (Jvi hb _) (Nat.le_trans (Nat.pow_le_pow_right Dc (by rw [List.length_take,hpl];omega:((JbX 0 b.length false).take i).length≤7)) Dc);have hbx:=hb.get (b.length - 1 - i);have hix:Int.toNat ((b.length:Int) - 1 - i)=b.length - 1 - i:=by omega
   refine Z ?_;refine ⟨Bd, ?_⟩;refine Z ?_;refine back (i+1) Om Om (JaM rfl rfl ⟨Rf, ?_,Jf ((Jq Om Om).trans Om),Tt⟩);refine AVle.of_eq (congrArg u64 (?_:IntKind.u64.wrap (IntKind.u64.wrap (256 * (JgM b ((JbX 0 b.length false).take i):Nat))+IntKind.u64.wrap (b.getD (Int.toNat ((b.length:Int) - 1 - i)) 0:Nat))=_));rw [hix,hst,Jzo];show ((256 * ((JgM b ((JbX 0 b.length false).take i):Nat):Int)) % 18446744073709551616+((b.getD (b.length - 1 - i) 0:Nat):Int) % 18446744073709551616) % 18446744073709551616=_;omega
theorem JiK {b:List Nat} {a n k:Nat} (hk:k < n):((b.drop a).take n).getD k 0=b.getD (a+k) 0:=by
 simp [List.getD,List.getElem?_take,hk,List.getElem?_drop]
theorem Jzp {b:List Nat} {a:Nat}:JgM ((b.drop a).take 4) (JbX 0 4 false)=Jai b a:=by
 have h0:=JiK (b:=b) (a:=a) (n:=4) (k:=0) Dc
 have h1:=JiK (b:=b) (a:=a) (n:=4) (k:=1) Dc
 have h2:=JiK (b:=b) (a:=a) (n:=4) (k:=2) Dc
 have h3:=JiK (b:=b) (a:=a) (n:=4) (k:=3) Dc
 have e1:JbX 0 4 false= [3,2,1,0]:=by decide
 have e2:JbX (Int.toNat (a:Int)) 4 false= [a+3,a+2,a+1,a+0]:=by
  show (List.range 4).map (fun i=> a+4 - 1 - i)=_;rw [show List.range 4= [0,1,2,3] from rfl];simp
 unfold Jai JgM
 rw [e1,e2]
 simp only [List.foldl_cons,List.foldl_nil,h0,h1,h2,h3]
theorem JwQ (b:List Nat) (hb:okB b) (hl:b.length≤1000000) (at':Nat) (ha:at'+4≤b.length):Tells Tryz.prog 44 [JfT b,int at'] (u32 (Jai b at':Nat)):=by
 have hw:IntKind.i64.wrap ((at':Int)+4)=((at'+4:Nat):Int):=Jq Om Om
 have hlen:((b.drop at').take 4).length=4:=by simp;omega
 have hsub:okB ((b.drop at').take 4):=fun x hx=> hb x (List.mem_of_mem_drop (List.mem_of_mem_take hx))
 have hwl:=Js0 hb at'
 refine Jc Tryz.func44 rfl rfl fun nx=> ?_
 refine Z ?_
 (conv=> whnf)
 refine ⟨⟨Om,by rw [hw];omega,by rw [hw];omega⟩, ?_⟩
 refine Z ?_
 refine Ja rfl rfl (Jud ((b.drop at').take 4) hsub Om) ⟨?_,Tt⟩ fun nx1=> ?_
 ·refine AVle.trans (b:= .sl 1 4 (fun k=> u8 (b.getD (at'+k) 0:Nat))) (AVle.of_eq ?_) ?_
  ·show AV.sl 1 ((IntKind.i64.wrap ((at':Int)+4)).toNat - at') _=_;rw [hw,show Int.toNat ((at'+4:Nat):Int) - at'=4 by omega];rfl
  ·unfold JfT JK;rw [hlen];exact AVle.sl_fun fun k hk=> by rw [JiK hk]
 rw [hlen,Jzp]
 refine Z ?_
 refine Jb rfl (Jf ?_)
 show ((Jai b at':Nat):Int) % 4294967296=_
 omega
def JBB (a n:Nat):AV:= .sl 4 4 fun k=> [.ag [u16 0,u8 0,u8 0,u32 a], .ag [u16 1,u8 0,u8 0,u32 n], .ag [u16 92,u8 0,u8 0,u32 0], .ag [u16 22,u8 0,u8 0,u32 0]].getD k .any
def JEW (a n:Nat):Nat→Nat
 | 0=> 0
 | 1=> a
 | 2=> a
 | _=> a&&& n
def JEX (n:Nat):Nat→Nat
 | 0=> 0
 | 1=> 0
 | _=> n
theorem Jue (a n:Nat) (ha:a < 4294967296) (hn:n < 4294967296) (b:List Nat):Tells Tryz.prog 45 [JBB a n,JfT b] (.ag [u32 (a&&& n:Nat),int (4:Nat), .sl 0 0 fun _=> .any]):=by
 refine Jc Tryz.func45 rfl rfl fun nx=> ?_
 refine Z ?_
 refine Js (fun y:Nat×Nat=> mk 207 [(0,JBB a n),(1,JfT b),(4, .bp (0,nx) 0),(5, .bp (1,nx+1) 0),(6,u32 (JEW a n y.1)),(7,u32 (JEX n y.1)),(9,int y.1)] ⟨[((1,nx+1), .c [u32 0,int y.1, .os 0 0 (fun _=> .any) none]),((0,nx), .c [u32 0,int 0, .os 0 0 (fun _=> .any) none])], [],y.2,3⟩) (fun y=> y.1≤3) (fun y=> 3 - y.1) ?_ ?_
 ·exact ⟨(0,nx+3),Nat.zero_le _,Je _ _ rfl rfl (.cons _ Sf) Sf Bf Tt Y7⟩
 ·rintro ⟨i,nx2⟩ hi;dsimp only at hi;rcases (by omega:i=0∨i=1∨i=2∨i=3) with rfl | rfl | rfl | rfl
  ·refine Z ?_;refine ⟨⟨by simp,by simp⟩, ?_⟩;refine Z ?_;refine Ja rfl rfl (Jan 0 Dc) Y1 fun nx3=> ?_;rw [show kof 0=(2,false) from by decide];refine Z ?_
   (refine JJ 6 Kr Kr Kr ?_)
   refine Z ?_;exact back (1,nx3) Dm Dm (Je _ _ rfl rfl (.cons _ Sf) Sf ⟨rfl,⟨Rf,Jf rfl,Y1⟩,rfl,OwnLe.refl _,Tt⟩ Tt ⟨Rf,Rf,Rf,Rf,Rf,Rf,Jf rfl,Tt⟩)
  ·refine Z ?_;refine ⟨⟨by simp,by simp⟩, ?_⟩;refine Z ?_;refine Ja rfl rfl (Jan 1 Dc) Y1 fun nx3=> ?_;rw [show kof 1=(5,false) from by decide];refine Z ?_
   (refine JJ 6 Kr Kr Kr ?_)
   refine Z ?_;exact back (2,nx3) Dm Dm (Je _ _ rfl rfl (.cons _ Sf) Sf ⟨rfl,⟨Rf,Jf rfl,Y1⟩,rfl,OwnLe.refl _,Tt⟩ Tt ⟨Rf,Rf,Rf,Rf,Rf,Rf,Jf rfl,Tt⟩)
  ·refine Z ?_;refine ⟨⟨by simp,by simp⟩, ?_⟩;refine Z ?_;refine Ja rfl rfl (Jan 92 Dc) Y1 fun nx3=> ?_;rw [show kof 92=(21,true) from by decide];refine Z ?_
   (refine JJ 6 Kr Kr Kr ?_)
   refine Z ?_;exact back (3,nx3) Dm Dm (Je _ _ rfl rfl (.cons _ Sf) Sf ⟨rfl,⟨Rf,Jf rfl,Y1⟩,rfl,OwnLe.refl _,Tt⟩ Tt ⟨Rf,Rf,Rf,Rf,AVle.of_eq (congrArg u32 (JlO ha hn)),Rf,Jf rfl,Tt⟩)
  ·refine Z ?_;refine ⟨⟨by simp,by simp⟩, ?_⟩;refine Z ?_;refine Ja rfl rfl (Jan 22 Dc) Y1 fun nx3=> ?_;rw [show kof 22=(15,false) from by decide];refine Z ?_
   (refine JJ 6 Kr Kr Kr ?_)
   refine Z ?_;exact Jk rfl ⟨rfl,Tt⟩ (AVle.ags (cs:= [_,_,_]) ⟨Rf,Jf rfl,AVle.os_sl,Tt⟩)
def kA (i j:Nat):Int:=if j < i then j else -1
theorem Jaq (l:List Itm) (hl:l.length≤1000000000000) (hn:(marksO l).Nodup) (j t:Nat) (hj:j < l.length) (ht:(l.getD j it0).mark=t) (h0:t≠0):Tells Tryz.prog 42 [JaN l,int t] (int j):=by
 refine Jc Tryz.func42 rfl rfl fun nx=> ?_
 refine Z ?_
 refine Js (fun y:Nat×Nat=> mk 28 [(0,JaN l),(1,int t),(5,int (kA y.1 j)),(6,int y.1)] ⟨[], [],y.2,0⟩) (fun y=> y.1≤l.length) (fun y=> l.length - y.1) ?_ ?_
 ·exact ⟨(0,nx),Nat.zero_le _,Et rfl rfl Tt Tt Y4⟩
 ·rintro ⟨i,nx2⟩ k1;dsimp only at k1;refine Z ?_;intro c g;cases c
  ·have g:=Jw g;dsimp only at g;obtain rfl:i=l.length:=by omega
   refine Z ?_;exact Jb rfl (Jf (if_pos hj))
  ·have g:=Ju g;dsimp only at g;have hi:i < l.length:=by omega
   refine Z ?_;refine ⟨Bd, ?_⟩;refine Z ?_;intro c hc;cases c with
   | false=>
     have hne:i≠j:=fun e=> by
      subst e;have:=beq_eq_false_iff_ne.1 hc.symm;exact this (congrArg Int.ofNat ht)
     refine Z ?_;exact back (i+1,nx2) Dm Dm (Et rfl rfl Tt Tt ⟨Rf,Rf,Jf (by unfold kA;dsimp only;by_cases h:j < i <;> simp [h] <;> omega),Jf (Jx Om),Tt⟩)
   | true=>
     have he:(l.getD i it0).mark=t:=Int.ofNat_inj.1 (eq_of_beq hc.symm);obtain rfl:i=j:=ItsOk.once hn hj hi (by rw [ht];exact h0) (by rw [he,ht]);refine Z ?_;intro c2 hc2;have hc3:c2=true:=hc2.trans (bne_iff_ne.2 Om);clear hc2;cases hc3;refine Z ?_;intro c4 hc4;have hc5:c4=false:=hc4.trans (decide_eq_false (by unfold kA;simp));clear hc4;cases hc5;refine Z ?_;exact back (i+1,nx2) Dm Dm (Et rfl rfl Tt Tt ⟨Rf,Rf,Jf (by unfold kA;simp),Jf (Jx Om),Tt⟩)
theorem e92:JbC .or .u16 (84:Int) 8=92:=Jup (k:= .u16) (a:=84) (b:=8) Dc Dc Dc
theorem JjF (l:List Itm) (hl:l.length≤1000000000000) (b:List Nat) (hb:okB b) (hbl:b.length=64) (h:ItsOk l) (V:Nat) (hv:(Jp (fun k=> Jai b k) l JbO).1 0=some V):PCall Tryz.prog 14 [JaN l,JfT b] (fun r=> ∃s:Nat,r= .tup [u32 V,int s,Ji true]):=by
 intro nx
 refine ECall.wk (Jo Tryz.func14 rfl rfl ?_)
 refine Z ?_
 refine Js (fun y:Nat×Nat×Nat×Nat=> mk 194 [(0,JaN l),(1,JfT b),(7,u32 y.2.1),(8,u32 0),(10,int y.1),(11,int y.2.2.1)] ⟨[], [],y.2.2.2,0⟩) (fun y=> y.1≤l.length∧y.2.1 < 4294967296∧y.2.2.1≤y.1∧(Jp (fun k=> Jai b k) (l.drop y.1) JbO).1 y.2.1=some V) (fun y=> l.length - y.1) ?_ ?_
 ·exact ⟨(0,0,0,nx+1),⟨Nat.zero_le _,by show 0 < _;decide,Nat.le_refl _,hv⟩,Je _ _ rfl rfl (.cons _ Sf) Sf Tt Tt Y6⟩
 ·rintro ⟨i,A,s,nx2⟩ ⟨k1,k2,k3,k4⟩;dsimp only at k1 k2 k3 k4;have hi:i < l.length:=by
   rcases Nat.lt_or_ge i l.length with h | h
   ·exact h
   ·rw [List.drop_of_length_le h] at k4;cases k4
  have hsh:=h.sh _ (ItsOk.mem hi);have hsem:=Jx0 (fun k=> Jai b k) (s:=JbO) hi;have hjmp:=fun t ht h0=> h.jump hi (t:=t) ht h0 (fun k=> Jai b k);rw [hsem] at k4;refine Z ?_;intro c hc;have hc2:c=true:=hc.trans (decide_eq_true Om);clear hc;cases hc2;refine Z ?_;refine ⟨Bd, ?_⟩;change Jcl _ (AV.rp (itA (l.getD i it0)).cells) _;have hmem:=ItsOk.mem hi;generalize l.getD i it0 = x at *
  obtain ⟨mk0,cd,k,t,f⟩:=x;dsimp only at hsh k4 hjmp;rcases hsh with ⟨hm,rfl,rfl,rfl,rfl⟩ | ⟨rfl,hsh⟩
  ·rw [if_neg hm] at k4;refine Z ?_;intro c hc;have hc2:c=true:=hc.trans (bne_iff_ne.2 Om);clear hc;cases hc2;refine Z ?_;exact back (i+1,A,s,nx2+1) ⟨Dm,k2,Dm,k4⟩ Dm (Je _ _ rfl rfl (.cons _ Sf) Sf Tt Tt ⟨Rf,Rf,Rf,Rf,Jf (Jx Om),Y1⟩)
  ·rw [if_pos rfl] at k4;rcases hsh with ⟨rfl,hk,rfl,rfl⟩ | ⟨rfl | rfl,rfl,rfl,hk⟩ | ⟨rfl,rfl⟩ | rfl | rfl | rfl | ⟨rfl,hk⟩
   ·refine Z ?_;refine Ja rfl rfl (Jan 32 Dc) Y1 fun nx3=> ?_;rw [show kof 32=(1,false) from by decide];refine Z ?_;have hk:k+4≤64:=hk;have k5:(Jp (fun k=> Jai b k) (l.drop (i+1)) JbO).1 (Jai b k)=some V:=(by simpa [Jdq] using k4);refine Ja rfl rfl (JwQ b hb Om k Om) ⟨Rf,Jf (Jq Dm Dm),Tt⟩ fun nx4=> ?_;refine Z ?_;exact back (i+1,Jai b k,s+1,nx4) ⟨Dm,Js0 hb k,Dm,k5⟩ Dm (Je _ _ rfl rfl (.cons _ Sf) Sf Tt Tt ⟨Rf,Rf,Rf,Rf,Lw,Lw,Tt⟩)
   ·refine Z ?_;refine Ja rfl rfl (Jan 84 Dc) Y1 fun nx3=> ?_;rw [show kof 84=(21,false) from by decide];refine Z ?_;have k5:(Jp (fun k=> Jai b k) (l.drop (i+1)) JbO).1 (A&&& k)=some V:=(by simpa [Jdq] using k4);refine Ja rfl rfl (Jue A k k2 (hk rfl) b) ⟨AVle.os_sl.trans (AVle.sl_fun fun k hk=> by match k,hk with | 0,_=> rfl | 1,_=> rfl | 2,_=> exact congrArg (fun z=> AV.ag [u16 z,u8 0,u8 0,u32 0]) e92 | 3,_=> rfl),Y1⟩ fun nx4=> ?_;refine Z ?_;exact back (i+1,A&&& k,s+1,nx4) ⟨Dm,Nat.lt_of_le_of_lt Nat.and_le_left k2,Dm,k5⟩ Dm (Je _ _ rfl rfl (.cons _ Sf) Sf Tt Tt ⟨Rf,Rf,Rf,Rf,Lw,Lw,Tt⟩)
   ·refine Z ?_;refine Ja rfl rfl (Jan 6 Dc) Y1 fun nx3=> ?_;rw [show kof 6=(14,false) from by decide];refine Z ?_;have k5:V=k:=(by simpa [Jdq] using k4.symm);subst k5;exact Jt rfl ⟨.tup [u32 V,int (s+1:Nat),Ji true],⟨[], [],nx3,0⟩,AVle.tups (cs:= [_,_,_]) ⟨Rf,Lw,Y1⟩,Jr _ _ rfl (.cons _ Sf) Sf Tt trivial,⟨s+1,rfl⟩,rfl,rfl⟩
   ·refine Z ?_;refine Ja rfl rfl (Jan 5 Dc) Y1 fun nx3=> ?_;rw [show kof 5=(13,false) from by decide];refine Z ?_;have k5:Ja3 (Jp (fun k=> Jai b k) (l.drop (i+1)) JbO).1 (Jp (fun k=> Jai b k) (l.drop (i+1)) JbO).2 t A=some V:=(by simpa [Jdq] using k4);intro c2 hc2;by_cases h0:t=0
    ·have hc3:c2=false:=hc2.trans (by rw [h0];rfl);clear hc2;cases hc3;unfold Ja3 at k5;rw [if_pos h0] at k5;refine Z ?_;exact back (i+1,A,s+1,nx3) ⟨Dm,k2,Dm,k5⟩ Dm (Je _ _ rfl rfl (.cons _ Sf) Sf Tt Tt ⟨Rf,Rf,Rf,Rf,Lw,Lw,Tt⟩)
    ·have hc3:c2=true:=hc2.trans (bne_iff_ne.2 Dm);clear hc2;cases hc3;obtain ⟨j,j1,j2,j3,j4⟩:=hjmp t (.inl rfl) h0;unfold Ja3 at k5;rw [if_neg h0,j4] at k5;refine Z ?_;refine Ja rfl rfl (Jaq l hl h.nd j t j2 j3 h0) Y2 fun nx4=> ?_;refine Z ?_;exact back (j,A,s+1,nx4) ⟨Dm,k2,Dm,k5⟩ Dm (Je _ _ rfl rfl (.cons _ Sf) Sf Tt Tt ⟨Rf,Rf,Rf,Rf,Rf,Lw,Tt⟩)
   ·refine Z ?_;refine Ja rfl rfl (Jan 21 Dc) Y1 fun nx3=> ?_;rw [show kof 21=(25,false) from by decide];refine Z ?_;have k6:(if Jdj 21 A k=true then Ja3 (Jp (fun k=> Jai b k) (l.drop (i+1)) JbO).1 (Jp (fun k=> Jai b k) (l.drop (i+1)) JbO).2 t A else Ja3 (Jp (fun k=> Jai b k) (l.drop (i+1)) JbO).1 (Jp (fun k=> Jai b k) (l.drop (i+1)) JbO).2 f A)=some V:=(by simpa [Jdq] using k4);intro c hc;cases c with
    | true=>
      have hp:A=k:=Int.ofNat_inj.1 (eq_of_beq hc.symm);have k5:=k6;rw [if_pos (by simp [Jdj,hp])] at k5;refine Z ?_;intro c2 hc2;by_cases h0:t=0
      ·have hc3:c2=false:=hc2.trans (by rw [h0];rfl);clear hc2;cases hc3;unfold Ja3 at k5;rw [if_pos h0] at k5;refine Z ?_;exact back (i+1,A,s+1,nx3) ⟨Dm,k2,Dm,k5⟩ Dm (Je _ _ rfl rfl (.cons _ Sf) Sf Tt Tt ⟨Rf,Rf,Rf,Rf,Lw,Lw,Tt⟩)
      ·have hc3:c2=true:=hc2.trans (bne_iff_ne.2 Dm);clear hc2;cases hc3;obtain ⟨j,j1,j2,j3,j4⟩:=hjmp t (.inl rfl) h0;unfold Ja3 at k5;rw [if_neg h0,j4] at k5;refine Z ?_;refine Ja rfl rfl (Jaq l hl h.nd j t j2 j3 h0) Y2 fun nx4=> ?_;refine Z ?_;exact back (j,A,s+1,nx4) ⟨Dm,k2,Dm,k5⟩ Dm (Je _ _ rfl rfl (.cons _ Sf) Sf Tt Tt ⟨Rf,Rf,Rf,Rf,Rf,Lw,Tt⟩)
    | false=>
      have hp:¬(A=k):=fun e=> beq_eq_false_iff_ne.1 hc.symm (congrArg Int.ofNat e);have k5:=k6;rw [if_neg (by simp [Jdj,hp];try omega)] at k5;refine Z ?_;intro c2 hc2;by_cases h0:f=0
      ·have hc3:c2=false:=hc2.trans (by rw [h0];rfl);clear hc2;cases hc3;unfold Ja3 at k5;rw [if_pos h0] at k5;refine Z ?_;exact back (i+1,A,s+1,nx3) ⟨Dm,k2,Dm,k5⟩ Dm (Je _ _ rfl rfl (.cons _ Sf) Sf Tt Tt ⟨Rf,Rf,Rf,Rf,Lw,Lw,Tt⟩)
      ·have hc3:c2=true:=hc2.trans (bne_iff_ne.2 Dm);clear hc2;cases hc3;obtain ⟨j,j1,j2,j3,j4⟩:=hjmp f (.inr rfl) h0;unfold Ja3 at k5;rw [if_neg h0,j4] at k5;refine Z ?_;refine Ja rfl rfl (Jaq l hl h.nd j f j2 j3 h0) Y2 fun nx4=> ?_;refine Z ?_;exact back (j,A,s+1,nx4) ⟨Dm,k2,Dm,k5⟩ Dm (Je _ _ rfl rfl (.cons _ Sf) Sf Tt Tt ⟨Rf,Rf,Rf,Rf,Rf,Lw,Tt⟩)
   ·refine Z ?_;refine Ja rfl rfl (Jan 37 Dc) Y1 fun nx3=> ?_;rw [show kof 37=(26,false) from by decide];refine Z ?_;have k6:(if Jdj 37 A k=true then Ja3 (Jp (fun k=> Jai b k) (l.drop (i+1)) JbO).1 (Jp (fun k=> Jai b k) (l.drop (i+1)) JbO).2 t A else Ja3 (Jp (fun k=> Jai b k) (l.drop (i+1)) JbO).1 (Jp (fun k=> Jai b k) (l.drop (i+1)) JbO).2 f A)=some V:=(by simpa [Jdq] using k4);intro c hc;cases c with
    | true=>
      have hp:k < A:=(by have:=of_decide_eq_true hc.symm;dsimp only at this;omega);have k5:=k6;rw [if_pos (by simp [Jdj,hp])] at k5;refine Z ?_;intro c2 hc2;by_cases h0:t=0
      ·have hc3:c2=false:=hc2.trans (by rw [h0];rfl);clear hc2;cases hc3;unfold Ja3 at k5;rw [if_pos h0] at k5;refine Z ?_;exact back (i+1,A,s+1,nx3) ⟨Dm,k2,Dm,k5⟩ Dm (Je _ _ rfl rfl (.cons _ Sf) Sf Tt Tt ⟨Rf,Rf,Rf,Rf,Lw,Lw,Tt⟩)
      ·have hc3:c2=true:=hc2.trans (bne_iff_ne.2 Dm);clear hc2;cases hc3;obtain ⟨j,j1,j2,j3,j4⟩:=hjmp t (.inl rfl) h0;unfold Ja3 at k5;rw [if_neg h0,j4] at k5;refine Z ?_;refine Ja rfl rfl (Jaq l hl h.nd j t j2 j3 h0) Y2 fun nx4=> ?_;refine Z ?_;exact back (j,A,s+1,nx4) ⟨Dm,k2,Dm,k5⟩ Dm (Je _ _ rfl rfl (.cons _ Sf) Sf Tt Tt ⟨Rf,Rf,Rf,Rf,Rf,Lw,Tt⟩)
    | false=>
      have hp:¬(k < A):=fun e=> by have:=of_decide_eq_false hc.symm;dsimp only at this;omega
      have k5:=k6;rw [if_neg (by simp [Jdj,hp];try omega)] at k5;refine Z ?_;intro c2 hc2;by_cases h0:f=0
      ·have hc3:c2=false:=hc2.trans (by rw [h0];rfl);clear hc2;cases hc3;unfold Ja3 at k5;rw [if_pos h0] at k5;refine Z ?_;exact back (i+1,A,s+1,nx3) ⟨Dm,k2,Dm,k5⟩ Dm (Je _ _ rfl rfl (.cons _ Sf) Sf Tt Tt ⟨Rf,Rf,Rf,Rf,Lw,Lw,Tt⟩)
      ·have hc3:c2=true:=hc2.trans (bne_iff_ne.2 Dm);clear hc2;cases hc3;obtain ⟨j,j1,j2,j3,j4⟩:=hjmp f (.inr rfl) h0;unfold Ja3 at k5;rw [if_neg h0,j4] at k5;refine Z ?_;refine Ja rfl rfl (Jaq l hl h.nd j f j2 j3 h0) Y2 fun nx4=> ?_;refine Z ?_;exact back (j,A,s+1,nx4) ⟨Dm,k2,Dm,k5⟩ Dm (Je _ _ rfl rfl (.cons _ Sf) Sf Tt Tt ⟨Rf,Rf,Rf,Rf,Rf,Lw,Tt⟩)
   ·refine Z ?_;refine Ja rfl rfl (Jan 53 Dc) Y1 fun nx3=> ?_;rw [show kof 53=(27,false) from by decide];refine Z ?_;have k6:(if Jdj 53 A k=true then Ja3 (Jp (fun k=> Jai b k) (l.drop (i+1)) JbO).1 (Jp (fun k=> Jai b k) (l.drop (i+1)) JbO).2 t A else Ja3 (Jp (fun k=> Jai b k) (l.drop (i+1)) JbO).1 (Jp (fun k=> Jai b k) (l.drop (i+1)) JbO).2 f A)=some V:=(by simpa [Jdq] using k4);intro c hc;cases c with
    | true=>
      have hp:k≤A:=(by have:=of_decide_eq_true hc.symm;dsimp only at this;omega);have k5:=k6;rw [if_pos (by simp [Jdj,hp])] at k5;refine Z ?_;intro c2 hc2;by_cases h0:t=0
      ·have hc3:c2=false:=hc2.trans (by rw [h0];rfl);clear hc2;cases hc3;unfold Ja3 at k5;rw [if_pos h0] at k5;refine Z ?_;exact back (i+1,A,s+1,nx3) ⟨Dm,k2,Dm,k5⟩ Dm (Je _ _ rfl rfl (.cons _ Sf) Sf Tt Tt ⟨Rf,Rf,Rf,Rf,Lw,Lw,Tt⟩)
      ·have hc3:c2=true:=hc2.trans (bne_iff_ne.2 Dm);clear hc2;cases hc3;obtain ⟨j,j1,j2,j3,j4⟩:=hjmp t (.inl rfl) h0;unfold Ja3 at k5;rw [if_neg h0,j4] at k5;refine Z ?_;refine Ja rfl rfl (Jaq l hl h.nd j t j2 j3 h0) Y2 fun nx4=> ?_;refine Z ?_;exact back (j,A,s+1,nx4) ⟨Dm,k2,Dm,k5⟩ Dm (Je _ _ rfl rfl (.cons _ Sf) Sf Tt Tt ⟨Rf,Rf,Rf,Rf,Rf,Lw,Tt⟩)
    | false=>
      have hp:¬(k≤A):=fun e=> by have:=of_decide_eq_false hc.symm;dsimp only at this;omega
      have k5:=k6;rw [if_neg (by simp [Jdj,hp];try omega)] at k5;refine Z ?_;intro c2 hc2;by_cases h0:f=0
      ·have hc3:c2=false:=hc2.trans (by rw [h0];rfl);clear hc2;cases hc3;unfold Ja3 at k5;rw [if_pos h0] at k5;refine Z ?_;exact back (i+1,A,s+1,nx3) ⟨Dm,k2,Dm,k5⟩ Dm (Je _ _ rfl rfl (.cons _ Sf) Sf Tt Tt ⟨Rf,Rf,Rf,Rf,Lw,Lw,Tt⟩)
      ·have hc3:c2=true:=hc2.trans (bne_iff_ne.2 Dm);clear hc2;cases hc3;obtain ⟨j,j1,j2,j3,j4⟩:=hjmp f (.inr rfl) h0;unfold Ja3 at k5;rw [if_neg h0,j4] at k5;refine Z ?_;refine Ja rfl rfl (Jaq l hl h.nd j f j2 j3 h0) Y2 fun nx4=> ?_;refine Z ?_;exact back (j,A,s+1,nx4) ⟨Dm,k2,Dm,k5⟩ Dm (Je _ _ rfl rfl (.cons _ Sf) Sf Tt Tt ⟨Rf,Rf,Rf,Rf,Rf,Lw,Tt⟩)
   ·refine Z ?_;refine Ja rfl rfl (Jan 69 Dc) Y1 fun nx3=> ?_;rw [show kof 69=(28,false) from by decide];refine Z ?_;have hk:k < 4294967296:=hk;have k6:(if Jdj 69 A k=true then Ja3 (Jp (fun k=> Jai b k) (l.drop (i+1)) JbO).1 (Jp (fun k=> Jai b k) (l.drop (i+1)) JbO).2 t A else Ja3 (Jp (fun k=> Jai b k) (l.drop (i+1)) JbO).1 (Jp (fun k=> Jai b k) (l.drop (i+1)) JbO).2 f A)=some V:=(by simpa [Jdq] using k4);intro c hc;cases c with
    | true=>
      have hp:(A&&& k)≠0:=fun e=> by have:=bne_iff_ne.1 hc.symm;rw [JlO k2 hk,e] at this;exact this rfl
      have k5:=k6;rw [if_pos (by simp [Jdj,hp])] at k5;refine Z ?_;intro c2 hc2;by_cases h0:t=0
      ·have hc3:c2=false:=hc2.trans (by rw [h0];rfl);clear hc2;cases hc3;unfold Ja3 at k5;rw [if_pos h0] at k5;refine Z ?_;exact back (i+1,A,s+1,nx3) ⟨Dm,k2,Dm,k5⟩ Dm (Je _ _ rfl rfl (.cons _ Sf) Sf Tt Tt ⟨Rf,Rf,Rf,Rf,Lw,Lw,Tt⟩)
      ·have hc3:c2=true:=hc2.trans (bne_iff_ne.2 Dm);clear hc2;cases hc3;obtain ⟨j,j1,j2,j3,j4⟩:=hjmp t (.inl rfl) h0;unfold Ja3 at k5;rw [if_neg h0,j4] at k5;refine Z ?_;refine Ja rfl rfl (Jaq l hl h.nd j t j2 j3 h0) Y2 fun nx4=> ?_;refine Z ?_;exact back (j,A,s+1,nx4) ⟨Dm,k2,Dm,k5⟩ Dm (Je _ _ rfl rfl (.cons _ Sf) Sf Tt Tt ⟨Rf,Rf,Rf,Rf,Rf,Lw,Tt⟩)
    | false=>
      have hp:¬((A&&& k)≠0):=fun e=> by have:=of_decide_eq_false (p:=True) (by have h9:=hc.symm;rw [JlO k2 hk] at h9;rw [bne_iff_ne.2 (by omega:((A&&& k:Nat):Int)≠0)] at h9;cases h9);exact this trivial
      have k5:=k6;rw [if_neg (by simp [Jdj,hp];try omega)] at k5;refine Z ?_;intro c2 hc2;by_cases h0:f=0
      ·have hc3:c2=false:=hc2.trans (by rw [h0];rfl);clear hc2;cases hc3;unfold Ja3 at k5;rw [if_pos h0] at k5;refine Z ?_;exact back (i+1,A,s+1,nx3) ⟨Dm,k2,Dm,k5⟩ Dm (Je _ _ rfl rfl (.cons _ Sf) Sf Tt Tt ⟨Rf,Rf,Rf,Rf,Lw,Lw,Tt⟩)
      ·have hc3:c2=true:=hc2.trans (bne_iff_ne.2 Dm);clear hc2;cases hc3;obtain ⟨j,j1,j2,j3,j4⟩:=hjmp f (.inr rfl) h0;unfold Ja3 at k5;rw [if_neg h0,j4] at k5;refine Z ?_;refine Ja rfl rfl (Jaq l hl h.nd j f j2 j3 h0) Y2 fun nx4=> ?_;refine Z ?_;exact back (j,A,s+1,nx4) ⟨Dm,k2,Dm,k5⟩ Dm (Je _ _ rfl rfl (.cons _ Sf) Sf Tt Tt ⟨Rf,Rf,Rf,Rf,Rf,Lw,Tt⟩)
theorem JBC:Tryz.prog.cellsOf 102=5:=by kernel_rfl
theorem JEJ:Tryz.prog.bytesOf 102=32:=by kernel_rfl
theorem JkG (l:List Itm) (hl:l.length≤1000000000000):Tells Tryz.prog 11 [JaN l] (JaN l):=by
 refine Jc Tryz.func11 rfl rfl fun nx=> ?_
 refine Z ?_
 refine Js (fun s:Nat×Option Nat×Nat=> mk 41 [(0,JaN l),(3, .os 5 s.1 (itF l) (nmN 0 s.2.1)),(4,int s.1)] ⟨[],Jam (nmN 0 s.2.1) (s.1 * 5)++ [],s.2.2,1⟩) (fun s=> s.1≤l.length) (fun s=> l.length - s.1) ?_ ?_
 ·exact ⟨(0,none,nx),Nat.zero_le _,Je (pm:= []) _ [] rfl rfl Sf Sf Tt Tt ⟨Rf,AVle.os_nil,Y1⟩⟩
 ·rintro ⟨i,oi,nx2⟩ h3;dsimp only at h3;refine Z ?_;intro c h5;cases c
  ·have h6:=Jw h5;dsimp only at h6;obtain rfl:i=l.length:=by omega
   refine Z ?_;exact Jb rfl AVle.os_sl
  ·have h6:=Ju h5;dsimp only at h6;have hi:i < l.length:=by omega
   refine Z ?_;refine Jav 29 [] (Ef [28]) (fun _=> false) [0,1,2,3,4,5,6,7,8,9,10,11,12,13,14,15,16,17,18,19,20,21,22,23,24,25,26,27,28] Kr Kr (HB.refl _) ?_;refine Z ?_;refine ⟨⟨Dm,Dm⟩, ?_⟩;refine Z ?_;refine ⟨⟨Dm,Dm⟩, ?_⟩;refine Z ?_;refine ⟨⟨Dm,Dm⟩, ?_⟩;refine Z ?_;refine ⟨⟨Dm,Dm⟩, ?_⟩;refine Z ?_;refine ⟨⟨Dm,Dm⟩, ?_⟩;refine Z ?_;refine ⟨_,JbB (e:=102) (c:=5) (pm:= []) (n:=i) (oi:=nmN 0 oi) (sz:=5) (f:=itF l) (fun _ _ _ h=> by cases h) rfl rfl rfl (.inr ⟨_,rfl⟩) Kr Kr JBC (.inr rfl) JBC rfl (JM rfl) (by rw [JEJ];omega) Om,fun r h' hr=> ?_⟩;obtain ⟨rfl,rfl⟩:=hr;refine Z ?_;refine back (i+1,some nx2,nx2+1) Dm Dm (Et (pm:= [((0,nx2),(i+1) * 5)]) rfl rfl Tt ⟨rfl,rfl,Tt⟩ ⟨Rf,(AVle.os_fun (Jbw (fun k hk=> rfl) ?_)).trans (AVle.os_nm rfl),Jf (Jx Dm),Tt⟩);rfl
def JU:Nat→Nat→List Nat
 | 0,_=> []
 | w+1,n=> n % 256::JU w (n / 256)
theorem JnH:∀w n,(JU w n).length=w
 | 0,_=> rfl
 | w+1,n=> by unfold JU;rw [List.length_cons,JnH]
theorem JgC:∀w n,okB (JU w n)
 | 0,_=> fun x hx=> by cases hx
 | w+1,n=> fun x hx=> by
   unfold JU at hx;rcases List.mem_cons.1 hx with rfl | hx
   ·exact Nat.mod_lt _ Dc
   ·exact JgC w _ x hx
theorem Jiq:∀w n,JU (w+1) n=JU w n++ [n / 256 ^ w % 256]
 | 0,n=> by simp [JU]
 | w+1,n=> by
   rw [show JU (w+1+1) n=n % 256::JU (w+1) (n / 256) from rfl,Jiq w,show JU (w+1) n=n % 256::JU w (n / 256) from rfl,List.cons_append,Nat.div_div_eq_div_mul,Nat.pow_succ,Nat.mul_comm 256]
def JdL (r:Rec) (i:Nat):List Nat:=JU 4 r.num++JU 4 r.arch++JU 8 r.ptr++([r.a0,r.a1,r.a2,r.a3,r.a4,r.a5].take i).flatMap (JU 8)
def Jgd (r:Rec):List Nat:=JdL r 6
theorem JkH (r:Rec) {i:Nat} (h:i≤6):(JdL r i).length=16+8 * i:=by
 rcases (by omega:i=0∨i=1∨i=2∨i=3∨i=4∨i=5∨i=6) with rfl | rfl | rfl | rfl | rfl | rfl | rfl <;> rfl
theorem JwR (r:Rec) {i:Nat} (h:i < 6):JdL r (i+1)=JdL r i++JU 8 ([r.a0,r.a1,r.a2,r.a3,r.a4,r.a5].getD i 0):=by
 rcases (by omega:i=0∨i=1∨i=2∨i=3∨i=4∨i=5) with rfl | rfl | rfl | rfl | rfl | rfl <;> simp [JdL]
theorem Js1 (r:Rec):(Jgd r).length=64:=JkH r (Nat.le_refl 6)
theorem JBf (r:Rec):∀i,i≤6→okB (JdL r i):=fun i _ x hx=> by
 unfold JdL at hx
 rcases List.mem_append.1 hx with hx | hx
 ·rcases List.mem_append.1 hx with hx | hx
  ·rcases List.mem_append.1 hx with hx | hx
   ·exact JgC _ _ x hx
   ·exact JgC _ _ x hx
  ·exact JgC _ _ x hx
 ·obtain ⟨a,_,hx⟩:=List.mem_flatMap.1 hx;exact JgC _ _ x hx
theorem Jvj (r:Rec):okB (Jgd r):=JBf r 6 (Nat.le_refl 6)
theorem JBg {r:Rec} (h:r.ok) (i:Nat): [r.a0,r.a1,r.a2,r.a3,r.a4,r.a5].getD i 0 < 18446744073709551616:=by
 obtain ⟨h1,h2,h3,h4,h5,h6,h7,h8,h9⟩:=h
 match i with
 | 0=> exact h4
 | 1=> exact h5
 | 2=> exact h6
 | 3=> exact h7
 | 4=> exact h8
 | 5=> exact h9
 | n+6=> simp [List.getD]
def u8F (l:List Nat):Nat→AV:=fun k=> u8 (l.getD k 0:Nat)
theorem bR8:Tryz.prog.bytesOf 5=1:=by kernel_rfl
theorem cR8:Tryz.prog.cellsOf 5=1:=by kernel_rfl
theorem Js2 {L M:List Nat} {c s:Nat} (i:Option Nat) (h:i=some s):AVle (.os 1 (L.length+M.length) (JcO L.length (u8F L) (u8F M)) (some (c,s))) (.os 1 (L++M).length (u8F (L++M)) (nmN 0 i)):=by
 subst h
 rw [List.length_append]
 refine AVle.trans (AVle.os_fun (f':=u8F (L++M)) fun k hk=> ?_) (AVle.os_nm rfl)
 show (bif Nat.blt k L.length then u8F L k else u8F M (k - L.length))=u8F (L++M) k
 unfold u8F
 cases h:Nat.blt k L.length
 ·have:L.length≤k:=by
   rcases Nat.lt_or_ge k L.length with h' | h'
   ·have h2:Nat.blt k L.length=true:=(by simpa using h');rw [h] at h2;cases h2
   ·exact h'
  rw [show (L++M).getD k 0=M.getD (k - L.length) 0 by simp [List.getD,List.getElem?_append_right this]];rfl
 ·have:k < L.length:=by simpa using h
  rw [show (L++M).getD k 0=L.getD k 0 by simp [List.getD,List.getElem?_append_left this]];rfl
def JBD (l:List Nat) (r:AV) (h':Heap):Prop:=∃oi nx' nn',r= .os 1 l.length (u8F l) (nmN 0 oi)∧h'=⟨[],Jam (nmN 0 oi) l.length,nx',nn'⟩
theorem w8r {x:Nat} (h:x < 18446744073709551616):IntKind.u64.wrap (x:Int)=(x:Int):=by show (x:Int) % 18446744073709551616=_;omega
theorem JC2 (n i:Nat):n / 256 ^ i / 256=n / 256 ^ (i+1):=by rw [Nat.div_div_eq_div_mul,Nat.pow_succ]
theorem wr8 (n:Nat):IntKind.u8.wrap (((n % 256:Nat):Int))=((n % 256:Nat):Int):=by show ((n % 256:Nat):Int) % 256=_;omega
theorem Js3 (w n:Nat) (hw:w≤8) (hn:n < 18446744073709551616) (nx:Nat):ECall Tryz.prog 88 [u64 n,int w] ⟨[], [],nx,0⟩ (JBD (JU w n)):=by
 refine ECall.wk (Jo Tryz.func88 rfl rfl ?_)
 refine Z ?_
 refine Js (fun y:Nat×Option Nat×Nat=> mk 21 [(0,u64 (n / 256 ^ y.1:Nat)),(1,int w),(5, .os 1 y.1 (u8F (JU y.1 n)) (nmN 0 y.2.1)),(6,int y.1)] ⟨[],Jam (nmN 0 y.2.1) y.1,y.2.2,1⟩) (fun y=> y.1≤w∧(y.2.1=none→y.1=0)) (fun y=> w - y.1) ?_ ?_
 ·exact ⟨(0,none,nx),⟨Nat.zero_le _,fun _=> rfl⟩,Je (pm:= []) [] [] rfl rfl .slnil .slnil Tt Tt ⟨by rw [Nat.pow_zero,Nat.div_one];exact Rf,Rf,AVle.os_nil,Y1⟩⟩
 ·rintro ⟨i,oi,nx2⟩ ⟨h1,h2⟩;dsimp only at h1 h2;have hlen:=JnH i n;refine Z ?_;intro c g;cases c
  ·have g:=Jw g;dsimp only at g;obtain rfl:i=w:=by omega
   refine Z ?_;exact Jt rfl ⟨_,_,(AVle.of_eq (congrArg (fun k:Nat=> AV.os 1 k (u8F (JU i n)) (nmN 0 oi)) hlen.symm)),Jr (bx:= []) (pm:=Jam (nmN 0 oi) (JU i n).length) (nn:=1) [] (Jam (nmN 0 oi) i) rfl (List.nil_sublist _) Sf Tt (by rw [hlen];exact Pf),oi,nx2,1,rfl,rfl⟩
  ·have g:=Ju g;dsimp only at g;have hi:i < w:=by omega
   refine Jy ?_;refine JF (fun n=> match n with | 1=> true | _=> false) 7 ?_;refine Z ?_;refine Jee (e:=5) (c:=1) (pm:= []) (n:=i) (oi:=nmN 0 oi) (sz:=1) (f:=u8F (JU i n)) rfl rfl (.inr ⟨_,rfl⟩) Kr Kr cR8 (.inr rfl) (by rfl) ?_ (JM rfl) (by rw [bR8];omega) Om ?_
   ·show Jam (nmN 0 oi) i=_;rw [Nat.mul_one,List.append_nil]
   refine Z ?_;refine back (i+1,some nx2,nx2+1) ⟨Dm,fun h=> by cases h⟩ Dm (Je (pm:= [((0,nx2),i+1)]) [] [((1,nx2),(i+1) * 1)] rfl rfl .slnil Sf Tt ⟨rfl,Nat.mul_one _,Tt⟩ ⟨?_,Rf, ?_,Jf (Jx Dm),Tt⟩)
   ·exact AVle.of_eq (congrArg u64 (by show IntKind.u64.wrap ((n / 256 ^ i / 256:Nat):Int)=((n / 256 ^ (i+1):Nat):Int);rw [JC2];have hq:=Nat.lt_of_le_of_lt (Nat.div_le_self n (256 ^ (i+1))) hn;generalize n / 256 ^ (i+1)=q at hq⊢;show (q:Int) % 18446744073709551616=_;omega))
   ·refine (AVle.os_fun (Jbw (fun k hk=> ?_) ?_)).trans (AVle.os_nm rfl)
    ·show u8F (JU i n) k=u8F (JU (i+1) n) k;unfold u8F;rw [Jiq,show (JU i n++ [n / 256 ^ i % 256]).getD k 0=(JU i n).getD k 0 by simp [List.getD,List.getElem?_append_left (show k < (JU i n).length by omega)]]
    ·show u8 (IntKind.u8.wrap ((n / 256 ^ i % 256:Nat):Int))=u8F (JU (i+1) n) i;unfold u8F;rw [Jiq,wr8,show (JU i n++ [n / 256 ^ i % 256]).getD i 0=n / 256 ^ i % 256 by simp [List.getD,hlen]]
theorem Jir (w n:Nat) (hw:w≤8) (hn:n < 18446744073709551616) (nx:Nat):ECall Tryz.prog 46 [u64 n,int w,Ji false] ⟨[], [],nx,0⟩ (JBD (JU w n)):=by
 refine ECall.wk (Jo Tryz.func46 rfl rfl ?_)
 refine Z ?_
 refine Jg (xs:= [u64 n,int w]) [] [] 1 rfl rfl rfl rfl Y2 (Js3 w n hw hn nx) Bf Pf rfl fun r h' hq=> ?_
 obtain ⟨oi,nx',nn',rfl,rfl⟩:=hq
 refine Z ?_
 exact Jt rfl ⟨_,_,Rf,HLe.refl _,oi,nx',1,rfl,rfl⟩
theorem Js4 {ops:Array Oper} {B:List (Vl.Id×Own)} {o:Oper} {E:Env} {fo:Operand} {args:Array Operand} {tys:Array TypeId} {first caps:List AV} (nn w n:Nat) (hw:w≤8) (hn:n < 18446744073709551616) (hB:HB B E.h.bx) (hg:o.guard=none)
 (ho:o.op= .call { callee:= .value fo,args:=args,argTypes:=tys}) (hf:E.ev fo= .fn (.func 46) first caps) (hl':LeL (first++args.toList.map E.ev++caps) [u64 n,int w,Ji false]):
 Eff Tryz.prog ops B o E fun r h'=> ∃oi nx',r= .os 1 (JU w n).length (u8F (JU w n)) (nmN nn oi)∧h'=⟨E.h.bx,Jam (nmN nn oi) (JU w n).length++E.h.pm,nx',nn+1⟩:=
 JlP hg ho hf ((ECall.frame (h:=E.h) (Jir w n hw hn E.h.nx) E.h.bx E.h.pm Si Si rfl).args hl') fun r h' hq=> by
  obtain ⟨h1',⟨oi,nx',nn',rfl,rfl⟩,rfl⟩:=hq;refine ⟨.os 1 (JU w n).length (u8F (JU w n)) (nmN nn oi),⟨E.h.bx,Jam (nmN nn oi) (JU w n).length++E.h.pm,nx',nn+1⟩, ?_,⟨by simp, ?_,rfl⟩,⟨oi,nx',rfl,rfl⟩,hB⟩
  ·cases oi
   ·exact Rf
   ·exact AVle.os_nm rfl
  ·cases oi <;> simp [Jam,nmN]
theorem JwS {o:Oper} {E:Env} {p:Operand} {i:Nat} {r:Rec} (ho:o.op= .load 29 p) (hp:E.ev p= .rp (((Jfq r).drop 3).drop (Int.toNat (i:Int) * Tryz.prog.cellsOf 29))) (h:i < 6):Vl.Yields Tryz.prog o E (u64 ([r.a0,r.a1,r.a2,r.a3,r.a4,r.a5].getD i 0:Nat)):=by
 rcases (by omega:i=0∨i=1∨i=2∨i=3∨i=4∨i=5) with rfl | rfl | rfl | rfl | rfl | rfl
 all_goals exact JbA (C:=none) (by rw [ho];show JdG _ _ _ _=_;rw [hp];rfl) trivial
theorem JkI (r:Rec) (hr:r.ok):Tells Tryz.prog 15 [Jja r,Ji false] (JfT (Jgd r)):=by
 obtain ⟨h1,h2,h3,h4,h5,h6,h7,h8,h9⟩:=id hr
 refine Jc Tryz.func15 rfl rfl fun nx=> ?_
 refine Z ?_
 refine Jbl (n:=37) (nx:=nx+1) (nn:=1) (pm:= []) (bx:= []) (L:= [(1,Ji false),(2, .rp (Jfq r))]) (df:=some []) [((0,nx), .c (Jfq r))] rfl rfl rfl (List.Perm.refl _) Sf ⟨Frz.refl _,Frz.bp (.head _) rfl,Tt⟩ ?_
 unfold Jfq
 refine Jav 11 [] (Ef [4,9,10]) (fun _=> false) [0,1,2,3,5,6,7,8,4,9,10] Kr Kr (fun _ _ _ h=> by cases h) ?_
 refine Z ?_
 refine ⟨_,Js4 2 4 r.num Dc Om (fun _ _ _ h=> by cases h) rfl rfl rfl ⟨AVle.of_eq (congrArg u64 (w8r Om)),Y2⟩,fun r' h' hr=> ?_⟩
 obtain ⟨oi,nx1,rfl,rfl⟩:=hr
 refine Z ?_
 refine ⟨_,Js4 3 4 r.arch Dc Om (fun _ _ _ h=> by cases h) rfl rfl rfl ⟨AVle.of_eq (congrArg u64 (w8r Om)),Y2⟩,fun r' h' hr=> ?_⟩
 obtain ⟨oj,nx2,rfl,rfl⟩:=hr
 refine Z ?_
 refine ⟨_,JiX (e:=5) (oi:=nmN 2 oi) (n:=4) (m:=4) (f:=u8F (JU 4 r.num)) (f':=u8F (JU 4 r.arch)) (sz:=1) (szx:=1) (fun _ _ _ h=> by cases h) rfl rfl rfl (.inr ⟨nmN 3 oj,rfl⟩) Kr Kr (.inr cR8.symm) (.inr cR8.symm) (fun i hi=> ?_) (fun _ _=> rfl) (fun _=> by rw [bR8];omega) (fun _=> by omega),fun r' h' hr=> ?_⟩
 ·rw [cR8];cases oi with
  | none=> cases hi
  | some s=> cases hi;cases oj <;> rfl
 rcases hr with ⟨h0,_⟩ | ⟨_,rfl,rfl⟩
 ·exact absurd h0 Om
 refine Jy ?_
 refine AW.le (Je (n:=37) (nn:=1) (bx:= []) (pm:= [((0,nx2),8)]) (L:= [(1,Ji false),(2, .rp (Jfq r)),(5, .os 1 (JU 4 r.num++JU 4 r.arch).length (u8F (JU 4 r.num++JU 4 r.arch)) (some (0,nx2)))]) [] [((4,nx2),(4+4) * Tryz.prog.cellsOf 5)] rfl rfl .slnil (.cons_cons _ (List.nil_sublist _)) Tt ⟨rfl,by rw [cR8],Tt⟩ ⟨Rf,Rf,by (conv=> arg 1;whnf);exact Js2 (L:=JU 4 r.num) (M:=JU 4 r.arch) (some nx2) rfl,Tt⟩) ?_
 unfold Jfq
 refine Jy ?_
 refine JF (fun n=> match n with | 1=> true | _=> false) 7 ?_
 refine Z ?_
 refine Jg (xs:= [u64 r.ptr,int (8:Nat),Ji false]) [] [((0,nx2),8)] 1 rfl rfl rfl rfl Y3 (Jir 8 r.ptr Dc h3 (nx2+1)) Bf Pf rfl fun r' h' hq=> ?_
 obtain ⟨ok,nx3,nn3,rfl,rfl⟩:=hq
 refine Z ?_
 refine AOp.kp (JbF (e:=5) (oi:=some (0,nx2)) (n:=8) (m:=8) (f:=u8F (JU 4 r.num++JU 4 r.arch)) (f':=u8F (JU 8 r.ptr)) (sz:=1) (szx:=1) rfl rfl (.inr ⟨nmN 0 ok,rfl⟩) Kr Kr (.inr cR8.symm) (.inr cR8.symm) (fun i hi=> ?_) (fun _ _=> rfl) (fun _=> by rw [bR8];omega) (fun _=> by omega) (fun h=> by omega) (fun _=> ?_))
 ·rw [cR8];cases hi;rfl
 refine Z ?_
 refine Js (fun y:Nat×Nat×Nat=> mk 37 [(1,Ji false),(2, .rp [u32 r.num,u32 r.arch,u64 r.ptr,u64 r.a0,u64 r.a1,u64 r.a2,u64 r.a3,u64 r.a4,u64 r.a5]),(5, .os 1 (JdL r y.1).length (u8F (JdL r y.1)) (some (0,y.2.1))),(6,int y.1)] ⟨[], [((0,y.2.1),(JdL r y.1).length)],y.2.2,1⟩) (fun y=> y.1≤6) (fun y=> 6 - y.1) ?_ ?_
 ·refine ⟨(0,nx3,nx3+1),Nat.zero_le _,Je (pm:= [((0,nx3),16)]) [] [((1,nx3),(8+8) * Tryz.prog.cellsOf 5)] rfl rfl .slnil (.cons_cons _ (List.nil_sublist _)) Tt ⟨rfl,by rw [cR8],Tt⟩ ⟨Rf,Rf, ?_,Y1⟩⟩
  (conv=> arg 1;whnf)
  exact Js2 (L:=JU 4 r.num++JU 4 r.arch) (M:=JU 8 r.ptr) (some nx3) rfl
 ·rintro ⟨i,s,nx4⟩ hi6;dsimp only at hi6;refine Z ?_;intro c g;cases c
  ·have g:=Jw g;dsimp only at g;obtain rfl:i=6:=by omega
   refine Z ?_;exact Jb rfl AVle.os_sl
  ·have g:=Ju g;dsimp only at g;have hi:i < 6:=by omega
   have hlen:=JkH r (Nat.le_of_lt hi);refine Jy ?_;refine JF (fun n=> match n with | 1=> true | 4=> true | _=> false) 9 ?_;refine Z ?_;refine ⟨⟨Om,Om, ?_⟩, ?_⟩
   ·rw [show Tryz.prog.cellsOf 29=1 by kernel_rfl,Nat.mul_one];show Int.toNat (i:Int)≤6;omega
   refine Z ?_;refine AOp.of_yields (JwS rfl rfl hi) ?_;refine Z ?_;refine Jg (xs:= [u64 ([r.a0,r.a1,r.a2,r.a3,r.a4,r.a5].getD i 0:Nat),int (8:Nat),Ji false]) [] [((0,s),(JdL r i).length)] 1 rfl rfl rfl rfl Y3 (Jir 8 _ Dc (JBg hr i) nx4) Bf Pf rfl fun r' h' hq=> ?_;obtain ⟨ok,nx5,nn5,rfl,rfl⟩:=hq;refine Z ?_;refine AOp.kp (JbF (e:=5) (oi:=some (0,s)) (n:=(JdL r i).length) (m:=8) (f:=u8F (JdL r i)) (f':=u8F (JU 8 ([r.a0,r.a1,r.a2,r.a3,r.a4,r.a5].getD i 0))) (sz:=1) (szx:=1) rfl rfl (.inr ⟨nmN 0 ok,rfl⟩) Kr Kr (.inr cR8.symm) (.inr cR8.symm) (fun i hi=> ?_) (fun _ _=> rfl) (fun _=> by rw [bR8];omega) (fun _=> by omega) (fun h=> by omega) (fun _=> ?_))
   ·rw [cR8,Nat.mul_one];cases hi;rfl
   refine Z ?_;refine back (i+1,nx5,nx5+1) Dm Dm (Je (pm:= [((0,nx5),(JdL r (i+1)).length)]) [] [((1,nx5),((JdL r i).length+8) * Tryz.prog.cellsOf 5)] rfl rfl .slnil (.cons_cons _ (List.nil_sublist _)) Tt ⟨rfl,by rw [cR8,JkH r hi,hlen];omega,Tt⟩ ⟨Rf,Rf, ?_,Jf (Jx Dm),Tt⟩);dsimp only;rw [JwR r hi]
   (conv=> arg 1;whnf)
   exact Js2 (L:=JdL r i) (M:=JU 8 ([r.a0,r.a1,r.a2,r.a3,r.a4,r.a5].getD i 0)) (some nx5) rfl
theorem Jbt {b:List Nat} {k m:Nat} (h0:b.getD k 0=m % 256) (h1:b.getD (k+1) 0=m / 256 % 256) (h2:b.getD (k+2) 0=m / 256 / 256 % 256) (h3:b.getD (k+3) 0=m / 256 / 256 / 256 % 256):Jai b (k:Nat)=m % 4294967296:=by
 show ((((0 * 256+b.getD (k+4 - 1 - 0) 0) * 256+b.getD (k+4 - 1 - 1) 0) * 256+b.getD (k+4 - 1 - 2) 0) * 256+b.getD (k+4 - 1 - 3) 0)=_
 rw [show k+4 - 1 - 0=k+3 by omega,show k+4 - 1 - 1=k+2 by omega,show k+4 - 1 - 2=k+1 by omega,show k+4 - 1 - 3=k by omega,h0,h1,h2,h3]
 omega
theorem Jg4 {r:Rec} (hr:r.ok):Words (fun k=> Jai (Jgd r) (k:Nat)) r:=by
 obtain ⟨g1,g2,g3,g4,g5,g6,g7,g8,g9⟩:=hr
 have hi:∀m:Nat,m / 256 / 256 / 256 / 256=m / 4294967296:=fun m=> by omega
 have hd:∀m:Nat,m < 18446744073709551616→m / 4294967296 % 4294967296=m / 4294967296:=fun m h=> by omega
 refine ⟨?_, ?_,fun i h=> ?_,fun i h=> ?_⟩
 ·exact (Jbt (m:=r.num) rfl rfl rfl rfl).trans (Nat.mod_eq_of_lt g1)
 ·exact (Jbt (m:=r.arch) rfl rfl rfl rfl).trans (Nat.mod_eq_of_lt g2)
 ·rcases (by omega:i=0∨i=1∨i=2∨i=3∨i=4∨i=5) with rfl | rfl | rfl | rfl | rfl | rfl
  ·exact Jbt (m:=r.a0) rfl rfl rfl rfl
  ·exact Jbt (m:=r.a1) rfl rfl rfl rfl
  ·exact Jbt (m:=r.a2) rfl rfl rfl rfl
  ·exact Jbt (m:=r.a3) rfl rfl rfl rfl
  ·exact Jbt (m:=r.a4) rfl rfl rfl rfl
  ·exact Jbt (m:=r.a5) rfl rfl rfl rfl
 ·rcases (by omega:i=0∨i=1∨i=2∨i=3∨i=4∨i=5) with rfl | rfl | rfl | rfl | rfl | rfl
  ·exact (Jbt (m:=r.a0 / 256 / 256 / 256 / 256) rfl rfl rfl rfl).trans (by rw [hi];exact hd _ g4)
  ·exact (Jbt (m:=r.a1 / 256 / 256 / 256 / 256) rfl rfl rfl rfl).trans (by rw [hi];exact hd _ g5)
  ·exact (Jbt (m:=r.a2 / 256 / 256 / 256 / 256) rfl rfl rfl rfl).trans (by rw [hi];exact hd _ g6)
  ·exact (Jbt (m:=r.a3 / 256 / 256 / 256 / 256) rfl rfl rfl rfl).trans (by rw [hi];exact hd _ g7)
  ·exact (Jbt (m:=r.a4 / 256 / 256 / 256 / 256) rfl rfl rfl rfl).trans (by rw [hi];exact hd _ g8)
  ·exact (Jbt (m:=r.a5 / 256 / 256 / 256 / 256) rfl rfl rfl rfl).trans (by rw [hi];exact hd _ g9)
def z20:List Nat:=List.replicate 64 0
theorem JEc:JiT Tryz.prog 5 z20.length=some (z20.map fun k:Nat=> u8 k):=by kernel_rfl
theorem JC3:(Tryz.prog.bytesOf 5:Int) * (z20.length:Nat)≤281474976710656:=by
 rw [show Tryz.prog.bytesOf 5=1 by kernel_rfl];decide
theorem JEd:okB z20:=fun x hx=> by
 obtain rfl:=List.eq_of_mem_replicate hx
 decide
def pEx:Plan:=⟨2147418112,false,fun _=> [],fun _=> []⟩
theorem Js5 (a:Nat):partsP pEx a=if a=2 then [.sub 102 0, .sub 117 1] else []:=by
 unfold partsP partsR
 by_cases h:a=2
 ·rw [if_pos h];subst h;exact List.mergeSort_of_pairwise Dc
 ·rw [if_neg h];exact List.mergeSort_nil
theorem JBE (a:Nat):((partsP pEx a).map Prt.num).Pairwise (· < ·):=by
 rw [Js5]
 by_cases h:a=2
 ·rw [if_pos h];decide
 ·rw [if_neg h];exact .nil
theorem plan_ex:PlanW pEx where
 s:=⟨fun _=> Nat.zero_le _,(fun _ _ h=> by cases h),(fun _ _ h=> by cases h),fun _=> Nat.zero_le _⟩
 conds:=fun _ _ h=> by cases h
 up:=fun a _=> JBE a
 num:=fun a _ x hx=> by
  unfold partsR at hx;rcases List.mem_append.1 hx with hx | hx
  ·cases hx
  ·split at hx
   ·rcases List.mem_cons.1 hx with rfl | hx
    ·show 102 < _;decide
    ·rw [List.mem_singleton.1 hx];show 117 < _;decide
   ·cases hx
 sub:=fun _=> .nil
theorem JnI (W:Nat→Nat):ItsOk (JaI pEx)∧(Jp W (JaI pEx) JbO).1 0=some (Jd9 W (fun _ _=> true) pEx):=
 Jsl ⟨fun _=> .nil,fun a _=> JBE a,fun _ _ _ h=> by cases h⟩ rfl fun _ _ h=> by cases h
theorem Jk8 {P:Plan} (hP:PlanS P):(JaI P).length≤1000000000000:=(Jsp hP).1
def rEx:Rec:=⟨0,3221225534,0,0,0,0,0,0,0⟩
theorem Js6:rEx.ok:=by unfold Rec.ok rEx;decide
theorem JEe {W:Nat→Nat} (T:Nat→Cnd→Bool) (h4:W 4=3221225534) (h0:W 0=0):Jd9 W T pEx=2147418112:=by
 unfold Jd9
 rw [if_pos h4]
 unfold Jjk
 rw [if_pos rfl,h0]
 unfold Job Jeq
 rw [if_neg Dc,if_neg Dc,Js5,if_neg Dc];rfl
theorem JEK {W:Nat→Nat} (T:Nat→Cnd→Bool) (h4:W 4=0):Jd9 W T pEx=2147483648:=by
 unfold Jd9
 rw [h4];rfl
theorem JC4:Jd9 (fun k:Nat=> Jai (Jgd rEx) (k:Nat)) (fun _ _=> true) pEx=2147418112:=
 JEe (W:=fun k:Nat=> Jai (Jgd rEx) (k:Nat)) _ (show Jai (Jgd rEx) ((4:Nat):Int)=rEx.arch from (Jg4 Js6).arch) (show Jai (Jgd rEx) ((0:Nat):Int)=rEx.num from (Jg4 Js6).num)
theorem JEf:Jd9 (fun k:Nat=> Jai z20 (k:Nat)) (fun _ _=> true) pEx=2147483648:=
 JEK (W:=fun k:Nat=> Jai z20 (k:Nat)) _ (show Jai z20 ((4:Nat):Int)=0 by kernel_rfl)
theorem JkJ:Tells Tryz.prog 10 [] (Ji true):=by
 have h1:=JjF (JaI pEx) (Jk8 plan_ex.s) (Jgd rEx) (Jvj rEx) (Js1 rEx) (JnI (fun k=> Jai (Jgd rEx) (k:Nat))).1 _ (JnI (fun k=> Jai (Jgd rEx) (k:Nat))).2
 have h2:=JjF (JaI pEx) (Jk8 plan_ex.s) z20 JEd rfl (JnI (fun k=> Jai z20 (k:Nat))).1 _ (JnI (fun k=> Jai z20 (k:Nat))).2
 rw [JC4] at h1
 rw [JEf] at h2
 refine Jc Tryz.func10 rfl rfl fun nx=> ?_
 refine Z ?_
 refine Ja rfl rfl (JnG pEx plan_ex) ⟨AVle.ags ⟨Rf,Rf,AVle.os_sl0,AVle.os_sl0,AVle.os_sl0,AVle.os_sl0,AVle.os_sl0,AVle.os_sl0,AVle.os_sl0,Tt⟩,Tt⟩ fun nx1=> ?_
 refine Z ?_
 refine Ja rfl rfl (JkG (JaI pEx) (Jk8 plan_ex.s)) Y1 fun nx2=> ?_
 generalize JaI pEx = L at *
 refine Z ?_
 refine Ja rfl rfl (JkI rEx Js6) Y2 fun nx3=> ?_
 refine Z ?_
 refine JjZ rfl rfl h1 Y2 fun r nx4 hr=> ?_
 obtain ⟨s1,rfl⟩:=hr
 refine Jy ?_
 refine JF (Ef [8]) 10 ?_
 refine Z ?_
 refine Jxc (xs:=z20) (f:=fun k:Nat=> u8 k) rfl Tryz.underlying59 rfl rfl JEc (fun _=> rfl) JC3 Dc ?_
 refine Z ?_
 refine JjZ rfl rfl h2 Y2 fun r nx5 hr=> ?_
 obtain ⟨s2,rfl⟩:=hr
 refine Z ?_
 exact Jb rfl Rf
def JBh (p:Pol) (l:List TRow):AV:=if (Jaf p l).2≠0 then .tup [Jct JqA,int (Jaf p l).1,int (Jaf p l).2] else match p.rules.findIdx? (Jeb l) with
 | some i=> .tup [Jct JqA,int i,int 17]
 | none=> .tup [Jct (J8 p l),int 0,int 0]
def Jg5:List AV:= [u32 0,Ji false, .os 0 0 (fun _=> .any) none, .os 0 0 (fun _=> .any) none, .os 0 0 (fun _=> .any) none, .os 0 0 (fun _=> .any) none, .os 0 0 (fun _=> .any) none, .os 0 0 (fun _=> .any) none, .os 0 0 (fun _=> .any) none]
theorem Js7:AVle (.ag [u32 0,Ji false, .os 0 0 (fun _=> .any) none, .os 0 0 (fun _=> .any) none, .os 0 0 (fun _=> .any) none, .os 0 0 (fun _=> .any) none, .os 0 0 (fun _=> .any) none, .os 0 0 (fun _=> .any) none, .os 0 0 (fun _=> .any) none]) (Jct JqA):=
 AVle.ags ⟨Rf,Rf,AVle.os_sl0,AVle.os_sl0,AVle.os_sl0,AVle.os_sl0,AVle.os_sl0,AVle.os_sl0,AVle.os_sl0,Tt⟩
def LpT (nx nx4:Nat) (l:List TRow) (e:List (Nat×AV)):List (Nat×AV):= [(1,JS l),(4, .bp (2,nx+1) 0),(5,int 0),(6,int 0),(11, .bp (0,nx4) 0),(13, .bp (1,nx4+1) 0),(14, .fn (.func 21) [] [.bp (0,nx4) 0, .bp (1,nx4+1) 0])]++e
def LpB (nx nx4:Nat) (p:Pol) (st:Nat→J9):List (Vl.Id×Own):= [((2,nx+1), .c Jg5),((1,nx4+1), .c (JbJ (JX (Jh p).dflt) (Jh p).x32 st)),((0,nx4), .c [int (Jh p).dflt.1,int (Jh p).dflt.2,Ji (Jh p).x32,Jak (Jh p).rules])]++Jbv st
theorem JBi {α:Type} {a b c:α} {t:List α}:(c::a::b::t).Perm (a::b::c::t):=(List.Perm.swap a c _).trans ((List.Perm.swap b c _).cons a)
theorem Jvk {k:Nat} (hk:k < 7) {st:Nat→J9} {R:List (Nat×AV)} {s cap:Nat} {tl:List AV} {F:List (Vl.Id×Own)} (h:st k=(R,some (s,cap,tl))):((F++Jah k st)++ [((10+k,s),Own.c (JC R++tl))]).Perm (F++Jbv st):=by
 have hp:=JhH hk st
 rw [h] at hp
 rw [List.append_assoc]
 exact (hp.trans List.perm_append_comm).symm.append_left F
theorem JBj {k:Nat} (hk:k < 7) {st:Nat→J9} {R:List (Nat×AV)} {s cap:Nat} {tl:List AV} {F:List (Vl.Id×Own)}:((F++Jah k st)++ [((10+k,s),Own.c (JC R++tl))]).Perm (F++Jbv (JaL st k (R,some (s,cap,tl)))):=by
 have hp:=Jmf hk st (R,some (s,cap,tl))
 rw [List.append_assoc]
 exact (hp.trans List.perm_append_comm).symm.append_left F
theorem JBk {nx nx4:Nat} {p:Pol} {st:Nat→J9}:(LpB nx nx4 p st).Perm (([((1,nx4+1),Own.c (JbJ (JX (Jh p).dflt) (Jh p).x32 st)),((0,nx4),Own.c [int (Jh p).dflt.1,int (Jh p).dflt.2,Ji (Jh p).x32,Jak (Jh p).rules])]++Jbv st)++ [((2,nx+1),Own.c Jg5)]):=List.perm_append_comm (l₁:= [((2,nx+1),Own.c Jg5)]) (l₂:=([((1,nx4+1),Own.c (JbJ (JX (Jh p).dflt) (Jh p).x32 st)),((0,nx4),Own.c [int (Jh p).dflt.1,int (Jh p).dflt.2,Ji (Jh p).x32,Jak (Jh p).rules])]++Jbv st))
def lpH (nx nx4:Nat) (p:Pol) (cs:List AV):List (Vl.Id×Own):= [((2,nx+1), .c Jg5),((1,nx4+1), .c cs),((0,nx4), .c [int (Jh p).dflt.1,int (Jh p).dflt.2,Ji (Jh p).x32,Jak (Jh p).rules])]
theorem JnJ {nx nx4:Nat} {p:Pol} {cs cs':List AV} {R R':List (Vl.Id×Own)} (h:OwnLe (.c cs) (.c cs')) (hR:BxLe R R'):BxLe (lpH nx nx4 p cs++R) (lpH nx nx4 p cs'++R'):=⟨rfl,OwnLe.refl _,rfl,h,rfl,OwnLe.refl _,hR⟩
theorem Jk9 {nx nx4:Nat} {p:Pol} {cs cs':List AV} {O:List (Vl.Id×Own)} {i j:Vl.Id} {x:Own} (h:OwnLe (.c cs) (.c cs')) (e:i.2=j.2):BxLe ((lpH nx nx4 p cs++O)++ [(i,x)]) ((lpH nx nx4 p cs'++O)++ [(j,x)]):=⟨rfl,OwnLe.refl _,rfl,h,rfl,OwnLe.refl _,Jkx (OwnLe.refl _) e O⟩
theorem Jvl {k:Nat} (hk:k < 7) {n nx nn s cap:Nat} {L:List (Nat×AV)} {F:List (Vl.Id×Own)} {st:Nat→J9} {D:List (Nat×AV)} {tl:List AV} {df:Option (List DA)}:ELe (mk n L ⟨(F++Jah k st)++ [((10+k,s),Own.c (JC D++tl))], [],nx,nn⟩ df) (mk n L ⟨F++Jbv (JaL st k (D,some (s,cap,tl))), [],nx,nn⟩ df):=
 JdX (E:=mk n L ⟨(F++Jah k st)++ [((10+k,s),Own.c (JC D++tl))], [],nx,nn⟩ df) (h':=⟨F++Jbv (JaL st k (D,some (s,cap,tl))), [],nx,nn⟩) ⟨(JBj hk).symm.map _, .refl _,rfl⟩
theorem Js8:∀l:List PEnt,JC (l.map Jem)=l.flatMap fun e=> [u32 (e.num:Nat),J6 e.rules]
 | []=> rfl
 | e::l=> by
   show _::_::JC (l.map Jem)=_::_::_;rw [Js8 l];rfl
theorem Js9:∀l:List PSub,JC (l.map Jby)=l.flatMap fun e=> [u32 (e.num:Nat),u32 (e.code:Nat)]
 | []=> rfl
 | e::l=> by
   show _::_::JC (l.map Jby)=_::_::_;rw [Js9 l];rfl
instance:Inhabited PEnt:=⟨ent0⟩
instance:Inhabited PSub:=⟨sub0⟩
theorem JiL {bs:List (Nat×Own)} {nm:Nat}:∀ {r:J9} {l:List PEnt},Jbs r→r.1=l.map Jem→(∀b∈JbW nm r,((b.1.2,b.2))∈bs)→Frz bs (JaF nm r) (JK 2 Ja2 ent0 l)
 | (R,none),l,hok,h,_=> by
   have hok:R= []:=hok;have h:R=l.map Jem:=h;obtain rfl:l= []:=List.map_eq_nil_iff.1 (h.symm.trans hok);exact Frz.of_le AVle.os_sl0
 | (R,some (s,cap,tl)),l,hok,h,hm=> by
   have h:R=l.map Jem:=h;subst h;have hm:=hm _ (.head _);have hk:=hok.1;rw [List.length_map] at hk;exact Jhr (E:=fun e:PEnt=> [u32 (e.num:Nat),J6 e.rules]) (fun _=> rfl) (fun _=> rfl) (List.length_map _).symm (by unfold Jas;rw [← Js8];exact hm) (by rw [List.length_map];exact hk)
theorem Jvm {bs:List (Nat×Own)} {nm:Nat}:∀ {r:J9} {l:List PSub},Jbs r→r.1=l.map Jby→(∀b∈JbW nm r,((b.1.2,b.2))∈bs)→Frz bs (JaF nm r) (JK 2 JhE sub0 l)
 | (R,none),l,hok,h,_=> by
   have hok:R= []:=hok;have h:R=l.map Jby:=h;obtain rfl:l= []:=List.map_eq_nil_iff.1 (h.symm.trans hok);exact Frz.of_le AVle.os_sl0
 | (R,some (s,cap,tl)),l,hok,h,hm=> by
   have h:R=l.map Jby:=h;subst h;have hm:=hm _ (.head _);have hk:=hok.1;rw [List.length_map] at hk;exact Jhr (E:=fun e:PSub=> [u32 (e.num:Nat),u32 (e.code:Nat)]) (fun _=> rfl) (fun _=> rfl) (List.length_map _).symm (by unfold Jas;rw [← Js9];exact hm) (by rw [List.length_map];exact hk)
theorem JhP {F:List (Vl.Id×Own)} {st:Nat→J9} {j:Nat} (hj:j < 7):∀b∈JbW (10+j) (st j),((b.1.2,b.2))∈(F++Jbv st).map fun p=> (p.1.2,p.2):=fun b hb=>
 List.mem_map.2 ⟨b,List.mem_append.2 (.inr (List.mem_flatMap.2 ⟨j,List.mem_range.2 hj,hb⟩)),rfl⟩
theorem JBl {i:Nat} {L:List Rul} {r:Rul} (h:i+L.length < 1000000):IntKind.i64.wrap (((i+L.length:Nat):Int)+1)=((i+(L++ [r]).length:Nat):Int):=by
 rw [List.length_append,List.length_singleton,← Nat.add_assoc];exact Jx Om
theorem JC5 {L:List Rul} {r:Rul}:((L.map JW).length+1) * 2=((L++ [r]).map JW).length * 2:=by simp
theorem JEg {L:List Rul} {r:Rul} {f':Nat→AV} {a b s:Nat} (hf:f' 0=Jer (JW r)):AVle (.os 2 ((L.map JW).length+1) (JcO (L.map JW).length (JdK (L.map JW)) f') (some (a,s))) (.os 2 ((L++ [r]).map JW).length (JdK ((L++ [r]).map JW)) (some (b,s))):=by
 rw [List.map_append];exact Jf6 (e:=Jer) hf rfl
theorem Jta (p:Pol) (l:List TRow) (hp:p.ok) (hp2:∀r∈p.rules,r.conds.length≤12∧r.name.size≤1000000) (hl:l.length≤1000000) (hn:∀r∈l,r.name.size≤maxLen):Tells Tryz.prog 7 [JcT p,JS l] (JBh p l):=by
 have hV:=JsC p l hp hp2 hl hn
 unfold JBh
 by_cases hv:(Jaf p l).2=0
 ·rw [if_neg (fun h=> h hv)];have hE:=Joi p l (by have:=(JcV (JaC.1 hv).1).1;omega) hl (JgV (JaC.1 hv).2.1);unfold JAF at hE;rw [hv] at hV;generalize (Jaf p l).1=v1 at hV;cases hx:p.rules.findIdx? (Jeb l) with
  | some i=>
    rw [hx] at hE;refine Jc Tryz.func7 rfl rfl fun nx=> ?_;refine Z ?_;refine Ja rfl rfl hV Y2 fun nx2=> ?_;refine Z ?_;refine Ja rfl rfl hE Y2 fun nx3=> ?_;refine Z ?_;exact Jk rfl ⟨rfl,Tt⟩ (AVle.tups (cs:= [_,_,_]) ⟨Js7,Y2⟩)
  | none=>
    rw [hx] at hE;refine Jc Tryz.func7 rfl rfl fun nx=> ?_;refine Z ?_;refine Ja rfl rfl hV Y2 fun nx2=> ?_;refine Z ?_;refine Ja rfl rfl hE Y2 fun nx3=> ?_;refine Z ?_;have hN:=Jqb p hp;unfold Jqx at hN;rw [if_pos (JaC.1 hv).1] at hN;have hnr:=Jwh (JaC.1 hv).1;have hcd:=JuI p.dflt (JfK (JaC.1 hv).1).1;refine Ja rfl rfl hN Y1 fun nx4=> ?_;refine Z ?_;have hc18:=Jly (Jh p).dflt (JfK hnr).1;refine Jav 7 [((2,nx4), .c [int (Jh p).dflt.1,int (Jh p).dflt.2,Ji (Jh p).x32,Jak (Jh p).rules]),((1,nx+1), .c Jg5),((0,nx), .c [int p.dflt.1,int p.dflt.2,Ji p.x32,Jak p.rules])] (Ef [6]) (Ef [2]) [0,1,2,3,4,5,6] Kr Kr (HB.refl _) ?_;refine Z ?_;refine ⟨_,J2 rfl rfl rfl hc18 Y1 (NoId.v _), ?_⟩;refine Z ?_;refine ⟨_,JoK (cs:=Jg5) rfl rfl Kr (HB.cons rfl (HB.cons rfl (HB.one rfl))),fun r h' hr=> ?_⟩;obtain ⟨rfl,rfl⟩:=hr;refine Z ?_;refine Jbj (fun y:(Nat→J9)×Nat=> mk 131 (LpT nx nx4 l []) ⟨LpB nx nx4 p y.1, [],y.2,20⟩) (fun y=> LpI p l (Jh p).rules.length y.1) ?_ ?_
    ·refine Js (fun y:Nat×(Nat→J9)×Nat=> mk 131 (LpT nx nx4 l [(15,int y.1)]) ⟨LpB nx nx4 p y.2.1, [],y.2.2,20⟩) (fun y=> LpI p l y.1 y.2.1) (fun y=> (Jh p).rules.length - y.1) ?_ ?_
     ·exact ⟨(0,fun _=> ([],none),nx4+2),JEE p l,JaK (pm:= []) (bx:= [((2,nx+1), .c Jg5),((1,nx4+1), .c (JbJ (JX (Jh p).dflt) (Jh p).x32 fun _=> ([],none))),((0,nx4), .c [int (Jh p).dflt.1,int (Jh p).dflt.2,Ji (Jh p).x32,Jak (Jh p).rules])]) (L:= [(1,JS l),(4, .bp (2,nx+1) 0),(5,int 0),(6,int 0),(11, .bp (0,nx4) 0),(13, .bp (1,nx4+1) 0),(14, .fn (.func 21) [] [.bp (0,nx4) 0, .bp (1,nx4+1) 0]),(15,int (0:Nat))]) _ _ [] rfl rfl JBi (.cons_cons _ (.cons_cons _ (.cons_cons _ (.cons _ .slnil)))) Sf ⟨rfl,OwnLe.refl _,rfl,OwnLe.refl _,rfl,OwnLe.refl _,Tt⟩ Tt ⟨Rf,AVle.bp_nm rfl,Rf,Rf,AVle.bp_nm rfl,AVle.bp_nm rfl,AVle.fn_caps (cs:= [.bp (2,nx4) 0, .bp (3,nx4+1) 0]) (ds:= [.bp (0,nx4) 0, .bp (1,nx4+1) 0]) ⟨AVle.bp_nm rfl,AVle.bp_nm rfl,Tt⟩,Y1⟩⟩
     ·rintro ⟨i,st,nx5⟩ hI;refine Z ?_;intro c g;cases c
      ·have g:=Jw g;try dsimp only at g
       have hi:i=(Jh p).rules.length:=(by have:=hI.1;dsimp only at this;omega);subst hi;refine Z ?_;exact ⟨(st,nx5),hI,Et rfl rfl Bf Tt Y7⟩
      ·have g:=Ju g;try dsimp only at g
       have hi:i < (Jh p).rules.length:=(by omega);refine Z ?_;refine ⟨Bd, ?_⟩;refine Z ?_;refine Jbj (fun y:List Rul×Option Nat×Nat=> mk 131 (LpT nx nx4 l [(15,int (i+y.1.length:Nat)),(16,JA ((Jh p).rules.getD i Jn).name),(17, .os 2 (y.1.map JW).length (JdK (y.1.map JW)) (nmd y.2.1))]) ⟨LpB nx nx4 p st,Jam (nmd y.2.1) ((y.1.map JW).length * 2),y.2.2,20⟩) (fun y=> y.1=Jc0 ((Jh p).rules.getD i Jn).name ((Jh p).rules.drop i)) ?_ ?_
       ·refine Js (fun y:List Rul×Option Nat×Nat=> mk 131 (LpT nx nx4 l [(15,int (i+y.1.length:Nat)),(16,JA ((Jh p).rules.getD i Jn).name),(17, .os 2 (y.1.map JW).length (JdK (y.1.map JW)) (nmd y.2.1))]) ⟨LpB nx nx4 p st,Jam (nmd y.2.1) ((y.1.map JW).length * 2),y.2.2,20⟩)
         (fun y=> y.1++Jc0 ((Jh p).rules.getD i Jn).name ((Jh p).rules.drop (i+y.1.length))=Jc0 ((Jh p).rules.getD i Jn).name ((Jh p).rules.drop i)∧i+y.1.length≤(Jh p).rules.length∧(y.2.1=none→y.1= [])) (fun y=> (Jh p).rules.length - (i+y.1.length)) ?_ ?_
        ·exact ⟨([],none,nx5),⟨rfl,Nat.le_of_lt hi,fun _=> rfl⟩,Je (pm:= []) (L:= [(1,JS l),(4, .bp (2,nx+1) 0),(5,int 0),(6,int 0),(11, .bp (0,nx4) 0),(13, .bp (1,nx4+1) 0),(14, .fn (.func 21) [] [.bp (0,nx4) 0, .bp (1,nx4+1) 0]),(15,int (i:Nat)),(16,JA ((Jh p).rules.getD i Jn).name),(17, .os 2 0 (JdK []) none)]) _ [] rfl rfl Sf Sf Bf Tt ⟨Rf,Rf,Rf,Rf,Rf,Rf,Rf,Rf,Rf,AVle.os_nil,Tt⟩⟩
        ·rintro ⟨L,oi,nx6⟩ ⟨hL,hle,ho⟩;dsimp only at hL hle ho;refine Z ?_;intro c g2;cases c
         ·have g2:=Jw g2;try dsimp only at g2
          have hj:i+L.length=(Jh p).rules.length:=(by omega);rw [hj,List.drop_length] at hL;refine Z ?_;exact ⟨(L,oi,nx6),by rw [← hL];exact (List.append_nil _).symm,Et rfl rfl Bf Pf Y10⟩
         ·have g2:=Ju g2;try dsimp only at g2
          have hj:i+L.length < (Jh p).rules.length:=(by omega);have hdr:(Jh p).rules.drop (i+L.length)=(Jh p).rules.getD (i+L.length) Jn::(Jh p).rules.drop (i+L.length+1):=by
           rw [List.drop_eq_getElem_cons hj];simp [List.getD,hj]
          rw [hdr] at hL;refine Z ?_;refine ⟨Bd, ?_⟩;refine Z ?_;intro c3 hc3;have hc3:c3=kS ((Jh p).rules.getD (i+L.length) Jn).name ((Jh p).rules.getD i Jn).name:=hc3;cases c3
          ·have hrn:Jc0 ((Jh p).rules.getD i Jn).name ((Jh p).rules.getD (i+L.length) Jn::(Jh p).rules.drop (i+L.length+1))= []:=by
            unfold Jc0;rw [List.takeWhile_cons,if_neg (by rw [← hc3];decide)]
           rw [hrn] at hL;refine Z ?_;exact ⟨(L,oi,nx6),by rw [← hL];exact (List.append_nil _).symm,Et rfl rfl Bf Pf Y10⟩
          ·have hrn:Jc0 ((Jh p).rules.getD i Jn).name ((Jh p).rules.getD (i+L.length) Jn::(Jh p).rules.drop (i+L.length+1))=(Jh p).rules.getD (i+L.length) Jn::Jc0 ((Jh p).rules.getD i Jn).name ((Jh p).rules.drop (i+L.length+1)):=by
            unfold Jc0;rw [List.takeWhile_cons,if_pos hc3.symm]
           rw [hrn] at hL;have hcj:=Jly ((Jh p).rules.getD (i+L.length) Jn).act (JgW ((JfK hnr).2 _ (by simp [List.getD,hj])));refine Z ?_;refine Jav 17 (LpB nx nx4 p st) (Ef [16]) (Ef [13]) [0,1,2,3,4,5,6,7,8,9,10,11,12,13,14,15,16] Kr Kr (HB.refl _) ?_;refine Z ?_;refine ⟨Bd,JdV (b:= .rp (JaS ((Jh p).rules.getD (i+L.length) Jn)).cells) rfl ?_⟩;refine Z ?_;refine ⟨Bd,JdV (b:= .rp (JaS ((Jh p).rules.getD (i+L.length) Jn)).cells) rfl ?_⟩;refine Z ?_;refine ⟨_,J2 rfl rfl rfl hcj Y1 (NoId.v _), ?_⟩;refine Z ?_;refine ⟨_,JbB (e:=88) (c:=2) (pm:= []) (n:=(L.map JW).length) (oi:=nmd oi) (sz:=2) (f:=JdK (L.map JW)) (HB.refl _) rfl rfl rfl (.inr ⟨_,rfl⟩) Kr Kr Kr (.inr rfl) Kr (List.append_nil _).symm (JM rfl) (by rw [Jnw,List.length_map];have:=(JcV hnr).1;omega) (by rw [List.length_map];have:=(JcV hnr).1;omega),fun r h' hr=> ?_⟩;obtain ⟨rfl,rfl⟩:=hr;refine Z ?_;exact back (L++ [(Jh p).rules.getD (i+L.length) Jn],some nx6,nx6+1) ⟨by dsimp only;rw [List.append_assoc,List.length_append,List.length_singleton];exact hL,by dsimp only;rw [List.length_append,List.length_singleton];omega,(fun h=> by cases h)⟩ (by dsimp only;rw [List.length_append,List.length_singleton];omega) (Et (bx:=LpB nx nx4 p st) (pm:= [((0,nx6),((L++ [(Jh p).rules.getD (i+L.length) Jn]).map JW).length * 2)]) (L:= [(1,JS l),(4, .bp (2,nx+1) 0),(5,int 0),(6,int 0),(11, .bp (0,nx4) 0),(13, .bp (1,nx4+1) 0),(14, .fn (.func 21) [] [.bp (0,nx4) 0, .bp (1,nx4+1) 0]),(15,int (i+(L++ [(Jh p).rules.getD (i+L.length) Jn]).length:Nat)),(16,JA ((Jh p).rules.getD i Jn).name),(17, .os 2 ((L++ [(Jh p).rules.getD (i+L.length) Jn]).map JW).length (JdK ((L++ [(Jh p).rules.getD (i+L.length) Jn]).map JW)) (some (0,nx6)))]) rfl rfl Bf ⟨rfl,JC5,Tt⟩ ⟨Rf,Rf,Rf,Rf,Rf,Rf,Rf,Jf (JBl (by have:=(JcV hnr).1;dsimp only;omega)),Rf,JEg rfl,Tt⟩)
       ·rintro ⟨L,oi,nx6⟩ hL;dsimp only at hL;have hmem:(Jh p).rules.getD i Jn∈(Jh p).rules:=(by simp [List.getD,hi]);have hfb:Jbq l ((Jh p).rules.getD i Jn).name=true:=by
         obtain ⟨r0,h0,h1⟩:=Jf5 hmem;rw [(Jcg h1).2.1];exact Jch hv r0 h0
        have hF:=Jhw l ((Jh p).rules.getD i Jn).name hl (Jgl (JgV (JaC.1 hv).2.1) _);unfold JmY at hF;rw [if_pos hfb,← (show Jay l ((Jh p).rules.getD i Jn).name=_ from if_pos hfb)] at hF;refine Z ?_;refine Ja rfl rfl hF Y2 fun nx7=> ?_;refine Z ?_;have hLn:L≠ []:=(by rw [hL];exact JyW hi);have hrc:=JyX (s:=((Jh p).rules.getD i Jn).name) (i:=i) hp (JaC.1 hv).1;rw [← hL] at hrc;have hrow:=JCK (JaC.1 hv).2.1 (Jpw hfb);have hlr:L.length≤(Jh p).rules.length - i:=(by rw [hL,← List.length_drop];exact JpN _ _);have h500:=(JcV hnr).1;have hput:=Jww (Jh p).dflt.1 (Jh p).dflt.2 (Jh p).x32 (Jh p).rules (JX (Jh p).dflt) (Jay l ((Jh p).rules.getD i Jn).name) (L.map JW) nx4 (nx4+1) (nx7+1) st hI.2.1 (Ju9 h500 hI) hrow.1 hrow.2.1 hrow.2.2 (fun h=> hLn (List.map_eq_nil_iff.1 h)) (by rw [List.length_map];omega) hrc;have hnext:∀st',Jwv (JX (Jh p).dflt) (Jh p).x32 (Jay l ((Jh p).rules.getD i Jn).name) (L.map JW) st st'→LpI p l (i+L.length) st':=fun st' hq=> JA2 hi rfl hL hI hq;have hpos:0 < L.length:=List.length_pos_iff.2 hLn;refine Jg (xs:= [Jfd (Jay l ((Jh p).rules.getD i Jn).name),J6 (L.map JW), .bp (0,nx4) 0, .bp (1,nx4+1) 0]) [((20,nx7), .c (JbH (Jay l ((Jh p).rules.getD i Jn).name))),((2,nx+1), .c Jg5)] (Jam (nmd oi) ((L.map JW).length * 2)) 20 rfl rfl rfl (List.append_nil _).symm ⟨Rf,AVle.os_sl,Y2⟩ hput Bf trivial rfl fun r h' hq=> ?_;obtain ⟨rfl,st',nx8,nn8,hq,rfl⟩:=hq;refine Z ?_;exact back (i+L.length,st',nx8) (hnext st' hq) Dm (Je (pm:= []) (bx:=LpB nx nx4 p st') (L:= [(1,JS l),(4, .bp (2,nx+1) 0),(5,int 0),(6,int 0),(11, .bp (0,nx4) 0),(13, .bp (1,nx4+1) 0),(14, .fn (.func 21) [] [.bp (0,nx4) 0, .bp (1,nx4+1) 0]),(15,int (i+L.length:Nat))]) _ [] rfl rfl (.cons _ Sf) (List.nil_sublist _) Bf Tt Y8)
    ·rintro ⟨st,nx5⟩ hI;dsimp only at hI;have hE:=JCL hI;have hlen:=Ju9 (JcV hnr).1 hI;have hone:∀ {m:Nat} {st1:Nat→J9} (k:Nat),LpS m st st1→∀ {R:List (Nat×AV)},k < 7→(st1 k).1=R→(∀x∈R,Jcj x.2=true)∧R.length < 4611686018427387904:=fun {m st1} k hS {R} hk h=> by
      subst h;have hp:=hS.2.2.1 k hk;refine ⟨fun x hx=> ?_,by have:=hlen k hk;rw [hp.length_eq];omega⟩;have hx:=hp.mem_iff.1 hx;rcases Nat.lt_or_ge k 5 with h5 | h5
      ·rw [hE.2.1 k h5] at hx;obtain ⟨e,_,rfl⟩:=List.mem_map.1 hx;rfl
      ·obtain ⟨m',rfl⟩:∃m',k=5+m':=⟨k - 5,Om⟩;rw [hE.2.2 m' Om] at hx;obtain ⟨e,_,rfl⟩:=List.mem_map.1 hx;rfl
     refine Z ?_;refine Jbj (fun y:(Nat→J9)×Nat=> mk 131 [(4, .bp (2,nx+1) 0),(5,int 0),(6,int 0),(13, .bp (1,nx4+1) 0)] ⟨LpB nx nx4 p y.1, [],y.2,20⟩) (fun y=> LpS 5 st y.1) ?_ ?_
     ·refine Js (fun y:Nat×(Nat→J9)×Nat=> mk 131 [(4, .bp (2,nx+1) 0),(5,int 0),(6,int 0),(13, .bp (1,nx4+1) 0),(112,int y.1)] ⟨LpB nx nx4 p y.2.1, [],y.2.2,20⟩) (fun y=> y.1≤5∧LpS (y.1) st y.2.1) (fun y=> 5 - y.1) ?_ ?_
      ·exact ⟨(0,st,nx5),⟨Nat.zero_le _,JEF hE.1⟩,Et rfl rfl Bf Tt Y5⟩
      ·rintro ⟨a,st1,nx5⟩ ⟨ha,hS⟩;dsimp only at ha hS;by_cases hA:a=5
       ·subst hA;refine Z ?_;exact ⟨(st1,nx5),hS,Et rfl rfl Bf Tt Y4⟩
       obtain ⟨q,hq⟩:∃q,q=a:=⟨_,rfl⟩;obtain ⟨b,hb⟩:∃b,b=a+1:=⟨_,rfl⟩;have hq7:q < 7:=(by omega);have hSq:LpS q st st1:=(by rw [hq];exact hS);have hn1:∀ {s'},LpS (q+1) st s'→LpS (b) st s':=fun {s'} h=> by rw [show b=q+1 by omega];exact h
       rcases hk:st1 q with ⟨R,_ | ⟨s,cap,tl⟩⟩
       ·have hN0:(st1 q).1= []:=(by have:=hSq.2.1 q hq7;rw [hk] at this⊢;exact this);have hv:AVle (JaF (10+q) (st1 q)) (.os 0 0 (fun _=> .any) none):=(by rw [hk];exact Rf);have hw:AVle (.os 0 0 (fun _=> .any) none) (JaF (10+q) (st1 q)):=(by rw [hk];exact Rf);refine AW.le (E':=mk 131 [(4, .bp (2,nx+1) 0),(5,int 0),(6,int 0),(13, .bp (1,nx4+1) 0),(112,int (a:Nat))] ⟨lpH nx nx4 p (Jc9 (JX (Jh p).dflt) (Jh p).x32 (Jc3 (a) (.os 0 0 (fun _=> .any) none) st1))++Jbv st1, [],nx5,20⟩) (Et rfl rfl (JnJ (by subst hq;exact Jgz hv) Bf) Tt Y5) ?_;rcases (by omega:a=0∨a=1∨a=2∨a=3∨a=4) with rfl | rfl | rfl | rfl | rfl
        all_goals
         unfold lpH;refine Z ?_;refine Ja rfl rfl (JtW 26) ⟨AVle.os_nil,Y1⟩ fun nx6=> ?_;refine Z ?_;exact back (b,st1,nx6) ⟨Dm,hn1 (JsD hq7 hSq hN0)⟩ Dm (Et (bx:=LpB nx nx4 p st1) rfl rfl (JnJ (by subst hq;exact Jfy hw) Bf) Tt ⟨Rf,Rf,Rf,Rf,Jf (by subst hb;rfl),Tt⟩)
       ·have hv:AVle (JaF (10+q) (st1 q)) (.hs (30,s) 0 R.length cap):=(by rw [hk];exact AVle.hs_nm rfl);refine AW.le (E':=mk 131 [(4, .bp (2,nx+1) 0),(5,int 0),(6,int 0),(13, .bp (1,nx4+1) 0),(112,int (a:Nat))] ⟨(lpH nx nx4 p (Jc9 (JX (Jh p).dflt) (Jh p).x32 (Jc3 (a) (.hs (30,s) 0 R.length cap) st1))++Jah q st1)++ [((30,s),Own.c (JC R++tl))], [],nx5,20⟩) (JaK _ _ [] rfl rfl (Jvk (F:=lpH nx nx4 p (JbJ (JX (Jh p).dflt) (Jh p).x32 st1)) hq7 hk) Sf Sf (Jk9 (i:=(10+q,s)) (j:=(30,s)) (by subst hq;exact Jgz hv) rfl) Tt Y5) ?_;have hR:=hone q hSq (R:=R) hq7 (by rw [hk]);rcases (by omega:a=0∨a=1∨a=2∨a=3∨a=4) with rfl | rfl | rfl | rfl | rfl
        all_goals
         unfold lpH;refine Z ?_;refine Jg (xs:= [.hs (30,s) 0 R.length cap, .fn (.func 26) [] []]) (_++Jah q st1) [] 20 rfl rfl rfl rfl Y2 (Jsr (D:=R) (tl:=tl) (nm:=30) (s:=s) (cap:=cap) (nx:=nx5) (nn:=20) hR.1 hR.2) Bf trivial rfl fun r h' hq2=> ?_;obtain ⟨rfl,cs',⟨D,hp1,hp2,rfl⟩,rfl⟩:=hq2;have hw:AVle (.hs (30,s) 0 R.length cap) (JaF (10+q) (D,some (s,cap,tl))):=by
          show AVle _ (.hs (10+q,s) 0 D.length cap);rw [hp1.length_eq];exact AVle.hs_nm rfl
         refine Z ?_;exact back (b,JaL st1 q (D,some (s,cap,tl)),nx5) ⟨Dm,hn1 (JsE hq7 hSq hk hp1 hp2)⟩ Dm (ELe.trans (Et (n:=131) (nn:=20) (pm:= []) (bx:=(lpH nx nx4 p (JbJ (JX (Jh p).dflt) (Jh p).x32 (JaL st1 q (D,some (s,cap,tl))))++Jah q st1)++ [((10+q,s),Own.c (JC D++tl))]) (L:= [(4, .bp (2,nx+1) 0),(5,int 0),(6,int 0),(13, .bp (1,nx4+1) 0),(112,int (b:Nat))]) rfl rfl (Jk9 (i:=(30,s)) (j:=(10+q,s)) (by subst hq;exact Jsu hw) rfl) Tt ⟨Rf,Rf,Rf,Rf,Jf (by subst hb;rfl),Tt⟩) (Jvl hq7))
     rintro ⟨st0,nx5⟩ hS0;dsimp only at hS0;refine Z ?_;refine Jbj (fun y:(Nat→J9)×Nat=> mk 131 [(4, .bp (2,nx+1) 0),(5,int 0),(6,int 0),(13, .bp (1,nx4+1) 0)] ⟨LpB nx nx4 p y.1, [],y.2,20⟩) (fun y=> LpS 7 st y.1) ?_ ?_
     ·refine Js (fun y:Nat×(Nat→J9)×Nat=> mk 131 [(4, .bp (2,nx+1) 0),(5,int 0),(6,int 0),(13, .bp (1,nx4+1) 0),(121,int y.1)] ⟨LpB nx nx4 p y.2.1, [],y.2.2,20⟩) (fun y=> y.1≤2∧LpS (5+y.1) st y.2.1) (fun y=> 2 - y.1) ?_ ?_
      ·exact ⟨(0,st0,nx5),⟨Nat.zero_le _,hS0⟩,Et rfl rfl Bf Tt Y5⟩
      ·rintro ⟨a,st1,nx5⟩ ⟨ha,hS⟩;dsimp only at ha hS;by_cases hA:a=2
       ·subst hA;refine Z ?_;exact ⟨(st1,nx5),hS,Et rfl rfl Bf Tt Y4⟩
       obtain ⟨q,hq⟩:∃q,q=5+a:=⟨_,rfl⟩;obtain ⟨b,hb⟩:∃b,b=a+1:=⟨_,rfl⟩;have hq7:q < 7:=(by omega);have hSq:LpS q st st1:=(by rw [hq];exact hS);have hn1:∀ {s'},LpS (q+1) st s'→LpS (5+b) st s':=fun {s'} h=> by rw [show 5+b=q+1 by omega];exact h
       rcases hk:st1 q with ⟨R,_ | ⟨s,cap,tl⟩⟩
       ·have hN0:(st1 q).1= []:=(by have:=hSq.2.1 q hq7;rw [hk] at this⊢;exact this);have hv:AVle (JaF (10+q) (st1 q)) (.os 0 0 (fun _=> .any) none):=(by rw [hk];exact Rf);have hw:AVle (.os 0 0 (fun _=> .any) none) (JaF (10+q) (st1 q)):=(by rw [hk];exact Rf);refine AW.le (E':=mk 131 [(4, .bp (2,nx+1) 0),(5,int 0),(6,int 0),(13, .bp (1,nx4+1) 0),(121,int (a:Nat))] ⟨lpH nx nx4 p (Jc9 (JX (Jh p).dflt) (Jh p).x32 (Jc3 (5+a) (.os 0 0 (fun _=> .any) none) st1))++Jbv st1, [],nx5,20⟩) (Et rfl rfl (JnJ (by subst hq;exact Jgz hv) Bf) Tt Y5) ?_;rcases (by omega:a=0∨a=1) with rfl | rfl
        all_goals
         unfold lpH;refine Z ?_;refine Ja rfl rfl (JtX 29) ⟨AVle.os_nil,Y1⟩ fun nx6=> ?_;refine Z ?_;exact back (b,st1,nx6) ⟨Dm,hn1 (JsD hq7 hSq hN0)⟩ Dm (Et (bx:=LpB nx nx4 p st1) rfl rfl (JnJ (by subst hq;exact Jfy hw) Bf) Tt ⟨Rf,Rf,Rf,Rf,Jf (by subst hb;rfl),Tt⟩)
       ·have hv:AVle (JaF (10+q) (st1 q)) (.hs (30,s) 0 R.length cap):=(by rw [hk];exact AVle.hs_nm rfl);refine AW.le (E':=mk 131 [(4, .bp (2,nx+1) 0),(5,int 0),(6,int 0),(13, .bp (1,nx4+1) 0),(121,int (a:Nat))] ⟨(lpH nx nx4 p (Jc9 (JX (Jh p).dflt) (Jh p).x32 (Jc3 (5+a) (.hs (30,s) 0 R.length cap) st1))++Jah q st1)++ [((30,s),Own.c (JC R++tl))], [],nx5,20⟩) (JaK _ _ [] rfl rfl (Jvk (F:=lpH nx nx4 p (JbJ (JX (Jh p).dflt) (Jh p).x32 st1)) hq7 hk) Sf Sf (Jk9 (i:=(10+q,s)) (j:=(30,s)) (by subst hq;exact Jgz hv) rfl) Tt Y5) ?_;have hR:=hone q hSq (R:=R) hq7 (by rw [hk]);rcases (by omega:a=0∨a=1) with rfl | rfl
        all_goals
         unfold lpH;refine Z ?_;refine Jg (xs:= [.hs (30,s) 0 R.length cap, .fn (.func 29) [] []]) (_++Jah q st1) [] 20 rfl rfl rfl rfl Y2 (Jss (D:=R) (tl:=tl) (nm:=30) (s:=s) (cap:=cap) (nx:=nx5) (nn:=20) hR.1 hR.2) Bf trivial rfl fun r h' hq2=> ?_;obtain ⟨rfl,cs',⟨D,hp1,hp2,rfl⟩,rfl⟩:=hq2;have hw:AVle (.hs (30,s) 0 R.length cap) (JaF (10+q) (D,some (s,cap,tl))):=by
          show AVle _ (.hs (10+q,s) 0 D.length cap);rw [hp1.length_eq];exact AVle.hs_nm rfl
         refine Z ?_;exact back (b,JaL st1 q (D,some (s,cap,tl)),nx5) ⟨Dm,hn1 (JsE hq7 hSq hk hp1 hp2)⟩ Dm (ELe.trans (Et (n:=131) (nn:=20) (pm:= []) (bx:=(lpH nx nx4 p (JbJ (JX (Jh p).dflt) (Jh p).x32 (JaL st1 q (D,some (s,cap,tl))))++Jah q st1)++ [((10+q,s),Own.c (JC D++tl))]) (L:= [(4, .bp (2,nx+1) 0),(5,int 0),(6,int 0),(13, .bp (1,nx4+1) 0),(121,int (b:Nat))]) rfl rfl (Jk9 (i:=(30,s)) (j:=(10+q,s)) (by subst hq;exact Jsu hw) rfl) Tt ⟨Rf,Rf,Rf,Rf,Jf (by subst hb;rfl),Tt⟩) (Jvl hq7))
     rintro ⟨st2,nx5⟩ hS;dsimp only at hS;have hr:∀k,k < 5→(st2 k).1=((J8 p l).ents k).map Jem:=fun k hk=> Jyq hv hk Jem (fun _=> rfl) (by rw [← hE.2.1 k hk];exact hS.2.2.1 k Om) (hS.2.2.2 k Om);have hr2:∀m,m < 2→(st2 (5+m)).1=((J8 p l).subs m).map Jby:=fun m hm=> Jyr hv Jby (fun _=> rfl) (by rw [← hE.2.2 m hm];exact hS.2.2.1 (5+m) Om) (hS.2.2.2 (5+m) Om);have ho:=hS.2.1;refine Jbl (n:=131) (nx:=nx5) (nn:=20) (pm:= []) (bx:= [((2,nx+1), .c Jg5)]) (df:=some []) (L:= [(4, .bp (2,nx+1) 0),(5,int 0),(6,int 0),(13, .rp [u32 (JX (Jh p).dflt:Nat),Ji (Jh p).x32,JK 2 Ja2 ent0 ((J8 p l).ents 0),JK 2 Ja2 ent0 ((J8 p l).ents 1),JK 2 Ja2 ent0 ((J8 p l).ents 2),JK 2 Ja2 ent0 ((J8 p l).ents 3),JK 2 Ja2 ent0 ((J8 p l).ents 4),JK 2 JhE sub0 ((J8 p l).subs 0),JK 2 JhE sub0 ((J8 p l).subs 1)])]) ([((1,nx4+1),Own.c (JbJ (JX (Jh p).dflt) (Jh p).x32 st2)),((0,nx4),Own.c [int (Jh p).dflt.1,int (Jh p).dflt.2,Ji (Jh p).x32,Jak (Jh p).rules])]++Jbv st2) rfl rfl rfl JBk Sf ⟨Frz.refl _,Frz.refl _,Frz.refl _,Frz.bpL (cs:=JbJ (JX (Jh p).dflt) (Jh p).x32 st2) (.head _) ⟨Frz.refl _,Frz.refl _,JiL (ho 0 Dc) (hr 0 Dc) (JhP (j:=0) Dc),JiL (ho 1 Dc) (hr 1 Dc) (JhP (j:=1) Dc),JiL (ho 2 Dc) (hr 2 Dc) (JhP (j:=2) Dc),JiL (ho 3 Dc) (hr 3 Dc) (JhP (j:=3) Dc),JiL (ho 4 Dc) (hr 4 Dc) (JhP (j:=4) Dc),Jvm (ho 5 Dc) (hr2 0 Dc) (JhP (j:=5) Dc),Jvm (ho 6 Dc) (hr2 1 Dc) (JhP (j:=6) Dc),Tt⟩,Tt⟩ ?_;refine Z ?_;exact Jk rfl ⟨rfl,Tt⟩ Rf
 ·rw [if_pos hv];generalize (Jaf p l).1=v1 at hV⊢;generalize (Jaf p l).2=v2 at hV hv⊢;refine Jc Tryz.func7 rfl rfl fun nx=> ?_;refine Z ?_;refine Ja rfl rfl hV Y2 fun nx2=> ?_;refine Z ?_;intro c hc;obtain rfl:c=true:=by rw [hc];simpa using hv
  refine Z ?_;exact Jk rfl ⟨rfl,Tt⟩ (AVle.tups (cs:= [_,_,_]) ⟨Js7,Y2⟩)
theorem JnK (r:Rul):NoId (.ag [JA r.name,int r.act.1,int r.act.2,Jaz r.conds]):=NoId.ag (by
 intro y hy
 simp only [List.mem_cons,List.not_mem_nil,or_false] at hy
 rcases hy with rfl | rfl | rfl | rfl
 ·exact NoId.v _
 ·exact NoId.v _
 ·exact NoId.v _
 ·refine NoId.sl fun i hi c hc=> ?_;simp only [JZ,AV.cells,List.mem_cons,List.not_mem_nil,or_false] at hc;rcases hc with rfl | rfl | rfl | rfl <;> exact NoId.v _)
theorem JjL:Tryz.prog.bytesOf 150=32:=by kernel_rfl
theorem Jfg:Tryz.prog.bytesOf 93=56:=by kernel_rfl
theorem Jzq (c:Cnd):Tells Tryz.prog 76 [JZ c] (JZ c):=by
 refine Jc Tryz.func76 rfl rfl fun nx=> ?_
 refine Z ?_
 exact Jk rfl ⟨rfl,Tt⟩ Rf
theorem Jtb (nm:ByteArray) (k n:Int) (cs:List Cnd) (hl:cs.length≤1000000):Tells Tryz.prog 30 [.ag [JA nm,int k,int n,Jaz cs]] (.ag [JA nm,int k,int n,Jaz cs]):=by
 refine Jc Tryz.func30 rfl rfl fun nx=> ?_
 refine Z ?_
 refine Js (fun s:Nat×Option Nat×Nat=> mk 34 [(1, .bp (0,nx) 0),(2, .bp (1,nx+1) 0),(3, .bp (2,nx+2) 0),(4,int s.1)] ⟨[((2,nx+2), .c [JA nm,int k,int n, .os 4 s.1 (fun j=> JZ (cs.getD j cnd0)) (nmd s.2.1)]),((1,nx+1), .c [JA ⟨#[]⟩,int 0,int 0, .os 0 0 (fun _=> .any) none]),((0,nx), .c [JA nm,int k,int n,Jaz cs])],Jam (nmd s.2.1) (s.1 * 4),s.2.2,3⟩) (fun s=> s.1≤cs.length∧(s.2.1=none→s.1=0)) (fun s=> cs.length - s.1) ?_ ?_
 ·exact ⟨(0,none,nx+3),⟨Nat.zero_le _,fun _=> rfl⟩,Je (pm:= []) _ [] rfl rfl Sf Sf ⟨rfl,⟨Rf,Rf,Rf,AVle.os_nil,Tt⟩,rfl,OwnLe.refl _,rfl,OwnLe.refl _,Tt⟩ Tt Y4⟩
 ·rintro ⟨i,oi,nx2⟩ ⟨h3,h4⟩;dsimp only at h3 h4;refine Z ?_;intro c h5;cases c
  ·have h6:=Jw h5;dsimp only at h6;obtain rfl:i=cs.length:=by omega
   refine Z ?_;exact Jk rfl ⟨rfl,Tt⟩ (AVle.ags ⟨Rf,Rf,Rf,AVle.os_sl,Tt⟩)
  ·have h6:=Ju h5;dsimp only at h6;have hi:i < cs.length:=by omega
   have hcall:=Jzq (cs.getD i cnd0);refine Z ?_;refine Jav 11 [((2,nx+2), .c [JA nm,int k,int n, .os 4 i (fun j=> JZ (cs.getD j cnd0)) (nmd oi)]),((1,nx+1), .c [JA ⟨#[]⟩,int 0,int 0, .os 0 0 (fun _=> .any) none]),((0,nx), .c [JA nm,int k,int n,Jaz cs])] (Ef [9]) (Ef [7]) [0,1,2,3,4,5,6,7,8,9,10] Kr Kr (HB.refl _) ?_;refine Z ?_;refine ⟨⟨Dm,Dm⟩, ?_⟩;refine Z ?_;refine ⟨_,J2 rfl rfl rfl hcall Y1 (Jxu _), ?_⟩;refine Z ?_;rcases oi with _ | id
   ·obtain rfl:=h4 rfl;refine ⟨_,JbB (e:=150) (c:=4) (pm:= []) (n:=0) (oi:=none) (sz:=4) (f:=fun j=> JZ (cs.getD j cnd0)) (HB.refl _) rfl rfl rfl (.inr ⟨_,rfl⟩) Kr Kr Kr (.inr rfl) Kr (List.append_nil _).symm (JM rfl) (by rw [JjL];omega) Om,fun r h' hr=> ?_⟩;obtain ⟨rfl,rfl⟩:=hr;refine Z ?_;refine back (0+1,some nx2,nx2+1) ⟨Dm,(fun h=> by cases h)⟩ Dm (Et (pm:= [((0,nx2),(0+1) * 4)]) rfl rfl ⟨rfl,⟨Rf,Rf,Rf,(AVle.os_fun (Jbw (fun k h=> absurd h (Nat.not_lt_zero k)) ?_)).trans (AVle.os_nm rfl),Tt⟩,rfl,OwnLe.refl _,rfl,OwnLe.refl _,Tt⟩ ⟨rfl,rfl,Tt⟩ ⟨Rf,Rf,Rf,Jf (Jx Dm),Tt⟩);rfl
   ·refine ⟨_,JbB (e:=150) (c:=4) (pm:= []) (n:=i) (oi:=some (0,id)) (sz:=4) (f:=fun j=> JZ (cs.getD j cnd0)) (HB.refl _) rfl rfl rfl (.inr ⟨_,rfl⟩) Kr Kr Kr (.inr rfl) Kr (List.append_nil _).symm (JM rfl) (by rw [JjL];omega) Om,fun r h' hr=> ?_⟩;obtain ⟨rfl,rfl⟩:=hr;refine Z ?_;refine back (i+1,some nx2,nx2+1) ⟨Dm,(fun h=> by cases h)⟩ Dm (Et (pm:= [((0,nx2),(i+1) * 4)]) rfl rfl ⟨rfl,⟨Rf,Rf,Rf,(AVle.os_fun (Jbw (fun k hk=> rfl) ?_)).trans (AVle.os_nm rfl),Tt⟩,rfl,OwnLe.refl _,rfl,OwnLe.refl _,Tt⟩ ⟨rfl,rfl,Tt⟩ ⟨Rf,Rf,Rf,Jf (Jx Dm),Tt⟩);rfl
theorem JC6 (k n:Int) (rs:List Rul) (hl:rs.length≤1000000) (hc:∀r∈rs,r.conds.length≤1000000):Tells Tryz.prog 8 [.ag [int k,int n,Ji true,Jak rs]] (.ag [int k,int n,Ji true,Jak rs]):=by
 refine Jc Tryz.func8 rfl rfl fun nx=> ?_
 refine Z ?_
 refine Js (fun s:Nat×Option Nat×Nat=> mk 34 [(1, .bp (0,nx) 0),(2, .bp (1,nx+1) 0),(3, .bp (2,nx+2) 0),(4,int s.1)] ⟨[((2,nx+2), .c [int k,int n,Ji true, .os 4 s.1 (fun j=> JaS (rs.getD j Jn)) (nmd s.2.1)]),((1,nx+1), .c [int 0,int 0,Ji false, .os 0 0 (fun _=> .any) none]),((0,nx), .c [int k,int n,Ji true,Jak rs])],Jam (nmd s.2.1) (s.1 * 4),s.2.2,3⟩) (fun s=> s.1≤rs.length∧(s.2.1=none→s.1=0)) (fun s=> rs.length - s.1) ?_ ?_
 ·exact ⟨(0,none,nx+3),⟨Nat.zero_le _,fun _=> rfl⟩,Je (pm:= []) _ [] rfl rfl Sf Sf ⟨rfl,⟨Rf,Rf,Rf,AVle.os_nil,Tt⟩,rfl,OwnLe.refl _,rfl,OwnLe.refl _,Tt⟩ Tt Y4⟩
 ·rintro ⟨i,oi,nx2⟩ ⟨h3,h4⟩;dsimp only at h3 h4;refine Z ?_;intro c h5;cases c
  ·have h6:=Jw h5;dsimp only at h6;obtain rfl:i=rs.length:=by omega
   refine Z ?_;exact Jk rfl ⟨rfl,Tt⟩ (AVle.ags ⟨Rf,Rf,Rf,AVle.os_sl,Tt⟩)
  ·have h6:=Ju h5;dsimp only at h6;have hi:i < rs.length:=by omega
   have hcall:=Jtb (rs.getD i Jn).name (rs.getD i Jn).act.1 (rs.getD i Jn).act.2 (rs.getD i Jn).conds (hc _ (by simp [List.getD,hi]));refine Z ?_;refine Jav 11 [((2,nx+2), .c [int k,int n,Ji true, .os 4 i (fun j=> JaS (rs.getD j Jn)) (nmd oi)]),((1,nx+1), .c [int 0,int 0,Ji false, .os 0 0 (fun _=> .any) none]),((0,nx), .c [int k,int n,Ji true,Jak rs])] (Ef [9]) (Ef [7]) [0,1,2,3,4,5,6,7,8,9,10] Kr Kr (HB.refl _) ?_;refine Z ?_;refine ⟨⟨Dm,Dm⟩, ?_⟩;refine Z ?_;refine ⟨_,J2 rfl rfl rfl hcall Y1 (JnK (rs.getD i Jn)), ?_⟩;refine Z ?_;rcases oi with _ | id
   ·obtain rfl:=h4 rfl;refine ⟨_,JbB (e:=93) (c:=4) (pm:= []) (n:=0) (oi:=none) (sz:=4) (f:=fun j=> JaS (rs.getD j Jn)) (HB.refl _) rfl rfl rfl (.inr ⟨_,rfl⟩) Kr Kr Kr (.inr rfl) Kr (List.append_nil _).symm (JM rfl) (by rw [Jfg];omega) Om,fun r h' hr=> ?_⟩;obtain ⟨rfl,rfl⟩:=hr;refine Z ?_;refine back (0+1,some nx2,nx2+1) ⟨Dm,(fun h=> by cases h)⟩ Dm (Et (pm:= [((0,nx2),(0+1) * 4)]) rfl rfl ⟨rfl,⟨Rf,Rf,Rf,(AVle.os_fun (Jbw (fun k h=> absurd h (Nat.not_lt_zero k)) ?_)).trans (AVle.os_nm rfl),Tt⟩,rfl,OwnLe.refl _,rfl,OwnLe.refl _,Tt⟩ ⟨rfl,rfl,Tt⟩ ⟨Rf,Rf,Rf,Jf (Jx Dm),Tt⟩);rfl
   ·refine ⟨_,JbB (e:=93) (c:=4) (pm:= []) (n:=i) (oi:=some (0,id)) (sz:=4) (f:=fun j=> JaS (rs.getD j Jn)) (HB.refl _) rfl rfl rfl (.inr ⟨_,rfl⟩) Kr Kr Kr (.inr rfl) Kr (List.append_nil _).symm (JM rfl) (by rw [Jfg];omega) Om,fun r h' hr=> ?_⟩;obtain ⟨rfl,rfl⟩:=hr;refine Z ?_;refine back (i+1,some nx2,nx2+1) ⟨Dm,(fun h=> by cases h)⟩ Dm (Et (pm:= [((0,nx2),(i+1) * 4)]) rfl rfl ⟨rfl,⟨Rf,Rf,Rf,(AVle.os_fun (Jbw (fun k hk=> rfl) ?_)).trans (AVle.os_nm rfl),Tt⟩,rfl,OwnLe.refl _,rfl,OwnLe.refl _,Tt⟩ ⟨rfl,rfl,Tt⟩ ⟨Rf,Rf,Rf,Jf (Jx Dm),Tt⟩);rfl
theorem JC7 (k n:Int) (rs:List Rul) (hl:rs.length≤1000000) (hc:∀r∈rs,r.conds.length≤1000000):Tells Tryz.prog 8 [.ag [int k,int n,Ji false,Jak rs]] (.ag [int k,int n,Ji false,Jak rs]):=by
 refine Jc Tryz.func8 rfl rfl fun nx=> ?_
 refine Z ?_
 refine Js (fun s:Nat×Option Nat×Nat=> mk 34 [(1, .bp (0,nx) 0),(2, .bp (1,nx+1) 0),(3, .bp (2,nx+2) 0),(4,int s.1)] ⟨[((2,nx+2), .c [int k,int n,Ji false, .os 4 s.1 (fun j=> JaS (rs.getD j Jn)) (nmd s.2.1)]),((1,nx+1), .c [int 0,int 0,Ji false, .os 0 0 (fun _=> .any) none]),((0,nx), .c [int k,int n,Ji false,Jak rs])],Jam (nmd s.2.1) (s.1 * 4),s.2.2,3⟩) (fun s=> s.1≤rs.length∧(s.2.1=none→s.1=0)) (fun s=> rs.length - s.1) ?_ ?_
 ·exact ⟨(0,none,nx+3),⟨Nat.zero_le _,fun _=> rfl⟩,Je (pm:= []) _ [] rfl rfl Sf Sf ⟨rfl,⟨Rf,Rf,Rf,AVle.os_nil,Tt⟩,rfl,OwnLe.refl _,rfl,OwnLe.refl _,Tt⟩ Tt Y4⟩
 ·rintro ⟨i,oi,nx2⟩ ⟨h3,h4⟩;dsimp only at h3 h4;refine Z ?_;intro c h5;cases c
  ·have h6:=Jw h5;dsimp only at h6;obtain rfl:i=rs.length:=by omega
   refine Z ?_;exact Jk rfl ⟨rfl,Tt⟩ (AVle.ags ⟨Rf,Rf,Rf,AVle.os_sl,Tt⟩)
  ·have h6:=Ju h5;dsimp only at h6;have hi:i < rs.length:=by omega
   have hcall:=Jtb (rs.getD i Jn).name (rs.getD i Jn).act.1 (rs.getD i Jn).act.2 (rs.getD i Jn).conds (hc _ (by simp [List.getD,hi]));refine Z ?_;refine Jav 11 [((2,nx+2), .c [int k,int n,Ji false, .os 4 i (fun j=> JaS (rs.getD j Jn)) (nmd oi)]),((1,nx+1), .c [int 0,int 0,Ji false, .os 0 0 (fun _=> .any) none]),((0,nx), .c [int k,int n,Ji false,Jak rs])] (Ef [9]) (Ef [7]) [0,1,2,3,4,5,6,7,8,9,10] Kr Kr (HB.refl _) ?_;refine Z ?_;refine ⟨⟨Dm,Dm⟩, ?_⟩;refine Z ?_;refine ⟨_,J2 rfl rfl rfl hcall Y1 (JnK (rs.getD i Jn)), ?_⟩;refine Z ?_;rcases oi with _ | id
   ·obtain rfl:=h4 rfl;refine ⟨_,JbB (e:=93) (c:=4) (pm:= []) (n:=0) (oi:=none) (sz:=4) (f:=fun j=> JaS (rs.getD j Jn)) (HB.refl _) rfl rfl rfl (.inr ⟨_,rfl⟩) Kr Kr Kr (.inr rfl) Kr (List.append_nil _).symm (JM rfl) (by rw [Jfg];omega) Om,fun r h' hr=> ?_⟩;obtain ⟨rfl,rfl⟩:=hr;refine Z ?_;refine back (0+1,some nx2,nx2+1) ⟨Dm,(fun h=> by cases h)⟩ Dm (Et (pm:= [((0,nx2),(0+1) * 4)]) rfl rfl ⟨rfl,⟨Rf,Rf,Rf,(AVle.os_fun (Jbw (fun k h=> absurd h (Nat.not_lt_zero k)) ?_)).trans (AVle.os_nm rfl),Tt⟩,rfl,OwnLe.refl _,rfl,OwnLe.refl _,Tt⟩ ⟨rfl,rfl,Tt⟩ ⟨Rf,Rf,Rf,Jf (Jx Dm),Tt⟩);rfl
   ·refine ⟨_,JbB (e:=93) (c:=4) (pm:= []) (n:=i) (oi:=some (0,id)) (sz:=4) (f:=fun j=> JaS (rs.getD j Jn)) (HB.refl _) rfl rfl rfl (.inr ⟨_,rfl⟩) Kr Kr Kr (.inr rfl) Kr (List.append_nil _).symm (JM rfl) (by rw [Jfg];omega) Om,fun r h' hr=> ?_⟩;obtain ⟨rfl,rfl⟩:=hr;refine Z ?_;refine back (i+1,some nx2,nx2+1) ⟨Dm,(fun h=> by cases h)⟩ Dm (Et (pm:= [((0,nx2),(i+1) * 4)]) rfl rfl ⟨rfl,⟨Rf,Rf,Rf,(AVle.os_fun (Jbw (fun k hk=> rfl) ?_)).trans (AVle.os_nm rfl),Tt⟩,rfl,OwnLe.refl _,rfl,OwnLe.refl _,Tt⟩ ⟨rfl,rfl,Tt⟩ ⟨Rf,Rf,Rf,Jf (Jx Dm),Tt⟩);rfl
theorem JC8 (p:Pol) (hl:p.rules.length≤1000000) (hc:∀r∈p.rules,r.conds.length≤1000000):Tells Tryz.prog 8 [JcT p] (JcT p):=by
 obtain ⟨⟨k,n⟩,x,rs⟩:=p
 cases x
 ·exact JC7 k n rs hl hc
 ·exact JC6 k n rs hl hc
theorem Jzr (p:Pol) (hl:p.rules.length≤maxLen):Tells Tryz.prog 5 [JcT p] (Ji (Jgw p)):=by
 obtain ⟨⟨k,n⟩,x,rs⟩:=p
 dsimp only at hl
 refine Jc Tryz.func5 rfl rfl fun nx=> ?_
 refine Z ?_
 intro c g1;cases c
 rotate_left
 ·refine Z ?_;have g1:((rs.length:Nat):Int) > 40:=Ju g1;exact Jb rfl (JN (by show false=(decide (rs.length≤40)&& _);rw [decide_eq_false Om];rfl))
 have g1:¬((rs.length:Nat):Int) > 40:=Jw g1
 have h40:rs.length≤40:=by omega
 refine Z ?_
 refine Js (fun s:Nat×Nat=> mk 33 [(1, .bp (0,nx) 0),(3,int s.1)] ⟨[((0,nx), .c [int k,int n,Ji x,Jak rs])], [],s.2,1⟩) (fun s=> s.1≤rs.length∧∀j,j < s.1→Jfb (rs.getD j Jn)=true) (fun s=> rs.length - s.1) ?_ ?_
 ·exact ⟨(0,nx+1),⟨Nat.zero_le _,fun j h=> absurd h (Nat.not_lt_zero _)⟩,Je (pm:= []) _ [] rfl rfl Sf Sf ⟨rfl,OwnLe.refl _,Tt⟩ Tt Y2⟩
 ·rintro ⟨i,nx2⟩ ⟨h3,h4⟩;dsimp only at h3 h4;refine Z ?_;intro c h5;cases c
  ·have h6:=Jw h5;dsimp only at h6;obtain rfl:i=rs.length:=by omega
   refine Z ?_;refine Jb rfl (JN ?_);show true=(decide (rs.length≤40)&& rs.all Jfb);rw [decide_eq_true h40,Bool.true_and,eq_comm,List.all_eq_true];intro r hr;obtain ⟨j,hj,rfl⟩:=List.getElem_of_mem hr;have:=h4 j hj;simpa [List.getD,hj] using this
  ·have h6:=Ju h5;dsimp only at h6;have hi:i < rs.length:=by omega
   have hbad:∀b:Bool,Jfb (rs.getD i Jn)=false→false=Jgw ⟨(k,n),x,rs⟩:=fun b hb=> by
    show false=(decide (rs.length≤40)&& rs.all Jfb);rw [decide_eq_true h40,Bool.true_and,eq_comm,List.all_eq_false];exact ⟨rs.getD i Jn,by simp [List.getD,hi],by rw [hb];decide⟩
   refine Z ?_;refine ⟨⟨Dm,Dm⟩, ?_⟩;refine Z ?_;intro c t1;cases c
   ·have t1:¬(((rs.getD i Jn).name.size:Nat):Int) > 60:=Jw t1;refine Z ?_;refine ⟨⟨Dm,Dm⟩, ?_⟩;refine Z ?_;intro c t2;cases c
    ·have t2:¬(((rs.getD i Jn).conds.length:Nat):Int) > 12:=Jw t2;refine Z ?_;refine back (i+1,nx2) ⟨Dm,fun j hj=> ?_⟩ Dm (Je (pm:= []) _ [] rfl rfl Sf Sf ⟨rfl,OwnLe.refl _,Tt⟩ Tt ⟨Rf,Jf (Jx Dm),Tt⟩);dsimp only at hj;rcases Nat.lt_or_ge j i with h | h
     ·exact h4 j h
     ·obtain rfl:j=i:=(by omega);unfold Jfb;rw [decide_eq_true Om,decide_eq_true Om];rfl
    ·have t2:(((rs.getD i Jn).conds.length:Nat):Int) > 12:=Ju t2;refine Z ?_;exact Jb rfl (JN (hbad true (by unfold Jfb;rw [decide_eq_false (p:=(rs.getD i Jn).conds.length≤12) Om,Bool.and_false])))
   ·have t1:(((rs.getD i Jn).name.size:Nat):Int) > 60:=Ju t1;refine Z ?_;exact Jb rfl (JN (hbad true (by unfold Jfb;rw [decide_eq_false (p:=(rs.getD i Jn).name.size≤60) Om,Bool.false_and])))
theorem JkK:Tryz.prog.bytesOf 80=72:=by kernel_rfl
theorem Jtc (l:List TRow) (hl:l.length≤1000000):Tells Tryz.prog 9 [JS l] (JS l):=by
 refine Jc Tryz.func9 rfl rfl fun nx=> ?_
 refine Z ?_
 refine Js (fun s:Nat×Option Nat×Nat=> mk 36 [(0,JS l),(3, .os 8 s.1 (fun j=> Jfd (l.getD j Jd)) (nmd s.2.1)),(4,int s.1)] ⟨[],Jam (nmd s.2.1) (s.1 * 8),s.2.2,1⟩) (fun s=> s.1≤l.length∧(s.2.1=none→s.1=0)) (fun s=> l.length - s.1) ?_ ?_
 ·exact ⟨(0,none,nx),⟨Nat.zero_le _,fun _=> rfl⟩,Je (pm:= []) _ [] rfl rfl Sf Sf Tt Tt ⟨Rf,AVle.os_nil,Y1⟩⟩
 ·rintro ⟨i,oi,nx2⟩ ⟨h3,h4⟩;dsimp only at h3 h4;refine Z ?_;intro c h5;cases c
  ·have h6:=Jw h5;dsimp only at h6;obtain rfl:i=l.length:=by omega
   rcases oi with _ | id
   all_goals
    refine Z ?_;exact Jb rfl AVle.os_sl
  ·have h6:=Ju h5;dsimp only at h6;have hi:i < l.length:=by omega
   refine Z ?_;refine Jav 25 _ (Ef [23]) (Ef [10]) [0,1,2,3,4,5,6,7,8,9,10,11,12,13,14,15,16,17,18,19,20,21,22,23,24] Kr Kr (HB.refl _) ?_;refine Z ?_;refine ⟨⟨Dm,Dm⟩, ?_⟩;refine Z ?_;refine ⟨⟨Dm,Dm⟩, ?_⟩;refine Z ?_;refine ⟨JDp (l.getD i Jd),JiY rfl rfl (by first | trivial | exact ⟨rfl,Nat.le_of_ble_eq_true rfl⟩), ?_⟩;refine Z ?_;refine ⟨⟨Dm,Dm⟩, ?_⟩;refine Z ?_;refine ⟨⟨Dm,Dm⟩, ?_⟩;refine Z ?_;rcases oi with _ | id
   ·obtain rfl:=h4 rfl;refine ⟨_,JbB (e:=80) (c:=8) (pm:= []) (n:=0) (oi:=none) (sz:=8) (f:=fun j=> Jfd (l.getD j Jd)) (HB.refl _) rfl rfl rfl (.inr ⟨_,rfl⟩) Kr Kr Kr (.inr rfl) Kr (List.append_nil _).symm (JM rfl) (by rw [JkK];omega) Om,fun r h' hr=> ?_⟩;obtain ⟨rfl,rfl⟩:=hr;refine Z ?_;refine back (0+1,some nx2,nx2+1) ⟨Dm,(fun h=> by cases h)⟩ Dm (Et (pm:= [((0,nx2),(0+1) * 8)]) rfl rfl Tt ⟨rfl,rfl,Tt⟩ ⟨Rf,(AVle.os_fun (Jbw (fun k hk=> absurd hk (Nat.not_lt_zero k)) ?_)).trans (AVle.os_nm rfl),Jf (Jx Dm),Tt⟩);rfl
   ·refine ⟨_,JbB (e:=80) (c:=8) (pm:= []) (n:=i) (oi:=some (0,id)) (sz:=8) (f:=fun j=> Jfd (l.getD j Jd)) (HB.refl _) rfl rfl rfl (.inr ⟨_,rfl⟩) Kr Kr Kr (.inr rfl) Kr (List.append_nil _).symm (JM rfl) (by rw [JkK];omega) Om,fun r h' hr=> ?_⟩;obtain ⟨rfl,rfl⟩:=hr;refine Z ?_;refine back (i+1,some nx2,nx2+1) ⟨Dm,(fun h=> by cases h)⟩ Dm (Et (pm:= [((0,nx2),(i+1) * 8)]) rfl rfl Tt ⟨rfl,rfl,Tt⟩ ⟨Rf,(AVle.os_fun (Jbw (fun k hk=> rfl) ?_)).trans (AVle.os_nm rfl),Jf (Jx Dm),Tt⟩);rfl
theorem JwT (l:List TRow) (hl:l.length≤maxLen) (hn:∀r∈l,r.name.size≤maxLen):Tells Tryz.prog 6 [JS l] (Ji (JlU l)):=by
 refine Jc Tryz.func6 rfl rfl fun nx=> ?_
 refine Z ?_
 by_cases hf:l.length≤40
 rotate_left
 ·refine Z ?_;intro c h1;cases c
  ·exact absurd (Jw h1) Bo
  refine Z ?_;exact Jb rfl (JN (by unfold JlU;rw [decide_eq_false hf];rfl))
 ·refine Z ?_;intro c h1;cases c
  rotate_left
  ·exact absurd (Ju h1) Bo
  refine Z ?_;refine Js (fun s:Nat×Nat=> mk 20 [(0,JS l),(3,int s.1)] ⟨[], [],s.2,0⟩) (fun s=> s.1≤l.length∧∀j,j < s.1→(l.getD j Jd).name.size≤60) (fun s=> l.length - s.1) ?_ ?_
  ·exact ⟨(0,nx),⟨Nat.zero_le _,fun j hj=> absurd hj (Nat.not_lt_zero j)⟩,JaM rfl rfl Y2⟩
  ·rintro ⟨i,nx2⟩ ⟨h3,h4⟩;dsimp only at h3 h4;refine Z ?_;intro c h5;cases c
   ·have h6:=Jw h5;dsimp only at h6;obtain rfl:i=l.length:=(by omega);refine Z ?_;refine Jb rfl (JN ?_);unfold JlU;rw [decide_eq_true hf]
    symm
    simp only [Bool.true_and,Bool.not_eq_true',List.any_eq_false,decide_eq_true_eq];intro r hr;obtain ⟨j,hj,rfl⟩:=List.mem_iff_getElem.1 hr;have:=h4 j hj;simp [List.getD,hj] at this;omega
   ·have h6:=Ju h5;dsimp only at h6;have hi:i < l.length:=(by omega);have hnm:=hn (l.getD i Jd) (by simp [List.getD,hi]);refine Z ?_;refine ⟨⟨Dm,Dm⟩, ?_⟩;refine Z ?_;intro c h7;cases c
    ·have h7:=Jw h7;dsimp only at h7;rw [Int.toNat_natCast] at h7;refine Z ?_;exact back (i+1,nx2) ⟨hi,fun j hj=> by dsimp only at hj;rcases Nat.lt_or_ge j i with q | q;exact h4 j q;rw [show j=i by omega];omega⟩ Dm (JaM rfl rfl ⟨Rf,Jf (Jx Dm),Tt⟩)
    ·have h7:=Ju h7;dsimp only at h7;rw [Int.toNat_natCast] at h7;refine Z ?_;refine Jb rfl (JN ?_);unfold JlU
     symm
     rw [Bool.and_eq_false_iff]
     right
     simp only [Bool.not_eq_false',List.any_eq_true,decide_eq_true_eq];exact ⟨l.getD i Jd,by simp [List.getD,hi],Om⟩
theorem JwU {p:Pol} (h:Jgw p=true):p.rules.length≤40∧∀r∈p.rules,r.conds.length≤12∧r.name.size≤1000000:=by
 unfold Jgw Jfb at h
 simp only [Bool.and_eq_true,decide_eq_true_eq,List.all_eq_true] at h
 exact ⟨h.1,fun r hr=> by have:=h.2 r hr;exact ⟨this.2,Om⟩⟩
theorem JBm (l:List Itm):NoId (JaN l):=NoId.sl fun i _ c hc=> by
 generalize l.getD i it0=x at hc
 unfold itA at hc
 simp [AV.cells] at hc
 rcases hc with rfl | rfl | rfl | rfl | rfl <;> exact NoId.v _
end Go.Proofs.W
