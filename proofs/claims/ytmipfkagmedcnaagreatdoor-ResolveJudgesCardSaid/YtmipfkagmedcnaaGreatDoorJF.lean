import Derived.Test.YtmipfkagmedcnaaGreatDoorJD
import Derived.Test.YtmipfkagmedcnaaGreatDoorJE
import Derived.Shelf.SlSortCmp.WholeK
import Derived.Shelf.Small.Bits
import Derived.Shelf.Lay
import Derived.Ground.SlsfProg
import Derived.Ground.SlgcProg
import Derived.Ground.NamesProg
import Derived.Lib.Walk
import Derived.Test.YtmipfkagmedcnaaGreatDoorJC
import Derived.Lib.ItoaMem
import Derived.Sort.WalkA
import Derived.Shelf.Strings.OnBuilder
import Derived.Shelf.SlicesG.CompactS
import Derived.Ground.SlgnProg
set_option linter.unusedVariables false
set_option linter.unusedSimpArgs false
namespace Go.Proofs
open Go.Shelf Go.RowKit Go.Lib Go.Sort
shelf_lay_g SlLaysF0.n6 Slsf 6 at Tryz 51 as Tryz.sortEnt
shelf_lay_g SlLaysF0.n6 Slsf 6 at Tryz 54 as Tryz.sortSub
namespace W
theorem Jxr (x:Nat) (w:World):Calls Tryz.prog 121 #[.int .u32 x] w fun e w'=> e= .returned (.bool false)∧w'=w:=by
 go_enter Tryz.func121,Tryz.ntmps121
 go_wp2
 go_ret
 exact ⟨by simp,rfl⟩
set_option maxHeartbeats 1000000 in
theorem JmP (x y:Nat) (w:World):Calls Tryz.prog 53 #[.int .u32 x, .int .u32 y] w fun e w'=> e= .returned (.int .i64 (Lib.compareInt x y))∧w'=w:=by
 go_enter Tryz.func53,Tryz.ntmps53
 go_wp2_with (go_at_call 121;refine (Jxr _ _).mono ?_;rintro e w' ⟨rfl,hw⟩;rw [hw])
 all_goals (go_ret;refine ⟨?_,rfl⟩;unfold Lib.compareInt;(repeat' split) <;> first | rfl | (exfalso;omega))
set_option maxHeartbeats 1000000 in
theorem Jyl (k1 k2:Nat) (v1 v2:Value) (W:World):Calls Tryz.prog 52 #[.agg #[.int .u32 k1,v1], .agg #[.int .u32 k2,v2]] W fun e w'=> e= .returned (.int .i64 (Lib.compareInt k1 k2))∧∃q os',w'=grow (W.drewN q) os':=by
 have hcon:=fun W'=> JmP k1 k2 W'
 generalize Lib.compareInt k1 k2=r at hcon⊢
 go_enter Tryz.func52,Tryz.ntmps52
 go_wp2_with (go_at_call 53;refine (hcon _).mono ?_;rintro e w' ⟨rfl,rfl⟩)
 go_ret
 exact ⟨rfl,0,_,by rw [alloc_eq_grow,alloc_eq_grow,grow_grow];rfl⟩
set_option maxHeartbeats 1000000 in
theorem Jym (k1 k2:Nat) (v1 v2:Value) (W:World):Calls Tryz.prog 55 #[.agg #[.int .u32 k1,v1], .agg #[.int .u32 k2,v2]] W fun e w'=> e= .returned (.int .i64 (Lib.compareInt k1 k2))∧∃q os',w'=grow (W.drewN q) os':=by
 have hcon:=fun W'=> JmP k1 k2 W'
 generalize Lib.compareInt k1 k2=r at hcon⊢
 go_enter Tryz.func55,Tryz.ntmps55
 go_wp2_with (go_at_call 53;refine (hcon _).mono ?_;rintro e w' ⟨rfl,rfl⟩)
 go_ret
 exact ⟨rfl,0,_,by rw [alloc_eq_grow,alloc_eq_grow,grow_grow];rfl⟩
open Go.Vl
theorem JdL {D:List (Nat×AV)} {tl:List AV} {nm s cap nx nn:Nat} (hone:∀x∈D,Jcb x.2=true) (hl:D.length < 4611686018427387904):
 ECall Tryz.prog 51 [.hs (nm,s) 0 D.length cap, .fn (.func 52) [] []] ⟨[((nm,s), .c (Jy D++tl))], [],nx,nn⟩
  fun r h'=> r= .tup []∧∃cs',(∃D',D'.Perm D∧D'.Pairwise (fun a b=> a.1≤b.1)∧cs'=Jy D')∧h'=⟨[((nm,s), .c (cs'++tl))], [],nx,nn⟩:=by
 have eg:∀args w,(callFunc 52 args).run Tryz.prog w= .ok (.enter 52 args) w:=enters_of Tryz.func52 (by kernel_rfl) rfl
 refine Jjd ⟨_,Tryz.func51,rfl,rfl⟩ hone fun d w blk hd hH hb=> ?_
 exact AnyQ.slices_SortFunc Tryz.sortEnt 2 Tryz.isAgg78 Tryz.sizeOf78 KX.enc (fun _=> rfl) KX.one KX.cmp KX.swo 52 #[] blk 0 cap d w eg (fun _ _ _ _ x y=> Jyl _ _ _ _ _) hH hb Om
theorem Jim {D:List (Nat×AV)} {tl:List AV} {nm s cap nx nn:Nat} (hone:∀x∈D,Jcb x.2=true) (hl:D.length < 4611686018427387904):
 ECall Tryz.prog 54 [.hs (nm,s) 0 D.length cap, .fn (.func 55) [] []] ⟨[((nm,s), .c (Jy D++tl))], [],nx,nn⟩
  fun r h'=> r= .tup []∧∃cs',(∃D',D'.Perm D∧D'.Pairwise (fun a b=> a.1≤b.1)∧cs'=Jy D')∧h'=⟨[((nm,s), .c (cs'++tl))], [],nx,nn⟩:=by
 have eg:∀args w,(callFunc 55 args).run Tryz.prog w= .ok (.enter 55 args) w:=enters_of Tryz.func55 (by kernel_rfl) rfl
 refine Jjd ⟨_,Tryz.func54,rfl,rfl⟩ hone fun d w blk hd hH hb=> ?_
 exact AnyQ.slices_SortFunc Tryz.sortSub 2 Tryz.isAgg120 Tryz.sizeOf120 KX.enc (fun _=> rfl) KX.one KX.cmp KX.swo 55 #[] blk 0 cap d w eg (fun _ _ _ _ x y=> Jym _ _ _ _ _) hH hb Om
set_option maxRecDepth 100000
theorem Jyn (n:Nat):Tells Tryz.prog 200 [Je0 2,int 0,int 0,fn0 n] (.tup []):=by
 refine Jf Tryz.func200 rfl rfl fun nx=> ?_
 refine stp ?_
 refine JeZ ?_
 refine stp ?_
 exact Jd rfl Rf
theorem Jyo (n:Nat):Tells Tryz.prog 119 [Je0 2,int 0,int 0,int 0,fn0 n] (.tup []):=by
 refine Jf Tryz.func119 rfl rfl fun nx=> ?_
 refine stp ?_
 refine JeZ ?_
 refine stp ?_
 refine Je rfl rfl (Jyn n) ⟨Rf,Rf,Rf,Rf,trivial⟩ fun nx=> ?_
 refine stp ?_
 exact Jd rfl Rf
theorem Jea (n:Nat):Tells Tryz.prog 51 [Je0 2,fn0 n] (.tup []):=by
 refine Jf Tryz.func51 rfl rfl fun nx=> ?_
 refine stp ?_
 refine Je rfl rfl Jsf ⟨Rf,trivial⟩ fun nx=> ?_
 refine stp ?_
 refine Je rfl rfl (Jyo n) ⟨Rf,Rf,Rf,Rf,Rf,trivial⟩ fun nx=> ?_
 refine stp ?_
 exact Jd rfl Rf
theorem Jyp (n:Nat):Tells Tryz.prog 210 [Je0 2,int 0,int 0,fn0 n] (.tup []):=by
 refine Jf Tryz.func210 rfl rfl fun nx=> ?_
 refine stp ?_
 refine JeZ ?_
 refine stp ?_
 exact Jd rfl Rf
theorem Jyq (n:Nat):Tells Tryz.prog 122 [Je0 2,int 0,int 0,int 0,fn0 n] (.tup []):=by
 refine Jf Tryz.func122 rfl rfl fun nx=> ?_
 refine stp ?_
 refine JeZ ?_
 refine stp ?_
 refine Je rfl rfl (Jyp n) ⟨Rf,Rf,Rf,Rf,trivial⟩ fun nx=> ?_
 refine stp ?_
 exact Jd rfl Rf
theorem Jjt (n:Nat):Tells Tryz.prog 54 [Je0 2,fn0 n] (.tup []):=by
 refine Jf Tryz.func54 rfl rfl fun nx=> ?_
 refine stp ?_
 refine Je rfl rfl Jsf ⟨Rf,trivial⟩ fun nx=> ?_
 refine stp ?_
 refine Je rfl rfl (Jyq n) ⟨Rf,Rf,Rf,Rf,Rf,trivial⟩ fun nx=> ?_
 refine stp ?_
 exact Jd rfl Rf
end W
end Go.Proofs

namespace Go.Proofs.W
open Go.Vl
set_option maxRecDepth 100000
theorem JbZ (a:Nat) (z:Int) (h0:0≤z) (h:z < 1073741824):Tells Tryz.prog 49 [int a,u32 z] (u32 (Jat a z:Nat)):=by
 obtain ⟨n,rfl⟩:∃n:Nat,z=n:=⟨z.toNat,by omega⟩
 have hb:Jca .or .u32 (n:Int) 1073741824=((n||| 1073741824:Nat):Int):=by
  have hlt:n||| 1073741824 < 2 ^ 32:=Nat.or_lt_two_pow Om Dc
  exact JwO (k:= .u32) (a:=n) (b:=1073741824) (by show n < 2 ^ 32;omega) Dc (by simp [IntKind.wrap,IntKind.signed,IntKind.bits] at hlt⊢;omega)
 refine Jf Tryz.func49 rfl rfl fun nx=> ?_
 unfold Jat
 refine stp ?_
 intro c e;cases c
 ·have e1:¬a=1:=fun h=> by subst h;cases e
  rw [if_neg e1]
  refine stp ?_
  exact Jd rfl Rf
 ·have e1:a=1:=by
   have:=of_decide_eq_true (p:=(a:Int)=1) e.symm
   omega
  rw [if_pos e1]
  refine stp ?_
  exact Jd rfl (AVle.of_eq (congrArg u32 hb))
abbrev JZ:=List (Nat×AV)×Option (Nat×Nat×List AV)
def Ja (nm:Nat):JZ→AV
 | (_,none)=> .os 0 0 (fun _=> .any) none
 | (R,some (s,cap,_))=> .hs (nm,s) 0 R.length cap
def JaM (nm:Nat):JZ→List (Vl.Id×Own)
 | (_,none)=> []
 | (R,some (s,_,tl))=> [((nm,s), .c (Jy R++tl))]
def JbN:JZ→Prop
 | (R,none)=> R= []
 | (R,some (_,cap,tl))=> R.length≤cap∧cap * 2≤R.length * 2+tl.length
def JE (st:Nat→JZ):List (Vl.Id×Own):=(List.range 7).flatMap fun j=> JaM (10+j) (st j)
def Jn (k:Nat) (st:Nat→JZ):List (Vl.Id×Own):=((List.range 7).filter (·≠k)).flatMap fun j=> JaM (10+j) (st j)
def Jq (d:Nat) (x:Bool) (st:Nat→JZ):List AV:= [u32 (d:Nat),Jb x,Ja 10 (st 0),Ja 11 (st 1),Ja 12 (st 2),Ja 13 (st 3),Ja 14 (st 4),Ja 15 (st 5),Ja 16 (st 6)]
def Jz (st:Nat→JZ) (k:Nat) (r:JZ):Nat→JZ:=fun j=> if j=k then r else st j
theorem Jdj {k:Nat} (hk:k < 7) (st:Nat→JZ):(JE st).Perm (JaM (10+k) (st k)++Jn k st):=by
 unfold JE Jn
 have h:(List.range 7).Perm (k::(List.range 7).filter (·≠k)):=by
  have:k=0∨k=1∨k=2∨k=3∨k=4∨k=5∨k=6:=by omega
  rcases this with rfl | rfl | rfl | rfl | rfl | rfl | rfl <;> decide
 exact (h.flatMap_right _).trans (.of_eq (List.flatMap_cons ..))
theorem Jxs {k:Nat} (st:Nat→JZ) (r:JZ):Jn k (Jz st k r)=Jn k st:=by
 unfold Jn
 rw [List.flatMap_def,List.flatMap_def]
 refine congrArg List.flatten (List.map_congr_left fun j hj=> ?_)
 have:j≠k:=by simpa using (List.mem_filter.1 hj).2
 unfold Jz
 rw [if_neg this]
theorem JjT {k:Nat} (hk:k < 7) (st:Nat→JZ) (r:JZ):(JE (Jz st k r)).Perm (JaM (10+k) r++Jn k st):=by
 have h:=Jdj hk (Jz st k r)
 rw [Jxs] at h
 unfold Jz at h
 rwa [if_pos rfl] at h
theorem BxLe.of_eq {a b:List (Vl.Id×Own)} (h:a=b):BxLe a b:=h ▸ Bf
theorem Jb2 {k:Nat} {st:Nat→JZ} {r:JZ} (h:∀j,j < 7→JbN (st j)) (hr:JbN r):∀j,j < 7→JbN (Jz st k r j):=fun j hj=> by
 unfold Jz
 split
 ·exact hr
 ·exact h j hj
theorem Jju (R:List (Nat×AV)) (e:Nat×AV):Jy (R++ [e])=Jy R++ [.v (.int .u32 e.1),e.2]:=by
 unfold Jy;rw [List.flatMap_append];rfl
def JdM (e:PEnt):Nat×AV:=(e.num,Jw e.rules)
def Jah (s:PSub):Nat×AV:=(s.num,u32 (s.code:Nat))
theorem JaB {a d:Nat} {x:Bool} {row:TRow} {rs:List PRul} (h:row.num a < 0∨(a=1∧x=false)∨Jaj a rs d= []):Jav a d x row rs= []:=if_pos h
theorem Jco {a d:Nat} {x:Bool} {row:TRow} {rs:List PRul} (h1:¬row.num a < 0) (h2:¬(a=1∧x=false)) (h3:Jaj a rs d≠ []):Jav a d x row rs= [⟨Jat a (row.num a),Jaj a rs d⟩]:=if_neg fun h=> h.elim h1 fun h=> h.elim h2 h3
theorem JaK {k d:Nat} {x:Bool} {row:TRow} {rs:List PRul} {st st1:Nat→JZ} (h:∀j,j < k→(st1 j).1=(st j).1++(Jav j d x row rs).map JdM) (hk:st1 k=st k) (he:Jav k d x row rs= []):∀j,j < k+1→(st1 j).1=(st j).1++(Jav j d x row rs).map JdM:=fun j hj=> by
 rcases Nat.lt_or_ge j k with h1 | h1
 ·exact h j h1
 ·obtain rfl:j=k:=by omega
  rw [he,hk];exact (List.append_nil _).symm
theorem JcF {z:Int} (h0:0≤z) (h:z < 1073741824):IntKind.u32.wrap z=z:=by
 simp [IntKind.wrap,IntKind.signed,IntKind.bits];omega
theorem Jeb:Jbm Tryz.prog 78=true:=by kernel_rfl
theorem gc_ent:Tryz.prog.cellsOf 78=2:=by kernel_rfl
theorem Jec:Tryz.prog.bytesOf 78=32:=by kernel_rfl
theorem Jk1:Jbm Tryz.prog 120=true:=by kernel_rfl
theorem gc_sub:Tryz.prog.cellsOf 120=2:=by kernel_rfl
theorem Jk2:Tryz.prog.bytesOf 120=8:=by kernel_rfl
theorem JdR {f':Nat→AV} {e:Nat×AV} {m:Nat} {T:TypeId} (hT:Tryz.prog.cellsOf T=2) (h:JO 1 f'= [.v (.int .u32 e.1),e.2]):OwnLe (.c (JO 1 f'++List.replicate (m * Tryz.prog.cellsOf T) .any)) (.c (Jy [e]++List.replicate (m * 2) .any)):=by
 rw [hT,h];exact OwnLe.refl _
theorem Jgp {f':Nat→AV} {e:Nat×AV} {R:List (Nat×AV)} {tl:List AV} {T:TypeId} (hT:Tryz.prog.cellsOf T=2) (h:JO 1 f'= [.v (.int .u32 e.1),e.2]):OwnLe (.c (Jas (Jy R++tl) (R.length * Tryz.prog.cellsOf T) (JO 1 f'))) (.c (Jy (R++ [e])++tl.drop 2)):=by
 have e1:Jas (Jy R++tl) (R.length * Tryz.prog.cellsOf T) (JO 1 f')=Jy (R++ [e])++tl.drop 2:=by
  rw [hT,h,show R.length * 2=(Jy R).length+0 by rw [Jby];rfl,JfM,Jju,JaV]
  simp
 rw [e1];exact OwnLe.refl _
theorem Jep {f':Nat→AV} {e:Nat×AV} {R:List (Nat×AV)} {tl:List AV} {m:Nat} {T:TypeId} (hT:Tryz.prog.cellsOf T=2) (h:JO 1 f'= [.v (.int .u32 e.1),e.2]):OwnLe (.c ((Jy R++tl).take (R.length * Tryz.prog.cellsOf T)++JO 1 f'++List.replicate (m * Tryz.prog.cellsOf T) .any)) (.c (Jy (R++ [e])++List.replicate (m * 2) .any)):=by
 have e1:(Jy R++tl).take (R.length * Tryz.prog.cellsOf T)=Jy R:=by
  rw [hT,← Jby,List.take_left]
 rw [e1,hT,h,Jju];exact OwnLe.refl _
theorem Jbf {a b s:Nat} {R:List (Nat×AV)} {e:Nat×AV} {cap:Nat}:AVle (.hs (a,s) 0 (R.length+1) cap) (.hs (b,s) 0 (R++ [e]).length cap):=by
 rw [List.length_append];exact AVle.hs_nm rfl
theorem JbS {k:Nat} (hk:k < 7) {n nx nn:Nat} {L:List (Nat×AV)} {F:List (Vl.Id×Own)} {st:Nat→JZ} {r:JZ} {df:Option (List DA)}:ELe (mk n L ⟨F++(JaM (10+k) r++Jn k st), [],nx,nn⟩ df) (mk n L ⟨F++JE (Jz st k r), [],nx,nn⟩ df):=
 Jf8 (E:=mk n L ⟨F++(JaM (10+k) r++Jn k st), [],nx,nn⟩ df) (h':=⟨F++JE (Jz st k r), [],nx,nn⟩) ⟨(List.Perm.append_left _ (JjT hk st r)).map _, .refl _,rfl⟩
theorem Jbj {k d:Nat} {x:Bool} {row:TRow} {rs:List PRul} {st st1:Nat→JZ} {R:List (Nat×AV)} {md:Option (Nat×Nat×List AV)} {z:Nat} {W:List PRul} {md':Option (Nat×Nat×List AV)} (h:∀j,j < k→(st1 j).1=(st j).1++(Jav j d x row rs).map JdM) (hk:st1 k=st k) (hR:st1 k=(R,md)) (he:Jav k d x row rs= [⟨z,W⟩]):∀j,j < k+1→(Jz st1 k (R++ [(z,Jw W)],md') j).1=(st j).1++(Jav j d x row rs).map JdM:=fun j hj=> by
 unfold Jz
 rcases Nat.lt_or_ge j k with h1 | h1
 ·rw [if_neg Om];exact h j h1
 ·obtain rfl:j=k:=by omega
  rw [if_pos rfl,he,← hk,hR];rfl
theorem Jbk {k:Nat} {st st1:Nat→JZ} {r:JZ} (h:∀j,k≤j→st1 j=st j):∀j,k+1≤j→Jz st1 k r j=st j:=fun j hj=> by
 unfold Jz
 rw [if_neg Om];exact h j Om
theorem bx4 {i1 i2 i3 i4 i5:Vl.Id} {o1 o2 o2' o3 o4 o4':Own} {R:List (Vl.Id×Own)} (h4:i4.2=i5.2) (h2:OwnLe o2 o2') (h:OwnLe o4 o4'):BxLe ([(i1,o1),(i2,o2),(i3,o3)]++((i4,o4)::R)) ([(i1,o1),(i2,o2'),(i3,o3)]++([(i5,o4')]++R)):=
 show BxLe ((i1,o1)::(i2,o2)::(i3,o3)::(i4,o4)::R) ((i1,o1)::(i2,o2')::(i3,o3)::(i5,o4')::R) from ⟨rfl,OwnLe.refl _,rfl,h2,rfl,OwnLe.refl _,h4,h,Bf⟩
theorem JlL {d:Nat} {x:Bool} {st:Nat→JZ} {r:JZ} {av:AV} (h:AVle av (Ja 10 r)):OwnLe (.c [u32 (d:Nat),Jb x,av,Ja 11 (st 1),Ja 12 (st 2),Ja 13 (st 3),Ja 14 (st 4),Ja 15 (st 5),Ja 16 (st 6)]) (.c (Jq d x (Jz st 0 r))):=by
 rw [show Jq d x (Jz st 0 r)= [u32 (d:Nat),Jb x,Ja 10 r,Ja 11 (st 1),Ja 12 (st 2),Ja 13 (st 3),Ja 14 (st 4),Ja 15 (st 5),Ja 16 (st 6)] from rfl]
 exact ⟨Rf,Rf,h,Rf,Rf,Rf,Rf,Rf,Rf,trivial⟩
theorem JlM {d:Nat} {x:Bool} {st:Nat→JZ} {r:JZ} {av:AV} (h:AVle av (Ja 11 r)):OwnLe (.c [u32 (d:Nat),Jb x,Ja 10 (st 0),av,Ja 12 (st 2),Ja 13 (st 3),Ja 14 (st 4),Ja 15 (st 5),Ja 16 (st 6)]) (.c (Jq d x (Jz st 1 r))):=by
 rw [show Jq d x (Jz st 1 r)= [u32 (d:Nat),Jb x,Ja 10 (st 0),Ja 11 r,Ja 12 (st 2),Ja 13 (st 3),Ja 14 (st 4),Ja 15 (st 5),Ja 16 (st 6)] from rfl]
 exact ⟨Rf,Rf,Rf,h,Rf,Rf,Rf,Rf,Rf,trivial⟩
theorem JlN {d:Nat} {x:Bool} {st:Nat→JZ} {r:JZ} {av:AV} (h:AVle av (Ja 12 r)):OwnLe (.c [u32 (d:Nat),Jb x,Ja 10 (st 0),Ja 11 (st 1),av,Ja 13 (st 3),Ja 14 (st 4),Ja 15 (st 5),Ja 16 (st 6)]) (.c (Jq d x (Jz st 2 r))):=by
 rw [show Jq d x (Jz st 2 r)= [u32 (d:Nat),Jb x,Ja 10 (st 0),Ja 11 (st 1),Ja 12 r,Ja 13 (st 3),Ja 14 (st 4),Ja 15 (st 5),Ja 16 (st 6)] from rfl]
 exact ⟨Rf,Rf,Rf,Rf,h,Rf,Rf,Rf,Rf,trivial⟩
theorem JlO {d:Nat} {x:Bool} {st:Nat→JZ} {r:JZ} {av:AV} (h:AVle av (Ja 13 r)):OwnLe (.c [u32 (d:Nat),Jb x,Ja 10 (st 0),Ja 11 (st 1),Ja 12 (st 2),av,Ja 14 (st 4),Ja 15 (st 5),Ja 16 (st 6)]) (.c (Jq d x (Jz st 3 r))):=by
 rw [show Jq d x (Jz st 3 r)= [u32 (d:Nat),Jb x,Ja 10 (st 0),Ja 11 (st 1),Ja 12 (st 2),Ja 13 r,Ja 14 (st 4),Ja 15 (st 5),Ja 16 (st 6)] from rfl]
 exact ⟨Rf,Rf,Rf,Rf,Rf,h,Rf,Rf,Rf,trivial⟩
theorem JlP {d:Nat} {x:Bool} {st:Nat→JZ} {r:JZ} {av:AV} (h:AVle av (Ja 14 r)):OwnLe (.c [u32 (d:Nat),Jb x,Ja 10 (st 0),Ja 11 (st 1),Ja 12 (st 2),Ja 13 (st 3),av,Ja 15 (st 5),Ja 16 (st 6)]) (.c (Jq d x (Jz st 4 r))):=by
 rw [show Jq d x (Jz st 4 r)= [u32 (d:Nat),Jb x,Ja 10 (st 0),Ja 11 (st 1),Ja 12 (st 2),Ja 13 (st 3),Ja 14 r,Ja 15 (st 5),Ja 16 (st 6)] from rfl]
 exact ⟨Rf,Rf,Rf,Rf,Rf,Rf,h,Rf,Rf,trivial⟩
theorem JlQ {d:Nat} {x:Bool} {st:Nat→JZ} {r:JZ} {av:AV} (h:AVle av (Ja 15 r)):OwnLe (.c [u32 (d:Nat),Jb x,Ja 10 (st 0),Ja 11 (st 1),Ja 12 (st 2),Ja 13 (st 3),Ja 14 (st 4),av,Ja 16 (st 6)]) (.c (Jq d x (Jz st 5 r))):=by
 rw [show Jq d x (Jz st 5 r)= [u32 (d:Nat),Jb x,Ja 10 (st 0),Ja 11 (st 1),Ja 12 (st 2),Ja 13 (st 3),Ja 14 (st 4),Ja 15 r,Ja 16 (st 6)] from rfl]
 exact ⟨Rf,Rf,Rf,Rf,Rf,Rf,Rf,h,Rf,trivial⟩
theorem JlR {d:Nat} {x:Bool} {st:Nat→JZ} {r:JZ} {av:AV} (h:AVle av (Ja 16 r)):OwnLe (.c [u32 (d:Nat),Jb x,Ja 10 (st 0),Ja 11 (st 1),Ja 12 (st 2),Ja 13 (st 3),Ja 14 (st 4),Ja 15 (st 5),av]) (.c (Jq d x (Jz st 6 r))):=by
 rw [show Jq d x (Jz st 6 r)= [u32 (d:Nat),Jb x,Ja 10 (st 0),Ja 11 (st 1),Ja 12 (st 2),Ja 13 (st 3),Ja 14 (st 4),Ja 15 (st 5),Ja 16 r] from rfl]
 exact ⟨Rf,Rf,Rf,Rf,Rf,Rf,Rf,Rf,h,trivial⟩
def Jsu (d:Nat) (x:Bool) (row:TRow) (rs:List PRul) (st st':Nat→JZ):Prop:=(∀j,j < 7→JbN (st' j))∧(∀k,k < 5→(st' k).1=(st k).1++(Jav k d x row rs).map JdM)∧∀m,m < 2→(st' (5+m)).1=(st (5+m)).1++(Jbq m row rs).map Jah
theorem Jf2 {m d:Nat} {x:Bool} {row:TRow} {rs:List PRul} {st st1:Nat→JZ} {R:List (Nat×AV)} {md md':Option (Nat×Nat×List AV)} {q:PSub} (hm:m < 2) (hok1:∀j,j < 7→JbN (st1 j)) (hdone:∀k,k < 5→(st1 k).1=(st k).1++(Jav k d x row rs).map JdM)
 (hrest:∀j,j < 2→st1 (5+j)=st (5+j)) (hR:st1 (5+m)=(R,md)) (hrow:JbN (R++ [Jah q],md')) (hs:Jbq m row rs= [q]) (ho:∀j,j < 2→j≠m→Jbq j row rs= []):Jsu d x row rs st (Jz st1 (5+m) (R++ [Jah q],md')):=by
 refine ⟨Jb2 hok1 hrow,fun k hk=> ?_,fun j hj=> ?_⟩
 ·unfold Jz;rw [if_neg Om];exact hdone k hk
 ·unfold Jz
  by_cases h:j=m
  ·subst h
   rw [if_pos rfl,hs,← hrest j hj,hR];rfl
  ·rw [if_neg Om,ho j hj h,hrest j hj];exact (List.append_nil _).symm
theorem Jew {h:Heap} {bx:List (Vl.Id×Own)} {nx nn:Nat} (bx'' bx':List (Vl.Id×Own)) (hx:h.nx=nx) (h0:bx''.Perm h.bx) (hb:bx'.Sublist bx'') (hp:h.pm= []) (eb:BxLe bx' bx):HLe h ⟨bx, [],nx,nn⟩:=
 HLe.trans (JjC (h':=⟨bx'',h.pm,h.nx,h.nn⟩) ⟨h0.map _, .refl _,rfl⟩) (JM bx' [] hx hb (List.nil_sublist _) eb trivial)
theorem Jf3 {k:Nat} (hk:k < 7) {nx nn:Nat} {F:List (Vl.Id×Own)} {st:Nat→JZ} {r:JZ}:HLe ⟨F++(JaM (10+k) r++Jn k st), [],nx,nn⟩ ⟨F++JE (Jz st k r), [],nx,nn⟩:=
 JjC ⟨(List.Perm.append_left _ (JjT hk st r)).map _, .refl _,rfl⟩
theorem bx3 {i2 i3 i4 i5:Vl.Id} {o2 o2' o3 o4 o4':Own} {R:List (Vl.Id×Own)} (h4:i4.2=i5.2) (h2:OwnLe o2 o2') (h:OwnLe o4 o4'):BxLe ([(i2,o2),(i3,o3)]++((i4,o4)::R)) ([(i2,o2'),(i3,o3)]++([(i5,o4')]++R)):=
 show BxLe ((i2,o2)::(i3,o3)::(i4,o4)::R) ((i2,o2')::(i3,o3)::(i5,o4')::R) from ⟨rfl,h2,rfl,OwnLe.refl _,h4,h,Bf⟩
set_option maxHeartbeats 8000000 in
theorem Jsv (dk dn:Int) (x:Bool) (ps:List Rul) (d:Nat) (row:TRow) (rs:List PRul) (s0 s1 nx0:Nat) (st:Nat→JZ) (hok:∀j,j < 7→JbN (st j)) (hlen:∀j,j < 7→(st j).1.length≤1000000)
 (hn:∀k,row.num k < 1073741824) (hm:row.mux=0∨row.mux=1∨row.mux=2) (hs:0≤row.sub∧row.sub≤255) (hr:rs≠ []) (hl:rs.length≤1000000) (hc:∀r∈rs,r.conds.length≤1000000∧∀c∈r.conds,c.ok):
 ECall Tryz.prog 47 [Js row,Jw rs, .bp (0,s0) 0, .bp (1,s1) 0] ⟨[((1,s1), .c (Jq d x st)),((0,s0), .c [int dk,int dn,Jb x,Ji ps])]++JE st, [],nx0,20⟩
  fun r h'=> r= .tup []∧∃st' nx' nn',Jsu d x row rs st st'∧h'=⟨[((1,s1), .c (Jq d x st')),((0,s0), .c [int dk,int dn,Jb x,Ji ps])]++JE st', [],nx',nn'⟩:=by
 obtain ⟨nm,a0,a1,a2,a3,a4,mux,sub⟩:=row
 refine ECall.wk (J0 Tryz.func47 rfl rfl ?_)
 refine stp ?_
 refine JdT (fun y:(Nat→JZ)×Nat=> mk 75 [(1,Jw rs),(2, .bp (0,s0) 0),(3, .bp (1,s1) 0),(4, .bp (20,nx0) 0)] ⟨[((20,nx0), .c [Jh nm,int a0,int a1,int a2,int a3,int a4,int mux,int sub]),((1,s1), .c (Jq d x y.1)),((0,s0), .c [int dk,int dn,Jb x,Ji ps])]++JE y.1, [],y.2,21⟩) (fun y=> (∀j,j < 7→JbN (y.1 j))∧(∀k,k < 5→(y.1 k).1=(st k).1++(Jav k d x ⟨nm,a0,a1,a2,a3,a4,mux,sub⟩ rs).map JdM)∧∀m,m < 2→y.1 (5+m)=st (5+m)) ?_ ?_
 ·refine Jx (fun y:Nat×(Nat→JZ)×Nat=> mk 75 [(1,Jw rs),(2, .bp (0,s0) 0),(3, .bp (1,s1) 0),(4, .bp (20,nx0) 0),(9,int y.1)] ⟨[((20,nx0), .c [Jh nm,int a0,int a1,int a2,int a3,int a4,int mux,int sub]),((1,s1), .c (Jq d x y.2.1)),((0,s0), .c [int dk,int dn,Jb x,Ji ps])]++JE y.2.1, [],y.2.2,21⟩) (fun y=> y.1≤5∧(∀j,j < 7→JbN (y.2.1 j))∧(∀k,k < y.1→(y.2.1 k).1=(st k).1++(Jav k d x ⟨nm,a0,a1,a2,a3,a4,mux,sub⟩ rs).map JdM)∧∀j,y.1≤j→y.2.1 j=st j) (fun y=> 5 - y.1) ?_ ?_
  ·exact ⟨(0,st,nx0+1),⟨Nat.zero_le _,hok,fun k h=> absurd h (Nat.not_lt_zero _),fun j _=> rfl⟩,Et rfl rfl Bf trivial ⟨Rf,Rf,Rf,Rf,Rf,trivial⟩⟩
  ·rintro ⟨a,st1,nx2⟩ ⟨h1,hok1,hdone,hrest⟩
   dsimp only at h1 hok1 hdone hrest
   by_cases h5:a=5
   ·subst h5
    refine stp ?_
    exact ⟨(st1,nx2),⟨hok1,hdone,fun m hm=> hrest _ Om⟩,Et rfl rfl Bf trivial ⟨Rf,Rf,Rf,Rf,trivial⟩⟩
   ·rcases (by omega:a=0∨a=1∨a=2∨a=3∨a=4) with rfl | rfl | rfl | rfl | rfl
    ·have hP:=Jdj (k:=0) Dc st1
     have hrk:JbN (st1 0):=hok1 _ Dc
     have hrs:st1 0=st 0:=hrest _ (Nat.le_refl _)
     have hln:(st1 0).1.length≤1000000:=by rw [hrs];exact hlen _ Dc
     rcases hk:st1 0 with ⟨R,_ | ⟨s,cap,tl⟩⟩
     ·rw [hk] at hP hrk hln
      dsimp only at hln
      have eo:Jq d x st1= [u32 (d:Nat),Jb x, .os 0 0 (fun _=> .any) none,Ja 11 (st1 1),Ja 12 (st1 2),Ja 13 (st1 3),Ja 14 (st1 4),Ja 15 (st1 5),Ja 16 (st1 6)]:=by simp only [Jq,hk,Ja]
      refine AW.le (E':=mk 75 [(1,Jw rs),(2, .bp (0,s0) 0),(3, .bp (1,s1) 0),(4, .bp (20,nx0) 0),(9,int (0:Nat))] (⟨[((20,nx0), .c [Jh nm,int a0,int a1,int a2,int a3,int a4,int mux,int sub]),((1,s1), .c [u32 (d:Nat),Jb x, .os 0 0 (fun _=> .any) none,Ja 11 (st1 1),Ja 12 (st1 2),Ja 13 (st1 3),Ja 14 (st1 4),Ja 15 (st1 5),Ja 16 (st1 6)]),((0,s0), .c [int dk,int dn,Jb x,Ji ps])]++(Jn 0 st1), [],nx2,21⟩:Heap)) (Jo ([((20,nx0), .c [Jh nm,int a0,int a1,int a2,int a3,int a4,int mux,int sub]),((1,s1), .c (Jq d x st1)),((0,s0), .c [int dk,int dn,Jb x,Ji ps])]++(Jn 0 st1)) ([((20,nx0), .c [Jh nm,int a0,int a1,int a2,int a3,int a4,int mux,int sub]),((1,s1), .c (Jq d x st1)),((0,s0), .c [int dk,int dn,Jb x,Ji ps])]++(Jn 0 st1)) [] rfl rfl (List.Perm.append_left _ hP.symm) Sf Sf (BxLe.of_eq (by rw [eo])) trivial ⟨Rf,Rf,Rf,Rf,Rf,trivial⟩) ?_
      refine stp ?_
      intro c t1;cases c
      ·have t1:=Jt t1
       refine stp ?_
       refine Je rfl rfl (Jcn 0 rs d Dc hl hc) ⟨Rf,Rf,Rf,trivial⟩ fun nx3=> ?_
       refine stp ?_
       intro c t2;cases c
       ·have t2:=Jt t2
        refine stp ?_
        exact back (1,st1,nx3) ⟨by dsimp only;omega,hok1,JaK hdone hrs (JaB (.inr (.inr (List.eq_nil_of_length_eq_zero Om)))),fun j hj=> hrest j (by dsimp only at hj;omega)⟩ Dm (Jo ([((20,nx0), .c [Jh nm,int a0,int a1,int a2,int a3,int a4,int mux,int sub]),((1,s1), .c [u32 (d:Nat),Jb x, .os 0 0 (fun _=> .any) none,Ja 11 (st1 1),Ja 12 (st1 2),Ja 13 (st1 3),Ja 14 (st1 4),Ja 15 (st1 5),Ja 16 (st1 6)]),((0,s0), .c [int dk,int dn,Jb x,Ji ps])]++JE st1) ([((20,nx0), .c [Jh nm,int a0,int a1,int a2,int a3,int a4,int mux,int sub]),((1,s1), .c [u32 (d:Nat),Jb x, .os 0 0 (fun _=> .any) none,Ja 11 (st1 1),Ja 12 (st1 2),Ja 13 (st1 3),Ja 14 (st1 4),Ja 15 (st1 5),Ja 16 (st1 6)]),((0,s0), .c [int dk,int dn,Jb x,Ji ps])]++JE st1) [] rfl rfl (List.Perm.append_left _ hP) Sf Sf (BxLe.of_eq (by rw [eo])) trivial ⟨Rf,Rf,Rf,Rf,Jk rfl,trivial⟩)
       ·have t2:=Ju t2
        have hwh:=JbZ 0 a0 Om (hn 0)
        have hen:Jav 0 d x ⟨nm,a0,a1,a2,a3,a4,mux,sub⟩ rs= [⟨Jat 0 a0,Jaj 0 rs d⟩]:=Jco t1 (fun h=> by cases h.1) (fun h=> by rw [h] at t2;exact absurd t2 Dc)
        generalize Jaj 0 rs d=W at t2 hen
        generalize Jat 0 a0=z at hwh hen
        refine stp ?_
        refine J1 14 [((20,nx0), .c [Jh nm,int a0,int a1,int a2,int a3,int a4,int mux,int sub]),((1,s1), .c [u32 (d:Nat),Jb x, .os 0 0 (fun _=> .any) none,Ja 11 (st1 1),Ja 12 (st1 2),Ja 13 (st1 3),Ja 14 (st1 4),Ja 15 (st1 5),Ja 16 (st1 6)]),((0,s0), .c [int dk,int dn,Jb x,Ji ps])] (fun i=> match i with | 12=> true | _=> false) (fun i=> match i with | 8=> true | _=> false) [0,1,2,3,4,5,6,7,8,9,10,11,13,12] (by kernel_rfl) (by kernel_rfl) (HB.cons rfl (HB.cons rfl (HB.one rfl))) ?_
        refine stp ?_
        refine ⟨_,JD rfl rfl rfl hwh ⟨Rf,AVle.of_eq (congrArg u32 (JcF Om (hn 0))),trivial⟩ (NoId.v _), ?_⟩
        refine stp ?_
        refine ⟨_,Jct (e:=78) (szx:=2) (m:=1) rfl rfl rfl (.inr ⟨_,rfl⟩) Tryz.underlying35 Jeb gc_ent.symm Dc (JC rfl) (by rw [Jec];omega) Om (fun _=> (HB.cons rfl (HB.cons rfl (HB.one rfl)))),fun r h' hr=> ?_⟩
        obtain ⟨ncap,hge,rfl,rfl⟩:=hr
        refine stp ?_
        exact back (1,Jz st1 0 ([]++ [(z,Jw W)],some (nx3,ncap,List.replicate ((ncap - 1) * 2) .any)),nx3+1) ⟨by dsimp only;omega,Jb2 hok1 ⟨(by simpa using hge),by rw [List.length_replicate];show ncap * 2≤1 * 2+_;omega⟩,Jbj (R:= []) hdone hrs (by rw [hk,hrk]) hen,Jbk hrest⟩ Dm (ELe.trans (Jo (pm:= []) (bx:= [((20,nx0), .c [Jh nm,int a0,int a1,int a2,int a3,int a4,int mux,int sub]),((1,s1), .c (Jq d x (Jz st1 0 ([]++ [(z,Jw W)],some (nx3,ncap,List.replicate ((ncap - 1) * 2) .any))))),((0,s0), .c [int dk,int dn,Jb x,Ji ps])]++(JaM 10 ([]++ [(z,Jw W)],some (nx3,ncap,List.replicate ((ncap - 1) * 2) .any))++Jn 0 st1)) (L:= [(1,Jw rs),(2, .bp (0,s0) 0),(3, .bp (1,s1) 0),(4, .bp (20,nx0) 0),(9,int (1:Nat))]) ([((20,nx0), .c [Jh nm,int a0,int a1,int a2,int a3,int a4,int mux,int sub]),((1,s1),Own.c [u32 (d:Nat),Jb x, .hs (21,nx3) 0 1 ncap,Ja 11 (st1 1),Ja 12 (st1 2),Ja 13 (st1 3),Ja 14 (st1 4),Ja 15 (st1 5),Ja 16 (st1 6)]),((0,s0), .c [int dk,int dn,Jb x,Ji ps])]++(((21,nx3), .c _)::Jn 0 st1)) ([((20,nx0), .c [Jh nm,int a0,int a1,int a2,int a3,int a4,int mux,int sub]),((1,s1),Own.c [u32 (d:Nat),Jb x, .hs (21,nx3) 0 1 ncap,Ja 11 (st1 1),Ja 12 (st1 2),Ja 13 (st1 3),Ja 14 (st1 4),Ja 15 (st1 5),Ja 16 (st1 6)]),((0,s0), .c [int dk,int dn,Jb x,Ji ps])]++(((21,nx3), .c _)::Jn 0 st1)) [] rfl rfl List.perm_middle Sf Sf (bx4 rfl (JlL (Jbf (R:= []))) (JdR gc_ent rfl)) trivial ⟨Rf,Rf,Rf,Rf,Jk rfl,trivial⟩) (JbS (k:=0) Dc))
      ·have t1:=Ju t1
       refine stp ?_
       exact back (1,st1,nx2) ⟨by dsimp only;omega,hok1,JaK hdone hrs (JaB (.inl t1)),fun j hj=> hrest j (by dsimp only at hj;omega)⟩ Dm (Jo ([((20,nx0), .c [Jh nm,int a0,int a1,int a2,int a3,int a4,int mux,int sub]),((1,s1), .c [u32 (d:Nat),Jb x, .os 0 0 (fun _=> .any) none,Ja 11 (st1 1),Ja 12 (st1 2),Ja 13 (st1 3),Ja 14 (st1 4),Ja 15 (st1 5),Ja 16 (st1 6)]),((0,s0), .c [int dk,int dn,Jb x,Ji ps])]++JE st1) ([((20,nx0), .c [Jh nm,int a0,int a1,int a2,int a3,int a4,int mux,int sub]),((1,s1), .c [u32 (d:Nat),Jb x, .os 0 0 (fun _=> .any) none,Ja 11 (st1 1),Ja 12 (st1 2),Ja 13 (st1 3),Ja 14 (st1 4),Ja 15 (st1 5),Ja 16 (st1 6)]),((0,s0), .c [int dk,int dn,Jb x,Ji ps])]++JE st1) [] rfl rfl (List.Perm.append_left _ hP) Sf Sf (BxLe.of_eq (by rw [eo])) trivial ⟨Rf,Rf,Rf,Rf,Jk rfl,trivial⟩)
     ·rw [hk] at hP hrk hln
      dsimp only at hln
      have eo:Jq d x st1= [u32 (d:Nat),Jb x, .hs (10,s) 0 R.length cap,Ja 11 (st1 1),Ja 12 (st1 2),Ja 13 (st1 3),Ja 14 (st1 4),Ja 15 (st1 5),Ja 16 (st1 6)]:=by simp only [Jq,hk,Ja]
      refine AW.le (E':=mk 75 [(1,Jw rs),(2, .bp (0,s0) 0),(3, .bp (1,s1) 0),(4, .bp (20,nx0) 0),(9,int (0:Nat))] (⟨[((20,nx0), .c [Jh nm,int a0,int a1,int a2,int a3,int a4,int mux,int sub]),((1,s1), .c [u32 (d:Nat),Jb x, .hs (10,s) 0 R.length cap,Ja 11 (st1 1),Ja 12 (st1 2),Ja 13 (st1 3),Ja 14 (st1 4),Ja 15 (st1 5),Ja 16 (st1 6)]),((0,s0), .c [int dk,int dn,Jb x,Ji ps])]++(((10,s),Own.c (Jy R++tl))::Jn 0 st1), [],nx2,21⟩:Heap)) (Jo ([((20,nx0), .c [Jh nm,int a0,int a1,int a2,int a3,int a4,int mux,int sub]),((1,s1), .c (Jq d x st1)),((0,s0), .c [int dk,int dn,Jb x,Ji ps])]++(((10,s),Own.c (Jy R++tl))::Jn 0 st1)) ([((20,nx0), .c [Jh nm,int a0,int a1,int a2,int a3,int a4,int mux,int sub]),((1,s1), .c (Jq d x st1)),((0,s0), .c [int dk,int dn,Jb x,Ji ps])]++(((10,s),Own.c (Jy R++tl))::Jn 0 st1)) [] rfl rfl (List.Perm.append_left _ hP.symm) Sf Sf (BxLe.of_eq (by rw [eo])) trivial ⟨Rf,Rf,Rf,Rf,Rf,trivial⟩) ?_
      refine stp ?_
      intro c t1;cases c
      ·have t1:=Jt t1
       refine stp ?_
       refine Je rfl rfl (Jcn 0 rs d Dc hl hc) ⟨Rf,Rf,Rf,trivial⟩ fun nx3=> ?_
       refine stp ?_
       intro c t2;cases c
       ·have t2:=Jt t2
        refine stp ?_
        exact back (1,st1,nx3) ⟨by dsimp only;omega,hok1,JaK hdone hrs (JaB (.inr (.inr (List.eq_nil_of_length_eq_zero Om)))),fun j hj=> hrest j (by dsimp only at hj;omega)⟩ Dm (Jo ([((20,nx0), .c [Jh nm,int a0,int a1,int a2,int a3,int a4,int mux,int sub]),((1,s1), .c [u32 (d:Nat),Jb x, .hs (10,s) 0 R.length cap,Ja 11 (st1 1),Ja 12 (st1 2),Ja 13 (st1 3),Ja 14 (st1 4),Ja 15 (st1 5),Ja 16 (st1 6)]),((0,s0), .c [int dk,int dn,Jb x,Ji ps])]++JE st1) ([((20,nx0), .c [Jh nm,int a0,int a1,int a2,int a3,int a4,int mux,int sub]),((1,s1), .c [u32 (d:Nat),Jb x, .hs (10,s) 0 R.length cap,Ja 11 (st1 1),Ja 12 (st1 2),Ja 13 (st1 3),Ja 14 (st1 4),Ja 15 (st1 5),Ja 16 (st1 6)]),((0,s0), .c [int dk,int dn,Jb x,Ji ps])]++JE st1) [] rfl rfl (List.Perm.append_left _ hP) Sf Sf (BxLe.of_eq (by rw [eo])) trivial ⟨Rf,Rf,Rf,Rf,Jk rfl,trivial⟩)
       ·have t2:=Ju t2
        have hwh:=JbZ 0 a0 Om (hn 0)
        have hen:Jav 0 d x ⟨nm,a0,a1,a2,a3,a4,mux,sub⟩ rs= [⟨Jat 0 a0,Jaj 0 rs d⟩]:=Jco t1 (fun h=> by cases h.1) (fun h=> by rw [h] at t2;exact absurd t2 Dc)
        generalize Jaj 0 rs d=W at t2 hen
        generalize Jat 0 a0=z at hwh hen
        refine stp ?_
        refine J1 14 [((20,nx0), .c [Jh nm,int a0,int a1,int a2,int a3,int a4,int mux,int sub]),((1,s1), .c [u32 (d:Nat),Jb x, .hs (10,s) 0 R.length cap,Ja 11 (st1 1),Ja 12 (st1 2),Ja 13 (st1 3),Ja 14 (st1 4),Ja 15 (st1 5),Ja 16 (st1 6)]),((0,s0), .c [int dk,int dn,Jb x,Ji ps])] (fun i=> match i with | 12=> true | _=> false) (fun i=> match i with | 8=> true | _=> false) [0,1,2,3,4,5,6,7,8,9,10,11,13,12] (by kernel_rfl) (by kernel_rfl) (HB.cons rfl (HB.cons rfl (HB.one rfl))) ?_
        refine stp ?_
        refine ⟨_,JD rfl rfl rfl hwh ⟨Rf,AVle.of_eq (congrArg u32 (JcF Om (hn 0))),trivial⟩ (NoId.v _), ?_⟩
        refine stp ?_
        refine ⟨_,JcR (e:=78) (szx:=2) (m:=1) (n:=R.length) (cap:=cap) (i:=(10,s)) (cs:=Jy R++tl) rfl rfl rfl (.inr ⟨_,rfl⟩) Tryz.underlying35 Jeb gc_ent.symm Dc rfl hrk.1 (by rw [gc_ent,List.length_append,Jby];exact hrk.2) (JC rfl) (by rw [Jec];omega) Om (HB.cons rfl (HB.cons rfl (HB.one rfl))) (fun _=> (HB.cons rfl (HB.cons rfl (HB.one rfl)))),fun r h' hr=> ?_⟩
        rcases hr with ⟨hfit,rfl,rfl⟩ | ⟨ncap,hge,rfl,rfl⟩
        ·refine stp ?_
         exact back (1,Jz st1 0 (R++ [(z,Jw W)],some (s,cap,tl.drop 2)),nx3) ⟨by dsimp only;omega,Jb2 hok1 ⟨by rw [List.length_append];exact hfit,by have:=hrk.2;rw [List.length_append,List.length_drop,List.length_singleton];omega⟩,Jbj (R:=R) hdone hrs hk hen,Jbk hrest⟩ Dm (ELe.trans (Jo (pm:= []) (bx:= [((20,nx0), .c [Jh nm,int a0,int a1,int a2,int a3,int a4,int mux,int sub]),((1,s1), .c (Jq d x (Jz st1 0 (R++ [(z,Jw W)],some (s,cap,tl.drop 2))))),((0,s0), .c [int dk,int dn,Jb x,Ji ps])]++(JaM 10 (R++ [(z,Jw W)],some (s,cap,tl.drop 2))++Jn 0 st1)) (L:= [(1,Jw rs),(2, .bp (0,s0) 0),(3, .bp (1,s1) 0),(4, .bp (20,nx0) 0),(9,int (1:Nat))]) ([((20,nx0), .c [Jh nm,int a0,int a1,int a2,int a3,int a4,int mux,int sub]),((1,s1),Own.c [u32 (d:Nat),Jb x, .hs (10,s) 0 (R.length+1) cap,Ja 11 (st1 1),Ja 12 (st1 2),Ja 13 (st1 3),Ja 14 (st1 4),Ja 15 (st1 5),Ja 16 (st1 6)]),((0,s0), .c [int dk,int dn,Jb x,Ji ps])]++(((10,s), .c _)::Jn 0 st1)) ([((20,nx0), .c [Jh nm,int a0,int a1,int a2,int a3,int a4,int mux,int sub]),((1,s1),Own.c [u32 (d:Nat),Jb x, .hs (10,s) 0 (R.length+1) cap,Ja 11 (st1 1),Ja 12 (st1 2),Ja 13 (st1 3),Ja 14 (st1 4),Ja 15 (st1 5),Ja 16 (st1 6)]),((0,s0), .c [int dk,int dn,Jb x,Ji ps])]++(((10,s), .c _)::Jn 0 st1)) [] rfl rfl (List.Perm.refl _) Sf Sf (bx4 rfl (JlL (Jbf)) (Jgp gc_ent rfl)) trivial ⟨Rf,Rf,Rf,Rf,Jk rfl,trivial⟩) (JbS (k:=0) Dc))
        ·refine stp ?_
         exact back (1,Jz st1 0 (R++ [(z,Jw W)],some (nx3,ncap,List.replicate ((ncap - (R.length+1)) * 2) .any)),nx3+1) ⟨by dsimp only;omega,Jb2 hok1 ⟨by rw [List.length_append];exact hge,by rw [List.length_append,List.length_replicate,List.length_singleton,← Nat.add_mul];omega⟩,Jbj (R:=R) hdone hrs hk hen,Jbk hrest⟩ Dm (ELe.trans (Jo (pm:= []) (bx:= [((20,nx0), .c [Jh nm,int a0,int a1,int a2,int a3,int a4,int mux,int sub]),((1,s1), .c (Jq d x (Jz st1 0 (R++ [(z,Jw W)],some (nx3,ncap,List.replicate ((ncap - (R.length+1)) * 2) .any))))),((0,s0), .c [int dk,int dn,Jb x,Ji ps])]++(JaM 10 (R++ [(z,Jw W)],some (nx3,ncap,List.replicate ((ncap - (R.length+1)) * 2) .any))++Jn 0 st1)) (L:= [(1,Jw rs),(2, .bp (0,s0) 0),(3, .bp (1,s1) 0),(4, .bp (20,nx0) 0),(9,int (1:Nat))]) ([((20,nx0), .c [Jh nm,int a0,int a1,int a2,int a3,int a4,int mux,int sub]),((1,s1),Own.c [u32 (d:Nat),Jb x, .hs (21,nx3) 0 (R.length+1) ncap,Ja 11 (st1 1),Ja 12 (st1 2),Ja 13 (st1 3),Ja 14 (st1 4),Ja 15 (st1 5),Ja 16 (st1 6)]),((0,s0), .c [int dk,int dn,Jb x,Ji ps])]++(((21,nx3), .c _)::((10,s),Own.c (Jy R++tl))::Jn 0 st1)) ([((20,nx0), .c [Jh nm,int a0,int a1,int a2,int a3,int a4,int mux,int sub]),((1,s1),Own.c [u32 (d:Nat),Jb x, .hs (21,nx3) 0 (R.length+1) ncap,Ja 11 (st1 1),Ja 12 (st1 2),Ja 13 (st1 3),Ja 14 (st1 4),Ja 15 (st1 5),Ja 16 (st1 6)]),((0,s0), .c [int dk,int dn,Jb x,Ji ps])]++(((21,nx3), .c _)::Jn 0 st1)) [] rfl rfl List.perm_middle (List.Sublist.append_left (.cons_cons _ (.cons _ Sf)) _) Sf (bx4 rfl (JlL (Jbf)) (Jep gc_ent rfl)) trivial ⟨Rf,Rf,Rf,Rf,Jk rfl,trivial⟩) (JbS (k:=0) Dc))
      ·have t1:=Ju t1
       refine stp ?_
       exact back (1,st1,nx2) ⟨by dsimp only;omega,hok1,JaK hdone hrs (JaB (.inl t1)),fun j hj=> hrest j (by dsimp only at hj;omega)⟩ Dm (Jo ([((20,nx0), .c [Jh nm,int a0,int a1,int a2,int a3,int a4,int mux,int sub]),((1,s1), .c [u32 (d:Nat),Jb x, .hs (10,s) 0 R.length cap,Ja 11 (st1 1),Ja 12 (st1 2),Ja 13 (st1 3),Ja 14 (st1 4),Ja 15 (st1 5),Ja 16 (st1 6)]),((0,s0), .c [int dk,int dn,Jb x,Ji ps])]++JE st1) ([((20,nx0), .c [Jh nm,int a0,int a1,int a2,int a3,int a4,int mux,int sub]),((1,s1), .c [u32 (d:Nat),Jb x, .hs (10,s) 0 R.length cap,Ja 11 (st1 1),Ja 12 (st1 2),Ja 13 (st1 3),Ja 14 (st1 4),Ja 15 (st1 5),Ja 16 (st1 6)]),((0,s0), .c [int dk,int dn,Jb x,Ji ps])]++JE st1) [] rfl rfl (List.Perm.append_left _ hP) Sf Sf (BxLe.of_eq (by rw [eo])) trivial ⟨Rf,Rf,Rf,Rf,Jk rfl,trivial⟩)
    ·have hP:=Jdj (k:=1) Dc st1
     have hrk:JbN (st1 1):=hok1 _ Dc
     have hrs:st1 1=st 1:=hrest _ (Nat.le_refl _)
     have hln:(st1 1).1.length≤1000000:=by rw [hrs];exact hlen _ Dc
     rcases hk:st1 1 with ⟨R,_ | ⟨s,cap,tl⟩⟩
     ·rw [hk] at hP hrk hln
      dsimp only at hln
      have eo:Jq d x st1= [u32 (d:Nat),Jb x,Ja 10 (st1 0), .os 0 0 (fun _=> .any) none,Ja 12 (st1 2),Ja 13 (st1 3),Ja 14 (st1 4),Ja 15 (st1 5),Ja 16 (st1 6)]:=by simp only [Jq,hk,Ja]
      refine AW.le (E':=mk 75 [(1,Jw rs),(2, .bp (0,s0) 0),(3, .bp (1,s1) 0),(4, .bp (20,nx0) 0),(9,int (1:Nat))] (⟨[((20,nx0), .c [Jh nm,int a0,int a1,int a2,int a3,int a4,int mux,int sub]),((1,s1), .c [u32 (d:Nat),Jb x,Ja 10 (st1 0), .os 0 0 (fun _=> .any) none,Ja 12 (st1 2),Ja 13 (st1 3),Ja 14 (st1 4),Ja 15 (st1 5),Ja 16 (st1 6)]),((0,s0), .c [int dk,int dn,Jb x,Ji ps])]++(Jn 1 st1), [],nx2,21⟩:Heap)) (Jo ([((20,nx0), .c [Jh nm,int a0,int a1,int a2,int a3,int a4,int mux,int sub]),((1,s1), .c (Jq d x st1)),((0,s0), .c [int dk,int dn,Jb x,Ji ps])]++(Jn 1 st1)) ([((20,nx0), .c [Jh nm,int a0,int a1,int a2,int a3,int a4,int mux,int sub]),((1,s1), .c (Jq d x st1)),((0,s0), .c [int dk,int dn,Jb x,Ji ps])]++(Jn 1 st1)) [] rfl rfl (List.Perm.append_left _ hP.symm) Sf Sf (BxLe.of_eq (by rw [eo])) trivial ⟨Rf,Rf,Rf,Rf,Rf,trivial⟩) ?_
      refine stp ?_
      intro c t1;cases c
      ·have t1:=Jt t1
       cases x
       ·refine stp ?_
        exact back (2,st1,nx2) ⟨by dsimp only;omega,hok1,JaK hdone hrs (JaB (.inr (.inl ⟨rfl,rfl⟩))),fun j hj=> hrest j (by dsimp only at hj;omega)⟩ Dm (Jo ([((20,nx0), .c [Jh nm,int a0,int a1,int a2,int a3,int a4,int mux,int sub]),((1,s1), .c [u32 (d:Nat),Jb false,Ja 10 (st1 0), .os 0 0 (fun _=> .any) none,Ja 12 (st1 2),Ja 13 (st1 3),Ja 14 (st1 4),Ja 15 (st1 5),Ja 16 (st1 6)]),((0,s0), .c [int dk,int dn,Jb false,Ji ps])]++JE st1) ([((20,nx0), .c [Jh nm,int a0,int a1,int a2,int a3,int a4,int mux,int sub]),((1,s1), .c [u32 (d:Nat),Jb false,Ja 10 (st1 0), .os 0 0 (fun _=> .any) none,Ja 12 (st1 2),Ja 13 (st1 3),Ja 14 (st1 4),Ja 15 (st1 5),Ja 16 (st1 6)]),((0,s0), .c [int dk,int dn,Jb false,Ji ps])]++JE st1) [] rfl rfl (List.Perm.append_left _ hP) Sf Sf (BxLe.of_eq (by rw [eo])) trivial ⟨Rf,Rf,Rf,Rf,Jk rfl,trivial⟩)
       ·refine stp ?_
        refine Je rfl rfl (Jcn 1 rs d Dc hl hc) ⟨Rf,Rf,Rf,trivial⟩ fun nx3=> ?_
        refine stp ?_
        intro c t2;cases c
        ·have t2:=Jt t2
         refine stp ?_
         exact back (2,st1,nx3) ⟨by dsimp only;omega,hok1,JaK hdone hrs (JaB (.inr (.inr (List.eq_nil_of_length_eq_zero Om)))),fun j hj=> hrest j (by dsimp only at hj;omega)⟩ Dm (Jo ([((20,nx0), .c [Jh nm,int a0,int a1,int a2,int a3,int a4,int mux,int sub]),((1,s1), .c [u32 (d:Nat),Jb true,Ja 10 (st1 0), .os 0 0 (fun _=> .any) none,Ja 12 (st1 2),Ja 13 (st1 3),Ja 14 (st1 4),Ja 15 (st1 5),Ja 16 (st1 6)]),((0,s0), .c [int dk,int dn,Jb true,Ji ps])]++JE st1) ([((20,nx0), .c [Jh nm,int a0,int a1,int a2,int a3,int a4,int mux,int sub]),((1,s1), .c [u32 (d:Nat),Jb true,Ja 10 (st1 0), .os 0 0 (fun _=> .any) none,Ja 12 (st1 2),Ja 13 (st1 3),Ja 14 (st1 4),Ja 15 (st1 5),Ja 16 (st1 6)]),((0,s0), .c [int dk,int dn,Jb true,Ji ps])]++JE st1) [] rfl rfl (List.Perm.append_left _ hP) Sf Sf (BxLe.of_eq (by rw [eo])) trivial ⟨Rf,Rf,Rf,Rf,Jk rfl,trivial⟩)
        ·have t2:=Ju t2
         have hwh:=JbZ 1 a1 Om (hn 1)
         have hen:Jav 1 d true ⟨nm,a0,a1,a2,a3,a4,mux,sub⟩ rs= [⟨Jat 1 a1,Jaj 1 rs d⟩]:=Jco t1 (fun h=> by cases h.2) (fun h=> by rw [h] at t2;exact absurd t2 Dc)
         generalize Jaj 1 rs d=W at t2 hen
         generalize Jat 1 a1=z at hwh hen
         refine stp ?_
         refine J1 14 [((20,nx0), .c [Jh nm,int a0,int a1,int a2,int a3,int a4,int mux,int sub]),((1,s1), .c [u32 (d:Nat),Jb true,Ja 10 (st1 0), .os 0 0 (fun _=> .any) none,Ja 12 (st1 2),Ja 13 (st1 3),Ja 14 (st1 4),Ja 15 (st1 5),Ja 16 (st1 6)]),((0,s0), .c [int dk,int dn,Jb true,Ji ps])] (fun i=> match i with | 12=> true | _=> false) (fun i=> match i with | 8=> true | _=> false) [0,1,2,3,4,5,6,7,8,9,10,11,13,12] (by kernel_rfl) (by kernel_rfl) (HB.cons rfl (HB.cons rfl (HB.one rfl))) ?_
         refine stp ?_
         refine ⟨_,JD rfl rfl rfl hwh ⟨Rf,AVle.of_eq (congrArg u32 (JcF Om (hn 1))),trivial⟩ (NoId.v _), ?_⟩
         refine stp ?_
         refine ⟨_,Jct (e:=78) (szx:=2) (m:=1) rfl rfl rfl (.inr ⟨_,rfl⟩) Tryz.underlying35 Jeb gc_ent.symm Dc (JC rfl) (by rw [Jec];omega) Om (fun _=> (HB.cons rfl (HB.cons rfl (HB.one rfl)))),fun r h' hr=> ?_⟩
         obtain ⟨ncap,hge,rfl,rfl⟩:=hr
         refine stp ?_
         exact back (2,Jz st1 1 ([]++ [(z,Jw W)],some (nx3,ncap,List.replicate ((ncap - 1) * 2) .any)),nx3+1) ⟨by dsimp only;omega,Jb2 hok1 ⟨(by simpa using hge),by rw [List.length_replicate];show ncap * 2≤1 * 2+_;omega⟩,Jbj (R:= []) hdone hrs (by rw [hk,hrk]) hen,Jbk hrest⟩ Dm (ELe.trans (Jo (pm:= []) (bx:= [((20,nx0), .c [Jh nm,int a0,int a1,int a2,int a3,int a4,int mux,int sub]),((1,s1), .c (Jq d true (Jz st1 1 ([]++ [(z,Jw W)],some (nx3,ncap,List.replicate ((ncap - 1) * 2) .any))))),((0,s0), .c [int dk,int dn,Jb true,Ji ps])]++(JaM 11 ([]++ [(z,Jw W)],some (nx3,ncap,List.replicate ((ncap - 1) * 2) .any))++Jn 1 st1)) (L:= [(1,Jw rs),(2, .bp (0,s0) 0),(3, .bp (1,s1) 0),(4, .bp (20,nx0) 0),(9,int (2:Nat))]) ([((20,nx0), .c [Jh nm,int a0,int a1,int a2,int a3,int a4,int mux,int sub]),((1,s1),Own.c [u32 (d:Nat),Jb true,Ja 10 (st1 0), .hs (21,nx3) 0 1 ncap,Ja 12 (st1 2),Ja 13 (st1 3),Ja 14 (st1 4),Ja 15 (st1 5),Ja 16 (st1 6)]),((0,s0), .c [int dk,int dn,Jb true,Ji ps])]++(((21,nx3), .c _)::Jn 1 st1)) ([((20,nx0), .c [Jh nm,int a0,int a1,int a2,int a3,int a4,int mux,int sub]),((1,s1),Own.c [u32 (d:Nat),Jb true,Ja 10 (st1 0), .hs (21,nx3) 0 1 ncap,Ja 12 (st1 2),Ja 13 (st1 3),Ja 14 (st1 4),Ja 15 (st1 5),Ja 16 (st1 6)]),((0,s0), .c [int dk,int dn,Jb true,Ji ps])]++(((21,nx3), .c _)::Jn 1 st1)) [] rfl rfl List.perm_middle Sf Sf (bx4 rfl (JlM (Jbf (R:= []))) (JdR gc_ent rfl)) trivial ⟨Rf,Rf,Rf,Rf,Jk rfl,trivial⟩) (JbS (k:=1) Dc))
      ·have t1:=Ju t1
       refine stp ?_
       exact back (2,st1,nx2) ⟨by dsimp only;omega,hok1,JaK hdone hrs (JaB (.inl t1)),fun j hj=> hrest j (by dsimp only at hj;omega)⟩ Dm (Jo ([((20,nx0), .c [Jh nm,int a0,int a1,int a2,int a3,int a4,int mux,int sub]),((1,s1), .c [u32 (d:Nat),Jb x,Ja 10 (st1 0), .os 0 0 (fun _=> .any) none,Ja 12 (st1 2),Ja 13 (st1 3),Ja 14 (st1 4),Ja 15 (st1 5),Ja 16 (st1 6)]),((0,s0), .c [int dk,int dn,Jb x,Ji ps])]++JE st1) ([((20,nx0), .c [Jh nm,int a0,int a1,int a2,int a3,int a4,int mux,int sub]),((1,s1), .c [u32 (d:Nat),Jb x,Ja 10 (st1 0), .os 0 0 (fun _=> .any) none,Ja 12 (st1 2),Ja 13 (st1 3),Ja 14 (st1 4),Ja 15 (st1 5),Ja 16 (st1 6)]),((0,s0), .c [int dk,int dn,Jb x,Ji ps])]++JE st1) [] rfl rfl (List.Perm.append_left _ hP) Sf Sf (BxLe.of_eq (by rw [eo])) trivial ⟨Rf,Rf,Rf,Rf,Jk rfl,trivial⟩)
     ·rw [hk] at hP hrk hln
      dsimp only at hln
      have eo:Jq d x st1= [u32 (d:Nat),Jb x,Ja 10 (st1 0), .hs (11,s) 0 R.length cap,Ja 12 (st1 2),Ja 13 (st1 3),Ja 14 (st1 4),Ja 15 (st1 5),Ja 16 (st1 6)]:=by simp only [Jq,hk,Ja]
      refine AW.le (E':=mk 75 [(1,Jw rs),(2, .bp (0,s0) 0),(3, .bp (1,s1) 0),(4, .bp (20,nx0) 0),(9,int (1:Nat))] (⟨[((20,nx0), .c [Jh nm,int a0,int a1,int a2,int a3,int a4,int mux,int sub]),((1,s1), .c [u32 (d:Nat),Jb x,Ja 10 (st1 0), .hs (11,s) 0 R.length cap,Ja 12 (st1 2),Ja 13 (st1 3),Ja 14 (st1 4),Ja 15 (st1 5),Ja 16 (st1 6)]),((0,s0), .c [int dk,int dn,Jb x,Ji ps])]++(((11,s),Own.c (Jy R++tl))::Jn 1 st1), [],nx2,21⟩:Heap)) (Jo ([((20,nx0), .c [Jh nm,int a0,int a1,int a2,int a3,int a4,int mux,int sub]),((1,s1), .c (Jq d x st1)),((0,s0), .c [int dk,int dn,Jb x,Ji ps])]++(((11,s),Own.c (Jy R++tl))::Jn 1 st1)) ([((20,nx0), .c [Jh nm,int a0,int a1,int a2,int a3,int a4,int mux,int sub]),((1,s1), .c (Jq d x st1)),((0,s0), .c [int dk,int dn,Jb x,Ji ps])]++(((11,s),Own.c (Jy R++tl))::Jn 1 st1)) [] rfl rfl (List.Perm.append_left _ hP.symm) Sf Sf (BxLe.of_eq (by rw [eo])) trivial ⟨Rf,Rf,Rf,Rf,Rf,trivial⟩) ?_
      refine stp ?_
      intro c t1;cases c
      ·have t1:=Jt t1
       cases x
       ·refine stp ?_
        exact back (2,st1,nx2) ⟨by dsimp only;omega,hok1,JaK hdone hrs (JaB (.inr (.inl ⟨rfl,rfl⟩))),fun j hj=> hrest j (by dsimp only at hj;omega)⟩ Dm (Jo ([((20,nx0), .c [Jh nm,int a0,int a1,int a2,int a3,int a4,int mux,int sub]),((1,s1), .c [u32 (d:Nat),Jb false,Ja 10 (st1 0), .hs (11,s) 0 R.length cap,Ja 12 (st1 2),Ja 13 (st1 3),Ja 14 (st1 4),Ja 15 (st1 5),Ja 16 (st1 6)]),((0,s0), .c [int dk,int dn,Jb false,Ji ps])]++JE st1) ([((20,nx0), .c [Jh nm,int a0,int a1,int a2,int a3,int a4,int mux,int sub]),((1,s1), .c [u32 (d:Nat),Jb false,Ja 10 (st1 0), .hs (11,s) 0 R.length cap,Ja 12 (st1 2),Ja 13 (st1 3),Ja 14 (st1 4),Ja 15 (st1 5),Ja 16 (st1 6)]),((0,s0), .c [int dk,int dn,Jb false,Ji ps])]++JE st1) [] rfl rfl (List.Perm.append_left _ hP) Sf Sf (BxLe.of_eq (by rw [eo])) trivial ⟨Rf,Rf,Rf,Rf,Jk rfl,trivial⟩)
       ·refine stp ?_
        refine Je rfl rfl (Jcn 1 rs d Dc hl hc) ⟨Rf,Rf,Rf,trivial⟩ fun nx3=> ?_
        refine stp ?_
        intro c t2;cases c
        ·have t2:=Jt t2
         refine stp ?_
         exact back (2,st1,nx3) ⟨by dsimp only;omega,hok1,JaK hdone hrs (JaB (.inr (.inr (List.eq_nil_of_length_eq_zero Om)))),fun j hj=> hrest j (by dsimp only at hj;omega)⟩ Dm (Jo ([((20,nx0), .c [Jh nm,int a0,int a1,int a2,int a3,int a4,int mux,int sub]),((1,s1), .c [u32 (d:Nat),Jb true,Ja 10 (st1 0), .hs (11,s) 0 R.length cap,Ja 12 (st1 2),Ja 13 (st1 3),Ja 14 (st1 4),Ja 15 (st1 5),Ja 16 (st1 6)]),((0,s0), .c [int dk,int dn,Jb true,Ji ps])]++JE st1) ([((20,nx0), .c [Jh nm,int a0,int a1,int a2,int a3,int a4,int mux,int sub]),((1,s1), .c [u32 (d:Nat),Jb true,Ja 10 (st1 0), .hs (11,s) 0 R.length cap,Ja 12 (st1 2),Ja 13 (st1 3),Ja 14 (st1 4),Ja 15 (st1 5),Ja 16 (st1 6)]),((0,s0), .c [int dk,int dn,Jb true,Ji ps])]++JE st1) [] rfl rfl (List.Perm.append_left _ hP) Sf Sf (BxLe.of_eq (by rw [eo])) trivial ⟨Rf,Rf,Rf,Rf,Jk rfl,trivial⟩)
        ·have t2:=Ju t2
         have hwh:=JbZ 1 a1 Om (hn 1)
         have hen:Jav 1 d true ⟨nm,a0,a1,a2,a3,a4,mux,sub⟩ rs= [⟨Jat 1 a1,Jaj 1 rs d⟩]:=Jco t1 (fun h=> by cases h.2) (fun h=> by rw [h] at t2;exact absurd t2 Dc)
         generalize Jaj 1 rs d=W at t2 hen
         generalize Jat 1 a1=z at hwh hen
         refine stp ?_
         refine J1 14 [((20,nx0), .c [Jh nm,int a0,int a1,int a2,int a3,int a4,int mux,int sub]),((1,s1), .c [u32 (d:Nat),Jb true,Ja 10 (st1 0), .hs (11,s) 0 R.length cap,Ja 12 (st1 2),Ja 13 (st1 3),Ja 14 (st1 4),Ja 15 (st1 5),Ja 16 (st1 6)]),((0,s0), .c [int dk,int dn,Jb true,Ji ps])] (fun i=> match i with | 12=> true | _=> false) (fun i=> match i with | 8=> true | _=> false) [0,1,2,3,4,5,6,7,8,9,10,11,13,12] (by kernel_rfl) (by kernel_rfl) (HB.cons rfl (HB.cons rfl (HB.one rfl))) ?_
         refine stp ?_
         refine ⟨_,JD rfl rfl rfl hwh ⟨Rf,AVle.of_eq (congrArg u32 (JcF Om (hn 1))),trivial⟩ (NoId.v _), ?_⟩
         refine stp ?_
         refine ⟨_,JcR (e:=78) (szx:=2) (m:=1) (n:=R.length) (cap:=cap) (i:=(11,s)) (cs:=Jy R++tl) rfl rfl rfl (.inr ⟨_,rfl⟩) Tryz.underlying35 Jeb gc_ent.symm Dc rfl hrk.1 (by rw [gc_ent,List.length_append,Jby];exact hrk.2) (JC rfl) (by rw [Jec];omega) Om (HB.cons rfl (HB.cons rfl (HB.one rfl))) (fun _=> (HB.cons rfl (HB.cons rfl (HB.one rfl)))),fun r h' hr=> ?_⟩
         rcases hr with ⟨hfit,rfl,rfl⟩ | ⟨ncap,hge,rfl,rfl⟩
         ·refine stp ?_
          exact back (2,Jz st1 1 (R++ [(z,Jw W)],some (s,cap,tl.drop 2)),nx3) ⟨by dsimp only;omega,Jb2 hok1 ⟨by rw [List.length_append];exact hfit,by have:=hrk.2;rw [List.length_append,List.length_drop,List.length_singleton];omega⟩,Jbj (R:=R) hdone hrs hk hen,Jbk hrest⟩ Dm (ELe.trans (Jo (pm:= []) (bx:= [((20,nx0), .c [Jh nm,int a0,int a1,int a2,int a3,int a4,int mux,int sub]),((1,s1), .c (Jq d true (Jz st1 1 (R++ [(z,Jw W)],some (s,cap,tl.drop 2))))),((0,s0), .c [int dk,int dn,Jb true,Ji ps])]++(JaM 11 (R++ [(z,Jw W)],some (s,cap,tl.drop 2))++Jn 1 st1)) (L:= [(1,Jw rs),(2, .bp (0,s0) 0),(3, .bp (1,s1) 0),(4, .bp (20,nx0) 0),(9,int (2:Nat))]) ([((20,nx0), .c [Jh nm,int a0,int a1,int a2,int a3,int a4,int mux,int sub]),((1,s1),Own.c [u32 (d:Nat),Jb true,Ja 10 (st1 0), .hs (11,s) 0 (R.length+1) cap,Ja 12 (st1 2),Ja 13 (st1 3),Ja 14 (st1 4),Ja 15 (st1 5),Ja 16 (st1 6)]),((0,s0), .c [int dk,int dn,Jb true,Ji ps])]++(((11,s), .c _)::Jn 1 st1)) ([((20,nx0), .c [Jh nm,int a0,int a1,int a2,int a3,int a4,int mux,int sub]),((1,s1),Own.c [u32 (d:Nat),Jb true,Ja 10 (st1 0), .hs (11,s) 0 (R.length+1) cap,Ja 12 (st1 2),Ja 13 (st1 3),Ja 14 (st1 4),Ja 15 (st1 5),Ja 16 (st1 6)]),((0,s0), .c [int dk,int dn,Jb true,Ji ps])]++(((11,s), .c _)::Jn 1 st1)) [] rfl rfl (List.Perm.refl _) Sf Sf (bx4 rfl (JlM (Jbf)) (Jgp gc_ent rfl)) trivial ⟨Rf,Rf,Rf,Rf,Jk rfl,trivial⟩) (JbS (k:=1) Dc))
         ·refine stp ?_
          exact back (2,Jz st1 1 (R++ [(z,Jw W)],some (nx3,ncap,List.replicate ((ncap - (R.length+1)) * 2) .any)),nx3+1) ⟨by dsimp only;omega,Jb2 hok1 ⟨by rw [List.length_append];exact hge,by rw [List.length_append,List.length_replicate,List.length_singleton,← Nat.add_mul];omega⟩,Jbj (R:=R) hdone hrs hk hen,Jbk hrest⟩ Dm (ELe.trans (Jo (pm:= []) (bx:= [((20,nx0), .c [Jh nm,int a0,int a1,int a2,int a3,int a4,int mux,int sub]),((1,s1), .c (Jq d true (Jz st1 1 (R++ [(z,Jw W)],some (nx3,ncap,List.replicate ((ncap - (R.length+1)) * 2) .any))))),((0,s0), .c [int dk,int dn,Jb true,Ji ps])]++(JaM 11 (R++ [(z,Jw W)],some (nx3,ncap,List.replicate ((ncap - (R.length+1)) * 2) .any))++Jn 1 st1)) (L:= [(1,Jw rs),(2, .bp (0,s0) 0),(3, .bp (1,s1) 0),(4, .bp (20,nx0) 0),(9,int (2:Nat))]) ([((20,nx0), .c [Jh nm,int a0,int a1,int a2,int a3,int a4,int mux,int sub]),((1,s1),Own.c [u32 (d:Nat),Jb true,Ja 10 (st1 0), .hs (21,nx3) 0 (R.length+1) ncap,Ja 12 (st1 2),Ja 13 (st1 3),Ja 14 (st1 4),Ja 15 (st1 5),Ja 16 (st1 6)]),((0,s0), .c [int dk,int dn,Jb true,Ji ps])]++(((21,nx3), .c _)::((11,s),Own.c (Jy R++tl))::Jn 1 st1)) ([((20,nx0), .c [Jh nm,int a0,int a1,int a2,int a3,int a4,int mux,int sub]),((1,s1),Own.c [u32 (d:Nat),Jb true,Ja 10 (st1 0), .hs (21,nx3) 0 (R.length+1) ncap,Ja 12 (st1 2),Ja 13 (st1 3),Ja 14 (st1 4),Ja 15 (st1 5),Ja 16 (st1 6)]),((0,s0), .c [int dk,int dn,Jb true,Ji ps])]++(((21,nx3), .c _)::Jn 1 st1)) [] rfl rfl List.perm_middle (List.Sublist.append_left (.cons_cons _ (.cons _ Sf)) _) Sf (bx4 rfl (JlM (Jbf)) (Jep gc_ent rfl)) trivial ⟨Rf,Rf,Rf,Rf,Jk rfl,trivial⟩) (JbS (k:=1) Dc))
      ·have t1:=Ju t1
       refine stp ?_
       exact back (2,st1,nx2) ⟨by dsimp only;omega,hok1,JaK hdone hrs (JaB (.inl t1)),fun j hj=> hrest j (by dsimp only at hj;omega)⟩ Dm (Jo ([((20,nx0), .c [Jh nm,int a0,int a1,int a2,int a3,int a4,int mux,int sub]),((1,s1), .c [u32 (d:Nat),Jb x,Ja 10 (st1 0), .hs (11,s) 0 R.length cap,Ja 12 (st1 2),Ja 13 (st1 3),Ja 14 (st1 4),Ja 15 (st1 5),Ja 16 (st1 6)]),((0,s0), .c [int dk,int dn,Jb x,Ji ps])]++JE st1) ([((20,nx0), .c [Jh nm,int a0,int a1,int a2,int a3,int a4,int mux,int sub]),((1,s1), .c [u32 (d:Nat),Jb x,Ja 10 (st1 0), .hs (11,s) 0 R.length cap,Ja 12 (st1 2),Ja 13 (st1 3),Ja 14 (st1 4),Ja 15 (st1 5),Ja 16 (st1 6)]),((0,s0), .c [int dk,int dn,Jb x,Ji ps])]++JE st1) [] rfl rfl (List.Perm.append_left _ hP) Sf Sf (BxLe.of_eq (by rw [eo])) trivial ⟨Rf,Rf,Rf,Rf,Jk rfl,trivial⟩)
    ·have hP:=Jdj (k:=2) Dc st1
     have hrk:JbN (st1 2):=hok1 _ Dc
     have hrs:st1 2=st 2:=hrest _ (Nat.le_refl _)
     have hln:(st1 2).1.length≤1000000:=by rw [hrs];exact hlen _ Dc
     rcases hk:st1 2 with ⟨R,_ | ⟨s,cap,tl⟩⟩
     ·rw [hk] at hP hrk hln
      dsimp only at hln
      have eo:Jq d x st1= [u32 (d:Nat),Jb x,Ja 10 (st1 0),Ja 11 (st1 1), .os 0 0 (fun _=> .any) none,Ja 13 (st1 3),Ja 14 (st1 4),Ja 15 (st1 5),Ja 16 (st1 6)]:=by simp only [Jq,hk,Ja]
      refine AW.le (E':=mk 75 [(1,Jw rs),(2, .bp (0,s0) 0),(3, .bp (1,s1) 0),(4, .bp (20,nx0) 0),(9,int (2:Nat))] (⟨[((20,nx0), .c [Jh nm,int a0,int a1,int a2,int a3,int a4,int mux,int sub]),((1,s1), .c [u32 (d:Nat),Jb x,Ja 10 (st1 0),Ja 11 (st1 1), .os 0 0 (fun _=> .any) none,Ja 13 (st1 3),Ja 14 (st1 4),Ja 15 (st1 5),Ja 16 (st1 6)]),((0,s0), .c [int dk,int dn,Jb x,Ji ps])]++(Jn 2 st1), [],nx2,21⟩:Heap)) (Jo ([((20,nx0), .c [Jh nm,int a0,int a1,int a2,int a3,int a4,int mux,int sub]),((1,s1), .c (Jq d x st1)),((0,s0), .c [int dk,int dn,Jb x,Ji ps])]++(Jn 2 st1)) ([((20,nx0), .c [Jh nm,int a0,int a1,int a2,int a3,int a4,int mux,int sub]),((1,s1), .c (Jq d x st1)),((0,s0), .c [int dk,int dn,Jb x,Ji ps])]++(Jn 2 st1)) [] rfl rfl (List.Perm.append_left _ hP.symm) Sf Sf (BxLe.of_eq (by rw [eo])) trivial ⟨Rf,Rf,Rf,Rf,Rf,trivial⟩) ?_
      refine stp ?_
      intro c t1;cases c
      ·have t1:=Jt t1
       refine stp ?_
       refine Je rfl rfl (Jcn 2 rs d Dc hl hc) ⟨Rf,Rf,Rf,trivial⟩ fun nx3=> ?_
       refine stp ?_
       intro c t2;cases c
       ·have t2:=Jt t2
        refine stp ?_
        exact back (3,st1,nx3) ⟨by dsimp only;omega,hok1,JaK hdone hrs (JaB (.inr (.inr (List.eq_nil_of_length_eq_zero Om)))),fun j hj=> hrest j (by dsimp only at hj;omega)⟩ Dm (Jo ([((20,nx0), .c [Jh nm,int a0,int a1,int a2,int a3,int a4,int mux,int sub]),((1,s1), .c [u32 (d:Nat),Jb x,Ja 10 (st1 0),Ja 11 (st1 1), .os 0 0 (fun _=> .any) none,Ja 13 (st1 3),Ja 14 (st1 4),Ja 15 (st1 5),Ja 16 (st1 6)]),((0,s0), .c [int dk,int dn,Jb x,Ji ps])]++JE st1) ([((20,nx0), .c [Jh nm,int a0,int a1,int a2,int a3,int a4,int mux,int sub]),((1,s1), .c [u32 (d:Nat),Jb x,Ja 10 (st1 0),Ja 11 (st1 1), .os 0 0 (fun _=> .any) none,Ja 13 (st1 3),Ja 14 (st1 4),Ja 15 (st1 5),Ja 16 (st1 6)]),((0,s0), .c [int dk,int dn,Jb x,Ji ps])]++JE st1) [] rfl rfl (List.Perm.append_left _ hP) Sf Sf (BxLe.of_eq (by rw [eo])) trivial ⟨Rf,Rf,Rf,Rf,Jk rfl,trivial⟩)
       ·have t2:=Ju t2
        have hwh:=JbZ 2 a2 Om (hn 2)
        have hen:Jav 2 d x ⟨nm,a0,a1,a2,a3,a4,mux,sub⟩ rs= [⟨Jat 2 a2,Jaj 2 rs d⟩]:=Jco t1 (fun h=> by cases h.1) (fun h=> by rw [h] at t2;exact absurd t2 Dc)
        generalize Jaj 2 rs d=W at t2 hen
        generalize Jat 2 a2=z at hwh hen
        refine stp ?_
        refine J1 14 [((20,nx0), .c [Jh nm,int a0,int a1,int a2,int a3,int a4,int mux,int sub]),((1,s1), .c [u32 (d:Nat),Jb x,Ja 10 (st1 0),Ja 11 (st1 1), .os 0 0 (fun _=> .any) none,Ja 13 (st1 3),Ja 14 (st1 4),Ja 15 (st1 5),Ja 16 (st1 6)]),((0,s0), .c [int dk,int dn,Jb x,Ji ps])] (fun i=> match i with | 12=> true | _=> false) (fun i=> match i with | 8=> true | _=> false) [0,1,2,3,4,5,6,7,8,9,10,11,13,12] (by kernel_rfl) (by kernel_rfl) (HB.cons rfl (HB.cons rfl (HB.one rfl))) ?_
        refine stp ?_
        refine ⟨_,JD rfl rfl rfl hwh ⟨Rf,AVle.of_eq (congrArg u32 (JcF Om (hn 2))),trivial⟩ (NoId.v _), ?_⟩
        refine stp ?_
        refine ⟨_,Jct (e:=78) (szx:=2) (m:=1) rfl rfl rfl (.inr ⟨_,rfl⟩) Tryz.underlying35 Jeb gc_ent.symm Dc (JC rfl) (by rw [Jec];omega) Om (fun _=> (HB.cons rfl (HB.cons rfl (HB.one rfl)))),fun r h' hr=> ?_⟩
        obtain ⟨ncap,hge,rfl,rfl⟩:=hr
        refine stp ?_
        exact back (3,Jz st1 2 ([]++ [(z,Jw W)],some (nx3,ncap,List.replicate ((ncap - 1) * 2) .any)),nx3+1) ⟨by dsimp only;omega,Jb2 hok1 ⟨(by simpa using hge),by rw [List.length_replicate];show ncap * 2≤1 * 2+_;omega⟩,Jbj (R:= []) hdone hrs (by rw [hk,hrk]) hen,Jbk hrest⟩ Dm (ELe.trans (Jo (pm:= []) (bx:= [((20,nx0), .c [Jh nm,int a0,int a1,int a2,int a3,int a4,int mux,int sub]),((1,s1), .c (Jq d x (Jz st1 2 ([]++ [(z,Jw W)],some (nx3,ncap,List.replicate ((ncap - 1) * 2) .any))))),((0,s0), .c [int dk,int dn,Jb x,Ji ps])]++(JaM 12 ([]++ [(z,Jw W)],some (nx3,ncap,List.replicate ((ncap - 1) * 2) .any))++Jn 2 st1)) (L:= [(1,Jw rs),(2, .bp (0,s0) 0),(3, .bp (1,s1) 0),(4, .bp (20,nx0) 0),(9,int (3:Nat))]) ([((20,nx0), .c [Jh nm,int a0,int a1,int a2,int a3,int a4,int mux,int sub]),((1,s1),Own.c [u32 (d:Nat),Jb x,Ja 10 (st1 0),Ja 11 (st1 1), .hs (21,nx3) 0 1 ncap,Ja 13 (st1 3),Ja 14 (st1 4),Ja 15 (st1 5),Ja 16 (st1 6)]),((0,s0), .c [int dk,int dn,Jb x,Ji ps])]++(((21,nx3), .c _)::Jn 2 st1)) ([((20,nx0), .c [Jh nm,int a0,int a1,int a2,int a3,int a4,int mux,int sub]),((1,s1),Own.c [u32 (d:Nat),Jb x,Ja 10 (st1 0),Ja 11 (st1 1), .hs (21,nx3) 0 1 ncap,Ja 13 (st1 3),Ja 14 (st1 4),Ja 15 (st1 5),Ja 16 (st1 6)]),((0,s0), .c [int dk,int dn,Jb x,Ji ps])]++(((21,nx3), .c _)::Jn 2 st1)) [] rfl rfl List.perm_middle Sf Sf (bx4 rfl (JlN (Jbf (R:= []))) (JdR gc_ent rfl)) trivial ⟨Rf,Rf,Rf,Rf,Jk rfl,trivial⟩) (JbS (k:=2) Dc))
      ·have t1:=Ju t1
       refine stp ?_
       exact back (3,st1,nx2) ⟨by dsimp only;omega,hok1,JaK hdone hrs (JaB (.inl t1)),fun j hj=> hrest j (by dsimp only at hj;omega)⟩ Dm (Jo ([((20,nx0), .c [Jh nm,int a0,int a1,int a2,int a3,int a4,int mux,int sub]),((1,s1), .c [u32 (d:Nat),Jb x,Ja 10 (st1 0),Ja 11 (st1 1), .os 0 0 (fun _=> .any) none,Ja 13 (st1 3),Ja 14 (st1 4),Ja 15 (st1 5),Ja 16 (st1 6)]),((0,s0), .c [int dk,int dn,Jb x,Ji ps])]++JE st1) ([((20,nx0), .c [Jh nm,int a0,int a1,int a2,int a3,int a4,int mux,int sub]),((1,s1), .c [u32 (d:Nat),Jb x,Ja 10 (st1 0),Ja 11 (st1 1), .os 0 0 (fun _=> .any) none,Ja 13 (st1 3),Ja 14 (st1 4),Ja 15 (st1 5),Ja 16 (st1 6)]),((0,s0), .c [int dk,int dn,Jb x,Ji ps])]++JE st1) [] rfl rfl (List.Perm.append_left _ hP) Sf Sf (BxLe.of_eq (by rw [eo])) trivial ⟨Rf,Rf,Rf,Rf,Jk rfl,trivial⟩)
     ·rw [hk] at hP hrk hln
      dsimp only at hln
      have eo:Jq d x st1= [u32 (d:Nat),Jb x,Ja 10 (st1 0),Ja 11 (st1 1), .hs (12,s) 0 R.length cap,Ja 13 (st1 3),Ja 14 (st1 4),Ja 15 (st1 5),Ja 16 (st1 6)]:=by simp only [Jq,hk,Ja]
      refine AW.le (E':=mk 75 [(1,Jw rs),(2, .bp (0,s0) 0),(3, .bp (1,s1) 0),(4, .bp (20,nx0) 0),(9,int (2:Nat))] (⟨[((20,nx0), .c [Jh nm,int a0,int a1,int a2,int a3,int a4,int mux,int sub]),((1,s1), .c [u32 (d:Nat),Jb x,Ja 10 (st1 0),Ja 11 (st1 1), .hs (12,s) 0 R.length cap,Ja 13 (st1 3),Ja 14 (st1 4),Ja 15 (st1 5),Ja 16 (st1 6)]),((0,s0), .c [int dk,int dn,Jb x,Ji ps])]++(((12,s),Own.c (Jy R++tl))::Jn 2 st1), [],nx2,21⟩:Heap)) (Jo ([((20,nx0), .c [Jh nm,int a0,int a1,int a2,int a3,int a4,int mux,int sub]),((1,s1), .c (Jq d x st1)),((0,s0), .c [int dk,int dn,Jb x,Ji ps])]++(((12,s),Own.c (Jy R++tl))::Jn 2 st1)) ([((20,nx0), .c [Jh nm,int a0,int a1,int a2,int a3,int a4,int mux,int sub]),((1,s1), .c (Jq d x st1)),((0,s0), .c [int dk,int dn,Jb x,Ji ps])]++(((12,s),Own.c (Jy R++tl))::Jn 2 st1)) [] rfl rfl (List.Perm.append_left _ hP.symm) Sf Sf (BxLe.of_eq (by rw [eo])) trivial ⟨Rf,Rf,Rf,Rf,Rf,trivial⟩) ?_
      refine stp ?_
      intro c t1;cases c
      ·have t1:=Jt t1
       refine stp ?_
       refine Je rfl rfl (Jcn 2 rs d Dc hl hc) ⟨Rf,Rf,Rf,trivial⟩ fun nx3=> ?_
       refine stp ?_
       intro c t2;cases c
       ·have t2:=Jt t2
        refine stp ?_
        exact back (3,st1,nx3) ⟨by dsimp only;omega,hok1,JaK hdone hrs (JaB (.inr (.inr (List.eq_nil_of_length_eq_zero Om)))),fun j hj=> hrest j (by dsimp only at hj;omega)⟩ Dm (Jo ([((20,nx0), .c [Jh nm,int a0,int a1,int a2,int a3,int a4,int mux,int sub]),((1,s1), .c [u32 (d:Nat),Jb x,Ja 10 (st1 0),Ja 11 (st1 1), .hs (12,s) 0 R.length cap,Ja 13 (st1 3),Ja 14 (st1 4),Ja 15 (st1 5),Ja 16 (st1 6)]),((0,s0), .c [int dk,int dn,Jb x,Ji ps])]++JE st1) ([((20,nx0), .c [Jh nm,int a0,int a1,int a2,int a3,int a4,int mux,int sub]),((1,s1), .c [u32 (d:Nat),Jb x,Ja 10 (st1 0),Ja 11 (st1 1), .hs (12,s) 0 R.length cap,Ja 13 (st1 3),Ja 14 (st1 4),Ja 15 (st1 5),Ja 16 (st1 6)]),((0,s0), .c [int dk,int dn,Jb x,Ji ps])]++JE st1) [] rfl rfl (List.Perm.append_left _ hP) Sf Sf (BxLe.of_eq (by rw [eo])) trivial ⟨Rf,Rf,Rf,Rf,Jk rfl,trivial⟩)
       ·have t2:=Ju t2
        have hwh:=JbZ 2 a2 Om (hn 2)
        have hen:Jav 2 d x ⟨nm,a0,a1,a2,a3,a4,mux,sub⟩ rs= [⟨Jat 2 a2,Jaj 2 rs d⟩]:=Jco t1 (fun h=> by cases h.1) (fun h=> by rw [h] at t2;exact absurd t2 Dc)
        generalize Jaj 2 rs d=W at t2 hen
        generalize Jat 2 a2=z at hwh hen
        refine stp ?_
        refine J1 14 [((20,nx0), .c [Jh nm,int a0,int a1,int a2,int a3,int a4,int mux,int sub]),((1,s1), .c [u32 (d:Nat),Jb x,Ja 10 (st1 0),Ja 11 (st1 1), .hs (12,s) 0 R.length cap,Ja 13 (st1 3),Ja 14 (st1 4),Ja 15 (st1 5),Ja 16 (st1 6)]),((0,s0), .c [int dk,int dn,Jb x,Ji ps])] (fun i=> match i with | 12=> true | _=> false) (fun i=> match i with | 8=> true | _=> false) [0,1,2,3,4,5,6,7,8,9,10,11,13,12] (by kernel_rfl) (by kernel_rfl) (HB.cons rfl (HB.cons rfl (HB.one rfl))) ?_
        refine stp ?_
        refine ⟨_,JD rfl rfl rfl hwh ⟨Rf,AVle.of_eq (congrArg u32 (JcF Om (hn 2))),trivial⟩ (NoId.v _), ?_⟩
        refine stp ?_
        refine ⟨_,JcR (e:=78) (szx:=2) (m:=1) (n:=R.length) (cap:=cap) (i:=(12,s)) (cs:=Jy R++tl) rfl rfl rfl (.inr ⟨_,rfl⟩) Tryz.underlying35 Jeb gc_ent.symm Dc rfl hrk.1 (by rw [gc_ent,List.length_append,Jby];exact hrk.2) (JC rfl) (by rw [Jec];omega) Om (HB.cons rfl (HB.cons rfl (HB.one rfl))) (fun _=> (HB.cons rfl (HB.cons rfl (HB.one rfl)))),fun r h' hr=> ?_⟩
        rcases hr with ⟨hfit,rfl,rfl⟩ | ⟨ncap,hge,rfl,rfl⟩
        ·refine stp ?_
         exact back (3,Jz st1 2 (R++ [(z,Jw W)],some (s,cap,tl.drop 2)),nx3) ⟨by dsimp only;omega,Jb2 hok1 ⟨by rw [List.length_append];exact hfit,by have:=hrk.2;rw [List.length_append,List.length_drop,List.length_singleton];omega⟩,Jbj (R:=R) hdone hrs hk hen,Jbk hrest⟩ Dm (ELe.trans (Jo (pm:= []) (bx:= [((20,nx0), .c [Jh nm,int a0,int a1,int a2,int a3,int a4,int mux,int sub]),((1,s1), .c (Jq d x (Jz st1 2 (R++ [(z,Jw W)],some (s,cap,tl.drop 2))))),((0,s0), .c [int dk,int dn,Jb x,Ji ps])]++(JaM 12 (R++ [(z,Jw W)],some (s,cap,tl.drop 2))++Jn 2 st1)) (L:= [(1,Jw rs),(2, .bp (0,s0) 0),(3, .bp (1,s1) 0),(4, .bp (20,nx0) 0),(9,int (3:Nat))]) ([((20,nx0), .c [Jh nm,int a0,int a1,int a2,int a3,int a4,int mux,int sub]),((1,s1),Own.c [u32 (d:Nat),Jb x,Ja 10 (st1 0),Ja 11 (st1 1), .hs (12,s) 0 (R.length+1) cap,Ja 13 (st1 3),Ja 14 (st1 4),Ja 15 (st1 5),Ja 16 (st1 6)]),((0,s0), .c [int dk,int dn,Jb x,Ji ps])]++(((12,s), .c _)::Jn 2 st1)) ([((20,nx0), .c [Jh nm,int a0,int a1,int a2,int a3,int a4,int mux,int sub]),((1,s1),Own.c [u32 (d:Nat),Jb x,Ja 10 (st1 0),Ja 11 (st1 1), .hs (12,s) 0 (R.length+1) cap,Ja 13 (st1 3),Ja 14 (st1 4),Ja 15 (st1 5),Ja 16 (st1 6)]),((0,s0), .c [int dk,int dn,Jb x,Ji ps])]++(((12,s), .c _)::Jn 2 st1)) [] rfl rfl (List.Perm.refl _) Sf Sf (bx4 rfl (JlN (Jbf)) (Jgp gc_ent rfl)) trivial ⟨Rf,Rf,Rf,Rf,Jk rfl,trivial⟩) (JbS (k:=2) Dc))
        ·refine stp ?_
         exact back (3,Jz st1 2 (R++ [(z,Jw W)],some (nx3,ncap,List.replicate ((ncap - (R.length+1)) * 2) .any)),nx3+1) ⟨by dsimp only;omega,Jb2 hok1 ⟨by rw [List.length_append];exact hge,by rw [List.length_append,List.length_replicate,List.length_singleton,← Nat.add_mul];omega⟩,Jbj (R:=R) hdone hrs hk hen,Jbk hrest⟩ Dm (ELe.trans (Jo (pm:= []) (bx:= [((20,nx0), .c [Jh nm,int a0,int a1,int a2,int a3,int a4,int mux,int sub]),((1,s1), .c (Jq d x (Jz st1 2 (R++ [(z,Jw W)],some (nx3,ncap,List.replicate ((ncap - (R.length+1)) * 2) .any))))),((0,s0), .c [int dk,int dn,Jb x,Ji ps])]++(JaM 12 (R++ [(z,Jw W)],some (nx3,ncap,List.replicate ((ncap - (R.length+1)) * 2) .any))++Jn 2 st1)) (L:= [(1,Jw rs),(2, .bp (0,s0) 0),(3, .bp (1,s1) 0),(4, .bp (20,nx0) 0),(9,int (3:Nat))]) ([((20,nx0), .c [Jh nm,int a0,int a1,int a2,int a3,int a4,int mux,int sub]),((1,s1),Own.c [u32 (d:Nat),Jb x,Ja 10 (st1 0),Ja 11 (st1 1), .hs (21,nx3) 0 (R.length+1) ncap,Ja 13 (st1 3),Ja 14 (st1 4),Ja 15 (st1 5),Ja 16 (st1 6)]),((0,s0), .c [int dk,int dn,Jb x,Ji ps])]++(((21,nx3), .c _)::((12,s),Own.c (Jy R++tl))::Jn 2 st1)) ([((20,nx0), .c [Jh nm,int a0,int a1,int a2,int a3,int a4,int mux,int sub]),((1,s1),Own.c [u32 (d:Nat),Jb x,Ja 10 (st1 0),Ja 11 (st1 1), .hs (21,nx3) 0 (R.length+1) ncap,Ja 13 (st1 3),Ja 14 (st1 4),Ja 15 (st1 5),Ja 16 (st1 6)]),((0,s0), .c [int dk,int dn,Jb x,Ji ps])]++(((21,nx3), .c _)::Jn 2 st1)) [] rfl rfl List.perm_middle (List.Sublist.append_left (.cons_cons _ (.cons _ Sf)) _) Sf (bx4 rfl (JlN (Jbf)) (Jep gc_ent rfl)) trivial ⟨Rf,Rf,Rf,Rf,Jk rfl,trivial⟩) (JbS (k:=2) Dc))
      ·have t1:=Ju t1
       refine stp ?_
       exact back (3,st1,nx2) ⟨by dsimp only;omega,hok1,JaK hdone hrs (JaB (.inl t1)),fun j hj=> hrest j (by dsimp only at hj;omega)⟩ Dm (Jo ([((20,nx0), .c [Jh nm,int a0,int a1,int a2,int a3,int a4,int mux,int sub]),((1,s1), .c [u32 (d:Nat),Jb x,Ja 10 (st1 0),Ja 11 (st1 1), .hs (12,s) 0 R.length cap,Ja 13 (st1 3),Ja 14 (st1 4),Ja 15 (st1 5),Ja 16 (st1 6)]),((0,s0), .c [int dk,int dn,Jb x,Ji ps])]++JE st1) ([((20,nx0), .c [Jh nm,int a0,int a1,int a2,int a3,int a4,int mux,int sub]),((1,s1), .c [u32 (d:Nat),Jb x,Ja 10 (st1 0),Ja 11 (st1 1), .hs (12,s) 0 R.length cap,Ja 13 (st1 3),Ja 14 (st1 4),Ja 15 (st1 5),Ja 16 (st1 6)]),((0,s0), .c [int dk,int dn,Jb x,Ji ps])]++JE st1) [] rfl rfl (List.Perm.append_left _ hP) Sf Sf (BxLe.of_eq (by rw [eo])) trivial ⟨Rf,Rf,Rf,Rf,Jk rfl,trivial⟩)
    ·have hP:=Jdj (k:=3) Dc st1
     have hrk:JbN (st1 3):=hok1 _ Dc
     have hrs:st1 3=st 3:=hrest _ (Nat.le_refl _)
     have hln:(st1 3).1.length≤1000000:=by rw [hrs];exact hlen _ Dc
     rcases hk:st1 3 with ⟨R,_ | ⟨s,cap,tl⟩⟩
     ·rw [hk] at hP hrk hln
      dsimp only at hln
      have eo:Jq d x st1= [u32 (d:Nat),Jb x,Ja 10 (st1 0),Ja 11 (st1 1),Ja 12 (st1 2), .os 0 0 (fun _=> .any) none,Ja 14 (st1 4),Ja 15 (st1 5),Ja 16 (st1 6)]:=by simp only [Jq,hk,Ja]
      refine AW.le (E':=mk 75 [(1,Jw rs),(2, .bp (0,s0) 0),(3, .bp (1,s1) 0),(4, .bp (20,nx0) 0),(9,int (3:Nat))] (⟨[((20,nx0), .c [Jh nm,int a0,int a1,int a2,int a3,int a4,int mux,int sub]),((1,s1), .c [u32 (d:Nat),Jb x,Ja 10 (st1 0),Ja 11 (st1 1),Ja 12 (st1 2), .os 0 0 (fun _=> .any) none,Ja 14 (st1 4),Ja 15 (st1 5),Ja 16 (st1 6)]),((0,s0), .c [int dk,int dn,Jb x,Ji ps])]++(Jn 3 st1), [],nx2,21⟩:Heap)) (Jo ([((20,nx0), .c [Jh nm,int a0,int a1,int a2,int a3,int a4,int mux,int sub]),((1,s1), .c (Jq d x st1)),((0,s0), .c [int dk,int dn,Jb x,Ji ps])]++(Jn 3 st1)) ([((20,nx0), .c [Jh nm,int a0,int a1,int a2,int a3,int a4,int mux,int sub]),((1,s1), .c (Jq d x st1)),((0,s0), .c [int dk,int dn,Jb x,Ji ps])]++(Jn 3 st1)) [] rfl rfl (List.Perm.append_left _ hP.symm) Sf Sf (BxLe.of_eq (by rw [eo])) trivial ⟨Rf,Rf,Rf,Rf,Rf,trivial⟩) ?_
      refine stp ?_
      intro c t1;cases c
      ·have t1:=Jt t1
       refine stp ?_
       refine Je rfl rfl (Jcn 3 rs d Dc hl hc) ⟨Rf,Rf,Rf,trivial⟩ fun nx3=> ?_
       refine stp ?_
       intro c t2;cases c
       ·have t2:=Jt t2
        refine stp ?_
        exact back (4,st1,nx3) ⟨by dsimp only;omega,hok1,JaK hdone hrs (JaB (.inr (.inr (List.eq_nil_of_length_eq_zero Om)))),fun j hj=> hrest j (by dsimp only at hj;omega)⟩ Dm (Jo ([((20,nx0), .c [Jh nm,int a0,int a1,int a2,int a3,int a4,int mux,int sub]),((1,s1), .c [u32 (d:Nat),Jb x,Ja 10 (st1 0),Ja 11 (st1 1),Ja 12 (st1 2), .os 0 0 (fun _=> .any) none,Ja 14 (st1 4),Ja 15 (st1 5),Ja 16 (st1 6)]),((0,s0), .c [int dk,int dn,Jb x,Ji ps])]++JE st1) ([((20,nx0), .c [Jh nm,int a0,int a1,int a2,int a3,int a4,int mux,int sub]),((1,s1), .c [u32 (d:Nat),Jb x,Ja 10 (st1 0),Ja 11 (st1 1),Ja 12 (st1 2), .os 0 0 (fun _=> .any) none,Ja 14 (st1 4),Ja 15 (st1 5),Ja 16 (st1 6)]),((0,s0), .c [int dk,int dn,Jb x,Ji ps])]++JE st1) [] rfl rfl (List.Perm.append_left _ hP) Sf Sf (BxLe.of_eq (by rw [eo])) trivial ⟨Rf,Rf,Rf,Rf,Jk rfl,trivial⟩)
       ·have t2:=Ju t2
        have hwh:=JbZ 3 a3 Om (hn 3)
        have hen:Jav 3 d x ⟨nm,a0,a1,a2,a3,a4,mux,sub⟩ rs= [⟨Jat 3 a3,Jaj 3 rs d⟩]:=Jco t1 (fun h=> by cases h.1) (fun h=> by rw [h] at t2;exact absurd t2 Dc)
        generalize Jaj 3 rs d=W at t2 hen
        generalize Jat 3 a3=z at hwh hen
        refine stp ?_
        refine J1 14 [((20,nx0), .c [Jh nm,int a0,int a1,int a2,int a3,int a4,int mux,int sub]),((1,s1), .c [u32 (d:Nat),Jb x,Ja 10 (st1 0),Ja 11 (st1 1),Ja 12 (st1 2), .os 0 0 (fun _=> .any) none,Ja 14 (st1 4),Ja 15 (st1 5),Ja 16 (st1 6)]),((0,s0), .c [int dk,int dn,Jb x,Ji ps])] (fun i=> match i with | 12=> true | _=> false) (fun i=> match i with | 8=> true | _=> false) [0,1,2,3,4,5,6,7,8,9,10,11,13,12] (by kernel_rfl) (by kernel_rfl) (HB.cons rfl (HB.cons rfl (HB.one rfl))) ?_
        refine stp ?_
        refine ⟨_,JD rfl rfl rfl hwh ⟨Rf,AVle.of_eq (congrArg u32 (JcF Om (hn 3))),trivial⟩ (NoId.v _), ?_⟩
        refine stp ?_
        refine ⟨_,Jct (e:=78) (szx:=2) (m:=1) rfl rfl rfl (.inr ⟨_,rfl⟩) Tryz.underlying35 Jeb gc_ent.symm Dc (JC rfl) (by rw [Jec];omega) Om (fun _=> (HB.cons rfl (HB.cons rfl (HB.one rfl)))),fun r h' hr=> ?_⟩
        obtain ⟨ncap,hge,rfl,rfl⟩:=hr
        refine stp ?_
        exact back (4,Jz st1 3 ([]++ [(z,Jw W)],some (nx3,ncap,List.replicate ((ncap - 1) * 2) .any)),nx3+1) ⟨by dsimp only;omega,Jb2 hok1 ⟨(by simpa using hge),by rw [List.length_replicate];show ncap * 2≤1 * 2+_;omega⟩,Jbj (R:= []) hdone hrs (by rw [hk,hrk]) hen,Jbk hrest⟩ Dm (ELe.trans (Jo (pm:= []) (bx:= [((20,nx0), .c [Jh nm,int a0,int a1,int a2,int a3,int a4,int mux,int sub]),((1,s1), .c (Jq d x (Jz st1 3 ([]++ [(z,Jw W)],some (nx3,ncap,List.replicate ((ncap - 1) * 2) .any))))),((0,s0), .c [int dk,int dn,Jb x,Ji ps])]++(JaM 13 ([]++ [(z,Jw W)],some (nx3,ncap,List.replicate ((ncap - 1) * 2) .any))++Jn 3 st1)) (L:= [(1,Jw rs),(2, .bp (0,s0) 0),(3, .bp (1,s1) 0),(4, .bp (20,nx0) 0),(9,int (4:Nat))]) ([((20,nx0), .c [Jh nm,int a0,int a1,int a2,int a3,int a4,int mux,int sub]),((1,s1),Own.c [u32 (d:Nat),Jb x,Ja 10 (st1 0),Ja 11 (st1 1),Ja 12 (st1 2), .hs (21,nx3) 0 1 ncap,Ja 14 (st1 4),Ja 15 (st1 5),Ja 16 (st1 6)]),((0,s0), .c [int dk,int dn,Jb x,Ji ps])]++(((21,nx3), .c _)::Jn 3 st1)) ([((20,nx0), .c [Jh nm,int a0,int a1,int a2,int a3,int a4,int mux,int sub]),((1,s1),Own.c [u32 (d:Nat),Jb x,Ja 10 (st1 0),Ja 11 (st1 1),Ja 12 (st1 2), .hs (21,nx3) 0 1 ncap,Ja 14 (st1 4),Ja 15 (st1 5),Ja 16 (st1 6)]),((0,s0), .c [int dk,int dn,Jb x,Ji ps])]++(((21,nx3), .c _)::Jn 3 st1)) [] rfl rfl List.perm_middle Sf Sf (bx4 rfl (JlO (Jbf (R:= []))) (JdR gc_ent rfl)) trivial ⟨Rf,Rf,Rf,Rf,Jk rfl,trivial⟩) (JbS (k:=3) Dc))
      ·have t1:=Ju t1
       refine stp ?_
       exact back (4,st1,nx2) ⟨by dsimp only;omega,hok1,JaK hdone hrs (JaB (.inl t1)),fun j hj=> hrest j (by dsimp only at hj;omega)⟩ Dm (Jo ([((20,nx0), .c [Jh nm,int a0,int a1,int a2,int a3,int a4,int mux,int sub]),((1,s1), .c [u32 (d:Nat),Jb x,Ja 10 (st1 0),Ja 11 (st1 1),Ja 12 (st1 2), .os 0 0 (fun _=> .any) none,Ja 14 (st1 4),Ja 15 (st1 5),Ja 16 (st1 6)]),((0,s0), .c [int dk,int dn,Jb x,Ji ps])]++JE st1) ([((20,nx0), .c [Jh nm,int a0,int a1,int a2,int a3,int a4,int mux,int sub]),((1,s1), .c [u32 (d:Nat),Jb x,Ja 10 (st1 0),Ja 11 (st1 1),Ja 12 (st1 2), .os 0 0 (fun _=> .any) none,Ja 14 (st1 4),Ja 15 (st1 5),Ja 16 (st1 6)]),((0,s0), .c [int dk,int dn,Jb x,Ji ps])]++JE st1) [] rfl rfl (List.Perm.append_left _ hP) Sf Sf (BxLe.of_eq (by rw [eo])) trivial ⟨Rf,Rf,Rf,Rf,Jk rfl,trivial⟩)
     ·rw [hk] at hP hrk hln
      dsimp only at hln
      have eo:Jq d x st1= [u32 (d:Nat),Jb x,Ja 10 (st1 0),Ja 11 (st1 1),Ja 12 (st1 2), .hs (13,s) 0 R.length cap,Ja 14 (st1 4),Ja 15 (st1 5),Ja 16 (st1 6)]:=by simp only [Jq,hk,Ja]
      refine AW.le (E':=mk 75 [(1,Jw rs),(2, .bp (0,s0) 0),(3, .bp (1,s1) 0),(4, .bp (20,nx0) 0),(9,int (3:Nat))] (⟨[((20,nx0), .c [Jh nm,int a0,int a1,int a2,int a3,int a4,int mux,int sub]),((1,s1), .c [u32 (d:Nat),Jb x,Ja 10 (st1 0),Ja 11 (st1 1),Ja 12 (st1 2), .hs (13,s) 0 R.length cap,Ja 14 (st1 4),Ja 15 (st1 5),Ja 16 (st1 6)]),((0,s0), .c [int dk,int dn,Jb x,Ji ps])]++(((13,s),Own.c (Jy R++tl))::Jn 3 st1), [],nx2,21⟩:Heap)) (Jo ([((20,nx0), .c [Jh nm,int a0,int a1,int a2,int a3,int a4,int mux,int sub]),((1,s1), .c (Jq d x st1)),((0,s0), .c [int dk,int dn,Jb x,Ji ps])]++(((13,s),Own.c (Jy R++tl))::Jn 3 st1)) ([((20,nx0), .c [Jh nm,int a0,int a1,int a2,int a3,int a4,int mux,int sub]),((1,s1), .c (Jq d x st1)),((0,s0), .c [int dk,int dn,Jb x,Ji ps])]++(((13,s),Own.c (Jy R++tl))::Jn 3 st1)) [] rfl rfl (List.Perm.append_left _ hP.symm) Sf Sf (BxLe.of_eq (by rw [eo])) trivial ⟨Rf,Rf,Rf,Rf,Rf,trivial⟩) ?_
      refine stp ?_
      intro c t1;cases c
      ·have t1:=Jt t1
       refine stp ?_
       refine Je rfl rfl (Jcn 3 rs d Dc hl hc) ⟨Rf,Rf,Rf,trivial⟩ fun nx3=> ?_
       refine stp ?_
       intro c t2;cases c
       ·have t2:=Jt t2
        refine stp ?_
        exact back (4,st1,nx3) ⟨by dsimp only;omega,hok1,JaK hdone hrs (JaB (.inr (.inr (List.eq_nil_of_length_eq_zero Om)))),fun j hj=> hrest j (by dsimp only at hj;omega)⟩ Dm (Jo ([((20,nx0), .c [Jh nm,int a0,int a1,int a2,int a3,int a4,int mux,int sub]),((1,s1), .c [u32 (d:Nat),Jb x,Ja 10 (st1 0),Ja 11 (st1 1),Ja 12 (st1 2), .hs (13,s) 0 R.length cap,Ja 14 (st1 4),Ja 15 (st1 5),Ja 16 (st1 6)]),((0,s0), .c [int dk,int dn,Jb x,Ji ps])]++JE st1) ([((20,nx0), .c [Jh nm,int a0,int a1,int a2,int a3,int a4,int mux,int sub]),((1,s1), .c [u32 (d:Nat),Jb x,Ja 10 (st1 0),Ja 11 (st1 1),Ja 12 (st1 2), .hs (13,s) 0 R.length cap,Ja 14 (st1 4),Ja 15 (st1 5),Ja 16 (st1 6)]),((0,s0), .c [int dk,int dn,Jb x,Ji ps])]++JE st1) [] rfl rfl (List.Perm.append_left _ hP) Sf Sf (BxLe.of_eq (by rw [eo])) trivial ⟨Rf,Rf,Rf,Rf,Jk rfl,trivial⟩)
       ·have t2:=Ju t2
        have hwh:=JbZ 3 a3 Om (hn 3)
        have hen:Jav 3 d x ⟨nm,a0,a1,a2,a3,a4,mux,sub⟩ rs= [⟨Jat 3 a3,Jaj 3 rs d⟩]:=Jco t1 (fun h=> by cases h.1) (fun h=> by rw [h] at t2;exact absurd t2 Dc)
        generalize Jaj 3 rs d=W at t2 hen
        generalize Jat 3 a3=z at hwh hen
        refine stp ?_
        refine J1 14 [((20,nx0), .c [Jh nm,int a0,int a1,int a2,int a3,int a4,int mux,int sub]),((1,s1), .c [u32 (d:Nat),Jb x,Ja 10 (st1 0),Ja 11 (st1 1),Ja 12 (st1 2), .hs (13,s) 0 R.length cap,Ja 14 (st1 4),Ja 15 (st1 5),Ja 16 (st1 6)]),((0,s0), .c [int dk,int dn,Jb x,Ji ps])] (fun i=> match i with | 12=> true | _=> false) (fun i=> match i with | 8=> true | _=> false) [0,1,2,3,4,5,6,7,8,9,10,11,13,12] (by kernel_rfl) (by kernel_rfl) (HB.cons rfl (HB.cons rfl (HB.one rfl))) ?_
        refine stp ?_
        refine ⟨_,JD rfl rfl rfl hwh ⟨Rf,AVle.of_eq (congrArg u32 (JcF Om (hn 3))),trivial⟩ (NoId.v _), ?_⟩
        refine stp ?_
        refine ⟨_,JcR (e:=78) (szx:=2) (m:=1) (n:=R.length) (cap:=cap) (i:=(13,s)) (cs:=Jy R++tl) rfl rfl rfl (.inr ⟨_,rfl⟩) Tryz.underlying35 Jeb gc_ent.symm Dc rfl hrk.1 (by rw [gc_ent,List.length_append,Jby];exact hrk.2) (JC rfl) (by rw [Jec];omega) Om (HB.cons rfl (HB.cons rfl (HB.one rfl))) (fun _=> (HB.cons rfl (HB.cons rfl (HB.one rfl)))),fun r h' hr=> ?_⟩
        rcases hr with ⟨hfit,rfl,rfl⟩ | ⟨ncap,hge,rfl,rfl⟩
        ·refine stp ?_
         exact back (4,Jz st1 3 (R++ [(z,Jw W)],some (s,cap,tl.drop 2)),nx3) ⟨by dsimp only;omega,Jb2 hok1 ⟨by rw [List.length_append];exact hfit,by have:=hrk.2;rw [List.length_append,List.length_drop,List.length_singleton];omega⟩,Jbj (R:=R) hdone hrs hk hen,Jbk hrest⟩ Dm (ELe.trans (Jo (pm:= []) (bx:= [((20,nx0), .c [Jh nm,int a0,int a1,int a2,int a3,int a4,int mux,int sub]),((1,s1), .c (Jq d x (Jz st1 3 (R++ [(z,Jw W)],some (s,cap,tl.drop 2))))),((0,s0), .c [int dk,int dn,Jb x,Ji ps])]++(JaM 13 (R++ [(z,Jw W)],some (s,cap,tl.drop 2))++Jn 3 st1)) (L:= [(1,Jw rs),(2, .bp (0,s0) 0),(3, .bp (1,s1) 0),(4, .bp (20,nx0) 0),(9,int (4:Nat))]) ([((20,nx0), .c [Jh nm,int a0,int a1,int a2,int a3,int a4,int mux,int sub]),((1,s1),Own.c [u32 (d:Nat),Jb x,Ja 10 (st1 0),Ja 11 (st1 1),Ja 12 (st1 2), .hs (13,s) 0 (R.length+1) cap,Ja 14 (st1 4),Ja 15 (st1 5),Ja 16 (st1 6)]),((0,s0), .c [int dk,int dn,Jb x,Ji ps])]++(((13,s), .c _)::Jn 3 st1)) ([((20,nx0), .c [Jh nm,int a0,int a1,int a2,int a3,int a4,int mux,int sub]),((1,s1),Own.c [u32 (d:Nat),Jb x,Ja 10 (st1 0),Ja 11 (st1 1),Ja 12 (st1 2), .hs (13,s) 0 (R.length+1) cap,Ja 14 (st1 4),Ja 15 (st1 5),Ja 16 (st1 6)]),((0,s0), .c [int dk,int dn,Jb x,Ji ps])]++(((13,s), .c _)::Jn 3 st1)) [] rfl rfl (List.Perm.refl _) Sf Sf (bx4 rfl (JlO (Jbf)) (Jgp gc_ent rfl)) trivial ⟨Rf,Rf,Rf,Rf,Jk rfl,trivial⟩) (JbS (k:=3) Dc))
        ·refine stp ?_
         exact back (4,Jz st1 3 (R++ [(z,Jw W)],some (nx3,ncap,List.replicate ((ncap - (R.length+1)) * 2) .any)),nx3+1) ⟨by dsimp only;omega,Jb2 hok1 ⟨by rw [List.length_append];exact hge,by rw [List.length_append,List.length_replicate,List.length_singleton,← Nat.add_mul];omega⟩,Jbj (R:=R) hdone hrs hk hen,Jbk hrest⟩ Dm (ELe.trans (Jo (pm:= []) (bx:= [((20,nx0), .c [Jh nm,int a0,int a1,int a2,int a3,int a4,int mux,int sub]),((1,s1), .c (Jq d x (Jz st1 3 (R++ [(z,Jw W)],some (nx3,ncap,List.replicate ((ncap - (R.length+1)) * 2) .any))))),((0,s0), .c [int dk,int dn,Jb x,Ji ps])]++(JaM 13 (R++ [(z,Jw W)],some (nx3,ncap,List.replicate ((ncap - (R.length+1)) * 2) .any))++Jn 3 st1)) (L:= [(1,Jw rs),(2, .bp (0,s0) 0),(3, .bp (1,s1) 0),(4, .bp (20,nx0) 0),(9,int (4:Nat))]) ([((20,nx0), .c [Jh nm,int a0,int a1,int a2,int a3,int a4,int mux,int sub]),((1,s1),Own.c [u32 (d:Nat),Jb x,Ja 10 (st1 0),Ja 11 (st1 1),Ja 12 (st1 2), .hs (21,nx3) 0 (R.length+1) ncap,Ja 14 (st1 4),Ja 15 (st1 5),Ja 16 (st1 6)]),((0,s0), .c [int dk,int dn,Jb x,Ji ps])]++(((21,nx3), .c _)::((13,s),Own.c (Jy R++tl))::Jn 3 st1)) ([((20,nx0), .c [Jh nm,int a0,int a1,int a2,int a3,int a4,int mux,int sub]),((1,s1),Own.c [u32 (d:Nat),Jb x,Ja 10 (st1 0),Ja 11 (st1 1),Ja 12 (st1 2), .hs (21,nx3) 0 (R.length+1) ncap,Ja 14 (st1 4),Ja 15 (st1 5),Ja 16 (st1 6)]),((0,s0), .c [int dk,int dn,Jb x,Ji ps])]++(((21,nx3), .c _)::Jn 3 st1)) [] rfl rfl List.perm_middle (List.Sublist.append_left (.cons_cons _ (.cons _ Sf)) _) Sf (bx4 rfl (JlO (Jbf)) (Jep gc_ent rfl)) trivial ⟨Rf,Rf,Rf,Rf,Jk rfl,trivial⟩) (JbS (k:=3) Dc))
      ·have t1:=Ju t1
       refine stp ?_
       exact back (4,st1,nx2) ⟨by dsimp only;omega,hok1,JaK hdone hrs (JaB (.inl t1)),fun j hj=> hrest j (by dsimp only at hj;omega)⟩ Dm (Jo ([((20,nx0), .c [Jh nm,int a0,int a1,int a2,int a3,int a4,int mux,int sub]),((1,s1), .c [u32 (d:Nat),Jb x,Ja 10 (st1 0),Ja 11 (st1 1),Ja 12 (st1 2), .hs (13,s) 0 R.length cap,Ja 14 (st1 4),Ja 15 (st1 5),Ja 16 (st1 6)]),((0,s0), .c [int dk,int dn,Jb x,Ji ps])]++JE st1) ([((20,nx0), .c [Jh nm,int a0,int a1,int a2,int a3,int a4,int mux,int sub]),((1,s1), .c [u32 (d:Nat),Jb x,Ja 10 (st1 0),Ja 11 (st1 1),Ja 12 (st1 2), .hs (13,s) 0 R.length cap,Ja 14 (st1 4),Ja 15 (st1 5),Ja 16 (st1 6)]),((0,s0), .c [int dk,int dn,Jb x,Ji ps])]++JE st1) [] rfl rfl (List.Perm.append_left _ hP) Sf Sf (BxLe.of_eq (by rw [eo])) trivial ⟨Rf,Rf,Rf,Rf,Jk rfl,trivial⟩)
    ·have hP:=Jdj (k:=4) Dc st1
     have hrk:JbN (st1 4):=hok1 _ Dc
     have hrs:st1 4=st 4:=hrest _ (Nat.le_refl _)
     have hln:(st1 4).1.length≤1000000:=by rw [hrs];exact hlen _ Dc
     rcases hk:st1 4 with ⟨R,_ | ⟨s,cap,tl⟩⟩
     ·rw [hk] at hP hrk hln
      dsimp only at hln
      have eo:Jq d x st1= [u32 (d:Nat),Jb x,Ja 10 (st1 0),Ja 11 (st1 1),Ja 12 (st1 2),Ja 13 (st1 3), .os 0 0 (fun _=> .any) none,Ja 15 (st1 5),Ja 16 (st1 6)]:=by simp only [Jq,hk,Ja]
      refine AW.le (E':=mk 75 [(1,Jw rs),(2, .bp (0,s0) 0),(3, .bp (1,s1) 0),(4, .bp (20,nx0) 0),(9,int (4:Nat))] (⟨[((20,nx0), .c [Jh nm,int a0,int a1,int a2,int a3,int a4,int mux,int sub]),((1,s1), .c [u32 (d:Nat),Jb x,Ja 10 (st1 0),Ja 11 (st1 1),Ja 12 (st1 2),Ja 13 (st1 3), .os 0 0 (fun _=> .any) none,Ja 15 (st1 5),Ja 16 (st1 6)]),((0,s0), .c [int dk,int dn,Jb x,Ji ps])]++(Jn 4 st1), [],nx2,21⟩:Heap)) (Jo ([((20,nx0), .c [Jh nm,int a0,int a1,int a2,int a3,int a4,int mux,int sub]),((1,s1), .c (Jq d x st1)),((0,s0), .c [int dk,int dn,Jb x,Ji ps])]++(Jn 4 st1)) ([((20,nx0), .c [Jh nm,int a0,int a1,int a2,int a3,int a4,int mux,int sub]),((1,s1), .c (Jq d x st1)),((0,s0), .c [int dk,int dn,Jb x,Ji ps])]++(Jn 4 st1)) [] rfl rfl (List.Perm.append_left _ hP.symm) Sf Sf (BxLe.of_eq (by rw [eo])) trivial ⟨Rf,Rf,Rf,Rf,Rf,trivial⟩) ?_
      refine stp ?_
      intro c t1;cases c
      ·have t1:=Jt t1
       refine stp ?_
       refine Je rfl rfl (Jcn 4 rs d Dc hl hc) ⟨Rf,Rf,Rf,trivial⟩ fun nx3=> ?_
       refine stp ?_
       intro c t2;cases c
       ·have t2:=Jt t2
        refine stp ?_
        exact back (5,st1,nx3) ⟨by dsimp only;omega,hok1,JaK hdone hrs (JaB (.inr (.inr (List.eq_nil_of_length_eq_zero Om)))),fun j hj=> hrest j (by dsimp only at hj;omega)⟩ Dm (Jo ([((20,nx0), .c [Jh nm,int a0,int a1,int a2,int a3,int a4,int mux,int sub]),((1,s1), .c [u32 (d:Nat),Jb x,Ja 10 (st1 0),Ja 11 (st1 1),Ja 12 (st1 2),Ja 13 (st1 3), .os 0 0 (fun _=> .any) none,Ja 15 (st1 5),Ja 16 (st1 6)]),((0,s0), .c [int dk,int dn,Jb x,Ji ps])]++JE st1) ([((20,nx0), .c [Jh nm,int a0,int a1,int a2,int a3,int a4,int mux,int sub]),((1,s1), .c [u32 (d:Nat),Jb x,Ja 10 (st1 0),Ja 11 (st1 1),Ja 12 (st1 2),Ja 13 (st1 3), .os 0 0 (fun _=> .any) none,Ja 15 (st1 5),Ja 16 (st1 6)]),((0,s0), .c [int dk,int dn,Jb x,Ji ps])]++JE st1) [] rfl rfl (List.Perm.append_left _ hP) Sf Sf (BxLe.of_eq (by rw [eo])) trivial ⟨Rf,Rf,Rf,Rf,Jk rfl,trivial⟩)
       ·have t2:=Ju t2
        have hwh:=JbZ 4 a4 Om (hn 4)
        have hen:Jav 4 d x ⟨nm,a0,a1,a2,a3,a4,mux,sub⟩ rs= [⟨Jat 4 a4,Jaj 4 rs d⟩]:=Jco t1 (fun h=> by cases h.1) (fun h=> by rw [h] at t2;exact absurd t2 Dc)
        generalize Jaj 4 rs d=W at t2 hen
        generalize Jat 4 a4=z at hwh hen
        refine stp ?_
        refine J1 14 [((20,nx0), .c [Jh nm,int a0,int a1,int a2,int a3,int a4,int mux,int sub]),((1,s1), .c [u32 (d:Nat),Jb x,Ja 10 (st1 0),Ja 11 (st1 1),Ja 12 (st1 2),Ja 13 (st1 3), .os 0 0 (fun _=> .any) none,Ja 15 (st1 5),Ja 16 (st1 6)]),((0,s0), .c [int dk,int dn,Jb x,Ji ps])] (fun i=> match i with | 12=> true | _=> false) (fun i=> match i with | 8=> true | _=> false) [0,1,2,3,4,5,6,7,8,9,10,11,13,12] (by kernel_rfl) (by kernel_rfl) (HB.cons rfl (HB.cons rfl (HB.one rfl))) ?_
        refine stp ?_
        refine ⟨_,JD rfl rfl rfl hwh ⟨Rf,AVle.of_eq (congrArg u32 (JcF Om (hn 4))),trivial⟩ (NoId.v _), ?_⟩
        refine stp ?_
        refine ⟨_,Jct (e:=78) (szx:=2) (m:=1) rfl rfl rfl (.inr ⟨_,rfl⟩) Tryz.underlying35 Jeb gc_ent.symm Dc (JC rfl) (by rw [Jec];omega) Om (fun _=> (HB.cons rfl (HB.cons rfl (HB.one rfl)))),fun r h' hr=> ?_⟩
        obtain ⟨ncap,hge,rfl,rfl⟩:=hr
        refine stp ?_
        exact back (5,Jz st1 4 ([]++ [(z,Jw W)],some (nx3,ncap,List.replicate ((ncap - 1) * 2) .any)),nx3+1) ⟨by dsimp only;omega,Jb2 hok1 ⟨(by simpa using hge),by rw [List.length_replicate];show ncap * 2≤1 * 2+_;omega⟩,Jbj (R:= []) hdone hrs (by rw [hk,hrk]) hen,Jbk hrest⟩ Dm (ELe.trans (Jo (pm:= []) (bx:= [((20,nx0), .c [Jh nm,int a0,int a1,int a2,int a3,int a4,int mux,int sub]),((1,s1), .c (Jq d x (Jz st1 4 ([]++ [(z,Jw W)],some (nx3,ncap,List.replicate ((ncap - 1) * 2) .any))))),((0,s0), .c [int dk,int dn,Jb x,Ji ps])]++(JaM 14 ([]++ [(z,Jw W)],some (nx3,ncap,List.replicate ((ncap - 1) * 2) .any))++Jn 4 st1)) (L:= [(1,Jw rs),(2, .bp (0,s0) 0),(3, .bp (1,s1) 0),(4, .bp (20,nx0) 0),(9,int (5:Nat))]) ([((20,nx0), .c [Jh nm,int a0,int a1,int a2,int a3,int a4,int mux,int sub]),((1,s1),Own.c [u32 (d:Nat),Jb x,Ja 10 (st1 0),Ja 11 (st1 1),Ja 12 (st1 2),Ja 13 (st1 3), .hs (21,nx3) 0 1 ncap,Ja 15 (st1 5),Ja 16 (st1 6)]),((0,s0), .c [int dk,int dn,Jb x,Ji ps])]++(((21,nx3), .c _)::Jn 4 st1)) ([((20,nx0), .c [Jh nm,int a0,int a1,int a2,int a3,int a4,int mux,int sub]),((1,s1),Own.c [u32 (d:Nat),Jb x,Ja 10 (st1 0),Ja 11 (st1 1),Ja 12 (st1 2),Ja 13 (st1 3), .hs (21,nx3) 0 1 ncap,Ja 15 (st1 5),Ja 16 (st1 6)]),((0,s0), .c [int dk,int dn,Jb x,Ji ps])]++(((21,nx3), .c _)::Jn 4 st1)) [] rfl rfl List.perm_middle Sf Sf (bx4 rfl (JlP (Jbf (R:= []))) (JdR gc_ent rfl)) trivial ⟨Rf,Rf,Rf,Rf,Jk rfl,trivial⟩) (JbS (k:=4) Dc))
      ·have t1:=Ju t1
       refine stp ?_
       exact back (5,st1,nx2) ⟨by dsimp only;omega,hok1,JaK hdone hrs (JaB (.inl t1)),fun j hj=> hrest j (by dsimp only at hj;omega)⟩ Dm (Jo ([((20,nx0), .c [Jh nm,int a0,int a1,int a2,int a3,int a4,int mux,int sub]),((1,s1), .c [u32 (d:Nat),Jb x,Ja 10 (st1 0),Ja 11 (st1 1),Ja 12 (st1 2),Ja 13 (st1 3), .os 0 0 (fun _=> .any) none,Ja 15 (st1 5),Ja 16 (st1 6)]),((0,s0), .c [int dk,int dn,Jb x,Ji ps])]++JE st1) ([((20,nx0), .c [Jh nm,int a0,int a1,int a2,int a3,int a4,int mux,int sub]),((1,s1), .c [u32 (d:Nat),Jb x,Ja 10 (st1 0),Ja 11 (st1 1),Ja 12 (st1 2),Ja 13 (st1 3), .os 0 0 (fun _=> .any) none,Ja 15 (st1 5),Ja 16 (st1 6)]),((0,s0), .c [int dk,int dn,Jb x,Ji ps])]++JE st1) [] rfl rfl (List.Perm.append_left _ hP) Sf Sf (BxLe.of_eq (by rw [eo])) trivial ⟨Rf,Rf,Rf,Rf,Jk rfl,trivial⟩)
     ·rw [hk] at hP hrk hln
      dsimp only at hln
      have eo:Jq d x st1= [u32 (d:Nat),Jb x,Ja 10 (st1 0),Ja 11 (st1 1),Ja 12 (st1 2),Ja 13 (st1 3), .hs (14,s) 0 R.length cap,Ja 15 (st1 5),Ja 16 (st1 6)]:=by simp only [Jq,hk,Ja]
      refine AW.le (E':=mk 75 [(1,Jw rs),(2, .bp (0,s0) 0),(3, .bp (1,s1) 0),(4, .bp (20,nx0) 0),(9,int (4:Nat))] (⟨[((20,nx0), .c [Jh nm,int a0,int a1,int a2,int a3,int a4,int mux,int sub]),((1,s1), .c [u32 (d:Nat),Jb x,Ja 10 (st1 0),Ja 11 (st1 1),Ja 12 (st1 2),Ja 13 (st1 3), .hs (14,s) 0 R.length cap,Ja 15 (st1 5),Ja 16 (st1 6)]),((0,s0), .c [int dk,int dn,Jb x,Ji ps])]++(((14,s),Own.c (Jy R++tl))::Jn 4 st1), [],nx2,21⟩:Heap)) (Jo ([((20,nx0), .c [Jh nm,int a0,int a1,int a2,int a3,int a4,int mux,int sub]),((1,s1), .c (Jq d x st1)),((0,s0), .c [int dk,int dn,Jb x,Ji ps])]++(((14,s),Own.c (Jy R++tl))::Jn 4 st1)) ([((20,nx0), .c [Jh nm,int a0,int a1,int a2,int a3,int a4,int mux,int sub]),((1,s1), .c (Jq d x st1)),((0,s0), .c [int dk,int dn,Jb x,Ji ps])]++(((14,s),Own.c (Jy R++tl))::Jn 4 st1)) [] rfl rfl (List.Perm.append_left _ hP.symm) Sf Sf (BxLe.of_eq (by rw [eo])) trivial ⟨Rf,Rf,Rf,Rf,Rf,trivial⟩) ?_
      refine stp ?_
      intro c t1;cases c
      ·have t1:=Jt t1
       refine stp ?_
       refine Je rfl rfl (Jcn 4 rs d Dc hl hc) ⟨Rf,Rf,Rf,trivial⟩ fun nx3=> ?_
       refine stp ?_
       intro c t2;cases c
       ·have t2:=Jt t2
        refine stp ?_
        exact back (5,st1,nx3) ⟨by dsimp only;omega,hok1,JaK hdone hrs (JaB (.inr (.inr (List.eq_nil_of_length_eq_zero Om)))),fun j hj=> hrest j (by dsimp only at hj;omega)⟩ Dm (Jo ([((20,nx0), .c [Jh nm,int a0,int a1,int a2,int a3,int a4,int mux,int sub]),((1,s1), .c [u32 (d:Nat),Jb x,Ja 10 (st1 0),Ja 11 (st1 1),Ja 12 (st1 2),Ja 13 (st1 3), .hs (14,s) 0 R.length cap,Ja 15 (st1 5),Ja 16 (st1 6)]),((0,s0), .c [int dk,int dn,Jb x,Ji ps])]++JE st1) ([((20,nx0), .c [Jh nm,int a0,int a1,int a2,int a3,int a4,int mux,int sub]),((1,s1), .c [u32 (d:Nat),Jb x,Ja 10 (st1 0),Ja 11 (st1 1),Ja 12 (st1 2),Ja 13 (st1 3), .hs (14,s) 0 R.length cap,Ja 15 (st1 5),Ja 16 (st1 6)]),((0,s0), .c [int dk,int dn,Jb x,Ji ps])]++JE st1) [] rfl rfl (List.Perm.append_left _ hP) Sf Sf (BxLe.of_eq (by rw [eo])) trivial ⟨Rf,Rf,Rf,Rf,Jk rfl,trivial⟩)
       ·have t2:=Ju t2
        have hwh:=JbZ 4 a4 Om (hn 4)
        have hen:Jav 4 d x ⟨nm,a0,a1,a2,a3,a4,mux,sub⟩ rs= [⟨Jat 4 a4,Jaj 4 rs d⟩]:=Jco t1 (fun h=> by cases h.1) (fun h=> by rw [h] at t2;exact absurd t2 Dc)
        generalize Jaj 4 rs d=W at t2 hen
        generalize Jat 4 a4=z at hwh hen
        refine stp ?_
        refine J1 14 [((20,nx0), .c [Jh nm,int a0,int a1,int a2,int a3,int a4,int mux,int sub]),((1,s1), .c [u32 (d:Nat),Jb x,Ja 10 (st1 0),Ja 11 (st1 1),Ja 12 (st1 2),Ja 13 (st1 3), .hs (14,s) 0 R.length cap,Ja 15 (st1 5),Ja 16 (st1 6)]),((0,s0), .c [int dk,int dn,Jb x,Ji ps])] (fun i=> match i with | 12=> true | _=> false) (fun i=> match i with | 8=> true | _=> false) [0,1,2,3,4,5,6,7,8,9,10,11,13,12] (by kernel_rfl) (by kernel_rfl) (HB.cons rfl (HB.cons rfl (HB.one rfl))) ?_
        refine stp ?_
        refine ⟨_,JD rfl rfl rfl hwh ⟨Rf,AVle.of_eq (congrArg u32 (JcF Om (hn 4))),trivial⟩ (NoId.v _), ?_⟩
        refine stp ?_
        refine ⟨_,JcR (e:=78) (szx:=2) (m:=1) (n:=R.length) (cap:=cap) (i:=(14,s)) (cs:=Jy R++tl) rfl rfl rfl (.inr ⟨_,rfl⟩) Tryz.underlying35 Jeb gc_ent.symm Dc rfl hrk.1 (by rw [gc_ent,List.length_append,Jby];exact hrk.2) (JC rfl) (by rw [Jec];omega) Om (HB.cons rfl (HB.cons rfl (HB.one rfl))) (fun _=> (HB.cons rfl (HB.cons rfl (HB.one rfl)))),fun r h' hr=> ?_⟩
        rcases hr with ⟨hfit,rfl,rfl⟩ | ⟨ncap,hge,rfl,rfl⟩
        ·refine stp ?_
         exact back (5,Jz st1 4 (R++ [(z,Jw W)],some (s,cap,tl.drop 2)),nx3) ⟨by dsimp only;omega,Jb2 hok1 ⟨by rw [List.length_append];exact hfit,by have:=hrk.2;rw [List.length_append,List.length_drop,List.length_singleton];omega⟩,Jbj (R:=R) hdone hrs hk hen,Jbk hrest⟩ Dm (ELe.trans (Jo (pm:= []) (bx:= [((20,nx0), .c [Jh nm,int a0,int a1,int a2,int a3,int a4,int mux,int sub]),((1,s1), .c (Jq d x (Jz st1 4 (R++ [(z,Jw W)],some (s,cap,tl.drop 2))))),((0,s0), .c [int dk,int dn,Jb x,Ji ps])]++(JaM 14 (R++ [(z,Jw W)],some (s,cap,tl.drop 2))++Jn 4 st1)) (L:= [(1,Jw rs),(2, .bp (0,s0) 0),(3, .bp (1,s1) 0),(4, .bp (20,nx0) 0),(9,int (5:Nat))]) ([((20,nx0), .c [Jh nm,int a0,int a1,int a2,int a3,int a4,int mux,int sub]),((1,s1),Own.c [u32 (d:Nat),Jb x,Ja 10 (st1 0),Ja 11 (st1 1),Ja 12 (st1 2),Ja 13 (st1 3), .hs (14,s) 0 (R.length+1) cap,Ja 15 (st1 5),Ja 16 (st1 6)]),((0,s0), .c [int dk,int dn,Jb x,Ji ps])]++(((14,s), .c _)::Jn 4 st1)) ([((20,nx0), .c [Jh nm,int a0,int a1,int a2,int a3,int a4,int mux,int sub]),((1,s1),Own.c [u32 (d:Nat),Jb x,Ja 10 (st1 0),Ja 11 (st1 1),Ja 12 (st1 2),Ja 13 (st1 3), .hs (14,s) 0 (R.length+1) cap,Ja 15 (st1 5),Ja 16 (st1 6)]),((0,s0), .c [int dk,int dn,Jb x,Ji ps])]++(((14,s), .c _)::Jn 4 st1)) [] rfl rfl (List.Perm.refl _) Sf Sf (bx4 rfl (JlP (Jbf)) (Jgp gc_ent rfl)) trivial ⟨Rf,Rf,Rf,Rf,Jk rfl,trivial⟩) (JbS (k:=4) Dc))
        ·refine stp ?_
         exact back (5,Jz st1 4 (R++ [(z,Jw W)],some (nx3,ncap,List.replicate ((ncap - (R.length+1)) * 2) .any)),nx3+1) ⟨by dsimp only;omega,Jb2 hok1 ⟨by rw [List.length_append];exact hge,by rw [List.length_append,List.length_replicate,List.length_singleton,← Nat.add_mul];omega⟩,Jbj (R:=R) hdone hrs hk hen,Jbk hrest⟩ Dm (ELe.trans (Jo (pm:= []) (bx:= [((20,nx0), .c [Jh nm,int a0,int a1,int a2,int a3,int a4,int mux,int sub]),((1,s1), .c (Jq d x (Jz st1 4 (R++ [(z,Jw W)],some (nx3,ncap,List.replicate ((ncap - (R.length+1)) * 2) .any))))),((0,s0), .c [int dk,int dn,Jb x,Ji ps])]++(JaM 14 (R++ [(z,Jw W)],some (nx3,ncap,List.replicate ((ncap - (R.length+1)) * 2) .any))++Jn 4 st1)) (L:= [(1,Jw rs),(2, .bp (0,s0) 0),(3, .bp (1,s1) 0),(4, .bp (20,nx0) 0),(9,int (5:Nat))]) ([((20,nx0), .c [Jh nm,int a0,int a1,int a2,int a3,int a4,int mux,int sub]),((1,s1),Own.c [u32 (d:Nat),Jb x,Ja 10 (st1 0),Ja 11 (st1 1),Ja 12 (st1 2),Ja 13 (st1 3), .hs (21,nx3) 0 (R.length+1) ncap,Ja 15 (st1 5),Ja 16 (st1 6)]),((0,s0), .c [int dk,int dn,Jb x,Ji ps])]++(((21,nx3), .c _)::((14,s),Own.c (Jy R++tl))::Jn 4 st1)) ([((20,nx0), .c [Jh nm,int a0,int a1,int a2,int a3,int a4,int mux,int sub]),((1,s1),Own.c [u32 (d:Nat),Jb x,Ja 10 (st1 0),Ja 11 (st1 1),Ja 12 (st1 2),Ja 13 (st1 3), .hs (21,nx3) 0 (R.length+1) ncap,Ja 15 (st1 5),Ja 16 (st1 6)]),((0,s0), .c [int dk,int dn,Jb x,Ji ps])]++(((21,nx3), .c _)::Jn 4 st1)) [] rfl rfl List.perm_middle (List.Sublist.append_left (.cons_cons _ (.cons _ Sf)) _) Sf (bx4 rfl (JlP (Jbf)) (Jep gc_ent rfl)) trivial ⟨Rf,Rf,Rf,Rf,Jk rfl,trivial⟩) (JbS (k:=4) Dc))
      ·have t1:=Ju t1
       refine stp ?_
       exact back (5,st1,nx2) ⟨by dsimp only;omega,hok1,JaK hdone hrs (JaB (.inl t1)),fun j hj=> hrest j (by dsimp only at hj;omega)⟩ Dm (Jo ([((20,nx0), .c [Jh nm,int a0,int a1,int a2,int a3,int a4,int mux,int sub]),((1,s1), .c [u32 (d:Nat),Jb x,Ja 10 (st1 0),Ja 11 (st1 1),Ja 12 (st1 2),Ja 13 (st1 3), .hs (14,s) 0 R.length cap,Ja 15 (st1 5),Ja 16 (st1 6)]),((0,s0), .c [int dk,int dn,Jb x,Ji ps])]++JE st1) ([((20,nx0), .c [Jh nm,int a0,int a1,int a2,int a3,int a4,int mux,int sub]),((1,s1), .c [u32 (d:Nat),Jb x,Ja 10 (st1 0),Ja 11 (st1 1),Ja 12 (st1 2),Ja 13 (st1 3), .hs (14,s) 0 R.length cap,Ja 15 (st1 5),Ja 16 (st1 6)]),((0,s0), .c [int dk,int dn,Jb x,Ji ps])]++JE st1) [] rfl rfl (List.Perm.append_left _ hP) Sf Sf (BxLe.of_eq (by rw [eo])) trivial ⟨Rf,Rf,Rf,Rf,Jk rfl,trivial⟩)
 ·rintro ⟨st1,nx2⟩ ⟨hok1,hdone,hrest⟩
  dsimp only at hok1 hdone hrest
  rcases hm with rfl | rfl | rfl
  ·refine stp ?_
   exact Jac rfl ⟨.tup [],⟨[((1,s1), .c (Jq d x st1)),((0,s0), .c [int dk,int dn,Jb x,Ji ps])]++JE st1, [],nx2,21⟩,Rf,JM _ [] rfl (.cons _ Sf) Sf Bf trivial,rfl,st1,_,_,⟨hok1,hdone,fun m hm=> by rw [show Jbq m ⟨nm,a0,a1,a2,a3,a4,0,sub⟩ rs= [] from if_neg (show ¬(0:Int)=(m:Int)+1 by omega),hrest m hm];exact (List.append_nil _).symm⟩,rfl⟩
  ·have hP:=Jdj (k:=5) Dc st1
   have hrk:JbN (st1 5):=hok1 _ Dc
   have hrs:st1 5=st 5:=hrest 0 Dc
   have hln:(st1 5).1.length≤1000000:=by rw [hrs];exact hlen _ Dc
   have hsb:Jbq 0 ⟨nm,a0,a1,a2,a3,a4,1,sub⟩ rs= [⟨sub.toNat,(rs.getD 0 Jv).code⟩]:=if_pos (show ((1:Nat):Int)=((0:Nat):Int)+1 by decide)
   have hso:∀j,j < 2→j≠0→Jbq j ⟨nm,a0,a1,a2,a3,a4,1,sub⟩ rs= []:=fun j hj hne=> if_neg (show ¬((1:Nat):Int)=(j:Int)+1 by omega)
   have hs1:0≤sub:=hs.1
   have hs2:sub≤255:=hs.2
   have hr0:0 < rs.length:=List.length_pos_iff.2 hr
   have hwr:IntKind.u32.wrap sub=((sub.toNat:Nat):Int):=by rw [JcF hs1 Om];omega
   have hw2: [AV.v (.int .u32 (IntKind.u32.wrap sub)),u32 ((rs.getD 0 Jv).code:Nat)]= [AV.v (.int .u32 ((Jah ⟨sub.toNat,(rs.getD 0 Jv).code⟩).1:Nat)),(Jah ⟨sub.toNat,(rs.getD 0 Jv).code⟩).2]:=congrArg (fun z:Int=> [AV.v (.int .u32 z),u32 ((rs.getD 0 Jv).code:Nat)]) hwr
   rcases hk:st1 5 with ⟨R,_ | ⟨s,cap,tl⟩⟩
   ·rw [hk] at hP hrk hln
    dsimp only at hln
    have eo:Jq d x st1= [u32 (d:Nat),Jb x,Ja 10 (st1 0),Ja 11 (st1 1),Ja 12 (st1 2),Ja 13 (st1 3),Ja 14 (st1 4), .os 0 0 (fun _=> .any) none,Ja 16 (st1 6)]:=by simp only [Jq,hk,Ja]
    refine AW.le (E':=mk 75 [(1,Jw rs),(2, .bp (0,s0) 0),(3, .bp (1,s1) 0),(4, .bp (20,nx0) 0)] (⟨[((20,nx0), .c [Jh nm,int a0,int a1,int a2,int a3,int a4,int 1,int sub]),((1,s1), .c [u32 (d:Nat),Jb x,Ja 10 (st1 0),Ja 11 (st1 1),Ja 12 (st1 2),Ja 13 (st1 3),Ja 14 (st1 4), .os 0 0 (fun _=> .any) none,Ja 16 (st1 6)]),((0,s0), .c [int dk,int dn,Jb x,Ji ps])]++(Jn 5 st1), [],nx2,21⟩:Heap)) (Jo ([((20,nx0), .c [Jh nm,int a0,int a1,int a2,int a3,int a4,int 1,int sub]),((1,s1), .c (Jq d x st1)),((0,s0), .c [int dk,int dn,Jb x,Ji ps])]++(Jn 5 st1)) ([((20,nx0), .c [Jh nm,int a0,int a1,int a2,int a3,int a4,int 1,int sub]),((1,s1), .c (Jq d x st1)),((0,s0), .c [int dk,int dn,Jb x,Ji ps])]++(Jn 5 st1)) [] rfl rfl (List.Perm.append_left _ hP.symm) Sf Sf (BxLe.of_eq (by rw [eo])) trivial ⟨Rf,Rf,Rf,Rf,trivial⟩) ?_
    refine stp ?_
    refine J1 20 [((20,nx0), .c [Jh nm,int a0,int a1,int a2,int a3,int a4,int 1,int sub]),((1,s1), .c [u32 (d:Nat),Jb x,Ja 10 (st1 0),Ja 11 (st1 1),Ja 12 (st1 2),Ja 13 (st1 3),Ja 14 (st1 4), .os 0 0 (fun _=> .any) none,Ja 16 (st1 6)]),((0,s0), .c [int dk,int dn,Jb x,Ji ps])] (fun i=> match i with | 18=> true | _=> false) (fun _=> false) [0,1,2,3,4,5,6,7,8,9,10,11,12,13,14,15,16,17,19,18] (by kernel_rfl) (by kernel_rfl) (HB.cons rfl (HB.cons rfl (HB.one rfl))) ?_
    refine stp ?_
    refine ⟨Bd,Jck (b:= .rp (JbY (rs.getD 0 Jv)).cells) rfl ?_⟩
    refine stp ?_
    refine ⟨_,Jct (e:=120) (szx:=2) (m:=1) rfl rfl rfl (.inr ⟨_,rfl⟩) Tryz.underlying37 Jk1 gc_sub.symm Dc (JC rfl) (by rw [Jk2];omega) Om (fun _=> (HB.cons rfl (HB.cons rfl (HB.one rfl)))),fun r h' hr=> ?_⟩
    obtain ⟨ncap,hge,rfl,rfl⟩:=hr
    refine stp ?_
    exact Jac rfl ⟨.tup [],⟨[((1,s1), .c (Jq d x (Jz st1 5 ([]++ [Jah ⟨sub.toNat,(rs.getD 0 Jv).code⟩],some (nx2,ncap,List.replicate ((ncap - 1) * 2) .any))))),((0,s0), .c [int dk,int dn,Jb x,Ji ps])]++JE (Jz st1 5 ([]++ [Jah ⟨sub.toNat,(rs.getD 0 Jv).code⟩],some (nx2,ncap,List.replicate ((ncap - 1) * 2) .any))), [],nx2+1,21⟩,Rf,HLe.trans (Jew (bx:= [((1,s1), .c (Jq d x (Jz st1 5 ([]++ [Jah ⟨sub.toNat,(rs.getD 0 Jv).code⟩],some (nx2,ncap,List.replicate ((ncap - 1) * 2) .any))))),((0,s0), .c [int dk,int dn,Jb x,Ji ps])]++(JaM 15 ([]++ [Jah ⟨sub.toNat,(rs.getD 0 Jv).code⟩],some (nx2,ncap,List.replicate ((ncap - 1) * 2) .any))++Jn 5 st1)) ([((20,nx0), .c [Jh nm,int a0,int a1,int a2,int a3,int a4,int 1,int sub]),((1,s1),Own.c [u32 (d:Nat),Jb x,Ja 10 (st1 0),Ja 11 (st1 1),Ja 12 (st1 2),Ja 13 (st1 3),Ja 14 (st1 4), .hs (21,nx2) 0 1 ncap,Ja 16 (st1 6)]),((0,s0), .c [int dk,int dn,Jb x,Ji ps])]++(((21,nx2), .c _)::Jn 5 st1)) ([((1,s1),Own.c [u32 (d:Nat),Jb x,Ja 10 (st1 0),Ja 11 (st1 1),Ja 12 (st1 2),Ja 13 (st1 3),Ja 14 (st1 4), .hs (21,nx2) 0 1 ncap,Ja 16 (st1 6)]),((0,s0), .c [int dk,int dn,Jb x,Ji ps])]++(((21,nx2), .c _)::Jn 5 st1)) rfl List.perm_middle (.cons _ Sf) rfl (bx3 rfl (JlQ (Jbf (R:= []))) (JdR (e:=Jah ⟨sub.toNat,(rs.getD 0 Jv).code⟩) gc_sub (by exact hw2)))) (Jf3 (k:=5) Dc),rfl,Jz st1 5 ([]++ [Jah ⟨sub.toNat,(rs.getD 0 Jv).code⟩],some (nx2,ncap,List.replicate ((ncap - 1) * 2) .any)),_,_,Jf2 (m:=0) (R:= []) Dc hok1 hdone hrest (by rw [hk,hrk]) ⟨(by simpa using hge),by rw [List.length_replicate];show ncap * 2≤1 * 2+_;omega⟩ hsb hso,rfl⟩
   ·rw [hk] at hP hrk hln
    dsimp only at hln
    have eo:Jq d x st1= [u32 (d:Nat),Jb x,Ja 10 (st1 0),Ja 11 (st1 1),Ja 12 (st1 2),Ja 13 (st1 3),Ja 14 (st1 4), .hs (15,s) 0 R.length cap,Ja 16 (st1 6)]:=by simp only [Jq,hk,Ja]
    refine AW.le (E':=mk 75 [(1,Jw rs),(2, .bp (0,s0) 0),(3, .bp (1,s1) 0),(4, .bp (20,nx0) 0)] (⟨[((20,nx0), .c [Jh nm,int a0,int a1,int a2,int a3,int a4,int 1,int sub]),((1,s1), .c [u32 (d:Nat),Jb x,Ja 10 (st1 0),Ja 11 (st1 1),Ja 12 (st1 2),Ja 13 (st1 3),Ja 14 (st1 4), .hs (15,s) 0 R.length cap,Ja 16 (st1 6)]),((0,s0), .c [int dk,int dn,Jb x,Ji ps])]++(((15,s),Own.c (Jy R++tl))::Jn 5 st1), [],nx2,21⟩:Heap)) (Jo ([((20,nx0), .c [Jh nm,int a0,int a1,int a2,int a3,int a4,int 1,int sub]),((1,s1), .c (Jq d x st1)),((0,s0), .c [int dk,int dn,Jb x,Ji ps])]++(((15,s),Own.c (Jy R++tl))::Jn 5 st1)) ([((20,nx0), .c [Jh nm,int a0,int a1,int a2,int a3,int a4,int 1,int sub]),((1,s1), .c (Jq d x st1)),((0,s0), .c [int dk,int dn,Jb x,Ji ps])]++(((15,s),Own.c (Jy R++tl))::Jn 5 st1)) [] rfl rfl (List.Perm.append_left _ hP.symm) Sf Sf (BxLe.of_eq (by rw [eo])) trivial ⟨Rf,Rf,Rf,Rf,trivial⟩) ?_
    refine stp ?_
    refine J1 20 [((20,nx0), .c [Jh nm,int a0,int a1,int a2,int a3,int a4,int 1,int sub]),((1,s1), .c [u32 (d:Nat),Jb x,Ja 10 (st1 0),Ja 11 (st1 1),Ja 12 (st1 2),Ja 13 (st1 3),Ja 14 (st1 4), .hs (15,s) 0 R.length cap,Ja 16 (st1 6)]),((0,s0), .c [int dk,int dn,Jb x,Ji ps])] (fun i=> match i with | 18=> true | _=> false) (fun _=> false) [0,1,2,3,4,5,6,7,8,9,10,11,12,13,14,15,16,17,19,18] (by kernel_rfl) (by kernel_rfl) (HB.cons rfl (HB.cons rfl (HB.one rfl))) ?_
    refine stp ?_
    refine ⟨Bd,Jck (b:= .rp (JbY (rs.getD 0 Jv)).cells) rfl ?_⟩
    refine stp ?_
    refine ⟨_,JcR (e:=120) (szx:=2) (m:=1) (n:=R.length) (cap:=cap) (i:=(15,s)) (cs:=Jy R++tl) rfl rfl rfl (.inr ⟨_,rfl⟩) Tryz.underlying37 Jk1 gc_sub.symm Dc rfl hrk.1 (by rw [gc_sub,List.length_append,Jby];exact hrk.2) (JC rfl) (by rw [Jk2];omega) Om (HB.cons rfl (HB.cons rfl (HB.one rfl))) (fun _=> (HB.cons rfl (HB.cons rfl (HB.one rfl)))),fun r h' hr=> ?_⟩
    rcases hr with ⟨hfit,rfl,rfl⟩ | ⟨ncap,hge,rfl,rfl⟩
    ·refine stp ?_
     exact Jac rfl ⟨.tup [],⟨[((1,s1), .c (Jq d x (Jz st1 5 (R++ [Jah ⟨sub.toNat,(rs.getD 0 Jv).code⟩],some (s,cap,tl.drop 2))))),((0,s0), .c [int dk,int dn,Jb x,Ji ps])]++JE (Jz st1 5 (R++ [Jah ⟨sub.toNat,(rs.getD 0 Jv).code⟩],some (s,cap,tl.drop 2))), [],nx2,21⟩,Rf,HLe.trans (Jew (bx:= [((1,s1), .c (Jq d x (Jz st1 5 (R++ [Jah ⟨sub.toNat,(rs.getD 0 Jv).code⟩],some (s,cap,tl.drop 2))))),((0,s0), .c [int dk,int dn,Jb x,Ji ps])]++(JaM 15 (R++ [Jah ⟨sub.toNat,(rs.getD 0 Jv).code⟩],some (s,cap,tl.drop 2))++Jn 5 st1)) ([((20,nx0), .c [Jh nm,int a0,int a1,int a2,int a3,int a4,int 1,int sub]),((1,s1),Own.c [u32 (d:Nat),Jb x,Ja 10 (st1 0),Ja 11 (st1 1),Ja 12 (st1 2),Ja 13 (st1 3),Ja 14 (st1 4), .hs (15,s) 0 (R.length+1) cap,Ja 16 (st1 6)]),((0,s0), .c [int dk,int dn,Jb x,Ji ps])]++(((15,s), .c _)::Jn 5 st1)) ([((1,s1),Own.c [u32 (d:Nat),Jb x,Ja 10 (st1 0),Ja 11 (st1 1),Ja 12 (st1 2),Ja 13 (st1 3),Ja 14 (st1 4), .hs (15,s) 0 (R.length+1) cap,Ja 16 (st1 6)]),((0,s0), .c [int dk,int dn,Jb x,Ji ps])]++(((15,s), .c _)::Jn 5 st1)) rfl (List.Perm.refl _) (.cons _ Sf) rfl (bx3 rfl (JlQ (Jbf)) (Jgp (e:=Jah ⟨sub.toNat,(rs.getD 0 Jv).code⟩) gc_sub (by exact hw2)))) (Jf3 (k:=5) Dc),rfl,Jz st1 5 (R++ [Jah ⟨sub.toNat,(rs.getD 0 Jv).code⟩],some (s,cap,tl.drop 2)),_,_,Jf2 (m:=0) (R:=R) Dc hok1 hdone hrest hk ⟨by rw [List.length_append];exact hfit,by have:=hrk.2;rw [List.length_append,List.length_drop,List.length_singleton];omega⟩ hsb hso,rfl⟩
    ·refine stp ?_
     exact Jac rfl ⟨.tup [],⟨[((1,s1), .c (Jq d x (Jz st1 5 (R++ [Jah ⟨sub.toNat,(rs.getD 0 Jv).code⟩],some (nx2,ncap,List.replicate ((ncap - (R.length+1)) * 2) .any))))),((0,s0), .c [int dk,int dn,Jb x,Ji ps])]++JE (Jz st1 5 (R++ [Jah ⟨sub.toNat,(rs.getD 0 Jv).code⟩],some (nx2,ncap,List.replicate ((ncap - (R.length+1)) * 2) .any))), [],nx2+1,21⟩,Rf,HLe.trans (Jew (bx:= [((1,s1), .c (Jq d x (Jz st1 5 (R++ [Jah ⟨sub.toNat,(rs.getD 0 Jv).code⟩],some (nx2,ncap,List.replicate ((ncap - (R.length+1)) * 2) .any))))),((0,s0), .c [int dk,int dn,Jb x,Ji ps])]++(JaM 15 (R++ [Jah ⟨sub.toNat,(rs.getD 0 Jv).code⟩],some (nx2,ncap,List.replicate ((ncap - (R.length+1)) * 2) .any))++Jn 5 st1)) ([((20,nx0), .c [Jh nm,int a0,int a1,int a2,int a3,int a4,int 1,int sub]),((1,s1),Own.c [u32 (d:Nat),Jb x,Ja 10 (st1 0),Ja 11 (st1 1),Ja 12 (st1 2),Ja 13 (st1 3),Ja 14 (st1 4), .hs (21,nx2) 0 (R.length+1) ncap,Ja 16 (st1 6)]),((0,s0), .c [int dk,int dn,Jb x,Ji ps])]++(((21,nx2), .c _)::((15,s),Own.c (Jy R++tl))::Jn 5 st1)) ([((1,s1),Own.c [u32 (d:Nat),Jb x,Ja 10 (st1 0),Ja 11 (st1 1),Ja 12 (st1 2),Ja 13 (st1 3),Ja 14 (st1 4), .hs (21,nx2) 0 (R.length+1) ncap,Ja 16 (st1 6)]),((0,s0), .c [int dk,int dn,Jb x,Ji ps])]++(((21,nx2), .c _)::Jn 5 st1)) rfl List.perm_middle (.cons _ (.cons_cons _ (.cons_cons _ (.cons_cons _ (.cons _ Sf))))) rfl (bx3 rfl (JlQ (Jbf)) (Jep (e:=Jah ⟨sub.toNat,(rs.getD 0 Jv).code⟩) gc_sub (by exact hw2)))) (Jf3 (k:=5) Dc),rfl,Jz st1 5 (R++ [Jah ⟨sub.toNat,(rs.getD 0 Jv).code⟩],some (nx2,ncap,List.replicate ((ncap - (R.length+1)) * 2) .any)),_,_,Jf2 (m:=0) (R:=R) Dc hok1 hdone hrest hk ⟨by rw [List.length_append];exact hge,by rw [List.length_append,List.length_replicate,List.length_singleton,← Nat.add_mul];omega⟩ hsb hso,rfl⟩
  ·have hP:=Jdj (k:=6) Dc st1
   have hrk:JbN (st1 6):=hok1 _ Dc
   have hrs:st1 6=st 6:=hrest 1 Dc
   have hln:(st1 6).1.length≤1000000:=by rw [hrs];exact hlen _ Dc
   have hsb:Jbq 1 ⟨nm,a0,a1,a2,a3,a4,2,sub⟩ rs= [⟨sub.toNat,(rs.getD 0 Jv).code⟩]:=if_pos (show ((2:Nat):Int)=((1:Nat):Int)+1 by decide)
   have hso:∀j,j < 2→j≠1→Jbq j ⟨nm,a0,a1,a2,a3,a4,2,sub⟩ rs= []:=fun j hj hne=> if_neg (show ¬((2:Nat):Int)=(j:Int)+1 by omega)
   have hs1:0≤sub:=hs.1
   have hs2:sub≤255:=hs.2
   have hr0:0 < rs.length:=List.length_pos_iff.2 hr
   have hwr:IntKind.u32.wrap sub=((sub.toNat:Nat):Int):=by rw [JcF hs1 Om];omega
   have hw2: [AV.v (.int .u32 (IntKind.u32.wrap sub)),u32 ((rs.getD 0 Jv).code:Nat)]= [AV.v (.int .u32 ((Jah ⟨sub.toNat,(rs.getD 0 Jv).code⟩).1:Nat)),(Jah ⟨sub.toNat,(rs.getD 0 Jv).code⟩).2]:=congrArg (fun z:Int=> [AV.v (.int .u32 z),u32 ((rs.getD 0 Jv).code:Nat)]) hwr
   rcases hk:st1 6 with ⟨R,_ | ⟨s,cap,tl⟩⟩
   ·rw [hk] at hP hrk hln
    dsimp only at hln
    have eo:Jq d x st1= [u32 (d:Nat),Jb x,Ja 10 (st1 0),Ja 11 (st1 1),Ja 12 (st1 2),Ja 13 (st1 3),Ja 14 (st1 4),Ja 15 (st1 5), .os 0 0 (fun _=> .any) none]:=by simp only [Jq,hk,Ja]
    refine AW.le (E':=mk 75 [(1,Jw rs),(2, .bp (0,s0) 0),(3, .bp (1,s1) 0),(4, .bp (20,nx0) 0)] (⟨[((20,nx0), .c [Jh nm,int a0,int a1,int a2,int a3,int a4,int 2,int sub]),((1,s1), .c [u32 (d:Nat),Jb x,Ja 10 (st1 0),Ja 11 (st1 1),Ja 12 (st1 2),Ja 13 (st1 3),Ja 14 (st1 4),Ja 15 (st1 5), .os 0 0 (fun _=> .any) none]),((0,s0), .c [int dk,int dn,Jb x,Ji ps])]++(Jn 6 st1), [],nx2,21⟩:Heap)) (Jo ([((20,nx0), .c [Jh nm,int a0,int a1,int a2,int a3,int a4,int 2,int sub]),((1,s1), .c (Jq d x st1)),((0,s0), .c [int dk,int dn,Jb x,Ji ps])]++(Jn 6 st1)) ([((20,nx0), .c [Jh nm,int a0,int a1,int a2,int a3,int a4,int 2,int sub]),((1,s1), .c (Jq d x st1)),((0,s0), .c [int dk,int dn,Jb x,Ji ps])]++(Jn 6 st1)) [] rfl rfl (List.Perm.append_left _ hP.symm) Sf Sf (BxLe.of_eq (by rw [eo])) trivial ⟨Rf,Rf,Rf,Rf,trivial⟩) ?_
    refine stp ?_
    refine J1 20 [((20,nx0), .c [Jh nm,int a0,int a1,int a2,int a3,int a4,int 2,int sub]),((1,s1), .c [u32 (d:Nat),Jb x,Ja 10 (st1 0),Ja 11 (st1 1),Ja 12 (st1 2),Ja 13 (st1 3),Ja 14 (st1 4),Ja 15 (st1 5), .os 0 0 (fun _=> .any) none]),((0,s0), .c [int dk,int dn,Jb x,Ji ps])] (fun i=> match i with | 18=> true | _=> false) (fun _=> false) [0,1,2,3,4,5,6,7,8,9,10,11,12,13,14,15,16,17,19,18] (by kernel_rfl) (by kernel_rfl) (HB.cons rfl (HB.cons rfl (HB.one rfl))) ?_
    refine stp ?_
    refine ⟨Bd,Jck (b:= .rp (JbY (rs.getD 0 Jv)).cells) rfl ?_⟩
    refine stp ?_
    refine ⟨_,Jct (e:=120) (szx:=2) (m:=1) rfl rfl rfl (.inr ⟨_,rfl⟩) Tryz.underlying37 Jk1 gc_sub.symm Dc (JC rfl) (by rw [Jk2];omega) Om (fun _=> (HB.cons rfl (HB.cons rfl (HB.one rfl)))),fun r h' hr=> ?_⟩
    obtain ⟨ncap,hge,rfl,rfl⟩:=hr
    refine stp ?_
    exact Jac rfl ⟨.tup [],⟨[((1,s1), .c (Jq d x (Jz st1 6 ([]++ [Jah ⟨sub.toNat,(rs.getD 0 Jv).code⟩],some (nx2,ncap,List.replicate ((ncap - 1) * 2) .any))))),((0,s0), .c [int dk,int dn,Jb x,Ji ps])]++JE (Jz st1 6 ([]++ [Jah ⟨sub.toNat,(rs.getD 0 Jv).code⟩],some (nx2,ncap,List.replicate ((ncap - 1) * 2) .any))), [],nx2+1,21⟩,Rf,HLe.trans (Jew (bx:= [((1,s1), .c (Jq d x (Jz st1 6 ([]++ [Jah ⟨sub.toNat,(rs.getD 0 Jv).code⟩],some (nx2,ncap,List.replicate ((ncap - 1) * 2) .any))))),((0,s0), .c [int dk,int dn,Jb x,Ji ps])]++(JaM 16 ([]++ [Jah ⟨sub.toNat,(rs.getD 0 Jv).code⟩],some (nx2,ncap,List.replicate ((ncap - 1) * 2) .any))++Jn 6 st1)) ([((20,nx0), .c [Jh nm,int a0,int a1,int a2,int a3,int a4,int 2,int sub]),((1,s1),Own.c [u32 (d:Nat),Jb x,Ja 10 (st1 0),Ja 11 (st1 1),Ja 12 (st1 2),Ja 13 (st1 3),Ja 14 (st1 4),Ja 15 (st1 5), .hs (21,nx2) 0 1 ncap]),((0,s0), .c [int dk,int dn,Jb x,Ji ps])]++(((21,nx2), .c _)::Jn 6 st1)) ([((1,s1),Own.c [u32 (d:Nat),Jb x,Ja 10 (st1 0),Ja 11 (st1 1),Ja 12 (st1 2),Ja 13 (st1 3),Ja 14 (st1 4),Ja 15 (st1 5), .hs (21,nx2) 0 1 ncap]),((0,s0), .c [int dk,int dn,Jb x,Ji ps])]++(((21,nx2), .c _)::Jn 6 st1)) rfl List.perm_middle (.cons _ Sf) rfl (bx3 rfl (JlR (Jbf (R:= []))) (JdR (e:=Jah ⟨sub.toNat,(rs.getD 0 Jv).code⟩) gc_sub (by exact hw2)))) (Jf3 (k:=6) Dc),rfl,Jz st1 6 ([]++ [Jah ⟨sub.toNat,(rs.getD 0 Jv).code⟩],some (nx2,ncap,List.replicate ((ncap - 1) * 2) .any)),_,_,Jf2 (m:=1) (R:= []) Dc hok1 hdone hrest (by rw [hk,hrk]) ⟨(by simpa using hge),by rw [List.length_replicate];show ncap * 2≤1 * 2+_;omega⟩ hsb hso,rfl⟩
   ·rw [hk] at hP hrk hln
    dsimp only at hln
    have eo:Jq d x st1= [u32 (d:Nat),Jb x,Ja 10 (st1 0),Ja 11 (st1 1),Ja 12 (st1 2),Ja 13 (st1 3),Ja 14 (st1 4),Ja 15 (st1 5), .hs (16,s) 0 R.length cap]:=by simp only [Jq,hk,Ja]
    refine AW.le (E':=mk 75 [(1,Jw rs),(2, .bp (0,s0) 0),(3, .bp (1,s1) 0),(4, .bp (20,nx0) 0)] (⟨[((20,nx0), .c [Jh nm,int a0,int a1,int a2,int a3,int a4,int 2,int sub]),((1,s1), .c [u32 (d:Nat),Jb x,Ja 10 (st1 0),Ja 11 (st1 1),Ja 12 (st1 2),Ja 13 (st1 3),Ja 14 (st1 4),Ja 15 (st1 5), .hs (16,s) 0 R.length cap]),((0,s0), .c [int dk,int dn,Jb x,Ji ps])]++(((16,s),Own.c (Jy R++tl))::Jn 6 st1), [],nx2,21⟩:Heap)) (Jo ([((20,nx0), .c [Jh nm,int a0,int a1,int a2,int a3,int a4,int 2,int sub]),((1,s1), .c (Jq d x st1)),((0,s0), .c [int dk,int dn,Jb x,Ji ps])]++(((16,s),Own.c (Jy R++tl))::Jn 6 st1)) ([((20,nx0), .c [Jh nm,int a0,int a1,int a2,int a3,int a4,int 2,int sub]),((1,s1), .c (Jq d x st1)),((0,s0), .c [int dk,int dn,Jb x,Ji ps])]++(((16,s),Own.c (Jy R++tl))::Jn 6 st1)) [] rfl rfl (List.Perm.append_left _ hP.symm) Sf Sf (BxLe.of_eq (by rw [eo])) trivial ⟨Rf,Rf,Rf,Rf,trivial⟩) ?_
    refine stp ?_
    refine J1 20 [((20,nx0), .c [Jh nm,int a0,int a1,int a2,int a3,int a4,int 2,int sub]),((1,s1), .c [u32 (d:Nat),Jb x,Ja 10 (st1 0),Ja 11 (st1 1),Ja 12 (st1 2),Ja 13 (st1 3),Ja 14 (st1 4),Ja 15 (st1 5), .hs (16,s) 0 R.length cap]),((0,s0), .c [int dk,int dn,Jb x,Ji ps])] (fun i=> match i with | 18=> true | _=> false) (fun _=> false) [0,1,2,3,4,5,6,7,8,9,10,11,12,13,14,15,16,17,19,18] (by kernel_rfl) (by kernel_rfl) (HB.cons rfl (HB.cons rfl (HB.one rfl))) ?_
    refine stp ?_
    refine ⟨Bd,Jck (b:= .rp (JbY (rs.getD 0 Jv)).cells) rfl ?_⟩
    refine stp ?_
    refine ⟨_,JcR (e:=120) (szx:=2) (m:=1) (n:=R.length) (cap:=cap) (i:=(16,s)) (cs:=Jy R++tl) rfl rfl rfl (.inr ⟨_,rfl⟩) Tryz.underlying37 Jk1 gc_sub.symm Dc rfl hrk.1 (by rw [gc_sub,List.length_append,Jby];exact hrk.2) (JC rfl) (by rw [Jk2];omega) Om (HB.cons rfl (HB.cons rfl (HB.one rfl))) (fun _=> (HB.cons rfl (HB.cons rfl (HB.one rfl)))),fun r h' hr=> ?_⟩
    rcases hr with ⟨hfit,rfl,rfl⟩ | ⟨ncap,hge,rfl,rfl⟩
    ·refine stp ?_
     exact Jac rfl ⟨.tup [],⟨[((1,s1), .c (Jq d x (Jz st1 6 (R++ [Jah ⟨sub.toNat,(rs.getD 0 Jv).code⟩],some (s,cap,tl.drop 2))))),((0,s0), .c [int dk,int dn,Jb x,Ji ps])]++JE (Jz st1 6 (R++ [Jah ⟨sub.toNat,(rs.getD 0 Jv).code⟩],some (s,cap,tl.drop 2))), [],nx2,21⟩,Rf,HLe.trans (Jew (bx:= [((1,s1), .c (Jq d x (Jz st1 6 (R++ [Jah ⟨sub.toNat,(rs.getD 0 Jv).code⟩],some (s,cap,tl.drop 2))))),((0,s0), .c [int dk,int dn,Jb x,Ji ps])]++(JaM 16 (R++ [Jah ⟨sub.toNat,(rs.getD 0 Jv).code⟩],some (s,cap,tl.drop 2))++Jn 6 st1)) ([((20,nx0), .c [Jh nm,int a0,int a1,int a2,int a3,int a4,int 2,int sub]),((1,s1),Own.c [u32 (d:Nat),Jb x,Ja 10 (st1 0),Ja 11 (st1 1),Ja 12 (st1 2),Ja 13 (st1 3),Ja 14 (st1 4),Ja 15 (st1 5), .hs (16,s) 0 (R.length+1) cap]),((0,s0), .c [int dk,int dn,Jb x,Ji ps])]++(((16,s), .c _)::Jn 6 st1)) ([((1,s1),Own.c [u32 (d:Nat),Jb x,Ja 10 (st1 0),Ja 11 (st1 1),Ja 12 (st1 2),Ja 13 (st1 3),Ja 14 (st1 4),Ja 15 (st1 5), .hs (16,s) 0 (R.length+1) cap]),((0,s0), .c [int dk,int dn,Jb x,Ji ps])]++(((16,s), .c _)::Jn 6 st1)) rfl (List.Perm.refl _) (.cons _ Sf) rfl (bx3 rfl (JlR (Jbf)) (Jgp (e:=Jah ⟨sub.toNat,(rs.getD 0 Jv).code⟩) gc_sub (by exact hw2)))) (Jf3 (k:=6) Dc),rfl,Jz st1 6 (R++ [Jah ⟨sub.toNat,(rs.getD 0 Jv).code⟩],some (s,cap,tl.drop 2)),_,_,Jf2 (m:=1) (R:=R) Dc hok1 hdone hrest hk ⟨by rw [List.length_append];exact hfit,by have:=hrk.2;rw [List.length_append,List.length_drop,List.length_singleton];omega⟩ hsb hso,rfl⟩
    ·refine stp ?_
     exact Jac rfl ⟨.tup [],⟨[((1,s1), .c (Jq d x (Jz st1 6 (R++ [Jah ⟨sub.toNat,(rs.getD 0 Jv).code⟩],some (nx2,ncap,List.replicate ((ncap - (R.length+1)) * 2) .any))))),((0,s0), .c [int dk,int dn,Jb x,Ji ps])]++JE (Jz st1 6 (R++ [Jah ⟨sub.toNat,(rs.getD 0 Jv).code⟩],some (nx2,ncap,List.replicate ((ncap - (R.length+1)) * 2) .any))), [],nx2+1,21⟩,Rf,HLe.trans (Jew (bx:= [((1,s1), .c (Jq d x (Jz st1 6 (R++ [Jah ⟨sub.toNat,(rs.getD 0 Jv).code⟩],some (nx2,ncap,List.replicate ((ncap - (R.length+1)) * 2) .any))))),((0,s0), .c [int dk,int dn,Jb x,Ji ps])]++(JaM 16 (R++ [Jah ⟨sub.toNat,(rs.getD 0 Jv).code⟩],some (nx2,ncap,List.replicate ((ncap - (R.length+1)) * 2) .any))++Jn 6 st1)) ([((20,nx0), .c [Jh nm,int a0,int a1,int a2,int a3,int a4,int 2,int sub]),((1,s1),Own.c [u32 (d:Nat),Jb x,Ja 10 (st1 0),Ja 11 (st1 1),Ja 12 (st1 2),Ja 13 (st1 3),Ja 14 (st1 4),Ja 15 (st1 5), .hs (21,nx2) 0 (R.length+1) ncap]),((0,s0), .c [int dk,int dn,Jb x,Ji ps])]++(((21,nx2), .c _)::((16,s),Own.c (Jy R++tl))::Jn 6 st1)) ([((1,s1),Own.c [u32 (d:Nat),Jb x,Ja 10 (st1 0),Ja 11 (st1 1),Ja 12 (st1 2),Ja 13 (st1 3),Ja 14 (st1 4),Ja 15 (st1 5), .hs (21,nx2) 0 (R.length+1) ncap]),((0,s0), .c [int dk,int dn,Jb x,Ji ps])]++(((21,nx2), .c _)::Jn 6 st1)) rfl List.perm_middle (.cons _ (.cons_cons _ (.cons_cons _ (.cons_cons _ (.cons _ Sf))))) rfl (bx3 rfl (JlR (Jbf)) (Jep (e:=Jah ⟨sub.toNat,(rs.getD 0 Jv).code⟩) gc_sub (by exact hw2)))) (Jf3 (k:=6) Dc),rfl,Jz st1 6 (R++ [Jah ⟨sub.toNat,(rs.getD 0 Jv).code⟩],some (nx2,ncap,List.replicate ((ncap - (R.length+1)) * 2) .any)),_,_,Jf2 (m:=1) (R:=R) Dc hok1 hdone hrest hk ⟨by rw [List.length_append];exact hge,by rw [List.length_append,List.length_replicate,List.length_singleton,← Nat.add_mul];omega⟩ hsb hso,rfl⟩
end Go.Proofs.W

namespace Go.Proofs.W
open Go.Vl Go.Shelf Go.RowKit
set_option maxRecDepth 100000
theorem JuA (n:Nat) (h1:1≤n) (h2:n < 18446744073709551616):Tells Tryz.prog 364 [u64 n] (int (Lib.nDigits n:Nat)):=
 Jdx (vs:= [.int .u64 n]) ⟨_,Tryz.func364,rfl,rfl⟩ fun w hk=> (Any.internal_strconv_numDigits { Tryz.laysM171 with} n h1 h2 w (JqP hk)).mono fun e w' ⟨h1,h2⟩=> ⟨h1,h2 ▸ Below.refl _ _⟩
theorem Jsw (n:Nat) (h:n < 100):Tells Tryz.prog 363 [int n] (Jh (Jdv n)):=
 Jdx (vs:= [.int .i64 n]) ⟨_,Tryz.func363,rfl,rfl⟩ fun w hk=> (Any.internal_strconv_small { Tryz.laysM171 with} n h w).mono fun e w' ⟨h1,h2⟩=> ⟨h1,h2 ▸ Below.refl _ _⟩
def byV (b:UInt8):Value:= .int .u8 (b.toNat:Int)
def zer (k:Nat):List AV:=List.replicate k (.v (.int .u8 0))
theorem Jxt {k:Nat} (h:k≤24):zer 24=(Array.replicate k (0:UInt8)).toList.map (fun b=> AV.v (byV b))++zer (24 - k):=by
 unfold zer
 rw [Array.toList_replicate,List.map_replicate,show byV 0= .int .u8 0 from rfl,List.replicate_append_replicate]
 congr 1
 omega
theorem JwH {n:Nat} (h1:1≤n) (h:n < 18446744073709551616):Lib.nDigits n≤20:=by
 have:=Lib.numDigits_eq n h1 h
 split at this <;> omega
def Jv7 (n:Nat):List AV:=(Lib.decDigits n).map (fun b=> AV.v (byV b))++zer (24 - Lib.nDigits n)
theorem Jsx (n:Nat) (h1:1≤n) (h:n < 18446744073709551616) (s nx:Nat):
 ECall Tryz.prog 365 [.hs (0,s) 0 (Lib.nDigits n) 24,u64 n] ⟨[((0,s), .c (zer 24))], [],nx,1⟩ fun r h'=> r= .tup []∧h'=⟨[((0,s), .c (Jv7 n))], [],nx,1⟩:=by
 have h20:=JwH h1 h
 have hd:(Array.replicate (Lib.nDigits n) (0:UInt8)).size=Lib.nDigits n:=Array.size_replicate
 rw [Jxt (k:=Lib.nDigits n) Om]
 have:=Jmi (P:=Tryz.prog) (enc:=byV) (d:=Array.replicate (Lib.nDigits n) (0:UInt8)) (d':=(Lib.decDigits n).toArray) (tl:=zer (24 - Lib.nDigits n)) (vs:= [.int .u64 n]) (R:= .tup []) (res:=fun _=> .tuple #[]) (nm:=0) (s:=s) (cap:=24) (nx:=nx) (nn:=1) (f:=365) ⟨_,Tryz.func365,rfl,rfl⟩ (by rw [hd,List.size_toArray,Lib.decDigits_length]) (fun _ _ _ _ _=> .tup [] [] rfl (by simp)) (fun w blk hk hH hb=> by
  have k:=Any.internal_strconv_formatBase10 { Tryz.laysM171 with} blk 0 24 n (Array.replicate (Lib.nDigits n) 0) w hH (by rw [hd];exact Lib.lt_pow_nDigits n) h (by rw [hd];omega)
  refine k.mono fun e w' ⟨h1,q,v',dk,h2,hF⟩=> ⟨h1,q, #[], ?_⟩
  rw [hd] at hF
  have e1:dk=(Lib.decDigits n).toArray:=by
   refine Array.ext (by rw [hF.size,List.size_toArray,Lib.decDigits_length]) fun j hj1 hj2=> ?_
   have hj3:j < (Lib.decDigits n).length:=by simpa using hj2
   have:=Lib.row_is_numeral hF j hj3
   have e3:dk[j]! =dk[j]:=by simp [hj1]
   exact e3.symm.trans (this.symm.trans (by simp))
  have e2:(Sort.putRow byV w blk 0 dk).drewN q=Sort.putRow byV (Sort.ahead w q) blk 0 dk:=by
   have:=putRow_drewN byV w 0 q blk 0 dk
   rw [Nat.zero_add] at this
   exact this
  rw [h2,← e1]
  show (Sort.putRow byV w blk 0 dk).drewN q=_
  rw [e2]
  unfold Sort.grow
  rw [Array.append_empty])
 rw [hd] at this
 exact this
theorem Jyr {n j:Nat} (hj:j < (Lib.decDigits n).length):(Jv7 n)[0+j]? =some (.v (.int .u8 ((Lib.decDigits n)[j].toNat:Int))):=by
 unfold Jv7
 rw [Nat.zero_add,List.getElem?_append_left (by simpa using hj),List.getElem?_map,List.getElem?_eq_getElem hj]
 rfl
set_option maxHeartbeats 1000000 in
theorem Jpj (n:Nat) (hn:n < 18446744073709551616):Tells Tryz.prog 367 [u64 n,int 10] (Jh (Jdv n)):=by
 refine Jf Tryz.func367 rfl rfl fun nx=> ?_
 refine stp ?_
 intro c t1;cases c
 ·have t1:=Jt t1
  have h1:1≤n:=by omega
  have h20:=JwH h1 hn
  refine stp ?_
  refine Je rfl rfl (JuA n h1 hn) ⟨Rf,trivial⟩ fun nx2=> ?_
  refine JW ?_
  refine JU (fun n=> match n with | 0=> true | _=> false) 2 ?_
  refine stp ?_
  refine Jmj (n:=24) (h:=Lib.nDigits n) rfl rfl rfl Tryz.underlying432 Tryz.underlying5 (by kernel_rfl) Om Dc ?_
  refine stp ?_
  refine J2 (xs:= [.hs (0,nx) 0 (Lib.nDigits n) 24,u64 n]) [] [] 1 rfl rfl rfl rfl ⟨Rf,Rf,trivial⟩ (Jsx n h1 hn nx _) Bf Pf rfl fun r h' hq=> ?_
  obtain ⟨rfl,rfl⟩:=hq
  refine JW ?_
  refine JU (fun n=> match n with | 0=> true | 1=> true | _=> false) 3 ?_
  refine stp ?_
  refine Jmj (n:=24) (h:=Lib.nDigits n) rfl rfl rfl Tryz.underlying432 Tryz.underlying5 (by kernel_rfl) Om Dc ?_
  refine stp ?_
  refine Jtr (l:=Lib.decDigits n) (cap:=24) (off:=0) (i:=(0,nx)) rfl (by rw [Lib.decDigits_length];rfl) rfl (fun j hj=> Jyr hj) Tryz.underlying59 Tryz.underlying5 Tryz.underlying9 ?_
  refine stp ?_
  exact Jd rfl Rf
 ·have t1:=Ju t1
  refine stp ?_
  refine Je rfl rfl (Jsw n Om) ⟨Jk (Jai Om Om),trivial⟩ fun nx2=> ?_
  refine stp ?_
  exact Jd rfl Rf
end Go.Proofs.W

namespace Go.Proofs.W
open Go.Vl
set_option maxRecDepth 100000
end Go.Proofs.W

namespace Go.Proofs.W
open Go.Vl
set_option maxRecDepth 100000
theorem Js7 {a b:ByteArray} (h:a=b):AVle (Jh a) (Jh b):=h ▸ Rf
theorem JqS:∀(k n:Nat),n < 10 ^ (k+1)→(Lib.decDigits n).length≤k+1
 | 0,n,h=> by rw [Lib.decDigits,dif_pos Om];exact Nat.le_refl _
 | k+1,n,h=> by
   rw [Lib.decDigits]
   split
   ·exact Nat.succ_le_succ (Nat.zero_le _)
   ·rw [List.length_append,List.length_singleton]
    have:=JqS k (n / 10) (by rw [Nat.pow_succ] at h;omega)
    omega
theorem JmQ {n:Nat} (h:n≤18446744073709551615):(Jdv n).size≤20:=JqS 19 n Om
theorem JmR {a b:AV} {K:AV→Prop} (h:a=b) (hk:Jcr b K):Jcr a K:=h ▸ hk
def spB:ByteArray:=⟨#[32]⟩
end Go.Proofs.W

namespace Go.Proofs
open Go.Shelf
shelf_lay Lays.n156 Nm 156 at Tryz as Tryz.lays156
end Go.Proofs
namespace Go.Proofs.W
open Go.Vl Go.Shelf Go.RowKit
set_option maxRecDepth 100000
theorem JwI:Builder.Extra Tryz.prog Tryz.lays156_ren where
 sizeBuilder:=by kernel_rfl
 liesBuilder:=by kernel_rfl
 t5:=Tryz.underlying5
 a5:=Tryz.isAgg5
 z5:=Tryz.sizeOf5
 v5:=Tryz.zeroValue5
 infoByte:=by kernel_rfl
 cellsByte:=by kernel_rfl
 sizeByte:=by kernel_rfl
 neB5:=by decide
def JnF (l:List ByteArray):AV:=JT 1 Jh ⟨#[]⟩ l
def Jeg (l:List ByteArray) (sep:ByteArray):ByteArray:=⟨(Lib.join (l.map (·.data.toList)) sep.data.toList).toArray⟩
theorem JgI (l:List ByteArray) (sep:ByteArray) (hl:l.length≤1000000) (hs:(Jeg l sep).size≤140737488355328):Tells Tryz.prog 190 [JnF l,Jh sep] (Jh (Jeg l sep)):=by
 have h:=Jru (P:=Tryz.prog) (f:=190) (u:= .string (Jeg l sep)) (xs:=l.map .string) (vs:= [.string sep]) ⟨_,Tryz.func190,rfl,rfl⟩ (fun h0 a cap w _=> ?_) (fun b off cap w hk hc hb hcap h0=> ?_)
 refine Tells.args (bs:= [.sl 1 (l.map Value.string).length (fun k=> .v ((l.map Value.string).getD k undef)),Jh sep]) ⟨?_,Rf,trivial⟩ h
 ·rw [List.length_map]
  refine AVle.sl_fun fun k hk=> ?_
  simp [Jh,List.getD,List.getElem?_map,List.getElem?_eq_getElem hk]
 ·obtain rfl:l= []:=by simpa using h0
  exact (Any.strings_Join_none Tryz.lays156 JwI a cap sep w).mono fun e w' ⟨h1,h2⟩=> ⟨h1,h2 ▸ Below.refl _ _⟩
 ·rw [List.length_map] at hcap⊢
  exact Any.strings_Join Tryz.lays156 JwI b off cap l sep w (fun j x hx=> hc j _ (by rw [List.getElem?_map,hx];rfl)) hb Om hcap (by simpa [Jeg,ByteArray.size] using hs)
theorem Jpk (n:Nat) (h:n < 18446744073709551616):Tells Tryz.prog 248 [u64 n] (Jh (Jdv n)):=by
 have h1:Tells Tryz.prog 303 [u64 n,int 10] (Jh (Jdv n)):=by
  refine Jf Tryz.func303 rfl rfl fun nx=> ?_
  refine stp ?_
  refine Je rfl rfl (Jpj n h) ⟨Rf,Rf,trivial⟩ fun nx2=> ?_
  refine stp ?_
  exact Jd rfl Rf
 refine Jf Tryz.func248 rfl rfl fun nx=> ?_
 refine stp ?_
 refine Je rfl rfl h1 ⟨Rf,Rf,trivial⟩ fun nx2=> ?_
 refine stp ?_
 exact Jd rfl Rf
def JlS (c:Cnd):ByteArray:=⟨(Jaf c).toArray⟩
theorem JjU {n:Nat} (h:n < 18446744073709551616):(Lib.decDigits n).length≤20:=by
 have h2:(Jdv n).size≤20:=JmQ Om
 exact h2
theorem Jxu {k:Nat} (hk:k < 7):∃s:ByteArray,s.data.toList=opT k∧s.size≤2∧∃f,Jdo Jls k= .ag [Jh s,fn0 f]:=by
 match k,hk with
 | 0,_ | 1,_ | 2,_ | 3,_ | 4,_ | 5,_ | 6,_=> exact ⟨_,rfl,by decide,_,rfl⟩
theorem Jsy {f:Nat→AV} (h:(f 0).cells.all Jcb=true) (h':(f 1).cells.all Jcb=true):JcW 2 f:=fun k hk=> by
 rcases k with _ | _ | k
 ·exact h
 ·exact h'
 ·omega
theorem JyV (a b c:Bts):Lib.join [a,b,c] [32]=a++32::(b++32::c):=by simp [Lib.join,List.intercalate,List.intersperse]
theorem JyW (a b c d e:Bts):Lib.join [a,b,c,d,e] [32]=a++32::(b++32::(c++32::(d++32::e))):=by simp [Lib.join,List.intercalate,List.intersperse]
def aB:ByteArray:=⟨#[97]⟩
def eqB:ByteArray:=⟨#[61,61]⟩
theorem Jgq (a b:ByteArray):(a++b).data.toList=a.data.toList++b.data.toList:=by simp
theorem Jgr (n:Nat):(Jdv n).data.toList=Lib.decDigits n:=rfl
theorem Jzd {i k m v:Nat} {so:ByteArray} (h:so.data.toList=opT k) (hk:k≠6):Jeg [aB++Jdv i,so,Jdv v] spB=JlS ⟨(i:Nat),(k:Int)+1,m,v⟩:=by
 unfold Jeg JlS Jaf
 rw [List.map_cons,List.map_cons,List.map_cons,List.map_nil,Jgq,h,Jgr,Jgr,show spB.data.toList= [32] from rfl,JyV]
 dsimp only
 rw [if_neg Om,show ((k:Int)+1).toNat - 1=k by omega,Int.toNat_natCast]
 rfl
theorem Jze {i m v:Nat} {so:ByteArray} (h:so.data.toList=opT 6):Jeg [aB++Jdv i,so,Jdv m,eqB,Jdv v] spB=JlS ⟨(i:Nat),7,m,v⟩:=by
 unfold Jeg JlS Jaf
 rw [List.map_cons,List.map_cons,List.map_cons,List.map_cons,List.map_cons,List.map_nil,Jgq,h,Jgr,Jgr,Jgr,show spB.data.toList= [32] from rfl,JyW]
 dsimp only
 rw [if_pos rfl,Int.toNat_natCast]
 rfl
theorem Jin {c:Cnd} (hr:JK c=true) (hok:c.ok):(JlS c).size≤1000:=by
 obtain ⟨h1,h2,h3,h4,h5⟩:=J8.1 hr
 show (Jaf c).length≤1000
 have d1:=JjU (n:=c.arg.toNat) Om
 have d2:=JjU hok.1
 have d3:=JjU hok.2
 have d4:∀k:Nat,k < 7→(opT k).length≤2:=by decide
 have d5:=d4 (c.op.toNat - 1) Om
 unfold Jaf
 simp only [List.length_append,List.length_cons,List.length_nil]
 split
 ·simp only [List.length_append,List.length_cons];omega
 ·omega
theorem Jpl {a b:ByteArray} (h:a=b):AVle (Jh a) (Jh b):=Js7 h
set_option maxHeartbeats 2000000 in
theorem JuB (c:Cnd) (hr:JK c=true) (hok:c.ok):Tells Tryz.prog 174 [JG c] (Jh (JlS c)):=by
 obtain ⟨h1,h2,h3,h4,h5⟩:=J8.1 hr
 have hR:=JdV c
 rw [hr] at hR
 obtain ⟨arg,op,mask,value⟩:=c
 dsimp only at h1 h2 h3 h4 h5
 obtain ⟨i,rfl⟩:∃i:Nat,arg=i:=⟨arg.toNat,by omega⟩
 obtain ⟨k,rfl⟩:∃k:Nat,op=k+1:=⟨(op - 1).toNat,by omega⟩
 have hit:=Jur i Om
 have hdv:=Jpk value hok.2
 have hdm:=Jpk mask hok.1
 have hk7:k < 7:=by omega
 obtain ⟨so,hso,hss,f,hf⟩:=Jxu hk7
 have hx:IntKind.i64.wrap ((k:Int)+1 - 1)=(k:Int):=by rw [Jai Om Om];omega
 refine Jf Tryz.func174 rfl rfl fun nx=> ?_
 refine stp ?_
 refine Je rfl rfl hR ⟨Rf,trivial⟩ fun nx2=> ?_
 refine stp ?_
 refine J1 12 _ (fun _=> false) (fun i=> match i with | 2=> true | 4=> true | _=> false) [0,1,2,3,4,5,6,7,8,9,10,11] (by kernel_rfl) (by kernel_rfl) (HB.refl _) ?_
 refine stp ?_
 refine ⟨_,JD rfl rfl rfl hit ⟨Rf,trivial⟩ (NoId.v _), ?_⟩
 refine stp ?_
 refine ⟨by have:=JmQ (n:=i) Om;have h2:(⟨#[97]⟩:ByteArray).size=1:=rfl;rw [h2];omega, ?_⟩
 refine stp ?_
 refine ⟨_,JD rfl rfl rfl Joy trivial Joz, ?_⟩
 refine stp ?_
 refine ⟨⟨by rw [hx];omega,by rw [hx];omega⟩,JmR (b:= .rp [Jh so,fn0 f]) (by rw [hx];show AV.rp (Jdo Jls k).cells=_;rw [hf];rfl) ?_⟩
 refine stp ?_
 intro c t1;cases c
 ·have t1:k≠6:=fun e=> by subst e;cases t1
  refine stp ?_
  refine Je rfl rfl hdv ⟨Rf,trivial⟩ fun nx3=> ?_
  refine stp ?_
  refine ⟨JC rfl,by show (2+1) * 16≤_;decide,by decide, ?_⟩
  refine stp ?_
  have e:=Jzd (i:=i) (m:=mask) (v:=value) hso t1
  refine Je rfl rfl (JgI [aB++Jdv i,so,Jdv value] spB (by show 3≤_;decide) (by rw [e];exact Nat.le_trans (Jin hr hok) Dc)) ⟨AVle.os_sl.trans (AVle.sl_fun fun j hj=> ?_),Rf,trivial⟩ fun nx3=> ?_
  ·match j,hj with
   | 0,_ | 1,_ | 2,_=> rfl
  refine stp ?_
  exact Jd rfl (Jpl e)
 ·have t1:k=6:=by have:(k:Int)+1=7:=by simpa using t1.symm
                  omega
  subst t1
  refine stp ?_
  refine Je rfl rfl hdm ⟨Rf,trivial⟩ fun nx3=> ?_
  refine stp ?_
  refine ⟨Jsy rfl rfl,by show (2+2) * 16≤_;decide,by decide, ?_⟩
  refine stp ?_
  refine Je rfl rfl hdv ⟨Rf,trivial⟩ fun nx3=> ?_
  refine stp ?_
  refine ⟨JC rfl,by show (4+1) * 16≤_;decide,by decide, ?_⟩
  refine stp ?_
  have e:=Jze (i:=i) (m:=mask) (v:=value) hso
  refine Je rfl rfl (JgI [aB++Jdv i,so,Jdv mask,eqB,Jdv value] spB (by show 5≤_;decide) (by rw [e];exact Nat.le_trans (Jin hr hok) Dc)) ⟨AVle.os_sl.trans (AVle.sl_fun fun j hj=> ?_),Rf,trivial⟩ fun nx3=> ?_
  ·match j,hj with
   | 0,_ | 1,_ | 2,_ | 3,_ | 4,_=> rfl
  refine stp ?_
  exact Jd rfl (Jpl e)
end Go.Proofs.W

namespace Go.Proofs
open Go.Shelf
shelf_lay_g SlLaysN.n44 Slgn 44 at Tryz 191 as Tryz.laysN44
end Go.Proofs
namespace Go.Proofs.W
open Go.Vl Go.Shelf
set_option maxRecDepth 100000
theorem Jk3 (d:Array Bts):∀m,Lib.compactUpTo d m=cUs d m
 | 0=> rfl
 | m+1=> by
   rw [Lib.compactUpTo_succ,Jk3 d m,cUs]
   unfold Lib.keeps
   by_cases h:m=0∨d[m]! ≠d[m - 1]!
   ·rw [if_pos h,decide_eq_true h];rfl
   ·rw [if_neg h,decide_eq_false h];simp
theorem JuC (d0:Array Bts) (tl:List AV) (n:Nat) (hn:d0.size=n) (hsz:n≤1000000) (s cap nx:Nat) (hcap:n≤cap):
 ECall Tryz.prog 191 [.hs (0,s) 0 n cap] ⟨Jdg s d0 tl, [],nx,1⟩ (fun r h'=> ∃tl' nx' nn',r= .hs (0,s) 0 (cUs d0 n).length cap∧h'=⟨Jdg s (cUs d0 n).toArray tl', [],nx',nn'⟩):=by
 subst hn
 have hle:=Jpc d0 d0.size
 have h:=Jmi (P:=Tryz.prog) (enc:=encStr) (d:=d0) (d':=(cUs d0 d0.size++List.replicate (d0.size - (cUs d0 d0.size).length) []).toArray) (tl:=tl) (vs:= []) (R:= .hs (0,s) 0 (cUs d0 d0.size).length cap) (res:=fun b=> .slice (some ⟨b,0,none⟩) (cUs d0 d0.size).length cap) (nm:=0) (s:=s) (cap:=cap) (nx:=nx) (nn:=1) (f:=191) ⟨_,Tryz.func191,rfl,rfl⟩ (by simp;omega) (fun w X g b hg=> .hs _ _ _ _ b hg) (fun w blk hk hH hb=> by
  have k:=AnyG.slices_Compact_string_arr Tryz.laysN44 blk 0 cap d0 w hH Om hcap
  rw [Jk3] at k
  exact k.mono fun e w' ⟨h1,q,h2⟩=> ⟨h1,q, #[],by rw [h2];unfold Sort.grow;rw [Array.append_empty]⟩)
 refine h.mono fun r h' ⟨h1,h2⟩=> ⟨List.replicate (d0.size - (cUs d0 d0.size).length) (JaP [])++tl,nx,1,h1, ?_⟩
 rw [h2]
 unfold Jdg Jde
 simp [JaP]
def Jsz (sz:Nat):AV:= .os sz 0 (fun _=> .any) none
theorem JuD:Tells Tryz.prog 191 [Jsz 1] (Jsz 1):=by
 refine Jf Tryz.func191 rfl rfl fun nx=> ?_
 refine stp ?_
 exact Jd rfl Rf
theorem Jio (d:Array Bts) (tl:List AV):Jde JaP d tl=Jal (fun z=> [JaP z]) d tl:=by
 unfold Jde Jal
 rw [List.map_eq_flatMap]
theorem Jpm:∀z:Bts,([JaP z]:List AV).length=1:=fun _=> rfl
theorem c_str:Tryz.prog.cellsOf 9=1:=by kernel_rfl
theorem JuE:Jbm Tryz.prog 9=true:=by kernel_rfl
theorem JuF:Tryz.prog.bytesOf 9=16:=by kernel_rfl
theorem JyX {l:List Bts} {x:Bts} {tl:List AV} (h:1≤tl.length):Jas (Jde JaP l.toArray tl) (l.length * Tryz.prog.cellsOf 9) [JaP x]=Jde JaP (l++ [x]).toArray (tl.drop 1):=by
 rw [c_str,Jio,Jio];exact Jme Jpm h
theorem JyY {x:Bts} {m:Nat}: [JaP x]++List.replicate (m * Tryz.prog.cellsOf 9) AV.any=Jde JaP #[x] (List.replicate m .any):=by
 rw [c_str];simp [Jde]
theorem JyZ {l:List Bts} {x:Bts} {tl:List AV} {m:Nat}:(Jde JaP l.toArray tl).take (l.length * Tryz.prog.cellsOf 9)++ [JaP x]++List.replicate (m * Tryz.prog.cellsOf 9) .any=Jde JaP (l++ [x]).toArray (List.replicate m .any):=by
 rw [c_str,Jio,Jio,Jmf Jpm,Nat.mul_one];exact Jos
def Jzf (L:List Bts):Option (Nat×Nat×List AV)→AV
 | none=> Jsz 1
 | some (s1,cap,_)=> .hs (0,s1) 0 L.length cap
def Jzg (L:List Bts):Option (Nat×Nat×List AV)→List (Vl.Id×Own)
 | none=> []
 | some (s1,_,tl)=> Jdg s1 L.toArray tl
def Jzh (L:List Bts):Option (Nat×Nat×List AV)→Prop
 | none=> L= []
 | some (_,cap,tl)=> 1≤L.length∧L.length≤cap∧cap≤L.length+tl.length
theorem JqT {i j:Vl.Id} {L:List Bts} {x:Bts} {cap:Nat} (h:i.2=j.2):AVle (.hs i 0 (L.length+1) cap) (.hs j 0 (L++ [x]).length cap):=by
 rw [List.length_append];exact AVle.hs_nm h
theorem Jy0 {L:List Bts}:AVle (JT 1 JaP [] L) (JnF (L.map fun z=> ⟨z.toArray⟩)):=by
 unfold JT JnF JT
 rw [List.length_map]
 refine AVle.sl_fun fun k hk=> ?_
 simp [JaP,encStr,Jh,List.getD,List.getElem?_map,List.getElem?_eq_getElem hk]
def semiB:ByteArray:=⟨#[59]⟩
theorem JqU:∀L:List Bts,Lib.join L [59]=JeL 59 L
 | []=> rfl
 | [a]=> by rw [Lib.join_one];rfl
 | a::b::l=> by
   have:=JqU (b::l)
   rw [Jce (List.cons_ne_nil _ _),← this]
   simp [Lib.join,List.intercalate,List.intersperse]
theorem Jv8 (L:List Bts):Jeg (L.map fun z=> ⟨z.toArray⟩) semiB=⟨(JeL 59 L).toArray⟩:=by
 unfold Jeg
 rw [List.map_map,show ((fun x:ByteArray=> x.data.toList)∘fun z:Bts=> (⟨z.toArray⟩:ByteArray))=id from funext fun z=> by simp,List.map_id,show semiB.data.toList= [59] from rfl,JqU]
theorem JmS:∀(L:List Bts) (N:Nat),(∀a∈L,a.length≤N)→(JeL 59 L).length≤L.length * (N+1)
 | [],N,_=> Nat.zero_le _
 | [a],N,h=> by have:=h a (.head _);show a.length≤_;simp;omega
 | a::b::l,N,h=> by
   have h1:=h a (.head _)
   have h2:=JmS (b::l) N fun x hx=> h x (.tail _ hx)
   rw [Jce (List.cons_ne_nil _ _),List.length_append,List.length_cons]
   rw [show (a::b::l).length=(b::l).length+1 from rfl,Nat.succ_mul]
   omega
def Jfx (cs:List Cnd):ByteArray:=⟨(JgV cs).toArray⟩
theorem JsA {cs:List Cnd} {i:Nat} (hi:i < cs.length):(cs.take (i+1)).map Jaf=(cs.take i).map Jaf++ [Jaf (cs.getD i cnd0)]:=by
 rw [Jb0 cnd0 hi,List.map_append];rfl
theorem JqV (cs:List Cnd):Jeg ((Jcz (cs.map Jaf)).map fun z=> ⟨z.toArray⟩) semiB=Jfx cs:=Jv8 _
theorem Jv9:Jh (Jeg [] semiB)=Jh (Jfx []):=by
 unfold Jfx
 rw [JjR.2 rfl];rfl
theorem JnG {a b:Own} (h:a=b):OwnLe a b:=h ▸ OwnLe.refl a
theorem Jwa {bs:List (Nat×Own)} {i:Vl.Id} {n cap:Nat} {l:List Bts} {tl:List AV} (hn:l.length=n) (hm:(i.2, .c (Jde JaP l.toArray tl))∈bs) (hcap:n≤cap):Frz bs (.hs i 0 n cap) (JT 1 JaP [] l):=
 Jhs Jpm (fun _=> rfl) hn (by rw [← Jio];exact hm) hcap
theorem JuG {c:Cnd} (hr:JK c=true) (hok:c.ok):(Jaf c).length≤1000:=Jin hr hok
theorem JmT (l:List Bts):(Jcz l).length≤l.length:=by
 have:=Jpc (JfV l).toArray (JfV l).length
 unfold Jcz
 have h2:(JfV l).length=l.length:=JbE
 omega
theorem Jk4 {cs:List Cnd} (hr:∀c∈cs,JK c=true) (hok:∀c∈cs,c.ok) (hl:cs.length≤12):(Jfx cs).size≤12012:=by
 have h1:=JmS (Jcz (cs.map Jaf)) 1000 fun a ha=> by
  obtain ⟨c,hc,rfl⟩:=List.mem_map.1 (((JbB _).2 a).1 ha)
  exact JuG (hr c hc) (hok c hc)
 have h2:=JmT (cs.map Jaf)
 rw [List.length_map] at h2
 have h3:(Jcz (cs.map Jaf)).length * (1000+1)≤12 * (1000+1):=Nat.mul_le_mul_right _ Om
 show (JgV cs).length≤_
 unfold JgV
 omega
set_option maxHeartbeats 4000000 in
theorem Jwb (cs:List Cnd) (hr:∀c∈cs,JK c=true) (hok:∀c∈cs,c.ok) (hl:cs.length≤12):Tells Tryz.prog 104 [Jam cs] (Jh (Jfx cs)):=by
 refine Jf Tryz.func104 rfl rfl fun nx=> ?_
 refine stp ?_
 refine Jx (fun y:Nat×List Bts×Option (Nat×Nat×List AV)×Nat=> mk 23 [(3,Jzf y.2.1 y.2.2.1),(6,Jam cs),(7,int cs.length),(8,int y.1)] ⟨Jzg y.2.1 y.2.2.1, [],y.2.2.2,1⟩) (fun y=> y.1≤cs.length∧y.2.1=(cs.take y.1).map Jaf∧Jzh y.2.1 y.2.2.1) (fun y=> cs.length - y.1) ?_ ?_
 ·exact ⟨(0, [],none,nx),⟨Nat.zero_le _,rfl,rfl⟩,Jm (bx:= []) (pm:= []) [] [] rfl rfl (List.nil_sublist _) Sf trivial trivial ⟨AVle.os_nil,Rf,Rf,Rf,trivial⟩⟩
 ·rintro ⟨i,L,md,nx1⟩ ⟨h1,hL,h2⟩
  dsimp only at h1 hL h2
  have hLl:L.length=i:=by rw [hL,List.length_map,List.length_take];omega
  refine stp ?_
  intro c g;cases c
  ·have g:=Jt g
   try dsimp only at g
   have hi:i=cs.length:=by omega
   subst hi
   rw [List.take_length] at hL
   rcases md with _ | ⟨s1,cap,tl⟩
   ·obtain rfl:L= []:=h2
    obtain rfl:cs= []:=List.length_eq_zero_iff.1 (by simpa using hLl.symm)
    refine stp ?_
    refine Je rfl rfl (JtF _) ⟨Rf,trivial⟩ fun nx2=> ?_
    refine stp ?_
    refine Je rfl rfl JuD ⟨Rf,trivial⟩ fun nx3=> ?_
    refine stp ?_
    refine Je rfl rfl (JgI [] semiB Dc Dc) ⟨AVle.os_sl0,Rf,trivial⟩ fun nx4=> ?_
    refine stp ?_
    exact Jd rfl (AVle.of_eq Jv9)
   ·obtain ⟨q1,q2,q3⟩:=h2
    refine stp ?_
    refine J2 (xs:= [.hs (0,s1) 0 L.length cap]) [] [] 1 rfl rfl rfl rfl ⟨Rf,trivial⟩ (JtE L.toArray tl L.length (by simp) Om s1 cap _) Bf Pf rfl fun r h' hq=> ?_
    obtain ⟨nx2,nn2,rfl⟩:=hq
    refine stp ?_
    refine J2 (xs:= [.hs (0,s1) 0 L.length cap]) [] [] 1 rfl rfl rfl rfl ⟨Rf,trivial⟩ (JuC (JaA Go.Sort.ltStr L.toArray.toList).toArray tl L.length (by simp [JbE]) Om s1 cap _ q2) Bf Pf rfl fun r h' hq=> ?_
    obtain ⟨tl2,nx3,nn3,rfl,rfl⟩:=hq
    refine stp ?_
    have hst:∀l:List Bts,(JaA Go.Sort.ltStr l).length=l.length:=fun l=> JbE
    have hcT:cUs (JaA Go.Sort.ltStr L.toArray.toList).toArray L.length=Jcz (cs.map Jaf):=by
     unfold Jcz JfV
     rw [hst,← hL]
    rw [hcT]
    have hcl:=JmT (cs.map Jaf)
    rw [← hL] at hcl
    rw [← hL]
    have hj:Tells Tryz.prog 190 [JT 1 JaP [] (Jcz L),Jh semiB] _:=Tells.args (bs:= [JnF ((Jcz L).map fun z=> ⟨z.toArray⟩),Jh semiB]) ⟨Jy0,Rf,trivial⟩ (JgI ((Jcz L).map fun z=> ⟨z.toArray⟩) semiB (by rw [List.length_map];omega) (by rw [hL,JqV];exact Nat.le_trans (Jk4 hr hok hl) Dc))
    refine AOp.of_yields (JpT rfl rfl hj ⟨Jwa (i:=(0,s1)) rfl (.head _) Om,Frz.refl _,trivial⟩ (Flat.v _)) ?_
    refine stp ?_
    exact Jd rfl (Jpl (by rw [hL];exact JqV cs))
  ·have g:=Ju g
   try dsimp only at g
   have hi:i < cs.length:=by omega
   have hm:cs.getD i cnd0∈cs:=by simp [List.getD,hi]
   have ht:=JuB _ (hr _ hm) (hok _ hm)
   have hn:=JsA hi
   rw [← hL] at hn
   rcases md with _ | ⟨s1,cap,tl⟩
   ·obtain rfl:L= []:=h2
    refine stp ?_
    refine ⟨Bd, ?_⟩
    refine JW ?_
    refine JU (fun i=> match i with | 0=> true | _=> false) 5 ?_
    refine stp ?_
    refine Je rfl rfl ht ⟨Rf,trivial⟩ fun nx2=> ?_
    refine stp ?_
    refine Jgg (m:=1) rfl rfl (.inr ⟨_,rfl⟩) Tryz.underlying207 JuE c_str.symm Dc (JC rfl) (by rw [JuF];omega) Om fun ncap hcap=> ?_
    refine stp ?_
    exact back (i+1, [Jaf (cs.getD i cnd0)],some (nx2,ncap,List.replicate (ncap - 1) .any),nx2+1) ⟨hi,hn.symm,⟨Nat.le_refl _,hcap,by simp;omega⟩⟩ Dm (Jm (pm:= []) (bx:=Jdg nx2 #[Jaf (cs.getD i cnd0)] (List.replicate (ncap - 1) .any)) [((2,nx2), .c ([JaP (Jaf (cs.getD i cnd0))]++List.replicate ((ncap - 1) * Tryz.prog.cellsOf 9) .any))] [] rfl rfl (.cons_cons _ (.cons _ .slnil)) .slnil ⟨rfl,JnG (congrArg Own.c JyY),trivial⟩ trivial ⟨AVle.hs_nm rfl,Rf,Rf,Lw,trivial⟩)
   ·obtain ⟨q1,q2,q3⟩:=h2
    refine stp ?_
    refine ⟨Bd, ?_⟩
    refine JW ?_
    refine JU (fun i=> match i with | 0=> true | _=> false) 5 ?_
    refine stp ?_
    refine Je rfl rfl ht ⟨Rf,trivial⟩ fun nx2=> ?_
    refine stp ?_
    refine Jff (m:=1) (szx:=1) (n:=L.length) (cap:=cap) (cs:=Jde JaP L.toArray tl) (i:=(0,s1)) rfl rfl (.inr ⟨_,rfl⟩) Tryz.underlying207 JuE (.inr c_str.symm) (by rfl) q2 (by rw [c_str,Jol];simpa using q3) (JC rfl) (fun _=> by rw [JuF];omega) (fun _=> by omega) (fun hm=> absurd hm Dc) (fun hm hfit=> ?_) (fun hm hfit ncap hcap=> ?_)
    ·refine stp ?_
     (conv=> whnf)
     exact back (i+1,L++ [Jaf (cs.getD i cnd0)],some (s1,cap,tl.drop 1),nx2) ⟨hi,hn.symm,⟨by simp,by simpa using hfit,by simp;omega⟩⟩ Dm (Jm (pm:= []) (bx:=Jdg s1 (L++ [Jaf (cs.getD i cnd0)]).toArray (tl.drop 1)) [((0,s1), .c (Jas (Jde JaP L.toArray tl) (L.length * Tryz.prog.cellsOf 9) [JaP (Jaf (cs.getD i cnd0))]))] [] rfl rfl (.cons _ (.cons_cons _ .slnil)) .slnil ⟨rfl,JnG (congrArg Own.c (JyX (by have:=hfit;omega))),trivial⟩ trivial ⟨JqT rfl,Rf,Rf,Lw,trivial⟩)
    ·refine stp ?_
     (conv=> whnf)
     exact back (i+1,L++ [Jaf (cs.getD i cnd0)],some (nx2,ncap,List.replicate (ncap - (L.length+1)) .any),nx2+1) ⟨hi,hn.symm,⟨by simp,by simpa using hcap,by simp;omega⟩⟩ Dm (Jm (pm:= []) (bx:=Jdg nx2 (L++ [Jaf (cs.getD i cnd0)]).toArray (List.replicate (ncap - (L.length+1)) .any)) [((2,nx2), .c ((Jde JaP L.toArray tl).take (L.length * Tryz.prog.cellsOf 9)++ [JaP (Jaf (cs.getD i cnd0))]++List.replicate ((ncap - (L.length+1)) * Tryz.prog.cellsOf 9) .any))] [] rfl rfl (.cons_cons _ (.cons _ (.cons _ .slnil))) .slnil ⟨rfl,JnG (congrArg Own.c JyZ),trivial⟩ trivial ⟨JqT rfl,Rf,Rf,Lw,trivial⟩)
end Go.Proofs.W

namespace Go.Proofs.W
open Go.Vl
set_option maxRecDepth 100000
def esV (N:List ByteArray):List (Value×AV):=N.map fun s=> (.string s, .v (.bool true))
def inV (N:List ByteArray) (s:ByteArray):Bool:=N.any fun t=> kS s t
theorem JlT (N:List ByteArray):Ja6 .string (esV N)=true:=by simp [Ja6,esV,JaU]
theorem Jpn (s:ByteArray):∀N:List ByteArray,Jbg (.string s) (esV N)=if inV N s then some (.v (.bool true)) else none
 | []=> rfl
 | t::N=> by
   have ih:=Jpn s N
   show (bif s.toList ==t.toList then _ else Jbg (.string s) (esV N))=_
   rw [ih]
   unfold inV
   rw [List.any_cons]
   unfold kS
   cases s.toList ==t.toList <;> rfl
theorem JqW (s:ByteArray):∀N:List ByteArray,inV N s=false→JcV (.string s) (.v (.bool true)) (esV N)=esV (N++ [s])
 | [],_=> rfl
 | t::N,h=> by
   unfold inV at h
   rw [List.any_cons,Bool.or_eq_false_iff] at h
   show (bif s.toList ==t.toList then _ else (_:Value×AV)::JcV _ _ (esV N))=_
   unfold kS at h
   rw [h.1,cond_false,JqW s N h.2];rfl
theorem JqX {s:ByteArray} {N:List ByteArray}:Je8 (Jbg (.string s) (esV N)) (.v (.bool false)) false= .v (.bool (inV N s)):=by
 rw [Jpn];cases inV N s <;> rfl
def Je2 (r:Rul):List AV:= [Jh r.name,int r.act.1,int r.act.2,Jam r.conds]
theorem JsB (c:Cnd) (hok:c.ok):Tells Tryz.prog 103 [JG c] (Jb (JfF c)):=by
 obtain ⟨arg,op,mask,value⟩:=c
 refine Jf Tryz.func103 rfl rfl fun nx=> ?_
 refine stp ?_
 intro c t1;cases c
 ·refine stp ?_
  refine Jd rfl (JB ?_)
  have:¬op=7:=fun e=> by subst e;cases t1
  unfold JfF
  rw [decide_eq_false this];rfl
 ·have h7:op=7:=by simpa using t1.symm
  refine stp ?_
  intro c hc
  have e:JfF ⟨arg,op,mask,value⟩=c:=by
   unfold JfF
   rw [decide_eq_true h7,Bool.true_and,hc]
   dsimp only
   rw [Jkn hok.2 hok.1]
   by_cases h0:JgP value mask=0
   ·rw [h0];rfl
   ·rw [decide_eq_true h0]
    exact (bne_iff_ne.2 (fun e=> h0 (Int.ofNat.inj e))).symm
  rw [e]
  cases c
  ·refine stp ?_
   exact Jd rfl Rf
  ·refine stp ?_
   exact Jd rfl Rf
theorem JuH (r:Rul) (hok:∀c∈r.conds,c.ok) (hl:r.conds.length≤1000000000):Tells Tryz.prog 101 [.rp (Je2 r)] (Jb (!(r.conds.any JfF))):=by
 have hc:=JoD r.conds JfF 103 hl fun i hi=> JsB _ (hok _ (by simp [List.getD,hi]))
 generalize r.conds.any JfF=b at hc⊢
 refine Jf Tryz.func101 rfl rfl fun nx=> ?_
 refine stp ?_
 refine Je rfl rfl hc ⟨Rf,Rf,trivial⟩ fun nx2=> ?_
 cases b
 ·refine stp ?_
  exact Jd rfl Rf
 ·refine stp ?_
  exact Jd rfl Rf
theorem JuI (l:List TRow) (r:Rul) (hl:l.length≤1000000) (hs:Jhw l r.name):Tells Tryz.prog 100 [.rp [JJ l], .rp (Je2 r)] (Jb (Ja2 l r.name)):=by
 have hf:=Jgk l r.name hl hs
 unfold Jku at hf
 refine Jf Tryz.func100 rfl rfl fun nx=> ?_
 cases hb:Ja2 l r.name with
 | true=>
   rw [hb,if_pos rfl] at hf
   refine stp ?_
   refine Je rfl rfl hf ⟨Rf,Rf,trivial⟩ fun nx2=> ?_
   refine stp ?_
   exact Jd rfl Rf
 | false=>
   rw [hb,if_neg Dc] at hf
   refine stp ?_
   refine Je rfl rfl hf ⟨Rf,Rf,trivial⟩ fun nx2=> ?_
   refine stp ?_
   exact Jd rfl Rf
def colB:ByteArray:=⟨#[58]⟩
def Jgs (N:List ByteArray) (s own:ByteArray):Bool:= !inV N (s++colB)&& !inV N own
set_option maxHeartbeats 1000000 in
theorem JuJ (N:List ByteArray) (r:Rul) (own:ByteArray) (hs:r.name.size≤1000000) (s nx:Nat):
 ECall Tryz.prog 105 [.rp [.om (0,s)], .rp (Je2 r), .rp [Jh own]] ⟨[((0,s), .mp (esV N))], [],nx,1⟩ fun b h'=> ∃nx' nn',b=Jb (Jgs N r.name own)∧h'=⟨[((0,s), .mp (esV N))], [],nx',nn'⟩:=by
 refine ECall.wk (J0 Tryz.func105 rfl rfl ?_)
 refine JbI ?_
 refine ⟨by have h2:(⟨#[58]⟩:ByteArray).size=1:=rfl;rw [h2];omega, ?_⟩
 refine JbI ?_
 refine ⟨⟨rfl,JlT _⟩,Jr (b:= .v (.bool (inV N (r.name++colB)))) JqX ?_⟩
 unfold Jgs
 cases h1:inV N (r.name++colB)
 ·refine JbI ?_
  refine ⟨⟨rfl,JlT _⟩,Jr (b:= .v (.bool (inV N own))) JqX ?_⟩
  cases h2:inV N own
  ·refine stp ?_
   exact Jac rfl ⟨_,_,Rf,HLe.refl _,_,_,rfl,rfl⟩
  ·refine stp ?_
   exact Jac rfl ⟨_,_,Rf,HLe.refl _,_,_,rfl,rfl⟩
 ·refine stp ?_
  exact Jac rfl ⟨_,_,Rf,HLe.refl _,_,_,rfl,rfl⟩
end Go.Proofs.W

namespace Go.Proofs.W
open Go.Vl
set_option maxRecDepth 100000
def JdN (r:Rul):ByteArray:=r.name++colB++Jfx r.conds
theorem JmU (r:Rul):(JdN r).data.toList=JhG r:=by
 unfold JdN JhG Jfx JhF
 rw [Jgq,Jgq,show colB.data.toList= [58] from rfl]
 simp
theorem JqY {N:List ByteArray} {s:ByteArray}:inV N s=true↔s.data.toList∈N.map (fun t=> t.data.toList):=by
 unfold inV
 rw [List.any_eq_true,List.mem_map]
 exact ⟨fun ⟨t,h1,h2⟩=> ⟨t,h1,by rw [Ja4.1 h2]⟩,fun ⟨t,h1,h2⟩=> ⟨t,h1,Ja4.2 (JgC h2.symm)⟩⟩
def Jbi (rs:List Rul) (i:Nat):List ByteArray:=(rs.take i).map JdN
theorem JsC (rs:List Rul) (i:Nat):(Jbi rs i).map (fun t=> t.data.toList)=JkX rs i:=by
 unfold Jbi JkX
 rw [List.map_map]
 exact List.map_congr_left fun r _=> JmU r
theorem Jpo {rs:List Rul} (h:∀r∈rs,Jax r=true) {i:Nat} {r:Rul} (hr:Jax r=true):Jgs (Jbi rs i) r.name (JdN r)= !(rs.take i).any (JgW r):=by
 unfold Jgs
 rw [← Bool.not_or]
 congr 1
 rw [Bool.eq_iff_iff,Bool.or_eq_true,JqY,JqY,JsC,JmU,Jgq,show colB.data.toList= [58] from rfl]
 exact Jus h hr
theorem JuK {rs:List Rul} {i:Nat} (hi:i < rs.length):Jbi rs (i+1)=Jbi rs i++ [JdN (rs.getD i Jl)]:=by
 unfold Jbi
 rw [Jb0 Jl hi,List.map_append];rfl
def Jzi (l:List TRow) (r:Rul) (s:Nat):List AV:= [.ag [.fn (.func 100) [] [.rp [JJ l], .rp (Je2 r)],int 14], .ag [.fn (.func 101) [] [.rp (Je2 r)],int 16], .ag [.fn (.func 105) [] [.rp [.om (0,s)], .rp (Je2 r), .rp [Jh (JdN r)]],int 15]]
theorem JuL {rs:List Rul} {i:Nat} {r:Rul} (h:Jgs (Jbi rs i) r.name (JdN r)=true):inV (Jbi rs i) (JdN r)=false:=by
 unfold Jgs at h
 simp only [Bool.and_eq_true,Bool.not_eq_true'] at h
 exact h.2
theorem Jhb {a b c d:Int} (h:(a,b)=(c,d)):AVle (.tup [int a,int b]) (.tup [int c,int d]):=by
 cases h;exact Rf
theorem Jys:Jj3 Tryz.prog 9=some [Jh ⟨#[]⟩]:=by kernel_rfl
theorem AVle.om_nm {i j:Vl.Id} (h:i.2=j.2):AVle (.om i) (.om j):=fun w X g u hr=> by
 cases hr with
 | om _ b hg=> exact .om _ b (h ▸ hg)
theorem AVle.rps {cs ds:List AV} (h:LeL cs ds):AVle (.rp cs) (.rp ds):=fun w X g u hr=> by
 obtain ⟨hl,h⟩:=h.get
 cases hr with
 | rp _ b off vs hn hcell hr=>
   refine .rp _ b off vs (by rw [hn,hl]) hcell fun k d u hd hu=> ?_
   have hlt:k < cs.length:=by rw [hl];exact (List.getElem?_eq_some_iff.1 hd).1
   exact h k _ d (List.getElem?_eq_getElem hlt) hd _ _ _ _ (hr k _ u (List.getElem?_eq_getElem hlt) hu)
theorem Jxv {rs:List Rul} {i:Nat} (h:i < rs.length):rs.getD i Jl∈rs:=by simp [List.getD,h]
set_option maxHeartbeats 8000000 in
theorem Jpp (p:Pol) (l:List TRow) (hp:p.ok) (hp2:∀r∈p.rules,r.conds.length≤12∧r.name.size≤1000000) (hl:l.length≤1000000) (hn:∀r∈l,r.name.size≤maxLen):Tells Tryz.prog 43 [JbR p,JJ l] (.tup [int (J7 p l).1,int (J7 p l).2]):=by
 have hR:=Jjg p hp
 have hT:=Jni l hl hn
 cases hb:JaJ p with
 | false=>
   rw [hb] at hR
   obtain ⟨⟨k,n⟩,x,rs⟩:=p
   refine Jf Tryz.func43 rfl rfl fun nx=> ?_
   refine stp ?_
   refine Je rfl rfl hR ⟨Rf,trivial⟩ fun nx2=> ?_
   refine stp ?_
   exact Jd rfl (Jhb (by unfold J7;rw [if_pos hb]))
 | true=>
 rw [hb] at hR
 by_cases ht:(JbK l).2=0
 rotate_left
 ·obtain ⟨⟨k,n⟩,x,rs⟩:=p
  refine Jf Tryz.func43 rfl rfl fun nx=> ?_
  refine stp ?_
  refine Je rfl rfl hR ⟨Rf,trivial⟩ fun nx2=> ?_
  refine stp ?_
  refine Je rfl rfl hT ⟨Rf,trivial⟩ fun nx3=> ?_
  refine stp ?_
  intro c hc
  obtain rfl:c=true:=hc.trans (bne_iff_ne.2 ht)
  refine stp ?_
  exact Jd rfl (Jhb (by unfold J7;rw [if_neg (by rw [hb];decide),if_pos ht]))
 ·have hs:=JfP ht
  have hrr:=(JkZ.1 hb).2.2
  have hok:=hp.2
  have hlen:p.rules.length≤500:=(JkZ.1 hb).2.1
  have hat:∀i v,i < p.rules.length→(∀j,j < i→JcL l p.rules j=0)→JcL l p.rules i=v→v≠0→((i:Int),v)=J7 p l:=fun i v h1 h2 h3 h4=> (Juu hb ht h1 h2 h3 h4).symm
  have hnone:(∀j,j < p.rules.length→JcL l p.rules j=0)→((0:Int),(0:Int))=J7 p l:=fun h=> (Jut (Jab.2 ⟨hb,ht,h⟩)).symm
  generalize hV:J7 p l=V at hat hnone⊢
  obtain ⟨V1,V2⟩:=V
  obtain ⟨⟨k,n⟩,x,rs⟩:=p
  dsimp only at hok hrr hat hnone hlen hp2
  rw [ht] at hT
  refine Jf Tryz.func43 rfl rfl fun nx=> ?_
  refine stp ?_
  refine Je rfl rfl hR ⟨Rf,trivial⟩ fun nx2=> ?_
  refine stp ?_
  refine Je rfl rfl hT ⟨Rf,trivial⟩ fun nx3=> ?_
  (refine JW ?_;refine Jae ?_;refine JW ?_;refine Jae ?_;refine JW ?_)
  refine JbD (n:=69) (nx:=nx3+2) (nn:=4) (pm:= []) (bx:= [((2,nx3), .mp [])]) (L:= [(2, .rp [int k,int n,Jb x,Ji rs]),(3, .rp [JJ l]),(8, .rp [.om (2,nx3)])]) (df:=some []) [((3,nx3+1), .c [.om (2,nx3)]),((1,nx+1), .c [JJ l]),((0,nx), .c [int k,int n,Jb x,Ji rs])] rfl rfl rfl (.cons _ ((List.perm_append_comm (l₁:= [((2,nx3),Own.mp [])]) (l₂:= [((1,nx+1), .c [JJ l]),((0,nx), .c [int k,int n,Jb x,Ji rs])])))) Sf ⟨Frz.bp (.tail _ (.tail _ (.head _))) rfl,Frz.bp (.tail _ (.head _)) rfl,Frz.bp (.head _) rfl,trivial⟩ ?_
  refine stp ?_
  refine Jx (fun y:Nat×Nat=> mk 69 [(3, .rp [JJ l]),(8, .rp [.om (0,nx3)]),(29,Ji rs),(30,int rs.length),(31,int y.1)] ⟨[((0,nx3), .mp (esV (Jbi rs y.1)))], [],y.2,1⟩) (fun y=> y.1≤rs.length∧∀j,j < y.1→JcL l rs j=0) (fun y=> rs.length - y.1) ?_ ?_
  ·exact ⟨(0,nx3+2),⟨Nat.zero_le _,fun j h=> absurd h (Nat.not_lt_zero _)⟩,Jm (pm:= []) (bx:= [((0,nx3), .mp (esV (Jbi rs 0)))]) [((2,nx3), .mp [])] [] rfl rfl Sf .slnil ⟨rfl,OwnLe.refl _,trivial⟩ trivial ⟨Rf,W.AVle.rps ⟨W.AVle.om_nm rfl,trivial⟩,Rf,Rf,Rf,trivial⟩⟩
  ·rintro ⟨i,nx4⟩ ⟨h1,h2⟩
   dsimp only at h1 h2
   refine stp ?_
   intro c g;cases c
   ·have g:=Jt g
    try dsimp only at g
    obtain rfl:i=rs.length:=by omega
    refine stp ?_
    exact Jd rfl (Jhb (hnone h2))
   ·have g:=Ju g
    try dsimp only at g
    have hi:i < rs.length:=by omega
    have hm:rs.getD i Jl∈rs:=Jxv hi
    have hri:=hrr _ hm
    have hoki:=hok _ hm
    have hsi:=hp2 _ hm
    have hk:=Jwb (rs.getD i Jl).conds (JdZ hri) hoki.2.2 hsi.1
    have ha1:=JuI l (rs.getD i Jl) hl (Jfh hs _)
    have ha2:=JuH (rs.getD i Jl) hoki.2.2 Om
    have ha3:=JuJ (Jbi rs i) (rs.getD i Jl) (JdN (rs.getD i Jl)) hsi.2 nx3
    rw [Jpo hrr hri] at ha3
    have hv:= @Jxo l rs i
    have hks:(Jfx (rs.getD i Jl).conds).size≤12012:=Jk4 (JdZ hri) hoki.2.2 hsi.1
    refine stp ?_
    refine ⟨Bd, ?_⟩
    refine JW ?_
    refine JbD (n:=69) (nx:=nx4+1) (nn:=2) (pm:= []) (bx:= [((0,nx3), .mp (esV (Jbi rs i)))]) (L:= [(3, .rp [JJ l]),(8, .rp [.om (0,nx3)]),(9,int i),(10, .rp (Je2 (rs.getD i Jl))),(29,Ji rs),(30,int rs.length),(31,int i)]) (df:=some []) [((1,nx4), .c (Je2 (rs.getD i Jl)))] rfl rfl rfl (List.Perm.refl _) Sf ⟨Frz.refl _,Frz.refl _,Frz.refl _,Frz.bp (.head _) rfl,Frz.refl _,Frz.refl _,Frz.refl _,trivial⟩ ?_
    refine stp ?_
    refine J1 8 [] (fun i=> match i with | 7=> true | _=> false) (fun i=> match i with | 5=> true | _=> false) [0,1,2,3,4,5,6,7] (by kernel_rfl) (by kernel_rfl) (fun _ _ _ h=> by cases h) ?_
    refine stp ?_
    refine ⟨by have h2:(⟨#[58]⟩:ByteArray).size=1:=rfl;rw [h2];omega, ?_⟩
    refine stp ?_
    refine ⟨_,JD rfl rfl rfl hk ⟨Rf,trivial⟩ (NoId.v _), ?_⟩
    refine stp ?_
    refine ⟨by rw [ByteArray.size_append];have h2:(⟨#[58]⟩:ByteArray).size=1:=rfl;rw [h2];omega,JmR (b:=Jh (JdN (rs.getD i Jl))) rfl ?_⟩
    refine stp ?_
    refine ⟨_,Jh3 rfl rfl Jys (fun _ _ _ h=> by cases h),fun r' h' hr=> ?_⟩
    obtain ⟨rfl,rfl⟩:=hr
    refine JW ?_
    refine JbD (n:=69) (nx:=nx4+2) (nn:=2) (pm:= []) (bx:= [((0,nx3), .mp (esV (Jbi rs i)))]) (L:= [(3, .rp [JJ l]),(8, .rp [.om (0,nx3)]),(9,int i),(10, .rp (Je2 (rs.getD i Jl))),(11, .fn (.func 100) [] [.rp [JJ l], .rp (Je2 (rs.getD i Jl))]),(12, .fn (.func 101) [] [.rp (Je2 (rs.getD i Jl))]),(13, .rp [Jh (JdN (rs.getD i Jl))]),(29,Ji rs),(30,int rs.length),(31,int i)]) (df:=some []) [((2,nx4+1), .c [Jh (JdN (rs.getD i Jl))])] rfl rfl rfl (List.Perm.refl _) Sf ⟨Frz.refl _,Frz.refl _,Frz.refl _,Frz.refl _,Frz.refl _,Frz.refl _,Frz.bp (.head _) rfl,Frz.refl _,Frz.refl _,Frz.refl _,trivial⟩ ?_
    refine stp ?_
    refine Jx (fun y:Nat×Nat=> mk 69 [(3, .rp [JJ l]),(8, .rp [.om (0,nx3)]),(9,int i),(13, .rp [Jh (JdN (rs.getD i Jl))]),(29,Ji rs),(30,int rs.length),(31,int i),(52, .sl 2 3 (Jdo (Jzi l (rs.getD i Jl) nx3))),(53,int 3),(54,int y.1)] ⟨[((0,nx3), .mp (esV (Jbi rs i)))], [],y.2,1⟩) (fun y=> y.1≤3∧(1≤y.1→Ja2 l (rs.getD i Jl).name=true)∧(2≤y.1→(rs.getD i Jl).conds.any JfF=false)∧(3≤y.1→(rs.take i).any (JgW (rs.getD i Jl))=false)) (fun y=> 3 - y.1) ?_ ?_
    ·refine ⟨(0,nx4+2),⟨Nat.zero_le _,fun h=> absurd h (Nat.not_succ_le_zero _),fun h=> absurd h (Nat.not_succ_le_zero _),fun h=> absurd h (Nat.not_succ_le_zero _)⟩, ?_⟩
     exact Jm (pm:= []) (bx:= [((0,nx3), .mp (esV (Jbi rs i)))]) [((0,nx3), .mp (esV (Jbi rs i)))] [] rfl rfl Sf .slnil Bf trivial ⟨Rf,Rf,Rf,Rf,Rf,Rf,Rf,Jli ⟨⟨⟨trivial,rfl⟩,rfl⟩,rfl⟩,Rf,Rf,trivial⟩
    ·rintro ⟨j,nx5⟩ ⟨k0,k1,k2,k3⟩
     dsimp only at k0 k1 k2 k3
     rcases j with _ | _ | _ | _ | j
     ·refine stp ?_
      refine ⟨⟨by show (0:Int)≤0;decide,by show (0:Int) < 3;decide⟩, ?_⟩
      refine stp ?_
      refine Je rfl rfl ha1 ⟨Rf,Rf,trivial⟩ fun nx6=> ?_
      cases hf:Ja2 l (rs.getD i Jl).name
      ·refine stp ?_
       (refine JY 4 ?_ ?_ ?_ ?_;(· kernel_rfl);(· kernel_rfl);(· kernel_rfl))
       refine stp ?_
       exact Jd rfl (Jhb (hat i 14 hi h2 (if_pos hf) Dc))
      ·refine stp ?_
       exact back (1,nx6) ⟨by show 1≤3;decide,fun _=> rfl,fun h=> absurd h (by show ¬2≤1;decide),fun h=> absurd h (by show ¬3≤1;decide)⟩ (by show 3 - 1 < 3 - 0;decide) (Jm (pm:= []) (bx:= [((0,nx3), .mp (esV (Jbi rs i)))]) [((0,nx3), .mp (esV (Jbi rs i)))] [] rfl rfl (.cons _ Sf) .slnil Bf trivial ⟨Rf,Rf,Rf,Rf,Rf,Rf,Rf,Rf,Rf,Rf,trivial⟩)
     ·have q1:=k1 (Nat.le_refl _)
      refine stp ?_
      refine ⟨⟨by show (0:Int)≤1;decide,by show (1:Int) < 3;decide⟩, ?_⟩
      refine stp ?_
      refine Je rfl rfl ha2 ⟨Rf,trivial⟩ fun nx6=> ?_
      cases hf:(rs.getD i Jl).conds.any JfF
      ·refine stp ?_
       exact back (2,nx6) ⟨by show 2≤3;decide,fun _=> q1,fun _=> rfl,fun h=> absurd h (by show ¬3≤2;decide)⟩ (by show 3 - 2 < 3 - 1;decide) (Jm (pm:= []) (bx:= [((0,nx3), .mp (esV (Jbi rs i)))]) [((0,nx3), .mp (esV (Jbi rs i)))] [] rfl rfl (.cons _ Sf) .slnil Bf trivial ⟨Rf,Rf,Rf,Rf,Rf,Rf,Rf,Rf,Rf,Rf,trivial⟩)
      ·refine stp ?_
       (refine JY 4 ?_ ?_ ?_ ?_;(· kernel_rfl);(· kernel_rfl);(· kernel_rfl))
       refine stp ?_
       exact Jd rfl (Jhb (hat i 16 hi h2 (by unfold JcL;rw [if_neg (by rw [q1];decide),if_pos hf]) Dc))
     ·have q1:=k1 Dc
      have q2:=k2 (Nat.le_refl _)
      refine stp ?_
      refine ⟨⟨by show (0:Int)≤2;decide,by show (2:Int) < 3;decide⟩, ?_⟩
      refine stp ?_
      refine J2 (xs:= [.rp [.om (0,nx3)], .rp (Je2 (rs.getD i Jl)), .rp [Jh (JdN (rs.getD i Jl))]]) [((1,nx5), .c [.fn (.func 105) [] [.rp [.om (0,nx3)], .rp (Je2 (rs.getD i Jl)), .rp [Jh (JdN (rs.getD i Jl))]],int 15])] [] 2 rfl rfl rfl rfl ⟨Rf,Rf,Rf,trivial⟩ (ha3 (nx5+1)) Bf Pf rfl fun r h' hq=> ?_
      obtain ⟨nx6,nn6,rfl,rfl⟩:=hq
      cases hf:(rs.take i).any (JgW (rs.getD i Jl))
      ·refine stp ?_
       exact back (3,nx6) ⟨by show 3≤3;decide,fun _=> q1,fun _=> q2,fun _=> rfl⟩ (by show 3 - 3 < 3 - 2;decide) (Jm (pm:= []) (bx:= [((0,nx3), .mp (esV (Jbi rs i)))]) [((0,nx3), .mp (esV (Jbi rs i)))] [] rfl rfl (.cons _ Sf) .slnil Bf trivial ⟨Rf,Rf,Rf,Rf,Rf,Rf,Rf,Rf,Rf,Rf,trivial⟩)
      ·refine stp ?_
       (refine JY 4 ?_ ?_ ?_ ?_;(· kernel_rfl);(· kernel_rfl);(· kernel_rfl))
       refine stp ?_
       exact Jd rfl (Jhb (hat i 15 hi h2 (by unfold JcL;rw [if_neg (by rw [q1];decide),if_neg (by rw [q2];decide),if_pos hf]) Dc))
     ·have q1:=k1 Dc
      have q2:=k2 Dc
      have q3:=k3 (Nat.le_refl _)
      have q4:Jgs (Jbi rs i) (rs.getD i Jl).name (JdN (rs.getD i Jl))=true:=by rw [Jpo hrr hri,q3];rfl
      have q5:=JqW _ _ (JuL q4)
      rw [← JuK hi] at q5
      refine JbI ?_
      refine ⟨⟨rfl,JlT _⟩, ?_⟩
      refine JbI ?_
      refine JeB ?_
      refine stp ?_
      exact back (i+1,nx5) ⟨hi,fun m hm2=> by
       rcases Nat.lt_or_ge m i with q | q
       ·exact h2 m q
       ·rw [show m=i by omega];exact hv.2 ⟨q1,q2,q3⟩⟩ Dm (Jm (pm:= []) (bx:= [((0,nx3), .mp (esV (Jbi rs (i+1))))]) [((0,nx3), .mp (JcV (.string (JdN (rs.getD i Jl))) (.v (.bool true)) (esV (Jbi rs i))))] [] rfl rfl Sf .slnil ⟨rfl,JnG (congrArg Own.mp q5),trivial⟩ trivial ⟨Rf,Rf,Rf,Rf,Lw,trivial⟩)
     ·exact absurd k0 Om
end Go.Proofs.W

namespace Go.Proofs.W
open Go.Vl
set_option maxRecDepth 100000
def LpI (p:Pol) (l:List TRow) (i:Nat) (st:Nat→JZ):Prop:=i≤(Jc p).rules.length∧(∀j,j < 7→JbN (st j))∧∃gs,JN (Jc p).rules=gs++JN ((Jc p).rules.drop i)∧(∀k,k < 5→(st k).1=(Jbh (Jc p) l gs k).map JdM)∧∀m,m < 2→(st (5+m)).1=(Jcd l gs m).map Jah
theorem Jy1 (p:Pol) (l:List TRow):LpI p l 0 fun _=> ([],none):=⟨Nat.zero_le _,fun _ _=> rfl, [],rfl,fun _ _=> rfl,fun _ _=> rfl⟩
theorem Jk5:∀l:List Rul,(JN l).length≤l.length
 | []=> Nat.le_refl _
 | r::l=> by
   have ih:=Jk5 l
   show (JiT r (JN l)).length≤l.length+1
   cases hg:JN l with
   | nil=> show 1≤_;omega
   | cons g t=>
     rw [hg] at ih
     obtain ⟨s,L⟩:=g
     show (if kS s r.name then (s,r::L)::t else (r.name, [r])::(s,L)::t).length≤_
     rw [List.length_cons] at ih
     split <;> simp only [List.length_cons] <;> omega
theorem JsD {a d:Nat} {x:Bool} {row:TRow} {rs:List PRul}:(Jav a d x row rs).length≤1:=by
 unfold Jav;split <;> simp
theorem JsE {m:Nat} {row:TRow} {rs:List PRul}:(Jbq m row rs).length≤1:=by
 unfold Jbq;split <;> simp
theorem JjV {α β:Type} {f:α→List β} (h:∀x,(f x).length≤1):∀l:List α,(l.flatMap f).length≤l.length
 | []=> Nat.le_refl _
 | x::l=> by
   rw [List.flatMap_cons,List.length_append,List.length_cons]
   have:=h x
   have:=JjV h l
   omega
theorem JqZ {p:Pol} {l:List TRow} {i:Nat} {st:Nat→JZ} (hr:(Jc p).rules.length≤500) (h:LpI p l i st):∀j,j < 7→(st j).1.length≤1000000:=fun j hj=> by
 obtain ⟨_,_,gs,h1,h2,h3⟩:=h
 have hg:=Jk5 (Jc p).rules
 rw [h1,List.length_append] at hg
 rcases Nat.lt_or_ge j 5 with h5 | h5
 ·rw [h2 j h5,List.length_map]
  have:=JjV (f:=fun g:ByteArray×List Rul=> Jav j (Jp (Jc p).dflt) (Jc p).x32 (Jau l g.1) (g.2.map JP)) (fun _=> JsD) gs
  unfold Jbh
  omega
 ·obtain ⟨m,rfl⟩:∃m,j=5+m:=⟨j - 5,by omega⟩
  rw [h3 m Om,List.length_map]
  have:=JjV (f:=fun g:ByteArray×List Rul=> Jbq m (Jau l g.1) (g.2.map JP)) (fun _=> JsE) gs
  unfold Jcd
  omega
theorem Jxw {l:List TRow} {s:ByteArray} (ht:(JbK l).2=0) (h:Jo9 l s):(∀k,(Jau l s).num k < 1073741824)∧((Jau l s).mux=0∨(Jau l s).mux=1∨(Jau l s).mux=2)∧0≤(Jau l s).sub∧(Jau l s).sub≤255:=by
 obtain ⟨i,hi,h1,_⟩:=h
 rw [h1]
 exact ⟨fun k=> (Jc8 ht hi).1,Jdn ht hi⟩
theorem JmV (s:ByteArray) (l:List Rul):(Jb5 s l).length≤l.length:=List.Sublist.length_le (List.takeWhile_sublist _)
theorem Jwc (s:ByteArray) (l:List Rul):l=Jb5 s l++l.drop (Jb5 s l).length:=by
 induction l with
 | nil=> rfl
 | cons r l ih=>
   unfold Jb5 at ih⊢
   rw [List.takeWhile_cons]
   by_cases h:kS r.name s=true
   ·rw [if_pos h,List.length_cons,List.drop_succ_cons,List.cons_append,← ih]
   ·rw [if_neg h];rfl
theorem JuM {l:List Rul} {i:Nat} (hi:i < l.length):Jb5 (l.getD i Jl).name (l.drop i)≠ []:=by
 rw [List.drop_eq_getElem_cons hi,show l.getD i Jl=l[i] by simp [List.getD,hi]]
 unfold Jb5
 rw [List.takeWhile_cons,if_pos (Ja4.2 rfl)]
 exact List.cons_ne_nil _ _
theorem Jwd {p:Pol} {l:List TRow} {i:Nat} {st st':Nat→JZ} (hi:i < (Jc p).rules.length) {s:ByteArray} {L:List Rul} (hs:s=((Jc p).rules.getD i Jl).name) (hL:L=Jb5 s ((Jc p).rules.drop i)) (h:LpI p l i st) (hq:Jsu (Jp (Jc p).dflt) (Jc p).x32 (Jau l s) (L.map JP) st st'):LpI p l (i+L.length) st':=by
 obtain ⟨h0,h1,gs,h2,h3,h4⟩:=h
 have hne:L≠ []:=by rw [hL,hs];exact JuM hi
 have hd:=Jwc s ((Jc p).rules.drop i)
 have he:=JvZ s ((Jc p).rules.drop i)
 have ha:=JmK s ((Jc p).rules.drop i)
 have hl:=JmV s ((Jc p).rules.drop i)
 rw [← hL] at hd he ha hl
 rw [List.drop_drop] at hd he
 rw [List.length_drop] at hl
 have hgr:=JkU he hne ha
 rw [← hd] at hgr
 refine ⟨by omega,hq.1,gs++ [(s,L)],by rw [h2,hgr,List.append_assoc];rfl,fun k hk=> ?_,fun m hm=> ?_⟩
 ·rw [hq.2.1 k hk,h3 k hk,Jso,List.map_append]
 ·rw [hq.2.2 m hm,h4 m hm,Jsp,List.map_append]
theorem JuN {p:Pol} (hp:p.ok) (hr:JaJ p=true) {s:ByteArray} {i:Nat}:∀r∈(Jb5 s ((Jc p).rules.drop i)).map JP,r.conds.length≤1000000∧∀c∈r.conds,c.ok:=fun q hq=> by
 obtain ⟨r,hr1,rfl⟩:=List.mem_map.1 hq
 have hm:r∈(Jc p).rules:=List.mem_of_mem_drop ((List.takeWhile_sublist _).subset hr1)
 obtain ⟨r0,h0,h1⟩:=Je1 hm
 have:=(JbA hr).2 r0 h0
 have:=(Jbv h1).1
 exact ⟨by show r.conds.length≤_;omega,(Jd9 h1).2.2 (hp.2 r0 h0).2.2⟩
theorem Jxx {p:Pol} {l:List TRow} {st:Nat→JZ} (h:LpI p l (Jc p).rules.length st):(∀j,j < 7→JbN (st j))∧(∀k,k < 5→(st k).1=(Jbh (Jc p) l (JN (Jc p).rules) k).map JdM)∧∀m,m < 2→(st (5+m)).1=(Jcd l (JN (Jc p).rules) m).map Jah:=by
 obtain ⟨h0,h1,gs,h2,h3,h4⟩:=h
 rw [List.drop_length] at h2
 obtain rfl:JN (Jc p).rules=gs:=by rw [h2];exact List.append_nil _
 exact ⟨h1,h3,h4⟩
def LpS (k:Nat) (st st':Nat→JZ):Prop:=k≤7∧(∀j,j < 7→JbN (st' j))∧(∀j,j < 7→(st' j).1.Perm (st j).1)∧∀j,j < k→(st' j).1.Pairwise fun a b=> a.1≤b.1
theorem Jy2 {st:Nat→JZ} (h:∀j,j < 7→JbN (st j)):LpS 0 st st:=⟨by omega,h,fun _ _=> .refl _,fun j hj=> absurd hj (Nat.not_lt_zero j)⟩
theorem Jeq {k:Nat} {st st1:Nat→JZ} (hk:k < 7) (h:LpS k st st1) (he:(st1 k).1= []):LpS (k+1) st st1:=by
 obtain ⟨h0,h1,h2,h3⟩:=h
 refine ⟨hk,h1,h2,fun j hj=> ?_⟩
 rcases Nat.lt_or_ge j k with q | q
 ·exact h3 j q
 ·obtain rfl:j=k:=by omega
  rw [he];exact List.Pairwise.nil
theorem Jer {k:Nat} {st st1:Nat→JZ} {R D:List (Nat×AV)} {s cap:Nat} {tl:List AV} (hk:k < 7) (h:LpS k st st1) (hR:st1 k=(R,some (s,cap,tl))) (hp:D.Perm R) (hs:D.Pairwise fun a b=> a.1≤b.1):LpS (k+1) st (Jz st1 k (D,some (s,cap,tl))):=by
 obtain ⟨h0,h1,h2,h3⟩:=h
 have hok:=h1 k hk
 rw [hR] at hok
 refine ⟨hk,Jb2 h1 (show D.length≤cap∧cap * 2≤D.length * 2+tl.length from by rw [hp.length_eq];exact hok),fun j hj=> ?_,fun j hj=> ?_⟩
 ·unfold Jz
  by_cases e:j=k
  ·subst e
   rw [if_pos rfl]
   have:=h2 j hj
   rw [hR] at this
   exact hp.trans this
  ·rw [if_neg e];exact h2 j hj
 ·unfold Jz
  by_cases e:j=k
  ·subst e
   rw [if_pos rfl];exact hs
  ·rw [if_neg e];exact h3 j Om
end Go.Proofs.W

namespace Go.Proofs.W
open Go.Vl
set_option maxRecDepth 100000
def ent0:PEnt:=⟨0, []⟩
def sub0:PSub:=⟨0,0⟩
def JaD (e:PEnt):AV:= .ag [u32 (e.num:Nat),Jw e.rules]
def JgX (s:PSub):AV:= .ag [u32 (s.num:Nat),u32 (s.code:Nat)]
def JcA:Plan:=⟨0,false,fun _=> [],fun _=> []⟩
def JeN (P:Plan):AV:= .ag [u32 (P.dflt:Nat),Jb P.x32,JT 2 JaD ent0 (P.ents 0),JT 2 JaD ent0 (P.ents 1),JT 2 JaD ent0 (P.ents 2),JT 2 JaD ent0 (P.ents 3),JT 2 JaD ent0 (P.ents 4),JT 2 JgX sub0 (P.subs 0),JT 2 JgX sub0 (P.subs 1)]
def JlU (p:Pol) (l:List TRow):AV:=if (J7 p l).2≠0 then .tup [JeN JcA,int (J7 p l).1,int (J7 p l).2] else match p.rules.findIdx? (Jc4 l) with
 | some i=> .tup [JeN JcA,int i,int 17]
 | none=> .tup [JeN (Jag p l),int 0,int 0]
def J5:List AV:= [u32 0,Jb false, .os 0 0 (fun _=> .any) none, .os 0 0 (fun _=> .any) none, .os 0 0 (fun _=> .any) none, .os 0 0 (fun _=> .any) none, .os 0 0 (fun _=> .any) none, .os 0 0 (fun _=> .any) none, .os 0 0 (fun _=> .any) none]
theorem Jpq:AVle (.ag [u32 0,Jb false, .os 0 0 (fun _=> .any) none, .os 0 0 (fun _=> .any) none, .os 0 0 (fun _=> .any) none, .os 0 0 (fun _=> .any) none, .os 0 0 (fun _=> .any) none, .os 0 0 (fun _=> .any) none, .os 0 0 (fun _=> .any) none]) (JeN JcA):=
 AVle.ags ⟨Rf,Rf,AVle.os_sl0,AVle.os_sl0,AVle.os_sl0,AVle.os_sl0,AVle.os_sl0,AVle.os_sl0,AVle.os_sl0,trivial⟩
def LpT (nx nx4:Nat) (l:List TRow) (e:List (Nat×AV)):List (Nat×AV):= [(1,JJ l),(4, .bp (2,nx+1) 0),(5,int 0),(6,int 0),(11, .bp (0,nx4) 0),(13, .bp (1,nx4+1) 0),(14, .fn (.func 47) [] [.bp (0,nx4) 0, .bp (1,nx4+1) 0])]++e
def LpB (nx nx4:Nat) (p:Pol) (st:Nat→JZ):List (Vl.Id×Own):= [((2,nx+1), .c J5),((1,nx4+1), .c (Jq (Jp (Jc p).dflt) (Jc p).x32 st)),((0,nx4), .c [int (Jc p).dflt.1,int (Jc p).dflt.2,Jb (Jc p).x32,Ji (Jc p).rules])]++JE st
theorem Jwe {α:Type} {a b c:α} {t:List α}:(c::a::b::t).Perm (a::b::c::t):=(List.Perm.swap a c _).trans ((List.Perm.swap b c _).cons a)
theorem Je3 {d:Nat} {x:Bool} {st:Nat→JZ} {k:Nat} {r:JZ} (h:Ja (10+k) r=Ja (10+k) (st k)):Jq d x (Jz st k r)=Jq d x st:=by
 have h':∀j,Ja (10+j) (Jz st k r j)=Ja (10+j) (st j):=fun j=> by
  unfold Jz
  by_cases e:j=k
  ·subst e;rw [if_pos rfl];exact h
  ·rw [if_neg e]
 have h0:=h' 0
 have h1:=h' 1
 have h2:=h' 2
 have h3:=h' 3
 have h4:=h' 4
 have h5:=h' 5
 have h6:=h' 6
 unfold Jq
 rw [h0,h1,h2,h3,h4,h5,h6]
theorem Je4 {k:Nat} (hk:k < 7) {st:Nat→JZ} {R:List (Nat×AV)} {s cap:Nat} {tl:List AV} {F:List (Vl.Id×Own)} (h:st k=(R,some (s,cap,tl))):((F++Jn k st)++ [((10+k,s),Own.c (Jy R++tl))]).Perm (F++JE st):=by
 have hp:=Jdj hk st
 rw [h] at hp
 rw [List.append_assoc]
 exact (hp.trans List.perm_append_comm).symm.append_left F
theorem Jes {k:Nat} (hk:k < 7) {st:Nat→JZ} {R:List (Nat×AV)} {s cap:Nat} {tl:List AV} {F:List (Vl.Id×Own)}:((F++Jn k st)++ [((10+k,s),Own.c (Jy R++tl))]).Perm (F++JE (Jz st k (R,some (s,cap,tl)))):=by
 have hp:=JjT hk st (R,some (s,cap,tl))
 rw [List.append_assoc]
 exact (hp.trans List.perm_append_comm).symm.append_left F
theorem JcN {nx nx4:Nat} {p:Pol} {st:Nat→JZ} {cs:List AV} {R:List (Vl.Id×Own)} (h:Jq (Jp (Jc p).dflt) (Jc p).x32 st=cs):BxLe ([((2,nx+1), .c J5),((1,nx4+1), .c (Jq (Jp (Jc p).dflt) (Jc p).x32 st)),((0,nx4), .c [int (Jc p).dflt.1,int (Jc p).dflt.2,Jb (Jc p).x32,Ji (Jc p).rules])]++R) ([((2,nx+1), .c J5),((1,nx4+1), .c cs),((0,nx4), .c [int (Jc p).dflt.1,int (Jc p).dflt.2,Jb (Jc p).x32,Ji (Jc p).rules])]++R):=BxLe.of_eq (by rw [h])
theorem JcO {nx nx4:Nat} {p:Pol} {st:Nat→JZ} {cs:List AV} {R:List (Vl.Id×Own)} (h:cs=Jq (Jp (Jc p).dflt) (Jc p).x32 st):BxLe ([((2,nx+1), .c J5),((1,nx4+1), .c cs),((0,nx4), .c [int (Jc p).dflt.1,int (Jc p).dflt.2,Jb (Jc p).x32,Ji (Jc p).rules])]++R) ([((2,nx+1), .c J5),((1,nx4+1), .c (Jq (Jp (Jc p).dflt) (Jc p).x32 st)),((0,nx4), .c [int (Jc p).dflt.1,int (Jc p).dflt.2,Jb (Jc p).x32,Ji (Jc p).rules])]++R):=BxLe.of_eq (by rw [h])
theorem Jwf {nx nx4:Nat} {p:Pol} {st:Nat→JZ}:(LpB nx nx4 p st).Perm (([((1,nx4+1),Own.c (Jq (Jp (Jc p).dflt) (Jc p).x32 st)),((0,nx4),Own.c [int (Jc p).dflt.1,int (Jc p).dflt.2,Jb (Jc p).x32,Ji (Jc p).rules])]++JE st)++ [((2,nx+1),Own.c J5)]):=List.perm_append_comm (l₁:= [((2,nx+1),Own.c J5)]) (l₂:=([((1,nx4+1),Own.c (Jq (Jp (Jc p).dflt) (Jc p).x32 st)),((0,nx4),Own.c [int (Jc p).dflt.1,int (Jc p).dflt.2,Jb (Jc p).x32,Ji (Jc p).rules])]++JE st))
theorem Jpr:∀l:List PEnt,Jy (l.map JdM)=l.flatMap fun e=> [u32 (e.num:Nat),Jw e.rules]
 | []=> rfl
 | e::l=> by
   show _::_::Jy (l.map JdM)=_::_::_
   rw [Jpr l];rfl
theorem Jps:∀l:List PSub,Jy (l.map Jah)=l.flatMap fun e=> [u32 (e.num:Nat),u32 (e.code:Nat)]
 | []=> rfl
 | e::l=> by
   show _::_::Jy (l.map Jah)=_::_::_
   rw [Jps l];rfl
instance:Inhabited PEnt:=⟨ent0⟩
instance:Inhabited PSub:=⟨sub0⟩
theorem Jhc {bs:List (Nat×Own)} {nm:Nat}:∀ {r:JZ} {l:List PEnt},JbN r→r.1=l.map JdM→(∀b∈JaM nm r,((b.1.2,b.2))∈bs)→Frz bs (Ja nm r) (JT 2 JaD ent0 l)
 | (R,none),l,hok,h,_=> by
   have hok:R= []:=hok
   have h:R=l.map JdM:=h
   obtain rfl:l= []:=List.map_eq_nil_iff.1 (h.symm.trans hok)
   exact Frz.of_le AVle.os_sl0
 | (R,some (s,cap,tl)),l,hok,h,hm=> by
   have h:R=l.map JdM:=h
   subst h
   have hm:=hm _ (.head _)
   have hk:=hok.1
   rw [List.length_map] at hk
   exact Jhs (E:=fun e:PEnt=> [u32 (e.num:Nat),Jw e.rules]) (fun _=> rfl) (fun _=> rfl) (List.length_map _).symm (by unfold Jal;rw [← Jpr];exact hm) (by rw [List.length_map];exact hk)
theorem Jq0 {bs:List (Nat×Own)} {nm:Nat}:∀ {r:JZ} {l:List PSub},JbN r→r.1=l.map Jah→(∀b∈JaM nm r,((b.1.2,b.2))∈bs)→Frz bs (Ja nm r) (JT 2 JgX sub0 l)
 | (R,none),l,hok,h,_=> by
   have hok:R= []:=hok
   have h:R=l.map Jah:=h
   obtain rfl:l= []:=List.map_eq_nil_iff.1 (h.symm.trans hok)
   exact Frz.of_le AVle.os_sl0
 | (R,some (s,cap,tl)),l,hok,h,hm=> by
   have h:R=l.map Jah:=h
   subst h
   have hm:=hm _ (.head _)
   have hk:=hok.1
   rw [List.length_map] at hk
   exact Jhs (E:=fun e:PSub=> [u32 (e.num:Nat),u32 (e.code:Nat)]) (fun _=> rfl) (fun _=> rfl) (List.length_map _).symm (by unfold Jal;rw [← Jps];exact hm) (by rw [List.length_map];exact hk)
theorem Jgt {F:List (Vl.Id×Own)} {st:Nat→JZ} {j:Nat} (hj:j < 7):∀b∈JaM (10+j) (st j),((b.1.2,b.2))∈(F++JE st).map fun p=> (p.1.2,p.2):=fun b hb=>
 List.mem_map.2 ⟨b,List.mem_append.2 (.inr (List.mem_flatMap.2 ⟨j,List.mem_range.2 hj,hb⟩)),rfl⟩
theorem Jwg {i:Nat} {L:List Rul} {r:Rul} (h:i+L.length < 1000000):IntKind.i64.wrap (((i+L.length:Nat):Int)+1)=((i+(L++ [r]).length:Nat):Int):=by
 rw [List.length_append,List.length_singleton,← Nat.add_assoc];exact J4 Om
theorem Jxy {L:List Rul} {r:Rul}:((L.map JP).length+1) * 2=((L++ [r]).map JP).length * 2:=by simp
theorem Jyt {L:List Rul} {r:Rul} {f':Nat→AV} {a b s:Nat} (hf:f' 0=JbY (JP r)):AVle (.os 2 ((L.map JP).length+1) (JcP (L.map JP).length (JcU (L.map JP)) f') (some (a,s))) (.os 2 ((L++ [r]).map JP).length (JcU ((L++ [r]).map JP)) (some (b,s))):=by
 rw [List.map_append];exact JhH (e:=JbY) hf rfl
set_option maxHeartbeats 8000000 in
theorem Jip (p:Pol) (l:List TRow) (hp:p.ok) (hp2:∀r∈p.rules,r.conds.length≤12∧r.name.size≤1000000) (hl:l.length≤1000000) (hn:∀r∈l,r.name.size≤maxLen):Tells Tryz.prog 12 [JbR p,JJ l] (JlU p l):=by
 have hV:=Jpp p l hp hp2 hl hn
 unfold JlU
 by_cases hv:(J7 p l).2=0
 ·rw [if_neg (fun h=> h hv)]
  have hE:=JlK p l (by have:=(JbA (Jab.1 hv).1).1;omega) hl (JfP (Jab.1 hv).2.1)
  unfold Jv5 at hE
  rw [hv] at hV
  generalize (J7 p l).1=v1 at hV
  cases hx:p.rules.findIdx? (Jc4 l) with
  | some i=>
    rw [hx] at hE
    refine Jf Tryz.func12 rfl rfl fun nx=> ?_
    refine stp ?_
    refine Je rfl rfl hV ⟨Rf,Rf,trivial⟩ fun nx2=> ?_
    refine stp ?_
    refine Je rfl rfl hE ⟨Rf,Rf,trivial⟩ fun nx3=> ?_
    refine stp ?_
    exact Jj rfl ⟨rfl,trivial⟩ (AVle.tups (cs:= [_,_,_]) ⟨Jpq,Rf,Rf,trivial⟩)
  | none=>
    rw [hx] at hE
    refine Jf Tryz.func12 rfl rfl fun nx=> ?_
    refine stp ?_
    refine Je rfl rfl hV ⟨Rf,Rf,trivial⟩ fun nx2=> ?_
    refine stp ?_
    refine Je rfl rfl hE ⟨Rf,Rf,trivial⟩ fun nx3=> ?_
    refine stp ?_
    have hN:=Jnr p hp
    unfold JnE at hN
    rw [if_pos (Jab.1 hv).1] at hN
    have hnr:=JkT (Jab.1 hv).1
    have hcd:=JqI p.dflt (JeI (Jab.1 hv).1).1
    refine Je rfl rfl hN ⟨Rf,trivial⟩ fun nx4=> ?_
    refine stp ?_
    have hc18:=Jjr (Jc p).dflt (JeI hnr).1
    refine J1 7 [((2,nx4), .c [int (Jc p).dflt.1,int (Jc p).dflt.2,Jb (Jc p).x32,Ji (Jc p).rules]),((1,nx+1), .c J5),((0,nx), .c [int p.dflt.1,int p.dflt.2,Jb p.x32,Ji p.rules])] (fun i=> match i with | 6=> true | _=> false) (fun i=> match i with | 2=> true | _=> false) [0,1,2,3,4,5,6] (by kernel_rfl) (by kernel_rfl) (HB.refl _) ?_
    refine stp ?_
    refine ⟨_,JD rfl rfl rfl hc18 ⟨Rf,trivial⟩ (NoId.v _), ?_⟩
    refine stp ?_
    refine ⟨_,Jh3 (cs:=J5) rfl rfl (by kernel_rfl) (HB.cons rfl (HB.cons rfl (HB.one rfl))),fun r h' hr=> ?_⟩
    obtain ⟨rfl,rfl⟩:=hr
    refine stp ?_
    refine JdT (fun y:(Nat→JZ)×Nat=> mk 131 (LpT nx nx4 l []) ⟨LpB nx nx4 p y.1, [],y.2,20⟩) (fun y=> LpI p l (Jc p).rules.length y.1) ?_ ?_
    ·refine Jx (fun y:Nat×(Nat→JZ)×Nat=> mk 131 (LpT nx nx4 l [(15,int y.1)]) ⟨LpB nx nx4 p y.2.1, [],y.2.2,20⟩) (fun y=> LpI p l y.1 y.2.1) (fun y=> (Jc p).rules.length - y.1) ?_ ?_
     ·exact ⟨(0,fun _=> ([],none),nx4+2),Jy1 p l,Jo (pm:= []) (bx:= [((2,nx+1), .c J5),((1,nx4+1), .c (Jq (Jp (Jc p).dflt) (Jc p).x32 fun _=> ([],none))),((0,nx4), .c [int (Jc p).dflt.1,int (Jc p).dflt.2,Jb (Jc p).x32,Ji (Jc p).rules])]) (L:= [(1,JJ l),(4, .bp (2,nx+1) 0),(5,int 0),(6,int 0),(11, .bp (0,nx4) 0),(13, .bp (1,nx4+1) 0),(14, .fn (.func 47) [] [.bp (0,nx4) 0, .bp (1,nx4+1) 0]),(15,int (0:Nat))]) _ _ [] rfl rfl Jwe (.cons_cons _ (.cons_cons _ (.cons_cons _ (.cons _ .slnil)))) Sf ⟨rfl,OwnLe.refl _,rfl,OwnLe.refl _,rfl,OwnLe.refl _,trivial⟩ trivial ⟨Rf,AVle.bp_nm rfl,Rf,Rf,AVle.bp_nm rfl,AVle.bp_nm rfl,AVle.fn_caps (cs:= [.bp (2,nx4) 0, .bp (3,nx4+1) 0]) (ds:= [.bp (0,nx4) 0, .bp (1,nx4+1) 0]) ⟨AVle.bp_nm rfl,AVle.bp_nm rfl,trivial⟩,Rf,trivial⟩⟩
     ·rintro ⟨i,st,nx5⟩ hI
      refine stp ?_
      intro c g;cases c
      ·have g:=Jt g
       try dsimp only at g
       have hi:i=(Jc p).rules.length:=by have:=hI.1;dsimp only at this;omega
       subst hi
       refine stp ?_
       exact ⟨(st,nx5),hI,Et rfl rfl Bf trivial ⟨Rf,Rf,Rf,Rf,Rf,Rf,Rf,trivial⟩⟩
      ·have g:=Ju g
       try dsimp only at g
       have hi:i < (Jc p).rules.length:=by omega
       refine stp ?_
       refine ⟨Bd, ?_⟩
       refine stp ?_
       refine JdT (fun y:List Rul×Option Nat×Nat=> mk 131 (LpT nx nx4 l [(15,int (i+y.1.length:Nat)),(16,Jh ((Jc p).rules.getD i Jl).name),(17, .os 2 (y.1.map JP).length (JcU (y.1.map JP)) (nmd y.2.1))]) ⟨LpB nx nx4 p st,JbH (nmd y.2.1) ((y.1.map JP).length * 2),y.2.2,20⟩) (fun y=> y.1=Jb5 ((Jc p).rules.getD i Jl).name ((Jc p).rules.drop i)) ?_ ?_
       ·refine Jx (fun y:List Rul×Option Nat×Nat=> mk 131 (LpT nx nx4 l [(15,int (i+y.1.length:Nat)),(16,Jh ((Jc p).rules.getD i Jl).name),(17, .os 2 (y.1.map JP).length (JcU (y.1.map JP)) (nmd y.2.1))]) ⟨LpB nx nx4 p st,JbH (nmd y.2.1) ((y.1.map JP).length * 2),y.2.2,20⟩)
         (fun y=> y.1++Jb5 ((Jc p).rules.getD i Jl).name ((Jc p).rules.drop (i+y.1.length))=Jb5 ((Jc p).rules.getD i Jl).name ((Jc p).rules.drop i)∧i+y.1.length≤(Jc p).rules.length∧(y.2.1=none→y.1= [])) (fun y=> (Jc p).rules.length - (i+y.1.length)) ?_ ?_
        ·exact ⟨([],none,nx5),⟨rfl,Nat.le_of_lt hi,fun _=> rfl⟩,Jm (pm:= []) (L:= [(1,JJ l),(4, .bp (2,nx+1) 0),(5,int 0),(6,int 0),(11, .bp (0,nx4) 0),(13, .bp (1,nx4+1) 0),(14, .fn (.func 47) [] [.bp (0,nx4) 0, .bp (1,nx4+1) 0]),(15,int (i:Nat)),(16,Jh ((Jc p).rules.getD i Jl).name),(17, .os 2 0 (JcU []) none)]) _ [] rfl rfl Sf Sf Bf trivial ⟨Rf,Rf,Rf,Rf,Rf,Rf,Rf,Rf,Rf,AVle.os_nil,trivial⟩⟩
        ·rintro ⟨L,oi,nx6⟩ ⟨hL,hle,ho⟩
         dsimp only at hL hle ho
         refine stp ?_
         intro c g2;cases c
         ·have g2:=Jt g2
          try dsimp only at g2
          have hj:i+L.length=(Jc p).rules.length:=by omega
          rw [hj,List.drop_length] at hL
          refine stp ?_
          exact ⟨(L,oi,nx6),by rw [← hL];exact (List.append_nil _).symm,Et rfl rfl Bf Pf ⟨Rf,Rf,Rf,Rf,Rf,Rf,Rf,Rf,Rf,Rf,trivial⟩⟩
         ·have g2:=Ju g2
          try dsimp only at g2
          have hj:i+L.length < (Jc p).rules.length:=by omega
          have hdr:(Jc p).rules.drop (i+L.length)=(Jc p).rules.getD (i+L.length) Jl::(Jc p).rules.drop (i+L.length+1):=by
           rw [List.drop_eq_getElem_cons hj];simp [List.getD,hj]
          rw [hdr] at hL
          refine stp ?_
          refine ⟨Bd, ?_⟩
          refine stp ?_
          intro c3 hc3
          have hc3:c3=kS ((Jc p).rules.getD (i+L.length) Jl).name ((Jc p).rules.getD i Jl).name:=hc3
          cases c3
          ·have hrn:Jb5 ((Jc p).rules.getD i Jl).name ((Jc p).rules.getD (i+L.length) Jl::(Jc p).rules.drop (i+L.length+1))= []:=by
            unfold Jb5;rw [List.takeWhile_cons,if_neg (by rw [← hc3];decide)]
           rw [hrn] at hL
           refine stp ?_
           exact ⟨(L,oi,nx6),by rw [← hL];exact (List.append_nil _).symm,Et rfl rfl Bf Pf ⟨Rf,Rf,Rf,Rf,Rf,Rf,Rf,Rf,Rf,Rf,trivial⟩⟩
          ·have hrn:Jb5 ((Jc p).rules.getD i Jl).name ((Jc p).rules.getD (i+L.length) Jl::(Jc p).rules.drop (i+L.length+1))=(Jc p).rules.getD (i+L.length) Jl::Jb5 ((Jc p).rules.getD i Jl).name ((Jc p).rules.drop (i+L.length+1)):=by
            unfold Jb5;rw [List.takeWhile_cons,if_pos hc3.symm]
           rw [hrn] at hL
           have hcj:=Jjr ((Jc p).rules.getD (i+L.length) Jl).act (JfQ ((JeI hnr).2 _ (by simp [List.getD,hj])))
           refine stp ?_
           refine J1 17 (LpB nx nx4 p st) (fun i=> match i with | 16=> true | _=> false) (fun i=> match i with | 13=> true | _=> false) [0,1,2,3,4,5,6,7,8,9,10,11,12,13,14,15,16] (by kernel_rfl) (by kernel_rfl) (HB.refl _) ?_
           refine stp ?_
           refine ⟨Bd,Jck (b:= .rp (Jap ((Jc p).rules.getD (i+L.length) Jl)).cells) rfl ?_⟩
           refine stp ?_
           refine ⟨Bd,Jck (b:= .rp (Jap ((Jc p).rules.getD (i+L.length) Jl)).cells) rfl ?_⟩
           refine stp ?_
           refine ⟨_,JD rfl rfl rfl hcj ⟨Rf,trivial⟩ (NoId.v _), ?_⟩
           refine stp ?_
           refine ⟨_,Jbe (e:=118) (c:=2) (pm:= []) (n:=(L.map JP).length) (oi:=nmd oi) (sz:=2) (f:=JcU (L.map JP)) (HB.refl _) rfl rfl rfl (.inr ⟨_,rfl⟩) (by kernel_rfl) (by kernel_rfl) (by kernel_rfl) (.inr rfl) (by kernel_rfl) (List.append_nil _).symm (JC rfl) (by rw [Jk0,List.length_map];have:=(JbA hnr).1;omega) (by rw [List.length_map];have:=(JbA hnr).1;omega),fun r h' hr=> ?_⟩
           obtain ⟨rfl,rfl⟩:=hr
           refine stp ?_
           exact back (L++ [(Jc p).rules.getD (i+L.length) Jl],some nx6,nx6+1) ⟨by dsimp only;rw [List.append_assoc,List.length_append,List.length_singleton];exact hL,by dsimp only;rw [List.length_append,List.length_singleton];omega,(fun h=> by cases h)⟩ (by dsimp only;rw [List.length_append,List.length_singleton];omega) (Et (bx:=LpB nx nx4 p st) (pm:= [((0,nx6),((L++ [(Jc p).rules.getD (i+L.length) Jl]).map JP).length * 2)]) (L:= [(1,JJ l),(4, .bp (2,nx+1) 0),(5,int 0),(6,int 0),(11, .bp (0,nx4) 0),(13, .bp (1,nx4+1) 0),(14, .fn (.func 47) [] [.bp (0,nx4) 0, .bp (1,nx4+1) 0]),(15,int (i+(L++ [(Jc p).rules.getD (i+L.length) Jl]).length:Nat)),(16,Jh ((Jc p).rules.getD i Jl).name),(17, .os 2 ((L++ [(Jc p).rules.getD (i+L.length) Jl]).map JP).length (JcU ((L++ [(Jc p).rules.getD (i+L.length) Jl]).map JP)) (some (0,nx6)))]) rfl rfl Bf ⟨rfl,Jxy,trivial⟩ ⟨Rf,Rf,Rf,Rf,Rf,Rf,Rf,Jk (Jwg (by have:=(JbA hnr).1;dsimp only;omega)),Rf,Jyt rfl,trivial⟩)
       ·rintro ⟨L,oi,nx6⟩ hL
        dsimp only at hL
        have hmem:(Jc p).rules.getD i Jl∈(Jc p).rules:=by simp [List.getD,hi]
        have hfb:Ja2 l ((Jc p).rules.getD i Jl).name=true:=by
         obtain ⟨r0,h0,h1⟩:=Je1 hmem
         rw [(Jbv h1).2.1]
         exact JbX hv r0 h0
        have hF:=Jgk l ((Jc p).rules.getD i Jl).name hl (Jfh (JfP (Jab.1 hv).2.1) _)
        unfold Jku at hF
        rw [if_pos hfb,← (show Jau l ((Jc p).rules.getD i Jl).name=_ from if_pos hfb)] at hF
        refine stp ?_
        refine Je rfl rfl hF ⟨Rf,Rf,trivial⟩ fun nx7=> ?_
        refine stp ?_
        have hLn:L≠ []:=by rw [hL];exact JuM hi
        have hrc:=JuN (s:=((Jc p).rules.getD i Jl).name) (i:=i) hp (Jab.1 hv).1
        rw [← hL] at hrc
        have hrow:=Jxw (Jab.1 hv).2.1 (JmO hfb)
        have hlr:L.length≤(Jc p).rules.length - i:=by rw [hL,← List.length_drop];exact JmV _ _
        have h500:=(JbA hnr).1
        have hput:=Jsv (Jc p).dflt.1 (Jc p).dflt.2 (Jc p).x32 (Jc p).rules (Jp (Jc p).dflt) (Jau l ((Jc p).rules.getD i Jl).name) (L.map JP) nx4 (nx4+1) (nx7+1) st hI.2.1 (JqZ h500 hI) hrow.1 hrow.2.1 hrow.2.2 (fun h=> hLn (List.map_eq_nil_iff.1 h)) (by rw [List.length_map];omega) hrc
        have hnext:∀st',Jsu (Jp (Jc p).dflt) (Jc p).x32 (Jau l ((Jc p).rules.getD i Jl).name) (L.map JP) st st'→LpI p l (i+L.length) st':=fun st' hq=> Jwd hi rfl hL hI hq
        have hpos:0 < L.length:=List.length_pos_iff.2 hLn
        refine J2 (xs:= [Js (Jau l ((Jc p).rules.getD i Jl).name),Jw (L.map JP), .bp (0,nx4) 0, .bp (1,nx4+1) 0]) [((20,nx7), .c (Ja1 (Jau l ((Jc p).rules.getD i Jl).name))),((2,nx+1), .c J5)] (JbH (nmd oi) ((L.map JP).length * 2)) 20 rfl rfl rfl (List.append_nil _).symm ⟨Rf,AVle.os_sl,Rf,Rf,trivial⟩ hput Bf trivial rfl fun r h' hq=> ?_
        obtain ⟨rfl,st',nx8,nn8,hq,rfl⟩:=hq
        refine stp ?_
        exact back (i+L.length,st',nx8) (hnext st' hq) Dm (Jm (pm:= []) (bx:=LpB nx nx4 p st') (L:= [(1,JJ l),(4, .bp (2,nx+1) 0),(5,int 0),(6,int 0),(11, .bp (0,nx4) 0),(13, .bp (1,nx4+1) 0),(14, .fn (.func 47) [] [.bp (0,nx4) 0, .bp (1,nx4+1) 0]),(15,int (i+L.length:Nat))]) _ [] rfl rfl (.cons _ Sf) (List.nil_sublist _) Bf trivial ⟨Rf,Rf,Rf,Rf,Rf,Rf,Rf,Rf,trivial⟩)
    ·rintro ⟨st,nx5⟩ hI
     dsimp only at hI
     have hE:=Jxx hI
     have hlen:=JqZ (JbA hnr).1 hI
     have hone:∀ {m:Nat} {st1:Nat→JZ} (k:Nat),LpS m st st1→∀ {R:List (Nat×AV)},k < 7→(st1 k).1=R→(∀x∈R,Jcb x.2=true)∧R.length < 4611686018427387904:=fun {m st1} k hS {R} hk h=> by
      subst h
      have hp:=hS.2.2.1 k hk
      refine ⟨fun x hx=> ?_,by have:=hlen k hk;rw [hp.length_eq];omega⟩
      have hx:=hp.mem_iff.1 hx
      rcases Nat.lt_or_ge k 5 with h5 | h5
      ·rw [hE.2.1 k h5] at hx
       obtain ⟨e,_,rfl⟩:=List.mem_map.1 hx
       rfl
      ·obtain ⟨m',rfl⟩:∃m',k=5+m':=⟨k - 5,by omega⟩
       rw [hE.2.2 m' Om] at hx
       obtain ⟨e,_,rfl⟩:=List.mem_map.1 hx
       rfl
     refine stp ?_
     refine JdT (fun y:(Nat→JZ)×Nat=> mk 131 [(4, .bp (2,nx+1) 0),(5,int 0),(6,int 0),(13, .bp (1,nx4+1) 0)] ⟨LpB nx nx4 p y.1, [],y.2,20⟩) (fun y=> LpS 5 st y.1) ?_ ?_
     ·refine Jx (fun y:Nat×(Nat→JZ)×Nat=> mk 131 [(4, .bp (2,nx+1) 0),(5,int 0),(6,int 0),(13, .bp (1,nx4+1) 0),(112,int y.1)] ⟨LpB nx nx4 p y.2.1, [],y.2.2,20⟩) (fun y=> y.1≤5∧LpS (y.1) st y.2.1) (fun y=> 5 - y.1) ?_ ?_
      ·exact ⟨(0,st,nx5),⟨Nat.zero_le _,Jy2 hE.1⟩,Et rfl rfl Bf trivial ⟨Rf,Rf,Rf,Rf,Rf,trivial⟩⟩
      ·rintro ⟨a,st1,nx5⟩ ⟨ha,hS⟩
       dsimp only at ha hS
       rcases (by omega:a=0∨a=1∨a=2∨a=3∨a=4∨a=5) with rfl | rfl | rfl | rfl | rfl | rfl
       ·rcases hk:st1 0 with ⟨R,_ | ⟨s,cap,tl⟩⟩
        ·have hR:R= []:=by have:=hS.2.1 0 Dc;rw [hk] at this;exact this
         have hN0:(st1 0).1= []:=by rw [hk];exact hR
         have eo:Jq (Jp (Jc p).dflt) (Jc p).x32 st1= [u32 (Jp (Jc p).dflt:Nat),Jb (Jc p).x32, .os 0 0 (fun _=> .any) none,Ja 11 (st1 1),Ja 12 (st1 2),Ja 13 (st1 3),Ja 14 (st1 4),Ja 15 (st1 5),Ja 16 (st1 6)]:=by simp only [Jq,hk,Ja]
         refine AW.le (Et (n:=131) (nn:=20) (pm:= []) (bx:= [((2,nx+1),Own.c J5),((1,nx4+1), .c [u32 (Jp (Jc p).dflt:Nat),Jb (Jc p).x32, .os 0 0 (fun _=> .any) none,Ja 11 (st1 1),Ja 12 (st1 2),Ja 13 (st1 3),Ja 14 (st1 4),Ja 15 (st1 5),Ja 16 (st1 6)]),((0,nx4), .c [int (Jc p).dflt.1,int (Jc p).dflt.2,Jb (Jc p).x32,Ji (Jc p).rules])]++JE st1) (L:= [(4, .bp (2,nx+1) 0),(5,int 0),(6,int 0),(13, .bp (1,nx4+1) 0),(112,int (0:Nat))]) rfl rfl (JcN eo) trivial ⟨Rf,Rf,Rf,Rf,Rf,trivial⟩) ?_
         refine stp ?_
         refine Je rfl rfl (Jea 52) ⟨AVle.os_nil,Rf,trivial⟩ fun nx6=> ?_
         refine stp ?_
         exact back (1,st1,nx6) ⟨by dsimp only;omega,Jeq Dc hS hN0⟩ Dm (Et (bx:=LpB nx nx4 p st1) rfl rfl (JcO eo.symm) trivial ⟨Rf,Rf,Rf,Rf,Jk rfl,trivial⟩)
        ·have eo:Jq (Jp (Jc p).dflt) (Jc p).x32 st1= [u32 (Jp (Jc p).dflt:Nat),Jb (Jc p).x32, .hs (10,s) 0 R.length cap,Ja 11 (st1 1),Ja 12 (st1 2),Ja 13 (st1 3),Ja 14 (st1 4),Ja 15 (st1 5),Ja 16 (st1 6)]:=by simp only [Jq,hk,Ja]
         refine AW.le (Jo (n:=131) (nn:=20) (pm:= []) (bx:=([((2,nx+1),Own.c J5),((1,nx4+1), .c [u32 (Jp (Jc p).dflt:Nat),Jb (Jc p).x32, .hs (10,s) 0 R.length cap,Ja 11 (st1 1),Ja 12 (st1 2),Ja 13 (st1 3),Ja 14 (st1 4),Ja 15 (st1 5),Ja 16 (st1 6)]),((0,nx4), .c [int (Jc p).dflt.1,int (Jc p).dflt.2,Jb (Jc p).x32,Ji (Jc p).rules])]++Jn 0 st1)++ [((10,s),Own.c (Jy R++tl))]) (L:= [(4, .bp (2,nx+1) 0),(5,int 0),(6,int 0),(13, .bp (1,nx4+1) 0),(112,int (0:Nat))]) _ _ [] rfl rfl (Je4 (F:= [((2,nx+1),Own.c J5),((1,nx4+1), .c (Jq (Jp (Jc p).dflt) (Jc p).x32 st1)),((0,nx4), .c [int (Jc p).dflt.1,int (Jc p).dflt.2,Jb (Jc p).x32,Ji (Jc p).rules])]) (k:=0) Dc hk) Sf Sf (by rw [List.append_assoc,List.append_assoc];exact JcN eo) trivial ⟨Rf,Rf,Rf,Rf,Rf,trivial⟩) ?_
         have hR:=hone 0 hS (R:=R) Dc (by rw [hk])
         refine stp ?_
         refine J2 (xs:= [.hs (10,s) 0 R.length cap, .fn (.func 52) [] []]) ([((2,nx+1),Own.c J5),((1,nx4+1), .c [u32 (Jp (Jc p).dflt:Nat),Jb (Jc p).x32, .hs (10,s) 0 R.length cap,Ja 11 (st1 1),Ja 12 (st1 2),Ja 13 (st1 3),Ja 14 (st1 4),Ja 15 (st1 5),Ja 16 (st1 6)]),((0,nx4), .c [int (Jc p).dflt.1,int (Jc p).dflt.2,Jb (Jc p).x32,Ji (Jc p).rules])]++Jn 0 st1) [] 20 rfl rfl rfl rfl ⟨Rf,Rf,trivial⟩ (JdL (D:=R) (tl:=tl) (nm:=10) (s:=s) (cap:=cap) (nx:=nx5) (nn:=20) hR.1 hR.2) Bf trivial rfl fun r h' hq=> ?_
         obtain ⟨rfl,cs',⟨D,hp1,hp2,rfl⟩,rfl⟩:=hq
         refine stp ?_
         exact back (1,Jz st1 0 (D,some (s,cap,tl)),nx5) ⟨by dsimp only;omega,Jer Dc hS hk hp1 hp2⟩ Dm (Jo (pm:= []) (bx:=LpB nx nx4 p (Jz st1 0 (D,some (s,cap,tl)))) (L:= [(4, .bp (2,nx+1) 0),(5,int 0),(6,int 0),(13, .bp (1,nx4+1) 0),(112,int (1:Nat))]) _ _ [] rfl rfl (Jes (F:= [((2,nx+1),Own.c J5),((1,nx4+1), .c [u32 (Jp (Jc p).dflt:Nat),Jb (Jc p).x32, .hs (10,s) 0 R.length cap,Ja 11 (st1 1),Ja 12 (st1 2),Ja 13 (st1 3),Ja 14 (st1 4),Ja 15 (st1 5),Ja 16 (st1 6)]),((0,nx4), .c [int (Jc p).dflt.1,int (Jc p).dflt.2,Jb (Jc p).x32,Ji (Jc p).rules])]) (k:=0) Dc).symm Sf Sf (JcO (by rw [Je3 (st:=st1) (k:=0) (by rw [hk];show AV.hs _ 0 D.length cap=AV.hs _ 0 R.length cap;rw [hp1.length_eq]),eo])) trivial ⟨Rf,Rf,Rf,Rf,Jk rfl,trivial⟩)
       ·rcases hk:st1 1 with ⟨R,_ | ⟨s,cap,tl⟩⟩
        ·have hR:R= []:=by have:=hS.2.1 1 Dc;rw [hk] at this;exact this
         have hN0:(st1 1).1= []:=by rw [hk];exact hR
         have eo:Jq (Jp (Jc p).dflt) (Jc p).x32 st1= [u32 (Jp (Jc p).dflt:Nat),Jb (Jc p).x32,Ja 10 (st1 0), .os 0 0 (fun _=> .any) none,Ja 12 (st1 2),Ja 13 (st1 3),Ja 14 (st1 4),Ja 15 (st1 5),Ja 16 (st1 6)]:=by simp only [Jq,hk,Ja]
         refine AW.le (Et (n:=131) (nn:=20) (pm:= []) (bx:= [((2,nx+1),Own.c J5),((1,nx4+1), .c [u32 (Jp (Jc p).dflt:Nat),Jb (Jc p).x32,Ja 10 (st1 0), .os 0 0 (fun _=> .any) none,Ja 12 (st1 2),Ja 13 (st1 3),Ja 14 (st1 4),Ja 15 (st1 5),Ja 16 (st1 6)]),((0,nx4), .c [int (Jc p).dflt.1,int (Jc p).dflt.2,Jb (Jc p).x32,Ji (Jc p).rules])]++JE st1) (L:= [(4, .bp (2,nx+1) 0),(5,int 0),(6,int 0),(13, .bp (1,nx4+1) 0),(112,int (1:Nat))]) rfl rfl (JcN eo) trivial ⟨Rf,Rf,Rf,Rf,Rf,trivial⟩) ?_
         refine stp ?_
         refine Je rfl rfl (Jea 52) ⟨AVle.os_nil,Rf,trivial⟩ fun nx6=> ?_
         refine stp ?_
         exact back (2,st1,nx6) ⟨by dsimp only;omega,Jeq Dc hS hN0⟩ Dm (Et (bx:=LpB nx nx4 p st1) rfl rfl (JcO eo.symm) trivial ⟨Rf,Rf,Rf,Rf,Jk rfl,trivial⟩)
        ·have eo:Jq (Jp (Jc p).dflt) (Jc p).x32 st1= [u32 (Jp (Jc p).dflt:Nat),Jb (Jc p).x32,Ja 10 (st1 0), .hs (11,s) 0 R.length cap,Ja 12 (st1 2),Ja 13 (st1 3),Ja 14 (st1 4),Ja 15 (st1 5),Ja 16 (st1 6)]:=by simp only [Jq,hk,Ja]
         refine AW.le (Jo (n:=131) (nn:=20) (pm:= []) (bx:=([((2,nx+1),Own.c J5),((1,nx4+1), .c [u32 (Jp (Jc p).dflt:Nat),Jb (Jc p).x32,Ja 10 (st1 0), .hs (11,s) 0 R.length cap,Ja 12 (st1 2),Ja 13 (st1 3),Ja 14 (st1 4),Ja 15 (st1 5),Ja 16 (st1 6)]),((0,nx4), .c [int (Jc p).dflt.1,int (Jc p).dflt.2,Jb (Jc p).x32,Ji (Jc p).rules])]++Jn 1 st1)++ [((11,s),Own.c (Jy R++tl))]) (L:= [(4, .bp (2,nx+1) 0),(5,int 0),(6,int 0),(13, .bp (1,nx4+1) 0),(112,int (1:Nat))]) _ _ [] rfl rfl (Je4 (F:= [((2,nx+1),Own.c J5),((1,nx4+1), .c (Jq (Jp (Jc p).dflt) (Jc p).x32 st1)),((0,nx4), .c [int (Jc p).dflt.1,int (Jc p).dflt.2,Jb (Jc p).x32,Ji (Jc p).rules])]) (k:=1) Dc hk) Sf Sf (by rw [List.append_assoc,List.append_assoc];exact JcN eo) trivial ⟨Rf,Rf,Rf,Rf,Rf,trivial⟩) ?_
         have hR:=hone 1 hS (R:=R) Dc (by rw [hk])
         refine stp ?_
         refine J2 (xs:= [.hs (11,s) 0 R.length cap, .fn (.func 52) [] []]) ([((2,nx+1),Own.c J5),((1,nx4+1), .c [u32 (Jp (Jc p).dflt:Nat),Jb (Jc p).x32,Ja 10 (st1 0), .hs (11,s) 0 R.length cap,Ja 12 (st1 2),Ja 13 (st1 3),Ja 14 (st1 4),Ja 15 (st1 5),Ja 16 (st1 6)]),((0,nx4), .c [int (Jc p).dflt.1,int (Jc p).dflt.2,Jb (Jc p).x32,Ji (Jc p).rules])]++Jn 1 st1) [] 20 rfl rfl rfl rfl ⟨Rf,Rf,trivial⟩ (JdL (D:=R) (tl:=tl) (nm:=11) (s:=s) (cap:=cap) (nx:=nx5) (nn:=20) hR.1 hR.2) Bf trivial rfl fun r h' hq=> ?_
         obtain ⟨rfl,cs',⟨D,hp1,hp2,rfl⟩,rfl⟩:=hq
         refine stp ?_
         exact back (2,Jz st1 1 (D,some (s,cap,tl)),nx5) ⟨by dsimp only;omega,Jer Dc hS hk hp1 hp2⟩ Dm (Jo (pm:= []) (bx:=LpB nx nx4 p (Jz st1 1 (D,some (s,cap,tl)))) (L:= [(4, .bp (2,nx+1) 0),(5,int 0),(6,int 0),(13, .bp (1,nx4+1) 0),(112,int (2:Nat))]) _ _ [] rfl rfl (Jes (F:= [((2,nx+1),Own.c J5),((1,nx4+1), .c [u32 (Jp (Jc p).dflt:Nat),Jb (Jc p).x32,Ja 10 (st1 0), .hs (11,s) 0 R.length cap,Ja 12 (st1 2),Ja 13 (st1 3),Ja 14 (st1 4),Ja 15 (st1 5),Ja 16 (st1 6)]),((0,nx4), .c [int (Jc p).dflt.1,int (Jc p).dflt.2,Jb (Jc p).x32,Ji (Jc p).rules])]) (k:=1) Dc).symm Sf Sf (JcO (by rw [Je3 (st:=st1) (k:=1) (by rw [hk];show AV.hs _ 0 D.length cap=AV.hs _ 0 R.length cap;rw [hp1.length_eq]),eo])) trivial ⟨Rf,Rf,Rf,Rf,Jk rfl,trivial⟩)
       ·rcases hk:st1 2 with ⟨R,_ | ⟨s,cap,tl⟩⟩
        ·have hR:R= []:=by have:=hS.2.1 2 Dc;rw [hk] at this;exact this
         have hN0:(st1 2).1= []:=by rw [hk];exact hR
         have eo:Jq (Jp (Jc p).dflt) (Jc p).x32 st1= [u32 (Jp (Jc p).dflt:Nat),Jb (Jc p).x32,Ja 10 (st1 0),Ja 11 (st1 1), .os 0 0 (fun _=> .any) none,Ja 13 (st1 3),Ja 14 (st1 4),Ja 15 (st1 5),Ja 16 (st1 6)]:=by simp only [Jq,hk,Ja]
         refine AW.le (Et (n:=131) (nn:=20) (pm:= []) (bx:= [((2,nx+1),Own.c J5),((1,nx4+1), .c [u32 (Jp (Jc p).dflt:Nat),Jb (Jc p).x32,Ja 10 (st1 0),Ja 11 (st1 1), .os 0 0 (fun _=> .any) none,Ja 13 (st1 3),Ja 14 (st1 4),Ja 15 (st1 5),Ja 16 (st1 6)]),((0,nx4), .c [int (Jc p).dflt.1,int (Jc p).dflt.2,Jb (Jc p).x32,Ji (Jc p).rules])]++JE st1) (L:= [(4, .bp (2,nx+1) 0),(5,int 0),(6,int 0),(13, .bp (1,nx4+1) 0),(112,int (2:Nat))]) rfl rfl (JcN eo) trivial ⟨Rf,Rf,Rf,Rf,Rf,trivial⟩) ?_
         refine stp ?_
         refine Je rfl rfl (Jea 52) ⟨AVle.os_nil,Rf,trivial⟩ fun nx6=> ?_
         refine stp ?_
         exact back (3,st1,nx6) ⟨by dsimp only;omega,Jeq Dc hS hN0⟩ Dm (Et (bx:=LpB nx nx4 p st1) rfl rfl (JcO eo.symm) trivial ⟨Rf,Rf,Rf,Rf,Jk rfl,trivial⟩)
        ·have eo:Jq (Jp (Jc p).dflt) (Jc p).x32 st1= [u32 (Jp (Jc p).dflt:Nat),Jb (Jc p).x32,Ja 10 (st1 0),Ja 11 (st1 1), .hs (12,s) 0 R.length cap,Ja 13 (st1 3),Ja 14 (st1 4),Ja 15 (st1 5),Ja 16 (st1 6)]:=by simp only [Jq,hk,Ja]
         refine AW.le (Jo (n:=131) (nn:=20) (pm:= []) (bx:=([((2,nx+1),Own.c J5),((1,nx4+1), .c [u32 (Jp (Jc p).dflt:Nat),Jb (Jc p).x32,Ja 10 (st1 0),Ja 11 (st1 1), .hs (12,s) 0 R.length cap,Ja 13 (st1 3),Ja 14 (st1 4),Ja 15 (st1 5),Ja 16 (st1 6)]),((0,nx4), .c [int (Jc p).dflt.1,int (Jc p).dflt.2,Jb (Jc p).x32,Ji (Jc p).rules])]++Jn 2 st1)++ [((12,s),Own.c (Jy R++tl))]) (L:= [(4, .bp (2,nx+1) 0),(5,int 0),(6,int 0),(13, .bp (1,nx4+1) 0),(112,int (2:Nat))]) _ _ [] rfl rfl (Je4 (F:= [((2,nx+1),Own.c J5),((1,nx4+1), .c (Jq (Jp (Jc p).dflt) (Jc p).x32 st1)),((0,nx4), .c [int (Jc p).dflt.1,int (Jc p).dflt.2,Jb (Jc p).x32,Ji (Jc p).rules])]) (k:=2) Dc hk) Sf Sf (by rw [List.append_assoc,List.append_assoc];exact JcN eo) trivial ⟨Rf,Rf,Rf,Rf,Rf,trivial⟩) ?_
         have hR:=hone 2 hS (R:=R) Dc (by rw [hk])
         refine stp ?_
         refine J2 (xs:= [.hs (12,s) 0 R.length cap, .fn (.func 52) [] []]) ([((2,nx+1),Own.c J5),((1,nx4+1), .c [u32 (Jp (Jc p).dflt:Nat),Jb (Jc p).x32,Ja 10 (st1 0),Ja 11 (st1 1), .hs (12,s) 0 R.length cap,Ja 13 (st1 3),Ja 14 (st1 4),Ja 15 (st1 5),Ja 16 (st1 6)]),((0,nx4), .c [int (Jc p).dflt.1,int (Jc p).dflt.2,Jb (Jc p).x32,Ji (Jc p).rules])]++Jn 2 st1) [] 20 rfl rfl rfl rfl ⟨Rf,Rf,trivial⟩ (JdL (D:=R) (tl:=tl) (nm:=12) (s:=s) (cap:=cap) (nx:=nx5) (nn:=20) hR.1 hR.2) Bf trivial rfl fun r h' hq=> ?_
         obtain ⟨rfl,cs',⟨D,hp1,hp2,rfl⟩,rfl⟩:=hq
         refine stp ?_
         exact back (3,Jz st1 2 (D,some (s,cap,tl)),nx5) ⟨by dsimp only;omega,Jer Dc hS hk hp1 hp2⟩ Dm (Jo (pm:= []) (bx:=LpB nx nx4 p (Jz st1 2 (D,some (s,cap,tl)))) (L:= [(4, .bp (2,nx+1) 0),(5,int 0),(6,int 0),(13, .bp (1,nx4+1) 0),(112,int (3:Nat))]) _ _ [] rfl rfl (Jes (F:= [((2,nx+1),Own.c J5),((1,nx4+1), .c [u32 (Jp (Jc p).dflt:Nat),Jb (Jc p).x32,Ja 10 (st1 0),Ja 11 (st1 1), .hs (12,s) 0 R.length cap,Ja 13 (st1 3),Ja 14 (st1 4),Ja 15 (st1 5),Ja 16 (st1 6)]),((0,nx4), .c [int (Jc p).dflt.1,int (Jc p).dflt.2,Jb (Jc p).x32,Ji (Jc p).rules])]) (k:=2) Dc).symm Sf Sf (JcO (by rw [Je3 (st:=st1) (k:=2) (by rw [hk];show AV.hs _ 0 D.length cap=AV.hs _ 0 R.length cap;rw [hp1.length_eq]),eo])) trivial ⟨Rf,Rf,Rf,Rf,Jk rfl,trivial⟩)
       ·rcases hk:st1 3 with ⟨R,_ | ⟨s,cap,tl⟩⟩
        ·have hR:R= []:=by have:=hS.2.1 3 Dc;rw [hk] at this;exact this
         have hN0:(st1 3).1= []:=by rw [hk];exact hR
         have eo:Jq (Jp (Jc p).dflt) (Jc p).x32 st1= [u32 (Jp (Jc p).dflt:Nat),Jb (Jc p).x32,Ja 10 (st1 0),Ja 11 (st1 1),Ja 12 (st1 2), .os 0 0 (fun _=> .any) none,Ja 14 (st1 4),Ja 15 (st1 5),Ja 16 (st1 6)]:=by simp only [Jq,hk,Ja]
         refine AW.le (Et (n:=131) (nn:=20) (pm:= []) (bx:= [((2,nx+1),Own.c J5),((1,nx4+1), .c [u32 (Jp (Jc p).dflt:Nat),Jb (Jc p).x32,Ja 10 (st1 0),Ja 11 (st1 1),Ja 12 (st1 2), .os 0 0 (fun _=> .any) none,Ja 14 (st1 4),Ja 15 (st1 5),Ja 16 (st1 6)]),((0,nx4), .c [int (Jc p).dflt.1,int (Jc p).dflt.2,Jb (Jc p).x32,Ji (Jc p).rules])]++JE st1) (L:= [(4, .bp (2,nx+1) 0),(5,int 0),(6,int 0),(13, .bp (1,nx4+1) 0),(112,int (3:Nat))]) rfl rfl (JcN eo) trivial ⟨Rf,Rf,Rf,Rf,Rf,trivial⟩) ?_
         refine stp ?_
         refine Je rfl rfl (Jea 52) ⟨AVle.os_nil,Rf,trivial⟩ fun nx6=> ?_
         refine stp ?_
         exact back (4,st1,nx6) ⟨by dsimp only;omega,Jeq Dc hS hN0⟩ Dm (Et (bx:=LpB nx nx4 p st1) rfl rfl (JcO eo.symm) trivial ⟨Rf,Rf,Rf,Rf,Jk rfl,trivial⟩)
        ·have eo:Jq (Jp (Jc p).dflt) (Jc p).x32 st1= [u32 (Jp (Jc p).dflt:Nat),Jb (Jc p).x32,Ja 10 (st1 0),Ja 11 (st1 1),Ja 12 (st1 2), .hs (13,s) 0 R.length cap,Ja 14 (st1 4),Ja 15 (st1 5),Ja 16 (st1 6)]:=by simp only [Jq,hk,Ja]
         refine AW.le (Jo (n:=131) (nn:=20) (pm:= []) (bx:=([((2,nx+1),Own.c J5),((1,nx4+1), .c [u32 (Jp (Jc p).dflt:Nat),Jb (Jc p).x32,Ja 10 (st1 0),Ja 11 (st1 1),Ja 12 (st1 2), .hs (13,s) 0 R.length cap,Ja 14 (st1 4),Ja 15 (st1 5),Ja 16 (st1 6)]),((0,nx4), .c [int (Jc p).dflt.1,int (Jc p).dflt.2,Jb (Jc p).x32,Ji (Jc p).rules])]++Jn 3 st1)++ [((13,s),Own.c (Jy R++tl))]) (L:= [(4, .bp (2,nx+1) 0),(5,int 0),(6,int 0),(13, .bp (1,nx4+1) 0),(112,int (3:Nat))]) _ _ [] rfl rfl (Je4 (F:= [((2,nx+1),Own.c J5),((1,nx4+1), .c (Jq (Jp (Jc p).dflt) (Jc p).x32 st1)),((0,nx4), .c [int (Jc p).dflt.1,int (Jc p).dflt.2,Jb (Jc p).x32,Ji (Jc p).rules])]) (k:=3) Dc hk) Sf Sf (by rw [List.append_assoc,List.append_assoc];exact JcN eo) trivial ⟨Rf,Rf,Rf,Rf,Rf,trivial⟩) ?_
         have hR:=hone 3 hS (R:=R) Dc (by rw [hk])
         refine stp ?_
         refine J2 (xs:= [.hs (13,s) 0 R.length cap, .fn (.func 52) [] []]) ([((2,nx+1),Own.c J5),((1,nx4+1), .c [u32 (Jp (Jc p).dflt:Nat),Jb (Jc p).x32,Ja 10 (st1 0),Ja 11 (st1 1),Ja 12 (st1 2), .hs (13,s) 0 R.length cap,Ja 14 (st1 4),Ja 15 (st1 5),Ja 16 (st1 6)]),((0,nx4), .c [int (Jc p).dflt.1,int (Jc p).dflt.2,Jb (Jc p).x32,Ji (Jc p).rules])]++Jn 3 st1) [] 20 rfl rfl rfl rfl ⟨Rf,Rf,trivial⟩ (JdL (D:=R) (tl:=tl) (nm:=13) (s:=s) (cap:=cap) (nx:=nx5) (nn:=20) hR.1 hR.2) Bf trivial rfl fun r h' hq=> ?_
         obtain ⟨rfl,cs',⟨D,hp1,hp2,rfl⟩,rfl⟩:=hq
         refine stp ?_
         exact back (4,Jz st1 3 (D,some (s,cap,tl)),nx5) ⟨by dsimp only;omega,Jer Dc hS hk hp1 hp2⟩ Dm (Jo (pm:= []) (bx:=LpB nx nx4 p (Jz st1 3 (D,some (s,cap,tl)))) (L:= [(4, .bp (2,nx+1) 0),(5,int 0),(6,int 0),(13, .bp (1,nx4+1) 0),(112,int (4:Nat))]) _ _ [] rfl rfl (Jes (F:= [((2,nx+1),Own.c J5),((1,nx4+1), .c [u32 (Jp (Jc p).dflt:Nat),Jb (Jc p).x32,Ja 10 (st1 0),Ja 11 (st1 1),Ja 12 (st1 2), .hs (13,s) 0 R.length cap,Ja 14 (st1 4),Ja 15 (st1 5),Ja 16 (st1 6)]),((0,nx4), .c [int (Jc p).dflt.1,int (Jc p).dflt.2,Jb (Jc p).x32,Ji (Jc p).rules])]) (k:=3) Dc).symm Sf Sf (JcO (by rw [Je3 (st:=st1) (k:=3) (by rw [hk];show AV.hs _ 0 D.length cap=AV.hs _ 0 R.length cap;rw [hp1.length_eq]),eo])) trivial ⟨Rf,Rf,Rf,Rf,Jk rfl,trivial⟩)
       ·rcases hk:st1 4 with ⟨R,_ | ⟨s,cap,tl⟩⟩
        ·have hR:R= []:=by have:=hS.2.1 4 Dc;rw [hk] at this;exact this
         have hN0:(st1 4).1= []:=by rw [hk];exact hR
         have eo:Jq (Jp (Jc p).dflt) (Jc p).x32 st1= [u32 (Jp (Jc p).dflt:Nat),Jb (Jc p).x32,Ja 10 (st1 0),Ja 11 (st1 1),Ja 12 (st1 2),Ja 13 (st1 3), .os 0 0 (fun _=> .any) none,Ja 15 (st1 5),Ja 16 (st1 6)]:=by simp only [Jq,hk,Ja]
         refine AW.le (Et (n:=131) (nn:=20) (pm:= []) (bx:= [((2,nx+1),Own.c J5),((1,nx4+1), .c [u32 (Jp (Jc p).dflt:Nat),Jb (Jc p).x32,Ja 10 (st1 0),Ja 11 (st1 1),Ja 12 (st1 2),Ja 13 (st1 3), .os 0 0 (fun _=> .any) none,Ja 15 (st1 5),Ja 16 (st1 6)]),((0,nx4), .c [int (Jc p).dflt.1,int (Jc p).dflt.2,Jb (Jc p).x32,Ji (Jc p).rules])]++JE st1) (L:= [(4, .bp (2,nx+1) 0),(5,int 0),(6,int 0),(13, .bp (1,nx4+1) 0),(112,int (4:Nat))]) rfl rfl (JcN eo) trivial ⟨Rf,Rf,Rf,Rf,Rf,trivial⟩) ?_
         refine stp ?_
         refine Je rfl rfl (Jea 52) ⟨AVle.os_nil,Rf,trivial⟩ fun nx6=> ?_
         refine stp ?_
         exact back (5,st1,nx6) ⟨by dsimp only;omega,Jeq Dc hS hN0⟩ Dm (Et (bx:=LpB nx nx4 p st1) rfl rfl (JcO eo.symm) trivial ⟨Rf,Rf,Rf,Rf,Jk rfl,trivial⟩)
        ·have eo:Jq (Jp (Jc p).dflt) (Jc p).x32 st1= [u32 (Jp (Jc p).dflt:Nat),Jb (Jc p).x32,Ja 10 (st1 0),Ja 11 (st1 1),Ja 12 (st1 2),Ja 13 (st1 3), .hs (14,s) 0 R.length cap,Ja 15 (st1 5),Ja 16 (st1 6)]:=by simp only [Jq,hk,Ja]
         refine AW.le (Jo (n:=131) (nn:=20) (pm:= []) (bx:=([((2,nx+1),Own.c J5),((1,nx4+1), .c [u32 (Jp (Jc p).dflt:Nat),Jb (Jc p).x32,Ja 10 (st1 0),Ja 11 (st1 1),Ja 12 (st1 2),Ja 13 (st1 3), .hs (14,s) 0 R.length cap,Ja 15 (st1 5),Ja 16 (st1 6)]),((0,nx4), .c [int (Jc p).dflt.1,int (Jc p).dflt.2,Jb (Jc p).x32,Ji (Jc p).rules])]++Jn 4 st1)++ [((14,s),Own.c (Jy R++tl))]) (L:= [(4, .bp (2,nx+1) 0),(5,int 0),(6,int 0),(13, .bp (1,nx4+1) 0),(112,int (4:Nat))]) _ _ [] rfl rfl (Je4 (F:= [((2,nx+1),Own.c J5),((1,nx4+1), .c (Jq (Jp (Jc p).dflt) (Jc p).x32 st1)),((0,nx4), .c [int (Jc p).dflt.1,int (Jc p).dflt.2,Jb (Jc p).x32,Ji (Jc p).rules])]) (k:=4) Dc hk) Sf Sf (by rw [List.append_assoc,List.append_assoc];exact JcN eo) trivial ⟨Rf,Rf,Rf,Rf,Rf,trivial⟩) ?_
         have hR:=hone 4 hS (R:=R) Dc (by rw [hk])
         refine stp ?_
         refine J2 (xs:= [.hs (14,s) 0 R.length cap, .fn (.func 52) [] []]) ([((2,nx+1),Own.c J5),((1,nx4+1), .c [u32 (Jp (Jc p).dflt:Nat),Jb (Jc p).x32,Ja 10 (st1 0),Ja 11 (st1 1),Ja 12 (st1 2),Ja 13 (st1 3), .hs (14,s) 0 R.length cap,Ja 15 (st1 5),Ja 16 (st1 6)]),((0,nx4), .c [int (Jc p).dflt.1,int (Jc p).dflt.2,Jb (Jc p).x32,Ji (Jc p).rules])]++Jn 4 st1) [] 20 rfl rfl rfl rfl ⟨Rf,Rf,trivial⟩ (JdL (D:=R) (tl:=tl) (nm:=14) (s:=s) (cap:=cap) (nx:=nx5) (nn:=20) hR.1 hR.2) Bf trivial rfl fun r h' hq=> ?_
         obtain ⟨rfl,cs',⟨D,hp1,hp2,rfl⟩,rfl⟩:=hq
         refine stp ?_
         exact back (5,Jz st1 4 (D,some (s,cap,tl)),nx5) ⟨by dsimp only;omega,Jer Dc hS hk hp1 hp2⟩ Dm (Jo (pm:= []) (bx:=LpB nx nx4 p (Jz st1 4 (D,some (s,cap,tl)))) (L:= [(4, .bp (2,nx+1) 0),(5,int 0),(6,int 0),(13, .bp (1,nx4+1) 0),(112,int (5:Nat))]) _ _ [] rfl rfl (Jes (F:= [((2,nx+1),Own.c J5),((1,nx4+1), .c [u32 (Jp (Jc p).dflt:Nat),Jb (Jc p).x32,Ja 10 (st1 0),Ja 11 (st1 1),Ja 12 (st1 2),Ja 13 (st1 3), .hs (14,s) 0 R.length cap,Ja 15 (st1 5),Ja 16 (st1 6)]),((0,nx4), .c [int (Jc p).dflt.1,int (Jc p).dflt.2,Jb (Jc p).x32,Ji (Jc p).rules])]) (k:=4) Dc).symm Sf Sf (JcO (by rw [Je3 (st:=st1) (k:=4) (by rw [hk];show AV.hs _ 0 D.length cap=AV.hs _ 0 R.length cap;rw [hp1.length_eq]),eo])) trivial ⟨Rf,Rf,Rf,Rf,Jk rfl,trivial⟩)
       ·refine stp ?_
        exact ⟨(st1,nx5),hS,Et rfl rfl Bf trivial ⟨Rf,Rf,Rf,Rf,trivial⟩⟩
     rintro ⟨st0,nx5⟩ hS0
     dsimp only at hS0
     refine stp ?_
     refine JdT (fun y:(Nat→JZ)×Nat=> mk 131 [(4, .bp (2,nx+1) 0),(5,int 0),(6,int 0),(13, .bp (1,nx4+1) 0)] ⟨LpB nx nx4 p y.1, [],y.2,20⟩) (fun y=> LpS 7 st y.1) ?_ ?_
     ·refine Jx (fun y:Nat×(Nat→JZ)×Nat=> mk 131 [(4, .bp (2,nx+1) 0),(5,int 0),(6,int 0),(13, .bp (1,nx4+1) 0),(121,int y.1)] ⟨LpB nx nx4 p y.2.1, [],y.2.2,20⟩) (fun y=> y.1≤2∧LpS (5+y.1) st y.2.1) (fun y=> 2 - y.1) ?_ ?_
      ·exact ⟨(0,st0,nx5),⟨Nat.zero_le _,hS0⟩,Et rfl rfl Bf trivial ⟨Rf,Rf,Rf,Rf,Rf,trivial⟩⟩
      ·rintro ⟨a,st1,nx5⟩ ⟨ha,hS⟩
       dsimp only at ha hS
       rcases (by omega:a=0∨a=1∨a=2) with rfl | rfl | rfl
       ·rcases hk:st1 5 with ⟨R,_ | ⟨s,cap,tl⟩⟩
        ·have hR:R= []:=by have:=hS.2.1 5 Dc;rw [hk] at this;exact this
         have hN0:(st1 5).1= []:=by rw [hk];exact hR
         have eo:Jq (Jp (Jc p).dflt) (Jc p).x32 st1= [u32 (Jp (Jc p).dflt:Nat),Jb (Jc p).x32,Ja 10 (st1 0),Ja 11 (st1 1),Ja 12 (st1 2),Ja 13 (st1 3),Ja 14 (st1 4), .os 0 0 (fun _=> .any) none,Ja 16 (st1 6)]:=by simp only [Jq,hk,Ja]
         refine AW.le (Et (n:=131) (nn:=20) (pm:= []) (bx:= [((2,nx+1),Own.c J5),((1,nx4+1), .c [u32 (Jp (Jc p).dflt:Nat),Jb (Jc p).x32,Ja 10 (st1 0),Ja 11 (st1 1),Ja 12 (st1 2),Ja 13 (st1 3),Ja 14 (st1 4), .os 0 0 (fun _=> .any) none,Ja 16 (st1 6)]),((0,nx4), .c [int (Jc p).dflt.1,int (Jc p).dflt.2,Jb (Jc p).x32,Ji (Jc p).rules])]++JE st1) (L:= [(4, .bp (2,nx+1) 0),(5,int 0),(6,int 0),(13, .bp (1,nx4+1) 0),(121,int (0:Nat))]) rfl rfl (JcN eo) trivial ⟨Rf,Rf,Rf,Rf,Rf,trivial⟩) ?_
         refine stp ?_
         refine Je rfl rfl (Jjt 55) ⟨AVle.os_nil,Rf,trivial⟩ fun nx6=> ?_
         refine stp ?_
         exact back (1,st1,nx6) ⟨by dsimp only;omega,Jeq Dc hS hN0⟩ Dm (Et (bx:=LpB nx nx4 p st1) rfl rfl (JcO eo.symm) trivial ⟨Rf,Rf,Rf,Rf,Jk rfl,trivial⟩)
        ·have eo:Jq (Jp (Jc p).dflt) (Jc p).x32 st1= [u32 (Jp (Jc p).dflt:Nat),Jb (Jc p).x32,Ja 10 (st1 0),Ja 11 (st1 1),Ja 12 (st1 2),Ja 13 (st1 3),Ja 14 (st1 4), .hs (15,s) 0 R.length cap,Ja 16 (st1 6)]:=by simp only [Jq,hk,Ja]
         refine AW.le (Jo (n:=131) (nn:=20) (pm:= []) (bx:=([((2,nx+1),Own.c J5),((1,nx4+1), .c [u32 (Jp (Jc p).dflt:Nat),Jb (Jc p).x32,Ja 10 (st1 0),Ja 11 (st1 1),Ja 12 (st1 2),Ja 13 (st1 3),Ja 14 (st1 4), .hs (15,s) 0 R.length cap,Ja 16 (st1 6)]),((0,nx4), .c [int (Jc p).dflt.1,int (Jc p).dflt.2,Jb (Jc p).x32,Ji (Jc p).rules])]++Jn 5 st1)++ [((15,s),Own.c (Jy R++tl))]) (L:= [(4, .bp (2,nx+1) 0),(5,int 0),(6,int 0),(13, .bp (1,nx4+1) 0),(121,int (0:Nat))]) _ _ [] rfl rfl (Je4 (F:= [((2,nx+1),Own.c J5),((1,nx4+1), .c (Jq (Jp (Jc p).dflt) (Jc p).x32 st1)),((0,nx4), .c [int (Jc p).dflt.1,int (Jc p).dflt.2,Jb (Jc p).x32,Ji (Jc p).rules])]) (k:=5) Dc hk) Sf Sf (by rw [List.append_assoc,List.append_assoc];exact JcN eo) trivial ⟨Rf,Rf,Rf,Rf,Rf,trivial⟩) ?_
         have hR:=hone 5 hS (R:=R) Dc (by rw [hk])
         refine stp ?_
         refine J2 (xs:= [.hs (15,s) 0 R.length cap, .fn (.func 55) [] []]) ([((2,nx+1),Own.c J5),((1,nx4+1), .c [u32 (Jp (Jc p).dflt:Nat),Jb (Jc p).x32,Ja 10 (st1 0),Ja 11 (st1 1),Ja 12 (st1 2),Ja 13 (st1 3),Ja 14 (st1 4), .hs (15,s) 0 R.length cap,Ja 16 (st1 6)]),((0,nx4), .c [int (Jc p).dflt.1,int (Jc p).dflt.2,Jb (Jc p).x32,Ji (Jc p).rules])]++Jn 5 st1) [] 20 rfl rfl rfl rfl ⟨Rf,Rf,trivial⟩ (Jim (D:=R) (tl:=tl) (nm:=15) (s:=s) (cap:=cap) (nx:=nx5) (nn:=20) hR.1 hR.2) Bf trivial rfl fun r h' hq=> ?_
         obtain ⟨rfl,cs',⟨D,hp1,hp2,rfl⟩,rfl⟩:=hq
         refine stp ?_
         exact back (1,Jz st1 5 (D,some (s,cap,tl)),nx5) ⟨by dsimp only;omega,Jer Dc hS hk hp1 hp2⟩ Dm (Jo (pm:= []) (bx:=LpB nx nx4 p (Jz st1 5 (D,some (s,cap,tl)))) (L:= [(4, .bp (2,nx+1) 0),(5,int 0),(6,int 0),(13, .bp (1,nx4+1) 0),(121,int (1:Nat))]) _ _ [] rfl rfl (Jes (F:= [((2,nx+1),Own.c J5),((1,nx4+1), .c [u32 (Jp (Jc p).dflt:Nat),Jb (Jc p).x32,Ja 10 (st1 0),Ja 11 (st1 1),Ja 12 (st1 2),Ja 13 (st1 3),Ja 14 (st1 4), .hs (15,s) 0 R.length cap,Ja 16 (st1 6)]),((0,nx4), .c [int (Jc p).dflt.1,int (Jc p).dflt.2,Jb (Jc p).x32,Ji (Jc p).rules])]) (k:=5) Dc).symm Sf Sf (JcO (by rw [Je3 (st:=st1) (k:=5) (by rw [hk];show AV.hs _ 0 D.length cap=AV.hs _ 0 R.length cap;rw [hp1.length_eq]),eo])) trivial ⟨Rf,Rf,Rf,Rf,Jk rfl,trivial⟩)
       ·rcases hk:st1 6 with ⟨R,_ | ⟨s,cap,tl⟩⟩
        ·have hR:R= []:=by have:=hS.2.1 6 Dc;rw [hk] at this;exact this
         have hN0:(st1 6).1= []:=by rw [hk];exact hR
         have eo:Jq (Jp (Jc p).dflt) (Jc p).x32 st1= [u32 (Jp (Jc p).dflt:Nat),Jb (Jc p).x32,Ja 10 (st1 0),Ja 11 (st1 1),Ja 12 (st1 2),Ja 13 (st1 3),Ja 14 (st1 4),Ja 15 (st1 5), .os 0 0 (fun _=> .any) none]:=by simp only [Jq,hk,Ja]
         refine AW.le (Et (n:=131) (nn:=20) (pm:= []) (bx:= [((2,nx+1),Own.c J5),((1,nx4+1), .c [u32 (Jp (Jc p).dflt:Nat),Jb (Jc p).x32,Ja 10 (st1 0),Ja 11 (st1 1),Ja 12 (st1 2),Ja 13 (st1 3),Ja 14 (st1 4),Ja 15 (st1 5), .os 0 0 (fun _=> .any) none]),((0,nx4), .c [int (Jc p).dflt.1,int (Jc p).dflt.2,Jb (Jc p).x32,Ji (Jc p).rules])]++JE st1) (L:= [(4, .bp (2,nx+1) 0),(5,int 0),(6,int 0),(13, .bp (1,nx4+1) 0),(121,int (1:Nat))]) rfl rfl (JcN eo) trivial ⟨Rf,Rf,Rf,Rf,Rf,trivial⟩) ?_
         refine stp ?_
         refine Je rfl rfl (Jjt 55) ⟨AVle.os_nil,Rf,trivial⟩ fun nx6=> ?_
         refine stp ?_
         exact back (2,st1,nx6) ⟨by dsimp only;omega,Jeq Dc hS hN0⟩ Dm (Et (bx:=LpB nx nx4 p st1) rfl rfl (JcO eo.symm) trivial ⟨Rf,Rf,Rf,Rf,Jk rfl,trivial⟩)
        ·have eo:Jq (Jp (Jc p).dflt) (Jc p).x32 st1= [u32 (Jp (Jc p).dflt:Nat),Jb (Jc p).x32,Ja 10 (st1 0),Ja 11 (st1 1),Ja 12 (st1 2),Ja 13 (st1 3),Ja 14 (st1 4),Ja 15 (st1 5), .hs (16,s) 0 R.length cap]:=by simp only [Jq,hk,Ja]
         refine AW.le (Jo (n:=131) (nn:=20) (pm:= []) (bx:=([((2,nx+1),Own.c J5),((1,nx4+1), .c [u32 (Jp (Jc p).dflt:Nat),Jb (Jc p).x32,Ja 10 (st1 0),Ja 11 (st1 1),Ja 12 (st1 2),Ja 13 (st1 3),Ja 14 (st1 4),Ja 15 (st1 5), .hs (16,s) 0 R.length cap]),((0,nx4), .c [int (Jc p).dflt.1,int (Jc p).dflt.2,Jb (Jc p).x32,Ji (Jc p).rules])]++Jn 6 st1)++ [((16,s),Own.c (Jy R++tl))]) (L:= [(4, .bp (2,nx+1) 0),(5,int 0),(6,int 0),(13, .bp (1,nx4+1) 0),(121,int (1:Nat))]) _ _ [] rfl rfl (Je4 (F:= [((2,nx+1),Own.c J5),((1,nx4+1), .c (Jq (Jp (Jc p).dflt) (Jc p).x32 st1)),((0,nx4), .c [int (Jc p).dflt.1,int (Jc p).dflt.2,Jb (Jc p).x32,Ji (Jc p).rules])]) (k:=6) Dc hk) Sf Sf (by rw [List.append_assoc,List.append_assoc];exact JcN eo) trivial ⟨Rf,Rf,Rf,Rf,Rf,trivial⟩) ?_
         have hR:=hone 6 hS (R:=R) Dc (by rw [hk])
         refine stp ?_
         refine J2 (xs:= [.hs (16,s) 0 R.length cap, .fn (.func 55) [] []]) ([((2,nx+1),Own.c J5),((1,nx4+1), .c [u32 (Jp (Jc p).dflt:Nat),Jb (Jc p).x32,Ja 10 (st1 0),Ja 11 (st1 1),Ja 12 (st1 2),Ja 13 (st1 3),Ja 14 (st1 4),Ja 15 (st1 5), .hs (16,s) 0 R.length cap]),((0,nx4), .c [int (Jc p).dflt.1,int (Jc p).dflt.2,Jb (Jc p).x32,Ji (Jc p).rules])]++Jn 6 st1) [] 20 rfl rfl rfl rfl ⟨Rf,Rf,trivial⟩ (Jim (D:=R) (tl:=tl) (nm:=16) (s:=s) (cap:=cap) (nx:=nx5) (nn:=20) hR.1 hR.2) Bf trivial rfl fun r h' hq=> ?_
         obtain ⟨rfl,cs',⟨D,hp1,hp2,rfl⟩,rfl⟩:=hq
         refine stp ?_
         exact back (2,Jz st1 6 (D,some (s,cap,tl)),nx5) ⟨by dsimp only;omega,Jer Dc hS hk hp1 hp2⟩ Dm (Jo (pm:= []) (bx:=LpB nx nx4 p (Jz st1 6 (D,some (s,cap,tl)))) (L:= [(4, .bp (2,nx+1) 0),(5,int 0),(6,int 0),(13, .bp (1,nx4+1) 0),(121,int (2:Nat))]) _ _ [] rfl rfl (Jes (F:= [((2,nx+1),Own.c J5),((1,nx4+1), .c [u32 (Jp (Jc p).dflt:Nat),Jb (Jc p).x32,Ja 10 (st1 0),Ja 11 (st1 1),Ja 12 (st1 2),Ja 13 (st1 3),Ja 14 (st1 4),Ja 15 (st1 5), .hs (16,s) 0 R.length cap]),((0,nx4), .c [int (Jc p).dflt.1,int (Jc p).dflt.2,Jb (Jc p).x32,Ji (Jc p).rules])]) (k:=6) Dc).symm Sf Sf (JcO (by rw [Je3 (st:=st1) (k:=6) (by rw [hk];show AV.hs _ 0 D.length cap=AV.hs _ 0 R.length cap;rw [hp1.length_eq]),eo])) trivial ⟨Rf,Rf,Rf,Rf,Jk rfl,trivial⟩)
       ·refine stp ?_
        exact ⟨(st1,nx5),hS,Et rfl rfl Bf trivial ⟨Rf,Rf,Rf,Rf,trivial⟩⟩
     rintro ⟨st2,nx5⟩ hS
     dsimp only at hS
     have hr:∀k,k < 5→(st2 k).1=((Jag p l).ents k).map JdM:=fun k hk=> Juv hv hk JdM (fun _=> rfl) (by rw [← hE.2.1 k hk];exact hS.2.2.1 k Om) (hS.2.2.2 k Om)
     have hr2:∀m,m < 2→(st2 (5+m)).1=((Jag p l).subs m).map Jah:=fun m hm=> Juw hv Jah (fun _=> rfl) (by rw [← hE.2.2 m hm];exact hS.2.2.1 (5+m) Om) (hS.2.2.2 (5+m) Om)
     have ho:=hS.2.1
     refine JbD (n:=131) (nx:=nx5) (nn:=20) (pm:= []) (bx:= [((2,nx+1), .c J5)]) (df:=some []) (L:= [(4, .bp (2,nx+1) 0),(5,int 0),(6,int 0),(13, .rp [u32 (Jp (Jc p).dflt:Nat),Jb (Jc p).x32,JT 2 JaD ent0 ((Jag p l).ents 0),JT 2 JaD ent0 ((Jag p l).ents 1),JT 2 JaD ent0 ((Jag p l).ents 2),JT 2 JaD ent0 ((Jag p l).ents 3),JT 2 JaD ent0 ((Jag p l).ents 4),JT 2 JgX sub0 ((Jag p l).subs 0),JT 2 JgX sub0 ((Jag p l).subs 1)])]) ([((1,nx4+1),Own.c (Jq (Jp (Jc p).dflt) (Jc p).x32 st2)),((0,nx4),Own.c [int (Jc p).dflt.1,int (Jc p).dflt.2,Jb (Jc p).x32,Ji (Jc p).rules])]++JE st2) rfl rfl rfl Jwf Sf ⟨Frz.refl _,Frz.refl _,Frz.refl _,Frz.bpL (cs:=Jq (Jp (Jc p).dflt) (Jc p).x32 st2) (.head _) ⟨Frz.refl _,Frz.refl _,Jhc (ho 0 Dc) (hr 0 Dc) (Jgt (j:=0) Dc),Jhc (ho 1 Dc) (hr 1 Dc) (Jgt (j:=1) Dc),Jhc (ho 2 Dc) (hr 2 Dc) (Jgt (j:=2) Dc),Jhc (ho 3 Dc) (hr 3 Dc) (Jgt (j:=3) Dc),Jhc (ho 4 Dc) (hr 4 Dc) (Jgt (j:=4) Dc),Jq0 (ho 5 Dc) (hr2 0 Dc) (Jgt (j:=5) Dc),Jq0 (ho 6 Dc) (hr2 1 Dc) (Jgt (j:=6) Dc),trivial⟩,trivial⟩ ?_
     refine stp ?_
     exact Jj rfl ⟨rfl,trivial⟩ Rf
 ·rw [if_pos hv]
  generalize (J7 p l).1=v1 at hV⊢
  generalize (J7 p l).2=v2 at hV hv⊢
  refine Jf Tryz.func12 rfl rfl fun nx=> ?_
  refine stp ?_
  refine Je rfl rfl hV ⟨Rf,Rf,trivial⟩ fun nx2=> ?_
  refine stp ?_
  intro c hc
  obtain rfl:c=true:=by rw [hc];simpa using hv
  refine stp ?_
  exact Jj rfl ⟨rfl,trivial⟩ (AVle.tups (cs:= [_,_,_]) ⟨Jpq,Rf,Rf,trivial⟩)
end Go.Proofs.W

namespace Go.Proofs.W
open Go.Vl
set_option maxRecDepth 100000
end Go.Proofs.W

namespace Go.Proofs.W
open Go.Vl
set_option maxRecDepth 100000
end Go.Proofs.W

namespace Go.Proofs.W
open Go.Vl
set_option maxRecDepth 100000
theorem JsF {a b:Own} (h:a=b):OwnLe a b:=h ▸ OwnLe.refl a
theorem Jq1:Jbm Tryz.prog 113=true:=by kernel_rfl
theorem gc_trow:Tryz.prog.cellsOf 113=8:=by kernel_rfl
theorem Jq2:Tryz.prog.bytesOf 113=72:=by kernel_rfl
theorem JiX (x:TRow):(Js x).cells.length=8:=rfl
theorem Jxz (x:TRow):(Js x).cells.all Jcb=true:=rfl
theorem JuO (n:Nat) (h0:0 < n) (hn:n≤100000) (nx:Nat):
 ECall Tryz.prog 238 [.os 0 0 (fun _=> .any) none,int n] ⟨[], [],nx,0⟩ (fun r h'=> ∃s cap nx' nn',n≤cap∧r= .hs (0,s) 0 0 cap∧h'=⟨[((0,s), .c (List.replicate (cap * 8) .any))], [],nx',nn'⟩):=by
 refine ECall.wk (J0 Tryz.func238 rfl rfl ?_)
 refine stp ?_
 refine JjE rfl rfl Tryz.underlying49 ?_
 refine stp ?_
 intro c hc
 replace hc:c=decide (IntKind.i64.wrap ((n:Int) - 0) > 0):=hc
 rw [Jai Om Om,decide_eq_true Om] at hc
 subst hc
 refine JW ?_
 refine JU (fun i=> match i with | 7=> true | 6=> true | 4=> true | 1=> true | _=> false) 10 ?_
 refine stp ?_
 refine JjE rfl rfl Tryz.underlying49 ?_
 refine stp ?_
 refine Jvn rfl rfl rfl Tryz.underlying49 Tryz.underlying113 ?_
 refine stp ?_
 have hw:IntKind.i64.wrap ((n:Int) - 0)=n:=by rw [Jai Om Om];omega
 refine Jng (m:=n) (kq:= .i64) (kn:= .i64) (e:=113) rfl rfl (congrArg (fun z=> AV.v (.int .i64 z)) hw) Om Tryz.underlying3 Tryz.underlying49 Jq1 (by rw [Jq2];omega) Om fun cap hcap=> ?_
 refine stp ?_
 refine Jon (l:=0) (k':= .i64) rfl rfl rfl Tryz.underlying49 Tryz.underlying113 (Nat.zero_le _) Om ?_
 refine stp ?_
 exact Jac rfl ⟨_,_,Rf,HLe.refl _,nx,cap,_,_,hcap,rfl,by rw [gc_trow];rfl⟩
theorem JsG:Tells Tryz.prog 238 [.os 0 0 (fun _=> .any) none,int (0:Nat)] (.os 0 0 (fun _=> .any) none):=by
 refine Jf Tryz.func238 rfl rfl fun nx=> ?_
 refine stp ?_
 refine JjE rfl rfl Tryz.underlying49 ?_
 refine stp ?_
 exact Jd rfl Rf
def Jd0 (L:List (List TRow)) (oi:Option Vl.Id):AV:= .os 1 L.length (fun k=> JT 8 Js Jg (L.getD k [])) oi
theorem JmW (l:List TRow):JO l.length (fun k=> Js (l.getD k Jg))=l.flatMap fun x=> (Js x).cells:=by
 have key:∀m,m≤l.length→JO m (fun k=> Js (l.getD k Jg))=(l.take m).flatMap fun x=> (Js x).cells:=by
  intro m
  induction m with
  | zero=> intro _;rfl
  | succ m ih=>
    intro hm
    have hm':m < l.length:=by omega
    have e:JO (m+1) (fun k=> Js (l.getD k Jg))=JO m (fun k=> Js (l.getD k Jg))++(Js (l.getD m Jg)).cells:=by unfold JO;rw [List.range_succ,List.flatMap_append];simp
    rw [e,ih Om,List.take_add_one,List.flatMap_append]
    simp [List.getD,hm']
 rw [key _ (Nat.le_refl _),List.take_of_length_le (Nat.le_refl _)]
theorem Jiq (l:List TRow):(l.flatMap fun x=> (Js x).cells).length=l.length * 8:=by
 induction l with
 | nil=> rfl
 | cons x l ih=> rw [List.flatMap_cons,List.length_append,ih,JiX,List.length_cons];omega
theorem JuP (l:List TRow) (k j:Nat) (hk:k < l.length) (hj:j < 8):(l.flatMap fun x=> (Js x).cells)[k * 8+j]? =(Js (l.getD k Jg)).cells[j]? :=by
 rw [← JmW]
 exact (JdD (sz:=8) (fun i hi=> JiX _)).2 k j hk hj
set_option maxHeartbeats 1000000 in
theorem Jqk (L:List (List TRow)) (hL:L.length≤1000) (hn:L.flatten.length≤100000) (oi:Option Vl.Id):Tells Tryz.prog 146 [Jd0 L none] (JT 8 Js Jg L.flatten):=by
 have hpre:∀i,i < L.length→(L.take (i+1)).flatten.length=(L.take i).flatten.length+(L.getD i []).length:=fun i hi=> by
  rw [Jb0 [] hi,List.flatten_append,List.length_append];simp
 have hle:∀i,(L.take i).flatten.length≤L.flatten.length:=fun i=> by
  conv=> rhs;rw [← List.take_append_drop i L,List.flatten_append,List.length_append]
  omega
 refine Jf Tryz.func146 rfl rfl fun nx=> ?_
 refine stp ?_
 refine JdT (fun y:Nat=> mk 36 [(0,Jd0 L none),(3,int (L.flatten.length:Nat))] ⟨[], [],y,0⟩) (fun _=> True) ?_ ?_
 ·refine Jx (fun y:Nat×Nat=> mk 36 [(0,Jd0 L none),(3,int ((L.take y.1).flatten.length:Nat)),(9,Jd0 L none),(10,int L.length),(11,int y.1)] ⟨[], [],y.2,0⟩) (fun y=> y.1≤L.length) (fun y=> L.length - y.1) ?_ ?_
  ·exact ⟨(0,nx),Nat.zero_le _,Jgd rfl rfl Sf Sf ⟨Rf,Rf,Rf,Rf,Rf,trivial⟩⟩
  ·rintro ⟨i,nx1⟩ h1
   dsimp only at h1
   refine stp ?_
   intro c g;cases c
   ·have g:=Jt g
    try dsimp only at g
    obtain rfl:i=L.length:=by omega
    refine stp ?_
    refine ⟨nx1,trivial,Jgd rfl rfl Sf Sf ⟨Rf, ?_,trivial⟩⟩
    exact AVle.of_eq (congrArg (fun z:List (List TRow)=> int (z.flatten.length:Nat)) List.take_length)
   ·have g:=Ju g
    try dsimp only at g
    have hi:i < L.length:=by omega
    have e1:=hpre i hi
    have e2:=hle (i+1)
    refine stp ?_
    refine ⟨Bd, ?_⟩
    have hw:IntKind.i64.wrap ((((L.take i).flatten.length:Nat):Int)+((L.getD i []).length:Int))=(((L.take (i+1)).flatten.length:Nat):Int):=by rw [Jai Om Om];omega
    refine stp ?_
    intro c hc
    replace hc:c=decide (IntKind.i64.wrap ((((L.take i).flatten.length:Nat):Int)+((L.getD i []).length:Int)) < 0):=hc
    rw [hw,decide_eq_false Om] at hc
    subst hc
    refine stp ?_
    exact back (i+1,nx1) hi Dm (Jgd rfl rfl Sf Sf ⟨Rf,Jk hw,Rf,Rf,Lw,trivial⟩)
 ·intro nx1 _
  rcases Nat.eq_zero_or_pos L.flatten.length with h0 | h0
  ·have hemp:∀i,i < L.length→(L.getD i []).length=0:=fun i hi=> by
    have:=hpre i hi;have:=hle (i+1);omega
   have hnil:L.flatten= []:=List.eq_nil_of_length_eq_zero h0
   rw [hnil]
   refine stp ?_
   refine Je rfl rfl JsG ⟨Rf,Rf,trivial⟩ fun nx2=> ?_
   refine stp ?_
   refine Jx (fun y:Nat×Nat=> mk 36 [(6, .os 0 0 (fun _=> .any) none),(25,Jd0 L none),(26,int L.length),(27,int y.1)] ⟨[], [],y.2,0⟩) (fun y=> y.1≤L.length) (fun y=> L.length - y.1) ?_ ?_
   ·exact ⟨(0,nx2),Nat.zero_le _,Jgd rfl rfl Sf Sf ⟨Rf,Rf,Rf,Rf,trivial⟩⟩
   ·rintro ⟨i,nx3⟩ h1
    dsimp only at h1
    refine stp ?_
    intro c g;cases c
    ·refine stp ?_
     exact Jd rfl AVle.os_sl0
    ·have g:=Ju g
     try dsimp only at g
     have hi:i < L.length:=by omega
     have e1:=hemp i hi
     have e2:L.getD i []= []:=List.eq_nil_of_length_eq_zero e1
     refine stp ?_
     refine ⟨Bd, ?_⟩
     refine stp ?_
     refine Jj8 (fun _=> ?_) (fun h=> absurd e1 h)
     refine stp ?_
     exact back (i+1,nx3) hi Dm (Jgd rfl rfl Sf Sf ⟨Rf,Rf,Rf,Lw,trivial⟩)
  ·refine stp ?_
   refine J2 (xs:= [.os 0 0 (fun _=> .any) none,int (L.flatten.length:Nat)]) [] [] 1 rfl rfl rfl rfl ⟨Rf,Rf,trivial⟩ (JuO L.flatten.length h0 hn nx1) Bf Pf rfl fun r h' hq=> ?_
   obtain ⟨s,cap,nx2,nn2,hcap,rfl,rfl⟩:=hq
   refine stp ?_
   refine Jx (fun y:Nat×List AV×Nat=> mk 36 [(6, .hs (0,s) 0 ((L.take y.1).flatten.length) cap),(25,Jd0 L none),(26,int L.length),(27,int y.1)] ⟨[((0,s), .c y.2.1)], [],y.2.2,1⟩) (fun y=> y.1≤L.length∧y.2.1.length=cap * 8∧y.2.1.take ((L.take y.1).flatten.length * 8)=(L.take y.1).flatten.flatMap fun x=> (Js x).cells) (fun y=> L.length - y.1) ?_ ?_
   ·exact ⟨(0,List.replicate (cap * 8) .any,nx2),⟨Nat.zero_le _,by simp,by simp⟩,Jm _ _ rfl rfl Sf .slnil Bf trivial ⟨Rf,Rf,Rf,Rf,trivial⟩⟩
   ·rintro ⟨i,cs,nx3⟩ ⟨h1,h2,h3⟩
    dsimp only at h1 h2 h3
    refine stp ?_
    intro c g;cases c
    ·have g:=Jt g
     try dsimp only at g
     obtain rfl:i=L.length:=by omega
     rw [List.take_length] at h3
     have hcl:L.flatten.length * 8≤cap * 8:=Nat.mul_le_mul_right _ hcap
     refine JW ?_
     refine AW.le (JcJ (L:= [(6,JT 8 Js Jg L.flatten)]) (bx:= []) (pm:= []) (nn:=1) [((0,s), .c cs)] rfl rfl Sf .slnil ⟨?_,trivial⟩) ?_
     ·refine (Frz.of_le (AVle.of_eq (b:= .hs (0,s) 0 L.flatten.length cap) ?_)).trans (Frz.hs (cs:=cs) (.head _) hcap (.inr Om) (fun k hk=> JiX _) (fun k hk j c hj=> ?_) Om)
      ·show AV.hs (0,s) 0 ((L.take L.length).flatten.length) cap=_
       rw [List.take_length]
      ·have hjl:j < 8:=by have:=(List.getElem?_eq_some_iff.1 hj).1;rw [JiX] at this;exact this
       refine ⟨c, ?_,Rf⟩
       have hkk:k * 8+j < L.flatten.length * 8:=by
        have:(k+1) * 8≤L.flatten.length * 8:=Nat.mul_le_mul_right _ hk
        omega
       have h4:=JuP L.flatten k j hk hjl
       rw [← h3,List.getElem?_take,if_pos hkk,hj] at h4
       rw [Nat.zero_add];exact h4
     ·refine stp ?_
      exact Jd rfl Rf
    ·have g:=Ju g
     try dsimp only at g
     have hi:i < L.length:=by omega
     have e1:=hpre i hi
     have e2:=hle (i+1)
     have hfl:(L.take (i+1)).flatten=(L.take i).flatten++L.getD i []:=by rw [Jb0 [] hi,List.flatten_append];simp
     have hcl:((L.take i).flatten.length+(L.getD i []).length) * 8≤cap * 8:=Nat.mul_le_mul_right _ Om
     refine stp ?_
     refine ⟨Bd, ?_⟩
     refine JW ?_
     refine JU (fun i=> match i with | 1=> true | _=> false) 4 ?_
     refine stp ?_
     refine Jff (m:=(L.getD i []).length) (f':=fun k=> Js ((L.getD i []).getD k Jg)) (szx:=8) (n:=(L.take i).flatten.length) (cap:=cap) (cs:=cs) (i:=(0,s)) rfl rfl (.inl rfl) Tryz.underlying49 Jq1 (.inr gc_trow.symm) (by rfl) Om (by rw [gc_trow];omega) (fun k hk=> Jxz _) (fun _=> by rw [Jq2];omega) (fun _=> by omega) (fun hm=> ?_) (fun hm hfit=> ?_) (fun hm hnf=> absurd Om hnf)
     ·have e3:L.getD i []= []:=List.eq_nil_of_length_eq_zero hm
      rw [e3,List.append_nil] at hfl
      refine stp ?_
      exact back (i+1,cs,nx3) ⟨hi,h2,by dsimp only;rw [hfl];exact h3⟩ Dm (Jm _ _ rfl rfl Sf .slnil Bf trivial ⟨AVle.of_eq (congrArg (fun z=> AV.hs (0,s) 0 z cap) (by rw [hfl]:(L.take i).flatten.length=(L.take (i+1)).flatten.length)),Rf,Rf,Lw,trivial⟩)
     ·refine stp ?_
      refine back (i+1,Jas cs ((L.take i).flatten.length * 8) ((L.getD i []).flatMap fun x=> (Js x).cells),nx3) ⟨hi, ?_, ?_⟩ Dm (Jm _ _ rfl rfl Sf .slnil ⟨rfl,JsF (congrArg Own.c ?_),trivial⟩ trivial ⟨AVle.of_eq (congrArg (fun z=> AV.hs (0,s) 0 z cap) e1.symm),Rf,Rf,Lw,trivial⟩)
      ·have hf:=Jiq (L.getD i [])
       simp only [JaV,List.length_append,List.length_take,List.length_drop,hf]
       omega
      ·have hf:=Jiq (L.getD i [])
       dsimp only
       rw [hfl,List.flatMap_append,JaV,List.length_append,← List.append_assoc,h3]
       have hpl:(List.flatMap (fun x=> (Js x).cells) (L.take i).flatten++List.flatMap (fun x=> (Js x).cells) (L.getD i [])).length=((L.take i).flatten.length+(L.getD i []).length) * 8:=by
        rw [List.length_append,hf,Jiq];omega
       rw [← hpl,List.take_left]
      ·rw [gc_trow,JmW]
end Go.Proofs.W

namespace Go.Proofs.W
open Go.Vl
set_option maxRecDepth 100000
def Jir:List TRow:= [
 ⟨⟨#[97,99,99,101,112,116]⟩,43,43,-1,202,202,1,5⟩,
 ⟨⟨#[97,99,99,101,112,116,52]⟩,288,288,364,242,242,1,18⟩,
 ⟨⟨#[98,105,110,100]⟩,49,49,361,200,200,1,2⟩,
 ⟨⟨#[98,114,107]⟩,12,12,45,214,214,0,0⟩,
 ⟨⟨#[99,108,111,110,101]⟩,56,56,120,220,220,0,0⟩,
 ⟨⟨#[99,108,111,115,101]⟩,3,3,6,57,57,0,0⟩,
 ⟨⟨#[99,111,110,110,101,99,116]⟩,42,42,362,203,203,1,3⟩,
 ⟨⟨#[100,117,112]⟩,32,32,41,23,23,0,0⟩,
 ⟨⟨#[100,117,112,50]⟩,33,33,63,-1,-1,0,0⟩,
 ⟨⟨#[101,112,111,108,108,95,99,114,101,97,116,101,49]⟩,291,291,329,20,20,0,0⟩,
 ⟨⟨#[101,112,111,108,108,95,99,116,108]⟩,233,233,255,21,21,0,0⟩,
 ⟨⟨#[101,112,111,108,108,95,119,97,105,116]⟩,232,232,256,-1,-1,0,0⟩,
 ⟨⟨#[101,120,101,99,118,101]⟩,59,520,11,221,221,0,0⟩,
 ⟨⟨#[101,120,105,116]⟩,60,60,1,93,93,0,0⟩,
 ⟨⟨#[101,120,105,116,95,103,114,111,117,112]⟩,231,231,252,94,94,0,0⟩,
 ⟨⟨#[102,99,104,100,105,114]⟩,81,81,133,50,50,0,0⟩,
 ⟨⟨#[102,99,110,116,108]⟩,72,72,55,25,25,0,0⟩,
 ⟨⟨#[102,111,114,107]⟩,57,57,2,-1,-1,0,0⟩,
 ⟨⟨#[102,115,116,97,116]⟩,5,5,108,80,80,0,0⟩,
 ⟨⟨#[102,117,116,101,120]⟩,202,202,240,98,98,0,0⟩,
 ⟨⟨#[103,101,116,99,119,100]⟩,79,79,183,17,17,0,0⟩,
 ⟨⟨#[103,101,116,112,101,101,114,110,97,109,101]⟩,52,52,368,205,205,1,7⟩,
 ⟨⟨#[103,101,116,112,105,100]⟩,39,39,20,172,172,0,0⟩,
 ⟨⟨#[103,101,116,114,97,110,100,111,109]⟩,318,318,355,278,278,0,0⟩,
 ⟨⟨#[103,101,116,115,111,99,107,110,97,109,101]⟩,51,51,367,204,204,1,6⟩,
 ⟨⟨#[103,101,116,115,111,99,107,111,112,116]⟩,55,542,365,209,209,1,15⟩,
 ⟨⟨#[103,101,116,117,105,100]⟩,102,102,24,174,174,0,0⟩,
 ⟨⟨#[105,111,99,116,108]⟩,16,514,54,29,29,0,0⟩,
 ⟨⟨#[107,105,108,108]⟩,62,62,37,129,129,0,0⟩,
 ⟨⟨#[108,105,115,116,101,110]⟩,50,50,363,201,201,1,4⟩]
theorem Jql:Jcj Tryz.prog 49 30 [(0,Js ⟨⟨#[97,99,99,101,112,116]⟩,43,43,-1,202,202,1,5⟩),(1,Js ⟨⟨#[97,99,99,101,112,116,52]⟩,288,288,364,242,242,1,18⟩),(2,Js ⟨⟨#[98,105,110,100]⟩,49,49,361,200,200,1,2⟩),(3,Js ⟨⟨#[98,114,107]⟩,12,12,45,214,214,0,0⟩),(4,Js ⟨⟨#[99,108,111,110,101]⟩,56,56,120,220,220,0,0⟩),(5,Js ⟨⟨#[99,108,111,115,101]⟩,3,3,6,57,57,0,0⟩),(6,Js ⟨⟨#[99,111,110,110,101,99,116]⟩,42,42,362,203,203,1,3⟩),(7,Js ⟨⟨#[100,117,112]⟩,32,32,41,23,23,0,0⟩),(8,Js ⟨⟨#[100,117,112,50]⟩,33,33,63,-1,-1,0,0⟩),(9,Js ⟨⟨#[101,112,111,108,108,95,99,114,101,97,116,101,49]⟩,291,291,329,20,20,0,0⟩),(10,Js ⟨⟨#[101,112,111,108,108,95,99,116,108]⟩,233,233,255,21,21,0,0⟩),(11,Js ⟨⟨#[101,112,111,108,108,95,119,97,105,116]⟩,232,232,256,-1,-1,0,0⟩),(12,Js ⟨⟨#[101,120,101,99,118,101]⟩,59,520,11,221,221,0,0⟩),(13,Js ⟨⟨#[101,120,105,116]⟩,60,60,1,93,93,0,0⟩),(14,Js ⟨⟨#[101,120,105,116,95,103,114,111,117,112]⟩,231,231,252,94,94,0,0⟩),(15,Js ⟨⟨#[102,99,104,100,105,114]⟩,81,81,133,50,50,0,0⟩),(16,Js ⟨⟨#[102,99,110,116,108]⟩,72,72,55,25,25,0,0⟩),(17,Js ⟨⟨#[102,111,114,107]⟩,57,57,2,-1,-1,0,0⟩),(18,Js ⟨⟨#[102,115,116,97,116]⟩,5,5,108,80,80,0,0⟩),(19,Js ⟨⟨#[102,117,116,101,120]⟩,202,202,240,98,98,0,0⟩),(20,Js ⟨⟨#[103,101,116,99,119,100]⟩,79,79,183,17,17,0,0⟩),(21,Js ⟨⟨#[103,101,116,112,101,101,114,110,97,109,101]⟩,52,52,368,205,205,1,7⟩),(22,Js ⟨⟨#[103,101,116,112,105,100]⟩,39,39,20,172,172,0,0⟩),(23,Js ⟨⟨#[103,101,116,114,97,110,100,111,109]⟩,318,318,355,278,278,0,0⟩),(24,Js ⟨⟨#[103,101,116,115,111,99,107,110,97,109,101]⟩,51,51,367,204,204,1,6⟩),(25,Js ⟨⟨#[103,101,116,115,111,99,107,111,112,116]⟩,55,542,365,209,209,1,15⟩),(26,Js ⟨⟨#[103,101,116,117,105,100]⟩,102,102,24,174,174,0,0⟩),(27,Js ⟨⟨#[105,111,99,116,108]⟩,16,514,54,29,29,0,0⟩),(28,Js ⟨⟨#[107,105,108,108]⟩,62,62,37,129,129,0,0⟩),(29,Js ⟨⟨#[108,105,115,116,101,110]⟩,50,50,363,201,201,1,4⟩)]=some (113, [Jh ⟨#[97,99,99,101,112,116]⟩,int (43),int (43),int (-1),int (202),int (202),int 1,int 5,Jh ⟨#[97,99,99,101,112,116,52]⟩,int (288),int (288),int (364),int (242),int (242),int 1,int 18,Jh ⟨#[98,105,110,100]⟩,int (49),int (49),int (361),int (200),int (200),int 1,int 2,Jh ⟨#[98,114,107]⟩,int (12),int (12),int (45),int (214),int (214),int 0,int 0,Jh ⟨#[99,108,111,110,101]⟩,int (56),int (56),int (120),int (220),int (220),int 0,int 0,Jh ⟨#[99,108,111,115,101]⟩,int (3),int (3),int (6),int (57),int (57),int 0,int 0,Jh ⟨#[99,111,110,110,101,99,116]⟩,int (42),int (42),int (362),int (203),int (203),int 1,int 3,Jh ⟨#[100,117,112]⟩,int (32),int (32),int (41),int (23),int (23),int 0,int 0,Jh ⟨#[100,117,112,50]⟩,int (33),int (33),int (63),int (-1),int (-1),int 0,int 0,Jh ⟨#[101,112,111,108,108,95,99,114,101,97,116,101,49]⟩,int (291),int (291),int (329),int (20),int (20),int 0,int 0,Jh ⟨#[101,112,111,108,108,95,99,116,108]⟩,int (233),int (233),int (255),int (21),int (21),int 0,int 0,Jh ⟨#[101,112,111,108,108,95,119,97,105,116]⟩,int (232),int (232),int (256),int (-1),int (-1),int 0,int 0,Jh ⟨#[101,120,101,99,118,101]⟩,int (59),int (520),int (11),int (221),int (221),int 0,int 0,Jh ⟨#[101,120,105,116]⟩,int (60),int (60),int (1),int (93),int (93),int 0,int 0,Jh ⟨#[101,120,105,116,95,103,114,111,117,112]⟩,int (231),int (231),int (252),int (94),int (94),int 0,int 0,Jh ⟨#[102,99,104,100,105,114]⟩,int (81),int (81),int (133),int (50),int (50),int 0,int 0,Jh ⟨#[102,99,110,116,108]⟩,int (72),int (72),int (55),int (25),int (25),int 0,int 0,Jh ⟨#[102,111,114,107]⟩,int (57),int (57),int (2),int (-1),int (-1),int 0,int 0,Jh ⟨#[102,115,116,97,116]⟩,int (5),int (5),int (108),int (80),int (80),int 0,int 0,Jh ⟨#[102,117,116,101,120]⟩,int (202),int (202),int (240),int (98),int (98),int 0,int 0,Jh ⟨#[103,101,116,99,119,100]⟩,int (79),int (79),int (183),int (17),int (17),int 0,int 0,Jh ⟨#[103,101,116,112,101,101,114,110,97,109,101]⟩,int (52),int (52),int (368),int (205),int (205),int 1,int 7,Jh ⟨#[103,101,116,112,105,100]⟩,int (39),int (39),int (20),int (172),int (172),int 0,int 0,Jh ⟨#[103,101,116,114,97,110,100,111,109]⟩,int (318),int (318),int (355),int (278),int (278),int 0,int 0,Jh ⟨#[103,101,116,115,111,99,107,110,97,109,101]⟩,int (51),int (51),int (367),int (204),int (204),int 1,int 6,Jh ⟨#[103,101,116,115,111,99,107,111,112,116]⟩,int (55),int (542),int (365),int (209),int (209),int 1,int 15,Jh ⟨#[103,101,116,117,105,100]⟩,int (102),int (102),int (24),int (174),int (174),int 0,int 0,Jh ⟨#[105,111,99,116,108]⟩,int (16),int (514),int (54),int (29),int (29),int 0,int 0,Jh ⟨#[107,105,108,108]⟩,int (62),int (62),int (37),int (129),int (129),int 0,int 0,Jh ⟨#[108,105,115,116,101,110]⟩,int (50),int (50),int (363),int (201),int (201),int 1,int 4]):=by kernel_rfl
set_option maxHeartbeats 4000000 in
theorem JsH:Tells Tryz.prog 147 [] (JJ Jir):=by
 refine Jf Tryz.func147 rfl rfl fun nx=> ?_
 (refine JW ?_;refine Jae ?_;refine JW ?_)
 refine JU (fun n=> match n with | 0=> true | _=> false) 61 ?_
 refine stp ?_
 refine Jh4 rfl Jql ?_
 refine stp ?_
 refine Jd rfl (AVle.os_sl.trans (AVle.sl_fun fun k hk=> ?_))
 match k,hk with
 | 0,_=> rfl
 | 1,_=> rfl
 | 2,_=> rfl
 | 3,_=> rfl
 | 4,_=> rfl
 | 5,_=> rfl
 | 6,_=> rfl
 | 7,_=> rfl
 | 8,_=> rfl
 | 9,_=> rfl
 | 10,_=> rfl
 | 11,_=> rfl
 | 12,_=> rfl
 | 13,_=> rfl
 | 14,_=> rfl
 | 15,_=> rfl
 | 16,_=> rfl
 | 17,_=> rfl
 | 18,_=> rfl
 | 19,_=> rfl
 | 20,_=> rfl
 | 21,_=> rfl
 | 22,_=> rfl
 | 23,_=> rfl
 | 24,_=> rfl
 | 25,_=> rfl
 | 26,_=> rfl
 | 27,_=> rfl
 | 28,_=> rfl
 | 29,_=> rfl
 | k+30,hk=> exact absurd hk Om
def Jk6:List TRow:= [
 ⟨⟨#[108,115,101,101,107]⟩,8,8,19,62,62,0,0⟩,
 ⟨⟨#[109,107,100,105,114]⟩,83,83,39,-1,-1,0,0⟩,
 ⟨⟨#[109,109,97,112]⟩,9,9,-1,222,222,0,0⟩,
 ⟨⟨#[109,109,97,112,50]⟩,-1,-1,192,-1,-1,0,0⟩,
 ⟨⟨#[109,112,114,111,116,101,99,116]⟩,10,10,125,226,226,0,0⟩,
 ⟨⟨#[109,115,103,99,116,108]⟩,71,71,402,187,187,2,14⟩,
 ⟨⟨#[109,115,103,103,101,116]⟩,68,68,399,186,186,2,13⟩,
 ⟨⟨#[109,115,103,114,99,118]⟩,70,70,401,188,188,2,12⟩,
 ⟨⟨#[109,115,103,115,110,100]⟩,69,69,400,189,189,2,11⟩,
 ⟨⟨#[109,117,110,109,97,112]⟩,11,11,91,215,215,0,0⟩,
 ⟨⟨#[110,97,110,111,115,108,101,101,112]⟩,35,35,162,101,101,0,0⟩,
 ⟨⟨#[111,112,101,110]⟩,2,2,5,-1,-1,0,0⟩,
 ⟨⟨#[111,112,101,110,97,116]⟩,257,257,295,56,56,0,0⟩,
 ⟨⟨#[112,105,112,101]⟩,22,22,42,-1,-1,0,0⟩,
 ⟨⟨#[112,105,112,101,50]⟩,293,293,331,59,59,0,0⟩,
 ⟨⟨#[112,111,108,108]⟩,7,7,168,-1,-1,0,0⟩,
 ⟨⟨#[112,114,101,97,100,54,52]⟩,17,17,180,67,67,0,0⟩,
 ⟨⟨#[112,114,108,105,109,105,116,54,52]⟩,302,302,340,261,261,0,0⟩,
 ⟨⟨#[112,116,114,97,99,101]⟩,101,521,26,117,117,0,0⟩,
 ⟨⟨#[112,119,114,105,116,101,54,52]⟩,18,18,181,68,68,0,0⟩,
 ⟨⟨#[114,101,97,100]⟩,0,0,3,63,63,0,0⟩,
 ⟨⟨#[114,101,97,100,118]⟩,19,515,145,65,65,0,0⟩,
 ⟨⟨#[114,101,99,118]⟩,-1,-1,-1,-1,-1,1,10⟩,
 ⟨⟨#[114,101,99,118,102,114,111,109]⟩,45,517,371,207,207,1,12⟩,
 ⟨⟨#[114,101,99,118,109,115,103]⟩,47,519,372,212,212,1,17⟩,
 ⟨⟨#[114,101,110,97,109,101]⟩,82,82,38,-1,-1,0,0⟩,
 ⟨⟨#[114,105,115,99,118,95,102,108,117,115,104,95,105,99,97,99,104,101]⟩,-1,-1,-1,-1,259,0,0⟩,
 ⟨⟨#[114,116,95,115,105,103,97,99,116,105,111,110]⟩,13,512,174,134,134,0,0⟩,
 ⟨⟨#[114,116,95,115,105,103,114,101,116,117,114,110]⟩,15,513,173,139,139,0,0⟩,
 ⟨⟨#[115,101,99,99,111,109,112]⟩,317,317,354,277,277,0,0⟩,
 ⟨⟨#[115,101,108,101,99,116]⟩,23,23,82,-1,-1,0,0⟩,
 ⟨⟨#[115,101,109,99,116,108]⟩,66,66,394,191,191,2,3⟩,
 ⟨⟨#[115,101,109,103,101,116]⟩,64,64,393,190,190,2,2⟩,
 ⟨⟨#[115,101,109,111,112]⟩,65,65,-1,193,193,2,1⟩,
 ⟨⟨#[115,101,110,100]⟩,-1,-1,-1,-1,-1,1,9⟩,
 ⟨⟨#[115,101,110,100,109,115,103]⟩,46,518,370,211,211,1,16⟩,
 ⟨⟨#[115,101,110,100,116,111]⟩,44,44,369,206,206,1,11⟩,
 ⟨⟨#[115,101,116,115,111,99,107,111,112,116]⟩,54,541,366,208,208,1,14⟩,
 ⟨⟨#[115,104,109,97,116]⟩,30,30,397,196,196,2,21⟩,
 ⟨⟨#[115,104,109,99,116,108]⟩,31,31,396,195,195,2,24⟩,
 ⟨⟨#[115,104,109,100,116]⟩,67,67,398,197,197,2,22⟩,
 ⟨⟨#[115,104,109,103,101,116]⟩,29,29,395,194,194,2,23⟩,
 ⟨⟨#[115,104,117,116,100,111,119,110]⟩,48,48,373,210,210,1,13⟩,
 ⟨⟨#[115,111,99,107,101,116]⟩,41,41,359,198,198,1,1⟩,
 ⟨⟨#[115,111,99,107,101,116,112,97,105,114]⟩,53,53,360,199,199,1,8⟩,
 ⟨⟨#[115,116,97,116]⟩,4,4,106,-1,-1,0,0⟩,
 ⟨⟨#[116,105,109,101]⟩,201,201,13,-1,-1,0,0⟩,
 ⟨⟨#[117,110,97,109,101]⟩,63,63,122,160,160,0,0⟩,
 ⟨⟨#[117,110,108,105,110,107]⟩,87,87,10,-1,-1,0,0⟩,
 ⟨⟨#[118,102,111,114,107]⟩,58,58,190,-1,-1,0,0⟩,
 ⟨⟨#[119,97,105,116,112,105,100]⟩,-1,-1,7,-1,-1,0,0⟩,
 ⟨⟨#[119,114,105,116,101]⟩,1,1,4,64,64,0,0⟩,
 ⟨⟨#[119,114,105,116,101,118]⟩,20,516,146,66,66,0,0⟩]
theorem JsI:Jcj Tryz.prog 49 53 [(0,Js ⟨⟨#[108,115,101,101,107]⟩,8,8,19,62,62,0,0⟩),(1,Js ⟨⟨#[109,107,100,105,114]⟩,83,83,39,-1,-1,0,0⟩),(2,Js ⟨⟨#[109,109,97,112]⟩,9,9,-1,222,222,0,0⟩),(3,Js ⟨⟨#[109,109,97,112,50]⟩,-1,-1,192,-1,-1,0,0⟩),(4,Js ⟨⟨#[109,112,114,111,116,101,99,116]⟩,10,10,125,226,226,0,0⟩),(5,Js ⟨⟨#[109,115,103,99,116,108]⟩,71,71,402,187,187,2,14⟩),(6,Js ⟨⟨#[109,115,103,103,101,116]⟩,68,68,399,186,186,2,13⟩),(7,Js ⟨⟨#[109,115,103,114,99,118]⟩,70,70,401,188,188,2,12⟩),(8,Js ⟨⟨#[109,115,103,115,110,100]⟩,69,69,400,189,189,2,11⟩),(9,Js ⟨⟨#[109,117,110,109,97,112]⟩,11,11,91,215,215,0,0⟩),(10,Js ⟨⟨#[110,97,110,111,115,108,101,101,112]⟩,35,35,162,101,101,0,0⟩),(11,Js ⟨⟨#[111,112,101,110]⟩,2,2,5,-1,-1,0,0⟩),(12,Js ⟨⟨#[111,112,101,110,97,116]⟩,257,257,295,56,56,0,0⟩),(13,Js ⟨⟨#[112,105,112,101]⟩,22,22,42,-1,-1,0,0⟩),(14,Js ⟨⟨#[112,105,112,101,50]⟩,293,293,331,59,59,0,0⟩),(15,Js ⟨⟨#[112,111,108,108]⟩,7,7,168,-1,-1,0,0⟩),(16,Js ⟨⟨#[112,114,101,97,100,54,52]⟩,17,17,180,67,67,0,0⟩),(17,Js ⟨⟨#[112,114,108,105,109,105,116,54,52]⟩,302,302,340,261,261,0,0⟩),(18,Js ⟨⟨#[112,116,114,97,99,101]⟩,101,521,26,117,117,0,0⟩),(19,Js ⟨⟨#[112,119,114,105,116,101,54,52]⟩,18,18,181,68,68,0,0⟩),(20,Js ⟨⟨#[114,101,97,100]⟩,0,0,3,63,63,0,0⟩),(21,Js ⟨⟨#[114,101,97,100,118]⟩,19,515,145,65,65,0,0⟩),(22,Js ⟨⟨#[114,101,99,118]⟩,-1,-1,-1,-1,-1,1,10⟩),(23,Js ⟨⟨#[114,101,99,118,102,114,111,109]⟩,45,517,371,207,207,1,12⟩),(24,Js ⟨⟨#[114,101,99,118,109,115,103]⟩,47,519,372,212,212,1,17⟩),(25,Js ⟨⟨#[114,101,110,97,109,101]⟩,82,82,38,-1,-1,0,0⟩),(26,Js ⟨⟨#[114,105,115,99,118,95,102,108,117,115,104,95,105,99,97,99,104,101]⟩,-1,-1,-1,-1,259,0,0⟩),(27,Js ⟨⟨#[114,116,95,115,105,103,97,99,116,105,111,110]⟩,13,512,174,134,134,0,0⟩),(28,Js ⟨⟨#[114,116,95,115,105,103,114,101,116,117,114,110]⟩,15,513,173,139,139,0,0⟩),(29,Js ⟨⟨#[115,101,99,99,111,109,112]⟩,317,317,354,277,277,0,0⟩),(30,Js ⟨⟨#[115,101,108,101,99,116]⟩,23,23,82,-1,-1,0,0⟩),(31,Js ⟨⟨#[115,101,109,99,116,108]⟩,66,66,394,191,191,2,3⟩),(32,Js ⟨⟨#[115,101,109,103,101,116]⟩,64,64,393,190,190,2,2⟩),(33,Js ⟨⟨#[115,101,109,111,112]⟩,65,65,-1,193,193,2,1⟩),(34,Js ⟨⟨#[115,101,110,100]⟩,-1,-1,-1,-1,-1,1,9⟩),(35,Js ⟨⟨#[115,101,110,100,109,115,103]⟩,46,518,370,211,211,1,16⟩),(36,Js ⟨⟨#[115,101,110,100,116,111]⟩,44,44,369,206,206,1,11⟩),(37,Js ⟨⟨#[115,101,116,115,111,99,107,111,112,116]⟩,54,541,366,208,208,1,14⟩),(38,Js ⟨⟨#[115,104,109,97,116]⟩,30,30,397,196,196,2,21⟩),(39,Js ⟨⟨#[115,104,109,99,116,108]⟩,31,31,396,195,195,2,24⟩),(40,Js ⟨⟨#[115,104,109,100,116]⟩,67,67,398,197,197,2,22⟩),(41,Js ⟨⟨#[115,104,109,103,101,116]⟩,29,29,395,194,194,2,23⟩),(42,Js ⟨⟨#[115,104,117,116,100,111,119,110]⟩,48,48,373,210,210,1,13⟩),(43,Js ⟨⟨#[115,111,99,107,101,116]⟩,41,41,359,198,198,1,1⟩),(44,Js ⟨⟨#[115,111,99,107,101,116,112,97,105,114]⟩,53,53,360,199,199,1,8⟩),(45,Js ⟨⟨#[115,116,97,116]⟩,4,4,106,-1,-1,0,0⟩),(46,Js ⟨⟨#[116,105,109,101]⟩,201,201,13,-1,-1,0,0⟩),(47,Js ⟨⟨#[117,110,97,109,101]⟩,63,63,122,160,160,0,0⟩),(48,Js ⟨⟨#[117,110,108,105,110,107]⟩,87,87,10,-1,-1,0,0⟩),(49,Js ⟨⟨#[118,102,111,114,107]⟩,58,58,190,-1,-1,0,0⟩),(50,Js ⟨⟨#[119,97,105,116,112,105,100]⟩,-1,-1,7,-1,-1,0,0⟩),(51,Js ⟨⟨#[119,114,105,116,101]⟩,1,1,4,64,64,0,0⟩),(52,Js ⟨⟨#[119,114,105,116,101,118]⟩,20,516,146,66,66,0,0⟩)]=some (113, [Jh ⟨#[108,115,101,101,107]⟩,int (8),int (8),int (19),int (62),int (62),int 0,int 0,Jh ⟨#[109,107,100,105,114]⟩,int (83),int (83),int (39),int (-1),int (-1),int 0,int 0,Jh ⟨#[109,109,97,112]⟩,int (9),int (9),int (-1),int (222),int (222),int 0,int 0,Jh ⟨#[109,109,97,112,50]⟩,int (-1),int (-1),int (192),int (-1),int (-1),int 0,int 0,Jh ⟨#[109,112,114,111,116,101,99,116]⟩,int (10),int (10),int (125),int (226),int (226),int 0,int 0,Jh ⟨#[109,115,103,99,116,108]⟩,int (71),int (71),int (402),int (187),int (187),int 2,int 14,Jh ⟨#[109,115,103,103,101,116]⟩,int (68),int (68),int (399),int (186),int (186),int 2,int 13,Jh ⟨#[109,115,103,114,99,118]⟩,int (70),int (70),int (401),int (188),int (188),int 2,int 12,Jh ⟨#[109,115,103,115,110,100]⟩,int (69),int (69),int (400),int (189),int (189),int 2,int 11,Jh ⟨#[109,117,110,109,97,112]⟩,int (11),int (11),int (91),int (215),int (215),int 0,int 0,Jh ⟨#[110,97,110,111,115,108,101,101,112]⟩,int (35),int (35),int (162),int (101),int (101),int 0,int 0,Jh ⟨#[111,112,101,110]⟩,int (2),int (2),int (5),int (-1),int (-1),int 0,int 0,Jh ⟨#[111,112,101,110,97,116]⟩,int (257),int (257),int (295),int (56),int (56),int 0,int 0,Jh ⟨#[112,105,112,101]⟩,int (22),int (22),int (42),int (-1),int (-1),int 0,int 0,Jh ⟨#[112,105,112,101,50]⟩,int (293),int (293),int (331),int (59),int (59),int 0,int 0,Jh ⟨#[112,111,108,108]⟩,int (7),int (7),int (168),int (-1),int (-1),int 0,int 0,Jh ⟨#[112,114,101,97,100,54,52]⟩,int (17),int (17),int (180),int (67),int (67),int 0,int 0,Jh ⟨#[112,114,108,105,109,105,116,54,52]⟩,int (302),int (302),int (340),int (261),int (261),int 0,int 0,Jh ⟨#[112,116,114,97,99,101]⟩,int (101),int (521),int (26),int (117),int (117),int 0,int 0,Jh ⟨#[112,119,114,105,116,101,54,52]⟩,int (18),int (18),int (181),int (68),int (68),int 0,int 0,Jh ⟨#[114,101,97,100]⟩,int (0),int (0),int (3),int (63),int (63),int 0,int 0,Jh ⟨#[114,101,97,100,118]⟩,int (19),int (515),int (145),int (65),int (65),int 0,int 0,Jh ⟨#[114,101,99,118]⟩,int (-1),int (-1),int (-1),int (-1),int (-1),int 1,int 10,Jh ⟨#[114,101,99,118,102,114,111,109]⟩,int (45),int (517),int (371),int (207),int (207),int 1,int 12,Jh ⟨#[114,101,99,118,109,115,103]⟩,int (47),int (519),int (372),int (212),int (212),int 1,int 17,Jh ⟨#[114,101,110,97,109,101]⟩,int (82),int (82),int (38),int (-1),int (-1),int 0,int 0,Jh ⟨#[114,105,115,99,118,95,102,108,117,115,104,95,105,99,97,99,104,101]⟩,int (-1),int (-1),int (-1),int (-1),int (259),int 0,int 0,Jh ⟨#[114,116,95,115,105,103,97,99,116,105,111,110]⟩,int (13),int (512),int (174),int (134),int (134),int 0,int 0,Jh ⟨#[114,116,95,115,105,103,114,101,116,117,114,110]⟩,int (15),int (513),int (173),int (139),int (139),int 0,int 0,Jh ⟨#[115,101,99,99,111,109,112]⟩,int (317),int (317),int (354),int (277),int (277),int 0,int 0,Jh ⟨#[115,101,108,101,99,116]⟩,int (23),int (23),int (82),int (-1),int (-1),int 0,int 0,Jh ⟨#[115,101,109,99,116,108]⟩,int (66),int (66),int (394),int (191),int (191),int 2,int 3,Jh ⟨#[115,101,109,103,101,116]⟩,int (64),int (64),int (393),int (190),int (190),int 2,int 2,Jh ⟨#[115,101,109,111,112]⟩,int (65),int (65),int (-1),int (193),int (193),int 2,int 1,Jh ⟨#[115,101,110,100]⟩,int (-1),int (-1),int (-1),int (-1),int (-1),int 1,int 9,Jh ⟨#[115,101,110,100,109,115,103]⟩,int (46),int (518),int (370),int (211),int (211),int 1,int 16,Jh ⟨#[115,101,110,100,116,111]⟩,int (44),int (44),int (369),int (206),int (206),int 1,int 11,Jh ⟨#[115,101,116,115,111,99,107,111,112,116]⟩,int (54),int (541),int (366),int (208),int (208),int 1,int 14,Jh ⟨#[115,104,109,97,116]⟩,int (30),int (30),int (397),int (196),int (196),int 2,int 21,Jh ⟨#[115,104,109,99,116,108]⟩,int (31),int (31),int (396),int (195),int (195),int 2,int 24,Jh ⟨#[115,104,109,100,116]⟩,int (67),int (67),int (398),int (197),int (197),int 2,int 22,Jh ⟨#[115,104,109,103,101,116]⟩,int (29),int (29),int (395),int (194),int (194),int 2,int 23,Jh ⟨#[115,104,117,116,100,111,119,110]⟩,int (48),int (48),int (373),int (210),int (210),int 1,int 13,Jh ⟨#[115,111,99,107,101,116]⟩,int (41),int (41),int (359),int (198),int (198),int 1,int 1,Jh ⟨#[115,111,99,107,101,116,112,97,105,114]⟩,int (53),int (53),int (360),int (199),int (199),int 1,int 8,Jh ⟨#[115,116,97,116]⟩,int (4),int (4),int (106),int (-1),int (-1),int 0,int 0,Jh ⟨#[116,105,109,101]⟩,int (201),int (201),int (13),int (-1),int (-1),int 0,int 0,Jh ⟨#[117,110,97,109,101]⟩,int (63),int (63),int (122),int (160),int (160),int 0,int 0,Jh ⟨#[117,110,108,105,110,107]⟩,int (87),int (87),int (10),int (-1),int (-1),int 0,int 0,Jh ⟨#[118,102,111,114,107]⟩,int (58),int (58),int (190),int (-1),int (-1),int 0,int 0,Jh ⟨#[119,97,105,116,112,105,100]⟩,int (-1),int (-1),int (7),int (-1),int (-1),int 0,int 0,Jh ⟨#[119,114,105,116,101]⟩,int (1),int (1),int (4),int (64),int (64),int 0,int 0,Jh ⟨#[119,114,105,116,101,118]⟩,int (20),int (516),int (146),int (66),int (66),int 0,int 0]):=by kernel_rfl
set_option maxHeartbeats 4000000 in
theorem JuQ:Tells Tryz.prog 148 [] (JJ Jk6):=by
 refine Jf Tryz.func148 rfl rfl fun nx=> ?_
 (refine JW ?_;refine Jae ?_;refine JW ?_)
 refine JU (fun n=> match n with | 0=> true | _=> false) 107 ?_
 refine stp ?_
 refine Jh4 rfl JsI ?_
 refine stp ?_
 refine Jd rfl (AVle.os_sl.trans (AVle.sl_fun fun k hk=> ?_))
 match k,hk with
 | 0,_=> rfl
 | 1,_=> rfl
 | 2,_=> rfl
 | 3,_=> rfl
 | 4,_=> rfl
 | 5,_=> rfl
 | 6,_=> rfl
 | 7,_=> rfl
 | 8,_=> rfl
 | 9,_=> rfl
 | 10,_=> rfl
 | 11,_=> rfl
 | 12,_=> rfl
 | 13,_=> rfl
 | 14,_=> rfl
 | 15,_=> rfl
 | 16,_=> rfl
 | 17,_=> rfl
 | 18,_=> rfl
 | 19,_=> rfl
 | 20,_=> rfl
 | 21,_=> rfl
 | 22,_=> rfl
 | 23,_=> rfl
 | 24,_=> rfl
 | 25,_=> rfl
 | 26,_=> rfl
 | 27,_=> rfl
 | 28,_=> rfl
 | 29,_=> rfl
 | 30,_=> rfl
 | 31,_=> rfl
 | 32,_=> rfl
 | 33,_=> rfl
 | 34,_=> rfl
 | 35,_=> rfl
 | 36,_=> rfl
 | 37,_=> rfl
 | 38,_=> rfl
 | 39,_=> rfl
 | 40,_=> rfl
 | 41,_=> rfl
 | 42,_=> rfl
 | 43,_=> rfl
 | 44,_=> rfl
 | 45,_=> rfl
 | 46,_=> rfl
 | 47,_=> rfl
 | 48,_=> rfl
 | 49,_=> rfl
 | 50,_=> rfl
 | 51,_=> rfl
 | 52,_=> rfl
 | k+53,hk=> exact absurd hk Om
end Go.Proofs.W

namespace Go.Proofs.W
open Go.Vl
set_option maxRecDepth 100000
def builtL:List TRow:=Jir++Jk6
theorem JsJ (l:List TRow):NoId (JJ l):=NoId.sl fun i _ c hc=> by
 have hc:c∈Ja1 (l.getD i Jg):=hc
 unfold Ja1 at hc
 simp only [List.mem_cons,List.not_mem_nil,or_false] at hc
 rcases hc with rfl | rfl | rfl | rfl | rfl | rfl | rfl | rfl <;> exact NoId.v _
theorem Jpt:Tells Tryz.prog 79 [] (JJ builtL):=by
 have hc:=Jqk [Jir,Jk6] Dc Dc none
 have e: [Jir,Jk6].flatten=builtL:=by unfold builtL;simp
 rw [e] at hc
 have he:=JsH
 have hl:=JuQ
 generalize Jir=A at he hc
 generalize Jk6=B at hl hc
 generalize builtL=C at hc
 refine Jf Tryz.func79 rfl rfl fun nx=> ?_
 refine stp ?_
 refine Je rfl rfl he trivial fun nx2=> ?_
 refine stp ?_
 refine Je rfl rfl hl trivial fun nx3=> ?_
 refine stp ?_
 refine Je rfl rfl hc ⟨AVle.os_fun fun k hk=> ?_,trivial⟩ fun nx4=> ?_
 ·match k,hk with
  | 0,_=> rfl
  | 1,_=> rfl
 refine stp ?_
 exact Jd rfl Rf
end Go.Proofs.W

namespace Go.Proofs.W
open Go.Vl
set_option maxRecDepth 100000
end Go.Proofs.W

namespace Go.Proofs.W
open Go.Vl
set_option maxRecDepth 100000
theorem Jyu {l:List TRow} (h:JjL l=true):l.length≤40∧∀r∈l,r.name.size≤60:=by
 unfold JjL at h
 simp only [Bool.and_eq_true,decide_eq_true_eq,Bool.not_eq_true',List.any_eq_false] at h
 exact ⟨h.1,fun r hr=> by have:=h.2 r hr;omega⟩
end Go.Proofs.W

namespace Go.Proofs.W
open Go.Vl
set_option maxRecDepth 100000
end Go.Proofs.W

namespace Go.Proofs.W
open Go.Vl
set_option maxRecDepth 100000
set_option maxHeartbeats 2000000 in
theorem Jnt (c:Cnd) (a:Nat) (hr:JK c=true) (ho:c.ok) (ha:a < 18446744073709551616):Tells Tryz.prog 141 [JG c,u64 a] (Jb (JaC c a)):=by
 obtain ⟨_,_,h1,h7,_⟩:=J8.1 hr
 obtain ⟨arg,op,mask,value⟩:=c
 dsimp only at h1 h7
 have ho1:mask < 18446744073709551616:=ho.1
 unfold JaC
 dsimp only
 rcases (by omega:op=1∨op=2∨op=3∨op=4∨op=5∨op=6∨op=7) with rfl | rfl | rfl | rfl | rfl | rfl | rfl
 all_goals
  refine Jf Tryz.func141 rfl rfl fun nx=> ?_
  refine stp ?_
  intro c h;cases c
 all_goals
  try rw [Jlr ha ho1] at h
  refine stp ?_
  refine Jd rfl (JB ?_)
  (try simp only [JaX, JaY, JaZ, Ja0, JaN, JaO] at *)
  first | omega | (simp;omega)
def JgJ (a:Int) (x:Nat):Nat:=if a=2 then x % 4294967296 else x
def hR (a:Int) (x:Nat→Nat) (c:Cnd):Bool:=JaC c (JgJ a (x c.arg.toNat))
def Je5 (p:Pol) (nm:ByteArray) (a:Int) (x:Nat→Nat):A2:=match p.rules.find? (fun r=> kS r.name nm&& r.conds.all (hR a x)) with
 | some r=> r.act
 | none=> p.dflt
end Go.Proofs.W

namespace Go.Proofs.W
open Go.Vl
set_option maxRecDepth 100000
def Jc5 (k n:Int) (x32:Bool) (rs:List Rul):List AV:= [int k,int n,Jb x32,Ji rs]
def JfG (x:Nat→Nat):List AV:= [u64 (x 0),u64 (x 1),u64 (x 2),u64 (x 3),u64 (x 4),u64 (x 5)]
theorem JuR {p:Cnd→Bool} {L:List Cnd} {i:Nat} (h:i < L.length):(L.take (i+1)).all p=((L.take i).all p&& p (L.getD i cnd0)):=by
 rw [Jb0 cnd0 h,List.all_append];simp
theorem JxA {a:Int} {x:Nat} (h:x < 18446744073709551616):JgJ a x < 18446744073709551616:=by unfold JgJ;split <;> omega
theorem JuS {p:Cnd→Bool} {L:List Cnd} {i:Nat} (h:(L.take i).all p=false):L.all p=false:=by
 rw [List.all_eq_false] at h⊢
 obtain ⟨c,hc,h⟩:=h
 exact ⟨c,List.mem_of_mem_take hc,h⟩
set_option maxHeartbeats 16000000 in
theorem JlV (p:Pol) (nm:ByteArray) (a:Int) (x:Nat→Nat) (hx:∀i,x i < 18446744073709551616) (hp:Jsd p) (hrt:∀r∈p.rules,∀c∈r.conds,JK c=true):Tells Tryz.prog 75 [JbR p,Jh nm,int a,JrU x] (Jlt (Je5 p nm a x)):=by
 obtain ⟨⟨k,n⟩,x32,rs⟩:=p
 obtain ⟨hl,hc⟩:=hp
 dsimp only at hl hc hrt
 refine Jf Tryz.func75 rfl rfl fun nx=> ?_
 refine stp ?_
 refine Jx (fun y:Nat×Nat=> mk 60 [(1,Jh nm),(2,int a),(4, .bp (0,nx) 0),(7, .bp (1,nx+1) 0),(8, .bp (2,nx+2) 0),(9,int y.1)] ⟨[((2,nx+2), .c [int 0,int 0]),((1,nx+1), .c (JfG x)),((0,nx), .c (Jc5 k n x32 rs))], [],y.2,3⟩) (fun y=> y.1≤rs.length∧∀j,j < y.1→(kS (rs.getD j Jl).name nm&& (rs.getD j Jl).conds.all (hR a x))=false) (fun y=> rs.length - y.1) ?_ ?_
 ·exact ⟨(0,nx+3),⟨Nat.zero_le _,fun j h=> absurd h (Nat.not_lt_zero _)⟩,Et (pm:= []) (bx:= [((2,nx+2), .c [int 0,int 0]),((1,nx+1), .c (JfG x)),((0,nx), .c (Jc5 k n x32 rs))]) rfl rfl Bf trivial ⟨Rf,Rf,Rf,Rf,Rf,Rf,trivial⟩⟩
 ·rintro ⟨i,nx1⟩ ⟨h1,h2⟩
  dsimp only at h1 h2
  refine stp ?_
  intro c g1;cases c
  ·have g1:=Jt g1
   try dsimp only at g1
   have hi:i=rs.length:=by omega
   subst hi
   have hd:Je5 ⟨(k,n),x32,rs⟩ nm a x=(k,n):=by
    unfold Je5
    rw [List.find?_eq_none.2 fun r hr=> ?_]
    obtain ⟨j,hj,rfl⟩:=List.mem_iff_getElem.1 hr
    have:=h2 j hj
    rw [show rs.getD j Jl=rs[j] by simp [List.getD,hj]] at this
    rw [this];decide
   refine stp ?_
   exact Jj rfl ⟨rfl,trivial⟩ (AVle.of_eq (by rw [hd];rfl))
  ·have g1:=Ju g1
   try dsimp only at g1
   have hi:i < rs.length:=by omega
   have hmem:rs.getD i Jl∈rs:=by simp [List.getD,hi]
   have hcr:=hc _ hmem
   have hrr:=hrt _ hmem
   generalize hr:rs.getD i Jl=r at hcr hrr
   refine stp ?_
   refine ⟨Bd,Jr (b:= .rp [Jh r.name,int r.act.1,int r.act.2,Jam r.conds]) (by rw [← hr];rfl) ?_⟩
   refine stp ?_
   intro c hc0
   have hc2:c=kS r.name nm:=hc0
   clear hc0
   refine stp ?_
   refine Jx (fun y:Nat×Bool×Nat=> mk 60 [(1,Jh nm),(2,int a),(4, .bp (0,nx) 0),(7, .bp (1,nx+1) 0),(8, .bp (2,nx+2) 0),(9,int i),(10, .bp (3,nx1) 0),(11,Jb y.2.1),(12,int y.1)] ⟨[((3,nx1), .c [Jh r.name,int r.act.1,int r.act.2,Jam r.conds]),((2,nx+2), .c [int 0,int 0]),((1,nx+1), .c (JfG x)),((0,nx), .c (Jc5 k n x32 rs))], [],y.2.2,4⟩) (fun y=> y.1≤r.conds.length∧y.2.1=(c&& (r.conds.take y.1).all (hR a x))) (fun y=> r.conds.length - y.1) ?_ ?_
   ·exact ⟨(0,c,nx1+1),⟨Nat.zero_le _,by simp⟩,Et (pm:= []) (bx:= [((3,nx1), .c [Jh r.name,int r.act.1,int r.act.2,Jam r.conds]),((2,nx+2), .c [int 0,int 0]),((1,nx+1), .c (JfG x)),((0,nx), .c (Jc5 k n x32 rs))]) rfl rfl Bf trivial ⟨Rf,Rf,Rf,Rf,Rf,Rf,Rf,Rf,Rf,trivial⟩⟩
   ·rintro ⟨j,v,nx2⟩ ⟨k1,k2⟩
    dsimp only at k1 k2
    cases v with
    | false=>
      have hno:(kS r.name nm&& r.conds.all (hR a x))=false:=by
       rw [← hc2]
       cases c with
       | false=> rfl
       | true=> rw [Bool.true_and] at k2⊢;exact JuS k2.symm
      refine stp ?_
      intro c g2;cases c
      ·refine stp ?_
       exact back (i+1,nx2) ⟨hi,fun j hj=> by dsimp only at hj;rcases Nat.lt_or_ge j i with q | q;exact h2 j q;rw [show j=i by omega,hr];exact hno⟩ Dm (Jm (pm:= []) (bx:= [((2,nx+2), .c [int 0,int 0]),((1,nx+1), .c (JfG x)),((0,nx), .c (Jc5 k n x32 rs))]) _ _ rfl rfl (.cons _ Sf) Sf Bf trivial ⟨Rf,Rf,Rf,Rf,Rf,Lw,trivial⟩)
      ·refine stp ?_
       exact back (i+1,nx2) ⟨hi,fun j hj=> by dsimp only at hj;rcases Nat.lt_or_ge j i with q | q;exact h2 j q;rw [show j=i by omega,hr];exact hno⟩ Dm (Jm (pm:= []) (bx:= [((2,nx+2), .c [int 0,int 0]),((1,nx+1), .c (JfG x)),((0,nx), .c (Jc5 k n x32 rs))]) _ _ rfl rfl (.cons _ Sf) Sf Bf trivial ⟨Rf,Rf,Rf,Rf,Rf,Lw,trivial⟩)
    | true=>
      refine stp ?_
      intro c g2;cases c
      ·have g2:=Jt g2
       try dsimp only at g2
       have hj:j=r.conds.length:=by omega
       have hd:Je5 ⟨(k,n),x32,rs⟩ nm a x=r.act:=by
        rw [hj,List.take_length,hc2] at k2
        unfold Je5
        rw [JkB hi h2 (by rw [hr];exact k2.symm),hr]
       refine stp ?_
       exact Jj rfl ⟨rfl,trivial⟩ (AVle.of_eq (by rw [hd];rfl))
      ·have g2:=Ju g2
       try dsimp only at g2
       have hj:j < r.conds.length:=by omega
       have hmc:r.conds.getD j cnd0∈r.conds:=by simp [List.getD,hj]
       have hok:=hcr.2 _ hmc
       have hri:=hrr _ hmc
       have hnext:=JuR (p:=hR a x) hj
       generalize hcd:r.conds.getD j cnd0=cd at hok hri hnext
       obtain ⟨q1,q2,_⟩:=J8.1 hri
       have hh:=Jnt cd (JgJ a (x cd.arg.toNat)) hri hok (JxA (hx _))
       have ha8:=Jnn a (x cd.arg.toNat) (hx _)
       have hvn:(c&& (r.conds.take (j+1)).all (hR a x))=hR a x cd:=by rw [hnext,← Bool.and_assoc,← k2];rfl
       unfold hR at hvn
       generalize JaC cd (JgJ a (x cd.arg.toNat))=hv at hh hvn
       obtain ⟨arg,op,mask,value⟩:=cd
       dsimp only at q1 q2 hh ha8
       refine stp ?_
       obtain rfl | rfl | rfl | rfl | rfl | rfl:arg=0∨arg=1∨arg=2∨arg=3∨arg=4∨arg=5:=by omega
       ·refine J1 16 _ (fun _=> false) (fun i=> match i with | 14=> true | 15=> true | _=> false) [0,1,2,3,4,5,6,7,8,9,10,11,12,13,14,15] (by kernel_rfl) (by kernel_rfl) (HB.refl _) ?_
        refine stp ?_
        refine ⟨Bd,Jbb (b:= .rp [int 0,int op,u64 (mask:Nat),u64 (value:Nat)]) (congrArg (fun c:Cnd=> AV.rp (JG c).cells) hcd) ?_⟩
        refine stp ?_
        refine ⟨Bd,Jbb (b:= .rp [int 0,int op,u64 (mask:Nat),u64 (value:Nat)]) (congrArg (fun c:Cnd=> AV.rp (JG c).cells) hcd) ?_⟩
        refine stp ?_
        refine ⟨_,JD rfl rfl rfl ha8 ⟨Rf,Rf,trivial⟩ (NoId.v _), ?_⟩
        refine stp ?_
        refine ⟨_,JD rfl rfl rfl hh ⟨Rf,Rf,trivial⟩ (NoId.v _), ?_⟩
        refine stp ?_
        exact back (j+1,hv,nx2) ⟨hj,hvn.symm⟩ Dm (Et (pm:= []) (bx:= [((3,nx1), .c [Jh r.name,int r.act.1,int r.act.2,Jam r.conds]),((2,nx+2), .c [int 0,int 0]),((1,nx+1), .c (JfG x)),((0,nx), .c (Jc5 k n x32 rs))]) rfl rfl Bf trivial ⟨Rf,Rf,Rf,Rf,Rf,Rf,Rf,Rf,Lw,trivial⟩)
       ·refine J1 16 _ (fun _=> false) (fun i=> match i with | 14=> true | 15=> true | _=> false) [0,1,2,3,4,5,6,7,8,9,10,11,12,13,14,15] (by kernel_rfl) (by kernel_rfl) (HB.refl _) ?_
        refine stp ?_
        refine ⟨Bd,Jbb (b:= .rp [int 1,int op,u64 (mask:Nat),u64 (value:Nat)]) (congrArg (fun c:Cnd=> AV.rp (JG c).cells) hcd) ?_⟩
        refine stp ?_
        refine ⟨Bd,Jbb (b:= .rp [int 1,int op,u64 (mask:Nat),u64 (value:Nat)]) (congrArg (fun c:Cnd=> AV.rp (JG c).cells) hcd) ?_⟩
        refine stp ?_
        refine ⟨_,JD rfl rfl rfl ha8 ⟨Rf,Rf,trivial⟩ (NoId.v _), ?_⟩
        refine stp ?_
        refine ⟨_,JD rfl rfl rfl hh ⟨Rf,Rf,trivial⟩ (NoId.v _), ?_⟩
        refine stp ?_
        exact back (j+1,hv,nx2) ⟨hj,hvn.symm⟩ Dm (Et (pm:= []) (bx:= [((3,nx1), .c [Jh r.name,int r.act.1,int r.act.2,Jam r.conds]),((2,nx+2), .c [int 0,int 0]),((1,nx+1), .c (JfG x)),((0,nx), .c (Jc5 k n x32 rs))]) rfl rfl Bf trivial ⟨Rf,Rf,Rf,Rf,Rf,Rf,Rf,Rf,Lw,trivial⟩)
       ·refine J1 16 _ (fun _=> false) (fun i=> match i with | 14=> true | 15=> true | _=> false) [0,1,2,3,4,5,6,7,8,9,10,11,12,13,14,15] (by kernel_rfl) (by kernel_rfl) (HB.refl _) ?_
        refine stp ?_
        refine ⟨Bd,Jbb (b:= .rp [int 2,int op,u64 (mask:Nat),u64 (value:Nat)]) (congrArg (fun c:Cnd=> AV.rp (JG c).cells) hcd) ?_⟩
        refine stp ?_
        refine ⟨Bd,Jbb (b:= .rp [int 2,int op,u64 (mask:Nat),u64 (value:Nat)]) (congrArg (fun c:Cnd=> AV.rp (JG c).cells) hcd) ?_⟩
        refine stp ?_
        refine ⟨_,JD rfl rfl rfl ha8 ⟨Rf,Rf,trivial⟩ (NoId.v _), ?_⟩
        refine stp ?_
        refine ⟨_,JD rfl rfl rfl hh ⟨Rf,Rf,trivial⟩ (NoId.v _), ?_⟩
        refine stp ?_
        exact back (j+1,hv,nx2) ⟨hj,hvn.symm⟩ Dm (Et (pm:= []) (bx:= [((3,nx1), .c [Jh r.name,int r.act.1,int r.act.2,Jam r.conds]),((2,nx+2), .c [int 0,int 0]),((1,nx+1), .c (JfG x)),((0,nx), .c (Jc5 k n x32 rs))]) rfl rfl Bf trivial ⟨Rf,Rf,Rf,Rf,Rf,Rf,Rf,Rf,Lw,trivial⟩)
       ·refine J1 16 _ (fun _=> false) (fun i=> match i with | 14=> true | 15=> true | _=> false) [0,1,2,3,4,5,6,7,8,9,10,11,12,13,14,15] (by kernel_rfl) (by kernel_rfl) (HB.refl _) ?_
        refine stp ?_
        refine ⟨Bd,Jbb (b:= .rp [int 3,int op,u64 (mask:Nat),u64 (value:Nat)]) (congrArg (fun c:Cnd=> AV.rp (JG c).cells) hcd) ?_⟩
        refine stp ?_
        refine ⟨Bd,Jbb (b:= .rp [int 3,int op,u64 (mask:Nat),u64 (value:Nat)]) (congrArg (fun c:Cnd=> AV.rp (JG c).cells) hcd) ?_⟩
        refine stp ?_
        refine ⟨_,JD rfl rfl rfl ha8 ⟨Rf,Rf,trivial⟩ (NoId.v _), ?_⟩
        refine stp ?_
        refine ⟨_,JD rfl rfl rfl hh ⟨Rf,Rf,trivial⟩ (NoId.v _), ?_⟩
        refine stp ?_
        exact back (j+1,hv,nx2) ⟨hj,hvn.symm⟩ Dm (Et (pm:= []) (bx:= [((3,nx1), .c [Jh r.name,int r.act.1,int r.act.2,Jam r.conds]),((2,nx+2), .c [int 0,int 0]),((1,nx+1), .c (JfG x)),((0,nx), .c (Jc5 k n x32 rs))]) rfl rfl Bf trivial ⟨Rf,Rf,Rf,Rf,Rf,Rf,Rf,Rf,Lw,trivial⟩)
       ·refine J1 16 _ (fun _=> false) (fun i=> match i with | 14=> true | 15=> true | _=> false) [0,1,2,3,4,5,6,7,8,9,10,11,12,13,14,15] (by kernel_rfl) (by kernel_rfl) (HB.refl _) ?_
        refine stp ?_
        refine ⟨Bd,Jbb (b:= .rp [int 4,int op,u64 (mask:Nat),u64 (value:Nat)]) (congrArg (fun c:Cnd=> AV.rp (JG c).cells) hcd) ?_⟩
        refine stp ?_
        refine ⟨Bd,Jbb (b:= .rp [int 4,int op,u64 (mask:Nat),u64 (value:Nat)]) (congrArg (fun c:Cnd=> AV.rp (JG c).cells) hcd) ?_⟩
        refine stp ?_
        refine ⟨_,JD rfl rfl rfl ha8 ⟨Rf,Rf,trivial⟩ (NoId.v _), ?_⟩
        refine stp ?_
        refine ⟨_,JD rfl rfl rfl hh ⟨Rf,Rf,trivial⟩ (NoId.v _), ?_⟩
        refine stp ?_
        exact back (j+1,hv,nx2) ⟨hj,hvn.symm⟩ Dm (Et (pm:= []) (bx:= [((3,nx1), .c [Jh r.name,int r.act.1,int r.act.2,Jam r.conds]),((2,nx+2), .c [int 0,int 0]),((1,nx+1), .c (JfG x)),((0,nx), .c (Jc5 k n x32 rs))]) rfl rfl Bf trivial ⟨Rf,Rf,Rf,Rf,Rf,Rf,Rf,Rf,Lw,trivial⟩)
       ·refine J1 16 _ (fun _=> false) (fun i=> match i with | 14=> true | 15=> true | _=> false) [0,1,2,3,4,5,6,7,8,9,10,11,12,13,14,15] (by kernel_rfl) (by kernel_rfl) (HB.refl _) ?_
        refine stp ?_
        refine ⟨Bd,Jbb (b:= .rp [int 5,int op,u64 (mask:Nat),u64 (value:Nat)]) (congrArg (fun c:Cnd=> AV.rp (JG c).cells) hcd) ?_⟩
        refine stp ?_
        refine ⟨Bd,Jbb (b:= .rp [int 5,int op,u64 (mask:Nat),u64 (value:Nat)]) (congrArg (fun c:Cnd=> AV.rp (JG c).cells) hcd) ?_⟩
        refine stp ?_
        refine ⟨_,JD rfl rfl rfl ha8 ⟨Rf,Rf,trivial⟩ (NoId.v _), ?_⟩
        refine stp ?_
        refine ⟨_,JD rfl rfl rfl hh ⟨Rf,Rf,trivial⟩ (NoId.v _), ?_⟩
        refine stp ?_
        exact back (j+1,hv,nx2) ⟨hj,hvn.symm⟩ Dm (Et (pm:= []) (bx:= [((3,nx1), .c [Jh r.name,int r.act.1,int r.act.2,Jam r.conds]),((2,nx+2), .c [int 0,int 0]),((1,nx+1), .c (JfG x)),((0,nx), .c (Jc5 k n x32 rs))]) rfl rfl Bf trivial ⟨Rf,Rf,Rf,Rf,Rf,Rf,Rf,Rf,Lw,trivial⟩)
end Go.Proofs.W

namespace Go.Proofs.W
open Go.Vl
set_option maxRecDepth 100000
set_option maxHeartbeats 4000000 in
theorem Jnu (p:Pol) (nm:ByteArray) (hl:p.rules.length≤1000000):Tells Tryz.prog 74 [JbR p,Jh nm] (Jlt (Ja8 p nm)):=by
 obtain ⟨⟨k,n⟩,x32,rs⟩:=p
 dsimp only at hl
 refine Jf Tryz.func74 rfl rfl fun nx=> ?_
 refine stp ?_
 refine Jx (fun y:Nat×Nat=> mk 49 [(1,Jh nm),(2, .bp (0,nx) 0),(4, .bp (1,nx+1) 0),(5,int y.1)] ⟨[((1,nx+1), .c [int 0,int 0]),((0,nx), .c (Jc5 k n x32 rs))], [],y.2,2⟩) (fun y=> y.1≤rs.length∧∀j,j < y.1→kS (rs.getD j Jl).name nm=false) (fun y=> rs.length - y.1) ?_ ?_
 ·exact ⟨(0,nx+2),⟨Nat.zero_le _,fun j h=> absurd h (Nat.not_lt_zero _)⟩,Et (pm:= []) (bx:= [((1,nx+1), .c [int 0,int 0]),((0,nx), .c (Jc5 k n x32 rs))]) rfl rfl Bf trivial ⟨Rf,Rf,Rf,Rf,trivial⟩⟩
 ·rintro ⟨i,nx1⟩ ⟨h1,h2⟩
  dsimp only at h1 h2
  refine stp ?_
  intro c g1;cases c
  ·have g1:=Jt g1
   try dsimp only at g1
   have hi:i=rs.length:=by omega
   subst hi
   have hd:Ja8 ⟨(k,n),x32,rs⟩ nm=(k,n):=by
    unfold Ja8
    rw [List.find?_eq_none.2 fun r hr=> ?_]
    obtain ⟨j,hj,rfl⟩:=List.mem_iff_getElem.1 hr
    have:=h2 j hj
    rw [show rs.getD j Jl=rs[j] by simp [List.getD,hj]] at this
    rw [this];decide
   refine stp ?_
   exact Jj rfl ⟨rfl,trivial⟩ (AVle.of_eq (by rw [hd];rfl))
  ·have g1:=Ju g1
   try dsimp only at g1
   have hi:i < rs.length:=by omega
   generalize hr:rs.getD i Jl=r
   have hcell:AV.rp (Jap (rs.getD i Jl)).cells= .rp [Jh r.name,int r.act.1,int r.act.2,Jam r.conds]:=by rw [hr];rfl
   refine stp ?_
   refine ⟨Bd,Jr (b:= .rp [Jh r.name,int r.act.1,int r.act.2,Jam r.conds]) hcell ?_⟩
   refine stp ?_
   intro c hc
   have hc2:c=kS r.name nm:=hc
   cases c
   ·refine stp ?_
    refine ⟨Bd,Jr (b:= .rp [Jh r.name,int r.act.1,int r.act.2,Jam r.conds]) hcell ?_⟩
    refine stp ?_
    intro c hc3
    obtain rfl:c=false:=hc3.trans hc2.symm
    refine stp ?_
    exact back (i+1,nx1) ⟨hi,fun j hj=> by dsimp only at hj;rcases Nat.lt_or_ge j i with q | q;exact h2 j q;rw [show j=i by omega,hr];exact hc2.symm⟩ Dm (Et (pm:= []) (bx:= [((1,nx+1), .c [int 0,int 0]),((0,nx), .c (Jc5 k n x32 rs))]) rfl rfl Bf trivial ⟨Rf,Rf,Rf,Lw,trivial⟩)
   ·have hfnd:rs.find? (fun r=> kS r.name nm)=some r:=by
     have:=JkB (q:=fun r=> kS r.name nm) hi h2 (by rw [hr];exact hc2.symm)
     rw [hr] at this
     exact this
    refine stp ?_
    refine ⟨Bd,Jr (b:= .rp [Jh r.name,int r.act.1,int r.act.2,Jam r.conds]) hcell ?_⟩
    refine stp ?_
    intro c hc3
    have hc4:c=decide (r.conds.length=0):=hc3.trans (by rw [Bool.eq_iff_iff];simp)
    cases c
    ·have hd:Ja8 ⟨(k,n),x32,rs⟩ nm=(k,n):=by unfold Ja8;rw [hfnd];exact if_neg (of_decide_eq_false hc4.symm)
     refine stp ?_
     refine ⟨Bd,Jr (b:= .rp [Jh r.name,int r.act.1,int r.act.2,Jam r.conds]) hcell ?_⟩
     refine stp ?_
     intro c hc5
     obtain rfl:c=true:=hc5.trans hc2.symm
     refine stp ?_
     exact Jj rfl ⟨rfl,trivial⟩ (AVle.of_eq (by rw [hd];rfl))
    ·have hd:Ja8 ⟨(k,n),x32,rs⟩ nm=r.act:=by unfold Ja8;rw [hfnd];exact if_pos (of_decide_eq_true hc4.symm)
     refine stp ?_
     refine ⟨Bd,Jr (b:= .rp [Jh r.name,int r.act.1,int r.act.2,Jam r.conds]) hcell ?_⟩
     refine stp ?_
     exact Jj rfl ⟨rfl,trivial⟩ (AVle.of_eq (by rw [hd];rfl))
end Go.Proofs.W

namespace Go.Proofs.W
open Go.Vl
set_option maxRecDepth 100000
theorem JjW (a:A2) (h:JaI a.1 a.2=true):Tells Tryz.prog 30 [Jlt a] (int (Jp a:Nat)):=by
 obtain ⟨k,n⟩:=a
 obtain ⟨k',n',rfl,rfl,h1,h2⟩:=JgQ h
 have:=Jr8 k' n' h1 h2
 unfold Jp
 dsimp only
 rw [show ((k'+1:Nat):Int).toNat - 1=k' by omega,show ((n':Nat):Int).toNat=n' by omega]
 exact this
theorem JsK {p:Pol} (h:JaJ p=true) (nm:ByteArray) (a:Int) (x:Nat→Nat):JaI (Je5 p nm a x).1 (Je5 p nm a x).2=true:=by
 obtain ⟨h1,h2⟩:=JeI h
 unfold Je5
 cases hf:p.rules.find? (fun r=> kS r.name nm&& r.conds.all (hR a x)) with
 | none=> exact h1
 | some r=> exact JfQ (h2 r (List.mem_of_find?_eq_some hf))
theorem Jjv {p:Pol} (h:JaJ p=true):∀r∈p.rules,∀c∈r.conds,JK c=true:=fun r hr c hc=> by
 have:=(JeI h).2 r hr
 unfold Jax at this
 simp only [Bool.and_eq_true,Bool.not_eq_true',List.any_eq_false] at this
 have:=this.2.2.2 c hc
 simpa using this
def Jyv (p:Pol) (l:List TRow) (s:Int) (x:Nat→Nat) (mx:Bool):Option Nat→A2
 | none=> p.dflt
 | some i=> if mx=true then Ja8 p (l.getD i Jg).name else Je5 p (l.getD i Jg).name s x
def JlW (p:Pol) (l:List TRow) (r:Rec):A2:=Jyv p l (Jbu r.arch r.num) r.arg (JjM r) (atO l r)
def Jis (p:Pol) (l:List TRow) (r:Rec):Nat:=if (decide (Jbu r.arch r.num < 0)|| (decide (Jbu r.arch r.num=1)&& !p.x32))=true then 2147483648 else Jp (JlW p l r)
set_option maxHeartbeats 8000000 in
theorem Jnv (p:Pol) (l:List TRow) (r:Rec) (hp:Jsd p) (hR:JaJ p=true) (hl:l.length≤1000000) (hr:r.ok):Tells Tryz.prog 21 [JbR p,JJ l,Jgi r] (int (Jis p l r:Nat)):=by
 have hof:=JtY l r hr hl
 unfold Jsb at hof
 have hlt:∀i,atO l r=some i→i < l.length:=fun i h=> Jt1 h
 have hbl:∀nm,_:=fun nm=> Jnu p nm hp.1
 have hdc:∀nm,_:=fun nm=> JlV p nm (Jbu r.arch r.num) r.arg (JtZ hr) hp (Jjv hR)
 have hblr:∀nm,_:=fun nm=> JjW (Ja8 p nm) (Jji hR nm)
 have hdcr:∀nm,_:=fun nm=> JjW (Je5 p nm (Jbu r.arch r.num) r.arg) (JsK hR nm _ _)
 have hdf:=JjW p.dflt (JeI hR).1
 unfold Jis JlW
 generalize Jbu r.arch r.num=s at hof hdc hdcr
 generalize JjM r=mx at hof
 generalize atO l r=at' at hof hlt
 obtain ⟨⟨k,n⟩,x32,rs⟩:=p
 dsimp only at hdf⊢
 generalize hA:(if (decide (s < 0)|| (decide (s=1)&& !x32))=true then 2147483648 else Jp (Jyv ⟨(k,n),x32,rs⟩ l s r.arg mx at'))=A
 refine Jf Tryz.func21 rfl rfl fun nx=> ?_
 refine stp ?_
 refine Jr (b:=Jgi r) rfl ?_
 refine stp ?_
 refine Je rfl rfl hof ⟨Rf,Rf,trivial⟩ fun nx2=> ?_
 refine JW ?_
 refine Jkk (fun y:Nat=> mk 54 [(1,JJ l),(3, .bp (0,nx) 0),(5, .bp (1,nx+1) 0),(7, .bp (2,nx2) 0),(23,Jb (decide (s < 0)|| (decide (s=1)&& !x32)))] ⟨[((2,nx2), .c [int s,int (JdI at'),Jb mx]),((1,nx+1), .c (J9 r)),((0,nx), .c (Jc5 k n x32 rs))], [],y,3⟩) (fun _=> True) ?_ ?_
 ·refine Jae ?_
  refine stp ?_
  intro c hc
  have hc2:c=decide (s < 0):=hc
  clear hc
  cases c
  ·refine stp ?_
   intro c hc
   have hc3:c=decide (s=1):=hc.trans (by rw [Bool.eq_iff_iff];simp)
   clear hc
   cases c
   ·refine stp ?_
    exact ⟨nx2+1,trivial,Et (pm:= []) (bx:= [((2,nx2), .c [int s,int (JdI at'),Jb mx]),((1,nx+1), .c (J9 r)),((0,nx), .c (Jc5 k n x32 rs))]) rfl rfl Bf trivial ⟨Rf,Rf,Rf,Rf,AVle.of_eq (by rw [← hc2,← hc3];rfl),trivial⟩⟩
   ·cases x32
    ·refine stp ?_
     exact ⟨nx2+1,trivial,Et (pm:= []) (bx:= [((2,nx2), .c [int s,int (JdI at'),Jb mx]),((1,nx+1), .c (J9 r)),((0,nx), .c (Jc5 k n false rs))]) rfl rfl Bf trivial ⟨Rf,Rf,Rf,Rf,AVle.of_eq (by rw [← hc2,← hc3];rfl),trivial⟩⟩
    ·refine stp ?_
     exact ⟨nx2+1,trivial,Et (pm:= []) (bx:= [((2,nx2), .c [int s,int (JdI at'),Jb mx]),((1,nx+1), .c (J9 r)),((0,nx), .c (Jc5 k n true rs))]) rfl rfl Bf trivial ⟨Rf,Rf,Rf,Rf,AVle.of_eq (by rw [← hc2,← hc3];rfl),trivial⟩⟩
  ·refine stp ?_
   exact ⟨nx2+1,trivial,Et (pm:= []) (bx:= [((2,nx2), .c [int s,int (JdI at'),Jb mx]),((1,nx+1), .c (J9 r)),((0,nx), .c (Jc5 k n x32 rs))]) rfl rfl Bf trivial ⟨Rf,Rf,Rf,Rf,AVle.of_eq (by rw [← hc2];rfl),trivial⟩⟩
 ·rintro nx3 -
  generalize hb:(decide (s < 0)|| (decide (s=1)&& !x32))=bb at hA
  cases bb with
  | true=>
    rw [if_pos rfl] at hA
    refine stp ?_
    exact Jd rfl (AVle.of_eq (by rw [← hA];rfl))
  | false=>
    rw [if_neg Dc] at hA
    cases at' with
    | none=>
      have hA:Jp (k,n)=A:=hA
      refine stp ?_
      refine Je rfl rfl hdf ⟨Rf,trivial⟩ fun nx4=> ?_
      refine stp ?_
      exact Jd rfl (AVle.of_eq (by rw [← hA];rfl))
    | some i=>
      have hi:=hlt i rfl
      have hA:Jp (if mx=true then Ja8 ⟨(k,n),x32,rs⟩ (l.getD i Jg).name else Je5 ⟨(k,n),x32,rs⟩ (l.getD i Jg).name s r.arg)=A:=hA
      have hbl:=hbl (l.getD i Jg).name
      have hdc:=hdc (l.getD i Jg).name
      have hblr:=hblr (l.getD i Jg).name
      have hdcr:=hdcr (l.getD i Jg).name
      cases mx with
      | true=>
        rw [if_pos rfl] at hA
        refine stp ?_
        refine J1 9 _ (fun _=> false) (fun i=> match i with | 7=> true | 8=> true | _=> false) [0,1,2,3,4,5,6,7,8] (by kernel_rfl) (by kernel_rfl) (HB.refl _) ?_
        refine stp ?_
        refine ⟨⟨Int.natCast_nonneg i,(show (i:Int) < (l.length:Int) by omega)⟩,Jbb (b:= .rp (Ja1 (l.getD i Jg))) rfl ?_⟩
        refine stp ?_
        refine ⟨_,JD rfl rfl rfl hbl ⟨Rf,Rf,trivial⟩ (NoId.ag (by intro y hy;simp at hy;rcases hy with rfl | rfl <;> exact NoId.v _)), ?_⟩
        refine stp ?_
        refine ⟨_,JD rfl rfl rfl hblr ⟨Rf,trivial⟩ (NoId.v _), ?_⟩
        refine stp ?_
        exact Jd rfl (AVle.of_eq (by rw [← hA];rfl))
      | false=>
        rw [if_neg Dc] at hA
        refine stp ?_
        refine J1 13 _ (fun _=> false) (fun i=> match i with | 11=> true | 12=> true | _=> false) [0,1,2,3,4,5,6,7,8,9,10,11,12] (by kernel_rfl) (by kernel_rfl) (HB.refl _) ?_
        refine stp ?_
        refine ⟨⟨Int.natCast_nonneg i,(show (i:Int) < (l.length:Int) by omega)⟩,Jbb (b:= .rp (Ja1 (l.getD i Jg))) rfl ?_⟩
        refine stp ?_
        refine ⟨_,JD rfl rfl rfl hdc ⟨Rf,Rf,Rf,Rf,trivial⟩ (NoId.ag (by intro y hy;simp at hy;rcases hy with rfl | rfl <;> exact NoId.v _)), ?_⟩
        refine stp ?_
        refine ⟨_,JD rfl rfl rfl hdcr ⟨Rf,trivial⟩ (NoId.v _), ?_⟩
        refine stp ?_
        exact Jd rfl (AVle.of_eq (by rw [← hA];rfl))
end Go.Proofs.W

namespace Go.Proofs.W
open Go.Vl
set_option maxRecDepth 100000
theorem Jit {α:Type} {p q:α→Bool}:∀ {l:List α},(∀x∈l,p x=q x)→l.find? p=l.find? q
 | [],_=> rfl
 | x::l,h=> by
   rw [List.find?_cons,List.find?_cons,h x (.head _),Jit fun y hy=> h y (.tail _ hy)]
theorem JwJ {x y:Nat→Nat} {a:Int} {c:Cnd} (hc:JK c=true) (hxy:∀i,x i=JgJ a (y i)):hB x c=hR a y c:=by
 obtain ⟨h1,h2,_⟩:=J8.1 hc
 unfold hB hR
 rw [hc,Bool.true_and]
 obtain ⟨arg,op,mask,value⟩:=c
 dsimp only at h1 h2⊢
 obtain rfl | rfl | rfl | rfl | rfl | rfl:arg=0∨arg=1∨arg=2∨arg=3∨arg=4∨arg=5:=by omega
 ·rw [← hxy];rfl
 ·rw [← hxy];rfl
 ·rw [← hxy];rfl
 ·rw [← hxy];rfl
 ·rw [← hxy];rfl
 ·rw [← hxy];rfl
theorem Jyw {p:Pol} (h:∀r∈p.rules,∀c∈r.conds,JK c=true) (nm:ByteArray) {x y:Nat→Nat} {a:Int} (hxy:∀i,x i=JgJ a (y i)):Jd2 p nm x=Je5 p nm a y:=by
 have e:p.rules.find? (fun r=> kS r.name nm&& Jb1 x r)=p.rules.find? (fun r=> kS r.name nm&& r.conds.all (hR a y)):=Jit fun r hr=> by
  show (kS r.name nm&& r.conds.all (hB x))=(kS r.name nm&& r.conds.all (hR a y))
  refine congrArg (kS r.name nm&& ·) ?_
  rw [Bool.eq_iff_iff,List.all_eq_true,List.all_eq_true]
  exact ⟨fun k c hc=> by rw [← JwJ (h r hr c hc) hxy];exact k c hc,fun k c hc=> by rw [JwJ (h r hr c hc) hxy];exact k c hc⟩
 unfold Jd2 Je5
 rw [e]
 cases p.rules.find? (fun r=> kS r.name nm&& r.conds.all (hR a y)) <;> rfl
theorem Jyx (l:List TRow) (r:Rec):(Jbu r.arch r.num < 0∧(ofI l r).some=false)∨(0≤Jbu r.arch r.num∧ofI l r=⟨true,Jbu r.arch r.num,JeF l (atO l r),JjM r⟩):=by
 unfold ofI Jbu atO JjM
 cases hs:Jcv r.arch r.num with
 | none=> exact .inl ⟨by decide,rfl⟩
 | some a=>
   refine .inr ⟨Int.natCast_nonneg _, ?_⟩
   dsimp only
   split
   ·rename_i h;rw [decide_eq_true h]
   ·rename_i h;rw [decide_eq_false h]
theorem Jwh {p:Pol} {l:List TRow} {r:Rec} (hp:JaJ p=true) (hl:(JbK l).2=0):Jp (JdX p l r)=Jis p l r:=by
 unfold JdX Jis JlW
 rcases Jyx l r with ⟨h1,h2⟩ | ⟨h1,h2⟩
 ·rw [h2,if_pos (by rfl),if_pos (by rw [decide_eq_true h1];rfl)]
  rfl
 ·rw [h2]
  dsimp only
  rw [show decide (Jbu r.arch r.num < 0)=false from decide_eq_false Om]
  by_cases hx:(decide (Jbu r.arch r.num=1)&& !p.x32)=true
  ·rw [if_pos (show (!true|| (decide (Jbu r.arch r.num=1)&& !p.x32))=true by rw [hx];rfl),if_pos (show (false|| (decide (Jbu r.arch r.num=1)&& !p.x32))=true by rw [hx];rfl)];rfl
  ·rw [Bool.not_eq_true] at hx
   rw [if_neg (show ¬(!true|| (decide (Jbu r.arch r.num=1)&& !p.x32))=true by rw [hx];decide),if_neg (show ¬(false|| (decide (Jbu r.arch r.num=1)&& !p.x32))=true by rw [hx];decide)]
   congr 1
   cases hat:atO l r with
   | none=> rw [if_pos (show (JeF l none).size=0 from rfl)];rfl
   | some i=>
     have hn:=JvJ hl (Jt1 hat)
     rw [if_neg (show ¬(JeF l (some i)).size=0 from hn)]
     show _=if JjM r=true then _ else _
     split
     ·rfl
     ·refine Jyw (Jjv hp) _ fun k=> ?_
      unfold JA JgJ
      by_cases q:Jbu r.arch r.num=2
      ·rw [if_pos q,if_pos (by rw [q];rfl)]
      ·rw [if_neg q,if_neg Om]
end Go.Proofs.W

namespace Go.Proofs.W
open Go.Vl
set_option maxRecDepth 100000
theorem JxB:pAw.ok:=by
 refine ⟨by decide,fun r hr=> ?_⟩
 rw [List.mem_singleton.1 hr]
 exact ⟨by decide,by decide,fun c hc=> by cases hc⟩
end Go.Proofs.W
