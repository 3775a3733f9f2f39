import Derived.Test.YtmipfkagmedcnaaGreatDoorD
import Derived.Test.YtmipfkagmedcnaaGreatDoorE
import Derived.Shelf.SlSortCmp.WholeK
import Derived.Shelf.Small.Bits
import Derived.Shelf.Lay
import Derived.Ground.SlsfProg
import Derived.Ground.SlgcProg
import Derived.Ground.NamesProg
import Derived.Lib.Walk
import Derived.Test.YtmipfkagmedcnaaGreatDoorC
import Derived.Lib.ItoaMem
import Derived.Sort.WalkA
import Derived.Shelf.Strings.OnBuilder
import Derived.Shelf.SlicesG.CompactS
import Derived.Ground.SlgnProg
set_option linter.unusedVariables false
set_option linter.unusedSimpArgs false
namespace Go.Proofs
open Go.Shelf Go.RowKit Go.Lib Go.Sort
shelf_lay_g SlLaysF0.n6 Slsf 6 at Tryz 51 as Tryz.sortEnt
shelf_lay_g SlLaysF0.n6 Slsf 6 at Tryz 54 as Tryz.sortSub
namespace W
theorem JuG (x:Nat) (w:World):Calls Tryz.prog 121 #[.int .u32 x] w fun e w'=> e= .returned (.bool false)∧w'=w:=by
 go_enter Tryz.func121,Tryz.ntmps121
 go_wp2
 go_ret
 exact ⟨by simp,rfl⟩
set_option maxHeartbeats 1000000 in
theorem JlC (x y:Nat) (w:World):Calls Tryz.prog 53 #[.int .u32 x, .int .u32 y] w fun e w'=> e= .returned (.int .i64 (Lib.compareInt x y))∧w'=w:=by
 go_enter Tryz.func53,Tryz.ntmps53
 go_wp2_with (go_at_call 121;refine (JuG _ _).mono ?_;rintro e w' ⟨rfl,hw⟩;rw [hw])
 all_goals (go_ret;refine ⟨?_,rfl⟩;unfold Lib.compareInt;(repeat' split) <;> first | rfl | (exfalso;omega))
set_option maxHeartbeats 1000000 in
theorem Jvu (k1 k2:Nat) (v1 v2:Value) (W:World):Calls Tryz.prog 52 #[.agg #[.int .u32 k1,v1], .agg #[.int .u32 k2,v2]] W fun e w'=> e= .returned (.int .i64 (Lib.compareInt k1 k2))∧∃q os',w'=grow (W.drewN q) os':=by
 have hcon:=fun W'=> JlC k1 k2 W'
 generalize Lib.compareInt k1 k2=r at hcon⊢
 go_enter Tryz.func52,Tryz.ntmps52
 go_wp2_with (go_at_call 53;refine (hcon _).mono ?_;rintro e w' ⟨rfl,rfl⟩)
 go_ret
 exact ⟨rfl,0,_,by rw [alloc_eq_grow,alloc_eq_grow,grow_grow];rfl⟩
set_option maxHeartbeats 1000000 in
theorem Jvv (k1 k2:Nat) (v1 v2:Value) (W:World):Calls Tryz.prog 55 #[.agg #[.int .u32 k1,v1], .agg #[.int .u32 k2,v2]] W fun e w'=> e= .returned (.int .i64 (Lib.compareInt k1 k2))∧∃q os',w'=grow (W.drewN q) os':=by
 have hcon:=fun W'=> JlC k1 k2 W'
 generalize Lib.compareInt k1 k2=r at hcon⊢
 go_enter Tryz.func55,Tryz.ntmps55
 go_wp2_with (go_at_call 53;refine (hcon _).mono ?_;rintro e w' ⟨rfl,rfl⟩)
 go_ret
 exact ⟨rfl,0,_,by rw [alloc_eq_grow,alloc_eq_grow,grow_grow];rfl⟩
open Go.Vl
theorem Jdi {D:List (Nat×AV)} {tl:List AV} {nm s cap nx nn:Nat} (hone:∀x∈D,Ja2 x.2=true) (hl:D.length < 4611686018427387904):
 ECall Tryz.prog 51 [.hs (nm,s) 0 D.length cap, .fn (.func 52) [] []] ⟨[((nm,s), .c (Jt D++tl))], [],nx,nn⟩
  fun r h'=> r= .tup []∧∃cs',(∃D',D'.Perm D∧D'.Pairwise (fun a b=> a.1≤b.1)∧cs'=Jt D')∧h'=⟨[((nm,s), .c (cs'++tl))], [],nx,nn⟩:=by
 have eg:∀args w,(callFunc 52 args).run Tryz.prog w= .ok (.enter 52 args) w:=enters_of Tryz.func52 (by kernel_rfl) rfl
 refine Jif ⟨_,Tryz.func51,rfl,rfl⟩ hone fun d w blk hd hH hb=> ?_
 exact AnyQ.slices_SortFunc Tryz.sortEnt 2 Tryz.isAgg78 Tryz.sizeOf78 KX.enc (fun _=> rfl) KX.one KX.cmp KX.swo 52 #[] blk 0 cap d w eg (fun _ _ _ _ x y=> Jvu _ _ _ _ _) hH hb (by omega)
theorem Jhp {D:List (Nat×AV)} {tl:List AV} {nm s cap nx nn:Nat} (hone:∀x∈D,Ja2 x.2=true) (hl:D.length < 4611686018427387904):
 ECall Tryz.prog 54 [.hs (nm,s) 0 D.length cap, .fn (.func 55) [] []] ⟨[((nm,s), .c (Jt D++tl))], [],nx,nn⟩
  fun r h'=> r= .tup []∧∃cs',(∃D',D'.Perm D∧D'.Pairwise (fun a b=> a.1≤b.1)∧cs'=Jt D')∧h'=⟨[((nm,s), .c (cs'++tl))], [],nx,nn⟩:=by
 have eg:∀args w,(callFunc 55 args).run Tryz.prog w= .ok (.enter 55 args) w:=enters_of Tryz.func55 (by kernel_rfl) rfl
 refine Jif ⟨_,Tryz.func54,rfl,rfl⟩ hone fun d w blk hd hH hb=> ?_
 exact AnyQ.slices_SortFunc Tryz.sortSub 2 Tryz.isAgg120 Tryz.sizeOf120 KX.enc (fun _=> rfl) KX.one KX.cmp KX.swo 55 #[] blk 0 cap d w eg (fun _ _ _ _ x y=> Jvv _ _ _ _ _) hH hb (by omega)
set_option maxRecDepth 100000
theorem Jvw (n:Nat):Tells Tryz.prog 200 [Jeo 2,int 0,int 0,fn0 n] (.tup []):=by
 refine Jg Tryz.func200 rfl rfl fun nx=> ?_
 refine stp ?_
 refine Jen ?_
 refine stp ?_
 exact Je rfl (AVle.refl _)
theorem Jvx (n:Nat):Tells Tryz.prog 119 [Jeo 2,int 0,int 0,int 0,fn0 n] (.tup []):=by
 refine Jg Tryz.func119 rfl rfl fun nx=> ?_
 refine stp ?_
 refine Jen ?_
 refine stp ?_
 refine Jd rfl rfl (Jvw n) ⟨AVle.refl _,AVle.refl _,AVle.refl _,AVle.refl _,trivial⟩ fun nx=> ?_
 refine stp ?_
 exact Je rfl (AVle.refl _)
theorem JdH (n:Nat):Tells Tryz.prog 51 [Jeo 2,fn0 n] (.tup []):=by
 refine Jg Tryz.func51 rfl rfl fun nx=> ?_
 refine stp ?_
 refine Jd rfl rfl Jqd ⟨AVle.refl _,trivial⟩ fun nx=> ?_
 refine stp ?_
 refine Jd rfl rfl (Jvx n) ⟨AVle.refl _,AVle.refl _,AVle.refl _,AVle.refl _,AVle.refl _,trivial⟩ fun nx=> ?_
 refine stp ?_
 exact Je rfl (AVle.refl _)
theorem Jvy (n:Nat):Tells Tryz.prog 210 [Jeo 2,int 0,int 0,fn0 n] (.tup []):=by
 refine Jg Tryz.func210 rfl rfl fun nx=> ?_
 refine stp ?_
 refine Jen ?_
 refine stp ?_
 exact Je rfl (AVle.refl _)
theorem Jvz (n:Nat):Tells Tryz.prog 122 [Jeo 2,int 0,int 0,int 0,fn0 n] (.tup []):=by
 refine Jg Tryz.func122 rfl rfl fun nx=> ?_
 refine stp ?_
 refine Jen ?_
 refine stp ?_
 refine Jd rfl rfl (Jvy n) ⟨AVle.refl _,AVle.refl _,AVle.refl _,AVle.refl _,trivial⟩ fun nx=> ?_
 refine stp ?_
 exact Je rfl (AVle.refl _)
theorem Jit (n:Nat):Tells Tryz.prog 54 [Jeo 2,fn0 n] (.tup []):=by
 refine Jg Tryz.func54 rfl rfl fun nx=> ?_
 refine stp ?_
 refine Jd rfl rfl Jqd ⟨AVle.refl _,trivial⟩ fun nx=> ?_
 refine stp ?_
 refine Jd rfl rfl (Jvz n) ⟨AVle.refl _,AVle.refl _,AVle.refl _,AVle.refl _,AVle.refl _,trivial⟩ fun nx=> ?_
 refine stp ?_
 exact Je rfl (AVle.refl _)
end W
end Go.Proofs

namespace Go.Proofs.W
open Go.Vl
set_option maxRecDepth 100000
theorem JbI (a:Nat) (z:Int) (h0:0≤z) (h:z < 1073741824):Tells Tryz.prog 49 [int a,u32 z] (u32 (Jaq a z:Nat)):=by
 obtain ⟨n,rfl⟩:∃n:Nat,z=n:=⟨z.toNat,by omega⟩
 have hb:Jbv .or .u32 (n:Int) 1073741824=((n||| 1073741824:Nat):Int):=by
  have hlt:n||| 1073741824 < 2 ^ 32:=Nat.or_lt_two_pow (by omega) (by decide)
  exact Jj8 (k:= .u32) (a:=n) (b:=1073741824) (by show n < 2 ^ 32;omega) (by decide) (by simp [IntKind.wrap,IntKind.signed,IntKind.bits] at hlt⊢;omega)
 refine Jg Tryz.func49 rfl rfl fun nx=> ?_
 unfold Jaq
 refine stp ?_
 intro c e;cases c
 ·have e1:¬a=1:=fun h=> by subst h;cases e
  rw [if_neg e1]
  refine stp ?_
  exact Je rfl (AVle.refl _)
 ·have e1:a=1:=by
   have:=of_decide_eq_true (p:=(a:Int)=1) e.symm
   omega
  rw [if_pos e1]
  refine stp ?_
  exact Je rfl (AVle.of_eq (congrArg u32 hb))
abbrev JR:=List (Nat×AV)×Option (Nat×Nat×List AV)
def Ja (nm:Nat):JR→AV
 | (_,none)=> .os 0 0 (fun _=> .any) none
 | (R,some (s,cap,_))=> .hs (nm,s) 0 R.length cap
def JaA (nm:Nat):JR→List (Vl.Id×Own)
 | (_,none)=> []
 | (R,some (s,_,tl))=> [((nm,s), .c (Jt R++tl))]
def Jbx:JR→Prop
 | (R,none)=> R= []
 | (R,some (_,cap,tl))=> R.length≤cap∧cap * 2≤R.length * 2+tl.length
def Jy (st:Nat→JR):List (Vl.Id×Own):=(List.range 7).flatMap fun j=> JaA (10+j) (st j)
def Jm (k:Nat) (st:Nat→JR):List (Vl.Id×Own):=((List.range 7).filter (·≠k)).flatMap fun j=> JaA (10+j) (st j)
def Jo (d:Nat) (x:Bool) (st:Nat→JR):List AV:= [u32 (d:Nat),Jb x,Ja 10 (st 0),Ja 11 (st 1),Ja 12 (st 2),Ja 13 (st 3),Ja 14 (st 4),Ja 15 (st 5),Ja 16 (st 6)]
def Jw (st:Nat→JR) (k:Nat) (r:JR):Nat→JR:=fun j=> if j=k then r else st j
theorem JcN {k:Nat} (hk:k < 7) (st:Nat→JR):(Jy st).Perm (JaA (10+k) (st k)++Jm k st):=by
 unfold Jy Jm
 have h:(List.range 7).Perm (k::(List.range 7).filter (·≠k)):=by
  have:k=0∨k=1∨k=2∨k=3∨k=4∨k=5∨k=6:=by omega
  rcases this with rfl | rfl | rfl | rfl | rfl | rfl | rfl <;> decide
 exact (h.flatMap_right _).trans (.of_eq (List.flatMap_cons ..))
theorem JuH {k:Nat} (st:Nat→JR) (r:JR):Jm k (Jw st k r)=Jm k st:=by
 unfold Jm
 rw [List.flatMap_def,List.flatMap_def]
 refine congrArg List.flatten (List.map_congr_left fun j hj=> ?_)
 have:j≠k:=by simpa using (List.mem_filter.1 hj).2
 unfold Jw
 rw [if_neg this]
theorem JiP {k:Nat} (hk:k < 7) (st:Nat→JR) (r:JR):(Jy (Jw st k r)).Perm (JaA (10+k) r++Jm k st):=by
 have h:=JcN hk (Jw st k r)
 rw [JuH] at h
 unfold Jw at h
 rwa [if_pos rfl] at h
theorem BxLe.of_eq {a b:List (Vl.Id×Own)} (h:a=b):BxLe a b:=h ▸ BxLe.refl _
theorem JbM {k:Nat} {st:Nat→JR} {r:JR} (h:∀j,j < 7→Jbx (st j)) (hr:Jbx r):∀j,j < 7→Jbx (Jw st k r j):=fun j hj=> by
 unfold Jw
 split
 ·exact hr
 ·exact h j hj
theorem Jiu (R:List (Nat×AV)) (e:Nat×AV):Jt (R++ [e])=Jt R++ [.v (.int .u32 e.1),e.2]:=by
 unfold Jt;rw [List.flatMap_append];rfl
def Jdj (e:PEnt):Nat×AV:=(e.num,Jr e.rules)
def J4 (s:PSub):Nat×AV:=(s.num,u32 (s.code:Nat))
theorem Jal {a d:Nat} {x:Bool} {row:TRow} {rs:List PRul} (h:row.num a < 0∨(a=1∧x=false)∨JaH a rs d= []):Jas a d x row rs= []:=if_pos h
theorem Jb4 {a d:Nat} {x:Bool} {row:TRow} {rs:List PRul} (h1:¬row.num a < 0) (h2:¬(a=1∧x=false)) (h3:JaH a rs d≠ []):Jas a d x row rs= [⟨Jaq a (row.num a),JaH a rs d⟩]:=if_neg fun h=> h.elim h1 fun h=> h.elim h2 h3
theorem Jav {k d:Nat} {x:Bool} {row:TRow} {rs:List PRul} {st st1:Nat→JR} (h:∀j,j < k→(st1 j).1=(st j).1++(Jas j d x row rs).map Jdj) (hk:st1 k=st k) (he:Jas k d x row rs= []):∀j,j < k+1→(st1 j).1=(st j).1++(Jas j d x row rs).map Jdj:=fun j hj=> by
 rcases Nat.lt_or_ge j k with h1 | h1
 ·exact h j h1
 ·obtain rfl:j=k:=by omega
  rw [he,hk];exact (List.append_nil _).symm
theorem Jcg {z:Int} (h0:0≤z) (h:z < 1073741824):IntKind.u32.wrap z=z:=by
 simp [IntKind.wrap,IntKind.signed,IntKind.bits];omega
theorem JdI:Ja4 Tryz.prog 78=true:=by kernel_rfl
theorem gc_ent:Tryz.prog.cellsOf 78=2:=by kernel_rfl
theorem JdJ:Tryz.prog.bytesOf 78=32:=by kernel_rfl
theorem JjW:Ja4 Tryz.prog 120=true:=by kernel_rfl
theorem gc_sub:Tryz.prog.cellsOf 120=2:=by kernel_rfl
theorem JjX:Tryz.prog.bytesOf 120=8:=by kernel_rfl
theorem Jdm {f':Nat→AV} {e:Nat×AV} {m:Nat} {T:TypeId} (hT:Tryz.prog.cellsOf T=2) (h:JK 1 f'= [.v (.int .u32 e.1),e.2]):OwnLe (.c (JK 1 f'++List.replicate (m * Tryz.prog.cellsOf T) .any)) (.c (Jt [e]++List.replicate (m * 2) .any)):=by
 rw [hT,h];exact OwnLe.refl _
theorem Jfv {f':Nat→AV} {e:Nat×AV} {R:List (Nat×AV)} {tl:List AV} {T:TypeId} (hT:Tryz.prog.cellsOf T=2) (h:JK 1 f'= [.v (.int .u32 e.1),e.2]):OwnLe (.c (JX (Jt R++tl) (R.length * Tryz.prog.cellsOf T) (JK 1 f'))) (.c (Jt (R++ [e])++tl.drop 2)):=by
 have e1:JX (Jt R++tl) (R.length * Tryz.prog.cellsOf T) (JK 1 f')=Jt (R++ [e])++tl.drop 2:=by
  rw [hT,h,show R.length * 2=(Jt R).length+0 by rw [Jbj];rfl,Je2,Jiu,Jam]
  simp
 rw [e1];exact OwnLe.refl _
theorem JdR {f':Nat→AV} {e:Nat×AV} {R:List (Nat×AV)} {tl:List AV} {m:Nat} {T:TypeId} (hT:Tryz.prog.cellsOf T=2) (h:JK 1 f'= [.v (.int .u32 e.1),e.2]):OwnLe (.c ((Jt R++tl).take (R.length * Tryz.prog.cellsOf T)++JK 1 f'++List.replicate (m * Tryz.prog.cellsOf T) .any)) (.c (Jt (R++ [e])++List.replicate (m * 2) .any)):=by
 have e1:(Jt R++tl).take (R.length * Tryz.prog.cellsOf T)=Jt R:=by
  rw [hT,← Jbj,List.take_left]
 rw [e1,hT,h,Jiu];exact OwnLe.refl _
theorem Ja5 {a b s:Nat} {R:List (Nat×AV)} {e:Nat×AV} {cap:Nat}:AVle (.hs (a,s) 0 (R.length+1) cap) (.hs (b,s) 0 (R++ [e]).length cap):=by
 rw [List.length_append];exact AVle.hs_nm rfl
theorem JbE {k:Nat} (hk:k < 7) {n nx nn:Nat} {L:List (Nat×AV)} {F:List (Vl.Id×Own)} {st:Nat→JR} {r:JR} {df:Option (List DA)}:ELe (mk n L ⟨F++(JaA (10+k) r++Jm k st), [],nx,nn⟩ df) (mk n L ⟨F++Jy (Jw st k r), [],nx,nn⟩ df):=
 Jed (E:=mk n L ⟨F++(JaA (10+k) r++Jm k st), [],nx,nn⟩ df) (h':=⟨F++Jy (Jw st k r), [],nx,nn⟩) ⟨(List.Perm.append_left _ (JiP hk st r)).map _, .refl _,rfl⟩
theorem Ja9 {k d:Nat} {x:Bool} {row:TRow} {rs:List PRul} {st st1:Nat→JR} {R:List (Nat×AV)} {md:Option (Nat×Nat×List AV)} {z:Nat} {W:List PRul} {md':Option (Nat×Nat×List AV)} (h:∀j,j < k→(st1 j).1=(st j).1++(Jas j d x row rs).map Jdj) (hk:st1 k=st k) (hR:st1 k=(R,md)) (he:Jas k d x row rs= [⟨z,W⟩]):∀j,j < k+1→(Jw st1 k (R++ [(z,Jr W)],md') j).1=(st j).1++(Jas j d x row rs).map Jdj:=fun j hj=> by
 unfold Jw
 rcases Nat.lt_or_ge j k with h1 | h1
 ·rw [if_neg (by omega)];exact h j h1
 ·obtain rfl:j=k:=by omega
  rw [if_pos rfl,he,← hk,hR];rfl
theorem Jba {k:Nat} {st st1:Nat→JR} {r:JR} (h:∀j,k≤j→st1 j=st j):∀j,k+1≤j→Jw st1 k r j=st j:=fun j hj=> by
 unfold Jw
 rw [if_neg (by omega)];exact h j (by omega)
theorem bx4 {i1 i2 i3 i4 i5:Vl.Id} {o1 o2 o2' o3 o4 o4':Own} {R:List (Vl.Id×Own)} (h4:i4.2=i5.2) (h2:OwnLe o2 o2') (h:OwnLe o4 o4'):BxLe ([(i1,o1),(i2,o2),(i3,o3)]++((i4,o4)::R)) ([(i1,o1),(i2,o2'),(i3,o3)]++([(i5,o4')]++R)):=
 show BxLe ((i1,o1)::(i2,o2)::(i3,o3)::(i4,o4)::R) ((i1,o1)::(i2,o2')::(i3,o3)::(i5,o4')::R) from ⟨rfl,OwnLe.refl _,rfl,h2,rfl,OwnLe.refl _,h4,h,BxLe.refl _⟩
theorem JkA {d:Nat} {x:Bool} {st:Nat→JR} {r:JR} {av:AV} (h:AVle av (Ja 10 r)):OwnLe (.c [u32 (d:Nat),Jb x,av,Ja 11 (st 1),Ja 12 (st 2),Ja 13 (st 3),Ja 14 (st 4),Ja 15 (st 5),Ja 16 (st 6)]) (.c (Jo d x (Jw st 0 r))):=by
 rw [show Jo d x (Jw st 0 r)= [u32 (d:Nat),Jb x,Ja 10 r,Ja 11 (st 1),Ja 12 (st 2),Ja 13 (st 3),Ja 14 (st 4),Ja 15 (st 5),Ja 16 (st 6)] from rfl]
 exact ⟨AVle.refl _,AVle.refl _,h,AVle.refl _,AVle.refl _,AVle.refl _,AVle.refl _,AVle.refl _,AVle.refl _,trivial⟩
theorem JkB {d:Nat} {x:Bool} {st:Nat→JR} {r:JR} {av:AV} (h:AVle av (Ja 11 r)):OwnLe (.c [u32 (d:Nat),Jb x,Ja 10 (st 0),av,Ja 12 (st 2),Ja 13 (st 3),Ja 14 (st 4),Ja 15 (st 5),Ja 16 (st 6)]) (.c (Jo d x (Jw st 1 r))):=by
 rw [show Jo d x (Jw st 1 r)= [u32 (d:Nat),Jb x,Ja 10 (st 0),Ja 11 r,Ja 12 (st 2),Ja 13 (st 3),Ja 14 (st 4),Ja 15 (st 5),Ja 16 (st 6)] from rfl]
 exact ⟨AVle.refl _,AVle.refl _,AVle.refl _,h,AVle.refl _,AVle.refl _,AVle.refl _,AVle.refl _,AVle.refl _,trivial⟩
theorem JkC {d:Nat} {x:Bool} {st:Nat→JR} {r:JR} {av:AV} (h:AVle av (Ja 12 r)):OwnLe (.c [u32 (d:Nat),Jb x,Ja 10 (st 0),Ja 11 (st 1),av,Ja 13 (st 3),Ja 14 (st 4),Ja 15 (st 5),Ja 16 (st 6)]) (.c (Jo d x (Jw st 2 r))):=by
 rw [show Jo d x (Jw st 2 r)= [u32 (d:Nat),Jb x,Ja 10 (st 0),Ja 11 (st 1),Ja 12 r,Ja 13 (st 3),Ja 14 (st 4),Ja 15 (st 5),Ja 16 (st 6)] from rfl]
 exact ⟨AVle.refl _,AVle.refl _,AVle.refl _,AVle.refl _,h,AVle.refl _,AVle.refl _,AVle.refl _,AVle.refl _,trivial⟩
theorem JkD {d:Nat} {x:Bool} {st:Nat→JR} {r:JR} {av:AV} (h:AVle av (Ja 13 r)):OwnLe (.c [u32 (d:Nat),Jb x,Ja 10 (st 0),Ja 11 (st 1),Ja 12 (st 2),av,Ja 14 (st 4),Ja 15 (st 5),Ja 16 (st 6)]) (.c (Jo d x (Jw st 3 r))):=by
 rw [show Jo d x (Jw st 3 r)= [u32 (d:Nat),Jb x,Ja 10 (st 0),Ja 11 (st 1),Ja 12 (st 2),Ja 13 r,Ja 14 (st 4),Ja 15 (st 5),Ja 16 (st 6)] from rfl]
 exact ⟨AVle.refl _,AVle.refl _,AVle.refl _,AVle.refl _,AVle.refl _,h,AVle.refl _,AVle.refl _,AVle.refl _,trivial⟩
theorem JkE {d:Nat} {x:Bool} {st:Nat→JR} {r:JR} {av:AV} (h:AVle av (Ja 14 r)):OwnLe (.c [u32 (d:Nat),Jb x,Ja 10 (st 0),Ja 11 (st 1),Ja 12 (st 2),Ja 13 (st 3),av,Ja 15 (st 5),Ja 16 (st 6)]) (.c (Jo d x (Jw st 4 r))):=by
 rw [show Jo d x (Jw st 4 r)= [u32 (d:Nat),Jb x,Ja 10 (st 0),Ja 11 (st 1),Ja 12 (st 2),Ja 13 (st 3),Ja 14 r,Ja 15 (st 5),Ja 16 (st 6)] from rfl]
 exact ⟨AVle.refl _,AVle.refl _,AVle.refl _,AVle.refl _,AVle.refl _,AVle.refl _,h,AVle.refl _,AVle.refl _,trivial⟩
theorem JkF {d:Nat} {x:Bool} {st:Nat→JR} {r:JR} {av:AV} (h:AVle av (Ja 15 r)):OwnLe (.c [u32 (d:Nat),Jb x,Ja 10 (st 0),Ja 11 (st 1),Ja 12 (st 2),Ja 13 (st 3),Ja 14 (st 4),av,Ja 16 (st 6)]) (.c (Jo d x (Jw st 5 r))):=by
 rw [show Jo d x (Jw st 5 r)= [u32 (d:Nat),Jb x,Ja 10 (st 0),Ja 11 (st 1),Ja 12 (st 2),Ja 13 (st 3),Ja 14 (st 4),Ja 15 r,Ja 16 (st 6)] from rfl]
 exact ⟨AVle.refl _,AVle.refl _,AVle.refl _,AVle.refl _,AVle.refl _,AVle.refl _,AVle.refl _,h,AVle.refl _,trivial⟩
theorem JkG {d:Nat} {x:Bool} {st:Nat→JR} {r:JR} {av:AV} (h:AVle av (Ja 16 r)):OwnLe (.c [u32 (d:Nat),Jb x,Ja 10 (st 0),Ja 11 (st 1),Ja 12 (st 2),Ja 13 (st 3),Ja 14 (st 4),Ja 15 (st 5),av]) (.c (Jo d x (Jw st 6 r))):=by
 rw [show Jo d x (Jw st 6 r)= [u32 (d:Nat),Jb x,Ja 10 (st 0),Ja 11 (st 1),Ja 12 (st 2),Ja 13 (st 3),Ja 14 (st 4),Ja 15 (st 5),Ja 16 r] from rfl]
 exact ⟨AVle.refl _,AVle.refl _,AVle.refl _,AVle.refl _,AVle.refl _,AVle.refl _,AVle.refl _,AVle.refl _,h,trivial⟩
def Jqw (d:Nat) (x:Bool) (row:TRow) (rs:List PRul) (st st':Nat→JR):Prop:=(∀j,j < 7→Jbx (st' j))∧(∀k,k < 5→(st' k).1=(st k).1++(Jas k d x row rs).map Jdj)∧∀m,m < 2→(st' (5+m)).1=(st (5+m)).1++(Jb9 m row rs).map J4
theorem Jfc {m d:Nat} {x:Bool} {row:TRow} {rs:List PRul} {st st1:Nat→JR} {R:List (Nat×AV)} {md md':Option (Nat×Nat×List AV)} {q:PSub} (hm:m < 2) (hok1:∀j,j < 7→Jbx (st1 j)) (hdone:∀k,k < 5→(st1 k).1=(st k).1++(Jas k d x row rs).map Jdj)
 (hrest:∀j,j < 2→st1 (5+j)=st (5+j)) (hR:st1 (5+m)=(R,md)) (hrow:Jbx (R++ [J4 q],md')) (hs:Jb9 m row rs= [q]) (ho:∀j,j < 2→j≠m→Jb9 j row rs= []):Jqw d x row rs st (Jw st1 (5+m) (R++ [J4 q],md')):=by
 refine ⟨JbM hok1 hrow,fun k hk=> ?_,fun j hj=> ?_⟩
 ·unfold Jw;rw [if_neg (by omega)];exact hdone k hk
 ·unfold Jw
  by_cases h:j=m
  ·subst h
   rw [if_pos rfl,hs,← hrest j hj,hR];rfl
  ·rw [if_neg (by omega),ho j hj h,hrest j hj];exact (List.append_nil _).symm
theorem JdZ {h:Heap} {bx:List (Vl.Id×Own)} {nx nn:Nat} (bx'' bx':List (Vl.Id×Own)) (hx:h.nx=nx) (h0:bx''.Perm h.bx) (hb:bx'.Sublist bx'') (hp:h.pm= []) (eb:BxLe bx' bx):HLe h ⟨bx, [],nx,nn⟩:=
 HLe.trans (JiB (h':=⟨bx'',h.pm,h.nx,h.nn⟩) ⟨h0.map _, .refl _,rfl⟩) (Jay bx' [] hx hb (List.nil_sublist _) eb trivial)
theorem Jfd {k:Nat} (hk:k < 7) {nx nn:Nat} {F:List (Vl.Id×Own)} {st:Nat→JR} {r:JR}:HLe ⟨F++(JaA (10+k) r++Jm k st), [],nx,nn⟩ ⟨F++Jy (Jw st k r), [],nx,nn⟩:=
 JiB ⟨(List.Perm.append_left _ (JiP hk st r)).map _, .refl _,rfl⟩
theorem bx3 {i2 i3 i4 i5:Vl.Id} {o2 o2' o3 o4 o4':Own} {R:List (Vl.Id×Own)} (h4:i4.2=i5.2) (h2:OwnLe o2 o2') (h:OwnLe o4 o4'):BxLe ([(i2,o2),(i3,o3)]++((i4,o4)::R)) ([(i2,o2'),(i3,o3)]++([(i5,o4')]++R)):=
 show BxLe ((i2,o2)::(i3,o3)::(i4,o4)::R) ((i2,o2')::(i3,o3)::(i5,o4')::R) from ⟨rfl,h2,rfl,OwnLe.refl _,h4,h,BxLe.refl _⟩
set_option maxHeartbeats 8000000 in
theorem Jqx (dk dn:Int) (x:Bool) (ps:List Rul) (d:Nat) (row:TRow) (rs:List PRul) (s0 s1 nx0:Nat) (st:Nat→JR) (hok:∀j,j < 7→Jbx (st j)) (hlen:∀j,j < 7→(st j).1.length≤1000000)
 (hn:∀k,row.num k < 1073741824) (hm:row.mux=0∨row.mux=1∨row.mux=2) (hs:0≤row.sub∧row.sub≤255) (hr:rs≠ []) (hl:rs.length≤1000000) (hc:∀r∈rs,r.conds.length≤1000000∧∀c∈r.conds,c.ok):
 ECall Tryz.prog 47 [Jp row,Jr rs, .bp (0,s0) 0, .bp (1,s1) 0] ⟨[((1,s1), .c (Jo d x st)),((0,s0), .c [int dk,int dn,Jb x,Jj ps])]++Jy st, [],nx0,20⟩
  fun r h'=> r= .tup []∧∃st' nx' nn',Jqw d x row rs st st'∧h'=⟨[((1,s1), .c (Jo d x st')),((0,s0), .c [int dk,int dn,Jb x,Jj ps])]++Jy st', [],nx',nn'⟩:=by
 obtain ⟨nm,a0,a1,a2,a3,a4,mux,sub⟩:=row
 refine ECall.wk (JU Tryz.func47 rfl rfl ?_)
 refine stp ?_
 refine JcS (fun y:(Nat→JR)×Nat=> mk 75 [(1,Jr rs),(2, .bp (0,s0) 0),(3, .bp (1,s1) 0),(4, .bp (20,nx0) 0)] ⟨[((20,nx0), .c [Jf nm,int a0,int a1,int a2,int a3,int a4,int mux,int sub]),((1,s1), .c (Jo d x y.1)),((0,s0), .c [int dk,int dn,Jb x,Jj ps])]++Jy y.1, [],y.2,21⟩) (fun y=> (∀j,j < 7→Jbx (y.1 j))∧(∀k,k < 5→(y.1 k).1=(st k).1++(Jas k d x ⟨nm,a0,a1,a2,a3,a4,mux,sub⟩ rs).map Jdj)∧∀m,m < 2→y.1 (5+m)=st (5+m)) ?_ ?_
 ·refine JN (fun y:Nat×(Nat→JR)×Nat=> mk 75 [(1,Jr rs),(2, .bp (0,s0) 0),(3, .bp (1,s1) 0),(4, .bp (20,nx0) 0),(9,int y.1)] ⟨[((20,nx0), .c [Jf nm,int a0,int a1,int a2,int a3,int a4,int mux,int sub]),((1,s1), .c (Jo d x y.2.1)),((0,s0), .c [int dk,int dn,Jb x,Jj ps])]++Jy y.2.1, [],y.2.2,21⟩) (fun y=> y.1≤5∧(∀j,j < 7→Jbx (y.2.1 j))∧(∀k,k < y.1→(y.2.1 k).1=(st k).1++(Jas k d x ⟨nm,a0,a1,a2,a3,a4,mux,sub⟩ rs).map Jdj)∧∀j,y.1≤j→y.2.1 j=st j) (fun y=> 5 - y.1) ?_ ?_
  ·exact ⟨(0,st,nx0+1),⟨Nat.zero_le _,hok,fun k h=> absurd h (Nat.not_lt_zero _),fun j _=> rfl⟩,Jh _ _ rfl rfl (List.Sublist.refl _) (List.Sublist.refl _) (BxLe.refl _) trivial ⟨AVle.refl _,AVle.refl _,AVle.refl _,AVle.refl _,AVle.refl _,trivial⟩⟩
  ·rintro ⟨a,st1,nx2⟩ ⟨h1,hok1,hdone,hrest⟩
   dsimp only at h1 hok1 hdone hrest
   by_cases h5:a=5
   ·subst h5
    refine stp ?_
    exact ⟨(st1,nx2),⟨hok1,hdone,fun m hm=> hrest _ (by omega)⟩,Jh _ _ rfl rfl (List.Sublist.refl _) (List.Sublist.refl _) (BxLe.refl _) trivial ⟨AVle.refl _,AVle.refl _,AVle.refl _,AVle.refl _,trivial⟩⟩
   ·rcases (by omega:a=0∨a=1∨a=2∨a=3∨a=4) with rfl | rfl | rfl | rfl | rfl
    ·have hP:=JcN (k:=0) (by decide) st1
     have hrk:Jbx (st1 0):=hok1 _ (by decide)
     have hrs:st1 0=st 0:=hrest _ (Nat.le_refl _)
     have hln:(st1 0).1.length≤1000000:=by rw [hrs];exact hlen _ (by decide)
     rcases hk:st1 0 with ⟨R,_ | ⟨s,cap,tl⟩⟩
     ·rw [hk] at hP hrk hln
      dsimp only at hln
      have eo:Jo d x st1= [u32 (d:Nat),Jb x, .os 0 0 (fun _=> .any) none,Ja 11 (st1 1),Ja 12 (st1 2),Ja 13 (st1 3),Ja 14 (st1 4),Ja 15 (st1 5),Ja 16 (st1 6)]:=by simp only [Jo,hk,Ja]
      refine AW.le (E':=mk 75 [(1,Jr rs),(2, .bp (0,s0) 0),(3, .bp (1,s1) 0),(4, .bp (20,nx0) 0),(9,int (0:Nat))] (⟨[((20,nx0), .c [Jf nm,int a0,int a1,int a2,int a3,int a4,int mux,int sub]),((1,s1), .c [u32 (d:Nat),Jb x, .os 0 0 (fun _=> .any) none,Ja 11 (st1 1),Ja 12 (st1 2),Ja 13 (st1 3),Ja 14 (st1 4),Ja 15 (st1 5),Ja 16 (st1 6)]),((0,s0), .c [int dk,int dn,Jb x,Jj ps])]++(Jm 0 st1), [],nx2,21⟩:Heap)) (Jn ([((20,nx0), .c [Jf nm,int a0,int a1,int a2,int a3,int a4,int mux,int sub]),((1,s1), .c (Jo d x st1)),((0,s0), .c [int dk,int dn,Jb x,Jj ps])]++(Jm 0 st1)) ([((20,nx0), .c [Jf nm,int a0,int a1,int a2,int a3,int a4,int mux,int sub]),((1,s1), .c (Jo d x st1)),((0,s0), .c [int dk,int dn,Jb x,Jj ps])]++(Jm 0 st1)) [] rfl rfl (List.Perm.append_left _ hP.symm) (List.Sublist.refl _) (List.Sublist.refl _) (BxLe.of_eq (by rw [eo])) trivial ⟨AVle.refl _,AVle.refl _,AVle.refl _,AVle.refl _,AVle.refl _,trivial⟩) ?_
      refine stp ?_
      intro c t1;cases c
      ·have t1:=JC t1
       refine stp ?_
       refine Jd rfl rfl (Jb3 0 rs d (by decide) hl hc) ⟨AVle.refl _,AVle.refl _,AVle.refl _,trivial⟩ fun nx3=> ?_
       refine stp ?_
       intro c t2;cases c
       ·have t2:=JC t2
        refine stp ?_
        exact back (1,st1,nx3) ⟨by dsimp only;omega,hok1,Jav hdone hrs (Jal (.inr (.inr (List.eq_nil_of_length_eq_zero (by omega))))),fun j hj=> hrest j (by dsimp only at hj;omega)⟩ (by dsimp only;omega) (Jn ([((20,nx0), .c [Jf nm,int a0,int a1,int a2,int a3,int a4,int mux,int sub]),((1,s1), .c [u32 (d:Nat),Jb x, .os 0 0 (fun _=> .any) none,Ja 11 (st1 1),Ja 12 (st1 2),Ja 13 (st1 3),Ja 14 (st1 4),Ja 15 (st1 5),Ja 16 (st1 6)]),((0,s0), .c [int dk,int dn,Jb x,Jj ps])]++Jy st1) ([((20,nx0), .c [Jf nm,int a0,int a1,int a2,int a3,int a4,int mux,int sub]),((1,s1), .c [u32 (d:Nat),Jb x, .os 0 0 (fun _=> .any) none,Ja 11 (st1 1),Ja 12 (st1 2),Ja 13 (st1 3),Ja 14 (st1 4),Ja 15 (st1 5),Ja 16 (st1 6)]),((0,s0), .c [int dk,int dn,Jb x,Jj ps])]++Jy st1) [] rfl rfl (List.Perm.append_left _ hP) (List.Sublist.refl _) (List.Sublist.refl _) (BxLe.of_eq (by rw [eo])) trivial ⟨AVle.refl _,AVle.refl _,AVle.refl _,AVle.refl _,Jk rfl,trivial⟩)
       ·have t2:=JD t2
        have hwh:=JbI 0 a0 (by omega) (hn 0)
        have hen:Jas 0 d x ⟨nm,a0,a1,a2,a3,a4,mux,sub⟩ rs= [⟨Jaq 0 a0,JaH 0 rs d⟩]:=Jb4 t1 (fun h=> by cases h.1) (fun h=> by rw [h] at t2;exact absurd t2 (by decide))
        generalize JaH 0 rs d=W at t2 hen
        generalize Jaq 0 a0=z at hwh hen
        refine stp ?_
        refine Jah 14 [((20,nx0), .c [Jf nm,int a0,int a1,int a2,int a3,int a4,int mux,int sub]),((1,s1), .c [u32 (d:Nat),Jb x, .os 0 0 (fun _=> .any) none,Ja 11 (st1 1),Ja 12 (st1 2),Ja 13 (st1 3),Ja 14 (st1 4),Ja 15 (st1 5),Ja 16 (st1 6)]),((0,s0), .c [int dk,int dn,Jb x,Jj ps])] (fun i=> match i with | 12=> true | _=> false) (fun i=> match i with | 8=> true | _=> false) [0,1,2,3,4,5,6,7,8,9,10,11,13,12] (by kernel_rfl) (by kernel_rfl) (HB.cons rfl (HB.cons rfl (HB.one rfl))) ?_
        refine stp ?_
        refine ⟨_,Jae rfl rfl rfl hwh ⟨AVle.refl _,AVle.of_eq (congrArg u32 (Jcg (by omega) (hn 0))),trivial⟩ (NoId.v _), ?_⟩
        refine stp ?_
        refine ⟨_,Jb6 (e:=78) (szx:=2) (m:=1) rfl rfl rfl (.inr ⟨_,rfl⟩) Tryz.underlying35 JdI gc_ent.symm (by decide) (JO rfl) (by rw [JdJ];omega) (by omega) (fun _=> (HB.cons rfl (HB.cons rfl (HB.one rfl)))),fun r h' hr=> ?_⟩
        obtain ⟨ncap,hge,rfl,rfl⟩:=hr
        refine stp ?_
        exact back (1,Jw st1 0 ([]++ [(z,Jr W)],some (nx3,ncap,List.replicate ((ncap - 1) * 2) .any)),nx3+1) ⟨by dsimp only;omega,JbM hok1 ⟨(by simpa using hge),by rw [List.length_replicate];show ncap * 2≤1 * 2+_;omega⟩,Ja9 (R:= []) hdone hrs (by rw [hk,hrk]) hen,Jba hrest⟩ (by dsimp only;omega) (ELe.trans (Jn (pm:= []) (bx:= [((20,nx0), .c [Jf nm,int a0,int a1,int a2,int a3,int a4,int mux,int sub]),((1,s1), .c (Jo d x (Jw st1 0 ([]++ [(z,Jr W)],some (nx3,ncap,List.replicate ((ncap - 1) * 2) .any))))),((0,s0), .c [int dk,int dn,Jb x,Jj ps])]++(JaA 10 ([]++ [(z,Jr W)],some (nx3,ncap,List.replicate ((ncap - 1) * 2) .any))++Jm 0 st1)) (L:= [(1,Jr rs),(2, .bp (0,s0) 0),(3, .bp (1,s1) 0),(4, .bp (20,nx0) 0),(9,int (1:Nat))]) ([((20,nx0), .c [Jf nm,int a0,int a1,int a2,int a3,int a4,int mux,int sub]),((1,s1),Own.c [u32 (d:Nat),Jb x, .hs (21,nx3) 0 1 ncap,Ja 11 (st1 1),Ja 12 (st1 2),Ja 13 (st1 3),Ja 14 (st1 4),Ja 15 (st1 5),Ja 16 (st1 6)]),((0,s0), .c [int dk,int dn,Jb x,Jj ps])]++(((21,nx3), .c _)::Jm 0 st1)) ([((20,nx0), .c [Jf nm,int a0,int a1,int a2,int a3,int a4,int mux,int sub]),((1,s1),Own.c [u32 (d:Nat),Jb x, .hs (21,nx3) 0 1 ncap,Ja 11 (st1 1),Ja 12 (st1 2),Ja 13 (st1 3),Ja 14 (st1 4),Ja 15 (st1 5),Ja 16 (st1 6)]),((0,s0), .c [int dk,int dn,Jb x,Jj ps])]++(((21,nx3), .c _)::Jm 0 st1)) [] rfl rfl List.perm_middle (List.Sublist.refl _) (List.Sublist.refl _) (bx4 rfl (JkA (Ja5 (R:= []))) (Jdm gc_ent rfl)) trivial ⟨AVle.refl _,AVle.refl _,AVle.refl _,AVle.refl _,Jk rfl,trivial⟩) (JbE (k:=0) (by decide)))
      ·have t1:=JD t1
       refine stp ?_
       exact back (1,st1,nx2) ⟨by dsimp only;omega,hok1,Jav hdone hrs (Jal (.inl t1)),fun j hj=> hrest j (by dsimp only at hj;omega)⟩ (by dsimp only;omega) (Jn ([((20,nx0), .c [Jf nm,int a0,int a1,int a2,int a3,int a4,int mux,int sub]),((1,s1), .c [u32 (d:Nat),Jb x, .os 0 0 (fun _=> .any) none,Ja 11 (st1 1),Ja 12 (st1 2),Ja 13 (st1 3),Ja 14 (st1 4),Ja 15 (st1 5),Ja 16 (st1 6)]),((0,s0), .c [int dk,int dn,Jb x,Jj ps])]++Jy st1) ([((20,nx0), .c [Jf nm,int a0,int a1,int a2,int a3,int a4,int mux,int sub]),((1,s1), .c [u32 (d:Nat),Jb x, .os 0 0 (fun _=> .any) none,Ja 11 (st1 1),Ja 12 (st1 2),Ja 13 (st1 3),Ja 14 (st1 4),Ja 15 (st1 5),Ja 16 (st1 6)]),((0,s0), .c [int dk,int dn,Jb x,Jj ps])]++Jy st1) [] rfl rfl (List.Perm.append_left _ hP) (List.Sublist.refl _) (List.Sublist.refl _) (BxLe.of_eq (by rw [eo])) trivial ⟨AVle.refl _,AVle.refl _,AVle.refl _,AVle.refl _,Jk rfl,trivial⟩)
     ·rw [hk] at hP hrk hln
      dsimp only at hln
      have eo:Jo d x st1= [u32 (d:Nat),Jb x, .hs (10,s) 0 R.length cap,Ja 11 (st1 1),Ja 12 (st1 2),Ja 13 (st1 3),Ja 14 (st1 4),Ja 15 (st1 5),Ja 16 (st1 6)]:=by simp only [Jo,hk,Ja]
      refine AW.le (E':=mk 75 [(1,Jr rs),(2, .bp (0,s0) 0),(3, .bp (1,s1) 0),(4, .bp (20,nx0) 0),(9,int (0:Nat))] (⟨[((20,nx0), .c [Jf nm,int a0,int a1,int a2,int a3,int a4,int mux,int sub]),((1,s1), .c [u32 (d:Nat),Jb x, .hs (10,s) 0 R.length cap,Ja 11 (st1 1),Ja 12 (st1 2),Ja 13 (st1 3),Ja 14 (st1 4),Ja 15 (st1 5),Ja 16 (st1 6)]),((0,s0), .c [int dk,int dn,Jb x,Jj ps])]++(((10,s),Own.c (Jt R++tl))::Jm 0 st1), [],nx2,21⟩:Heap)) (Jn ([((20,nx0), .c [Jf nm,int a0,int a1,int a2,int a3,int a4,int mux,int sub]),((1,s1), .c (Jo d x st1)),((0,s0), .c [int dk,int dn,Jb x,Jj ps])]++(((10,s),Own.c (Jt R++tl))::Jm 0 st1)) ([((20,nx0), .c [Jf nm,int a0,int a1,int a2,int a3,int a4,int mux,int sub]),((1,s1), .c (Jo d x st1)),((0,s0), .c [int dk,int dn,Jb x,Jj ps])]++(((10,s),Own.c (Jt R++tl))::Jm 0 st1)) [] rfl rfl (List.Perm.append_left _ hP.symm) (List.Sublist.refl _) (List.Sublist.refl _) (BxLe.of_eq (by rw [eo])) trivial ⟨AVle.refl _,AVle.refl _,AVle.refl _,AVle.refl _,AVle.refl _,trivial⟩) ?_
      refine stp ?_
      intro c t1;cases c
      ·have t1:=JC t1
       refine stp ?_
       refine Jd rfl rfl (Jb3 0 rs d (by decide) hl hc) ⟨AVle.refl _,AVle.refl _,AVle.refl _,trivial⟩ fun nx3=> ?_
       refine stp ?_
       intro c t2;cases c
       ·have t2:=JC t2
        refine stp ?_
        exact back (1,st1,nx3) ⟨by dsimp only;omega,hok1,Jav hdone hrs (Jal (.inr (.inr (List.eq_nil_of_length_eq_zero (by omega))))),fun j hj=> hrest j (by dsimp only at hj;omega)⟩ (by dsimp only;omega) (Jn ([((20,nx0), .c [Jf nm,int a0,int a1,int a2,int a3,int a4,int mux,int sub]),((1,s1), .c [u32 (d:Nat),Jb x, .hs (10,s) 0 R.length cap,Ja 11 (st1 1),Ja 12 (st1 2),Ja 13 (st1 3),Ja 14 (st1 4),Ja 15 (st1 5),Ja 16 (st1 6)]),((0,s0), .c [int dk,int dn,Jb x,Jj ps])]++Jy st1) ([((20,nx0), .c [Jf nm,int a0,int a1,int a2,int a3,int a4,int mux,int sub]),((1,s1), .c [u32 (d:Nat),Jb x, .hs (10,s) 0 R.length cap,Ja 11 (st1 1),Ja 12 (st1 2),Ja 13 (st1 3),Ja 14 (st1 4),Ja 15 (st1 5),Ja 16 (st1 6)]),((0,s0), .c [int dk,int dn,Jb x,Jj ps])]++Jy st1) [] rfl rfl (List.Perm.append_left _ hP) (List.Sublist.refl _) (List.Sublist.refl _) (BxLe.of_eq (by rw [eo])) trivial ⟨AVle.refl _,AVle.refl _,AVle.refl _,AVle.refl _,Jk rfl,trivial⟩)
       ·have t2:=JD t2
        have hwh:=JbI 0 a0 (by omega) (hn 0)
        have hen:Jas 0 d x ⟨nm,a0,a1,a2,a3,a4,mux,sub⟩ rs= [⟨Jaq 0 a0,JaH 0 rs d⟩]:=Jb4 t1 (fun h=> by cases h.1) (fun h=> by rw [h] at t2;exact absurd t2 (by decide))
        generalize JaH 0 rs d=W at t2 hen
        generalize Jaq 0 a0=z at hwh hen
        refine stp ?_
        refine Jah 14 [((20,nx0), .c [Jf nm,int a0,int a1,int a2,int a3,int a4,int mux,int sub]),((1,s1), .c [u32 (d:Nat),Jb x, .hs (10,s) 0 R.length cap,Ja 11 (st1 1),Ja 12 (st1 2),Ja 13 (st1 3),Ja 14 (st1 4),Ja 15 (st1 5),Ja 16 (st1 6)]),((0,s0), .c [int dk,int dn,Jb x,Jj ps])] (fun i=> match i with | 12=> true | _=> false) (fun i=> match i with | 8=> true | _=> false) [0,1,2,3,4,5,6,7,8,9,10,11,13,12] (by kernel_rfl) (by kernel_rfl) (HB.cons rfl (HB.cons rfl (HB.one rfl))) ?_
        refine stp ?_
        refine ⟨_,Jae rfl rfl rfl hwh ⟨AVle.refl _,AVle.of_eq (congrArg u32 (Jcg (by omega) (hn 0))),trivial⟩ (NoId.v _), ?_⟩
        refine stp ?_
        refine ⟨_,Jcs (e:=78) (szx:=2) (m:=1) (n:=R.length) (cap:=cap) (i:=(10,s)) (cs:=Jt R++tl) rfl rfl rfl (.inr ⟨_,rfl⟩) Tryz.underlying35 JdI gc_ent.symm (by decide) rfl hrk.1 (by rw [gc_ent,List.length_append,Jbj];exact hrk.2) (JO rfl) (by rw [JdJ];omega) (by omega) (HB.cons rfl (HB.cons rfl (HB.one rfl))) (fun _=> (HB.cons rfl (HB.cons rfl (HB.one rfl)))),fun r h' hr=> ?_⟩
        rcases hr with ⟨hfit,rfl,rfl⟩ | ⟨ncap,hge,rfl,rfl⟩
        ·refine stp ?_
         exact back (1,Jw st1 0 (R++ [(z,Jr W)],some (s,cap,tl.drop 2)),nx3) ⟨by dsimp only;omega,JbM hok1 ⟨by rw [List.length_append];exact hfit,by have:=hrk.2;rw [List.length_append,List.length_drop,List.length_singleton];omega⟩,Ja9 (R:=R) hdone hrs hk hen,Jba hrest⟩ (by dsimp only;omega) (ELe.trans (Jn (pm:= []) (bx:= [((20,nx0), .c [Jf nm,int a0,int a1,int a2,int a3,int a4,int mux,int sub]),((1,s1), .c (Jo d x (Jw st1 0 (R++ [(z,Jr W)],some (s,cap,tl.drop 2))))),((0,s0), .c [int dk,int dn,Jb x,Jj ps])]++(JaA 10 (R++ [(z,Jr W)],some (s,cap,tl.drop 2))++Jm 0 st1)) (L:= [(1,Jr rs),(2, .bp (0,s0) 0),(3, .bp (1,s1) 0),(4, .bp (20,nx0) 0),(9,int (1:Nat))]) ([((20,nx0), .c [Jf nm,int a0,int a1,int a2,int a3,int a4,int mux,int sub]),((1,s1),Own.c [u32 (d:Nat),Jb x, .hs (10,s) 0 (R.length+1) cap,Ja 11 (st1 1),Ja 12 (st1 2),Ja 13 (st1 3),Ja 14 (st1 4),Ja 15 (st1 5),Ja 16 (st1 6)]),((0,s0), .c [int dk,int dn,Jb x,Jj ps])]++(((10,s), .c _)::Jm 0 st1)) ([((20,nx0), .c [Jf nm,int a0,int a1,int a2,int a3,int a4,int mux,int sub]),((1,s1),Own.c [u32 (d:Nat),Jb x, .hs (10,s) 0 (R.length+1) cap,Ja 11 (st1 1),Ja 12 (st1 2),Ja 13 (st1 3),Ja 14 (st1 4),Ja 15 (st1 5),Ja 16 (st1 6)]),((0,s0), .c [int dk,int dn,Jb x,Jj ps])]++(((10,s), .c _)::Jm 0 st1)) [] rfl rfl (List.Perm.refl _) (List.Sublist.refl _) (List.Sublist.refl _) (bx4 rfl (JkA (Ja5)) (Jfv gc_ent rfl)) trivial ⟨AVle.refl _,AVle.refl _,AVle.refl _,AVle.refl _,Jk rfl,trivial⟩) (JbE (k:=0) (by decide)))
        ·refine stp ?_
         exact back (1,Jw st1 0 (R++ [(z,Jr W)],some (nx3,ncap,List.replicate ((ncap - (R.length+1)) * 2) .any)),nx3+1) ⟨by dsimp only;omega,JbM hok1 ⟨by rw [List.length_append];exact hge,by rw [List.length_append,List.length_replicate,List.length_singleton,← Nat.add_mul];omega⟩,Ja9 (R:=R) hdone hrs hk hen,Jba hrest⟩ (by dsimp only;omega) (ELe.trans (Jn (pm:= []) (bx:= [((20,nx0), .c [Jf nm,int a0,int a1,int a2,int a3,int a4,int mux,int sub]),((1,s1), .c (Jo d x (Jw st1 0 (R++ [(z,Jr W)],some (nx3,ncap,List.replicate ((ncap - (R.length+1)) * 2) .any))))),((0,s0), .c [int dk,int dn,Jb x,Jj ps])]++(JaA 10 (R++ [(z,Jr W)],some (nx3,ncap,List.replicate ((ncap - (R.length+1)) * 2) .any))++Jm 0 st1)) (L:= [(1,Jr rs),(2, .bp (0,s0) 0),(3, .bp (1,s1) 0),(4, .bp (20,nx0) 0),(9,int (1:Nat))]) ([((20,nx0), .c [Jf nm,int a0,int a1,int a2,int a3,int a4,int mux,int sub]),((1,s1),Own.c [u32 (d:Nat),Jb x, .hs (21,nx3) 0 (R.length+1) ncap,Ja 11 (st1 1),Ja 12 (st1 2),Ja 13 (st1 3),Ja 14 (st1 4),Ja 15 (st1 5),Ja 16 (st1 6)]),((0,s0), .c [int dk,int dn,Jb x,Jj ps])]++(((21,nx3), .c _)::((10,s),Own.c (Jt R++tl))::Jm 0 st1)) ([((20,nx0), .c [Jf nm,int a0,int a1,int a2,int a3,int a4,int mux,int sub]),((1,s1),Own.c [u32 (d:Nat),Jb x, .hs (21,nx3) 0 (R.length+1) ncap,Ja 11 (st1 1),Ja 12 (st1 2),Ja 13 (st1 3),Ja 14 (st1 4),Ja 15 (st1 5),Ja 16 (st1 6)]),((0,s0), .c [int dk,int dn,Jb x,Jj ps])]++(((21,nx3), .c _)::Jm 0 st1)) [] rfl rfl List.perm_middle (List.Sublist.append_left (.cons_cons _ (.cons _ (List.Sublist.refl _))) _) (List.Sublist.refl _) (bx4 rfl (JkA (Ja5)) (JdR gc_ent rfl)) trivial ⟨AVle.refl _,AVle.refl _,AVle.refl _,AVle.refl _,Jk rfl,trivial⟩) (JbE (k:=0) (by decide)))
      ·have t1:=JD t1
       refine stp ?_
       exact back (1,st1,nx2) ⟨by dsimp only;omega,hok1,Jav hdone hrs (Jal (.inl t1)),fun j hj=> hrest j (by dsimp only at hj;omega)⟩ (by dsimp only;omega) (Jn ([((20,nx0), .c [Jf nm,int a0,int a1,int a2,int a3,int a4,int mux,int sub]),((1,s1), .c [u32 (d:Nat),Jb x, .hs (10,s) 0 R.length cap,Ja 11 (st1 1),Ja 12 (st1 2),Ja 13 (st1 3),Ja 14 (st1 4),Ja 15 (st1 5),Ja 16 (st1 6)]),((0,s0), .c [int dk,int dn,Jb x,Jj ps])]++Jy st1) ([((20,nx0), .c [Jf nm,int a0,int a1,int a2,int a3,int a4,int mux,int sub]),((1,s1), .c [u32 (d:Nat),Jb x, .hs (10,s) 0 R.length cap,Ja 11 (st1 1),Ja 12 (st1 2),Ja 13 (st1 3),Ja 14 (st1 4),Ja 15 (st1 5),Ja 16 (st1 6)]),((0,s0), .c [int dk,int dn,Jb x,Jj ps])]++Jy st1) [] rfl rfl (List.Perm.append_left _ hP) (List.Sublist.refl _) (List.Sublist.refl _) (BxLe.of_eq (by rw [eo])) trivial ⟨AVle.refl _,AVle.refl _,AVle.refl _,AVle.refl _,Jk rfl,trivial⟩)
    ·have hP:=JcN (k:=1) (by decide) st1
     have hrk:Jbx (st1 1):=hok1 _ (by decide)
     have hrs:st1 1=st 1:=hrest _ (Nat.le_refl _)
     have hln:(st1 1).1.length≤1000000:=by rw [hrs];exact hlen _ (by decide)
     rcases hk:st1 1 with ⟨R,_ | ⟨s,cap,tl⟩⟩
     ·rw [hk] at hP hrk hln
      dsimp only at hln
      have eo:Jo d x st1= [u32 (d:Nat),Jb x,Ja 10 (st1 0), .os 0 0 (fun _=> .any) none,Ja 12 (st1 2),Ja 13 (st1 3),Ja 14 (st1 4),Ja 15 (st1 5),Ja 16 (st1 6)]:=by simp only [Jo,hk,Ja]
      refine AW.le (E':=mk 75 [(1,Jr rs),(2, .bp (0,s0) 0),(3, .bp (1,s1) 0),(4, .bp (20,nx0) 0),(9,int (1:Nat))] (⟨[((20,nx0), .c [Jf nm,int a0,int a1,int a2,int a3,int a4,int mux,int sub]),((1,s1), .c [u32 (d:Nat),Jb x,Ja 10 (st1 0), .os 0 0 (fun _=> .any) none,Ja 12 (st1 2),Ja 13 (st1 3),Ja 14 (st1 4),Ja 15 (st1 5),Ja 16 (st1 6)]),((0,s0), .c [int dk,int dn,Jb x,Jj ps])]++(Jm 1 st1), [],nx2,21⟩:Heap)) (Jn ([((20,nx0), .c [Jf nm,int a0,int a1,int a2,int a3,int a4,int mux,int sub]),((1,s1), .c (Jo d x st1)),((0,s0), .c [int dk,int dn,Jb x,Jj ps])]++(Jm 1 st1)) ([((20,nx0), .c [Jf nm,int a0,int a1,int a2,int a3,int a4,int mux,int sub]),((1,s1), .c (Jo d x st1)),((0,s0), .c [int dk,int dn,Jb x,Jj ps])]++(Jm 1 st1)) [] rfl rfl (List.Perm.append_left _ hP.symm) (List.Sublist.refl _) (List.Sublist.refl _) (BxLe.of_eq (by rw [eo])) trivial ⟨AVle.refl _,AVle.refl _,AVle.refl _,AVle.refl _,AVle.refl _,trivial⟩) ?_
      refine stp ?_
      intro c t1;cases c
      ·have t1:=JC t1
       cases x
       ·refine stp ?_
        exact back (2,st1,nx2) ⟨by dsimp only;omega,hok1,Jav hdone hrs (Jal (.inr (.inl ⟨rfl,rfl⟩))),fun j hj=> hrest j (by dsimp only at hj;omega)⟩ (by dsimp only;omega) (Jn ([((20,nx0), .c [Jf nm,int a0,int a1,int a2,int a3,int a4,int mux,int sub]),((1,s1), .c [u32 (d:Nat),Jb false,Ja 10 (st1 0), .os 0 0 (fun _=> .any) none,Ja 12 (st1 2),Ja 13 (st1 3),Ja 14 (st1 4),Ja 15 (st1 5),Ja 16 (st1 6)]),((0,s0), .c [int dk,int dn,Jb false,Jj ps])]++Jy st1) ([((20,nx0), .c [Jf nm,int a0,int a1,int a2,int a3,int a4,int mux,int sub]),((1,s1), .c [u32 (d:Nat),Jb false,Ja 10 (st1 0), .os 0 0 (fun _=> .any) none,Ja 12 (st1 2),Ja 13 (st1 3),Ja 14 (st1 4),Ja 15 (st1 5),Ja 16 (st1 6)]),((0,s0), .c [int dk,int dn,Jb false,Jj ps])]++Jy st1) [] rfl rfl (List.Perm.append_left _ hP) (List.Sublist.refl _) (List.Sublist.refl _) (BxLe.of_eq (by rw [eo])) trivial ⟨AVle.refl _,AVle.refl _,AVle.refl _,AVle.refl _,Jk rfl,trivial⟩)
       ·refine stp ?_
        refine Jd rfl rfl (Jb3 1 rs d (by decide) hl hc) ⟨AVle.refl _,AVle.refl _,AVle.refl _,trivial⟩ fun nx3=> ?_
        refine stp ?_
        intro c t2;cases c
        ·have t2:=JC t2
         refine stp ?_
         exact back (2,st1,nx3) ⟨by dsimp only;omega,hok1,Jav hdone hrs (Jal (.inr (.inr (List.eq_nil_of_length_eq_zero (by omega))))),fun j hj=> hrest j (by dsimp only at hj;omega)⟩ (by dsimp only;omega) (Jn ([((20,nx0), .c [Jf nm,int a0,int a1,int a2,int a3,int a4,int mux,int sub]),((1,s1), .c [u32 (d:Nat),Jb true,Ja 10 (st1 0), .os 0 0 (fun _=> .any) none,Ja 12 (st1 2),Ja 13 (st1 3),Ja 14 (st1 4),Ja 15 (st1 5),Ja 16 (st1 6)]),((0,s0), .c [int dk,int dn,Jb true,Jj ps])]++Jy st1) ([((20,nx0), .c [Jf nm,int a0,int a1,int a2,int a3,int a4,int mux,int sub]),((1,s1), .c [u32 (d:Nat),Jb true,Ja 10 (st1 0), .os 0 0 (fun _=> .any) none,Ja 12 (st1 2),Ja 13 (st1 3),Ja 14 (st1 4),Ja 15 (st1 5),Ja 16 (st1 6)]),((0,s0), .c [int dk,int dn,Jb true,Jj ps])]++Jy st1) [] rfl rfl (List.Perm.append_left _ hP) (List.Sublist.refl _) (List.Sublist.refl _) (BxLe.of_eq (by rw [eo])) trivial ⟨AVle.refl _,AVle.refl _,AVle.refl _,AVle.refl _,Jk rfl,trivial⟩)
        ·have t2:=JD t2
         have hwh:=JbI 1 a1 (by omega) (hn 1)
         have hen:Jas 1 d true ⟨nm,a0,a1,a2,a3,a4,mux,sub⟩ rs= [⟨Jaq 1 a1,JaH 1 rs d⟩]:=Jb4 t1 (fun h=> by cases h.2) (fun h=> by rw [h] at t2;exact absurd t2 (by decide))
         generalize JaH 1 rs d=W at t2 hen
         generalize Jaq 1 a1=z at hwh hen
         refine stp ?_
         refine Jah 14 [((20,nx0), .c [Jf nm,int a0,int a1,int a2,int a3,int a4,int mux,int sub]),((1,s1), .c [u32 (d:Nat),Jb true,Ja 10 (st1 0), .os 0 0 (fun _=> .any) none,Ja 12 (st1 2),Ja 13 (st1 3),Ja 14 (st1 4),Ja 15 (st1 5),Ja 16 (st1 6)]),((0,s0), .c [int dk,int dn,Jb true,Jj ps])] (fun i=> match i with | 12=> true | _=> false) (fun i=> match i with | 8=> true | _=> false) [0,1,2,3,4,5,6,7,8,9,10,11,13,12] (by kernel_rfl) (by kernel_rfl) (HB.cons rfl (HB.cons rfl (HB.one rfl))) ?_
         refine stp ?_
         refine ⟨_,Jae rfl rfl rfl hwh ⟨AVle.refl _,AVle.of_eq (congrArg u32 (Jcg (by omega) (hn 1))),trivial⟩ (NoId.v _), ?_⟩
         refine stp ?_
         refine ⟨_,Jb6 (e:=78) (szx:=2) (m:=1) rfl rfl rfl (.inr ⟨_,rfl⟩) Tryz.underlying35 JdI gc_ent.symm (by decide) (JO rfl) (by rw [JdJ];omega) (by omega) (fun _=> (HB.cons rfl (HB.cons rfl (HB.one rfl)))),fun r h' hr=> ?_⟩
         obtain ⟨ncap,hge,rfl,rfl⟩:=hr
         refine stp ?_
         exact back (2,Jw st1 1 ([]++ [(z,Jr W)],some (nx3,ncap,List.replicate ((ncap - 1) * 2) .any)),nx3+1) ⟨by dsimp only;omega,JbM hok1 ⟨(by simpa using hge),by rw [List.length_replicate];show ncap * 2≤1 * 2+_;omega⟩,Ja9 (R:= []) hdone hrs (by rw [hk,hrk]) hen,Jba hrest⟩ (by dsimp only;omega) (ELe.trans (Jn (pm:= []) (bx:= [((20,nx0), .c [Jf nm,int a0,int a1,int a2,int a3,int a4,int mux,int sub]),((1,s1), .c (Jo d true (Jw st1 1 ([]++ [(z,Jr W)],some (nx3,ncap,List.replicate ((ncap - 1) * 2) .any))))),((0,s0), .c [int dk,int dn,Jb true,Jj ps])]++(JaA 11 ([]++ [(z,Jr W)],some (nx3,ncap,List.replicate ((ncap - 1) * 2) .any))++Jm 1 st1)) (L:= [(1,Jr rs),(2, .bp (0,s0) 0),(3, .bp (1,s1) 0),(4, .bp (20,nx0) 0),(9,int (2:Nat))]) ([((20,nx0), .c [Jf nm,int a0,int a1,int a2,int a3,int a4,int mux,int sub]),((1,s1),Own.c [u32 (d:Nat),Jb true,Ja 10 (st1 0), .hs (21,nx3) 0 1 ncap,Ja 12 (st1 2),Ja 13 (st1 3),Ja 14 (st1 4),Ja 15 (st1 5),Ja 16 (st1 6)]),((0,s0), .c [int dk,int dn,Jb true,Jj ps])]++(((21,nx3), .c _)::Jm 1 st1)) ([((20,nx0), .c [Jf nm,int a0,int a1,int a2,int a3,int a4,int mux,int sub]),((1,s1),Own.c [u32 (d:Nat),Jb true,Ja 10 (st1 0), .hs (21,nx3) 0 1 ncap,Ja 12 (st1 2),Ja 13 (st1 3),Ja 14 (st1 4),Ja 15 (st1 5),Ja 16 (st1 6)]),((0,s0), .c [int dk,int dn,Jb true,Jj ps])]++(((21,nx3), .c _)::Jm 1 st1)) [] rfl rfl List.perm_middle (List.Sublist.refl _) (List.Sublist.refl _) (bx4 rfl (JkB (Ja5 (R:= []))) (Jdm gc_ent rfl)) trivial ⟨AVle.refl _,AVle.refl _,AVle.refl _,AVle.refl _,Jk rfl,trivial⟩) (JbE (k:=1) (by decide)))
      ·have t1:=JD t1
       refine stp ?_
       exact back (2,st1,nx2) ⟨by dsimp only;omega,hok1,Jav hdone hrs (Jal (.inl t1)),fun j hj=> hrest j (by dsimp only at hj;omega)⟩ (by dsimp only;omega) (Jn ([((20,nx0), .c [Jf nm,int a0,int a1,int a2,int a3,int a4,int mux,int sub]),((1,s1), .c [u32 (d:Nat),Jb x,Ja 10 (st1 0), .os 0 0 (fun _=> .any) none,Ja 12 (st1 2),Ja 13 (st1 3),Ja 14 (st1 4),Ja 15 (st1 5),Ja 16 (st1 6)]),((0,s0), .c [int dk,int dn,Jb x,Jj ps])]++Jy st1) ([((20,nx0), .c [Jf nm,int a0,int a1,int a2,int a3,int a4,int mux,int sub]),((1,s1), .c [u32 (d:Nat),Jb x,Ja 10 (st1 0), .os 0 0 (fun _=> .any) none,Ja 12 (st1 2),Ja 13 (st1 3),Ja 14 (st1 4),Ja 15 (st1 5),Ja 16 (st1 6)]),((0,s0), .c [int dk,int dn,Jb x,Jj ps])]++Jy st1) [] rfl rfl (List.Perm.append_left _ hP) (List.Sublist.refl _) (List.Sublist.refl _) (BxLe.of_eq (by rw [eo])) trivial ⟨AVle.refl _,AVle.refl _,AVle.refl _,AVle.refl _,Jk rfl,trivial⟩)
     ·rw [hk] at hP hrk hln
      dsimp only at hln
      have eo:Jo d x st1= [u32 (d:Nat),Jb x,Ja 10 (st1 0), .hs (11,s) 0 R.length cap,Ja 12 (st1 2),Ja 13 (st1 3),Ja 14 (st1 4),Ja 15 (st1 5),Ja 16 (st1 6)]:=by simp only [Jo,hk,Ja]
      refine AW.le (E':=mk 75 [(1,Jr rs),(2, .bp (0,s0) 0),(3, .bp (1,s1) 0),(4, .bp (20,nx0) 0),(9,int (1:Nat))] (⟨[((20,nx0), .c [Jf nm,int a0,int a1,int a2,int a3,int a4,int mux,int sub]),((1,s1), .c [u32 (d:Nat),Jb x,Ja 10 (st1 0), .hs (11,s) 0 R.length cap,Ja 12 (st1 2),Ja 13 (st1 3),Ja 14 (st1 4),Ja 15 (st1 5),Ja 16 (st1 6)]),((0,s0), .c [int dk,int dn,Jb x,Jj ps])]++(((11,s),Own.c (Jt R++tl))::Jm 1 st1), [],nx2,21⟩:Heap)) (Jn ([((20,nx0), .c [Jf nm,int a0,int a1,int a2,int a3,int a4,int mux,int sub]),((1,s1), .c (Jo d x st1)),((0,s0), .c [int dk,int dn,Jb x,Jj ps])]++(((11,s),Own.c (Jt R++tl))::Jm 1 st1)) ([((20,nx0), .c [Jf nm,int a0,int a1,int a2,int a3,int a4,int mux,int sub]),((1,s1), .c (Jo d x st1)),((0,s0), .c [int dk,int dn,Jb x,Jj ps])]++(((11,s),Own.c (Jt R++tl))::Jm 1 st1)) [] rfl rfl (List.Perm.append_left _ hP.symm) (List.Sublist.refl _) (List.Sublist.refl _) (BxLe.of_eq (by rw [eo])) trivial ⟨AVle.refl _,AVle.refl _,AVle.refl _,AVle.refl _,AVle.refl _,trivial⟩) ?_
      refine stp ?_
      intro c t1;cases c
      ·have t1:=JC t1
       cases x
       ·refine stp ?_
        exact back (2,st1,nx2) ⟨by dsimp only;omega,hok1,Jav hdone hrs (Jal (.inr (.inl ⟨rfl,rfl⟩))),fun j hj=> hrest j (by dsimp only at hj;omega)⟩ (by dsimp only;omega) (Jn ([((20,nx0), .c [Jf nm,int a0,int a1,int a2,int a3,int a4,int mux,int sub]),((1,s1), .c [u32 (d:Nat),Jb false,Ja 10 (st1 0), .hs (11,s) 0 R.length cap,Ja 12 (st1 2),Ja 13 (st1 3),Ja 14 (st1 4),Ja 15 (st1 5),Ja 16 (st1 6)]),((0,s0), .c [int dk,int dn,Jb false,Jj ps])]++Jy st1) ([((20,nx0), .c [Jf nm,int a0,int a1,int a2,int a3,int a4,int mux,int sub]),((1,s1), .c [u32 (d:Nat),Jb false,Ja 10 (st1 0), .hs (11,s) 0 R.length cap,Ja 12 (st1 2),Ja 13 (st1 3),Ja 14 (st1 4),Ja 15 (st1 5),Ja 16 (st1 6)]),((0,s0), .c [int dk,int dn,Jb false,Jj ps])]++Jy st1) [] rfl rfl (List.Perm.append_left _ hP) (List.Sublist.refl _) (List.Sublist.refl _) (BxLe.of_eq (by rw [eo])) trivial ⟨AVle.refl _,AVle.refl _,AVle.refl _,AVle.refl _,Jk rfl,trivial⟩)
       ·refine stp ?_
        refine Jd rfl rfl (Jb3 1 rs d (by decide) hl hc) ⟨AVle.refl _,AVle.refl _,AVle.refl _,trivial⟩ fun nx3=> ?_
        refine stp ?_
        intro c t2;cases c
        ·have t2:=JC t2
         refine stp ?_
         exact back (2,st1,nx3) ⟨by dsimp only;omega,hok1,Jav hdone hrs (Jal (.inr (.inr (List.eq_nil_of_length_eq_zero (by omega))))),fun j hj=> hrest j (by dsimp only at hj;omega)⟩ (by dsimp only;omega) (Jn ([((20,nx0), .c [Jf nm,int a0,int a1,int a2,int a3,int a4,int mux,int sub]),((1,s1), .c [u32 (d:Nat),Jb true,Ja 10 (st1 0), .hs (11,s) 0 R.length cap,Ja 12 (st1 2),Ja 13 (st1 3),Ja 14 (st1 4),Ja 15 (st1 5),Ja 16 (st1 6)]),((0,s0), .c [int dk,int dn,Jb true,Jj ps])]++Jy st1) ([((20,nx0), .c [Jf nm,int a0,int a1,int a2,int a3,int a4,int mux,int sub]),((1,s1), .c [u32 (d:Nat),Jb true,Ja 10 (st1 0), .hs (11,s) 0 R.length cap,Ja 12 (st1 2),Ja 13 (st1 3),Ja 14 (st1 4),Ja 15 (st1 5),Ja 16 (st1 6)]),((0,s0), .c [int dk,int dn,Jb true,Jj ps])]++Jy st1) [] rfl rfl (List.Perm.append_left _ hP) (List.Sublist.refl _) (List.Sublist.refl _) (BxLe.of_eq (by rw [eo])) trivial ⟨AVle.refl _,AVle.refl _,AVle.refl _,AVle.refl _,Jk rfl,trivial⟩)
        ·have t2:=JD t2
         have hwh:=JbI 1 a1 (by omega) (hn 1)
         have hen:Jas 1 d true ⟨nm,a0,a1,a2,a3,a4,mux,sub⟩ rs= [⟨Jaq 1 a1,JaH 1 rs d⟩]:=Jb4 t1 (fun h=> by cases h.2) (fun h=> by rw [h] at t2;exact absurd t2 (by decide))
         generalize JaH 1 rs d=W at t2 hen
         generalize Jaq 1 a1=z at hwh hen
         refine stp ?_
         refine Jah 14 [((20,nx0), .c [Jf nm,int a0,int a1,int a2,int a3,int a4,int mux,int sub]),((1,s1), .c [u32 (d:Nat),Jb true,Ja 10 (st1 0), .hs (11,s) 0 R.length cap,Ja 12 (st1 2),Ja 13 (st1 3),Ja 14 (st1 4),Ja 15 (st1 5),Ja 16 (st1 6)]),((0,s0), .c [int dk,int dn,Jb true,Jj ps])] (fun i=> match i with | 12=> true | _=> false) (fun i=> match i with | 8=> true | _=> false) [0,1,2,3,4,5,6,7,8,9,10,11,13,12] (by kernel_rfl) (by kernel_rfl) (HB.cons rfl (HB.cons rfl (HB.one rfl))) ?_
         refine stp ?_
         refine ⟨_,Jae rfl rfl rfl hwh ⟨AVle.refl _,AVle.of_eq (congrArg u32 (Jcg (by omega) (hn 1))),trivial⟩ (NoId.v _), ?_⟩
         refine stp ?_
         refine ⟨_,Jcs (e:=78) (szx:=2) (m:=1) (n:=R.length) (cap:=cap) (i:=(11,s)) (cs:=Jt R++tl) rfl rfl rfl (.inr ⟨_,rfl⟩) Tryz.underlying35 JdI gc_ent.symm (by decide) rfl hrk.1 (by rw [gc_ent,List.length_append,Jbj];exact hrk.2) (JO rfl) (by rw [JdJ];omega) (by omega) (HB.cons rfl (HB.cons rfl (HB.one rfl))) (fun _=> (HB.cons rfl (HB.cons rfl (HB.one rfl)))),fun r h' hr=> ?_⟩
         rcases hr with ⟨hfit,rfl,rfl⟩ | ⟨ncap,hge,rfl,rfl⟩
         ·refine stp ?_
          exact back (2,Jw st1 1 (R++ [(z,Jr W)],some (s,cap,tl.drop 2)),nx3) ⟨by dsimp only;omega,JbM hok1 ⟨by rw [List.length_append];exact hfit,by have:=hrk.2;rw [List.length_append,List.length_drop,List.length_singleton];omega⟩,Ja9 (R:=R) hdone hrs hk hen,Jba hrest⟩ (by dsimp only;omega) (ELe.trans (Jn (pm:= []) (bx:= [((20,nx0), .c [Jf nm,int a0,int a1,int a2,int a3,int a4,int mux,int sub]),((1,s1), .c (Jo d true (Jw st1 1 (R++ [(z,Jr W)],some (s,cap,tl.drop 2))))),((0,s0), .c [int dk,int dn,Jb true,Jj ps])]++(JaA 11 (R++ [(z,Jr W)],some (s,cap,tl.drop 2))++Jm 1 st1)) (L:= [(1,Jr rs),(2, .bp (0,s0) 0),(3, .bp (1,s1) 0),(4, .bp (20,nx0) 0),(9,int (2:Nat))]) ([((20,nx0), .c [Jf nm,int a0,int a1,int a2,int a3,int a4,int mux,int sub]),((1,s1),Own.c [u32 (d:Nat),Jb true,Ja 10 (st1 0), .hs (11,s) 0 (R.length+1) cap,Ja 12 (st1 2),Ja 13 (st1 3),Ja 14 (st1 4),Ja 15 (st1 5),Ja 16 (st1 6)]),((0,s0), .c [int dk,int dn,Jb true,Jj ps])]++(((11,s), .c _)::Jm 1 st1)) ([((20,nx0), .c [Jf nm,int a0,int a1,int a2,int a3,int a4,int mux,int sub]),((1,s1),Own.c [u32 (d:Nat),Jb true,Ja 10 (st1 0), .hs (11,s) 0 (R.length+1) cap,Ja 12 (st1 2),Ja 13 (st1 3),Ja 14 (st1 4),Ja 15 (st1 5),Ja 16 (st1 6)]),((0,s0), .c [int dk,int dn,Jb true,Jj ps])]++(((11,s), .c _)::Jm 1 st1)) [] rfl rfl (List.Perm.refl _) (List.Sublist.refl _) (List.Sublist.refl _) (bx4 rfl (JkB (Ja5)) (Jfv gc_ent rfl)) trivial ⟨AVle.refl _,AVle.refl _,AVle.refl _,AVle.refl _,Jk rfl,trivial⟩) (JbE (k:=1) (by decide)))
         ·refine stp ?_
          exact back (2,Jw st1 1 (R++ [(z,Jr W)],some (nx3,ncap,List.replicate ((ncap - (R.length+1)) * 2) .any)),nx3+1) ⟨by dsimp only;omega,JbM hok1 ⟨by rw [List.length_append];exact hge,by rw [List.length_append,List.length_replicate,List.length_singleton,← Nat.add_mul];omega⟩,Ja9 (R:=R) hdone hrs hk hen,Jba hrest⟩ (by dsimp only;omega) (ELe.trans (Jn (pm:= []) (bx:= [((20,nx0), .c [Jf nm,int a0,int a1,int a2,int a3,int a4,int mux,int sub]),((1,s1), .c (Jo d true (Jw st1 1 (R++ [(z,Jr W)],some (nx3,ncap,List.replicate ((ncap - (R.length+1)) * 2) .any))))),((0,s0), .c [int dk,int dn,Jb true,Jj ps])]++(JaA 11 (R++ [(z,Jr W)],some (nx3,ncap,List.replicate ((ncap - (R.length+1)) * 2) .any))++Jm 1 st1)) (L:= [(1,Jr rs),(2, .bp (0,s0) 0),(3, .bp (1,s1) 0),(4, .bp (20,nx0) 0),(9,int (2:Nat))]) ([((20,nx0), .c [Jf nm,int a0,int a1,int a2,int a3,int a4,int mux,int sub]),((1,s1),Own.c [u32 (d:Nat),Jb true,Ja 10 (st1 0), .hs (21,nx3) 0 (R.length+1) ncap,Ja 12 (st1 2),Ja 13 (st1 3),Ja 14 (st1 4),Ja 15 (st1 5),Ja 16 (st1 6)]),((0,s0), .c [int dk,int dn,Jb true,Jj ps])]++(((21,nx3), .c _)::((11,s),Own.c (Jt R++tl))::Jm 1 st1)) ([((20,nx0), .c [Jf nm,int a0,int a1,int a2,int a3,int a4,int mux,int sub]),((1,s1),Own.c [u32 (d:Nat),Jb true,Ja 10 (st1 0), .hs (21,nx3) 0 (R.length+1) ncap,Ja 12 (st1 2),Ja 13 (st1 3),Ja 14 (st1 4),Ja 15 (st1 5),Ja 16 (st1 6)]),((0,s0), .c [int dk,int dn,Jb true,Jj ps])]++(((21,nx3), .c _)::Jm 1 st1)) [] rfl rfl List.perm_middle (List.Sublist.append_left (.cons_cons _ (.cons _ (List.Sublist.refl _))) _) (List.Sublist.refl _) (bx4 rfl (JkB (Ja5)) (JdR gc_ent rfl)) trivial ⟨AVle.refl _,AVle.refl _,AVle.refl _,AVle.refl _,Jk rfl,trivial⟩) (JbE (k:=1) (by decide)))
      ·have t1:=JD t1
       refine stp ?_
       exact back (2,st1,nx2) ⟨by dsimp only;omega,hok1,Jav hdone hrs (Jal (.inl t1)),fun j hj=> hrest j (by dsimp only at hj;omega)⟩ (by dsimp only;omega) (Jn ([((20,nx0), .c [Jf nm,int a0,int a1,int a2,int a3,int a4,int mux,int sub]),((1,s1), .c [u32 (d:Nat),Jb x,Ja 10 (st1 0), .hs (11,s) 0 R.length cap,Ja 12 (st1 2),Ja 13 (st1 3),Ja 14 (st1 4),Ja 15 (st1 5),Ja 16 (st1 6)]),((0,s0), .c [int dk,int dn,Jb x,Jj ps])]++Jy st1) ([((20,nx0), .c [Jf nm,int a0,int a1,int a2,int a3,int a4,int mux,int sub]),((1,s1), .c [u32 (d:Nat),Jb x,Ja 10 (st1 0), .hs (11,s) 0 R.length cap,Ja 12 (st1 2),Ja 13 (st1 3),Ja 14 (st1 4),Ja 15 (st1 5),Ja 16 (st1 6)]),((0,s0), .c [int dk,int dn,Jb x,Jj ps])]++Jy st1) [] rfl rfl (List.Perm.append_left _ hP) (List.Sublist.refl _) (List.Sublist.refl _) (BxLe.of_eq (by rw [eo])) trivial ⟨AVle.refl _,AVle.refl _,AVle.refl _,AVle.refl _,Jk rfl,trivial⟩)
    ·have hP:=JcN (k:=2) (by decide) st1
     have hrk:Jbx (st1 2):=hok1 _ (by decide)
     have hrs:st1 2=st 2:=hrest _ (Nat.le_refl _)
     have hln:(st1 2).1.length≤1000000:=by rw [hrs];exact hlen _ (by decide)
     rcases hk:st1 2 with ⟨R,_ | ⟨s,cap,tl⟩⟩
     ·rw [hk] at hP hrk hln
      dsimp only at hln
      have eo:Jo d x st1= [u32 (d:Nat),Jb x,Ja 10 (st1 0),Ja 11 (st1 1), .os 0 0 (fun _=> .any) none,Ja 13 (st1 3),Ja 14 (st1 4),Ja 15 (st1 5),Ja 16 (st1 6)]:=by simp only [Jo,hk,Ja]
      refine AW.le (E':=mk 75 [(1,Jr rs),(2, .bp (0,s0) 0),(3, .bp (1,s1) 0),(4, .bp (20,nx0) 0),(9,int (2:Nat))] (⟨[((20,nx0), .c [Jf nm,int a0,int a1,int a2,int a3,int a4,int mux,int sub]),((1,s1), .c [u32 (d:Nat),Jb x,Ja 10 (st1 0),Ja 11 (st1 1), .os 0 0 (fun _=> .any) none,Ja 13 (st1 3),Ja 14 (st1 4),Ja 15 (st1 5),Ja 16 (st1 6)]),((0,s0), .c [int dk,int dn,Jb x,Jj ps])]++(Jm 2 st1), [],nx2,21⟩:Heap)) (Jn ([((20,nx0), .c [Jf nm,int a0,int a1,int a2,int a3,int a4,int mux,int sub]),((1,s1), .c (Jo d x st1)),((0,s0), .c [int dk,int dn,Jb x,Jj ps])]++(Jm 2 st1)) ([((20,nx0), .c [Jf nm,int a0,int a1,int a2,int a3,int a4,int mux,int sub]),((1,s1), .c (Jo d x st1)),((0,s0), .c [int dk,int dn,Jb x,Jj ps])]++(Jm 2 st1)) [] rfl rfl (List.Perm.append_left _ hP.symm) (List.Sublist.refl _) (List.Sublist.refl _) (BxLe.of_eq (by rw [eo])) trivial ⟨AVle.refl _,AVle.refl _,AVle.refl _,AVle.refl _,AVle.refl _,trivial⟩) ?_
      refine stp ?_
      intro c t1;cases c
      ·have t1:=JC t1
       refine stp ?_
       refine Jd rfl rfl (Jb3 2 rs d (by decide) hl hc) ⟨AVle.refl _,AVle.refl _,AVle.refl _,trivial⟩ fun nx3=> ?_
       refine stp ?_
       intro c t2;cases c
       ·have t2:=JC t2
        refine stp ?_
        exact back (3,st1,nx3) ⟨by dsimp only;omega,hok1,Jav hdone hrs (Jal (.inr (.inr (List.eq_nil_of_length_eq_zero (by omega))))),fun j hj=> hrest j (by dsimp only at hj;omega)⟩ (by dsimp only;omega) (Jn ([((20,nx0), .c [Jf nm,int a0,int a1,int a2,int a3,int a4,int mux,int sub]),((1,s1), .c [u32 (d:Nat),Jb x,Ja 10 (st1 0),Ja 11 (st1 1), .os 0 0 (fun _=> .any) none,Ja 13 (st1 3),Ja 14 (st1 4),Ja 15 (st1 5),Ja 16 (st1 6)]),((0,s0), .c [int dk,int dn,Jb x,Jj ps])]++Jy st1) ([((20,nx0), .c [Jf nm,int a0,int a1,int a2,int a3,int a4,int mux,int sub]),((1,s1), .c [u32 (d:Nat),Jb x,Ja 10 (st1 0),Ja 11 (st1 1), .os 0 0 (fun _=> .any) none,Ja 13 (st1 3),Ja 14 (st1 4),Ja 15 (st1 5),Ja 16 (st1 6)]),((0,s0), .c [int dk,int dn,Jb x,Jj ps])]++Jy st1) [] rfl rfl (List.Perm.append_left _ hP) (List.Sublist.refl _) (List.Sublist.refl _) (BxLe.of_eq (by rw [eo])) trivial ⟨AVle.refl _,AVle.refl _,AVle.refl _,AVle.refl _,Jk rfl,trivial⟩)
       ·have t2:=JD t2
        have hwh:=JbI 2 a2 (by omega) (hn 2)
        have hen:Jas 2 d x ⟨nm,a0,a1,a2,a3,a4,mux,sub⟩ rs= [⟨Jaq 2 a2,JaH 2 rs d⟩]:=Jb4 t1 (fun h=> by cases h.1) (fun h=> by rw [h] at t2;exact absurd t2 (by decide))
        generalize JaH 2 rs d=W at t2 hen
        generalize Jaq 2 a2=z at hwh hen
        refine stp ?_
        refine Jah 14 [((20,nx0), .c [Jf nm,int a0,int a1,int a2,int a3,int a4,int mux,int sub]),((1,s1), .c [u32 (d:Nat),Jb x,Ja 10 (st1 0),Ja 11 (st1 1), .os 0 0 (fun _=> .any) none,Ja 13 (st1 3),Ja 14 (st1 4),Ja 15 (st1 5),Ja 16 (st1 6)]),((0,s0), .c [int dk,int dn,Jb x,Jj ps])] (fun i=> match i with | 12=> true | _=> false) (fun i=> match i with | 8=> true | _=> false) [0,1,2,3,4,5,6,7,8,9,10,11,13,12] (by kernel_rfl) (by kernel_rfl) (HB.cons rfl (HB.cons rfl (HB.one rfl))) ?_
        refine stp ?_
        refine ⟨_,Jae rfl rfl rfl hwh ⟨AVle.refl _,AVle.of_eq (congrArg u32 (Jcg (by omega) (hn 2))),trivial⟩ (NoId.v _), ?_⟩
        refine stp ?_
        refine ⟨_,Jb6 (e:=78) (szx:=2) (m:=1) rfl rfl rfl (.inr ⟨_,rfl⟩) Tryz.underlying35 JdI gc_ent.symm (by decide) (JO rfl) (by rw [JdJ];omega) (by omega) (fun _=> (HB.cons rfl (HB.cons rfl (HB.one rfl)))),fun r h' hr=> ?_⟩
        obtain ⟨ncap,hge,rfl,rfl⟩:=hr
        refine stp ?_
        exact back (3,Jw st1 2 ([]++ [(z,Jr W)],some (nx3,ncap,List.replicate ((ncap - 1) * 2) .any)),nx3+1) ⟨by dsimp only;omega,JbM hok1 ⟨(by simpa using hge),by rw [List.length_replicate];show ncap * 2≤1 * 2+_;omega⟩,Ja9 (R:= []) hdone hrs (by rw [hk,hrk]) hen,Jba hrest⟩ (by dsimp only;omega) (ELe.trans (Jn (pm:= []) (bx:= [((20,nx0), .c [Jf nm,int a0,int a1,int a2,int a3,int a4,int mux,int sub]),((1,s1), .c (Jo d x (Jw st1 2 ([]++ [(z,Jr W)],some (nx3,ncap,List.replicate ((ncap - 1) * 2) .any))))),((0,s0), .c [int dk,int dn,Jb x,Jj ps])]++(JaA 12 ([]++ [(z,Jr W)],some (nx3,ncap,List.replicate ((ncap - 1) * 2) .any))++Jm 2 st1)) (L:= [(1,Jr rs),(2, .bp (0,s0) 0),(3, .bp (1,s1) 0),(4, .bp (20,nx0) 0),(9,int (3:Nat))]) ([((20,nx0), .c [Jf nm,int a0,int a1,int a2,int a3,int a4,int mux,int sub]),((1,s1),Own.c [u32 (d:Nat),Jb x,Ja 10 (st1 0),Ja 11 (st1 1), .hs (21,nx3) 0 1 ncap,Ja 13 (st1 3),Ja 14 (st1 4),Ja 15 (st1 5),Ja 16 (st1 6)]),((0,s0), .c [int dk,int dn,Jb x,Jj ps])]++(((21,nx3), .c _)::Jm 2 st1)) ([((20,nx0), .c [Jf nm,int a0,int a1,int a2,int a3,int a4,int mux,int sub]),((1,s1),Own.c [u32 (d:Nat),Jb x,Ja 10 (st1 0),Ja 11 (st1 1), .hs (21,nx3) 0 1 ncap,Ja 13 (st1 3),Ja 14 (st1 4),Ja 15 (st1 5),Ja 16 (st1 6)]),((0,s0), .c [int dk,int dn,Jb x,Jj ps])]++(((21,nx3), .c _)::Jm 2 st1)) [] rfl rfl List.perm_middle (List.Sublist.refl _) (List.Sublist.refl _) (bx4 rfl (JkC (Ja5 (R:= []))) (Jdm gc_ent rfl)) trivial ⟨AVle.refl _,AVle.refl _,AVle.refl _,AVle.refl _,Jk rfl,trivial⟩) (JbE (k:=2) (by decide)))
      ·have t1:=JD t1
       refine stp ?_
       exact back (3,st1,nx2) ⟨by dsimp only;omega,hok1,Jav hdone hrs (Jal (.inl t1)),fun j hj=> hrest j (by dsimp only at hj;omega)⟩ (by dsimp only;omega) (Jn ([((20,nx0), .c [Jf nm,int a0,int a1,int a2,int a3,int a4,int mux,int sub]),((1,s1), .c [u32 (d:Nat),Jb x,Ja 10 (st1 0),Ja 11 (st1 1), .os 0 0 (fun _=> .any) none,Ja 13 (st1 3),Ja 14 (st1 4),Ja 15 (st1 5),Ja 16 (st1 6)]),((0,s0), .c [int dk,int dn,Jb x,Jj ps])]++Jy st1) ([((20,nx0), .c [Jf nm,int a0,int a1,int a2,int a3,int a4,int mux,int sub]),((1,s1), .c [u32 (d:Nat),Jb x,Ja 10 (st1 0),Ja 11 (st1 1), .os 0 0 (fun _=> .any) none,Ja 13 (st1 3),Ja 14 (st1 4),Ja 15 (st1 5),Ja 16 (st1 6)]),((0,s0), .c [int dk,int dn,Jb x,Jj ps])]++Jy st1) [] rfl rfl (List.Perm.append_left _ hP) (List.Sublist.refl _) (List.Sublist.refl _) (BxLe.of_eq (by rw [eo])) trivial ⟨AVle.refl _,AVle.refl _,AVle.refl _,AVle.refl _,Jk rfl,trivial⟩)
     ·rw [hk] at hP hrk hln
      dsimp only at hln
      have eo:Jo d x st1= [u32 (d:Nat),Jb x,Ja 10 (st1 0),Ja 11 (st1 1), .hs (12,s) 0 R.length cap,Ja 13 (st1 3),Ja 14 (st1 4),Ja 15 (st1 5),Ja 16 (st1 6)]:=by simp only [Jo,hk,Ja]
      refine AW.le (E':=mk 75 [(1,Jr rs),(2, .bp (0,s0) 0),(3, .bp (1,s1) 0),(4, .bp (20,nx0) 0),(9,int (2:Nat))] (⟨[((20,nx0), .c [Jf nm,int a0,int a1,int a2,int a3,int a4,int mux,int sub]),((1,s1), .c [u32 (d:Nat),Jb x,Ja 10 (st1 0),Ja 11 (st1 1), .hs (12,s) 0 R.length cap,Ja 13 (st1 3),Ja 14 (st1 4),Ja 15 (st1 5),Ja 16 (st1 6)]),((0,s0), .c [int dk,int dn,Jb x,Jj ps])]++(((12,s),Own.c (Jt R++tl))::Jm 2 st1), [],nx2,21⟩:Heap)) (Jn ([((20,nx0), .c [Jf nm,int a0,int a1,int a2,int a3,int a4,int mux,int sub]),((1,s1), .c (Jo d x st1)),((0,s0), .c [int dk,int dn,Jb x,Jj ps])]++(((12,s),Own.c (Jt R++tl))::Jm 2 st1)) ([((20,nx0), .c [Jf nm,int a0,int a1,int a2,int a3,int a4,int mux,int sub]),((1,s1), .c (Jo d x st1)),((0,s0), .c [int dk,int dn,Jb x,Jj ps])]++(((12,s),Own.c (Jt R++tl))::Jm 2 st1)) [] rfl rfl (List.Perm.append_left _ hP.symm) (List.Sublist.refl _) (List.Sublist.refl _) (BxLe.of_eq (by rw [eo])) trivial ⟨AVle.refl _,AVle.refl _,AVle.refl _,AVle.refl _,AVle.refl _,trivial⟩) ?_
      refine stp ?_
      intro c t1;cases c
      ·have t1:=JC t1
       refine stp ?_
       refine Jd rfl rfl (Jb3 2 rs d (by decide) hl hc) ⟨AVle.refl _,AVle.refl _,AVle.refl _,trivial⟩ fun nx3=> ?_
       refine stp ?_
       intro c t2;cases c
       ·have t2:=JC t2
        refine stp ?_
        exact back (3,st1,nx3) ⟨by dsimp only;omega,hok1,Jav hdone hrs (Jal (.inr (.inr (List.eq_nil_of_length_eq_zero (by omega))))),fun j hj=> hrest j (by dsimp only at hj;omega)⟩ (by dsimp only;omega) (Jn ([((20,nx0), .c [Jf nm,int a0,int a1,int a2,int a3,int a4,int mux,int sub]),((1,s1), .c [u32 (d:Nat),Jb x,Ja 10 (st1 0),Ja 11 (st1 1), .hs (12,s) 0 R.length cap,Ja 13 (st1 3),Ja 14 (st1 4),Ja 15 (st1 5),Ja 16 (st1 6)]),((0,s0), .c [int dk,int dn,Jb x,Jj ps])]++Jy st1) ([((20,nx0), .c [Jf nm,int a0,int a1,int a2,int a3,int a4,int mux,int sub]),((1,s1), .c [u32 (d:Nat),Jb x,Ja 10 (st1 0),Ja 11 (st1 1), .hs (12,s) 0 R.length cap,Ja 13 (st1 3),Ja 14 (st1 4),Ja 15 (st1 5),Ja 16 (st1 6)]),((0,s0), .c [int dk,int dn,Jb x,Jj ps])]++Jy st1) [] rfl rfl (List.Perm.append_left _ hP) (List.Sublist.refl _) (List.Sublist.refl _) (BxLe.of_eq (by rw [eo])) trivial ⟨AVle.refl _,AVle.refl _,AVle.refl _,AVle.refl _,Jk rfl,trivial⟩)
       ·have t2:=JD t2
        have hwh:=JbI 2 a2 (by omega) (hn 2)
        have hen:Jas 2 d x ⟨nm,a0,a1,a2,a3,a4,mux,sub⟩ rs= [⟨Jaq 2 a2,JaH 2 rs d⟩]:=Jb4 t1 (fun h=> by cases h.1) (fun h=> by rw [h] at t2;exact absurd t2 (by decide))
        generalize JaH 2 rs d=W at t2 hen
        generalize Jaq 2 a2=z at hwh hen
        refine stp ?_
        refine Jah 14 [((20,nx0), .c [Jf nm,int a0,int a1,int a2,int a3,int a4,int mux,int sub]),((1,s1), .c [u32 (d:Nat),Jb x,Ja 10 (st1 0),Ja 11 (st1 1), .hs (12,s) 0 R.length cap,Ja 13 (st1 3),Ja 14 (st1 4),Ja 15 (st1 5),Ja 16 (st1 6)]),((0,s0), .c [int dk,int dn,Jb x,Jj ps])] (fun i=> match i with | 12=> true | _=> false) (fun i=> match i with | 8=> true | _=> false) [0,1,2,3,4,5,6,7,8,9,10,11,13,12] (by kernel_rfl) (by kernel_rfl) (HB.cons rfl (HB.cons rfl (HB.one rfl))) ?_
        refine stp ?_
        refine ⟨_,Jae rfl rfl rfl hwh ⟨AVle.refl _,AVle.of_eq (congrArg u32 (Jcg (by omega) (hn 2))),trivial⟩ (NoId.v _), ?_⟩
        refine stp ?_
        refine ⟨_,Jcs (e:=78) (szx:=2) (m:=1) (n:=R.length) (cap:=cap) (i:=(12,s)) (cs:=Jt R++tl) rfl rfl rfl (.inr ⟨_,rfl⟩) Tryz.underlying35 JdI gc_ent.symm (by decide) rfl hrk.1 (by rw [gc_ent,List.length_append,Jbj];exact hrk.2) (JO rfl) (by rw [JdJ];omega) (by omega) (HB.cons rfl (HB.cons rfl (HB.one rfl))) (fun _=> (HB.cons rfl (HB.cons rfl (HB.one rfl)))),fun r h' hr=> ?_⟩
        rcases hr with ⟨hfit,rfl,rfl⟩ | ⟨ncap,hge,rfl,rfl⟩
        ·refine stp ?_
         exact back (3,Jw st1 2 (R++ [(z,Jr W)],some (s,cap,tl.drop 2)),nx3) ⟨by dsimp only;omega,JbM hok1 ⟨by rw [List.length_append];exact hfit,by have:=hrk.2;rw [List.length_append,List.length_drop,List.length_singleton];omega⟩,Ja9 (R:=R) hdone hrs hk hen,Jba hrest⟩ (by dsimp only;omega) (ELe.trans (Jn (pm:= []) (bx:= [((20,nx0), .c [Jf nm,int a0,int a1,int a2,int a3,int a4,int mux,int sub]),((1,s1), .c (Jo d x (Jw st1 2 (R++ [(z,Jr W)],some (s,cap,tl.drop 2))))),((0,s0), .c [int dk,int dn,Jb x,Jj ps])]++(JaA 12 (R++ [(z,Jr W)],some (s,cap,tl.drop 2))++Jm 2 st1)) (L:= [(1,Jr rs),(2, .bp (0,s0) 0),(3, .bp (1,s1) 0),(4, .bp (20,nx0) 0),(9,int (3:Nat))]) ([((20,nx0), .c [Jf nm,int a0,int a1,int a2,int a3,int a4,int mux,int sub]),((1,s1),Own.c [u32 (d:Nat),Jb x,Ja 10 (st1 0),Ja 11 (st1 1), .hs (12,s) 0 (R.length+1) cap,Ja 13 (st1 3),Ja 14 (st1 4),Ja 15 (st1 5),Ja 16 (st1 6)]),((0,s0), .c [int dk,int dn,Jb x,Jj ps])]++(((12,s), .c _)::Jm 2 st1)) ([((20,nx0), .c [Jf nm,int a0,int a1,int a2,int a3,int a4,int mux,int sub]),((1,s1),Own.c [u32 (d:Nat),Jb x,Ja 10 (st1 0),Ja 11 (st1 1), .hs (12,s) 0 (R.length+1) cap,Ja 13 (st1 3),Ja 14 (st1 4),Ja 15 (st1 5),Ja 16 (st1 6)]),((0,s0), .c [int dk,int dn,Jb x,Jj ps])]++(((12,s), .c _)::Jm 2 st1)) [] rfl rfl (List.Perm.refl _) (List.Sublist.refl _) (List.Sublist.refl _) (bx4 rfl (JkC (Ja5)) (Jfv gc_ent rfl)) trivial ⟨AVle.refl _,AVle.refl _,AVle.refl _,AVle.refl _,Jk rfl,trivial⟩) (JbE (k:=2) (by decide)))
        ·refine stp ?_
         exact back (3,Jw st1 2 (R++ [(z,Jr W)],some (nx3,ncap,List.replicate ((ncap - (R.length+1)) * 2) .any)),nx3+1) ⟨by dsimp only;omega,JbM hok1 ⟨by rw [List.length_append];exact hge,by rw [List.length_append,List.length_replicate,List.length_singleton,← Nat.add_mul];omega⟩,Ja9 (R:=R) hdone hrs hk hen,Jba hrest⟩ (by dsimp only;omega) (ELe.trans (Jn (pm:= []) (bx:= [((20,nx0), .c [Jf nm,int a0,int a1,int a2,int a3,int a4,int mux,int sub]),((1,s1), .c (Jo d x (Jw st1 2 (R++ [(z,Jr W)],some (nx3,ncap,List.replicate ((ncap - (R.length+1)) * 2) .any))))),((0,s0), .c [int dk,int dn,Jb x,Jj ps])]++(JaA 12 (R++ [(z,Jr W)],some (nx3,ncap,List.replicate ((ncap - (R.length+1)) * 2) .any))++Jm 2 st1)) (L:= [(1,Jr rs),(2, .bp (0,s0) 0),(3, .bp (1,s1) 0),(4, .bp (20,nx0) 0),(9,int (3:Nat))]) ([((20,nx0), .c [Jf nm,int a0,int a1,int a2,int a3,int a4,int mux,int sub]),((1,s1),Own.c [u32 (d:Nat),Jb x,Ja 10 (st1 0),Ja 11 (st1 1), .hs (21,nx3) 0 (R.length+1) ncap,Ja 13 (st1 3),Ja 14 (st1 4),Ja 15 (st1 5),Ja 16 (st1 6)]),((0,s0), .c [int dk,int dn,Jb x,Jj ps])]++(((21,nx3), .c _)::((12,s),Own.c (Jt R++tl))::Jm 2 st1)) ([((20,nx0), .c [Jf nm,int a0,int a1,int a2,int a3,int a4,int mux,int sub]),((1,s1),Own.c [u32 (d:Nat),Jb x,Ja 10 (st1 0),Ja 11 (st1 1), .hs (21,nx3) 0 (R.length+1) ncap,Ja 13 (st1 3),Ja 14 (st1 4),Ja 15 (st1 5),Ja 16 (st1 6)]),((0,s0), .c [int dk,int dn,Jb x,Jj ps])]++(((21,nx3), .c _)::Jm 2 st1)) [] rfl rfl List.perm_middle (List.Sublist.append_left (.cons_cons _ (.cons _ (List.Sublist.refl _))) _) (List.Sublist.refl _) (bx4 rfl (JkC (Ja5)) (JdR gc_ent rfl)) trivial ⟨AVle.refl _,AVle.refl _,AVle.refl _,AVle.refl _,Jk rfl,trivial⟩) (JbE (k:=2) (by decide)))
      ·have t1:=JD t1
       refine stp ?_
       exact back (3,st1,nx2) ⟨by dsimp only;omega,hok1,Jav hdone hrs (Jal (.inl t1)),fun j hj=> hrest j (by dsimp only at hj;omega)⟩ (by dsimp only;omega) (Jn ([((20,nx0), .c [Jf nm,int a0,int a1,int a2,int a3,int a4,int mux,int sub]),((1,s1), .c [u32 (d:Nat),Jb x,Ja 10 (st1 0),Ja 11 (st1 1), .hs (12,s) 0 R.length cap,Ja 13 (st1 3),Ja 14 (st1 4),Ja 15 (st1 5),Ja 16 (st1 6)]),((0,s0), .c [int dk,int dn,Jb x,Jj ps])]++Jy st1) ([((20,nx0), .c [Jf nm,int a0,int a1,int a2,int a3,int a4,int mux,int sub]),((1,s1), .c [u32 (d:Nat),Jb x,Ja 10 (st1 0),Ja 11 (st1 1), .hs (12,s) 0 R.length cap,Ja 13 (st1 3),Ja 14 (st1 4),Ja 15 (st1 5),Ja 16 (st1 6)]),((0,s0), .c [int dk,int dn,Jb x,Jj ps])]++Jy st1) [] rfl rfl (List.Perm.append_left _ hP) (List.Sublist.refl _) (List.Sublist.refl _) (BxLe.of_eq (by rw [eo])) trivial ⟨AVle.refl _,AVle.refl _,AVle.refl _,AVle.refl _,Jk rfl,trivial⟩)
    ·have hP:=JcN (k:=3) (by decide) st1
     have hrk:Jbx (st1 3):=hok1 _ (by decide)
     have hrs:st1 3=st 3:=hrest _ (Nat.le_refl _)
     have hln:(st1 3).1.length≤1000000:=by rw [hrs];exact hlen _ (by decide)
     rcases hk:st1 3 with ⟨R,_ | ⟨s,cap,tl⟩⟩
     ·rw [hk] at hP hrk hln
      dsimp only at hln
      have eo:Jo d x st1= [u32 (d:Nat),Jb x,Ja 10 (st1 0),Ja 11 (st1 1),Ja 12 (st1 2), .os 0 0 (fun _=> .any) none,Ja 14 (st1 4),Ja 15 (st1 5),Ja 16 (st1 6)]:=by simp only [Jo,hk,Ja]
      refine AW.le (E':=mk 75 [(1,Jr rs),(2, .bp (0,s0) 0),(3, .bp (1,s1) 0),(4, .bp (20,nx0) 0),(9,int (3:Nat))] (⟨[((20,nx0), .c [Jf nm,int a0,int a1,int a2,int a3,int a4,int mux,int sub]),((1,s1), .c [u32 (d:Nat),Jb x,Ja 10 (st1 0),Ja 11 (st1 1),Ja 12 (st1 2), .os 0 0 (fun _=> .any) none,Ja 14 (st1 4),Ja 15 (st1 5),Ja 16 (st1 6)]),((0,s0), .c [int dk,int dn,Jb x,Jj ps])]++(Jm 3 st1), [],nx2,21⟩:Heap)) (Jn ([((20,nx0), .c [Jf nm,int a0,int a1,int a2,int a3,int a4,int mux,int sub]),((1,s1), .c (Jo d x st1)),((0,s0), .c [int dk,int dn,Jb x,Jj ps])]++(Jm 3 st1)) ([((20,nx0), .c [Jf nm,int a0,int a1,int a2,int a3,int a4,int mux,int sub]),((1,s1), .c (Jo d x st1)),((0,s0), .c [int dk,int dn,Jb x,Jj ps])]++(Jm 3 st1)) [] rfl rfl (List.Perm.append_left _ hP.symm) (List.Sublist.refl _) (List.Sublist.refl _) (BxLe.of_eq (by rw [eo])) trivial ⟨AVle.refl _,AVle.refl _,AVle.refl _,AVle.refl _,AVle.refl _,trivial⟩) ?_
      refine stp ?_
      intro c t1;cases c
      ·have t1:=JC t1
       refine stp ?_
       refine Jd rfl rfl (Jb3 3 rs d (by decide) hl hc) ⟨AVle.refl _,AVle.refl _,AVle.refl _,trivial⟩ fun nx3=> ?_
       refine stp ?_
       intro c t2;cases c
       ·have t2:=JC t2
        refine stp ?_
        exact back (4,st1,nx3) ⟨by dsimp only;omega,hok1,Jav hdone hrs (Jal (.inr (.inr (List.eq_nil_of_length_eq_zero (by omega))))),fun j hj=> hrest j (by dsimp only at hj;omega)⟩ (by dsimp only;omega) (Jn ([((20,nx0), .c [Jf nm,int a0,int a1,int a2,int a3,int a4,int mux,int sub]),((1,s1), .c [u32 (d:Nat),Jb x,Ja 10 (st1 0),Ja 11 (st1 1),Ja 12 (st1 2), .os 0 0 (fun _=> .any) none,Ja 14 (st1 4),Ja 15 (st1 5),Ja 16 (st1 6)]),((0,s0), .c [int dk,int dn,Jb x,Jj ps])]++Jy st1) ([((20,nx0), .c [Jf nm,int a0,int a1,int a2,int a3,int a4,int mux,int sub]),((1,s1), .c [u32 (d:Nat),Jb x,Ja 10 (st1 0),Ja 11 (st1 1),Ja 12 (st1 2), .os 0 0 (fun _=> .any) none,Ja 14 (st1 4),Ja 15 (st1 5),Ja 16 (st1 6)]),((0,s0), .c [int dk,int dn,Jb x,Jj ps])]++Jy st1) [] rfl rfl (List.Perm.append_left _ hP) (List.Sublist.refl _) (List.Sublist.refl _) (BxLe.of_eq (by rw [eo])) trivial ⟨AVle.refl _,AVle.refl _,AVle.refl _,AVle.refl _,Jk rfl,trivial⟩)
       ·have t2:=JD t2
        have hwh:=JbI 3 a3 (by omega) (hn 3)
        have hen:Jas 3 d x ⟨nm,a0,a1,a2,a3,a4,mux,sub⟩ rs= [⟨Jaq 3 a3,JaH 3 rs d⟩]:=Jb4 t1 (fun h=> by cases h.1) (fun h=> by rw [h] at t2;exact absurd t2 (by decide))
        generalize JaH 3 rs d=W at t2 hen
        generalize Jaq 3 a3=z at hwh hen
        refine stp ?_
        refine Jah 14 [((20,nx0), .c [Jf nm,int a0,int a1,int a2,int a3,int a4,int mux,int sub]),((1,s1), .c [u32 (d:Nat),Jb x,Ja 10 (st1 0),Ja 11 (st1 1),Ja 12 (st1 2), .os 0 0 (fun _=> .any) none,Ja 14 (st1 4),Ja 15 (st1 5),Ja 16 (st1 6)]),((0,s0), .c [int dk,int dn,Jb x,Jj ps])] (fun i=> match i with | 12=> true | _=> false) (fun i=> match i with | 8=> true | _=> false) [0,1,2,3,4,5,6,7,8,9,10,11,13,12] (by kernel_rfl) (by kernel_rfl) (HB.cons rfl (HB.cons rfl (HB.one rfl))) ?_
        refine stp ?_
        refine ⟨_,Jae rfl rfl rfl hwh ⟨AVle.refl _,AVle.of_eq (congrArg u32 (Jcg (by omega) (hn 3))),trivial⟩ (NoId.v _), ?_⟩
        refine stp ?_
        refine ⟨_,Jb6 (e:=78) (szx:=2) (m:=1) rfl rfl rfl (.inr ⟨_,rfl⟩) Tryz.underlying35 JdI gc_ent.symm (by decide) (JO rfl) (by rw [JdJ];omega) (by omega) (fun _=> (HB.cons rfl (HB.cons rfl (HB.one rfl)))),fun r h' hr=> ?_⟩
        obtain ⟨ncap,hge,rfl,rfl⟩:=hr
        refine stp ?_
        exact back (4,Jw st1 3 ([]++ [(z,Jr W)],some (nx3,ncap,List.replicate ((ncap - 1) * 2) .any)),nx3+1) ⟨by dsimp only;omega,JbM hok1 ⟨(by simpa using hge),by rw [List.length_replicate];show ncap * 2≤1 * 2+_;omega⟩,Ja9 (R:= []) hdone hrs (by rw [hk,hrk]) hen,Jba hrest⟩ (by dsimp only;omega) (ELe.trans (Jn (pm:= []) (bx:= [((20,nx0), .c [Jf nm,int a0,int a1,int a2,int a3,int a4,int mux,int sub]),((1,s1), .c (Jo d x (Jw st1 3 ([]++ [(z,Jr W)],some (nx3,ncap,List.replicate ((ncap - 1) * 2) .any))))),((0,s0), .c [int dk,int dn,Jb x,Jj ps])]++(JaA 13 ([]++ [(z,Jr W)],some (nx3,ncap,List.replicate ((ncap - 1) * 2) .any))++Jm 3 st1)) (L:= [(1,Jr rs),(2, .bp (0,s0) 0),(3, .bp (1,s1) 0),(4, .bp (20,nx0) 0),(9,int (4:Nat))]) ([((20,nx0), .c [Jf nm,int a0,int a1,int a2,int a3,int a4,int mux,int sub]),((1,s1),Own.c [u32 (d:Nat),Jb x,Ja 10 (st1 0),Ja 11 (st1 1),Ja 12 (st1 2), .hs (21,nx3) 0 1 ncap,Ja 14 (st1 4),Ja 15 (st1 5),Ja 16 (st1 6)]),((0,s0), .c [int dk,int dn,Jb x,Jj ps])]++(((21,nx3), .c _)::Jm 3 st1)) ([((20,nx0), .c [Jf nm,int a0,int a1,int a2,int a3,int a4,int mux,int sub]),((1,s1),Own.c [u32 (d:Nat),Jb x,Ja 10 (st1 0),Ja 11 (st1 1),Ja 12 (st1 2), .hs (21,nx3) 0 1 ncap,Ja 14 (st1 4),Ja 15 (st1 5),Ja 16 (st1 6)]),((0,s0), .c [int dk,int dn,Jb x,Jj ps])]++(((21,nx3), .c _)::Jm 3 st1)) [] rfl rfl List.perm_middle (List.Sublist.refl _) (List.Sublist.refl _) (bx4 rfl (JkD (Ja5 (R:= []))) (Jdm gc_ent rfl)) trivial ⟨AVle.refl _,AVle.refl _,AVle.refl _,AVle.refl _,Jk rfl,trivial⟩) (JbE (k:=3) (by decide)))
      ·have t1:=JD t1
       refine stp ?_
       exact back (4,st1,nx2) ⟨by dsimp only;omega,hok1,Jav hdone hrs (Jal (.inl t1)),fun j hj=> hrest j (by dsimp only at hj;omega)⟩ (by dsimp only;omega) (Jn ([((20,nx0), .c [Jf nm,int a0,int a1,int a2,int a3,int a4,int mux,int sub]),((1,s1), .c [u32 (d:Nat),Jb x,Ja 10 (st1 0),Ja 11 (st1 1),Ja 12 (st1 2), .os 0 0 (fun _=> .any) none,Ja 14 (st1 4),Ja 15 (st1 5),Ja 16 (st1 6)]),((0,s0), .c [int dk,int dn,Jb x,Jj ps])]++Jy st1) ([((20,nx0), .c [Jf nm,int a0,int a1,int a2,int a3,int a4,int mux,int sub]),((1,s1), .c [u32 (d:Nat),Jb x,Ja 10 (st1 0),Ja 11 (st1 1),Ja 12 (st1 2), .os 0 0 (fun _=> .any) none,Ja 14 (st1 4),Ja 15 (st1 5),Ja 16 (st1 6)]),((0,s0), .c [int dk,int dn,Jb x,Jj ps])]++Jy st1) [] rfl rfl (List.Perm.append_left _ hP) (List.Sublist.refl _) (List.Sublist.refl _) (BxLe.of_eq (by rw [eo])) trivial ⟨AVle.refl _,AVle.refl _,AVle.refl _,AVle.refl _,Jk rfl,trivial⟩)
     ·rw [hk] at hP hrk hln
      dsimp only at hln
      have eo:Jo d x st1= [u32 (d:Nat),Jb x,Ja 10 (st1 0),Ja 11 (st1 1),Ja 12 (st1 2), .hs (13,s) 0 R.length cap,Ja 14 (st1 4),Ja 15 (st1 5),Ja 16 (st1 6)]:=by simp only [Jo,hk,Ja]
      refine AW.le (E':=mk 75 [(1,Jr rs),(2, .bp (0,s0) 0),(3, .bp (1,s1) 0),(4, .bp (20,nx0) 0),(9,int (3:Nat))] (⟨[((20,nx0), .c [Jf nm,int a0,int a1,int a2,int a3,int a4,int mux,int sub]),((1,s1), .c [u32 (d:Nat),Jb x,Ja 10 (st1 0),Ja 11 (st1 1),Ja 12 (st1 2), .hs (13,s) 0 R.length cap,Ja 14 (st1 4),Ja 15 (st1 5),Ja 16 (st1 6)]),((0,s0), .c [int dk,int dn,Jb x,Jj ps])]++(((13,s),Own.c (Jt R++tl))::Jm 3 st1), [],nx2,21⟩:Heap)) (Jn ([((20,nx0), .c [Jf nm,int a0,int a1,int a2,int a3,int a4,int mux,int sub]),((1,s1), .c (Jo d x st1)),((0,s0), .c [int dk,int dn,Jb x,Jj ps])]++(((13,s),Own.c (Jt R++tl))::Jm 3 st1)) ([((20,nx0), .c [Jf nm,int a0,int a1,int a2,int a3,int a4,int mux,int sub]),((1,s1), .c (Jo d x st1)),((0,s0), .c [int dk,int dn,Jb x,Jj ps])]++(((13,s),Own.c (Jt R++tl))::Jm 3 st1)) [] rfl rfl (List.Perm.append_left _ hP.symm) (List.Sublist.refl _) (List.Sublist.refl _) (BxLe.of_eq (by rw [eo])) trivial ⟨AVle.refl _,AVle.refl _,AVle.refl _,AVle.refl _,AVle.refl _,trivial⟩) ?_
      refine stp ?_
      intro c t1;cases c
      ·have t1:=JC t1
       refine stp ?_
       refine Jd rfl rfl (Jb3 3 rs d (by decide) hl hc) ⟨AVle.refl _,AVle.refl _,AVle.refl _,trivial⟩ fun nx3=> ?_
       refine stp ?_
       intro c t2;cases c
       ·have t2:=JC t2
        refine stp ?_
        exact back (4,st1,nx3) ⟨by dsimp only;omega,hok1,Jav hdone hrs (Jal (.inr (.inr (List.eq_nil_of_length_eq_zero (by omega))))),fun j hj=> hrest j (by dsimp only at hj;omega)⟩ (by dsimp only;omega) (Jn ([((20,nx0), .c [Jf nm,int a0,int a1,int a2,int a3,int a4,int mux,int sub]),((1,s1), .c [u32 (d:Nat),Jb x,Ja 10 (st1 0),Ja 11 (st1 1),Ja 12 (st1 2), .hs (13,s) 0 R.length cap,Ja 14 (st1 4),Ja 15 (st1 5),Ja 16 (st1 6)]),((0,s0), .c [int dk,int dn,Jb x,Jj ps])]++Jy st1) ([((20,nx0), .c [Jf nm,int a0,int a1,int a2,int a3,int a4,int mux,int sub]),((1,s1), .c [u32 (d:Nat),Jb x,Ja 10 (st1 0),Ja 11 (st1 1),Ja 12 (st1 2), .hs (13,s) 0 R.length cap,Ja 14 (st1 4),Ja 15 (st1 5),Ja 16 (st1 6)]),((0,s0), .c [int dk,int dn,Jb x,Jj ps])]++Jy st1) [] rfl rfl (List.Perm.append_left _ hP) (List.Sublist.refl _) (List.Sublist.refl _) (BxLe.of_eq (by rw [eo])) trivial ⟨AVle.refl _,AVle.refl _,AVle.refl _,AVle.refl _,Jk rfl,trivial⟩)
       ·have t2:=JD t2
        have hwh:=JbI 3 a3 (by omega) (hn 3)
        have hen:Jas 3 d x ⟨nm,a0,a1,a2,a3,a4,mux,sub⟩ rs= [⟨Jaq 3 a3,JaH 3 rs d⟩]:=Jb4 t1 (fun h=> by cases h.1) (fun h=> by rw [h] at t2;exact absurd t2 (by decide))
        generalize JaH 3 rs d=W at t2 hen
        generalize Jaq 3 a3=z at hwh hen
        refine stp ?_
        refine Jah 14 [((20,nx0), .c [Jf nm,int a0,int a1,int a2,int a3,int a4,int mux,int sub]),((1,s1), .c [u32 (d:Nat),Jb x,Ja 10 (st1 0),Ja 11 (st1 1),Ja 12 (st1 2), .hs (13,s) 0 R.length cap,Ja 14 (st1 4),Ja 15 (st1 5),Ja 16 (st1 6)]),((0,s0), .c [int dk,int dn,Jb x,Jj ps])] (fun i=> match i with | 12=> true | _=> false) (fun i=> match i with | 8=> true | _=> false) [0,1,2,3,4,5,6,7,8,9,10,11,13,12] (by kernel_rfl) (by kernel_rfl) (HB.cons rfl (HB.cons rfl (HB.one rfl))) ?_
        refine stp ?_
        refine ⟨_,Jae rfl rfl rfl hwh ⟨AVle.refl _,AVle.of_eq (congrArg u32 (Jcg (by omega) (hn 3))),trivial⟩ (NoId.v _), ?_⟩
        refine stp ?_
        refine ⟨_,Jcs (e:=78) (szx:=2) (m:=1) (n:=R.length) (cap:=cap) (i:=(13,s)) (cs:=Jt R++tl) rfl rfl rfl (.inr ⟨_,rfl⟩) Tryz.underlying35 JdI gc_ent.symm (by decide) rfl hrk.1 (by rw [gc_ent,List.length_append,Jbj];exact hrk.2) (JO rfl) (by rw [JdJ];omega) (by omega) (HB.cons rfl (HB.cons rfl (HB.one rfl))) (fun _=> (HB.cons rfl (HB.cons rfl (HB.one rfl)))),fun r h' hr=> ?_⟩
        rcases hr with ⟨hfit,rfl,rfl⟩ | ⟨ncap,hge,rfl,rfl⟩
        ·refine stp ?_
         exact back (4,Jw st1 3 (R++ [(z,Jr W)],some (s,cap,tl.drop 2)),nx3) ⟨by dsimp only;omega,JbM hok1 ⟨by rw [List.length_append];exact hfit,by have:=hrk.2;rw [List.length_append,List.length_drop,List.length_singleton];omega⟩,Ja9 (R:=R) hdone hrs hk hen,Jba hrest⟩ (by dsimp only;omega) (ELe.trans (Jn (pm:= []) (bx:= [((20,nx0), .c [Jf nm,int a0,int a1,int a2,int a3,int a4,int mux,int sub]),((1,s1), .c (Jo d x (Jw st1 3 (R++ [(z,Jr W)],some (s,cap,tl.drop 2))))),((0,s0), .c [int dk,int dn,Jb x,Jj ps])]++(JaA 13 (R++ [(z,Jr W)],some (s,cap,tl.drop 2))++Jm 3 st1)) (L:= [(1,Jr rs),(2, .bp (0,s0) 0),(3, .bp (1,s1) 0),(4, .bp (20,nx0) 0),(9,int (4:Nat))]) ([((20,nx0), .c [Jf nm,int a0,int a1,int a2,int a3,int a4,int mux,int sub]),((1,s1),Own.c [u32 (d:Nat),Jb x,Ja 10 (st1 0),Ja 11 (st1 1),Ja 12 (st1 2), .hs (13,s) 0 (R.length+1) cap,Ja 14 (st1 4),Ja 15 (st1 5),Ja 16 (st1 6)]),((0,s0), .c [int dk,int dn,Jb x,Jj ps])]++(((13,s), .c _)::Jm 3 st1)) ([((20,nx0), .c [Jf nm,int a0,int a1,int a2,int a3,int a4,int mux,int sub]),((1,s1),Own.c [u32 (d:Nat),Jb x,Ja 10 (st1 0),Ja 11 (st1 1),Ja 12 (st1 2), .hs (13,s) 0 (R.length+1) cap,Ja 14 (st1 4),Ja 15 (st1 5),Ja 16 (st1 6)]),((0,s0), .c [int dk,int dn,Jb x,Jj ps])]++(((13,s), .c _)::Jm 3 st1)) [] rfl rfl (List.Perm.refl _) (List.Sublist.refl _) (List.Sublist.refl _) (bx4 rfl (JkD (Ja5)) (Jfv gc_ent rfl)) trivial ⟨AVle.refl _,AVle.refl _,AVle.refl _,AVle.refl _,Jk rfl,trivial⟩) (JbE (k:=3) (by decide)))
        ·refine stp ?_
         exact back (4,Jw st1 3 (R++ [(z,Jr W)],some (nx3,ncap,List.replicate ((ncap - (R.length+1)) * 2) .any)),nx3+1) ⟨by dsimp only;omega,JbM hok1 ⟨by rw [List.length_append];exact hge,by rw [List.length_append,List.length_replicate,List.length_singleton,← Nat.add_mul];omega⟩,Ja9 (R:=R) hdone hrs hk hen,Jba hrest⟩ (by dsimp only;omega) (ELe.trans (Jn (pm:= []) (bx:= [((20,nx0), .c [Jf nm,int a0,int a1,int a2,int a3,int a4,int mux,int sub]),((1,s1), .c (Jo d x (Jw st1 3 (R++ [(z,Jr W)],some (nx3,ncap,List.replicate ((ncap - (R.length+1)) * 2) .any))))),((0,s0), .c [int dk,int dn,Jb x,Jj ps])]++(JaA 13 (R++ [(z,Jr W)],some (nx3,ncap,List.replicate ((ncap - (R.length+1)) * 2) .any))++Jm 3 st1)) (L:= [(1,Jr rs),(2, .bp (0,s0) 0),(3, .bp (1,s1) 0),(4, .bp (20,nx0) 0),(9,int (4:Nat))]) ([((20,nx0), .c [Jf nm,int a0,int a1,int a2,int a3,int a4,int mux,int sub]),((1,s1),Own.c [u32 (d:Nat),Jb x,Ja 10 (st1 0),Ja 11 (st1 1),Ja 12 (st1 2), .hs (21,nx3) 0 (R.length+1) ncap,Ja 14 (st1 4),Ja 15 (st1 5),Ja 16 (st1 6)]),((0,s0), .c [int dk,int dn,Jb x,Jj ps])]++(((21,nx3), .c _)::((13,s),Own.c (Jt R++tl))::Jm 3 st1)) ([((20,nx0), .c [Jf nm,int a0,int a1,int a2,int a3,int a4,int mux,int sub]),((1,s1),Own.c [u32 (d:Nat),Jb x,Ja 10 (st1 0),Ja 11 (st1 1),Ja 12 (st1 2), .hs (21,nx3) 0 (R.length+1) ncap,Ja 14 (st1 4),Ja 15 (st1 5),Ja 16 (st1 6)]),((0,s0), .c [int dk,int dn,Jb x,Jj ps])]++(((21,nx3), .c _)::Jm 3 st1)) [] rfl rfl List.perm_middle (List.Sublist.append_left (.cons_cons _ (.cons _ (List.Sublist.refl _))) _) (List.Sublist.refl _) (bx4 rfl (JkD (Ja5)) (JdR gc_ent rfl)) trivial ⟨AVle.refl _,AVle.refl _,AVle.refl _,AVle.refl _,Jk rfl,trivial⟩) (JbE (k:=3) (by decide)))
      ·have t1:=JD t1
       refine stp ?_
       exact back (4,st1,nx2) ⟨by dsimp only;omega,hok1,Jav hdone hrs (Jal (.inl t1)),fun j hj=> hrest j (by dsimp only at hj;omega)⟩ (by dsimp only;omega) (Jn ([((20,nx0), .c [Jf nm,int a0,int a1,int a2,int a3,int a4,int mux,int sub]),((1,s1), .c [u32 (d:Nat),Jb x,Ja 10 (st1 0),Ja 11 (st1 1),Ja 12 (st1 2), .hs (13,s) 0 R.length cap,Ja 14 (st1 4),Ja 15 (st1 5),Ja 16 (st1 6)]),((0,s0), .c [int dk,int dn,Jb x,Jj ps])]++Jy st1) ([((20,nx0), .c [Jf nm,int a0,int a1,int a2,int a3,int a4,int mux,int sub]),((1,s1), .c [u32 (d:Nat),Jb x,Ja 10 (st1 0),Ja 11 (st1 1),Ja 12 (st1 2), .hs (13,s) 0 R.length cap,Ja 14 (st1 4),Ja 15 (st1 5),Ja 16 (st1 6)]),((0,s0), .c [int dk,int dn,Jb x,Jj ps])]++Jy st1) [] rfl rfl (List.Perm.append_left _ hP) (List.Sublist.refl _) (List.Sublist.refl _) (BxLe.of_eq (by rw [eo])) trivial ⟨AVle.refl _,AVle.refl _,AVle.refl _,AVle.refl _,Jk rfl,trivial⟩)
    ·have hP:=JcN (k:=4) (by decide) st1
     have hrk:Jbx (st1 4):=hok1 _ (by decide)
     have hrs:st1 4=st 4:=hrest _ (Nat.le_refl _)
     have hln:(st1 4).1.length≤1000000:=by rw [hrs];exact hlen _ (by decide)
     rcases hk:st1 4 with ⟨R,_ | ⟨s,cap,tl⟩⟩
     ·rw [hk] at hP hrk hln
      dsimp only at hln
      have eo:Jo d x st1= [u32 (d:Nat),Jb x,Ja 10 (st1 0),Ja 11 (st1 1),Ja 12 (st1 2),Ja 13 (st1 3), .os 0 0 (fun _=> .any) none,Ja 15 (st1 5),Ja 16 (st1 6)]:=by simp only [Jo,hk,Ja]
      refine AW.le (E':=mk 75 [(1,Jr rs),(2, .bp (0,s0) 0),(3, .bp (1,s1) 0),(4, .bp (20,nx0) 0),(9,int (4:Nat))] (⟨[((20,nx0), .c [Jf nm,int a0,int a1,int a2,int a3,int a4,int mux,int sub]),((1,s1), .c [u32 (d:Nat),Jb x,Ja 10 (st1 0),Ja 11 (st1 1),Ja 12 (st1 2),Ja 13 (st1 3), .os 0 0 (fun _=> .any) none,Ja 15 (st1 5),Ja 16 (st1 6)]),((0,s0), .c [int dk,int dn,Jb x,Jj ps])]++(Jm 4 st1), [],nx2,21⟩:Heap)) (Jn ([((20,nx0), .c [Jf nm,int a0,int a1,int a2,int a3,int a4,int mux,int sub]),((1,s1), .c (Jo d x st1)),((0,s0), .c [int dk,int dn,Jb x,Jj ps])]++(Jm 4 st1)) ([((20,nx0), .c [Jf nm,int a0,int a1,int a2,int a3,int a4,int mux,int sub]),((1,s1), .c (Jo d x st1)),((0,s0), .c [int dk,int dn,Jb x,Jj ps])]++(Jm 4 st1)) [] rfl rfl (List.Perm.append_left _ hP.symm) (List.Sublist.refl _) (List.Sublist.refl _) (BxLe.of_eq (by rw [eo])) trivial ⟨AVle.refl _,AVle.refl _,AVle.refl _,AVle.refl _,AVle.refl _,trivial⟩) ?_
      refine stp ?_
      intro c t1;cases c
      ·have t1:=JC t1
       refine stp ?_
       refine Jd rfl rfl (Jb3 4 rs d (by decide) hl hc) ⟨AVle.refl _,AVle.refl _,AVle.refl _,trivial⟩ fun nx3=> ?_
       refine stp ?_
       intro c t2;cases c
       ·have t2:=JC t2
        refine stp ?_
        exact back (5,st1,nx3) ⟨by dsimp only;omega,hok1,Jav hdone hrs (Jal (.inr (.inr (List.eq_nil_of_length_eq_zero (by omega))))),fun j hj=> hrest j (by dsimp only at hj;omega)⟩ (by dsimp only;omega) (Jn ([((20,nx0), .c [Jf nm,int a0,int a1,int a2,int a3,int a4,int mux,int sub]),((1,s1), .c [u32 (d:Nat),Jb x,Ja 10 (st1 0),Ja 11 (st1 1),Ja 12 (st1 2),Ja 13 (st1 3), .os 0 0 (fun _=> .any) none,Ja 15 (st1 5),Ja 16 (st1 6)]),((0,s0), .c [int dk,int dn,Jb x,Jj ps])]++Jy st1) ([((20,nx0), .c [Jf nm,int a0,int a1,int a2,int a3,int a4,int mux,int sub]),((1,s1), .c [u32 (d:Nat),Jb x,Ja 10 (st1 0),Ja 11 (st1 1),Ja 12 (st1 2),Ja 13 (st1 3), .os 0 0 (fun _=> .any) none,Ja 15 (st1 5),Ja 16 (st1 6)]),((0,s0), .c [int dk,int dn,Jb x,Jj ps])]++Jy st1) [] rfl rfl (List.Perm.append_left _ hP) (List.Sublist.refl _) (List.Sublist.refl _) (BxLe.of_eq (by rw [eo])) trivial ⟨AVle.refl _,AVle.refl _,AVle.refl _,AVle.refl _,Jk rfl,trivial⟩)
       ·have t2:=JD t2
        have hwh:=JbI 4 a4 (by omega) (hn 4)
        have hen:Jas 4 d x ⟨nm,a0,a1,a2,a3,a4,mux,sub⟩ rs= [⟨Jaq 4 a4,JaH 4 rs d⟩]:=Jb4 t1 (fun h=> by cases h.1) (fun h=> by rw [h] at t2;exact absurd t2 (by decide))
        generalize JaH 4 rs d=W at t2 hen
        generalize Jaq 4 a4=z at hwh hen
        refine stp ?_
        refine Jah 14 [((20,nx0), .c [Jf nm,int a0,int a1,int a2,int a3,int a4,int mux,int sub]),((1,s1), .c [u32 (d:Nat),Jb x,Ja 10 (st1 0),Ja 11 (st1 1),Ja 12 (st1 2),Ja 13 (st1 3), .os 0 0 (fun _=> .any) none,Ja 15 (st1 5),Ja 16 (st1 6)]),((0,s0), .c [int dk,int dn,Jb x,Jj ps])] (fun i=> match i with | 12=> true | _=> false) (fun i=> match i with | 8=> true | _=> false) [0,1,2,3,4,5,6,7,8,9,10,11,13,12] (by kernel_rfl) (by kernel_rfl) (HB.cons rfl (HB.cons rfl (HB.one rfl))) ?_
        refine stp ?_
        refine ⟨_,Jae rfl rfl rfl hwh ⟨AVle.refl _,AVle.of_eq (congrArg u32 (Jcg (by omega) (hn 4))),trivial⟩ (NoId.v _), ?_⟩
        refine stp ?_
        refine ⟨_,Jb6 (e:=78) (szx:=2) (m:=1) rfl rfl rfl (.inr ⟨_,rfl⟩) Tryz.underlying35 JdI gc_ent.symm (by decide) (JO rfl) (by rw [JdJ];omega) (by omega) (fun _=> (HB.cons rfl (HB.cons rfl (HB.one rfl)))),fun r h' hr=> ?_⟩
        obtain ⟨ncap,hge,rfl,rfl⟩:=hr
        refine stp ?_
        exact back (5,Jw st1 4 ([]++ [(z,Jr W)],some (nx3,ncap,List.replicate ((ncap - 1) * 2) .any)),nx3+1) ⟨by dsimp only;omega,JbM hok1 ⟨(by simpa using hge),by rw [List.length_replicate];show ncap * 2≤1 * 2+_;omega⟩,Ja9 (R:= []) hdone hrs (by rw [hk,hrk]) hen,Jba hrest⟩ (by dsimp only;omega) (ELe.trans (Jn (pm:= []) (bx:= [((20,nx0), .c [Jf nm,int a0,int a1,int a2,int a3,int a4,int mux,int sub]),((1,s1), .c (Jo d x (Jw st1 4 ([]++ [(z,Jr W)],some (nx3,ncap,List.replicate ((ncap - 1) * 2) .any))))),((0,s0), .c [int dk,int dn,Jb x,Jj ps])]++(JaA 14 ([]++ [(z,Jr W)],some (nx3,ncap,List.replicate ((ncap - 1) * 2) .any))++Jm 4 st1)) (L:= [(1,Jr rs),(2, .bp (0,s0) 0),(3, .bp (1,s1) 0),(4, .bp (20,nx0) 0),(9,int (5:Nat))]) ([((20,nx0), .c [Jf nm,int a0,int a1,int a2,int a3,int a4,int mux,int sub]),((1,s1),Own.c [u32 (d:Nat),Jb x,Ja 10 (st1 0),Ja 11 (st1 1),Ja 12 (st1 2),Ja 13 (st1 3), .hs (21,nx3) 0 1 ncap,Ja 15 (st1 5),Ja 16 (st1 6)]),((0,s0), .c [int dk,int dn,Jb x,Jj ps])]++(((21,nx3), .c _)::Jm 4 st1)) ([((20,nx0), .c [Jf nm,int a0,int a1,int a2,int a3,int a4,int mux,int sub]),((1,s1),Own.c [u32 (d:Nat),Jb x,Ja 10 (st1 0),Ja 11 (st1 1),Ja 12 (st1 2),Ja 13 (st1 3), .hs (21,nx3) 0 1 ncap,Ja 15 (st1 5),Ja 16 (st1 6)]),((0,s0), .c [int dk,int dn,Jb x,Jj ps])]++(((21,nx3), .c _)::Jm 4 st1)) [] rfl rfl List.perm_middle (List.Sublist.refl _) (List.Sublist.refl _) (bx4 rfl (JkE (Ja5 (R:= []))) (Jdm gc_ent rfl)) trivial ⟨AVle.refl _,AVle.refl _,AVle.refl _,AVle.refl _,Jk rfl,trivial⟩) (JbE (k:=4) (by decide)))
      ·have t1:=JD t1
       refine stp ?_
       exact back (5,st1,nx2) ⟨by dsimp only;omega,hok1,Jav hdone hrs (Jal (.inl t1)),fun j hj=> hrest j (by dsimp only at hj;omega)⟩ (by dsimp only;omega) (Jn ([((20,nx0), .c [Jf nm,int a0,int a1,int a2,int a3,int a4,int mux,int sub]),((1,s1), .c [u32 (d:Nat),Jb x,Ja 10 (st1 0),Ja 11 (st1 1),Ja 12 (st1 2),Ja 13 (st1 3), .os 0 0 (fun _=> .any) none,Ja 15 (st1 5),Ja 16 (st1 6)]),((0,s0), .c [int dk,int dn,Jb x,Jj ps])]++Jy st1) ([((20,nx0), .c [Jf nm,int a0,int a1,int a2,int a3,int a4,int mux,int sub]),((1,s1), .c [u32 (d:Nat),Jb x,Ja 10 (st1 0),Ja 11 (st1 1),Ja 12 (st1 2),Ja 13 (st1 3), .os 0 0 (fun _=> .any) none,Ja 15 (st1 5),Ja 16 (st1 6)]),((0,s0), .c [int dk,int dn,Jb x,Jj ps])]++Jy st1) [] rfl rfl (List.Perm.append_left _ hP) (List.Sublist.refl _) (List.Sublist.refl _) (BxLe.of_eq (by rw [eo])) trivial ⟨AVle.refl _,AVle.refl _,AVle.refl _,AVle.refl _,Jk rfl,trivial⟩)
     ·rw [hk] at hP hrk hln
      dsimp only at hln
      have eo:Jo d x st1= [u32 (d:Nat),Jb x,Ja 10 (st1 0),Ja 11 (st1 1),Ja 12 (st1 2),Ja 13 (st1 3), .hs (14,s) 0 R.length cap,Ja 15 (st1 5),Ja 16 (st1 6)]:=by simp only [Jo,hk,Ja]
      refine AW.le (E':=mk 75 [(1,Jr rs),(2, .bp (0,s0) 0),(3, .bp (1,s1) 0),(4, .bp (20,nx0) 0),(9,int (4:Nat))] (⟨[((20,nx0), .c [Jf nm,int a0,int a1,int a2,int a3,int a4,int mux,int sub]),((1,s1), .c [u32 (d:Nat),Jb x,Ja 10 (st1 0),Ja 11 (st1 1),Ja 12 (st1 2),Ja 13 (st1 3), .hs (14,s) 0 R.length cap,Ja 15 (st1 5),Ja 16 (st1 6)]),((0,s0), .c [int dk,int dn,Jb x,Jj ps])]++(((14,s),Own.c (Jt R++tl))::Jm 4 st1), [],nx2,21⟩:Heap)) (Jn ([((20,nx0), .c [Jf nm,int a0,int a1,int a2,int a3,int a4,int mux,int sub]),((1,s1), .c (Jo d x st1)),((0,s0), .c [int dk,int dn,Jb x,Jj ps])]++(((14,s),Own.c (Jt R++tl))::Jm 4 st1)) ([((20,nx0), .c [Jf nm,int a0,int a1,int a2,int a3,int a4,int mux,int sub]),((1,s1), .c (Jo d x st1)),((0,s0), .c [int dk,int dn,Jb x,Jj ps])]++(((14,s),Own.c (Jt R++tl))::Jm 4 st1)) [] rfl rfl (List.Perm.append_left _ hP.symm) (List.Sublist.refl _) (List.Sublist.refl _) (BxLe.of_eq (by rw [eo])) trivial ⟨AVle.refl _,AVle.refl _,AVle.refl _,AVle.refl _,AVle.refl _,trivial⟩) ?_
      refine stp ?_
      intro c t1;cases c
      ·have t1:=JC t1
       refine stp ?_
       refine Jd rfl rfl (Jb3 4 rs d (by decide) hl hc) ⟨AVle.refl _,AVle.refl _,AVle.refl _,trivial⟩ fun nx3=> ?_
       refine stp ?_
       intro c t2;cases c
       ·have t2:=JC t2
        refine stp ?_
        exact back (5,st1,nx3) ⟨by dsimp only;omega,hok1,Jav hdone hrs (Jal (.inr (.inr (List.eq_nil_of_length_eq_zero (by omega))))),fun j hj=> hrest j (by dsimp only at hj;omega)⟩ (by dsimp only;omega) (Jn ([((20,nx0), .c [Jf nm,int a0,int a1,int a2,int a3,int a4,int mux,int sub]),((1,s1), .c [u32 (d:Nat),Jb x,Ja 10 (st1 0),Ja 11 (st1 1),Ja 12 (st1 2),Ja 13 (st1 3), .hs (14,s) 0 R.length cap,Ja 15 (st1 5),Ja 16 (st1 6)]),((0,s0), .c [int dk,int dn,Jb x,Jj ps])]++Jy st1) ([((20,nx0), .c [Jf nm,int a0,int a1,int a2,int a3,int a4,int mux,int sub]),((1,s1), .c [u32 (d:Nat),Jb x,Ja 10 (st1 0),Ja 11 (st1 1),Ja 12 (st1 2),Ja 13 (st1 3), .hs (14,s) 0 R.length cap,Ja 15 (st1 5),Ja 16 (st1 6)]),((0,s0), .c [int dk,int dn,Jb x,Jj ps])]++Jy st1) [] rfl rfl (List.Perm.append_left _ hP) (List.Sublist.refl _) (List.Sublist.refl _) (BxLe.of_eq (by rw [eo])) trivial ⟨AVle.refl _,AVle.refl _,AVle.refl _,AVle.refl _,Jk rfl,trivial⟩)
       ·have t2:=JD t2
        have hwh:=JbI 4 a4 (by omega) (hn 4)
        have hen:Jas 4 d x ⟨nm,a0,a1,a2,a3,a4,mux,sub⟩ rs= [⟨Jaq 4 a4,JaH 4 rs d⟩]:=Jb4 t1 (fun h=> by cases h.1) (fun h=> by rw [h] at t2;exact absurd t2 (by decide))
        generalize JaH 4 rs d=W at t2 hen
        generalize Jaq 4 a4=z at hwh hen
        refine stp ?_
        refine Jah 14 [((20,nx0), .c [Jf nm,int a0,int a1,int a2,int a3,int a4,int mux,int sub]),((1,s1), .c [u32 (d:Nat),Jb x,Ja 10 (st1 0),Ja 11 (st1 1),Ja 12 (st1 2),Ja 13 (st1 3), .hs (14,s) 0 R.length cap,Ja 15 (st1 5),Ja 16 (st1 6)]),((0,s0), .c [int dk,int dn,Jb x,Jj ps])] (fun i=> match i with | 12=> true | _=> false) (fun i=> match i with | 8=> true | _=> false) [0,1,2,3,4,5,6,7,8,9,10,11,13,12] (by kernel_rfl) (by kernel_rfl) (HB.cons rfl (HB.cons rfl (HB.one rfl))) ?_
        refine stp ?_
        refine ⟨_,Jae rfl rfl rfl hwh ⟨AVle.refl _,AVle.of_eq (congrArg u32 (Jcg (by omega) (hn 4))),trivial⟩ (NoId.v _), ?_⟩
        refine stp ?_
        refine ⟨_,Jcs (e:=78) (szx:=2) (m:=1) (n:=R.length) (cap:=cap) (i:=(14,s)) (cs:=Jt R++tl) rfl rfl rfl (.inr ⟨_,rfl⟩) Tryz.underlying35 JdI gc_ent.symm (by decide) rfl hrk.1 (by rw [gc_ent,List.length_append,Jbj];exact hrk.2) (JO rfl) (by rw [JdJ];omega) (by omega) (HB.cons rfl (HB.cons rfl (HB.one rfl))) (fun _=> (HB.cons rfl (HB.cons rfl (HB.one rfl)))),fun r h' hr=> ?_⟩
        rcases hr with ⟨hfit,rfl,rfl⟩ | ⟨ncap,hge,rfl,rfl⟩
        ·refine stp ?_
         exact back (5,Jw st1 4 (R++ [(z,Jr W)],some (s,cap,tl.drop 2)),nx3) ⟨by dsimp only;omega,JbM hok1 ⟨by rw [List.length_append];exact hfit,by have:=hrk.2;rw [List.length_append,List.length_drop,List.length_singleton];omega⟩,Ja9 (R:=R) hdone hrs hk hen,Jba hrest⟩ (by dsimp only;omega) (ELe.trans (Jn (pm:= []) (bx:= [((20,nx0), .c [Jf nm,int a0,int a1,int a2,int a3,int a4,int mux,int sub]),((1,s1), .c (Jo d x (Jw st1 4 (R++ [(z,Jr W)],some (s,cap,tl.drop 2))))),((0,s0), .c [int dk,int dn,Jb x,Jj ps])]++(JaA 14 (R++ [(z,Jr W)],some (s,cap,tl.drop 2))++Jm 4 st1)) (L:= [(1,Jr rs),(2, .bp (0,s0) 0),(3, .bp (1,s1) 0),(4, .bp (20,nx0) 0),(9,int (5:Nat))]) ([((20,nx0), .c [Jf nm,int a0,int a1,int a2,int a3,int a4,int mux,int sub]),((1,s1),Own.c [u32 (d:Nat),Jb x,Ja 10 (st1 0),Ja 11 (st1 1),Ja 12 (st1 2),Ja 13 (st1 3), .hs (14,s) 0 (R.length+1) cap,Ja 15 (st1 5),Ja 16 (st1 6)]),((0,s0), .c [int dk,int dn,Jb x,Jj ps])]++(((14,s), .c _)::Jm 4 st1)) ([((20,nx0), .c [Jf nm,int a0,int a1,int a2,int a3,int a4,int mux,int sub]),((1,s1),Own.c [u32 (d:Nat),Jb x,Ja 10 (st1 0),Ja 11 (st1 1),Ja 12 (st1 2),Ja 13 (st1 3), .hs (14,s) 0 (R.length+1) cap,Ja 15 (st1 5),Ja 16 (st1 6)]),((0,s0), .c [int dk,int dn,Jb x,Jj ps])]++(((14,s), .c _)::Jm 4 st1)) [] rfl rfl (List.Perm.refl _) (List.Sublist.refl _) (List.Sublist.refl _) (bx4 rfl (JkE (Ja5)) (Jfv gc_ent rfl)) trivial ⟨AVle.refl _,AVle.refl _,AVle.refl _,AVle.refl _,Jk rfl,trivial⟩) (JbE (k:=4) (by decide)))
        ·refine stp ?_
         exact back (5,Jw st1 4 (R++ [(z,Jr W)],some (nx3,ncap,List.replicate ((ncap - (R.length+1)) * 2) .any)),nx3+1) ⟨by dsimp only;omega,JbM hok1 ⟨by rw [List.length_append];exact hge,by rw [List.length_append,List.length_replicate,List.length_singleton,← Nat.add_mul];omega⟩,Ja9 (R:=R) hdone hrs hk hen,Jba hrest⟩ (by dsimp only;omega) (ELe.trans (Jn (pm:= []) (bx:= [((20,nx0), .c [Jf nm,int a0,int a1,int a2,int a3,int a4,int mux,int sub]),((1,s1), .c (Jo d x (Jw st1 4 (R++ [(z,Jr W)],some (nx3,ncap,List.replicate ((ncap - (R.length+1)) * 2) .any))))),((0,s0), .c [int dk,int dn,Jb x,Jj ps])]++(JaA 14 (R++ [(z,Jr W)],some (nx3,ncap,List.replicate ((ncap - (R.length+1)) * 2) .any))++Jm 4 st1)) (L:= [(1,Jr rs),(2, .bp (0,s0) 0),(3, .bp (1,s1) 0),(4, .bp (20,nx0) 0),(9,int (5:Nat))]) ([((20,nx0), .c [Jf nm,int a0,int a1,int a2,int a3,int a4,int mux,int sub]),((1,s1),Own.c [u32 (d:Nat),Jb x,Ja 10 (st1 0),Ja 11 (st1 1),Ja 12 (st1 2),Ja 13 (st1 3), .hs (21,nx3) 0 (R.length+1) ncap,Ja 15 (st1 5),Ja 16 (st1 6)]),((0,s0), .c [int dk,int dn,Jb x,Jj ps])]++(((21,nx3), .c _)::((14,s),Own.c (Jt R++tl))::Jm 4 st1)) ([((20,nx0), .c [Jf nm,int a0,int a1,int a2,int a3,int a4,int mux,int sub]),((1,s1),Own.c [u32 (d:Nat),Jb x,Ja 10 (st1 0),Ja 11 (st1 1),Ja 12 (st1 2),Ja 13 (st1 3), .hs (21,nx3) 0 (R.length+1) ncap,Ja 15 (st1 5),Ja 16 (st1 6)]),((0,s0), .c [int dk,int dn,Jb x,Jj ps])]++(((21,nx3), .c _)::Jm 4 st1)) [] rfl rfl List.perm_middle (List.Sublist.append_left (.cons_cons _ (.cons _ (List.Sublist.refl _))) _) (List.Sublist.refl _) (bx4 rfl (JkE (Ja5)) (JdR gc_ent rfl)) trivial ⟨AVle.refl _,AVle.refl _,AVle.refl _,AVle.refl _,Jk rfl,trivial⟩) (JbE (k:=4) (by decide)))
      ·have t1:=JD t1
       refine stp ?_
       exact back (5,st1,nx2) ⟨by dsimp only;omega,hok1,Jav hdone hrs (Jal (.inl t1)),fun j hj=> hrest j (by dsimp only at hj;omega)⟩ (by dsimp only;omega) (Jn ([((20,nx0), .c [Jf nm,int a0,int a1,int a2,int a3,int a4,int mux,int sub]),((1,s1), .c [u32 (d:Nat),Jb x,Ja 10 (st1 0),Ja 11 (st1 1),Ja 12 (st1 2),Ja 13 (st1 3), .hs (14,s) 0 R.length cap,Ja 15 (st1 5),Ja 16 (st1 6)]),((0,s0), .c [int dk,int dn,Jb x,Jj ps])]++Jy st1) ([((20,nx0), .c [Jf nm,int a0,int a1,int a2,int a3,int a4,int mux,int sub]),((1,s1), .c [u32 (d:Nat),Jb x,Ja 10 (st1 0),Ja 11 (st1 1),Ja 12 (st1 2),Ja 13 (st1 3), .hs (14,s) 0 R.length cap,Ja 15 (st1 5),Ja 16 (st1 6)]),((0,s0), .c [int dk,int dn,Jb x,Jj ps])]++Jy st1) [] rfl rfl (List.Perm.append_left _ hP) (List.Sublist.refl _) (List.Sublist.refl _) (BxLe.of_eq (by rw [eo])) trivial ⟨AVle.refl _,AVle.refl _,AVle.refl _,AVle.refl _,Jk rfl,trivial⟩)
 ·rintro ⟨st1,nx2⟩ ⟨hok1,hdone,hrest⟩
  dsimp only at hok1 hdone hrest
  rcases hm with rfl | rfl | rfl
  ·refine stp ?_
   exact J7 rfl ⟨.tup [],⟨[((1,s1), .c (Jo d x st1)),((0,s0), .c [int dk,int dn,Jb x,Jj ps])]++Jy st1, [],nx2,21⟩,AVle.refl _,Jay _ [] rfl (.cons _ (List.Sublist.refl _)) (List.Sublist.refl _) (BxLe.refl _) trivial,rfl,st1,_,_,⟨hok1,hdone,fun m hm=> by rw [show Jb9 m ⟨nm,a0,a1,a2,a3,a4,0,sub⟩ rs= [] from if_neg (show ¬(0:Int)=(m:Int)+1 by omega),hrest m hm];exact (List.append_nil _).symm⟩,rfl⟩
  ·have hP:=JcN (k:=5) (by decide) st1
   have hrk:Jbx (st1 5):=hok1 _ (by decide)
   have hrs:st1 5=st 5:=hrest 0 (by decide)
   have hln:(st1 5).1.length≤1000000:=by rw [hrs];exact hlen _ (by decide)
   have hsb:Jb9 0 ⟨nm,a0,a1,a2,a3,a4,1,sub⟩ rs= [⟨sub.toNat,(rs.getD 0 Jx).code⟩]:=if_pos (show ((1:Nat):Int)=((0:Nat):Int)+1 by decide)
   have hso:∀j,j < 2→j≠0→Jb9 j ⟨nm,a0,a1,a2,a3,a4,1,sub⟩ rs= []:=fun j hj hne=> if_neg (show ¬((1:Nat):Int)=(j:Int)+1 by omega)
   have hs1:0≤sub:=hs.1
   have hs2:sub≤255:=hs.2
   have hr0:0 < rs.length:=List.length_pos_iff.2 hr
   have hwr:IntKind.u32.wrap sub=((sub.toNat:Nat):Int):=by rw [Jcg hs1 (by omega)];omega
   have hw2: [AV.v (.int .u32 (IntKind.u32.wrap sub)),u32 ((rs.getD 0 Jx).code:Nat)]= [AV.v (.int .u32 ((J4 ⟨sub.toNat,(rs.getD 0 Jx).code⟩).1:Nat)),(J4 ⟨sub.toNat,(rs.getD 0 Jx).code⟩).2]:=congrArg (fun z:Int=> [AV.v (.int .u32 z),u32 ((rs.getD 0 Jx).code:Nat)]) hwr
   rcases hk:st1 5 with ⟨R,_ | ⟨s,cap,tl⟩⟩
   ·rw [hk] at hP hrk hln
    dsimp only at hln
    have eo:Jo d x st1= [u32 (d:Nat),Jb x,Ja 10 (st1 0),Ja 11 (st1 1),Ja 12 (st1 2),Ja 13 (st1 3),Ja 14 (st1 4), .os 0 0 (fun _=> .any) none,Ja 16 (st1 6)]:=by simp only [Jo,hk,Ja]
    refine AW.le (E':=mk 75 [(1,Jr rs),(2, .bp (0,s0) 0),(3, .bp (1,s1) 0),(4, .bp (20,nx0) 0)] (⟨[((20,nx0), .c [Jf nm,int a0,int a1,int a2,int a3,int a4,int 1,int sub]),((1,s1), .c [u32 (d:Nat),Jb x,Ja 10 (st1 0),Ja 11 (st1 1),Ja 12 (st1 2),Ja 13 (st1 3),Ja 14 (st1 4), .os 0 0 (fun _=> .any) none,Ja 16 (st1 6)]),((0,s0), .c [int dk,int dn,Jb x,Jj ps])]++(Jm 5 st1), [],nx2,21⟩:Heap)) (Jn ([((20,nx0), .c [Jf nm,int a0,int a1,int a2,int a3,int a4,int 1,int sub]),((1,s1), .c (Jo d x st1)),((0,s0), .c [int dk,int dn,Jb x,Jj ps])]++(Jm 5 st1)) ([((20,nx0), .c [Jf nm,int a0,int a1,int a2,int a3,int a4,int 1,int sub]),((1,s1), .c (Jo d x st1)),((0,s0), .c [int dk,int dn,Jb x,Jj ps])]++(Jm 5 st1)) [] rfl rfl (List.Perm.append_left _ hP.symm) (List.Sublist.refl _) (List.Sublist.refl _) (BxLe.of_eq (by rw [eo])) trivial ⟨AVle.refl _,AVle.refl _,AVle.refl _,AVle.refl _,trivial⟩) ?_
    refine stp ?_
    refine Jah 20 [((20,nx0), .c [Jf nm,int a0,int a1,int a2,int a3,int a4,int 1,int sub]),((1,s1), .c [u32 (d:Nat),Jb x,Ja 10 (st1 0),Ja 11 (st1 1),Ja 12 (st1 2),Ja 13 (st1 3),Ja 14 (st1 4), .os 0 0 (fun _=> .any) none,Ja 16 (st1 6)]),((0,s0), .c [int dk,int dn,Jb x,Jj ps])] (fun i=> match i with | 18=> true | _=> false) (fun _=> false) [0,1,2,3,4,5,6,7,8,9,10,11,12,13,14,15,16,17,19,18] (by kernel_rfl) (by kernel_rfl) (HB.cons rfl (HB.cons rfl (HB.one rfl))) ?_
    refine stp ?_
    refine ⟨⟨by first | omega | (dsimp only;omega),by first | omega | (dsimp only;omega)⟩,Jb2 (b:= .rp (Jcu (rs.getD 0 Jx)).cells) rfl ?_⟩
    refine stp ?_
    refine ⟨_,Jb6 (e:=120) (szx:=2) (m:=1) rfl rfl rfl (.inr ⟨_,rfl⟩) Tryz.underlying37 JjW gc_sub.symm (by decide) (JO rfl) (by rw [JjX];omega) (by omega) (fun _=> (HB.cons rfl (HB.cons rfl (HB.one rfl)))),fun r h' hr=> ?_⟩
    obtain ⟨ncap,hge,rfl,rfl⟩:=hr
    refine stp ?_
    exact J7 rfl ⟨.tup [],⟨[((1,s1), .c (Jo d x (Jw st1 5 ([]++ [J4 ⟨sub.toNat,(rs.getD 0 Jx).code⟩],some (nx2,ncap,List.replicate ((ncap - 1) * 2) .any))))),((0,s0), .c [int dk,int dn,Jb x,Jj ps])]++Jy (Jw st1 5 ([]++ [J4 ⟨sub.toNat,(rs.getD 0 Jx).code⟩],some (nx2,ncap,List.replicate ((ncap - 1) * 2) .any))), [],nx2+1,21⟩,AVle.refl _,HLe.trans (JdZ (bx:= [((1,s1), .c (Jo d x (Jw st1 5 ([]++ [J4 ⟨sub.toNat,(rs.getD 0 Jx).code⟩],some (nx2,ncap,List.replicate ((ncap - 1) * 2) .any))))),((0,s0), .c [int dk,int dn,Jb x,Jj ps])]++(JaA 15 ([]++ [J4 ⟨sub.toNat,(rs.getD 0 Jx).code⟩],some (nx2,ncap,List.replicate ((ncap - 1) * 2) .any))++Jm 5 st1)) ([((20,nx0), .c [Jf nm,int a0,int a1,int a2,int a3,int a4,int 1,int sub]),((1,s1),Own.c [u32 (d:Nat),Jb x,Ja 10 (st1 0),Ja 11 (st1 1),Ja 12 (st1 2),Ja 13 (st1 3),Ja 14 (st1 4), .hs (21,nx2) 0 1 ncap,Ja 16 (st1 6)]),((0,s0), .c [int dk,int dn,Jb x,Jj ps])]++(((21,nx2), .c _)::Jm 5 st1)) ([((1,s1),Own.c [u32 (d:Nat),Jb x,Ja 10 (st1 0),Ja 11 (st1 1),Ja 12 (st1 2),Ja 13 (st1 3),Ja 14 (st1 4), .hs (21,nx2) 0 1 ncap,Ja 16 (st1 6)]),((0,s0), .c [int dk,int dn,Jb x,Jj ps])]++(((21,nx2), .c _)::Jm 5 st1)) rfl List.perm_middle (.cons _ (List.Sublist.refl _)) rfl (bx3 rfl (JkF (Ja5 (R:= []))) (Jdm (e:=J4 ⟨sub.toNat,(rs.getD 0 Jx).code⟩) gc_sub (by exact hw2)))) (Jfd (k:=5) (by decide)),rfl,Jw st1 5 ([]++ [J4 ⟨sub.toNat,(rs.getD 0 Jx).code⟩],some (nx2,ncap,List.replicate ((ncap - 1) * 2) .any)),_,_,Jfc (m:=0) (R:= []) (by decide) hok1 hdone hrest (by rw [hk,hrk]) ⟨(by simpa using hge),by rw [List.length_replicate];show ncap * 2≤1 * 2+_;omega⟩ hsb hso,rfl⟩
   ·rw [hk] at hP hrk hln
    dsimp only at hln
    have eo:Jo d x st1= [u32 (d:Nat),Jb x,Ja 10 (st1 0),Ja 11 (st1 1),Ja 12 (st1 2),Ja 13 (st1 3),Ja 14 (st1 4), .hs (15,s) 0 R.length cap,Ja 16 (st1 6)]:=by simp only [Jo,hk,Ja]
    refine AW.le (E':=mk 75 [(1,Jr rs),(2, .bp (0,s0) 0),(3, .bp (1,s1) 0),(4, .bp (20,nx0) 0)] (⟨[((20,nx0), .c [Jf nm,int a0,int a1,int a2,int a3,int a4,int 1,int sub]),((1,s1), .c [u32 (d:Nat),Jb x,Ja 10 (st1 0),Ja 11 (st1 1),Ja 12 (st1 2),Ja 13 (st1 3),Ja 14 (st1 4), .hs (15,s) 0 R.length cap,Ja 16 (st1 6)]),((0,s0), .c [int dk,int dn,Jb x,Jj ps])]++(((15,s),Own.c (Jt R++tl))::Jm 5 st1), [],nx2,21⟩:Heap)) (Jn ([((20,nx0), .c [Jf nm,int a0,int a1,int a2,int a3,int a4,int 1,int sub]),((1,s1), .c (Jo d x st1)),((0,s0), .c [int dk,int dn,Jb x,Jj ps])]++(((15,s),Own.c (Jt R++tl))::Jm 5 st1)) ([((20,nx0), .c [Jf nm,int a0,int a1,int a2,int a3,int a4,int 1,int sub]),((1,s1), .c (Jo d x st1)),((0,s0), .c [int dk,int dn,Jb x,Jj ps])]++(((15,s),Own.c (Jt R++tl))::Jm 5 st1)) [] rfl rfl (List.Perm.append_left _ hP.symm) (List.Sublist.refl _) (List.Sublist.refl _) (BxLe.of_eq (by rw [eo])) trivial ⟨AVle.refl _,AVle.refl _,AVle.refl _,AVle.refl _,trivial⟩) ?_
    refine stp ?_
    refine Jah 20 [((20,nx0), .c [Jf nm,int a0,int a1,int a2,int a3,int a4,int 1,int sub]),((1,s1), .c [u32 (d:Nat),Jb x,Ja 10 (st1 0),Ja 11 (st1 1),Ja 12 (st1 2),Ja 13 (st1 3),Ja 14 (st1 4), .hs (15,s) 0 R.length cap,Ja 16 (st1 6)]),((0,s0), .c [int dk,int dn,Jb x,Jj ps])] (fun i=> match i with | 18=> true | _=> false) (fun _=> false) [0,1,2,3,4,5,6,7,8,9,10,11,12,13,14,15,16,17,19,18] (by kernel_rfl) (by kernel_rfl) (HB.cons rfl (HB.cons rfl (HB.one rfl))) ?_
    refine stp ?_
    refine ⟨⟨by first | omega | (dsimp only;omega),by first | omega | (dsimp only;omega)⟩,Jb2 (b:= .rp (Jcu (rs.getD 0 Jx)).cells) rfl ?_⟩
    refine stp ?_
    refine ⟨_,Jcs (e:=120) (szx:=2) (m:=1) (n:=R.length) (cap:=cap) (i:=(15,s)) (cs:=Jt R++tl) rfl rfl rfl (.inr ⟨_,rfl⟩) Tryz.underlying37 JjW gc_sub.symm (by decide) rfl hrk.1 (by rw [gc_sub,List.length_append,Jbj];exact hrk.2) (JO rfl) (by rw [JjX];omega) (by omega) (HB.cons rfl (HB.cons rfl (HB.one rfl))) (fun _=> (HB.cons rfl (HB.cons rfl (HB.one rfl)))),fun r h' hr=> ?_⟩
    rcases hr with ⟨hfit,rfl,rfl⟩ | ⟨ncap,hge,rfl,rfl⟩
    ·refine stp ?_
     exact J7 rfl ⟨.tup [],⟨[((1,s1), .c (Jo d x (Jw st1 5 (R++ [J4 ⟨sub.toNat,(rs.getD 0 Jx).code⟩],some (s,cap,tl.drop 2))))),((0,s0), .c [int dk,int dn,Jb x,Jj ps])]++Jy (Jw st1 5 (R++ [J4 ⟨sub.toNat,(rs.getD 0 Jx).code⟩],some (s,cap,tl.drop 2))), [],nx2,21⟩,AVle.refl _,HLe.trans (JdZ (bx:= [((1,s1), .c (Jo d x (Jw st1 5 (R++ [J4 ⟨sub.toNat,(rs.getD 0 Jx).code⟩],some (s,cap,tl.drop 2))))),((0,s0), .c [int dk,int dn,Jb x,Jj ps])]++(JaA 15 (R++ [J4 ⟨sub.toNat,(rs.getD 0 Jx).code⟩],some (s,cap,tl.drop 2))++Jm 5 st1)) ([((20,nx0), .c [Jf nm,int a0,int a1,int a2,int a3,int a4,int 1,int sub]),((1,s1),Own.c [u32 (d:Nat),Jb x,Ja 10 (st1 0),Ja 11 (st1 1),Ja 12 (st1 2),Ja 13 (st1 3),Ja 14 (st1 4), .hs (15,s) 0 (R.length+1) cap,Ja 16 (st1 6)]),((0,s0), .c [int dk,int dn,Jb x,Jj ps])]++(((15,s), .c _)::Jm 5 st1)) ([((1,s1),Own.c [u32 (d:Nat),Jb x,Ja 10 (st1 0),Ja 11 (st1 1),Ja 12 (st1 2),Ja 13 (st1 3),Ja 14 (st1 4), .hs (15,s) 0 (R.length+1) cap,Ja 16 (st1 6)]),((0,s0), .c [int dk,int dn,Jb x,Jj ps])]++(((15,s), .c _)::Jm 5 st1)) rfl (List.Perm.refl _) (.cons _ (List.Sublist.refl _)) rfl (bx3 rfl (JkF (Ja5)) (Jfv (e:=J4 ⟨sub.toNat,(rs.getD 0 Jx).code⟩) gc_sub (by exact hw2)))) (Jfd (k:=5) (by decide)),rfl,Jw st1 5 (R++ [J4 ⟨sub.toNat,(rs.getD 0 Jx).code⟩],some (s,cap,tl.drop 2)),_,_,Jfc (m:=0) (R:=R) (by decide) hok1 hdone hrest hk ⟨by rw [List.length_append];exact hfit,by have:=hrk.2;rw [List.length_append,List.length_drop,List.length_singleton];omega⟩ hsb hso,rfl⟩
    ·refine stp ?_
     exact J7 rfl ⟨.tup [],⟨[((1,s1), .c (Jo d x (Jw st1 5 (R++ [J4 ⟨sub.toNat,(rs.getD 0 Jx).code⟩],some (nx2,ncap,List.replicate ((ncap - (R.length+1)) * 2) .any))))),((0,s0), .c [int dk,int dn,Jb x,Jj ps])]++Jy (Jw st1 5 (R++ [J4 ⟨sub.toNat,(rs.getD 0 Jx).code⟩],some (nx2,ncap,List.replicate ((ncap - (R.length+1)) * 2) .any))), [],nx2+1,21⟩,AVle.refl _,HLe.trans (JdZ (bx:= [((1,s1), .c (Jo d x (Jw st1 5 (R++ [J4 ⟨sub.toNat,(rs.getD 0 Jx).code⟩],some (nx2,ncap,List.replicate ((ncap - (R.length+1)) * 2) .any))))),((0,s0), .c [int dk,int dn,Jb x,Jj ps])]++(JaA 15 (R++ [J4 ⟨sub.toNat,(rs.getD 0 Jx).code⟩],some (nx2,ncap,List.replicate ((ncap - (R.length+1)) * 2) .any))++Jm 5 st1)) ([((20,nx0), .c [Jf nm,int a0,int a1,int a2,int a3,int a4,int 1,int sub]),((1,s1),Own.c [u32 (d:Nat),Jb x,Ja 10 (st1 0),Ja 11 (st1 1),Ja 12 (st1 2),Ja 13 (st1 3),Ja 14 (st1 4), .hs (21,nx2) 0 (R.length+1) ncap,Ja 16 (st1 6)]),((0,s0), .c [int dk,int dn,Jb x,Jj ps])]++(((21,nx2), .c _)::((15,s),Own.c (Jt R++tl))::Jm 5 st1)) ([((1,s1),Own.c [u32 (d:Nat),Jb x,Ja 10 (st1 0),Ja 11 (st1 1),Ja 12 (st1 2),Ja 13 (st1 3),Ja 14 (st1 4), .hs (21,nx2) 0 (R.length+1) ncap,Ja 16 (st1 6)]),((0,s0), .c [int dk,int dn,Jb x,Jj ps])]++(((21,nx2), .c _)::Jm 5 st1)) rfl List.perm_middle (.cons _ (.cons_cons _ (.cons_cons _ (.cons_cons _ (.cons _ (List.Sublist.refl _)))))) rfl (bx3 rfl (JkF (Ja5)) (JdR (e:=J4 ⟨sub.toNat,(rs.getD 0 Jx).code⟩) gc_sub (by exact hw2)))) (Jfd (k:=5) (by decide)),rfl,Jw st1 5 (R++ [J4 ⟨sub.toNat,(rs.getD 0 Jx).code⟩],some (nx2,ncap,List.replicate ((ncap - (R.length+1)) * 2) .any)),_,_,Jfc (m:=0) (R:=R) (by decide) hok1 hdone hrest hk ⟨by rw [List.length_append];exact hge,by rw [List.length_append,List.length_replicate,List.length_singleton,← Nat.add_mul];omega⟩ hsb hso,rfl⟩
  ·have hP:=JcN (k:=6) (by decide) st1
   have hrk:Jbx (st1 6):=hok1 _ (by decide)
   have hrs:st1 6=st 6:=hrest 1 (by decide)
   have hln:(st1 6).1.length≤1000000:=by rw [hrs];exact hlen _ (by decide)
   have hsb:Jb9 1 ⟨nm,a0,a1,a2,a3,a4,2,sub⟩ rs= [⟨sub.toNat,(rs.getD 0 Jx).code⟩]:=if_pos (show ((2:Nat):Int)=((1:Nat):Int)+1 by decide)
   have hso:∀j,j < 2→j≠1→Jb9 j ⟨nm,a0,a1,a2,a3,a4,2,sub⟩ rs= []:=fun j hj hne=> if_neg (show ¬((2:Nat):Int)=(j:Int)+1 by omega)
   have hs1:0≤sub:=hs.1
   have hs2:sub≤255:=hs.2
   have hr0:0 < rs.length:=List.length_pos_iff.2 hr
   have hwr:IntKind.u32.wrap sub=((sub.toNat:Nat):Int):=by rw [Jcg hs1 (by omega)];omega
   have hw2: [AV.v (.int .u32 (IntKind.u32.wrap sub)),u32 ((rs.getD 0 Jx).code:Nat)]= [AV.v (.int .u32 ((J4 ⟨sub.toNat,(rs.getD 0 Jx).code⟩).1:Nat)),(J4 ⟨sub.toNat,(rs.getD 0 Jx).code⟩).2]:=congrArg (fun z:Int=> [AV.v (.int .u32 z),u32 ((rs.getD 0 Jx).code:Nat)]) hwr
   rcases hk:st1 6 with ⟨R,_ | ⟨s,cap,tl⟩⟩
   ·rw [hk] at hP hrk hln
    dsimp only at hln
    have eo:Jo d x st1= [u32 (d:Nat),Jb x,Ja 10 (st1 0),Ja 11 (st1 1),Ja 12 (st1 2),Ja 13 (st1 3),Ja 14 (st1 4),Ja 15 (st1 5), .os 0 0 (fun _=> .any) none]:=by simp only [Jo,hk,Ja]
    refine AW.le (E':=mk 75 [(1,Jr rs),(2, .bp (0,s0) 0),(3, .bp (1,s1) 0),(4, .bp (20,nx0) 0)] (⟨[((20,nx0), .c [Jf nm,int a0,int a1,int a2,int a3,int a4,int 2,int sub]),((1,s1), .c [u32 (d:Nat),Jb x,Ja 10 (st1 0),Ja 11 (st1 1),Ja 12 (st1 2),Ja 13 (st1 3),Ja 14 (st1 4),Ja 15 (st1 5), .os 0 0 (fun _=> .any) none]),((0,s0), .c [int dk,int dn,Jb x,Jj ps])]++(Jm 6 st1), [],nx2,21⟩:Heap)) (Jn ([((20,nx0), .c [Jf nm,int a0,int a1,int a2,int a3,int a4,int 2,int sub]),((1,s1), .c (Jo d x st1)),((0,s0), .c [int dk,int dn,Jb x,Jj ps])]++(Jm 6 st1)) ([((20,nx0), .c [Jf nm,int a0,int a1,int a2,int a3,int a4,int 2,int sub]),((1,s1), .c (Jo d x st1)),((0,s0), .c [int dk,int dn,Jb x,Jj ps])]++(Jm 6 st1)) [] rfl rfl (List.Perm.append_left _ hP.symm) (List.Sublist.refl _) (List.Sublist.refl _) (BxLe.of_eq (by rw [eo])) trivial ⟨AVle.refl _,AVle.refl _,AVle.refl _,AVle.refl _,trivial⟩) ?_
    refine stp ?_
    refine Jah 20 [((20,nx0), .c [Jf nm,int a0,int a1,int a2,int a3,int a4,int 2,int sub]),((1,s1), .c [u32 (d:Nat),Jb x,Ja 10 (st1 0),Ja 11 (st1 1),Ja 12 (st1 2),Ja 13 (st1 3),Ja 14 (st1 4),Ja 15 (st1 5), .os 0 0 (fun _=> .any) none]),((0,s0), .c [int dk,int dn,Jb x,Jj ps])] (fun i=> match i with | 18=> true | _=> false) (fun _=> false) [0,1,2,3,4,5,6,7,8,9,10,11,12,13,14,15,16,17,19,18] (by kernel_rfl) (by kernel_rfl) (HB.cons rfl (HB.cons rfl (HB.one rfl))) ?_
    refine stp ?_
    refine ⟨⟨by first | omega | (dsimp only;omega),by first | omega | (dsimp only;omega)⟩,Jb2 (b:= .rp (Jcu (rs.getD 0 Jx)).cells) rfl ?_⟩
    refine stp ?_
    refine ⟨_,Jb6 (e:=120) (szx:=2) (m:=1) rfl rfl rfl (.inr ⟨_,rfl⟩) Tryz.underlying37 JjW gc_sub.symm (by decide) (JO rfl) (by rw [JjX];omega) (by omega) (fun _=> (HB.cons rfl (HB.cons rfl (HB.one rfl)))),fun r h' hr=> ?_⟩
    obtain ⟨ncap,hge,rfl,rfl⟩:=hr
    refine stp ?_
    exact J7 rfl ⟨.tup [],⟨[((1,s1), .c (Jo d x (Jw st1 6 ([]++ [J4 ⟨sub.toNat,(rs.getD 0 Jx).code⟩],some (nx2,ncap,List.replicate ((ncap - 1) * 2) .any))))),((0,s0), .c [int dk,int dn,Jb x,Jj ps])]++Jy (Jw st1 6 ([]++ [J4 ⟨sub.toNat,(rs.getD 0 Jx).code⟩],some (nx2,ncap,List.replicate ((ncap - 1) * 2) .any))), [],nx2+1,21⟩,AVle.refl _,HLe.trans (JdZ (bx:= [((1,s1), .c (Jo d x (Jw st1 6 ([]++ [J4 ⟨sub.toNat,(rs.getD 0 Jx).code⟩],some (nx2,ncap,List.replicate ((ncap - 1) * 2) .any))))),((0,s0), .c [int dk,int dn,Jb x,Jj ps])]++(JaA 16 ([]++ [J4 ⟨sub.toNat,(rs.getD 0 Jx).code⟩],some (nx2,ncap,List.replicate ((ncap - 1) * 2) .any))++Jm 6 st1)) ([((20,nx0), .c [Jf nm,int a0,int a1,int a2,int a3,int a4,int 2,int sub]),((1,s1),Own.c [u32 (d:Nat),Jb x,Ja 10 (st1 0),Ja 11 (st1 1),Ja 12 (st1 2),Ja 13 (st1 3),Ja 14 (st1 4),Ja 15 (st1 5), .hs (21,nx2) 0 1 ncap]),((0,s0), .c [int dk,int dn,Jb x,Jj ps])]++(((21,nx2), .c _)::Jm 6 st1)) ([((1,s1),Own.c [u32 (d:Nat),Jb x,Ja 10 (st1 0),Ja 11 (st1 1),Ja 12 (st1 2),Ja 13 (st1 3),Ja 14 (st1 4),Ja 15 (st1 5), .hs (21,nx2) 0 1 ncap]),((0,s0), .c [int dk,int dn,Jb x,Jj ps])]++(((21,nx2), .c _)::Jm 6 st1)) rfl List.perm_middle (.cons _ (List.Sublist.refl _)) rfl (bx3 rfl (JkG (Ja5 (R:= []))) (Jdm (e:=J4 ⟨sub.toNat,(rs.getD 0 Jx).code⟩) gc_sub (by exact hw2)))) (Jfd (k:=6) (by decide)),rfl,Jw st1 6 ([]++ [J4 ⟨sub.toNat,(rs.getD 0 Jx).code⟩],some (nx2,ncap,List.replicate ((ncap - 1) * 2) .any)),_,_,Jfc (m:=1) (R:= []) (by decide) hok1 hdone hrest (by rw [hk,hrk]) ⟨(by simpa using hge),by rw [List.length_replicate];show ncap * 2≤1 * 2+_;omega⟩ hsb hso,rfl⟩
   ·rw [hk] at hP hrk hln
    dsimp only at hln
    have eo:Jo d x st1= [u32 (d:Nat),Jb x,Ja 10 (st1 0),Ja 11 (st1 1),Ja 12 (st1 2),Ja 13 (st1 3),Ja 14 (st1 4),Ja 15 (st1 5), .hs (16,s) 0 R.length cap]:=by simp only [Jo,hk,Ja]
    refine AW.le (E':=mk 75 [(1,Jr rs),(2, .bp (0,s0) 0),(3, .bp (1,s1) 0),(4, .bp (20,nx0) 0)] (⟨[((20,nx0), .c [Jf nm,int a0,int a1,int a2,int a3,int a4,int 2,int sub]),((1,s1), .c [u32 (d:Nat),Jb x,Ja 10 (st1 0),Ja 11 (st1 1),Ja 12 (st1 2),Ja 13 (st1 3),Ja 14 (st1 4),Ja 15 (st1 5), .hs (16,s) 0 R.length cap]),((0,s0), .c [int dk,int dn,Jb x,Jj ps])]++(((16,s),Own.c (Jt R++tl))::Jm 6 st1), [],nx2,21⟩:Heap)) (Jn ([((20,nx0), .c [Jf nm,int a0,int a1,int a2,int a3,int a4,int 2,int sub]),((1,s1), .c (Jo d x st1)),((0,s0), .c [int dk,int dn,Jb x,Jj ps])]++(((16,s),Own.c (Jt R++tl))::Jm 6 st1)) ([((20,nx0), .c [Jf nm,int a0,int a1,int a2,int a3,int a4,int 2,int sub]),((1,s1), .c (Jo d x st1)),((0,s0), .c [int dk,int dn,Jb x,Jj ps])]++(((16,s),Own.c (Jt R++tl))::Jm 6 st1)) [] rfl rfl (List.Perm.append_left _ hP.symm) (List.Sublist.refl _) (List.Sublist.refl _) (BxLe.of_eq (by rw [eo])) trivial ⟨AVle.refl _,AVle.refl _,AVle.refl _,AVle.refl _,trivial⟩) ?_
    refine stp ?_
    refine Jah 20 [((20,nx0), .c [Jf nm,int a0,int a1,int a2,int a3,int a4,int 2,int sub]),((1,s1), .c [u32 (d:Nat),Jb x,Ja 10 (st1 0),Ja 11 (st1 1),Ja 12 (st1 2),Ja 13 (st1 3),Ja 14 (st1 4),Ja 15 (st1 5), .hs (16,s) 0 R.length cap]),((0,s0), .c [int dk,int dn,Jb x,Jj ps])] (fun i=> match i with | 18=> true | _=> false) (fun _=> false) [0,1,2,3,4,5,6,7,8,9,10,11,12,13,14,15,16,17,19,18] (by kernel_rfl) (by kernel_rfl) (HB.cons rfl (HB.cons rfl (HB.one rfl))) ?_
    refine stp ?_
    refine ⟨⟨by first | omega | (dsimp only;omega),by first | omega | (dsimp only;omega)⟩,Jb2 (b:= .rp (Jcu (rs.getD 0 Jx)).cells) rfl ?_⟩
    refine stp ?_
    refine ⟨_,Jcs (e:=120) (szx:=2) (m:=1) (n:=R.length) (cap:=cap) (i:=(16,s)) (cs:=Jt R++tl) rfl rfl rfl (.inr ⟨_,rfl⟩) Tryz.underlying37 JjW gc_sub.symm (by decide) rfl hrk.1 (by rw [gc_sub,List.length_append,Jbj];exact hrk.2) (JO rfl) (by rw [JjX];omega) (by omega) (HB.cons rfl (HB.cons rfl (HB.one rfl))) (fun _=> (HB.cons rfl (HB.cons rfl (HB.one rfl)))),fun r h' hr=> ?_⟩
    rcases hr with ⟨hfit,rfl,rfl⟩ | ⟨ncap,hge,rfl,rfl⟩
    ·refine stp ?_
     exact J7 rfl ⟨.tup [],⟨[((1,s1), .c (Jo d x (Jw st1 6 (R++ [J4 ⟨sub.toNat,(rs.getD 0 Jx).code⟩],some (s,cap,tl.drop 2))))),((0,s0), .c [int dk,int dn,Jb x,Jj ps])]++Jy (Jw st1 6 (R++ [J4 ⟨sub.toNat,(rs.getD 0 Jx).code⟩],some (s,cap,tl.drop 2))), [],nx2,21⟩,AVle.refl _,HLe.trans (JdZ (bx:= [((1,s1), .c (Jo d x (Jw st1 6 (R++ [J4 ⟨sub.toNat,(rs.getD 0 Jx).code⟩],some (s,cap,tl.drop 2))))),((0,s0), .c [int dk,int dn,Jb x,Jj ps])]++(JaA 16 (R++ [J4 ⟨sub.toNat,(rs.getD 0 Jx).code⟩],some (s,cap,tl.drop 2))++Jm 6 st1)) ([((20,nx0), .c [Jf nm,int a0,int a1,int a2,int a3,int a4,int 2,int sub]),((1,s1),Own.c [u32 (d:Nat),Jb x,Ja 10 (st1 0),Ja 11 (st1 1),Ja 12 (st1 2),Ja 13 (st1 3),Ja 14 (st1 4),Ja 15 (st1 5), .hs (16,s) 0 (R.length+1) cap]),((0,s0), .c [int dk,int dn,Jb x,Jj ps])]++(((16,s), .c _)::Jm 6 st1)) ([((1,s1),Own.c [u32 (d:Nat),Jb x,Ja 10 (st1 0),Ja 11 (st1 1),Ja 12 (st1 2),Ja 13 (st1 3),Ja 14 (st1 4),Ja 15 (st1 5), .hs (16,s) 0 (R.length+1) cap]),((0,s0), .c [int dk,int dn,Jb x,Jj ps])]++(((16,s), .c _)::Jm 6 st1)) rfl (List.Perm.refl _) (.cons _ (List.Sublist.refl _)) rfl (bx3 rfl (JkG (Ja5)) (Jfv (e:=J4 ⟨sub.toNat,(rs.getD 0 Jx).code⟩) gc_sub (by exact hw2)))) (Jfd (k:=6) (by decide)),rfl,Jw st1 6 (R++ [J4 ⟨sub.toNat,(rs.getD 0 Jx).code⟩],some (s,cap,tl.drop 2)),_,_,Jfc (m:=1) (R:=R) (by decide) hok1 hdone hrest hk ⟨by rw [List.length_append];exact hfit,by have:=hrk.2;rw [List.length_append,List.length_drop,List.length_singleton];omega⟩ hsb hso,rfl⟩
    ·refine stp ?_
     exact J7 rfl ⟨.tup [],⟨[((1,s1), .c (Jo d x (Jw st1 6 (R++ [J4 ⟨sub.toNat,(rs.getD 0 Jx).code⟩],some (nx2,ncap,List.replicate ((ncap - (R.length+1)) * 2) .any))))),((0,s0), .c [int dk,int dn,Jb x,Jj ps])]++Jy (Jw st1 6 (R++ [J4 ⟨sub.toNat,(rs.getD 0 Jx).code⟩],some (nx2,ncap,List.replicate ((ncap - (R.length+1)) * 2) .any))), [],nx2+1,21⟩,AVle.refl _,HLe.trans (JdZ (bx:= [((1,s1), .c (Jo d x (Jw st1 6 (R++ [J4 ⟨sub.toNat,(rs.getD 0 Jx).code⟩],some (nx2,ncap,List.replicate ((ncap - (R.length+1)) * 2) .any))))),((0,s0), .c [int dk,int dn,Jb x,Jj ps])]++(JaA 16 (R++ [J4 ⟨sub.toNat,(rs.getD 0 Jx).code⟩],some (nx2,ncap,List.replicate ((ncap - (R.length+1)) * 2) .any))++Jm 6 st1)) ([((20,nx0), .c [Jf nm,int a0,int a1,int a2,int a3,int a4,int 2,int sub]),((1,s1),Own.c [u32 (d:Nat),Jb x,Ja 10 (st1 0),Ja 11 (st1 1),Ja 12 (st1 2),Ja 13 (st1 3),Ja 14 (st1 4),Ja 15 (st1 5), .hs (21,nx2) 0 (R.length+1) ncap]),((0,s0), .c [int dk,int dn,Jb x,Jj ps])]++(((21,nx2), .c _)::((16,s),Own.c (Jt R++tl))::Jm 6 st1)) ([((1,s1),Own.c [u32 (d:Nat),Jb x,Ja 10 (st1 0),Ja 11 (st1 1),Ja 12 (st1 2),Ja 13 (st1 3),Ja 14 (st1 4),Ja 15 (st1 5), .hs (21,nx2) 0 (R.length+1) ncap]),((0,s0), .c [int dk,int dn,Jb x,Jj ps])]++(((21,nx2), .c _)::Jm 6 st1)) rfl List.perm_middle (.cons _ (.cons_cons _ (.cons_cons _ (.cons_cons _ (.cons _ (List.Sublist.refl _)))))) rfl (bx3 rfl (JkG (Ja5)) (JdR (e:=J4 ⟨sub.toNat,(rs.getD 0 Jx).code⟩) gc_sub (by exact hw2)))) (Jfd (k:=6) (by decide)),rfl,Jw st1 6 (R++ [J4 ⟨sub.toNat,(rs.getD 0 Jx).code⟩],some (nx2,ncap,List.replicate ((ncap - (R.length+1)) * 2) .any)),_,_,Jfc (m:=1) (R:=R) (by decide) hok1 hdone hrest hk ⟨by rw [List.length_append];exact hge,by rw [List.length_append,List.length_replicate,List.length_singleton,← Nat.add_mul];omega⟩ hsb hso,rfl⟩
end Go.Proofs.W

namespace Go.Proofs.W
open Go.Vl Go.Shelf Go.RowKit
set_option maxRecDepth 100000
theorem Jsc (n:Nat) (h1:1≤n) (h2:n < 18446744073709551616):Tells Tryz.prog 364 [u64 n] (int (Lib.nDigits n:Nat)):=
 Jc4 (vs:= [.int .u64 n]) ⟨_,Tryz.func364,rfl,rfl⟩ fun w hk=> (Any.internal_strconv_numDigits { Tryz.laysM171 with} n h1 h2 w (Jo4 hk)).mono fun e w' ⟨h1,h2⟩=> ⟨h1,h2 ▸ Below.refl _ _⟩
theorem Jqy (n:Nat) (h:n < 100):Tells Tryz.prog 363 [int n] (Jf (Jc1 n)):=
 Jc4 (vs:= [.int .i64 n]) ⟨_,Tryz.func363,rfl,rfl⟩ fun w hk=> (Any.internal_strconv_small { Tryz.laysM171 with} n h w).mono fun e w' ⟨h1,h2⟩=> ⟨h1,h2 ▸ Below.refl _ _⟩
def byV (b:UInt8):Value:= .int .u8 (b.toNat:Int)
def zer (k:Nat):List AV:=List.replicate k (.v (.int .u8 0))
theorem JuI {k:Nat} (h:k≤24):zer 24=(Array.replicate k (0:UInt8)).toList.map (fun b=> AV.v (byV b))++zer (24 - k):=by
 unfold zer
 rw [Array.toList_replicate,List.map_replicate,show byV 0= .int .u8 0 from rfl,List.replicate_append_replicate]
 congr 1
 omega
theorem JtY {n:Nat} (h1:1≤n) (h:n < 18446744073709551616):Lib.nDigits n≤20:=by
 have:=Lib.numDigits_eq n h1 h
 split at this <;> omega
def JtB (n:Nat):List AV:=(Lib.decDigits n).map (fun b=> AV.v (byV b))++zer (24 - Lib.nDigits n)
theorem Jqz (n:Nat) (h1:1≤n) (h:n < 18446744073709551616) (s nx:Nat):
 ECall Tryz.prog 365 [.hs (0,s) 0 (Lib.nDigits n) 24,u64 n] ⟨[((0,s), .c (zer 24))], [],nx,1⟩ fun r h'=> r= .tup []∧h'=⟨[((0,s), .c (JtB n))], [],nx,1⟩:=by
 have h20:=JtY h1 h
 have hd:(Array.replicate (Lib.nDigits n) (0:UInt8)).size=Lib.nDigits n:=Array.size_replicate
 rw [JuI (k:=Lib.nDigits n) (by omega)]
 have:=Jk3 (P:=Tryz.prog) (enc:=byV) (d:=Array.replicate (Lib.nDigits n) (0:UInt8)) (d':=(Lib.decDigits n).toArray) (tl:=zer (24 - Lib.nDigits n)) (vs:= [.int .u64 n]) (R:= .tup []) (res:=fun _=> .tuple #[]) (nm:=0) (s:=s) (cap:=24) (nx:=nx) (nn:=1) (f:=365) ⟨_,Tryz.func365,rfl,rfl⟩ (by rw [hd,List.size_toArray,Lib.decDigits_length]) (fun _ _ _ _ _=> .tup [] [] rfl (by simp)) (fun w blk hk hH hb=> by
  have k:=Any.internal_strconv_formatBase10 { Tryz.laysM171 with} blk 0 24 n (Array.replicate (Lib.nDigits n) 0) w hH (by rw [hd];exact Lib.lt_pow_nDigits n) h (by rw [hd];omega)
  refine k.mono fun e w' ⟨h1,q,v',dk,h2,hF⟩=> ⟨h1,q, #[], ?_⟩
  rw [hd] at hF
  have e1:dk=(Lib.decDigits n).toArray:=by
   refine Array.ext (by rw [hF.size,List.size_toArray,Lib.decDigits_length]) fun j hj1 hj2=> ?_
   have hj3:j < (Lib.decDigits n).length:=by simpa using hj2
   have:=Lib.row_is_numeral hF j hj3
   have e3:dk[j]! =dk[j]:=by simp [hj1]
   exact e3.symm.trans (this.symm.trans (by simp))
  have e2:(Sort.putRow byV w blk 0 dk).drewN q=Sort.putRow byV (Sort.ahead w q) blk 0 dk:=by
   have:=putRow_drewN byV w 0 q blk 0 dk
   rw [Nat.zero_add] at this
   exact this
  rw [h2,← e1]
  show (Sort.putRow byV w blk 0 dk).drewN q=_
  rw [e2]
  unfold Sort.grow
  rw [Array.append_empty])
 rw [hd] at this
 exact this
theorem JvA {n j:Nat} (hj:j < (Lib.decDigits n).length):(JtB n)[0+j]? =some (.v (.int .u8 ((Lib.decDigits n)[j].toNat:Int))):=by
 unfold JtB
 rw [Nat.zero_add,List.getElem?_append_left (by simpa using hj),List.getElem?_map,List.getElem?_eq_getElem hj]
 rfl
set_option maxHeartbeats 1000000 in
theorem JnG (n:Nat) (hn:n < 18446744073709551616):Tells Tryz.prog 367 [u64 n,int 10] (Jf (Jc1 n)):=by
 refine Jg Tryz.func367 rfl rfl fun nx=> ?_
 refine stp ?_
 intro c t1;cases c
 ·have t1:=JC t1
  have h1:1≤n:=by omega
  have h20:=JtY h1 hn
  refine stp ?_
  refine Jd rfl rfl (Jsc n h1 hn) ⟨AVle.refl _,trivial⟩ fun nx2=> ?_
  refine JV ?_
  refine JQ (fun n=> match n with | 0=> true | _=> false) 2 ?_
  refine stp ?_
  refine Jk4 (n:=24) (h:=Lib.nDigits n) rfl rfl rfl Tryz.underlying432 Tryz.underlying5 (by kernel_rfl) (by omega) (by decide) ?_
  refine stp ?_
  refine JS (xs:= [.hs (0,nx) 0 (Lib.nDigits n) 24,u64 n]) [] [] 1 rfl rfl rfl rfl ⟨AVle.refl _,AVle.refl _,trivial⟩ (Jqz n h1 hn nx _) (BxLe.refl _) (PmEq.refl _) rfl fun r h' hq=> ?_
  obtain ⟨rfl,rfl⟩:=hq
  refine JV ?_
  refine JQ (fun n=> match n with | 0=> true | 1=> true | _=> false) 3 ?_
  refine stp ?_
  refine Jk4 (n:=24) (h:=Lib.nDigits n) rfl rfl rfl Tryz.underlying432 Tryz.underlying5 (by kernel_rfl) (by omega) (by decide) ?_
  refine stp ?_
  refine Jrm (l:=Lib.decDigits n) (cap:=24) (off:=0) (i:=(0,nx)) rfl (by rw [Lib.decDigits_length];rfl) rfl (fun j hj=> JvA hj) Tryz.underlying59 Tryz.underlying5 Tryz.underlying9 ?_
  refine stp ?_
  exact Je rfl (AVle.refl _)
 ·have t1:=JD t1
  refine stp ?_
  refine Jd rfl rfl (Jqy n (by omega)) ⟨Jk (JaX (by omega) (by omega)),trivial⟩ fun nx2=> ?_
  refine stp ?_
  exact Je rfl (AVle.refl _)
end Go.Proofs.W

namespace Go.Proofs.W
open Go.Vl
set_option maxRecDepth 100000
end Go.Proofs.W

namespace Go.Proofs.W
open Go.Vl
set_option maxRecDepth 100000
theorem JqZ {a b:ByteArray} (h:a=b):AVle (Jf a) (Jf b):=h ▸ AVle.refl _
theorem Jo6:∀(k n:Nat),n < 10 ^ (k+1)→(Lib.decDigits n).length≤k+1
 | 0,n,h=> by rw [Lib.decDigits,dif_pos (by omega)];exact Nat.le_refl _
 | k+1,n,h=> by
   rw [Lib.decDigits]
   split
   ·exact Nat.succ_le_succ (Nat.zero_le _)
   ·rw [List.length_append,List.length_singleton]
    have:=Jo6 k (n / 10) (by rw [Nat.pow_succ] at h;omega)
    omega
theorem JlD {n:Nat} (h:n≤18446744073709551615):(Jc1 n).size≤20:=Jo6 19 n (by omega)
theorem JlE {a b:AV} {K:AV→Prop} (h:a=b) (hk:Jcj b K):Jcj a K:=h ▸ hk
def spB:ByteArray:=⟨#[32]⟩
end Go.Proofs.W

namespace Go.Proofs
open Go.Shelf
shelf_lay Lays.n156 Nm 156 at Tryz as Tryz.lays156
end Go.Proofs
namespace Go.Proofs.W
open Go.Vl Go.Shelf Go.RowKit
set_option maxRecDepth 100000
theorem JtZ:Builder.Extra Tryz.prog Tryz.lays156_ren where
 sizeBuilder:=by kernel_rfl
 liesBuilder:=by kernel_rfl
 t5:=Tryz.underlying5
 a5:=Tryz.isAgg5
 z5:=Tryz.sizeOf5
 v5:=Tryz.zeroValue5
 infoByte:=by kernel_rfl
 cellsByte:=by kernel_rfl
 sizeByte:=by kernel_rfl
 neB5:=by decide
def Jl7 (l:List ByteArray):AV:=JJ 1 Jf ⟨#[]⟩ l
def JdL (l:List ByteArray) (sep:ByteArray):ByteArray:=⟨(Lib.join (l.map (·.data.toList)) sep.data.toList).toArray⟩
theorem JfM (l:List ByteArray) (sep:ByteArray) (hl:l.length≤1000000) (hs:(JdL l sep).size≤140737488355328):Tells Tryz.prog 190 [Jl7 l,Jf sep] (Jf (JdL l sep)):=by
 have h:=JpB (P:=Tryz.prog) (f:=190) (u:= .string (JdL l sep)) (xs:=l.map .string) (vs:= [.string sep]) ⟨_,Tryz.func190,rfl,rfl⟩ (fun h0 a cap w _=> ?_) (fun b off cap w hk hc hb hcap h0=> ?_)
 refine Tells.args (bs:= [.sl 1 (l.map Value.string).length (fun k=> .v ((l.map Value.string).getD k undef)),Jf sep]) ⟨?_,AVle.refl _,trivial⟩ h
 ·rw [List.length_map]
  refine AVle.sl_fun fun k hk=> ?_
  simp [Jf,List.getD,List.getElem?_map,List.getElem?_eq_getElem hk]
 ·obtain rfl:l= []:=by simpa using h0
  exact (Any.strings_Join_none Tryz.lays156 JtZ a cap sep w).mono fun e w' ⟨h1,h2⟩=> ⟨h1,h2 ▸ Below.refl _ _⟩
 ·rw [List.length_map] at hcap⊢
  exact Any.strings_Join Tryz.lays156 JtZ b off cap l sep w (fun j x hx=> hc j _ (by rw [List.getElem?_map,hx];rfl)) hb (by omega) hcap (by simpa [JdL,ByteArray.size] using hs)
theorem JnH (n:Nat) (h:n < 18446744073709551616):Tells Tryz.prog 248 [u64 n] (Jf (Jc1 n)):=by
 have h1:Tells Tryz.prog 303 [u64 n,int 10] (Jf (Jc1 n)):=by
  refine Jg Tryz.func303 rfl rfl fun nx=> ?_
  refine stp ?_
  refine Jd rfl rfl (JnG n h) ⟨AVle.refl _,AVle.refl _,trivial⟩ fun nx2=> ?_
  refine stp ?_
  exact Je rfl (AVle.refl _)
 refine Jg Tryz.func248 rfl rfl fun nx=> ?_
 refine stp ?_
 refine Jd rfl rfl h1 ⟨AVle.refl _,AVle.refl _,trivial⟩ fun nx2=> ?_
 refine stp ?_
 exact Je rfl (AVle.refl _)
def JkH (c:Cnd):ByteArray:=⟨(J3 c).toArray⟩
theorem JiQ {n:Nat} (h:n < 18446744073709551616):(Lib.decDigits n).length≤20:=by
 have h2:(Jc1 n).size≤20:=JlD (by omega)
 exact h2
theorem JuJ {k:Nat} (hk:k < 7):∃s:ByteArray,s.data.toList=opT k∧s.size≤2∧∃f,JcU Jkh k= .ag [Jf s,fn0 f]:=by
 match k,hk with
 | 0,_ | 1,_ | 2,_ | 3,_ | 4,_ | 5,_ | 6,_=> exact ⟨_,rfl,by decide,_,rfl⟩
theorem JqA {f:Nat→AV} (h:(f 0).cells.all Ja2=true) (h':(f 1).cells.all Ja2=true):Jcy 2 f:=fun k hk=> by
 rcases k with _ | _ | k
 ·exact h
 ·exact h'
 ·omega
theorem Jv7 (a b c:Bts):Lib.join [a,b,c] [32]=a++32::(b++32::c):=by simp [Lib.join,List.intercalate,List.intersperse]
theorem Jv8 (a b c d e:Bts):Lib.join [a,b,c,d,e] [32]=a++32::(b++32::(c++32::(d++32::e))):=by simp [Lib.join,List.intercalate,List.intersperse]
def aB:ByteArray:=⟨#[97]⟩
def eqB:ByteArray:=⟨#[61,61]⟩
theorem Jfw (a b:ByteArray):(a++b).data.toList=a.data.toList++b.data.toList:=by simp
theorem Jfx (n:Nat):(Jc1 n).data.toList=Lib.decDigits n:=rfl
theorem JwW {i k m v:Nat} {so:ByteArray} (h:so.data.toList=opT k) (hk:k≠6):JdL [aB++Jc1 i,so,Jc1 v] spB=JkH ⟨(i:Nat),(k:Int)+1,m,v⟩:=by
 unfold JdL JkH J3
 rw [List.map_cons,List.map_cons,List.map_cons,List.map_nil,Jfw,h,Jfx,Jfx,show spB.data.toList= [32] from rfl,Jv7]
 dsimp only
 rw [if_neg (by omega),show ((k:Int)+1).toNat - 1=k by omega,Int.toNat_natCast]
 rfl
theorem JwX {i m v:Nat} {so:ByteArray} (h:so.data.toList=opT 6):JdL [aB++Jc1 i,so,Jc1 m,eqB,Jc1 v] spB=JkH ⟨(i:Nat),7,m,v⟩:=by
 unfold JdL JkH J3
 rw [List.map_cons,List.map_cons,List.map_cons,List.map_cons,List.map_cons,List.map_nil,Jfw,h,Jfx,Jfx,Jfx,show spB.data.toList= [32] from rfl,Jv8]
 dsimp only
 rw [if_pos rfl,Int.toNat_natCast]
 rfl
theorem Jhq {c:Cnd} (hr:JZ c=true) (hok:c.ok):(JkH c).size≤1000:=by
 obtain ⟨h1,h2,h3,h4,h5⟩:=Jaf.1 hr
 show (J3 c).length≤1000
 have d1:=JiQ (n:=c.arg.toNat) (by omega)
 have d2:=JiQ hok.1
 have d3:=JiQ hok.2
 have d4:∀k:Nat,k < 7→(opT k).length≤2:=by decide
 have d5:=d4 (c.op.toNat - 1) (by omega)
 unfold J3
 simp only [List.length_append,List.length_cons,List.length_nil]
 split
 ·simp only [List.length_append,List.length_cons];omega
 ·omega
theorem JnI {a b:ByteArray} (h:a=b):AVle (Jf a) (Jf b):=JqZ h
set_option maxHeartbeats 2000000 in
theorem Jsd (c:Cnd) (hr:JZ c=true) (hok:c.ok):Tells Tryz.prog 174 [JL c] (Jf (JkH c)):=by
 obtain ⟨h1,h2,h3,h4,h5⟩:=Jaf.1 hr
 have hR:=Jdt c
 rw [hr] at hR
 obtain ⟨arg,op,mask,value⟩:=c
 dsimp only at h1 h2 h3 h4 h5
 obtain ⟨i,rfl⟩:∃i:Nat,arg=i:=⟨arg.toNat,by omega⟩
 obtain ⟨k,rfl⟩:∃k:Nat,op=k+1:=⟨(op - 1).toNat,by omega⟩
 have hit:=Jr3 i (by omega)
 have hdv:=JnH value hok.2
 have hdm:=JnH mask hok.1
 have hk7:k < 7:=by omega
 obtain ⟨so,hso,hss,f,hf⟩:=JuJ hk7
 have hx:IntKind.i64.wrap ((k:Int)+1 - 1)=(k:Int):=by rw [JaX (by omega) (by omega)];omega
 refine Jg Tryz.func174 rfl rfl fun nx=> ?_
 refine stp ?_
 refine Jd rfl rfl hR ⟨AVle.refl _,trivial⟩ fun nx2=> ?_
 refine stp ?_
 refine Jah 12 _ (fun _=> false) (fun i=> match i with | 2=> true | 4=> true | _=> false) [0,1,2,3,4,5,6,7,8,9,10,11] (by kernel_rfl) (by kernel_rfl) (HB.refl _) ?_
 refine stp ?_
 refine ⟨_,Jae rfl rfl rfl hit ⟨AVle.refl _,trivial⟩ (NoId.v _), ?_⟩
 refine stp ?_
 refine ⟨by have:=JlD (n:=i) (by omega);have h2:(⟨#[97]⟩:ByteArray).size=1:=rfl;rw [h2];omega, ?_⟩
 refine stp ?_
 refine ⟨_,Jae rfl rfl rfl JmZ trivial Jm0, ?_⟩
 refine stp ?_
 refine ⟨⟨by rw [hx];omega,by rw [hx];omega⟩,JlE (b:= .rp [Jf so,fn0 f]) (by rw [hx];show AV.rp (JcU Jkh k).cells=_;rw [hf];rfl) ?_⟩
 refine stp ?_
 intro c t1;cases c
 ·have t1:k≠6:=fun e=> by subst e;cases t1
  refine stp ?_
  refine Jd rfl rfl hdv ⟨AVle.refl _,trivial⟩ fun nx3=> ?_
  refine stp ?_
  refine ⟨JO rfl,by show (2+1) * 16≤_;decide,by decide, ?_⟩
  refine stp ?_
  have e:=JwW (i:=i) (m:=mask) (v:=value) hso t1
  refine Jd rfl rfl (JfM [aB++Jc1 i,so,Jc1 value] spB (by show 3≤_;decide) (by rw [e];exact Nat.le_trans (Jhq hr hok) (by decide))) ⟨AVle.os_sl.trans (AVle.sl_fun fun j hj=> ?_),AVle.refl _,trivial⟩ fun nx3=> ?_
  ·match j,hj with
   | 0,_ | 1,_ | 2,_=> rfl
  refine stp ?_
  exact Je rfl (JnI e)
 ·have t1:k=6:=by have:(k:Int)+1=7:=by simpa using t1.symm
                  omega
  subst t1
  refine stp ?_
  refine Jd rfl rfl hdm ⟨AVle.refl _,trivial⟩ fun nx3=> ?_
  refine stp ?_
  refine ⟨JqA rfl rfl,by show (2+2) * 16≤_;decide,by decide, ?_⟩
  refine stp ?_
  refine Jd rfl rfl hdv ⟨AVle.refl _,trivial⟩ fun nx3=> ?_
  refine stp ?_
  refine ⟨JO rfl,by show (4+1) * 16≤_;decide,by decide, ?_⟩
  refine stp ?_
  have e:=JwX (i:=i) (m:=mask) (v:=value) hso
  refine Jd rfl rfl (JfM [aB++Jc1 i,so,Jc1 mask,eqB,Jc1 value] spB (by show 5≤_;decide) (by rw [e];exact Nat.le_trans (Jhq hr hok) (by decide))) ⟨AVle.os_sl.trans (AVle.sl_fun fun j hj=> ?_),AVle.refl _,trivial⟩ fun nx3=> ?_
  ·match j,hj with
   | 0,_ | 1,_ | 2,_ | 3,_ | 4,_=> rfl
  refine stp ?_
  exact Je rfl (JnI e)
end Go.Proofs.W

namespace Go.Proofs
open Go.Shelf
shelf_lay_g SlLaysN.n44 Slgn 44 at Tryz 191 as Tryz.laysN44
end Go.Proofs
namespace Go.Proofs.W
open Go.Vl Go.Shelf
set_option maxRecDepth 100000
theorem JjY (d:Array Bts):∀m,Lib.compactUpTo d m=cUs d m
 | 0=> rfl
 | m+1=> by
   rw [Lib.compactUpTo_succ,JjY d m,cUs]
   unfold Lib.keeps
   by_cases h:m=0∨d[m]! ≠d[m - 1]!
   ·rw [if_pos h,decide_eq_true h];rfl
   ·rw [if_neg h,decide_eq_false h];simp
theorem Jse (d0:Array Bts) (tl:List AV) (n:Nat) (hn:d0.size=n) (hsz:n≤1000000) (s cap nx:Nat) (hcap:n≤cap):
 ECall Tryz.prog 191 [.hs (0,s) 0 n cap] ⟨JcK s d0 tl, [],nx,1⟩ (fun r h'=> ∃tl' nx' nn',r= .hs (0,s) 0 (cUs d0 n).length cap∧h'=⟨JcK s (cUs d0 n).toArray tl', [],nx',nn'⟩):=by
 subst hn
 have hle:=Jny d0 d0.size
 have h:=Jk3 (P:=Tryz.prog) (enc:=encStr) (d:=d0) (d':=(cUs d0 d0.size++List.replicate (d0.size - (cUs d0 d0.size).length) []).toArray) (tl:=tl) (vs:= []) (R:= .hs (0,s) 0 (cUs d0 d0.size).length cap) (res:=fun b=> .slice (some ⟨b,0,none⟩) (cUs d0 d0.size).length cap) (nm:=0) (s:=s) (cap:=cap) (nx:=nx) (nn:=1) (f:=191) ⟨_,Tryz.func191,rfl,rfl⟩ (by simp;omega) (fun w X g b hg=> .hs _ _ _ _ b hg) (fun w blk hk hH hb=> by
  have k:=AnyG.slices_Compact_string_arr Tryz.laysN44 blk 0 cap d0 w hH (by omega) hcap
  rw [JjY] at k
  exact k.mono fun e w' ⟨h1,q,h2⟩=> ⟨h1,q, #[],by rw [h2];unfold Sort.grow;rw [Array.append_empty]⟩)
 refine h.mono fun r h' ⟨h1,h2⟩=> ⟨List.replicate (d0.size - (cUs d0 d0.size).length) (JaE [])++tl,nx,1,h1, ?_⟩
 rw [h2]
 unfold JcK Jbe
 simp [JaE]
def JqB (sz:Nat):AV:= .os sz 0 (fun _=> .any) none
theorem Jsf:Tells Tryz.prog 191 [JqB 1] (JqB 1):=by
 refine Jg Tryz.func191 rfl rfl fun nx=> ?_
 refine stp ?_
 exact Je rfl (AVle.refl _)
theorem Jhr (d:Array Bts) (tl:List AV):Jbe JaE d tl=J6 (fun z=> [JaE z]) d tl:=by
 unfold Jbe J6
 rw [List.map_eq_flatMap]
theorem JnJ:∀z:Bts,([JaE z]:List AV).length=1:=fun _=> rfl
theorem c_str:Tryz.prog.cellsOf 9=1:=by kernel_rfl
theorem Jsg:Ja4 Tryz.prog 9=true:=by kernel_rfl
theorem Jsh:Tryz.prog.bytesOf 9=16:=by kernel_rfl
theorem Jv9 {l:List Bts} {x:Bts} {tl:List AV} (h:1≤tl.length):JX (Jbe JaE l.toArray tl) (l.length * Tryz.prog.cellsOf 9) [JaE x]=Jbe JaE (l++ [x]).toArray (tl.drop 1):=by
 rw [c_str,Jhr,Jhr];exact JkZ JnJ h
theorem Jwa {x:Bts} {m:Nat}: [JaE x]++List.replicate (m * Tryz.prog.cellsOf 9) AV.any=Jbe JaE #[x] (List.replicate m .any):=by
 rw [c_str];simp [Jbe]
theorem Jwb {l:List Bts} {x:Bts} {tl:List AV} {m:Nat}:(Jbe JaE l.toArray tl).take (l.length * Tryz.prog.cellsOf 9)++ [JaE x]++List.replicate (m * Tryz.prog.cellsOf 9) .any=Jbe JaE (l++ [x]).toArray (List.replicate m .any):=by
 rw [c_str,Jhr,Jhr,Jk0 JnJ,Nat.mul_one];exact JmT
def JwY (L:List Bts):Option (Nat×Nat×List AV)→AV
 | none=> JqB 1
 | some (s1,cap,_)=> .hs (0,s1) 0 L.length cap
def JwZ (L:List Bts):Option (Nat×Nat×List AV)→List (Vl.Id×Own)
 | none=> []
 | some (s1,_,tl)=> JcK s1 L.toArray tl
def Jw0 (L:List Bts):Option (Nat×Nat×List AV)→Prop
 | none=> L= []
 | some (_,cap,tl)=> 1≤L.length∧L.length≤cap∧cap≤L.length+tl.length
theorem Jo7 {i j:Vl.Id} {L:List Bts} {x:Bts} {cap:Nat} (h:i.2=j.2):AVle (.hs i 0 (L.length+1) cap) (.hs j 0 (L++ [x]).length cap):=by
 rw [List.length_append];exact AVle.hs_nm h
theorem Jwc {L:List Bts}:AVle (JJ 1 JaE [] L) (Jl7 (L.map fun z=> ⟨z.toArray⟩)):=by
 unfold JJ Jl7 JJ
 rw [List.length_map]
 refine AVle.sl_fun fun k hk=> ?_
 simp [JaE,encStr,Jf,List.getD,List.getElem?_map,List.getElem?_eq_getElem hk]
def semiB:ByteArray:=⟨#[59]⟩
theorem Jo8:∀L:List Bts,Lib.join L [59]=Jd9 59 L
 | []=> rfl
 | [a]=> by rw [Lib.join_one];rfl
 | a::b::l=> by
   have:=Jo8 (b::l)
   rw [JbW (List.cons_ne_nil _ _),← this]
   simp [Lib.join,List.intercalate,List.intersperse]
theorem JtC (L:List Bts):JdL (L.map fun z=> ⟨z.toArray⟩) semiB=⟨(Jd9 59 L).toArray⟩:=by
 unfold JdL
 rw [List.map_map,show ((fun x:ByteArray=> x.data.toList)∘fun z:Bts=> (⟨z.toArray⟩:ByteArray))=id from funext fun z=> by simp,List.map_id,show semiB.data.toList= [59] from rfl,Jo8]
theorem JlF:∀(L:List Bts) (N:Nat),(∀a∈L,a.length≤N)→(Jd9 59 L).length≤L.length * (N+1)
 | [],N,_=> Nat.zero_le _
 | [a],N,h=> by have:=h a (.head _);show a.length≤_;simp;omega
 | a::b::l,N,h=> by
   have h1:=h a (.head _)
   have h2:=JlF (b::l) N fun x hx=> h x (.tail _ hx)
   rw [JbW (List.cons_ne_nil _ _),List.length_append,List.length_cons]
   rw [show (a::b::l).length=(b::l).length+1 from rfl,Nat.succ_mul]
   omega
def JeS (cs:List Cnd):ByteArray:=⟨(JfV cs).toArray⟩
theorem JqC {cs:List Cnd} {i:Nat} (hi:i < cs.length):(cs.take (i+1)).map J3=(cs.take i).map J3++ [J3 (cs.getD i cnd0)]:=by
 rw [Jb1 cnd0 hi,List.map_append];rfl
theorem Jo9 (cs:List Cnd):JdL ((Jca (cs.map J3)).map fun z=> ⟨z.toArray⟩) semiB=JeS cs:=JtC _
theorem JtD:Jf (JdL [] semiB)=Jf (JeS []):=by
 unfold JeS
 rw [JiN.2 rfl];rfl
theorem Jl8 {a b:Own} (h:a=b):OwnLe a b:=h ▸ OwnLe.refl a
theorem JtE {bs:List (Nat×Own)} {i:Vl.Id} {n cap:Nat} {l:List Bts} {tl:List AV} (hn:l.length=n) (hm:(i.2, .c (Jbe JaE l.toArray tl))∈bs) (hcap:n≤cap):Frz bs (.hs i 0 n cap) (JJ 1 JaE [] l):=
 Jgw JnJ (fun _=> rfl) hn (by rw [← Jhr];exact hm) hcap
theorem Jsi {c:Cnd} (hr:JZ c=true) (hok:c.ok):(J3 c).length≤1000:=Jhq hr hok
theorem JlG (l:List Bts):(Jca l).length≤l.length:=by
 have:=Jny (Je7 l).toArray (Je7 l).length
 unfold Jca
 have h2:(Je7 l).length=l.length:=Jbr
 omega
theorem JjZ {cs:List Cnd} (hr:∀c∈cs,JZ c=true) (hok:∀c∈cs,c.ok) (hl:cs.length≤12):(JeS cs).size≤12012:=by
 have h1:=JlF (Jca (cs.map J3)) 1000 fun a ha=> by
  obtain ⟨c,hc,rfl⟩:=List.mem_map.1 (((Jbp _).2 a).1 ha)
  exact Jsi (hr c hc) (hok c hc)
 have h2:=JlG (cs.map J3)
 rw [List.length_map] at h2
 have h3:(Jca (cs.map J3)).length * (1000+1)≤12 * (1000+1):=Nat.mul_le_mul_right _ (by omega)
 show (JfV cs).length≤_
 unfold JfV
 omega
set_option maxHeartbeats 4000000 in
theorem JtF (cs:List Cnd) (hr:∀c∈cs,JZ c=true) (hok:∀c∈cs,c.ok) (hl:cs.length≤12):Tells Tryz.prog 104 [Jbt cs] (Jf (JeS cs)):=by
 refine Jg Tryz.func104 rfl rfl fun nx=> ?_
 refine stp ?_
 refine JN (fun y:Nat×List Bts×Option (Nat×Nat×List AV)×Nat=> mk 23 [(3,JwY y.2.1 y.2.2.1),(6,Jbt cs),(7,int cs.length),(8,int y.1)] ⟨JwZ y.2.1 y.2.2.1, [],y.2.2.2,1⟩) (fun y=> y.1≤cs.length∧y.2.1=(cs.take y.1).map J3∧Jw0 y.2.1 y.2.2.1) (fun y=> cs.length - y.1) ?_ ?_
 ·exact ⟨(0, [],none,nx),⟨Nat.zero_le _,rfl,rfl⟩,Jh (bx:= []) (pm:= []) [] [] rfl rfl (List.nil_sublist _) (List.Sublist.refl _) trivial trivial ⟨AVle.os_nil,AVle.refl _,AVle.refl _,AVle.refl _,trivial⟩⟩
 ·rintro ⟨i,L,md,nx1⟩ ⟨h1,hL,h2⟩
  dsimp only at h1 hL h2
  have hLl:L.length=i:=by rw [hL,List.length_map,List.length_take];omega
  refine stp ?_
  intro c g;cases c
  ·have g:=JC g
   try dsimp only at g
   have hi:i=cs.length:=by omega
   subst hi
   rw [List.take_length] at hL
   rcases md with _ | ⟨s1,cap,tl⟩
   ·obtain rfl:L= []:=h2
    obtain rfl:cs= []:=List.length_eq_zero_iff.1 (by simpa using hLl.symm)
    refine stp ?_
    refine Jd rfl rfl (Jrx _) ⟨AVle.refl _,trivial⟩ fun nx2=> ?_
    refine stp ?_
    refine Jd rfl rfl Jsf ⟨AVle.refl _,trivial⟩ fun nx3=> ?_
    refine stp ?_
    refine Jd rfl rfl (JfM [] semiB (by decide) (by decide)) ⟨AVle.os_sl0,AVle.refl _,trivial⟩ fun nx4=> ?_
    refine stp ?_
    exact Je rfl (AVle.of_eq JtD)
   ·obtain ⟨q1,q2,q3⟩:=h2
    refine stp ?_
    refine JS (xs:= [.hs (0,s1) 0 L.length cap]) [] [] 1 rfl rfl rfl rfl ⟨AVle.refl _,trivial⟩ (Jrw L.toArray tl L.length (by simp) (by omega) s1 cap _) (BxLe.refl _) (PmEq.refl _) rfl fun r h' hq=> ?_
    obtain ⟨nx2,nn2,rfl⟩:=hq
    refine stp ?_
    refine JS (xs:= [.hs (0,s1) 0 L.length cap]) [] [] 1 rfl rfl rfl rfl ⟨AVle.refl _,trivial⟩ (Jse (Jai Go.Sort.ltStr L.toArray.toList).toArray tl L.length (by simp [Jbr]) (by omega) s1 cap _ q2) (BxLe.refl _) (PmEq.refl _) rfl fun r h' hq=> ?_
    obtain ⟨tl2,nx3,nn3,rfl,rfl⟩:=hq
    refine stp ?_
    have hst:∀l:List Bts,(Jai Go.Sort.ltStr l).length=l.length:=fun l=> Jbr
    have hcT:cUs (Jai Go.Sort.ltStr L.toArray.toList).toArray L.length=Jca (cs.map J3):=by
     unfold Jca Je7
     rw [hst,← hL]
    rw [hcT]
    have hcl:=JlG (cs.map J3)
    rw [← hL] at hcl
    rw [← hL]
    have hj:Tells Tryz.prog 190 [JJ 1 JaE [] (Jca L),Jf semiB] _:=Tells.args (bs:= [Jl7 ((Jca L).map fun z=> ⟨z.toArray⟩),Jf semiB]) ⟨Jwc,AVle.refl _,trivial⟩ (JfM ((Jca L).map fun z=> ⟨z.toArray⟩) semiB (by rw [List.length_map];omega) (by rw [hL,Jo9];exact Nat.le_trans (JjZ hr hok hl) (by decide)))
    refine AOp.of_yields (Jn5 rfl rfl hj ⟨JtE (i:=(0,s1)) rfl (.head _) (by omega),Frz.refl _,trivial⟩ (Flat.v _)) ?_
    refine stp ?_
    exact Je rfl (JnI (by rw [hL];exact Jo9 cs))
  ·have g:=JD g
   try dsimp only at g
   have hi:i < cs.length:=by omega
   have hm:cs.getD i cnd0∈cs:=by simp [List.getD,hi]
   have ht:=Jsd _ (hr _ hm) (hok _ hm)
   have hn:=JqC hi
   rw [← hL] at hn
   rcases md with _ | ⟨s1,cap,tl⟩
   ·obtain rfl:L= []:=h2
    refine stp ?_
    refine ⟨⟨by first | omega | (dsimp only;omega),by first | omega | (dsimp only;omega)⟩, ?_⟩
    refine JV ?_
    refine JQ (fun i=> match i with | 0=> true | _=> false) 5 ?_
    refine stp ?_
    refine Jd rfl rfl ht ⟨AVle.refl _,trivial⟩ fun nx2=> ?_
    refine stp ?_
    refine Jfm (m:=1) rfl rfl (.inr ⟨_,rfl⟩) Tryz.underlying207 Jsg c_str.symm (by decide) (JO rfl) (by rw [Jsh];omega) (by omega) fun ncap hcap=> ?_
    refine stp ?_
    exact back (i+1, [J3 (cs.getD i cnd0)],some (nx2,ncap,List.replicate (ncap - 1) .any),nx2+1) ⟨hi,hn.symm,⟨Nat.le_refl _,hcap,by simp;omega⟩⟩ (by dsimp only;omega) (Jh (pm:= []) (bx:=JcK nx2 #[J3 (cs.getD i cnd0)] (List.replicate (ncap - 1) .any)) [((2,nx2), .c ([JaE (J3 (cs.getD i cnd0))]++List.replicate ((ncap - 1) * Tryz.prog.cellsOf 9) .any))] [] rfl rfl (.cons_cons _ (.cons _ .slnil)) .slnil ⟨rfl,Jl8 (congrArg Own.c Jwa),trivial⟩ trivial ⟨AVle.hs_nm rfl,AVle.refl _,AVle.refl _,Jk (Js (by first | omega | (dsimp only;omega))),trivial⟩)
   ·obtain ⟨q1,q2,q3⟩:=h2
    refine stp ?_
    refine ⟨⟨by first | omega | (dsimp only;omega),by first | omega | (dsimp only;omega)⟩, ?_⟩
    refine JV ?_
    refine JQ (fun i=> match i with | 0=> true | _=> false) 5 ?_
    refine stp ?_
    refine Jd rfl rfl ht ⟨AVle.refl _,trivial⟩ fun nx2=> ?_
    refine stp ?_
    refine Jey (m:=1) (szx:=1) (n:=L.length) (cap:=cap) (cs:=Jbe JaE L.toArray tl) (i:=(0,s1)) rfl rfl (.inr ⟨_,rfl⟩) Tryz.underlying207 Jsg (.inr c_str.symm) (by rfl) q2 (by rw [c_str,Jgs];simpa using q3) (JO rfl) (fun _=> by rw [Jsh];omega) (fun _=> by omega) (fun hm=> absurd hm (by decide)) (fun hm hfit=> ?_) (fun hm hfit ncap hcap=> ?_)
    ·refine stp ?_
     (conv=> whnf)
     exact back (i+1,L++ [J3 (cs.getD i cnd0)],some (s1,cap,tl.drop 1),nx2) ⟨hi,hn.symm,⟨by simp,by simpa using hfit,by simp;omega⟩⟩ (by dsimp only;omega) (Jh (pm:= []) (bx:=JcK s1 (L++ [J3 (cs.getD i cnd0)]).toArray (tl.drop 1)) [((0,s1), .c (JX (Jbe JaE L.toArray tl) (L.length * Tryz.prog.cellsOf 9) [JaE (J3 (cs.getD i cnd0))]))] [] rfl rfl (.cons _ (.cons_cons _ .slnil)) .slnil ⟨rfl,Jl8 (congrArg Own.c (Jv9 (by have:=hfit;omega))),trivial⟩ trivial ⟨Jo7 rfl,AVle.refl _,AVle.refl _,Jk (Js (by first | omega | (dsimp only;omega))),trivial⟩)
    ·refine stp ?_
     (conv=> whnf)
     exact back (i+1,L++ [J3 (cs.getD i cnd0)],some (nx2,ncap,List.replicate (ncap - (L.length+1)) .any),nx2+1) ⟨hi,hn.symm,⟨by simp,by simpa using hcap,by simp;omega⟩⟩ (by dsimp only;omega) (Jh (pm:= []) (bx:=JcK nx2 (L++ [J3 (cs.getD i cnd0)]).toArray (List.replicate (ncap - (L.length+1)) .any)) [((2,nx2), .c ((Jbe JaE L.toArray tl).take (L.length * Tryz.prog.cellsOf 9)++ [JaE (J3 (cs.getD i cnd0))]++List.replicate ((ncap - (L.length+1)) * Tryz.prog.cellsOf 9) .any))] [] rfl rfl (.cons_cons _ (.cons _ (.cons _ .slnil))) .slnil ⟨rfl,Jl8 (congrArg Own.c Jwb),trivial⟩ trivial ⟨Jo7 rfl,AVle.refl _,AVle.refl _,Jk (Js (by first | omega | (dsimp only;omega))),trivial⟩)
end Go.Proofs.W

namespace Go.Proofs.W
open Go.Vl
set_option maxRecDepth 100000
def esV (N:List ByteArray):List (Value×AV):=N.map fun s=> (.string s, .v (.bool true))
def inV (N:List ByteArray) (s:ByteArray):Bool:=N.any fun t=> kS s t
theorem JkI (N:List ByteArray):JaU .string (esV N)=true:=by simp [JaU,esV,JaK]
theorem JnK (s:ByteArray):∀N:List ByteArray,Ja6 (.string s) (esV N)=if inV N s then some (.v (.bool true)) else none
 | []=> rfl
 | t::N=> by
   have ih:=JnK s N
   show (bif s.toList ==t.toList then _ else Ja6 (.string s) (esV N))=_
   rw [ih]
   unfold inV
   rw [List.any_cons]
   unfold kS
   cases s.toList ==t.toList <;> rfl
theorem Jpa (s:ByteArray):∀N:List ByteArray,inV N s=false→Jcw (.string s) (.v (.bool true)) (esV N)=esV (N++ [s])
 | [],_=> rfl
 | t::N,h=> by
   unfold inV at h
   rw [List.any_cons,Bool.or_eq_false_iff] at h
   show (bif s.toList ==t.toList then _ else (_:Value×AV)::Jcw _ _ (esV N))=_
   unfold kS at h
   rw [h.1,cond_false,Jpa s N h.2];rfl
theorem Jpb {s:ByteArray} {N:List ByteArray}:Jet (Ja6 (.string s) (esV N)) (.v (.bool false)) false= .v (.bool (inV N s)):=by
 rw [JnK];cases inV N s <;> rfl
def Jeq (r:Rul):List AV:= [Jf r.name,int r.act.1,int r.act.2,Jbt r.conds]
theorem JqD (c:Cnd) (hok:c.ok):Tells Tryz.prog 103 [JL c] (Jb (JeX c)):=by
 obtain ⟨arg,op,mask,value⟩:=c
 refine Jg Tryz.func103 rfl rfl fun nx=> ?_
 refine stp ?_
 intro c t1;cases c
 ·refine stp ?_
  refine Je rfl (JF ?_)
  have:¬op=7:=fun e=> by subst e;cases t1
  unfold JeX
  rw [decide_eq_false this];rfl
 ·have h7:op=7:=by simpa using t1.symm
  refine stp ?_
  intro c hc
  have e:JeX ⟨arg,op,mask,value⟩=c:=by
   unfold JeX
   rw [decide_eq_true h7,Bool.true_and,hc]
   dsimp only
   rw [Jjh hok.2 hok.1]
   by_cases h0:JfQ value mask=0
   ·rw [h0];rfl
   ·rw [decide_eq_true h0]
    exact (bne_iff_ne.2 (fun e=> h0 (Int.ofNat.inj e))).symm
  rw [e]
  cases c
  ·refine stp ?_
   exact Je rfl (AVle.refl _)
  ·refine stp ?_
   exact Je rfl (AVle.refl _)
theorem Jsj (r:Rul) (hok:∀c∈r.conds,c.ok) (hl:r.conds.length≤1000000000):Tells Tryz.prog 101 [.rp (Jeq r)] (Jb (!(r.conds.any JeX))):=by
 have hc:=Jm4 r.conds JeX 103 hl fun i hi=> JqD _ (hok _ (by simp [List.getD,hi]))
 generalize r.conds.any JeX=b at hc⊢
 refine Jg Tryz.func101 rfl rfl fun nx=> ?_
 refine stp ?_
 refine Jd rfl rfl hc ⟨AVle.refl _,AVle.refl _,trivial⟩ fun nx2=> ?_
 cases b
 ·refine stp ?_
  exact Je rfl (AVle.refl _)
 ·refine stp ?_
  exact Je rfl (AVle.refl _)
theorem Jsk (l:List TRow) (r:Rul) (hl:l.length≤1000000) (hs:Jgy l r.name):Tells Tryz.prog 100 [.rp [J5 l], .rp (Jeq r)] (Jb (JaS l r.name)):=by
 have hf:=Jfq l r.name hl hs
 unfold Jjp at hf
 refine Jg Tryz.func100 rfl rfl fun nx=> ?_
 cases hb:JaS l r.name with
 | true=>
   rw [hb,if_pos rfl] at hf
   refine stp ?_
   refine Jd rfl rfl hf ⟨AVle.refl _,AVle.refl _,trivial⟩ fun nx2=> ?_
   refine stp ?_
   exact Je rfl (AVle.refl _)
 | false=>
   rw [hb,if_neg (by decide)] at hf
   refine stp ?_
   refine Jd rfl rfl hf ⟨AVle.refl _,AVle.refl _,trivial⟩ fun nx2=> ?_
   refine stp ?_
   exact Je rfl (AVle.refl _)
def colB:ByteArray:=⟨#[58]⟩
def Jfy (N:List ByteArray) (s own:ByteArray):Bool:= !inV N (s++colB)&& !inV N own
set_option maxHeartbeats 1000000 in
theorem Jsl (N:List ByteArray) (r:Rul) (own:ByteArray) (hs:r.name.size≤1000000) (s nx:Nat):
 ECall Tryz.prog 105 [.rp [.om (0,s)], .rp (Jeq r), .rp [Jf own]] ⟨[((0,s), .mp (esV N))], [],nx,1⟩ fun b h'=> ∃nx' nn',b=Jb (Jfy N r.name own)∧h'=⟨[((0,s), .mp (esV N))], [],nx',nn'⟩:=by
 refine ECall.wk (JU Tryz.func105 rfl rfl ?_)
 refine Jbs ?_
 refine ⟨by have h2:(⟨#[58]⟩:ByteArray).size=1:=rfl;rw [h2];omega, ?_⟩
 refine Jbs ?_
 refine ⟨⟨rfl,JkI _⟩,JI (b:= .v (.bool (inV N (r.name++colB)))) Jpb ?_⟩
 unfold Jfy
 cases h1:inV N (r.name++colB)
 ·refine Jbs ?_
  refine ⟨⟨rfl,JkI _⟩,JI (b:= .v (.bool (inV N own))) Jpb ?_⟩
  cases h2:inV N own
  ·refine stp ?_
   exact J7 rfl ⟨_,_,AVle.refl _,HLe.refl _,_,_,rfl,rfl⟩
  ·refine stp ?_
   exact J7 rfl ⟨_,_,AVle.refl _,HLe.refl _,_,_,rfl,rfl⟩
 ·refine stp ?_
  exact J7 rfl ⟨_,_,AVle.refl _,HLe.refl _,_,_,rfl,rfl⟩
end Go.Proofs.W

namespace Go.Proofs.W
open Go.Vl
set_option maxRecDepth 100000
def Jdk (r:Rul):ByteArray:=r.name++colB++JeS r.conds
theorem JlH (r:Rul):(Jdk r).data.toList=JgG r:=by
 unfold Jdk JgG JeS JgF
 rw [Jfw,Jfw,show colB.data.toList= [58] from rfl]
 simp
theorem Jpc {N:List ByteArray} {s:ByteArray}:inV N s=true↔s.data.toList∈N.map (fun t=> t.data.toList):=by
 unfold inV
 rw [List.any_eq_true,List.mem_map]
 exact ⟨fun ⟨t,h1,h2⟩=> ⟨t,h1,by rw [Jbw.1 h2]⟩,fun ⟨t,h1,h2⟩=> ⟨t,h1,Jbw.2 (JfI h2.symm)⟩⟩
def Ja7 (rs:List Rul) (i:Nat):List ByteArray:=(rs.take i).map Jdk
theorem JqE (rs:List Rul) (i:Nat):(Ja7 rs i).map (fun t=> t.data.toList)=JjQ rs i:=by
 unfold Ja7 JjQ
 rw [List.map_map]
 exact List.map_congr_left fun r _=> JlH r
theorem JnL {rs:List Rul} (h:∀r∈rs,Jaj r=true) {i:Nat} {r:Rul} (hr:Jaj r=true):Jfy (Ja7 rs i) r.name (Jdk r)= !(rs.take i).any (JfW r):=by
 unfold Jfy
 rw [← Bool.not_or]
 congr 1
 rw [Bool.eq_iff_iff,Bool.or_eq_true,Jpc,Jpc,JqE,JlH,Jfw,show colB.data.toList= [58] from rfl]
 exact Jr4 h hr
theorem Jsm {rs:List Rul} {i:Nat} (hi:i < rs.length):Ja7 rs (i+1)=Ja7 rs i++ [Jdk (rs.getD i Jq)]:=by
 unfold Ja7
 rw [Jb1 Jq hi,List.map_append];rfl
def Jw1 (l:List TRow) (r:Rul) (s:Nat):List AV:= [.ag [.fn (.func 100) [] [.rp [J5 l], .rp (Jeq r)],int 14], .ag [.fn (.func 101) [] [.rp (Jeq r)],int 16], .ag [.fn (.func 105) [] [.rp [.om (0,s)], .rp (Jeq r), .rp [Jf (Jdk r)]],int 15]]
theorem Jsn {rs:List Rul} {i:Nat} {r:Rul} (h:Jfy (Ja7 rs i) r.name (Jdk r)=true):inV (Ja7 rs i) (Jdk r)=false:=by
 unfold Jfy at h
 simp only [Bool.and_eq_true,Bool.not_eq_true'] at h
 exact h.2
theorem Jgc {a b c d:Int} (h:(a,b)=(c,d)):AVle (.tup [int a,int b]) (.tup [int c,int d]):=by
 cases h;exact AVle.refl _
theorem JvB:JgT Tryz.prog 9=some [Jf ⟨#[]⟩]:=by kernel_rfl
theorem AVle.om_nm {i j:Vl.Id} (h:i.2=j.2):AVle (.om i) (.om j):=fun w X g u hr=> by
 cases hr with
 | om _ b hg=> exact .om _ b (h ▸ hg)
theorem AVle.rps {cs ds:List AV} (h:LeL cs ds):AVle (.rp cs) (.rp ds):=fun w X g u hr=> by
 obtain ⟨hl,h⟩:=h.get
 cases hr with
 | rp _ b off vs hn hcell hr=>
   refine .rp _ b off vs (by rw [hn,hl]) hcell fun k d u hd hu=> ?_
   have hlt:k < cs.length:=by rw [hl];exact (List.getElem?_eq_some_iff.1 hd).1
   exact h k _ d (List.getElem?_eq_getElem hlt) hd _ _ _ _ (hr k _ u (List.getElem?_eq_getElem hlt) hu)
theorem JuK {rs:List Rul} {i:Nat} (h:i < rs.length):rs.getD i Jq∈rs:=by simp [List.getD,h]
set_option maxHeartbeats 8000000 in
theorem JnM (p:Pol) (l:List TRow) (hp:p.ok) (hp2:∀r∈p.rules,r.conds.length≤12∧r.name.size≤1000000) (hl:l.length≤1000000) (hn:∀r∈l,r.name.size≤maxLen):Tells Tryz.prog 43 [Jha p,J5 l] (.tup [int (JaF p l).1,int (JaF p l).2]):=by
 have hR:=Jii p hp
 have hT:=JlW l hl hn
 cases hb:Jbm p with
 | false=>
   rw [hb] at hR
   obtain ⟨⟨k,n⟩,x,rs⟩:=p
   refine Jg Tryz.func43 rfl rfl fun nx=> ?_
   refine stp ?_
   refine Jd rfl rfl hR ⟨AVle.refl _,trivial⟩ fun nx2=> ?_
   refine stp ?_
   exact Je rfl (Jgc (by unfold JaF;rw [if_pos hb]))
 | true=>
 rw [hb] at hR
 by_cases ht:(JbU l).2=0
 rotate_left
 ·obtain ⟨⟨k,n⟩,x,rs⟩:=p
  refine Jg Tryz.func43 rfl rfl fun nx=> ?_
  refine stp ?_
  refine Jd rfl rfl hR ⟨AVle.refl _,trivial⟩ fun nx2=> ?_
  refine stp ?_
  refine Jd rfl rfl hT ⟨AVle.refl _,trivial⟩ fun nx3=> ?_
  refine stp ?_
  intro c hc
  obtain rfl:c=true:=hc.trans (bne_iff_ne.2 ht)
  refine stp ?_
  exact Je rfl (Jgc (by unfold JaF;rw [if_neg (by rw [hb];decide),if_pos ht]))
 ·have hs:=Jgz ht
  have hrr:=(JjS.1 hb).2.2
  have hok:=hp.2
  have hlen:p.rules.length≤500:=(JjS.1 hb).2.1
  have hat:∀i v,i < p.rules.length→(∀j,j < i→Jco l p.rules j=0)→Jco l p.rules i=v→v≠0→((i:Int),v)=JaF p l:=fun i v h1 h2 h3 h4=> (Jr6 hb ht h1 h2 h3 h4).symm
  have hnone:(∀j,j < p.rules.length→Jco l p.rules j=0)→((0:Int),(0:Int))=JaF p l:=fun h=> (Jr5 (JbD.2 ⟨hb,ht,h⟩)).symm
  generalize hV:JaF p l=V at hat hnone⊢
  obtain ⟨V1,V2⟩:=V
  obtain ⟨⟨k,n⟩,x,rs⟩:=p
  dsimp only at hok hrr hat hnone hlen hp2
  rw [ht] at hT
  refine Jg Tryz.func43 rfl rfl fun nx=> ?_
  refine stp ?_
  refine Jd rfl rfl hR ⟨AVle.refl _,trivial⟩ fun nx2=> ?_
  refine stp ?_
  refine Jd rfl rfl hT ⟨AVle.refl _,trivial⟩ fun nx3=> ?_
  (refine JV ?_;refine Jan ?_;refine JV ?_;refine Jan ?_;refine JV ?_)
  refine JbJ (n:=69) (nx:=nx3+2) (nn:=4) (pm:= []) (bx:= [((2,nx3), .mp [])]) (L:= [(2, .rp [int k,int n,Jb x,Jj rs]),(3, .rp [J5 l]),(8, .rp [.om (2,nx3)])]) (df:=some []) [((3,nx3+1), .c [.om (2,nx3)]),((1,nx+1), .c [J5 l]),((0,nx), .c [int k,int n,Jb x,Jj rs])] rfl rfl rfl (.cons _ ((List.perm_append_comm (l₁:= [((2,nx3),Own.mp [])]) (l₂:= [((1,nx+1), .c [J5 l]),((0,nx), .c [int k,int n,Jb x,Jj rs])])))) (List.Sublist.refl _) ⟨Frz.bp (.tail _ (.tail _ (.head _))) rfl,Frz.bp (.tail _ (.head _)) rfl,Frz.bp (.head _) rfl,trivial⟩ ?_
  refine stp ?_
  refine JN (fun y:Nat×Nat=> mk 69 [(3, .rp [J5 l]),(8, .rp [.om (0,nx3)]),(29,Jj rs),(30,int rs.length),(31,int y.1)] ⟨[((0,nx3), .mp (esV (Ja7 rs y.1)))], [],y.2,1⟩) (fun y=> y.1≤rs.length∧∀j,j < y.1→Jco l rs j=0) (fun y=> rs.length - y.1) ?_ ?_
  ·exact ⟨(0,nx3+2),⟨Nat.zero_le _,fun j h=> absurd h (Nat.not_lt_zero _)⟩,Jh (pm:= []) (bx:= [((0,nx3), .mp (esV (Ja7 rs 0)))]) [((2,nx3), .mp [])] [] rfl rfl (List.Sublist.refl _) .slnil ⟨rfl,OwnLe.refl _,trivial⟩ trivial ⟨AVle.refl _,W.AVle.rps ⟨W.AVle.om_nm rfl,trivial⟩,AVle.refl _,AVle.refl _,AVle.refl _,trivial⟩⟩
  ·rintro ⟨i,nx4⟩ ⟨h1,h2⟩
   dsimp only at h1 h2
   refine stp ?_
   intro c g;cases c
   ·have g:=JC g
    try dsimp only at g
    obtain rfl:i=rs.length:=by omega
    refine stp ?_
    exact Je rfl (Jgc (hnone h2))
   ·have g:=JD g
    try dsimp only at g
    have hi:i < rs.length:=by omega
    have hm:rs.getD i Jq∈rs:=JuK hi
    have hri:=hrr _ hm
    have hoki:=hok _ hm
    have hsi:=hp2 _ hm
    have hk:=JtF (rs.getD i Jq).conds (Jdv hri) hoki.2.2 hsi.1
    have ha1:=Jsk l (rs.getD i Jq) hl (JfR hs _)
    have ha2:=Jsj (rs.getD i Jq) hoki.2.2 (by omega)
    have ha3:=Jsl (Ja7 rs i) (rs.getD i Jq) (Jdk (rs.getD i Jq)) hsi.2 nx3
    rw [JnL hrr hri] at ha3
    have hv:= @JuC l rs i
    have hks:(JeS (rs.getD i Jq).conds).size≤12012:=JjZ (Jdv hri) hoki.2.2 hsi.1
    refine stp ?_
    refine ⟨⟨by first | omega | (dsimp only;omega),by first | omega | (dsimp only;omega)⟩, ?_⟩
    refine JV ?_
    refine JbJ (n:=69) (nx:=nx4+1) (nn:=2) (pm:= []) (bx:= [((0,nx3), .mp (esV (Ja7 rs i)))]) (L:= [(3, .rp [J5 l]),(8, .rp [.om (0,nx3)]),(9,int i),(10, .rp (Jeq (rs.getD i Jq))),(29,Jj rs),(30,int rs.length),(31,int i)]) (df:=some []) [((1,nx4), .c (Jeq (rs.getD i Jq)))] rfl rfl rfl (List.Perm.refl _) (List.Sublist.refl _) ⟨Frz.refl _,Frz.refl _,Frz.refl _,Frz.bp (.head _) rfl,Frz.refl _,Frz.refl _,Frz.refl _,trivial⟩ ?_
    refine stp ?_
    refine Jah 8 [] (fun i=> match i with | 7=> true | _=> false) (fun i=> match i with | 5=> true | _=> false) [0,1,2,3,4,5,6,7] (by kernel_rfl) (by kernel_rfl) (fun _ _ _ h=> by cases h) ?_
    refine stp ?_
    refine ⟨by have h2:(⟨#[58]⟩:ByteArray).size=1:=rfl;rw [h2];omega, ?_⟩
    refine stp ?_
    refine ⟨_,Jae rfl rfl rfl hk ⟨AVle.refl _,trivial⟩ (NoId.v _), ?_⟩
    refine stp ?_
    refine ⟨by rw [ByteArray.size_append];have h2:(⟨#[58]⟩:ByteArray).size=1:=rfl;rw [h2];omega,JlE (b:=Jf (Jdk (rs.getD i Jq))) rfl ?_⟩
    refine stp ?_
    refine ⟨_,Jg3 rfl rfl JvB (fun _ _ _ h=> by cases h),fun r' h' hr=> ?_⟩
    obtain ⟨rfl,rfl⟩:=hr
    refine JV ?_
    refine JbJ (n:=69) (nx:=nx4+2) (nn:=2) (pm:= []) (bx:= [((0,nx3), .mp (esV (Ja7 rs i)))]) (L:= [(3, .rp [J5 l]),(8, .rp [.om (0,nx3)]),(9,int i),(10, .rp (Jeq (rs.getD i Jq))),(11, .fn (.func 100) [] [.rp [J5 l], .rp (Jeq (rs.getD i Jq))]),(12, .fn (.func 101) [] [.rp (Jeq (rs.getD i Jq))]),(13, .rp [Jf (Jdk (rs.getD i Jq))]),(29,Jj rs),(30,int rs.length),(31,int i)]) (df:=some []) [((2,nx4+1), .c [Jf (Jdk (rs.getD i Jq))])] rfl rfl rfl (List.Perm.refl _) (List.Sublist.refl _) ⟨Frz.refl _,Frz.refl _,Frz.refl _,Frz.refl _,Frz.refl _,Frz.refl _,Frz.bp (.head _) rfl,Frz.refl _,Frz.refl _,Frz.refl _,trivial⟩ ?_
    refine stp ?_
    refine JN (fun y:Nat×Nat=> mk 69 [(3, .rp [J5 l]),(8, .rp [.om (0,nx3)]),(9,int i),(13, .rp [Jf (Jdk (rs.getD i Jq))]),(29,Jj rs),(30,int rs.length),(31,int i),(52, .sl 2 3 (JcU (Jw1 l (rs.getD i Jq) nx3))),(53,int 3),(54,int y.1)] ⟨[((0,nx3), .mp (esV (Ja7 rs i)))], [],y.2,1⟩) (fun y=> y.1≤3∧(1≤y.1→JaS l (rs.getD i Jq).name=true)∧(2≤y.1→(rs.getD i Jq).conds.any JeX=false)∧(3≤y.1→(rs.take i).any (JfW (rs.getD i Jq))=false)) (fun y=> 3 - y.1) ?_ ?_
    ·refine ⟨(0,nx4+2),⟨Nat.zero_le _,fun h=> absurd h (Nat.not_succ_le_zero _),fun h=> absurd h (Nat.not_succ_le_zero _),fun h=> absurd h (Nat.not_succ_le_zero _)⟩, ?_⟩
     exact Jh (pm:= []) (bx:= [((0,nx3), .mp (esV (Ja7 rs i)))]) [((0,nx3), .mp (esV (Ja7 rs i)))] [] rfl rfl (List.Sublist.refl _) .slnil (BxLe.refl _) trivial ⟨AVle.refl _,AVle.refl _,AVle.refl _,AVle.refl _,AVle.refl _,AVle.refl _,AVle.refl _,Jj5 ⟨⟨⟨trivial,rfl⟩,rfl⟩,rfl⟩,AVle.refl _,AVle.refl _,trivial⟩
    ·rintro ⟨j,nx5⟩ ⟨k0,k1,k2,k3⟩
     dsimp only at k0 k1 k2 k3
     rcases j with _ | _ | _ | _ | j
     ·refine stp ?_
      refine ⟨⟨by show (0:Int)≤0;decide,by show (0:Int) < 3;decide⟩, ?_⟩
      refine stp ?_
      refine Jd rfl rfl ha1 ⟨AVle.refl _,AVle.refl _,trivial⟩ fun nx6=> ?_
      cases hf:JaS l (rs.getD i Jq).name
      ·refine stp ?_
       (refine Jag 4 ?_ ?_ ?_ ?_;(· kernel_rfl);(· kernel_rfl);(· kernel_rfl))
       refine stp ?_
       exact Je rfl (Jgc (hat i 14 hi h2 (if_pos hf) (by decide)))
      ·refine stp ?_
       exact back (1,nx6) ⟨by show 1≤3;decide,fun _=> rfl,fun h=> absurd h (by show ¬2≤1;decide),fun h=> absurd h (by show ¬3≤1;decide)⟩ (by show 3 - 1 < 3 - 0;decide) (Jh (pm:= []) (bx:= [((0,nx3), .mp (esV (Ja7 rs i)))]) [((0,nx3), .mp (esV (Ja7 rs i)))] [] rfl rfl (.cons _ (List.Sublist.refl _)) .slnil (BxLe.refl _) trivial ⟨AVle.refl _,AVle.refl _,AVle.refl _,AVle.refl _,AVle.refl _,AVle.refl _,AVle.refl _,AVle.refl _,AVle.refl _,AVle.refl _,trivial⟩)
     ·have q1:=k1 (Nat.le_refl _)
      refine stp ?_
      refine ⟨⟨by show (0:Int)≤1;decide,by show (1:Int) < 3;decide⟩, ?_⟩
      refine stp ?_
      refine Jd rfl rfl ha2 ⟨AVle.refl _,trivial⟩ fun nx6=> ?_
      cases hf:(rs.getD i Jq).conds.any JeX
      ·refine stp ?_
       exact back (2,nx6) ⟨by show 2≤3;decide,fun _=> q1,fun _=> rfl,fun h=> absurd h (by show ¬3≤2;decide)⟩ (by show 3 - 2 < 3 - 1;decide) (Jh (pm:= []) (bx:= [((0,nx3), .mp (esV (Ja7 rs i)))]) [((0,nx3), .mp (esV (Ja7 rs i)))] [] rfl rfl (.cons _ (List.Sublist.refl _)) .slnil (BxLe.refl _) trivial ⟨AVle.refl _,AVle.refl _,AVle.refl _,AVle.refl _,AVle.refl _,AVle.refl _,AVle.refl _,AVle.refl _,AVle.refl _,AVle.refl _,trivial⟩)
      ·refine stp ?_
       (refine Jag 4 ?_ ?_ ?_ ?_;(· kernel_rfl);(· kernel_rfl);(· kernel_rfl))
       refine stp ?_
       exact Je rfl (Jgc (hat i 16 hi h2 (by unfold Jco;rw [if_neg (by rw [q1];decide),if_pos hf]) (by decide)))
     ·have q1:=k1 (by decide)
      have q2:=k2 (Nat.le_refl _)
      refine stp ?_
      refine ⟨⟨by show (0:Int)≤2;decide,by show (2:Int) < 3;decide⟩, ?_⟩
      refine stp ?_
      refine JS (xs:= [.rp [.om (0,nx3)], .rp (Jeq (rs.getD i Jq)), .rp [Jf (Jdk (rs.getD i Jq))]]) [((1,nx5), .c [.fn (.func 105) [] [.rp [.om (0,nx3)], .rp (Jeq (rs.getD i Jq)), .rp [Jf (Jdk (rs.getD i Jq))]],int 15])] [] 2 rfl rfl rfl rfl ⟨AVle.refl _,AVle.refl _,AVle.refl _,trivial⟩ (ha3 (nx5+1)) (BxLe.refl _) (PmEq.refl _) rfl fun r h' hq=> ?_
      obtain ⟨nx6,nn6,rfl,rfl⟩:=hq
      cases hf:(rs.take i).any (JfW (rs.getD i Jq))
      ·refine stp ?_
       exact back (3,nx6) ⟨by show 3≤3;decide,fun _=> q1,fun _=> q2,fun _=> rfl⟩ (by show 3 - 3 < 3 - 2;decide) (Jh (pm:= []) (bx:= [((0,nx3), .mp (esV (Ja7 rs i)))]) [((0,nx3), .mp (esV (Ja7 rs i)))] [] rfl rfl (.cons _ (List.Sublist.refl _)) .slnil (BxLe.refl _) trivial ⟨AVle.refl _,AVle.refl _,AVle.refl _,AVle.refl _,AVle.refl _,AVle.refl _,AVle.refl _,AVle.refl _,AVle.refl _,AVle.refl _,trivial⟩)
      ·refine stp ?_
       (refine Jag 4 ?_ ?_ ?_ ?_;(· kernel_rfl);(· kernel_rfl);(· kernel_rfl))
       refine stp ?_
       exact Je rfl (Jgc (hat i 15 hi h2 (by unfold Jco;rw [if_neg (by rw [q1];decide),if_neg (by rw [q2];decide),if_pos hf]) (by decide)))
     ·have q1:=k1 (by decide)
      have q2:=k2 (by decide)
      have q3:=k3 (Nat.le_refl _)
      have q4:Jfy (Ja7 rs i) (rs.getD i Jq).name (Jdk (rs.getD i Jq))=true:=by rw [JnL hrr hri,q3];rfl
      have q5:=Jpa _ _ (Jsn q4)
      rw [← Jsm hi] at q5
      refine Jbs ?_
      refine ⟨⟨rfl,JkI _⟩, ?_⟩
      refine Jbs ?_
      refine Jd4 ?_
      refine stp ?_
      exact back (i+1,nx5) ⟨hi,fun m hm2=> by
       rcases Nat.lt_or_ge m i with q | q
       ·exact h2 m q
       ·rw [show m=i by omega];exact hv.2 ⟨q1,q2,q3⟩⟩ (by dsimp only;omega) (Jh (pm:= []) (bx:= [((0,nx3), .mp (esV (Ja7 rs (i+1))))]) [((0,nx3), .mp (Jcw (.string (Jdk (rs.getD i Jq))) (.v (.bool true)) (esV (Ja7 rs i))))] [] rfl rfl (List.Sublist.refl _) .slnil ⟨rfl,Jl8 (congrArg Own.mp q5),trivial⟩ trivial ⟨AVle.refl _,AVle.refl _,AVle.refl _,AVle.refl _,Jk (Js (by first | omega | (dsimp only;omega))),trivial⟩)
     ·exact absurd k0 (by omega)
end Go.Proofs.W

namespace Go.Proofs.W
open Go.Vl
set_option maxRecDepth 100000
def LpI (p:Pol) (l:List TRow) (i:Nat) (st:Nat→JR):Prop:=i≤(Jc p).rules.length∧(∀j,j < 7→Jbx (st j))∧∃gs,JT (Jc p).rules=gs++JT ((Jc p).rules.drop i)∧(∀k,k < 5→(st k).1=(JbH (Jc p) l gs k).map Jdj)∧∀m,m < 2→(st (5+m)).1=(JcM l gs m).map J4
theorem Jwd (p:Pol) (l:List TRow):LpI p l 0 fun _=> ([],none):=⟨Nat.zero_le _,fun _ _=> rfl, [],rfl,fun _ _=> rfl,fun _ _=> rfl⟩
theorem Jj0:∀l:List Rul,(JT l).length≤l.length
 | []=> Nat.le_refl _
 | r::l=> by
   have ih:=Jj0 l
   show (JhS r (JT l)).length≤l.length+1
   cases hg:JT l with
   | nil=> show 1≤_;omega
   | cons g t=>
     rw [hg] at ih
     obtain ⟨s,L⟩:=g
     show (if kS s r.name then (s,r::L)::t else (r.name, [r])::(s,L)::t).length≤_
     rw [List.length_cons] at ih
     split <;> simp only [List.length_cons] <;> omega
theorem JqF {a d:Nat} {x:Bool} {row:TRow} {rs:List PRul}:(Jas a d x row rs).length≤1:=by
 unfold Jas;split <;> simp
theorem JqG {m:Nat} {row:TRow} {rs:List PRul}:(Jb9 m row rs).length≤1:=by
 unfold Jb9;split <;> simp
theorem JiR {α β:Type} {f:α→List β} (h:∀x,(f x).length≤1):∀l:List α,(l.flatMap f).length≤l.length
 | []=> Nat.le_refl _
 | x::l=> by
   rw [List.flatMap_cons,List.length_append,List.length_cons]
   have:=h x
   have:=JiR h l
   omega
theorem Jpd {p:Pol} {l:List TRow} {i:Nat} {st:Nat→JR} (hr:(Jc p).rules.length≤500) (h:LpI p l i st):∀j,j < 7→(st j).1.length≤1000000:=fun j hj=> by
 obtain ⟨_,_,gs,h1,h2,h3⟩:=h
 have hg:=Jj0 (Jc p).rules
 rw [h1,List.length_append] at hg
 rcases Nat.lt_or_ge j 5 with h5 | h5
 ·rw [h2 j h5,List.length_map]
  have:=JiR (f:=fun g:ByteArray×List Rul=> Jas j (Ju (Jc p).dflt) (Jc p).x32 (JaP l g.1) (g.2.map J9)) (fun _=> JqF) gs
  unfold JbH
  omega
 ·obtain ⟨m,rfl⟩:∃m,j=5+m:=⟨j - 5,by omega⟩
  rw [h3 m (by omega),List.length_map]
  have:=JiR (f:=fun g:ByteArray×List Rul=> Jb9 m (JaP l g.1) (g.2.map J9)) (fun _=> JqG) gs
  unfold JcM
  omega
theorem JuL {l:List TRow} {s:ByteArray} (ht:(JbU l).2=0) (h:Jnv l s):(∀k,(JaP l s).num k < 1073741824)∧((JaP l s).mux=0∨(JaP l s).mux=1∨(JaP l s).mux=2)∧0≤(JaP l s).sub∧(JaP l s).sub≤255:=by
 obtain ⟨i,hi,h1,_⟩:=h
 rw [h1]
 exact ⟨fun k=> (Jhm ht hi).1,Jkx ht hi⟩
theorem JlI (s:ByteArray) (l:List Rul):(JbN s l).length≤l.length:=List.Sublist.length_le (List.takeWhile_sublist _)
theorem JtG (s:ByteArray) (l:List Rul):l=JbN s l++l.drop (JbN s l).length:=by
 induction l with
 | nil=> rfl
 | cons r l ih=>
   unfold JbN at ih⊢
   rw [List.takeWhile_cons]
   by_cases h:kS r.name s=true
   ·rw [if_pos h,List.length_cons,List.drop_succ_cons,List.cons_append,← ih]
   ·rw [if_neg h];rfl
theorem Jso {l:List Rul} {i:Nat} (hi:i < l.length):JbN (l.getD i Jq).name (l.drop i)≠ []:=by
 rw [List.drop_eq_getElem_cons hi,show l.getD i Jq=l[i] by simp [List.getD,hi]]
 unfold JbN
 rw [List.takeWhile_cons,if_pos (Jbw.2 rfl)]
 exact List.cons_ne_nil _ _
theorem JtH {p:Pol} {l:List TRow} {i:Nat} {st st':Nat→JR} (hi:i < (Jc p).rules.length) {s:ByteArray} {L:List Rul} (hs:s=((Jc p).rules.getD i Jq).name) (hL:L=JbN s ((Jc p).rules.drop i)) (h:LpI p l i st) (hq:Jqw (Ju (Jc p).dflt) (Jc p).x32 (JaP l s) (L.map J9) st st'):LpI p l (i+L.length) st':=by
 obtain ⟨h0,h1,gs,h2,h3,h4⟩:=h
 have hne:L≠ []:=by rw [hL,hs];exact Jso hi
 have hd:=JtG s ((Jc p).rules.drop i)
 have he:=Jts s ((Jc p).rules.drop i)
 have ha:=Jlv s ((Jc p).rules.drop i)
 have hl:=JlI s ((Jc p).rules.drop i)
 rw [← hL] at hd he ha hl
 rw [List.drop_drop] at hd he
 rw [List.length_drop] at hl
 have hgr:=JjK he hne ha
 rw [← hd] at hgr
 refine ⟨by omega,hq.1,gs++ [(s,L)],by rw [h2,hgr,List.append_assoc];rfl,fun k hk=> ?_,fun m hm=> ?_⟩
 ·rw [hq.2.1 k hk,h3 k hk,Jqo,List.map_append]
 ·rw [hq.2.2 m hm,h4 m hm,Jqp,List.map_append]
theorem Jsp {p:Pol} (hp:p.ok) (hr:Jbm p=true) {s:ByteArray} {i:Nat}:∀r∈(JbN s ((Jc p).rules.drop i)).map J9,r.conds.length≤1000000∧∀c∈r.conds,c.ok:=fun q hq=> by
 obtain ⟨r,hr1,rfl⟩:=List.mem_map.1 hq
 have hm:r∈(Jc p).rules:=List.mem_of_mem_drop ((List.takeWhile_sublist _).subset hr1)
 obtain ⟨r0,h0,h1⟩:=JiO hm
 have:=(JbL hr).2 r0 h0
 have:=(JcT h1).1
 exact ⟨by show r.conds.length≤_;omega,(Jio h1).2.2 (hp.2 r0 h0).2.2⟩
theorem JuM {p:Pol} {l:List TRow} {st:Nat→JR} (h:LpI p l (Jc p).rules.length st):(∀j,j < 7→Jbx (st j))∧(∀k,k < 5→(st k).1=(JbH (Jc p) l (JT (Jc p).rules) k).map Jdj)∧∀m,m < 2→(st (5+m)).1=(JcM l (JT (Jc p).rules) m).map J4:=by
 obtain ⟨h0,h1,gs,h2,h3,h4⟩:=h
 rw [List.drop_length] at h2
 obtain rfl:JT (Jc p).rules=gs:=by rw [h2];exact List.append_nil _
 exact ⟨h1,h3,h4⟩
def LpS (k:Nat) (st st':Nat→JR):Prop:=k≤7∧(∀j,j < 7→Jbx (st' j))∧(∀j,j < 7→(st' j).1.Perm (st j).1)∧∀j,j < k→(st' j).1.Pairwise fun a b=> a.1≤b.1
theorem Jwe {st:Nat→JR} (h:∀j,j < 7→Jbx (st j)):LpS 0 st st:=⟨by omega,h,fun _ _=> .refl _,fun j hj=> absurd hj (Nat.not_lt_zero j)⟩
theorem JdS {k:Nat} {st st1:Nat→JR} (hk:k < 7) (h:LpS k st st1) (he:(st1 k).1= []):LpS (k+1) st st1:=by
 obtain ⟨h0,h1,h2,h3⟩:=h
 refine ⟨hk,h1,h2,fun j hj=> ?_⟩
 rcases Nat.lt_or_ge j k with q | q
 ·exact h3 j q
 ·obtain rfl:j=k:=by omega
  rw [he];exact List.Pairwise.nil
theorem JdT {k:Nat} {st st1:Nat→JR} {R D:List (Nat×AV)} {s cap:Nat} {tl:List AV} (hk:k < 7) (h:LpS k st st1) (hR:st1 k=(R,some (s,cap,tl))) (hp:D.Perm R) (hs:D.Pairwise fun a b=> a.1≤b.1):LpS (k+1) st (Jw st1 k (D,some (s,cap,tl))):=by
 obtain ⟨h0,h1,h2,h3⟩:=h
 have hok:=h1 k hk
 rw [hR] at hok
 refine ⟨hk,JbM h1 (show D.length≤cap∧cap * 2≤D.length * 2+tl.length from by rw [hp.length_eq];exact hok),fun j hj=> ?_,fun j hj=> ?_⟩
 ·unfold Jw
  by_cases e:j=k
  ·subst e
   rw [if_pos rfl]
   have:=h2 j hj
   rw [hR] at this
   exact hp.trans this
  ·rw [if_neg e];exact h2 j hj
 ·unfold Jw
  by_cases e:j=k
  ·subst e
   rw [if_pos rfl];exact hs
  ·rw [if_neg e];exact h3 j (by omega)
end Go.Proofs.W

namespace Go.Proofs.W
open Go.Vl
set_option maxRecDepth 100000
def ent0:PEnt:=⟨0, []⟩
def sub0:PSub:=⟨0,0⟩
def Jap (e:PEnt):AV:= .ag [u32 (e.num:Nat),Jr e.rules]
def JfY (s:PSub):AV:= .ag [u32 (s.num:Nat),u32 (s.code:Nat)]
def JqH:Plan:=⟨0,false,fun _=> [],fun _=> []⟩
def JhW (P:Plan):AV:= .ag [u32 (P.dflt:Nat),Jb P.x32,JJ 2 Jap ent0 (P.ents 0),JJ 2 Jap ent0 (P.ents 1),JJ 2 Jap ent0 (P.ents 2),JJ 2 Jap ent0 (P.ents 3),JJ 2 Jap ent0 (P.ents 4),JJ 2 JfY sub0 (P.subs 0),JJ 2 JfY sub0 (P.subs 1)]
def JnN (p:Pol) (l:List TRow):AV:=if (JaF p l).2≠0 then .tup [JhW JqH,int (JaF p l).1,int (JaF p l).2] else match p.rules.findIdx? (JeR l) with
 | some i=> .tup [JhW JqH,int i,int 17]
 | none=> .tup [JhW (JbO p l),int 0,int 0]
def JW:List AV:= [u32 0,Jb false, .os 0 0 (fun _=> .any) none, .os 0 0 (fun _=> .any) none, .os 0 0 (fun _=> .any) none, .os 0 0 (fun _=> .any) none, .os 0 0 (fun _=> .any) none, .os 0 0 (fun _=> .any) none, .os 0 0 (fun _=> .any) none]
theorem JnO:AVle (.ag [u32 0,Jb false, .os 0 0 (fun _=> .any) none, .os 0 0 (fun _=> .any) none, .os 0 0 (fun _=> .any) none, .os 0 0 (fun _=> .any) none, .os 0 0 (fun _=> .any) none, .os 0 0 (fun _=> .any) none, .os 0 0 (fun _=> .any) none]) (JhW JqH):=
 AVle.ags ⟨AVle.refl _,AVle.refl _,AVle.os_sl0,AVle.os_sl0,AVle.os_sl0,AVle.os_sl0,AVle.os_sl0,AVle.os_sl0,AVle.os_sl0,trivial⟩
def LpT (nx nx4:Nat) (l:List TRow) (e:List (Nat×AV)):List (Nat×AV):= [(1,J5 l),(4, .bp (2,nx+1) 0),(5,int 0),(6,int 0),(11, .bp (0,nx4) 0),(13, .bp (1,nx4+1) 0),(14, .fn (.func 47) [] [.bp (0,nx4) 0, .bp (1,nx4+1) 0])]++e
def LpB (nx nx4:Nat) (p:Pol) (st:Nat→JR):List (Vl.Id×Own):= [((2,nx+1), .c JW),((1,nx4+1), .c (Jo (Ju (Jc p).dflt) (Jc p).x32 st)),((0,nx4), .c [int (Jc p).dflt.1,int (Jc p).dflt.2,Jb (Jc p).x32,Jj (Jc p).rules])]++Jy st
theorem JtI {α:Type} {a b c:α} {t:List α}:(c::a::b::t).Perm (a::b::c::t):=(List.Perm.swap a c _).trans ((List.Perm.swap b c _).cons a)
theorem Jer {d:Nat} {x:Bool} {st:Nat→JR} {k:Nat} {r:JR} (h:Ja (10+k) r=Ja (10+k) (st k)):Jo d x (Jw st k r)=Jo d x st:=by
 have h':∀j,Ja (10+j) (Jw st k r j)=Ja (10+j) (st j):=fun j=> by
  unfold Jw
  by_cases e:j=k
  ·subst e;rw [if_pos rfl];exact h
  ·rw [if_neg e]
 have h0:=h' 0
 have h1:=h' 1
 have h2:=h' 2
 have h3:=h' 3
 have h4:=h' 4
 have h5:=h' 5
 have h6:=h' 6
 unfold Jo
 rw [h0,h1,h2,h3,h4,h5,h6]
theorem Jes {k:Nat} (hk:k < 7) {st:Nat→JR} {R:List (Nat×AV)} {s cap:Nat} {tl:List AV} {F:List (Vl.Id×Own)} (h:st k=(R,some (s,cap,tl))):((F++Jm k st)++ [((10+k,s),Own.c (Jt R++tl))]).Perm (F++Jy st):=by
 have hp:=JcN hk st
 rw [h] at hp
 rw [List.append_assoc]
 exact (hp.trans List.perm_append_comm).symm.append_left F
theorem JdU {k:Nat} (hk:k < 7) {st:Nat→JR} {R:List (Nat×AV)} {s cap:Nat} {tl:List AV} {F:List (Vl.Id×Own)}:((F++Jm k st)++ [((10+k,s),Own.c (Jt R++tl))]).Perm (F++Jy (Jw st k (R,some (s,cap,tl)))):=by
 have hp:=JiP hk st (R,some (s,cap,tl))
 rw [List.append_assoc]
 exact (hp.trans List.perm_append_comm).symm.append_left F
theorem Jcp {nx nx4:Nat} {p:Pol} {st:Nat→JR} {cs:List AV} {R:List (Vl.Id×Own)} (h:Jo (Ju (Jc p).dflt) (Jc p).x32 st=cs):BxLe ([((2,nx+1), .c JW),((1,nx4+1), .c (Jo (Ju (Jc p).dflt) (Jc p).x32 st)),((0,nx4), .c [int (Jc p).dflt.1,int (Jc p).dflt.2,Jb (Jc p).x32,Jj (Jc p).rules])]++R) ([((2,nx+1), .c JW),((1,nx4+1), .c cs),((0,nx4), .c [int (Jc p).dflt.1,int (Jc p).dflt.2,Jb (Jc p).x32,Jj (Jc p).rules])]++R):=BxLe.of_eq (by rw [h])
theorem Jcq {nx nx4:Nat} {p:Pol} {st:Nat→JR} {cs:List AV} {R:List (Vl.Id×Own)} (h:cs=Jo (Ju (Jc p).dflt) (Jc p).x32 st):BxLe ([((2,nx+1), .c JW),((1,nx4+1), .c cs),((0,nx4), .c [int (Jc p).dflt.1,int (Jc p).dflt.2,Jb (Jc p).x32,Jj (Jc p).rules])]++R) ([((2,nx+1), .c JW),((1,nx4+1), .c (Jo (Ju (Jc p).dflt) (Jc p).x32 st)),((0,nx4), .c [int (Jc p).dflt.1,int (Jc p).dflt.2,Jb (Jc p).x32,Jj (Jc p).rules])]++R):=BxLe.of_eq (by rw [h])
theorem JtJ {nx nx4:Nat} {p:Pol} {st:Nat→JR}:(LpB nx nx4 p st).Perm (([((1,nx4+1),Own.c (Jo (Ju (Jc p).dflt) (Jc p).x32 st)),((0,nx4),Own.c [int (Jc p).dflt.1,int (Jc p).dflt.2,Jb (Jc p).x32,Jj (Jc p).rules])]++Jy st)++ [((2,nx+1),Own.c JW)]):=List.perm_append_comm (l₁:= [((2,nx+1),Own.c JW)]) (l₂:=([((1,nx4+1),Own.c (Jo (Ju (Jc p).dflt) (Jc p).x32 st)),((0,nx4),Own.c [int (Jc p).dflt.1,int (Jc p).dflt.2,Jb (Jc p).x32,Jj (Jc p).rules])]++Jy st))
theorem JnP:∀l:List PEnt,Jt (l.map Jdj)=l.flatMap fun e=> [u32 (e.num:Nat),Jr e.rules]
 | []=> rfl
 | e::l=> by
   show _::_::Jt (l.map Jdj)=_::_::_
   rw [JnP l];rfl
theorem JnQ:∀l:List PSub,Jt (l.map J4)=l.flatMap fun e=> [u32 (e.num:Nat),u32 (e.code:Nat)]
 | []=> rfl
 | e::l=> by
   show _::_::Jt (l.map J4)=_::_::_
   rw [JnQ l];rfl
instance:Inhabited PEnt:=⟨ent0⟩
instance:Inhabited PSub:=⟨sub0⟩
theorem Jgd {bs:List (Nat×Own)} {nm:Nat}:∀ {r:JR} {l:List PEnt},Jbx r→r.1=l.map Jdj→(∀b∈JaA nm r,((b.1.2,b.2))∈bs)→Frz bs (Ja nm r) (JJ 2 Jap ent0 l)
 | (R,none),l,hok,h,_=> by
   have hok:R= []:=hok
   have h:R=l.map Jdj:=h
   obtain rfl:l= []:=List.map_eq_nil_iff.1 (h.symm.trans hok)
   exact Frz.of_le AVle.os_sl0
 | (R,some (s,cap,tl)),l,hok,h,hm=> by
   have h:R=l.map Jdj:=h
   subst h
   have hm:=hm _ (.head _)
   have hk:=hok.1
   rw [List.length_map] at hk
   exact Jgw (E:=fun e:PEnt=> [u32 (e.num:Nat),Jr e.rules]) (fun _=> rfl) (fun _=> rfl) (List.length_map _).symm (by unfold J6;rw [← JnP];exact hm) (by rw [List.length_map];exact hk)
theorem Jpe {bs:List (Nat×Own)} {nm:Nat}:∀ {r:JR} {l:List PSub},Jbx r→r.1=l.map J4→(∀b∈JaA nm r,((b.1.2,b.2))∈bs)→Frz bs (Ja nm r) (JJ 2 JfY sub0 l)
 | (R,none),l,hok,h,_=> by
   have hok:R= []:=hok
   have h:R=l.map J4:=h
   obtain rfl:l= []:=List.map_eq_nil_iff.1 (h.symm.trans hok)
   exact Frz.of_le AVle.os_sl0
 | (R,some (s,cap,tl)),l,hok,h,hm=> by
   have h:R=l.map J4:=h
   subst h
   have hm:=hm _ (.head _)
   have hk:=hok.1
   rw [List.length_map] at hk
   exact Jgw (E:=fun e:PSub=> [u32 (e.num:Nat),u32 (e.code:Nat)]) (fun _=> rfl) (fun _=> rfl) (List.length_map _).symm (by unfold J6;rw [← JnQ];exact hm) (by rw [List.length_map];exact hk)
theorem Jfz {F:List (Vl.Id×Own)} {st:Nat→JR} {j:Nat} (hj:j < 7):∀b∈JaA (10+j) (st j),((b.1.2,b.2))∈(F++Jy st).map fun p=> (p.1.2,p.2):=fun b hb=>
 List.mem_map.2 ⟨b,List.mem_append.2 (.inr (List.mem_flatMap.2 ⟨j,List.mem_range.2 hj,hb⟩)),rfl⟩
theorem JtK {i:Nat} {L:List Rul} {r:Rul} (h:i+L.length < 1000000):IntKind.i64.wrap (((i+L.length:Nat):Int)+1)=((i+(L++ [r]).length:Nat):Int):=by
 rw [List.length_append,List.length_singleton,← Nat.add_assoc];exact Js (by omega)
theorem JuN {L:List Rul} {r:Rul}:((L.map J9).length+1) * 2=((L++ [r]).map J9).length * 2:=by simp
theorem JvC {L:List Rul} {r:Rul} {f':Nat→AV} {a b s:Nat} (hf:f' 0=Jcu (J9 r)):AVle (.os 2 ((L.map J9).length+1) (Jcc (L.map J9).length (Jcv (L.map J9)) f') (some (a,s))) (.os 2 ((L++ [r]).map J9).length (Jcv ((L++ [r]).map J9)) (some (b,s))):=by
 rw [List.map_append];exact JgH (e:=Jcu) hf rfl
set_option maxHeartbeats 8000000 in
theorem JnR (p:Pol) (l:List TRow) (hp:p.ok) (hp2:∀r∈p.rules,r.conds.length≤12∧r.name.size≤1000000) (hl:l.length≤1000000) (hn:∀r∈l,r.name.size≤maxLen):Tells Tryz.prog 12 [Jha p,J5 l] (JnN p l):=by
 have hV:=JnM p l hp hp2 hl hn
 unfold JnN
 by_cases hv:(JaF p l).2=0
 ·rw [if_neg (fun h=> h hv)]
  have hE:=Jkz p l (by have:=(JbL (JbD.1 hv).1).1;omega) hl (Jgz (JbD.1 hv).2.1)
  unfold Jtz at hE
  rw [hv] at hV
  generalize (JaF p l).1=v1 at hV
  cases hx:p.rules.findIdx? (JeR l) with
  | some i=>
    rw [hx] at hE
    refine Jg Tryz.func12 rfl rfl fun nx=> ?_
    refine stp ?_
    refine Jd rfl rfl hV ⟨AVle.refl _,AVle.refl _,trivial⟩ fun nx2=> ?_
    refine stp ?_
    refine Jd rfl rfl hE ⟨AVle.refl _,AVle.refl _,trivial⟩ fun nx3=> ?_
    refine stp ?_
    exact Jl rfl ⟨rfl,trivial⟩ (AVle.tups (cs:= [_,_,_]) ⟨JnO,AVle.refl _,AVle.refl _,trivial⟩)
  | none=>
    rw [hx] at hE
    refine Jg Tryz.func12 rfl rfl fun nx=> ?_
    refine stp ?_
    refine Jd rfl rfl hV ⟨AVle.refl _,AVle.refl _,trivial⟩ fun nx2=> ?_
    refine stp ?_
    refine Jd rfl rfl hE ⟨AVle.refl _,AVle.refl _,trivial⟩ fun nx3=> ?_
    refine stp ?_
    have hN:=Jl1 p hp
    unfold Jl6 at hN
    rw [if_pos (JbD.1 hv).1] at hN
    have hnr:=Jqn (JbD.1 hv).1
    have hcd:=JoW p.dflt (Jng (JbD.1 hv).1).1
    refine Jd rfl rfl hN ⟨AVle.refl _,trivial⟩ fun nx4=> ?_
    refine stp ?_
    have hc18:=Jir (Jc p).dflt (Jng hnr).1
    refine Jah 7 [((2,nx4), .c [int (Jc p).dflt.1,int (Jc p).dflt.2,Jb (Jc p).x32,Jj (Jc p).rules]),((1,nx+1), .c JW),((0,nx), .c [int p.dflt.1,int p.dflt.2,Jb p.x32,Jj p.rules])] (fun i=> match i with | 6=> true | _=> false) (fun i=> match i with | 2=> true | _=> false) [0,1,2,3,4,5,6] (by kernel_rfl) (by kernel_rfl) (HB.refl _) ?_
    refine stp ?_
    refine ⟨_,Jae rfl rfl rfl hc18 ⟨AVle.refl _,trivial⟩ (NoId.v _), ?_⟩
    refine stp ?_
    refine ⟨_,Jg3 (cs:=JW) rfl rfl (by kernel_rfl) (HB.cons rfl (HB.cons rfl (HB.one rfl))),fun r h' hr=> ?_⟩
    obtain ⟨rfl,rfl⟩:=hr
    refine stp ?_
    refine JcS (fun y:(Nat→JR)×Nat=> mk 131 (LpT nx nx4 l []) ⟨LpB nx nx4 p y.1, [],y.2,20⟩) (fun y=> LpI p l (Jc p).rules.length y.1) ?_ ?_
    ·refine JN (fun y:Nat×(Nat→JR)×Nat=> mk 131 (LpT nx nx4 l [(15,int y.1)]) ⟨LpB nx nx4 p y.2.1, [],y.2.2,20⟩) (fun y=> LpI p l y.1 y.2.1) (fun y=> (Jc p).rules.length - y.1) ?_ ?_
     ·exact ⟨(0,fun _=> ([],none),nx4+2),Jwd p l,Jn (pm:= []) (bx:= [((2,nx+1), .c JW),((1,nx4+1), .c (Jo (Ju (Jc p).dflt) (Jc p).x32 fun _=> ([],none))),((0,nx4), .c [int (Jc p).dflt.1,int (Jc p).dflt.2,Jb (Jc p).x32,Jj (Jc p).rules])]) (L:= [(1,J5 l),(4, .bp (2,nx+1) 0),(5,int 0),(6,int 0),(11, .bp (0,nx4) 0),(13, .bp (1,nx4+1) 0),(14, .fn (.func 47) [] [.bp (0,nx4) 0, .bp (1,nx4+1) 0]),(15,int (0:Nat))]) _ _ [] rfl rfl JtI (.cons_cons _ (.cons_cons _ (.cons_cons _ (.cons _ .slnil)))) (List.Sublist.refl _) ⟨rfl,OwnLe.refl _,rfl,OwnLe.refl _,rfl,OwnLe.refl _,trivial⟩ trivial ⟨AVle.refl _,AVle.bp_nm rfl,AVle.refl _,AVle.refl _,AVle.bp_nm rfl,AVle.bp_nm rfl,AVle.fn_caps (cs:= [.bp (2,nx4) 0, .bp (3,nx4+1) 0]) (ds:= [.bp (0,nx4) 0, .bp (1,nx4+1) 0]) ⟨AVle.bp_nm rfl,AVle.bp_nm rfl,trivial⟩,AVle.refl _,trivial⟩⟩
     ·rintro ⟨i,st,nx5⟩ hI
      refine stp ?_
      intro c g;cases c
      ·have g:=JC g
       try dsimp only at g
       have hi:i=(Jc p).rules.length:=by have:=hI.1;dsimp only at this;omega
       subst hi
       refine stp ?_
       exact ⟨(st,nx5),hI,Jh _ _ rfl rfl (List.Sublist.refl _) (List.Sublist.refl _) (BxLe.refl _) trivial ⟨AVle.refl _,AVle.refl _,AVle.refl _,AVle.refl _,AVle.refl _,AVle.refl _,AVle.refl _,trivial⟩⟩
      ·have g:=JD g
       try dsimp only at g
       have hi:i < (Jc p).rules.length:=by omega
       refine stp ?_
       refine ⟨⟨by first | omega | (dsimp only;omega),by first | omega | (dsimp only;omega)⟩, ?_⟩
       refine stp ?_
       refine JcS (fun y:List Rul×Option Nat×Nat=> mk 131 (LpT nx nx4 l [(15,int (i+y.1.length:Nat)),(16,Jf ((Jc p).rules.getD i Jq).name),(17, .os 2 (y.1.map J9).length (Jcv (y.1.map J9)) (nmd y.2.1))]) ⟨LpB nx nx4 p st,JbT (nmd y.2.1) ((y.1.map J9).length * 2),y.2.2,20⟩) (fun y=> y.1=JbN ((Jc p).rules.getD i Jq).name ((Jc p).rules.drop i)) ?_ ?_
       ·refine JN (fun y:List Rul×Option Nat×Nat=> mk 131 (LpT nx nx4 l [(15,int (i+y.1.length:Nat)),(16,Jf ((Jc p).rules.getD i Jq).name),(17, .os 2 (y.1.map J9).length (Jcv (y.1.map J9)) (nmd y.2.1))]) ⟨LpB nx nx4 p st,JbT (nmd y.2.1) ((y.1.map J9).length * 2),y.2.2,20⟩)
         (fun y=> y.1++JbN ((Jc p).rules.getD i Jq).name ((Jc p).rules.drop (i+y.1.length))=JbN ((Jc p).rules.getD i Jq).name ((Jc p).rules.drop i)∧i+y.1.length≤(Jc p).rules.length∧(y.2.1=none→y.1= [])) (fun y=> (Jc p).rules.length - (i+y.1.length)) ?_ ?_
        ·exact ⟨([],none,nx5),⟨rfl,Nat.le_of_lt hi,fun _=> rfl⟩,Jh (pm:= []) (L:= [(1,J5 l),(4, .bp (2,nx+1) 0),(5,int 0),(6,int 0),(11, .bp (0,nx4) 0),(13, .bp (1,nx4+1) 0),(14, .fn (.func 47) [] [.bp (0,nx4) 0, .bp (1,nx4+1) 0]),(15,int (i:Nat)),(16,Jf ((Jc p).rules.getD i Jq).name),(17, .os 2 0 (Jcv []) none)]) _ [] rfl rfl (List.Sublist.refl _) (List.Sublist.refl _) (BxLe.refl _) trivial ⟨AVle.refl _,AVle.refl _,AVle.refl _,AVle.refl _,AVle.refl _,AVle.refl _,AVle.refl _,AVle.refl _,AVle.refl _,AVle.os_nil,trivial⟩⟩
        ·rintro ⟨L,oi,nx6⟩ ⟨hL,hle,ho⟩
         dsimp only at hL hle ho
         refine stp ?_
         intro c g2;cases c
         ·have g2:=JC g2
          try dsimp only at g2
          have hj:i+L.length=(Jc p).rules.length:=by omega
          rw [hj,List.drop_length] at hL
          refine stp ?_
          exact ⟨(L,oi,nx6),by rw [← hL];exact (List.append_nil _).symm,Jh _ _ rfl rfl (List.Sublist.refl _) (List.Sublist.refl _) (BxLe.refl _) (PmEq.refl _) ⟨AVle.refl _,AVle.refl _,AVle.refl _,AVle.refl _,AVle.refl _,AVle.refl _,AVle.refl _,AVle.refl _,AVle.refl _,AVle.refl _,trivial⟩⟩
         ·have g2:=JD g2
          try dsimp only at g2
          have hj:i+L.length < (Jc p).rules.length:=by omega
          have hdr:(Jc p).rules.drop (i+L.length)=(Jc p).rules.getD (i+L.length) Jq::(Jc p).rules.drop (i+L.length+1):=by
           rw [List.drop_eq_getElem_cons hj];simp [List.getD,hj]
          rw [hdr] at hL
          refine stp ?_
          refine ⟨⟨by first | omega | (dsimp only;omega),by first | omega | (dsimp only;omega)⟩, ?_⟩
          refine stp ?_
          intro c3 hc3
          have hc3:c3=kS ((Jc p).rules.getD (i+L.length) Jq).name ((Jc p).rules.getD i Jq).name:=hc3
          cases c3
          ·have hrn:JbN ((Jc p).rules.getD i Jq).name ((Jc p).rules.getD (i+L.length) Jq::(Jc p).rules.drop (i+L.length+1))= []:=by
            unfold JbN;rw [List.takeWhile_cons,if_neg (by rw [← hc3];decide)]
           rw [hrn] at hL
           refine stp ?_
           exact ⟨(L,oi,nx6),by rw [← hL];exact (List.append_nil _).symm,Jh _ _ rfl rfl (List.Sublist.refl _) (List.Sublist.refl _) (BxLe.refl _) (PmEq.refl _) ⟨AVle.refl _,AVle.refl _,AVle.refl _,AVle.refl _,AVle.refl _,AVle.refl _,AVle.refl _,AVle.refl _,AVle.refl _,AVle.refl _,trivial⟩⟩
          ·have hrn:JbN ((Jc p).rules.getD i Jq).name ((Jc p).rules.getD (i+L.length) Jq::(Jc p).rules.drop (i+L.length+1))=(Jc p).rules.getD (i+L.length) Jq::JbN ((Jc p).rules.getD i Jq).name ((Jc p).rules.drop (i+L.length+1)):=by
            unfold JbN;rw [List.takeWhile_cons,if_pos hc3.symm]
           rw [hrn] at hL
           have hcj:=Jir ((Jc p).rules.getD (i+L.length) Jq).act (Jqc ((Jng hnr).2 _ (by simp [List.getD,hj])))
           refine stp ?_
           refine Jah 17 (LpB nx nx4 p st) (fun i=> match i with | 16=> true | _=> false) (fun i=> match i with | 13=> true | _=> false) [0,1,2,3,4,5,6,7,8,9,10,11,12,13,14,15,16] (by kernel_rfl) (by kernel_rfl) (HB.refl _) ?_
           refine stp ?_
           refine ⟨⟨by first | omega | (dsimp only;omega),by first | omega | (dsimp only;omega)⟩,Jb2 (b:= .rp (Jau ((Jc p).rules.getD (i+L.length) Jq)).cells) rfl ?_⟩
           refine stp ?_
           refine ⟨⟨by first | omega | (dsimp only;omega),by first | omega | (dsimp only;omega)⟩,Jb2 (b:= .rp (Jau ((Jc p).rules.getD (i+L.length) Jq)).cells) rfl ?_⟩
           refine stp ?_
           refine ⟨_,Jae rfl rfl rfl hcj ⟨AVle.refl _,trivial⟩ (NoId.v _), ?_⟩
           refine stp ?_
           refine ⟨_,JfP (e:=118) (c:=2) (pm:= []) (n:=(L.map J9).length) (oi:=nmd oi) (sz:=2) (f:=Jcv (L.map J9)) (HB.refl _) rfl rfl rfl (.inr ⟨_,rfl⟩) (by kernel_rfl) (by kernel_rfl) (by kernel_rfl) (.inr rfl) (by kernel_rfl) (List.append_nil _).symm (JO rfl) (by rw [JjV,List.length_map];have:=(JbL hnr).1;omega) (by rw [List.length_map];have:=(JbL hnr).1;omega),fun r h' hr=> ?_⟩
           obtain ⟨rfl,rfl⟩:=hr
           refine stp ?_
           exact back (L++ [(Jc p).rules.getD (i+L.length) Jq],some nx6,nx6+1) ⟨by dsimp only;rw [List.append_assoc,List.length_append,List.length_singleton];exact hL,by dsimp only;rw [List.length_append,List.length_singleton];omega,(fun h=> by cases h)⟩ (by dsimp only;rw [List.length_append,List.length_singleton];omega) (Jh (bx:=LpB nx nx4 p st) (pm:= [((0,nx6),((L++ [(Jc p).rules.getD (i+L.length) Jq]).map J9).length * 2)]) (L:= [(1,J5 l),(4, .bp (2,nx+1) 0),(5,int 0),(6,int 0),(11, .bp (0,nx4) 0),(13, .bp (1,nx4+1) 0),(14, .fn (.func 47) [] [.bp (0,nx4) 0, .bp (1,nx4+1) 0]),(15,int (i+(L++ [(Jc p).rules.getD (i+L.length) Jq]).length:Nat)),(16,Jf ((Jc p).rules.getD i Jq).name),(17, .os 2 ((L++ [(Jc p).rules.getD (i+L.length) Jq]).map J9).length (Jcv ((L++ [(Jc p).rules.getD (i+L.length) Jq]).map J9)) (some (0,nx6)))]) _ _ rfl rfl (List.Sublist.refl _) (List.Sublist.refl _) (BxLe.refl _) ⟨rfl,JuN,trivial⟩ ⟨AVle.refl _,AVle.refl _,AVle.refl _,AVle.refl _,AVle.refl _,AVle.refl _,AVle.refl _,Jk (JtK (by have:=(JbL hnr).1;dsimp only;omega)),AVle.refl _,JvC rfl,trivial⟩)
       ·rintro ⟨L,oi,nx6⟩ hL
        dsimp only at hL
        have hmem:(Jc p).rules.getD i Jq∈(Jc p).rules:=by simp [List.getD,hi]
        have hfb:JaS l ((Jc p).rules.getD i Jq).name=true:=by
         obtain ⟨r0,h0,h1⟩:=JiO hmem
         rw [(JcT h1).2.1]
         exact JfX hv r0 h0
        have hF:=Jfq l ((Jc p).rules.getD i Jq).name hl (JfR (Jgz (JbD.1 hv).2.1) _)
        unfold Jjp at hF
        rw [if_pos hfb,← (show JaP l ((Jc p).rules.getD i Jq).name=_ from if_pos hfb)] at hF
        refine stp ?_
        refine Jd rfl rfl hF ⟨AVle.refl _,AVle.refl _,trivial⟩ fun nx7=> ?_
        refine stp ?_
        have hLn:L≠ []:=by rw [hL];exact Jso hi
        have hrc:=Jsp (s:=((Jc p).rules.getD i Jq).name) (i:=i) hp (JbD.1 hv).1
        rw [← hL] at hrc
        have hrow:=JuL (JbD.1 hv).2.1 (JlB hfb)
        have hlr:L.length≤(Jc p).rules.length - i:=by rw [hL,← List.length_drop];exact JlI _ _
        have h500:=(JbL hnr).1
        have hput:=Jqx (Jc p).dflt.1 (Jc p).dflt.2 (Jc p).x32 (Jc p).rules (Ju (Jc p).dflt) (JaP l ((Jc p).rules.getD i Jq).name) (L.map J9) nx4 (nx4+1) (nx7+1) st hI.2.1 (Jpd h500 hI) hrow.1 hrow.2.1 hrow.2.2 (fun h=> hLn (List.map_eq_nil_iff.1 h)) (by rw [List.length_map];omega) hrc
        have hnext:∀st',Jqw (Ju (Jc p).dflt) (Jc p).x32 (JaP l ((Jc p).rules.getD i Jq).name) (L.map J9) st st'→LpI p l (i+L.length) st':=fun st' hq=> JtH hi rfl hL hI hq
        have hpos:0 < L.length:=List.length_pos_iff.2 hLn
        refine JS (xs:= [Jp (JaP l ((Jc p).rules.getD i Jq).name),Jr (L.map J9), .bp (0,nx4) 0, .bp (1,nx4+1) 0]) [((20,nx7), .c (Jcm (JaP l ((Jc p).rules.getD i Jq).name))),((2,nx+1), .c JW)] (JbT (nmd oi) ((L.map J9).length * 2)) 20 rfl rfl rfl (List.append_nil _).symm ⟨AVle.refl _,AVle.os_sl,AVle.refl _,AVle.refl _,trivial⟩ hput (BxLe.refl _) trivial rfl fun r h' hq=> ?_
        obtain ⟨rfl,st',nx8,nn8,hq,rfl⟩:=hq
        refine stp ?_
        exact back (i+L.length,st',nx8) (hnext st' hq) (by dsimp only;omega) (Jh (pm:= []) (bx:=LpB nx nx4 p st') (L:= [(1,J5 l),(4, .bp (2,nx+1) 0),(5,int 0),(6,int 0),(11, .bp (0,nx4) 0),(13, .bp (1,nx4+1) 0),(14, .fn (.func 47) [] [.bp (0,nx4) 0, .bp (1,nx4+1) 0]),(15,int (i+L.length:Nat))]) _ [] rfl rfl (.cons _ (List.Sublist.refl _)) (List.nil_sublist _) (BxLe.refl _) trivial ⟨AVle.refl _,AVle.refl _,AVle.refl _,AVle.refl _,AVle.refl _,AVle.refl _,AVle.refl _,AVle.refl _,trivial⟩)
    ·rintro ⟨st,nx5⟩ hI
     dsimp only at hI
     have hE:=JuM hI
     have hlen:=Jpd (JbL hnr).1 hI
     have hone:∀ {m:Nat} {st1:Nat→JR} (k:Nat),LpS m st st1→∀ {R:List (Nat×AV)},k < 7→(st1 k).1=R→(∀x∈R,Ja2 x.2=true)∧R.length < 4611686018427387904:=fun {m st1} k hS {R} hk h=> by
      subst h
      have hp:=hS.2.2.1 k hk
      refine ⟨fun x hx=> ?_,by have:=hlen k hk;rw [hp.length_eq];omega⟩
      have hx:=hp.mem_iff.1 hx
      rcases Nat.lt_or_ge k 5 with h5 | h5
      ·rw [hE.2.1 k h5] at hx
       obtain ⟨e,_,rfl⟩:=List.mem_map.1 hx
       rfl
      ·obtain ⟨m',rfl⟩:∃m',k=5+m':=⟨k - 5,by omega⟩
       rw [hE.2.2 m' (by omega)] at hx
       obtain ⟨e,_,rfl⟩:=List.mem_map.1 hx
       rfl
     refine stp ?_
     refine JcS (fun y:(Nat→JR)×Nat=> mk 131 [(4, .bp (2,nx+1) 0),(5,int 0),(6,int 0),(13, .bp (1,nx4+1) 0)] ⟨LpB nx nx4 p y.1, [],y.2,20⟩) (fun y=> LpS 5 st y.1) ?_ ?_
     ·refine JN (fun y:Nat×(Nat→JR)×Nat=> mk 131 [(4, .bp (2,nx+1) 0),(5,int 0),(6,int 0),(13, .bp (1,nx4+1) 0),(112,int y.1)] ⟨LpB nx nx4 p y.2.1, [],y.2.2,20⟩) (fun y=> y.1≤5∧LpS (y.1) st y.2.1) (fun y=> 5 - y.1) ?_ ?_
      ·exact ⟨(0,st,nx5),⟨Nat.zero_le _,Jwe hE.1⟩,Jh _ _ rfl rfl (List.Sublist.refl _) (List.Sublist.refl _) (BxLe.refl _) trivial ⟨AVle.refl _,AVle.refl _,AVle.refl _,AVle.refl _,AVle.refl _,trivial⟩⟩
      ·rintro ⟨a,st1,nx5⟩ ⟨ha,hS⟩
       dsimp only at ha hS
       rcases (by omega:a=0∨a=1∨a=2∨a=3∨a=4∨a=5) with rfl | rfl | rfl | rfl | rfl | rfl
       ·rcases hk:st1 0 with ⟨R,_ | ⟨s,cap,tl⟩⟩
        ·have hR:R= []:=by have:=hS.2.1 0 (by decide);rw [hk] at this;exact this
         have hN0:(st1 0).1= []:=by rw [hk];exact hR
         have eo:Jo (Ju (Jc p).dflt) (Jc p).x32 st1= [u32 (Ju (Jc p).dflt:Nat),Jb (Jc p).x32, .os 0 0 (fun _=> .any) none,Ja 11 (st1 1),Ja 12 (st1 2),Ja 13 (st1 3),Ja 14 (st1 4),Ja 15 (st1 5),Ja 16 (st1 6)]:=by simp only [Jo,hk,Ja]
         refine AW.le (Jh (n:=131) (nn:=20) (pm:= []) (bx:= [((2,nx+1),Own.c JW),((1,nx4+1), .c [u32 (Ju (Jc p).dflt:Nat),Jb (Jc p).x32, .os 0 0 (fun _=> .any) none,Ja 11 (st1 1),Ja 12 (st1 2),Ja 13 (st1 3),Ja 14 (st1 4),Ja 15 (st1 5),Ja 16 (st1 6)]),((0,nx4), .c [int (Jc p).dflt.1,int (Jc p).dflt.2,Jb (Jc p).x32,Jj (Jc p).rules])]++Jy st1) (L:= [(4, .bp (2,nx+1) 0),(5,int 0),(6,int 0),(13, .bp (1,nx4+1) 0),(112,int (0:Nat))]) _ _ rfl rfl (List.Sublist.refl _) (List.Sublist.refl _) (Jcp eo) trivial ⟨AVle.refl _,AVle.refl _,AVle.refl _,AVle.refl _,AVle.refl _,trivial⟩) ?_
         refine stp ?_
         refine Jd rfl rfl (JdH 52) ⟨AVle.os_nil,AVle.refl _,trivial⟩ fun nx6=> ?_
         refine stp ?_
         exact back (1,st1,nx6) ⟨by dsimp only;omega,JdS (by decide) hS hN0⟩ (by dsimp only;omega) (Jh (bx:=LpB nx nx4 p st1) _ _ rfl rfl (List.Sublist.refl _) (List.Sublist.refl _) (Jcq eo.symm) trivial ⟨AVle.refl _,AVle.refl _,AVle.refl _,AVle.refl _,Jk rfl,trivial⟩)
        ·have eo:Jo (Ju (Jc p).dflt) (Jc p).x32 st1= [u32 (Ju (Jc p).dflt:Nat),Jb (Jc p).x32, .hs (10,s) 0 R.length cap,Ja 11 (st1 1),Ja 12 (st1 2),Ja 13 (st1 3),Ja 14 (st1 4),Ja 15 (st1 5),Ja 16 (st1 6)]:=by simp only [Jo,hk,Ja]
         refine AW.le (Jn (n:=131) (nn:=20) (pm:= []) (bx:=([((2,nx+1),Own.c JW),((1,nx4+1), .c [u32 (Ju (Jc p).dflt:Nat),Jb (Jc p).x32, .hs (10,s) 0 R.length cap,Ja 11 (st1 1),Ja 12 (st1 2),Ja 13 (st1 3),Ja 14 (st1 4),Ja 15 (st1 5),Ja 16 (st1 6)]),((0,nx4), .c [int (Jc p).dflt.1,int (Jc p).dflt.2,Jb (Jc p).x32,Jj (Jc p).rules])]++Jm 0 st1)++ [((10,s),Own.c (Jt R++tl))]) (L:= [(4, .bp (2,nx+1) 0),(5,int 0),(6,int 0),(13, .bp (1,nx4+1) 0),(112,int (0:Nat))]) _ _ [] rfl rfl (Jes (F:= [((2,nx+1),Own.c JW),((1,nx4+1), .c (Jo (Ju (Jc p).dflt) (Jc p).x32 st1)),((0,nx4), .c [int (Jc p).dflt.1,int (Jc p).dflt.2,Jb (Jc p).x32,Jj (Jc p).rules])]) (k:=0) (by decide) hk) (List.Sublist.refl _) (List.Sublist.refl _) (by rw [List.append_assoc,List.append_assoc];exact Jcp eo) trivial ⟨AVle.refl _,AVle.refl _,AVle.refl _,AVle.refl _,AVle.refl _,trivial⟩) ?_
         have hR:=hone 0 hS (R:=R) (by decide) (by rw [hk])
         refine stp ?_
         refine JS (xs:= [.hs (10,s) 0 R.length cap, .fn (.func 52) [] []]) ([((2,nx+1),Own.c JW),((1,nx4+1), .c [u32 (Ju (Jc p).dflt:Nat),Jb (Jc p).x32, .hs (10,s) 0 R.length cap,Ja 11 (st1 1),Ja 12 (st1 2),Ja 13 (st1 3),Ja 14 (st1 4),Ja 15 (st1 5),Ja 16 (st1 6)]),((0,nx4), .c [int (Jc p).dflt.1,int (Jc p).dflt.2,Jb (Jc p).x32,Jj (Jc p).rules])]++Jm 0 st1) [] 20 rfl rfl rfl rfl ⟨AVle.refl _,AVle.refl _,trivial⟩ (Jdi (D:=R) (tl:=tl) (nm:=10) (s:=s) (cap:=cap) (nx:=nx5) (nn:=20) hR.1 hR.2) (BxLe.refl _) trivial rfl fun r h' hq=> ?_
         obtain ⟨rfl,cs',⟨D,hp1,hp2,rfl⟩,rfl⟩:=hq
         refine stp ?_
         exact back (1,Jw st1 0 (D,some (s,cap,tl)),nx5) ⟨by dsimp only;omega,JdT (by decide) hS hk hp1 hp2⟩ (by dsimp only;omega) (Jn (pm:= []) (bx:=LpB nx nx4 p (Jw st1 0 (D,some (s,cap,tl)))) (L:= [(4, .bp (2,nx+1) 0),(5,int 0),(6,int 0),(13, .bp (1,nx4+1) 0),(112,int (1:Nat))]) _ _ [] rfl rfl (JdU (F:= [((2,nx+1),Own.c JW),((1,nx4+1), .c [u32 (Ju (Jc p).dflt:Nat),Jb (Jc p).x32, .hs (10,s) 0 R.length cap,Ja 11 (st1 1),Ja 12 (st1 2),Ja 13 (st1 3),Ja 14 (st1 4),Ja 15 (st1 5),Ja 16 (st1 6)]),((0,nx4), .c [int (Jc p).dflt.1,int (Jc p).dflt.2,Jb (Jc p).x32,Jj (Jc p).rules])]) (k:=0) (by decide)).symm (List.Sublist.refl _) (List.Sublist.refl _) (Jcq (by rw [Jer (st:=st1) (k:=0) (by rw [hk];show AV.hs _ 0 D.length cap=AV.hs _ 0 R.length cap;rw [hp1.length_eq]),eo])) trivial ⟨AVle.refl _,AVle.refl _,AVle.refl _,AVle.refl _,Jk rfl,trivial⟩)
       ·rcases hk:st1 1 with ⟨R,_ | ⟨s,cap,tl⟩⟩
        ·have hR:R= []:=by have:=hS.2.1 1 (by decide);rw [hk] at this;exact this
         have hN0:(st1 1).1= []:=by rw [hk];exact hR
         have eo:Jo (Ju (Jc p).dflt) (Jc p).x32 st1= [u32 (Ju (Jc p).dflt:Nat),Jb (Jc p).x32,Ja 10 (st1 0), .os 0 0 (fun _=> .any) none,Ja 12 (st1 2),Ja 13 (st1 3),Ja 14 (st1 4),Ja 15 (st1 5),Ja 16 (st1 6)]:=by simp only [Jo,hk,Ja]
         refine AW.le (Jh (n:=131) (nn:=20) (pm:= []) (bx:= [((2,nx+1),Own.c JW),((1,nx4+1), .c [u32 (Ju (Jc p).dflt:Nat),Jb (Jc p).x32,Ja 10 (st1 0), .os 0 0 (fun _=> .any) none,Ja 12 (st1 2),Ja 13 (st1 3),Ja 14 (st1 4),Ja 15 (st1 5),Ja 16 (st1 6)]),((0,nx4), .c [int (Jc p).dflt.1,int (Jc p).dflt.2,Jb (Jc p).x32,Jj (Jc p).rules])]++Jy st1) (L:= [(4, .bp (2,nx+1) 0),(5,int 0),(6,int 0),(13, .bp (1,nx4+1) 0),(112,int (1:Nat))]) _ _ rfl rfl (List.Sublist.refl _) (List.Sublist.refl _) (Jcp eo) trivial ⟨AVle.refl _,AVle.refl _,AVle.refl _,AVle.refl _,AVle.refl _,trivial⟩) ?_
         refine stp ?_
         refine Jd rfl rfl (JdH 52) ⟨AVle.os_nil,AVle.refl _,trivial⟩ fun nx6=> ?_
         refine stp ?_
         exact back (2,st1,nx6) ⟨by dsimp only;omega,JdS (by decide) hS hN0⟩ (by dsimp only;omega) (Jh (bx:=LpB nx nx4 p st1) _ _ rfl rfl (List.Sublist.refl _) (List.Sublist.refl _) (Jcq eo.symm) trivial ⟨AVle.refl _,AVle.refl _,AVle.refl _,AVle.refl _,Jk rfl,trivial⟩)
        ·have eo:Jo (Ju (Jc p).dflt) (Jc p).x32 st1= [u32 (Ju (Jc p).dflt:Nat),Jb (Jc p).x32,Ja 10 (st1 0), .hs (11,s) 0 R.length cap,Ja 12 (st1 2),Ja 13 (st1 3),Ja 14 (st1 4),Ja 15 (st1 5),Ja 16 (st1 6)]:=by simp only [Jo,hk,Ja]
         refine AW.le (Jn (n:=131) (nn:=20) (pm:= []) (bx:=([((2,nx+1),Own.c JW),((1,nx4+1), .c [u32 (Ju (Jc p).dflt:Nat),Jb (Jc p).x32,Ja 10 (st1 0), .hs (11,s) 0 R.length cap,Ja 12 (st1 2),Ja 13 (st1 3),Ja 14 (st1 4),Ja 15 (st1 5),Ja 16 (st1 6)]),((0,nx4), .c [int (Jc p).dflt.1,int (Jc p).dflt.2,Jb (Jc p).x32,Jj (Jc p).rules])]++Jm 1 st1)++ [((11,s),Own.c (Jt R++tl))]) (L:= [(4, .bp (2,nx+1) 0),(5,int 0),(6,int 0),(13, .bp (1,nx4+1) 0),(112,int (1:Nat))]) _ _ [] rfl rfl (Jes (F:= [((2,nx+1),Own.c JW),((1,nx4+1), .c (Jo (Ju (Jc p).dflt) (Jc p).x32 st1)),((0,nx4), .c [int (Jc p).dflt.1,int (Jc p).dflt.2,Jb (Jc p).x32,Jj (Jc p).rules])]) (k:=1) (by decide) hk) (List.Sublist.refl _) (List.Sublist.refl _) (by rw [List.append_assoc,List.append_assoc];exact Jcp eo) trivial ⟨AVle.refl _,AVle.refl _,AVle.refl _,AVle.refl _,AVle.refl _,trivial⟩) ?_
         have hR:=hone 1 hS (R:=R) (by decide) (by rw [hk])
         refine stp ?_
         refine JS (xs:= [.hs (11,s) 0 R.length cap, .fn (.func 52) [] []]) ([((2,nx+1),Own.c JW),((1,nx4+1), .c [u32 (Ju (Jc p).dflt:Nat),Jb (Jc p).x32,Ja 10 (st1 0), .hs (11,s) 0 R.length cap,Ja 12 (st1 2),Ja 13 (st1 3),Ja 14 (st1 4),Ja 15 (st1 5),Ja 16 (st1 6)]),((0,nx4), .c [int (Jc p).dflt.1,int (Jc p).dflt.2,Jb (Jc p).x32,Jj (Jc p).rules])]++Jm 1 st1) [] 20 rfl rfl rfl rfl ⟨AVle.refl _,AVle.refl _,trivial⟩ (Jdi (D:=R) (tl:=tl) (nm:=11) (s:=s) (cap:=cap) (nx:=nx5) (nn:=20) hR.1 hR.2) (BxLe.refl _) trivial rfl fun r h' hq=> ?_
         obtain ⟨rfl,cs',⟨D,hp1,hp2,rfl⟩,rfl⟩:=hq
         refine stp ?_
         exact back (2,Jw st1 1 (D,some (s,cap,tl)),nx5) ⟨by dsimp only;omega,JdT (by decide) hS hk hp1 hp2⟩ (by dsimp only;omega) (Jn (pm:= []) (bx:=LpB nx nx4 p (Jw st1 1 (D,some (s,cap,tl)))) (L:= [(4, .bp (2,nx+1) 0),(5,int 0),(6,int 0),(13, .bp (1,nx4+1) 0),(112,int (2:Nat))]) _ _ [] rfl rfl (JdU (F:= [((2,nx+1),Own.c JW),((1,nx4+1), .c [u32 (Ju (Jc p).dflt:Nat),Jb (Jc p).x32,Ja 10 (st1 0), .hs (11,s) 0 R.length cap,Ja 12 (st1 2),Ja 13 (st1 3),Ja 14 (st1 4),Ja 15 (st1 5),Ja 16 (st1 6)]),((0,nx4), .c [int (Jc p).dflt.1,int (Jc p).dflt.2,Jb (Jc p).x32,Jj (Jc p).rules])]) (k:=1) (by decide)).symm (List.Sublist.refl _) (List.Sublist.refl _) (Jcq (by rw [Jer (st:=st1) (k:=1) (by rw [hk];show AV.hs _ 0 D.length cap=AV.hs _ 0 R.length cap;rw [hp1.length_eq]),eo])) trivial ⟨AVle.refl _,AVle.refl _,AVle.refl _,AVle.refl _,Jk rfl,trivial⟩)
       ·rcases hk:st1 2 with ⟨R,_ | ⟨s,cap,tl⟩⟩
        ·have hR:R= []:=by have:=hS.2.1 2 (by decide);rw [hk] at this;exact this
         have hN0:(st1 2).1= []:=by rw [hk];exact hR
         have eo:Jo (Ju (Jc p).dflt) (Jc p).x32 st1= [u32 (Ju (Jc p).dflt:Nat),Jb (Jc p).x32,Ja 10 (st1 0),Ja 11 (st1 1), .os 0 0 (fun _=> .any) none,Ja 13 (st1 3),Ja 14 (st1 4),Ja 15 (st1 5),Ja 16 (st1 6)]:=by simp only [Jo,hk,Ja]
         refine AW.le (Jh (n:=131) (nn:=20) (pm:= []) (bx:= [((2,nx+1),Own.c JW),((1,nx4+1), .c [u32 (Ju (Jc p).dflt:Nat),Jb (Jc p).x32,Ja 10 (st1 0),Ja 11 (st1 1), .os 0 0 (fun _=> .any) none,Ja 13 (st1 3),Ja 14 (st1 4),Ja 15 (st1 5),Ja 16 (st1 6)]),((0,nx4), .c [int (Jc p).dflt.1,int (Jc p).dflt.2,Jb (Jc p).x32,Jj (Jc p).rules])]++Jy st1) (L:= [(4, .bp (2,nx+1) 0),(5,int 0),(6,int 0),(13, .bp (1,nx4+1) 0),(112,int (2:Nat))]) _ _ rfl rfl (List.Sublist.refl _) (List.Sublist.refl _) (Jcp eo) trivial ⟨AVle.refl _,AVle.refl _,AVle.refl _,AVle.refl _,AVle.refl _,trivial⟩) ?_
         refine stp ?_
         refine Jd rfl rfl (JdH 52) ⟨AVle.os_nil,AVle.refl _,trivial⟩ fun nx6=> ?_
         refine stp ?_
         exact back (3,st1,nx6) ⟨by dsimp only;omega,JdS (by decide) hS hN0⟩ (by dsimp only;omega) (Jh (bx:=LpB nx nx4 p st1) _ _ rfl rfl (List.Sublist.refl _) (List.Sublist.refl _) (Jcq eo.symm) trivial ⟨AVle.refl _,AVle.refl _,AVle.refl _,AVle.refl _,Jk rfl,trivial⟩)
        ·have eo:Jo (Ju (Jc p).dflt) (Jc p).x32 st1= [u32 (Ju (Jc p).dflt:Nat),Jb (Jc p).x32,Ja 10 (st1 0),Ja 11 (st1 1), .hs (12,s) 0 R.length cap,Ja 13 (st1 3),Ja 14 (st1 4),Ja 15 (st1 5),Ja 16 (st1 6)]:=by simp only [Jo,hk,Ja]
         refine AW.le (Jn (n:=131) (nn:=20) (pm:= []) (bx:=([((2,nx+1),Own.c JW),((1,nx4+1), .c [u32 (Ju (Jc p).dflt:Nat),Jb (Jc p).x32,Ja 10 (st1 0),Ja 11 (st1 1), .hs (12,s) 0 R.length cap,Ja 13 (st1 3),Ja 14 (st1 4),Ja 15 (st1 5),Ja 16 (st1 6)]),((0,nx4), .c [int (Jc p).dflt.1,int (Jc p).dflt.2,Jb (Jc p).x32,Jj (Jc p).rules])]++Jm 2 st1)++ [((12,s),Own.c (Jt R++tl))]) (L:= [(4, .bp (2,nx+1) 0),(5,int 0),(6,int 0),(13, .bp (1,nx4+1) 0),(112,int (2:Nat))]) _ _ [] rfl rfl (Jes (F:= [((2,nx+1),Own.c JW),((1,nx4+1), .c (Jo (Ju (Jc p).dflt) (Jc p).x32 st1)),((0,nx4), .c [int (Jc p).dflt.1,int (Jc p).dflt.2,Jb (Jc p).x32,Jj (Jc p).rules])]) (k:=2) (by decide) hk) (List.Sublist.refl _) (List.Sublist.refl _) (by rw [List.append_assoc,List.append_assoc];exact Jcp eo) trivial ⟨AVle.refl _,AVle.refl _,AVle.refl _,AVle.refl _,AVle.refl _,trivial⟩) ?_
         have hR:=hone 2 hS (R:=R) (by decide) (by rw [hk])
         refine stp ?_
         refine JS (xs:= [.hs (12,s) 0 R.length cap, .fn (.func 52) [] []]) ([((2,nx+1),Own.c JW),((1,nx4+1), .c [u32 (Ju (Jc p).dflt:Nat),Jb (Jc p).x32,Ja 10 (st1 0),Ja 11 (st1 1), .hs (12,s) 0 R.length cap,Ja 13 (st1 3),Ja 14 (st1 4),Ja 15 (st1 5),Ja 16 (st1 6)]),((0,nx4), .c [int (Jc p).dflt.1,int (Jc p).dflt.2,Jb (Jc p).x32,Jj (Jc p).rules])]++Jm 2 st1) [] 20 rfl rfl rfl rfl ⟨AVle.refl _,AVle.refl _,trivial⟩ (Jdi (D:=R) (tl:=tl) (nm:=12) (s:=s) (cap:=cap) (nx:=nx5) (nn:=20) hR.1 hR.2) (BxLe.refl _) trivial rfl fun r h' hq=> ?_
         obtain ⟨rfl,cs',⟨D,hp1,hp2,rfl⟩,rfl⟩:=hq
         refine stp ?_
         exact back (3,Jw st1 2 (D,some (s,cap,tl)),nx5) ⟨by dsimp only;omega,JdT (by decide) hS hk hp1 hp2⟩ (by dsimp only;omega) (Jn (pm:= []) (bx:=LpB nx nx4 p (Jw st1 2 (D,some (s,cap,tl)))) (L:= [(4, .bp (2,nx+1) 0),(5,int 0),(6,int 0),(13, .bp (1,nx4+1) 0),(112,int (3:Nat))]) _ _ [] rfl rfl (JdU (F:= [((2,nx+1),Own.c JW),((1,nx4+1), .c [u32 (Ju (Jc p).dflt:Nat),Jb (Jc p).x32,Ja 10 (st1 0),Ja 11 (st1 1), .hs (12,s) 0 R.length cap,Ja 13 (st1 3),Ja 14 (st1 4),Ja 15 (st1 5),Ja 16 (st1 6)]),((0,nx4), .c [int (Jc p).dflt.1,int (Jc p).dflt.2,Jb (Jc p).x32,Jj (Jc p).rules])]) (k:=2) (by decide)).symm (List.Sublist.refl _) (List.Sublist.refl _) (Jcq (by rw [Jer (st:=st1) (k:=2) (by rw [hk];show AV.hs _ 0 D.length cap=AV.hs _ 0 R.length cap;rw [hp1.length_eq]),eo])) trivial ⟨AVle.refl _,AVle.refl _,AVle.refl _,AVle.refl _,Jk rfl,trivial⟩)
       ·rcases hk:st1 3 with ⟨R,_ | ⟨s,cap,tl⟩⟩
        ·have hR:R= []:=by have:=hS.2.1 3 (by decide);rw [hk] at this;exact this
         have hN0:(st1 3).1= []:=by rw [hk];exact hR
         have eo:Jo (Ju (Jc p).dflt) (Jc p).x32 st1= [u32 (Ju (Jc p).dflt:Nat),Jb (Jc p).x32,Ja 10 (st1 0),Ja 11 (st1 1),Ja 12 (st1 2), .os 0 0 (fun _=> .any) none,Ja 14 (st1 4),Ja 15 (st1 5),Ja 16 (st1 6)]:=by simp only [Jo,hk,Ja]
         refine AW.le (Jh (n:=131) (nn:=20) (pm:= []) (bx:= [((2,nx+1),Own.c JW),((1,nx4+1), .c [u32 (Ju (Jc p).dflt:Nat),Jb (Jc p).x32,Ja 10 (st1 0),Ja 11 (st1 1),Ja 12 (st1 2), .os 0 0 (fun _=> .any) none,Ja 14 (st1 4),Ja 15 (st1 5),Ja 16 (st1 6)]),((0,nx4), .c [int (Jc p).dflt.1,int (Jc p).dflt.2,Jb (Jc p).x32,Jj (Jc p).rules])]++Jy st1) (L:= [(4, .bp (2,nx+1) 0),(5,int 0),(6,int 0),(13, .bp (1,nx4+1) 0),(112,int (3:Nat))]) _ _ rfl rfl (List.Sublist.refl _) (List.Sublist.refl _) (Jcp eo) trivial ⟨AVle.refl _,AVle.refl _,AVle.refl _,AVle.refl _,AVle.refl _,trivial⟩) ?_
         refine stp ?_
         refine Jd rfl rfl (JdH 52) ⟨AVle.os_nil,AVle.refl _,trivial⟩ fun nx6=> ?_
         refine stp ?_
         exact back (4,st1,nx6) ⟨by dsimp only;omega,JdS (by decide) hS hN0⟩ (by dsimp only;omega) (Jh (bx:=LpB nx nx4 p st1) _ _ rfl rfl (List.Sublist.refl _) (List.Sublist.refl _) (Jcq eo.symm) trivial ⟨AVle.refl _,AVle.refl _,AVle.refl _,AVle.refl _,Jk rfl,trivial⟩)
        ·have eo:Jo (Ju (Jc p).dflt) (Jc p).x32 st1= [u32 (Ju (Jc p).dflt:Nat),Jb (Jc p).x32,Ja 10 (st1 0),Ja 11 (st1 1),Ja 12 (st1 2), .hs (13,s) 0 R.length cap,Ja 14 (st1 4),Ja 15 (st1 5),Ja 16 (st1 6)]:=by simp only [Jo,hk,Ja]
         refine AW.le (Jn (n:=131) (nn:=20) (pm:= []) (bx:=([((2,nx+1),Own.c JW),((1,nx4+1), .c [u32 (Ju (Jc p).dflt:Nat),Jb (Jc p).x32,Ja 10 (st1 0),Ja 11 (st1 1),Ja 12 (st1 2), .hs (13,s) 0 R.length cap,Ja 14 (st1 4),Ja 15 (st1 5),Ja 16 (st1 6)]),((0,nx4), .c [int (Jc p).dflt.1,int (Jc p).dflt.2,Jb (Jc p).x32,Jj (Jc p).rules])]++Jm 3 st1)++ [((13,s),Own.c (Jt R++tl))]) (L:= [(4, .bp (2,nx+1) 0),(5,int 0),(6,int 0),(13, .bp (1,nx4+1) 0),(112,int (3:Nat))]) _ _ [] rfl rfl (Jes (F:= [((2,nx+1),Own.c JW),((1,nx4+1), .c (Jo (Ju (Jc p).dflt) (Jc p).x32 st1)),((0,nx4), .c [int (Jc p).dflt.1,int (Jc p).dflt.2,Jb (Jc p).x32,Jj (Jc p).rules])]) (k:=3) (by decide) hk) (List.Sublist.refl _) (List.Sublist.refl _) (by rw [List.append_assoc,List.append_assoc];exact Jcp eo) trivial ⟨AVle.refl _,AVle.refl _,AVle.refl _,AVle.refl _,AVle.refl _,trivial⟩) ?_
         have hR:=hone 3 hS (R:=R) (by decide) (by rw [hk])
         refine stp ?_
         refine JS (xs:= [.hs (13,s) 0 R.length cap, .fn (.func 52) [] []]) ([((2,nx+1),Own.c JW),((1,nx4+1), .c [u32 (Ju (Jc p).dflt:Nat),Jb (Jc p).x32,Ja 10 (st1 0),Ja 11 (st1 1),Ja 12 (st1 2), .hs (13,s) 0 R.length cap,Ja 14 (st1 4),Ja 15 (st1 5),Ja 16 (st1 6)]),((0,nx4), .c [int (Jc p).dflt.1,int (Jc p).dflt.2,Jb (Jc p).x32,Jj (Jc p).rules])]++Jm 3 st1) [] 20 rfl rfl rfl rfl ⟨AVle.refl _,AVle.refl _,trivial⟩ (Jdi (D:=R) (tl:=tl) (nm:=13) (s:=s) (cap:=cap) (nx:=nx5) (nn:=20) hR.1 hR.2) (BxLe.refl _) trivial rfl fun r h' hq=> ?_
         obtain ⟨rfl,cs',⟨D,hp1,hp2,rfl⟩,rfl⟩:=hq
         refine stp ?_
         exact back (4,Jw st1 3 (D,some (s,cap,tl)),nx5) ⟨by dsimp only;omega,JdT (by decide) hS hk hp1 hp2⟩ (by dsimp only;omega) (Jn (pm:= []) (bx:=LpB nx nx4 p (Jw st1 3 (D,some (s,cap,tl)))) (L:= [(4, .bp (2,nx+1) 0),(5,int 0),(6,int 0),(13, .bp (1,nx4+1) 0),(112,int (4:Nat))]) _ _ [] rfl rfl (JdU (F:= [((2,nx+1),Own.c JW),((1,nx4+1), .c [u32 (Ju (Jc p).dflt:Nat),Jb (Jc p).x32,Ja 10 (st1 0),Ja 11 (st1 1),Ja 12 (st1 2), .hs (13,s) 0 R.length cap,Ja 14 (st1 4),Ja 15 (st1 5),Ja 16 (st1 6)]),((0,nx4), .c [int (Jc p).dflt.1,int (Jc p).dflt.2,Jb (Jc p).x32,Jj (Jc p).rules])]) (k:=3) (by decide)).symm (List.Sublist.refl _) (List.Sublist.refl _) (Jcq (by rw [Jer (st:=st1) (k:=3) (by rw [hk];show AV.hs _ 0 D.length cap=AV.hs _ 0 R.length cap;rw [hp1.length_eq]),eo])) trivial ⟨AVle.refl _,AVle.refl _,AVle.refl _,AVle.refl _,Jk rfl,trivial⟩)
       ·rcases hk:st1 4 with ⟨R,_ | ⟨s,cap,tl⟩⟩
        ·have hR:R= []:=by have:=hS.2.1 4 (by decide);rw [hk] at this;exact this
         have hN0:(st1 4).1= []:=by rw [hk];exact hR
         have eo:Jo (Ju (Jc p).dflt) (Jc p).x32 st1= [u32 (Ju (Jc p).dflt:Nat),Jb (Jc p).x32,Ja 10 (st1 0),Ja 11 (st1 1),Ja 12 (st1 2),Ja 13 (st1 3), .os 0 0 (fun _=> .any) none,Ja 15 (st1 5),Ja 16 (st1 6)]:=by simp only [Jo,hk,Ja]
         refine AW.le (Jh (n:=131) (nn:=20) (pm:= []) (bx:= [((2,nx+1),Own.c JW),((1,nx4+1), .c [u32 (Ju (Jc p).dflt:Nat),Jb (Jc p).x32,Ja 10 (st1 0),Ja 11 (st1 1),Ja 12 (st1 2),Ja 13 (st1 3), .os 0 0 (fun _=> .any) none,Ja 15 (st1 5),Ja 16 (st1 6)]),((0,nx4), .c [int (Jc p).dflt.1,int (Jc p).dflt.2,Jb (Jc p).x32,Jj (Jc p).rules])]++Jy st1) (L:= [(4, .bp (2,nx+1) 0),(5,int 0),(6,int 0),(13, .bp (1,nx4+1) 0),(112,int (4:Nat))]) _ _ rfl rfl (List.Sublist.refl _) (List.Sublist.refl _) (Jcp eo) trivial ⟨AVle.refl _,AVle.refl _,AVle.refl _,AVle.refl _,AVle.refl _,trivial⟩) ?_
         refine stp ?_
         refine Jd rfl rfl (JdH 52) ⟨AVle.os_nil,AVle.refl _,trivial⟩ fun nx6=> ?_
         refine stp ?_
         exact back (5,st1,nx6) ⟨by dsimp only;omega,JdS (by decide) hS hN0⟩ (by dsimp only;omega) (Jh (bx:=LpB nx nx4 p st1) _ _ rfl rfl (List.Sublist.refl _) (List.Sublist.refl _) (Jcq eo.symm) trivial ⟨AVle.refl _,AVle.refl _,AVle.refl _,AVle.refl _,Jk rfl,trivial⟩)
        ·have eo:Jo (Ju (Jc p).dflt) (Jc p).x32 st1= [u32 (Ju (Jc p).dflt:Nat),Jb (Jc p).x32,Ja 10 (st1 0),Ja 11 (st1 1),Ja 12 (st1 2),Ja 13 (st1 3), .hs (14,s) 0 R.length cap,Ja 15 (st1 5),Ja 16 (st1 6)]:=by simp only [Jo,hk,Ja]
         refine AW.le (Jn (n:=131) (nn:=20) (pm:= []) (bx:=([((2,nx+1),Own.c JW),((1,nx4+1), .c [u32 (Ju (Jc p).dflt:Nat),Jb (Jc p).x32,Ja 10 (st1 0),Ja 11 (st1 1),Ja 12 (st1 2),Ja 13 (st1 3), .hs (14,s) 0 R.length cap,Ja 15 (st1 5),Ja 16 (st1 6)]),((0,nx4), .c [int (Jc p).dflt.1,int (Jc p).dflt.2,Jb (Jc p).x32,Jj (Jc p).rules])]++Jm 4 st1)++ [((14,s),Own.c (Jt R++tl))]) (L:= [(4, .bp (2,nx+1) 0),(5,int 0),(6,int 0),(13, .bp (1,nx4+1) 0),(112,int (4:Nat))]) _ _ [] rfl rfl (Jes (F:= [((2,nx+1),Own.c JW),((1,nx4+1), .c (Jo (Ju (Jc p).dflt) (Jc p).x32 st1)),((0,nx4), .c [int (Jc p).dflt.1,int (Jc p).dflt.2,Jb (Jc p).x32,Jj (Jc p).rules])]) (k:=4) (by decide) hk) (List.Sublist.refl _) (List.Sublist.refl _) (by rw [List.append_assoc,List.append_assoc];exact Jcp eo) trivial ⟨AVle.refl _,AVle.refl _,AVle.refl _,AVle.refl _,AVle.refl _,trivial⟩) ?_
         have hR:=hone 4 hS (R:=R) (by decide) (by rw [hk])
         refine stp ?_
         refine JS (xs:= [.hs (14,s) 0 R.length cap, .fn (.func 52) [] []]) ([((2,nx+1),Own.c JW),((1,nx4+1), .c [u32 (Ju (Jc p).dflt:Nat),Jb (Jc p).x32,Ja 10 (st1 0),Ja 11 (st1 1),Ja 12 (st1 2),Ja 13 (st1 3), .hs (14,s) 0 R.length cap,Ja 15 (st1 5),Ja 16 (st1 6)]),((0,nx4), .c [int (Jc p).dflt.1,int (Jc p).dflt.2,Jb (Jc p).x32,Jj (Jc p).rules])]++Jm 4 st1) [] 20 rfl rfl rfl rfl ⟨AVle.refl _,AVle.refl _,trivial⟩ (Jdi (D:=R) (tl:=tl) (nm:=14) (s:=s) (cap:=cap) (nx:=nx5) (nn:=20) hR.1 hR.2) (BxLe.refl _) trivial rfl fun r h' hq=> ?_
         obtain ⟨rfl,cs',⟨D,hp1,hp2,rfl⟩,rfl⟩:=hq
         refine stp ?_
         exact back (5,Jw st1 4 (D,some (s,cap,tl)),nx5) ⟨by dsimp only;omega,JdT (by decide) hS hk hp1 hp2⟩ (by dsimp only;omega) (Jn (pm:= []) (bx:=LpB nx nx4 p (Jw st1 4 (D,some (s,cap,tl)))) (L:= [(4, .bp (2,nx+1) 0),(5,int 0),(6,int 0),(13, .bp (1,nx4+1) 0),(112,int (5:Nat))]) _ _ [] rfl rfl (JdU (F:= [((2,nx+1),Own.c JW),((1,nx4+1), .c [u32 (Ju (Jc p).dflt:Nat),Jb (Jc p).x32,Ja 10 (st1 0),Ja 11 (st1 1),Ja 12 (st1 2),Ja 13 (st1 3), .hs (14,s) 0 R.length cap,Ja 15 (st1 5),Ja 16 (st1 6)]),((0,nx4), .c [int (Jc p).dflt.1,int (Jc p).dflt.2,Jb (Jc p).x32,Jj (Jc p).rules])]) (k:=4) (by decide)).symm (List.Sublist.refl _) (List.Sublist.refl _) (Jcq (by rw [Jer (st:=st1) (k:=4) (by rw [hk];show AV.hs _ 0 D.length cap=AV.hs _ 0 R.length cap;rw [hp1.length_eq]),eo])) trivial ⟨AVle.refl _,AVle.refl _,AVle.refl _,AVle.refl _,Jk rfl,trivial⟩)
       ·refine stp ?_
        exact ⟨(st1,nx5),hS,Jh _ _ rfl rfl (List.Sublist.refl _) (List.Sublist.refl _) (BxLe.refl _) trivial ⟨AVle.refl _,AVle.refl _,AVle.refl _,AVle.refl _,trivial⟩⟩
     rintro ⟨st0,nx5⟩ hS0
     dsimp only at hS0
     refine stp ?_
     refine JcS (fun y:(Nat→JR)×Nat=> mk 131 [(4, .bp (2,nx+1) 0),(5,int 0),(6,int 0),(13, .bp (1,nx4+1) 0)] ⟨LpB nx nx4 p y.1, [],y.2,20⟩) (fun y=> LpS 7 st y.1) ?_ ?_
     ·refine JN (fun y:Nat×(Nat→JR)×Nat=> mk 131 [(4, .bp (2,nx+1) 0),(5,int 0),(6,int 0),(13, .bp (1,nx4+1) 0),(121,int y.1)] ⟨LpB nx nx4 p y.2.1, [],y.2.2,20⟩) (fun y=> y.1≤2∧LpS (5+y.1) st y.2.1) (fun y=> 2 - y.1) ?_ ?_
      ·exact ⟨(0,st0,nx5),⟨Nat.zero_le _,hS0⟩,Jh _ _ rfl rfl (List.Sublist.refl _) (List.Sublist.refl _) (BxLe.refl _) trivial ⟨AVle.refl _,AVle.refl _,AVle.refl _,AVle.refl _,AVle.refl _,trivial⟩⟩
      ·rintro ⟨a,st1,nx5⟩ ⟨ha,hS⟩
       dsimp only at ha hS
       rcases (by omega:a=0∨a=1∨a=2) with rfl | rfl | rfl
       ·rcases hk:st1 5 with ⟨R,_ | ⟨s,cap,tl⟩⟩
        ·have hR:R= []:=by have:=hS.2.1 5 (by decide);rw [hk] at this;exact this
         have hN0:(st1 5).1= []:=by rw [hk];exact hR
         have eo:Jo (Ju (Jc p).dflt) (Jc p).x32 st1= [u32 (Ju (Jc p).dflt:Nat),Jb (Jc p).x32,Ja 10 (st1 0),Ja 11 (st1 1),Ja 12 (st1 2),Ja 13 (st1 3),Ja 14 (st1 4), .os 0 0 (fun _=> .any) none,Ja 16 (st1 6)]:=by simp only [Jo,hk,Ja]
         refine AW.le (Jh (n:=131) (nn:=20) (pm:= []) (bx:= [((2,nx+1),Own.c JW),((1,nx4+1), .c [u32 (Ju (Jc p).dflt:Nat),Jb (Jc p).x32,Ja 10 (st1 0),Ja 11 (st1 1),Ja 12 (st1 2),Ja 13 (st1 3),Ja 14 (st1 4), .os 0 0 (fun _=> .any) none,Ja 16 (st1 6)]),((0,nx4), .c [int (Jc p).dflt.1,int (Jc p).dflt.2,Jb (Jc p).x32,Jj (Jc p).rules])]++Jy st1) (L:= [(4, .bp (2,nx+1) 0),(5,int 0),(6,int 0),(13, .bp (1,nx4+1) 0),(121,int (0:Nat))]) _ _ rfl rfl (List.Sublist.refl _) (List.Sublist.refl _) (Jcp eo) trivial ⟨AVle.refl _,AVle.refl _,AVle.refl _,AVle.refl _,AVle.refl _,trivial⟩) ?_
         refine stp ?_
         refine Jd rfl rfl (Jit 55) ⟨AVle.os_nil,AVle.refl _,trivial⟩ fun nx6=> ?_
         refine stp ?_
         exact back (1,st1,nx6) ⟨by dsimp only;omega,JdS (by decide) hS hN0⟩ (by dsimp only;omega) (Jh (bx:=LpB nx nx4 p st1) _ _ rfl rfl (List.Sublist.refl _) (List.Sublist.refl _) (Jcq eo.symm) trivial ⟨AVle.refl _,AVle.refl _,AVle.refl _,AVle.refl _,Jk rfl,trivial⟩)
        ·have eo:Jo (Ju (Jc p).dflt) (Jc p).x32 st1= [u32 (Ju (Jc p).dflt:Nat),Jb (Jc p).x32,Ja 10 (st1 0),Ja 11 (st1 1),Ja 12 (st1 2),Ja 13 (st1 3),Ja 14 (st1 4), .hs (15,s) 0 R.length cap,Ja 16 (st1 6)]:=by simp only [Jo,hk,Ja]
         refine AW.le (Jn (n:=131) (nn:=20) (pm:= []) (bx:=([((2,nx+1),Own.c JW),((1,nx4+1), .c [u32 (Ju (Jc p).dflt:Nat),Jb (Jc p).x32,Ja 10 (st1 0),Ja 11 (st1 1),Ja 12 (st1 2),Ja 13 (st1 3),Ja 14 (st1 4), .hs (15,s) 0 R.length cap,Ja 16 (st1 6)]),((0,nx4), .c [int (Jc p).dflt.1,int (Jc p).dflt.2,Jb (Jc p).x32,Jj (Jc p).rules])]++Jm 5 st1)++ [((15,s),Own.c (Jt R++tl))]) (L:= [(4, .bp (2,nx+1) 0),(5,int 0),(6,int 0),(13, .bp (1,nx4+1) 0),(121,int (0:Nat))]) _ _ [] rfl rfl (Jes (F:= [((2,nx+1),Own.c JW),((1,nx4+1), .c (Jo (Ju (Jc p).dflt) (Jc p).x32 st1)),((0,nx4), .c [int (Jc p).dflt.1,int (Jc p).dflt.2,Jb (Jc p).x32,Jj (Jc p).rules])]) (k:=5) (by decide) hk) (List.Sublist.refl _) (List.Sublist.refl _) (by rw [List.append_assoc,List.append_assoc];exact Jcp eo) trivial ⟨AVle.refl _,AVle.refl _,AVle.refl _,AVle.refl _,AVle.refl _,trivial⟩) ?_
         have hR:=hone 5 hS (R:=R) (by decide) (by rw [hk])
         refine stp ?_
         refine JS (xs:= [.hs (15,s) 0 R.length cap, .fn (.func 55) [] []]) ([((2,nx+1),Own.c JW),((1,nx4+1), .c [u32 (Ju (Jc p).dflt:Nat),Jb (Jc p).x32,Ja 10 (st1 0),Ja 11 (st1 1),Ja 12 (st1 2),Ja 13 (st1 3),Ja 14 (st1 4), .hs (15,s) 0 R.length cap,Ja 16 (st1 6)]),((0,nx4), .c [int (Jc p).dflt.1,int (Jc p).dflt.2,Jb (Jc p).x32,Jj (Jc p).rules])]++Jm 5 st1) [] 20 rfl rfl rfl rfl ⟨AVle.refl _,AVle.refl _,trivial⟩ (Jhp (D:=R) (tl:=tl) (nm:=15) (s:=s) (cap:=cap) (nx:=nx5) (nn:=20) hR.1 hR.2) (BxLe.refl _) trivial rfl fun r h' hq=> ?_
         obtain ⟨rfl,cs',⟨D,hp1,hp2,rfl⟩,rfl⟩:=hq
         refine stp ?_
         exact back (1,Jw st1 5 (D,some (s,cap,tl)),nx5) ⟨by dsimp only;omega,JdT (by decide) hS hk hp1 hp2⟩ (by dsimp only;omega) (Jn (pm:= []) (bx:=LpB nx nx4 p (Jw st1 5 (D,some (s,cap,tl)))) (L:= [(4, .bp (2,nx+1) 0),(5,int 0),(6,int 0),(13, .bp (1,nx4+1) 0),(121,int (1:Nat))]) _ _ [] rfl rfl (JdU (F:= [((2,nx+1),Own.c JW),((1,nx4+1), .c [u32 (Ju (Jc p).dflt:Nat),Jb (Jc p).x32,Ja 10 (st1 0),Ja 11 (st1 1),Ja 12 (st1 2),Ja 13 (st1 3),Ja 14 (st1 4), .hs (15,s) 0 R.length cap,Ja 16 (st1 6)]),((0,nx4), .c [int (Jc p).dflt.1,int (Jc p).dflt.2,Jb (Jc p).x32,Jj (Jc p).rules])]) (k:=5) (by decide)).symm (List.Sublist.refl _) (List.Sublist.refl _) (Jcq (by rw [Jer (st:=st1) (k:=5) (by rw [hk];show AV.hs _ 0 D.length cap=AV.hs _ 0 R.length cap;rw [hp1.length_eq]),eo])) trivial ⟨AVle.refl _,AVle.refl _,AVle.refl _,AVle.refl _,Jk rfl,trivial⟩)
       ·rcases hk:st1 6 with ⟨R,_ | ⟨s,cap,tl⟩⟩
        ·have hR:R= []:=by have:=hS.2.1 6 (by decide);rw [hk] at this;exact this
         have hN0:(st1 6).1= []:=by rw [hk];exact hR
         have eo:Jo (Ju (Jc p).dflt) (Jc p).x32 st1= [u32 (Ju (Jc p).dflt:Nat),Jb (Jc p).x32,Ja 10 (st1 0),Ja 11 (st1 1),Ja 12 (st1 2),Ja 13 (st1 3),Ja 14 (st1 4),Ja 15 (st1 5), .os 0 0 (fun _=> .any) none]:=by simp only [Jo,hk,Ja]
         refine AW.le (Jh (n:=131) (nn:=20) (pm:= []) (bx:= [((2,nx+1),Own.c JW),((1,nx4+1), .c [u32 (Ju (Jc p).dflt:Nat),Jb (Jc p).x32,Ja 10 (st1 0),Ja 11 (st1 1),Ja 12 (st1 2),Ja 13 (st1 3),Ja 14 (st1 4),Ja 15 (st1 5), .os 0 0 (fun _=> .any) none]),((0,nx4), .c [int (Jc p).dflt.1,int (Jc p).dflt.2,Jb (Jc p).x32,Jj (Jc p).rules])]++Jy st1) (L:= [(4, .bp (2,nx+1) 0),(5,int 0),(6,int 0),(13, .bp (1,nx4+1) 0),(121,int (1:Nat))]) _ _ rfl rfl (List.Sublist.refl _) (List.Sublist.refl _) (Jcp eo) trivial ⟨AVle.refl _,AVle.refl _,AVle.refl _,AVle.refl _,AVle.refl _,trivial⟩) ?_
         refine stp ?_
         refine Jd rfl rfl (Jit 55) ⟨AVle.os_nil,AVle.refl _,trivial⟩ fun nx6=> ?_
         refine stp ?_
         exact back (2,st1,nx6) ⟨by dsimp only;omega,JdS (by decide) hS hN0⟩ (by dsimp only;omega) (Jh (bx:=LpB nx nx4 p st1) _ _ rfl rfl (List.Sublist.refl _) (List.Sublist.refl _) (Jcq eo.symm) trivial ⟨AVle.refl _,AVle.refl _,AVle.refl _,AVle.refl _,Jk rfl,trivial⟩)
        ·have eo:Jo (Ju (Jc p).dflt) (Jc p).x32 st1= [u32 (Ju (Jc p).dflt:Nat),Jb (Jc p).x32,Ja 10 (st1 0),Ja 11 (st1 1),Ja 12 (st1 2),Ja 13 (st1 3),Ja 14 (st1 4),Ja 15 (st1 5), .hs (16,s) 0 R.length cap]:=by simp only [Jo,hk,Ja]
         refine AW.le (Jn (n:=131) (nn:=20) (pm:= []) (bx:=([((2,nx+1),Own.c JW),((1,nx4+1), .c [u32 (Ju (Jc p).dflt:Nat),Jb (Jc p).x32,Ja 10 (st1 0),Ja 11 (st1 1),Ja 12 (st1 2),Ja 13 (st1 3),Ja 14 (st1 4),Ja 15 (st1 5), .hs (16,s) 0 R.length cap]),((0,nx4), .c [int (Jc p).dflt.1,int (Jc p).dflt.2,Jb (Jc p).x32,Jj (Jc p).rules])]++Jm 6 st1)++ [((16,s),Own.c (Jt R++tl))]) (L:= [(4, .bp (2,nx+1) 0),(5,int 0),(6,int 0),(13, .bp (1,nx4+1) 0),(121,int (1:Nat))]) _ _ [] rfl rfl (Jes (F:= [((2,nx+1),Own.c JW),((1,nx4+1), .c (Jo (Ju (Jc p).dflt) (Jc p).x32 st1)),((0,nx4), .c [int (Jc p).dflt.1,int (Jc p).dflt.2,Jb (Jc p).x32,Jj (Jc p).rules])]) (k:=6) (by decide) hk) (List.Sublist.refl _) (List.Sublist.refl _) (by rw [List.append_assoc,List.append_assoc];exact Jcp eo) trivial ⟨AVle.refl _,AVle.refl _,AVle.refl _,AVle.refl _,AVle.refl _,trivial⟩) ?_
         have hR:=hone 6 hS (R:=R) (by decide) (by rw [hk])
         refine stp ?_
         refine JS (xs:= [.hs (16,s) 0 R.length cap, .fn (.func 55) [] []]) ([((2,nx+1),Own.c JW),((1,nx4+1), .c [u32 (Ju (Jc p).dflt:Nat),Jb (Jc p).x32,Ja 10 (st1 0),Ja 11 (st1 1),Ja 12 (st1 2),Ja 13 (st1 3),Ja 14 (st1 4),Ja 15 (st1 5), .hs (16,s) 0 R.length cap]),((0,nx4), .c [int (Jc p).dflt.1,int (Jc p).dflt.2,Jb (Jc p).x32,Jj (Jc p).rules])]++Jm 6 st1) [] 20 rfl rfl rfl rfl ⟨AVle.refl _,AVle.refl _,trivial⟩ (Jhp (D:=R) (tl:=tl) (nm:=16) (s:=s) (cap:=cap) (nx:=nx5) (nn:=20) hR.1 hR.2) (BxLe.refl _) trivial rfl fun r h' hq=> ?_
         obtain ⟨rfl,cs',⟨D,hp1,hp2,rfl⟩,rfl⟩:=hq
         refine stp ?_
         exact back (2,Jw st1 6 (D,some (s,cap,tl)),nx5) ⟨by dsimp only;omega,JdT (by decide) hS hk hp1 hp2⟩ (by dsimp only;omega) (Jn (pm:= []) (bx:=LpB nx nx4 p (Jw st1 6 (D,some (s,cap,tl)))) (L:= [(4, .bp (2,nx+1) 0),(5,int 0),(6,int 0),(13, .bp (1,nx4+1) 0),(121,int (2:Nat))]) _ _ [] rfl rfl (JdU (F:= [((2,nx+1),Own.c JW),((1,nx4+1), .c [u32 (Ju (Jc p).dflt:Nat),Jb (Jc p).x32,Ja 10 (st1 0),Ja 11 (st1 1),Ja 12 (st1 2),Ja 13 (st1 3),Ja 14 (st1 4),Ja 15 (st1 5), .hs (16,s) 0 R.length cap]),((0,nx4), .c [int (Jc p).dflt.1,int (Jc p).dflt.2,Jb (Jc p).x32,Jj (Jc p).rules])]) (k:=6) (by decide)).symm (List.Sublist.refl _) (List.Sublist.refl _) (Jcq (by rw [Jer (st:=st1) (k:=6) (by rw [hk];show AV.hs _ 0 D.length cap=AV.hs _ 0 R.length cap;rw [hp1.length_eq]),eo])) trivial ⟨AVle.refl _,AVle.refl _,AVle.refl _,AVle.refl _,Jk rfl,trivial⟩)
       ·refine stp ?_
        exact ⟨(st1,nx5),hS,Jh _ _ rfl rfl (List.Sublist.refl _) (List.Sublist.refl _) (BxLe.refl _) trivial ⟨AVle.refl _,AVle.refl _,AVle.refl _,AVle.refl _,trivial⟩⟩
     rintro ⟨st2,nx5⟩ hS
     dsimp only at hS
     have hr:∀k,k < 5→(st2 k).1=((JbO p l).ents k).map Jdj:=fun k hk=> Jr7 hv hk Jdj (fun _=> rfl) (by rw [← hE.2.1 k hk];exact hS.2.2.1 k (by omega)) (hS.2.2.2 k (by omega))
     have hr2:∀m,m < 2→(st2 (5+m)).1=((JbO p l).subs m).map J4:=fun m hm=> Jr8 hv J4 (fun _=> rfl) (by rw [← hE.2.2 m hm];exact hS.2.2.1 (5+m) (by omega)) (hS.2.2.2 (5+m) (by omega))
     have ho:=hS.2.1
     refine JbJ (n:=131) (nx:=nx5) (nn:=20) (pm:= []) (bx:= [((2,nx+1), .c JW)]) (df:=some []) (L:= [(4, .bp (2,nx+1) 0),(5,int 0),(6,int 0),(13, .rp [u32 (Ju (Jc p).dflt:Nat),Jb (Jc p).x32,JJ 2 Jap ent0 ((JbO p l).ents 0),JJ 2 Jap ent0 ((JbO p l).ents 1),JJ 2 Jap ent0 ((JbO p l).ents 2),JJ 2 Jap ent0 ((JbO p l).ents 3),JJ 2 Jap ent0 ((JbO p l).ents 4),JJ 2 JfY sub0 ((JbO p l).subs 0),JJ 2 JfY sub0 ((JbO p l).subs 1)])]) ([((1,nx4+1),Own.c (Jo (Ju (Jc p).dflt) (Jc p).x32 st2)),((0,nx4),Own.c [int (Jc p).dflt.1,int (Jc p).dflt.2,Jb (Jc p).x32,Jj (Jc p).rules])]++Jy st2) rfl rfl rfl JtJ (List.Sublist.refl _) ⟨Frz.refl _,Frz.refl _,Frz.refl _,Frz.bpL (cs:=Jo (Ju (Jc p).dflt) (Jc p).x32 st2) (.head _) ⟨Frz.refl _,Frz.refl _,Jgd (ho 0 (by decide)) (hr 0 (by decide)) (Jfz (j:=0) (by decide)),Jgd (ho 1 (by decide)) (hr 1 (by decide)) (Jfz (j:=1) (by decide)),Jgd (ho 2 (by decide)) (hr 2 (by decide)) (Jfz (j:=2) (by decide)),Jgd (ho 3 (by decide)) (hr 3 (by decide)) (Jfz (j:=3) (by decide)),Jgd (ho 4 (by decide)) (hr 4 (by decide)) (Jfz (j:=4) (by decide)),Jpe (ho 5 (by decide)) (hr2 0 (by decide)) (Jfz (j:=5) (by decide)),Jpe (ho 6 (by decide)) (hr2 1 (by decide)) (Jfz (j:=6) (by decide)),trivial⟩,trivial⟩ ?_
     refine stp ?_
     exact Jl rfl ⟨rfl,trivial⟩ (AVle.refl _)
 ·rw [if_pos hv]
  generalize (JaF p l).1=v1 at hV⊢
  generalize (JaF p l).2=v2 at hV hv⊢
  refine Jg Tryz.func12 rfl rfl fun nx=> ?_
  refine stp ?_
  refine Jd rfl rfl hV ⟨AVle.refl _,AVle.refl _,trivial⟩ fun nx2=> ?_
  refine stp ?_
  intro c hc
  obtain rfl:c=true:=by rw [hc];simpa using hv
  refine stp ?_
  exact Jl rfl ⟨rfl,trivial⟩ (AVle.tups (cs:= [_,_,_]) ⟨JnO,AVle.refl _,AVle.refl _,trivial⟩)
end Go.Proofs.W

namespace Go.Proofs.W
open Go.Vl
set_option maxRecDepth 100000
end Go.Proofs.W

namespace Go.Proofs.W
open Go.Vl
set_option maxRecDepth 100000
end Go.Proofs.W

namespace Go.Proofs.W
open Go.Vl
set_option maxRecDepth 100000
theorem JqI {a b:Own} (h:a=b):OwnLe a b:=h ▸ OwnLe.refl a
theorem Jpf:Ja4 Tryz.prog 113=true:=by kernel_rfl
theorem gc_trow:Tryz.prog.cellsOf 113=8:=by kernel_rfl
theorem Jpg:Tryz.prog.bytesOf 113=72:=by kernel_rfl
theorem JhX (x:TRow):(Jp x).cells.length=8:=rfl
theorem JuO (x:TRow):(Jp x).cells.all Ja2=true:=rfl
theorem Jsq (n:Nat) (h0:0 < n) (hn:n≤100000) (nx:Nat):
 ECall Tryz.prog 238 [.os 0 0 (fun _=> .any) none,int n] ⟨[], [],nx,0⟩ (fun r h'=> ∃s cap nx' nn',n≤cap∧r= .hs (0,s) 0 0 cap∧h'=⟨[((0,s), .c (List.replicate (cap * 8) .any))], [],nx',nn'⟩):=by
 refine ECall.wk (JU Tryz.func238 rfl rfl ?_)
 refine stp ?_
 refine JiE rfl rfl Tryz.underlying49 ?_
 refine stp ?_
 intro c hc
 replace hc:c=decide (IntKind.i64.wrap ((n:Int) - 0) > 0):=hc
 rw [JaX (by omega) (by omega),decide_eq_true (by omega)] at hc
 subst hc
 refine JV ?_
 refine JQ (fun i=> match i with | 7=> true | 6=> true | 4=> true | 1=> true | _=> false) 10 ?_
 refine stp ?_
 refine JiE rfl rfl Tryz.underlying49 ?_
 refine stp ?_
 refine JsY rfl rfl rfl Tryz.underlying49 Tryz.underlying113 ?_
 refine stp ?_
 have hw:IntKind.i64.wrap ((n:Int) - 0)=n:=by rw [JaX (by omega) (by omega)];omega
 refine JlU (m:=n) (kq:= .i64) (kn:= .i64) (e:=113) rfl rfl (congrArg (fun z=> AV.v (.int .i64 z)) hw) (by omega) Tryz.underlying3 Tryz.underlying49 Jpf (by rw [Jpg];omega) (by omega) fun cap hcap=> ?_
 refine stp ?_
 refine JmO (l:=0) (k':= .i64) rfl rfl rfl Tryz.underlying49 Tryz.underlying113 (Nat.zero_le _) (by omega) ?_
 refine stp ?_
 exact J7 rfl ⟨_,_,AVle.refl _,HLe.refl _,nx,cap,_,_,hcap,rfl,by rw [gc_trow];rfl⟩
theorem JqJ:Tells Tryz.prog 238 [.os 0 0 (fun _=> .any) none,int (0:Nat)] (.os 0 0 (fun _=> .any) none):=by
 refine Jg Tryz.func238 rfl rfl fun nx=> ?_
 refine stp ?_
 refine JiE rfl rfl Tryz.underlying49 ?_
 refine stp ?_
 exact Je rfl (AVle.refl _)
def Jdw (L:List (List TRow)) (oi:Option Vl.Id):AV:= .os 1 L.length (fun k=> JJ 8 Jp Ji (L.getD k [])) oi
theorem JlJ (l:List TRow):JK l.length (fun k=> Jp (l.getD k Ji))=l.flatMap fun x=> (Jp x).cells:=by
 have key:∀m,m≤l.length→JK m (fun k=> Jp (l.getD k Ji))=(l.take m).flatMap fun x=> (Jp x).cells:=by
  intro m
  induction m with
  | zero=> intro _;rfl
  | succ m ih=>
    intro hm
    have hm':m < l.length:=by omega
    have e:JK (m+1) (fun k=> Jp (l.getD k Ji))=JK m (fun k=> Jp (l.getD k Ji))++(Jp (l.getD m Ji)).cells:=by unfold JK;rw [List.range_succ,List.flatMap_append];simp
    rw [e,ih (by omega),List.take_add_one,List.flatMap_append]
    simp [List.getD,hm']
 rw [key _ (Nat.le_refl _),List.take_of_length_le (Nat.le_refl _)]
theorem Jhs (l:List TRow):(l.flatMap fun x=> (Jp x).cells).length=l.length * 8:=by
 induction l with
 | nil=> rfl
 | cons x l ih=> rw [List.flatMap_cons,List.length_append,ih,JhX,List.length_cons];omega
theorem Jsr (l:List TRow) (k j:Nat) (hk:k < l.length) (hj:j < 8):(l.flatMap fun x=> (Jp x).cells)[k * 8+j]? =(Jp (l.getD k Ji)).cells[j]? :=by
 rw [← JlJ]
 exact (Jda (sz:=8) (fun i hi=> JhX _)).2 k j hk hj
set_option maxHeartbeats 1000000 in
theorem Jox (L:List (List TRow)) (hL:L.length≤1000) (hn:L.flatten.length≤100000) (oi:Option Vl.Id):Tells Tryz.prog 146 [Jdw L none] (JJ 8 Jp Ji L.flatten):=by
 have hpre:∀i,i < L.length→(L.take (i+1)).flatten.length=(L.take i).flatten.length+(L.getD i []).length:=fun i hi=> by
  rw [Jb1 [] hi,List.flatten_append,List.length_append];simp
 have hle:∀i,(L.take i).flatten.length≤L.flatten.length:=fun i=> by
  conv=> rhs;rw [← List.take_append_drop i L,List.flatten_append,List.length_append]
  omega
 refine Jg Tryz.func146 rfl rfl fun nx=> ?_
 refine stp ?_
 refine JcS (fun y:Nat=> mk 36 [(0,Jdw L none),(3,int (L.flatten.length:Nat))] ⟨[], [],y,0⟩) (fun _=> True) ?_ ?_
 ·refine JN (fun y:Nat×Nat=> mk 36 [(0,Jdw L none),(3,int ((L.take y.1).flatten.length:Nat)),(9,Jdw L none),(10,int L.length),(11,int y.1)] ⟨[], [],y.2,0⟩) (fun y=> y.1≤L.length) (fun y=> L.length - y.1) ?_ ?_
  ·exact ⟨(0,nx),Nat.zero_le _,Jeg rfl rfl (List.Sublist.refl _) (List.Sublist.refl _) ⟨AVle.refl _,AVle.refl _,AVle.refl _,AVle.refl _,AVle.refl _,trivial⟩⟩
  ·rintro ⟨i,nx1⟩ h1
   dsimp only at h1
   refine stp ?_
   intro c g;cases c
   ·have g:=JC g
    try dsimp only at g
    obtain rfl:i=L.length:=by omega
    refine stp ?_
    refine ⟨nx1,trivial,Jeg rfl rfl (List.Sublist.refl _) (List.Sublist.refl _) ⟨AVle.refl _, ?_,trivial⟩⟩
    exact AVle.of_eq (congrArg (fun z:List (List TRow)=> int (z.flatten.length:Nat)) List.take_length)
   ·have g:=JD g
    try dsimp only at g
    have hi:i < L.length:=by omega
    have e1:=hpre i hi
    have e2:=hle (i+1)
    refine stp ?_
    refine ⟨⟨by first | omega | (dsimp only;omega),by first | omega | (dsimp only;omega)⟩, ?_⟩
    have hw:IntKind.i64.wrap ((((L.take i).flatten.length:Nat):Int)+((L.getD i []).length:Int))=(((L.take (i+1)).flatten.length:Nat):Int):=by rw [JaX (by omega) (by omega)];omega
    refine stp ?_
    intro c hc
    replace hc:c=decide (IntKind.i64.wrap ((((L.take i).flatten.length:Nat):Int)+((L.getD i []).length:Int)) < 0):=hc
    rw [hw,decide_eq_false (by omega)] at hc
    subst hc
    refine stp ?_
    exact back (i+1,nx1) hi (by dsimp only;omega) (Jeg rfl rfl (List.Sublist.refl _) (List.Sublist.refl _) ⟨AVle.refl _,Jk hw,AVle.refl _,AVle.refl _,Jk (Js (by first | omega | (dsimp only;omega))),trivial⟩)
 ·intro nx1 _
  rcases Nat.eq_zero_or_pos L.flatten.length with h0 | h0
  ·have hemp:∀i,i < L.length→(L.getD i []).length=0:=fun i hi=> by
    have:=hpre i hi;have:=hle (i+1);omega
   have hnil:L.flatten= []:=List.eq_nil_of_length_eq_zero h0
   rw [hnil]
   refine stp ?_
   refine Jd rfl rfl JqJ ⟨AVle.refl _,AVle.refl _,trivial⟩ fun nx2=> ?_
   refine stp ?_
   refine JN (fun y:Nat×Nat=> mk 36 [(6, .os 0 0 (fun _=> .any) none),(25,Jdw L none),(26,int L.length),(27,int y.1)] ⟨[], [],y.2,0⟩) (fun y=> y.1≤L.length) (fun y=> L.length - y.1) ?_ ?_
   ·exact ⟨(0,nx2),Nat.zero_le _,Jeg rfl rfl (List.Sublist.refl _) (List.Sublist.refl _) ⟨AVle.refl _,AVle.refl _,AVle.refl _,AVle.refl _,trivial⟩⟩
   ·rintro ⟨i,nx3⟩ h1
    dsimp only at h1
    refine stp ?_
    intro c g;cases c
    ·refine stp ?_
     exact Je rfl AVle.os_sl0
    ·have g:=JD g
     try dsimp only at g
     have hi:i < L.length:=by omega
     have e1:=hemp i hi
     have e2:L.getD i []= []:=List.eq_nil_of_length_eq_zero e1
     refine stp ?_
     refine ⟨⟨by first | omega | (dsimp only;omega),by first | omega | (dsimp only;omega)⟩, ?_⟩
     refine stp ?_
     refine Ji2 (fun _=> ?_) (fun h=> absurd e1 h)
     refine stp ?_
     exact back (i+1,nx3) hi (by dsimp only;omega) (Jeg rfl rfl (List.Sublist.refl _) (List.Sublist.refl _) ⟨AVle.refl _,AVle.refl _,AVle.refl _,Jk (Js (by first | omega | (dsimp only;omega))),trivial⟩)
  ·refine stp ?_
   refine JS (xs:= [.os 0 0 (fun _=> .any) none,int (L.flatten.length:Nat)]) [] [] 1 rfl rfl rfl rfl ⟨AVle.refl _,AVle.refl _,trivial⟩ (Jsq L.flatten.length h0 hn nx1) (BxLe.refl _) (PmEq.refl _) rfl fun r h' hq=> ?_
   obtain ⟨s,cap,nx2,nn2,hcap,rfl,rfl⟩:=hq
   refine stp ?_
   refine JN (fun y:Nat×List AV×Nat=> mk 36 [(6, .hs (0,s) 0 ((L.take y.1).flatten.length) cap),(25,Jdw L none),(26,int L.length),(27,int y.1)] ⟨[((0,s), .c y.2.1)], [],y.2.2,1⟩) (fun y=> y.1≤L.length∧y.2.1.length=cap * 8∧y.2.1.take ((L.take y.1).flatten.length * 8)=(L.take y.1).flatten.flatMap fun x=> (Jp x).cells) (fun y=> L.length - y.1) ?_ ?_
   ·exact ⟨(0,List.replicate (cap * 8) .any,nx2),⟨Nat.zero_le _,by simp,by simp⟩,Jh _ _ rfl rfl (List.Sublist.refl _) .slnil (BxLe.refl _) trivial ⟨AVle.refl _,AVle.refl _,AVle.refl _,AVle.refl _,trivial⟩⟩
   ·rintro ⟨i,cs,nx3⟩ ⟨h1,h2,h3⟩
    dsimp only at h1 h2 h3
    refine stp ?_
    intro c g;cases c
    ·have g:=JC g
     try dsimp only at g
     obtain rfl:i=L.length:=by omega
     rw [List.take_length] at h3
     have hcl:L.flatten.length * 8≤cap * 8:=Nat.mul_le_mul_right _ hcap
     refine JV ?_
     refine AW.le (Jcl (L:= [(6,JJ 8 Jp Ji L.flatten)]) (bx:= []) (pm:= []) (nn:=1) [((0,s), .c cs)] rfl rfl (List.Sublist.refl _) .slnil ⟨?_,trivial⟩) ?_
     ·refine (Frz.of_le (AVle.of_eq (b:= .hs (0,s) 0 L.flatten.length cap) ?_)).trans (Frz.hs (cs:=cs) (.head _) hcap (.inr (by omega)) (fun k hk=> JhX _) (fun k hk j c hj=> ?_) (by omega))
      ·show AV.hs (0,s) 0 ((L.take L.length).flatten.length) cap=_
       rw [List.take_length]
      ·have hjl:j < 8:=by have:=(List.getElem?_eq_some_iff.1 hj).1;rw [JhX] at this;exact this
       refine ⟨c, ?_,AVle.refl _⟩
       have hkk:k * 8+j < L.flatten.length * 8:=by
        have:(k+1) * 8≤L.flatten.length * 8:=Nat.mul_le_mul_right _ hk
        omega
       have h4:=Jsr L.flatten k j hk hjl
       rw [← h3,List.getElem?_take,if_pos hkk,hj] at h4
       rw [Nat.zero_add];exact h4
     ·refine stp ?_
      exact Je rfl (AVle.refl _)
    ·have g:=JD g
     try dsimp only at g
     have hi:i < L.length:=by omega
     have e1:=hpre i hi
     have e2:=hle (i+1)
     have hfl:(L.take (i+1)).flatten=(L.take i).flatten++L.getD i []:=by rw [Jb1 [] hi,List.flatten_append];simp
     have hcl:((L.take i).flatten.length+(L.getD i []).length) * 8≤cap * 8:=Nat.mul_le_mul_right _ (by omega)
     refine stp ?_
     refine ⟨⟨by first | omega | (dsimp only;omega),by first | omega | (dsimp only;omega)⟩, ?_⟩
     refine JV ?_
     refine JQ (fun i=> match i with | 1=> true | _=> false) 4 ?_
     refine stp ?_
     refine Jey (m:=(L.getD i []).length) (f':=fun k=> Jp ((L.getD i []).getD k Ji)) (szx:=8) (n:=(L.take i).flatten.length) (cap:=cap) (cs:=cs) (i:=(0,s)) rfl rfl (.inl rfl) Tryz.underlying49 Jpf (.inr gc_trow.symm) (by rfl) (by omega) (by rw [gc_trow];omega) (fun k hk=> JuO _) (fun _=> by rw [Jpg];omega) (fun _=> by omega) (fun hm=> ?_) (fun hm hfit=> ?_) (fun hm hnf=> absurd (by omega) hnf)
     ·have e3:L.getD i []= []:=List.eq_nil_of_length_eq_zero hm
      rw [e3,List.append_nil] at hfl
      refine stp ?_
      exact back (i+1,cs,nx3) ⟨hi,h2,by dsimp only;rw [hfl];exact h3⟩ (by dsimp only;omega) (Jh _ _ rfl rfl (List.Sublist.refl _) .slnil (BxLe.refl _) trivial ⟨AVle.of_eq (congrArg (fun z=> AV.hs (0,s) 0 z cap) (by rw [hfl]:(L.take i).flatten.length=(L.take (i+1)).flatten.length)),AVle.refl _,AVle.refl _,Jk (Js (by first | omega | (dsimp only;omega))),trivial⟩)
     ·refine stp ?_
      refine back (i+1,JX cs ((L.take i).flatten.length * 8) ((L.getD i []).flatMap fun x=> (Jp x).cells),nx3) ⟨hi, ?_, ?_⟩ (by dsimp only;omega) (Jh _ _ rfl rfl (List.Sublist.refl _) .slnil ⟨rfl,JqI (congrArg Own.c ?_),trivial⟩ trivial ⟨AVle.of_eq (congrArg (fun z=> AV.hs (0,s) 0 z cap) e1.symm),AVle.refl _,AVle.refl _,Jk (Js (by first | omega | (dsimp only;omega))),trivial⟩)
      ·have hf:=Jhs (L.getD i [])
       simp only [Jam,List.length_append,List.length_take,List.length_drop,hf]
       omega
      ·have hf:=Jhs (L.getD i [])
       dsimp only
       rw [hfl,List.flatMap_append,Jam,List.length_append,← List.append_assoc,h3]
       have hpl:(List.flatMap (fun x=> (Jp x).cells) (L.take i).flatten++List.flatMap (fun x=> (Jp x).cells) (L.getD i [])).length=((L.take i).flatten.length+(L.getD i []).length) * 8:=by
        rw [List.length_append,hf,Jhs];omega
       rw [← hpl,List.take_left]
      ·rw [gc_trow,JlJ]
end Go.Proofs.W

namespace Go.Proofs.W
open Go.Vl
set_option maxRecDepth 100000
def Jht:List TRow:= [
 ⟨⟨#[97,99,99,101,112,116]⟩,43,43,-1,202,202,1,5⟩,
 ⟨⟨#[97,99,99,101,112,116,52]⟩,288,288,364,242,242,1,18⟩,
 ⟨⟨#[98,105,110,100]⟩,49,49,361,200,200,1,2⟩,
 ⟨⟨#[98,114,107]⟩,12,12,45,214,214,0,0⟩,
 ⟨⟨#[99,108,111,110,101]⟩,56,56,120,220,220,0,0⟩,
 ⟨⟨#[99,108,111,115,101]⟩,3,3,6,57,57,0,0⟩,
 ⟨⟨#[99,111,110,110,101,99,116]⟩,42,42,362,203,203,1,3⟩,
 ⟨⟨#[100,117,112]⟩,32,32,41,23,23,0,0⟩,
 ⟨⟨#[100,117,112,50]⟩,33,33,63,-1,-1,0,0⟩,
 ⟨⟨#[101,112,111,108,108,95,99,114,101,97,116,101,49]⟩,291,291,329,20,20,0,0⟩,
 ⟨⟨#[101,112,111,108,108,95,99,116,108]⟩,233,233,255,21,21,0,0⟩,
 ⟨⟨#[101,112,111,108,108,95,119,97,105,116]⟩,232,232,256,-1,-1,0,0⟩,
 ⟨⟨#[101,120,101,99,118,101]⟩,59,520,11,221,221,0,0⟩,
 ⟨⟨#[101,120,105,116]⟩,60,60,1,93,93,0,0⟩,
 ⟨⟨#[101,120,105,116,95,103,114,111,117,112]⟩,231,231,252,94,94,0,0⟩,
 ⟨⟨#[102,99,104,100,105,114]⟩,81,81,133,50,50,0,0⟩,
 ⟨⟨#[102,99,110,116,108]⟩,72,72,55,25,25,0,0⟩,
 ⟨⟨#[102,111,114,107]⟩,57,57,2,-1,-1,0,0⟩,
 ⟨⟨#[102,115,116,97,116]⟩,5,5,108,80,80,0,0⟩,
 ⟨⟨#[102,117,116,101,120]⟩,202,202,240,98,98,0,0⟩,
 ⟨⟨#[103,101,116,99,119,100]⟩,79,79,183,17,17,0,0⟩,
 ⟨⟨#[103,101,116,112,101,101,114,110,97,109,101]⟩,52,52,368,205,205,1,7⟩,
 ⟨⟨#[103,101,116,112,105,100]⟩,39,39,20,172,172,0,0⟩,
 ⟨⟨#[103,101,116,114,97,110,100,111,109]⟩,318,318,355,278,278,0,0⟩,
 ⟨⟨#[103,101,116,115,111,99,107,110,97,109,101]⟩,51,51,367,204,204,1,6⟩,
 ⟨⟨#[103,101,116,115,111,99,107,111,112,116]⟩,55,542,365,209,209,1,15⟩,
 ⟨⟨#[103,101,116,117,105,100]⟩,102,102,24,174,174,0,0⟩,
 ⟨⟨#[105,111,99,116,108]⟩,16,514,54,29,29,0,0⟩,
 ⟨⟨#[107,105,108,108]⟩,62,62,37,129,129,0,0⟩,
 ⟨⟨#[108,105,115,116,101,110]⟩,50,50,363,201,201,1,4⟩]
theorem Joy:Jb0 Tryz.prog 49 30 [(0,Jp ⟨⟨#[97,99,99,101,112,116]⟩,43,43,-1,202,202,1,5⟩),(1,Jp ⟨⟨#[97,99,99,101,112,116,52]⟩,288,288,364,242,242,1,18⟩),(2,Jp ⟨⟨#[98,105,110,100]⟩,49,49,361,200,200,1,2⟩),(3,Jp ⟨⟨#[98,114,107]⟩,12,12,45,214,214,0,0⟩),(4,Jp ⟨⟨#[99,108,111,110,101]⟩,56,56,120,220,220,0,0⟩),(5,Jp ⟨⟨#[99,108,111,115,101]⟩,3,3,6,57,57,0,0⟩),(6,Jp ⟨⟨#[99,111,110,110,101,99,116]⟩,42,42,362,203,203,1,3⟩),(7,Jp ⟨⟨#[100,117,112]⟩,32,32,41,23,23,0,0⟩),(8,Jp ⟨⟨#[100,117,112,50]⟩,33,33,63,-1,-1,0,0⟩),(9,Jp ⟨⟨#[101,112,111,108,108,95,99,114,101,97,116,101,49]⟩,291,291,329,20,20,0,0⟩),(10,Jp ⟨⟨#[101,112,111,108,108,95,99,116,108]⟩,233,233,255,21,21,0,0⟩),(11,Jp ⟨⟨#[101,112,111,108,108,95,119,97,105,116]⟩,232,232,256,-1,-1,0,0⟩),(12,Jp ⟨⟨#[101,120,101,99,118,101]⟩,59,520,11,221,221,0,0⟩),(13,Jp ⟨⟨#[101,120,105,116]⟩,60,60,1,93,93,0,0⟩),(14,Jp ⟨⟨#[101,120,105,116,95,103,114,111,117,112]⟩,231,231,252,94,94,0,0⟩),(15,Jp ⟨⟨#[102,99,104,100,105,114]⟩,81,81,133,50,50,0,0⟩),(16,Jp ⟨⟨#[102,99,110,116,108]⟩,72,72,55,25,25,0,0⟩),(17,Jp ⟨⟨#[102,111,114,107]⟩,57,57,2,-1,-1,0,0⟩),(18,Jp ⟨⟨#[102,115,116,97,116]⟩,5,5,108,80,80,0,0⟩),(19,Jp ⟨⟨#[102,117,116,101,120]⟩,202,202,240,98,98,0,0⟩),(20,Jp ⟨⟨#[103,101,116,99,119,100]⟩,79,79,183,17,17,0,0⟩),(21,Jp ⟨⟨#[103,101,116,112,101,101,114,110,97,109,101]⟩,52,52,368,205,205,1,7⟩),(22,Jp ⟨⟨#[103,101,116,112,105,100]⟩,39,39,20,172,172,0,0⟩),(23,Jp ⟨⟨#[103,101,116,114,97,110,100,111,109]⟩,318,318,355,278,278,0,0⟩),(24,Jp ⟨⟨#[103,101,116,115,111,99,107,110,97,109,101]⟩,51,51,367,204,204,1,6⟩),(25,Jp ⟨⟨#[103,101,116,115,111,99,107,111,112,116]⟩,55,542,365,209,209,1,15⟩),(26,Jp ⟨⟨#[103,101,116,117,105,100]⟩,102,102,24,174,174,0,0⟩),(27,Jp ⟨⟨#[105,111,99,116,108]⟩,16,514,54,29,29,0,0⟩),(28,Jp ⟨⟨#[107,105,108,108]⟩,62,62,37,129,129,0,0⟩),(29,Jp ⟨⟨#[108,105,115,116,101,110]⟩,50,50,363,201,201,1,4⟩)]=some (113, [Jf ⟨#[97,99,99,101,112,116]⟩,int (43),int (43),int (-1),int (202),int (202),int 1,int 5,Jf ⟨#[97,99,99,101,112,116,52]⟩,int (288),int (288),int (364),int (242),int (242),int 1,int 18,Jf ⟨#[98,105,110,100]⟩,int (49),int (49),int (361),int (200),int (200),int 1,int 2,Jf ⟨#[98,114,107]⟩,int (12),int (12),int (45),int (214),int (214),int 0,int 0,Jf ⟨#[99,108,111,110,101]⟩,int (56),int (56),int (120),int (220),int (220),int 0,int 0,Jf ⟨#[99,108,111,115,101]⟩,int (3),int (3),int (6),int (57),int (57),int 0,int 0,Jf ⟨#[99,111,110,110,101,99,116]⟩,int (42),int (42),int (362),int (203),int (203),int 1,int 3,Jf ⟨#[100,117,112]⟩,int (32),int (32),int (41),int (23),int (23),int 0,int 0,Jf ⟨#[100,117,112,50]⟩,int (33),int (33),int (63),int (-1),int (-1),int 0,int 0,Jf ⟨#[101,112,111,108,108,95,99,114,101,97,116,101,49]⟩,int (291),int (291),int (329),int (20),int (20),int 0,int 0,Jf ⟨#[101,112,111,108,108,95,99,116,108]⟩,int (233),int (233),int (255),int (21),int (21),int 0,int 0,Jf ⟨#[101,112,111,108,108,95,119,97,105,116]⟩,int (232),int (232),int (256),int (-1),int (-1),int 0,int 0,Jf ⟨#[101,120,101,99,118,101]⟩,int (59),int (520),int (11),int (221),int (221),int 0,int 0,Jf ⟨#[101,120,105,116]⟩,int (60),int (60),int (1),int (93),int (93),int 0,int 0,Jf ⟨#[101,120,105,116,95,103,114,111,117,112]⟩,int (231),int (231),int (252),int (94),int (94),int 0,int 0,Jf ⟨#[102,99,104,100,105,114]⟩,int (81),int (81),int (133),int (50),int (50),int 0,int 0,Jf ⟨#[102,99,110,116,108]⟩,int (72),int (72),int (55),int (25),int (25),int 0,int 0,Jf ⟨#[102,111,114,107]⟩,int (57),int (57),int (2),int (-1),int (-1),int 0,int 0,Jf ⟨#[102,115,116,97,116]⟩,int (5),int (5),int (108),int (80),int (80),int 0,int 0,Jf ⟨#[102,117,116,101,120]⟩,int (202),int (202),int (240),int (98),int (98),int 0,int 0,Jf ⟨#[103,101,116,99,119,100]⟩,int (79),int (79),int (183),int (17),int (17),int 0,int 0,Jf ⟨#[103,101,116,112,101,101,114,110,97,109,101]⟩,int (52),int (52),int (368),int (205),int (205),int 1,int 7,Jf ⟨#[103,101,116,112,105,100]⟩,int (39),int (39),int (20),int (172),int (172),int 0,int 0,Jf ⟨#[103,101,116,114,97,110,100,111,109]⟩,int (318),int (318),int (355),int (278),int (278),int 0,int 0,Jf ⟨#[103,101,116,115,111,99,107,110,97,109,101]⟩,int (51),int (51),int (367),int (204),int (204),int 1,int 6,Jf ⟨#[103,101,116,115,111,99,107,111,112,116]⟩,int (55),int (542),int (365),int (209),int (209),int 1,int 15,Jf ⟨#[103,101,116,117,105,100]⟩,int (102),int (102),int (24),int (174),int (174),int 0,int 0,Jf ⟨#[105,111,99,116,108]⟩,int (16),int (514),int (54),int (29),int (29),int 0,int 0,Jf ⟨#[107,105,108,108]⟩,int (62),int (62),int (37),int (129),int (129),int 0,int 0,Jf ⟨#[108,105,115,116,101,110]⟩,int (50),int (50),int (363),int (201),int (201),int 1,int 4]):=by kernel_rfl
set_option maxHeartbeats 4000000 in
theorem JqK:Tells Tryz.prog 147 [] (J5 Jht):=by
 refine Jg Tryz.func147 rfl rfl fun nx=> ?_
 (refine JV ?_;refine Jan ?_;refine JV ?_)
 refine JQ (fun n=> match n with | 0=> true | _=> false) 61 ?_
 refine stp ?_
 refine JkT rfl Joy ?_
 refine stp ?_
 refine Je rfl (AVle.os_sl.trans (AVle.sl_fun fun k hk=> ?_))
 match k,hk with
 | 0,_=> rfl
 | 1,_=> rfl
 | 2,_=> rfl
 | 3,_=> rfl
 | 4,_=> rfl
 | 5,_=> rfl
 | 6,_=> rfl
 | 7,_=> rfl
 | 8,_=> rfl
 | 9,_=> rfl
 | 10,_=> rfl
 | 11,_=> rfl
 | 12,_=> rfl
 | 13,_=> rfl
 | 14,_=> rfl
 | 15,_=> rfl
 | 16,_=> rfl
 | 17,_=> rfl
 | 18,_=> rfl
 | 19,_=> rfl
 | 20,_=> rfl
 | 21,_=> rfl
 | 22,_=> rfl
 | 23,_=> rfl
 | 24,_=> rfl
 | 25,_=> rfl
 | 26,_=> rfl
 | 27,_=> rfl
 | 28,_=> rfl
 | 29,_=> rfl
 | k+30,hk=> exact absurd hk (by omega)
def Jj1:List TRow:= [
 ⟨⟨#[108,115,101,101,107]⟩,8,8,19,62,62,0,0⟩,
 ⟨⟨#[109,107,100,105,114]⟩,83,83,39,-1,-1,0,0⟩,
 ⟨⟨#[109,109,97,112]⟩,9,9,-1,222,222,0,0⟩,
 ⟨⟨#[109,109,97,112,50]⟩,-1,-1,192,-1,-1,0,0⟩,
 ⟨⟨#[109,112,114,111,116,101,99,116]⟩,10,10,125,226,226,0,0⟩,
 ⟨⟨#[109,115,103,99,116,108]⟩,71,71,402,187,187,2,14⟩,
 ⟨⟨#[109,115,103,103,101,116]⟩,68,68,399,186,186,2,13⟩,
 ⟨⟨#[109,115,103,114,99,118]⟩,70,70,401,188,188,2,12⟩,
 ⟨⟨#[109,115,103,115,110,100]⟩,69,69,400,189,189,2,11⟩,
 ⟨⟨#[109,117,110,109,97,112]⟩,11,11,91,215,215,0,0⟩,
 ⟨⟨#[110,97,110,111,115,108,101,101,112]⟩,35,35,162,101,101,0,0⟩,
 ⟨⟨#[111,112,101,110]⟩,2,2,5,-1,-1,0,0⟩,
 ⟨⟨#[111,112,101,110,97,116]⟩,257,257,295,56,56,0,0⟩,
 ⟨⟨#[112,105,112,101]⟩,22,22,42,-1,-1,0,0⟩,
 ⟨⟨#[112,105,112,101,50]⟩,293,293,331,59,59,0,0⟩,
 ⟨⟨#[112,111,108,108]⟩,7,7,168,-1,-1,0,0⟩,
 ⟨⟨#[112,114,101,97,100,54,52]⟩,17,17,180,67,67,0,0⟩,
 ⟨⟨#[112,114,108,105,109,105,116,54,52]⟩,302,302,340,261,261,0,0⟩,
 ⟨⟨#[112,116,114,97,99,101]⟩,101,521,26,117,117,0,0⟩,
 ⟨⟨#[112,119,114,105,116,101,54,52]⟩,18,18,181,68,68,0,0⟩,
 ⟨⟨#[114,101,97,100]⟩,0,0,3,63,63,0,0⟩,
 ⟨⟨#[114,101,97,100,118]⟩,19,515,145,65,65,0,0⟩,
 ⟨⟨#[114,101,99,118]⟩,-1,-1,-1,-1,-1,1,10⟩,
 ⟨⟨#[114,101,99,118,102,114,111,109]⟩,45,517,371,207,207,1,12⟩,
 ⟨⟨#[114,101,99,118,109,115,103]⟩,47,519,372,212,212,1,17⟩,
 ⟨⟨#[114,101,110,97,109,101]⟩,82,82,38,-1,-1,0,0⟩,
 ⟨⟨#[114,105,115,99,118,95,102,108,117,115,104,95,105,99,97,99,104,101]⟩,-1,-1,-1,-1,259,0,0⟩,
 ⟨⟨#[114,116,95,115,105,103,97,99,116,105,111,110]⟩,13,512,174,134,134,0,0⟩,
 ⟨⟨#[114,116,95,115,105,103,114,101,116,117,114,110]⟩,15,513,173,139,139,0,0⟩,
 ⟨⟨#[115,101,99,99,111,109,112]⟩,317,317,354,277,277,0,0⟩,
 ⟨⟨#[115,101,108,101,99,116]⟩,23,23,82,-1,-1,0,0⟩,
 ⟨⟨#[115,101,109,99,116,108]⟩,66,66,394,191,191,2,3⟩,
 ⟨⟨#[115,101,109,103,101,116]⟩,64,64,393,190,190,2,2⟩,
 ⟨⟨#[115,101,109,111,112]⟩,65,65,-1,193,193,2,1⟩,
 ⟨⟨#[115,101,110,100]⟩,-1,-1,-1,-1,-1,1,9⟩,
 ⟨⟨#[115,101,110,100,109,115,103]⟩,46,518,370,211,211,1,16⟩,
 ⟨⟨#[115,101,110,100,116,111]⟩,44,44,369,206,206,1,11⟩,
 ⟨⟨#[115,101,116,115,111,99,107,111,112,116]⟩,54,541,366,208,208,1,14⟩,
 ⟨⟨#[115,104,109,97,116]⟩,30,30,397,196,196,2,21⟩,
 ⟨⟨#[115,104,109,99,116,108]⟩,31,31,396,195,195,2,24⟩,
 ⟨⟨#[115,104,109,100,116]⟩,67,67,398,197,197,2,22⟩,
 ⟨⟨#[115,104,109,103,101,116]⟩,29,29,395,194,194,2,23⟩,
 ⟨⟨#[115,104,117,116,100,111,119,110]⟩,48,48,373,210,210,1,13⟩,
 ⟨⟨#[115,111,99,107,101,116]⟩,41,41,359,198,198,1,1⟩,
 ⟨⟨#[115,111,99,107,101,116,112,97,105,114]⟩,53,53,360,199,199,1,8⟩,
 ⟨⟨#[115,116,97,116]⟩,4,4,106,-1,-1,0,0⟩,
 ⟨⟨#[116,105,109,101]⟩,201,201,13,-1,-1,0,0⟩,
 ⟨⟨#[117,110,97,109,101]⟩,63,63,122,160,160,0,0⟩,
 ⟨⟨#[117,110,108,105,110,107]⟩,87,87,10,-1,-1,0,0⟩,
 ⟨⟨#[118,102,111,114,107]⟩,58,58,190,-1,-1,0,0⟩,
 ⟨⟨#[119,97,105,116,112,105,100]⟩,-1,-1,7,-1,-1,0,0⟩,
 ⟨⟨#[119,114,105,116,101]⟩,1,1,4,64,64,0,0⟩,
 ⟨⟨#[119,114,105,116,101,118]⟩,20,516,146,66,66,0,0⟩]
theorem JqL:Jb0 Tryz.prog 49 53 [(0,Jp ⟨⟨#[108,115,101,101,107]⟩,8,8,19,62,62,0,0⟩),(1,Jp ⟨⟨#[109,107,100,105,114]⟩,83,83,39,-1,-1,0,0⟩),(2,Jp ⟨⟨#[109,109,97,112]⟩,9,9,-1,222,222,0,0⟩),(3,Jp ⟨⟨#[109,109,97,112,50]⟩,-1,-1,192,-1,-1,0,0⟩),(4,Jp ⟨⟨#[109,112,114,111,116,101,99,116]⟩,10,10,125,226,226,0,0⟩),(5,Jp ⟨⟨#[109,115,103,99,116,108]⟩,71,71,402,187,187,2,14⟩),(6,Jp ⟨⟨#[109,115,103,103,101,116]⟩,68,68,399,186,186,2,13⟩),(7,Jp ⟨⟨#[109,115,103,114,99,118]⟩,70,70,401,188,188,2,12⟩),(8,Jp ⟨⟨#[109,115,103,115,110,100]⟩,69,69,400,189,189,2,11⟩),(9,Jp ⟨⟨#[109,117,110,109,97,112]⟩,11,11,91,215,215,0,0⟩),(10,Jp ⟨⟨#[110,97,110,111,115,108,101,101,112]⟩,35,35,162,101,101,0,0⟩),(11,Jp ⟨⟨#[111,112,101,110]⟩,2,2,5,-1,-1,0,0⟩),(12,Jp ⟨⟨#[111,112,101,110,97,116]⟩,257,257,295,56,56,0,0⟩),(13,Jp ⟨⟨#[112,105,112,101]⟩,22,22,42,-1,-1,0,0⟩),(14,Jp ⟨⟨#[112,105,112,101,50]⟩,293,293,331,59,59,0,0⟩),(15,Jp ⟨⟨#[112,111,108,108]⟩,7,7,168,-1,-1,0,0⟩),(16,Jp ⟨⟨#[112,114,101,97,100,54,52]⟩,17,17,180,67,67,0,0⟩),(17,Jp ⟨⟨#[112,114,108,105,109,105,116,54,52]⟩,302,302,340,261,261,0,0⟩),(18,Jp ⟨⟨#[112,116,114,97,99,101]⟩,101,521,26,117,117,0,0⟩),(19,Jp ⟨⟨#[112,119,114,105,116,101,54,52]⟩,18,18,181,68,68,0,0⟩),(20,Jp ⟨⟨#[114,101,97,100]⟩,0,0,3,63,63,0,0⟩),(21,Jp ⟨⟨#[114,101,97,100,118]⟩,19,515,145,65,65,0,0⟩),(22,Jp ⟨⟨#[114,101,99,118]⟩,-1,-1,-1,-1,-1,1,10⟩),(23,Jp ⟨⟨#[114,101,99,118,102,114,111,109]⟩,45,517,371,207,207,1,12⟩),(24,Jp ⟨⟨#[114,101,99,118,109,115,103]⟩,47,519,372,212,212,1,17⟩),(25,Jp ⟨⟨#[114,101,110,97,109,101]⟩,82,82,38,-1,-1,0,0⟩),(26,Jp ⟨⟨#[114,105,115,99,118,95,102,108,117,115,104,95,105,99,97,99,104,101]⟩,-1,-1,-1,-1,259,0,0⟩),(27,Jp ⟨⟨#[114,116,95,115,105,103,97,99,116,105,111,110]⟩,13,512,174,134,134,0,0⟩),(28,Jp ⟨⟨#[114,116,95,115,105,103,114,101,116,117,114,110]⟩,15,513,173,139,139,0,0⟩),(29,Jp ⟨⟨#[115,101,99,99,111,109,112]⟩,317,317,354,277,277,0,0⟩),(30,Jp ⟨⟨#[115,101,108,101,99,116]⟩,23,23,82,-1,-1,0,0⟩),(31,Jp ⟨⟨#[115,101,109,99,116,108]⟩,66,66,394,191,191,2,3⟩),(32,Jp ⟨⟨#[115,101,109,103,101,116]⟩,64,64,393,190,190,2,2⟩),(33,Jp ⟨⟨#[115,101,109,111,112]⟩,65,65,-1,193,193,2,1⟩),(34,Jp ⟨⟨#[115,101,110,100]⟩,-1,-1,-1,-1,-1,1,9⟩),(35,Jp ⟨⟨#[115,101,110,100,109,115,103]⟩,46,518,370,211,211,1,16⟩),(36,Jp ⟨⟨#[115,101,110,100,116,111]⟩,44,44,369,206,206,1,11⟩),(37,Jp ⟨⟨#[115,101,116,115,111,99,107,111,112,116]⟩,54,541,366,208,208,1,14⟩),(38,Jp ⟨⟨#[115,104,109,97,116]⟩,30,30,397,196,196,2,21⟩),(39,Jp ⟨⟨#[115,104,109,99,116,108]⟩,31,31,396,195,195,2,24⟩),(40,Jp ⟨⟨#[115,104,109,100,116]⟩,67,67,398,197,197,2,22⟩),(41,Jp ⟨⟨#[115,104,109,103,101,116]⟩,29,29,395,194,194,2,23⟩),(42,Jp ⟨⟨#[115,104,117,116,100,111,119,110]⟩,48,48,373,210,210,1,13⟩),(43,Jp ⟨⟨#[115,111,99,107,101,116]⟩,41,41,359,198,198,1,1⟩),(44,Jp ⟨⟨#[115,111,99,107,101,116,112,97,105,114]⟩,53,53,360,199,199,1,8⟩),(45,Jp ⟨⟨#[115,116,97,116]⟩,4,4,106,-1,-1,0,0⟩),(46,Jp ⟨⟨#[116,105,109,101]⟩,201,201,13,-1,-1,0,0⟩),(47,Jp ⟨⟨#[117,110,97,109,101]⟩,63,63,122,160,160,0,0⟩),(48,Jp ⟨⟨#[117,110,108,105,110,107]⟩,87,87,10,-1,-1,0,0⟩),(49,Jp ⟨⟨#[118,102,111,114,107]⟩,58,58,190,-1,-1,0,0⟩),(50,Jp ⟨⟨#[119,97,105,116,112,105,100]⟩,-1,-1,7,-1,-1,0,0⟩),(51,Jp ⟨⟨#[119,114,105,116,101]⟩,1,1,4,64,64,0,0⟩),(52,Jp ⟨⟨#[119,114,105,116,101,118]⟩,20,516,146,66,66,0,0⟩)]=some (113, [Jf ⟨#[108,115,101,101,107]⟩,int (8),int (8),int (19),int (62),int (62),int 0,int 0,Jf ⟨#[109,107,100,105,114]⟩,int (83),int (83),int (39),int (-1),int (-1),int 0,int 0,Jf ⟨#[109,109,97,112]⟩,int (9),int (9),int (-1),int (222),int (222),int 0,int 0,Jf ⟨#[109,109,97,112,50]⟩,int (-1),int (-1),int (192),int (-1),int (-1),int 0,int 0,Jf ⟨#[109,112,114,111,116,101,99,116]⟩,int (10),int (10),int (125),int (226),int (226),int 0,int 0,Jf ⟨#[109,115,103,99,116,108]⟩,int (71),int (71),int (402),int (187),int (187),int 2,int 14,Jf ⟨#[109,115,103,103,101,116]⟩,int (68),int (68),int (399),int (186),int (186),int 2,int 13,Jf ⟨#[109,115,103,114,99,118]⟩,int (70),int (70),int (401),int (188),int (188),int 2,int 12,Jf ⟨#[109,115,103,115,110,100]⟩,int (69),int (69),int (400),int (189),int (189),int 2,int 11,Jf ⟨#[109,117,110,109,97,112]⟩,int (11),int (11),int (91),int (215),int (215),int 0,int 0,Jf ⟨#[110,97,110,111,115,108,101,101,112]⟩,int (35),int (35),int (162),int (101),int (101),int 0,int 0,Jf ⟨#[111,112,101,110]⟩,int (2),int (2),int (5),int (-1),int (-1),int 0,int 0,Jf ⟨#[111,112,101,110,97,116]⟩,int (257),int (257),int (295),int (56),int (56),int 0,int 0,Jf ⟨#[112,105,112,101]⟩,int (22),int (22),int (42),int (-1),int (-1),int 0,int 0,Jf ⟨#[112,105,112,101,50]⟩,int (293),int (293),int (331),int (59),int (59),int 0,int 0,Jf ⟨#[112,111,108,108]⟩,int (7),int (7),int (168),int (-1),int (-1),int 0,int 0,Jf ⟨#[112,114,101,97,100,54,52]⟩,int (17),int (17),int (180),int (67),int (67),int 0,int 0,Jf ⟨#[112,114,108,105,109,105,116,54,52]⟩,int (302),int (302),int (340),int (261),int (261),int 0,int 0,Jf ⟨#[112,116,114,97,99,101]⟩,int (101),int (521),int (26),int (117),int (117),int 0,int 0,Jf ⟨#[112,119,114,105,116,101,54,52]⟩,int (18),int (18),int (181),int (68),int (68),int 0,int 0,Jf ⟨#[114,101,97,100]⟩,int (0),int (0),int (3),int (63),int (63),int 0,int 0,Jf ⟨#[114,101,97,100,118]⟩,int (19),int (515),int (145),int (65),int (65),int 0,int 0,Jf ⟨#[114,101,99,118]⟩,int (-1),int (-1),int (-1),int (-1),int (-1),int 1,int 10,Jf ⟨#[114,101,99,118,102,114,111,109]⟩,int (45),int (517),int (371),int (207),int (207),int 1,int 12,Jf ⟨#[114,101,99,118,109,115,103]⟩,int (47),int (519),int (372),int (212),int (212),int 1,int 17,Jf ⟨#[114,101,110,97,109,101]⟩,int (82),int (82),int (38),int (-1),int (-1),int 0,int 0,Jf ⟨#[114,105,115,99,118,95,102,108,117,115,104,95,105,99,97,99,104,101]⟩,int (-1),int (-1),int (-1),int (-1),int (259),int 0,int 0,Jf ⟨#[114,116,95,115,105,103,97,99,116,105,111,110]⟩,int (13),int (512),int (174),int (134),int (134),int 0,int 0,Jf ⟨#[114,116,95,115,105,103,114,101,116,117,114,110]⟩,int (15),int (513),int (173),int (139),int (139),int 0,int 0,Jf ⟨#[115,101,99,99,111,109,112]⟩,int (317),int (317),int (354),int (277),int (277),int 0,int 0,Jf ⟨#[115,101,108,101,99,116]⟩,int (23),int (23),int (82),int (-1),int (-1),int 0,int 0,Jf ⟨#[115,101,109,99,116,108]⟩,int (66),int (66),int (394),int (191),int (191),int 2,int 3,Jf ⟨#[115,101,109,103,101,116]⟩,int (64),int (64),int (393),int (190),int (190),int 2,int 2,Jf ⟨#[115,101,109,111,112]⟩,int (65),int (65),int (-1),int (193),int (193),int 2,int 1,Jf ⟨#[115,101,110,100]⟩,int (-1),int (-1),int (-1),int (-1),int (-1),int 1,int 9,Jf ⟨#[115,101,110,100,109,115,103]⟩,int (46),int (518),int (370),int (211),int (211),int 1,int 16,Jf ⟨#[115,101,110,100,116,111]⟩,int (44),int (44),int (369),int (206),int (206),int 1,int 11,Jf ⟨#[115,101,116,115,111,99,107,111,112,116]⟩,int (54),int (541),int (366),int (208),int (208),int 1,int 14,Jf ⟨#[115,104,109,97,116]⟩,int (30),int (30),int (397),int (196),int (196),int 2,int 21,Jf ⟨#[115,104,109,99,116,108]⟩,int (31),int (31),int (396),int (195),int (195),int 2,int 24,Jf ⟨#[115,104,109,100,116]⟩,int (67),int (67),int (398),int (197),int (197),int 2,int 22,Jf ⟨#[115,104,109,103,101,116]⟩,int (29),int (29),int (395),int (194),int (194),int 2,int 23,Jf ⟨#[115,104,117,116,100,111,119,110]⟩,int (48),int (48),int (373),int (210),int (210),int 1,int 13,Jf ⟨#[115,111,99,107,101,116]⟩,int (41),int (41),int (359),int (198),int (198),int 1,int 1,Jf ⟨#[115,111,99,107,101,116,112,97,105,114]⟩,int (53),int (53),int (360),int (199),int (199),int 1,int 8,Jf ⟨#[115,116,97,116]⟩,int (4),int (4),int (106),int (-1),int (-1),int 0,int 0,Jf ⟨#[116,105,109,101]⟩,int (201),int (201),int (13),int (-1),int (-1),int 0,int 0,Jf ⟨#[117,110,97,109,101]⟩,int (63),int (63),int (122),int (160),int (160),int 0,int 0,Jf ⟨#[117,110,108,105,110,107]⟩,int (87),int (87),int (10),int (-1),int (-1),int 0,int 0,Jf ⟨#[118,102,111,114,107]⟩,int (58),int (58),int (190),int (-1),int (-1),int 0,int 0,Jf ⟨#[119,97,105,116,112,105,100]⟩,int (-1),int (-1),int (7),int (-1),int (-1),int 0,int 0,Jf ⟨#[119,114,105,116,101]⟩,int (1),int (1),int (4),int (64),int (64),int 0,int 0,Jf ⟨#[119,114,105,116,101,118]⟩,int (20),int (516),int (146),int (66),int (66),int 0,int 0]):=by kernel_rfl
set_option maxHeartbeats 4000000 in
theorem Jss:Tells Tryz.prog 148 [] (J5 Jj1):=by
 refine Jg Tryz.func148 rfl rfl fun nx=> ?_
 (refine JV ?_;refine Jan ?_;refine JV ?_)
 refine JQ (fun n=> match n with | 0=> true | _=> false) 107 ?_
 refine stp ?_
 refine JkT rfl JqL ?_
 refine stp ?_
 refine Je rfl (AVle.os_sl.trans (AVle.sl_fun fun k hk=> ?_))
 match k,hk with
 | 0,_=> rfl
 | 1,_=> rfl
 | 2,_=> rfl
 | 3,_=> rfl
 | 4,_=> rfl
 | 5,_=> rfl
 | 6,_=> rfl
 | 7,_=> rfl
 | 8,_=> rfl
 | 9,_=> rfl
 | 10,_=> rfl
 | 11,_=> rfl
 | 12,_=> rfl
 | 13,_=> rfl
 | 14,_=> rfl
 | 15,_=> rfl
 | 16,_=> rfl
 | 17,_=> rfl
 | 18,_=> rfl
 | 19,_=> rfl
 | 20,_=> rfl
 | 21,_=> rfl
 | 22,_=> rfl
 | 23,_=> rfl
 | 24,_=> rfl
 | 25,_=> rfl
 | 26,_=> rfl
 | 27,_=> rfl
 | 28,_=> rfl
 | 29,_=> rfl
 | 30,_=> rfl
 | 31,_=> rfl
 | 32,_=> rfl
 | 33,_=> rfl
 | 34,_=> rfl
 | 35,_=> rfl
 | 36,_=> rfl
 | 37,_=> rfl
 | 38,_=> rfl
 | 39,_=> rfl
 | 40,_=> rfl
 | 41,_=> rfl
 | 42,_=> rfl
 | 43,_=> rfl
 | 44,_=> rfl
 | 45,_=> rfl
 | 46,_=> rfl
 | 47,_=> rfl
 | 48,_=> rfl
 | 49,_=> rfl
 | 50,_=> rfl
 | 51,_=> rfl
 | 52,_=> rfl
 | k+53,hk=> exact absurd hk (by omega)
end Go.Proofs.W

namespace Go.Proofs.W
open Go.Vl
set_option maxRecDepth 100000
def builtL:List TRow:=Jht++Jj1
theorem JqM (l:List TRow):NoId (J5 l):=NoId.sl fun i _ c hc=> by
 have hc:c∈Jcm (l.getD i Ji):=hc
 unfold Jcm at hc
 simp only [List.mem_cons,List.not_mem_nil,or_false] at hc
 rcases hc with rfl | rfl | rfl | rfl | rfl | rfl | rfl | rfl <;> exact NoId.v _
theorem JnS:Tells Tryz.prog 79 [] (J5 builtL):=by
 have hc:=Jox [Jht,Jj1] (by decide) (by decide) none
 have e: [Jht,Jj1].flatten=builtL:=by unfold builtL;simp
 rw [e] at hc
 have he:=JqK
 have hl:=Jss
 generalize Jht=A at he hc
 generalize Jj1=B at hl hc
 generalize builtL=C at hc
 refine Jg Tryz.func79 rfl rfl fun nx=> ?_
 refine stp ?_
 refine Jd rfl rfl he trivial fun nx2=> ?_
 refine stp ?_
 refine Jd rfl rfl hl trivial fun nx3=> ?_
 refine stp ?_
 refine Jd rfl rfl hc ⟨AVle.os_fun fun k hk=> ?_,trivial⟩ fun nx4=> ?_
 ·match k,hk with
  | 0,_=> rfl
  | 1,_=> rfl
 refine stp ?_
 exact Je rfl (AVle.refl _)
end Go.Proofs.W

namespace Go.Proofs.W
open Go.Vl
set_option maxRecDepth 100000
end Go.Proofs.W

namespace Go.Proofs.W
open Go.Vl
set_option maxRecDepth 100000
end Go.Proofs.W

namespace Go.Proofs.W
open Go.Vl
set_option maxRecDepth 100000
end Go.Proofs.W

namespace Go.Proofs.W
open Go.Vl
set_option maxRecDepth 100000
end Go.Proofs.W

namespace Go.Proofs.W
open Go.Vl
set_option maxRecDepth 100000
end Go.Proofs.W

namespace Go.Proofs.W
open Go.Vl
set_option maxRecDepth 100000
end Go.Proofs.W

namespace Go.Proofs.W
open Go.Vl
set_option maxRecDepth 100000
end Go.Proofs.W

namespace Go.Proofs.W
open Go.Vl
set_option maxRecDepth 100000
end Go.Proofs.W

namespace Go.Proofs.W
open Go.Vl
set_option maxRecDepth 100000
theorem JuP:pAw.ok:=by
 refine ⟨by decide,fun r hr=> ?_⟩
 rw [List.mem_singleton.1 hr]
 exact ⟨by decide,by decide,fun c hc=> by cases hc⟩
end Go.Proofs.W

namespace Go.Proofs.W
open Go.Vl
set_option maxRecDepth 100000
theorem Jwf:JaF pAw builtL=(0,0):=by kernel_rfl
theorem Jwg:pAw.rules.findIdx? (JeR builtL)=none:=by kernel_rfl
def eK (n:Nat):List PEnt:= [⟨n, [⟨[],2147418112⟩]⟩]
theorem Jw2:JbH (Jc pAw) builtL (JT (Jc pAw).rules) 0=eK 0:=by kernel_rfl
theorem Jw3:JbH (Jc pAw) builtL (JT (Jc pAw).rules) 1= []:=by kernel_rfl
theorem Jw4:JbH (Jc pAw) builtL (JT (Jc pAw).rules) 2=eK 3:=by kernel_rfl
theorem Jw5:JbH (Jc pAw) builtL (JT (Jc pAw).rules) 3=eK 63:=by kernel_rfl
theorem Jw6:JbH (Jc pAw) builtL (JT (Jc pAw).rules) 4=eK 63:=by kernel_rfl
theorem Jw7:JcM builtL (JT (Jc pAw).rules) 0= []:=by kernel_rfl
theorem Jw8:JcM builtL (JT (Jc pAw).rules) 1= []:=by kernel_rfl
theorem JhY (e:PEnt):JeB [e]= [e]:=List.mergeSort_singleton _
theorem JuQ:JeB []= []:=List.mergeSort_nil
theorem Jph:JhT []= []:=List.mergeSort_nil
theorem JvD:JnN pAw builtL= .tup [.ag [u32 2147483648,Jb false,JJ 2 Jap ent0 (eK 0),JJ 2 Jap ent0 [],JJ 2 Jap ent0 (eK 3),JJ 2 Jap ent0 (eK 63),JJ 2 Jap ent0 (eK 63),JJ 2 JfY sub0 [],JJ 2 JfY sub0 []],int 0,int 0]:=by
 unfold JnN
 rw [Jwf,if_neg (by decide),Jwg]
 show AV.tup [JhW (JbO pAw builtL),_,_]=_
 have h0:(JbO pAw builtL).ents 0=eK 0:=by show JeB (JbH (Jc pAw) builtL (JT (Jc pAw).rules) 0)=_;rw [Jw2];exact JhY _
 have h1:(JbO pAw builtL).ents 1= []:=by show JeB (JbH (Jc pAw) builtL (JT (Jc pAw).rules) 1)=_;rw [Jw3];exact JuQ
 have h2:(JbO pAw builtL).ents 2=eK 3:=by show JeB (JbH (Jc pAw) builtL (JT (Jc pAw).rules) 2)=_;rw [Jw4];exact JhY _
 have h3:(JbO pAw builtL).ents 3=eK 63:=by show JeB (JbH (Jc pAw) builtL (JT (Jc pAw).rules) 3)=_;rw [Jw5];exact JhY _
 have h4:(JbO pAw builtL).ents 4=eK 63:=by show JeB (JbH (Jc pAw) builtL (JT (Jc pAw).rules) 4)=_;rw [Jw6];exact JhY _
 have s0:(JbO pAw builtL).subs 0= []:=by show JhT (JcM builtL (JT (Jc pAw).rules) 0)=_;rw [Jw7];exact Jph
 have s1:(JbO pAw builtL).subs 1= []:=by show JhT (JcM builtL (JT (Jc pAw).rules) 1)=_;rw [Jw8];exact Jph
 unfold JhW
 rw [h0,h1,h2,h3,h4,s0,s1]
 rfl
theorem Joz:builtL.length≤1000000:=Nat.le_of_ble_eq_true (by kernel_rfl)
theorem Jl2:∀r∈builtL,r.name.size≤maxLen:=fun r hr=> by
 have:(builtL.all fun r=> decide (r.name.size≤1000))=true:=by kernel_rfl
 have:=of_decide_eq_true (List.all_eq_true.1 this r hr)
 exact Nat.le_trans this (by decide)
theorem JqN (l:List PRul):NoId (Jr l):=NoId.sl fun i _ c hc=> by
 have hc:c∈ [Jbt (l.getD i Jx).conds,u32 ((l.getD i Jx).code:Nat)]:=hc
 simp only [List.mem_cons,List.not_mem_nil,or_false] at hc
 rcases hc with rfl | rfl
 ·exact Jis _
 ·exact NoId.v _
theorem JeT (l:List PEnt):NoId (JJ 2 Jap ent0 l):=NoId.sl fun i _ c hc=> by
 have hc:c∈ [u32 ((l.getD i ent0).num:Nat),Jr (l.getD i ent0).rules]:=hc
 simp only [List.mem_cons,List.not_mem_nil,or_false] at hc
 rcases hc with rfl | rfl
 ·exact NoId.v _
 ·exact JqN _
theorem JlK (l:List PSub):NoId (JJ 2 JfY sub0 l):=NoId.sl fun i _ c hc=> by
 have hc:c∈ [u32 ((l.getD i sub0).num:Nat),u32 ((l.getD i sub0).code:Nat)]:=hc
 simp only [List.mem_cons,List.not_mem_nil,or_false] at hc
 rcases hc with rfl | rfl <;> exact NoId.v _
def JcO (P:Plan):List AV:= [u32 (P.dflt:Nat),Jb P.x32,JJ 2 Jap ent0 (P.ents 0),JJ 2 Jap ent0 (P.ents 1),JJ 2 Jap ent0 (P.ents 2),JJ 2 Jap ent0 (P.ents 3),JJ 2 Jap ent0 (P.ents 4),JJ 2 JfY sub0 (P.subs 0),JJ 2 JfY sub0 (P.subs 1)]
theorem Jst (P:Plan) (i e:Int):NoId (.tup [.ag (JcO P),int i,int e]):=NoId.tup fun y hy=> by
 simp only [List.mem_cons,List.not_mem_nil,or_false] at hy
 rcases hy with rfl | rfl | rfl
 ·refine NoId.ag fun z hz=> ?_
  unfold JcO at hz
  simp only [List.mem_cons,List.not_mem_nil,or_false] at hz
  rcases hz with rfl | rfl | rfl | rfl | rfl | rfl | rfl | rfl | rfl
  ·exact NoId.v _
  ·exact NoId.v _
  ·exact JeT _
  ·exact JeT _
  ·exact JeT _
  ·exact JeT _
  ·exact JeT _
  ·exact JlK _
  ·exact JlK _
 ·exact NoId.v _
 ·exact NoId.v _
def JcG:Plan:=⟨2147483648,false,fun a=> match a with | 0=> eK 0 | 1=> [] | 2=> eK 3 | 3=> eK 63 | _=> eK 63,fun _=> []⟩
theorem JuR:JnN pAw builtL= .tup [.ag (JcO JcG),int 0,int 0]:=JvD
set_option maxHeartbeats 8000000 in
theorem Jdl:Tells Tryz.prog 28 [] (Jb true):=by
 have hb:=JnS
 have h1:=JnR pAw builtL JuP (fun r hr=> by simp only [pAw,List.mem_cons,List.not_mem_nil,or_false] at hr;subst hr;exact ⟨by decide,by decide⟩) Joz Jl2
 rw [JuR] at h1
 generalize builtL=B at hb h1
 refine Jg Tryz.func28 rfl rfl fun nx=> ?_
 refine stp ?_
 refine Jd rfl rfl Jp9 ⟨AVle.refl _,trivial⟩ fun nx2=> ?_
 refine stp ?_
 refine Jah 10 _ (fun i=> match i with | 7=> true | 8=> true | _=> false) (fun i=> match i with | 1=> true | 2=> true | _=> false) [0,1,2,3,4,5,6,7,8,9] (by kernel_rfl) (by kernel_rfl) (HB.refl _) ?_
 refine stp ?_
 refine ⟨_,Jae rfl rfl rfl hb trivial (JqM _), ?_⟩
 refine stp ?_
 refine ⟨_,Jae rfl rfl rfl h1 ⟨AVle.refl _,AVle.refl _,trivial⟩ (Jst _ _ _), ?_⟩
 refine stp ?_
 refine ⟨_,Jg3 (cs:=JW) rfl rfl (by kernel_rfl) (HB.one rfl),fun r' h' hr=> ?_⟩
 obtain ⟨rfl,rfl⟩:=hr
 (conv=> whnf)
 refine ⟨_,Jg2 (i:=(1,nx2+1)) (off:=0) (cs:=JW) rfl rfl rfl rfl rfl rfl rfl (by kernel_rfl) (by kernel_rfl) (by show 0+9≤9;omega) (HB.one rfl),fun r' h' hr=> ?_⟩
 obtain rfl:=hr
 refine stp ?_
 refine JcS (fun y:Nat=> mk 75 [(3,int 0),(4, .bp (0,nx2+1) 0),(6,int 0)] ⟨[((0,nx2+1), .c (JcO JcG))], [],y,3⟩) (fun _=> True) ?_ ?_
 ·refine JN (fun y:Nat×Nat=> mk 75 [(3,int 0),(4, .bp (0,nx2+1) 0),(6,int 0),(7, .bp (1,nx2+2) 0),(8,int y.1)] ⟨[((1,nx2+2), .c [int 1,int 0,int 1,int 1,int 1]),((0,nx2+1), .c (JcO JcG))], [],y.2,3⟩) (fun y=> y.1≤5) (fun y=> 5 - y.1) ?_ ?_
  ·exact ⟨(0,nx2+3),Nat.zero_le _,Jh (pm:= []) _ _ rfl rfl (.cons_cons _ (.cons_cons _ (.cons _ .slnil))) (List.Sublist.refl _) ⟨rfl,OwnLe.refl _,rfl,OwnLe.refl _,trivial⟩ trivial ⟨AVle.refl _,AVle.bp_nm rfl,AVle.refl _,AVle.bp_nm rfl,AVle.refl _,trivial⟩⟩
  ·rintro ⟨a,nx4⟩ ha
   dsimp only at ha
   rcases (by omega:a=0∨a=1∨a=2∨a=3∨a=4∨a=5) with rfl | rfl | rfl | rfl | rfl | rfl
   ·refine AW.le (Jh (n:=75) (nn:=3) (pm:= []) (bx:= [((1,nx2+2), .c [int 1,int 0,int 1,int 1,int 1]),((0,nx2+1), .c (JcO JcG))]) (L:= [(3,int 0),(4, .bp (0,nx2+1) 0),(6,int 0),(7, .bp (1,nx2+2) 0),(8,int (0:Nat))]) _ _ rfl rfl (List.Sublist.refl _) (List.Sublist.refl _) (BxLe.refl _) trivial ⟨AVle.refl _,AVle.refl _,AVle.refl _,AVle.refl _,AVle.refl _,trivial⟩) ?_
    refine stp ?_
    (refine Jag 9 ?_ ?_ ?_ ?_;(· kernel_rfl);(· kernel_rfl);(· kernel_rfl))
    refine stp ?_
    exact back (1,nx4) (by dsimp only;omega) (by dsimp only;omega) (Jh (pm:= []) (bx:= [((1,nx2+2), .c [int 1,int 0,int 1,int 1,int 1]),((0,nx2+1), .c (JcO JcG))]) _ _ rfl rfl (List.Sublist.refl _) (List.Sublist.refl _) (BxLe.refl _) trivial ⟨AVle.refl _,AVle.refl _,AVle.refl _,AVle.refl _,Jk rfl,trivial⟩)
   ·refine AW.le (Jh (n:=75) (nn:=3) (pm:= []) (bx:= [((1,nx2+2), .c [int 1,int 0,int 1,int 1,int 1]),((0,nx2+1), .c (JcO JcG))]) (L:= [(3,int 0),(4, .bp (0,nx2+1) 0),(6,int 0),(7, .bp (1,nx2+2) 0),(8,int (1:Nat))]) _ _ rfl rfl (List.Sublist.refl _) (List.Sublist.refl _) (BxLe.refl _) trivial ⟨AVle.refl _,AVle.refl _,AVle.refl _,AVle.refl _,AVle.refl _,trivial⟩) ?_
    refine stp ?_
    (refine Jag 9 ?_ ?_ ?_ ?_;(· kernel_rfl);(· kernel_rfl);(· kernel_rfl))
    refine stp ?_
    exact back (2,nx4) (by dsimp only;omega) (by dsimp only;omega) (Jh (pm:= []) (bx:= [((1,nx2+2), .c [int 1,int 0,int 1,int 1,int 1]),((0,nx2+1), .c (JcO JcG))]) _ _ rfl rfl (List.Sublist.refl _) (List.Sublist.refl _) (BxLe.refl _) trivial ⟨AVle.refl _,AVle.refl _,AVle.refl _,AVle.refl _,Jk rfl,trivial⟩)
   ·refine AW.le (Jh (n:=75) (nn:=3) (pm:= []) (bx:= [((1,nx2+2), .c [int 1,int 0,int 1,int 1,int 1]),((0,nx2+1), .c (JcO JcG))]) (L:= [(3,int 0),(4, .bp (0,nx2+1) 0),(6,int 0),(7, .bp (1,nx2+2) 0),(8,int (2:Nat))]) _ _ rfl rfl (List.Sublist.refl _) (List.Sublist.refl _) (BxLe.refl _) trivial ⟨AVle.refl _,AVle.refl _,AVle.refl _,AVle.refl _,AVle.refl _,trivial⟩) ?_
    refine stp ?_
    (refine Jag 9 ?_ ?_ ?_ ?_;(· kernel_rfl);(· kernel_rfl);(· kernel_rfl))
    refine stp ?_
    exact back (3,nx4) (by dsimp only;omega) (by dsimp only;omega) (Jh (pm:= []) (bx:= [((1,nx2+2), .c [int 1,int 0,int 1,int 1,int 1]),((0,nx2+1), .c (JcO JcG))]) _ _ rfl rfl (List.Sublist.refl _) (List.Sublist.refl _) (BxLe.refl _) trivial ⟨AVle.refl _,AVle.refl _,AVle.refl _,AVle.refl _,Jk rfl,trivial⟩)
   ·refine AW.le (Jh (n:=75) (nn:=3) (pm:= []) (bx:= [((1,nx2+2), .c [int 1,int 0,int 1,int 1,int 1]),((0,nx2+1), .c (JcO JcG))]) (L:= [(3,int 0),(4, .bp (0,nx2+1) 0),(6,int 0),(7, .bp (1,nx2+2) 0),(8,int (3:Nat))]) _ _ rfl rfl (List.Sublist.refl _) (List.Sublist.refl _) (BxLe.refl _) trivial ⟨AVle.refl _,AVle.refl _,AVle.refl _,AVle.refl _,AVle.refl _,trivial⟩) ?_
    refine stp ?_
    (refine Jag 9 ?_ ?_ ?_ ?_;(· kernel_rfl);(· kernel_rfl);(· kernel_rfl))
    refine stp ?_
    exact back (4,nx4) (by dsimp only;omega) (by dsimp only;omega) (Jh (pm:= []) (bx:= [((1,nx2+2), .c [int 1,int 0,int 1,int 1,int 1]),((0,nx2+1), .c (JcO JcG))]) _ _ rfl rfl (List.Sublist.refl _) (List.Sublist.refl _) (BxLe.refl _) trivial ⟨AVle.refl _,AVle.refl _,AVle.refl _,AVle.refl _,Jk rfl,trivial⟩)
   ·refine AW.le (Jh (n:=75) (nn:=3) (pm:= []) (bx:= [((1,nx2+2), .c [int 1,int 0,int 1,int 1,int 1]),((0,nx2+1), .c (JcO JcG))]) (L:= [(3,int 0),(4, .bp (0,nx2+1) 0),(6,int 0),(7, .bp (1,nx2+2) 0),(8,int (4:Nat))]) _ _ rfl rfl (List.Sublist.refl _) (List.Sublist.refl _) (BxLe.refl _) trivial ⟨AVle.refl _,AVle.refl _,AVle.refl _,AVle.refl _,AVle.refl _,trivial⟩) ?_
    refine stp ?_
    (refine Jag 9 ?_ ?_ ?_ ?_;(· kernel_rfl);(· kernel_rfl);(· kernel_rfl))
    refine stp ?_
    exact back (5,nx4) (by dsimp only;omega) (by dsimp only;omega) (Jh (pm:= []) (bx:= [((1,nx2+2), .c [int 1,int 0,int 1,int 1,int 1]),((0,nx2+1), .c (JcO JcG))]) _ _ rfl rfl (List.Sublist.refl _) (List.Sublist.refl _) (BxLe.refl _) trivial ⟨AVle.refl _,AVle.refl _,AVle.refl _,AVle.refl _,Jk rfl,trivial⟩)
   ·refine stp ?_
    exact ⟨nx4,trivial,Jh (pm:= []) _ _ rfl rfl (.cons _ (List.Sublist.refl _)) (List.Sublist.refl _) (BxLe.refl _) trivial ⟨AVle.refl _,AVle.refl _,AVle.refl _,trivial⟩⟩
 ·rintro nx4 -
  refine stp ?_
  exact Je rfl (AVle.refl _)
end Go.Proofs.W

namespace Go.Proofs.W
open Go.Vl
set_option maxRecDepth 100000
theorem JlL (c:Cnd):Tells Tryz.prog 36 [JL c] (JL c):=by
 refine Jg Tryz.func36 rfl rfl fun nx=> ?_
 refine stp ?_
 exact Jl rfl ⟨rfl,trivial⟩ (AVle.refl _)
end Go.Proofs.W

namespace Go.Proofs.W
open Go.Vl
set_option maxRecDepth 100000
end Go.Proofs.W

namespace Go.Proofs.W
open Go.Vl
set_option maxRecDepth 100000
end Go.Proofs.W

namespace Go.Proofs.W
open Go.Vl
set_option maxRecDepth 100000
end Go.Proofs.W

namespace Go.Proofs.W
open Go.Vl
set_option maxRecDepth 100000
end Go.Proofs.W

namespace Go.Proofs.W
open Go.Vl
set_option maxRecDepth 100000
end Go.Proofs.W

namespace Go.Proofs.W
open Go.Vl
set_option maxRecDepth 100000
end Go.Proofs.W

namespace Go.Proofs.W
open Go.Vl
set_option maxRecDepth 100000
end Go.Proofs.W

namespace Go.Proofs.W
open Go.Vl
set_option maxRecDepth 100000
end Go.Proofs.W

namespace Go.Proofs.W
open Go.Vl
set_option maxRecDepth 100000
end Go.Proofs.W

namespace Go.Proofs.W
open Go.Vl
set_option maxRecDepth 100000
theorem JuS (m:Nat):m&&& 4294967295=m % 4294967296:=by
 rw [show (4294967295:Nat)=2 ^ 32 - 1 by decide,Nat.and_two_pow_sub_one_eq_mod]
theorem JiS (c:Cnd) (ho:c.ok):Tells Tryz.prog 38 [JL c] (.tup [JL (JaB c).1,int (JaB c).2]):=by
 obtain ⟨arg,op,mask,value⟩:=c
 have ho1:=ho.1
 dsimp only at ho1
 have ht:((mask:Int)).tmod 4294967296=((mask&&& 4294967295:Nat):Int):=by rw [JuS];exact (Int.ofNat_tmod mask 4294967296).symm
 refine Jg Tryz.func38 rfl rfl fun nx=> ?_
 (repeat' (refine stp ?_;intro c h;cases c))
 all_goals
  refine stp ?_
  refine Jl rfl ⟨rfl,trivial⟩ (AVle.of_eq ?_)
  (try simp only [JaL, JaM, JaN, JaO, JaC, JaD] at *)
  first
   | (rw [JnD (by omega)];first | (rw [if_pos (by omega)];rfl) | (rw [if_neg (by omega)];rfl))
   | (exfalso;omega)
   | (rw [Jep (by omega),if_neg (by omega)];rfl)
   | (have hz:((mask:Int)).tmod 4294967296≠0:=by assumption
      rw [ht] at hz
      rw [Jep (by omega),if_pos (by omega),if_neg (by omega)]
      refine Eq.trans ?_ (congrArg (fun z:Int=> AV.tup [.ag [int arg,int op, .v (.int .u64 z), .v (.int .u64 value)],int 0]) ht)
      rfl)
   | (have hz:((mask:Int)).tmod 4294967296=0:=by assumption
      rw [ht] at hz
      rw [Jep (by omega),if_pos (by omega),if_pos (by omega)]
      rfl)
end Go.Proofs.W
