import Derived.Test.YtmipfkagmedcnaaGreatDoorXE
import Derived.Test.YtmipfkagmedcnaaGreatDoorXD
import Derived.Test.YtmipfkagmedcnaaGreatDoorXC
import Derived.Lib.ItoaMem
import Derived.Sort.WalkA
import Derived.Shelf.Strings.OnBuilder
import Derived.Shelf.SlicesG.CompactS
import Derived.Ground.SlgnProg
set_option linter.unusedVariables false
set_option linter.unusedSimpArgs false
namespace Go.Proofs.W
open Go.Vl
set_option maxRecDepth 100000
theorem JbB (a:Nat) (z:Int) (h0:0≤z) (h:z < 1073741824):Tells Tryz.prog 49 [int a,u32 z] (u32 (Jam a z:Nat)):=by
 obtain ⟨n,rfl⟩:∃n:Nat,z=n:=⟨z.toNat,by omega⟩
 have hb:Jbr .or .u32 (n:Int) 1073741824=((n||| 1073741824:Nat):Int):=by
  have hlt:n||| 1073741824 < 2 ^ 32:=Nat.or_lt_two_pow Om Dc
  exact Jkl (k:= .u32) (a:=n) (b:=1073741824) (by show n < 2 ^ 32;omega) Dc (by simp [IntKind.wrap,IntKind.signed,IntKind.bits] at hlt⊢;omega)
 refine Jg Tryz.func49 rfl rfl fun nx=> ?_
 unfold Jam
 refine stp ?_
 intro c e;cases c
 ·have e1:¬a=1:=fun h=> by subst h;cases e
  rw [if_neg e1]
  refine stp ?_
  exact Je rfl Rf
 ·have e1:a=1:=by
   have:=of_decide_eq_true (p:=(a:Int)=1) e.symm
   omega
  rw [if_pos e1]
  refine stp ?_
  exact Je rfl (AVle.of_eq (congrArg u32 hb))
abbrev JR:=List (Nat×AV)×Option (Nat×Nat×List AV)
def Ja (nm:Nat):JR→AV
 | (_,none)=> .os 0 0 (fun _=> .any) none
 | (R,some (s,cap,_))=> .hs (nm,s) 0 R.length cap
def JaC (nm:Nat):JR→List (Vl.Id×Own)
 | (_,none)=> []
 | (R,some (s,_,tl))=> [((nm,s), .c (Jt R++tl))]
def Jbt:JR→Prop
 | (R,none)=> R= []
 | (R,some (_,cap,tl))=> R.length≤cap∧cap * 2≤R.length * 2+tl.length
def JB (st:Nat→JR):List (Vl.Id×Own):=(List.range 7).flatMap fun j=> JaC (10+j) (st j)
def Jm (k:Nat) (st:Nat→JR):List (Vl.Id×Own):=((List.range 7).filter (·≠k)).flatMap fun j=> JaC (10+j) (st j)
def Jo (d:Nat) (x:Bool) (st:Nat→JR):List AV:= [u32 (d:Nat),Jb x,Ja 10 (st 0),Ja 11 (st 1),Ja 12 (st 2),Ja 13 (st 3),Ja 14 (st 4),Ja 15 (st 5),Ja 16 (st 6)]
def Jx (st:Nat→JR) (k:Nat) (r:JR):Nat→JR:=fun j=> if j=k then r else st j
theorem JcT {k:Nat} (hk:k < 7) (st:Nat→JR):(JB st).Perm (JaC (10+k) (st k)++Jm k st):=by
 unfold JB Jm
 have h:(List.range 7).Perm (k::(List.range 7).filter (·≠k)):=by
  have:k=0∨k=1∨k=2∨k=3∨k=4∨k=5∨k=6:=by omega
  rcases this with rfl | rfl | rfl | rfl | rfl | rfl | rfl <;> decide
 exact (h.flatMap_right _).trans (.of_eq (List.flatMap_cons ..))
theorem JuZ {k:Nat} (st:Nat→JR) (r:JR):Jm k (Jx st k r)=Jm k st:=by
 unfold Jm
 rw [List.flatMap_def,List.flatMap_def]
 refine congrArg List.flatten (List.map_congr_left fun j hj=> ?_)
 have:j≠k:=by simpa using (List.mem_filter.1 hj).2
 unfold Jx
 rw [if_neg this]
theorem Ji4 {k:Nat} (hk:k < 7) (st:Nat→JR) (r:JR):(JB (Jx st k r)).Perm (JaC (10+k) r++Jm k st):=by
 have h:=JcT hk (Jx st k r)
 rw [JuZ] at h
 unfold Jx at h
 rwa [if_pos rfl] at h
theorem BxLe.of_eq {a b:List (Vl.Id×Own)} (h:a=b):BxLe a b:=h ▸ Bf
theorem JbH {k:Nat} {st:Nat→JR} {r:JR} (h:∀j,j < 7→Jbt (st j)) (hr:Jbt r):∀j,j < 7→Jbt (Jx st k r j):=fun j hj=> by
 unfold Jx
 split
 ·exact hr
 ·exact h j hj
theorem JiH (R:List (Nat×AV)) (e:Nat×AV):Jt (R++ [e])=Jt R++ [.v (.int .u32 e.1),e.2]:=by
 unfold Jt;rw [List.flatMap_append];rfl
def Jdn (e:PEnt):Nat×AV:=(e.num,Js e.rules)
def J9 (s:PSub):Nat×AV:=(s.num,u32 (s.code:Nat))
theorem Jao {a d:Nat} {x:Bool} {row:TRow} {rs:List PRul} (h:row.num a < 0∨(a=1∧x=false)∨Jas a rs d= []):Jaa a d x row rs= []:=if_pos h
theorem Jb5 {a d:Nat} {x:Bool} {row:TRow} {rs:List PRul} (h1:¬row.num a < 0) (h2:¬(a=1∧x=false)) (h3:Jas a rs d≠ []):Jaa a d x row rs= [⟨Jam a (row.num a),Jas a rs d⟩]:=if_neg fun h=> h.elim h1 fun h=> h.elim h2 h3
theorem Jaw {k d:Nat} {x:Bool} {row:TRow} {rs:List PRul} {st st1:Nat→JR} (h:∀j,j < k→(st1 j).1=(st j).1++(Jaa j d x row rs).map Jdn) (hk:st1 k=st k) (he:Jaa k d x row rs= []):∀j,j < k+1→(st1 j).1=(st j).1++(Jaa j d x row rs).map Jdn:=fun j hj=> by
 rcases Nat.lt_or_ge j k with h1 | h1
 ·exact h j h1
 ·obtain rfl:j=k:=by omega
  rw [he,hk];exact (List.append_nil _).symm
theorem Jch {z:Int} (h0:0≤z) (h:z < 1073741824):IntKind.u32.wrap z=z:=by
 simp [IntKind.wrap,IntKind.signed,IntKind.bits];omega
theorem JdL:JaY Tryz.prog 78=true:=by kernel_rfl
theorem gc_ent:Tryz.prog.cellsOf 78=2:=by kernel_rfl
theorem JdM:Tryz.prog.bytesOf 78=32:=by kernel_rfl
theorem Jj5:JaY Tryz.prog 120=true:=by kernel_rfl
theorem gc_sub:Tryz.prog.cellsOf 120=2:=by kernel_rfl
theorem Jj6:Tryz.prog.bytesOf 120=8:=by kernel_rfl
theorem Jdp {f':Nat→AV} {e:Nat×AV} {m:Nat} {T:TypeId} (hT:Tryz.prog.cellsOf T=2) (h:JL 1 f'= [.v (.int .u32 e.1),e.2]):OwnLe (.c (JL 1 f'++List.replicate (m * Tryz.prog.cellsOf T) .any)) (.c (Jt [e]++List.replicate (m * 2) .any)):=by
 rw [hT,h];exact OwnLe.refl _
theorem JfL {f':Nat→AV} {e:Nat×AV} {R:List (Nat×AV)} {tl:List AV} {T:TypeId} (hT:Tryz.prog.cellsOf T=2) (h:JL 1 f'= [.v (.int .u32 e.1),e.2]):OwnLe (.c (JX (Jt R++tl) (R.length * Tryz.prog.cellsOf T) (JL 1 f'))) (.c (Jt (R++ [e])++tl.drop 2)):=by
 have e1:JX (Jt R++tl) (R.length * Tryz.prog.cellsOf T) (JL 1 f')=Jt (R++ [e])++tl.drop 2:=by
  rw [hT,h,show R.length * 2=(Jt R).length+0 by rw [Jbg];rfl,Jfd,JiH,Jap]
  simp
 rw [e1];exact OwnLe.refl _
theorem JdW {f':Nat→AV} {e:Nat×AV} {R:List (Nat×AV)} {tl:List AV} {m:Nat} {T:TypeId} (hT:Tryz.prog.cellsOf T=2) (h:JL 1 f'= [.v (.int .u32 e.1),e.2]):OwnLe (.c ((Jt R++tl).take (R.length * Tryz.prog.cellsOf T)++JL 1 f'++List.replicate (m * Tryz.prog.cellsOf T) .any)) (.c (Jt (R++ [e])++List.replicate (m * 2) .any)):=by
 have e1:(Jt R++tl).take (R.length * Tryz.prog.cellsOf T)=Jt R:=by
  rw [hT,← Jbg,List.take_left]
 rw [e1,hT,h,JiH];exact OwnLe.refl _
theorem Ja0 {a b s:Nat} {R:List (Nat×AV)} {e:Nat×AV} {cap:Nat}:AVle (.hs (a,s) 0 (R.length+1) cap) (.hs (b,s) 0 (R++ [e]).length cap):=by
 rw [List.length_append];exact AVle.hs_nm rfl
theorem Jby {k:Nat} (hk:k < 7) {n nx nn:Nat} {L:List (Nat×AV)} {F:List (Vl.Id×Own)} {st:Nat→JR} {r:JR} {df:Option (List DA)}:ELe (mk n L ⟨F++(JaC (10+k) r++Jm k st), [],nx,nn⟩ df) (mk n L ⟨F++JB (Jx st k r), [],nx,nn⟩ df):=
 Jen (E:=mk n L ⟨F++(JaC (10+k) r++Jm k st), [],nx,nn⟩ df) (h':=⟨F++JB (Jx st k r), [],nx,nn⟩) ⟨(List.Perm.append_left _ (Ji4 hk st r)).map _, .refl _,rfl⟩
theorem Ja4 {k d:Nat} {x:Bool} {row:TRow} {rs:List PRul} {st st1:Nat→JR} {R:List (Nat×AV)} {md:Option (Nat×Nat×List AV)} {z:Nat} {W:List PRul} {md':Option (Nat×Nat×List AV)} (h:∀j,j < k→(st1 j).1=(st j).1++(Jaa j d x row rs).map Jdn) (hk:st1 k=st k) (hR:st1 k=(R,md)) (he:Jaa k d x row rs= [⟨z,W⟩]):∀j,j < k+1→(Jx st1 k (R++ [(z,Js W)],md') j).1=(st j).1++(Jaa j d x row rs).map Jdn:=fun j hj=> by
 unfold Jx
 rcases Nat.lt_or_ge j k with h1 | h1
 ·rw [if_neg Om];exact h j h1
 ·obtain rfl:j=k:=by omega
  rw [if_pos rfl,he,← hk,hR];rfl
theorem Ja5 {k:Nat} {st st1:Nat→JR} {r:JR} (h:∀j,k≤j→st1 j=st j):∀j,k+1≤j→Jx st1 k r j=st j:=fun j hj=> by
 unfold Jx
 rw [if_neg Om];exact h j Om
theorem bx4 {i1 i2 i3 i4 i5:Vl.Id} {o1 o2 o2' o3 o4 o4':Own} {R:List (Vl.Id×Own)} (h4:i4.2=i5.2) (h2:OwnLe o2 o2') (h:OwnLe o4 o4'):BxLe ([(i1,o1),(i2,o2),(i3,o3)]++((i4,o4)::R)) ([(i1,o1),(i2,o2'),(i3,o3)]++([(i5,o4')]++R)):=
 show BxLe ((i1,o1)::(i2,o2)::(i3,o3)::(i4,o4)::R) ((i1,o1)::(i2,o2')::(i3,o3)::(i5,o4')::R) from ⟨rfl,OwnLe.refl _,rfl,h2,rfl,OwnLe.refl _,h4,h,Bf⟩
theorem JkM {d:Nat} {x:Bool} {st:Nat→JR} {r:JR} {av:AV} (h:AVle av (Ja 10 r)):OwnLe (.c [u32 (d:Nat),Jb x,av,Ja 11 (st 1),Ja 12 (st 2),Ja 13 (st 3),Ja 14 (st 4),Ja 15 (st 5),Ja 16 (st 6)]) (.c (Jo d x (Jx st 0 r))):=by
 rw [show Jo d x (Jx st 0 r)= [u32 (d:Nat),Jb x,Ja 10 r,Ja 11 (st 1),Ja 12 (st 2),Ja 13 (st 3),Ja 14 (st 4),Ja 15 (st 5),Ja 16 (st 6)] from rfl]
 exact ⟨Rf,Rf,h,Rf,Rf,Rf,Rf,Rf,Rf,trivial⟩
theorem JkN {d:Nat} {x:Bool} {st:Nat→JR} {r:JR} {av:AV} (h:AVle av (Ja 11 r)):OwnLe (.c [u32 (d:Nat),Jb x,Ja 10 (st 0),av,Ja 12 (st 2),Ja 13 (st 3),Ja 14 (st 4),Ja 15 (st 5),Ja 16 (st 6)]) (.c (Jo d x (Jx st 1 r))):=by
 rw [show Jo d x (Jx st 1 r)= [u32 (d:Nat),Jb x,Ja 10 (st 0),Ja 11 r,Ja 12 (st 2),Ja 13 (st 3),Ja 14 (st 4),Ja 15 (st 5),Ja 16 (st 6)] from rfl]
 exact ⟨Rf,Rf,Rf,h,Rf,Rf,Rf,Rf,Rf,trivial⟩
theorem JkO {d:Nat} {x:Bool} {st:Nat→JR} {r:JR} {av:AV} (h:AVle av (Ja 12 r)):OwnLe (.c [u32 (d:Nat),Jb x,Ja 10 (st 0),Ja 11 (st 1),av,Ja 13 (st 3),Ja 14 (st 4),Ja 15 (st 5),Ja 16 (st 6)]) (.c (Jo d x (Jx st 2 r))):=by
 rw [show Jo d x (Jx st 2 r)= [u32 (d:Nat),Jb x,Ja 10 (st 0),Ja 11 (st 1),Ja 12 r,Ja 13 (st 3),Ja 14 (st 4),Ja 15 (st 5),Ja 16 (st 6)] from rfl]
 exact ⟨Rf,Rf,Rf,Rf,h,Rf,Rf,Rf,Rf,trivial⟩
theorem JkP {d:Nat} {x:Bool} {st:Nat→JR} {r:JR} {av:AV} (h:AVle av (Ja 13 r)):OwnLe (.c [u32 (d:Nat),Jb x,Ja 10 (st 0),Ja 11 (st 1),Ja 12 (st 2),av,Ja 14 (st 4),Ja 15 (st 5),Ja 16 (st 6)]) (.c (Jo d x (Jx st 3 r))):=by
 rw [show Jo d x (Jx st 3 r)= [u32 (d:Nat),Jb x,Ja 10 (st 0),Ja 11 (st 1),Ja 12 (st 2),Ja 13 r,Ja 14 (st 4),Ja 15 (st 5),Ja 16 (st 6)] from rfl]
 exact ⟨Rf,Rf,Rf,Rf,Rf,h,Rf,Rf,Rf,trivial⟩
theorem JkQ {d:Nat} {x:Bool} {st:Nat→JR} {r:JR} {av:AV} (h:AVle av (Ja 14 r)):OwnLe (.c [u32 (d:Nat),Jb x,Ja 10 (st 0),Ja 11 (st 1),Ja 12 (st 2),Ja 13 (st 3),av,Ja 15 (st 5),Ja 16 (st 6)]) (.c (Jo d x (Jx st 4 r))):=by
 rw [show Jo d x (Jx st 4 r)= [u32 (d:Nat),Jb x,Ja 10 (st 0),Ja 11 (st 1),Ja 12 (st 2),Ja 13 (st 3),Ja 14 r,Ja 15 (st 5),Ja 16 (st 6)] from rfl]
 exact ⟨Rf,Rf,Rf,Rf,Rf,Rf,h,Rf,Rf,trivial⟩
theorem JkR {d:Nat} {x:Bool} {st:Nat→JR} {r:JR} {av:AV} (h:AVle av (Ja 15 r)):OwnLe (.c [u32 (d:Nat),Jb x,Ja 10 (st 0),Ja 11 (st 1),Ja 12 (st 2),Ja 13 (st 3),Ja 14 (st 4),av,Ja 16 (st 6)]) (.c (Jo d x (Jx st 5 r))):=by
 rw [show Jo d x (Jx st 5 r)= [u32 (d:Nat),Jb x,Ja 10 (st 0),Ja 11 (st 1),Ja 12 (st 2),Ja 13 (st 3),Ja 14 (st 4),Ja 15 r,Ja 16 (st 6)] from rfl]
 exact ⟨Rf,Rf,Rf,Rf,Rf,Rf,Rf,h,Rf,trivial⟩
theorem JkS {d:Nat} {x:Bool} {st:Nat→JR} {r:JR} {av:AV} (h:AVle av (Ja 16 r)):OwnLe (.c [u32 (d:Nat),Jb x,Ja 10 (st 0),Ja 11 (st 1),Ja 12 (st 2),Ja 13 (st 3),Ja 14 (st 4),Ja 15 (st 5),av]) (.c (Jo d x (Jx st 6 r))):=by
 rw [show Jo d x (Jx st 6 r)= [u32 (d:Nat),Jb x,Ja 10 (st 0),Ja 11 (st 1),Ja 12 (st 2),Ja 13 (st 3),Ja 14 (st 4),Ja 15 (st 5),Ja 16 r] from rfl]
 exact ⟨Rf,Rf,Rf,Rf,Rf,Rf,Rf,Rf,h,trivial⟩
def Jqz (d:Nat) (x:Bool) (row:TRow) (rs:List PRul) (st st':Nat→JR):Prop:=(∀j,j < 7→Jbt (st' j))∧(∀k,k < 5→(st' k).1=(st k).1++(Jaa k d x row rs).map Jdn)∧∀m,m < 2→(st' (5+m)).1=(st (5+m)).1++(Jca m row rs).map J9
theorem Jfs {m d:Nat} {x:Bool} {row:TRow} {rs:List PRul} {st st1:Nat→JR} {R:List (Nat×AV)} {md md':Option (Nat×Nat×List AV)} {q:PSub} (hm:m < 2) (hok1:∀j,j < 7→Jbt (st1 j)) (hdone:∀k,k < 5→(st1 k).1=(st k).1++(Jaa k d x row rs).map Jdn)
 (hrest:∀j,j < 2→st1 (5+j)=st (5+j)) (hR:st1 (5+m)=(R,md)) (hrow:Jbt (R++ [J9 q],md')) (hs:Jca m row rs= [q]) (ho:∀j,j < 2→j≠m→Jca j row rs= []):Jqz d x row rs st (Jx st1 (5+m) (R++ [J9 q],md')):=by
 refine ⟨JbH hok1 hrow,fun k hk=> ?_,fun j hj=> ?_⟩
 ·unfold Jx;rw [if_neg Om];exact hdone k hk
 ·unfold Jx
  by_cases h:j=m
  ·subst h
   rw [if_pos rfl,hs,← hrest j hj,hR];rfl
  ·rw [if_neg Om,ho j hj h,hrest j hj];exact (List.append_nil _).symm
theorem Jd5 {h:Heap} {bx:List (Vl.Id×Own)} {nx nn:Nat} (bx'' bx':List (Vl.Id×Own)) (hx:h.nx=nx) (h0:bx''.Perm h.bx) (hb:bx'.Sublist bx'') (hp:h.pm= []) (eb:BxLe bx' bx):HLe h ⟨bx, [],nx,nn⟩:=
 HLe.trans (JiO (h':=⟨bx'',h.pm,h.nx,h.nn⟩) ⟨h0.map _, .refl _,rfl⟩) (Jaz bx' [] hx hb (List.nil_sublist _) eb trivial)
theorem Jft {k:Nat} (hk:k < 7) {nx nn:Nat} {F:List (Vl.Id×Own)} {st:Nat→JR} {r:JR}:HLe ⟨F++(JaC (10+k) r++Jm k st), [],nx,nn⟩ ⟨F++JB (Jx st k r), [],nx,nn⟩:=
 JiO ⟨(List.Perm.append_left _ (Ji4 hk st r)).map _, .refl _,rfl⟩
theorem bx3 {i2 i3 i4 i5:Vl.Id} {o2 o2' o3 o4 o4':Own} {R:List (Vl.Id×Own)} (h4:i4.2=i5.2) (h2:OwnLe o2 o2') (h:OwnLe o4 o4'):BxLe ([(i2,o2),(i3,o3)]++((i4,o4)::R)) ([(i2,o2'),(i3,o3)]++([(i5,o4')]++R)):=
 show BxLe ((i2,o2)::(i3,o3)::(i4,o4)::R) ((i2,o2')::(i3,o3)::(i5,o4')::R) from ⟨rfl,h2,rfl,OwnLe.refl _,h4,h,Bf⟩
set_option maxHeartbeats 8000000 in
theorem JqA (dk dn:Int) (x:Bool) (ps:List Rul) (d:Nat) (row:TRow) (rs:List PRul) (s0 s1 nx0:Nat) (st:Nat→JR) (hok:∀j,j < 7→Jbt (st j)) (hlen:∀j,j < 7→(st j).1.length≤1000000)
 (hn:∀k,row.num k < 1073741824) (hm:row.mux=0∨row.mux=1∨row.mux=2) (hs:0≤row.sub∧row.sub≤255) (hr:rs≠ []) (hl:rs.length≤1000000) (hc:∀r∈rs,r.conds.length≤1000000∧∀c∈r.conds,c.ok):
 ECall Tryz.prog 47 [Jp row,Js rs, .bp (0,s0) 0, .bp (1,s1) 0] ⟨[((1,s1), .c (Jo d x st)),((0,s0), .c [int dk,int dn,Jb x,Ji ps])]++JB st, [],nx0,20⟩
  fun r h'=> r= .tup []∧∃st' nx' nn',Jqz d x row rs st st'∧h'=⟨[((1,s1), .c (Jo d x st')),((0,s0), .c [int dk,int dn,Jb x,Ji ps])]++JB st', [],nx',nn'⟩:=by
 obtain ⟨nm,a0,a1,a2,a3,a4,mux,sub⟩:=row
 refine ECall.wk (JT Tryz.func47 rfl rfl ?_)
 refine stp ?_
 refine JcX (fun y:(Nat→JR)×Nat=> mk 75 [(1,Js rs),(2, .bp (0,s0) 0),(3, .bp (1,s1) 0),(4, .bp (20,nx0) 0)] ⟨[((20,nx0), .c [Jf nm,int a0,int a1,int a2,int a3,int a4,int mux,int sub]),((1,s1), .c (Jo d x y.1)),((0,s0), .c [int dk,int dn,Jb x,Ji ps])]++JB y.1, [],y.2,21⟩) (fun y=> (∀j,j < 7→Jbt (y.1 j))∧(∀k,k < 5→(y.1 k).1=(st k).1++(Jaa k d x ⟨nm,a0,a1,a2,a3,a4,mux,sub⟩ rs).map Jdn)∧∀m,m < 2→y.1 (5+m)=st (5+m)) ?_ ?_
 ·refine Jy (fun y:Nat×(Nat→JR)×Nat=> mk 75 [(1,Js rs),(2, .bp (0,s0) 0),(3, .bp (1,s1) 0),(4, .bp (20,nx0) 0),(9,int y.1)] ⟨[((20,nx0), .c [Jf nm,int a0,int a1,int a2,int a3,int a4,int mux,int sub]),((1,s1), .c (Jo d x y.2.1)),((0,s0), .c [int dk,int dn,Jb x,Ji ps])]++JB y.2.1, [],y.2.2,21⟩) (fun y=> y.1≤5∧(∀j,j < 7→Jbt (y.2.1 j))∧(∀k,k < y.1→(y.2.1 k).1=(st k).1++(Jaa k d x ⟨nm,a0,a1,a2,a3,a4,mux,sub⟩ rs).map Jdn)∧∀j,y.1≤j→y.2.1 j=st j) (fun y=> 5 - y.1) ?_ ?_
  ·exact ⟨(0,st,nx0+1),⟨Nat.zero_le _,hok,fun k h=> absurd h (Nat.not_lt_zero _),fun j _=> rfl⟩,Et rfl rfl Bf trivial ⟨Rf,Rf,Rf,Rf,Rf,trivial⟩⟩
  ·rintro ⟨a,st1,nx2⟩ ⟨h1,hok1,hdone,hrest⟩
   dsimp only at h1 hok1 hdone hrest
   by_cases h5:a=5
   ·subst h5
    refine stp ?_
    exact ⟨(st1,nx2),⟨hok1,hdone,fun m hm=> hrest _ Om⟩,Et rfl rfl Bf trivial ⟨Rf,Rf,Rf,Rf,trivial⟩⟩
   ·rcases (by omega:a=0∨a=1∨a=2∨a=3∨a=4) with rfl | rfl | rfl | rfl | rfl
    ·have hP:=JcT (k:=0) Dc st1
     have hrk:Jbt (st1 0):=hok1 _ Dc
     have hrs:st1 0=st 0:=hrest _ (Nat.le_refl _)
     have hln:(st1 0).1.length≤1000000:=by rw [hrs];exact hlen _ Dc
     rcases hk:st1 0 with ⟨R,_ | ⟨s,cap,tl⟩⟩
     ·rw [hk] at hP hrk hln
      dsimp only at hln
      have eo:Jo d x st1= [u32 (d:Nat),Jb x, .os 0 0 (fun _=> .any) none,Ja 11 (st1 1),Ja 12 (st1 2),Ja 13 (st1 3),Ja 14 (st1 4),Ja 15 (st1 5),Ja 16 (st1 6)]:=by simp only [Jo,hk,Ja]
      refine AW.le (E':=mk 75 [(1,Js rs),(2, .bp (0,s0) 0),(3, .bp (1,s1) 0),(4, .bp (20,nx0) 0),(9,int (0:Nat))] (⟨[((20,nx0), .c [Jf nm,int a0,int a1,int a2,int a3,int a4,int mux,int sub]),((1,s1), .c [u32 (d:Nat),Jb x, .os 0 0 (fun _=> .any) none,Ja 11 (st1 1),Ja 12 (st1 2),Ja 13 (st1 3),Ja 14 (st1 4),Ja 15 (st1 5),Ja 16 (st1 6)]),((0,s0), .c [int dk,int dn,Jb x,Ji ps])]++(Jm 0 st1), [],nx2,21⟩:Heap)) (Jn ([((20,nx0), .c [Jf nm,int a0,int a1,int a2,int a3,int a4,int mux,int sub]),((1,s1), .c (Jo d x st1)),((0,s0), .c [int dk,int dn,Jb x,Ji ps])]++(Jm 0 st1)) ([((20,nx0), .c [Jf nm,int a0,int a1,int a2,int a3,int a4,int mux,int sub]),((1,s1), .c (Jo d x st1)),((0,s0), .c [int dk,int dn,Jb x,Ji ps])]++(Jm 0 st1)) [] rfl rfl (List.Perm.append_left _ hP.symm) Sf Sf (BxLe.of_eq (by rw [eo])) trivial ⟨Rf,Rf,Rf,Rf,Rf,trivial⟩) ?_
      refine stp ?_
      intro c t1;cases c
      ·have t1:=Ju t1
       refine stp ?_
       refine Jd rfl rfl (Jb4 0 rs d Dc hl hc) ⟨Rf,Rf,Rf,trivial⟩ fun nx3=> ?_
       refine stp ?_
       intro c t2;cases c
       ·have t2:=Ju t2
        refine stp ?_
        exact back (1,st1,nx3) ⟨by dsimp only;omega,hok1,Jaw hdone hrs (Jao (.inr (.inr (List.eq_nil_of_length_eq_zero Om)))),fun j hj=> hrest j (by dsimp only at hj;omega)⟩ Dm (Jn ([((20,nx0), .c [Jf nm,int a0,int a1,int a2,int a3,int a4,int mux,int sub]),((1,s1), .c [u32 (d:Nat),Jb x, .os 0 0 (fun _=> .any) none,Ja 11 (st1 1),Ja 12 (st1 2),Ja 13 (st1 3),Ja 14 (st1 4),Ja 15 (st1 5),Ja 16 (st1 6)]),((0,s0), .c [int dk,int dn,Jb x,Ji ps])]++JB st1) ([((20,nx0), .c [Jf nm,int a0,int a1,int a2,int a3,int a4,int mux,int sub]),((1,s1), .c [u32 (d:Nat),Jb x, .os 0 0 (fun _=> .any) none,Ja 11 (st1 1),Ja 12 (st1 2),Ja 13 (st1 3),Ja 14 (st1 4),Ja 15 (st1 5),Ja 16 (st1 6)]),((0,s0), .c [int dk,int dn,Jb x,Ji ps])]++JB st1) [] rfl rfl (List.Perm.append_left _ hP) Sf Sf (BxLe.of_eq (by rw [eo])) trivial ⟨Rf,Rf,Rf,Rf,Jk rfl,trivial⟩)
       ·have t2:=Jv t2
        have hwh:=JbB 0 a0 Om (hn 0)
        have hen:Jaa 0 d x ⟨nm,a0,a1,a2,a3,a4,mux,sub⟩ rs= [⟨Jam 0 a0,Jas 0 rs d⟩]:=Jb5 t1 (fun h=> by cases h.1) (fun h=> by rw [h] at t2;exact absurd t2 Dc)
        generalize Jas 0 rs d=W at t2 hen
        generalize Jam 0 a0=z at hwh hen
        refine stp ?_
        refine J6 14 [((20,nx0), .c [Jf nm,int a0,int a1,int a2,int a3,int a4,int mux,int sub]),((1,s1), .c [u32 (d:Nat),Jb x, .os 0 0 (fun _=> .any) none,Ja 11 (st1 1),Ja 12 (st1 2),Ja 13 (st1 3),Ja 14 (st1 4),Ja 15 (st1 5),Ja 16 (st1 6)]),((0,s0), .c [int dk,int dn,Jb x,Ji ps])] (fun i=> match i with | 12=> true | _=> false) (fun i=> match i with | 8=> true | _=> false) [0,1,2,3,4,5,6,7,8,9,10,11,13,12] (by kernel_rfl) (by kernel_rfl) (HB.cons rfl (HB.cons rfl (HB.one rfl))) ?_
        refine stp ?_
        refine ⟨_,J5 rfl rfl rfl hwh ⟨Rf,AVle.of_eq (congrArg u32 (Jch Om (hn 0))),trivial⟩ (NoId.v _), ?_⟩
        refine stp ?_
        refine ⟨_,Jb7 (e:=78) (szx:=2) (m:=1) rfl rfl rfl (.inr ⟨_,rfl⟩) Tryz.underlying35 JdL gc_ent.symm Dc (Jz rfl) (by rw [JdM];omega) Om (fun _=> (HB.cons rfl (HB.cons rfl (HB.one rfl)))),fun r h' hr=> ?_⟩
        obtain ⟨ncap,hge,rfl,rfl⟩:=hr
        refine stp ?_
        exact back (1,Jx st1 0 ([]++ [(z,Js W)],some (nx3,ncap,List.replicate ((ncap - 1) * 2) .any)),nx3+1) ⟨by dsimp only;omega,JbH hok1 ⟨(by simpa using hge),by rw [List.length_replicate];show ncap * 2≤1 * 2+_;omega⟩,Ja4 (R:= []) hdone hrs (by rw [hk,hrk]) hen,Ja5 hrest⟩ Dm (ELe.trans (Jn (pm:= []) (bx:= [((20,nx0), .c [Jf nm,int a0,int a1,int a2,int a3,int a4,int mux,int sub]),((1,s1), .c (Jo d x (Jx st1 0 ([]++ [(z,Js W)],some (nx3,ncap,List.replicate ((ncap - 1) * 2) .any))))),((0,s0), .c [int dk,int dn,Jb x,Ji ps])]++(JaC 10 ([]++ [(z,Js W)],some (nx3,ncap,List.replicate ((ncap - 1) * 2) .any))++Jm 0 st1)) (L:= [(1,Js rs),(2, .bp (0,s0) 0),(3, .bp (1,s1) 0),(4, .bp (20,nx0) 0),(9,int (1:Nat))]) ([((20,nx0), .c [Jf nm,int a0,int a1,int a2,int a3,int a4,int mux,int sub]),((1,s1),Own.c [u32 (d:Nat),Jb x, .hs (21,nx3) 0 1 ncap,Ja 11 (st1 1),Ja 12 (st1 2),Ja 13 (st1 3),Ja 14 (st1 4),Ja 15 (st1 5),Ja 16 (st1 6)]),((0,s0), .c [int dk,int dn,Jb x,Ji ps])]++(((21,nx3), .c _)::Jm 0 st1)) ([((20,nx0), .c [Jf nm,int a0,int a1,int a2,int a3,int a4,int mux,int sub]),((1,s1),Own.c [u32 (d:Nat),Jb x, .hs (21,nx3) 0 1 ncap,Ja 11 (st1 1),Ja 12 (st1 2),Ja 13 (st1 3),Ja 14 (st1 4),Ja 15 (st1 5),Ja 16 (st1 6)]),((0,s0), .c [int dk,int dn,Jb x,Ji ps])]++(((21,nx3), .c _)::Jm 0 st1)) [] rfl rfl List.perm_middle Sf Sf (bx4 rfl (JkM (Ja0 (R:= []))) (Jdp gc_ent rfl)) trivial ⟨Rf,Rf,Rf,Rf,Jk rfl,trivial⟩) (Jby (k:=0) Dc))
      ·have t1:=Jv t1
       refine stp ?_
       exact back (1,st1,nx2) ⟨by dsimp only;omega,hok1,Jaw hdone hrs (Jao (.inl t1)),fun j hj=> hrest j (by dsimp only at hj;omega)⟩ Dm (Jn ([((20,nx0), .c [Jf nm,int a0,int a1,int a2,int a3,int a4,int mux,int sub]),((1,s1), .c [u32 (d:Nat),Jb x, .os 0 0 (fun _=> .any) none,Ja 11 (st1 1),Ja 12 (st1 2),Ja 13 (st1 3),Ja 14 (st1 4),Ja 15 (st1 5),Ja 16 (st1 6)]),((0,s0), .c [int dk,int dn,Jb x,Ji ps])]++JB st1) ([((20,nx0), .c [Jf nm,int a0,int a1,int a2,int a3,int a4,int mux,int sub]),((1,s1), .c [u32 (d:Nat),Jb x, .os 0 0 (fun _=> .any) none,Ja 11 (st1 1),Ja 12 (st1 2),Ja 13 (st1 3),Ja 14 (st1 4),Ja 15 (st1 5),Ja 16 (st1 6)]),((0,s0), .c [int dk,int dn,Jb x,Ji ps])]++JB st1) [] rfl rfl (List.Perm.append_left _ hP) Sf Sf (BxLe.of_eq (by rw [eo])) trivial ⟨Rf,Rf,Rf,Rf,Jk rfl,trivial⟩)
     ·rw [hk] at hP hrk hln
      dsimp only at hln
      have eo:Jo d x st1= [u32 (d:Nat),Jb x, .hs (10,s) 0 R.length cap,Ja 11 (st1 1),Ja 12 (st1 2),Ja 13 (st1 3),Ja 14 (st1 4),Ja 15 (st1 5),Ja 16 (st1 6)]:=by simp only [Jo,hk,Ja]
      refine AW.le (E':=mk 75 [(1,Js rs),(2, .bp (0,s0) 0),(3, .bp (1,s1) 0),(4, .bp (20,nx0) 0),(9,int (0:Nat))] (⟨[((20,nx0), .c [Jf nm,int a0,int a1,int a2,int a3,int a4,int mux,int sub]),((1,s1), .c [u32 (d:Nat),Jb x, .hs (10,s) 0 R.length cap,Ja 11 (st1 1),Ja 12 (st1 2),Ja 13 (st1 3),Ja 14 (st1 4),Ja 15 (st1 5),Ja 16 (st1 6)]),((0,s0), .c [int dk,int dn,Jb x,Ji ps])]++(((10,s),Own.c (Jt R++tl))::Jm 0 st1), [],nx2,21⟩:Heap)) (Jn ([((20,nx0), .c [Jf nm,int a0,int a1,int a2,int a3,int a4,int mux,int sub]),((1,s1), .c (Jo d x st1)),((0,s0), .c [int dk,int dn,Jb x,Ji ps])]++(((10,s),Own.c (Jt R++tl))::Jm 0 st1)) ([((20,nx0), .c [Jf nm,int a0,int a1,int a2,int a3,int a4,int mux,int sub]),((1,s1), .c (Jo d x st1)),((0,s0), .c [int dk,int dn,Jb x,Ji ps])]++(((10,s),Own.c (Jt R++tl))::Jm 0 st1)) [] rfl rfl (List.Perm.append_left _ hP.symm) Sf Sf (BxLe.of_eq (by rw [eo])) trivial ⟨Rf,Rf,Rf,Rf,Rf,trivial⟩) ?_
      refine stp ?_
      intro c t1;cases c
      ·have t1:=Ju t1
       refine stp ?_
       refine Jd rfl rfl (Jb4 0 rs d Dc hl hc) ⟨Rf,Rf,Rf,trivial⟩ fun nx3=> ?_
       refine stp ?_
       intro c t2;cases c
       ·have t2:=Ju t2
        refine stp ?_
        exact back (1,st1,nx3) ⟨by dsimp only;omega,hok1,Jaw hdone hrs (Jao (.inr (.inr (List.eq_nil_of_length_eq_zero Om)))),fun j hj=> hrest j (by dsimp only at hj;omega)⟩ Dm (Jn ([((20,nx0), .c [Jf nm,int a0,int a1,int a2,int a3,int a4,int mux,int sub]),((1,s1), .c [u32 (d:Nat),Jb x, .hs (10,s) 0 R.length cap,Ja 11 (st1 1),Ja 12 (st1 2),Ja 13 (st1 3),Ja 14 (st1 4),Ja 15 (st1 5),Ja 16 (st1 6)]),((0,s0), .c [int dk,int dn,Jb x,Ji ps])]++JB st1) ([((20,nx0), .c [Jf nm,int a0,int a1,int a2,int a3,int a4,int mux,int sub]),((1,s1), .c [u32 (d:Nat),Jb x, .hs (10,s) 0 R.length cap,Ja 11 (st1 1),Ja 12 (st1 2),Ja 13 (st1 3),Ja 14 (st1 4),Ja 15 (st1 5),Ja 16 (st1 6)]),((0,s0), .c [int dk,int dn,Jb x,Ji ps])]++JB st1) [] rfl rfl (List.Perm.append_left _ hP) Sf Sf (BxLe.of_eq (by rw [eo])) trivial ⟨Rf,Rf,Rf,Rf,Jk rfl,trivial⟩)
       ·have t2:=Jv t2
        have hwh:=JbB 0 a0 Om (hn 0)
        have hen:Jaa 0 d x ⟨nm,a0,a1,a2,a3,a4,mux,sub⟩ rs= [⟨Jam 0 a0,Jas 0 rs d⟩]:=Jb5 t1 (fun h=> by cases h.1) (fun h=> by rw [h] at t2;exact absurd t2 Dc)
        generalize Jas 0 rs d=W at t2 hen
        generalize Jam 0 a0=z at hwh hen
        refine stp ?_
        refine J6 14 [((20,nx0), .c [Jf nm,int a0,int a1,int a2,int a3,int a4,int mux,int sub]),((1,s1), .c [u32 (d:Nat),Jb x, .hs (10,s) 0 R.length cap,Ja 11 (st1 1),Ja 12 (st1 2),Ja 13 (st1 3),Ja 14 (st1 4),Ja 15 (st1 5),Ja 16 (st1 6)]),((0,s0), .c [int dk,int dn,Jb x,Ji ps])] (fun i=> match i with | 12=> true | _=> false) (fun i=> match i with | 8=> true | _=> false) [0,1,2,3,4,5,6,7,8,9,10,11,13,12] (by kernel_rfl) (by kernel_rfl) (HB.cons rfl (HB.cons rfl (HB.one rfl))) ?_
        refine stp ?_
        refine ⟨_,J5 rfl rfl rfl hwh ⟨Rf,AVle.of_eq (congrArg u32 (Jch Om (hn 0))),trivial⟩ (NoId.v _), ?_⟩
        refine stp ?_
        refine ⟨_,Jcv (e:=78) (szx:=2) (m:=1) (n:=R.length) (cap:=cap) (i:=(10,s)) (cs:=Jt R++tl) rfl rfl rfl (.inr ⟨_,rfl⟩) Tryz.underlying35 JdL gc_ent.symm Dc rfl hrk.1 (by rw [gc_ent,List.length_append,Jbg];exact hrk.2) (Jz rfl) (by rw [JdM];omega) Om (HB.cons rfl (HB.cons rfl (HB.one rfl))) (fun _=> (HB.cons rfl (HB.cons rfl (HB.one rfl)))),fun r h' hr=> ?_⟩
        rcases hr with ⟨hfit,rfl,rfl⟩ | ⟨ncap,hge,rfl,rfl⟩
        ·refine stp ?_
         exact back (1,Jx st1 0 (R++ [(z,Js W)],some (s,cap,tl.drop 2)),nx3) ⟨by dsimp only;omega,JbH hok1 ⟨by rw [List.length_append];exact hfit,by have:=hrk.2;rw [List.length_append,List.length_drop,List.length_singleton];omega⟩,Ja4 (R:=R) hdone hrs hk hen,Ja5 hrest⟩ Dm (ELe.trans (Jn (pm:= []) (bx:= [((20,nx0), .c [Jf nm,int a0,int a1,int a2,int a3,int a4,int mux,int sub]),((1,s1), .c (Jo d x (Jx st1 0 (R++ [(z,Js W)],some (s,cap,tl.drop 2))))),((0,s0), .c [int dk,int dn,Jb x,Ji ps])]++(JaC 10 (R++ [(z,Js W)],some (s,cap,tl.drop 2))++Jm 0 st1)) (L:= [(1,Js rs),(2, .bp (0,s0) 0),(3, .bp (1,s1) 0),(4, .bp (20,nx0) 0),(9,int (1:Nat))]) ([((20,nx0), .c [Jf nm,int a0,int a1,int a2,int a3,int a4,int mux,int sub]),((1,s1),Own.c [u32 (d:Nat),Jb x, .hs (10,s) 0 (R.length+1) cap,Ja 11 (st1 1),Ja 12 (st1 2),Ja 13 (st1 3),Ja 14 (st1 4),Ja 15 (st1 5),Ja 16 (st1 6)]),((0,s0), .c [int dk,int dn,Jb x,Ji ps])]++(((10,s), .c _)::Jm 0 st1)) ([((20,nx0), .c [Jf nm,int a0,int a1,int a2,int a3,int a4,int mux,int sub]),((1,s1),Own.c [u32 (d:Nat),Jb x, .hs (10,s) 0 (R.length+1) cap,Ja 11 (st1 1),Ja 12 (st1 2),Ja 13 (st1 3),Ja 14 (st1 4),Ja 15 (st1 5),Ja 16 (st1 6)]),((0,s0), .c [int dk,int dn,Jb x,Ji ps])]++(((10,s), .c _)::Jm 0 st1)) [] rfl rfl (List.Perm.refl _) Sf Sf (bx4 rfl (JkM (Ja0)) (JfL gc_ent rfl)) trivial ⟨Rf,Rf,Rf,Rf,Jk rfl,trivial⟩) (Jby (k:=0) Dc))
        ·refine stp ?_
         exact back (1,Jx st1 0 (R++ [(z,Js W)],some (nx3,ncap,List.replicate ((ncap - (R.length+1)) * 2) .any)),nx3+1) ⟨by dsimp only;omega,JbH hok1 ⟨by rw [List.length_append];exact hge,by rw [List.length_append,List.length_replicate,List.length_singleton,← Nat.add_mul];omega⟩,Ja4 (R:=R) hdone hrs hk hen,Ja5 hrest⟩ Dm (ELe.trans (Jn (pm:= []) (bx:= [((20,nx0), .c [Jf nm,int a0,int a1,int a2,int a3,int a4,int mux,int sub]),((1,s1), .c (Jo d x (Jx st1 0 (R++ [(z,Js W)],some (nx3,ncap,List.replicate ((ncap - (R.length+1)) * 2) .any))))),((0,s0), .c [int dk,int dn,Jb x,Ji ps])]++(JaC 10 (R++ [(z,Js W)],some (nx3,ncap,List.replicate ((ncap - (R.length+1)) * 2) .any))++Jm 0 st1)) (L:= [(1,Js rs),(2, .bp (0,s0) 0),(3, .bp (1,s1) 0),(4, .bp (20,nx0) 0),(9,int (1:Nat))]) ([((20,nx0), .c [Jf nm,int a0,int a1,int a2,int a3,int a4,int mux,int sub]),((1,s1),Own.c [u32 (d:Nat),Jb x, .hs (21,nx3) 0 (R.length+1) ncap,Ja 11 (st1 1),Ja 12 (st1 2),Ja 13 (st1 3),Ja 14 (st1 4),Ja 15 (st1 5),Ja 16 (st1 6)]),((0,s0), .c [int dk,int dn,Jb x,Ji ps])]++(((21,nx3), .c _)::((10,s),Own.c (Jt R++tl))::Jm 0 st1)) ([((20,nx0), .c [Jf nm,int a0,int a1,int a2,int a3,int a4,int mux,int sub]),((1,s1),Own.c [u32 (d:Nat),Jb x, .hs (21,nx3) 0 (R.length+1) ncap,Ja 11 (st1 1),Ja 12 (st1 2),Ja 13 (st1 3),Ja 14 (st1 4),Ja 15 (st1 5),Ja 16 (st1 6)]),((0,s0), .c [int dk,int dn,Jb x,Ji ps])]++(((21,nx3), .c _)::Jm 0 st1)) [] rfl rfl List.perm_middle (List.Sublist.append_left (.cons_cons _ (.cons _ Sf)) _) Sf (bx4 rfl (JkM (Ja0)) (JdW gc_ent rfl)) trivial ⟨Rf,Rf,Rf,Rf,Jk rfl,trivial⟩) (Jby (k:=0) Dc))
      ·have t1:=Jv t1
       refine stp ?_
       exact back (1,st1,nx2) ⟨by dsimp only;omega,hok1,Jaw hdone hrs (Jao (.inl t1)),fun j hj=> hrest j (by dsimp only at hj;omega)⟩ Dm (Jn ([((20,nx0), .c [Jf nm,int a0,int a1,int a2,int a3,int a4,int mux,int sub]),((1,s1), .c [u32 (d:Nat),Jb x, .hs (10,s) 0 R.length cap,Ja 11 (st1 1),Ja 12 (st1 2),Ja 13 (st1 3),Ja 14 (st1 4),Ja 15 (st1 5),Ja 16 (st1 6)]),((0,s0), .c [int dk,int dn,Jb x,Ji ps])]++JB st1) ([((20,nx0), .c [Jf nm,int a0,int a1,int a2,int a3,int a4,int mux,int sub]),((1,s1), .c [u32 (d:Nat),Jb x, .hs (10,s) 0 R.length cap,Ja 11 (st1 1),Ja 12 (st1 2),Ja 13 (st1 3),Ja 14 (st1 4),Ja 15 (st1 5),Ja 16 (st1 6)]),((0,s0), .c [int dk,int dn,Jb x,Ji ps])]++JB st1) [] rfl rfl (List.Perm.append_left _ hP) Sf Sf (BxLe.of_eq (by rw [eo])) trivial ⟨Rf,Rf,Rf,Rf,Jk rfl,trivial⟩)
    ·have hP:=JcT (k:=1) Dc st1
     have hrk:Jbt (st1 1):=hok1 _ Dc
     have hrs:st1 1=st 1:=hrest _ (Nat.le_refl _)
     have hln:(st1 1).1.length≤1000000:=by rw [hrs];exact hlen _ Dc
     rcases hk:st1 1 with ⟨R,_ | ⟨s,cap,tl⟩⟩
     ·rw [hk] at hP hrk hln
      dsimp only at hln
      have eo:Jo d x st1= [u32 (d:Nat),Jb x,Ja 10 (st1 0), .os 0 0 (fun _=> .any) none,Ja 12 (st1 2),Ja 13 (st1 3),Ja 14 (st1 4),Ja 15 (st1 5),Ja 16 (st1 6)]:=by simp only [Jo,hk,Ja]
      refine AW.le (E':=mk 75 [(1,Js rs),(2, .bp (0,s0) 0),(3, .bp (1,s1) 0),(4, .bp (20,nx0) 0),(9,int (1:Nat))] (⟨[((20,nx0), .c [Jf nm,int a0,int a1,int a2,int a3,int a4,int mux,int sub]),((1,s1), .c [u32 (d:Nat),Jb x,Ja 10 (st1 0), .os 0 0 (fun _=> .any) none,Ja 12 (st1 2),Ja 13 (st1 3),Ja 14 (st1 4),Ja 15 (st1 5),Ja 16 (st1 6)]),((0,s0), .c [int dk,int dn,Jb x,Ji ps])]++(Jm 1 st1), [],nx2,21⟩:Heap)) (Jn ([((20,nx0), .c [Jf nm,int a0,int a1,int a2,int a3,int a4,int mux,int sub]),((1,s1), .c (Jo d x st1)),((0,s0), .c [int dk,int dn,Jb x,Ji ps])]++(Jm 1 st1)) ([((20,nx0), .c [Jf nm,int a0,int a1,int a2,int a3,int a4,int mux,int sub]),((1,s1), .c (Jo d x st1)),((0,s0), .c [int dk,int dn,Jb x,Ji ps])]++(Jm 1 st1)) [] rfl rfl (List.Perm.append_left _ hP.symm) Sf Sf (BxLe.of_eq (by rw [eo])) trivial ⟨Rf,Rf,Rf,Rf,Rf,trivial⟩) ?_
      refine stp ?_
      intro c t1;cases c
      ·have t1:=Ju t1
       cases x
       ·refine stp ?_
        exact back (2,st1,nx2) ⟨by dsimp only;omega,hok1,Jaw hdone hrs (Jao (.inr (.inl ⟨rfl,rfl⟩))),fun j hj=> hrest j (by dsimp only at hj;omega)⟩ Dm (Jn ([((20,nx0), .c [Jf nm,int a0,int a1,int a2,int a3,int a4,int mux,int sub]),((1,s1), .c [u32 (d:Nat),Jb false,Ja 10 (st1 0), .os 0 0 (fun _=> .any) none,Ja 12 (st1 2),Ja 13 (st1 3),Ja 14 (st1 4),Ja 15 (st1 5),Ja 16 (st1 6)]),((0,s0), .c [int dk,int dn,Jb false,Ji ps])]++JB st1) ([((20,nx0), .c [Jf nm,int a0,int a1,int a2,int a3,int a4,int mux,int sub]),((1,s1), .c [u32 (d:Nat),Jb false,Ja 10 (st1 0), .os 0 0 (fun _=> .any) none,Ja 12 (st1 2),Ja 13 (st1 3),Ja 14 (st1 4),Ja 15 (st1 5),Ja 16 (st1 6)]),((0,s0), .c [int dk,int dn,Jb false,Ji ps])]++JB st1) [] rfl rfl (List.Perm.append_left _ hP) Sf Sf (BxLe.of_eq (by rw [eo])) trivial ⟨Rf,Rf,Rf,Rf,Jk rfl,trivial⟩)
       ·refine stp ?_
        refine Jd rfl rfl (Jb4 1 rs d Dc hl hc) ⟨Rf,Rf,Rf,trivial⟩ fun nx3=> ?_
        refine stp ?_
        intro c t2;cases c
        ·have t2:=Ju t2
         refine stp ?_
         exact back (2,st1,nx3) ⟨by dsimp only;omega,hok1,Jaw hdone hrs (Jao (.inr (.inr (List.eq_nil_of_length_eq_zero Om)))),fun j hj=> hrest j (by dsimp only at hj;omega)⟩ Dm (Jn ([((20,nx0), .c [Jf nm,int a0,int a1,int a2,int a3,int a4,int mux,int sub]),((1,s1), .c [u32 (d:Nat),Jb true,Ja 10 (st1 0), .os 0 0 (fun _=> .any) none,Ja 12 (st1 2),Ja 13 (st1 3),Ja 14 (st1 4),Ja 15 (st1 5),Ja 16 (st1 6)]),((0,s0), .c [int dk,int dn,Jb true,Ji ps])]++JB st1) ([((20,nx0), .c [Jf nm,int a0,int a1,int a2,int a3,int a4,int mux,int sub]),((1,s1), .c [u32 (d:Nat),Jb true,Ja 10 (st1 0), .os 0 0 (fun _=> .any) none,Ja 12 (st1 2),Ja 13 (st1 3),Ja 14 (st1 4),Ja 15 (st1 5),Ja 16 (st1 6)]),((0,s0), .c [int dk,int dn,Jb true,Ji ps])]++JB st1) [] rfl rfl (List.Perm.append_left _ hP) Sf Sf (BxLe.of_eq (by rw [eo])) trivial ⟨Rf,Rf,Rf,Rf,Jk rfl,trivial⟩)
        ·have t2:=Jv t2
         have hwh:=JbB 1 a1 Om (hn 1)
         have hen:Jaa 1 d true ⟨nm,a0,a1,a2,a3,a4,mux,sub⟩ rs= [⟨Jam 1 a1,Jas 1 rs d⟩]:=Jb5 t1 (fun h=> by cases h.2) (fun h=> by rw [h] at t2;exact absurd t2 Dc)
         generalize Jas 1 rs d=W at t2 hen
         generalize Jam 1 a1=z at hwh hen
         refine stp ?_
         refine J6 14 [((20,nx0), .c [Jf nm,int a0,int a1,int a2,int a3,int a4,int mux,int sub]),((1,s1), .c [u32 (d:Nat),Jb true,Ja 10 (st1 0), .os 0 0 (fun _=> .any) none,Ja 12 (st1 2),Ja 13 (st1 3),Ja 14 (st1 4),Ja 15 (st1 5),Ja 16 (st1 6)]),((0,s0), .c [int dk,int dn,Jb true,Ji ps])] (fun i=> match i with | 12=> true | _=> false) (fun i=> match i with | 8=> true | _=> false) [0,1,2,3,4,5,6,7,8,9,10,11,13,12] (by kernel_rfl) (by kernel_rfl) (HB.cons rfl (HB.cons rfl (HB.one rfl))) ?_
         refine stp ?_
         refine ⟨_,J5 rfl rfl rfl hwh ⟨Rf,AVle.of_eq (congrArg u32 (Jch Om (hn 1))),trivial⟩ (NoId.v _), ?_⟩
         refine stp ?_
         refine ⟨_,Jb7 (e:=78) (szx:=2) (m:=1) rfl rfl rfl (.inr ⟨_,rfl⟩) Tryz.underlying35 JdL gc_ent.symm Dc (Jz rfl) (by rw [JdM];omega) Om (fun _=> (HB.cons rfl (HB.cons rfl (HB.one rfl)))),fun r h' hr=> ?_⟩
         obtain ⟨ncap,hge,rfl,rfl⟩:=hr
         refine stp ?_
         exact back (2,Jx st1 1 ([]++ [(z,Js W)],some (nx3,ncap,List.replicate ((ncap - 1) * 2) .any)),nx3+1) ⟨by dsimp only;omega,JbH hok1 ⟨(by simpa using hge),by rw [List.length_replicate];show ncap * 2≤1 * 2+_;omega⟩,Ja4 (R:= []) hdone hrs (by rw [hk,hrk]) hen,Ja5 hrest⟩ Dm (ELe.trans (Jn (pm:= []) (bx:= [((20,nx0), .c [Jf nm,int a0,int a1,int a2,int a3,int a4,int mux,int sub]),((1,s1), .c (Jo d true (Jx st1 1 ([]++ [(z,Js W)],some (nx3,ncap,List.replicate ((ncap - 1) * 2) .any))))),((0,s0), .c [int dk,int dn,Jb true,Ji ps])]++(JaC 11 ([]++ [(z,Js W)],some (nx3,ncap,List.replicate ((ncap - 1) * 2) .any))++Jm 1 st1)) (L:= [(1,Js rs),(2, .bp (0,s0) 0),(3, .bp (1,s1) 0),(4, .bp (20,nx0) 0),(9,int (2:Nat))]) ([((20,nx0), .c [Jf nm,int a0,int a1,int a2,int a3,int a4,int mux,int sub]),((1,s1),Own.c [u32 (d:Nat),Jb true,Ja 10 (st1 0), .hs (21,nx3) 0 1 ncap,Ja 12 (st1 2),Ja 13 (st1 3),Ja 14 (st1 4),Ja 15 (st1 5),Ja 16 (st1 6)]),((0,s0), .c [int dk,int dn,Jb true,Ji ps])]++(((21,nx3), .c _)::Jm 1 st1)) ([((20,nx0), .c [Jf nm,int a0,int a1,int a2,int a3,int a4,int mux,int sub]),((1,s1),Own.c [u32 (d:Nat),Jb true,Ja 10 (st1 0), .hs (21,nx3) 0 1 ncap,Ja 12 (st1 2),Ja 13 (st1 3),Ja 14 (st1 4),Ja 15 (st1 5),Ja 16 (st1 6)]),((0,s0), .c [int dk,int dn,Jb true,Ji ps])]++(((21,nx3), .c _)::Jm 1 st1)) [] rfl rfl List.perm_middle Sf Sf (bx4 rfl (JkN (Ja0 (R:= []))) (Jdp gc_ent rfl)) trivial ⟨Rf,Rf,Rf,Rf,Jk rfl,trivial⟩) (Jby (k:=1) Dc))
      ·have t1:=Jv t1
       refine stp ?_
       exact back (2,st1,nx2) ⟨by dsimp only;omega,hok1,Jaw hdone hrs (Jao (.inl t1)),fun j hj=> hrest j (by dsimp only at hj;omega)⟩ Dm (Jn ([((20,nx0), .c [Jf nm,int a0,int a1,int a2,int a3,int a4,int mux,int sub]),((1,s1), .c [u32 (d:Nat),Jb x,Ja 10 (st1 0), .os 0 0 (fun _=> .any) none,Ja 12 (st1 2),Ja 13 (st1 3),Ja 14 (st1 4),Ja 15 (st1 5),Ja 16 (st1 6)]),((0,s0), .c [int dk,int dn,Jb x,Ji ps])]++JB st1) ([((20,nx0), .c [Jf nm,int a0,int a1,int a2,int a3,int a4,int mux,int sub]),((1,s1), .c [u32 (d:Nat),Jb x,Ja 10 (st1 0), .os 0 0 (fun _=> .any) none,Ja 12 (st1 2),Ja 13 (st1 3),Ja 14 (st1 4),Ja 15 (st1 5),Ja 16 (st1 6)]),((0,s0), .c [int dk,int dn,Jb x,Ji ps])]++JB st1) [] rfl rfl (List.Perm.append_left _ hP) Sf Sf (BxLe.of_eq (by rw [eo])) trivial ⟨Rf,Rf,Rf,Rf,Jk rfl,trivial⟩)
     ·rw [hk] at hP hrk hln
      dsimp only at hln
      have eo:Jo d x st1= [u32 (d:Nat),Jb x,Ja 10 (st1 0), .hs (11,s) 0 R.length cap,Ja 12 (st1 2),Ja 13 (st1 3),Ja 14 (st1 4),Ja 15 (st1 5),Ja 16 (st1 6)]:=by simp only [Jo,hk,Ja]
      refine AW.le (E':=mk 75 [(1,Js rs),(2, .bp (0,s0) 0),(3, .bp (1,s1) 0),(4, .bp (20,nx0) 0),(9,int (1:Nat))] (⟨[((20,nx0), .c [Jf nm,int a0,int a1,int a2,int a3,int a4,int mux,int sub]),((1,s1), .c [u32 (d:Nat),Jb x,Ja 10 (st1 0), .hs (11,s) 0 R.length cap,Ja 12 (st1 2),Ja 13 (st1 3),Ja 14 (st1 4),Ja 15 (st1 5),Ja 16 (st1 6)]),((0,s0), .c [int dk,int dn,Jb x,Ji ps])]++(((11,s),Own.c (Jt R++tl))::Jm 1 st1), [],nx2,21⟩:Heap)) (Jn ([((20,nx0), .c [Jf nm,int a0,int a1,int a2,int a3,int a4,int mux,int sub]),((1,s1), .c (Jo d x st1)),((0,s0), .c [int dk,int dn,Jb x,Ji ps])]++(((11,s),Own.c (Jt R++tl))::Jm 1 st1)) ([((20,nx0), .c [Jf nm,int a0,int a1,int a2,int a3,int a4,int mux,int sub]),((1,s1), .c (Jo d x st1)),((0,s0), .c [int dk,int dn,Jb x,Ji ps])]++(((11,s),Own.c (Jt R++tl))::Jm 1 st1)) [] rfl rfl (List.Perm.append_left _ hP.symm) Sf Sf (BxLe.of_eq (by rw [eo])) trivial ⟨Rf,Rf,Rf,Rf,Rf,trivial⟩) ?_
      refine stp ?_
      intro c t1;cases c
      ·have t1:=Ju t1
       cases x
       ·refine stp ?_
        exact back (2,st1,nx2) ⟨by dsimp only;omega,hok1,Jaw hdone hrs (Jao (.inr (.inl ⟨rfl,rfl⟩))),fun j hj=> hrest j (by dsimp only at hj;omega)⟩ Dm (Jn ([((20,nx0), .c [Jf nm,int a0,int a1,int a2,int a3,int a4,int mux,int sub]),((1,s1), .c [u32 (d:Nat),Jb false,Ja 10 (st1 0), .hs (11,s) 0 R.length cap,Ja 12 (st1 2),Ja 13 (st1 3),Ja 14 (st1 4),Ja 15 (st1 5),Ja 16 (st1 6)]),((0,s0), .c [int dk,int dn,Jb false,Ji ps])]++JB st1) ([((20,nx0), .c [Jf nm,int a0,int a1,int a2,int a3,int a4,int mux,int sub]),((1,s1), .c [u32 (d:Nat),Jb false,Ja 10 (st1 0), .hs (11,s) 0 R.length cap,Ja 12 (st1 2),Ja 13 (st1 3),Ja 14 (st1 4),Ja 15 (st1 5),Ja 16 (st1 6)]),((0,s0), .c [int dk,int dn,Jb false,Ji ps])]++JB st1) [] rfl rfl (List.Perm.append_left _ hP) Sf Sf (BxLe.of_eq (by rw [eo])) trivial ⟨Rf,Rf,Rf,Rf,Jk rfl,trivial⟩)
       ·refine stp ?_
        refine Jd rfl rfl (Jb4 1 rs d Dc hl hc) ⟨Rf,Rf,Rf,trivial⟩ fun nx3=> ?_
        refine stp ?_
        intro c t2;cases c
        ·have t2:=Ju t2
         refine stp ?_
         exact back (2,st1,nx3) ⟨by dsimp only;omega,hok1,Jaw hdone hrs (Jao (.inr (.inr (List.eq_nil_of_length_eq_zero Om)))),fun j hj=> hrest j (by dsimp only at hj;omega)⟩ Dm (Jn ([((20,nx0), .c [Jf nm,int a0,int a1,int a2,int a3,int a4,int mux,int sub]),((1,s1), .c [u32 (d:Nat),Jb true,Ja 10 (st1 0), .hs (11,s) 0 R.length cap,Ja 12 (st1 2),Ja 13 (st1 3),Ja 14 (st1 4),Ja 15 (st1 5),Ja 16 (st1 6)]),((0,s0), .c [int dk,int dn,Jb true,Ji ps])]++JB st1) ([((20,nx0), .c [Jf nm,int a0,int a1,int a2,int a3,int a4,int mux,int sub]),((1,s1), .c [u32 (d:Nat),Jb true,Ja 10 (st1 0), .hs (11,s) 0 R.length cap,Ja 12 (st1 2),Ja 13 (st1 3),Ja 14 (st1 4),Ja 15 (st1 5),Ja 16 (st1 6)]),((0,s0), .c [int dk,int dn,Jb true,Ji ps])]++JB st1) [] rfl rfl (List.Perm.append_left _ hP) Sf Sf (BxLe.of_eq (by rw [eo])) trivial ⟨Rf,Rf,Rf,Rf,Jk rfl,trivial⟩)
        ·have t2:=Jv t2
         have hwh:=JbB 1 a1 Om (hn 1)
         have hen:Jaa 1 d true ⟨nm,a0,a1,a2,a3,a4,mux,sub⟩ rs= [⟨Jam 1 a1,Jas 1 rs d⟩]:=Jb5 t1 (fun h=> by cases h.2) (fun h=> by rw [h] at t2;exact absurd t2 Dc)
         generalize Jas 1 rs d=W at t2 hen
         generalize Jam 1 a1=z at hwh hen
         refine stp ?_
         refine J6 14 [((20,nx0), .c [Jf nm,int a0,int a1,int a2,int a3,int a4,int mux,int sub]),((1,s1), .c [u32 (d:Nat),Jb true,Ja 10 (st1 0), .hs (11,s) 0 R.length cap,Ja 12 (st1 2),Ja 13 (st1 3),Ja 14 (st1 4),Ja 15 (st1 5),Ja 16 (st1 6)]),((0,s0), .c [int dk,int dn,Jb true,Ji ps])] (fun i=> match i with | 12=> true | _=> false) (fun i=> match i with | 8=> true | _=> false) [0,1,2,3,4,5,6,7,8,9,10,11,13,12] (by kernel_rfl) (by kernel_rfl) (HB.cons rfl (HB.cons rfl (HB.one rfl))) ?_
         refine stp ?_
         refine ⟨_,J5 rfl rfl rfl hwh ⟨Rf,AVle.of_eq (congrArg u32 (Jch Om (hn 1))),trivial⟩ (NoId.v _), ?_⟩
         refine stp ?_
         refine ⟨_,Jcv (e:=78) (szx:=2) (m:=1) (n:=R.length) (cap:=cap) (i:=(11,s)) (cs:=Jt R++tl) rfl rfl rfl (.inr ⟨_,rfl⟩) Tryz.underlying35 JdL gc_ent.symm Dc rfl hrk.1 (by rw [gc_ent,List.length_append,Jbg];exact hrk.2) (Jz rfl) (by rw [JdM];omega) Om (HB.cons rfl (HB.cons rfl (HB.one rfl))) (fun _=> (HB.cons rfl (HB.cons rfl (HB.one rfl)))),fun r h' hr=> ?_⟩
         rcases hr with ⟨hfit,rfl,rfl⟩ | ⟨ncap,hge,rfl,rfl⟩
         ·refine stp ?_
          exact back (2,Jx st1 1 (R++ [(z,Js W)],some (s,cap,tl.drop 2)),nx3) ⟨by dsimp only;omega,JbH hok1 ⟨by rw [List.length_append];exact hfit,by have:=hrk.2;rw [List.length_append,List.length_drop,List.length_singleton];omega⟩,Ja4 (R:=R) hdone hrs hk hen,Ja5 hrest⟩ Dm (ELe.trans (Jn (pm:= []) (bx:= [((20,nx0), .c [Jf nm,int a0,int a1,int a2,int a3,int a4,int mux,int sub]),((1,s1), .c (Jo d true (Jx st1 1 (R++ [(z,Js W)],some (s,cap,tl.drop 2))))),((0,s0), .c [int dk,int dn,Jb true,Ji ps])]++(JaC 11 (R++ [(z,Js W)],some (s,cap,tl.drop 2))++Jm 1 st1)) (L:= [(1,Js rs),(2, .bp (0,s0) 0),(3, .bp (1,s1) 0),(4, .bp (20,nx0) 0),(9,int (2:Nat))]) ([((20,nx0), .c [Jf nm,int a0,int a1,int a2,int a3,int a4,int mux,int sub]),((1,s1),Own.c [u32 (d:Nat),Jb true,Ja 10 (st1 0), .hs (11,s) 0 (R.length+1) cap,Ja 12 (st1 2),Ja 13 (st1 3),Ja 14 (st1 4),Ja 15 (st1 5),Ja 16 (st1 6)]),((0,s0), .c [int dk,int dn,Jb true,Ji ps])]++(((11,s), .c _)::Jm 1 st1)) ([((20,nx0), .c [Jf nm,int a0,int a1,int a2,int a3,int a4,int mux,int sub]),((1,s1),Own.c [u32 (d:Nat),Jb true,Ja 10 (st1 0), .hs (11,s) 0 (R.length+1) cap,Ja 12 (st1 2),Ja 13 (st1 3),Ja 14 (st1 4),Ja 15 (st1 5),Ja 16 (st1 6)]),((0,s0), .c [int dk,int dn,Jb true,Ji ps])]++(((11,s), .c _)::Jm 1 st1)) [] rfl rfl (List.Perm.refl _) Sf Sf (bx4 rfl (JkN (Ja0)) (JfL gc_ent rfl)) trivial ⟨Rf,Rf,Rf,Rf,Jk rfl,trivial⟩) (Jby (k:=1) Dc))
         ·refine stp ?_
          exact back (2,Jx st1 1 (R++ [(z,Js W)],some (nx3,ncap,List.replicate ((ncap - (R.length+1)) * 2) .any)),nx3+1) ⟨by dsimp only;omega,JbH hok1 ⟨by rw [List.length_append];exact hge,by rw [List.length_append,List.length_replicate,List.length_singleton,← Nat.add_mul];omega⟩,Ja4 (R:=R) hdone hrs hk hen,Ja5 hrest⟩ Dm (ELe.trans (Jn (pm:= []) (bx:= [((20,nx0), .c [Jf nm,int a0,int a1,int a2,int a3,int a4,int mux,int sub]),((1,s1), .c (Jo d true (Jx st1 1 (R++ [(z,Js W)],some (nx3,ncap,List.replicate ((ncap - (R.length+1)) * 2) .any))))),((0,s0), .c [int dk,int dn,Jb true,Ji ps])]++(JaC 11 (R++ [(z,Js W)],some (nx3,ncap,List.replicate ((ncap - (R.length+1)) * 2) .any))++Jm 1 st1)) (L:= [(1,Js rs),(2, .bp (0,s0) 0),(3, .bp (1,s1) 0),(4, .bp (20,nx0) 0),(9,int (2:Nat))]) ([((20,nx0), .c [Jf nm,int a0,int a1,int a2,int a3,int a4,int mux,int sub]),((1,s1),Own.c [u32 (d:Nat),Jb true,Ja 10 (st1 0), .hs (21,nx3) 0 (R.length+1) ncap,Ja 12 (st1 2),Ja 13 (st1 3),Ja 14 (st1 4),Ja 15 (st1 5),Ja 16 (st1 6)]),((0,s0), .c [int dk,int dn,Jb true,Ji ps])]++(((21,nx3), .c _)::((11,s),Own.c (Jt R++tl))::Jm 1 st1)) ([((20,nx0), .c [Jf nm,int a0,int a1,int a2,int a3,int a4,int mux,int sub]),((1,s1),Own.c [u32 (d:Nat),Jb true,Ja 10 (st1 0), .hs (21,nx3) 0 (R.length+1) ncap,Ja 12 (st1 2),Ja 13 (st1 3),Ja 14 (st1 4),Ja 15 (st1 5),Ja 16 (st1 6)]),((0,s0), .c [int dk,int dn,Jb true,Ji ps])]++(((21,nx3), .c _)::Jm 1 st1)) [] rfl rfl List.perm_middle (List.Sublist.append_left (.cons_cons _ (.cons _ Sf)) _) Sf (bx4 rfl (JkN (Ja0)) (JdW gc_ent rfl)) trivial ⟨Rf,Rf,Rf,Rf,Jk rfl,trivial⟩) (Jby (k:=1) Dc))
      ·have t1:=Jv t1
       refine stp ?_
       exact back (2,st1,nx2) ⟨by dsimp only;omega,hok1,Jaw hdone hrs (Jao (.inl t1)),fun j hj=> hrest j (by dsimp only at hj;omega)⟩ Dm (Jn ([((20,nx0), .c [Jf nm,int a0,int a1,int a2,int a3,int a4,int mux,int sub]),((1,s1), .c [u32 (d:Nat),Jb x,Ja 10 (st1 0), .hs (11,s) 0 R.length cap,Ja 12 (st1 2),Ja 13 (st1 3),Ja 14 (st1 4),Ja 15 (st1 5),Ja 16 (st1 6)]),((0,s0), .c [int dk,int dn,Jb x,Ji ps])]++JB st1) ([((20,nx0), .c [Jf nm,int a0,int a1,int a2,int a3,int a4,int mux,int sub]),((1,s1), .c [u32 (d:Nat),Jb x,Ja 10 (st1 0), .hs (11,s) 0 R.length cap,Ja 12 (st1 2),Ja 13 (st1 3),Ja 14 (st1 4),Ja 15 (st1 5),Ja 16 (st1 6)]),((0,s0), .c [int dk,int dn,Jb x,Ji ps])]++JB st1) [] rfl rfl (List.Perm.append_left _ hP) Sf Sf (BxLe.of_eq (by rw [eo])) trivial ⟨Rf,Rf,Rf,Rf,Jk rfl,trivial⟩)
    ·have hP:=JcT (k:=2) Dc st1
     have hrk:Jbt (st1 2):=hok1 _ Dc
     have hrs:st1 2=st 2:=hrest _ (Nat.le_refl _)
     have hln:(st1 2).1.length≤1000000:=by rw [hrs];exact hlen _ Dc
     rcases hk:st1 2 with ⟨R,_ | ⟨s,cap,tl⟩⟩
     ·rw [hk] at hP hrk hln
      dsimp only at hln
      have eo:Jo d x st1= [u32 (d:Nat),Jb x,Ja 10 (st1 0),Ja 11 (st1 1), .os 0 0 (fun _=> .any) none,Ja 13 (st1 3),Ja 14 (st1 4),Ja 15 (st1 5),Ja 16 (st1 6)]:=by simp only [Jo,hk,Ja]
      refine AW.le (E':=mk 75 [(1,Js rs),(2, .bp (0,s0) 0),(3, .bp (1,s1) 0),(4, .bp (20,nx0) 0),(9,int (2:Nat))] (⟨[((20,nx0), .c [Jf nm,int a0,int a1,int a2,int a3,int a4,int mux,int sub]),((1,s1), .c [u32 (d:Nat),Jb x,Ja 10 (st1 0),Ja 11 (st1 1), .os 0 0 (fun _=> .any) none,Ja 13 (st1 3),Ja 14 (st1 4),Ja 15 (st1 5),Ja 16 (st1 6)]),((0,s0), .c [int dk,int dn,Jb x,Ji ps])]++(Jm 2 st1), [],nx2,21⟩:Heap)) (Jn ([((20,nx0), .c [Jf nm,int a0,int a1,int a2,int a3,int a4,int mux,int sub]),((1,s1), .c (Jo d x st1)),((0,s0), .c [int dk,int dn,Jb x,Ji ps])]++(Jm 2 st1)) ([((20,nx0), .c [Jf nm,int a0,int a1,int a2,int a3,int a4,int mux,int sub]),((1,s1), .c (Jo d x st1)),((0,s0), .c [int dk,int dn,Jb x,Ji ps])]++(Jm 2 st1)) [] rfl rfl (List.Perm.append_left _ hP.symm) Sf Sf (BxLe.of_eq (by rw [eo])) trivial ⟨Rf,Rf,Rf,Rf,Rf,trivial⟩) ?_
      refine stp ?_
      intro c t1;cases c
      ·have t1:=Ju t1
       refine stp ?_
       refine Jd rfl rfl (Jb4 2 rs d Dc hl hc) ⟨Rf,Rf,Rf,trivial⟩ fun nx3=> ?_
       refine stp ?_
       intro c t2;cases c
       ·have t2:=Ju t2
        refine stp ?_
        exact back (3,st1,nx3) ⟨by dsimp only;omega,hok1,Jaw hdone hrs (Jao (.inr (.inr (List.eq_nil_of_length_eq_zero Om)))),fun j hj=> hrest j (by dsimp only at hj;omega)⟩ Dm (Jn ([((20,nx0), .c [Jf nm,int a0,int a1,int a2,int a3,int a4,int mux,int sub]),((1,s1), .c [u32 (d:Nat),Jb x,Ja 10 (st1 0),Ja 11 (st1 1), .os 0 0 (fun _=> .any) none,Ja 13 (st1 3),Ja 14 (st1 4),Ja 15 (st1 5),Ja 16 (st1 6)]),((0,s0), .c [int dk,int dn,Jb x,Ji ps])]++JB st1) ([((20,nx0), .c [Jf nm,int a0,int a1,int a2,int a3,int a4,int mux,int sub]),((1,s1), .c [u32 (d:Nat),Jb x,Ja 10 (st1 0),Ja 11 (st1 1), .os 0 0 (fun _=> .any) none,Ja 13 (st1 3),Ja 14 (st1 4),Ja 15 (st1 5),Ja 16 (st1 6)]),((0,s0), .c [int dk,int dn,Jb x,Ji ps])]++JB st1) [] rfl rfl (List.Perm.append_left _ hP) Sf Sf (BxLe.of_eq (by rw [eo])) trivial ⟨Rf,Rf,Rf,Rf,Jk rfl,trivial⟩)
       ·have t2:=Jv t2
        have hwh:=JbB 2 a2 Om (hn 2)
        have hen:Jaa 2 d x ⟨nm,a0,a1,a2,a3,a4,mux,sub⟩ rs= [⟨Jam 2 a2,Jas 2 rs d⟩]:=Jb5 t1 (fun h=> by cases h.1) (fun h=> by rw [h] at t2;exact absurd t2 Dc)
        generalize Jas 2 rs d=W at t2 hen
        generalize Jam 2 a2=z at hwh hen
        refine stp ?_
        refine J6 14 [((20,nx0), .c [Jf nm,int a0,int a1,int a2,int a3,int a4,int mux,int sub]),((1,s1), .c [u32 (d:Nat),Jb x,Ja 10 (st1 0),Ja 11 (st1 1), .os 0 0 (fun _=> .any) none,Ja 13 (st1 3),Ja 14 (st1 4),Ja 15 (st1 5),Ja 16 (st1 6)]),((0,s0), .c [int dk,int dn,Jb x,Ji ps])] (fun i=> match i with | 12=> true | _=> false) (fun i=> match i with | 8=> true | _=> false) [0,1,2,3,4,5,6,7,8,9,10,11,13,12] (by kernel_rfl) (by kernel_rfl) (HB.cons rfl (HB.cons rfl (HB.one rfl))) ?_
        refine stp ?_
        refine ⟨_,J5 rfl rfl rfl hwh ⟨Rf,AVle.of_eq (congrArg u32 (Jch Om (hn 2))),trivial⟩ (NoId.v _), ?_⟩
        refine stp ?_
        refine ⟨_,Jb7 (e:=78) (szx:=2) (m:=1) rfl rfl rfl (.inr ⟨_,rfl⟩) Tryz.underlying35 JdL gc_ent.symm Dc (Jz rfl) (by rw [JdM];omega) Om (fun _=> (HB.cons rfl (HB.cons rfl (HB.one rfl)))),fun r h' hr=> ?_⟩
        obtain ⟨ncap,hge,rfl,rfl⟩:=hr
        refine stp ?_
        exact back (3,Jx st1 2 ([]++ [(z,Js W)],some (nx3,ncap,List.replicate ((ncap - 1) * 2) .any)),nx3+1) ⟨by dsimp only;omega,JbH hok1 ⟨(by simpa using hge),by rw [List.length_replicate];show ncap * 2≤1 * 2+_;omega⟩,Ja4 (R:= []) hdone hrs (by rw [hk,hrk]) hen,Ja5 hrest⟩ Dm (ELe.trans (Jn (pm:= []) (bx:= [((20,nx0), .c [Jf nm,int a0,int a1,int a2,int a3,int a4,int mux,int sub]),((1,s1), .c (Jo d x (Jx st1 2 ([]++ [(z,Js W)],some (nx3,ncap,List.replicate ((ncap - 1) * 2) .any))))),((0,s0), .c [int dk,int dn,Jb x,Ji ps])]++(JaC 12 ([]++ [(z,Js W)],some (nx3,ncap,List.replicate ((ncap - 1) * 2) .any))++Jm 2 st1)) (L:= [(1,Js rs),(2, .bp (0,s0) 0),(3, .bp (1,s1) 0),(4, .bp (20,nx0) 0),(9,int (3:Nat))]) ([((20,nx0), .c [Jf nm,int a0,int a1,int a2,int a3,int a4,int mux,int sub]),((1,s1),Own.c [u32 (d:Nat),Jb x,Ja 10 (st1 0),Ja 11 (st1 1), .hs (21,nx3) 0 1 ncap,Ja 13 (st1 3),Ja 14 (st1 4),Ja 15 (st1 5),Ja 16 (st1 6)]),((0,s0), .c [int dk,int dn,Jb x,Ji ps])]++(((21,nx3), .c _)::Jm 2 st1)) ([((20,nx0), .c [Jf nm,int a0,int a1,int a2,int a3,int a4,int mux,int sub]),((1,s1),Own.c [u32 (d:Nat),Jb x,Ja 10 (st1 0),Ja 11 (st1 1), .hs (21,nx3) 0 1 ncap,Ja 13 (st1 3),Ja 14 (st1 4),Ja 15 (st1 5),Ja 16 (st1 6)]),((0,s0), .c [int dk,int dn,Jb x,Ji ps])]++(((21,nx3), .c _)::Jm 2 st1)) [] rfl rfl List.perm_middle Sf Sf (bx4 rfl (JkO (Ja0 (R:= []))) (Jdp gc_ent rfl)) trivial ⟨Rf,Rf,Rf,Rf,Jk rfl,trivial⟩) (Jby (k:=2) Dc))
      ·have t1:=Jv t1
       refine stp ?_
       exact back (3,st1,nx2) ⟨by dsimp only;omega,hok1,Jaw hdone hrs (Jao (.inl t1)),fun j hj=> hrest j (by dsimp only at hj;omega)⟩ Dm (Jn ([((20,nx0), .c [Jf nm,int a0,int a1,int a2,int a3,int a4,int mux,int sub]),((1,s1), .c [u32 (d:Nat),Jb x,Ja 10 (st1 0),Ja 11 (st1 1), .os 0 0 (fun _=> .any) none,Ja 13 (st1 3),Ja 14 (st1 4),Ja 15 (st1 5),Ja 16 (st1 6)]),((0,s0), .c [int dk,int dn,Jb x,Ji ps])]++JB st1) ([((20,nx0), .c [Jf nm,int a0,int a1,int a2,int a3,int a4,int mux,int sub]),((1,s1), .c [u32 (d:Nat),Jb x,Ja 10 (st1 0),Ja 11 (st1 1), .os 0 0 (fun _=> .any) none,Ja 13 (st1 3),Ja 14 (st1 4),Ja 15 (st1 5),Ja 16 (st1 6)]),((0,s0), .c [int dk,int dn,Jb x,Ji ps])]++JB st1) [] rfl rfl (List.Perm.append_left _ hP) Sf Sf (BxLe.of_eq (by rw [eo])) trivial ⟨Rf,Rf,Rf,Rf,Jk rfl,trivial⟩)
     ·rw [hk] at hP hrk hln
      dsimp only at hln
      have eo:Jo d x st1= [u32 (d:Nat),Jb x,Ja 10 (st1 0),Ja 11 (st1 1), .hs (12,s) 0 R.length cap,Ja 13 (st1 3),Ja 14 (st1 4),Ja 15 (st1 5),Ja 16 (st1 6)]:=by simp only [Jo,hk,Ja]
      refine AW.le (E':=mk 75 [(1,Js rs),(2, .bp (0,s0) 0),(3, .bp (1,s1) 0),(4, .bp (20,nx0) 0),(9,int (2:Nat))] (⟨[((20,nx0), .c [Jf nm,int a0,int a1,int a2,int a3,int a4,int mux,int sub]),((1,s1), .c [u32 (d:Nat),Jb x,Ja 10 (st1 0),Ja 11 (st1 1), .hs (12,s) 0 R.length cap,Ja 13 (st1 3),Ja 14 (st1 4),Ja 15 (st1 5),Ja 16 (st1 6)]),((0,s0), .c [int dk,int dn,Jb x,Ji ps])]++(((12,s),Own.c (Jt R++tl))::Jm 2 st1), [],nx2,21⟩:Heap)) (Jn ([((20,nx0), .c [Jf nm,int a0,int a1,int a2,int a3,int a4,int mux,int sub]),((1,s1), .c (Jo d x st1)),((0,s0), .c [int dk,int dn,Jb x,Ji ps])]++(((12,s),Own.c (Jt R++tl))::Jm 2 st1)) ([((20,nx0), .c [Jf nm,int a0,int a1,int a2,int a3,int a4,int mux,int sub]),((1,s1), .c (Jo d x st1)),((0,s0), .c [int dk,int dn,Jb x,Ji ps])]++(((12,s),Own.c (Jt R++tl))::Jm 2 st1)) [] rfl rfl (List.Perm.append_left _ hP.symm) Sf Sf (BxLe.of_eq (by rw [eo])) trivial ⟨Rf,Rf,Rf,Rf,Rf,trivial⟩) ?_
      refine stp ?_
      intro c t1;cases c
      ·have t1:=Ju t1
       refine stp ?_
       refine Jd rfl rfl (Jb4 2 rs d Dc hl hc) ⟨Rf,Rf,Rf,trivial⟩ fun nx3=> ?_
       refine stp ?_
       intro c t2;cases c
       ·have t2:=Ju t2
        refine stp ?_
        exact back (3,st1,nx3) ⟨by dsimp only;omega,hok1,Jaw hdone hrs (Jao (.inr (.inr (List.eq_nil_of_length_eq_zero Om)))),fun j hj=> hrest j (by dsimp only at hj;omega)⟩ Dm (Jn ([((20,nx0), .c [Jf nm,int a0,int a1,int a2,int a3,int a4,int mux,int sub]),((1,s1), .c [u32 (d:Nat),Jb x,Ja 10 (st1 0),Ja 11 (st1 1), .hs (12,s) 0 R.length cap,Ja 13 (st1 3),Ja 14 (st1 4),Ja 15 (st1 5),Ja 16 (st1 6)]),((0,s0), .c [int dk,int dn,Jb x,Ji ps])]++JB st1) ([((20,nx0), .c [Jf nm,int a0,int a1,int a2,int a3,int a4,int mux,int sub]),((1,s1), .c [u32 (d:Nat),Jb x,Ja 10 (st1 0),Ja 11 (st1 1), .hs (12,s) 0 R.length cap,Ja 13 (st1 3),Ja 14 (st1 4),Ja 15 (st1 5),Ja 16 (st1 6)]),((0,s0), .c [int dk,int dn,Jb x,Ji ps])]++JB st1) [] rfl rfl (List.Perm.append_left _ hP) Sf Sf (BxLe.of_eq (by rw [eo])) trivial ⟨Rf,Rf,Rf,Rf,Jk rfl,trivial⟩)
       ·have t2:=Jv t2
        have hwh:=JbB 2 a2 Om (hn 2)
        have hen:Jaa 2 d x ⟨nm,a0,a1,a2,a3,a4,mux,sub⟩ rs= [⟨Jam 2 a2,Jas 2 rs d⟩]:=Jb5 t1 (fun h=> by cases h.1) (fun h=> by rw [h] at t2;exact absurd t2 Dc)
        generalize Jas 2 rs d=W at t2 hen
        generalize Jam 2 a2=z at hwh hen
        refine stp ?_
        refine J6 14 [((20,nx0), .c [Jf nm,int a0,int a1,int a2,int a3,int a4,int mux,int sub]),((1,s1), .c [u32 (d:Nat),Jb x,Ja 10 (st1 0),Ja 11 (st1 1), .hs (12,s) 0 R.length cap,Ja 13 (st1 3),Ja 14 (st1 4),Ja 15 (st1 5),Ja 16 (st1 6)]),((0,s0), .c [int dk,int dn,Jb x,Ji ps])] (fun i=> match i with | 12=> true | _=> false) (fun i=> match i with | 8=> true | _=> false) [0,1,2,3,4,5,6,7,8,9,10,11,13,12] (by kernel_rfl) (by kernel_rfl) (HB.cons rfl (HB.cons rfl (HB.one rfl))) ?_
        refine stp ?_
        refine ⟨_,J5 rfl rfl rfl hwh ⟨Rf,AVle.of_eq (congrArg u32 (Jch Om (hn 2))),trivial⟩ (NoId.v _), ?_⟩
        refine stp ?_
        refine ⟨_,Jcv (e:=78) (szx:=2) (m:=1) (n:=R.length) (cap:=cap) (i:=(12,s)) (cs:=Jt R++tl) rfl rfl rfl (.inr ⟨_,rfl⟩) Tryz.underlying35 JdL gc_ent.symm Dc rfl hrk.1 (by rw [gc_ent,List.length_append,Jbg];exact hrk.2) (Jz rfl) (by rw [JdM];omega) Om (HB.cons rfl (HB.cons rfl (HB.one rfl))) (fun _=> (HB.cons rfl (HB.cons rfl (HB.one rfl)))),fun r h' hr=> ?_⟩
        rcases hr with ⟨hfit,rfl,rfl⟩ | ⟨ncap,hge,rfl,rfl⟩
        ·refine stp ?_
         exact back (3,Jx st1 2 (R++ [(z,Js W)],some (s,cap,tl.drop 2)),nx3) ⟨by dsimp only;omega,JbH hok1 ⟨by rw [List.length_append];exact hfit,by have:=hrk.2;rw [List.length_append,List.length_drop,List.length_singleton];omega⟩,Ja4 (R:=R) hdone hrs hk hen,Ja5 hrest⟩ Dm (ELe.trans (Jn (pm:= []) (bx:= [((20,nx0), .c [Jf nm,int a0,int a1,int a2,int a3,int a4,int mux,int sub]),((1,s1), .c (Jo d x (Jx st1 2 (R++ [(z,Js W)],some (s,cap,tl.drop 2))))),((0,s0), .c [int dk,int dn,Jb x,Ji ps])]++(JaC 12 (R++ [(z,Js W)],some (s,cap,tl.drop 2))++Jm 2 st1)) (L:= [(1,Js rs),(2, .bp (0,s0) 0),(3, .bp (1,s1) 0),(4, .bp (20,nx0) 0),(9,int (3:Nat))]) ([((20,nx0), .c [Jf nm,int a0,int a1,int a2,int a3,int a4,int mux,int sub]),((1,s1),Own.c [u32 (d:Nat),Jb x,Ja 10 (st1 0),Ja 11 (st1 1), .hs (12,s) 0 (R.length+1) cap,Ja 13 (st1 3),Ja 14 (st1 4),Ja 15 (st1 5),Ja 16 (st1 6)]),((0,s0), .c [int dk,int dn,Jb x,Ji ps])]++(((12,s), .c _)::Jm 2 st1)) ([((20,nx0), .c [Jf nm,int a0,int a1,int a2,int a3,int a4,int mux,int sub]),((1,s1),Own.c [u32 (d:Nat),Jb x,Ja 10 (st1 0),Ja 11 (st1 1), .hs (12,s) 0 (R.length+1) cap,Ja 13 (st1 3),Ja 14 (st1 4),Ja 15 (st1 5),Ja 16 (st1 6)]),((0,s0), .c [int dk,int dn,Jb x,Ji ps])]++(((12,s), .c _)::Jm 2 st1)) [] rfl rfl (List.Perm.refl _) Sf Sf (bx4 rfl (JkO (Ja0)) (JfL gc_ent rfl)) trivial ⟨Rf,Rf,Rf,Rf,Jk rfl,trivial⟩) (Jby (k:=2) Dc))
        ·refine stp ?_
         exact back (3,Jx st1 2 (R++ [(z,Js W)],some (nx3,ncap,List.replicate ((ncap - (R.length+1)) * 2) .any)),nx3+1) ⟨by dsimp only;omega,JbH hok1 ⟨by rw [List.length_append];exact hge,by rw [List.length_append,List.length_replicate,List.length_singleton,← Nat.add_mul];omega⟩,Ja4 (R:=R) hdone hrs hk hen,Ja5 hrest⟩ Dm (ELe.trans (Jn (pm:= []) (bx:= [((20,nx0), .c [Jf nm,int a0,int a1,int a2,int a3,int a4,int mux,int sub]),((1,s1), .c (Jo d x (Jx st1 2 (R++ [(z,Js W)],some (nx3,ncap,List.replicate ((ncap - (R.length+1)) * 2) .any))))),((0,s0), .c [int dk,int dn,Jb x,Ji ps])]++(JaC 12 (R++ [(z,Js W)],some (nx3,ncap,List.replicate ((ncap - (R.length+1)) * 2) .any))++Jm 2 st1)) (L:= [(1,Js rs),(2, .bp (0,s0) 0),(3, .bp (1,s1) 0),(4, .bp (20,nx0) 0),(9,int (3:Nat))]) ([((20,nx0), .c [Jf nm,int a0,int a1,int a2,int a3,int a4,int mux,int sub]),((1,s1),Own.c [u32 (d:Nat),Jb x,Ja 10 (st1 0),Ja 11 (st1 1), .hs (21,nx3) 0 (R.length+1) ncap,Ja 13 (st1 3),Ja 14 (st1 4),Ja 15 (st1 5),Ja 16 (st1 6)]),((0,s0), .c [int dk,int dn,Jb x,Ji ps])]++(((21,nx3), .c _)::((12,s),Own.c (Jt R++tl))::Jm 2 st1)) ([((20,nx0), .c [Jf nm,int a0,int a1,int a2,int a3,int a4,int mux,int sub]),((1,s1),Own.c [u32 (d:Nat),Jb x,Ja 10 (st1 0),Ja 11 (st1 1), .hs (21,nx3) 0 (R.length+1) ncap,Ja 13 (st1 3),Ja 14 (st1 4),Ja 15 (st1 5),Ja 16 (st1 6)]),((0,s0), .c [int dk,int dn,Jb x,Ji ps])]++(((21,nx3), .c _)::Jm 2 st1)) [] rfl rfl List.perm_middle (List.Sublist.append_left (.cons_cons _ (.cons _ Sf)) _) Sf (bx4 rfl (JkO (Ja0)) (JdW gc_ent rfl)) trivial ⟨Rf,Rf,Rf,Rf,Jk rfl,trivial⟩) (Jby (k:=2) Dc))
      ·have t1:=Jv t1
       refine stp ?_
       exact back (3,st1,nx2) ⟨by dsimp only;omega,hok1,Jaw hdone hrs (Jao (.inl t1)),fun j hj=> hrest j (by dsimp only at hj;omega)⟩ Dm (Jn ([((20,nx0), .c [Jf nm,int a0,int a1,int a2,int a3,int a4,int mux,int sub]),((1,s1), .c [u32 (d:Nat),Jb x,Ja 10 (st1 0),Ja 11 (st1 1), .hs (12,s) 0 R.length cap,Ja 13 (st1 3),Ja 14 (st1 4),Ja 15 (st1 5),Ja 16 (st1 6)]),((0,s0), .c [int dk,int dn,Jb x,Ji ps])]++JB st1) ([((20,nx0), .c [Jf nm,int a0,int a1,int a2,int a3,int a4,int mux,int sub]),((1,s1), .c [u32 (d:Nat),Jb x,Ja 10 (st1 0),Ja 11 (st1 1), .hs (12,s) 0 R.length cap,Ja 13 (st1 3),Ja 14 (st1 4),Ja 15 (st1 5),Ja 16 (st1 6)]),((0,s0), .c [int dk,int dn,Jb x,Ji ps])]++JB st1) [] rfl rfl (List.Perm.append_left _ hP) Sf Sf (BxLe.of_eq (by rw [eo])) trivial ⟨Rf,Rf,Rf,Rf,Jk rfl,trivial⟩)
    ·have hP:=JcT (k:=3) Dc st1
     have hrk:Jbt (st1 3):=hok1 _ Dc
     have hrs:st1 3=st 3:=hrest _ (Nat.le_refl _)
     have hln:(st1 3).1.length≤1000000:=by rw [hrs];exact hlen _ Dc
     rcases hk:st1 3 with ⟨R,_ | ⟨s,cap,tl⟩⟩
     ·rw [hk] at hP hrk hln
      dsimp only at hln
      have eo:Jo d x st1= [u32 (d:Nat),Jb x,Ja 10 (st1 0),Ja 11 (st1 1),Ja 12 (st1 2), .os 0 0 (fun _=> .any) none,Ja 14 (st1 4),Ja 15 (st1 5),Ja 16 (st1 6)]:=by simp only [Jo,hk,Ja]
      refine AW.le (E':=mk 75 [(1,Js rs),(2, .bp (0,s0) 0),(3, .bp (1,s1) 0),(4, .bp (20,nx0) 0),(9,int (3:Nat))] (⟨[((20,nx0), .c [Jf nm,int a0,int a1,int a2,int a3,int a4,int mux,int sub]),((1,s1), .c [u32 (d:Nat),Jb x,Ja 10 (st1 0),Ja 11 (st1 1),Ja 12 (st1 2), .os 0 0 (fun _=> .any) none,Ja 14 (st1 4),Ja 15 (st1 5),Ja 16 (st1 6)]),((0,s0), .c [int dk,int dn,Jb x,Ji ps])]++(Jm 3 st1), [],nx2,21⟩:Heap)) (Jn ([((20,nx0), .c [Jf nm,int a0,int a1,int a2,int a3,int a4,int mux,int sub]),((1,s1), .c (Jo d x st1)),((0,s0), .c [int dk,int dn,Jb x,Ji ps])]++(Jm 3 st1)) ([((20,nx0), .c [Jf nm,int a0,int a1,int a2,int a3,int a4,int mux,int sub]),((1,s1), .c (Jo d x st1)),((0,s0), .c [int dk,int dn,Jb x,Ji ps])]++(Jm 3 st1)) [] rfl rfl (List.Perm.append_left _ hP.symm) Sf Sf (BxLe.of_eq (by rw [eo])) trivial ⟨Rf,Rf,Rf,Rf,Rf,trivial⟩) ?_
      refine stp ?_
      intro c t1;cases c
      ·have t1:=Ju t1
       refine stp ?_
       refine Jd rfl rfl (Jb4 3 rs d Dc hl hc) ⟨Rf,Rf,Rf,trivial⟩ fun nx3=> ?_
       refine stp ?_
       intro c t2;cases c
       ·have t2:=Ju t2
        refine stp ?_
        exact back (4,st1,nx3) ⟨by dsimp only;omega,hok1,Jaw hdone hrs (Jao (.inr (.inr (List.eq_nil_of_length_eq_zero Om)))),fun j hj=> hrest j (by dsimp only at hj;omega)⟩ Dm (Jn ([((20,nx0), .c [Jf nm,int a0,int a1,int a2,int a3,int a4,int mux,int sub]),((1,s1), .c [u32 (d:Nat),Jb x,Ja 10 (st1 0),Ja 11 (st1 1),Ja 12 (st1 2), .os 0 0 (fun _=> .any) none,Ja 14 (st1 4),Ja 15 (st1 5),Ja 16 (st1 6)]),((0,s0), .c [int dk,int dn,Jb x,Ji ps])]++JB st1) ([((20,nx0), .c [Jf nm,int a0,int a1,int a2,int a3,int a4,int mux,int sub]),((1,s1), .c [u32 (d:Nat),Jb x,Ja 10 (st1 0),Ja 11 (st1 1),Ja 12 (st1 2), .os 0 0 (fun _=> .any) none,Ja 14 (st1 4),Ja 15 (st1 5),Ja 16 (st1 6)]),((0,s0), .c [int dk,int dn,Jb x,Ji ps])]++JB st1) [] rfl rfl (List.Perm.append_left _ hP) Sf Sf (BxLe.of_eq (by rw [eo])) trivial ⟨Rf,Rf,Rf,Rf,Jk rfl,trivial⟩)
       ·have t2:=Jv t2
        have hwh:=JbB 3 a3 Om (hn 3)
        have hen:Jaa 3 d x ⟨nm,a0,a1,a2,a3,a4,mux,sub⟩ rs= [⟨Jam 3 a3,Jas 3 rs d⟩]:=Jb5 t1 (fun h=> by cases h.1) (fun h=> by rw [h] at t2;exact absurd t2 Dc)
        generalize Jas 3 rs d=W at t2 hen
        generalize Jam 3 a3=z at hwh hen
        refine stp ?_
        refine J6 14 [((20,nx0), .c [Jf nm,int a0,int a1,int a2,int a3,int a4,int mux,int sub]),((1,s1), .c [u32 (d:Nat),Jb x,Ja 10 (st1 0),Ja 11 (st1 1),Ja 12 (st1 2), .os 0 0 (fun _=> .any) none,Ja 14 (st1 4),Ja 15 (st1 5),Ja 16 (st1 6)]),((0,s0), .c [int dk,int dn,Jb x,Ji ps])] (fun i=> match i with | 12=> true | _=> false) (fun i=> match i with | 8=> true | _=> false) [0,1,2,3,4,5,6,7,8,9,10,11,13,12] (by kernel_rfl) (by kernel_rfl) (HB.cons rfl (HB.cons rfl (HB.one rfl))) ?_
        refine stp ?_
        refine ⟨_,J5 rfl rfl rfl hwh ⟨Rf,AVle.of_eq (congrArg u32 (Jch Om (hn 3))),trivial⟩ (NoId.v _), ?_⟩
        refine stp ?_
        refine ⟨_,Jb7 (e:=78) (szx:=2) (m:=1) rfl rfl rfl (.inr ⟨_,rfl⟩) Tryz.underlying35 JdL gc_ent.symm Dc (Jz rfl) (by rw [JdM];omega) Om (fun _=> (HB.cons rfl (HB.cons rfl (HB.one rfl)))),fun r h' hr=> ?_⟩
        obtain ⟨ncap,hge,rfl,rfl⟩:=hr
        refine stp ?_
        exact back (4,Jx st1 3 ([]++ [(z,Js W)],some (nx3,ncap,List.replicate ((ncap - 1) * 2) .any)),nx3+1) ⟨by dsimp only;omega,JbH hok1 ⟨(by simpa using hge),by rw [List.length_replicate];show ncap * 2≤1 * 2+_;omega⟩,Ja4 (R:= []) hdone hrs (by rw [hk,hrk]) hen,Ja5 hrest⟩ Dm (ELe.trans (Jn (pm:= []) (bx:= [((20,nx0), .c [Jf nm,int a0,int a1,int a2,int a3,int a4,int mux,int sub]),((1,s1), .c (Jo d x (Jx st1 3 ([]++ [(z,Js W)],some (nx3,ncap,List.replicate ((ncap - 1) * 2) .any))))),((0,s0), .c [int dk,int dn,Jb x,Ji ps])]++(JaC 13 ([]++ [(z,Js W)],some (nx3,ncap,List.replicate ((ncap - 1) * 2) .any))++Jm 3 st1)) (L:= [(1,Js rs),(2, .bp (0,s0) 0),(3, .bp (1,s1) 0),(4, .bp (20,nx0) 0),(9,int (4:Nat))]) ([((20,nx0), .c [Jf nm,int a0,int a1,int a2,int a3,int a4,int mux,int sub]),((1,s1),Own.c [u32 (d:Nat),Jb x,Ja 10 (st1 0),Ja 11 (st1 1),Ja 12 (st1 2), .hs (21,nx3) 0 1 ncap,Ja 14 (st1 4),Ja 15 (st1 5),Ja 16 (st1 6)]),((0,s0), .c [int dk,int dn,Jb x,Ji ps])]++(((21,nx3), .c _)::Jm 3 st1)) ([((20,nx0), .c [Jf nm,int a0,int a1,int a2,int a3,int a4,int mux,int sub]),((1,s1),Own.c [u32 (d:Nat),Jb x,Ja 10 (st1 0),Ja 11 (st1 1),Ja 12 (st1 2), .hs (21,nx3) 0 1 ncap,Ja 14 (st1 4),Ja 15 (st1 5),Ja 16 (st1 6)]),((0,s0), .c [int dk,int dn,Jb x,Ji ps])]++(((21,nx3), .c _)::Jm 3 st1)) [] rfl rfl List.perm_middle Sf Sf (bx4 rfl (JkP (Ja0 (R:= []))) (Jdp gc_ent rfl)) trivial ⟨Rf,Rf,Rf,Rf,Jk rfl,trivial⟩) (Jby (k:=3) Dc))
      ·have t1:=Jv t1
       refine stp ?_
       exact back (4,st1,nx2) ⟨by dsimp only;omega,hok1,Jaw hdone hrs (Jao (.inl t1)),fun j hj=> hrest j (by dsimp only at hj;omega)⟩ Dm (Jn ([((20,nx0), .c [Jf nm,int a0,int a1,int a2,int a3,int a4,int mux,int sub]),((1,s1), .c [u32 (d:Nat),Jb x,Ja 10 (st1 0),Ja 11 (st1 1),Ja 12 (st1 2), .os 0 0 (fun _=> .any) none,Ja 14 (st1 4),Ja 15 (st1 5),Ja 16 (st1 6)]),((0,s0), .c [int dk,int dn,Jb x,Ji ps])]++JB st1) ([((20,nx0), .c [Jf nm,int a0,int a1,int a2,int a3,int a4,int mux,int sub]),((1,s1), .c [u32 (d:Nat),Jb x,Ja 10 (st1 0),Ja 11 (st1 1),Ja 12 (st1 2), .os 0 0 (fun _=> .any) none,Ja 14 (st1 4),Ja 15 (st1 5),Ja 16 (st1 6)]),((0,s0), .c [int dk,int dn,Jb x,Ji ps])]++JB st1) [] rfl rfl (List.Perm.append_left _ hP) Sf Sf (BxLe.of_eq (by rw [eo])) trivial ⟨Rf,Rf,Rf,Rf,Jk rfl,trivial⟩)
     ·rw [hk] at hP hrk hln
      dsimp only at hln
      have eo:Jo d x st1= [u32 (d:Nat),Jb x,Ja 10 (st1 0),Ja 11 (st1 1),Ja 12 (st1 2), .hs (13,s) 0 R.length cap,Ja 14 (st1 4),Ja 15 (st1 5),Ja 16 (st1 6)]:=by simp only [Jo,hk,Ja]
      refine AW.le (E':=mk 75 [(1,Js rs),(2, .bp (0,s0) 0),(3, .bp (1,s1) 0),(4, .bp (20,nx0) 0),(9,int (3:Nat))] (⟨[((20,nx0), .c [Jf nm,int a0,int a1,int a2,int a3,int a4,int mux,int sub]),((1,s1), .c [u32 (d:Nat),Jb x,Ja 10 (st1 0),Ja 11 (st1 1),Ja 12 (st1 2), .hs (13,s) 0 R.length cap,Ja 14 (st1 4),Ja 15 (st1 5),Ja 16 (st1 6)]),((0,s0), .c [int dk,int dn,Jb x,Ji ps])]++(((13,s),Own.c (Jt R++tl))::Jm 3 st1), [],nx2,21⟩:Heap)) (Jn ([((20,nx0), .c [Jf nm,int a0,int a1,int a2,int a3,int a4,int mux,int sub]),((1,s1), .c (Jo d x st1)),((0,s0), .c [int dk,int dn,Jb x,Ji ps])]++(((13,s),Own.c (Jt R++tl))::Jm 3 st1)) ([((20,nx0), .c [Jf nm,int a0,int a1,int a2,int a3,int a4,int mux,int sub]),((1,s1), .c (Jo d x st1)),((0,s0), .c [int dk,int dn,Jb x,Ji ps])]++(((13,s),Own.c (Jt R++tl))::Jm 3 st1)) [] rfl rfl (List.Perm.append_left _ hP.symm) Sf Sf (BxLe.of_eq (by rw [eo])) trivial ⟨Rf,Rf,Rf,Rf,Rf,trivial⟩) ?_
      refine stp ?_
      intro c t1;cases c
      ·have t1:=Ju t1
       refine stp ?_
       refine Jd rfl rfl (Jb4 3 rs d Dc hl hc) ⟨Rf,Rf,Rf,trivial⟩ fun nx3=> ?_
       refine stp ?_
       intro c t2;cases c
       ·have t2:=Ju t2
        refine stp ?_
        exact back (4,st1,nx3) ⟨by dsimp only;omega,hok1,Jaw hdone hrs (Jao (.inr (.inr (List.eq_nil_of_length_eq_zero Om)))),fun j hj=> hrest j (by dsimp only at hj;omega)⟩ Dm (Jn ([((20,nx0), .c [Jf nm,int a0,int a1,int a2,int a3,int a4,int mux,int sub]),((1,s1), .c [u32 (d:Nat),Jb x,Ja 10 (st1 0),Ja 11 (st1 1),Ja 12 (st1 2), .hs (13,s) 0 R.length cap,Ja 14 (st1 4),Ja 15 (st1 5),Ja 16 (st1 6)]),((0,s0), .c [int dk,int dn,Jb x,Ji ps])]++JB st1) ([((20,nx0), .c [Jf nm,int a0,int a1,int a2,int a3,int a4,int mux,int sub]),((1,s1), .c [u32 (d:Nat),Jb x,Ja 10 (st1 0),Ja 11 (st1 1),Ja 12 (st1 2), .hs (13,s) 0 R.length cap,Ja 14 (st1 4),Ja 15 (st1 5),Ja 16 (st1 6)]),((0,s0), .c [int dk,int dn,Jb x,Ji ps])]++JB st1) [] rfl rfl (List.Perm.append_left _ hP) Sf Sf (BxLe.of_eq (by rw [eo])) trivial ⟨Rf,Rf,Rf,Rf,Jk rfl,trivial⟩)
       ·have t2:=Jv t2
        have hwh:=JbB 3 a3 Om (hn 3)
        have hen:Jaa 3 d x ⟨nm,a0,a1,a2,a3,a4,mux,sub⟩ rs= [⟨Jam 3 a3,Jas 3 rs d⟩]:=Jb5 t1 (fun h=> by cases h.1) (fun h=> by rw [h] at t2;exact absurd t2 Dc)
        generalize Jas 3 rs d=W at t2 hen
        generalize Jam 3 a3=z at hwh hen
        refine stp ?_
        refine J6 14 [((20,nx0), .c [Jf nm,int a0,int a1,int a2,int a3,int a4,int mux,int sub]),((1,s1), .c [u32 (d:Nat),Jb x,Ja 10 (st1 0),Ja 11 (st1 1),Ja 12 (st1 2), .hs (13,s) 0 R.length cap,Ja 14 (st1 4),Ja 15 (st1 5),Ja 16 (st1 6)]),((0,s0), .c [int dk,int dn,Jb x,Ji ps])] (fun i=> match i with | 12=> true | _=> false) (fun i=> match i with | 8=> true | _=> false) [0,1,2,3,4,5,6,7,8,9,10,11,13,12] (by kernel_rfl) (by kernel_rfl) (HB.cons rfl (HB.cons rfl (HB.one rfl))) ?_
        refine stp ?_
        refine ⟨_,J5 rfl rfl rfl hwh ⟨Rf,AVle.of_eq (congrArg u32 (Jch Om (hn 3))),trivial⟩ (NoId.v _), ?_⟩
        refine stp ?_
        refine ⟨_,Jcv (e:=78) (szx:=2) (m:=1) (n:=R.length) (cap:=cap) (i:=(13,s)) (cs:=Jt R++tl) rfl rfl rfl (.inr ⟨_,rfl⟩) Tryz.underlying35 JdL gc_ent.symm Dc rfl hrk.1 (by rw [gc_ent,List.length_append,Jbg];exact hrk.2) (Jz rfl) (by rw [JdM];omega) Om (HB.cons rfl (HB.cons rfl (HB.one rfl))) (fun _=> (HB.cons rfl (HB.cons rfl (HB.one rfl)))),fun r h' hr=> ?_⟩
        rcases hr with ⟨hfit,rfl,rfl⟩ | ⟨ncap,hge,rfl,rfl⟩
        ·refine stp ?_
         exact back (4,Jx st1 3 (R++ [(z,Js W)],some (s,cap,tl.drop 2)),nx3) ⟨by dsimp only;omega,JbH hok1 ⟨by rw [List.length_append];exact hfit,by have:=hrk.2;rw [List.length_append,List.length_drop,List.length_singleton];omega⟩,Ja4 (R:=R) hdone hrs hk hen,Ja5 hrest⟩ Dm (ELe.trans (Jn (pm:= []) (bx:= [((20,nx0), .c [Jf nm,int a0,int a1,int a2,int a3,int a4,int mux,int sub]),((1,s1), .c (Jo d x (Jx st1 3 (R++ [(z,Js W)],some (s,cap,tl.drop 2))))),((0,s0), .c [int dk,int dn,Jb x,Ji ps])]++(JaC 13 (R++ [(z,Js W)],some (s,cap,tl.drop 2))++Jm 3 st1)) (L:= [(1,Js rs),(2, .bp (0,s0) 0),(3, .bp (1,s1) 0),(4, .bp (20,nx0) 0),(9,int (4:Nat))]) ([((20,nx0), .c [Jf nm,int a0,int a1,int a2,int a3,int a4,int mux,int sub]),((1,s1),Own.c [u32 (d:Nat),Jb x,Ja 10 (st1 0),Ja 11 (st1 1),Ja 12 (st1 2), .hs (13,s) 0 (R.length+1) cap,Ja 14 (st1 4),Ja 15 (st1 5),Ja 16 (st1 6)]),((0,s0), .c [int dk,int dn,Jb x,Ji ps])]++(((13,s), .c _)::Jm 3 st1)) ([((20,nx0), .c [Jf nm,int a0,int a1,int a2,int a3,int a4,int mux,int sub]),((1,s1),Own.c [u32 (d:Nat),Jb x,Ja 10 (st1 0),Ja 11 (st1 1),Ja 12 (st1 2), .hs (13,s) 0 (R.length+1) cap,Ja 14 (st1 4),Ja 15 (st1 5),Ja 16 (st1 6)]),((0,s0), .c [int dk,int dn,Jb x,Ji ps])]++(((13,s), .c _)::Jm 3 st1)) [] rfl rfl (List.Perm.refl _) Sf Sf (bx4 rfl (JkP (Ja0)) (JfL gc_ent rfl)) trivial ⟨Rf,Rf,Rf,Rf,Jk rfl,trivial⟩) (Jby (k:=3) Dc))
        ·refine stp ?_
         exact back (4,Jx st1 3 (R++ [(z,Js W)],some (nx3,ncap,List.replicate ((ncap - (R.length+1)) * 2) .any)),nx3+1) ⟨by dsimp only;omega,JbH hok1 ⟨by rw [List.length_append];exact hge,by rw [List.length_append,List.length_replicate,List.length_singleton,← Nat.add_mul];omega⟩,Ja4 (R:=R) hdone hrs hk hen,Ja5 hrest⟩ Dm (ELe.trans (Jn (pm:= []) (bx:= [((20,nx0), .c [Jf nm,int a0,int a1,int a2,int a3,int a4,int mux,int sub]),((1,s1), .c (Jo d x (Jx st1 3 (R++ [(z,Js W)],some (nx3,ncap,List.replicate ((ncap - (R.length+1)) * 2) .any))))),((0,s0), .c [int dk,int dn,Jb x,Ji ps])]++(JaC 13 (R++ [(z,Js W)],some (nx3,ncap,List.replicate ((ncap - (R.length+1)) * 2) .any))++Jm 3 st1)) (L:= [(1,Js rs),(2, .bp (0,s0) 0),(3, .bp (1,s1) 0),(4, .bp (20,nx0) 0),(9,int (4:Nat))]) ([((20,nx0), .c [Jf nm,int a0,int a1,int a2,int a3,int a4,int mux,int sub]),((1,s1),Own.c [u32 (d:Nat),Jb x,Ja 10 (st1 0),Ja 11 (st1 1),Ja 12 (st1 2), .hs (21,nx3) 0 (R.length+1) ncap,Ja 14 (st1 4),Ja 15 (st1 5),Ja 16 (st1 6)]),((0,s0), .c [int dk,int dn,Jb x,Ji ps])]++(((21,nx3), .c _)::((13,s),Own.c (Jt R++tl))::Jm 3 st1)) ([((20,nx0), .c [Jf nm,int a0,int a1,int a2,int a3,int a4,int mux,int sub]),((1,s1),Own.c [u32 (d:Nat),Jb x,Ja 10 (st1 0),Ja 11 (st1 1),Ja 12 (st1 2), .hs (21,nx3) 0 (R.length+1) ncap,Ja 14 (st1 4),Ja 15 (st1 5),Ja 16 (st1 6)]),((0,s0), .c [int dk,int dn,Jb x,Ji ps])]++(((21,nx3), .c _)::Jm 3 st1)) [] rfl rfl List.perm_middle (List.Sublist.append_left (.cons_cons _ (.cons _ Sf)) _) Sf (bx4 rfl (JkP (Ja0)) (JdW gc_ent rfl)) trivial ⟨Rf,Rf,Rf,Rf,Jk rfl,trivial⟩) (Jby (k:=3) Dc))
      ·have t1:=Jv t1
       refine stp ?_
       exact back (4,st1,nx2) ⟨by dsimp only;omega,hok1,Jaw hdone hrs (Jao (.inl t1)),fun j hj=> hrest j (by dsimp only at hj;omega)⟩ Dm (Jn ([((20,nx0), .c [Jf nm,int a0,int a1,int a2,int a3,int a4,int mux,int sub]),((1,s1), .c [u32 (d:Nat),Jb x,Ja 10 (st1 0),Ja 11 (st1 1),Ja 12 (st1 2), .hs (13,s) 0 R.length cap,Ja 14 (st1 4),Ja 15 (st1 5),Ja 16 (st1 6)]),((0,s0), .c [int dk,int dn,Jb x,Ji ps])]++JB st1) ([((20,nx0), .c [Jf nm,int a0,int a1,int a2,int a3,int a4,int mux,int sub]),((1,s1), .c [u32 (d:Nat),Jb x,Ja 10 (st1 0),Ja 11 (st1 1),Ja 12 (st1 2), .hs (13,s) 0 R.length cap,Ja 14 (st1 4),Ja 15 (st1 5),Ja 16 (st1 6)]),((0,s0), .c [int dk,int dn,Jb x,Ji ps])]++JB st1) [] rfl rfl (List.Perm.append_left _ hP) Sf Sf (BxLe.of_eq (by rw [eo])) trivial ⟨Rf,Rf,Rf,Rf,Jk rfl,trivial⟩)
    ·have hP:=JcT (k:=4) Dc st1
     have hrk:Jbt (st1 4):=hok1 _ Dc
     have hrs:st1 4=st 4:=hrest _ (Nat.le_refl _)
     have hln:(st1 4).1.length≤1000000:=by rw [hrs];exact hlen _ Dc
     rcases hk:st1 4 with ⟨R,_ | ⟨s,cap,tl⟩⟩
     ·rw [hk] at hP hrk hln
      dsimp only at hln
      have eo:Jo d x st1= [u32 (d:Nat),Jb x,Ja 10 (st1 0),Ja 11 (st1 1),Ja 12 (st1 2),Ja 13 (st1 3), .os 0 0 (fun _=> .any) none,Ja 15 (st1 5),Ja 16 (st1 6)]:=by simp only [Jo,hk,Ja]
      refine AW.le (E':=mk 75 [(1,Js rs),(2, .bp (0,s0) 0),(3, .bp (1,s1) 0),(4, .bp (20,nx0) 0),(9,int (4:Nat))] (⟨[((20,nx0), .c [Jf nm,int a0,int a1,int a2,int a3,int a4,int mux,int sub]),((1,s1), .c [u32 (d:Nat),Jb x,Ja 10 (st1 0),Ja 11 (st1 1),Ja 12 (st1 2),Ja 13 (st1 3), .os 0 0 (fun _=> .any) none,Ja 15 (st1 5),Ja 16 (st1 6)]),((0,s0), .c [int dk,int dn,Jb x,Ji ps])]++(Jm 4 st1), [],nx2,21⟩:Heap)) (Jn ([((20,nx0), .c [Jf nm,int a0,int a1,int a2,int a3,int a4,int mux,int sub]),((1,s1), .c (Jo d x st1)),((0,s0), .c [int dk,int dn,Jb x,Ji ps])]++(Jm 4 st1)) ([((20,nx0), .c [Jf nm,int a0,int a1,int a2,int a3,int a4,int mux,int sub]),((1,s1), .c (Jo d x st1)),((0,s0), .c [int dk,int dn,Jb x,Ji ps])]++(Jm 4 st1)) [] rfl rfl (List.Perm.append_left _ hP.symm) Sf Sf (BxLe.of_eq (by rw [eo])) trivial ⟨Rf,Rf,Rf,Rf,Rf,trivial⟩) ?_
      refine stp ?_
      intro c t1;cases c
      ·have t1:=Ju t1
       refine stp ?_
       refine Jd rfl rfl (Jb4 4 rs d Dc hl hc) ⟨Rf,Rf,Rf,trivial⟩ fun nx3=> ?_
       refine stp ?_
       intro c t2;cases c
       ·have t2:=Ju t2
        refine stp ?_
        exact back (5,st1,nx3) ⟨by dsimp only;omega,hok1,Jaw hdone hrs (Jao (.inr (.inr (List.eq_nil_of_length_eq_zero Om)))),fun j hj=> hrest j (by dsimp only at hj;omega)⟩ Dm (Jn ([((20,nx0), .c [Jf nm,int a0,int a1,int a2,int a3,int a4,int mux,int sub]),((1,s1), .c [u32 (d:Nat),Jb x,Ja 10 (st1 0),Ja 11 (st1 1),Ja 12 (st1 2),Ja 13 (st1 3), .os 0 0 (fun _=> .any) none,Ja 15 (st1 5),Ja 16 (st1 6)]),((0,s0), .c [int dk,int dn,Jb x,Ji ps])]++JB st1) ([((20,nx0), .c [Jf nm,int a0,int a1,int a2,int a3,int a4,int mux,int sub]),((1,s1), .c [u32 (d:Nat),Jb x,Ja 10 (st1 0),Ja 11 (st1 1),Ja 12 (st1 2),Ja 13 (st1 3), .os 0 0 (fun _=> .any) none,Ja 15 (st1 5),Ja 16 (st1 6)]),((0,s0), .c [int dk,int dn,Jb x,Ji ps])]++JB st1) [] rfl rfl (List.Perm.append_left _ hP) Sf Sf (BxLe.of_eq (by rw [eo])) trivial ⟨Rf,Rf,Rf,Rf,Jk rfl,trivial⟩)
       ·have t2:=Jv t2
        have hwh:=JbB 4 a4 Om (hn 4)
        have hen:Jaa 4 d x ⟨nm,a0,a1,a2,a3,a4,mux,sub⟩ rs= [⟨Jam 4 a4,Jas 4 rs d⟩]:=Jb5 t1 (fun h=> by cases h.1) (fun h=> by rw [h] at t2;exact absurd t2 Dc)
        generalize Jas 4 rs d=W at t2 hen
        generalize Jam 4 a4=z at hwh hen
        refine stp ?_
        refine J6 14 [((20,nx0), .c [Jf nm,int a0,int a1,int a2,int a3,int a4,int mux,int sub]),((1,s1), .c [u32 (d:Nat),Jb x,Ja 10 (st1 0),Ja 11 (st1 1),Ja 12 (st1 2),Ja 13 (st1 3), .os 0 0 (fun _=> .any) none,Ja 15 (st1 5),Ja 16 (st1 6)]),((0,s0), .c [int dk,int dn,Jb x,Ji ps])] (fun i=> match i with | 12=> true | _=> false) (fun i=> match i with | 8=> true | _=> false) [0,1,2,3,4,5,6,7,8,9,10,11,13,12] (by kernel_rfl) (by kernel_rfl) (HB.cons rfl (HB.cons rfl (HB.one rfl))) ?_
        refine stp ?_
        refine ⟨_,J5 rfl rfl rfl hwh ⟨Rf,AVle.of_eq (congrArg u32 (Jch Om (hn 4))),trivial⟩ (NoId.v _), ?_⟩
        refine stp ?_
        refine ⟨_,Jb7 (e:=78) (szx:=2) (m:=1) rfl rfl rfl (.inr ⟨_,rfl⟩) Tryz.underlying35 JdL gc_ent.symm Dc (Jz rfl) (by rw [JdM];omega) Om (fun _=> (HB.cons rfl (HB.cons rfl (HB.one rfl)))),fun r h' hr=> ?_⟩
        obtain ⟨ncap,hge,rfl,rfl⟩:=hr
        refine stp ?_
        exact back (5,Jx st1 4 ([]++ [(z,Js W)],some (nx3,ncap,List.replicate ((ncap - 1) * 2) .any)),nx3+1) ⟨by dsimp only;omega,JbH hok1 ⟨(by simpa using hge),by rw [List.length_replicate];show ncap * 2≤1 * 2+_;omega⟩,Ja4 (R:= []) hdone hrs (by rw [hk,hrk]) hen,Ja5 hrest⟩ Dm (ELe.trans (Jn (pm:= []) (bx:= [((20,nx0), .c [Jf nm,int a0,int a1,int a2,int a3,int a4,int mux,int sub]),((1,s1), .c (Jo d x (Jx st1 4 ([]++ [(z,Js W)],some (nx3,ncap,List.replicate ((ncap - 1) * 2) .any))))),((0,s0), .c [int dk,int dn,Jb x,Ji ps])]++(JaC 14 ([]++ [(z,Js W)],some (nx3,ncap,List.replicate ((ncap - 1) * 2) .any))++Jm 4 st1)) (L:= [(1,Js rs),(2, .bp (0,s0) 0),(3, .bp (1,s1) 0),(4, .bp (20,nx0) 0),(9,int (5:Nat))]) ([((20,nx0), .c [Jf nm,int a0,int a1,int a2,int a3,int a4,int mux,int sub]),((1,s1),Own.c [u32 (d:Nat),Jb x,Ja 10 (st1 0),Ja 11 (st1 1),Ja 12 (st1 2),Ja 13 (st1 3), .hs (21,nx3) 0 1 ncap,Ja 15 (st1 5),Ja 16 (st1 6)]),((0,s0), .c [int dk,int dn,Jb x,Ji ps])]++(((21,nx3), .c _)::Jm 4 st1)) ([((20,nx0), .c [Jf nm,int a0,int a1,int a2,int a3,int a4,int mux,int sub]),((1,s1),Own.c [u32 (d:Nat),Jb x,Ja 10 (st1 0),Ja 11 (st1 1),Ja 12 (st1 2),Ja 13 (st1 3), .hs (21,nx3) 0 1 ncap,Ja 15 (st1 5),Ja 16 (st1 6)]),((0,s0), .c [int dk,int dn,Jb x,Ji ps])]++(((21,nx3), .c _)::Jm 4 st1)) [] rfl rfl List.perm_middle Sf Sf (bx4 rfl (JkQ (Ja0 (R:= []))) (Jdp gc_ent rfl)) trivial ⟨Rf,Rf,Rf,Rf,Jk rfl,trivial⟩) (Jby (k:=4) Dc))
      ·have t1:=Jv t1
       refine stp ?_
       exact back (5,st1,nx2) ⟨by dsimp only;omega,hok1,Jaw hdone hrs (Jao (.inl t1)),fun j hj=> hrest j (by dsimp only at hj;omega)⟩ Dm (Jn ([((20,nx0), .c [Jf nm,int a0,int a1,int a2,int a3,int a4,int mux,int sub]),((1,s1), .c [u32 (d:Nat),Jb x,Ja 10 (st1 0),Ja 11 (st1 1),Ja 12 (st1 2),Ja 13 (st1 3), .os 0 0 (fun _=> .any) none,Ja 15 (st1 5),Ja 16 (st1 6)]),((0,s0), .c [int dk,int dn,Jb x,Ji ps])]++JB st1) ([((20,nx0), .c [Jf nm,int a0,int a1,int a2,int a3,int a4,int mux,int sub]),((1,s1), .c [u32 (d:Nat),Jb x,Ja 10 (st1 0),Ja 11 (st1 1),Ja 12 (st1 2),Ja 13 (st1 3), .os 0 0 (fun _=> .any) none,Ja 15 (st1 5),Ja 16 (st1 6)]),((0,s0), .c [int dk,int dn,Jb x,Ji ps])]++JB st1) [] rfl rfl (List.Perm.append_left _ hP) Sf Sf (BxLe.of_eq (by rw [eo])) trivial ⟨Rf,Rf,Rf,Rf,Jk rfl,trivial⟩)
     ·rw [hk] at hP hrk hln
      dsimp only at hln
      have eo:Jo d x st1= [u32 (d:Nat),Jb x,Ja 10 (st1 0),Ja 11 (st1 1),Ja 12 (st1 2),Ja 13 (st1 3), .hs (14,s) 0 R.length cap,Ja 15 (st1 5),Ja 16 (st1 6)]:=by simp only [Jo,hk,Ja]
      refine AW.le (E':=mk 75 [(1,Js rs),(2, .bp (0,s0) 0),(3, .bp (1,s1) 0),(4, .bp (20,nx0) 0),(9,int (4:Nat))] (⟨[((20,nx0), .c [Jf nm,int a0,int a1,int a2,int a3,int a4,int mux,int sub]),((1,s1), .c [u32 (d:Nat),Jb x,Ja 10 (st1 0),Ja 11 (st1 1),Ja 12 (st1 2),Ja 13 (st1 3), .hs (14,s) 0 R.length cap,Ja 15 (st1 5),Ja 16 (st1 6)]),((0,s0), .c [int dk,int dn,Jb x,Ji ps])]++(((14,s),Own.c (Jt R++tl))::Jm 4 st1), [],nx2,21⟩:Heap)) (Jn ([((20,nx0), .c [Jf nm,int a0,int a1,int a2,int a3,int a4,int mux,int sub]),((1,s1), .c (Jo d x st1)),((0,s0), .c [int dk,int dn,Jb x,Ji ps])]++(((14,s),Own.c (Jt R++tl))::Jm 4 st1)) ([((20,nx0), .c [Jf nm,int a0,int a1,int a2,int a3,int a4,int mux,int sub]),((1,s1), .c (Jo d x st1)),((0,s0), .c [int dk,int dn,Jb x,Ji ps])]++(((14,s),Own.c (Jt R++tl))::Jm 4 st1)) [] rfl rfl (List.Perm.append_left _ hP.symm) Sf Sf (BxLe.of_eq (by rw [eo])) trivial ⟨Rf,Rf,Rf,Rf,Rf,trivial⟩) ?_
      refine stp ?_
      intro c t1;cases c
      ·have t1:=Ju t1
       refine stp ?_
       refine Jd rfl rfl (Jb4 4 rs d Dc hl hc) ⟨Rf,Rf,Rf,trivial⟩ fun nx3=> ?_
       refine stp ?_
       intro c t2;cases c
       ·have t2:=Ju t2
        refine stp ?_
        exact back (5,st1,nx3) ⟨by dsimp only;omega,hok1,Jaw hdone hrs (Jao (.inr (.inr (List.eq_nil_of_length_eq_zero Om)))),fun j hj=> hrest j (by dsimp only at hj;omega)⟩ Dm (Jn ([((20,nx0), .c [Jf nm,int a0,int a1,int a2,int a3,int a4,int mux,int sub]),((1,s1), .c [u32 (d:Nat),Jb x,Ja 10 (st1 0),Ja 11 (st1 1),Ja 12 (st1 2),Ja 13 (st1 3), .hs (14,s) 0 R.length cap,Ja 15 (st1 5),Ja 16 (st1 6)]),((0,s0), .c [int dk,int dn,Jb x,Ji ps])]++JB st1) ([((20,nx0), .c [Jf nm,int a0,int a1,int a2,int a3,int a4,int mux,int sub]),((1,s1), .c [u32 (d:Nat),Jb x,Ja 10 (st1 0),Ja 11 (st1 1),Ja 12 (st1 2),Ja 13 (st1 3), .hs (14,s) 0 R.length cap,Ja 15 (st1 5),Ja 16 (st1 6)]),((0,s0), .c [int dk,int dn,Jb x,Ji ps])]++JB st1) [] rfl rfl (List.Perm.append_left _ hP) Sf Sf (BxLe.of_eq (by rw [eo])) trivial ⟨Rf,Rf,Rf,Rf,Jk rfl,trivial⟩)
       ·have t2:=Jv t2
        have hwh:=JbB 4 a4 Om (hn 4)
        have hen:Jaa 4 d x ⟨nm,a0,a1,a2,a3,a4,mux,sub⟩ rs= [⟨Jam 4 a4,Jas 4 rs d⟩]:=Jb5 t1 (fun h=> by cases h.1) (fun h=> by rw [h] at t2;exact absurd t2 Dc)
        generalize Jas 4 rs d=W at t2 hen
        generalize Jam 4 a4=z at hwh hen
        refine stp ?_
        refine J6 14 [((20,nx0), .c [Jf nm,int a0,int a1,int a2,int a3,int a4,int mux,int sub]),((1,s1), .c [u32 (d:Nat),Jb x,Ja 10 (st1 0),Ja 11 (st1 1),Ja 12 (st1 2),Ja 13 (st1 3), .hs (14,s) 0 R.length cap,Ja 15 (st1 5),Ja 16 (st1 6)]),((0,s0), .c [int dk,int dn,Jb x,Ji ps])] (fun i=> match i with | 12=> true | _=> false) (fun i=> match i with | 8=> true | _=> false) [0,1,2,3,4,5,6,7,8,9,10,11,13,12] (by kernel_rfl) (by kernel_rfl) (HB.cons rfl (HB.cons rfl (HB.one rfl))) ?_
        refine stp ?_
        refine ⟨_,J5 rfl rfl rfl hwh ⟨Rf,AVle.of_eq (congrArg u32 (Jch Om (hn 4))),trivial⟩ (NoId.v _), ?_⟩
        refine stp ?_
        refine ⟨_,Jcv (e:=78) (szx:=2) (m:=1) (n:=R.length) (cap:=cap) (i:=(14,s)) (cs:=Jt R++tl) rfl rfl rfl (.inr ⟨_,rfl⟩) Tryz.underlying35 JdL gc_ent.symm Dc rfl hrk.1 (by rw [gc_ent,List.length_append,Jbg];exact hrk.2) (Jz rfl) (by rw [JdM];omega) Om (HB.cons rfl (HB.cons rfl (HB.one rfl))) (fun _=> (HB.cons rfl (HB.cons rfl (HB.one rfl)))),fun r h' hr=> ?_⟩
        rcases hr with ⟨hfit,rfl,rfl⟩ | ⟨ncap,hge,rfl,rfl⟩
        ·refine stp ?_
         exact back (5,Jx st1 4 (R++ [(z,Js W)],some (s,cap,tl.drop 2)),nx3) ⟨by dsimp only;omega,JbH hok1 ⟨by rw [List.length_append];exact hfit,by have:=hrk.2;rw [List.length_append,List.length_drop,List.length_singleton];omega⟩,Ja4 (R:=R) hdone hrs hk hen,Ja5 hrest⟩ Dm (ELe.trans (Jn (pm:= []) (bx:= [((20,nx0), .c [Jf nm,int a0,int a1,int a2,int a3,int a4,int mux,int sub]),((1,s1), .c (Jo d x (Jx st1 4 (R++ [(z,Js W)],some (s,cap,tl.drop 2))))),((0,s0), .c [int dk,int dn,Jb x,Ji ps])]++(JaC 14 (R++ [(z,Js W)],some (s,cap,tl.drop 2))++Jm 4 st1)) (L:= [(1,Js rs),(2, .bp (0,s0) 0),(3, .bp (1,s1) 0),(4, .bp (20,nx0) 0),(9,int (5:Nat))]) ([((20,nx0), .c [Jf nm,int a0,int a1,int a2,int a3,int a4,int mux,int sub]),((1,s1),Own.c [u32 (d:Nat),Jb x,Ja 10 (st1 0),Ja 11 (st1 1),Ja 12 (st1 2),Ja 13 (st1 3), .hs (14,s) 0 (R.length+1) cap,Ja 15 (st1 5),Ja 16 (st1 6)]),((0,s0), .c [int dk,int dn,Jb x,Ji ps])]++(((14,s), .c _)::Jm 4 st1)) ([((20,nx0), .c [Jf nm,int a0,int a1,int a2,int a3,int a4,int mux,int sub]),((1,s1),Own.c [u32 (d:Nat),Jb x,Ja 10 (st1 0),Ja 11 (st1 1),Ja 12 (st1 2),Ja 13 (st1 3), .hs (14,s) 0 (R.length+1) cap,Ja 15 (st1 5),Ja 16 (st1 6)]),((0,s0), .c [int dk,int dn,Jb x,Ji ps])]++(((14,s), .c _)::Jm 4 st1)) [] rfl rfl (List.Perm.refl _) Sf Sf (bx4 rfl (JkQ (Ja0)) (JfL gc_ent rfl)) trivial ⟨Rf,Rf,Rf,Rf,Jk rfl,trivial⟩) (Jby (k:=4) Dc))
        ·refine stp ?_
         exact back (5,Jx st1 4 (R++ [(z,Js W)],some (nx3,ncap,List.replicate ((ncap - (R.length+1)) * 2) .any)),nx3+1) ⟨by dsimp only;omega,JbH hok1 ⟨by rw [List.length_append];exact hge,by rw [List.length_append,List.length_replicate,List.length_singleton,← Nat.add_mul];omega⟩,Ja4 (R:=R) hdone hrs hk hen,Ja5 hrest⟩ Dm (ELe.trans (Jn (pm:= []) (bx:= [((20,nx0), .c [Jf nm,int a0,int a1,int a2,int a3,int a4,int mux,int sub]),((1,s1), .c (Jo d x (Jx st1 4 (R++ [(z,Js W)],some (nx3,ncap,List.replicate ((ncap - (R.length+1)) * 2) .any))))),((0,s0), .c [int dk,int dn,Jb x,Ji ps])]++(JaC 14 (R++ [(z,Js W)],some (nx3,ncap,List.replicate ((ncap - (R.length+1)) * 2) .any))++Jm 4 st1)) (L:= [(1,Js rs),(2, .bp (0,s0) 0),(3, .bp (1,s1) 0),(4, .bp (20,nx0) 0),(9,int (5:Nat))]) ([((20,nx0), .c [Jf nm,int a0,int a1,int a2,int a3,int a4,int mux,int sub]),((1,s1),Own.c [u32 (d:Nat),Jb x,Ja 10 (st1 0),Ja 11 (st1 1),Ja 12 (st1 2),Ja 13 (st1 3), .hs (21,nx3) 0 (R.length+1) ncap,Ja 15 (st1 5),Ja 16 (st1 6)]),((0,s0), .c [int dk,int dn,Jb x,Ji ps])]++(((21,nx3), .c _)::((14,s),Own.c (Jt R++tl))::Jm 4 st1)) ([((20,nx0), .c [Jf nm,int a0,int a1,int a2,int a3,int a4,int mux,int sub]),((1,s1),Own.c [u32 (d:Nat),Jb x,Ja 10 (st1 0),Ja 11 (st1 1),Ja 12 (st1 2),Ja 13 (st1 3), .hs (21,nx3) 0 (R.length+1) ncap,Ja 15 (st1 5),Ja 16 (st1 6)]),((0,s0), .c [int dk,int dn,Jb x,Ji ps])]++(((21,nx3), .c _)::Jm 4 st1)) [] rfl rfl List.perm_middle (List.Sublist.append_left (.cons_cons _ (.cons _ Sf)) _) Sf (bx4 rfl (JkQ (Ja0)) (JdW gc_ent rfl)) trivial ⟨Rf,Rf,Rf,Rf,Jk rfl,trivial⟩) (Jby (k:=4) Dc))
      ·have t1:=Jv t1
       refine stp ?_
       exact back (5,st1,nx2) ⟨by dsimp only;omega,hok1,Jaw hdone hrs (Jao (.inl t1)),fun j hj=> hrest j (by dsimp only at hj;omega)⟩ Dm (Jn ([((20,nx0), .c [Jf nm,int a0,int a1,int a2,int a3,int a4,int mux,int sub]),((1,s1), .c [u32 (d:Nat),Jb x,Ja 10 (st1 0),Ja 11 (st1 1),Ja 12 (st1 2),Ja 13 (st1 3), .hs (14,s) 0 R.length cap,Ja 15 (st1 5),Ja 16 (st1 6)]),((0,s0), .c [int dk,int dn,Jb x,Ji ps])]++JB st1) ([((20,nx0), .c [Jf nm,int a0,int a1,int a2,int a3,int a4,int mux,int sub]),((1,s1), .c [u32 (d:Nat),Jb x,Ja 10 (st1 0),Ja 11 (st1 1),Ja 12 (st1 2),Ja 13 (st1 3), .hs (14,s) 0 R.length cap,Ja 15 (st1 5),Ja 16 (st1 6)]),((0,s0), .c [int dk,int dn,Jb x,Ji ps])]++JB st1) [] rfl rfl (List.Perm.append_left _ hP) Sf Sf (BxLe.of_eq (by rw [eo])) trivial ⟨Rf,Rf,Rf,Rf,Jk rfl,trivial⟩)
 ·rintro ⟨st1,nx2⟩ ⟨hok1,hdone,hrest⟩
  dsimp only at hok1 hdone hrest
  rcases hm with rfl | rfl | rfl
  ·refine stp ?_
   exact Jac rfl ⟨.tup [],⟨[((1,s1), .c (Jo d x st1)),((0,s0), .c [int dk,int dn,Jb x,Ji ps])]++JB st1, [],nx2,21⟩,Rf,Jaz _ [] rfl (.cons _ Sf) Sf Bf trivial,rfl,st1,_,_,⟨hok1,hdone,fun m hm=> by rw [show Jca m ⟨nm,a0,a1,a2,a3,a4,0,sub⟩ rs= [] from if_neg (show ¬(0:Int)=(m:Int)+1 by omega),hrest m hm];exact (List.append_nil _).symm⟩,rfl⟩
  ·have hP:=JcT (k:=5) Dc st1
   have hrk:Jbt (st1 5):=hok1 _ Dc
   have hrs:st1 5=st 5:=hrest 0 Dc
   have hln:(st1 5).1.length≤1000000:=by rw [hrs];exact hlen _ Dc
   have hsb:Jca 0 ⟨nm,a0,a1,a2,a3,a4,1,sub⟩ rs= [⟨sub.toNat,(rs.getD 0 JA).code⟩]:=if_pos (show ((1:Nat):Int)=((0:Nat):Int)+1 by decide)
   have hso:∀j,j < 2→j≠0→Jca j ⟨nm,a0,a1,a2,a3,a4,1,sub⟩ rs= []:=fun j hj hne=> if_neg (show ¬((1:Nat):Int)=(j:Int)+1 by omega)
   have hs1:0≤sub:=hs.1
   have hs2:sub≤255:=hs.2
   have hr0:0 < rs.length:=List.length_pos_iff.2 hr
   have hwr:IntKind.u32.wrap sub=((sub.toNat:Nat):Int):=by rw [Jch hs1 Om];omega
   have hw2: [AV.v (.int .u32 (IntKind.u32.wrap sub)),u32 ((rs.getD 0 JA).code:Nat)]= [AV.v (.int .u32 ((J9 ⟨sub.toNat,(rs.getD 0 JA).code⟩).1:Nat)),(J9 ⟨sub.toNat,(rs.getD 0 JA).code⟩).2]:=congrArg (fun z:Int=> [AV.v (.int .u32 z),u32 ((rs.getD 0 JA).code:Nat)]) hwr
   rcases hk:st1 5 with ⟨R,_ | ⟨s,cap,tl⟩⟩
   ·rw [hk] at hP hrk hln
    dsimp only at hln
    have eo:Jo d x st1= [u32 (d:Nat),Jb x,Ja 10 (st1 0),Ja 11 (st1 1),Ja 12 (st1 2),Ja 13 (st1 3),Ja 14 (st1 4), .os 0 0 (fun _=> .any) none,Ja 16 (st1 6)]:=by simp only [Jo,hk,Ja]
    refine AW.le (E':=mk 75 [(1,Js rs),(2, .bp (0,s0) 0),(3, .bp (1,s1) 0),(4, .bp (20,nx0) 0)] (⟨[((20,nx0), .c [Jf nm,int a0,int a1,int a2,int a3,int a4,int 1,int sub]),((1,s1), .c [u32 (d:Nat),Jb x,Ja 10 (st1 0),Ja 11 (st1 1),Ja 12 (st1 2),Ja 13 (st1 3),Ja 14 (st1 4), .os 0 0 (fun _=> .any) none,Ja 16 (st1 6)]),((0,s0), .c [int dk,int dn,Jb x,Ji ps])]++(Jm 5 st1), [],nx2,21⟩:Heap)) (Jn ([((20,nx0), .c [Jf nm,int a0,int a1,int a2,int a3,int a4,int 1,int sub]),((1,s1), .c (Jo d x st1)),((0,s0), .c [int dk,int dn,Jb x,Ji ps])]++(Jm 5 st1)) ([((20,nx0), .c [Jf nm,int a0,int a1,int a2,int a3,int a4,int 1,int sub]),((1,s1), .c (Jo d x st1)),((0,s0), .c [int dk,int dn,Jb x,Ji ps])]++(Jm 5 st1)) [] rfl rfl (List.Perm.append_left _ hP.symm) Sf Sf (BxLe.of_eq (by rw [eo])) trivial ⟨Rf,Rf,Rf,Rf,trivial⟩) ?_
    refine stp ?_
    refine J6 20 [((20,nx0), .c [Jf nm,int a0,int a1,int a2,int a3,int a4,int 1,int sub]),((1,s1), .c [u32 (d:Nat),Jb x,Ja 10 (st1 0),Ja 11 (st1 1),Ja 12 (st1 2),Ja 13 (st1 3),Ja 14 (st1 4), .os 0 0 (fun _=> .any) none,Ja 16 (st1 6)]),((0,s0), .c [int dk,int dn,Jb x,Ji ps])] (fun i=> match i with | 18=> true | _=> false) (fun _=> false) [0,1,2,3,4,5,6,7,8,9,10,11,12,13,14,15,16,17,19,18] (by kernel_rfl) (by kernel_rfl) (HB.cons rfl (HB.cons rfl (HB.one rfl))) ?_
    refine stp ?_
    refine ⟨Bd,Jb3 (b:= .rp (Jcy (rs.getD 0 JA)).cells) rfl ?_⟩
    refine stp ?_
    refine ⟨_,Jb7 (e:=120) (szx:=2) (m:=1) rfl rfl rfl (.inr ⟨_,rfl⟩) Tryz.underlying37 Jj5 gc_sub.symm Dc (Jz rfl) (by rw [Jj6];omega) Om (fun _=> (HB.cons rfl (HB.cons rfl (HB.one rfl)))),fun r h' hr=> ?_⟩
    obtain ⟨ncap,hge,rfl,rfl⟩:=hr
    refine stp ?_
    exact Jac rfl ⟨.tup [],⟨[((1,s1), .c (Jo d x (Jx st1 5 ([]++ [J9 ⟨sub.toNat,(rs.getD 0 JA).code⟩],some (nx2,ncap,List.replicate ((ncap - 1) * 2) .any))))),((0,s0), .c [int dk,int dn,Jb x,Ji ps])]++JB (Jx st1 5 ([]++ [J9 ⟨sub.toNat,(rs.getD 0 JA).code⟩],some (nx2,ncap,List.replicate ((ncap - 1) * 2) .any))), [],nx2+1,21⟩,Rf,HLe.trans (Jd5 (bx:= [((1,s1), .c (Jo d x (Jx st1 5 ([]++ [J9 ⟨sub.toNat,(rs.getD 0 JA).code⟩],some (nx2,ncap,List.replicate ((ncap - 1) * 2) .any))))),((0,s0), .c [int dk,int dn,Jb x,Ji ps])]++(JaC 15 ([]++ [J9 ⟨sub.toNat,(rs.getD 0 JA).code⟩],some (nx2,ncap,List.replicate ((ncap - 1) * 2) .any))++Jm 5 st1)) ([((20,nx0), .c [Jf nm,int a0,int a1,int a2,int a3,int a4,int 1,int sub]),((1,s1),Own.c [u32 (d:Nat),Jb x,Ja 10 (st1 0),Ja 11 (st1 1),Ja 12 (st1 2),Ja 13 (st1 3),Ja 14 (st1 4), .hs (21,nx2) 0 1 ncap,Ja 16 (st1 6)]),((0,s0), .c [int dk,int dn,Jb x,Ji ps])]++(((21,nx2), .c _)::Jm 5 st1)) ([((1,s1),Own.c [u32 (d:Nat),Jb x,Ja 10 (st1 0),Ja 11 (st1 1),Ja 12 (st1 2),Ja 13 (st1 3),Ja 14 (st1 4), .hs (21,nx2) 0 1 ncap,Ja 16 (st1 6)]),((0,s0), .c [int dk,int dn,Jb x,Ji ps])]++(((21,nx2), .c _)::Jm 5 st1)) rfl List.perm_middle (.cons _ Sf) rfl (bx3 rfl (JkR (Ja0 (R:= []))) (Jdp (e:=J9 ⟨sub.toNat,(rs.getD 0 JA).code⟩) gc_sub (by exact hw2)))) (Jft (k:=5) Dc),rfl,Jx st1 5 ([]++ [J9 ⟨sub.toNat,(rs.getD 0 JA).code⟩],some (nx2,ncap,List.replicate ((ncap - 1) * 2) .any)),_,_,Jfs (m:=0) (R:= []) Dc hok1 hdone hrest (by rw [hk,hrk]) ⟨(by simpa using hge),by rw [List.length_replicate];show ncap * 2≤1 * 2+_;omega⟩ hsb hso,rfl⟩
   ·rw [hk] at hP hrk hln
    dsimp only at hln
    have eo:Jo d x st1= [u32 (d:Nat),Jb x,Ja 10 (st1 0),Ja 11 (st1 1),Ja 12 (st1 2),Ja 13 (st1 3),Ja 14 (st1 4), .hs (15,s) 0 R.length cap,Ja 16 (st1 6)]:=by simp only [Jo,hk,Ja]
    refine AW.le (E':=mk 75 [(1,Js rs),(2, .bp (0,s0) 0),(3, .bp (1,s1) 0),(4, .bp (20,nx0) 0)] (⟨[((20,nx0), .c [Jf nm,int a0,int a1,int a2,int a3,int a4,int 1,int sub]),((1,s1), .c [u32 (d:Nat),Jb x,Ja 10 (st1 0),Ja 11 (st1 1),Ja 12 (st1 2),Ja 13 (st1 3),Ja 14 (st1 4), .hs (15,s) 0 R.length cap,Ja 16 (st1 6)]),((0,s0), .c [int dk,int dn,Jb x,Ji ps])]++(((15,s),Own.c (Jt R++tl))::Jm 5 st1), [],nx2,21⟩:Heap)) (Jn ([((20,nx0), .c [Jf nm,int a0,int a1,int a2,int a3,int a4,int 1,int sub]),((1,s1), .c (Jo d x st1)),((0,s0), .c [int dk,int dn,Jb x,Ji ps])]++(((15,s),Own.c (Jt R++tl))::Jm 5 st1)) ([((20,nx0), .c [Jf nm,int a0,int a1,int a2,int a3,int a4,int 1,int sub]),((1,s1), .c (Jo d x st1)),((0,s0), .c [int dk,int dn,Jb x,Ji ps])]++(((15,s),Own.c (Jt R++tl))::Jm 5 st1)) [] rfl rfl (List.Perm.append_left _ hP.symm) Sf Sf (BxLe.of_eq (by rw [eo])) trivial ⟨Rf,Rf,Rf,Rf,trivial⟩) ?_
    refine stp ?_
    refine J6 20 [((20,nx0), .c [Jf nm,int a0,int a1,int a2,int a3,int a4,int 1,int sub]),((1,s1), .c [u32 (d:Nat),Jb x,Ja 10 (st1 0),Ja 11 (st1 1),Ja 12 (st1 2),Ja 13 (st1 3),Ja 14 (st1 4), .hs (15,s) 0 R.length cap,Ja 16 (st1 6)]),((0,s0), .c [int dk,int dn,Jb x,Ji ps])] (fun i=> match i with | 18=> true | _=> false) (fun _=> false) [0,1,2,3,4,5,6,7,8,9,10,11,12,13,14,15,16,17,19,18] (by kernel_rfl) (by kernel_rfl) (HB.cons rfl (HB.cons rfl (HB.one rfl))) ?_
    refine stp ?_
    refine ⟨Bd,Jb3 (b:= .rp (Jcy (rs.getD 0 JA)).cells) rfl ?_⟩
    refine stp ?_
    refine ⟨_,Jcv (e:=120) (szx:=2) (m:=1) (n:=R.length) (cap:=cap) (i:=(15,s)) (cs:=Jt R++tl) rfl rfl rfl (.inr ⟨_,rfl⟩) Tryz.underlying37 Jj5 gc_sub.symm Dc rfl hrk.1 (by rw [gc_sub,List.length_append,Jbg];exact hrk.2) (Jz rfl) (by rw [Jj6];omega) Om (HB.cons rfl (HB.cons rfl (HB.one rfl))) (fun _=> (HB.cons rfl (HB.cons rfl (HB.one rfl)))),fun r h' hr=> ?_⟩
    rcases hr with ⟨hfit,rfl,rfl⟩ | ⟨ncap,hge,rfl,rfl⟩
    ·refine stp ?_
     exact Jac rfl ⟨.tup [],⟨[((1,s1), .c (Jo d x (Jx st1 5 (R++ [J9 ⟨sub.toNat,(rs.getD 0 JA).code⟩],some (s,cap,tl.drop 2))))),((0,s0), .c [int dk,int dn,Jb x,Ji ps])]++JB (Jx st1 5 (R++ [J9 ⟨sub.toNat,(rs.getD 0 JA).code⟩],some (s,cap,tl.drop 2))), [],nx2,21⟩,Rf,HLe.trans (Jd5 (bx:= [((1,s1), .c (Jo d x (Jx st1 5 (R++ [J9 ⟨sub.toNat,(rs.getD 0 JA).code⟩],some (s,cap,tl.drop 2))))),((0,s0), .c [int dk,int dn,Jb x,Ji ps])]++(JaC 15 (R++ [J9 ⟨sub.toNat,(rs.getD 0 JA).code⟩],some (s,cap,tl.drop 2))++Jm 5 st1)) ([((20,nx0), .c [Jf nm,int a0,int a1,int a2,int a3,int a4,int 1,int sub]),((1,s1),Own.c [u32 (d:Nat),Jb x,Ja 10 (st1 0),Ja 11 (st1 1),Ja 12 (st1 2),Ja 13 (st1 3),Ja 14 (st1 4), .hs (15,s) 0 (R.length+1) cap,Ja 16 (st1 6)]),((0,s0), .c [int dk,int dn,Jb x,Ji ps])]++(((15,s), .c _)::Jm 5 st1)) ([((1,s1),Own.c [u32 (d:Nat),Jb x,Ja 10 (st1 0),Ja 11 (st1 1),Ja 12 (st1 2),Ja 13 (st1 3),Ja 14 (st1 4), .hs (15,s) 0 (R.length+1) cap,Ja 16 (st1 6)]),((0,s0), .c [int dk,int dn,Jb x,Ji ps])]++(((15,s), .c _)::Jm 5 st1)) rfl (List.Perm.refl _) (.cons _ Sf) rfl (bx3 rfl (JkR (Ja0)) (JfL (e:=J9 ⟨sub.toNat,(rs.getD 0 JA).code⟩) gc_sub (by exact hw2)))) (Jft (k:=5) Dc),rfl,Jx st1 5 (R++ [J9 ⟨sub.toNat,(rs.getD 0 JA).code⟩],some (s,cap,tl.drop 2)),_,_,Jfs (m:=0) (R:=R) Dc hok1 hdone hrest hk ⟨by rw [List.length_append];exact hfit,by have:=hrk.2;rw [List.length_append,List.length_drop,List.length_singleton];omega⟩ hsb hso,rfl⟩
    ·refine stp ?_
     exact Jac rfl ⟨.tup [],⟨[((1,s1), .c (Jo d x (Jx st1 5 (R++ [J9 ⟨sub.toNat,(rs.getD 0 JA).code⟩],some (nx2,ncap,List.replicate ((ncap - (R.length+1)) * 2) .any))))),((0,s0), .c [int dk,int dn,Jb x,Ji ps])]++JB (Jx st1 5 (R++ [J9 ⟨sub.toNat,(rs.getD 0 JA).code⟩],some (nx2,ncap,List.replicate ((ncap - (R.length+1)) * 2) .any))), [],nx2+1,21⟩,Rf,HLe.trans (Jd5 (bx:= [((1,s1), .c (Jo d x (Jx st1 5 (R++ [J9 ⟨sub.toNat,(rs.getD 0 JA).code⟩],some (nx2,ncap,List.replicate ((ncap - (R.length+1)) * 2) .any))))),((0,s0), .c [int dk,int dn,Jb x,Ji ps])]++(JaC 15 (R++ [J9 ⟨sub.toNat,(rs.getD 0 JA).code⟩],some (nx2,ncap,List.replicate ((ncap - (R.length+1)) * 2) .any))++Jm 5 st1)) ([((20,nx0), .c [Jf nm,int a0,int a1,int a2,int a3,int a4,int 1,int sub]),((1,s1),Own.c [u32 (d:Nat),Jb x,Ja 10 (st1 0),Ja 11 (st1 1),Ja 12 (st1 2),Ja 13 (st1 3),Ja 14 (st1 4), .hs (21,nx2) 0 (R.length+1) ncap,Ja 16 (st1 6)]),((0,s0), .c [int dk,int dn,Jb x,Ji ps])]++(((21,nx2), .c _)::((15,s),Own.c (Jt R++tl))::Jm 5 st1)) ([((1,s1),Own.c [u32 (d:Nat),Jb x,Ja 10 (st1 0),Ja 11 (st1 1),Ja 12 (st1 2),Ja 13 (st1 3),Ja 14 (st1 4), .hs (21,nx2) 0 (R.length+1) ncap,Ja 16 (st1 6)]),((0,s0), .c [int dk,int dn,Jb x,Ji ps])]++(((21,nx2), .c _)::Jm 5 st1)) rfl List.perm_middle (.cons _ (.cons_cons _ (.cons_cons _ (.cons_cons _ (.cons _ Sf))))) rfl (bx3 rfl (JkR (Ja0)) (JdW (e:=J9 ⟨sub.toNat,(rs.getD 0 JA).code⟩) gc_sub (by exact hw2)))) (Jft (k:=5) Dc),rfl,Jx st1 5 (R++ [J9 ⟨sub.toNat,(rs.getD 0 JA).code⟩],some (nx2,ncap,List.replicate ((ncap - (R.length+1)) * 2) .any)),_,_,Jfs (m:=0) (R:=R) Dc hok1 hdone hrest hk ⟨by rw [List.length_append];exact hge,by rw [List.length_append,List.length_replicate,List.length_singleton,← Nat.add_mul];omega⟩ hsb hso,rfl⟩
  ·have hP:=JcT (k:=6) Dc st1
   have hrk:Jbt (st1 6):=hok1 _ Dc
   have hrs:st1 6=st 6:=hrest 1 Dc
   have hln:(st1 6).1.length≤1000000:=by rw [hrs];exact hlen _ Dc
   have hsb:Jca 1 ⟨nm,a0,a1,a2,a3,a4,2,sub⟩ rs= [⟨sub.toNat,(rs.getD 0 JA).code⟩]:=if_pos (show ((2:Nat):Int)=((1:Nat):Int)+1 by decide)
   have hso:∀j,j < 2→j≠1→Jca j ⟨nm,a0,a1,a2,a3,a4,2,sub⟩ rs= []:=fun j hj hne=> if_neg (show ¬((2:Nat):Int)=(j:Int)+1 by omega)
   have hs1:0≤sub:=hs.1
   have hs2:sub≤255:=hs.2
   have hr0:0 < rs.length:=List.length_pos_iff.2 hr
   have hwr:IntKind.u32.wrap sub=((sub.toNat:Nat):Int):=by rw [Jch hs1 Om];omega
   have hw2: [AV.v (.int .u32 (IntKind.u32.wrap sub)),u32 ((rs.getD 0 JA).code:Nat)]= [AV.v (.int .u32 ((J9 ⟨sub.toNat,(rs.getD 0 JA).code⟩).1:Nat)),(J9 ⟨sub.toNat,(rs.getD 0 JA).code⟩).2]:=congrArg (fun z:Int=> [AV.v (.int .u32 z),u32 ((rs.getD 0 JA).code:Nat)]) hwr
   rcases hk:st1 6 with ⟨R,_ | ⟨s,cap,tl⟩⟩
   ·rw [hk] at hP hrk hln
    dsimp only at hln
    have eo:Jo d x st1= [u32 (d:Nat),Jb x,Ja 10 (st1 0),Ja 11 (st1 1),Ja 12 (st1 2),Ja 13 (st1 3),Ja 14 (st1 4),Ja 15 (st1 5), .os 0 0 (fun _=> .any) none]:=by simp only [Jo,hk,Ja]
    refine AW.le (E':=mk 75 [(1,Js rs),(2, .bp (0,s0) 0),(3, .bp (1,s1) 0),(4, .bp (20,nx0) 0)] (⟨[((20,nx0), .c [Jf nm,int a0,int a1,int a2,int a3,int a4,int 2,int sub]),((1,s1), .c [u32 (d:Nat),Jb x,Ja 10 (st1 0),Ja 11 (st1 1),Ja 12 (st1 2),Ja 13 (st1 3),Ja 14 (st1 4),Ja 15 (st1 5), .os 0 0 (fun _=> .any) none]),((0,s0), .c [int dk,int dn,Jb x,Ji ps])]++(Jm 6 st1), [],nx2,21⟩:Heap)) (Jn ([((20,nx0), .c [Jf nm,int a0,int a1,int a2,int a3,int a4,int 2,int sub]),((1,s1), .c (Jo d x st1)),((0,s0), .c [int dk,int dn,Jb x,Ji ps])]++(Jm 6 st1)) ([((20,nx0), .c [Jf nm,int a0,int a1,int a2,int a3,int a4,int 2,int sub]),((1,s1), .c (Jo d x st1)),((0,s0), .c [int dk,int dn,Jb x,Ji ps])]++(Jm 6 st1)) [] rfl rfl (List.Perm.append_left _ hP.symm) Sf Sf (BxLe.of_eq (by rw [eo])) trivial ⟨Rf,Rf,Rf,Rf,trivial⟩) ?_
    refine stp ?_
    refine J6 20 [((20,nx0), .c [Jf nm,int a0,int a1,int a2,int a3,int a4,int 2,int sub]),((1,s1), .c [u32 (d:Nat),Jb x,Ja 10 (st1 0),Ja 11 (st1 1),Ja 12 (st1 2),Ja 13 (st1 3),Ja 14 (st1 4),Ja 15 (st1 5), .os 0 0 (fun _=> .any) none]),((0,s0), .c [int dk,int dn,Jb x,Ji ps])] (fun i=> match i with | 18=> true | _=> false) (fun _=> false) [0,1,2,3,4,5,6,7,8,9,10,11,12,13,14,15,16,17,19,18] (by kernel_rfl) (by kernel_rfl) (HB.cons rfl (HB.cons rfl (HB.one rfl))) ?_
    refine stp ?_
    refine ⟨Bd,Jb3 (b:= .rp (Jcy (rs.getD 0 JA)).cells) rfl ?_⟩
    refine stp ?_
    refine ⟨_,Jb7 (e:=120) (szx:=2) (m:=1) rfl rfl rfl (.inr ⟨_,rfl⟩) Tryz.underlying37 Jj5 gc_sub.symm Dc (Jz rfl) (by rw [Jj6];omega) Om (fun _=> (HB.cons rfl (HB.cons rfl (HB.one rfl)))),fun r h' hr=> ?_⟩
    obtain ⟨ncap,hge,rfl,rfl⟩:=hr
    refine stp ?_
    exact Jac rfl ⟨.tup [],⟨[((1,s1), .c (Jo d x (Jx st1 6 ([]++ [J9 ⟨sub.toNat,(rs.getD 0 JA).code⟩],some (nx2,ncap,List.replicate ((ncap - 1) * 2) .any))))),((0,s0), .c [int dk,int dn,Jb x,Ji ps])]++JB (Jx st1 6 ([]++ [J9 ⟨sub.toNat,(rs.getD 0 JA).code⟩],some (nx2,ncap,List.replicate ((ncap - 1) * 2) .any))), [],nx2+1,21⟩,Rf,HLe.trans (Jd5 (bx:= [((1,s1), .c (Jo d x (Jx st1 6 ([]++ [J9 ⟨sub.toNat,(rs.getD 0 JA).code⟩],some (nx2,ncap,List.replicate ((ncap - 1) * 2) .any))))),((0,s0), .c [int dk,int dn,Jb x,Ji ps])]++(JaC 16 ([]++ [J9 ⟨sub.toNat,(rs.getD 0 JA).code⟩],some (nx2,ncap,List.replicate ((ncap - 1) * 2) .any))++Jm 6 st1)) ([((20,nx0), .c [Jf nm,int a0,int a1,int a2,int a3,int a4,int 2,int sub]),((1,s1),Own.c [u32 (d:Nat),Jb x,Ja 10 (st1 0),Ja 11 (st1 1),Ja 12 (st1 2),Ja 13 (st1 3),Ja 14 (st1 4),Ja 15 (st1 5), .hs (21,nx2) 0 1 ncap]),((0,s0), .c [int dk,int dn,Jb x,Ji ps])]++(((21,nx2), .c _)::Jm 6 st1)) ([((1,s1),Own.c [u32 (d:Nat),Jb x,Ja 10 (st1 0),Ja 11 (st1 1),Ja 12 (st1 2),Ja 13 (st1 3),Ja 14 (st1 4),Ja 15 (st1 5), .hs (21,nx2) 0 1 ncap]),((0,s0), .c [int dk,int dn,Jb x,Ji ps])]++(((21,nx2), .c _)::Jm 6 st1)) rfl List.perm_middle (.cons _ Sf) rfl (bx3 rfl (JkS (Ja0 (R:= []))) (Jdp (e:=J9 ⟨sub.toNat,(rs.getD 0 JA).code⟩) gc_sub (by exact hw2)))) (Jft (k:=6) Dc),rfl,Jx st1 6 ([]++ [J9 ⟨sub.toNat,(rs.getD 0 JA).code⟩],some (nx2,ncap,List.replicate ((ncap - 1) * 2) .any)),_,_,Jfs (m:=1) (R:= []) Dc hok1 hdone hrest (by rw [hk,hrk]) ⟨(by simpa using hge),by rw [List.length_replicate];show ncap * 2≤1 * 2+_;omega⟩ hsb hso,rfl⟩
   ·rw [hk] at hP hrk hln
    dsimp only at hln
    have eo:Jo d x st1= [u32 (d:Nat),Jb x,Ja 10 (st1 0),Ja 11 (st1 1),Ja 12 (st1 2),Ja 13 (st1 3),Ja 14 (st1 4),Ja 15 (st1 5), .hs (16,s) 0 R.length cap]:=by simp only [Jo,hk,Ja]
    refine AW.le (E':=mk 75 [(1,Js rs),(2, .bp (0,s0) 0),(3, .bp (1,s1) 0),(4, .bp (20,nx0) 0)] (⟨[((20,nx0), .c [Jf nm,int a0,int a1,int a2,int a3,int a4,int 2,int sub]),((1,s1), .c [u32 (d:Nat),Jb x,Ja 10 (st1 0),Ja 11 (st1 1),Ja 12 (st1 2),Ja 13 (st1 3),Ja 14 (st1 4),Ja 15 (st1 5), .hs (16,s) 0 R.length cap]),((0,s0), .c [int dk,int dn,Jb x,Ji ps])]++(((16,s),Own.c (Jt R++tl))::Jm 6 st1), [],nx2,21⟩:Heap)) (Jn ([((20,nx0), .c [Jf nm,int a0,int a1,int a2,int a3,int a4,int 2,int sub]),((1,s1), .c (Jo d x st1)),((0,s0), .c [int dk,int dn,Jb x,Ji ps])]++(((16,s),Own.c (Jt R++tl))::Jm 6 st1)) ([((20,nx0), .c [Jf nm,int a0,int a1,int a2,int a3,int a4,int 2,int sub]),((1,s1), .c (Jo d x st1)),((0,s0), .c [int dk,int dn,Jb x,Ji ps])]++(((16,s),Own.c (Jt R++tl))::Jm 6 st1)) [] rfl rfl (List.Perm.append_left _ hP.symm) Sf Sf (BxLe.of_eq (by rw [eo])) trivial ⟨Rf,Rf,Rf,Rf,trivial⟩) ?_
    refine stp ?_
    refine J6 20 [((20,nx0), .c [Jf nm,int a0,int a1,int a2,int a3,int a4,int 2,int sub]),((1,s1), .c [u32 (d:Nat),Jb x,Ja 10 (st1 0),Ja 11 (st1 1),Ja 12 (st1 2),Ja 13 (st1 3),Ja 14 (st1 4),Ja 15 (st1 5), .hs (16,s) 0 R.length cap]),((0,s0), .c [int dk,int dn,Jb x,Ji ps])] (fun i=> match i with | 18=> true | _=> false) (fun _=> false) [0,1,2,3,4,5,6,7,8,9,10,11,12,13,14,15,16,17,19,18] (by kernel_rfl) (by kernel_rfl) (HB.cons rfl (HB.cons rfl (HB.one rfl))) ?_
    refine stp ?_
    refine ⟨Bd,Jb3 (b:= .rp (Jcy (rs.getD 0 JA)).cells) rfl ?_⟩
    refine stp ?_
    refine ⟨_,Jcv (e:=120) (szx:=2) (m:=1) (n:=R.length) (cap:=cap) (i:=(16,s)) (cs:=Jt R++tl) rfl rfl rfl (.inr ⟨_,rfl⟩) Tryz.underlying37 Jj5 gc_sub.symm Dc rfl hrk.1 (by rw [gc_sub,List.length_append,Jbg];exact hrk.2) (Jz rfl) (by rw [Jj6];omega) Om (HB.cons rfl (HB.cons rfl (HB.one rfl))) (fun _=> (HB.cons rfl (HB.cons rfl (HB.one rfl)))),fun r h' hr=> ?_⟩
    rcases hr with ⟨hfit,rfl,rfl⟩ | ⟨ncap,hge,rfl,rfl⟩
    ·refine stp ?_
     exact Jac rfl ⟨.tup [],⟨[((1,s1), .c (Jo d x (Jx st1 6 (R++ [J9 ⟨sub.toNat,(rs.getD 0 JA).code⟩],some (s,cap,tl.drop 2))))),((0,s0), .c [int dk,int dn,Jb x,Ji ps])]++JB (Jx st1 6 (R++ [J9 ⟨sub.toNat,(rs.getD 0 JA).code⟩],some (s,cap,tl.drop 2))), [],nx2,21⟩,Rf,HLe.trans (Jd5 (bx:= [((1,s1), .c (Jo d x (Jx st1 6 (R++ [J9 ⟨sub.toNat,(rs.getD 0 JA).code⟩],some (s,cap,tl.drop 2))))),((0,s0), .c [int dk,int dn,Jb x,Ji ps])]++(JaC 16 (R++ [J9 ⟨sub.toNat,(rs.getD 0 JA).code⟩],some (s,cap,tl.drop 2))++Jm 6 st1)) ([((20,nx0), .c [Jf nm,int a0,int a1,int a2,int a3,int a4,int 2,int sub]),((1,s1),Own.c [u32 (d:Nat),Jb x,Ja 10 (st1 0),Ja 11 (st1 1),Ja 12 (st1 2),Ja 13 (st1 3),Ja 14 (st1 4),Ja 15 (st1 5), .hs (16,s) 0 (R.length+1) cap]),((0,s0), .c [int dk,int dn,Jb x,Ji ps])]++(((16,s), .c _)::Jm 6 st1)) ([((1,s1),Own.c [u32 (d:Nat),Jb x,Ja 10 (st1 0),Ja 11 (st1 1),Ja 12 (st1 2),Ja 13 (st1 3),Ja 14 (st1 4),Ja 15 (st1 5), .hs (16,s) 0 (R.length+1) cap]),((0,s0), .c [int dk,int dn,Jb x,Ji ps])]++(((16,s), .c _)::Jm 6 st1)) rfl (List.Perm.refl _) (.cons _ Sf) rfl (bx3 rfl (JkS (Ja0)) (JfL (e:=J9 ⟨sub.toNat,(rs.getD 0 JA).code⟩) gc_sub (by exact hw2)))) (Jft (k:=6) Dc),rfl,Jx st1 6 (R++ [J9 ⟨sub.toNat,(rs.getD 0 JA).code⟩],some (s,cap,tl.drop 2)),_,_,Jfs (m:=1) (R:=R) Dc hok1 hdone hrest hk ⟨by rw [List.length_append];exact hfit,by have:=hrk.2;rw [List.length_append,List.length_drop,List.length_singleton];omega⟩ hsb hso,rfl⟩
    ·refine stp ?_
     exact Jac rfl ⟨.tup [],⟨[((1,s1), .c (Jo d x (Jx st1 6 (R++ [J9 ⟨sub.toNat,(rs.getD 0 JA).code⟩],some (nx2,ncap,List.replicate ((ncap - (R.length+1)) * 2) .any))))),((0,s0), .c [int dk,int dn,Jb x,Ji ps])]++JB (Jx st1 6 (R++ [J9 ⟨sub.toNat,(rs.getD 0 JA).code⟩],some (nx2,ncap,List.replicate ((ncap - (R.length+1)) * 2) .any))), [],nx2+1,21⟩,Rf,HLe.trans (Jd5 (bx:= [((1,s1), .c (Jo d x (Jx st1 6 (R++ [J9 ⟨sub.toNat,(rs.getD 0 JA).code⟩],some (nx2,ncap,List.replicate ((ncap - (R.length+1)) * 2) .any))))),((0,s0), .c [int dk,int dn,Jb x,Ji ps])]++(JaC 16 (R++ [J9 ⟨sub.toNat,(rs.getD 0 JA).code⟩],some (nx2,ncap,List.replicate ((ncap - (R.length+1)) * 2) .any))++Jm 6 st1)) ([((20,nx0), .c [Jf nm,int a0,int a1,int a2,int a3,int a4,int 2,int sub]),((1,s1),Own.c [u32 (d:Nat),Jb x,Ja 10 (st1 0),Ja 11 (st1 1),Ja 12 (st1 2),Ja 13 (st1 3),Ja 14 (st1 4),Ja 15 (st1 5), .hs (21,nx2) 0 (R.length+1) ncap]),((0,s0), .c [int dk,int dn,Jb x,Ji ps])]++(((21,nx2), .c _)::((16,s),Own.c (Jt R++tl))::Jm 6 st1)) ([((1,s1),Own.c [u32 (d:Nat),Jb x,Ja 10 (st1 0),Ja 11 (st1 1),Ja 12 (st1 2),Ja 13 (st1 3),Ja 14 (st1 4),Ja 15 (st1 5), .hs (21,nx2) 0 (R.length+1) ncap]),((0,s0), .c [int dk,int dn,Jb x,Ji ps])]++(((21,nx2), .c _)::Jm 6 st1)) rfl List.perm_middle (.cons _ (.cons_cons _ (.cons_cons _ (.cons_cons _ (.cons _ Sf))))) rfl (bx3 rfl (JkS (Ja0)) (JdW (e:=J9 ⟨sub.toNat,(rs.getD 0 JA).code⟩) gc_sub (by exact hw2)))) (Jft (k:=6) Dc),rfl,Jx st1 6 (R++ [J9 ⟨sub.toNat,(rs.getD 0 JA).code⟩],some (nx2,ncap,List.replicate ((ncap - (R.length+1)) * 2) .any)),_,_,Jfs (m:=1) (R:=R) Dc hok1 hdone hrest hk ⟨by rw [List.length_append];exact hge,by rw [List.length_append,List.length_replicate,List.length_singleton,← Nat.add_mul];omega⟩ hsb hso,rfl⟩
end Go.Proofs.W

namespace Go.Proofs.W
open Go.Vl Go.Shelf Go.RowKit
set_option maxRecDepth 100000
theorem Jsi (n:Nat) (h1:1≤n) (h2:n < 18446744073709551616):Tells Tryz.prog 364 [u64 n] (int (Lib.nDigits n:Nat)):=
 Jc9 (vs:= [.int .u64 n]) ⟨_,Tryz.func364,rfl,rfl⟩ fun w hk=> (Any.internal_strconv_numDigits { Tryz.laysM171 with} n h1 h2 w (Jpb hk)).mono fun e w' ⟨h1,h2⟩=> ⟨h1,h2 ▸ Below.refl _ _⟩
theorem JqB (n:Nat) (h:n < 100):Tells Tryz.prog 363 [int n] (Jf (Jc6 n)):=
 Jc9 (vs:= [.int .i64 n]) ⟨_,Tryz.func363,rfl,rfl⟩ fun w hk=> (Any.internal_strconv_small { Tryz.laysM171 with} n h w).mono fun e w' ⟨h1,h2⟩=> ⟨h1,h2 ▸ Below.refl _ _⟩
def byV (b:UInt8):Value:= .int .u8 (b.toNat:Int)
def zer (k:Nat):List AV:=List.replicate k (.v (.int .u8 0))
theorem Ju0 {k:Nat} (h:k≤24):zer 24=(Array.replicate k (0:UInt8)).toList.map (fun b=> AV.v (byV b))++zer (24 - k):=by
 unfold zer
 rw [Array.toList_replicate,List.map_replicate,show byV 0= .int .u8 0 from rfl,List.replicate_append_replicate]
 congr 1
 omega
theorem Jui {n:Nat} (h1:1≤n) (h:n < 18446744073709551616):Lib.nDigits n≤20:=by
 have:=Lib.numDigits_eq n h1 h
 split at this <;> omega
def JtO (n:Nat):List AV:=(Lib.decDigits n).map (fun b=> AV.v (byV b))++zer (24 - Lib.nDigits n)
theorem JqC (n:Nat) (h1:1≤n) (h:n < 18446744073709551616) (s nx:Nat):
 ECall Tryz.prog 365 [.hs (0,s) 0 (Lib.nDigits n) 24,u64 n] ⟨[((0,s), .c (zer 24))], [],nx,1⟩ fun r h'=> r= .tup []∧h'=⟨[((0,s), .c (JtO n))], [],nx,1⟩:=by
 have h20:=Jui h1 h
 have hd:(Array.replicate (Lib.nDigits n) (0:UInt8)).size=Lib.nDigits n:=Array.size_replicate
 rw [Ju0 (k:=Lib.nDigits n) Om]
 have:=Jli (P:=Tryz.prog) (enc:=byV) (d:=Array.replicate (Lib.nDigits n) (0:UInt8)) (d':=(Lib.decDigits n).toArray) (tl:=zer (24 - Lib.nDigits n)) (vs:= [.int .u64 n]) (R:= .tup []) (res:=fun _=> .tuple #[]) (nm:=0) (s:=s) (cap:=24) (nx:=nx) (nn:=1) (f:=365) ⟨_,Tryz.func365,rfl,rfl⟩ (by rw [hd,List.size_toArray,Lib.decDigits_length]) (fun _ _ _ _ _=> .tup [] [] rfl (by simp)) (fun w blk hk hH hb=> by
  have k:=Any.internal_strconv_formatBase10 { Tryz.laysM171 with} blk 0 24 n (Array.replicate (Lib.nDigits n) 0) w hH (by rw [hd];exact Lib.lt_pow_nDigits n) h (by rw [hd];omega)
  refine k.mono fun e w' ⟨h1,q,v',dk,h2,hF⟩=> ⟨h1,q, #[], ?_⟩
  rw [hd] at hF
  have e1:dk=(Lib.decDigits n).toArray:=by
   refine Array.ext (by rw [hF.size,List.size_toArray,Lib.decDigits_length]) fun j hj1 hj2=> ?_
   have hj3:j < (Lib.decDigits n).length:=by simpa using hj2
   have:=Lib.row_is_numeral hF j hj3
   have e3:dk[j]! =dk[j]:=by simp [hj1]
   exact e3.symm.trans (this.symm.trans (by simp))
  have e2:(Sort.putRow byV w blk 0 dk).drewN q=Sort.putRow byV (Sort.ahead w q) blk 0 dk:=by
   have:=putRow_drewN byV w 0 q blk 0 dk
   rw [Nat.zero_add] at this
   exact this
  rw [h2,← e1]
  show (Sort.putRow byV w blk 0 dk).drewN q=_
  rw [e2]
  unfold Sort.grow
  rw [Array.append_empty])
 rw [hd] at this
 exact this
theorem JvV {n j:Nat} (hj:j < (Lib.decDigits n).length):(JtO n)[0+j]? =some (.v (.int .u8 ((Lib.decDigits n)[j].toNat:Int))):=by
 unfold JtO
 rw [Nat.zero_add,List.getElem?_append_left (by simpa using hj),List.getElem?_map,List.getElem?_eq_getElem hj]
 rfl
set_option maxHeartbeats 1000000 in
theorem JnP (n:Nat) (hn:n < 18446744073709551616):Tells Tryz.prog 367 [u64 n,int 10] (Jf (Jc6 n)):=by
 refine Jg Tryz.func367 rfl rfl fun nx=> ?_
 refine stp ?_
 intro c t1;cases c
 ·have t1:=Ju t1
  have h1:1≤n:=by omega
  have h20:=Jui h1 hn
  refine stp ?_
  refine Jd rfl rfl (Jsi n h1 hn) ⟨Rf,trivial⟩ fun nx2=> ?_
  refine JU ?_
  refine JQ (fun n=> match n with | 0=> true | _=> false) 2 ?_
  refine stp ?_
  refine Jlj (n:=24) (h:=Lib.nDigits n) rfl rfl rfl Tryz.underlying432 Tryz.underlying5 (by kernel_rfl) Om Dc ?_
  refine stp ?_
  refine JS (xs:= [.hs (0,nx) 0 (Lib.nDigits n) 24,u64 n]) [] [] 1 rfl rfl rfl rfl ⟨Rf,Rf,trivial⟩ (JqC n h1 hn nx _) Bf Pf rfl fun r h' hq=> ?_
  obtain ⟨rfl,rfl⟩:=hq
  refine JU ?_
  refine JQ (fun n=> match n with | 0=> true | 1=> true | _=> false) 3 ?_
  refine stp ?_
  refine Jlj (n:=24) (h:=Lib.nDigits n) rfl rfl rfl Tryz.underlying432 Tryz.underlying5 (by kernel_rfl) Om Dc ?_
  refine stp ?_
  refine Jrt (l:=Lib.decDigits n) (cap:=24) (off:=0) (i:=(0,nx)) rfl (by rw [Lib.decDigits_length];rfl) rfl (fun j hj=> JvV hj) Tryz.underlying59 Tryz.underlying5 Tryz.underlying9 ?_
  refine stp ?_
  exact Je rfl Rf
 ·have t1:=Jv t1
  refine stp ?_
  refine Jd rfl rfl (JqB n Om) ⟨Jk (JaX Om Om),trivial⟩ fun nx2=> ?_
  refine stp ?_
  exact Je rfl Rf
end Go.Proofs.W

namespace Go.Proofs.W
open Go.Vl
set_option maxRecDepth 100000
end Go.Proofs.W

namespace Go.Proofs.W
open Go.Vl
set_option maxRecDepth 100000
theorem Jq6 {a b:ByteArray} (h:a=b):AVle (Jf a) (Jf b):=h ▸ Rf
theorem Jpd:∀(k n:Nat),n < 10 ^ (k+1)→(Lib.decDigits n).length≤k+1
 | 0,n,h=> by rw [Lib.decDigits,dif_pos Om];exact Nat.le_refl _
 | k+1,n,h=> by
   rw [Lib.decDigits]
   split
   ·exact Nat.succ_le_succ (Nat.zero_le _)
   ·rw [List.length_append,List.length_singleton]
    have:=Jpd k (n / 10) (by rw [Nat.pow_succ] at h;omega)
    omega
theorem JlP {n:Nat} (h:n≤18446744073709551615):(Jc6 n).size≤20:=Jpd 19 n Om
theorem JlQ {a b:AV} {K:AV→Prop} (h:a=b) (hk:Jck b K):Jck a K:=h ▸ hk
def spB:ByteArray:=⟨#[32]⟩
end Go.Proofs.W

namespace Go.Proofs
open Go.Shelf
shelf_lay Lays.n156 Nm 156 at Tryz as Tryz.lays156
end Go.Proofs
namespace Go.Proofs.W
open Go.Vl Go.Shelf Go.RowKit
set_option maxRecDepth 100000
theorem Juj:Builder.Extra Tryz.prog Tryz.lays156_ren where
 sizeBuilder:=by kernel_rfl
 liesBuilder:=by kernel_rfl
 t5:=Tryz.underlying5
 a5:=Tryz.isAgg5
 z5:=Tryz.sizeOf5
 v5:=Tryz.zeroValue5
 infoByte:=by kernel_rfl
 cellsByte:=by kernel_rfl
 sizeByte:=by kernel_rfl
 neB5:=by decide
def Jmj (l:List ByteArray):AV:=JF 1 Jf ⟨#[]⟩ l
def JdP (l:List ByteArray) (sep:ByteArray):ByteArray:=⟨(Lib.join (l.map (·.data.toList)) sep.data.toList).toArray⟩
theorem Jf3 (l:List ByteArray) (sep:ByteArray) (hl:l.length≤1000000) (hs:(JdP l sep).size≤140737488355328):Tells Tryz.prog 190 [Jmj l,Jf sep] (Jf (JdP l sep)):=by
 have h:=JpL (P:=Tryz.prog) (f:=190) (u:= .string (JdP l sep)) (xs:=l.map .string) (vs:= [.string sep]) ⟨_,Tryz.func190,rfl,rfl⟩ (fun h0 a cap w _=> ?_) (fun b off cap w hk hc hb hcap h0=> ?_)
 refine Tells.args (bs:= [.sl 1 (l.map Value.string).length (fun k=> .v ((l.map Value.string).getD k undef)),Jf sep]) ⟨?_,Rf,trivial⟩ h
 ·rw [List.length_map]
  refine AVle.sl_fun fun k hk=> ?_
  simp [Jf,List.getD,List.getElem?_map,List.getElem?_eq_getElem hk]
 ·obtain rfl:l= []:=by simpa using h0
  exact (Any.strings_Join_none Tryz.lays156 Juj a cap sep w).mono fun e w' ⟨h1,h2⟩=> ⟨h1,h2 ▸ Below.refl _ _⟩
 ·rw [List.length_map] at hcap⊢
  exact Any.strings_Join Tryz.lays156 Juj b off cap l sep w (fun j x hx=> hc j _ (by rw [List.getElem?_map,hx];rfl)) hb Om hcap (by simpa [JdP,ByteArray.size] using hs)
theorem JnQ (n:Nat) (h:n < 18446744073709551616):Tells Tryz.prog 248 [u64 n] (Jf (Jc6 n)):=by
 have h1:Tells Tryz.prog 303 [u64 n,int 10] (Jf (Jc6 n)):=by
  refine Jg Tryz.func303 rfl rfl fun nx=> ?_
  refine stp ?_
  refine Jd rfl rfl (JnP n h) ⟨Rf,Rf,trivial⟩ fun nx2=> ?_
  refine stp ?_
  exact Je rfl Rf
 refine Jg Tryz.func248 rfl rfl fun nx=> ?_
 refine stp ?_
 refine Jd rfl rfl h1 ⟨Rf,Rf,trivial⟩ fun nx2=> ?_
 refine stp ?_
 exact Je rfl Rf
def JkT (c:Cnd):ByteArray:=⟨(J8 c).toArray⟩
theorem Ji5 {n:Nat} (h:n < 18446744073709551616):(Lib.decDigits n).length≤20:=by
 have h2:(Jc6 n).size≤20:=JlP Om
 exact h2
theorem Ju1 {k:Nat} (hk:k < 7):∃s:ByteArray,s.data.toList=opT k∧s.size≤2∧∃f,Jdz JpY k= .ag [Jf s,fn0 f]:=by
 match k,hk with
 | 0,_ | 1,_ | 2,_ | 3,_ | 4,_ | 5,_ | 6,_=> exact ⟨_,rfl,by decide,_,rfl⟩
theorem JqD {f:Nat→AV} (h:(f 0).cells.all JaW=true) (h':(f 1).cells.all JaW=true):JcD 2 f:=fun k hk=> by
 rcases k with _ | _ | k
 ·exact h
 ·exact h'
 ·omega
theorem Jwv (a b c:Bts):Lib.join [a,b,c] [32]=a++32::(b++32::c):=by simp [Lib.join,List.intercalate,List.intersperse]
theorem Jww (a b c d e:Bts):Lib.join [a,b,c,d,e] [32]=a++32::(b++32::(c++32::(d++32::e))):=by simp [Lib.join,List.intercalate,List.intersperse]
def aB:ByteArray:=⟨#[97]⟩
def eqB:ByteArray:=⟨#[61,61]⟩
theorem JfM (a b:ByteArray):(a++b).data.toList=a.data.toList++b.data.toList:=by simp
theorem JfN (n:Nat):(Jc6 n).data.toList=Lib.decDigits n:=rfl
theorem Jxj {i k m v:Nat} {so:ByteArray} (h:so.data.toList=opT k) (hk:k≠6):JdP [aB++Jc6 i,so,Jc6 v] spB=JkT ⟨(i:Nat),(k:Int)+1,m,v⟩:=by
 unfold JdP JkT J8
 rw [List.map_cons,List.map_cons,List.map_cons,List.map_nil,JfM,h,JfN,JfN,show spB.data.toList= [32] from rfl,Jwv]
 dsimp only
 rw [if_neg Om,show ((k:Int)+1).toNat - 1=k by omega,Int.toNat_natCast]
 rfl
theorem Jxk {i m v:Nat} {so:ByteArray} (h:so.data.toList=opT 6):JdP [aB++Jc6 i,so,Jc6 m,eqB,Jc6 v] spB=JkT ⟨(i:Nat),7,m,v⟩:=by
 unfold JdP JkT J8
 rw [List.map_cons,List.map_cons,List.map_cons,List.map_cons,List.map_cons,List.map_nil,JfM,h,JfN,JfN,JfN,show spB.data.toList= [32] from rfl,Jww]
 dsimp only
 rw [if_pos rfl,Int.toNat_natCast]
 rfl
theorem Jhz {c:Cnd} (hr:Jad c=true) (hok:c.ok):(JkT c).size≤1000:=by
 obtain ⟨h1,h2,h3,h4,h5⟩:=Jco.1 hr
 show (J8 c).length≤1000
 have d1:=Ji5 (n:=c.arg.toNat) Om
 have d2:=Ji5 hok.1
 have d3:=Ji5 hok.2
 have d4:∀k:Nat,k < 7→(opT k).length≤2:=by decide
 have d5:=d4 (c.op.toNat - 1) Om
 unfold J8
 simp only [List.length_append,List.length_cons,List.length_nil]
 split
 ·simp only [List.length_append,List.length_cons];omega
 ·omega
theorem JnR {a b:ByteArray} (h:a=b):AVle (Jf a) (Jf b):=Jq6 h
set_option maxHeartbeats 2000000 in
theorem Jsj (c:Cnd) (hr:Jad c=true) (hok:c.ok):Tells Tryz.prog 174 [JZ c] (Jf (JkT c)):=by
 obtain ⟨h1,h2,h3,h4,h5⟩:=Jco.1 hr
 have hR:=Jff c
 rw [hr] at hR
 obtain ⟨arg,op,mask,value⟩:=c
 dsimp only at h1 h2 h3 h4 h5
 obtain ⟨i,rfl⟩:∃i:Nat,arg=i:=⟨arg.toNat,by omega⟩
 obtain ⟨k,rfl⟩:∃k:Nat,op=k+1:=⟨(op - 1).toNat,by omega⟩
 have hit:=Jr9 i Om
 have hdv:=JnQ value hok.2
 have hdm:=JnQ mask hok.1
 have hk7:k < 7:=by omega
 obtain ⟨so,hso,hss,f,hf⟩:=Ju1 hk7
 have hx:IntKind.i64.wrap ((k:Int)+1 - 1)=(k:Int):=by rw [JaX Om Om];omega
 refine Jg Tryz.func174 rfl rfl fun nx=> ?_
 refine stp ?_
 refine Jd rfl rfl hR ⟨Rf,trivial⟩ fun nx2=> ?_
 refine stp ?_
 refine J6 12 _ (fun _=> false) (fun i=> match i with | 2=> true | 4=> true | _=> false) [0,1,2,3,4,5,6,7,8,9,10,11] (by kernel_rfl) (by kernel_rfl) (HB.refl _) ?_
 refine stp ?_
 refine ⟨_,J5 rfl rfl rfl hit ⟨Rf,trivial⟩ (NoId.v _), ?_⟩
 refine stp ?_
 refine ⟨by have:=JlP (n:=i) Om;have h2:(⟨#[97]⟩:ByteArray).size=1:=rfl;rw [h2];omega, ?_⟩
 refine stp ?_
 refine ⟨_,J5 rfl rfl rfl Jtg trivial Jth, ?_⟩
 refine stp ?_
 refine ⟨⟨by rw [hx];omega,by rw [hx];omega⟩,JlQ (b:= .rp [Jf so,fn0 f]) (by rw [hx];show AV.rp (Jdz JpY k).cells=_;rw [hf];rfl) ?_⟩
 refine stp ?_
 intro c t1;cases c
 ·have t1:k≠6:=fun e=> by subst e;cases t1
  refine stp ?_
  refine Jd rfl rfl hdv ⟨Rf,trivial⟩ fun nx3=> ?_
  refine stp ?_
  refine ⟨Jz rfl,by show (2+1) * 16≤_;decide,by decide, ?_⟩
  refine stp ?_
  have e:=Jxj (i:=i) (m:=mask) (v:=value) hso t1
  refine Jd rfl rfl (Jf3 [aB++Jc6 i,so,Jc6 value] spB (by show 3≤_;decide) (by rw [e];exact Nat.le_trans (Jhz hr hok) Dc)) ⟨AVle.os_sl.trans (AVle.sl_fun fun j hj=> ?_),Rf,trivial⟩ fun nx3=> ?_
  ·match j,hj with
   | 0,_ | 1,_ | 2,_=> rfl
  refine stp ?_
  exact Je rfl (JnR e)
 ·have t1:k=6:=by have:(k:Int)+1=7:=by simpa using t1.symm
                  omega
  subst t1
  refine stp ?_
  refine Jd rfl rfl hdm ⟨Rf,trivial⟩ fun nx3=> ?_
  refine stp ?_
  refine ⟨JqD rfl rfl,by show (2+2) * 16≤_;decide,by decide, ?_⟩
  refine stp ?_
  refine Jd rfl rfl hdv ⟨Rf,trivial⟩ fun nx3=> ?_
  refine stp ?_
  refine ⟨Jz rfl,by show (4+1) * 16≤_;decide,by decide, ?_⟩
  refine stp ?_
  have e:=Jxk (i:=i) (m:=mask) (v:=value) hso
  refine Jd rfl rfl (Jf3 [aB++Jc6 i,so,Jc6 mask,eqB,Jc6 value] spB (by show 5≤_;decide) (by rw [e];exact Nat.le_trans (Jhz hr hok) Dc)) ⟨AVle.os_sl.trans (AVle.sl_fun fun j hj=> ?_),Rf,trivial⟩ fun nx3=> ?_
  ·match j,hj with
   | 0,_ | 1,_ | 2,_ | 3,_ | 4,_=> rfl
  refine stp ?_
  exact Je rfl (JnR e)
end Go.Proofs.W

namespace Go.Proofs
open Go.Shelf
shelf_lay_g SlLaysN.n44 Slgn 44 at Tryz 191 as Tryz.laysN44
end Go.Proofs
namespace Go.Proofs.W
open Go.Vl Go.Shelf
set_option maxRecDepth 100000
theorem Jj7 (d:Array Bts):∀m,Lib.compactUpTo d m=cUs d m
 | 0=> rfl
 | m+1=> by
   rw [Lib.compactUpTo_succ,Jj7 d m,cUs]
   unfold Lib.keeps
   by_cases h:m=0∨d[m]! ≠d[m - 1]!
   ·rw [if_pos h,decide_eq_true h];rfl
   ·rw [if_neg h,decide_eq_false h];simp
theorem Jsk (d0:Array Bts) (tl:List AV) (n:Nat) (hn:d0.size=n) (hsz:n≤1000000) (s cap nx:Nat) (hcap:n≤cap):
 ECall Tryz.prog 191 [.hs (0,s) 0 n cap] ⟨JcQ s d0 tl, [],nx,1⟩ (fun r h'=> ∃tl' nx' nn',r= .hs (0,s) 0 (cUs d0 n).length cap∧h'=⟨JcQ s (cUs d0 n).toArray tl', [],nx',nn'⟩):=by
 subst hn
 have hle:=JnI d0 d0.size
 have h:=Jli (P:=Tryz.prog) (enc:=encStr) (d:=d0) (d':=(cUs d0 d0.size++List.replicate (d0.size - (cUs d0 d0.size).length) []).toArray) (tl:=tl) (vs:= []) (R:= .hs (0,s) 0 (cUs d0 d0.size).length cap) (res:=fun b=> .slice (some ⟨b,0,none⟩) (cUs d0 d0.size).length cap) (nm:=0) (s:=s) (cap:=cap) (nx:=nx) (nn:=1) (f:=191) ⟨_,Tryz.func191,rfl,rfl⟩ (by simp;omega) (fun w X g b hg=> .hs _ _ _ _ b hg) (fun w blk hk hH hb=> by
  have k:=AnyG.slices_Compact_string_arr Tryz.laysN44 blk 0 cap d0 w hH Om hcap
  rw [Jj7] at k
  exact k.mono fun e w' ⟨h1,q,h2⟩=> ⟨h1,q, #[],by rw [h2];unfold Sort.grow;rw [Array.append_empty]⟩)
 refine h.mono fun r h' ⟨h1,h2⟩=> ⟨List.replicate (d0.size - (cUs d0 d0.size).length) (JaD [])++tl,nx,1,h1, ?_⟩
 rw [h2]
 unfold JcQ Jba
 simp [JaD]
def JqE (sz:Nat):AV:= .os sz 0 (fun _=> .any) none
theorem Jsl:Tells Tryz.prog 191 [JqE 1] (JqE 1):=by
 refine Jg Tryz.func191 rfl rfl fun nx=> ?_
 refine stp ?_
 exact Je rfl Rf
theorem JhA (d:Array Bts) (tl:List AV):Jba JaD d tl=Jab (fun z=> [JaD z]) d tl:=by
 unfold Jba Jab
 rw [List.map_eq_flatMap]
theorem JnS:∀z:Bts,([JaD z]:List AV).length=1:=fun _=> rfl
theorem c_str:Tryz.prog.cellsOf 9=1:=by kernel_rfl
theorem Jsm:JaY Tryz.prog 9=true:=by kernel_rfl
theorem Jsn:Tryz.prog.bytesOf 9=16:=by kernel_rfl
theorem Jwx {l:List Bts} {x:Bts} {tl:List AV} (h:1≤tl.length):JX (Jba JaD l.toArray tl) (l.length * Tryz.prog.cellsOf 9) [JaD x]=Jba JaD (l++ [x]).toArray (tl.drop 1):=by
 rw [c_str,JhA,JhA];exact Jle JnS h
theorem Jwy {x:Bts} {m:Nat}: [JaD x]++List.replicate (m * Tryz.prog.cellsOf 9) AV.any=Jba JaD #[x] (List.replicate m .any):=by
 rw [c_str];simp [Jba]
theorem Jwz {l:List Bts} {x:Bts} {tl:List AV} {m:Nat}:(Jba JaD l.toArray tl).take (l.length * Tryz.prog.cellsOf 9)++ [JaD x]++List.replicate (m * Tryz.prog.cellsOf 9) .any=Jba JaD (l++ [x]).toArray (List.replicate m .any):=by
 rw [c_str,JhA,JhA,Jlf JnS,Nat.mul_one];exact Jm6
def Jxl (L:List Bts):Option (Nat×Nat×List AV)→AV
 | none=> JqE 1
 | some (s1,cap,_)=> .hs (0,s1) 0 L.length cap
def Jxm (L:List Bts):Option (Nat×Nat×List AV)→List (Vl.Id×Own)
 | none=> []
 | some (s1,_,tl)=> JcQ s1 L.toArray tl
def Jxn (L:List Bts):Option (Nat×Nat×List AV)→Prop
 | none=> L= []
 | some (_,cap,tl)=> 1≤L.length∧L.length≤cap∧cap≤L.length+tl.length
theorem Jpe {i j:Vl.Id} {L:List Bts} {x:Bts} {cap:Nat} (h:i.2=j.2):AVle (.hs i 0 (L.length+1) cap) (.hs j 0 (L++ [x]).length cap):=by
 rw [List.length_append];exact AVle.hs_nm h
theorem JwA {L:List Bts}:AVle (JF 1 JaD [] L) (Jmj (L.map fun z=> ⟨z.toArray⟩)):=by
 unfold JF Jmj JF
 rw [List.length_map]
 refine AVle.sl_fun fun k hk=> ?_
 simp [JaD,encStr,Jf,List.getD,List.getElem?_map,List.getElem?_eq_getElem hk]
def semiB:ByteArray:=⟨#[59]⟩
theorem Jpf:∀L:List Bts,Lib.join L [59]=Jeh 59 L
 | []=> rfl
 | [a]=> by rw [Lib.join_one];rfl
 | a::b::l=> by
   have:=Jpf (b::l)
   rw [JbX (List.cons_ne_nil _ _),← this]
   simp [Lib.join,List.intercalate,List.intersperse]
theorem JtP (L:List Bts):JdP (L.map fun z=> ⟨z.toArray⟩) semiB=⟨(Jeh 59 L).toArray⟩:=by
 unfold JdP
 rw [List.map_map,show ((fun x:ByteArray=> x.data.toList)∘fun z:Bts=> (⟨z.toArray⟩:ByteArray))=id from funext fun z=> by simp,List.map_id,show semiB.data.toList= [59] from rfl,Jpf]
theorem JlR:∀(L:List Bts) (N:Nat),(∀a∈L,a.length≤N)→(Jeh 59 L).length≤L.length * (N+1)
 | [],N,_=> Nat.zero_le _
 | [a],N,h=> by have:=h a (.head _);show a.length≤_;simp;omega
 | a::b::l,N,h=> by
   have h1:=h a (.head _)
   have h2:=JlR (b::l) N fun x hx=> h x (.tail _ hx)
   rw [JbX (List.cons_ne_nil _ _),List.length_append,List.length_cons]
   rw [show (a::b::l).length=(b::l).length+1 from rfl,Nat.succ_mul]
   omega
def Je2 (cs:List Cnd):ByteArray:=⟨(Jga cs).toArray⟩
theorem JqF {cs:List Cnd} {i:Nat} (hi:i < cs.length):(cs.take (i+1)).map J8=(cs.take i).map J8++ [J8 (cs.getD i cnd0)]:=by
 rw [Jb2 cnd0 hi,List.map_append];rfl
theorem Jpg (cs:List Cnd):JdP ((Jcb (cs.map J8)).map fun z=> ⟨z.toArray⟩) semiB=Je2 cs:=JtP _
theorem JtQ:Jf (JdP [] semiB)=Jf (Je2 []):=by
 unfold Je2
 rw [Ji1.2 rfl];rfl
theorem Jmk {a b:Own} (h:a=b):OwnLe a b:=h ▸ OwnLe.refl a
theorem JtR {bs:List (Nat×Own)} {i:Vl.Id} {n cap:Nat} {l:List Bts} {tl:List AV} (hn:l.length=n) (hm:(i.2, .c (Jba JaD l.toArray tl))∈bs) (hcap:n≤cap):Frz bs (.hs i 0 n cap) (JF 1 JaD [] l):=
 JgI JnS (fun _=> rfl) hn (by rw [← JhA];exact hm) hcap
theorem Jso {c:Cnd} (hr:Jad c=true) (hok:c.ok):(J8 c).length≤1000:=Jhz hr hok
theorem JlS (l:List Bts):(Jcb l).length≤l.length:=by
 have:=JnI (Jfl l).toArray (Jfl l).length
 unfold Jcb
 have h2:(Jfl l).length=l.length:=Jbn
 omega
theorem Jj8 {cs:List Cnd} (hr:∀c∈cs,Jad c=true) (hok:∀c∈cs,c.ok) (hl:cs.length≤12):(Je2 cs).size≤12012:=by
 have h1:=JlR (Jcb (cs.map J8)) 1000 fun a ha=> by
  obtain ⟨c,hc,rfl⟩:=List.mem_map.1 (((Jbl _).2 a).1 ha)
  exact Jso (hr c hc) (hok c hc)
 have h2:=JlS (cs.map J8)
 rw [List.length_map] at h2
 have h3:(Jcb (cs.map J8)).length * (1000+1)≤12 * (1000+1):=Nat.mul_le_mul_right _ Om
 show (Jga cs).length≤_
 unfold Jga
 omega
set_option maxHeartbeats 4000000 in
theorem JtS (cs:List Cnd) (hr:∀c∈cs,Jad c=true) (hok:∀c∈cs,c.ok) (hl:cs.length≤12):Tells Tryz.prog 104 [JaS cs] (Jf (Je2 cs)):=by
 refine Jg Tryz.func104 rfl rfl fun nx=> ?_
 refine stp ?_
 refine Jy (fun y:Nat×List Bts×Option (Nat×Nat×List AV)×Nat=> mk 23 [(3,Jxl y.2.1 y.2.2.1),(6,JaS cs),(7,int cs.length),(8,int y.1)] ⟨Jxm y.2.1 y.2.2.1, [],y.2.2.2,1⟩) (fun y=> y.1≤cs.length∧y.2.1=(cs.take y.1).map J8∧Jxn y.2.1 y.2.2.1) (fun y=> cs.length - y.1) ?_ ?_
 ·exact ⟨(0, [],none,nx),⟨Nat.zero_le _,rfl,rfl⟩,Jq (bx:= []) (pm:= []) [] [] rfl rfl (List.nil_sublist _) Sf trivial trivial ⟨AVle.os_nil,Rf,Rf,Rf,trivial⟩⟩
 ·rintro ⟨i,L,md,nx1⟩ ⟨h1,hL,h2⟩
  dsimp only at h1 hL h2
  have hLl:L.length=i:=by rw [hL,List.length_map,List.length_take];omega
  refine stp ?_
  intro c g;cases c
  ·have g:=Ju g
   try dsimp only at g
   have hi:i=cs.length:=by omega
   subst hi
   rw [List.take_length] at hL
   rcases md with _ | ⟨s1,cap,tl⟩
   ·obtain rfl:L= []:=h2
    obtain rfl:cs= []:=List.length_eq_zero_iff.1 (by simpa using hLl.symm)
    refine stp ?_
    refine Jd rfl rfl (JrD _) ⟨Rf,trivial⟩ fun nx2=> ?_
    refine stp ?_
    refine Jd rfl rfl Jsl ⟨Rf,trivial⟩ fun nx3=> ?_
    refine stp ?_
    refine Jd rfl rfl (Jf3 [] semiB Dc Dc) ⟨AVle.os_sl0,Rf,trivial⟩ fun nx4=> ?_
    refine stp ?_
    exact Je rfl (AVle.of_eq JtQ)
   ·obtain ⟨q1,q2,q3⟩:=h2
    refine stp ?_
    refine JS (xs:= [.hs (0,s1) 0 L.length cap]) [] [] 1 rfl rfl rfl rfl ⟨Rf,trivial⟩ (JrC L.toArray tl L.length (by simp) Om s1 cap _) Bf Pf rfl fun r h' hq=> ?_
    obtain ⟨nx2,nn2,rfl⟩:=hq
    refine stp ?_
    refine JS (xs:= [.hs (0,s1) 0 L.length cap]) [] [] 1 rfl rfl rfl rfl ⟨Rf,trivial⟩ (Jsk (Jak Go.Sort.ltStr L.toArray.toList).toArray tl L.length (by simp [Jbn]) Om s1 cap _ q2) Bf Pf rfl fun r h' hq=> ?_
    obtain ⟨tl2,nx3,nn3,rfl,rfl⟩:=hq
    refine stp ?_
    have hst:∀l:List Bts,(Jak Go.Sort.ltStr l).length=l.length:=fun l=> Jbn
    have hcT:cUs (Jak Go.Sort.ltStr L.toArray.toList).toArray L.length=Jcb (cs.map J8):=by
     unfold Jcb Jfl
     rw [hst,← hL]
    rw [hcT]
    have hcl:=JlS (cs.map J8)
    rw [← hL] at hcl
    rw [← hL]
    have hj:Tells Tryz.prog 190 [JF 1 JaD [] (Jcb L),Jf semiB] _:=Tells.args (bs:= [Jmj ((Jcb L).map fun z=> ⟨z.toArray⟩),Jf semiB]) ⟨JwA,Rf,trivial⟩ (Jf3 ((Jcb L).map fun z=> ⟨z.toArray⟩) semiB (by rw [List.length_map];omega) (by rw [hL,Jpg];exact Nat.le_trans (Jj8 hr hok hl) Dc))
    refine AOp.of_yields (Joe rfl rfl hj ⟨JtR (i:=(0,s1)) rfl (.head _) Om,Frz.refl _,trivial⟩ (Flat.v _)) ?_
    refine stp ?_
    exact Je rfl (JnR (by rw [hL];exact Jpg cs))
  ·have g:=Jv g
   try dsimp only at g
   have hi:i < cs.length:=by omega
   have hm:cs.getD i cnd0∈cs:=by simp [List.getD,hi]
   have ht:=Jsj _ (hr _ hm) (hok _ hm)
   have hn:=JqF hi
   rw [← hL] at hn
   rcases md with _ | ⟨s1,cap,tl⟩
   ·obtain rfl:L= []:=h2
    refine stp ?_
    refine ⟨Bd, ?_⟩
    refine JU ?_
    refine JQ (fun i=> match i with | 0=> true | _=> false) 5 ?_
    refine stp ?_
    refine Jd rfl rfl ht ⟨Rf,trivial⟩ fun nx2=> ?_
    refine stp ?_
    refine JfB (m:=1) rfl rfl (.inr ⟨_,rfl⟩) Tryz.underlying207 Jsm c_str.symm Dc (Jz rfl) (by rw [Jsn];omega) Om fun ncap hcap=> ?_
    refine stp ?_
    exact back (i+1, [J8 (cs.getD i cnd0)],some (nx2,ncap,List.replicate (ncap - 1) .any),nx2+1) ⟨hi,hn.symm,⟨Nat.le_refl _,hcap,by simp;omega⟩⟩ Dm (Jq (pm:= []) (bx:=JcQ nx2 #[J8 (cs.getD i cnd0)] (List.replicate (ncap - 1) .any)) [((2,nx2), .c ([JaD (J8 (cs.getD i cnd0))]++List.replicate ((ncap - 1) * Tryz.prog.cellsOf 9) .any))] [] rfl rfl (.cons_cons _ (.cons _ .slnil)) .slnil ⟨rfl,Jmk (congrArg Own.c Jwy),trivial⟩ trivial ⟨AVle.hs_nm rfl,Rf,Rf,Lw,trivial⟩)
   ·obtain ⟨q1,q2,q3⟩:=h2
    refine stp ?_
    refine ⟨Bd, ?_⟩
    refine JU ?_
    refine JQ (fun i=> match i with | 0=> true | _=> false) 5 ?_
    refine stp ?_
    refine Jd rfl rfl ht ⟨Rf,trivial⟩ fun nx2=> ?_
    refine stp ?_
    refine JeH (m:=1) (szx:=1) (n:=L.length) (cap:=cap) (cs:=Jba JaD L.toArray tl) (i:=(0,s1)) rfl rfl (.inr ⟨_,rfl⟩) Tryz.underlying207 Jsm (.inr c_str.symm) (by rfl) q2 (by rw [c_str,JgE];simpa using q3) (Jz rfl) (fun _=> by rw [Jsn];omega) (fun _=> by omega) (fun hm=> absurd hm Dc) (fun hm hfit=> ?_) (fun hm hfit ncap hcap=> ?_)
    ·refine stp ?_
     (conv=> whnf)
     exact back (i+1,L++ [J8 (cs.getD i cnd0)],some (s1,cap,tl.drop 1),nx2) ⟨hi,hn.symm,⟨by simp,by simpa using hfit,by simp;omega⟩⟩ Dm (Jq (pm:= []) (bx:=JcQ s1 (L++ [J8 (cs.getD i cnd0)]).toArray (tl.drop 1)) [((0,s1), .c (JX (Jba JaD L.toArray tl) (L.length * Tryz.prog.cellsOf 9) [JaD (J8 (cs.getD i cnd0))]))] [] rfl rfl (.cons _ (.cons_cons _ .slnil)) .slnil ⟨rfl,Jmk (congrArg Own.c (Jwx (by have:=hfit;omega))),trivial⟩ trivial ⟨Jpe rfl,Rf,Rf,Lw,trivial⟩)
    ·refine stp ?_
     (conv=> whnf)
     exact back (i+1,L++ [J8 (cs.getD i cnd0)],some (nx2,ncap,List.replicate (ncap - (L.length+1)) .any),nx2+1) ⟨hi,hn.symm,⟨by simp,by simpa using hcap,by simp;omega⟩⟩ Dm (Jq (pm:= []) (bx:=JcQ nx2 (L++ [J8 (cs.getD i cnd0)]).toArray (List.replicate (ncap - (L.length+1)) .any)) [((2,nx2), .c ((Jba JaD L.toArray tl).take (L.length * Tryz.prog.cellsOf 9)++ [JaD (J8 (cs.getD i cnd0))]++List.replicate ((ncap - (L.length+1)) * Tryz.prog.cellsOf 9) .any))] [] rfl rfl (.cons_cons _ (.cons _ (.cons _ .slnil))) .slnil ⟨rfl,Jmk (congrArg Own.c Jwz),trivial⟩ trivial ⟨Jpe rfl,Rf,Rf,Lw,trivial⟩)
end Go.Proofs.W

namespace Go.Proofs.W
open Go.Vl
set_option maxRecDepth 100000
def esV (N:List ByteArray):List (Value×AV):=N.map fun s=> (.string s, .v (.bool true))
def inV (N:List ByteArray) (s:ByteArray):Bool:=N.any fun t=> kS s t
theorem JkU (N:List ByteArray):JaP .string (esV N)=true:=by simp [JaP,esV,JaH]
theorem JnT (s:ByteArray):∀N:List ByteArray,Ja1 (.string s) (esV N)=if inV N s then some (.v (.bool true)) else none
 | []=> rfl
 | t::N=> by
   have ih:=JnT s N
   show (bif s.toList ==t.toList then _ else Ja1 (.string s) (esV N))=_
   rw [ih]
   unfold inV
   rw [List.any_cons]
   unfold kS
   cases s.toList ==t.toList <;> rfl
theorem Jph (s:ByteArray):∀N:List ByteArray,inV N s=false→JcB (.string s) (.v (.bool true)) (esV N)=esV (N++ [s])
 | [],_=> rfl
 | t::N,h=> by
   unfold inV at h
   rw [List.any_cons,Bool.or_eq_false_iff] at h
   show (bif s.toList ==t.toList then _ else (_:Value×AV)::JcB _ _ (esV N))=_
   unfold kS at h
   rw [h.1,cond_false,Jph s N h.2];rfl
theorem Jpi {s:ByteArray} {N:List ByteArray}:JeC (Ja1 (.string s) (esV N)) (.v (.bool false)) false= .v (.bool (inV N s)):=by
 rw [JnT];cases inV N s <;> rfl
def Jez (r:Rul):List AV:= [Jf r.name,int r.act.1,int r.act.2,JaS r.conds]
theorem JqG (c:Cnd) (hok:c.ok):Tells Tryz.prog 103 [JZ c] (Jb (Je8 c)):=by
 obtain ⟨arg,op,mask,value⟩:=c
 refine Jg Tryz.func103 rfl rfl fun nx=> ?_
 refine stp ?_
 intro c t1;cases c
 ·refine stp ?_
  refine Je rfl (JH ?_)
  have:¬op=7:=fun e=> by subst e;cases t1
  unfold Je8
  rw [decide_eq_false this];rfl
 ·have h7:op=7:=by simpa using t1.symm
  refine stp ?_
  intro c hc
  have e:Je8 ⟨arg,op,mask,value⟩=c:=by
   unfold Je8
   rw [decide_eq_true h7,Bool.true_and,hc]
   dsimp only
   rw [Jjv hok.2 hok.1]
   by_cases h0:Jku value mask=0
   ·rw [h0];rfl
   ·rw [decide_eq_true h0]
    exact (bne_iff_ne.2 (fun e=> h0 (Int.ofNat.inj e))).symm
  rw [e]
  cases c
  ·refine stp ?_
   exact Je rfl Rf
  ·refine stp ?_
   exact Je rfl Rf
theorem Jsp (r:Rul) (hok:∀c∈r.conds,c.ok) (hl:r.conds.length≤1000000000):Tells Tryz.prog 101 [.rp (Jez r)] (Jb (!(r.conds.any Je8))):=by
 have hc:=Jne r.conds Je8 103 hl fun i hi=> JqG _ (hok _ (by simp [List.getD,hi]))
 generalize r.conds.any Je8=b at hc⊢
 refine Jg Tryz.func101 rfl rfl fun nx=> ?_
 refine stp ?_
 refine Jd rfl rfl hc ⟨Rf,Rf,trivial⟩ fun nx2=> ?_
 cases b
 ·refine stp ?_
  exact Je rfl Rf
 ·refine stp ?_
  exact Je rfl Rf
theorem Jsq (l:List TRow) (r:Rul) (hl:l.length≤1000000) (hs:JgK l r.name):Tells Tryz.prog 100 [.rp [JN l], .rp (Jez r)] (Jb (JaJ l r.name)):=by
 have hf:=JfF l r.name hl hs
 unfold JjD at hf
 refine Jg Tryz.func100 rfl rfl fun nx=> ?_
 cases hb:JaJ l r.name with
 | true=>
   rw [hb,if_pos rfl] at hf
   refine stp ?_
   refine Jd rfl rfl hf ⟨Rf,Rf,trivial⟩ fun nx2=> ?_
   refine stp ?_
   exact Je rfl Rf
 | false=>
   rw [hb,if_neg Dc] at hf
   refine stp ?_
   refine Jd rfl rfl hf ⟨Rf,Rf,trivial⟩ fun nx2=> ?_
   refine stp ?_
   exact Je rfl Rf
def colB:ByteArray:=⟨#[58]⟩
def JfO (N:List ByteArray) (s own:ByteArray):Bool:= !inV N (s++colB)&& !inV N own
set_option maxHeartbeats 1000000 in
theorem Jsr (N:List ByteArray) (r:Rul) (own:ByteArray) (hs:r.name.size≤1000000) (s nx:Nat):
 ECall Tryz.prog 105 [.rp [.om (0,s)], .rp (Jez r), .rp [Jf own]] ⟨[((0,s), .mp (esV N))], [],nx,1⟩ fun b h'=> ∃nx' nn',b=Jb (JfO N r.name own)∧h'=⟨[((0,s), .mp (esV N))], [],nx',nn'⟩:=by
 refine ECall.wk (JT Tryz.func105 rfl rfl ?_)
 refine Jbp ?_
 refine ⟨by have h2:(⟨#[58]⟩:ByteArray).size=1:=rfl;rw [h2];omega, ?_⟩
 refine Jbp ?_
 refine ⟨⟨rfl,JkU _⟩,JP (b:= .v (.bool (inV N (r.name++colB)))) Jpi ?_⟩
 unfold JfO
 cases h1:inV N (r.name++colB)
 ·refine Jbp ?_
  refine ⟨⟨rfl,JkU _⟩,JP (b:= .v (.bool (inV N own))) Jpi ?_⟩
  cases h2:inV N own
  ·refine stp ?_
   exact Jac rfl ⟨_,_,Rf,HLe.refl _,_,_,rfl,rfl⟩
  ·refine stp ?_
   exact Jac rfl ⟨_,_,Rf,HLe.refl _,_,_,rfl,rfl⟩
 ·refine stp ?_
  exact Jac rfl ⟨_,_,Rf,HLe.refl _,_,_,rfl,rfl⟩
end Go.Proofs.W

namespace Go.Proofs.W
open Go.Vl
set_option maxRecDepth 100000
def Jdo (r:Rul):ByteArray:=r.name++colB++Je2 r.conds
theorem JlT (r:Rul):(Jdo r).data.toList=JgS r:=by
 unfold Jdo JgS Je2 JgR
 rw [JfM,JfM,show colB.data.toList= [58] from rfl]
 simp
theorem Jpj {N:List ByteArray} {s:ByteArray}:inV N s=true↔s.data.toList∈N.map (fun t=> t.data.toList):=by
 unfold inV
 rw [List.any_eq_true,List.mem_map]
 exact ⟨fun ⟨t,h1,h2⟩=> ⟨t,h1,by rw [Jbh.1 h2]⟩,fun ⟨t,h1,h2⟩=> ⟨t,h1,Jbh.2 (JfZ h2.symm)⟩⟩
def Ja2 (rs:List Rul) (i:Nat):List ByteArray:=(rs.take i).map Jdo
theorem JqH (rs:List Rul) (i:Nat):(Ja2 rs i).map (fun t=> t.data.toList)=Jj1 rs i:=by
 unfold Ja2 Jj1
 rw [List.map_map]
 exact List.map_congr_left fun r _=> JlT r
theorem JnU {rs:List Rul} (h:∀r∈rs,Jal r=true) {i:Nat} {r:Rul} (hr:Jal r=true):JfO (Ja2 rs i) r.name (Jdo r)= !(rs.take i).any (Jgb r):=by
 unfold JfO
 rw [← Bool.not_or]
 congr 1
 rw [Bool.eq_iff_iff,Bool.or_eq_true,Jpj,Jpj,JqH,JlT,JfM,show colB.data.toList= [58] from rfl]
 exact Jsa h hr
theorem Jss {rs:List Rul} {i:Nat} (hi:i < rs.length):Ja2 rs (i+1)=Ja2 rs i++ [Jdo (rs.getD i Jl)]:=by
 unfold Ja2
 rw [Jb2 Jl hi,List.map_append];rfl
def Jxo (l:List TRow) (r:Rul) (s:Nat):List AV:= [.ag [.fn (.func 100) [] [.rp [JN l], .rp (Jez r)],int 14], .ag [.fn (.func 101) [] [.rp (Jez r)],int 16], .ag [.fn (.func 105) [] [.rp [.om (0,s)], .rp (Jez r), .rp [Jf (Jdo r)]],int 15]]
theorem Jst {rs:List Rul} {i:Nat} {r:Rul} (h:JfO (Ja2 rs i) r.name (Jdo r)=true):inV (Ja2 rs i) (Jdo r)=false:=by
 unfold JfO at h
 simp only [Bool.and_eq_true,Bool.not_eq_true'] at h
 exact h.2
theorem Jgo {a b c d:Int} (h:(a,b)=(c,d)):AVle (.tup [int a,int b]) (.tup [int c,int d]):=by
 cases h;exact Rf
theorem JvW:Jg5 Tryz.prog 9=some [Jf ⟨#[]⟩]:=by kernel_rfl
theorem AVle.om_nm {i j:Vl.Id} (h:i.2=j.2):AVle (.om i) (.om j):=fun w X g u hr=> by
 cases hr with
 | om _ b hg=> exact .om _ b (h ▸ hg)
theorem AVle.rps {cs ds:List AV} (h:LeL cs ds):AVle (.rp cs) (.rp ds):=fun w X g u hr=> by
 obtain ⟨hl,h⟩:=h.get
 cases hr with
 | rp _ b off vs hn hcell hr=>
   refine .rp _ b off vs (by rw [hn,hl]) hcell fun k d u hd hu=> ?_
   have hlt:k < cs.length:=by rw [hl];exact (List.getElem?_eq_some_iff.1 hd).1
   exact h k _ d (List.getElem?_eq_getElem hlt) hd _ _ _ _ (hr k _ u (List.getElem?_eq_getElem hlt) hu)
theorem Ju2 {rs:List Rul} {i:Nat} (h:i < rs.length):rs.getD i Jl∈rs:=by simp [List.getD,h]
set_option maxHeartbeats 8000000 in
theorem JnV (p:Pol) (l:List TRow) (hp:p.ok) (hp2:∀r∈p.rules,r.conds.length≤12∧r.name.size≤1000000) (hl:l.length≤1000000) (hn:∀r∈l,r.name.size≤maxLen):Tells Tryz.prog 43 [JbN p,JN l] (.tup [int (Jae p l).1,int (Jae p l).2]):=by
 have hR:=Jiv p hp
 have hT:=Jl7 l hl hn
 cases hb:Jbi p with
 | false=>
   rw [hb] at hR
   obtain ⟨⟨k,n⟩,x,rs⟩:=p
   refine Jg Tryz.func43 rfl rfl fun nx=> ?_
   refine stp ?_
   refine Jd rfl rfl hR ⟨Rf,trivial⟩ fun nx2=> ?_
   refine stp ?_
   exact Je rfl (Jgo (by unfold Jae;rw [if_pos hb]))
 | true=>
 rw [hb] at hR
 by_cases ht:(JbO l).2=0
 rotate_left
 ·obtain ⟨⟨k,n⟩,x,rs⟩:=p
  refine Jg Tryz.func43 rfl rfl fun nx=> ?_
  refine stp ?_
  refine Jd rfl rfl hR ⟨Rf,trivial⟩ fun nx2=> ?_
  refine stp ?_
  refine Jd rfl rfl hT ⟨Rf,trivial⟩ fun nx3=> ?_
  refine stp ?_
  intro c hc
  obtain rfl:c=true:=hc.trans (bne_iff_ne.2 ht)
  refine stp ?_
  exact Je rfl (Jgo (by unfold Jae;rw [if_neg (by rw [hb];decide),if_pos ht]))
 ·have hs:=Jfh ht
  have hrr:=(Jj3.1 hb).2.2
  have hok:=hp.2
  have hlen:p.rules.length≤500:=(Jj3.1 hb).2.1
  have hat:∀i v,i < p.rules.length→(∀j,j < i→Jcr l p.rules j=0)→Jcr l p.rules i=v→v≠0→((i:Int),v)=Jae p l:=fun i v h1 h2 h3 h4=> (Jsc hb ht h1 h2 h3 h4).symm
  have hnone:(∀j,j < p.rules.length→Jcr l p.rules j=0)→((0:Int),(0:Int))=Jae p l:=fun h=> (Jsb (JaN.2 ⟨hb,ht,h⟩)).symm
  generalize hV:Jae p l=V at hat hnone⊢
  obtain ⟨V1,V2⟩:=V
  obtain ⟨⟨k,n⟩,x,rs⟩:=p
  dsimp only at hok hrr hat hnone hlen hp2
  rw [ht] at hT
  refine Jg Tryz.func43 rfl rfl fun nx=> ?_
  refine stp ?_
  refine Jd rfl rfl hR ⟨Rf,trivial⟩ fun nx2=> ?_
  refine stp ?_
  refine Jd rfl rfl hT ⟨Rf,trivial⟩ fun nx3=> ?_
  (refine JU ?_;refine Jaq ?_;refine JU ?_;refine Jaq ?_;refine JU ?_)
  refine JbC (n:=69) (nx:=nx3+2) (nn:=4) (pm:= []) (bx:= [((2,nx3), .mp [])]) (L:= [(2, .rp [int k,int n,Jb x,Ji rs]),(3, .rp [JN l]),(8, .rp [.om (2,nx3)])]) (df:=some []) [((3,nx3+1), .c [.om (2,nx3)]),((1,nx+1), .c [JN l]),((0,nx), .c [int k,int n,Jb x,Ji rs])] rfl rfl rfl (.cons _ ((List.perm_append_comm (l₁:= [((2,nx3),Own.mp [])]) (l₂:= [((1,nx+1), .c [JN l]),((0,nx), .c [int k,int n,Jb x,Ji rs])])))) Sf ⟨Frz.bp (.tail _ (.tail _ (.head _))) rfl,Frz.bp (.tail _ (.head _)) rfl,Frz.bp (.head _) rfl,trivial⟩ ?_
  refine stp ?_
  refine Jy (fun y:Nat×Nat=> mk 69 [(3, .rp [JN l]),(8, .rp [.om (0,nx3)]),(29,Ji rs),(30,int rs.length),(31,int y.1)] ⟨[((0,nx3), .mp (esV (Ja2 rs y.1)))], [],y.2,1⟩) (fun y=> y.1≤rs.length∧∀j,j < y.1→Jcr l rs j=0) (fun y=> rs.length - y.1) ?_ ?_
  ·exact ⟨(0,nx3+2),⟨Nat.zero_le _,fun j h=> absurd h (Nat.not_lt_zero _)⟩,Jq (pm:= []) (bx:= [((0,nx3), .mp (esV (Ja2 rs 0)))]) [((2,nx3), .mp [])] [] rfl rfl Sf .slnil ⟨rfl,OwnLe.refl _,trivial⟩ trivial ⟨Rf,W.AVle.rps ⟨W.AVle.om_nm rfl,trivial⟩,Rf,Rf,Rf,trivial⟩⟩
  ·rintro ⟨i,nx4⟩ ⟨h1,h2⟩
   dsimp only at h1 h2
   refine stp ?_
   intro c g;cases c
   ·have g:=Ju g
    try dsimp only at g
    obtain rfl:i=rs.length:=by omega
    refine stp ?_
    exact Je rfl (Jgo (hnone h2))
   ·have g:=Jv g
    try dsimp only at g
    have hi:i < rs.length:=by omega
    have hm:rs.getD i Jl∈rs:=Ju2 hi
    have hri:=hrr _ hm
    have hoki:=hok _ hm
    have hsi:=hp2 _ hm
    have hk:=JtS (rs.getD i Jl).conds (Jdx hri) hoki.2.2 hsi.1
    have ha1:=Jsq l (rs.getD i Jl) hl (JeK hs _)
    have ha2:=Jsp (rs.getD i Jl) hoki.2.2 Om
    have ha3:=Jsr (Ja2 rs i) (rs.getD i Jl) (Jdo (rs.getD i Jl)) hsi.2 nx3
    rw [JnU hrr hri] at ha3
    have hv:= @JuU l rs i
    have hks:(Je2 (rs.getD i Jl).conds).size≤12012:=Jj8 (Jdx hri) hoki.2.2 hsi.1
    refine stp ?_
    refine ⟨Bd, ?_⟩
    refine JU ?_
    refine JbC (n:=69) (nx:=nx4+1) (nn:=2) (pm:= []) (bx:= [((0,nx3), .mp (esV (Ja2 rs i)))]) (L:= [(3, .rp [JN l]),(8, .rp [.om (0,nx3)]),(9,int i),(10, .rp (Jez (rs.getD i Jl))),(29,Ji rs),(30,int rs.length),(31,int i)]) (df:=some []) [((1,nx4), .c (Jez (rs.getD i Jl)))] rfl rfl rfl (List.Perm.refl _) Sf ⟨Frz.refl _,Frz.refl _,Frz.refl _,Frz.bp (.head _) rfl,Frz.refl _,Frz.refl _,Frz.refl _,trivial⟩ ?_
    refine stp ?_
    refine J6 8 [] (fun i=> match i with | 7=> true | _=> false) (fun i=> match i with | 5=> true | _=> false) [0,1,2,3,4,5,6,7] (by kernel_rfl) (by kernel_rfl) (fun _ _ _ h=> by cases h) ?_
    refine stp ?_
    refine ⟨by have h2:(⟨#[58]⟩:ByteArray).size=1:=rfl;rw [h2];omega, ?_⟩
    refine stp ?_
    refine ⟨_,J5 rfl rfl rfl hk ⟨Rf,trivial⟩ (NoId.v _), ?_⟩
    refine stp ?_
    refine ⟨by rw [ByteArray.size_append];have h2:(⟨#[58]⟩:ByteArray).size=1:=rfl;rw [h2];omega,JlQ (b:=Jf (Jdo (rs.getD i Jl))) rfl ?_⟩
    refine stp ?_
    refine ⟨_,Jhf rfl rfl JvW (fun _ _ _ h=> by cases h),fun r' h' hr=> ?_⟩
    obtain ⟨rfl,rfl⟩:=hr
    refine JU ?_
    refine JbC (n:=69) (nx:=nx4+2) (nn:=2) (pm:= []) (bx:= [((0,nx3), .mp (esV (Ja2 rs i)))]) (L:= [(3, .rp [JN l]),(8, .rp [.om (0,nx3)]),(9,int i),(10, .rp (Jez (rs.getD i Jl))),(11, .fn (.func 100) [] [.rp [JN l], .rp (Jez (rs.getD i Jl))]),(12, .fn (.func 101) [] [.rp (Jez (rs.getD i Jl))]),(13, .rp [Jf (Jdo (rs.getD i Jl))]),(29,Ji rs),(30,int rs.length),(31,int i)]) (df:=some []) [((2,nx4+1), .c [Jf (Jdo (rs.getD i Jl))])] rfl rfl rfl (List.Perm.refl _) Sf ⟨Frz.refl _,Frz.refl _,Frz.refl _,Frz.refl _,Frz.refl _,Frz.refl _,Frz.bp (.head _) rfl,Frz.refl _,Frz.refl _,Frz.refl _,trivial⟩ ?_
    refine stp ?_
    refine Jy (fun y:Nat×Nat=> mk 69 [(3, .rp [JN l]),(8, .rp [.om (0,nx3)]),(9,int i),(13, .rp [Jf (Jdo (rs.getD i Jl))]),(29,Ji rs),(30,int rs.length),(31,int i),(52, .sl 2 3 (Jdz (Jxo l (rs.getD i Jl) nx3))),(53,int 3),(54,int y.1)] ⟨[((0,nx3), .mp (esV (Ja2 rs i)))], [],y.2,1⟩) (fun y=> y.1≤3∧(1≤y.1→JaJ l (rs.getD i Jl).name=true)∧(2≤y.1→(rs.getD i Jl).conds.any Je8=false)∧(3≤y.1→(rs.take i).any (Jgb (rs.getD i Jl))=false)) (fun y=> 3 - y.1) ?_ ?_
    ·refine ⟨(0,nx4+2),⟨Nat.zero_le _,fun h=> absurd h (Nat.not_succ_le_zero _),fun h=> absurd h (Nat.not_succ_le_zero _),fun h=> absurd h (Nat.not_succ_le_zero _)⟩, ?_⟩
     exact Jq (pm:= []) (bx:= [((0,nx3), .mp (esV (Ja2 rs i)))]) [((0,nx3), .mp (esV (Ja2 rs i)))] [] rfl rfl Sf .slnil Bf trivial ⟨Rf,Rf,Rf,Rf,Rf,Rf,Rf,Jkh ⟨⟨⟨trivial,rfl⟩,rfl⟩,rfl⟩,Rf,Rf,trivial⟩
    ·rintro ⟨j,nx5⟩ ⟨k0,k1,k2,k3⟩
     dsimp only at k0 k1 k2 k3
     rcases j with _ | _ | _ | _ | j
     ·refine stp ?_
      refine ⟨⟨by show (0:Int)≤0;decide,by show (0:Int) < 3;decide⟩, ?_⟩
      refine stp ?_
      refine Jd rfl rfl ha1 ⟨Rf,Rf,trivial⟩ fun nx6=> ?_
      cases hf:JaJ l (rs.getD i Jl).name
      ·refine stp ?_
       (refine J1 4 ?_ ?_ ?_ ?_;(· kernel_rfl);(· kernel_rfl);(· kernel_rfl))
       refine stp ?_
       exact Je rfl (Jgo (hat i 14 hi h2 (if_pos hf) Dc))
      ·refine stp ?_
       exact back (1,nx6) ⟨by show 1≤3;decide,fun _=> rfl,fun h=> absurd h (by show ¬2≤1;decide),fun h=> absurd h (by show ¬3≤1;decide)⟩ (by show 3 - 1 < 3 - 0;decide) (Jq (pm:= []) (bx:= [((0,nx3), .mp (esV (Ja2 rs i)))]) [((0,nx3), .mp (esV (Ja2 rs i)))] [] rfl rfl (.cons _ Sf) .slnil Bf trivial ⟨Rf,Rf,Rf,Rf,Rf,Rf,Rf,Rf,Rf,Rf,trivial⟩)
     ·have q1:=k1 (Nat.le_refl _)
      refine stp ?_
      refine ⟨⟨by show (0:Int)≤1;decide,by show (1:Int) < 3;decide⟩, ?_⟩
      refine stp ?_
      refine Jd rfl rfl ha2 ⟨Rf,trivial⟩ fun nx6=> ?_
      cases hf:(rs.getD i Jl).conds.any Je8
      ·refine stp ?_
       exact back (2,nx6) ⟨by show 2≤3;decide,fun _=> q1,fun _=> rfl,fun h=> absurd h (by show ¬3≤2;decide)⟩ (by show 3 - 2 < 3 - 1;decide) (Jq (pm:= []) (bx:= [((0,nx3), .mp (esV (Ja2 rs i)))]) [((0,nx3), .mp (esV (Ja2 rs i)))] [] rfl rfl (.cons _ Sf) .slnil Bf trivial ⟨Rf,Rf,Rf,Rf,Rf,Rf,Rf,Rf,Rf,Rf,trivial⟩)
      ·refine stp ?_
       (refine J1 4 ?_ ?_ ?_ ?_;(· kernel_rfl);(· kernel_rfl);(· kernel_rfl))
       refine stp ?_
       exact Je rfl (Jgo (hat i 16 hi h2 (by unfold Jcr;rw [if_neg (by rw [q1];decide),if_pos hf]) Dc))
     ·have q1:=k1 Dc
      have q2:=k2 (Nat.le_refl _)
      refine stp ?_
      refine ⟨⟨by show (0:Int)≤2;decide,by show (2:Int) < 3;decide⟩, ?_⟩
      refine stp ?_
      refine JS (xs:= [.rp [.om (0,nx3)], .rp (Jez (rs.getD i Jl)), .rp [Jf (Jdo (rs.getD i Jl))]]) [((1,nx5), .c [.fn (.func 105) [] [.rp [.om (0,nx3)], .rp (Jez (rs.getD i Jl)), .rp [Jf (Jdo (rs.getD i Jl))]],int 15])] [] 2 rfl rfl rfl rfl ⟨Rf,Rf,Rf,trivial⟩ (ha3 (nx5+1)) Bf Pf rfl fun r h' hq=> ?_
      obtain ⟨nx6,nn6,rfl,rfl⟩:=hq
      cases hf:(rs.take i).any (Jgb (rs.getD i Jl))
      ·refine stp ?_
       exact back (3,nx6) ⟨by show 3≤3;decide,fun _=> q1,fun _=> q2,fun _=> rfl⟩ (by show 3 - 3 < 3 - 2;decide) (Jq (pm:= []) (bx:= [((0,nx3), .mp (esV (Ja2 rs i)))]) [((0,nx3), .mp (esV (Ja2 rs i)))] [] rfl rfl (.cons _ Sf) .slnil Bf trivial ⟨Rf,Rf,Rf,Rf,Rf,Rf,Rf,Rf,Rf,Rf,trivial⟩)
      ·refine stp ?_
       (refine J1 4 ?_ ?_ ?_ ?_;(· kernel_rfl);(· kernel_rfl);(· kernel_rfl))
       refine stp ?_
       exact Je rfl (Jgo (hat i 15 hi h2 (by unfold Jcr;rw [if_neg (by rw [q1];decide),if_neg (by rw [q2];decide),if_pos hf]) Dc))
     ·have q1:=k1 Dc
      have q2:=k2 Dc
      have q3:=k3 (Nat.le_refl _)
      have q4:JfO (Ja2 rs i) (rs.getD i Jl).name (Jdo (rs.getD i Jl))=true:=by rw [JnU hrr hri,q3];rfl
      have q5:=Jph _ _ (Jst q4)
      rw [← Jss hi] at q5
      refine Jbp ?_
      refine ⟨⟨rfl,JkU _⟩, ?_⟩
      refine Jbp ?_
      refine Jea ?_
      refine stp ?_
      exact back (i+1,nx5) ⟨hi,fun m hm2=> by
       rcases Nat.lt_or_ge m i with q | q
       ·exact h2 m q
       ·rw [show m=i by omega];exact hv.2 ⟨q1,q2,q3⟩⟩ Dm (Jq (pm:= []) (bx:= [((0,nx3), .mp (esV (Ja2 rs (i+1))))]) [((0,nx3), .mp (JcB (.string (Jdo (rs.getD i Jl))) (.v (.bool true)) (esV (Ja2 rs i))))] [] rfl rfl Sf .slnil ⟨rfl,Jmk (congrArg Own.mp q5),trivial⟩ trivial ⟨Rf,Rf,Rf,Rf,Lw,trivial⟩)
     ·exact absurd k0 Om
end Go.Proofs.W

namespace Go.Proofs.W
open Go.Vl
set_option maxRecDepth 100000
def LpI (p:Pol) (l:List TRow) (i:Nat) (st:Nat→JR):Prop:=i≤(Jc p).rules.length∧(∀j,j < 7→Jbt (st j))∧∃gs,JK (Jc p).rules=gs++JK ((Jc p).rules.drop i)∧(∀k,k < 5→(st k).1=(JaK (Jc p) l gs k).map Jdn)∧∀m,m < 2→(st (5+m)).1=(JcS l gs m).map J9
theorem JwB (p:Pol) (l:List TRow):LpI p l 0 fun _=> ([],none):=⟨Nat.zero_le _,fun _ _=> rfl, [],rfl,fun _ _=> rfl,fun _ _=> rfl⟩
theorem Jj9:∀l:List Rul,(JK l).length≤l.length
 | []=> Nat.le_refl _
 | r::l=> by
   have ih:=Jj9 l
   show (Jh6 r (JK l)).length≤l.length+1
   cases hg:JK l with
   | nil=> show 1≤_;omega
   | cons g t=>
     rw [hg] at ih
     obtain ⟨s,L⟩:=g
     show (if kS s r.name then (s,r::L)::t else (r.name, [r])::(s,L)::t).length≤_
     rw [List.length_cons] at ih
     split <;> simp only [List.length_cons] <;> omega
theorem JqI {a d:Nat} {x:Bool} {row:TRow} {rs:List PRul}:(Jaa a d x row rs).length≤1:=by
 unfold Jaa;split <;> simp
theorem JqJ {m:Nat} {row:TRow} {rs:List PRul}:(Jca m row rs).length≤1:=by
 unfold Jca;split <;> simp
theorem Ji6 {α β:Type} {f:α→List β} (h:∀x,(f x).length≤1):∀l:List α,(l.flatMap f).length≤l.length
 | []=> Nat.le_refl _
 | x::l=> by
   rw [List.flatMap_cons,List.length_append,List.length_cons]
   have:=h x
   have:=Ji6 h l
   omega
theorem Jpk {p:Pol} {l:List TRow} {i:Nat} {st:Nat→JR} (hr:(Jc p).rules.length≤500) (h:LpI p l i st):∀j,j < 7→(st j).1.length≤1000000:=fun j hj=> by
 obtain ⟨_,_,gs,h1,h2,h3⟩:=h
 have hg:=Jj9 (Jc p).rules
 rw [h1,List.length_append] at hg
 rcases Nat.lt_or_ge j 5 with h5 | h5
 ·rw [h2 j h5,List.length_map]
  have:=Ji6 (f:=fun g:ByteArray×List Rul=> Jaa j (Jr (Jc p).dflt) (Jc p).x32 (Jat l g.1) (g.2.map J0)) (fun _=> JqI) gs
  unfold JaK
  omega
 ·obtain ⟨m,rfl⟩:∃m,j=5+m:=⟨j - 5,by omega⟩
  rw [h3 m Om,List.length_map]
  have:=Ji6 (f:=fun g:ByteArray×List Rul=> Jca m (Jat l g.1) (g.2.map J0)) (fun _=> JqJ) gs
  unfold JcS
  omega
theorem Ju3 {l:List TRow} {s:ByteArray} (ht:(JbO l).2=0) (h:JnF l s):(∀k,(Jat l s).num k < 1073741824)∧((Jat l s).mux=0∨(Jat l s).mux=1∨(Jat l s).mux=2)∧0≤(Jat l s).sub∧(Jat l s).sub≤255:=by
 obtain ⟨i,hi,h1,_⟩:=h
 rw [h1]
 exact ⟨fun k=> (Jd4 ht hi).1,JkJ ht hi⟩
theorem JlU (s:ByteArray) (l:List Rul):(JbJ s l).length≤l.length:=List.Sublist.length_le (List.takeWhile_sublist _)
theorem JtT (s:ByteArray) (l:List Rul):l=JbJ s l++l.drop (JbJ s l).length:=by
 induction l with
 | nil=> rfl
 | cons r l ih=>
   unfold JbJ at ih⊢
   rw [List.takeWhile_cons]
   by_cases h:kS r.name s=true
   ·rw [if_pos h,List.length_cons,List.drop_succ_cons,List.cons_append,← ih]
   ·rw [if_neg h];rfl
theorem Jsu {l:List Rul} {i:Nat} (hi:i < l.length):JbJ (l.getD i Jl).name (l.drop i)≠ []:=by
 rw [List.drop_eq_getElem_cons hi,show l.getD i Jl=l[i] by simp [List.getD,hi]]
 unfold JbJ
 rw [List.takeWhile_cons,if_pos (Jbh.2 rfl)]
 exact List.cons_ne_nil _ _
theorem JtU {p:Pol} {l:List TRow} {i:Nat} {st st':Nat→JR} (hi:i < (Jc p).rules.length) {s:ByteArray} {L:List Rul} (hs:s=((Jc p).rules.getD i Jl).name) (hL:L=JbJ s ((Jc p).rules.drop i)) (h:LpI p l i st) (hq:Jqz (Jr (Jc p).dflt) (Jc p).x32 (Jat l s) (L.map J0) st st'):LpI p l (i+L.length) st':=by
 obtain ⟨h0,h1,gs,h2,h3,h4⟩:=h
 have hne:L≠ []:=by rw [hL,hs];exact Jsu hi
 have hd:=JtT s ((Jc p).rules.drop i)
 have he:=JtF s ((Jc p).rules.drop i)
 have ha:=JlI s ((Jc p).rules.drop i)
 have hl:=JlU s ((Jc p).rules.drop i)
 rw [← hL] at hd he ha hl
 rw [List.drop_drop] at hd he
 rw [List.length_drop] at hl
 have hgr:=JjX he hne ha
 rw [← hd] at hgr
 refine ⟨by omega,hq.1,gs++ [(s,L)],by rw [h2,hgr,List.append_assoc];rfl,fun k hk=> ?_,fun m hm=> ?_⟩
 ·rw [hq.2.1 k hk,h3 k hk,Jqs,List.map_append]
 ·rw [hq.2.2 m hm,h4 m hm,Jqt,List.map_append]
theorem Jsv {p:Pol} (hp:p.ok) (hr:Jbi p=true) {s:ByteArray} {i:Nat}:∀r∈(JbJ s ((Jc p).rules.drop i)).map J0,r.conds.length≤1000000∧∀c∈r.conds,c.ok:=fun q hq=> by
 obtain ⟨r,hr1,rfl⟩:=List.mem_map.1 hq
 have hm:r∈(Jc p).rules:=List.mem_of_mem_drop ((List.takeWhile_sublist _).subset hr1)
 obtain ⟨r0,h0,h1⟩:=Ji2 hm
 have:=(JbG hr).2 r0 h0
 have:=(JcY h1).1
 exact ⟨by show r.conds.length≤_;omega,(JiB h1).2.2 (hp.2 r0 h0).2.2⟩
theorem Ju4 {p:Pol} {l:List TRow} {st:Nat→JR} (h:LpI p l (Jc p).rules.length st):(∀j,j < 7→Jbt (st j))∧(∀k,k < 5→(st k).1=(JaK (Jc p) l (JK (Jc p).rules) k).map Jdn)∧∀m,m < 2→(st (5+m)).1=(JcS l (JK (Jc p).rules) m).map J9:=by
 obtain ⟨h0,h1,gs,h2,h3,h4⟩:=h
 rw [List.drop_length] at h2
 obtain rfl:JK (Jc p).rules=gs:=by rw [h2];exact List.append_nil _
 exact ⟨h1,h3,h4⟩
def LpS (k:Nat) (st st':Nat→JR):Prop:=k≤7∧(∀j,j < 7→Jbt (st' j))∧(∀j,j < 7→(st' j).1.Perm (st j).1)∧∀j,j < k→(st' j).1.Pairwise fun a b=> a.1≤b.1
theorem JwC {st:Nat→JR} (h:∀j,j < 7→Jbt (st j)):LpS 0 st st:=⟨by omega,h,fun _ _=> .refl _,fun j hj=> absurd hj (Nat.not_lt_zero j)⟩
theorem JdX {k:Nat} {st st1:Nat→JR} (hk:k < 7) (h:LpS k st st1) (he:(st1 k).1= []):LpS (k+1) st st1:=by
 obtain ⟨h0,h1,h2,h3⟩:=h
 refine ⟨hk,h1,h2,fun j hj=> ?_⟩
 rcases Nat.lt_or_ge j k with q | q
 ·exact h3 j q
 ·obtain rfl:j=k:=by omega
  rw [he];exact List.Pairwise.nil
theorem JdY {k:Nat} {st st1:Nat→JR} {R D:List (Nat×AV)} {s cap:Nat} {tl:List AV} (hk:k < 7) (h:LpS k st st1) (hR:st1 k=(R,some (s,cap,tl))) (hp:D.Perm R) (hs:D.Pairwise fun a b=> a.1≤b.1):LpS (k+1) st (Jx st1 k (D,some (s,cap,tl))):=by
 obtain ⟨h0,h1,h2,h3⟩:=h
 have hok:=h1 k hk
 rw [hR] at hok
 refine ⟨hk,JbH h1 (show D.length≤cap∧cap * 2≤D.length * 2+tl.length from by rw [hp.length_eq];exact hok),fun j hj=> ?_,fun j hj=> ?_⟩
 ·unfold Jx
  by_cases e:j=k
  ·subst e
   rw [if_pos rfl]
   have:=h2 j hj
   rw [hR] at this
   exact hp.trans this
  ·rw [if_neg e];exact h2 j hj
 ·unfold Jx
  by_cases e:j=k
  ·subst e
   rw [if_pos rfl];exact hs
  ·rw [if_neg e];exact h3 j Om
end Go.Proofs.W

namespace Go.Proofs.W
open Go.Vl
set_option maxRecDepth 100000
def ent0:PEnt:=⟨0, []⟩
def sub0:PSub:=⟨0,0⟩
def Jai (e:PEnt):AV:= .ag [u32 (e.num:Nat),Js e.rules]
def Je9 (s:PSub):AV:= .ag [u32 (s.num:Nat),u32 (s.code:Nat)]
def Jml:Plan:=⟨0,false,fun _=> [],fun _=> []⟩
def Jf4 (P:Plan):AV:= .ag [u32 (P.dflt:Nat),Jb P.x32,JF 2 Jai ent0 (P.ents 0),JF 2 Jai ent0 (P.ents 1),JF 2 Jai ent0 (P.ents 2),JF 2 Jai ent0 (P.ents 3),JF 2 Jai ent0 (P.ents 4),JF 2 Je9 sub0 (P.subs 0),JF 2 Je9 sub0 (P.subs 1)]
def JkV (p:Pol) (l:List TRow):AV:=if (Jae p l).2≠0 then .tup [Jf4 Jml,int (Jae p l).1,int (Jae p l).2] else match p.rules.findIdx? (Jej l) with
 | some i=> .tup [Jf4 Jml,int i,int 17]
 | none=> .tup [Jf4 (JV p l),int 0,int 0]
def JW:List AV:= [u32 0,Jb false, .os 0 0 (fun _=> .any) none, .os 0 0 (fun _=> .any) none, .os 0 0 (fun _=> .any) none, .os 0 0 (fun _=> .any) none, .os 0 0 (fun _=> .any) none, .os 0 0 (fun _=> .any) none, .os 0 0 (fun _=> .any) none]
theorem JnW:AVle (.ag [u32 0,Jb false, .os 0 0 (fun _=> .any) none, .os 0 0 (fun _=> .any) none, .os 0 0 (fun _=> .any) none, .os 0 0 (fun _=> .any) none, .os 0 0 (fun _=> .any) none, .os 0 0 (fun _=> .any) none, .os 0 0 (fun _=> .any) none]) (Jf4 Jml):=
 AVle.ags ⟨Rf,Rf,AVle.os_sl0,AVle.os_sl0,AVle.os_sl0,AVle.os_sl0,AVle.os_sl0,AVle.os_sl0,AVle.os_sl0,trivial⟩
def LpT (nx nx4:Nat) (l:List TRow) (e:List (Nat×AV)):List (Nat×AV):= [(1,JN l),(4, .bp (2,nx+1) 0),(5,int 0),(6,int 0),(11, .bp (0,nx4) 0),(13, .bp (1,nx4+1) 0),(14, .fn (.func 47) [] [.bp (0,nx4) 0, .bp (1,nx4+1) 0])]++e
def LpB (nx nx4:Nat) (p:Pol) (st:Nat→JR):List (Vl.Id×Own):= [((2,nx+1), .c JW),((1,nx4+1), .c (Jo (Jr (Jc p).dflt) (Jc p).x32 st)),((0,nx4), .c [int (Jc p).dflt.1,int (Jc p).dflt.2,Jb (Jc p).x32,Ji (Jc p).rules])]++JB st
theorem JtV {α:Type} {a b c:α} {t:List α}:(c::a::b::t).Perm (a::b::c::t):=(List.Perm.swap a c _).trans ((List.Perm.swap b c _).cons a)
theorem JeA {d:Nat} {x:Bool} {st:Nat→JR} {k:Nat} {r:JR} (h:Ja (10+k) r=Ja (10+k) (st k)):Jo d x (Jx st k r)=Jo d x st:=by
 have h':∀j,Ja (10+j) (Jx st k r j)=Ja (10+j) (st j):=fun j=> by
  unfold Jx
  by_cases e:j=k
  ·subst e;rw [if_pos rfl];exact h
  ·rw [if_neg e]
 have h0:=h' 0
 have h1:=h' 1
 have h2:=h' 2
 have h3:=h' 3
 have h4:=h' 4
 have h5:=h' 5
 have h6:=h' 6
 unfold Jo
 rw [h0,h1,h2,h3,h4,h5,h6]
theorem JeB {k:Nat} (hk:k < 7) {st:Nat→JR} {R:List (Nat×AV)} {s cap:Nat} {tl:List AV} {F:List (Vl.Id×Own)} (h:st k=(R,some (s,cap,tl))):((F++Jm k st)++ [((10+k,s),Own.c (Jt R++tl))]).Perm (F++JB st):=by
 have hp:=JcT hk st
 rw [h] at hp
 rw [List.append_assoc]
 exact (hp.trans List.perm_append_comm).symm.append_left F
theorem JdZ {k:Nat} (hk:k < 7) {st:Nat→JR} {R:List (Nat×AV)} {s cap:Nat} {tl:List AV} {F:List (Vl.Id×Own)}:((F++Jm k st)++ [((10+k,s),Own.c (Jt R++tl))]).Perm (F++JB (Jx st k (R,some (s,cap,tl)))):=by
 have hp:=Ji4 hk st (R,some (s,cap,tl))
 rw [List.append_assoc]
 exact (hp.trans List.perm_append_comm).symm.append_left F
theorem Jcs {nx nx4:Nat} {p:Pol} {st:Nat→JR} {cs:List AV} {R:List (Vl.Id×Own)} (h:Jo (Jr (Jc p).dflt) (Jc p).x32 st=cs):BxLe ([((2,nx+1), .c JW),((1,nx4+1), .c (Jo (Jr (Jc p).dflt) (Jc p).x32 st)),((0,nx4), .c [int (Jc p).dflt.1,int (Jc p).dflt.2,Jb (Jc p).x32,Ji (Jc p).rules])]++R) ([((2,nx+1), .c JW),((1,nx4+1), .c cs),((0,nx4), .c [int (Jc p).dflt.1,int (Jc p).dflt.2,Jb (Jc p).x32,Ji (Jc p).rules])]++R):=BxLe.of_eq (by rw [h])
theorem Jct {nx nx4:Nat} {p:Pol} {st:Nat→JR} {cs:List AV} {R:List (Vl.Id×Own)} (h:cs=Jo (Jr (Jc p).dflt) (Jc p).x32 st):BxLe ([((2,nx+1), .c JW),((1,nx4+1), .c cs),((0,nx4), .c [int (Jc p).dflt.1,int (Jc p).dflt.2,Jb (Jc p).x32,Ji (Jc p).rules])]++R) ([((2,nx+1), .c JW),((1,nx4+1), .c (Jo (Jr (Jc p).dflt) (Jc p).x32 st)),((0,nx4), .c [int (Jc p).dflt.1,int (Jc p).dflt.2,Jb (Jc p).x32,Ji (Jc p).rules])]++R):=BxLe.of_eq (by rw [h])
theorem JtW {nx nx4:Nat} {p:Pol} {st:Nat→JR}:(LpB nx nx4 p st).Perm (([((1,nx4+1),Own.c (Jo (Jr (Jc p).dflt) (Jc p).x32 st)),((0,nx4),Own.c [int (Jc p).dflt.1,int (Jc p).dflt.2,Jb (Jc p).x32,Ji (Jc p).rules])]++JB st)++ [((2,nx+1),Own.c JW)]):=List.perm_append_comm (l₁:= [((2,nx+1),Own.c JW)]) (l₂:=([((1,nx4+1),Own.c (Jo (Jr (Jc p).dflt) (Jc p).x32 st)),((0,nx4),Own.c [int (Jc p).dflt.1,int (Jc p).dflt.2,Jb (Jc p).x32,Ji (Jc p).rules])]++JB st))
theorem JnX:∀l:List PEnt,Jt (l.map Jdn)=l.flatMap fun e=> [u32 (e.num:Nat),Js e.rules]
 | []=> rfl
 | e::l=> by
   show _::_::Jt (l.map Jdn)=_::_::_
   rw [JnX l];rfl
theorem JnY:∀l:List PSub,Jt (l.map J9)=l.flatMap fun e=> [u32 (e.num:Nat),u32 (e.code:Nat)]
 | []=> rfl
 | e::l=> by
   show _::_::Jt (l.map J9)=_::_::_
   rw [JnY l];rfl
instance:Inhabited PEnt:=⟨ent0⟩
instance:Inhabited PSub:=⟨sub0⟩
theorem Jgp {bs:List (Nat×Own)} {nm:Nat}:∀ {r:JR} {l:List PEnt},Jbt r→r.1=l.map Jdn→(∀b∈JaC nm r,((b.1.2,b.2))∈bs)→Frz bs (Ja nm r) (JF 2 Jai ent0 l)
 | (R,none),l,hok,h,_=> by
   have hok:R= []:=hok
   have h:R=l.map Jdn:=h
   obtain rfl:l= []:=List.map_eq_nil_iff.1 (h.symm.trans hok)
   exact Frz.of_le AVle.os_sl0
 | (R,some (s,cap,tl)),l,hok,h,hm=> by
   have h:R=l.map Jdn:=h
   subst h
   have hm:=hm _ (.head _)
   have hk:=hok.1
   rw [List.length_map] at hk
   exact JgI (E:=fun e:PEnt=> [u32 (e.num:Nat),Js e.rules]) (fun _=> rfl) (fun _=> rfl) (List.length_map _).symm (by unfold Jab;rw [← JnX];exact hm) (by rw [List.length_map];exact hk)
theorem Jpl {bs:List (Nat×Own)} {nm:Nat}:∀ {r:JR} {l:List PSub},Jbt r→r.1=l.map J9→(∀b∈JaC nm r,((b.1.2,b.2))∈bs)→Frz bs (Ja nm r) (JF 2 Je9 sub0 l)
 | (R,none),l,hok,h,_=> by
   have hok:R= []:=hok
   have h:R=l.map J9:=h
   obtain rfl:l= []:=List.map_eq_nil_iff.1 (h.symm.trans hok)
   exact Frz.of_le AVle.os_sl0
 | (R,some (s,cap,tl)),l,hok,h,hm=> by
   have h:R=l.map J9:=h
   subst h
   have hm:=hm _ (.head _)
   have hk:=hok.1
   rw [List.length_map] at hk
   exact JgI (E:=fun e:PSub=> [u32 (e.num:Nat),u32 (e.code:Nat)]) (fun _=> rfl) (fun _=> rfl) (List.length_map _).symm (by unfold Jab;rw [← JnY];exact hm) (by rw [List.length_map];exact hk)
theorem JfP {F:List (Vl.Id×Own)} {st:Nat→JR} {j:Nat} (hj:j < 7):∀b∈JaC (10+j) (st j),((b.1.2,b.2))∈(F++JB st).map fun p=> (p.1.2,p.2):=fun b hb=>
 List.mem_map.2 ⟨b,List.mem_append.2 (.inr (List.mem_flatMap.2 ⟨j,List.mem_range.2 hj,hb⟩)),rfl⟩
theorem JtX {i:Nat} {L:List Rul} {r:Rul} (h:i+L.length < 1000000):IntKind.i64.wrap (((i+L.length:Nat):Int)+1)=((i+(L++ [r]).length:Nat):Int):=by
 rw [List.length_append,List.length_singleton,← Nat.add_assoc];exact J7 Om
theorem Ju5 {L:List Rul} {r:Rul}:((L.map J0).length+1) * 2=((L++ [r]).map J0).length * 2:=by simp
theorem JvX {L:List Rul} {r:Rul} {f':Nat→AV} {a b s:Nat} (hf:f' 0=Jcy (J0 r)):AVle (.os 2 ((L.map J0).length+1) (Jcd (L.map J0).length (Jcz (L.map J0)) f') (some (a,s))) (.os 2 ((L++ [r]).map J0).length (Jcz ((L++ [r]).map J0)) (some (b,s))):=by
 rw [List.map_append];exact JgT (e:=Jcy) hf rfl
set_option maxHeartbeats 8000000 in
theorem JhB (p:Pol) (l:List TRow) (hp:p.ok) (hp2:∀r∈p.rules,r.conds.length≤12∧r.name.size≤1000000) (hl:l.length≤1000000) (hn:∀r∈l,r.name.size≤maxLen):Tells Tryz.prog 12 [JbN p,JN l] (JkV p l):=by
 have hV:=JnV p l hp hp2 hl hn
 unfold JkV
 by_cases hv:(Jae p l).2=0
 ·rw [if_neg (fun h=> h hv)]
  have hE:=JkL p l (by have:=(JbG (JaN.1 hv).1).1;omega) hl (Jfh (JaN.1 hv).2.1)
  unfold JtM at hE
  rw [hv] at hV
  generalize (Jae p l).1=v1 at hV
  cases hx:p.rules.findIdx? (Jej l) with
  | some i=>
    rw [hx] at hE
    refine Jg Tryz.func12 rfl rfl fun nx=> ?_
    refine stp ?_
    refine Jd rfl rfl hV ⟨Rf,Rf,trivial⟩ fun nx2=> ?_
    refine stp ?_
    refine Jd rfl rfl hE ⟨Rf,Rf,trivial⟩ fun nx3=> ?_
    refine stp ?_
    exact Jj rfl ⟨rfl,trivial⟩ (AVle.tups (cs:= [_,_,_]) ⟨JnW,Rf,Rf,trivial⟩)
  | none=>
    rw [hx] at hE
    refine Jg Tryz.func12 rfl rfl fun nx=> ?_
    refine stp ?_
    refine Jd rfl rfl hV ⟨Rf,Rf,trivial⟩ fun nx2=> ?_
    refine stp ?_
    refine Jd rfl rfl hE ⟨Rf,Rf,trivial⟩ fun nx3=> ?_
    refine stp ?_
    have hN:=Jmc p hp
    unfold Jmi at hN
    rw [if_pos (JaN.1 hv).1] at hN
    have hnr:=Jqr (JaN.1 hv).1
    have hcd:=Jo2 p.dflt (Jnq (JaN.1 hv).1).1
    refine Jd rfl rfl hN ⟨Rf,trivial⟩ fun nx4=> ?_
    refine stp ?_
    have hc18:=JiE (Jc p).dflt (Jnq hnr).1
    refine J6 7 [((2,nx4), .c [int (Jc p).dflt.1,int (Jc p).dflt.2,Jb (Jc p).x32,Ji (Jc p).rules]),((1,nx+1), .c JW),((0,nx), .c [int p.dflt.1,int p.dflt.2,Jb p.x32,Ji p.rules])] (fun i=> match i with | 6=> true | _=> false) (fun i=> match i with | 2=> true | _=> false) [0,1,2,3,4,5,6] (by kernel_rfl) (by kernel_rfl) (HB.refl _) ?_
    refine stp ?_
    refine ⟨_,J5 rfl rfl rfl hc18 ⟨Rf,trivial⟩ (NoId.v _), ?_⟩
    refine stp ?_
    refine ⟨_,Jhf (cs:=JW) rfl rfl (by kernel_rfl) (HB.cons rfl (HB.cons rfl (HB.one rfl))),fun r h' hr=> ?_⟩
    obtain ⟨rfl,rfl⟩:=hr
    refine stp ?_
    refine JcX (fun y:(Nat→JR)×Nat=> mk 131 (LpT nx nx4 l []) ⟨LpB nx nx4 p y.1, [],y.2,20⟩) (fun y=> LpI p l (Jc p).rules.length y.1) ?_ ?_
    ·refine Jy (fun y:Nat×(Nat→JR)×Nat=> mk 131 (LpT nx nx4 l [(15,int y.1)]) ⟨LpB nx nx4 p y.2.1, [],y.2.2,20⟩) (fun y=> LpI p l y.1 y.2.1) (fun y=> (Jc p).rules.length - y.1) ?_ ?_
     ·exact ⟨(0,fun _=> ([],none),nx4+2),JwB p l,Jn (pm:= []) (bx:= [((2,nx+1), .c JW),((1,nx4+1), .c (Jo (Jr (Jc p).dflt) (Jc p).x32 fun _=> ([],none))),((0,nx4), .c [int (Jc p).dflt.1,int (Jc p).dflt.2,Jb (Jc p).x32,Ji (Jc p).rules])]) (L:= [(1,JN l),(4, .bp (2,nx+1) 0),(5,int 0),(6,int 0),(11, .bp (0,nx4) 0),(13, .bp (1,nx4+1) 0),(14, .fn (.func 47) [] [.bp (0,nx4) 0, .bp (1,nx4+1) 0]),(15,int (0:Nat))]) _ _ [] rfl rfl JtV (.cons_cons _ (.cons_cons _ (.cons_cons _ (.cons _ .slnil)))) Sf ⟨rfl,OwnLe.refl _,rfl,OwnLe.refl _,rfl,OwnLe.refl _,trivial⟩ trivial ⟨Rf,AVle.bp_nm rfl,Rf,Rf,AVle.bp_nm rfl,AVle.bp_nm rfl,AVle.fn_caps (cs:= [.bp (2,nx4) 0, .bp (3,nx4+1) 0]) (ds:= [.bp (0,nx4) 0, .bp (1,nx4+1) 0]) ⟨AVle.bp_nm rfl,AVle.bp_nm rfl,trivial⟩,Rf,trivial⟩⟩
     ·rintro ⟨i,st,nx5⟩ hI
      refine stp ?_
      intro c g;cases c
      ·have g:=Ju g
       try dsimp only at g
       have hi:i=(Jc p).rules.length:=by have:=hI.1;dsimp only at this;omega
       subst hi
       refine stp ?_
       exact ⟨(st,nx5),hI,Et rfl rfl Bf trivial ⟨Rf,Rf,Rf,Rf,Rf,Rf,Rf,trivial⟩⟩
      ·have g:=Jv g
       try dsimp only at g
       have hi:i < (Jc p).rules.length:=by omega
       refine stp ?_
       refine ⟨Bd, ?_⟩
       refine stp ?_
       refine JcX (fun y:List Rul×Option Nat×Nat=> mk 131 (LpT nx nx4 l [(15,int (i+y.1.length:Nat)),(16,Jf ((Jc p).rules.getD i Jl).name),(17, .os 2 (y.1.map J0).length (Jcz (y.1.map J0)) (nmd y.2.1))]) ⟨LpB nx nx4 p st,Jbo (nmd y.2.1) ((y.1.map J0).length * 2),y.2.2,20⟩) (fun y=> y.1=JbJ ((Jc p).rules.getD i Jl).name ((Jc p).rules.drop i)) ?_ ?_
       ·refine Jy (fun y:List Rul×Option Nat×Nat=> mk 131 (LpT nx nx4 l [(15,int (i+y.1.length:Nat)),(16,Jf ((Jc p).rules.getD i Jl).name),(17, .os 2 (y.1.map J0).length (Jcz (y.1.map J0)) (nmd y.2.1))]) ⟨LpB nx nx4 p st,Jbo (nmd y.2.1) ((y.1.map J0).length * 2),y.2.2,20⟩)
         (fun y=> y.1++JbJ ((Jc p).rules.getD i Jl).name ((Jc p).rules.drop (i+y.1.length))=JbJ ((Jc p).rules.getD i Jl).name ((Jc p).rules.drop i)∧i+y.1.length≤(Jc p).rules.length∧(y.2.1=none→y.1= [])) (fun y=> (Jc p).rules.length - (i+y.1.length)) ?_ ?_
        ·exact ⟨([],none,nx5),⟨rfl,Nat.le_of_lt hi,fun _=> rfl⟩,Jq (pm:= []) (L:= [(1,JN l),(4, .bp (2,nx+1) 0),(5,int 0),(6,int 0),(11, .bp (0,nx4) 0),(13, .bp (1,nx4+1) 0),(14, .fn (.func 47) [] [.bp (0,nx4) 0, .bp (1,nx4+1) 0]),(15,int (i:Nat)),(16,Jf ((Jc p).rules.getD i Jl).name),(17, .os 2 0 (Jcz []) none)]) _ [] rfl rfl Sf Sf Bf trivial ⟨Rf,Rf,Rf,Rf,Rf,Rf,Rf,Rf,Rf,AVle.os_nil,trivial⟩⟩
        ·rintro ⟨L,oi,nx6⟩ ⟨hL,hle,ho⟩
         dsimp only at hL hle ho
         refine stp ?_
         intro c g2;cases c
         ·have g2:=Ju g2
          try dsimp only at g2
          have hj:i+L.length=(Jc p).rules.length:=by omega
          rw [hj,List.drop_length] at hL
          refine stp ?_
          exact ⟨(L,oi,nx6),by rw [← hL];exact (List.append_nil _).symm,Et rfl rfl Bf Pf ⟨Rf,Rf,Rf,Rf,Rf,Rf,Rf,Rf,Rf,Rf,trivial⟩⟩
         ·have g2:=Jv g2
          try dsimp only at g2
          have hj:i+L.length < (Jc p).rules.length:=by omega
          have hdr:(Jc p).rules.drop (i+L.length)=(Jc p).rules.getD (i+L.length) Jl::(Jc p).rules.drop (i+L.length+1):=by
           rw [List.drop_eq_getElem_cons hj];simp [List.getD,hj]
          rw [hdr] at hL
          refine stp ?_
          refine ⟨Bd, ?_⟩
          refine stp ?_
          intro c3 hc3
          have hc3:c3=kS ((Jc p).rules.getD (i+L.length) Jl).name ((Jc p).rules.getD i Jl).name:=hc3
          cases c3
          ·have hrn:JbJ ((Jc p).rules.getD i Jl).name ((Jc p).rules.getD (i+L.length) Jl::(Jc p).rules.drop (i+L.length+1))= []:=by
            unfold JbJ;rw [List.takeWhile_cons,if_neg (by rw [← hc3];decide)]
           rw [hrn] at hL
           refine stp ?_
           exact ⟨(L,oi,nx6),by rw [← hL];exact (List.append_nil _).symm,Et rfl rfl Bf Pf ⟨Rf,Rf,Rf,Rf,Rf,Rf,Rf,Rf,Rf,Rf,trivial⟩⟩
          ·have hrn:JbJ ((Jc p).rules.getD i Jl).name ((Jc p).rules.getD (i+L.length) Jl::(Jc p).rules.drop (i+L.length+1))=(Jc p).rules.getD (i+L.length) Jl::JbJ ((Jc p).rules.getD i Jl).name ((Jc p).rules.drop (i+L.length+1)):=by
            unfold JbJ;rw [List.takeWhile_cons,if_pos hc3.symm]
           rw [hrn] at hL
           have hcj:=JiE ((Jc p).rules.getD (i+L.length) Jl).act (Jqf ((Jnq hnr).2 _ (by simp [List.getD,hj])))
           refine stp ?_
           refine J6 17 (LpB nx nx4 p st) (fun i=> match i with | 16=> true | _=> false) (fun i=> match i with | 13=> true | _=> false) [0,1,2,3,4,5,6,7,8,9,10,11,12,13,14,15,16] (by kernel_rfl) (by kernel_rfl) (HB.refl _) ?_
           refine stp ?_
           refine ⟨Bd,Jb3 (b:= .rp (Jaf ((Jc p).rules.getD (i+L.length) Jl)).cells) rfl ?_⟩
           refine stp ?_
           refine ⟨Bd,Jb3 (b:= .rp (Jaf ((Jc p).rules.getD (i+L.length) Jl)).cells) rfl ?_⟩
           refine stp ?_
           refine ⟨_,J5 rfl rfl rfl hcj ⟨Rf,trivial⟩ (NoId.v _), ?_⟩
           refine stp ?_
           refine ⟨_,JaZ (e:=118) (c:=2) (pm:= []) (n:=(L.map J0).length) (oi:=nmd oi) (sz:=2) (f:=Jcz (L.map J0)) (HB.refl _) rfl rfl rfl (.inr ⟨_,rfl⟩) (by kernel_rfl) (by kernel_rfl) (by kernel_rfl) (.inr rfl) (by kernel_rfl) (List.append_nil _).symm (Jz rfl) (by rw [Jj4,List.length_map];have:=(JbG hnr).1;omega) (by rw [List.length_map];have:=(JbG hnr).1;omega),fun r h' hr=> ?_⟩
           obtain ⟨rfl,rfl⟩:=hr
           refine stp ?_
           exact back (L++ [(Jc p).rules.getD (i+L.length) Jl],some nx6,nx6+1) ⟨by dsimp only;rw [List.append_assoc,List.length_append,List.length_singleton];exact hL,by dsimp only;rw [List.length_append,List.length_singleton];omega,(fun h=> by cases h)⟩ (by dsimp only;rw [List.length_append,List.length_singleton];omega) (Et (bx:=LpB nx nx4 p st) (pm:= [((0,nx6),((L++ [(Jc p).rules.getD (i+L.length) Jl]).map J0).length * 2)]) (L:= [(1,JN l),(4, .bp (2,nx+1) 0),(5,int 0),(6,int 0),(11, .bp (0,nx4) 0),(13, .bp (1,nx4+1) 0),(14, .fn (.func 47) [] [.bp (0,nx4) 0, .bp (1,nx4+1) 0]),(15,int (i+(L++ [(Jc p).rules.getD (i+L.length) Jl]).length:Nat)),(16,Jf ((Jc p).rules.getD i Jl).name),(17, .os 2 ((L++ [(Jc p).rules.getD (i+L.length) Jl]).map J0).length (Jcz ((L++ [(Jc p).rules.getD (i+L.length) Jl]).map J0)) (some (0,nx6)))]) rfl rfl Bf ⟨rfl,Ju5,trivial⟩ ⟨Rf,Rf,Rf,Rf,Rf,Rf,Rf,Jk (JtX (by have:=(JbG hnr).1;dsimp only;omega)),Rf,JvX rfl,trivial⟩)
       ·rintro ⟨L,oi,nx6⟩ hL
        dsimp only at hL
        have hmem:(Jc p).rules.getD i Jl∈(Jc p).rules:=by simp [List.getD,hi]
        have hfb:JaJ l ((Jc p).rules.getD i Jl).name=true:=by
         obtain ⟨r0,h0,h1⟩:=Ji2 hmem
         rw [(JcY h1).2.1]
         exact JcZ hv r0 h0
        have hF:=JfF l ((Jc p).rules.getD i Jl).name hl (JeK (Jfh (JaN.1 hv).2.1) _)
        unfold JjD at hF
        rw [if_pos hfb,← (show Jat l ((Jc p).rules.getD i Jl).name=_ from if_pos hfb)] at hF
        refine stp ?_
        refine Jd rfl rfl hF ⟨Rf,Rf,trivial⟩ fun nx7=> ?_
        refine stp ?_
        have hLn:L≠ []:=by rw [hL];exact Jsu hi
        have hrc:=Jsv (s:=((Jc p).rules.getD i Jl).name) (i:=i) hp (JaN.1 hv).1
        rw [← hL] at hrc
        have hrow:=Ju3 (JaN.1 hv).2.1 (JlN hfb)
        have hlr:L.length≤(Jc p).rules.length - i:=by rw [hL,← List.length_drop];exact JlU _ _
        have h500:=(JbG hnr).1
        have hput:=JqA (Jc p).dflt.1 (Jc p).dflt.2 (Jc p).x32 (Jc p).rules (Jr (Jc p).dflt) (Jat l ((Jc p).rules.getD i Jl).name) (L.map J0) nx4 (nx4+1) (nx7+1) st hI.2.1 (Jpk h500 hI) hrow.1 hrow.2.1 hrow.2.2 (fun h=> hLn (List.map_eq_nil_iff.1 h)) (by rw [List.length_map];omega) hrc
        have hnext:∀st',Jqz (Jr (Jc p).dflt) (Jc p).x32 (Jat l ((Jc p).rules.getD i Jl).name) (L.map J0) st st'→LpI p l (i+L.length) st':=fun st' hq=> JtU hi rfl hL hI hq
        have hpos:0 < L.length:=List.length_pos_iff.2 hLn
        refine JS (xs:= [Jp (Jat l ((Jc p).rules.getD i Jl).name),Js (L.map J0), .bp (0,nx4) 0, .bp (1,nx4+1) 0]) [((20,nx7), .c (Jcp (Jat l ((Jc p).rules.getD i Jl).name))),((2,nx+1), .c JW)] (Jbo (nmd oi) ((L.map J0).length * 2)) 20 rfl rfl rfl (List.append_nil _).symm ⟨Rf,AVle.os_sl,Rf,Rf,trivial⟩ hput Bf trivial rfl fun r h' hq=> ?_
        obtain ⟨rfl,st',nx8,nn8,hq,rfl⟩:=hq
        refine stp ?_
        exact back (i+L.length,st',nx8) (hnext st' hq) Dm (Jq (pm:= []) (bx:=LpB nx nx4 p st') (L:= [(1,JN l),(4, .bp (2,nx+1) 0),(5,int 0),(6,int 0),(11, .bp (0,nx4) 0),(13, .bp (1,nx4+1) 0),(14, .fn (.func 47) [] [.bp (0,nx4) 0, .bp (1,nx4+1) 0]),(15,int (i+L.length:Nat))]) _ [] rfl rfl (.cons _ Sf) (List.nil_sublist _) Bf trivial ⟨Rf,Rf,Rf,Rf,Rf,Rf,Rf,Rf,trivial⟩)
    ·rintro ⟨st,nx5⟩ hI
     dsimp only at hI
     have hE:=Ju4 hI
     have hlen:=Jpk (JbG hnr).1 hI
     have hone:∀ {m:Nat} {st1:Nat→JR} (k:Nat),LpS m st st1→∀ {R:List (Nat×AV)},k < 7→(st1 k).1=R→(∀x∈R,JaW x.2=true)∧R.length < 4611686018427387904:=fun {m st1} k hS {R} hk h=> by
      subst h
      have hp:=hS.2.2.1 k hk
      refine ⟨fun x hx=> ?_,by have:=hlen k hk;rw [hp.length_eq];omega⟩
      have hx:=hp.mem_iff.1 hx
      rcases Nat.lt_or_ge k 5 with h5 | h5
      ·rw [hE.2.1 k h5] at hx
       obtain ⟨e,_,rfl⟩:=List.mem_map.1 hx
       rfl
      ·obtain ⟨m',rfl⟩:∃m',k=5+m':=⟨k - 5,by omega⟩
       rw [hE.2.2 m' Om] at hx
       obtain ⟨e,_,rfl⟩:=List.mem_map.1 hx
       rfl
     refine stp ?_
     refine JcX (fun y:(Nat→JR)×Nat=> mk 131 [(4, .bp (2,nx+1) 0),(5,int 0),(6,int 0),(13, .bp (1,nx4+1) 0)] ⟨LpB nx nx4 p y.1, [],y.2,20⟩) (fun y=> LpS 5 st y.1) ?_ ?_
     ·refine Jy (fun y:Nat×(Nat→JR)×Nat=> mk 131 [(4, .bp (2,nx+1) 0),(5,int 0),(6,int 0),(13, .bp (1,nx4+1) 0),(112,int y.1)] ⟨LpB nx nx4 p y.2.1, [],y.2.2,20⟩) (fun y=> y.1≤5∧LpS (y.1) st y.2.1) (fun y=> 5 - y.1) ?_ ?_
      ·exact ⟨(0,st,nx5),⟨Nat.zero_le _,JwC hE.1⟩,Et rfl rfl Bf trivial ⟨Rf,Rf,Rf,Rf,Rf,trivial⟩⟩
      ·rintro ⟨a,st1,nx5⟩ ⟨ha,hS⟩
       dsimp only at ha hS
       rcases (by omega:a=0∨a=1∨a=2∨a=3∨a=4∨a=5) with rfl | rfl | rfl | rfl | rfl | rfl
       ·rcases hk:st1 0 with ⟨R,_ | ⟨s,cap,tl⟩⟩
        ·have hR:R= []:=by have:=hS.2.1 0 Dc;rw [hk] at this;exact this
         have hN0:(st1 0).1= []:=by rw [hk];exact hR
         have eo:Jo (Jr (Jc p).dflt) (Jc p).x32 st1= [u32 (Jr (Jc p).dflt:Nat),Jb (Jc p).x32, .os 0 0 (fun _=> .any) none,Ja 11 (st1 1),Ja 12 (st1 2),Ja 13 (st1 3),Ja 14 (st1 4),Ja 15 (st1 5),Ja 16 (st1 6)]:=by simp only [Jo,hk,Ja]
         refine AW.le (Et (n:=131) (nn:=20) (pm:= []) (bx:= [((2,nx+1),Own.c JW),((1,nx4+1), .c [u32 (Jr (Jc p).dflt:Nat),Jb (Jc p).x32, .os 0 0 (fun _=> .any) none,Ja 11 (st1 1),Ja 12 (st1 2),Ja 13 (st1 3),Ja 14 (st1 4),Ja 15 (st1 5),Ja 16 (st1 6)]),((0,nx4), .c [int (Jc p).dflt.1,int (Jc p).dflt.2,Jb (Jc p).x32,Ji (Jc p).rules])]++JB st1) (L:= [(4, .bp (2,nx+1) 0),(5,int 0),(6,int 0),(13, .bp (1,nx4+1) 0),(112,int (0:Nat))]) rfl rfl (Jcs eo) trivial ⟨Rf,Rf,Rf,Rf,Rf,trivial⟩) ?_
         refine stp ?_
         refine Jd rfl rfl (JdK 52) ⟨AVle.os_nil,Rf,trivial⟩ fun nx6=> ?_
         refine stp ?_
         exact back (1,st1,nx6) ⟨by dsimp only;omega,JdX Dc hS hN0⟩ Dm (Et (bx:=LpB nx nx4 p st1) rfl rfl (Jct eo.symm) trivial ⟨Rf,Rf,Rf,Rf,Jk rfl,trivial⟩)
        ·have eo:Jo (Jr (Jc p).dflt) (Jc p).x32 st1= [u32 (Jr (Jc p).dflt:Nat),Jb (Jc p).x32, .hs (10,s) 0 R.length cap,Ja 11 (st1 1),Ja 12 (st1 2),Ja 13 (st1 3),Ja 14 (st1 4),Ja 15 (st1 5),Ja 16 (st1 6)]:=by simp only [Jo,hk,Ja]
         refine AW.le (Jn (n:=131) (nn:=20) (pm:= []) (bx:=([((2,nx+1),Own.c JW),((1,nx4+1), .c [u32 (Jr (Jc p).dflt:Nat),Jb (Jc p).x32, .hs (10,s) 0 R.length cap,Ja 11 (st1 1),Ja 12 (st1 2),Ja 13 (st1 3),Ja 14 (st1 4),Ja 15 (st1 5),Ja 16 (st1 6)]),((0,nx4), .c [int (Jc p).dflt.1,int (Jc p).dflt.2,Jb (Jc p).x32,Ji (Jc p).rules])]++Jm 0 st1)++ [((10,s),Own.c (Jt R++tl))]) (L:= [(4, .bp (2,nx+1) 0),(5,int 0),(6,int 0),(13, .bp (1,nx4+1) 0),(112,int (0:Nat))]) _ _ [] rfl rfl (JeB (F:= [((2,nx+1),Own.c JW),((1,nx4+1), .c (Jo (Jr (Jc p).dflt) (Jc p).x32 st1)),((0,nx4), .c [int (Jc p).dflt.1,int (Jc p).dflt.2,Jb (Jc p).x32,Ji (Jc p).rules])]) (k:=0) Dc hk) Sf Sf (by rw [List.append_assoc,List.append_assoc];exact Jcs eo) trivial ⟨Rf,Rf,Rf,Rf,Rf,trivial⟩) ?_
         have hR:=hone 0 hS (R:=R) Dc (by rw [hk])
         refine stp ?_
         refine JS (xs:= [.hs (10,s) 0 R.length cap, .fn (.func 52) [] []]) ([((2,nx+1),Own.c JW),((1,nx4+1), .c [u32 (Jr (Jc p).dflt:Nat),Jb (Jc p).x32, .hs (10,s) 0 R.length cap,Ja 11 (st1 1),Ja 12 (st1 2),Ja 13 (st1 3),Ja 14 (st1 4),Ja 15 (st1 5),Ja 16 (st1 6)]),((0,nx4), .c [int (Jc p).dflt.1,int (Jc p).dflt.2,Jb (Jc p).x32,Ji (Jc p).rules])]++Jm 0 st1) [] 20 rfl rfl rfl rfl ⟨Rf,Rf,trivial⟩ (Jdm (D:=R) (tl:=tl) (nm:=10) (s:=s) (cap:=cap) (nx:=nx5) (nn:=20) hR.1 hR.2) Bf trivial rfl fun r h' hq=> ?_
         obtain ⟨rfl,cs',⟨D,hp1,hp2,rfl⟩,rfl⟩:=hq
         refine stp ?_
         exact back (1,Jx st1 0 (D,some (s,cap,tl)),nx5) ⟨by dsimp only;omega,JdY Dc hS hk hp1 hp2⟩ Dm (Jn (pm:= []) (bx:=LpB nx nx4 p (Jx st1 0 (D,some (s,cap,tl)))) (L:= [(4, .bp (2,nx+1) 0),(5,int 0),(6,int 0),(13, .bp (1,nx4+1) 0),(112,int (1:Nat))]) _ _ [] rfl rfl (JdZ (F:= [((2,nx+1),Own.c JW),((1,nx4+1), .c [u32 (Jr (Jc p).dflt:Nat),Jb (Jc p).x32, .hs (10,s) 0 R.length cap,Ja 11 (st1 1),Ja 12 (st1 2),Ja 13 (st1 3),Ja 14 (st1 4),Ja 15 (st1 5),Ja 16 (st1 6)]),((0,nx4), .c [int (Jc p).dflt.1,int (Jc p).dflt.2,Jb (Jc p).x32,Ji (Jc p).rules])]) (k:=0) Dc).symm Sf Sf (Jct (by rw [JeA (st:=st1) (k:=0) (by rw [hk];show AV.hs _ 0 D.length cap=AV.hs _ 0 R.length cap;rw [hp1.length_eq]),eo])) trivial ⟨Rf,Rf,Rf,Rf,Jk rfl,trivial⟩)
       ·rcases hk:st1 1 with ⟨R,_ | ⟨s,cap,tl⟩⟩
        ·have hR:R= []:=by have:=hS.2.1 1 Dc;rw [hk] at this;exact this
         have hN0:(st1 1).1= []:=by rw [hk];exact hR
         have eo:Jo (Jr (Jc p).dflt) (Jc p).x32 st1= [u32 (Jr (Jc p).dflt:Nat),Jb (Jc p).x32,Ja 10 (st1 0), .os 0 0 (fun _=> .any) none,Ja 12 (st1 2),Ja 13 (st1 3),Ja 14 (st1 4),Ja 15 (st1 5),Ja 16 (st1 6)]:=by simp only [Jo,hk,Ja]
         refine AW.le (Et (n:=131) (nn:=20) (pm:= []) (bx:= [((2,nx+1),Own.c JW),((1,nx4+1), .c [u32 (Jr (Jc p).dflt:Nat),Jb (Jc p).x32,Ja 10 (st1 0), .os 0 0 (fun _=> .any) none,Ja 12 (st1 2),Ja 13 (st1 3),Ja 14 (st1 4),Ja 15 (st1 5),Ja 16 (st1 6)]),((0,nx4), .c [int (Jc p).dflt.1,int (Jc p).dflt.2,Jb (Jc p).x32,Ji (Jc p).rules])]++JB st1) (L:= [(4, .bp (2,nx+1) 0),(5,int 0),(6,int 0),(13, .bp (1,nx4+1) 0),(112,int (1:Nat))]) rfl rfl (Jcs eo) trivial ⟨Rf,Rf,Rf,Rf,Rf,trivial⟩) ?_
         refine stp ?_
         refine Jd rfl rfl (JdK 52) ⟨AVle.os_nil,Rf,trivial⟩ fun nx6=> ?_
         refine stp ?_
         exact back (2,st1,nx6) ⟨by dsimp only;omega,JdX Dc hS hN0⟩ Dm (Et (bx:=LpB nx nx4 p st1) rfl rfl (Jct eo.symm) trivial ⟨Rf,Rf,Rf,Rf,Jk rfl,trivial⟩)
        ·have eo:Jo (Jr (Jc p).dflt) (Jc p).x32 st1= [u32 (Jr (Jc p).dflt:Nat),Jb (Jc p).x32,Ja 10 (st1 0), .hs (11,s) 0 R.length cap,Ja 12 (st1 2),Ja 13 (st1 3),Ja 14 (st1 4),Ja 15 (st1 5),Ja 16 (st1 6)]:=by simp only [Jo,hk,Ja]
         refine AW.le (Jn (n:=131) (nn:=20) (pm:= []) (bx:=([((2,nx+1),Own.c JW),((1,nx4+1), .c [u32 (Jr (Jc p).dflt:Nat),Jb (Jc p).x32,Ja 10 (st1 0), .hs (11,s) 0 R.length cap,Ja 12 (st1 2),Ja 13 (st1 3),Ja 14 (st1 4),Ja 15 (st1 5),Ja 16 (st1 6)]),((0,nx4), .c [int (Jc p).dflt.1,int (Jc p).dflt.2,Jb (Jc p).x32,Ji (Jc p).rules])]++Jm 1 st1)++ [((11,s),Own.c (Jt R++tl))]) (L:= [(4, .bp (2,nx+1) 0),(5,int 0),(6,int 0),(13, .bp (1,nx4+1) 0),(112,int (1:Nat))]) _ _ [] rfl rfl (JeB (F:= [((2,nx+1),Own.c JW),((1,nx4+1), .c (Jo (Jr (Jc p).dflt) (Jc p).x32 st1)),((0,nx4), .c [int (Jc p).dflt.1,int (Jc p).dflt.2,Jb (Jc p).x32,Ji (Jc p).rules])]) (k:=1) Dc hk) Sf Sf (by rw [List.append_assoc,List.append_assoc];exact Jcs eo) trivial ⟨Rf,Rf,Rf,Rf,Rf,trivial⟩) ?_
         have hR:=hone 1 hS (R:=R) Dc (by rw [hk])
         refine stp ?_
         refine JS (xs:= [.hs (11,s) 0 R.length cap, .fn (.func 52) [] []]) ([((2,nx+1),Own.c JW),((1,nx4+1), .c [u32 (Jr (Jc p).dflt:Nat),Jb (Jc p).x32,Ja 10 (st1 0), .hs (11,s) 0 R.length cap,Ja 12 (st1 2),Ja 13 (st1 3),Ja 14 (st1 4),Ja 15 (st1 5),Ja 16 (st1 6)]),((0,nx4), .c [int (Jc p).dflt.1,int (Jc p).dflt.2,Jb (Jc p).x32,Ji (Jc p).rules])]++Jm 1 st1) [] 20 rfl rfl rfl rfl ⟨Rf,Rf,trivial⟩ (Jdm (D:=R) (tl:=tl) (nm:=11) (s:=s) (cap:=cap) (nx:=nx5) (nn:=20) hR.1 hR.2) Bf trivial rfl fun r h' hq=> ?_
         obtain ⟨rfl,cs',⟨D,hp1,hp2,rfl⟩,rfl⟩:=hq
         refine stp ?_
         exact back (2,Jx st1 1 (D,some (s,cap,tl)),nx5) ⟨by dsimp only;omega,JdY Dc hS hk hp1 hp2⟩ Dm (Jn (pm:= []) (bx:=LpB nx nx4 p (Jx st1 1 (D,some (s,cap,tl)))) (L:= [(4, .bp (2,nx+1) 0),(5,int 0),(6,int 0),(13, .bp (1,nx4+1) 0),(112,int (2:Nat))]) _ _ [] rfl rfl (JdZ (F:= [((2,nx+1),Own.c JW),((1,nx4+1), .c [u32 (Jr (Jc p).dflt:Nat),Jb (Jc p).x32,Ja 10 (st1 0), .hs (11,s) 0 R.length cap,Ja 12 (st1 2),Ja 13 (st1 3),Ja 14 (st1 4),Ja 15 (st1 5),Ja 16 (st1 6)]),((0,nx4), .c [int (Jc p).dflt.1,int (Jc p).dflt.2,Jb (Jc p).x32,Ji (Jc p).rules])]) (k:=1) Dc).symm Sf Sf (Jct (by rw [JeA (st:=st1) (k:=1) (by rw [hk];show AV.hs _ 0 D.length cap=AV.hs _ 0 R.length cap;rw [hp1.length_eq]),eo])) trivial ⟨Rf,Rf,Rf,Rf,Jk rfl,trivial⟩)
       ·rcases hk:st1 2 with ⟨R,_ | ⟨s,cap,tl⟩⟩
        ·have hR:R= []:=by have:=hS.2.1 2 Dc;rw [hk] at this;exact this
         have hN0:(st1 2).1= []:=by rw [hk];exact hR
         have eo:Jo (Jr (Jc p).dflt) (Jc p).x32 st1= [u32 (Jr (Jc p).dflt:Nat),Jb (Jc p).x32,Ja 10 (st1 0),Ja 11 (st1 1), .os 0 0 (fun _=> .any) none,Ja 13 (st1 3),Ja 14 (st1 4),Ja 15 (st1 5),Ja 16 (st1 6)]:=by simp only [Jo,hk,Ja]
         refine AW.le (Et (n:=131) (nn:=20) (pm:= []) (bx:= [((2,nx+1),Own.c JW),((1,nx4+1), .c [u32 (Jr (Jc p).dflt:Nat),Jb (Jc p).x32,Ja 10 (st1 0),Ja 11 (st1 1), .os 0 0 (fun _=> .any) none,Ja 13 (st1 3),Ja 14 (st1 4),Ja 15 (st1 5),Ja 16 (st1 6)]),((0,nx4), .c [int (Jc p).dflt.1,int (Jc p).dflt.2,Jb (Jc p).x32,Ji (Jc p).rules])]++JB st1) (L:= [(4, .bp (2,nx+1) 0),(5,int 0),(6,int 0),(13, .bp (1,nx4+1) 0),(112,int (2:Nat))]) rfl rfl (Jcs eo) trivial ⟨Rf,Rf,Rf,Rf,Rf,trivial⟩) ?_
         refine stp ?_
         refine Jd rfl rfl (JdK 52) ⟨AVle.os_nil,Rf,trivial⟩ fun nx6=> ?_
         refine stp ?_
         exact back (3,st1,nx6) ⟨by dsimp only;omega,JdX Dc hS hN0⟩ Dm (Et (bx:=LpB nx nx4 p st1) rfl rfl (Jct eo.symm) trivial ⟨Rf,Rf,Rf,Rf,Jk rfl,trivial⟩)
        ·have eo:Jo (Jr (Jc p).dflt) (Jc p).x32 st1= [u32 (Jr (Jc p).dflt:Nat),Jb (Jc p).x32,Ja 10 (st1 0),Ja 11 (st1 1), .hs (12,s) 0 R.length cap,Ja 13 (st1 3),Ja 14 (st1 4),Ja 15 (st1 5),Ja 16 (st1 6)]:=by simp only [Jo,hk,Ja]
         refine AW.le (Jn (n:=131) (nn:=20) (pm:= []) (bx:=([((2,nx+1),Own.c JW),((1,nx4+1), .c [u32 (Jr (Jc p).dflt:Nat),Jb (Jc p).x32,Ja 10 (st1 0),Ja 11 (st1 1), .hs (12,s) 0 R.length cap,Ja 13 (st1 3),Ja 14 (st1 4),Ja 15 (st1 5),Ja 16 (st1 6)]),((0,nx4), .c [int (Jc p).dflt.1,int (Jc p).dflt.2,Jb (Jc p).x32,Ji (Jc p).rules])]++Jm 2 st1)++ [((12,s),Own.c (Jt R++tl))]) (L:= [(4, .bp (2,nx+1) 0),(5,int 0),(6,int 0),(13, .bp (1,nx4+1) 0),(112,int (2:Nat))]) _ _ [] rfl rfl (JeB (F:= [((2,nx+1),Own.c JW),((1,nx4+1), .c (Jo (Jr (Jc p).dflt) (Jc p).x32 st1)),((0,nx4), .c [int (Jc p).dflt.1,int (Jc p).dflt.2,Jb (Jc p).x32,Ji (Jc p).rules])]) (k:=2) Dc hk) Sf Sf (by rw [List.append_assoc,List.append_assoc];exact Jcs eo) trivial ⟨Rf,Rf,Rf,Rf,Rf,trivial⟩) ?_
         have hR:=hone 2 hS (R:=R) Dc (by rw [hk])
         refine stp ?_
         refine JS (xs:= [.hs (12,s) 0 R.length cap, .fn (.func 52) [] []]) ([((2,nx+1),Own.c JW),((1,nx4+1), .c [u32 (Jr (Jc p).dflt:Nat),Jb (Jc p).x32,Ja 10 (st1 0),Ja 11 (st1 1), .hs (12,s) 0 R.length cap,Ja 13 (st1 3),Ja 14 (st1 4),Ja 15 (st1 5),Ja 16 (st1 6)]),((0,nx4), .c [int (Jc p).dflt.1,int (Jc p).dflt.2,Jb (Jc p).x32,Ji (Jc p).rules])]++Jm 2 st1) [] 20 rfl rfl rfl rfl ⟨Rf,Rf,trivial⟩ (Jdm (D:=R) (tl:=tl) (nm:=12) (s:=s) (cap:=cap) (nx:=nx5) (nn:=20) hR.1 hR.2) Bf trivial rfl fun r h' hq=> ?_
         obtain ⟨rfl,cs',⟨D,hp1,hp2,rfl⟩,rfl⟩:=hq
         refine stp ?_
         exact back (3,Jx st1 2 (D,some (s,cap,tl)),nx5) ⟨by dsimp only;omega,JdY Dc hS hk hp1 hp2⟩ Dm (Jn (pm:= []) (bx:=LpB nx nx4 p (Jx st1 2 (D,some (s,cap,tl)))) (L:= [(4, .bp (2,nx+1) 0),(5,int 0),(6,int 0),(13, .bp (1,nx4+1) 0),(112,int (3:Nat))]) _ _ [] rfl rfl (JdZ (F:= [((2,nx+1),Own.c JW),((1,nx4+1), .c [u32 (Jr (Jc p).dflt:Nat),Jb (Jc p).x32,Ja 10 (st1 0),Ja 11 (st1 1), .hs (12,s) 0 R.length cap,Ja 13 (st1 3),Ja 14 (st1 4),Ja 15 (st1 5),Ja 16 (st1 6)]),((0,nx4), .c [int (Jc p).dflt.1,int (Jc p).dflt.2,Jb (Jc p).x32,Ji (Jc p).rules])]) (k:=2) Dc).symm Sf Sf (Jct (by rw [JeA (st:=st1) (k:=2) (by rw [hk];show AV.hs _ 0 D.length cap=AV.hs _ 0 R.length cap;rw [hp1.length_eq]),eo])) trivial ⟨Rf,Rf,Rf,Rf,Jk rfl,trivial⟩)
       ·rcases hk:st1 3 with ⟨R,_ | ⟨s,cap,tl⟩⟩
        ·have hR:R= []:=by have:=hS.2.1 3 Dc;rw [hk] at this;exact this
         have hN0:(st1 3).1= []:=by rw [hk];exact hR
         have eo:Jo (Jr (Jc p).dflt) (Jc p).x32 st1= [u32 (Jr (Jc p).dflt:Nat),Jb (Jc p).x32,Ja 10 (st1 0),Ja 11 (st1 1),Ja 12 (st1 2), .os 0 0 (fun _=> .any) none,Ja 14 (st1 4),Ja 15 (st1 5),Ja 16 (st1 6)]:=by simp only [Jo,hk,Ja]
         refine AW.le (Et (n:=131) (nn:=20) (pm:= []) (bx:= [((2,nx+1),Own.c JW),((1,nx4+1), .c [u32 (Jr (Jc p).dflt:Nat),Jb (Jc p).x32,Ja 10 (st1 0),Ja 11 (st1 1),Ja 12 (st1 2), .os 0 0 (fun _=> .any) none,Ja 14 (st1 4),Ja 15 (st1 5),Ja 16 (st1 6)]),((0,nx4), .c [int (Jc p).dflt.1,int (Jc p).dflt.2,Jb (Jc p).x32,Ji (Jc p).rules])]++JB st1) (L:= [(4, .bp (2,nx+1) 0),(5,int 0),(6,int 0),(13, .bp (1,nx4+1) 0),(112,int (3:Nat))]) rfl rfl (Jcs eo) trivial ⟨Rf,Rf,Rf,Rf,Rf,trivial⟩) ?_
         refine stp ?_
         refine Jd rfl rfl (JdK 52) ⟨AVle.os_nil,Rf,trivial⟩ fun nx6=> ?_
         refine stp ?_
         exact back (4,st1,nx6) ⟨by dsimp only;omega,JdX Dc hS hN0⟩ Dm (Et (bx:=LpB nx nx4 p st1) rfl rfl (Jct eo.symm) trivial ⟨Rf,Rf,Rf,Rf,Jk rfl,trivial⟩)
        ·have eo:Jo (Jr (Jc p).dflt) (Jc p).x32 st1= [u32 (Jr (Jc p).dflt:Nat),Jb (Jc p).x32,Ja 10 (st1 0),Ja 11 (st1 1),Ja 12 (st1 2), .hs (13,s) 0 R.length cap,Ja 14 (st1 4),Ja 15 (st1 5),Ja 16 (st1 6)]:=by simp only [Jo,hk,Ja]
         refine AW.le (Jn (n:=131) (nn:=20) (pm:= []) (bx:=([((2,nx+1),Own.c JW),((1,nx4+1), .c [u32 (Jr (Jc p).dflt:Nat),Jb (Jc p).x32,Ja 10 (st1 0),Ja 11 (st1 1),Ja 12 (st1 2), .hs (13,s) 0 R.length cap,Ja 14 (st1 4),Ja 15 (st1 5),Ja 16 (st1 6)]),((0,nx4), .c [int (Jc p).dflt.1,int (Jc p).dflt.2,Jb (Jc p).x32,Ji (Jc p).rules])]++Jm 3 st1)++ [((13,s),Own.c (Jt R++tl))]) (L:= [(4, .bp (2,nx+1) 0),(5,int 0),(6,int 0),(13, .bp (1,nx4+1) 0),(112,int (3:Nat))]) _ _ [] rfl rfl (JeB (F:= [((2,nx+1),Own.c JW),((1,nx4+1), .c (Jo (Jr (Jc p).dflt) (Jc p).x32 st1)),((0,nx4), .c [int (Jc p).dflt.1,int (Jc p).dflt.2,Jb (Jc p).x32,Ji (Jc p).rules])]) (k:=3) Dc hk) Sf Sf (by rw [List.append_assoc,List.append_assoc];exact Jcs eo) trivial ⟨Rf,Rf,Rf,Rf,Rf,trivial⟩) ?_
         have hR:=hone 3 hS (R:=R) Dc (by rw [hk])
         refine stp ?_
         refine JS (xs:= [.hs (13,s) 0 R.length cap, .fn (.func 52) [] []]) ([((2,nx+1),Own.c JW),((1,nx4+1), .c [u32 (Jr (Jc p).dflt:Nat),Jb (Jc p).x32,Ja 10 (st1 0),Ja 11 (st1 1),Ja 12 (st1 2), .hs (13,s) 0 R.length cap,Ja 14 (st1 4),Ja 15 (st1 5),Ja 16 (st1 6)]),((0,nx4), .c [int (Jc p).dflt.1,int (Jc p).dflt.2,Jb (Jc p).x32,Ji (Jc p).rules])]++Jm 3 st1) [] 20 rfl rfl rfl rfl ⟨Rf,Rf,trivial⟩ (Jdm (D:=R) (tl:=tl) (nm:=13) (s:=s) (cap:=cap) (nx:=nx5) (nn:=20) hR.1 hR.2) Bf trivial rfl fun r h' hq=> ?_
         obtain ⟨rfl,cs',⟨D,hp1,hp2,rfl⟩,rfl⟩:=hq
         refine stp ?_
         exact back (4,Jx st1 3 (D,some (s,cap,tl)),nx5) ⟨by dsimp only;omega,JdY Dc hS hk hp1 hp2⟩ Dm (Jn (pm:= []) (bx:=LpB nx nx4 p (Jx st1 3 (D,some (s,cap,tl)))) (L:= [(4, .bp (2,nx+1) 0),(5,int 0),(6,int 0),(13, .bp (1,nx4+1) 0),(112,int (4:Nat))]) _ _ [] rfl rfl (JdZ (F:= [((2,nx+1),Own.c JW),((1,nx4+1), .c [u32 (Jr (Jc p).dflt:Nat),Jb (Jc p).x32,Ja 10 (st1 0),Ja 11 (st1 1),Ja 12 (st1 2), .hs (13,s) 0 R.length cap,Ja 14 (st1 4),Ja 15 (st1 5),Ja 16 (st1 6)]),((0,nx4), .c [int (Jc p).dflt.1,int (Jc p).dflt.2,Jb (Jc p).x32,Ji (Jc p).rules])]) (k:=3) Dc).symm Sf Sf (Jct (by rw [JeA (st:=st1) (k:=3) (by rw [hk];show AV.hs _ 0 D.length cap=AV.hs _ 0 R.length cap;rw [hp1.length_eq]),eo])) trivial ⟨Rf,Rf,Rf,Rf,Jk rfl,trivial⟩)
       ·rcases hk:st1 4 with ⟨R,_ | ⟨s,cap,tl⟩⟩
        ·have hR:R= []:=by have:=hS.2.1 4 Dc;rw [hk] at this;exact this
         have hN0:(st1 4).1= []:=by rw [hk];exact hR
         have eo:Jo (Jr (Jc p).dflt) (Jc p).x32 st1= [u32 (Jr (Jc p).dflt:Nat),Jb (Jc p).x32,Ja 10 (st1 0),Ja 11 (st1 1),Ja 12 (st1 2),Ja 13 (st1 3), .os 0 0 (fun _=> .any) none,Ja 15 (st1 5),Ja 16 (st1 6)]:=by simp only [Jo,hk,Ja]
         refine AW.le (Et (n:=131) (nn:=20) (pm:= []) (bx:= [((2,nx+1),Own.c JW),((1,nx4+1), .c [u32 (Jr (Jc p).dflt:Nat),Jb (Jc p).x32,Ja 10 (st1 0),Ja 11 (st1 1),Ja 12 (st1 2),Ja 13 (st1 3), .os 0 0 (fun _=> .any) none,Ja 15 (st1 5),Ja 16 (st1 6)]),((0,nx4), .c [int (Jc p).dflt.1,int (Jc p).dflt.2,Jb (Jc p).x32,Ji (Jc p).rules])]++JB st1) (L:= [(4, .bp (2,nx+1) 0),(5,int 0),(6,int 0),(13, .bp (1,nx4+1) 0),(112,int (4:Nat))]) rfl rfl (Jcs eo) trivial ⟨Rf,Rf,Rf,Rf,Rf,trivial⟩) ?_
         refine stp ?_
         refine Jd rfl rfl (JdK 52) ⟨AVle.os_nil,Rf,trivial⟩ fun nx6=> ?_
         refine stp ?_
         exact back (5,st1,nx6) ⟨by dsimp only;omega,JdX Dc hS hN0⟩ Dm (Et (bx:=LpB nx nx4 p st1) rfl rfl (Jct eo.symm) trivial ⟨Rf,Rf,Rf,Rf,Jk rfl,trivial⟩)
        ·have eo:Jo (Jr (Jc p).dflt) (Jc p).x32 st1= [u32 (Jr (Jc p).dflt:Nat),Jb (Jc p).x32,Ja 10 (st1 0),Ja 11 (st1 1),Ja 12 (st1 2),Ja 13 (st1 3), .hs (14,s) 0 R.length cap,Ja 15 (st1 5),Ja 16 (st1 6)]:=by simp only [Jo,hk,Ja]
         refine AW.le (Jn (n:=131) (nn:=20) (pm:= []) (bx:=([((2,nx+1),Own.c JW),((1,nx4+1), .c [u32 (Jr (Jc p).dflt:Nat),Jb (Jc p).x32,Ja 10 (st1 0),Ja 11 (st1 1),Ja 12 (st1 2),Ja 13 (st1 3), .hs (14,s) 0 R.length cap,Ja 15 (st1 5),Ja 16 (st1 6)]),((0,nx4), .c [int (Jc p).dflt.1,int (Jc p).dflt.2,Jb (Jc p).x32,Ji (Jc p).rules])]++Jm 4 st1)++ [((14,s),Own.c (Jt R++tl))]) (L:= [(4, .bp (2,nx+1) 0),(5,int 0),(6,int 0),(13, .bp (1,nx4+1) 0),(112,int (4:Nat))]) _ _ [] rfl rfl (JeB (F:= [((2,nx+1),Own.c JW),((1,nx4+1), .c (Jo (Jr (Jc p).dflt) (Jc p).x32 st1)),((0,nx4), .c [int (Jc p).dflt.1,int (Jc p).dflt.2,Jb (Jc p).x32,Ji (Jc p).rules])]) (k:=4) Dc hk) Sf Sf (by rw [List.append_assoc,List.append_assoc];exact Jcs eo) trivial ⟨Rf,Rf,Rf,Rf,Rf,trivial⟩) ?_
         have hR:=hone 4 hS (R:=R) Dc (by rw [hk])
         refine stp ?_
         refine JS (xs:= [.hs (14,s) 0 R.length cap, .fn (.func 52) [] []]) ([((2,nx+1),Own.c JW),((1,nx4+1), .c [u32 (Jr (Jc p).dflt:Nat),Jb (Jc p).x32,Ja 10 (st1 0),Ja 11 (st1 1),Ja 12 (st1 2),Ja 13 (st1 3), .hs (14,s) 0 R.length cap,Ja 15 (st1 5),Ja 16 (st1 6)]),((0,nx4), .c [int (Jc p).dflt.1,int (Jc p).dflt.2,Jb (Jc p).x32,Ji (Jc p).rules])]++Jm 4 st1) [] 20 rfl rfl rfl rfl ⟨Rf,Rf,trivial⟩ (Jdm (D:=R) (tl:=tl) (nm:=14) (s:=s) (cap:=cap) (nx:=nx5) (nn:=20) hR.1 hR.2) Bf trivial rfl fun r h' hq=> ?_
         obtain ⟨rfl,cs',⟨D,hp1,hp2,rfl⟩,rfl⟩:=hq
         refine stp ?_
         exact back (5,Jx st1 4 (D,some (s,cap,tl)),nx5) ⟨by dsimp only;omega,JdY Dc hS hk hp1 hp2⟩ Dm (Jn (pm:= []) (bx:=LpB nx nx4 p (Jx st1 4 (D,some (s,cap,tl)))) (L:= [(4, .bp (2,nx+1) 0),(5,int 0),(6,int 0),(13, .bp (1,nx4+1) 0),(112,int (5:Nat))]) _ _ [] rfl rfl (JdZ (F:= [((2,nx+1),Own.c JW),((1,nx4+1), .c [u32 (Jr (Jc p).dflt:Nat),Jb (Jc p).x32,Ja 10 (st1 0),Ja 11 (st1 1),Ja 12 (st1 2),Ja 13 (st1 3), .hs (14,s) 0 R.length cap,Ja 15 (st1 5),Ja 16 (st1 6)]),((0,nx4), .c [int (Jc p).dflt.1,int (Jc p).dflt.2,Jb (Jc p).x32,Ji (Jc p).rules])]) (k:=4) Dc).symm Sf Sf (Jct (by rw [JeA (st:=st1) (k:=4) (by rw [hk];show AV.hs _ 0 D.length cap=AV.hs _ 0 R.length cap;rw [hp1.length_eq]),eo])) trivial ⟨Rf,Rf,Rf,Rf,Jk rfl,trivial⟩)
       ·refine stp ?_
        exact ⟨(st1,nx5),hS,Et rfl rfl Bf trivial ⟨Rf,Rf,Rf,Rf,trivial⟩⟩
     rintro ⟨st0,nx5⟩ hS0
     dsimp only at hS0
     refine stp ?_
     refine JcX (fun y:(Nat→JR)×Nat=> mk 131 [(4, .bp (2,nx+1) 0),(5,int 0),(6,int 0),(13, .bp (1,nx4+1) 0)] ⟨LpB nx nx4 p y.1, [],y.2,20⟩) (fun y=> LpS 7 st y.1) ?_ ?_
     ·refine Jy (fun y:Nat×(Nat→JR)×Nat=> mk 131 [(4, .bp (2,nx+1) 0),(5,int 0),(6,int 0),(13, .bp (1,nx4+1) 0),(121,int y.1)] ⟨LpB nx nx4 p y.2.1, [],y.2.2,20⟩) (fun y=> y.1≤2∧LpS (5+y.1) st y.2.1) (fun y=> 2 - y.1) ?_ ?_
      ·exact ⟨(0,st0,nx5),⟨Nat.zero_le _,hS0⟩,Et rfl rfl Bf trivial ⟨Rf,Rf,Rf,Rf,Rf,trivial⟩⟩
      ·rintro ⟨a,st1,nx5⟩ ⟨ha,hS⟩
       dsimp only at ha hS
       rcases (by omega:a=0∨a=1∨a=2) with rfl | rfl | rfl
       ·rcases hk:st1 5 with ⟨R,_ | ⟨s,cap,tl⟩⟩
        ·have hR:R= []:=by have:=hS.2.1 5 Dc;rw [hk] at this;exact this
         have hN0:(st1 5).1= []:=by rw [hk];exact hR
         have eo:Jo (Jr (Jc p).dflt) (Jc p).x32 st1= [u32 (Jr (Jc p).dflt:Nat),Jb (Jc p).x32,Ja 10 (st1 0),Ja 11 (st1 1),Ja 12 (st1 2),Ja 13 (st1 3),Ja 14 (st1 4), .os 0 0 (fun _=> .any) none,Ja 16 (st1 6)]:=by simp only [Jo,hk,Ja]
         refine AW.le (Et (n:=131) (nn:=20) (pm:= []) (bx:= [((2,nx+1),Own.c JW),((1,nx4+1), .c [u32 (Jr (Jc p).dflt:Nat),Jb (Jc p).x32,Ja 10 (st1 0),Ja 11 (st1 1),Ja 12 (st1 2),Ja 13 (st1 3),Ja 14 (st1 4), .os 0 0 (fun _=> .any) none,Ja 16 (st1 6)]),((0,nx4), .c [int (Jc p).dflt.1,int (Jc p).dflt.2,Jb (Jc p).x32,Ji (Jc p).rules])]++JB st1) (L:= [(4, .bp (2,nx+1) 0),(5,int 0),(6,int 0),(13, .bp (1,nx4+1) 0),(121,int (0:Nat))]) rfl rfl (Jcs eo) trivial ⟨Rf,Rf,Rf,Rf,Rf,trivial⟩) ?_
         refine stp ?_
         refine Jd rfl rfl (JiG 55) ⟨AVle.os_nil,Rf,trivial⟩ fun nx6=> ?_
         refine stp ?_
         exact back (1,st1,nx6) ⟨by dsimp only;omega,JdX Dc hS hN0⟩ Dm (Et (bx:=LpB nx nx4 p st1) rfl rfl (Jct eo.symm) trivial ⟨Rf,Rf,Rf,Rf,Jk rfl,trivial⟩)
        ·have eo:Jo (Jr (Jc p).dflt) (Jc p).x32 st1= [u32 (Jr (Jc p).dflt:Nat),Jb (Jc p).x32,Ja 10 (st1 0),Ja 11 (st1 1),Ja 12 (st1 2),Ja 13 (st1 3),Ja 14 (st1 4), .hs (15,s) 0 R.length cap,Ja 16 (st1 6)]:=by simp only [Jo,hk,Ja]
         refine AW.le (Jn (n:=131) (nn:=20) (pm:= []) (bx:=([((2,nx+1),Own.c JW),((1,nx4+1), .c [u32 (Jr (Jc p).dflt:Nat),Jb (Jc p).x32,Ja 10 (st1 0),Ja 11 (st1 1),Ja 12 (st1 2),Ja 13 (st1 3),Ja 14 (st1 4), .hs (15,s) 0 R.length cap,Ja 16 (st1 6)]),((0,nx4), .c [int (Jc p).dflt.1,int (Jc p).dflt.2,Jb (Jc p).x32,Ji (Jc p).rules])]++Jm 5 st1)++ [((15,s),Own.c (Jt R++tl))]) (L:= [(4, .bp (2,nx+1) 0),(5,int 0),(6,int 0),(13, .bp (1,nx4+1) 0),(121,int (0:Nat))]) _ _ [] rfl rfl (JeB (F:= [((2,nx+1),Own.c JW),((1,nx4+1), .c (Jo (Jr (Jc p).dflt) (Jc p).x32 st1)),((0,nx4), .c [int (Jc p).dflt.1,int (Jc p).dflt.2,Jb (Jc p).x32,Ji (Jc p).rules])]) (k:=5) Dc hk) Sf Sf (by rw [List.append_assoc,List.append_assoc];exact Jcs eo) trivial ⟨Rf,Rf,Rf,Rf,Rf,trivial⟩) ?_
         have hR:=hone 5 hS (R:=R) Dc (by rw [hk])
         refine stp ?_
         refine JS (xs:= [.hs (15,s) 0 R.length cap, .fn (.func 55) [] []]) ([((2,nx+1),Own.c JW),((1,nx4+1), .c [u32 (Jr (Jc p).dflt:Nat),Jb (Jc p).x32,Ja 10 (st1 0),Ja 11 (st1 1),Ja 12 (st1 2),Ja 13 (st1 3),Ja 14 (st1 4), .hs (15,s) 0 R.length cap,Ja 16 (st1 6)]),((0,nx4), .c [int (Jc p).dflt.1,int (Jc p).dflt.2,Jb (Jc p).x32,Ji (Jc p).rules])]++Jm 5 st1) [] 20 rfl rfl rfl rfl ⟨Rf,Rf,trivial⟩ (Jhy (D:=R) (tl:=tl) (nm:=15) (s:=s) (cap:=cap) (nx:=nx5) (nn:=20) hR.1 hR.2) Bf trivial rfl fun r h' hq=> ?_
         obtain ⟨rfl,cs',⟨D,hp1,hp2,rfl⟩,rfl⟩:=hq
         refine stp ?_
         exact back (1,Jx st1 5 (D,some (s,cap,tl)),nx5) ⟨by dsimp only;omega,JdY Dc hS hk hp1 hp2⟩ Dm (Jn (pm:= []) (bx:=LpB nx nx4 p (Jx st1 5 (D,some (s,cap,tl)))) (L:= [(4, .bp (2,nx+1) 0),(5,int 0),(6,int 0),(13, .bp (1,nx4+1) 0),(121,int (1:Nat))]) _ _ [] rfl rfl (JdZ (F:= [((2,nx+1),Own.c JW),((1,nx4+1), .c [u32 (Jr (Jc p).dflt:Nat),Jb (Jc p).x32,Ja 10 (st1 0),Ja 11 (st1 1),Ja 12 (st1 2),Ja 13 (st1 3),Ja 14 (st1 4), .hs (15,s) 0 R.length cap,Ja 16 (st1 6)]),((0,nx4), .c [int (Jc p).dflt.1,int (Jc p).dflt.2,Jb (Jc p).x32,Ji (Jc p).rules])]) (k:=5) Dc).symm Sf Sf (Jct (by rw [JeA (st:=st1) (k:=5) (by rw [hk];show AV.hs _ 0 D.length cap=AV.hs _ 0 R.length cap;rw [hp1.length_eq]),eo])) trivial ⟨Rf,Rf,Rf,Rf,Jk rfl,trivial⟩)
       ·rcases hk:st1 6 with ⟨R,_ | ⟨s,cap,tl⟩⟩
        ·have hR:R= []:=by have:=hS.2.1 6 Dc;rw [hk] at this;exact this
         have hN0:(st1 6).1= []:=by rw [hk];exact hR
         have eo:Jo (Jr (Jc p).dflt) (Jc p).x32 st1= [u32 (Jr (Jc p).dflt:Nat),Jb (Jc p).x32,Ja 10 (st1 0),Ja 11 (st1 1),Ja 12 (st1 2),Ja 13 (st1 3),Ja 14 (st1 4),Ja 15 (st1 5), .os 0 0 (fun _=> .any) none]:=by simp only [Jo,hk,Ja]
         refine AW.le (Et (n:=131) (nn:=20) (pm:= []) (bx:= [((2,nx+1),Own.c JW),((1,nx4+1), .c [u32 (Jr (Jc p).dflt:Nat),Jb (Jc p).x32,Ja 10 (st1 0),Ja 11 (st1 1),Ja 12 (st1 2),Ja 13 (st1 3),Ja 14 (st1 4),Ja 15 (st1 5), .os 0 0 (fun _=> .any) none]),((0,nx4), .c [int (Jc p).dflt.1,int (Jc p).dflt.2,Jb (Jc p).x32,Ji (Jc p).rules])]++JB st1) (L:= [(4, .bp (2,nx+1) 0),(5,int 0),(6,int 0),(13, .bp (1,nx4+1) 0),(121,int (1:Nat))]) rfl rfl (Jcs eo) trivial ⟨Rf,Rf,Rf,Rf,Rf,trivial⟩) ?_
         refine stp ?_
         refine Jd rfl rfl (JiG 55) ⟨AVle.os_nil,Rf,trivial⟩ fun nx6=> ?_
         refine stp ?_
         exact back (2,st1,nx6) ⟨by dsimp only;omega,JdX Dc hS hN0⟩ Dm (Et (bx:=LpB nx nx4 p st1) rfl rfl (Jct eo.symm) trivial ⟨Rf,Rf,Rf,Rf,Jk rfl,trivial⟩)
        ·have eo:Jo (Jr (Jc p).dflt) (Jc p).x32 st1= [u32 (Jr (Jc p).dflt:Nat),Jb (Jc p).x32,Ja 10 (st1 0),Ja 11 (st1 1),Ja 12 (st1 2),Ja 13 (st1 3),Ja 14 (st1 4),Ja 15 (st1 5), .hs (16,s) 0 R.length cap]:=by simp only [Jo,hk,Ja]
         refine AW.le (Jn (n:=131) (nn:=20) (pm:= []) (bx:=([((2,nx+1),Own.c JW),((1,nx4+1), .c [u32 (Jr (Jc p).dflt:Nat),Jb (Jc p).x32,Ja 10 (st1 0),Ja 11 (st1 1),Ja 12 (st1 2),Ja 13 (st1 3),Ja 14 (st1 4),Ja 15 (st1 5), .hs (16,s) 0 R.length cap]),((0,nx4), .c [int (Jc p).dflt.1,int (Jc p).dflt.2,Jb (Jc p).x32,Ji (Jc p).rules])]++Jm 6 st1)++ [((16,s),Own.c (Jt R++tl))]) (L:= [(4, .bp (2,nx+1) 0),(5,int 0),(6,int 0),(13, .bp (1,nx4+1) 0),(121,int (1:Nat))]) _ _ [] rfl rfl (JeB (F:= [((2,nx+1),Own.c JW),((1,nx4+1), .c (Jo (Jr (Jc p).dflt) (Jc p).x32 st1)),((0,nx4), .c [int (Jc p).dflt.1,int (Jc p).dflt.2,Jb (Jc p).x32,Ji (Jc p).rules])]) (k:=6) Dc hk) Sf Sf (by rw [List.append_assoc,List.append_assoc];exact Jcs eo) trivial ⟨Rf,Rf,Rf,Rf,Rf,trivial⟩) ?_
         have hR:=hone 6 hS (R:=R) Dc (by rw [hk])
         refine stp ?_
         refine JS (xs:= [.hs (16,s) 0 R.length cap, .fn (.func 55) [] []]) ([((2,nx+1),Own.c JW),((1,nx4+1), .c [u32 (Jr (Jc p).dflt:Nat),Jb (Jc p).x32,Ja 10 (st1 0),Ja 11 (st1 1),Ja 12 (st1 2),Ja 13 (st1 3),Ja 14 (st1 4),Ja 15 (st1 5), .hs (16,s) 0 R.length cap]),((0,nx4), .c [int (Jc p).dflt.1,int (Jc p).dflt.2,Jb (Jc p).x32,Ji (Jc p).rules])]++Jm 6 st1) [] 20 rfl rfl rfl rfl ⟨Rf,Rf,trivial⟩ (Jhy (D:=R) (tl:=tl) (nm:=16) (s:=s) (cap:=cap) (nx:=nx5) (nn:=20) hR.1 hR.2) Bf trivial rfl fun r h' hq=> ?_
         obtain ⟨rfl,cs',⟨D,hp1,hp2,rfl⟩,rfl⟩:=hq
         refine stp ?_
         exact back (2,Jx st1 6 (D,some (s,cap,tl)),nx5) ⟨by dsimp only;omega,JdY Dc hS hk hp1 hp2⟩ Dm (Jn (pm:= []) (bx:=LpB nx nx4 p (Jx st1 6 (D,some (s,cap,tl)))) (L:= [(4, .bp (2,nx+1) 0),(5,int 0),(6,int 0),(13, .bp (1,nx4+1) 0),(121,int (2:Nat))]) _ _ [] rfl rfl (JdZ (F:= [((2,nx+1),Own.c JW),((1,nx4+1), .c [u32 (Jr (Jc p).dflt:Nat),Jb (Jc p).x32,Ja 10 (st1 0),Ja 11 (st1 1),Ja 12 (st1 2),Ja 13 (st1 3),Ja 14 (st1 4),Ja 15 (st1 5), .hs (16,s) 0 R.length cap]),((0,nx4), .c [int (Jc p).dflt.1,int (Jc p).dflt.2,Jb (Jc p).x32,Ji (Jc p).rules])]) (k:=6) Dc).symm Sf Sf (Jct (by rw [JeA (st:=st1) (k:=6) (by rw [hk];show AV.hs _ 0 D.length cap=AV.hs _ 0 R.length cap;rw [hp1.length_eq]),eo])) trivial ⟨Rf,Rf,Rf,Rf,Jk rfl,trivial⟩)
       ·refine stp ?_
        exact ⟨(st1,nx5),hS,Et rfl rfl Bf trivial ⟨Rf,Rf,Rf,Rf,trivial⟩⟩
     rintro ⟨st2,nx5⟩ hS
     dsimp only at hS
     have hr:∀k,k < 5→(st2 k).1=((JV p l).ents k).map Jdn:=fun k hk=> Jsd hv hk Jdn (fun _=> rfl) (by rw [← hE.2.1 k hk];exact hS.2.2.1 k Om) (hS.2.2.2 k Om)
     have hr2:∀m,m < 2→(st2 (5+m)).1=((JV p l).subs m).map J9:=fun m hm=> Jse hv J9 (fun _=> rfl) (by rw [← hE.2.2 m hm];exact hS.2.2.1 (5+m) Om) (hS.2.2.2 (5+m) Om)
     have ho:=hS.2.1
     refine JbC (n:=131) (nx:=nx5) (nn:=20) (pm:= []) (bx:= [((2,nx+1), .c JW)]) (df:=some []) (L:= [(4, .bp (2,nx+1) 0),(5,int 0),(6,int 0),(13, .rp [u32 (Jr (Jc p).dflt:Nat),Jb (Jc p).x32,JF 2 Jai ent0 ((JV p l).ents 0),JF 2 Jai ent0 ((JV p l).ents 1),JF 2 Jai ent0 ((JV p l).ents 2),JF 2 Jai ent0 ((JV p l).ents 3),JF 2 Jai ent0 ((JV p l).ents 4),JF 2 Je9 sub0 ((JV p l).subs 0),JF 2 Je9 sub0 ((JV p l).subs 1)])]) ([((1,nx4+1),Own.c (Jo (Jr (Jc p).dflt) (Jc p).x32 st2)),((0,nx4),Own.c [int (Jc p).dflt.1,int (Jc p).dflt.2,Jb (Jc p).x32,Ji (Jc p).rules])]++JB st2) rfl rfl rfl JtW Sf ⟨Frz.refl _,Frz.refl _,Frz.refl _,Frz.bpL (cs:=Jo (Jr (Jc p).dflt) (Jc p).x32 st2) (.head _) ⟨Frz.refl _,Frz.refl _,Jgp (ho 0 Dc) (hr 0 Dc) (JfP (j:=0) Dc),Jgp (ho 1 Dc) (hr 1 Dc) (JfP (j:=1) Dc),Jgp (ho 2 Dc) (hr 2 Dc) (JfP (j:=2) Dc),Jgp (ho 3 Dc) (hr 3 Dc) (JfP (j:=3) Dc),Jgp (ho 4 Dc) (hr 4 Dc) (JfP (j:=4) Dc),Jpl (ho 5 Dc) (hr2 0 Dc) (JfP (j:=5) Dc),Jpl (ho 6 Dc) (hr2 1 Dc) (JfP (j:=6) Dc),trivial⟩,trivial⟩ ?_
     refine stp ?_
     exact Jj rfl ⟨rfl,trivial⟩ Rf
 ·rw [if_pos hv]
  generalize (Jae p l).1=v1 at hV⊢
  generalize (Jae p l).2=v2 at hV hv⊢
  refine Jg Tryz.func12 rfl rfl fun nx=> ?_
  refine stp ?_
  refine Jd rfl rfl hV ⟨Rf,Rf,trivial⟩ fun nx2=> ?_
  refine stp ?_
  intro c hc
  obtain rfl:c=true:=by rw [hc];simpa using hv
  refine stp ?_
  exact Jj rfl ⟨rfl,trivial⟩ (AVle.tups (cs:= [_,_,_]) ⟨JnW,Rf,Rf,trivial⟩)
end Go.Proofs.W

namespace Go.Proofs.W
open Go.Vl
set_option maxRecDepth 100000
end Go.Proofs.W

namespace Go.Proofs.W
open Go.Vl
set_option maxRecDepth 100000
end Go.Proofs.W

namespace Go.Proofs.W
open Go.Vl
set_option maxRecDepth 100000
theorem JqK {a b:Own} (h:a=b):OwnLe a b:=h ▸ OwnLe.refl a
theorem Jpm:JaY Tryz.prog 113=true:=by kernel_rfl
theorem gc_trow:Tryz.prog.cellsOf 113=8:=by kernel_rfl
theorem Jpn:Tryz.prog.bytesOf 113=72:=by kernel_rfl
theorem Jia (x:TRow):(Jp x).cells.length=8:=rfl
theorem Ju6 (x:TRow):(Jp x).cells.all JaW=true:=rfl
theorem Jsw (n:Nat) (h0:0 < n) (hn:n≤100000) (nx:Nat):
 ECall Tryz.prog 238 [.os 0 0 (fun _=> .any) none,int n] ⟨[], [],nx,0⟩ (fun r h'=> ∃s cap nx' nn',n≤cap∧r= .hs (0,s) 0 0 cap∧h'=⟨[((0,s), .c (List.replicate (cap * 8) .any))], [],nx',nn'⟩):=by
 refine ECall.wk (JT Tryz.func238 rfl rfl ?_)
 refine stp ?_
 refine JiR rfl rfl Tryz.underlying49 ?_
 refine stp ?_
 intro c hc
 replace hc:c=decide (IntKind.i64.wrap ((n:Int) - 0) > 0):=hc
 rw [JaX Om Om,decide_eq_true Om] at hc
 subst hc
 refine JU ?_
 refine JQ (fun i=> match i with | 7=> true | 6=> true | 4=> true | 1=> true | _=> false) 10 ?_
 refine stp ?_
 refine JiR rfl rfl Tryz.underlying49 ?_
 refine stp ?_
 refine Js9 rfl rfl rfl Tryz.underlying49 Tryz.underlying113 ?_
 refine stp ?_
 have hw:IntKind.i64.wrap ((n:Int) - 0)=n:=by rw [JaX Om Om];omega
 refine Jl5 (m:=n) (kq:= .i64) (kn:= .i64) (e:=113) rfl rfl (congrArg (fun z=> AV.v (.int .i64 z)) hw) Om Tryz.underlying3 Tryz.underlying49 Jpm (by rw [Jpn];omega) Om fun cap hcap=> ?_
 refine stp ?_
 refine Jm1 (l:=0) (k':= .i64) rfl rfl rfl Tryz.underlying49 Tryz.underlying113 (Nat.zero_le _) Om ?_
 refine stp ?_
 exact Jac rfl ⟨_,_,Rf,HLe.refl _,nx,cap,_,_,hcap,rfl,by rw [gc_trow];rfl⟩
theorem JqL:Tells Tryz.prog 238 [.os 0 0 (fun _=> .any) none,int (0:Nat)] (.os 0 0 (fun _=> .any) none):=by
 refine Jg Tryz.func238 rfl rfl fun nx=> ?_
 refine stp ?_
 refine JiR rfl rfl Tryz.underlying49 ?_
 refine stp ?_
 exact Je rfl Rf
def Jdy (L:List (List TRow)) (oi:Option Vl.Id):AV:= .os 1 L.length (fun k=> JF 8 Jp Jh (L.getD k [])) oi
theorem JlV (l:List TRow):JL l.length (fun k=> Jp (l.getD k Jh))=l.flatMap fun x=> (Jp x).cells:=by
 have key:∀m,m≤l.length→JL m (fun k=> Jp (l.getD k Jh))=(l.take m).flatMap fun x=> (Jp x).cells:=by
  intro m
  induction m with
  | zero=> intro _;rfl
  | succ m ih=>
    intro hm
    have hm':m < l.length:=by omega
    have e:JL (m+1) (fun k=> Jp (l.getD k Jh))=JL m (fun k=> Jp (l.getD k Jh))++(Jp (l.getD m Jh)).cells:=by unfold JL;rw [List.range_succ,List.flatMap_append];simp
    rw [e,ih Om,List.take_add_one,List.flatMap_append]
    simp [List.getD,hm']
 rw [key _ (Nat.le_refl _),List.take_of_length_le (Nat.le_refl _)]
theorem JhC (l:List TRow):(l.flatMap fun x=> (Jp x).cells).length=l.length * 8:=by
 induction l with
 | nil=> rfl
 | cons x l ih=> rw [List.flatMap_cons,List.length_append,ih,Jia,List.length_cons];omega
theorem Jsx (l:List TRow) (k j:Nat) (hk:k < l.length) (hj:j < 8):(l.flatMap fun x=> (Jp x).cells)[k * 8+j]? =(Jp (l.getD k Jh)).cells[j]? :=by
 rw [← JlV]
 exact (Jdf (sz:=8) (fun i hi=> Jia _)).2 k j hk hj
set_option maxHeartbeats 1000000 in
theorem JoG (L:List (List TRow)) (hL:L.length≤1000) (hn:L.flatten.length≤100000) (oi:Option Vl.Id):Tells Tryz.prog 146 [Jdy L none] (JF 8 Jp Jh L.flatten):=by
 have hpre:∀i,i < L.length→(L.take (i+1)).flatten.length=(L.take i).flatten.length+(L.getD i []).length:=fun i hi=> by
  rw [Jb2 [] hi,List.flatten_append,List.length_append];simp
 have hle:∀i,(L.take i).flatten.length≤L.flatten.length:=fun i=> by
  conv=> rhs;rw [← List.take_append_drop i L,List.flatten_append,List.length_append]
  omega
 refine Jg Tryz.func146 rfl rfl fun nx=> ?_
 refine stp ?_
 refine JcX (fun y:Nat=> mk 36 [(0,Jdy L none),(3,int (L.flatten.length:Nat))] ⟨[], [],y,0⟩) (fun _=> True) ?_ ?_
 ·refine Jy (fun y:Nat×Nat=> mk 36 [(0,Jdy L none),(3,int ((L.take y.1).flatten.length:Nat)),(9,Jdy L none),(10,int L.length),(11,int y.1)] ⟨[], [],y.2,0⟩) (fun y=> y.1≤L.length) (fun y=> L.length - y.1) ?_ ?_
  ·exact ⟨(0,nx),Nat.zero_le _,Jeq rfl rfl Sf Sf ⟨Rf,Rf,Rf,Rf,Rf,trivial⟩⟩
  ·rintro ⟨i,nx1⟩ h1
   dsimp only at h1
   refine stp ?_
   intro c g;cases c
   ·have g:=Ju g
    try dsimp only at g
    obtain rfl:i=L.length:=by omega
    refine stp ?_
    refine ⟨nx1,trivial,Jeq rfl rfl Sf Sf ⟨Rf, ?_,trivial⟩⟩
    exact AVle.of_eq (congrArg (fun z:List (List TRow)=> int (z.flatten.length:Nat)) List.take_length)
   ·have g:=Jv g
    try dsimp only at g
    have hi:i < L.length:=by omega
    have e1:=hpre i hi
    have e2:=hle (i+1)
    refine stp ?_
    refine ⟨Bd, ?_⟩
    have hw:IntKind.i64.wrap ((((L.take i).flatten.length:Nat):Int)+((L.getD i []).length:Int))=(((L.take (i+1)).flatten.length:Nat):Int):=by rw [JaX Om Om];omega
    refine stp ?_
    intro c hc
    replace hc:c=decide (IntKind.i64.wrap ((((L.take i).flatten.length:Nat):Int)+((L.getD i []).length:Int)) < 0):=hc
    rw [hw,decide_eq_false Om] at hc
    subst hc
    refine stp ?_
    exact back (i+1,nx1) hi Dm (Jeq rfl rfl Sf Sf ⟨Rf,Jk hw,Rf,Rf,Lw,trivial⟩)
 ·intro nx1 _
  rcases Nat.eq_zero_or_pos L.flatten.length with h0 | h0
  ·have hemp:∀i,i < L.length→(L.getD i []).length=0:=fun i hi=> by
    have:=hpre i hi;have:=hle (i+1);omega
   have hnil:L.flatten= []:=List.eq_nil_of_length_eq_zero h0
   rw [hnil]
   refine stp ?_
   refine Jd rfl rfl JqL ⟨Rf,Rf,trivial⟩ fun nx2=> ?_
   refine stp ?_
   refine Jy (fun y:Nat×Nat=> mk 36 [(6, .os 0 0 (fun _=> .any) none),(25,Jdy L none),(26,int L.length),(27,int y.1)] ⟨[], [],y.2,0⟩) (fun y=> y.1≤L.length) (fun y=> L.length - y.1) ?_ ?_
   ·exact ⟨(0,nx2),Nat.zero_le _,Jeq rfl rfl Sf Sf ⟨Rf,Rf,Rf,Rf,trivial⟩⟩
   ·rintro ⟨i,nx3⟩ h1
    dsimp only at h1
    refine stp ?_
    intro c g;cases c
    ·refine stp ?_
     exact Je rfl AVle.os_sl0
    ·have g:=Jv g
     try dsimp only at g
     have hi:i < L.length:=by omega
     have e1:=hemp i hi
     have e2:L.getD i []= []:=List.eq_nil_of_length_eq_zero e1
     refine stp ?_
     refine ⟨Bd, ?_⟩
     refine stp ?_
     refine Jjg (fun _=> ?_) (fun h=> absurd e1 h)
     refine stp ?_
     exact back (i+1,nx3) hi Dm (Jeq rfl rfl Sf Sf ⟨Rf,Rf,Rf,Lw,trivial⟩)
  ·refine stp ?_
   refine JS (xs:= [.os 0 0 (fun _=> .any) none,int (L.flatten.length:Nat)]) [] [] 1 rfl rfl rfl rfl ⟨Rf,Rf,trivial⟩ (Jsw L.flatten.length h0 hn nx1) Bf Pf rfl fun r h' hq=> ?_
   obtain ⟨s,cap,nx2,nn2,hcap,rfl,rfl⟩:=hq
   refine stp ?_
   refine Jy (fun y:Nat×List AV×Nat=> mk 36 [(6, .hs (0,s) 0 ((L.take y.1).flatten.length) cap),(25,Jdy L none),(26,int L.length),(27,int y.1)] ⟨[((0,s), .c y.2.1)], [],y.2.2,1⟩) (fun y=> y.1≤L.length∧y.2.1.length=cap * 8∧y.2.1.take ((L.take y.1).flatten.length * 8)=(L.take y.1).flatten.flatMap fun x=> (Jp x).cells) (fun y=> L.length - y.1) ?_ ?_
   ·exact ⟨(0,List.replicate (cap * 8) .any,nx2),⟨Nat.zero_le _,by simp,by simp⟩,Jq _ _ rfl rfl Sf .slnil Bf trivial ⟨Rf,Rf,Rf,Rf,trivial⟩⟩
   ·rintro ⟨i,cs,nx3⟩ ⟨h1,h2,h3⟩
    dsimp only at h1 h2 h3
    refine stp ?_
    intro c g;cases c
    ·have g:=Ju g
     try dsimp only at g
     obtain rfl:i=L.length:=by omega
     rw [List.take_length] at h3
     have hcl:L.flatten.length * 8≤cap * 8:=Nat.mul_le_mul_right _ hcap
     refine JU ?_
     refine AW.le (Jcm (L:= [(6,JF 8 Jp Jh L.flatten)]) (bx:= []) (pm:= []) (nn:=1) [((0,s), .c cs)] rfl rfl Sf .slnil ⟨?_,trivial⟩) ?_
     ·refine (Frz.of_le (AVle.of_eq (b:= .hs (0,s) 0 L.flatten.length cap) ?_)).trans (Frz.hs (cs:=cs) (.head _) hcap (.inr Om) (fun k hk=> Jia _) (fun k hk j c hj=> ?_) Om)
      ·show AV.hs (0,s) 0 ((L.take L.length).flatten.length) cap=_
       rw [List.take_length]
      ·have hjl:j < 8:=by have:=(List.getElem?_eq_some_iff.1 hj).1;rw [Jia] at this;exact this
       refine ⟨c, ?_,Rf⟩
       have hkk:k * 8+j < L.flatten.length * 8:=by
        have:(k+1) * 8≤L.flatten.length * 8:=Nat.mul_le_mul_right _ hk
        omega
       have h4:=Jsx L.flatten k j hk hjl
       rw [← h3,List.getElem?_take,if_pos hkk,hj] at h4
       rw [Nat.zero_add];exact h4
     ·refine stp ?_
      exact Je rfl Rf
    ·have g:=Jv g
     try dsimp only at g
     have hi:i < L.length:=by omega
     have e1:=hpre i hi
     have e2:=hle (i+1)
     have hfl:(L.take (i+1)).flatten=(L.take i).flatten++L.getD i []:=by rw [Jb2 [] hi,List.flatten_append];simp
     have hcl:((L.take i).flatten.length+(L.getD i []).length) * 8≤cap * 8:=Nat.mul_le_mul_right _ Om
     refine stp ?_
     refine ⟨Bd, ?_⟩
     refine JU ?_
     refine JQ (fun i=> match i with | 1=> true | _=> false) 4 ?_
     refine stp ?_
     refine JeH (m:=(L.getD i []).length) (f':=fun k=> Jp ((L.getD i []).getD k Jh)) (szx:=8) (n:=(L.take i).flatten.length) (cap:=cap) (cs:=cs) (i:=(0,s)) rfl rfl (.inl rfl) Tryz.underlying49 Jpm (.inr gc_trow.symm) (by rfl) Om (by rw [gc_trow];omega) (fun k hk=> Ju6 _) (fun _=> by rw [Jpn];omega) (fun _=> by omega) (fun hm=> ?_) (fun hm hfit=> ?_) (fun hm hnf=> absurd Om hnf)
     ·have e3:L.getD i []= []:=List.eq_nil_of_length_eq_zero hm
      rw [e3,List.append_nil] at hfl
      refine stp ?_
      exact back (i+1,cs,nx3) ⟨hi,h2,by dsimp only;rw [hfl];exact h3⟩ Dm (Jq _ _ rfl rfl Sf .slnil Bf trivial ⟨AVle.of_eq (congrArg (fun z=> AV.hs (0,s) 0 z cap) (by rw [hfl]:(L.take i).flatten.length=(L.take (i+1)).flatten.length)),Rf,Rf,Lw,trivial⟩)
     ·refine stp ?_
      refine back (i+1,JX cs ((L.take i).flatten.length * 8) ((L.getD i []).flatMap fun x=> (Jp x).cells),nx3) ⟨hi, ?_, ?_⟩ Dm (Jq _ _ rfl rfl Sf .slnil ⟨rfl,JqK (congrArg Own.c ?_),trivial⟩ trivial ⟨AVle.of_eq (congrArg (fun z=> AV.hs (0,s) 0 z cap) e1.symm),Rf,Rf,Lw,trivial⟩)
      ·have hf:=JhC (L.getD i [])
       simp only [Jap,List.length_append,List.length_take,List.length_drop,hf]
       omega
      ·have hf:=JhC (L.getD i [])
       dsimp only
       rw [hfl,List.flatMap_append,Jap,List.length_append,← List.append_assoc,h3]
       have hpl:(List.flatMap (fun x=> (Jp x).cells) (L.take i).flatten++List.flatMap (fun x=> (Jp x).cells) (L.getD i [])).length=((L.take i).flatten.length+(L.getD i []).length) * 8:=by
        rw [List.length_append,hf,JhC];omega
       rw [← hpl,List.take_left]
      ·rw [gc_trow,JlV]
end Go.Proofs.W

namespace Go.Proofs.W
open Go.Vl
set_option maxRecDepth 100000
def JhD:List TRow:= [
 ⟨⟨#[97,99,99,101,112,116]⟩,43,43,-1,202,202,1,5⟩,
 ⟨⟨#[97,99,99,101,112,116,52]⟩,288,288,364,242,242,1,18⟩,
 ⟨⟨#[98,105,110,100]⟩,49,49,361,200,200,1,2⟩,
 ⟨⟨#[98,114,107]⟩,12,12,45,214,214,0,0⟩,
 ⟨⟨#[99,108,111,110,101]⟩,56,56,120,220,220,0,0⟩,
 ⟨⟨#[99,108,111,115,101]⟩,3,3,6,57,57,0,0⟩,
 ⟨⟨#[99,111,110,110,101,99,116]⟩,42,42,362,203,203,1,3⟩,
 ⟨⟨#[100,117,112]⟩,32,32,41,23,23,0,0⟩,
 ⟨⟨#[100,117,112,50]⟩,33,33,63,-1,-1,0,0⟩,
 ⟨⟨#[101,112,111,108,108,95,99,114,101,97,116,101,49]⟩,291,291,329,20,20,0,0⟩,
 ⟨⟨#[101,112,111,108,108,95,99,116,108]⟩,233,233,255,21,21,0,0⟩,
 ⟨⟨#[101,112,111,108,108,95,119,97,105,116]⟩,232,232,256,-1,-1,0,0⟩,
 ⟨⟨#[101,120,101,99,118,101]⟩,59,520,11,221,221,0,0⟩,
 ⟨⟨#[101,120,105,116]⟩,60,60,1,93,93,0,0⟩,
 ⟨⟨#[101,120,105,116,95,103,114,111,117,112]⟩,231,231,252,94,94,0,0⟩,
 ⟨⟨#[102,99,104,100,105,114]⟩,81,81,133,50,50,0,0⟩,
 ⟨⟨#[102,99,110,116,108]⟩,72,72,55,25,25,0,0⟩,
 ⟨⟨#[102,111,114,107]⟩,57,57,2,-1,-1,0,0⟩,
 ⟨⟨#[102,115,116,97,116]⟩,5,5,108,80,80,0,0⟩,
 ⟨⟨#[102,117,116,101,120]⟩,202,202,240,98,98,0,0⟩,
 ⟨⟨#[103,101,116,99,119,100]⟩,79,79,183,17,17,0,0⟩,
 ⟨⟨#[103,101,116,112,101,101,114,110,97,109,101]⟩,52,52,368,205,205,1,7⟩,
 ⟨⟨#[103,101,116,112,105,100]⟩,39,39,20,172,172,0,0⟩,
 ⟨⟨#[103,101,116,114,97,110,100,111,109]⟩,318,318,355,278,278,0,0⟩,
 ⟨⟨#[103,101,116,115,111,99,107,110,97,109,101]⟩,51,51,367,204,204,1,6⟩,
 ⟨⟨#[103,101,116,115,111,99,107,111,112,116]⟩,55,542,365,209,209,1,15⟩,
 ⟨⟨#[103,101,116,117,105,100]⟩,102,102,24,174,174,0,0⟩,
 ⟨⟨#[105,111,99,116,108]⟩,16,514,54,29,29,0,0⟩,
 ⟨⟨#[107,105,108,108]⟩,62,62,37,129,129,0,0⟩,
 ⟨⟨#[108,105,115,116,101,110]⟩,50,50,363,201,201,1,4⟩]
theorem JoH:Jb1 Tryz.prog 49 30 [(0,Jp ⟨⟨#[97,99,99,101,112,116]⟩,43,43,-1,202,202,1,5⟩),(1,Jp ⟨⟨#[97,99,99,101,112,116,52]⟩,288,288,364,242,242,1,18⟩),(2,Jp ⟨⟨#[98,105,110,100]⟩,49,49,361,200,200,1,2⟩),(3,Jp ⟨⟨#[98,114,107]⟩,12,12,45,214,214,0,0⟩),(4,Jp ⟨⟨#[99,108,111,110,101]⟩,56,56,120,220,220,0,0⟩),(5,Jp ⟨⟨#[99,108,111,115,101]⟩,3,3,6,57,57,0,0⟩),(6,Jp ⟨⟨#[99,111,110,110,101,99,116]⟩,42,42,362,203,203,1,3⟩),(7,Jp ⟨⟨#[100,117,112]⟩,32,32,41,23,23,0,0⟩),(8,Jp ⟨⟨#[100,117,112,50]⟩,33,33,63,-1,-1,0,0⟩),(9,Jp ⟨⟨#[101,112,111,108,108,95,99,114,101,97,116,101,49]⟩,291,291,329,20,20,0,0⟩),(10,Jp ⟨⟨#[101,112,111,108,108,95,99,116,108]⟩,233,233,255,21,21,0,0⟩),(11,Jp ⟨⟨#[101,112,111,108,108,95,119,97,105,116]⟩,232,232,256,-1,-1,0,0⟩),(12,Jp ⟨⟨#[101,120,101,99,118,101]⟩,59,520,11,221,221,0,0⟩),(13,Jp ⟨⟨#[101,120,105,116]⟩,60,60,1,93,93,0,0⟩),(14,Jp ⟨⟨#[101,120,105,116,95,103,114,111,117,112]⟩,231,231,252,94,94,0,0⟩),(15,Jp ⟨⟨#[102,99,104,100,105,114]⟩,81,81,133,50,50,0,0⟩),(16,Jp ⟨⟨#[102,99,110,116,108]⟩,72,72,55,25,25,0,0⟩),(17,Jp ⟨⟨#[102,111,114,107]⟩,57,57,2,-1,-1,0,0⟩),(18,Jp ⟨⟨#[102,115,116,97,116]⟩,5,5,108,80,80,0,0⟩),(19,Jp ⟨⟨#[102,117,116,101,120]⟩,202,202,240,98,98,0,0⟩),(20,Jp ⟨⟨#[103,101,116,99,119,100]⟩,79,79,183,17,17,0,0⟩),(21,Jp ⟨⟨#[103,101,116,112,101,101,114,110,97,109,101]⟩,52,52,368,205,205,1,7⟩),(22,Jp ⟨⟨#[103,101,116,112,105,100]⟩,39,39,20,172,172,0,0⟩),(23,Jp ⟨⟨#[103,101,116,114,97,110,100,111,109]⟩,318,318,355,278,278,0,0⟩),(24,Jp ⟨⟨#[103,101,116,115,111,99,107,110,97,109,101]⟩,51,51,367,204,204,1,6⟩),(25,Jp ⟨⟨#[103,101,116,115,111,99,107,111,112,116]⟩,55,542,365,209,209,1,15⟩),(26,Jp ⟨⟨#[103,101,116,117,105,100]⟩,102,102,24,174,174,0,0⟩),(27,Jp ⟨⟨#[105,111,99,116,108]⟩,16,514,54,29,29,0,0⟩),(28,Jp ⟨⟨#[107,105,108,108]⟩,62,62,37,129,129,0,0⟩),(29,Jp ⟨⟨#[108,105,115,116,101,110]⟩,50,50,363,201,201,1,4⟩)]=some (113, [Jf ⟨#[97,99,99,101,112,116]⟩,int (43),int (43),int (-1),int (202),int (202),int 1,int 5,Jf ⟨#[97,99,99,101,112,116,52]⟩,int (288),int (288),int (364),int (242),int (242),int 1,int 18,Jf ⟨#[98,105,110,100]⟩,int (49),int (49),int (361),int (200),int (200),int 1,int 2,Jf ⟨#[98,114,107]⟩,int (12),int (12),int (45),int (214),int (214),int 0,int 0,Jf ⟨#[99,108,111,110,101]⟩,int (56),int (56),int (120),int (220),int (220),int 0,int 0,Jf ⟨#[99,108,111,115,101]⟩,int (3),int (3),int (6),int (57),int (57),int 0,int 0,Jf ⟨#[99,111,110,110,101,99,116]⟩,int (42),int (42),int (362),int (203),int (203),int 1,int 3,Jf ⟨#[100,117,112]⟩,int (32),int (32),int (41),int (23),int (23),int 0,int 0,Jf ⟨#[100,117,112,50]⟩,int (33),int (33),int (63),int (-1),int (-1),int 0,int 0,Jf ⟨#[101,112,111,108,108,95,99,114,101,97,116,101,49]⟩,int (291),int (291),int (329),int (20),int (20),int 0,int 0,Jf ⟨#[101,112,111,108,108,95,99,116,108]⟩,int (233),int (233),int (255),int (21),int (21),int 0,int 0,Jf ⟨#[101,112,111,108,108,95,119,97,105,116]⟩,int (232),int (232),int (256),int (-1),int (-1),int 0,int 0,Jf ⟨#[101,120,101,99,118,101]⟩,int (59),int (520),int (11),int (221),int (221),int 0,int 0,Jf ⟨#[101,120,105,116]⟩,int (60),int (60),int (1),int (93),int (93),int 0,int 0,Jf ⟨#[101,120,105,116,95,103,114,111,117,112]⟩,int (231),int (231),int (252),int (94),int (94),int 0,int 0,Jf ⟨#[102,99,104,100,105,114]⟩,int (81),int (81),int (133),int (50),int (50),int 0,int 0,Jf ⟨#[102,99,110,116,108]⟩,int (72),int (72),int (55),int (25),int (25),int 0,int 0,Jf ⟨#[102,111,114,107]⟩,int (57),int (57),int (2),int (-1),int (-1),int 0,int 0,Jf ⟨#[102,115,116,97,116]⟩,int (5),int (5),int (108),int (80),int (80),int 0,int 0,Jf ⟨#[102,117,116,101,120]⟩,int (202),int (202),int (240),int (98),int (98),int 0,int 0,Jf ⟨#[103,101,116,99,119,100]⟩,int (79),int (79),int (183),int (17),int (17),int 0,int 0,Jf ⟨#[103,101,116,112,101,101,114,110,97,109,101]⟩,int (52),int (52),int (368),int (205),int (205),int 1,int 7,Jf ⟨#[103,101,116,112,105,100]⟩,int (39),int (39),int (20),int (172),int (172),int 0,int 0,Jf ⟨#[103,101,116,114,97,110,100,111,109]⟩,int (318),int (318),int (355),int (278),int (278),int 0,int 0,Jf ⟨#[103,101,116,115,111,99,107,110,97,109,101]⟩,int (51),int (51),int (367),int (204),int (204),int 1,int 6,Jf ⟨#[103,101,116,115,111,99,107,111,112,116]⟩,int (55),int (542),int (365),int (209),int (209),int 1,int 15,Jf ⟨#[103,101,116,117,105,100]⟩,int (102),int (102),int (24),int (174),int (174),int 0,int 0,Jf ⟨#[105,111,99,116,108]⟩,int (16),int (514),int (54),int (29),int (29),int 0,int 0,Jf ⟨#[107,105,108,108]⟩,int (62),int (62),int (37),int (129),int (129),int 0,int 0,Jf ⟨#[108,105,115,116,101,110]⟩,int (50),int (50),int (363),int (201),int (201),int 1,int 4]):=by kernel_rfl
set_option maxHeartbeats 4000000 in
theorem JqM:Tells Tryz.prog 147 [] (JN JhD):=by
 refine Jg Tryz.func147 rfl rfl fun nx=> ?_
 (refine JU ?_;refine Jaq ?_;refine JU ?_)
 refine JQ (fun n=> match n with | 0=> true | _=> false) 61 ?_
 refine stp ?_
 refine Jk8 rfl JoH ?_
 refine stp ?_
 refine Je rfl (AVle.os_sl.trans (AVle.sl_fun fun k hk=> ?_))
 match k,hk with
 | 0,_=> rfl
 | 1,_=> rfl
 | 2,_=> rfl
 | 3,_=> rfl
 | 4,_=> rfl
 | 5,_=> rfl
 | 6,_=> rfl
 | 7,_=> rfl
 | 8,_=> rfl
 | 9,_=> rfl
 | 10,_=> rfl
 | 11,_=> rfl
 | 12,_=> rfl
 | 13,_=> rfl
 | 14,_=> rfl
 | 15,_=> rfl
 | 16,_=> rfl
 | 17,_=> rfl
 | 18,_=> rfl
 | 19,_=> rfl
 | 20,_=> rfl
 | 21,_=> rfl
 | 22,_=> rfl
 | 23,_=> rfl
 | 24,_=> rfl
 | 25,_=> rfl
 | 26,_=> rfl
 | 27,_=> rfl
 | 28,_=> rfl
 | 29,_=> rfl
 | k+30,hk=> exact absurd hk Om
def Jka:List TRow:= [
 ⟨⟨#[108,115,101,101,107]⟩,8,8,19,62,62,0,0⟩,
 ⟨⟨#[109,107,100,105,114]⟩,83,83,39,-1,-1,0,0⟩,
 ⟨⟨#[109,109,97,112]⟩,9,9,-1,222,222,0,0⟩,
 ⟨⟨#[109,109,97,112,50]⟩,-1,-1,192,-1,-1,0,0⟩,
 ⟨⟨#[109,112,114,111,116,101,99,116]⟩,10,10,125,226,226,0,0⟩,
 ⟨⟨#[109,115,103,99,116,108]⟩,71,71,402,187,187,2,14⟩,
 ⟨⟨#[109,115,103,103,101,116]⟩,68,68,399,186,186,2,13⟩,
 ⟨⟨#[109,115,103,114,99,118]⟩,70,70,401,188,188,2,12⟩,
 ⟨⟨#[109,115,103,115,110,100]⟩,69,69,400,189,189,2,11⟩,
 ⟨⟨#[109,117,110,109,97,112]⟩,11,11,91,215,215,0,0⟩,
 ⟨⟨#[110,97,110,111,115,108,101,101,112]⟩,35,35,162,101,101,0,0⟩,
 ⟨⟨#[111,112,101,110]⟩,2,2,5,-1,-1,0,0⟩,
 ⟨⟨#[111,112,101,110,97,116]⟩,257,257,295,56,56,0,0⟩,
 ⟨⟨#[112,105,112,101]⟩,22,22,42,-1,-1,0,0⟩,
 ⟨⟨#[112,105,112,101,50]⟩,293,293,331,59,59,0,0⟩,
 ⟨⟨#[112,111,108,108]⟩,7,7,168,-1,-1,0,0⟩,
 ⟨⟨#[112,114,101,97,100,54,52]⟩,17,17,180,67,67,0,0⟩,
 ⟨⟨#[112,114,108,105,109,105,116,54,52]⟩,302,302,340,261,261,0,0⟩,
 ⟨⟨#[112,116,114,97,99,101]⟩,101,521,26,117,117,0,0⟩,
 ⟨⟨#[112,119,114,105,116,101,54,52]⟩,18,18,181,68,68,0,0⟩,
 ⟨⟨#[114,101,97,100]⟩,0,0,3,63,63,0,0⟩,
 ⟨⟨#[114,101,97,100,118]⟩,19,515,145,65,65,0,0⟩,
 ⟨⟨#[114,101,99,118]⟩,-1,-1,-1,-1,-1,1,10⟩,
 ⟨⟨#[114,101,99,118,102,114,111,109]⟩,45,517,371,207,207,1,12⟩,
 ⟨⟨#[114,101,99,118,109,115,103]⟩,47,519,372,212,212,1,17⟩,
 ⟨⟨#[114,101,110,97,109,101]⟩,82,82,38,-1,-1,0,0⟩,
 ⟨⟨#[114,105,115,99,118,95,102,108,117,115,104,95,105,99,97,99,104,101]⟩,-1,-1,-1,-1,259,0,0⟩,
 ⟨⟨#[114,116,95,115,105,103,97,99,116,105,111,110]⟩,13,512,174,134,134,0,0⟩,
 ⟨⟨#[114,116,95,115,105,103,114,101,116,117,114,110]⟩,15,513,173,139,139,0,0⟩,
 ⟨⟨#[115,101,99,99,111,109,112]⟩,317,317,354,277,277,0,0⟩,
 ⟨⟨#[115,101,108,101,99,116]⟩,23,23,82,-1,-1,0,0⟩,
 ⟨⟨#[115,101,109,99,116,108]⟩,66,66,394,191,191,2,3⟩,
 ⟨⟨#[115,101,109,103,101,116]⟩,64,64,393,190,190,2,2⟩,
 ⟨⟨#[115,101,109,111,112]⟩,65,65,-1,193,193,2,1⟩,
 ⟨⟨#[115,101,110,100]⟩,-1,-1,-1,-1,-1,1,9⟩,
 ⟨⟨#[115,101,110,100,109,115,103]⟩,46,518,370,211,211,1,16⟩,
 ⟨⟨#[115,101,110,100,116,111]⟩,44,44,369,206,206,1,11⟩,
 ⟨⟨#[115,101,116,115,111,99,107,111,112,116]⟩,54,541,366,208,208,1,14⟩,
 ⟨⟨#[115,104,109,97,116]⟩,30,30,397,196,196,2,21⟩,
 ⟨⟨#[115,104,109,99,116,108]⟩,31,31,396,195,195,2,24⟩,
 ⟨⟨#[115,104,109,100,116]⟩,67,67,398,197,197,2,22⟩,
 ⟨⟨#[115,104,109,103,101,116]⟩,29,29,395,194,194,2,23⟩,
 ⟨⟨#[115,104,117,116,100,111,119,110]⟩,48,48,373,210,210,1,13⟩,
 ⟨⟨#[115,111,99,107,101,116]⟩,41,41,359,198,198,1,1⟩,
 ⟨⟨#[115,111,99,107,101,116,112,97,105,114]⟩,53,53,360,199,199,1,8⟩,
 ⟨⟨#[115,116,97,116]⟩,4,4,106,-1,-1,0,0⟩,
 ⟨⟨#[116,105,109,101]⟩,201,201,13,-1,-1,0,0⟩,
 ⟨⟨#[117,110,97,109,101]⟩,63,63,122,160,160,0,0⟩,
 ⟨⟨#[117,110,108,105,110,107]⟩,87,87,10,-1,-1,0,0⟩,
 ⟨⟨#[118,102,111,114,107]⟩,58,58,190,-1,-1,0,0⟩,
 ⟨⟨#[119,97,105,116,112,105,100]⟩,-1,-1,7,-1,-1,0,0⟩,
 ⟨⟨#[119,114,105,116,101]⟩,1,1,4,64,64,0,0⟩,
 ⟨⟨#[119,114,105,116,101,118]⟩,20,516,146,66,66,0,0⟩]
theorem JqN:Jb1 Tryz.prog 49 53 [(0,Jp ⟨⟨#[108,115,101,101,107]⟩,8,8,19,62,62,0,0⟩),(1,Jp ⟨⟨#[109,107,100,105,114]⟩,83,83,39,-1,-1,0,0⟩),(2,Jp ⟨⟨#[109,109,97,112]⟩,9,9,-1,222,222,0,0⟩),(3,Jp ⟨⟨#[109,109,97,112,50]⟩,-1,-1,192,-1,-1,0,0⟩),(4,Jp ⟨⟨#[109,112,114,111,116,101,99,116]⟩,10,10,125,226,226,0,0⟩),(5,Jp ⟨⟨#[109,115,103,99,116,108]⟩,71,71,402,187,187,2,14⟩),(6,Jp ⟨⟨#[109,115,103,103,101,116]⟩,68,68,399,186,186,2,13⟩),(7,Jp ⟨⟨#[109,115,103,114,99,118]⟩,70,70,401,188,188,2,12⟩),(8,Jp ⟨⟨#[109,115,103,115,110,100]⟩,69,69,400,189,189,2,11⟩),(9,Jp ⟨⟨#[109,117,110,109,97,112]⟩,11,11,91,215,215,0,0⟩),(10,Jp ⟨⟨#[110,97,110,111,115,108,101,101,112]⟩,35,35,162,101,101,0,0⟩),(11,Jp ⟨⟨#[111,112,101,110]⟩,2,2,5,-1,-1,0,0⟩),(12,Jp ⟨⟨#[111,112,101,110,97,116]⟩,257,257,295,56,56,0,0⟩),(13,Jp ⟨⟨#[112,105,112,101]⟩,22,22,42,-1,-1,0,0⟩),(14,Jp ⟨⟨#[112,105,112,101,50]⟩,293,293,331,59,59,0,0⟩),(15,Jp ⟨⟨#[112,111,108,108]⟩,7,7,168,-1,-1,0,0⟩),(16,Jp ⟨⟨#[112,114,101,97,100,54,52]⟩,17,17,180,67,67,0,0⟩),(17,Jp ⟨⟨#[112,114,108,105,109,105,116,54,52]⟩,302,302,340,261,261,0,0⟩),(18,Jp ⟨⟨#[112,116,114,97,99,101]⟩,101,521,26,117,117,0,0⟩),(19,Jp ⟨⟨#[112,119,114,105,116,101,54,52]⟩,18,18,181,68,68,0,0⟩),(20,Jp ⟨⟨#[114,101,97,100]⟩,0,0,3,63,63,0,0⟩),(21,Jp ⟨⟨#[114,101,97,100,118]⟩,19,515,145,65,65,0,0⟩),(22,Jp ⟨⟨#[114,101,99,118]⟩,-1,-1,-1,-1,-1,1,10⟩),(23,Jp ⟨⟨#[114,101,99,118,102,114,111,109]⟩,45,517,371,207,207,1,12⟩),(24,Jp ⟨⟨#[114,101,99,118,109,115,103]⟩,47,519,372,212,212,1,17⟩),(25,Jp ⟨⟨#[114,101,110,97,109,101]⟩,82,82,38,-1,-1,0,0⟩),(26,Jp ⟨⟨#[114,105,115,99,118,95,102,108,117,115,104,95,105,99,97,99,104,101]⟩,-1,-1,-1,-1,259,0,0⟩),(27,Jp ⟨⟨#[114,116,95,115,105,103,97,99,116,105,111,110]⟩,13,512,174,134,134,0,0⟩),(28,Jp ⟨⟨#[114,116,95,115,105,103,114,101,116,117,114,110]⟩,15,513,173,139,139,0,0⟩),(29,Jp ⟨⟨#[115,101,99,99,111,109,112]⟩,317,317,354,277,277,0,0⟩),(30,Jp ⟨⟨#[115,101,108,101,99,116]⟩,23,23,82,-1,-1,0,0⟩),(31,Jp ⟨⟨#[115,101,109,99,116,108]⟩,66,66,394,191,191,2,3⟩),(32,Jp ⟨⟨#[115,101,109,103,101,116]⟩,64,64,393,190,190,2,2⟩),(33,Jp ⟨⟨#[115,101,109,111,112]⟩,65,65,-1,193,193,2,1⟩),(34,Jp ⟨⟨#[115,101,110,100]⟩,-1,-1,-1,-1,-1,1,9⟩),(35,Jp ⟨⟨#[115,101,110,100,109,115,103]⟩,46,518,370,211,211,1,16⟩),(36,Jp ⟨⟨#[115,101,110,100,116,111]⟩,44,44,369,206,206,1,11⟩),(37,Jp ⟨⟨#[115,101,116,115,111,99,107,111,112,116]⟩,54,541,366,208,208,1,14⟩),(38,Jp ⟨⟨#[115,104,109,97,116]⟩,30,30,397,196,196,2,21⟩),(39,Jp ⟨⟨#[115,104,109,99,116,108]⟩,31,31,396,195,195,2,24⟩),(40,Jp ⟨⟨#[115,104,109,100,116]⟩,67,67,398,197,197,2,22⟩),(41,Jp ⟨⟨#[115,104,109,103,101,116]⟩,29,29,395,194,194,2,23⟩),(42,Jp ⟨⟨#[115,104,117,116,100,111,119,110]⟩,48,48,373,210,210,1,13⟩),(43,Jp ⟨⟨#[115,111,99,107,101,116]⟩,41,41,359,198,198,1,1⟩),(44,Jp ⟨⟨#[115,111,99,107,101,116,112,97,105,114]⟩,53,53,360,199,199,1,8⟩),(45,Jp ⟨⟨#[115,116,97,116]⟩,4,4,106,-1,-1,0,0⟩),(46,Jp ⟨⟨#[116,105,109,101]⟩,201,201,13,-1,-1,0,0⟩),(47,Jp ⟨⟨#[117,110,97,109,101]⟩,63,63,122,160,160,0,0⟩),(48,Jp ⟨⟨#[117,110,108,105,110,107]⟩,87,87,10,-1,-1,0,0⟩),(49,Jp ⟨⟨#[118,102,111,114,107]⟩,58,58,190,-1,-1,0,0⟩),(50,Jp ⟨⟨#[119,97,105,116,112,105,100]⟩,-1,-1,7,-1,-1,0,0⟩),(51,Jp ⟨⟨#[119,114,105,116,101]⟩,1,1,4,64,64,0,0⟩),(52,Jp ⟨⟨#[119,114,105,116,101,118]⟩,20,516,146,66,66,0,0⟩)]=some (113, [Jf ⟨#[108,115,101,101,107]⟩,int (8),int (8),int (19),int (62),int (62),int 0,int 0,Jf ⟨#[109,107,100,105,114]⟩,int (83),int (83),int (39),int (-1),int (-1),int 0,int 0,Jf ⟨#[109,109,97,112]⟩,int (9),int (9),int (-1),int (222),int (222),int 0,int 0,Jf ⟨#[109,109,97,112,50]⟩,int (-1),int (-1),int (192),int (-1),int (-1),int 0,int 0,Jf ⟨#[109,112,114,111,116,101,99,116]⟩,int (10),int (10),int (125),int (226),int (226),int 0,int 0,Jf ⟨#[109,115,103,99,116,108]⟩,int (71),int (71),int (402),int (187),int (187),int 2,int 14,Jf ⟨#[109,115,103,103,101,116]⟩,int (68),int (68),int (399),int (186),int (186),int 2,int 13,Jf ⟨#[109,115,103,114,99,118]⟩,int (70),int (70),int (401),int (188),int (188),int 2,int 12,Jf ⟨#[109,115,103,115,110,100]⟩,int (69),int (69),int (400),int (189),int (189),int 2,int 11,Jf ⟨#[109,117,110,109,97,112]⟩,int (11),int (11),int (91),int (215),int (215),int 0,int 0,Jf ⟨#[110,97,110,111,115,108,101,101,112]⟩,int (35),int (35),int (162),int (101),int (101),int 0,int 0,Jf ⟨#[111,112,101,110]⟩,int (2),int (2),int (5),int (-1),int (-1),int 0,int 0,Jf ⟨#[111,112,101,110,97,116]⟩,int (257),int (257),int (295),int (56),int (56),int 0,int 0,Jf ⟨#[112,105,112,101]⟩,int (22),int (22),int (42),int (-1),int (-1),int 0,int 0,Jf ⟨#[112,105,112,101,50]⟩,int (293),int (293),int (331),int (59),int (59),int 0,int 0,Jf ⟨#[112,111,108,108]⟩,int (7),int (7),int (168),int (-1),int (-1),int 0,int 0,Jf ⟨#[112,114,101,97,100,54,52]⟩,int (17),int (17),int (180),int (67),int (67),int 0,int 0,Jf ⟨#[112,114,108,105,109,105,116,54,52]⟩,int (302),int (302),int (340),int (261),int (261),int 0,int 0,Jf ⟨#[112,116,114,97,99,101]⟩,int (101),int (521),int (26),int (117),int (117),int 0,int 0,Jf ⟨#[112,119,114,105,116,101,54,52]⟩,int (18),int (18),int (181),int (68),int (68),int 0,int 0,Jf ⟨#[114,101,97,100]⟩,int (0),int (0),int (3),int (63),int (63),int 0,int 0,Jf ⟨#[114,101,97,100,118]⟩,int (19),int (515),int (145),int (65),int (65),int 0,int 0,Jf ⟨#[114,101,99,118]⟩,int (-1),int (-1),int (-1),int (-1),int (-1),int 1,int 10,Jf ⟨#[114,101,99,118,102,114,111,109]⟩,int (45),int (517),int (371),int (207),int (207),int 1,int 12,Jf ⟨#[114,101,99,118,109,115,103]⟩,int (47),int (519),int (372),int (212),int (212),int 1,int 17,Jf ⟨#[114,101,110,97,109,101]⟩,int (82),int (82),int (38),int (-1),int (-1),int 0,int 0,Jf ⟨#[114,105,115,99,118,95,102,108,117,115,104,95,105,99,97,99,104,101]⟩,int (-1),int (-1),int (-1),int (-1),int (259),int 0,int 0,Jf ⟨#[114,116,95,115,105,103,97,99,116,105,111,110]⟩,int (13),int (512),int (174),int (134),int (134),int 0,int 0,Jf ⟨#[114,116,95,115,105,103,114,101,116,117,114,110]⟩,int (15),int (513),int (173),int (139),int (139),int 0,int 0,Jf ⟨#[115,101,99,99,111,109,112]⟩,int (317),int (317),int (354),int (277),int (277),int 0,int 0,Jf ⟨#[115,101,108,101,99,116]⟩,int (23),int (23),int (82),int (-1),int (-1),int 0,int 0,Jf ⟨#[115,101,109,99,116,108]⟩,int (66),int (66),int (394),int (191),int (191),int 2,int 3,Jf ⟨#[115,101,109,103,101,116]⟩,int (64),int (64),int (393),int (190),int (190),int 2,int 2,Jf ⟨#[115,101,109,111,112]⟩,int (65),int (65),int (-1),int (193),int (193),int 2,int 1,Jf ⟨#[115,101,110,100]⟩,int (-1),int (-1),int (-1),int (-1),int (-1),int 1,int 9,Jf ⟨#[115,101,110,100,109,115,103]⟩,int (46),int (518),int (370),int (211),int (211),int 1,int 16,Jf ⟨#[115,101,110,100,116,111]⟩,int (44),int (44),int (369),int (206),int (206),int 1,int 11,Jf ⟨#[115,101,116,115,111,99,107,111,112,116]⟩,int (54),int (541),int (366),int (208),int (208),int 1,int 14,Jf ⟨#[115,104,109,97,116]⟩,int (30),int (30),int (397),int (196),int (196),int 2,int 21,Jf ⟨#[115,104,109,99,116,108]⟩,int (31),int (31),int (396),int (195),int (195),int 2,int 24,Jf ⟨#[115,104,109,100,116]⟩,int (67),int (67),int (398),int (197),int (197),int 2,int 22,Jf ⟨#[115,104,109,103,101,116]⟩,int (29),int (29),int (395),int (194),int (194),int 2,int 23,Jf ⟨#[115,104,117,116,100,111,119,110]⟩,int (48),int (48),int (373),int (210),int (210),int 1,int 13,Jf ⟨#[115,111,99,107,101,116]⟩,int (41),int (41),int (359),int (198),int (198),int 1,int 1,Jf ⟨#[115,111,99,107,101,116,112,97,105,114]⟩,int (53),int (53),int (360),int (199),int (199),int 1,int 8,Jf ⟨#[115,116,97,116]⟩,int (4),int (4),int (106),int (-1),int (-1),int 0,int 0,Jf ⟨#[116,105,109,101]⟩,int (201),int (201),int (13),int (-1),int (-1),int 0,int 0,Jf ⟨#[117,110,97,109,101]⟩,int (63),int (63),int (122),int (160),int (160),int 0,int 0,Jf ⟨#[117,110,108,105,110,107]⟩,int (87),int (87),int (10),int (-1),int (-1),int 0,int 0,Jf ⟨#[118,102,111,114,107]⟩,int (58),int (58),int (190),int (-1),int (-1),int 0,int 0,Jf ⟨#[119,97,105,116,112,105,100]⟩,int (-1),int (-1),int (7),int (-1),int (-1),int 0,int 0,Jf ⟨#[119,114,105,116,101]⟩,int (1),int (1),int (4),int (64),int (64),int 0,int 0,Jf ⟨#[119,114,105,116,101,118]⟩,int (20),int (516),int (146),int (66),int (66),int 0,int 0]):=by kernel_rfl
set_option maxHeartbeats 4000000 in
theorem Jsy:Tells Tryz.prog 148 [] (JN Jka):=by
 refine Jg Tryz.func148 rfl rfl fun nx=> ?_
 (refine JU ?_;refine Jaq ?_;refine JU ?_)
 refine JQ (fun n=> match n with | 0=> true | _=> false) 107 ?_
 refine stp ?_
 refine Jk8 rfl JqN ?_
 refine stp ?_
 refine Je rfl (AVle.os_sl.trans (AVle.sl_fun fun k hk=> ?_))
 match k,hk with
 | 0,_=> rfl
 | 1,_=> rfl
 | 2,_=> rfl
 | 3,_=> rfl
 | 4,_=> rfl
 | 5,_=> rfl
 | 6,_=> rfl
 | 7,_=> rfl
 | 8,_=> rfl
 | 9,_=> rfl
 | 10,_=> rfl
 | 11,_=> rfl
 | 12,_=> rfl
 | 13,_=> rfl
 | 14,_=> rfl
 | 15,_=> rfl
 | 16,_=> rfl
 | 17,_=> rfl
 | 18,_=> rfl
 | 19,_=> rfl
 | 20,_=> rfl
 | 21,_=> rfl
 | 22,_=> rfl
 | 23,_=> rfl
 | 24,_=> rfl
 | 25,_=> rfl
 | 26,_=> rfl
 | 27,_=> rfl
 | 28,_=> rfl
 | 29,_=> rfl
 | 30,_=> rfl
 | 31,_=> rfl
 | 32,_=> rfl
 | 33,_=> rfl
 | 34,_=> rfl
 | 35,_=> rfl
 | 36,_=> rfl
 | 37,_=> rfl
 | 38,_=> rfl
 | 39,_=> rfl
 | 40,_=> rfl
 | 41,_=> rfl
 | 42,_=> rfl
 | 43,_=> rfl
 | 44,_=> rfl
 | 45,_=> rfl
 | 46,_=> rfl
 | 47,_=> rfl
 | 48,_=> rfl
 | 49,_=> rfl
 | 50,_=> rfl
 | 51,_=> rfl
 | 52,_=> rfl
 | k+53,hk=> exact absurd hk Om
end Go.Proofs.W

namespace Go.Proofs.W
open Go.Vl
set_option maxRecDepth 100000
def builtL:List TRow:=JhD++Jka
theorem JqO (l:List TRow):NoId (JN l):=NoId.sl fun i _ c hc=> by
 have hc:c∈Jcp (l.getD i Jh):=hc
 unfold Jcp at hc
 simp only [List.mem_cons,List.not_mem_nil,or_false] at hc
 rcases hc with rfl | rfl | rfl | rfl | rfl | rfl | rfl | rfl <;> exact NoId.v _
theorem JnZ:Tells Tryz.prog 79 [] (JN builtL):=by
 have hc:=JoG [JhD,Jka] Dc Dc none
 have e: [JhD,Jka].flatten=builtL:=by unfold builtL;simp
 rw [e] at hc
 have he:=JqM
 have hl:=Jsy
 generalize JhD=A at he hc
 generalize Jka=B at hl hc
 generalize builtL=C at hc
 refine Jg Tryz.func79 rfl rfl fun nx=> ?_
 refine stp ?_
 refine Jd rfl rfl he trivial fun nx2=> ?_
 refine stp ?_
 refine Jd rfl rfl hl trivial fun nx3=> ?_
 refine stp ?_
 refine Jd rfl rfl hc ⟨AVle.os_fun fun k hk=> ?_,trivial⟩ fun nx4=> ?_
 ·match k,hk with
  | 0,_=> rfl
  | 1,_=> rfl
 refine stp ?_
 exact Je rfl Rf
end Go.Proofs.W

namespace Go.Proofs.W
open Go.Vl
set_option maxRecDepth 100000
end Go.Proofs.W

namespace Go.Proofs.W
open Go.Vl
set_option maxRecDepth 100000
theorem JvY {l:List TRow} (h:JiV l=true):l.length≤40∧∀r∈l,r.name.size≤60:=by
 unfold JiV at h
 simp only [Bool.and_eq_true,decide_eq_true_eq,Bool.not_eq_true',List.any_eq_false] at h
 exact ⟨h.1,fun r hr=> by have:=h.2 r hr;omega⟩
end Go.Proofs.W

namespace Go.Proofs.W
open Go.Vl
set_option maxRecDepth 100000
end Go.Proofs.W

namespace Go.Proofs.W
open Go.Vl
set_option maxRecDepth 100000
def JwD (a:Int) (x:Nat):Nat:=if a=2 then x % 4294967296 else x
def hR (a:Int) (x:Nat→Nat) (c:Cnd):Bool:=Jvu c (JwD a (x c.arg.toNat))
end Go.Proofs.W

namespace Go.Proofs.W
open Go.Vl
set_option maxRecDepth 100000
end Go.Proofs.W

namespace Go.Proofs.W
open Go.Vl
set_option maxRecDepth 100000
end Go.Proofs.W

namespace Go.Proofs.W
open Go.Vl
set_option maxRecDepth 100000
end Go.Proofs.W

namespace Go.Proofs.W
open Go.Vl
set_option maxRecDepth 100000
end Go.Proofs.W

namespace Go.Proofs.W
open Go.Vl
set_option maxRecDepth 100000
theorem Ju7:pAw.ok:=by
 refine ⟨by decide,fun r hr=> ?_⟩
 rw [List.mem_singleton.1 hr]
 exact ⟨by decide,by decide,fun c hc=> by cases hc⟩
end Go.Proofs.W

namespace Go.Proofs.W
open Go.Vl
set_option maxRecDepth 100000
theorem JwE:Jae pAw builtL=(0,0):=by kernel_rfl
theorem JwF:pAw.rules.findIdx? (Jej builtL)=none:=by kernel_rfl
def eK (n:Nat):List PEnt:= [⟨n, [⟨[],2147418112⟩]⟩]
theorem Jxp:JaK (Jc pAw) builtL (JK (Jc pAw).rules) 0=eK 0:=by kernel_rfl
theorem Jxq:JaK (Jc pAw) builtL (JK (Jc pAw).rules) 1= []:=by kernel_rfl
theorem Jxr:JaK (Jc pAw) builtL (JK (Jc pAw).rules) 2=eK 3:=by kernel_rfl
theorem Jxs:JaK (Jc pAw) builtL (JK (Jc pAw).rules) 3=eK 63:=by kernel_rfl
theorem Jxt:JaK (Jc pAw) builtL (JK (Jc pAw).rules) 4=eK 63:=by kernel_rfl
theorem Jxu:JcS builtL (JK (Jc pAw).rules) 0= []:=by kernel_rfl
theorem Jxv:JcS builtL (JK (Jc pAw).rules) 1= []:=by kernel_rfl
theorem Jib (e:PEnt):Jdw [e]= [e]:=List.mergeSort_singleton _
theorem Ju8:Jdw []= []:=List.mergeSort_nil
theorem Jpo:Jh7 []= []:=List.mergeSort_nil
theorem JvZ:JkV pAw builtL= .tup [.ag [u32 2147483648,Jb false,JF 2 Jai ent0 (eK 0),JF 2 Jai ent0 [],JF 2 Jai ent0 (eK 3),JF 2 Jai ent0 (eK 63),JF 2 Jai ent0 (eK 63),JF 2 Je9 sub0 [],JF 2 Je9 sub0 []],int 0,int 0]:=by
 unfold JkV
 rw [JwE,if_neg Dc,JwF]
 show AV.tup [Jf4 (JV pAw builtL),_,_]=_
 have h0:(JV pAw builtL).ents 0=eK 0:=by show Jdw (JaK (Jc pAw) builtL (JK (Jc pAw).rules) 0)=_;rw [Jxp];exact Jib _
 have h1:(JV pAw builtL).ents 1= []:=by show Jdw (JaK (Jc pAw) builtL (JK (Jc pAw).rules) 1)=_;rw [Jxq];exact Ju8
 have h2:(JV pAw builtL).ents 2=eK 3:=by show Jdw (JaK (Jc pAw) builtL (JK (Jc pAw).rules) 2)=_;rw [Jxr];exact Jib _
 have h3:(JV pAw builtL).ents 3=eK 63:=by show Jdw (JaK (Jc pAw) builtL (JK (Jc pAw).rules) 3)=_;rw [Jxs];exact Jib _
 have h4:(JV pAw builtL).ents 4=eK 63:=by show Jdw (JaK (Jc pAw) builtL (JK (Jc pAw).rules) 4)=_;rw [Jxt];exact Jib _
 have s0:(JV pAw builtL).subs 0= []:=by show Jh7 (JcS builtL (JK (Jc pAw).rules) 0)=_;rw [Jxu];exact Jpo
 have s1:(JV pAw builtL).subs 1= []:=by show Jh7 (JcS builtL (JK (Jc pAw).rules) 1)=_;rw [Jxv];exact Jpo
 unfold Jf4
 rw [h0,h1,h2,h3,h4,s0,s1]
 rfl
theorem JoI:builtL.length≤1000000:=Nat.le_of_ble_eq_true (by kernel_rfl)
theorem Jme:∀r∈builtL,r.name.size≤maxLen:=fun r hr=> by
 have:(builtL.all fun r=> decide (r.name.size≤1000))=true:=by kernel_rfl
 have:=of_decide_eq_true (List.all_eq_true.1 this r hr)
 exact Nat.le_trans this Dc
theorem JqP (l:List PRul):NoId (Js l):=NoId.sl fun i _ c hc=> by
 have hc:c∈ [JaS (l.getD i JA).conds,u32 ((l.getD i JA).code:Nat)]:=hc
 simp only [List.mem_cons,List.not_mem_nil,or_false] at hc
 rcases hc with rfl | rfl
 ·exact JiF _
 ·exact NoId.v _
theorem Je3 (l:List PEnt):NoId (JF 2 Jai ent0 l):=NoId.sl fun i _ c hc=> by
 have hc:c∈ [u32 ((l.getD i ent0).num:Nat),Js (l.getD i ent0).rules]:=hc
 simp only [List.mem_cons,List.not_mem_nil,or_false] at hc
 rcases hc with rfl | rfl
 ·exact NoId.v _
 ·exact JqP _
theorem JlW (l:List PSub):NoId (JF 2 Je9 sub0 l):=NoId.sl fun i _ c hc=> by
 have hc:c∈ [u32 ((l.getD i sub0).num:Nat),u32 ((l.getD i sub0).code:Nat)]:=hc
 simp only [List.mem_cons,List.not_mem_nil,or_false] at hc
 rcases hc with rfl | rfl <;> exact NoId.v _
def JcA (P:Plan):List AV:= [u32 (P.dflt:Nat),Jb P.x32,JF 2 Jai ent0 (P.ents 0),JF 2 Jai ent0 (P.ents 1),JF 2 Jai ent0 (P.ents 2),JF 2 Jai ent0 (P.ents 3),JF 2 Jai ent0 (P.ents 4),JF 2 Je9 sub0 (P.subs 0),JF 2 Je9 sub0 (P.subs 1)]
theorem Jsz (P:Plan) (i e:Int):NoId (.tup [.ag (JcA P),int i,int e]):=NoId.tup fun y hy=> by
 simp only [List.mem_cons,List.not_mem_nil,or_false] at hy
 rcases hy with rfl | rfl | rfl
 ·refine NoId.ag fun z hz=> ?_
  unfold JcA at hz
  simp only [List.mem_cons,List.not_mem_nil,or_false] at hz
  rcases hz with rfl | rfl | rfl | rfl | rfl | rfl | rfl | rfl | rfl
  ·exact NoId.v _
  ·exact NoId.v _
  ·exact Je3 _
  ·exact Je3 _
  ·exact Je3 _
  ·exact Je3 _
  ·exact Je3 _
  ·exact JlW _
  ·exact JlW _
 ·exact NoId.v _
 ·exact NoId.v _
def JcL:Plan:=⟨2147483648,false,fun a=> match a with | 0=> eK 0 | 1=> [] | 2=> eK 3 | 3=> eK 63 | _=> eK 63,fun _=> []⟩
theorem Ju9:JkV pAw builtL= .tup [.ag (JcA JcL),int 0,int 0]:=JvZ
set_option maxHeartbeats 8000000 in
theorem JhE:Tells Tryz.prog 28 [] (Jb true):=by
 have hb:=JnZ
 have h1:=JhB pAw builtL Ju7 (fun r hr=> by simp only [pAw,List.mem_cons,List.not_mem_nil,or_false] at hr;subst hr;exact ⟨by decide,by decide⟩) JoI Jme
 rw [Ju9] at h1
 generalize builtL=B at hb h1
 refine Jg Tryz.func28 rfl rfl fun nx=> ?_
 refine stp ?_
 refine Jd rfl rfl Jqc ⟨Rf,trivial⟩ fun nx2=> ?_
 refine stp ?_
 refine J6 10 _ (fun i=> match i with | 7=> true | 8=> true | _=> false) (fun i=> match i with | 1=> true | 2=> true | _=> false) [0,1,2,3,4,5,6,7,8,9] (by kernel_rfl) (by kernel_rfl) (HB.refl _) ?_
 refine stp ?_
 refine ⟨_,J5 rfl rfl rfl hb trivial (JqO _), ?_⟩
 refine stp ?_
 refine ⟨_,J5 rfl rfl rfl h1 ⟨Rf,Rf,trivial⟩ (Jsz _ _ _), ?_⟩
 refine stp ?_
 refine ⟨_,Jhf (cs:=JW) rfl rfl (by kernel_rfl) (HB.one rfl),fun r' h' hr=> ?_⟩
 obtain ⟨rfl,rfl⟩:=hr
 (conv=> whnf)
 refine ⟨_,Jhe (i:=(1,nx2+1)) (off:=0) (cs:=JW) rfl rfl rfl rfl rfl rfl rfl (by kernel_rfl) (by kernel_rfl) (by show 0+9≤9;omega) (HB.one rfl),fun r' h' hr=> ?_⟩
 obtain rfl:=hr
 refine stp ?_
 refine JcX (fun y:Nat=> mk 75 [(3,int 0),(4, .bp (0,nx2+1) 0),(6,int 0)] ⟨[((0,nx2+1), .c (JcA JcL))], [],y,3⟩) (fun _=> True) ?_ ?_
 ·refine Jy (fun y:Nat×Nat=> mk 75 [(3,int 0),(4, .bp (0,nx2+1) 0),(6,int 0),(7, .bp (1,nx2+2) 0),(8,int y.1)] ⟨[((1,nx2+2), .c [int 1,int 0,int 1,int 1,int 1]),((0,nx2+1), .c (JcA JcL))], [],y.2,3⟩) (fun y=> y.1≤5) (fun y=> 5 - y.1) ?_ ?_
  ·exact ⟨(0,nx2+3),Nat.zero_le _,Jq (pm:= []) _ _ rfl rfl (.cons_cons _ (.cons_cons _ (.cons _ .slnil))) Sf ⟨rfl,OwnLe.refl _,rfl,OwnLe.refl _,trivial⟩ trivial ⟨Rf,AVle.bp_nm rfl,Rf,AVle.bp_nm rfl,Rf,trivial⟩⟩
  ·rintro ⟨a,nx4⟩ ha
   dsimp only at ha
   rcases (by omega:a=0∨a=1∨a=2∨a=3∨a=4∨a=5) with rfl | rfl | rfl | rfl | rfl | rfl
   ·refine AW.le (Et (n:=75) (nn:=3) (pm:= []) (bx:= [((1,nx2+2), .c [int 1,int 0,int 1,int 1,int 1]),((0,nx2+1), .c (JcA JcL))]) (L:= [(3,int 0),(4, .bp (0,nx2+1) 0),(6,int 0),(7, .bp (1,nx2+2) 0),(8,int (0:Nat))]) rfl rfl Bf trivial ⟨Rf,Rf,Rf,Rf,Rf,trivial⟩) ?_
    refine stp ?_
    (refine J1 9 ?_ ?_ ?_ ?_;(· kernel_rfl);(· kernel_rfl);(· kernel_rfl))
    refine stp ?_
    exact back (1,nx4) Dm Dm (Et (pm:= []) (bx:= [((1,nx2+2), .c [int 1,int 0,int 1,int 1,int 1]),((0,nx2+1), .c (JcA JcL))]) rfl rfl Bf trivial ⟨Rf,Rf,Rf,Rf,Jk rfl,trivial⟩)
   ·refine AW.le (Et (n:=75) (nn:=3) (pm:= []) (bx:= [((1,nx2+2), .c [int 1,int 0,int 1,int 1,int 1]),((0,nx2+1), .c (JcA JcL))]) (L:= [(3,int 0),(4, .bp (0,nx2+1) 0),(6,int 0),(7, .bp (1,nx2+2) 0),(8,int (1:Nat))]) rfl rfl Bf trivial ⟨Rf,Rf,Rf,Rf,Rf,trivial⟩) ?_
    refine stp ?_
    (refine J1 9 ?_ ?_ ?_ ?_;(· kernel_rfl);(· kernel_rfl);(· kernel_rfl))
    refine stp ?_
    exact back (2,nx4) Dm Dm (Et (pm:= []) (bx:= [((1,nx2+2), .c [int 1,int 0,int 1,int 1,int 1]),((0,nx2+1), .c (JcA JcL))]) rfl rfl Bf trivial ⟨Rf,Rf,Rf,Rf,Jk rfl,trivial⟩)
   ·refine AW.le (Et (n:=75) (nn:=3) (pm:= []) (bx:= [((1,nx2+2), .c [int 1,int 0,int 1,int 1,int 1]),((0,nx2+1), .c (JcA JcL))]) (L:= [(3,int 0),(4, .bp (0,nx2+1) 0),(6,int 0),(7, .bp (1,nx2+2) 0),(8,int (2:Nat))]) rfl rfl Bf trivial ⟨Rf,Rf,Rf,Rf,Rf,trivial⟩) ?_
    refine stp ?_
    (refine J1 9 ?_ ?_ ?_ ?_;(· kernel_rfl);(· kernel_rfl);(· kernel_rfl))
    refine stp ?_
    exact back (3,nx4) Dm Dm (Et (pm:= []) (bx:= [((1,nx2+2), .c [int 1,int 0,int 1,int 1,int 1]),((0,nx2+1), .c (JcA JcL))]) rfl rfl Bf trivial ⟨Rf,Rf,Rf,Rf,Jk rfl,trivial⟩)
   ·refine AW.le (Et (n:=75) (nn:=3) (pm:= []) (bx:= [((1,nx2+2), .c [int 1,int 0,int 1,int 1,int 1]),((0,nx2+1), .c (JcA JcL))]) (L:= [(3,int 0),(4, .bp (0,nx2+1) 0),(6,int 0),(7, .bp (1,nx2+2) 0),(8,int (3:Nat))]) rfl rfl Bf trivial ⟨Rf,Rf,Rf,Rf,Rf,trivial⟩) ?_
    refine stp ?_
    (refine J1 9 ?_ ?_ ?_ ?_;(· kernel_rfl);(· kernel_rfl);(· kernel_rfl))
    refine stp ?_
    exact back (4,nx4) Dm Dm (Et (pm:= []) (bx:= [((1,nx2+2), .c [int 1,int 0,int 1,int 1,int 1]),((0,nx2+1), .c (JcA JcL))]) rfl rfl Bf trivial ⟨Rf,Rf,Rf,Rf,Jk rfl,trivial⟩)
   ·refine AW.le (Et (n:=75) (nn:=3) (pm:= []) (bx:= [((1,nx2+2), .c [int 1,int 0,int 1,int 1,int 1]),((0,nx2+1), .c (JcA JcL))]) (L:= [(3,int 0),(4, .bp (0,nx2+1) 0),(6,int 0),(7, .bp (1,nx2+2) 0),(8,int (4:Nat))]) rfl rfl Bf trivial ⟨Rf,Rf,Rf,Rf,Rf,trivial⟩) ?_
    refine stp ?_
    (refine J1 9 ?_ ?_ ?_ ?_;(· kernel_rfl);(· kernel_rfl);(· kernel_rfl))
    refine stp ?_
    exact back (5,nx4) Dm Dm (Et (pm:= []) (bx:= [((1,nx2+2), .c [int 1,int 0,int 1,int 1,int 1]),((0,nx2+1), .c (JcA JcL))]) rfl rfl Bf trivial ⟨Rf,Rf,Rf,Rf,Jk rfl,trivial⟩)
   ·refine stp ?_
    exact ⟨nx4,trivial,Jq (pm:= []) _ _ rfl rfl (.cons _ Sf) Sf Bf trivial ⟨Rf,Rf,Rf,trivial⟩⟩
 ·rintro nx4 -
  refine stp ?_
  exact Je rfl Rf
end Go.Proofs.W

namespace Go.Proofs.W
open Go.Vl
set_option maxRecDepth 100000
end Go.Proofs.W

namespace Go.Proofs.W
open Go.Vl
set_option maxRecDepth 100000
theorem JqQ {p:Pol} (h:JeV p=true):p.rules.length≤40∧∀r∈p.rules,r.conds.length≤12:=by
 unfold JeV at h
 simp only [Bool.and_eq_true,decide_eq_true_eq,List.all_eq_true] at h
 refine ⟨h.1,fun r hr=> ?_⟩
 have:=h.2 r hr
 unfold JdJ at this
 simp only [Bool.and_eq_true,decide_eq_true_eq] at this
 exact this.2
theorem JtY {p:Pol} (hp:p.ok) (h:JeV p=true):Jwn p:=by
 obtain ⟨h1,h2⟩:=JqQ h
 exact ⟨by omega,fun r hr=> ⟨by have:=h2 r hr;omega,(hp.2 r hr).2.2⟩⟩
end Go.Proofs.W

namespace Go.Proofs.W
open Go.Vl
set_option maxRecDepth 100000
theorem JqR {l:List TRow} (hok:(JbO l).2=0) {a:Nat} (ha:a < l.length):Jat l (l.getD a Jh).name=l.getD a Jh:=by
 have hs:=Jfh hok
 have hm:=JeK hs (l.getD a Jh).name
 have h1:¬Jbb l (l.getD a Jh).name < a:=fun q=> by
  have:=JhZ (l:=l) (s:=(l.getD a Jh).name) Om
  exact this (Jkz.2 (hs _ _ q ha))
 have h2:¬a < Jbb l (l.getD a Jh).name:=fun q=> by
  have:=Jky q
  rw [Jkz] at this
  exact Jh2 _ this
 have e:Jbb l (l.getD a Jh).name=a:=by omega
 unfold Jat JaJ
 rw [e,decide_eq_true ha,decide_eq_true (JoY.2 rfl)]
 rfl
end Go.Proofs.W

namespace Go.Proofs.W
open Go.Vl
set_option maxRecDepth 100000
theorem JsA {a d:Nat} {x:Bool} {row:TRow} {rs:List PRul} (h:row.num a < 0∨(a=1∧x=false)∨Jas a rs d= []):Jaa a d x row rs= []:=if_pos h
theorem JqS {a d:Nat} {x:Bool} {row:TRow} {rs:List PRul} (h1:¬row.num a < 0) (h2:¬(a=1∧x=false)) (h3:Jas a rs d≠ []):Jaa a d x row rs= [⟨Jam a (row.num a),Jas a rs d⟩]:=if_neg fun h=> h.elim h1 fun h=> h.elim h2 h3
theorem Jpp {p:Pol} {g:ByteArray×List Rul} (hg:g∈JK (Jc p).rules):g.2=(Jc p).rules.filter fun r=> kS r.name g.1:=((Je0 (Jfm p)).rows g hg).1
theorem JhF {p:Pol} {l:List TRow} {a:Nat} {e:PEnt} (h:e∈(JV p l).ents a):∃g∈JK (Jc p).rules,e∈Jaa a (Jr p.dflt) p.x32 (Jat l g.1) (g.2.map J0):=by
 have h1:=(Jfk (JaK (Jc p) l (JK (Jc p).rules) a)).mem_iff.1 h
 unfold JaK at h1
 obtain ⟨g,hg,h2⟩:=List.mem_flatMap.1 h1
 exact ⟨g,hg,h2⟩
theorem JsB {p:Pol} {l:List TRow} {a:Nat} {e:PEnt} {g:ByteArray×List Rul} (hg:g∈JK (Jc p).rules) (h:e∈Jaa a (Jr p.dflt) p.x32 (Jat l g.1) (g.2.map J0)):e∈(JV p l).ents a:=
 (Jfk (JaK (Jc p) l (JK (Jc p).rules) a)).mem_iff.2 (by unfold JaK;exact List.mem_flatMap.2 ⟨g,hg,h⟩)
end Go.Proofs.W

namespace Go.Proofs.W
open Go.Vl
set_option maxRecDepth 100000
def JbP (p:Pol) (b:Bool):Pol:=⟨p.dflt,b,p.rules⟩
theorem Jva {a d:Nat} (ha:a≠1) {x y:Bool} {row:TRow} {rs:List PRul}:Jaa a d x row rs=Jaa a d y row rs:=by
 unfold Jaa
 simp only [ha,false_and,false_or]
theorem JcM {p:Pol} {b:Bool} {l:List TRow} {a:Nat} (ha:a≠1):(JV (JbP p b) l).ents a=(JV p l).ents a:=by
 show Jdw (JaK (Jc (JbP p b)) l (JK (Jc p).rules) a)=Jdw (JaK (Jc p) l (JK (Jc p).rules) a)
 refine congrArg Jdw ?_
 unfold JaK
 exact congrArg (fun f=> List.flatMap f (JK (Jc p).rules)) (funext fun g=> Jva ha)
theorem JtZ {p:Pol} {l:List TRow}:(JV (JbP p false) l).ents 1= []:=by
 refine List.eq_nil_iff_forall_not_mem.2 fun e he=> ?_
 obtain ⟨g,_,h⟩:=JhF he
 have h:e∈Jaa 1 (Jr (JbP p false).dflt) false (Jat l g.1) (g.2.map J0):=h
 rw [JsA (.inr (.inl ⟨rfl,rfl⟩))] at h
 cases h
theorem Jt0 {p:Pol} {l:List TRow} {a:Nat} {e:PEnt} (hv:(Jae p l).2=0) (he:e∈(JV p l).ents a):e.num < 2147483648∧(e.num / 1073741824=1↔a=1):=by
 have ht:=(JaN.1 hv).2.1
 obtain ⟨g,hg,h⟩:=JhF he
 obtain ⟨j,hj,r1,_⟩:=Jei (p:=p) (JcZ hv) g hg
 obtain ⟨k1,k2⟩:=Jhw h
 rw [r1] at k1 k2
 have:=(Jd4 ht (a:=a) hj).1
 rw [Jeg Om this] at k2
 split at k2 <;> omega
end Go.Proofs.W

namespace Go.Proofs.W
open Go.Vl
set_option maxRecDepth 100000
theorem Jkb (r:Rul):NoId (.ag [Jf r.name,int r.act.1,int r.act.2,JaS r.conds]):=NoId.ag (by
 intro y hy
 simp only [List.mem_cons,List.not_mem_nil,or_false] at hy
 rcases hy with rfl | rfl | rfl | rfl
 ·exact NoId.v _
 ·exact NoId.v _
 ·exact NoId.v _
 ·refine NoId.sl fun i hi c hc=> ?_
  simp only [JZ,AV.cells,List.mem_cons,List.not_mem_nil,or_false] at hc
  rcases hc with rfl | rfl | rfl | rfl <;> exact NoId.v _)
theorem Jg0:Tryz.prog.bytesOf 86=32:=by kernel_rfl
theorem JdQ:Tryz.prog.bytesOf 123=56:=by kernel_rfl
theorem JsC (c:Cnd):Tells Tryz.prog 36 [JZ c] (JZ c):=by
 refine Jg Tryz.func36 rfl rfl fun nx=> ?_
 refine stp ?_
 exact Jj rfl ⟨rfl,trivial⟩ Rf
set_option maxHeartbeats 1000000 in
theorem Jn0 (nm:ByteArray) (k n:Int) (cs:List Cnd) (hl:cs.length≤1000000):Tells Tryz.prog 76 [.ag [Jf nm,int k,int n,JaS cs]] (.ag [Jf nm,int k,int n,JaS cs]):=by
 refine Jg Tryz.func76 rfl rfl fun nx=> ?_
 refine stp ?_
 refine Jy (fun s:Nat×Option Nat×Nat=> mk 34 [(1, .bp (0,nx) 0),(2, .bp (1,nx+1) 0),(3, .bp (2,nx+2) 0),(4,int s.1)] ⟨[((2,nx+2), .c [Jf nm,int k,int n, .os 4 s.1 (fun j=> JZ (cs.getD j cnd0)) (nmd s.2.1)]),((1,nx+1), .c [Jf ⟨#[]⟩,int 0,int 0, .os 0 0 (fun _=> .any) none]),((0,nx), .c [Jf nm,int k,int n,JaS cs])],Jbo (nmd s.2.1) (s.1 * 4),s.2.2,3⟩) (fun s=> s.1≤cs.length∧(s.2.1=none→s.1=0)) (fun s=> cs.length - s.1) ?_ ?_
 ·exact ⟨(0,none,nx+3),⟨Nat.zero_le _,fun _=> rfl⟩,Jq (pm:= []) _ [] rfl rfl Sf Sf ⟨rfl,⟨Rf,Rf,Rf,AVle.os_nil,trivial⟩,rfl,OwnLe.refl _,rfl,OwnLe.refl _,trivial⟩ trivial ⟨Rf,Rf,Rf,Rf,trivial⟩⟩
 ·rintro ⟨i,oi,nx2⟩ ⟨h3,h4⟩
  dsimp only at h3 h4
  refine stp ?_
  intro c h5;cases c
  ·have h6:=Ju h5
   dsimp only at h6
   obtain rfl:i=cs.length:=by omega
   refine stp ?_
   exact Jj rfl ⟨rfl,trivial⟩ (AVle.ags ⟨Rf,Rf,Rf,AVle.os_sl,trivial⟩)
  ·have h6:=Jv h5
   dsimp only at h6
   have hi:i < cs.length:=by omega
   have hcall:=JsC (cs.getD i cnd0)
   refine stp ?_
   refine J6 11 [((2,nx+2), .c [Jf nm,int k,int n, .os 4 i (fun j=> JZ (cs.getD j cnd0)) (nmd oi)]),((1,nx+1), .c [Jf ⟨#[]⟩,int 0,int 0, .os 0 0 (fun _=> .any) none]),((0,nx), .c [Jf nm,int k,int n,JaS cs])] (fun i=> match i with | 9=> true | _=> false) (fun i=> match i with | 7=> true | _=> false) [0,1,2,3,4,5,6,7,8,9,10] (by kernel_rfl) (by kernel_rfl) (HB.refl _) ?_
   refine stp ?_
   refine ⟨⟨by dsimp only;omega,by dsimp only;omega⟩, ?_⟩
   refine stp ?_
   refine ⟨_,J5 rfl rfl rfl hcall ⟨Rf,trivial⟩ (Jrz _), ?_⟩
   refine stp ?_
   rcases oi with _ | id
   ·obtain rfl:=h4 rfl
    refine ⟨_,JaZ (e:=86) (c:=4) (pm:= []) (n:=0) (oi:=none) (sz:=4) (f:=fun j=> JZ (cs.getD j cnd0)) (HB.refl _) rfl rfl rfl (.inr ⟨_,rfl⟩) (by kernel_rfl) (by kernel_rfl) (by kernel_rfl) (.inr rfl) (by kernel_rfl) (List.append_nil _).symm (Jz rfl) (by rw [Jg0];omega) Om,fun r h' hr=> ?_⟩
    obtain ⟨rfl,rfl⟩:=hr
    refine stp ?_
    refine back (0+1,some nx2,nx2+1) ⟨by dsimp only;omega,(fun h=> by cases h)⟩ Dm (Et (pm:= [((0,nx2),(0+1) * 4)]) rfl rfl ⟨rfl,⟨Rf,Rf,Rf,(AVle.os_fun (JbM (fun k h=> absurd h (Nat.not_lt_zero k)) ?_)).trans (AVle.os_nm rfl),trivial⟩,rfl,OwnLe.refl _,rfl,OwnLe.refl _,trivial⟩ ⟨rfl,rfl,trivial⟩ ⟨Rf,Rf,Rf,Jk (J7 Dm),trivial⟩)
    rfl
   ·refine ⟨_,JaZ (e:=86) (c:=4) (pm:= []) (n:=i) (oi:=some (0,id)) (sz:=4) (f:=fun j=> JZ (cs.getD j cnd0)) (HB.refl _) rfl rfl rfl (.inr ⟨_,rfl⟩) (by kernel_rfl) (by kernel_rfl) (by kernel_rfl) (.inr rfl) (by kernel_rfl) (List.append_nil _).symm (Jz rfl) (by rw [Jg0];omega) Om,fun r h' hr=> ?_⟩
    obtain ⟨rfl,rfl⟩:=hr
    refine stp ?_
    refine back (i+1,some nx2,nx2+1) ⟨by dsimp only;omega,(fun h=> by cases h)⟩ Dm (Et (pm:= [((0,nx2),(i+1) * 4)]) rfl rfl ⟨rfl,⟨Rf,Rf,Rf,(AVle.os_fun (JbM (fun k hk=> rfl) ?_)).trans (AVle.os_nm rfl),trivial⟩,rfl,OwnLe.refl _,rfl,OwnLe.refl _,trivial⟩ ⟨rfl,rfl,trivial⟩ ⟨Rf,Rf,Rf,Jk (J7 Dm),trivial⟩)
    rfl
set_option maxHeartbeats 1000000 in
theorem Jvb (k n:Int) (rs:List Rul) (hl:rs.length≤1000000) (hc:∀r∈rs,r.conds.length≤1000000):Tells Tryz.prog 24 [.ag [int k,int n,Jb true,Ji rs]] (.ag [int k,int n,Jb true,Ji rs]):=by
 refine Jg Tryz.func24 rfl rfl fun nx=> ?_
 refine stp ?_
 refine Jy (fun s:Nat×Option Nat×Nat=> mk 34 [(1, .bp (0,nx) 0),(2, .bp (1,nx+1) 0),(3, .bp (2,nx+2) 0),(4,int s.1)] ⟨[((2,nx+2), .c [int k,int n,Jb true, .os 4 s.1 (fun j=> Jaf (rs.getD j Jl)) (nmd s.2.1)]),((1,nx+1), .c [int 0,int 0,Jb false, .os 0 0 (fun _=> .any) none]),((0,nx), .c [int k,int n,Jb true,Ji rs])],Jbo (nmd s.2.1) (s.1 * 4),s.2.2,3⟩) (fun s=> s.1≤rs.length∧(s.2.1=none→s.1=0)) (fun s=> rs.length - s.1) ?_ ?_
 ·exact ⟨(0,none,nx+3),⟨Nat.zero_le _,fun _=> rfl⟩,Jq (pm:= []) _ [] rfl rfl Sf Sf ⟨rfl,⟨Rf,Rf,Rf,AVle.os_nil,trivial⟩,rfl,OwnLe.refl _,rfl,OwnLe.refl _,trivial⟩ trivial ⟨Rf,Rf,Rf,Rf,trivial⟩⟩
 ·rintro ⟨i,oi,nx2⟩ ⟨h3,h4⟩
  dsimp only at h3 h4
  refine stp ?_
  intro c h5;cases c
  ·have h6:=Ju h5
   dsimp only at h6
   obtain rfl:i=rs.length:=by omega
   refine stp ?_
   exact Jj rfl ⟨rfl,trivial⟩ (AVle.ags ⟨Rf,Rf,Rf,AVle.os_sl,trivial⟩)
  ·have h6:=Jv h5
   dsimp only at h6
   have hi:i < rs.length:=by omega
   have hcall:=Jn0 (rs.getD i Jl).name (rs.getD i Jl).act.1 (rs.getD i Jl).act.2 (rs.getD i Jl).conds (hc _ (by simp [List.getD,hi]))
   refine stp ?_
   refine J6 11 [((2,nx+2), .c [int k,int n,Jb true, .os 4 i (fun j=> Jaf (rs.getD j Jl)) (nmd oi)]),((1,nx+1), .c [int 0,int 0,Jb false, .os 0 0 (fun _=> .any) none]),((0,nx), .c [int k,int n,Jb true,Ji rs])] (fun i=> match i with | 9=> true | _=> false) (fun i=> match i with | 7=> true | _=> false) [0,1,2,3,4,5,6,7,8,9,10] (by kernel_rfl) (by kernel_rfl) (HB.refl _) ?_
   refine stp ?_
   refine ⟨⟨by dsimp only;omega,by dsimp only;omega⟩, ?_⟩
   refine stp ?_
   refine ⟨_,J5 rfl rfl rfl hcall ⟨Rf,trivial⟩ (Jkb (rs.getD i Jl)), ?_⟩
   refine stp ?_
   rcases oi with _ | id
   ·obtain rfl:=h4 rfl
    refine ⟨_,JaZ (e:=123) (c:=4) (pm:= []) (n:=0) (oi:=none) (sz:=4) (f:=fun j=> Jaf (rs.getD j Jl)) (HB.refl _) rfl rfl rfl (.inr ⟨_,rfl⟩) (by kernel_rfl) (by kernel_rfl) (by kernel_rfl) (.inr rfl) (by kernel_rfl) (List.append_nil _).symm (Jz rfl) (by rw [JdQ];omega) Om,fun r h' hr=> ?_⟩
    obtain ⟨rfl,rfl⟩:=hr
    refine stp ?_
    refine back (0+1,some nx2,nx2+1) ⟨by dsimp only;omega,(fun h=> by cases h)⟩ Dm (Et (pm:= [((0,nx2),(0+1) * 4)]) rfl rfl ⟨rfl,⟨Rf,Rf,Rf,(AVle.os_fun (JbM (fun k h=> absurd h (Nat.not_lt_zero k)) ?_)).trans (AVle.os_nm rfl),trivial⟩,rfl,OwnLe.refl _,rfl,OwnLe.refl _,trivial⟩ ⟨rfl,rfl,trivial⟩ ⟨Rf,Rf,Rf,Jk (J7 Dm),trivial⟩)
    rfl
   ·refine ⟨_,JaZ (e:=123) (c:=4) (pm:= []) (n:=i) (oi:=some (0,id)) (sz:=4) (f:=fun j=> Jaf (rs.getD j Jl)) (HB.refl _) rfl rfl rfl (.inr ⟨_,rfl⟩) (by kernel_rfl) (by kernel_rfl) (by kernel_rfl) (.inr rfl) (by kernel_rfl) (List.append_nil _).symm (Jz rfl) (by rw [JdQ];omega) Om,fun r h' hr=> ?_⟩
    obtain ⟨rfl,rfl⟩:=hr
    refine stp ?_
    refine back (i+1,some nx2,nx2+1) ⟨by dsimp only;omega,(fun h=> by cases h)⟩ Dm (Et (pm:= [((0,nx2),(i+1) * 4)]) rfl rfl ⟨rfl,⟨Rf,Rf,Rf,(AVle.os_fun (JbM (fun k hk=> rfl) ?_)).trans (AVle.os_nm rfl),trivial⟩,rfl,OwnLe.refl _,rfl,OwnLe.refl _,trivial⟩ ⟨rfl,rfl,trivial⟩ ⟨Rf,Rf,Rf,Jk (J7 Dm),trivial⟩)
    rfl
set_option maxHeartbeats 1000000 in
theorem Jvc (k n:Int) (rs:List Rul) (hl:rs.length≤1000000) (hc:∀r∈rs,r.conds.length≤1000000):Tells Tryz.prog 24 [.ag [int k,int n,Jb false,Ji rs]] (.ag [int k,int n,Jb false,Ji rs]):=by
 refine Jg Tryz.func24 rfl rfl fun nx=> ?_
 refine stp ?_
 refine Jy (fun s:Nat×Option Nat×Nat=> mk 34 [(1, .bp (0,nx) 0),(2, .bp (1,nx+1) 0),(3, .bp (2,nx+2) 0),(4,int s.1)] ⟨[((2,nx+2), .c [int k,int n,Jb false, .os 4 s.1 (fun j=> Jaf (rs.getD j Jl)) (nmd s.2.1)]),((1,nx+1), .c [int 0,int 0,Jb false, .os 0 0 (fun _=> .any) none]),((0,nx), .c [int k,int n,Jb false,Ji rs])],Jbo (nmd s.2.1) (s.1 * 4),s.2.2,3⟩) (fun s=> s.1≤rs.length∧(s.2.1=none→s.1=0)) (fun s=> rs.length - s.1) ?_ ?_
 ·exact ⟨(0,none,nx+3),⟨Nat.zero_le _,fun _=> rfl⟩,Jq (pm:= []) _ [] rfl rfl Sf Sf ⟨rfl,⟨Rf,Rf,Rf,AVle.os_nil,trivial⟩,rfl,OwnLe.refl _,rfl,OwnLe.refl _,trivial⟩ trivial ⟨Rf,Rf,Rf,Rf,trivial⟩⟩
 ·rintro ⟨i,oi,nx2⟩ ⟨h3,h4⟩
  dsimp only at h3 h4
  refine stp ?_
  intro c h5;cases c
  ·have h6:=Ju h5
   dsimp only at h6
   obtain rfl:i=rs.length:=by omega
   refine stp ?_
   exact Jj rfl ⟨rfl,trivial⟩ (AVle.ags ⟨Rf,Rf,Rf,AVle.os_sl,trivial⟩)
  ·have h6:=Jv h5
   dsimp only at h6
   have hi:i < rs.length:=by omega
   have hcall:=Jn0 (rs.getD i Jl).name (rs.getD i Jl).act.1 (rs.getD i Jl).act.2 (rs.getD i Jl).conds (hc _ (by simp [List.getD,hi]))
   refine stp ?_
   refine J6 11 [((2,nx+2), .c [int k,int n,Jb false, .os 4 i (fun j=> Jaf (rs.getD j Jl)) (nmd oi)]),((1,nx+1), .c [int 0,int 0,Jb false, .os 0 0 (fun _=> .any) none]),((0,nx), .c [int k,int n,Jb false,Ji rs])] (fun i=> match i with | 9=> true | _=> false) (fun i=> match i with | 7=> true | _=> false) [0,1,2,3,4,5,6,7,8,9,10] (by kernel_rfl) (by kernel_rfl) (HB.refl _) ?_
   refine stp ?_
   refine ⟨⟨by dsimp only;omega,by dsimp only;omega⟩, ?_⟩
   refine stp ?_
   refine ⟨_,J5 rfl rfl rfl hcall ⟨Rf,trivial⟩ (Jkb (rs.getD i Jl)), ?_⟩
   refine stp ?_
   rcases oi with _ | id
   ·obtain rfl:=h4 rfl
    refine ⟨_,JaZ (e:=123) (c:=4) (pm:= []) (n:=0) (oi:=none) (sz:=4) (f:=fun j=> Jaf (rs.getD j Jl)) (HB.refl _) rfl rfl rfl (.inr ⟨_,rfl⟩) (by kernel_rfl) (by kernel_rfl) (by kernel_rfl) (.inr rfl) (by kernel_rfl) (List.append_nil _).symm (Jz rfl) (by rw [JdQ];omega) Om,fun r h' hr=> ?_⟩
    obtain ⟨rfl,rfl⟩:=hr
    refine stp ?_
    refine back (0+1,some nx2,nx2+1) ⟨by dsimp only;omega,(fun h=> by cases h)⟩ Dm (Et (pm:= [((0,nx2),(0+1) * 4)]) rfl rfl ⟨rfl,⟨Rf,Rf,Rf,(AVle.os_fun (JbM (fun k h=> absurd h (Nat.not_lt_zero k)) ?_)).trans (AVle.os_nm rfl),trivial⟩,rfl,OwnLe.refl _,rfl,OwnLe.refl _,trivial⟩ ⟨rfl,rfl,trivial⟩ ⟨Rf,Rf,Rf,Jk (J7 Dm),trivial⟩)
    rfl
   ·refine ⟨_,JaZ (e:=123) (c:=4) (pm:= []) (n:=i) (oi:=some (0,id)) (sz:=4) (f:=fun j=> Jaf (rs.getD j Jl)) (HB.refl _) rfl rfl rfl (.inr ⟨_,rfl⟩) (by kernel_rfl) (by kernel_rfl) (by kernel_rfl) (.inr rfl) (by kernel_rfl) (List.append_nil _).symm (Jz rfl) (by rw [JdQ];omega) Om,fun r h' hr=> ?_⟩
    obtain ⟨rfl,rfl⟩:=hr
    refine stp ?_
    refine back (i+1,some nx2,nx2+1) ⟨by dsimp only;omega,(fun h=> by cases h)⟩ Dm (Et (pm:= [((0,nx2),(i+1) * 4)]) rfl rfl ⟨rfl,⟨Rf,Rf,Rf,(AVle.os_fun (JbM (fun k hk=> rfl) ?_)).trans (AVle.os_nm rfl),trivial⟩,rfl,OwnLe.refl _,rfl,OwnLe.refl _,trivial⟩ ⟨rfl,rfl,trivial⟩ ⟨Rf,Rf,Rf,Jk (J7 Dm),trivial⟩)
    rfl
theorem Jvd (p:Pol) (hl:p.rules.length≤1000000) (hc:∀r∈p.rules,r.conds.length≤1000000):Tells Tryz.prog 24 [JbN p] (JbN p):=by
 obtain ⟨⟨k,n⟩,x,rs⟩:=p
 cases x
 ·exact Jvc k n rs hl hc
 ·exact Jvb k n rs hl hc
end Go.Proofs.W

namespace Go.Proofs.W
open Go.Vl
set_option maxRecDepth 100000
theorem JsD (p:Pol) (hl:p.rules.length≤maxLen):Tells Tryz.prog 22 [JbN p] (Jb (JeV p)):=by
 obtain ⟨⟨k,n⟩,x,rs⟩:=p
 dsimp only at hl
 refine Jg Tryz.func22 rfl rfl fun nx=> ?_
 refine stp ?_
 intro c g1;cases c
 rotate_left
 ·refine stp ?_
  have g1:((rs.length:Nat):Int) > 40:=Jv g1
  exact Je rfl (JH (by show false=(decide (rs.length≤40)&& _);rw [decide_eq_false Om];rfl))
 have g1:¬((rs.length:Nat):Int) > 40:=Ju g1
 have h40:rs.length≤40:=by omega
 refine stp ?_
 refine Jy (fun s:Nat×Nat=> mk 33 [(1, .bp (0,nx) 0),(3,int s.1)] ⟨[((0,nx), .c [int k,int n,Jb x,Ji rs])], [],s.2,1⟩) (fun s=> s.1≤rs.length∧∀j,j < s.1→JdJ (rs.getD j Jl)=true) (fun s=> rs.length - s.1) ?_ ?_
 ·exact ⟨(0,nx+1),⟨Nat.zero_le _,fun j h=> absurd h (Nat.not_lt_zero _)⟩,Jq (pm:= []) _ [] rfl rfl Sf Sf ⟨rfl,OwnLe.refl _,trivial⟩ trivial ⟨Rf,Rf,trivial⟩⟩
 ·rintro ⟨i,nx2⟩ ⟨h3,h4⟩
  dsimp only at h3 h4
  refine stp ?_
  intro c h5;cases c
  ·have h6:=Ju h5
   dsimp only at h6
   obtain rfl:i=rs.length:=by omega
   refine stp ?_
   refine Je rfl (JH ?_)
   show true=(decide (rs.length≤40)&& rs.all JdJ)
   rw [decide_eq_true h40,Bool.true_and,eq_comm,List.all_eq_true]
   intro r hr
   obtain ⟨j,hj,rfl⟩:=List.getElem_of_mem hr
   have:=h4 j hj
   simpa [List.getD,hj] using this
  ·have h6:=Jv h5
   dsimp only at h6
   have hi:i < rs.length:=by omega
   have hbad:∀b:Bool,JdJ (rs.getD i Jl)=false→false=JeV ⟨(k,n),x,rs⟩:=fun b hb=> by
    show false=(decide (rs.length≤40)&& rs.all JdJ)
    rw [decide_eq_true h40,Bool.true_and,eq_comm,List.all_eq_false]
    exact ⟨rs.getD i Jl,by simp [List.getD,hi],by rw [hb];decide⟩
   refine stp ?_
   refine ⟨⟨by dsimp only;omega,by dsimp only;omega⟩, ?_⟩
   refine stp ?_
   intro c t1;cases c
   ·have t1:¬(((rs.getD i Jl).name.size:Nat):Int) > 60:=Ju t1
    refine stp ?_
    refine ⟨⟨by dsimp only;omega,by dsimp only;omega⟩, ?_⟩
    refine stp ?_
    intro c t2;cases c
    ·have t2:¬(((rs.getD i Jl).conds.length:Nat):Int) > 12:=Ju t2
     refine stp ?_
     refine back (i+1,nx2) ⟨by dsimp only;omega,fun j hj=> ?_⟩ Dm (Jq (pm:= []) _ [] rfl rfl Sf Sf ⟨rfl,OwnLe.refl _,trivial⟩ trivial ⟨Rf,Jk (J7 Dm),trivial⟩)
     dsimp only at hj
     rcases Nat.lt_or_ge j i with h | h
     ·exact h4 j h
     ·obtain rfl:j=i:=by omega
      unfold JdJ
      rw [decide_eq_true Om,decide_eq_true Om];rfl
    ·have t2:(((rs.getD i Jl).conds.length:Nat):Int) > 12:=Jv t2
     refine stp ?_
     exact Je rfl (JH (hbad true (by unfold JdJ;rw [decide_eq_false (p:=(rs.getD i Jl).conds.length≤12) Om,Bool.and_false])))
   ·have t1:(((rs.getD i Jl).name.size:Nat):Int) > 60:=Jv t1
    refine stp ?_
    exact Je rfl (JH (hbad true (by unfold JdJ;rw [decide_eq_false (p:=(rs.getD i Jl).name.size≤60) Om,Bool.false_and])))
end Go.Proofs.W

namespace Go.Proofs.W
open Go.Vl
set_option maxRecDepth 100000
theorem JhG:Tryz.prog.bytesOf 113=72:=by kernel_rfl
set_option maxHeartbeats 2000000 in
theorem Jn1 (l:List TRow) (hl:l.length≤1000000):Tells Tryz.prog 25 [JN l] (JN l):=by
 refine Jg Tryz.func25 rfl rfl fun nx=> ?_
 refine stp ?_
 refine Jy (fun s:Nat×Option Nat×Nat=> mk 36 [(0,JN l),(3, .os 8 s.1 (fun j=> Jp (l.getD j Jh)) (nmd s.2.1)),(4,int s.1)] ⟨[],Jbo (nmd s.2.1) (s.1 * 8),s.2.2,1⟩) (fun s=> s.1≤l.length∧(s.2.1=none→s.1=0)) (fun s=> l.length - s.1) ?_ ?_
 ·exact ⟨(0,none,nx),⟨Nat.zero_le _,fun _=> rfl⟩,Jq (pm:= []) _ [] rfl rfl Sf Sf trivial trivial ⟨Rf,AVle.os_nil,Rf,trivial⟩⟩
 ·rintro ⟨i,oi,nx2⟩ ⟨h3,h4⟩
  dsimp only at h3 h4
  refine stp ?_
  intro c h5;cases c
  ·have h6:=Ju h5
   dsimp only at h6
   obtain rfl:i=l.length:=by omega
   rcases oi with _ | id
   all_goals
    refine stp ?_
    exact Je rfl AVle.os_sl
  ·have h6:=Jv h5
   dsimp only at h6
   have hi:i < l.length:=by omega
   refine stp ?_
   refine J6 25 _ (fun i=> match i with | 23=> true | _=> false) (fun i=> match i with | 10=> true | _=> false) [0,1,2,3,4,5,6,7,8,9,10,11,12,13,14,15,16,17,18,19,20,21,22,23,24] (by kernel_rfl) (by kernel_rfl) (HB.refl _) ?_
   refine stp ?_
   refine ⟨⟨by dsimp only;omega,by dsimp only;omega⟩, ?_⟩
   refine stp ?_
   refine ⟨⟨by dsimp only;omega,by dsimp only;omega⟩, ?_⟩
   refine stp ?_
   refine ⟨Jvw (l.getD i Jh),Jec rfl rfl (by first | trivial | exact ⟨rfl,Nat.le_of_ble_eq_true rfl⟩), ?_⟩
   refine stp ?_
   refine ⟨⟨by dsimp only;omega,by dsimp only;omega⟩, ?_⟩
   refine stp ?_
   refine ⟨⟨by dsimp only;omega,by dsimp only;omega⟩, ?_⟩
   refine stp ?_
   rcases oi with _ | id
   ·obtain rfl:=h4 rfl
    refine ⟨_,JaZ (e:=113) (c:=8) (pm:= []) (n:=0) (oi:=none) (sz:=8) (f:=fun j=> Jp (l.getD j Jh)) (HB.refl _) rfl rfl rfl (.inr ⟨_,rfl⟩) (by kernel_rfl) (by kernel_rfl) (by kernel_rfl) (.inr rfl) (by kernel_rfl) (List.append_nil _).symm (Jz rfl) (by rw [JhG];omega) Om,fun r h' hr=> ?_⟩
    obtain ⟨rfl,rfl⟩:=hr
    refine stp ?_
    refine back (0+1,some nx2,nx2+1) ⟨by dsimp only;omega,(fun h=> by cases h)⟩ Dm (Et (pm:= [((0,nx2),(0+1) * 8)]) rfl rfl trivial ⟨rfl,rfl,trivial⟩ ⟨Rf,(AVle.os_fun (JbM (fun k hk=> absurd hk (Nat.not_lt_zero k)) ?_)).trans (AVle.os_nm rfl),Jk (J7 Dm),trivial⟩)
    rfl
   ·refine ⟨_,JaZ (e:=113) (c:=8) (pm:= []) (n:=i) (oi:=some (0,id)) (sz:=8) (f:=fun j=> Jp (l.getD j Jh)) (HB.refl _) rfl rfl rfl (.inr ⟨_,rfl⟩) (by kernel_rfl) (by kernel_rfl) (by kernel_rfl) (.inr rfl) (by kernel_rfl) (List.append_nil _).symm (Jz rfl) (by rw [JhG];omega) Om,fun r h' hr=> ?_⟩
    obtain ⟨rfl,rfl⟩:=hr
    refine stp ?_
    refine back (i+1,some nx2,nx2+1) ⟨by dsimp only;omega,(fun h=> by cases h)⟩ Dm (Et (pm:= [((0,nx2),(i+1) * 8)]) rfl rfl trivial ⟨rfl,rfl,trivial⟩ ⟨Rf,(AVle.os_fun (JbM (fun k hk=> rfl) ?_)).trans (AVle.os_nm rfl),Jk (J7 Dm),trivial⟩)
    rfl
theorem JqT (l:List TRow) (hl:l.length≤maxLen) (hn:∀r∈l,r.name.size≤maxLen):Tells Tryz.prog 23 [JN l] (Jb (JiV l)):=by
 refine Jg Tryz.func23 rfl rfl fun nx=> ?_
 refine stp ?_
 by_cases hf:l.length≤40
 rotate_left
 ·refine stp ?_
  intro c h1;cases c
  ·exact absurd (Ju h1) (by first | omega | (dsimp only;omega))
  refine stp ?_
  exact Je rfl (JH (by unfold JiV;rw [decide_eq_false hf];rfl))
 ·refine stp ?_
  intro c h1;cases c
  rotate_left
  ·exact absurd (Jv h1) (by first | omega | (dsimp only;omega))
  refine stp ?_
  refine Jy (fun s:Nat×Nat=> mk 20 [(0,JN l),(3,int s.1)] ⟨[], [],s.2,0⟩) (fun s=> s.1≤l.length∧∀j,j < s.1→(l.getD j Jh).name.size≤60) (fun s=> l.length - s.1) ?_ ?_
  ·exact ⟨(0,nx),⟨Nat.zero_le _,fun j hj=> absurd hj (Nat.not_lt_zero j)⟩,JaI rfl rfl ⟨Rf,Rf,trivial⟩⟩
  ·rintro ⟨i,nx2⟩ ⟨h3,h4⟩
   dsimp only at h3 h4
   refine stp ?_
   intro c h5;cases c
   ·have h6:=Ju h5
    dsimp only at h6
    obtain rfl:i=l.length:=by omega
    refine stp ?_
    refine Je rfl (JH ?_)
    unfold JiV
    rw [decide_eq_true hf]
    symm
    simp only [Bool.true_and,Bool.not_eq_true',List.any_eq_false,decide_eq_true_eq]
    intro r hr
    obtain ⟨j,hj,rfl⟩:=List.mem_iff_getElem.1 hr
    have:=h4 j hj
    simp [List.getD,hj] at this
    omega
   ·have h6:=Jv h5
    dsimp only at h6
    have hi:i < l.length:=by omega
    have hnm:=hn (l.getD i Jh) (by simp [List.getD,hi])
    refine stp ?_
    refine ⟨⟨by dsimp only;omega,by dsimp only;omega⟩, ?_⟩
    refine stp ?_
    intro c h7;cases c
    ·have h7:=Ju h7
     dsimp only at h7
     rw [Int.toNat_natCast] at h7
     refine stp ?_
     exact back (i+1,nx2) ⟨hi,fun j hj=> by dsimp only at hj;rcases Nat.lt_or_ge j i with q | q;exact h4 j q;rw [show j=i by omega];omega⟩ Dm (JaI rfl rfl ⟨Rf,Jk (J7 Dm),trivial⟩)
    ·have h7:=Jv h7
     dsimp only at h7
     rw [Int.toNat_natCast] at h7
     refine stp ?_
     refine Je rfl (JH ?_)
     unfold JiV
     symm
     rw [Bool.and_eq_false_iff]
     right
     simp only [Bool.not_eq_false',List.any_eq_true,decide_eq_true_eq]
     exact ⟨l.getD i Jh,by simp [List.getD,hi],by omega⟩
end Go.Proofs.W
