import Derived.Test.YtmipfkagmedcnaaGreatDoorF
import Derived.Test.YtmipfkagmedcnaaGreatDoorE
import Derived.Test.YtmipfkagmedcnaaGreatDoorC
set_option linter.unusedVariables false
set_option linter.unusedSimpArgs false
namespace Go.Proofs.W
open Go.Vl
set_option maxRecDepth 100000
theorem JqO (c:Cnd):(!(c.arg ==c.arg&& (c.op ==c.op&& ((c.mask:Int) ==(c.mask:Int)&& ((c.value:Int) ==(c.value:Int)&& true)))))=false:=by rw [Jth];rfl
def Jw9 (x:Nat→Nat) (k j:Nat):Nat:=if j < k then x j % 4294967296 else x j
def Jdx (x:Nat→Nat) (k:Nat):List AV:=JwM (Jw9 x k)
theorem Jfe {n:Nat}:((n:Int)).tmod 4294967296=((n % 4294967296:Nat):Int):=(Int.ofNat_tmod n 4294967296).symm
set_option maxHeartbeats 4000000 in
theorem JoA (q w:Cnd) (s t t2:Nat) (htt:t2=t) (x:Nat→Nat) (c:Cnd) (h h2:Bool) (hst:t=0∨t=1∨t=2)
 (h1:Tells Tryz.prog 35 [JL c] (.tup [JL q,int s])) (hn:Tells Tryz.prog 37 [JL q] (.tup [JL w,int t])) (hrn:Tells Tryz.prog 38 [JL q] (.tup [JL w,int t2]))
 (hh:Tells Tryz.prog 39 [JL q,Jki fun i=> x i % 4294967296] (Jb h)) (hh2:Tells Tryz.prog 39 [JL w,Jki fun i=> x i % 4294967296] (Jb h2))
 (e1:s=0→t=1→h=true) (e2:s=0→t=2→h=false) (e0:s=0→t=0→h2=h):Tells Tryz.prog 7 [JL c,Jki x] (Jb true):=by
 refine Jg Tryz.func7 rfl rfl fun nx=> ?_
 refine stp ?_
 refine Jd rfl rfl (JlL c) ⟨AVle.refl _,trivial⟩ fun nx1=> ?_
 refine stp ?_
 refine Jd rfl rfl h1 ⟨AVle.refl _,trivial⟩ fun nx2=> ?_
 refine stp ?_
 intro b hb
 cases b
 ·obtain rfl:s=0:=by
   have:¬((s:Int)≠0):=by simpa using hb.symm
   omega
  refine stp ?_
  refine Jd rfl rfl hn ⟨AVle.refl _,trivial⟩ fun nx3=> ?_
  refine stp ?_
  refine Jd rfl rfl hrn ⟨AVle.refl _,trivial⟩ fun nx4=> ?_
  refine stp ?_
  refine AW.le (Jh (n:=89) (nx:=nx4+1) (nn:=5) (pm:= []) (bx:= [((3,nx4), .c [int w.arg,int w.op,u64 w.mask,u64 w.value]),((2,nx3), .c [int w.arg,int w.op,u64 w.mask,u64 w.value]),((1,nx2), .c [int q.arg,int q.op,u64 q.mask,u64 q.value]),((0,nx+1), .c (Jdx x 0))]) (L:= [(3, .bp (0,nx+1) 0),(5, .bp (1,nx2) 0),(7, .bp (2,nx3) 0),(8,int t),(9, .bp (3,nx4) 0),(10,int t2)]) _ _ rfl rfl (.cons_cons _ (.cons_cons _ (.cons_cons _ (.cons_cons _ (.cons _ .slnil))))) (List.Sublist.refl _) ⟨rfl,OwnLe.refl _,rfl,OwnLe.refl _,rfl,OwnLe.refl _,rfl,OwnLe.refl _,trivial⟩ trivial ⟨AVle.bp_nm rfl,AVle.bp_nm rfl,AVle.bp_nm rfl,AVle.refl _,AVle.bp_nm rfl,AVle.refl _,trivial⟩) ?_
  (refine Jag 9 ?_ ?_ ?_ ?_;(· kernel_rfl);(· kernel_rfl);(· kernel_rfl))
  refine stp ?_
  refine Ja3 (J8 rfl rfl (JlL w) ⟨AVle.refl _,trivial⟩ (Jrt _)) ?_
  refine stp ?_
  intro d hd
  have hd2:d=false:=hd.trans (JqO w)
  clear hd
  cases hd2
  refine stp ?_
  intro d hd
  have hd2:d=false:=hd.trans (show ((t:Int) !=(t2:Int))=false by rw [htt];simp)
  clear hd
  cases hd2
  refine stp ?_
  refine JcS (fun y:Nat=> mk 89 [(3, .bp (0,nx+1) 0),(5, .bp (1,nx2) 0),(7, .bp (2,nx3) 0),(8,int t)] ⟨[((2,nx3), .c [int w.arg,int w.op,u64 w.mask,u64 w.value]),((1,nx2), .c [int q.arg,int q.op,u64 q.mask,u64 q.value]),((0,nx+1), .c (Jdx x 6))], [],y,5⟩) (fun _=> True) ?_ ?_
  ·refine JN (fun y:Nat×Nat=> mk 89 [(3, .bp (0,nx+1) 0),(5, .bp (1,nx2) 0),(7, .bp (2,nx3) 0),(8,int t),(11,int y.1)] ⟨[((2,nx3), .c [int w.arg,int w.op,u64 w.mask,u64 w.value]),((1,nx2), .c [int q.arg,int q.op,u64 q.mask,u64 q.value]),((0,nx+1), .c (Jdx x y.1))], [],y.2,5⟩) (fun y=> y.1≤6) (fun y=> 6 - y.1) ?_ ?_
   ·exact ⟨(0,nx4+1),Nat.zero_le _,Jh (pm:= []) (bx:= [((2,nx3), .c [int w.arg,int w.op,u64 w.mask,u64 w.value]),((1,nx2), .c [int q.arg,int q.op,u64 q.mask,u64 q.value]),((0,nx+1), .c (Jdx x 0))]) _ _ rfl rfl (.cons _ (List.Sublist.refl _)) (List.Sublist.refl _) (BxLe.refl _) trivial ⟨AVle.refl _,AVle.refl _,AVle.refl _,AVle.refl _,AVle.refl _,trivial⟩⟩
   ·rintro ⟨k,nx5⟩ hk
    dsimp only at hk
    rcases (by omega:k=0∨k=1∨k=2∨k=3∨k=4∨k=5∨k=6) with rfl | rfl | rfl | rfl | rfl | rfl | rfl
    ·refine AW.le (Jh (n:=89) (nn:=5) (pm:= []) (bx:= [((2,nx3), .c [int w.arg,int w.op,u64 w.mask,u64 w.value]),((1,nx2), .c [int q.arg,int q.op,u64 q.mask,u64 q.value]),((0,nx+1), .c (Jdx x 0))]) (L:= [(3, .bp (0,nx+1) 0),(5, .bp (1,nx2) 0),(7, .bp (2,nx3) 0),(8,int t),(11,int (0:Nat))]) _ _ rfl rfl (List.Sublist.refl _) (List.Sublist.refl _) (BxLe.refl _) trivial ⟨AVle.refl _,AVle.refl _,AVle.refl _,AVle.refl _,AVle.refl _,trivial⟩) ?_
     refine stp ?_
     exact back (1,nx5) (by dsimp only;omega) (by dsimp only;omega) (Jh (pm:= []) (bx:= [((2,nx3), .c [int w.arg,int w.op,u64 w.mask,u64 w.value]),((1,nx2), .c [int q.arg,int q.op,u64 q.mask,u64 q.value]),((0,nx+1), .c (Jdx x 1))]) _ _ rfl rfl (List.Sublist.refl _) (List.Sublist.refl _) ⟨rfl,OwnLe.refl _,rfl,OwnLe.refl _,rfl,⟨AVle.of_eq (congrArg (fun z:Int=> AV.v (.int .u64 z)) Jfe),AVle.refl _,AVle.refl _,AVle.refl _,AVle.refl _,AVle.refl _,trivial⟩,trivial⟩ trivial ⟨AVle.refl _,AVle.refl _,AVle.refl _,AVle.refl _,Jk rfl,trivial⟩)
    ·refine AW.le (Jh (n:=89) (nn:=5) (pm:= []) (bx:= [((2,nx3), .c [int w.arg,int w.op,u64 w.mask,u64 w.value]),((1,nx2), .c [int q.arg,int q.op,u64 q.mask,u64 q.value]),((0,nx+1), .c (Jdx x 1))]) (L:= [(3, .bp (0,nx+1) 0),(5, .bp (1,nx2) 0),(7, .bp (2,nx3) 0),(8,int t),(11,int (1:Nat))]) _ _ rfl rfl (List.Sublist.refl _) (List.Sublist.refl _) (BxLe.refl _) trivial ⟨AVle.refl _,AVle.refl _,AVle.refl _,AVle.refl _,AVle.refl _,trivial⟩) ?_
     refine stp ?_
     exact back (2,nx5) (by dsimp only;omega) (by dsimp only;omega) (Jh (pm:= []) (bx:= [((2,nx3), .c [int w.arg,int w.op,u64 w.mask,u64 w.value]),((1,nx2), .c [int q.arg,int q.op,u64 q.mask,u64 q.value]),((0,nx+1), .c (Jdx x 2))]) _ _ rfl rfl (List.Sublist.refl _) (List.Sublist.refl _) ⟨rfl,OwnLe.refl _,rfl,OwnLe.refl _,rfl,⟨AVle.refl _,AVle.of_eq (congrArg (fun z:Int=> AV.v (.int .u64 z)) Jfe),AVle.refl _,AVle.refl _,AVle.refl _,AVle.refl _,trivial⟩,trivial⟩ trivial ⟨AVle.refl _,AVle.refl _,AVle.refl _,AVle.refl _,Jk rfl,trivial⟩)
    ·refine AW.le (Jh (n:=89) (nn:=5) (pm:= []) (bx:= [((2,nx3), .c [int w.arg,int w.op,u64 w.mask,u64 w.value]),((1,nx2), .c [int q.arg,int q.op,u64 q.mask,u64 q.value]),((0,nx+1), .c (Jdx x 2))]) (L:= [(3, .bp (0,nx+1) 0),(5, .bp (1,nx2) 0),(7, .bp (2,nx3) 0),(8,int t),(11,int (2:Nat))]) _ _ rfl rfl (List.Sublist.refl _) (List.Sublist.refl _) (BxLe.refl _) trivial ⟨AVle.refl _,AVle.refl _,AVle.refl _,AVle.refl _,AVle.refl _,trivial⟩) ?_
     refine stp ?_
     exact back (3,nx5) (by dsimp only;omega) (by dsimp only;omega) (Jh (pm:= []) (bx:= [((2,nx3), .c [int w.arg,int w.op,u64 w.mask,u64 w.value]),((1,nx2), .c [int q.arg,int q.op,u64 q.mask,u64 q.value]),((0,nx+1), .c (Jdx x 3))]) _ _ rfl rfl (List.Sublist.refl _) (List.Sublist.refl _) ⟨rfl,OwnLe.refl _,rfl,OwnLe.refl _,rfl,⟨AVle.refl _,AVle.refl _,AVle.of_eq (congrArg (fun z:Int=> AV.v (.int .u64 z)) Jfe),AVle.refl _,AVle.refl _,AVle.refl _,trivial⟩,trivial⟩ trivial ⟨AVle.refl _,AVle.refl _,AVle.refl _,AVle.refl _,Jk rfl,trivial⟩)
    ·refine AW.le (Jh (n:=89) (nn:=5) (pm:= []) (bx:= [((2,nx3), .c [int w.arg,int w.op,u64 w.mask,u64 w.value]),((1,nx2), .c [int q.arg,int q.op,u64 q.mask,u64 q.value]),((0,nx+1), .c (Jdx x 3))]) (L:= [(3, .bp (0,nx+1) 0),(5, .bp (1,nx2) 0),(7, .bp (2,nx3) 0),(8,int t),(11,int (3:Nat))]) _ _ rfl rfl (List.Sublist.refl _) (List.Sublist.refl _) (BxLe.refl _) trivial ⟨AVle.refl _,AVle.refl _,AVle.refl _,AVle.refl _,AVle.refl _,trivial⟩) ?_
     refine stp ?_
     exact back (4,nx5) (by dsimp only;omega) (by dsimp only;omega) (Jh (pm:= []) (bx:= [((2,nx3), .c [int w.arg,int w.op,u64 w.mask,u64 w.value]),((1,nx2), .c [int q.arg,int q.op,u64 q.mask,u64 q.value]),((0,nx+1), .c (Jdx x 4))]) _ _ rfl rfl (List.Sublist.refl _) (List.Sublist.refl _) ⟨rfl,OwnLe.refl _,rfl,OwnLe.refl _,rfl,⟨AVle.refl _,AVle.refl _,AVle.refl _,AVle.of_eq (congrArg (fun z:Int=> AV.v (.int .u64 z)) Jfe),AVle.refl _,AVle.refl _,trivial⟩,trivial⟩ trivial ⟨AVle.refl _,AVle.refl _,AVle.refl _,AVle.refl _,Jk rfl,trivial⟩)
    ·refine AW.le (Jh (n:=89) (nn:=5) (pm:= []) (bx:= [((2,nx3), .c [int w.arg,int w.op,u64 w.mask,u64 w.value]),((1,nx2), .c [int q.arg,int q.op,u64 q.mask,u64 q.value]),((0,nx+1), .c (Jdx x 4))]) (L:= [(3, .bp (0,nx+1) 0),(5, .bp (1,nx2) 0),(7, .bp (2,nx3) 0),(8,int t),(11,int (4:Nat))]) _ _ rfl rfl (List.Sublist.refl _) (List.Sublist.refl _) (BxLe.refl _) trivial ⟨AVle.refl _,AVle.refl _,AVle.refl _,AVle.refl _,AVle.refl _,trivial⟩) ?_
     refine stp ?_
     exact back (5,nx5) (by dsimp only;omega) (by dsimp only;omega) (Jh (pm:= []) (bx:= [((2,nx3), .c [int w.arg,int w.op,u64 w.mask,u64 w.value]),((1,nx2), .c [int q.arg,int q.op,u64 q.mask,u64 q.value]),((0,nx+1), .c (Jdx x 5))]) _ _ rfl rfl (List.Sublist.refl _) (List.Sublist.refl _) ⟨rfl,OwnLe.refl _,rfl,OwnLe.refl _,rfl,⟨AVle.refl _,AVle.refl _,AVle.refl _,AVle.refl _,AVle.of_eq (congrArg (fun z:Int=> AV.v (.int .u64 z)) Jfe),AVle.refl _,trivial⟩,trivial⟩ trivial ⟨AVle.refl _,AVle.refl _,AVle.refl _,AVle.refl _,Jk rfl,trivial⟩)
    ·refine AW.le (Jh (n:=89) (nn:=5) (pm:= []) (bx:= [((2,nx3), .c [int w.arg,int w.op,u64 w.mask,u64 w.value]),((1,nx2), .c [int q.arg,int q.op,u64 q.mask,u64 q.value]),((0,nx+1), .c (Jdx x 5))]) (L:= [(3, .bp (0,nx+1) 0),(5, .bp (1,nx2) 0),(7, .bp (2,nx3) 0),(8,int t),(11,int (5:Nat))]) _ _ rfl rfl (List.Sublist.refl _) (List.Sublist.refl _) (BxLe.refl _) trivial ⟨AVle.refl _,AVle.refl _,AVle.refl _,AVle.refl _,AVle.refl _,trivial⟩) ?_
     refine stp ?_
     exact back (6,nx5) (by dsimp only;omega) (by dsimp only;omega) (Jh (pm:= []) (bx:= [((2,nx3), .c [int w.arg,int w.op,u64 w.mask,u64 w.value]),((1,nx2), .c [int q.arg,int q.op,u64 q.mask,u64 q.value]),((0,nx+1), .c (Jdx x 6))]) _ _ rfl rfl (List.Sublist.refl _) (List.Sublist.refl _) ⟨rfl,OwnLe.refl _,rfl,OwnLe.refl _,rfl,⟨AVle.refl _,AVle.refl _,AVle.refl _,AVle.refl _,AVle.refl _,AVle.of_eq (congrArg (fun z:Int=> AV.v (.int .u64 z)) Jfe),trivial⟩,trivial⟩ trivial ⟨AVle.refl _,AVle.refl _,AVle.refl _,AVle.refl _,Jk rfl,trivial⟩)
    ·refine stp ?_
     exact ⟨nx5,trivial,Jh (pm:= []) _ _ rfl rfl (List.Sublist.refl _) (List.Sublist.refl _) (BxLe.refl _) trivial ⟨AVle.refl _,AVle.refl _,AVle.refl _,AVle.refl _,trivial⟩⟩
  ·rintro nx5 -
   refine stp ?_
   refine Jd rfl rfl hh ⟨AVle.refl _,AVle.refl _,trivial⟩ fun nx6=> ?_
   rcases hst with rfl | rfl | rfl
   ·have e:=e0 rfl rfl
    subst e
    cases h2
    ·refine stp ?_
     refine Jd rfl rfl hh2 ⟨AVle.refl _,AVle.refl _,trivial⟩ fun nx7=> ?_
     refine stp ?_
     refine Jd rfl rfl Jdl trivial fun nx8=> ?_
     refine stp ?_
     exact Je rfl (AVle.refl _)
    ·refine stp ?_
     refine Jd rfl rfl hh2 ⟨AVle.refl _,AVle.refl _,trivial⟩ fun nx7=> ?_
     refine stp ?_
     refine Jd rfl rfl Jdl trivial fun nx8=> ?_
     refine stp ?_
     exact Je rfl (AVle.refl _)
   ·have e:=e1 rfl rfl
    subst e
    refine stp ?_
    refine Jd rfl rfl Jdl trivial fun nx8=> ?_
    refine stp ?_
    exact Je rfl (AVle.refl _)
   ·have e:=e2 rfl rfl
    subst e
    refine stp ?_
    refine Jd rfl rfl Jdl trivial fun nx8=> ?_
    refine stp ?_
    exact Je rfl (AVle.refl _)
 ·refine stp ?_
  refine Jd rfl rfl Jdl trivial fun nx3=> ?_
  refine stp ?_
  exact Je rfl (AVle.refl _)
theorem Jsu {x:Nat→Nat} (i:Nat):x i % 4294967296 < 18446744073709551616:=Nat.lt_trans (Nat.mod_lt _ (by decide)) (by decide)
theorem JuT {c:Cnd} (h:c.ok):(JaB c).1.ok:=by
 unfold JaB
 obtain ⟨h1,h2⟩:=h
 have h0:cnd0.ok:=⟨by decide,by decide⟩
 split
 ·exact h0
 ·split
  ·split
   ·exact h0
   ·exact ⟨Nat.lt_of_le_of_lt Nat.and_le_left h1,h2⟩
  ·exact ⟨h1,h2⟩
theorem Jhu (c:Cnd) (x:Nat→Nat) (ho:c.ok):Tells Tryz.prog 7 [JL c,Jki x] (Jb true):=by
 have hq:=Jnp ho
 have hx:∀i,x i % 4294967296 < 4294967296:=fun i=> Nat.mod_lt _ (by decide)
 have hk:(Jaa c).2=0→_:=fun h=> Jvi (x:=fun i=> x i % 4294967296) hx hq (Jrn h)
 exact JoA (Jaa c).1 (JaB (Jaa c).1).1 (Jaa c).2 (JaB (Jaa c).1).2 _ rfl x c _ _ (JjA _) (Jk8 c ho) (JgO _ hq) (JiS _ hq) (Jli _ Jsu _ hq) (Jli _ Jsu _ (JuT hq)) (fun h=> (hk h).1) (fun h=> (hk h).2.1) (fun h=> (hk h).2.2)
end Go.Proofs.W
