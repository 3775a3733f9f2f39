import Derived.Test.YtjobhgdphdoelaaGreatDoorQD
import Derived.Test.YtjobhgdphdoelaaGreatDoorQC
import Derived.Sort.AssemblyPlain
import Derived.KernelRfl
import Derived.Test.YtjobhgdphdoelaaGreatDoorProg
import Derived.Shelf.SortM.Plain
import Derived.Shelf.SortM.SortNone
import Derived.Shelf.SlGeneric
import Derived.Ground.SlgmProg
set_option linter.unusedVariables false
set_option linter.unusedSimpArgs false
namespace Go.Proofs.W
open Go.Vl
set_option maxRecDepth 100000
def JA:Nat→Nat→List Nat
 | 0,_=> []
 | w+1,n=> n % 256::JA w (n / 256)
theorem Jjo:∀w n,(JA w n).length=w
 | 0,_=> rfl
 | w+1,n=> by unfold JA;rw [List.length_cons,Jjo]
theorem JeI:∀w n,okB (JA w n)
 | 0,_=> fun x hx=> by cases hx
 | w+1,n=> fun x hx=> by
   unfold JA at hx
   rcases List.mem_cons.1 hx with rfl | hx
   ·exact Nat.mod_lt _ Dc
   ·exact JeI w _ x hx
theorem JfQ:∀w n,JA (w+1) n=JA w n++ [n / 256 ^ w % 256]
 | 0,n=> by simp [JA]
 | w+1,n=> by
   rw [show JA (w+1+1) n=n % 256::JA (w+1) (n / 256) from rfl,JfQ w,show JA (w+1) n=n % 256::JA w (n / 256) from rfl,List.cons_append,Nat.div_div_eq_div_mul,Nat.pow_succ,Nat.mul_comm 256]
def Jch (b ks:List Nat) (n:Nat):List Nat×Nat:=ks.foldl (fun s k=> (s.1.set k (s.2 % 256),s.2 / 256)) (b,n)
theorem Jrh (b ks:List Nat) (n k:Nat):Jch b (ks++ [k]) n=((Jch b ks n).1.set k ((Jch b ks n).2 % 256),(Jch b ks n).2 / 256):=by
 unfold Jch;rw [List.foldl_append];rfl
theorem Jfl:∀(ks b:List Nat) (n:Nat),(Jch b ks n).1.length=b.length
 | [],b,n=> rfl
 | k::ks,b,n=> (Jfl ks (b.set k (n % 256)) (n / 256)).trans List.length_set
theorem JoI:∀(ks b:List Nat) (n:Nat),(Jch b ks n).2≤n
 | [],b,n=> Nat.le_refl _
 | k::ks,b,n=> Nat.le_trans (JoI ks (b.set k (n % 256)) (n / 256)) (Nat.div_le_self _ _)
theorem JnP (a w:Nat):Jx a (w+1) true=a::Jx (a+1) w true:=by
 unfold Jx
 rw [List.range_succ_eq_map,List.map_cons,List.map_map]
 refine congr (congrArg _ (by simp)) (List.map_congr_left fun i _=> ?_)
 simp;omega
theorem JkT (m:Nat):∀(w:Nat) (A:List Nat) (n:Nat),(Jch (A++List.replicate (w+m) 0) (Jx A.length w true) n).1=A++JA w n++List.replicate m 0
 | 0,A,n=> by simp [Jx,Jch,JA]
 | w+1,A,n=> by
   have ih:=JkT m w (A++ [n % 256]) (n / 256)
   rw [List.length_append,List.length_singleton] at ih
   rw [JnP]
   show (Jch ((A++List.replicate (w+1+m) 0).set A.length (n % 256)) (Jx (A.length+1) w true) (n / 256)).1=_
   rw [show w+1+m=(w+m)+1 by omega,List.replicate_succ,List.set_append_right _ _ (Nat.le_refl _),Nat.sub_self,List.set_cons_zero,List.append_cons,ih,List.append_assoc A]
   rfl
def JbJ (r:Rec) (i:Nat):List Nat:=JA 4 r.num++JA 4 r.arch++JA 8 r.ptr++([r.a0,r.a1,r.a2,r.a3,r.a4,r.a5].take i).flatMap (JA 8)
def Jek (r:Rec):List Nat:=JbJ r 6
theorem JfA (r:Rec) {i:Nat} (h:i≤6):(JbJ r i).length=16+8 * i:=by
 rcases (by omega:i=0∨i=1∨i=2∨i=3∨i=4∨i=5∨i=6) with rfl | rfl | rfl | rfl | rfl | rfl | rfl <;> rfl
theorem Jjp (r:Rec) {i:Nat} (h:i < 6):JbJ r (i+1)=JbJ r i++JA 8 ([r.a0,r.a1,r.a2,r.a3,r.a4,r.a5].getD i 0):=by
 rcases (by omega:i=0∨i=1∨i=2∨i=3∨i=4∨i=5) with rfl | rfl | rfl | rfl | rfl | rfl <;> simp [JbJ]
theorem JiH (r:Rec):(Jek r).length=64:=JfA r (Nat.le_refl 6)
theorem Jte (r:Rec):∀i,i≤6→okB (JbJ r i):=fun i _ x hx=> by
 unfold JbJ at hx
 rcases List.mem_append.1 hx with hx | hx
 ·rcases List.mem_append.1 hx with hx | hx
  ·rcases List.mem_append.1 hx with hx | hx
   ·exact JeI _ _ x hx
   ·exact JeI _ _ x hx
  ·exact JeI _ _ x hx
 ·obtain ⟨a,_,hx⟩:=List.mem_flatMap.1 hx
  exact JeI _ _ x hx
theorem Jkc (r:Rec):okB (Jek r):=Jte r 6 (Nat.le_refl 6)
theorem JmH {r:Rec} (h:r.ok) (i:Nat): [r.a0,r.a1,r.a2,r.a3,r.a4,r.a5].getD i 0 < 18446744073709551616:=by
 obtain ⟨h1,h2,h3,h4,h5,h6,h7,h8,h9⟩:=h
 match i with
 | 0=> exact h4
 | 1=> exact h5
 | 2=> exact h6
 | 3=> exact h7
 | 4=> exact h8
 | 5=> exact h9
 | n+6=> simp [List.getD]
end Go.Proofs.W

namespace Go.Proofs.W
open Go.Vl
set_option maxRecDepth 100000
def u8s (l:List Nat):List AV:=l.map fun n:Nat=> u8 n
theorem JdJ (l:List Nat):(u8s l).length=l.length:=List.length_map _
theorem Jkd {l:List Nat} {k:Nat} (h:k < l.length):(u8s l)[k]? =some (u8 (l.getD k 0:Nat)):=by
 unfold u8s
 rw [List.getElem?_map,List.getElem?_eq_getElem h]
 simp [List.getD,h]
theorem Jxq {bs:List (Nat×Own)} {i:Vl.Id} {n cap:Nat} {l:List Nat} (hm:(i.2, .c (u8s l))∈bs) (hn:l.length=n) (hcap:n≤cap):Frz bs (.hs i 0 n cap) (JI l):=by
 subst hn
 unfold JI Jai
 exact Frz.hs1 hm hcap (by rw [JdJ];exact Nat.le_refl _) (fun k _=> rfl) (fun k hk=> Jkd hk)
theorem JoJ (l:List Nat):J5 l.length (fun k=> u8 (l.getD k 0:Nat))=u8s l:=by
 unfold J5 u8s
 refine List.ext_getElem? fun k=> ?_
 rw [show (List.flatMap (fun k=> (u8 (l.getD k 0:Nat)).cells) (List.range l.length))=(List.range l.length).map (fun k=> u8 (l.getD k 0:Nat)) by rw [List.map_eq_flatMap];rfl]
 rw [List.getElem?_map,List.getElem?_map]
 rcases Nat.lt_or_ge k l.length with h | h
 ·rw [List.getElem?_range h,List.getElem?_eq_getElem h]
  simp [List.getD,h]
 ·rw [List.getElem?_eq_none (by simpa using h),List.getElem?_eq_none h];rfl
theorem Jri {l:List Nat} {tl:List AV} {k x:Nat} (h:k < l.length):JN (u8s l++tl) k [u8 (x:Nat)]=u8s (l.set k x)++tl:=by
 rw [J9]
 unfold u8s
 rw [List.take_append_of_le_length (by rw [List.length_map];omega),List.drop_append_of_le_length (by rw [List.length_map];simp;omega),← List.append_assoc,← List.append_assoc]
 refine congrArg (·++tl) ?_
 rw [← JaP (f:=fun n:Nat=> u8 n) h,J9,List.append_assoc]
theorem c8_u8:Tryz.prog.cellsOf 5=1:=by kernel_rfl
theorem Jww:Tryz.prog.bytesOf 5=1:=by kernel_rfl
theorem Jrj {op:BinOp} {t ty e:TypeId} {o:Oper} {x:Operand} {E:Env} {K:Env→Prop} {Kp:AV→Env→Prop} {i:Vl.Id} {off n cap:Nat} (ho:o.op= .binOp op t x (.const (.slice none 0 0)) ty) (hop:op= .eql∨op= .neq)
 (hu:Tryz.prog.underlying t=some (.slice e)) (hx:E.ev x= .hs i off n cap) (hk:K (E.set o.dst (.v (.bool (if op= .eql then false else true))))):AOp Tryz.prog o E K Kp:=by
 refine AOp.of_some (by rw [ho];intro c h;cases h) fun ρ w X g hr hc=> ?_
 have h1:=hr x
 rw [hx] at h1
 have h2:=hc (.slice none 0 0)
 generalize hv:ρ x=v at h1
 cases h1 with
 | hs _ _ _ _ b hg=>
   obtain ⟨D,hD⟩:=JdQ t (.slice (some ⟨b,off,none⟩) n cap) (.slice none 0 0)
   refine ⟨_,_,Jjd ho hv h2 (JfO (by simp) (by simp) w) ?_, .v _,hk⟩
   rcases hop with rfl | rfl <;> simp [binOp,hD,Op.equalIn,run_underlying hu]
theorem JnQ (l:List Nat) (hl:l.length=64) (s nx:Nat):
 ECall Tryz.prog 103 [.hs (3,s) 0 64 64] ⟨[((3,s), .c (u8s l))], [],nx,5⟩ (fun r h'=> ∃s' cap nx' nn',64≤cap∧r= .hs (5,s') 0 64 cap∧h'=⟨[((5,s'), .c (u8s l++List.replicate (cap - 64) .any)),((3,s), .c (u8s l))], [],nx',nn'⟩):=by
 refine ECall.wk (JS Tryz.func103 rfl rfl ?_)
 refine stp ?_
 refine Jrj (e:=5) rfl (.inl rfl) (by kernel_rfl) rfl ?_
 refine Jt ?_
 refine J7 (fun n=> match n with | 1=> true | _=> false) 4 ?_
 refine stp ?_
 refine JgR (e:=5) (m:=64) (szx:=1) (f':=fun k=> u8 (l.getD k 0:Nat)) rfl rfl ?_ Tryz.underlying45 (by kernel_rfl) c8_u8.symm Dc (fun _ _=> rfl) (by rw [Jww];decide) Dc (fun ncap hcap=> ?_)
 ·refine JkN (i:=(3,s)) (off:=0) (m:=64) (cap:=64) (cs:=u8s l) rfl (fun _=> rfl) (fun _=> by rw [JdJ,hl];decide) (fun _ _=> rfl) (fun j q hj hq=> ?_)
  obtain rfl:q=0:=by omega
  rw [Nat.mul_one,Nat.add_zero,Nat.zero_add,Jkd Om];rfl
 refine stp ?_
 refine Jz rfl ⟨_,_,Rf,HLe.refl _,nx,ncap,nx+1,6,hcap,rfl, ?_⟩
 rw [c8_u8,Nat.mul_one,← JoJ l,hl]
 rfl
def oB (s s2 nx nx2 cap:Nat) (l:List Nat) (y:List Nat×Nat):List (Vl.Id×Own):= [((6,nx2), .c [.hs (5,s2) 0 64 cap]),((4,nx), .c [u64 (y.2:Nat)]),((5,s2), .c (u8s y.1++List.replicate (cap - 64) .any)),((3,s), .c (u8s l))]
theorem Jtf {b:List Nat} {tl:List AV} {x m:Nat} (h:x < b.length):((m:Int).fdiv (2 ^ min (Int.toNat 8) IntKind.u64.bits),JN (u8s b++tl) (0+x * 1) [u8 (IntKind.u8.wrap (m:Int))])=(((m / 256:Nat):Int),u8s (b.set x (m % 256))++tl):=by
 have e1:(m:Int).fdiv (2 ^ min (Int.toNat 8) IntKind.u64.bits)=((m / 256:Nat):Int):=by
  show (m:Int).fdiv 256=_
  rw [Int.fdiv_eq_ediv_of_nonneg _ Dc];rfl
 have e2:IntKind.u8.wrap (m:Int)=((m % 256:Nat):Int):=by show (m:Int) % 256=_;omega
 rw [e1,e2,Nat.mul_one,Nat.zero_add,Jri h]
set_option maxHeartbeats 2000000 in
theorem Jrk (l:List Nat) (hl:l.length=64) (at' w n:Nat) (hw:okW w) (ha:at'+w≤64) (hn:n < 18446744073709551616) (s nx:Nat):
 ECall Tryz.prog 54 [.hs (3,s) 0 64 64,int at',int w,Jg false,u64 n] ⟨[((3,s), .c (u8s l))], [],nx,4⟩ (fun r h'=> ∃s' cap nx' nn',64≤cap∧r= .tup [.hs (5,s') 0 64 cap,int 0]∧h'=⟨[((5,s'), .c (u8s (Jch l (Jx at' w true) n).1++List.replicate (cap - 64) .any)),((3,s), .c (u8s l))], [],nx',nn'⟩):=by
 have hw8:w≤8:=by rcases hw with rfl | rfl | rfl | rfl <;> omega
 have h0:JbE l.length at' w=0:=by unfold JbE;rw [if_pos Om]
 have ht:=Jjj l at' w hw Om (by unfold okI;omega)
 rw [h0] at ht
 refine ECall.wk (JS Tryz.func54 rfl rfl ?_)
 refine stp ?_
 refine AOp.of_yields (JfN rfl rfl ht ⟨Jxq (.tail _ (.head _)) hl (Nat.le_refl _),Frz.refl _,Frz.refl _,trivial⟩ (Flat.v _)) ?_
 refine stp ?_
 refine Jac (xs:= [.hs (3,s) 0 64 64]) [((4,nx), .c [u64 n])] [] 6 rfl rfl rfl rfl ⟨Rf,trivial⟩ (JnQ l hl s (nx+1)) Bf Pf rfl fun r h' hq=> ?_
 obtain ⟨s2,cap,nx2,nn2,hcap,rfl,rfl⟩:=hq
 refine stp ?_
 refine Jb rfl rfl (Jih at' w true) ⟨Rf,Rf,Rf,trivial⟩ fun nx3=> ?_
 refine stp ?_
 refine AW.le (Je (n:=38) (nn:=7) (bx:=oB s s2 nx nx2 cap l (l,n)) (pm:= []) (L:= [(9, .bp (4,nx) 0),(13, .bp (6,nx2) 0),(28, .fn (.func 135) [] [.rp [int w], .rp [int at'], .rp [Jg true]])]) _ [] rfl rfl Sf .slnil Bf trivial ⟨Rf,Rf,Rf,trivial⟩) ?_
 refine Jmd (σ:=List Nat×Nat) (α:=Nat) (e:=fun k:Nat=> [int k]) (xs:=Jx at' w true) (first':= []) (caps':= [.rp [int w], .rp [int at'], .rp [Jg true]]) (oB s s2 nx nx2 cap l) (fun _=> [])
  (fun pre y=> y=Jch l pre n) (fun _ _ _=> False) (l,n) rfl rfl (Jii at' w true hw8 Om) trivial (LeL.refl _) rfl rfl rfl (fun _=> rfl) ?_ ?_
 ·intro pre x post y nx4 nn4 hx hy
  have hxb:x < 64:=by
   have:x∈Jx at' w true:=by rw [hx];simp
   obtain ⟨i,hi,rfl⟩:=List.mem_map.1 this
   have:=List.mem_range.1 hi
   simp only [if_true]
   omega
  have hyl:y.1.length=64:=by rw [hy,Jfl,hl]
  have hyn:y.2 < 18446744073709551616:=by rw [hy];exact Nat.lt_of_le_of_lt (JoI _ _ _) hn
  have hys:Jch l (pre++ [x]) n=(y.1.set x (y.2 % 256),y.2 / 256):=by rw [Jrh,hy]
  obtain ⟨b,m⟩:=y
  dsimp only at hyl hyn hys
  refine stp ?_
  refine ⟨⟨by omega,by omega⟩, ?_⟩
  refine stp ?_
  refine ⟨⟨rfl, ?_⟩, ?_⟩
  ·show 0+x * 1+1≤_
   rw [List.length_append,JdJ];dsimp only;omega
  refine stp ?_
  refine ⟨(b.set x (m % 256),m / 256), .inl ⟨rfl,hys.symm⟩, ?_,rfl⟩
  exact congrArg (List.cons _) (congrArg (List.cons _) (congrArg (fun z:Int×List AV=> ((6,nx2),Own.c [.hs (5,s2) 0 64 cap])::((4,nx),Own.c [u64 z.1])::((5,s2),Own.c z.2):: [((3,s),Own.c (u8s l))]) (Jtf (tl:=List.replicate (cap - 64) .any) (show x < b.length by omega))))
 ·intro y nx4 nn4 hy
  subst hy
  refine stp ?_
  exact Jz rfl ⟨_,_,Rf,Jp (bx:= [((5,s2), .c (u8s (Jch l (Jx at' w true) n).1++List.replicate (cap - 64) .any)),((3,s), .c (u8s l))]) (pm:= []) (nn:=1) _ [] rfl (.cons _ (.cons _ (.cons _ Sf))) .slnil Bf trivial,s2,cap,_,_,hcap,rfl,rfl⟩
end Go.Proofs.W

namespace Go.Proofs.W
open Go.Vl
set_option maxRecDepth 100000
theorem JmI {b:List Nat} {tl:List AV} {j:Nat} (h:j < b.length):(u8s b++tl).getD (0+j) .any=u8 (b.getD j 0:Nat):=by
 rw [Nat.zero_add,List.getD_eq_getElem?_getD,List.getElem?_append_left (by rw [JdJ];exact h),Jkd h];rfl
theorem Jtg {l b:List Nat} {tl:List AV} (hl:l.length=64) (hb:b.length=64):JN (u8s l) 0 ((List.range (min 64 64)).map fun j=> (u8s b++tl).getD (0+j) .any)=u8s b:=by
 have e:((List.range (min 64 64)).map fun j=> (u8s b++tl).getD (0+j) .any)=u8s b:=by
  refine (List.map_congr_left (fun j hj=> JmI (by rw [hb];exact List.mem_range.1 hj))).trans ?_
  rw [← JoJ b,hb]
  unfold J5
  rw [List.map_eq_flatMap];rfl
 rw [e,J9,List.take_zero,List.nil_append,Nat.zero_add,JdJ,hb,List.drop_eq_nil_of_le (by rw [JdJ];omega),List.append_nil]
theorem Jwx {i:Vl.Id} {a b:List AV} (h:a=b):BxLe [(i, .c a)] [(i, .c b)]:=h ▸ Bf
set_option maxHeartbeats 2000000 in
theorem Jrl (l:List Nat) (hl:l.length=64) (at' w n:Nat) (hw:okW w) (ha:at'+w≤64) (hn:n < 18446744073709551616) (s nx:Nat):
 ECall Tryz.prog 53 [int at',int w,u64 n, .bp (3,s) 0, .rp [Jg false]] ⟨[((3,s), .c (u8s l))], [],nx,4⟩ (fun r h'=> ∃nx' nn',r= .tup []∧h'=⟨[((3,s), .c (u8s (Jch l (Jx at' w true) n).1))], [],nx',nn'⟩):=by
 refine ECall.wk (JS Tryz.func53 rfl rfl ?_)
 refine stp ?_
 refine Jah 10 [] (fun i=> match i with | 5=> true | _=> false) (fun _=> false) [0,1,2,3,4,5,6,7,8,9] (by kernel_rfl) (by kernel_rfl) (fun _ _ _ h=> by cases h) ?_
 refine stp ?_
 refine ⟨_,Jiz (Q:=fun r h'=> ∃s' cap nx' nn',64≤cap∧r= .tup [.hs (5,s') 0 64 cap,int 0]∧h'=⟨[((5,s'), .c (u8s (Jch l (Jx at' w true) n).1++List.replicate (cap - 64) .any)),((3,s), .c (u8s l))], [],nx',nn'⟩) (R:=fun r h'=> ∃s' cap nx',64≤cap∧r= .tup [.hs (5,s') 0 64 cap,int 0]∧h'=⟨[((5,s'), .c (u8s (Jch l (Jx at' w true) n).1++List.replicate (cap - 64) .any)),((3,s), .c (u8s l))], [],nx',6⟩) rfl rfl rfl (Jrk l hl at' w n hw ha hn s nx) (fun r h' hq=> ?_),fun r h' hr=> ?_⟩
 ·obtain ⟨s',cap,nx',nn',h1,rfl,rfl⟩:=hq
  exact ⟨_,⟨_,_,nx',6⟩,Rf,⟨List.Perm.refl _,List.Perm.refl _,rfl⟩,⟨s',cap,nx',h1,rfl,rfl⟩,fun _ _ _ h=> by cases h⟩
 obtain ⟨s',cap,nx',hcap,rfl,rfl⟩:=hr
 refine stp ?_
 refine Jmj (n:=64) (m:=64) (i:=(3,s)) (off:=0) (cap:=64) (cs:=u8s l) (f:=fun j=> (u8s (Jch l (Jx at' w true) n).1++List.replicate (cap - 64) AV.any).getD (0+j) AV.any) (e:=5) rfl rfl ?_ rfl Tryz.underlying45 (by kernel_rfl) (fun k hk=> ?_) (by rw [JdJ,hl];decide) ?_
 ·exact Jvt (i:=(5,s')) rfl rfl (by rw [List.length_append,JdJ,Jfl,hl];omega) Dc
 ·rw [JmI (by rw [Jfl,hl];exact hk)];rfl
 refine stp ?_
 exact Jz rfl ⟨.tup [],⟨[((3,s), .c (u8s (Jch l (Jx at' w true) n).1))], [],nx',1⟩,Rf,Jp (bx:= [((3,s), .c (u8s (Jch l (Jx at' w true) n).1))]) (pm:= []) (nn:=1) [((3,s), .c (JN (u8s l) 0 ((List.range (min 64 64)).map fun j=> (u8s (Jch l (Jx at' w true) n).1++List.replicate (cap - 64) AV.any).getD (0+j) AV.any)))] [] rfl (.cons _ Sf) .slnil (Jwx (Jtg hl ((Jfl _ _ _).trans hl))) trivial,nx',1,rfl,rfl⟩
theorem w8u {x:Nat} (h:x < 18446744073709551616):IntKind.u64.wrap (x:Int)=(x:Int):=by show (x:Int) % 18446744073709551616=_;omega
def zs (A:List Nat) (m:Nat):List AV:=u8s (A++List.replicate m 0)
theorem JhT (A:List Nat) (w m n:Nat) (hlen:A.length+(w+m)=64) (hw:okW w) (hn:n < 18446744073709551616) (s nx:Nat):
 ECall Tryz.prog 53 [int A.length,int w,u64 n, .bp (3,s) 0, .rp [Jg false]] ⟨[((3,s), .c (zs A (w+m)))], [],nx,4⟩ (fun r h'=> ∃nx' nn',r= .tup []∧h'=⟨[((3,s), .c (zs (A++JA w n) m))], [],nx',nn'⟩):=by
 have h:=Jrl (A++List.replicate (w+m) 0) (by rw [List.length_append,List.length_replicate];exact hlen) A.length w n hw Om hn s nx
 rw [JkT] at h
 exact h
theorem JnR {o:Oper} {E:Env} {x ix:Operand} {i a0 a1 a2 a3 a4 a5:Nat} (ho:o.op= .index 37 x ix) (hx:E.ev x= .ag [u64 a0,u64 a1,u64 a2,u64 a3,u64 a4,u64 a5]) (hi:E.ev ix=int (i:Nat)) (h:i < 6):Vl.Yields Tryz.prog o E (u64 ([a0,a1,a2,a3,a4,a5].getD i 0:Nat)):=by
 rcases (by omega:i=0∨i=1∨i=2∨i=3∨i=4∨i=5) with rfl | rfl | rfl | rfl | rfl | rfl
 all_goals exact JaL (C:=none) (by rw [ho];show JiW _ _ _ _=_;rw [hx,hi];rfl) trivial
set_option maxHeartbeats 2000000 in
theorem JnS (r:Rec) (hr:r.ok):Tells Tryz.prog 23 [Jag r,Jg false] (.ag (u8s (Jek r))):=by
 obtain ⟨h1,h2,h3,h4,h5,h6,h7,h8,h9⟩:=id hr
 refine Jc Tryz.func23 rfl rfl fun nx=> ?_
 (refine Jt ?_;refine Jv ?_;refine Jt ?_;refine Jv ?_;refine Jt ?_;refine Jv ?_;refine Jt ?_)
 refine AW.le (Je (n:=38) (nn:=4) (bx:= [((3,nx+3), .c (zs [] (4+60))),((2,nx+2), .c (zs [] 64)),((1,nx+1), .c [Jg false]),((0,nx), .c (Jaj r))]) (pm:= []) (L:= [(2, .bp (0,nx) 0),(4, .bp (2,nx+2) 0),(5, .bp (3,nx+3) 0),(6, .fn (.func 53) [] [.bp (3,nx+3) 0, .bp (1,nx+1) 0])]) _ [] rfl rfl Sf .slnil Bf trivial ⟨Rf,Rf,Rf,Rf,trivial⟩) ?_
 refine J4 (n:=38) (nx:=nx+4) (nn:=4) (pm:= []) (bx:= [((2,nx+2), .c (zs [] 64)),((3,nx+3), .c (zs [] (4+60)))]) (L:= [(2, .rp (Jaj r)),(4, .bp (2,nx+2) 0),(5, .bp (3,nx+3) 0),(6, .fn (.func 53) [] [.bp (3,nx+3) 0, .rp [Jg false]])]) (df:=some []) [((1,nx+1), .c [Jg false]),((0,nx), .c (Jaj r))] rfl rfl rfl ((List.perm_append_comm (l₁:= [((3,nx+3),Own.c (zs [] (4+60))),((2,nx+2),Own.c (zs [] 64))]) (l₂:= [((1,nx+1),Own.c [Jg false]),((0,nx),Own.c (Jaj r))])).trans (List.Perm.append_left [((1,nx+1),Own.c [Jg false]),((0,nx),Own.c (Jaj r))] (List.Perm.swap ((2,nx+2),Own.c (zs [] 64)) ((3,nx+3),Own.c (zs [] (4+60))) []))) Sf ⟨Frz.bp (.tail _ (.head _)) rfl,Frz.refl _,Frz.refl _,Frz.fn trivial ⟨Frz.refl _,Frz.bp (.head _) rfl,trivial⟩,trivial⟩ ?_
 unfold Jaj
 refine stp ?_
 refine Jac (xs:= [int (([]:List Nat).length:Nat),int (4:Nat),u64 (r.num:Nat), .bp (3,nx+3) 0, .rp [Jg false]]) [((2,nx+2), .c (zs [] 64))] [] 4 rfl rfl rfl rfl ⟨Rf,Rf,AVle.of_eq (congrArg u64 (w8u Om)),Rf,Rf,trivial⟩ (JhT [] 4 60 r.num Dc (.inr (.inr (.inl rfl))) Om (nx+3) (nx+4)) Bf Pf rfl fun r' h' hq=> ?_
 obtain ⟨nx1,nn1,rfl,rfl⟩:=hq
 refine stp ?_
 refine Jac (xs:= [int ((([]:List Nat)++JA 4 r.num).length:Nat),int (4:Nat),u64 (r.arch:Nat), .bp (3,nx+3) 0, .rp [Jg false]]) [((2,nx+2), .c (zs [] 64))] [] 4 rfl rfl rfl rfl ⟨Rf,Rf,AVle.of_eq (congrArg u64 (w8u Om)),Rf,Rf,trivial⟩ (JhT ([]++JA 4 r.num) 4 56 r.arch rfl (.inr (.inr (.inl rfl))) Om (nx+3) nx1) Bf Pf rfl fun r' h' hq=> ?_
 obtain ⟨nx2,nn2,rfl,rfl⟩:=hq
 refine stp ?_
 refine Jac (xs:= [int ((([]:List Nat)++JA 4 r.num++JA 4 r.arch).length:Nat),int (8:Nat),u64 (r.ptr:Nat), .bp (3,nx+3) 0, .rp [Jg false]]) [((2,nx+2), .c (zs [] 64))] [] 4 rfl rfl rfl rfl ⟨Rf,Rf,Rf,Rf,Rf,trivial⟩ (JhT ([]++JA 4 r.num++JA 4 r.arch) 8 48 r.ptr rfl (.inr (.inr (.inr rfl))) h3 (nx+3) nx2) Bf Pf rfl fun r' h' hq=> ?_
 obtain ⟨nx3,nn3,rfl,rfl⟩:=hq
 refine stp ?_
 refine Jr (fun y:Nat×Nat=> mk 38 [(4, .bp (2,nx+2) 0),(5, .bp (3,nx+3) 0),(6, .fn (.func 53) [] [.bp (3,nx+3) 0, .rp [Jg false]]),(25, .ag [u64 r.a0,u64 r.a1,u64 r.a2,u64 r.a3,u64 r.a4,u64 r.a5]),(26,int y.1)] ⟨[((2,nx+2), .c (zs [] 64)),((3,nx+3), .c (zs (JbJ r y.1) (48 - 8 * y.1)))], [],y.2,4⟩) (fun y=> y.1≤6) (fun y=> 6 - y.1) ?_ ?_
 ·exact ⟨(0,nx3),Nat.zero_le _,Je (pm:= []) _ [] rfl rfl Sf .slnil ⟨rfl,OwnLe.refl _,rfl,LeL.refl _,trivial⟩ trivial ⟨Rf,Rf,Rf,Rf,Rf,trivial⟩⟩
 ·rintro ⟨i,nx4⟩ hi6
  dsimp only at hi6
  refine stp ?_
  intro c g;cases c
  ·have g:=Jm g
   dsimp only at g
   obtain rfl:i=6:=by omega
   refine stp ?_
   exact Ji rfl ⟨rfl,trivial⟩ Rf
  ·have g:=Jl g
   dsimp only at g
   have hi:i < 6:=by omega
   have hlen:=JfA r (Nat.le_of_lt hi)
   refine Jt ?_
   refine J7 (fun n=> match n with | 2=> true | _=> false) 4 ?_
   refine stp ?_
   refine AOp.of_yields (JnR rfl rfl rfl hi) ?_
   refine stp ?_
   refine Jac (xs:= [int ((JbJ r i).length:Nat),int (8:Nat),u64 ([r.a0,r.a1,r.a2,r.a3,r.a4,r.a5].getD i 0:Nat), .bp (3,nx+3) 0, .rp [Jg false]]) [((2,nx+2), .c (zs [] 64))] [] 4 rfl rfl rfl rfl ⟨Jd ?_,Rf,Rf,Rf,Rf,trivial⟩ (JhT (JbJ r i) 8 (48 - 8 * (i+1)) _ Om (.inr (.inr (.inr rfl))) (JmH hr i) (nx+3) nx4) ⟨rfl,(by rw [show 8+(48 - 8 * (i+1))=48 - 8 * i by omega];exact LeL.refl _),trivial⟩ Pf rfl fun r' h' hq=> ?_
   ·rw [hlen,Jq (n:=8 * (i:Int)) Om Om,Jq Om Om];omega
   obtain ⟨nx5,nn5,rfl,rfl⟩:=hq
   refine stp ?_
   exact back (i+1,nx5) Dm Dm (Je (pm:= []) _ [] rfl rfl Sf .slnil ⟨rfl,OwnLe.refl _,rfl,(by dsimp only;rw [Jjp r hi];exact LeL.refl _),trivial⟩ trivial ⟨Rf,Rf,Rf,Rf,Jd (Jk Dm),trivial⟩)
end Go.Proofs.W

namespace Go.Proofs.W
open Go.Vl
set_option maxRecDepth 100000
def byI (i:Ins) (j:Nat):Nat:= [i.code % 256,i.code / 256,i.jt,i.jf,i.k % 256,i.k / 256 % 256,i.k / 65536 % 256,i.k / 16777216].getD j 0
def JdU (l:List Ins) (k:Nat):Nat:=byI (l.getD (k / 8) ins0) (k % 8)
def Jav (l:List Ins):List Nat:=(List.range (8 * l.length)).map (JdU l)
theorem JgS (l:List Ins):(Jav l).length=8 * l.length:=by simp [Jav]
theorem JdV (l:List Ins) (k:Nat) (h:k < 8 * l.length):(Jav l).getD k 0=JdU l k:=by
 simp [Jav,List.getD,h]
theorem JnT {P:Program} {ops:Array Oper} {B:List (Vl.Id×Own)} {o:Oper} {E:Env} {t e:TypeId} {n:Nat} {parts:Array (Nat×Operand)} {out:List AV} (hg:o.guard=none) (ho:o.op= .buildSlice t n parts)
 (hc:JaA P t n (parts.toList.map fun p=> (p.1,E.ev p.2))=some (e,out)):PureAll P ops B o E (.os (P.cellsOf e) n (Jbk P e out) none):=
 JeY (C:=none) hg (by rw [ho];simp only [JaM];exact JbQ hc) trivial
theorem JuB (a0 a1 a2 a3 a4 a5 a6 a7:Int):JaA Tryz.prog 45 8 [(0,u8 a0),(1,u8 a1),(2,u8 a2),(3,u8 a3),(4,u8 a4),(5,u8 a5),(6,u8 a6),(7,u8 a7)]=some (5, [u8 a0,u8 a1,u8 a2,u8 a3,u8 a4,u8 a5,u8 a6,u8 a7]):=by kernel_rfl
theorem cells_u8':Tryz.prog.cellsOf 5=1:=by kernel_rfl
theorem JkU:Tryz.prog.bytesOf 5=1:=by kernel_rfl
theorem Jke {x:Nat} (h:x < 4294967296):IntKind.i64.wrap (x:Int)=(x:Int):=Jq Om Om
theorem ow8 {x:Nat} (h:x < 256):IntKind.u8.wrap (x:Int)=(x:Int):=by simp [IntKind.wrap,IntKind.signed,IntKind.bits];omega
theorem otm {x y:Nat}:((x:Int).tmod (y:Int))=((x % y:Nat):Int):=rfl
theorem otd {x y:Nat}:((x:Int).tdiv (y:Int))=((x / y:Nat):Int):=rfl
def byV (x:Ins):List AV:= [u8 (IntKind.u8.wrap ((IntKind.i64.wrap (x.code:Int)).tmod 256)),u8 (IntKind.u8.wrap (IntKind.i64.wrap ((IntKind.i64.wrap (x.code:Int)).tdiv 256))),u8 x.jt,u8 x.jf,
 u8 (IntKind.u8.wrap ((IntKind.i64.wrap (x.k:Int)).tmod 256)),u8 (IntKind.u8.wrap ((IntKind.i64.wrap ((IntKind.i64.wrap (x.k:Int)).tdiv 256)).tmod 256)),
 u8 (IntKind.u8.wrap ((IntKind.i64.wrap ((IntKind.i64.wrap (x.k:Int)).tdiv 65536)).tmod 256)),u8 (IntKind.u8.wrap (IntKind.i64.wrap ((IntKind.i64.wrap (x.k:Int)).tdiv 16777216)))]
theorem JvE {x:Ins} (h:x.ok):byV x= [u8 (byI x 0:Nat),u8 (byI x 1:Nat),u8 (byI x 2:Nat),u8 (byI x 3:Nat),u8 (byI x 4:Nat),u8 (byI x 5:Nat),u8 (byI x 6:Nat),u8 (byI x 7:Nat)]:=by
 obtain ⟨c1,c2,c3,c4⟩:=h
 unfold byV
 rw [Jke (show x.code < 4294967296 by omega),Jke c4]
 rw [show (256:Int)=((256:Nat):Int) from rfl,show (65536:Int)=((65536:Nat):Int) from rfl,show (16777216:Int)=((16777216:Nat):Int) from rfl]
 rw [otm,otd,otm,otd,otd,otd,Jke (show x.code / 256 < 4294967296 by omega),Jke (show x.k / 256 < 4294967296 by omega),Jke (show x.k / 65536 < 4294967296 by omega),Jke (show x.k / 16777216 < 4294967296 by omega),otm,otm]
 rw [ow8 Om,ow8 Om,ow8 Om,ow8 Om,ow8 Om,ow8 Om]
 rfl
theorem JuC (x:Ins) (k:Nat) (hk:k < 8):Jbk Tryz.prog 5 (byV x) k=(byV x).getD k .any:=by
 match k,hk with
 | 0,_ | 1,_ | 2,_ | 3,_ | 4,_ | 5,_ | 6,_ | 7,_=> rfl
theorem Jjq (x:Ins):Jb7 8 (Jbk Tryz.prog 5 (byV x)):=fun k hk=> by
 match k,hk with
 | 0,_ | 1,_ | 2,_ | 3,_ | 4,_ | 5,_ | 6,_ | 7,_=> rfl
theorem Jua (l:List Ins) (i:Nat) (hk:(l.getD i ins0).ok) (f:Nat→AV) (hf:∀k,k < i * 8→f k=u8 (JdU l k:Nat)):∀k,k < (i+1) * 8→JbH (i * 8) f (Jbk Tryz.prog 5 (byV (l.getD i ins0))) k=u8 (JdU l k:Nat):=fun k h=> by
 unfold JbH
 cases hb:Nat.blt k (i * 8) with
 | true=> exact hf k (Nat.le_of_ble_eq_true hb)
 | false=>
   have hge:i * 8≤k:=by
    rcases Nat.lt_or_ge k (i * 8) with h1 | h1
    ·rw [show Nat.blt k (i * 8)=true from Nat.ble_eq_true_of_le h1] at hb;cases hb
    ·exact h1
   obtain ⟨j,rfl⟩:∃j,k=i * 8+j:=⟨k - i * 8,by omega⟩
   have hj:j < 8:=by omega
   show Jbk Tryz.prog 5 (byV (l.getD i ins0)) (i * 8+j - i * 8)=_
   rw [Nat.add_sub_cancel_left,JuC _ _ hj,JvE hk,JdU,show (i * 8+j) / 8=i by omega,show (i * 8+j) % 8=j by omega]
   match j,hj with
   | 0,_ | 1,_ | 2,_ | 3,_ | 4,_ | 5,_ | 6,_ | 7,_=> rfl
set_option maxHeartbeats 1000000 in
theorem JpE (l:List Ins) (hok:okL l) (hl:l.length≤1000000):Tells Tryz.prog 8 [Jan l] (JI (Jav l)):=by
 refine Jc Tryz.func8 rfl rfl fun nx=> ?_
 refine stp ?_
 refine Jr (fun s:Nat×Option Nat×Nat=> mk 59 [(0,Jan l),(3, .os 1 (s.1 * 8) (fun k=> u8 (JdU l k:Nat)) (nmd s.2.1)),(4,int s.1)] ⟨[],JaH (nmd s.2.1) (s.1 * 8),s.2.2,0⟩) (fun s=> s.1≤l.length∧(s.2.1=none→s.1=0)) (fun s=> l.length - s.1) ?_ ?_
 ·exact ⟨(0,none,nx),⟨by simp,fun _=> rfl⟩,JH rfl rfl ⟨Rf,AVle.os_nil,Rf,trivial⟩⟩
 ·rintro ⟨i,oi,nx2⟩ ⟨h3,h4⟩
  dsimp only at h3 h4
  refine stp ?_
  intro c h5;cases c
  ·have h6:=Jm h5
   dsimp only at h6
   obtain rfl:i=l.length:=by omega
   refine stp ?_
   refine Ja rfl ?_
   unfold JI Jai
   rw [JgS,Nat.mul_comm]
   exact AVle.os_sl.trans (AVle.sl_fun fun k hk=> by rw [JdV l k hk])
  ·have h6:=Jl h5
   dsimp only at h6
   have hi:i < l.length:=by omega
   have hk:=hok.get hi
   have c1:=hk.1
   have c2:=hk.2.1
   have c3:=hk.2.2.1
   have c4:=hk.2.2.2
   refine stp ?_
   (refine Jy 14 ?_ ?_ ?_ ?_;(· kernel_rfl);(· kernel_rfl);(· kernel_rfl))
   refine stp ?_
   refine ⟨⟨by dsimp only;omega,by dsimp only;omega⟩, ?_⟩
   refine stp ?_
   refine ⟨⟨by dsimp only;omega,by dsimp only;omega⟩, ?_⟩
   refine stp ?_
   refine Jah 33 [] (fun i=> match i with | 32=> true | _=> false) (fun i=> match i with | 31=> true | _=> false) [0,1,2,3,4,5,6,7,8,9,10,11,12,13,14,15,16,17,18,19,20,21,22,23,24,25,26,27,28,29,30,31,32] (by kernel_rfl) (by kernel_rfl) (fun _ _ _ h=> by cases h) ?_
   refine stp ?_
   refine ⟨⟨by dsimp only;omega,by dsimp only;omega⟩, ?_⟩
   refine stp ?_
   refine ⟨⟨by dsimp only;omega,by dsimp only;omega⟩, ?_⟩
   refine stp ?_
   refine ⟨_,JnT rfl rfl (JuB _ _ _ _ _ _ _ _), ?_⟩
   refine stp ?_
   rcases oi with _ | id
   ·obtain rfl:=h4 rfl
    refine ⟨_,Jgo (fun _ _ _ h=> by cases h) rfl rfl rfl (.inr ⟨_,rfl⟩) Tryz.underlying45 (by kernel_rfl) (.inl ⟨rfl,rfl⟩) (.inr cells_u8'.symm) (fun _ h=> by cases h) (Jjq (l.getD 0 ins0)) (fun _=> by rw [JkU];omega) (fun _=> by omega),fun r h' hr=> ?_⟩
    obtain ⟨-,rfl,rfl⟩:=hr.resolve_left (fun h=> absurd h.1 Dc)
    refine stp ?_
    exact back (0+1,some nx2,nx2+1) ⟨by dsimp only;omega,(fun h=> by cases h)⟩ Dm (Je (pm:= [((0,nx2),(0+1) * 8)]) [] _ rfl rfl Sf Sf trivial ⟨rfl,rfl,trivial⟩ ⟨Rf,AVle.os_fun (Jua l 0 hk _ (fun k h=> absurd h Om)),Jd (Jk Dm),trivial⟩)
   ·refine ⟨_,Jgo (fun _ _ _ h=> by cases h) rfl rfl rfl (.inr ⟨_,rfl⟩) Tryz.underlying45 (by kernel_rfl) (.inr cells_u8'.symm) (.inr cells_u8'.symm) (fun j hj=> by cases hj;show some (id,i * 8)=some (id,i * 8 * Tryz.prog.cellsOf 5);rw [cells_u8',Nat.mul_one]) (Jjq (l.getD i ins0)) (fun _=> by rw [JkU];dsimp only;omega) (fun _=> by dsimp only;omega),fun r h' hr=> ?_⟩
    obtain ⟨-,rfl,rfl⟩:=hr.resolve_left (fun h=> absurd h.1 Dc)
    refine stp ?_
    refine back (i+1,some nx2,nx2+1) ⟨by dsimp only;omega,(fun h=> by cases h)⟩ Dm (Je (pm:= [((0,nx2),(i+1) * 8)]) [] _ rfl rfl Sf Sf trivial ⟨rfl, ?_,trivial⟩ ⟨Rf,(AVle.of_eq (by show AV.os _ (i * 8+8) _ _=AV.os 1 ((i+1) * 8) _ _;rw [cells_u8',show i * 8+8=(i+1) * 8 by omega];rfl)).trans (AVle.os_fun (Jua l i hk _ (fun k _=> rfl))),Jd (Jk Dm),trivial⟩)
    show (i * 8+8) * Tryz.prog.cellsOf 5=(i+1) * 8
    rw [cells_u8'];omega
end Go.Proofs.W

namespace Go.Proofs.W
open Go.Vl
set_option maxRecDepth 100000
theorem JvF {x:Ins} (h:x.ok) (j:Nat):byI x j < 256:=by
 obtain ⟨c1,c2,c3,c4⟩:=h
 unfold byI
 match j with
 | 0=> show x.code % 256 < 256;omega
 | 1=> show x.code / 256 < 256;omega
 | 2=> exact c2
 | 3=> exact c3
 | 4=> show x.k % 256 < 256;omega
 | 5=> show x.k / 256 % 256 < 256;omega
 | 6=> show x.k / 65536 % 256 < 256;omega
 | 7=> show x.k / 16777216 < 256;omega
 | j+8=> show 0 < 256;decide
theorem Jxr {x:Nat} (h:x < 65536):IntKind.u16.wrap (x:Int)=(x:Int):=by simp [IntKind.wrap,IntKind.signed,IntKind.bits];omega
theorem Jxs {x:Nat} (h:x < 4294967296):IntKind.u32.wrap (x:Int)=(x:Int):=by simp [IntKind.wrap,IntKind.signed,IntKind.bits];omega
end Go.Proofs.W

namespace Go.Proofs.W
open Go.Vl
set_option maxRecDepth 100000
def chk (b:List Nat) (k:Nat):AV:= .sl 1 8 (fun j=> u8 (b.getD (8 * k+j) 0:Nat))
theorem JpF (b:List Nat) (n:Nat) (hb:b.length=8 * n) (hn:n≤100000):IterSpec Tryz.prog 86 [] [.rp [JI b], .rp [int 8]] (fun k:Nat=> [chk b k]) (List.range n):=by
 intro i σ Cb Cp I J hc s0 nx nn h0
 refine JS Tryz.func86 rfl rfl ?_
 refine stp ?_
 refine Jr (fun x:Nat×σ×Nat=> mk 31 [(0, .yl i),(1, .rp [JI b]),(2, .rp [int 8]),(4,int (8 * x.1:Nat))] ⟨Cb x.2.1,Cp x.2.1,x.2.2,nn⟩) (fun x=> x.1≤n∧I (List.range x.1) x.2.1) (fun x=> n - x.1) ?_ ?_
 ·exact ⟨(0,s0,nx),⟨Nat.zero_le _,h0⟩,JH rfl rfl ⟨Rf,Rf,Rf,Rf,trivial⟩⟩
 ·rintro ⟨j,s,nx'⟩ ⟨h1,h2⟩
  dsimp only at h1 h2
  refine stp ?_
  intro c g;cases c
  ·have g:=Jm g
   rw [hb] at g
   dsimp only at g
   obtain rfl:j=n:=by omega
   refine stp ?_
   exact Jz rfl ⟨s, .inl h2,rfl,rfl⟩
  ·have g:=Jl g
   rw [hb] at g
   dsimp only at g
   have hj:j < n:=by omega
   have hsp:List.range n=List.range j++j::(List.range' (j+1) (n - j - 1)):=by
    rw [List.range_eq_range',List.range_eq_range',show n=j+(n - j) by omega,List.range'_append_1.symm,Nat.zero_add,show n - j=(n - j - 1)+1 by omega,List.range'_succ]
    simp
   have hmin:min (8:Int) ((b.length - 8 * j:Nat):Int)=8:=by omega
   refine stp ?_
   (refine Jy 6 ?_ ?_ ?_ ?_;(· kernel_rfl);(· kernel_rfl);(· kernel_rfl))
   refine stp ?_
   refine ⟨⟨by dsimp only;omega,by dsimp only;omega⟩, ?_⟩
   refine Jt ?_
   refine AW.le (JH (n:=31) (h:=⟨Cb s,Cp s,nx',nn⟩) (L:= [(0, .yl i),(1, .rp [JI b]),(2, .rp [int 8]),(4,int (8 * j:Nat)),(5,int 8)]) rfl rfl ⟨Rf,Rf,Rf,Rf,Jd ?_,trivial⟩) ?_
   ·show (if (((b.length - (((8 * j:Nat):Int)).toNat:Nat):Int)) < 8 then _ else (8:Int))=8
    rw [if_neg (by rw [Int.toNat_natCast];omega)]
   have hw1:IntKind.i64.wrap (((8 * j:Nat):Int)+8)=((8 * j+8:Nat):Int):=by rw [Jq Om Om];omega
   refine J7 (fun n=> match n with | 0=> true | _=> false) 10 ?_
   refine stp ?_
   refine Jpc (sz:=1) (n:=b.length) (l:=8 * j) (n':=8) (f:=fun k=> u8 (b.getD k 0:Nat)) (k:= .i64) (k':= .i64) (k'':= .i64) rfl rfl rfl (congrArg (fun z=> AV.v (.int .i64 z)) hw1) (congrArg (fun z=> AV.v (.int .i64 z)) hw1) Tryz.underlying45 Tryz.underlying5 cells_u8'.symm Om Dc ?_
   refine stp ?_
   refine JbR (pre:=List.range j) (post:=List.range' (j+1) (n - j - 1)) (x:=j) (s:=s) [] [] rfl rfl rfl hc hsp h2 ⟨Rf,trivial⟩ (fun s' nx5 hI=> ?_) (fun s' nx5 hJ=> ?_)
   ·refine stp ?_
    exact back (j+1,s',nx5) ⟨by dsimp only;omega,by dsimp only;rw [List.range_succ];exact hI⟩ Dm (JH rfl rfl ⟨Rf,Rf,Rf,Jd (hw1.trans Om),trivial⟩)
   ·refine stp ?_
    exact Jz rfl ⟨s', .inr ⟨_,_,_,hsp,hJ⟩,rfl,rfl⟩
theorem JpG (b:List Nat):Tells Tryz.prog 44 [JI b,int 8] (.fn (.func 86) [] [.rp [JI b], .rp [int 8]]):=by
 refine Jc Tryz.func44 rfl rfl fun nx=> ?_
 (repeat ((conv=>whnf);first|refine ω0 ?_|refine ω1 ?_|refine ω2 ?_|refine ω3 ?_|refine ω4 rfl ?_|refine ω5 rfl ?_|refine ω6 ?_|refine ω7 ?_|refine ⟨rfl,?_⟩|refine ⟨trivial,?_⟩|refine ⟨⟨rfl,Nat.le_of_ble_eq_true rfl⟩,?_⟩|refine ⟨⟨by kernel_rfl,by kernel_rfl⟩,?_⟩|refine ⟨by decide,?_⟩|refine Jcd ?_|refine JbO ?_))
 refine AW.le (JaO (L:= [(4, .fn (.func 86) [] [.rp [JI b], .rp [int 8]])]) (bx:= []) (pm:= []) (nn:=2) [((1,nx+1), .c [int 8]),((0,nx), .c [JI b])] rfl rfl Sf .slnil ⟨Frz.fn trivial ⟨Frz.bp (.tail _ (.head _)) rfl,Frz.bp (.head _) rfl,trivial⟩,trivial⟩) ?_
 refine stp ?_
 exact Ja rfl Rf
end Go.Proofs.W

namespace Go.Proofs.W
open Go.Vl
set_option maxRecDepth 100000
def b8 (l:List Ins) (i:Nat):List Nat:=(List.range 8).map fun j=> (Jav l).getD (8 * i+j) 0
theorem Jf5 (l:List Ins) (i j:Nat) (hi:i < l.length) (hj:j < 8):(b8 l i).getD j 0=byI (l.getD i ins0) j:=by
 have:(b8 l i).getD j 0=(Jav l).getD (8 * i+j) 0:=by simp [b8,List.getD,hj]
 rw [this,JdV l _ Om,JdU,show (8 * i+j) / 8=i by omega,show (8 * i+j) % 8=j by omega]
theorem Jrm (l:List Ins) (i:Nat):AVle (chk (Jav l) i) (JI (b8 l i)):=by
 unfold chk JI Jai
 rw [show (b8 l i).length=8 by simp [b8]]
 exact AVle.sl_fun fun j hj=> by
  show u8 _=u8 _
  simp [b8,List.getD,hj]
theorem Jub (l:List Ins) (hok:okL l) (i:Nat) (hi:i < l.length):okB (b8 l i):=by
 intro x hx
 obtain ⟨j,hj,rfl⟩:=List.mem_map.1 hx
 have hj:=List.mem_range.1 hj
 rw [JdV l _ Om,JdU,show (8 * i+j) / 8=i by omega,show (8 * i+j) % 8=j by omega]
 exact JvF (hok.get hi) j
theorem Jxt (l:List Ins) (hok:okL l) (i:Nat) (hi:i < l.length):Tells Tryz.prog 45 [JI (b8 l i),int 0,int 2,Jg false] (.tup [u64 (l.getD i ins0).code,int 0]):=by
 have h:=JiD (b8 l i) (Jub l hok i hi) (by simp [b8]) 0 (by unfold okI;omega) 2 (by unfold okW;omega) false
 have h0:JbE (b8 l i).length 0 2=0:=by rw [show (b8 l i).length=8 by simp [b8]];decide
 rw [h0,if_pos rfl] at h
 have e:JbI (b8 l i) (Jx (Int.toNat 0) 2 false)=(l.getD i ins0).code:=by
  show (0 * 256+(b8 l i).getD 1 0) * 256+(b8 l i).getD 0 0=_
  rw [Jf5 l i 1 hi Dc,Jf5 l i 0 hi Dc]
  show (0 * 256+(l.getD i ins0).code / 256) * 256+(l.getD i ins0).code % 256=_
  omega
 rw [e] at h
 exact h
theorem Jxu (l:List Ins) (hok:okL l) (i:Nat) (hi:i < l.length):Tells Tryz.prog 45 [JI (b8 l i),int 4,int 4,Jg false] (.tup [u64 (l.getD i ins0).k,int 0]):=by
 have h:=JiD (b8 l i) (Jub l hok i hi) (by simp [b8]) 4 (by unfold okI;omega) 4 (by unfold okW;omega) false
 have h0:JbE (b8 l i).length 4 4=0:=by rw [show (b8 l i).length=8 by simp [b8]];decide
 rw [h0,if_pos rfl] at h
 have e:JbI (b8 l i) (Jx (Int.toNat 4) 4 false)=(l.getD i ins0).k:=by
  show (((0 * 256+(b8 l i).getD 7 0) * 256+(b8 l i).getD 6 0) * 256+(b8 l i).getD 5 0) * 256+(b8 l i).getD 4 0=_
  rw [Jf5 l i 4 hi Dc,Jf5 l i 5 hi Dc,Jf5 l i 6 hi Dc,Jf5 l i 7 hi Dc]
  show (((0 * 256+(l.getD i ins0).k / 16777216) * 256+(l.getD i ins0).k / 65536 % 256) * 256+(l.getD i ins0).k / 256 % 256) * 256+(l.getD i ins0).k % 256=_
  omega
 rw [e] at h
 exact h
theorem Juc (l:List Ins) (i:Nat) (hi:i < l.length) (h:(l.getD i ins0).ok):AV.ag [u16 (IntKind.u16.wrap ((l.getD i ins0).code:Int)),u8 ((Jav l).getD (8 * i+2) 0:Nat),u8 ((Jav l).getD (8 * i+3) 0:Nat),u32 (IntKind.u32.wrap ((l.getD i ins0).k:Int))]=JfP (l.getD i ins0):=by
 rw [Jxr h.1,Jxs h.2.2.2,JdV l _ Om,JdV l _ Om]
 unfold JdU
 rw [show (8 * i+2) / 8=i by omega,show (8 * i+2) % 8=2 by omega,show (8 * i+3) / 8=i by omega,show (8 * i+3) % 8=3 by omega]
 rfl
theorem JuD:Tryz.prog.bytesOf 123=8:=by kernel_rfl
set_option maxHeartbeats 1000000 in
theorem JkV (l:List Ins) (hok:okL l) (hl:l.length≤4096):Tells Tryz.prog 18 [JI (Jav l)] (.tup [Jan l,int 0]):=by
 have hlen:=JgS l
 refine Jc Tryz.func18 rfl rfl fun nx=> ?_
 refine stp ?_
 intro c g1;cases c
 rotate_left
 ·exact absurd (Jl g1) (by rw [hlen];omega)
 refine stp ?_
 intro c hc
 obtain rfl:c=false:=hc.trans (by rw [hlen];show (((8 * l.length:Nat):Int).tmod ((8:Nat):Int) !=0)=false;rw [otm];simp)
 refine stp ?_
 refine Jb rfl rfl (JpG (Jav l)) ⟨Rf,Rf,trivial⟩ fun nx1=> ?_
 refine stp ?_
 refine AW.le (Je (n:=47) (nx:=nx1) (nn:=1) (L:= [(4, .bp (0,nx) 0),(20, .fn (.func 86) [] [.rp [JI (Jav l)], .rp [int 8]])]) (pm:= []) (bx:= [((0,nx), .c [.os 4 0 (fun k=> JfP (l.getD k ins0)) none])]) _ [] rfl rfl Sf Sf ⟨rfl,⟨AVle.os_nil,trivial⟩,trivial⟩ trivial ⟨Rf,Rf,trivial⟩) ?_
 refine Jmd (σ:=Nat×(Nat→AV)×Option Vl.Id) (α:=Nat) (e:=fun k:Nat=> [chk (Jav l) k]) (xs:=List.range l.length) (first':= []) (caps':= [.rp [JI (Jav l)], .rp [int 8]])
  (fun x:Nat×(Nat→AV)×Option Vl.Id=> [((0,nx), .c [.os 4 x.1 x.2.1 x.2.2])]) (fun x=> JaH x.2.2 (x.1 * 4))
  (fun pre x=> x.1=pre.length∧(∀k,k < x.1→x.2.1 k=JfP (l.getD k ins0))∧(x.2.2=none→x.1=0)) (fun _ _ _=> False) (0,(fun k=> JfP (l.getD k ins0)),none) rfl rfl (JpF (Jav l) l.length hlen Om) trivial (LeL.refl _) rfl rfl ⟨rfl,(fun _ _=> rfl),fun _=> rfl⟩ (fun _=> rfl) ?_ ?_
 ·rintro pre x post ⟨i,f,oi⟩ nx3 nn3 hx ⟨hs1,hs3,hs2⟩
  dsimp only at hs1 hs2 hs3
  have hxi:x=i∧i < l.length:=by
   have h1:(List.range l.length)[i]? =some x:=by rw [hx,hs1];simp
   have h2:=(List.getElem?_eq_some_iff.1 h1).1
   rw [List.getElem?_range (by simpa using h2)] at h1
   simp at h1 h2
   exact ⟨h1.symm,h2⟩
  obtain ⟨rfl,hi⟩:=hxi
  have hk:=hok.get hi
  refine stp ?_
  refine Jb rfl rfl (Jxt l hok x hi) ⟨Jrm l x,Rf,Rf,Rf,trivial⟩ fun nx4=> ?_
  refine stp ?_
  refine Jb rfl rfl (Jxu l hok x hi) ⟨Jrm l x,Rf,Rf,Rf,trivial⟩ fun nx5=> ?_
  refine stp ?_
  rcases oi with _ | id
  ·obtain rfl:=hs2 rfl
   (refine Jy 13 ?_ ?_ ?_ ?_;(· kernel_rfl);(· kernel_rfl);(· kernel_rfl))
   refine stp ?_
   refine ⟨JZ rfl,by show (0+1) * 8≤_;omega,by dsimp only;omega, ?_⟩
   refine stp ?_
   refine ⟨(0+1,_,some _), .inl ⟨rfl,by simp [← hs1], ?_,fun h=> by cases h⟩,rfl,rfl⟩
   intro k hk2
   obtain rfl:k=0:=Nat.lt_one_iff.1 hk2
   exact Juc l 0 hi hk
  ·refine Juu 15 (fun i=> match i with | 13=> true | 14=> true | _=> false) (fun i=> match i with | 0=> true | _=> false) [0,1,2,3,4,5,6,7,8,9,10,11,12,13,14] (by kernel_rfl) (by kernel_rfl) ?_
   refine stp ?_
   refine ⟨_,Jhb rfl rfl ⟨rfl,Nat.zero_lt_one⟩, ?_⟩
   refine stp ?_
   refine ⟨_,Jaq (e:=123) (c:=4) (pm:= []) (n:=x) (oi:=some id) (sz:=4) (f:=f) (fun _ _ _ h=> by cases h) rfl rfl rfl (.inr ⟨_,rfl⟩) (by kernel_rfl) (by kernel_rfl) (by kernel_rfl) (.inr rfl) (by kernel_rfl) (List.append_nil _).symm (JZ rfl) (by rw [JuD];omega) Om,fun r h' hr=> ?_⟩
   obtain ⟨rfl,rfl⟩:=hr
   refine stp ?_
   refine ⟨_,Jfu (i:=(0,nx)) (off:=0) (cs:= [.os 4 x f (some id)]) rfl rfl rfl rfl rfl rfl rfl (by kernel_rfl) (by kernel_rfl) (by show 0+1≤1;omega) (fun _ _ _ h=> by cases h),fun r h' hr=> ?_⟩
   subst hr
   refine stp ?_
   refine ⟨(x+1,_,some _), .inl ⟨rfl,by simp [← hs1],JaT hs3 (Juc l x hi hk),fun h=> by cases h⟩,rfl,rfl⟩
 ·rintro ⟨i,f,oi⟩ nx3 nn3 ⟨hs1,hs3,hs2⟩
  dsimp only at hs1 hs3
  obtain rfl:i=l.length:=by simpa using hs1
  refine stp ?_
  exact Ja rfl (AVle.tups ⟨AVle.os_sl.trans (AVle.sl_fun hs3),Rf,trivial⟩)
end Go.Proofs.W

namespace Go.Proofs.W
def kind (l:List Ins) (n:Nat):Nat:=(kof (l.getD n ins0).code).1
structure Formed (l:List Ins):Prop where
 pos:0 < l.length
 le:l.length≤4096
 ok:∀n,n < l.length→wrongI (l.getD n ins0) (l.length - 1 - n)=0
 last:kind l (l.length - 1)=14∨kind l (l.length - 1)=15
theorem JfB {l:List Ins} (h:(JV l).2=0):Formed l:=by
 unfold JV at h
 split at h
 ·cases h
 split at h
 ·cases h
 split at h
 ·rename_i n hn
  have:=List.find?_some hn
  dsimp only at h this
  simp only [bne_iff_ne] at this
  exact absurd h this
 ·rename_i hn
  split at h
  ·rename_i hk
   refine ⟨by omega,by omega,fun n h1=> ?_,hk⟩
   rw [List.find?_range_eq_none] at hn
   simpa using hn n h1
  ·cases h
theorem JnU {l:List Ins} (h:(JV l).2≠0):¬Formed l:=fun hf=> h (by
 unfold JV
 rw [if_neg (by have:=hf.pos;omega),if_neg (by have:=hf.le;omega),List.find?_range_eq_none.2 (fun i hi=> by simpa using hf.ok i hi)]
 dsimp only
 have:=hf.last
 unfold kind at this
 rw [if_pos this])
def nextsI (l:List Ins) (n:Nat):List Nat:=
 if kind l n=14∨kind l n=15 then [] else if kind l n=13 then [n+1+(l.getD n ins0).k] else if 25≤kind l n then [n+1+(l.getD n ins0).jt,n+1+(l.getD n ins0).jf] else [n+1]
theorem Jbs {i:Ins} {r:Nat} (h:wrongI i r=0):(kof i.code).1≠0∧¬((kof i.code).1=1∧(i.k % 4≠0∨64≤i.k))∧¬(((kof i.code).1=3∨(kof i.code).1=6∨(kof i.code).1=8∨(kof i.code).1=9)∧16≤i.k)∧
 ¬(((kof i.code).1=13∧r≤i.k)∨(25≤(kof i.code).1∧(r≤i.jt∨r≤i.jf))):=by
 unfold wrongI at h
 generalize kof i.code = kk at *
 obtain ⟨k,x⟩:=kk
 dsimp only at h⊢
 split at h
 ·cases h
 split at h
 ·cases h
 split at h
 ·cases h
 split at h
 ·cases h
 split at h
 ·cases h
 split at h
 ·cases h
 exact ⟨by assumption,by assumption,by assumption,by assumption⟩
theorem JbT {l:List Ins} (hf:Formed l) {n:Nat} (hn:n < l.length):∀t∈nextsI l n,n < t∧t < l.length:=by
 have hw:=Jbs (hf.ok n hn)
 have hl:n=l.length - 1→kind l n=14∨kind l n=15:=fun h=> h ▸ hf.last
 have hk:(kof (l.getD n ins0).code).1=kind l n:=rfl
 rw [hk] at hw
 intro t ht
 unfold nextsI at ht
 split at ht
 ·simp at ht
 split at ht
 ·simp only [List.mem_singleton] at ht;omega
 split at ht
 ·simp only [List.mem_cons,List.not_mem_nil,or_false] at ht;omega
 ·simp only [List.mem_singleton] at ht;omega
def isStore (k:Nat):Prop:=k=8∨k=9
instance (k:Nat):Decidable (isStore k):=inferInstanceAs (Decidable (_∨_))
def Jhi (i:Ins) (a:Nat):Nat:=if isStore (kof i.code).1 then a||| 2 ^ i.k else a
def goI (now:Nat) (l:List Nat) (to:Nat):List Nat:=l.set to (l.getD to 0&&& now)
def JdW (l:List Ins) (a:List Nat) (n:Nat):List Nat:=(nextsI l n).foldl (goI (Jhi (l.getD n ins0) (a.getD n 0))) a
def Jgt (n:Nat):List Nat:=(List.replicate n 65535++List.replicate (4096 - n) 0).set 0 0
def atI (l:List Ins) (n:Nat):List Nat:=(List.range n).foldl (JdW l) (Jgt l.length)
def JT (l:List Ins):List Nat:=(atI l l.length).take l.length
theorem Jgu (l:List Ins) (n:Nat):atI l (n+1)=JdW l (atI l n) n:=by simp [atI,List.range_succ]
theorem JbK (now to:Nat) (l:List Nat):(goI now l to).length=l.length:=by simp [goI]
theorem JgT (now:Nat):∀(ts:List Nat) (l:List Nat),(ts.foldl (goI now) l).length=l.length
 | [],_=> rfl
 | t::ts,l=> by rw [List.foldl_cons,JgT now ts,JbK]
theorem JmJ {n:Nat} (h:n≤4096):(Jgt n).length=4096:=by simp [Jgt];omega
theorem Jgv {l:List Ins} (hf:l.length≤4096) (n:Nat):(atI l n).length=4096:=by
 induction n with
 | zero=> exact JmJ hf
 | succ n ih=> rw [Jgu,JdW,JgT,ih]
theorem JoK (now to:Nat) (l:List Nat) (k:Nat):(goI now l to).getD k 0=if to=k∧to < l.length then l.getD to 0&&& now else l.getD k 0:=by
 simp only [goI,List.getD,List.getElem?_set]
 by_cases h1:to=k
 ·subst h1
  by_cases h2:to < l.length
  ·simp [h2]
  ·simp [h2,List.getElem?_eq_none (Nat.le_of_not_lt h2)]
 ·simp [h1]
def JfC (l:List Nat):Prop:=∀k,l.getD k 0 < 65536
theorem JkW {now to:Nat} {l:List Nat} (h:JfC l):JfC (goI now l to):=by
 intro k
 rw [JoK]
 split
 ·exact Nat.lt_of_le_of_lt Nat.and_le_left (h to)
 ·exact h k
theorem Jhj {now:Nat}:∀ {ts:List Nat} {l:List Nat},JfC l→JfC (ts.foldl (goI now) l)
 | [],_,h=> h
 | t::ts,l,h=> by rw [List.foldl_cons];exact Jhj (JkW h)
theorem JkX {n k:Nat} (h:n≤4096):(Jgt n).getD k 0=if 0 < k∧k < n then 65535 else 0:=by
 simp only [Jgt,List.getD,List.getElem?_set]
 by_cases h1:0=k
 ·subst h1;simp;split <;> simp
 ·rw [if_neg h1]
  by_cases h2:k < n
  ·rw [List.getElem?_append_left (by simpa using h2)]
   simp [h2];omega
  ·rw [List.getElem?_append_right (by simpa using h2)]
   rw [if_neg Om]
   simp [List.getElem?_replicate]
   split <;> simp
theorem JnV {n:Nat} (h:n≤4096):JfC (Jgt n):=by
 intro k;rw [JkX h];split <;> omega
theorem JkY {l:List Ins} (hf:l.length≤4096) (n:Nat):JfC (atI l n):=by
 induction n with
 | zero=> exact JnV hf
 | succ n ih=> rw [Jgu];exact Jhj ih
theorem Jrn {i:Ins} {a r:Nat} (ha:a < 65536) (hw:wrongI i r=0):Jhi i a < 65536:=by
 unfold Jhi
 split
 ·rename_i h
  have h2:=(Jbs hw).2.2.1
  unfold isStore at h
  have h3:i.k < 16:=by omega
  exact Nat.or_lt_two_pow (n:=16) ha (Nat.pow_lt_pow_right Dc h3)
 ·exact ha
def checkI (l:List Ins):Nat×Nat:=
 if (JV l).2≠0 then JV l
 else match (List.range l.length).find? (fun n=> decide ((kind l n=3∨kind l n=6)∧(JT l).getD n 0 / 2 ^ (l.getD n ins0).k % 2=0)) with
  | some n=> (n,12)
  | none=> (0,0)
end Go.Proofs.W

namespace Go.Proofs.W
inductive Rch (l:List Ins) (stop:Nat→Bool):Nat→Prop
 | zero:Rch l stop 0
 | step (n t:Nat) (h:Rch l stop n) (hs:stop n=false) (ht:t∈nextsI l n):Rch l stop t
theorem Rch.lt {l:List Ins} {stop:Nat→Bool} (hf:Formed l) {n:Nat} (h:Rch l stop n):n < l.length:=by
 induction h with
 | zero=> exact hf.pos
 | step n t _ _ ht ih=> exact (JbT hf ih t ht).2
def Jbi (o:List Bool) (t:Nat):List Bool:=o.set t true
def Jc0 (l:List Ins) (stop:Nat→Bool) (o:List Bool) (n:Nat):List Bool:=if o.getD n false&& !stop n then (nextsI l n).foldl Jbi o else o
def JfD (n:Nat):List Bool:=Jbi (List.replicate n false) 0
def Jbl (l:List Ins) (stop:Nat→Bool) (k:Nat):List Bool:=(List.range k).foldl (Jc0 l stop) (JfD l.length)
def JbU (l:List Ins) (stop:Nat→Bool):List Bool:=Jbl l stop l.length
def Jjr (l:List Ins):List Bool:=JbU l fun _=> false
theorem JmK (o:List Bool) (t k:Nat):(Jbi o t).getD k false=(o.getD k false|| (decide (t=k)&& decide (t < o.length))):=by
 simp only [Jbi,List.getD,List.getElem?_set]
 by_cases h1:t=k
 ·subst h1
  by_cases h2:t < o.length
  ·simp [h2]
  ·simp [h2,List.getElem?_eq_none (Nat.le_of_not_lt h2)]
 ·simp [h1]
theorem JfR (o:List Bool) (t:Nat):(Jbi o t).length=o.length:=by simp [Jbi]
theorem Jc1:∀(ts:List Nat) (o:List Bool),(ts.foldl Jbi o).length=o.length
 | [],_=> rfl
 | t::ts,o=> by rw [List.foldl_cons,Jc1 ts,JfR]
theorem Jhk:∀(ts:List Nat) (o:List Bool) (k:Nat),(∀t∈ts,t < o.length)→((ts.foldl Jbi o).getD k false=true↔o.getD k false=true∨k∈ts)
 | [],o,k,_=> by simp
 | t::ts,o,k,h=> by
   rw [List.foldl_cons,Jhk ts (Jbi o t) k (fun x hx=> by rw [JfR];exact h x (by simp [hx])),JmK]
   have ht:=h t (by simp)
   rw [show (decide (t=k))=decide (k=t) from decide_eq_decide.2 eq_comm]
   simp [ht,or_assoc]
theorem JdX (l:List Ins) (stop:Nat→Bool) (k:Nat):Jbl l stop (k+1)=Jc0 l stop (Jbl l stop k) k:=by simp [Jbl,List.range_succ]
theorem Jjs (l:List Ins) (stop:Nat→Bool) (o:List Bool) (n:Nat):(Jc0 l stop o n).length=o.length:=by
 unfold Jc0;split
 ·exact Jc1 _ _
 ·rfl
theorem JdY (l:List Ins) (stop:Nat→Bool) (k:Nat):(Jbl l stop k).length=l.length:=by
 induction k with
 | zero=> simp [Jbl,JfD,JfR]
 | succ k ih=> rw [JdX,Jjs,ih]
theorem Jhl {n:Nat} (hn:0 < n) (k:Nat):(JfD n).getD k false=true↔k=0:=by
 rw [JfD,JmK]
 have:(List.replicate n false).getD k false=false:=by
  simp only [List.getD,List.getElem?_replicate];split <;> rfl
 rw [this]
 simp [hn,eq_comm]
theorem Jth {l:List Ins} (hf:Formed l) (stop:Nat→Bool):∀k,k≤l.length→∀n,(Jbl l stop k).getD n false=true↔n=0∨∃m,m < k∧Rch l stop m∧stop m=false∧n∈nextsI l m:=by
 intro k
 induction k with
 | zero=> intro _ n;rw [show Jbl l stop 0=JfD l.length from rfl,Jhl hf.pos];simp
 | succ k ih=>
   intro hk n
   have hR:(Jbl l stop k).getD k false=true↔Rch l stop k:=by
    rw [ih Om]
    constructor
    ·rintro (h | ⟨m,_,h1,h2,h3⟩)
     ·subst h;exact .zero
     ·exact .step m k h1 h2 h3
    ·intro h
     cases h with
     | zero=> exact .inl rfl
     | step m _ h1 h2 h3=> exact .inr ⟨m,(JbT hf (h1.lt hf) k h3).1,h1,h2,h3⟩
   rw [JdX,Jc0]
   split
   ·rename_i h
    simp only [Bool.and_eq_true,Bool.not_eq_true'] at h
    rw [Jhk _ _ _ (fun t ht=> by rw [JdY];exact (JbT hf Om t ht).2),ih Om]
    constructor
    ·rintro ((h1 | ⟨m,h1,h2⟩) | h1)
     ·exact .inl h1
     ·exact .inr ⟨m,by omega,h2⟩
     ·exact .inr ⟨k,by omega,hR.1 h.1,h.2,h1⟩
    ·rintro (h1 | ⟨m,h1,h2,h3,h4⟩)
     ·exact .inl (.inl h1)
     ·rcases Nat.lt_or_ge m k with h5 | h5
      ·exact .inl (.inr ⟨m,h5,h2,h3,h4⟩)
      ·obtain rfl:m=k:=by omega
       exact .inr h4
   ·rename_i h
    simp only [Bool.and_eq_true,Bool.not_eq_true'] at h
    rw [ih Om]
    constructor
    ·rintro (h1 | ⟨m,h1,h2⟩)
     ·exact .inl h1
     ·exact .inr ⟨m,by omega,h2⟩
    ·rintro (h1 | ⟨m,h1,h2,h3,h4⟩)
     ·exact .inl h1
     ·rcases Nat.lt_or_ge m k with h5 | h5
      ·exact .inr ⟨m,h5,h2,h3,h4⟩
      ·obtain rfl:m=k:=by omega
       exact absurd ⟨hR.2 h2,h3⟩ h
theorem Jgw {l:List Ins} (hf:Formed l) (stop:Nat→Bool) (n:Nat):(JbU l stop).getD n false=true↔Rch l stop n:=by
 rw [JbU,Jth hf stop l.length (Nat.le_refl _)]
 constructor
 ·rintro (h | ⟨m,_,h1,h2,h3⟩)
  ·subst h;exact .zero
  ·exact .step m n h1 h2 h3
 ·intro h
  cases h with
  | zero=> exact .inl rfl
  | step m _ h1 h2 h3=> exact .inr ⟨m,h1.lt hf,h1,h2,h3⟩
theorem JgU (l:List Ins) (stop:Nat→Bool):(JbU l stop).length=l.length:=JdY l stop l.length
theorem Jlq (l:List Ins):(Jjr l).length=l.length:=JgU l _
abbrev Reached (l:List Ins) (n:Nat):Prop:=Rch l (fun _=> false) n
theorem JpH {l:List Ins} (hf:Formed l) (n:Nat):(Jjr l).getD n false=true↔Reached l n:=Jgw hf _ n
end Go.Proofs.W

namespace Go.Proofs.W
def Jbw (l:List Ins) (c:Nat) (n:Nat):Bool:=decide (isStore (kind l n))&& decide ((l.getD n ins0).k=c)
theorem JmL (now c:Nat):∀(ts:List Nat) (a:List Nat) (n:Nat),(∀t∈ts,t < a.length)→((ts.foldl (goI now) a).getD n 0).testBit c=((a.getD n 0).testBit c&& (!decide (n∈ts)|| now.testBit c))
 | [],a,n,_=> by simp
 | t::ts,a,n,h=> by
   rw [List.foldl_cons,JmL now c ts (goI now a t) n (fun x hx=> by rw [JbK];exact h x (by simp [hx])),JoK]
   have ht:=h t (by simp)
   by_cases h1:t=n
   ·subst h1
    rw [if_pos ⟨rfl,ht⟩,Nat.testBit_and]
    by_cases h2:t∈ts <;> cases (a.getD t 0).testBit c <;> cases now.testBit c <;> simp [h2]
   ·rw [if_neg (fun h=> h1 h.1)]
    have h3:decide (n∈t::ts)=decide (n∈ts):=decide_eq_decide.2 (by rw [List.mem_cons];exact ⟨fun h=> h.resolve_left fun h2=> h1 h2.symm, .inr⟩)
    rw [h3]
theorem Jro:∀(ts:List Nat) (o:List Bool) (k:Nat),(∀t∈ts,t < o.length)→(ts.foldl Jbi o).getD k false=(o.getD k false|| decide (k∈ts)):=fun ts o k h=> by
 rw [Bool.eq_iff_iff,Jhk ts o k h];simp
theorem Jti {n k c:Nat} (hn:n≤4096) (hk:k < n) (hc:c < 16):((Jgt n).getD k 0).testBit c= !(JfD n).getD k false:=by
 rw [JkX hn]
 by_cases h:k=0
 ·subst h
  rw [(Jhl hk 0).2 rfl];simp
 ·have h1:(JfD n).getD k false=false:=by
   cases h2:(JfD n).getD k false
   ·rfl
   ·exact absurd ((Jhl Om k).1 h2) h
  rw [h1,if_pos ⟨by omega,hk⟩]
  show (2 ^ 16 - 1).testBit c=_
  rw [Nat.testBit_two_pow_sub_one];simp [hc]
theorem JuE {l:List Ins} (n c a:Nat):(Jhi (l.getD n ins0) a).testBit c=(a.testBit c|| Jbw l c n):=by
 unfold Jhi Jbw
 have hk:(kof (l.getD n ins0).code).1=kind l n:=rfl
 rw [hk]
 by_cases h:isStore (kind l n)
 ·rw [if_pos h,Nat.testBit_or,Nat.testBit_two_pow];simp [h]
 ·rw [if_neg h];simp [h]
theorem JuF {l:List Ins} (hf:Formed l) {c:Nat} (hc:c < 16):∀k,k≤l.length→∀n,n < l.length→((atI l k).getD n 0).testBit c= !(Jbl l (Jbw l c) k).getD n false:=by
 intro k
 induction k with
 | zero=> intro _ n hn;exact Jti hf.le hn hc
 | succ k ih=>
   intro hk n hn
   have hnx:=JbT hf (n:=k) Om
   rw [Jgu,JdX,JdW,Jc0,JmL _ _ _ _ _ (fun t ht=> by rw [Jgv hf.le];have:=hnx t ht;have:=hf.le;omega),JuE,ih Om n hn,ih Om k Om]
   split
   ·rename_i h
    rw [Jro _ _ _ (fun t ht=> by rw [JdY];exact (hnx t ht).2)]
    simp only [Bool.and_eq_true,Bool.not_eq_true'] at h
    rw [h.1,h.2]
    cases (Jbl l (Jbw l c) k).getD n false <;> cases decide (n∈nextsI l k) <;> rfl
   ·rename_i h
    cases h1:(Jbl l (Jbw l c) k).getD k false <;> cases h2:Jbw l c k
    ·simp
    ·simp
    ·rw [h1,h2] at h;exact absurd rfl h
    ·simp
theorem Jjt {l:List Ins} (hf:Formed l) {c n:Nat} (hc:c < 16) (hn:n < l.length):((JT l).getD n 0).testBit c=true↔¬Rch l (Jbw l c) n:=by
 have h1:(JT l).getD n 0=(atI l l.length).getD n 0:=by
  unfold JT;simp only [List.getD,List.getElem?_take];rw [if_pos hn]
 rw [h1,JuF hf hc l.length (Nat.le_refl _) n hn,Bool.not_eq_true',← Jgw hf]
 show JbU l _ |>.getD n false |> fun x => x = false ↔ _
 simp [JbU]
def JpI (l:List Ins):Prop:=Formed l∧∀n,n < l.length→kind l n=3∨kind l n=6→¬Rch l (Jbw l (l.getD n ins0).k) n
theorem Jhm {l:List Ins}:(checkI l).2=0↔JpI l:=by
 have key:∀(hf:Formed l) n,n < l.length→kind l n=3∨kind l n=6→((JT l).getD n 0 / 2 ^ (l.getD n ins0).k % 2=0↔Rch l (Jbw l (l.getD n ins0).k) n):=by
  intro hf n hn hk
  have hk16:(l.getD n ins0).k < 16:=by
   have:=(Jbs (hf.ok n hn)).2.2.1
   have hkd:(kof (l.getD n ins0).code).1=kind l n:=rfl
   omega
  have h1:=Jjt hf hk16 hn
  rw [Nat.testBit_eq_decide_div_mod_eq,decide_eq_true_eq] at h1
  constructor
  ·intro h
   refine Classical.byContradiction fun h2=> ?_
   have:=h1.2 h2
   omega
  ·intro h
   have h3:¬((JT l).getD n 0 / 2 ^ (l.getD n ins0).k % 2=1):=fun h2=> h1.1 h2 h
   omega
 constructor
 ·intro h
  unfold checkI at h
  split at h
  ·exact absurd h (by assumption)
  ·rename_i h0
   have hf:Formed l:=JfB Om
   split at h
   ·cases h
   ·rename_i hn
    rw [List.find?_range_eq_none] at hn
    refine ⟨hf,fun n hnl hk hr=> ?_⟩
    have:=hn n hnl
    simp only [Bool.not_eq_true',decide_eq_false_iff_not] at this
    exact this ⟨hk,(key hf n hnl hk).2 hr⟩
 ·rintro ⟨hf,h⟩
  unfold checkI
  rw [if_neg (fun h0=> JnU h0 hf)]
  rw [List.find?_range_eq_none.2 (fun i hi=> by
   simp only [Bool.not_eq_true',decide_eq_false_iff_not]
   rintro ⟨h1,h2⟩
   exact h i hi h1 ((key hf i hi h1).1 h2))]
end Go.Proofs.W

namespace Go.Proofs.W
open Go.Vl
structure Rn where
 at':Nat
 a:Nat
 x:Nat
 cells:List Nat
 steps:Nat
 loads:List Nat
def rn0:Rn:=⟨0,0,0,List.replicate 16 0,0, []⟩
def JdZ (b:List Nat) (k:Nat):Nat:=JbI b (Jx k 4 false)
theorem JmM {b:List Nat} (hb:okB b) (k:Nat):JdZ b k < 4294967296:=by
 have:=JhR hb (Jx k 4 false)
 rw [Ja4] at this
 exact this
def JeR (i:Ins) (s:Rn):Nat:=if (kof i.code).2 then s.x else i.k
def Jex (k a n:Nat):Option Nat:=
 match k with
 | 16=> some ((a+n) % 4294967296)
 | 17=> some ((a+4294967296 - n) % 4294967296)
 | 18=> some (a * n % 4294967296)
 | 19=> if n=0 then none else some (a / n)
 | 20=> some (a||| n)
 | 21=> some (a&&& n)
 | 22=> some (a * 2 ^ (n % 32) % 4294967296)
 | 23=> some (a / 2 ^ (n % 32))
 | _=> some (a ^^^ n)
def JC (k a n:Nat):Bool:=
 match k with
 | 25=> decide (a=n)
 | 26=> decide (a > n)
 | 27=> decide (a≥n)
 | _=> decide (a&&& n≠0)
def doV (b:List Nat) (i:Ins) (s:Rn):Option Nat×Rn:=
 match (kof i.code).1 with
 | 1=> (none, { s with a:=JdZ b i.k,loads:=s.loads++ [i.k]})
 | 2=> (none, { s with a:=i.k})
 | 3=> (none, { s with a:=s.cells.getD i.k 0})
 | 4=> (none, { s with a:=64})
 | 5=> (none, { s with x:=i.k})
 | 6=> (none, { s with x:=s.cells.getD i.k 0})
 | 7=> (none, { s with x:=64})
 | 8=> (none, { s with cells:=s.cells.set i.k s.a})
 | 9=> (none, { s with cells:=s.cells.set i.k s.x})
 | 10=> (none, { s with x:=s.a})
 | 11=> (none, { s with a:=s.x})
 | 12=> (none, { s with a:=(4294967296 - s.a) % 4294967296})
 | 13=> (none, { s with at':=s.at'+i.k})
 | 14=> (some i.k,s)
 | 15=> (some s.a,s)
 | k=> if k < 25 then (match Jex k s.a (JeR i s) with | some v=> (none, { s with a:=v}) | none=> (some 0,s))
   else (none, { s with at':=s.at'+if JC k s.a (JeR i s) then i.jt else i.jf})
def Jda (b:List Nat) (l:List Ins) (s:Rn):Option Nat×Rn:=doV b (l.getD s.at' ins0) { s with at':=s.at'+1,steps:=s.steps+1}
def runV (b:List Nat) (l:List Ins):Nat→Rn→Nat×Rn
 | 0,s=> (0,s)
 | f+1,s=> match Jda b l s with
   | (some v,s')=> (v,s')
   | (none,s')=> runV b l f s'
structure Rn.ok (s:Rn):Prop where
 a:s.a < 4294967296
 x:s.x < 4294967296
 n:s.cells.length=16
 c:∀v∈s.cells,v < 4294967296
theorem JmN:rn0.ok:=⟨by decide,by decide,by decide,by simp [rn0]⟩
theorem Rn.ok.get {s:Rn} (h:s.ok) (k:Nat):s.cells.getD k 0 < 4294967296:=by
 rcases Nat.lt_or_ge k s.cells.length with hk | hk
 ·have e:s.cells.getD k 0=s.cells[k]:=by simp [List.getD,hk]
  rw [e];exact h.c _ (List.getElem_mem hk)
 ·simp [List.getD,List.getElem?_eq_none hk]
theorem Jkf {i:Ins} {s:Rn} (hi:i.ok) (hs:s.ok):JeR i s < 4294967296:=by
 unfold JeR
 split
 ·exact hs.x
 ·exact hi.2.2.2
theorem Jtj {k a n v:Nat} (ha:a < 4294967296) (hn:n < 4294967296) (h:Jex k a n=some v):v < 4294967296:=by
 unfold Jex at h
 split at h <;> first | (cases h;done) | skip
 all_goals first
  | (split at h <;> first | (cases h;done) | skip;cases h;exact Nat.lt_of_le_of_lt (Nat.div_le_self _ _) ha)
  | (cases h;exact Nat.mod_lt _ Dc)
  | (cases h;exact Nat.lt_of_le_of_lt Nat.and_le_left ha)
  | (cases h;exact Nat.lt_of_le_of_lt (Nat.div_le_self _ _) ha)
  | (cases h;exact Nat.or_lt_two_pow (n:=32) ha hn)
  | (cases h;exact Nat.xor_lt_two_pow (n:=32) ha hn)
theorem JmO {b:List Nat} (hb:okB b) {i:Ins} (hi:i.ok) {s:Rn} (hs:s.ok):(doV b i s).2.ok:=by
 unfold doV
 split
 all_goals first
  | exact ⟨JmM hb _,hs.x,hs.n,hs.c⟩
  | exact ⟨hi.2.2.2,hs.x,hs.n,hs.c⟩
  | exact ⟨hs.get _,hs.x,hs.n,hs.c⟩
  | exact ⟨(by show 64 < 4294967296;decide),hs.x,hs.n,hs.c⟩
  | exact ⟨hs.a,hi.2.2.2,hs.n,hs.c⟩
  | exact ⟨hs.a,hs.get _,hs.n,hs.c⟩
  | exact ⟨hs.a,(by show 64 < 4294967296;decide),hs.n,hs.c⟩
  | exact ⟨hs.a,hs.x,by simp [hs.n],fun v hv=> (List.mem_or_eq_of_mem_set hv).elim (hs.c v) (fun e=> e ▸ hs.a)⟩
  | exact ⟨hs.a,hs.x,by simp [hs.n],fun v hv=> (List.mem_or_eq_of_mem_set hv).elim (hs.c v) (fun e=> e ▸ hs.x)⟩
  | exact ⟨hs.a,hs.a,hs.n,hs.c⟩
  | exact ⟨hs.x,hs.x,hs.n,hs.c⟩
  | exact ⟨Nat.mod_lt _ Dc,hs.x,hs.n,hs.c⟩
  | exact ⟨hs.a,hs.x,hs.n,hs.c⟩
  | exact hs
  | skip
 split
 ·split
  ·rename_i v h
   exact ⟨Jtj hs.a (Jkf hi hs) h,hs.x,hs.n,hs.c⟩
  ·exact hs
 ·exact ⟨hs.a,hs.x,hs.n,hs.c⟩
theorem JvG {b:List Nat} {i:Ins} {s s':Rn} (h:doV b i s=(none,s')):s'.steps=s.steps∧((s'.at'=s.at'∧(kof i.code).1≠13∧(kof i.code).1≠14∧(kof i.code).1≠15∧(kof i.code).1 < 25)∨
 ((kof i.code).1=13∧s'.at'=s.at'+i.k)∨(25≤(kof i.code).1∧(s'.at'=s.at'+i.jt∨s'.at'=s.at'+i.jf))):=by
 unfold doV at h
 split at h
 all_goals first
  | (cases h;done)
  | (cases h;refine ⟨rfl, .inl ⟨rfl, ?_⟩⟩;omega)
  | (cases h;refine ⟨rfl, .inr (.inl ⟨?_,rfl⟩)⟩;assumption)
  | skip
 split at h
 ·split at h
  ·cases h
   exact ⟨rfl, .inl ⟨rfl,by assumption,by assumption,by assumption,by assumption⟩⟩
  ·cases h
 ·cases h
  refine ⟨rfl, .inr (.inr ⟨by omega, ?_⟩)⟩
  dsimp only
  split
  ·exact .inl rfl
  ·exact .inr rfl
theorem Je0 {b:List Nat} {l:List Ins} {s s':Rn} (h:Jda b l s=(none,s')):s'.at'∈nextsI l s.at'∧s'.steps=s.steps+1:=by
 have hk0:kind l s.at'=(kof (l.getD s.at' ins0).code).1:=rfl
 obtain ⟨h1,h2⟩:=JvG h
 refine ⟨?_,h1⟩
 dsimp only at h2
 unfold nextsI
 rw [hk0]
 rcases h2 with ⟨h3,h4,h5,h6,h7⟩ | ⟨h3,h4⟩ | ⟨h3,h4⟩
 ·rw [if_neg Om,if_neg Om,if_neg Om,h3];simp
 ·rw [if_neg Om,if_pos h3,h4];simp
 ·rw [if_neg Om,if_neg Om,if_pos h3]
  rcases h4 with h4 | h4 <;> rw [h4] <;> simp
end Go.Proofs.W

namespace Go.Proofs.W
open Go.Vl
set_option maxRecDepth 100000
def uA (n:Nat):AV:=u16 n
theorem u49:Tryz.prog.underlying 82=some (.int .u16):=by kernel_rfl
theorem b49:Tryz.prog.bytesOf 82=2:=by kernel_rfl
theorem c49:Tryz.prog.cellsOf 82=1:=by kernel_rfl
theorem JdK (s0 s1 s2 nx nn:Nat) (i:Ins) (now to:Nat) (a:List Nat) (ht:to < a.length) (hl:a.length=4096) (ha:JfC a) (hn:now < 65536):
 ECall Tryz.prog 90 [int to, .bp (0,s0) 0, .bp (2,s2) 0] ⟨[((2,s2), .c [u16 now]),((1,s1), .c (JfP i).cells),((0,s0), .c (a.map uA))], [],nx,nn⟩ fun _ h'=>
  ∃k,h'=⟨[((2,s2), .c [u16 now]),((1,s1), .c (JfP i).cells),((0,s0), .c ((goI now a to).map uA))], [],nx,k⟩:=by
 refine JS Tryz.func90 rfl rfl ?_
 refine stp ?_
 (refine Jy 6 ?_ ?_ ?_ ?_;(· kernel_rfl);(· kernel_rfl);(· kernel_rfl))
 (conv=> whnf)
 refine ⟨⟨by omega,by omega⟩, ?_⟩
 have he:(0+(Int.toNat (to:Int)) * Tryz.prog.cellsOf 82)=to:=by rw [c49];omega
 refine Jh (b:= .bp (0,s0) to) (congrArg (AV.bp (0,s0)) he) ?_
 refine stp ?_
 (conv=> whnf)
 refine ⟨⟨rfl,by simpa using ht⟩,Jh (b:=u16 (a.getD to 0)) (Jce ht) ?_⟩
 refine stp ?_
 (conv=> whnf)
 refine ⟨⟨by omega,by omega⟩,Jh (b:= .bp (0,s0) to) (congrArg (AV.bp (0,s0)) he) ?_⟩
 refine stp ?_
 have hb:JU .and .u16 (a.getD to 0:Nat) now=((a.getD to 0&&& now:Nat):Int):=Jdy (ha to) hn
 have hsp:JN (a.map uA) to [AV.v (.int .u16 (JU .and .u16 (a.getD to 0:Nat) now))]=(goI now a to).map uA:=by rw [hb];exact JaP ht
 (conv=> whnf)
 refine ⟨⟨rfl,by simp;omega⟩, ?_⟩
 rw [hsp]
 refine stp ?_
 exact Jz rfl ⟨_,rfl⟩
theorem OwnLe.of_eq {a b:Own} (h:a=b):OwnLe a b:=h ▸ OwnLe.refl a
theorem JuG {n m:Nat} {f g g':Nat→AV} {oi:Option Vl.Id} (h:m=n) (hg:∀k,k < n→g k=g' k):AVle (.os 1 (0+n) (JbH 0 f g) oi) (.sl 1 m g'):=by
 subst h
 rw [Nat.zero_add]
 exact AVle.os_sl.trans (AVle.sl_fun fun k hk=> by rw [← hg k hk];rfl)
theorem Jxv:Jfb Tryz.prog 189=some (List.replicate 4096 (u16 0)):=by kernel_rfl
def Jju (l:List Ins):AV:=Jka (if (JV l).2=0 then JT l else [])
theorem JnW (l:List Ins) (hok:okL l) (hl:l.length≤1000000000):Tells Tryz.prog 47 [Jan l] (Jju l):=by
 refine Jc Tryz.func47 rfl rfl fun nx=> ?_
 refine stp ?_
 refine Jb rfl rfl (Jif l hok hl) ⟨Rf,trivial⟩ fun nx=> ?_
 refine stp ?_
 intro c g1;cases c
 ·have g1:=JbD g1
  have hf:Formed l:=JfB Om
  have hpos:=hf.pos
  have hle:=hf.le
  refine Jt ?_
  refine Jv ?_
  refine JsM rfl rfl Jxv ?_
  refine stp ?_
  refine Jr (fun i:Nat=> mk 105 [(0,Jan l),(5, .bp (0,nx) 0),(22,int l.length),(23,int i)] ⟨[((0,nx), .c ((List.replicate i 65535++List.replicate (4096 - i) 0).map uA))], [],nx+1,1⟩) (fun i=> i≤l.length) (fun i=> l.length - i) ?_ ?_
  ·exact ⟨0,by omega,Je _ _ rfl rfl Sf .slnil ⟨rfl,OwnLe.of_eq (by simp [uA]),trivial⟩ trivial ⟨Rf,Rf,Rf,Rf,trivial⟩⟩
  ·rintro i h1
   refine stp ?_
   intro c g2;cases c
   ·have h2:=Jm g2
    obtain rfl:i=l.length:=by omega
    have he:(0+(Int.toNat 0) * Tryz.prog.cellsOf 82)=0:=by rw [c49];rfl
    refine stp ?_
    refine Jh (b:= .bp (0,nx) 0) (congrArg (AV.bp (0,nx)) he) ?_
    have hsp:JN ((List.replicate l.length 65535++List.replicate (4096 - l.length) 0).map uA) 0 [AV.v (.int .u16 0)]=(atI l 0).map uA:=JaP (f:=uA) (x:=0) (by simp;omega)
    (conv=> whnf)
    refine ⟨⟨rfl,by simp;omega⟩, ?_⟩
    rw [hsp]
    refine stp ?_
    refine Jr (fun s:Nat×Nat=> mk 105 [(0,Jan l),(5, .bp (0,nx) 0),(30,Jan l),(31,int l.length),(32,int s.1)] ⟨[((0,nx), .c ((atI l s.1).map uA))], [],s.2,1⟩) (fun s=> s.1≤l.length) (fun s=> l.length - s.1) ?_ ?_
    ·exact ⟨(0,_),by dsimp only;omega,Je _ _ rfl rfl Sf .slnil ⟨rfl,OwnLe.refl _,trivial⟩ trivial ⟨Rf,Rf,Rf,Rf,Rf,trivial⟩⟩
    ·rintro ⟨i,nx'⟩ h3
     dsimp only at h3
     have hlen:=Jgv hle i
     have hsm:=JkY hle i
     refine stp ?_
     intro c g3;cases c
     ·have h4:=Jm g3
      dsimp only at h4
      obtain rfl:i=l.length:=by omega
      refine Jt ?_
      refine AW.le (JaO (L:= [(0,Jan l),(5, .rp ((atI l l.length).map uA))]) (bx:= []) (pm:= []) (nn:=1) [((0,nx), .c ((atI l l.length).map uA))] rfl rfl Sf .slnil ⟨.refl _, .bp (.head _) rfl,trivial⟩) ?_
      refine stp ?_
      (conv=> whnf)
      refine ⟨⟨⟨by rw [c49,List.length_map];omega,JkG u49 rfl c49 fun _=> rfl⟩,by omega,by omega⟩,Jh (b:= .sl 1 l.length fun k=> ((atI l l.length).map uA).getD k .any) (by rw [c49,JkH u49 rfl];rfl) ?_⟩
      obtain ⟨m,hm⟩:∃m,l.length=m+1:=⟨l.length - 1,by omega⟩
      have hst:JT l=(atI l l.length).take l.length:=rfl
      refine stp ?_
      (conv=> whnf)
      rw [hm]
      refine stp ?_
      (conv=> whnf)
      have hone:Jb7 (m+1) fun k=> ((atI l (m+1)).map uA).getD k .any:=fun k hk=> by
       dsimp only;rw [Jce (d:=0) (by rw [hm] at hlen;omega)];rfl
      refine ⟨hone,by rw [b49];omega,by omega, ?_⟩
      refine stp ?_
      refine Ja rfl ?_
      unfold Jju
      rw [if_pos Om]
      have hsl:(JT l).length=m+1:=by rw [hst,List.length_take,hlen];omega
      refine JuG hsl fun k hk=> ?_
      dsimp only
      have hkm:(atI l l.length).getD k 0=(JT l).getD k 0:=by
       rw [hst];simp only [List.getD,List.getElem?_take];rw [if_pos Om]
      rw [← hkm,hm,Jce (d:=0) (by rw [hm] at hlen;omega)];rfl
     ·have h4:=Jl g3
      dsimp only at h4
      have hi:i < l.length:=by omega
      have hit:(0+(Int.toNat (i:Int)) * Tryz.prog.cellsOf 82)=i:=by rw [c49];omega
      have hki:(l.getD i ins0).ok:=hok.get hi
      have hwr:=hf.ok i hi
      have hpt:=Jbs hwr
      have hnx:=JbT hf hi
      have hnow:=Jrn (hsm i) hwr
      have hstep:=Jgu l i
      refine stp ?_
      refine ⟨⟨by dsimp only;omega,by dsimp only;omega⟩, ?_⟩
      refine stp ?_
      refine Jb rfl rfl (Jkb (l.getD i ins0).code hki.1) ⟨Rf,trivial⟩ fun nx3=> ?_
      refine stp ?_
      refine ⟨⟨by dsimp only;omega,by dsimp only;omega⟩,Jh (b:= .bp (0,_) i) (congrArg (AV.bp (0,_)) hit) ?_⟩
      (conv=> whnf)
      refine ⟨⟨rfl,by simp;omega⟩,Jh (b:=u16 ((atI l i).getD i 0:Nat)) (Jce Dm) ?_⟩
      refine stp ?_
      intro c a1;cases c
      ·have a1:=Jm a1
       refine stp ?_
       intro c a2;cases c
       ·have a2:=Jm a2
        have hnowd:Jhi (l.getD i ins0) ((atI l i).getD i 0)=(atI l i).getD i 0:=if_neg (by unfold isStore;omega)
        generalize hnn:(atI l i).getD i 0=now at hnowd⊢
        rw [hnn,hnowd] at hnow
        refine stp ?_
        intro c b1;cases c
        ·have b1:=Jm b1
         refine stp ?_
         intro c b2;cases c
         ·have b2:=Jm b2
          refine stp ?_
          intro c b3;cases c
          ·have b3:=Jm b3
           refine stp ?_
           intro c b4;cases c
           ·have b4:=Jm b4
            have hnxt:nextsI l i= [i+1]:=by unfold nextsI kind;rw [if_neg Om,if_neg Om,if_neg Om]
            refine stp ?_
            refine Jby rfl rfl (ECall.args (bs:= [int (i+1:Nat), .bp (0,_) 0, .bp (2,_) 0]) ⟨Jd (Jk Dm),Rf,Rf,trivial⟩
             (JdK nx nx' nx3 _ _ (l.getD i ins0) now (i+1) (atI l i) (by have:=(hnx (i+1) (by rw [hnxt];simp)).2;omega) (by first | omega | (simp only [JbK];omega)) (hsm) hnow)) fun r h' hq=> ?_
            obtain ⟨kk,rfl⟩:=hq
            refine Named.same ?_
            refine stp ?_
            refine back (i+1,_) Dm Dm (Je [((0,_), .c ((goI now (atI l i) (i+1)).map uA))] [] rfl rfl (.cons _ (.cons _ (.cons_cons _ .slnil))) .slnil ⟨rfl,OwnLe.of_eq ?_,trivial⟩ trivial ⟨Rf,Rf,Rf,Rf,Jd (Jk Dm),trivial⟩)
            dsimp only
            rw [hstep];unfold JdW;rw [hnxt];(try rw [hnn]);rw [hnowd];rfl
           ·have b4:=Jl b4
            have hnxt:nextsI l i= [i+1+(l.getD i ins0).jt,i+1+(l.getD i ins0).jf]:=by unfold nextsI kind;rw [if_neg Om,if_neg Om,if_pos Om]
            refine stp ?_
            refine Jby rfl rfl (ECall.args (bs:= [int (i+1+(l.getD i ins0).jt:Nat), .bp (0,_) 0, .bp (2,_) 0]) ⟨Jd (by show IntKind.i64.wrap (IntKind.i64.wrap ((i:Int)+1)+IntKind.i64.wrap (((l.getD i ins0).jt:Nat):Int))=_;rw [show IntKind.i64.wrap (((l.getD i ins0).jt:Nat):Int)=((l.getD i ins0).jt:Nat) from Jq Om Om,show IntKind.i64.wrap ((i:Int)+1)=(i:Int)+1 from Jq Om Om,Jq Om Om];omega),Rf,Rf,trivial⟩
             (JdK nx nx' nx3 _ _ (l.getD i ins0) now (i+1+(l.getD i ins0).jt) (atI l i) (by have:=(hnx (i+1+(l.getD i ins0).jt) (by rw [hnxt];simp)).2;omega) (by first | omega | (simp only [JbK];omega)) (hsm) hnow)) fun r h' hq=> ?_
            obtain ⟨kk,rfl⟩:=hq
            refine Named.same ?_
            refine stp ?_
            refine Jby rfl rfl (ECall.args (bs:= [int (i+1+(l.getD i ins0).jf:Nat), .bp (0,_) 0, .bp (2,_) 0]) ⟨Jd (by show IntKind.i64.wrap (IntKind.i64.wrap ((i:Int)+1)+IntKind.i64.wrap (((l.getD i ins0).jf:Nat):Int))=_;rw [show IntKind.i64.wrap (((l.getD i ins0).jf:Nat):Int)=((l.getD i ins0).jf:Nat) from Jq Om Om,show IntKind.i64.wrap ((i:Int)+1)=(i:Int)+1 from Jq Om Om,Jq Om Om];omega),Rf,Rf,trivial⟩
             (JdK nx nx' nx3 _ _ (l.getD i ins0) now (i+1+(l.getD i ins0).jf) (goI now (atI l i) (i+1+(l.getD i ins0).jt)) (by have:=(hnx (i+1+(l.getD i ins0).jf) (by rw [hnxt];simp)).2;simp only [JbK];omega) (by first | omega | (simp only [JbK];omega)) (JkW hsm) hnow)) fun r h' hq=> ?_
            obtain ⟨kk,rfl⟩:=hq
            refine Named.same ?_
            refine stp ?_
            refine back (i+1,_) Dm Dm (Je [((0,_), .c ((goI now (goI now (atI l i) (i+1+(l.getD i ins0).jt)) (i+1+(l.getD i ins0).jf)).map uA))] [] rfl rfl (.cons _ (.cons _ (.cons_cons _ .slnil))) .slnil ⟨rfl,OwnLe.of_eq ?_,trivial⟩ trivial ⟨Rf,Rf,Rf,Rf,Jd (Jk Dm),trivial⟩)
            dsimp only
            rw [hstep];unfold JdW;rw [hnxt];(try rw [hnn]);rw [hnowd];rfl
          ·have b3:=Jl b3
           have hnxt:nextsI l i= [i+1+(l.getD i ins0).k]:=by unfold nextsI kind;rw [if_neg Om,if_pos Om]
           refine stp ?_
           refine Jby rfl rfl (ECall.args (bs:= [int (i+1+(l.getD i ins0).k:Nat), .bp (0,_) 0, .bp (2,_) 0]) ⟨Jd (by show IntKind.i64.wrap (IntKind.i64.wrap ((i:Int)+1)+IntKind.i64.wrap (((l.getD i ins0).k:Nat):Int))=_;rw [show IntKind.i64.wrap (((l.getD i ins0).k:Nat):Int)=((l.getD i ins0).k:Nat) from Jq Om Om,show IntKind.i64.wrap ((i:Int)+1)=(i:Int)+1 from Jq Om Om,Jq Om Om];omega),Rf,Rf,trivial⟩
            (JdK nx nx' nx3 _ _ (l.getD i ins0) now (i+1+(l.getD i ins0).k) (atI l i) (by have:=(hnx (i+1+(l.getD i ins0).k) (by rw [hnxt];simp)).2;omega) (by first | omega | (simp only [JbK];omega)) (hsm) hnow)) fun r h' hq=> ?_
           obtain ⟨kk,rfl⟩:=hq
           refine Named.same ?_
           refine stp ?_
           refine back (i+1,_) Dm Dm (Je [((0,_), .c ((goI now (atI l i) (i+1+(l.getD i ins0).k)).map uA))] [] rfl rfl (.cons _ (.cons _ (.cons_cons _ .slnil))) .slnil ⟨rfl,OwnLe.of_eq ?_,trivial⟩ trivial ⟨Rf,Rf,Rf,Rf,Jd (Jk Dm),trivial⟩)
           dsimp only
           rw [hstep];unfold JdW;rw [hnxt];(try rw [hnn]);rw [hnowd];rfl
         ·have b2:=Jl b2
          have hnxt:nextsI l i= []:=by unfold nextsI kind;rw [if_pos Om]
          refine stp ?_
          refine back (i+1,_) Dm Dm (Je [((0,_), .c ((atI l i).map uA))] [] rfl rfl (.cons _ (.cons _ (.cons_cons _ .slnil))) .slnil ⟨rfl,OwnLe.of_eq ?_,trivial⟩ trivial ⟨Rf,Rf,Rf,Rf,Jd (Jk Dm),trivial⟩)
          dsimp only
          rw [hstep];unfold JdW;rw [hnxt];(try rw [hnn]);rw [hnowd];rfl
        ·have b1:=Jl b1
         have hnxt:nextsI l i= []:=by unfold nextsI kind;rw [if_pos Om]
         refine stp ?_
         refine back (i+1,_) Dm Dm (Je [((0,_), .c ((atI l i).map uA))] [] rfl rfl (.cons _ (.cons _ (.cons_cons _ .slnil))) .slnil ⟨rfl,OwnLe.of_eq ?_,trivial⟩ trivial ⟨Rf,Rf,Rf,Rf,Jd (Jk Dm),trivial⟩)
         dsimp only
         rw [hstep];unfold JdW;rw [hnxt];(try rw [hnn]);rw [hnowd];rfl
       ·have a2:=Jl a2
        have hnowd:Jhi (l.getD i ins0) ((atI l i).getD i 0)=(atI l i).getD i 0||| 2 ^ (l.getD i ins0).k:=if_pos (by unfold isStore;omega)
        have hk16:(l.getD i ins0).k < 16:=by omega
        have hp16:2 ^ (l.getD i ins0).k < 65536:=Nat.pow_lt_pow_right (n:=16) Dc hk16
        have hsh:IntKind.u16.wrap (1 * 2 ^ (min (Int.toNat ((l.getD i ins0).k:Nat)) IntKind.u16.bits))=((2 ^ (l.getD i ins0).k:Nat):Int):=by
         have:min (Int.toNat ((l.getD i ins0).k:Nat)) IntKind.u16.bits=(l.getD i ins0).k:=by show min _ 16=_;omega
         have h2:((1:Int) * 2 ^ (l.getD i ins0).k)=((2 ^ (l.getD i ins0).k:Nat):Int):=by simp
         rw [this,h2]
         refine IntWalk.u16_in _ ?_
         generalize 2 ^ (l.getD i ins0).k=q at hp16
         omega
        have hor:JU .or .u16 ((atI l i).getD i 0:Nat) ((2 ^ (l.getD i ins0).k:Nat):Int)=(((atI l i).getD i 0||| 2 ^ (l.getD i ins0).k:Nat):Int):=JhO (hsm i) hp16
        have hnxt:nextsI l i= [i+1]:=by unfold nextsI kind;rw [if_neg Om,if_neg Om,if_neg Om]
        generalize hnn:(atI l i).getD i 0||| 2 ^ (l.getD i ins0).k=now at hnowd hor
        rw [hnowd] at hnow
        refine stp ?_
        (conv=> whnf)
        refine ⟨Int.natCast_nonneg _,Jh (b:=u16 ((2 ^ (l.getD i ins0).k:Nat):Int)) (congrArg (fun x:Int=> u16 x) hsh) ?_⟩
        refine stp ?_
        intro c b1;cases c
        case true=> exact absurd (Jl b1) Om
        refine stp ?_
        intro c b2;cases c
        case true=> exact absurd (Jl b2) Om
        refine stp ?_
        intro c b3;cases c
        case true=> exact absurd (Jl b3) Om
        refine stp ?_
        intro c b4;cases c
        case true=> exact absurd (Jl b4) Om
        refine stp ?_
        refine Jby rfl rfl (ECall.args (bs:= [int (i+1:Nat), .bp (0,_) 0, .bp (2,_) 0]) ⟨Jd (Jk Dm),Rf,Rf,trivial⟩
         (ECall.tell (JdK nx nx' nx3 (nx3+1) 3 (l.getD i ins0) now (i+1) (atI l i) (by have:=(hnx (i+1) (by rw [hnxt];simp)).2;omega) (by first | omega | (simp only [JbK];omega)) (hsm) hnow) ⟨rfl,OwnLe.of_eq (by rw [hor];rfl),rfl,OwnLe.refl _,rfl,OwnLe.refl _,trivial⟩ trivial rfl)) fun r h' hq=> ?_
        obtain ⟨kk,rfl⟩:=hq
        refine Named.same ?_
        refine stp ?_
        refine back (i+1,_) Dm Dm (Je [((0,_), .c ((goI now (atI l i) (i+1)).map uA))] [] rfl rfl (.cons _ (.cons _ (.cons_cons _ .slnil))) .slnil ⟨rfl,OwnLe.of_eq ?_,trivial⟩ trivial ⟨Rf,Rf,Rf,Rf,Jd (Jk Dm),trivial⟩)
        dsimp only
        rw [hstep];unfold JdW;rw [hnxt];(try rw [hnn]);rw [hnowd];rfl
      ·have a1:=Jl a1
       have hnowd:Jhi (l.getD i ins0) ((atI l i).getD i 0)=(atI l i).getD i 0||| 2 ^ (l.getD i ins0).k:=if_pos (by unfold isStore;omega)
       have hk16:(l.getD i ins0).k < 16:=by omega
       have hp16:2 ^ (l.getD i ins0).k < 65536:=Nat.pow_lt_pow_right (n:=16) Dc hk16
       have hsh:IntKind.u16.wrap (1 * 2 ^ (min (Int.toNat ((l.getD i ins0).k:Nat)) IntKind.u16.bits))=((2 ^ (l.getD i ins0).k:Nat):Int):=by
        have:min (Int.toNat ((l.getD i ins0).k:Nat)) IntKind.u16.bits=(l.getD i ins0).k:=by show min _ 16=_;omega
        have h2:((1:Int) * 2 ^ (l.getD i ins0).k)=((2 ^ (l.getD i ins0).k:Nat):Int):=by simp
        rw [this,h2]
        refine IntWalk.u16_in _ ?_
        generalize 2 ^ (l.getD i ins0).k=q at hp16
        omega
       have hor:JU .or .u16 ((atI l i).getD i 0:Nat) ((2 ^ (l.getD i ins0).k:Nat):Int)=(((atI l i).getD i 0||| 2 ^ (l.getD i ins0).k:Nat):Int):=JhO (hsm i) hp16
       have hnxt:nextsI l i= [i+1]:=by unfold nextsI kind;rw [if_neg Om,if_neg Om,if_neg Om]
       generalize hnn:(atI l i).getD i 0||| 2 ^ (l.getD i ins0).k=now at hnowd hor
       rw [hnowd] at hnow
       refine stp ?_
       (conv=> whnf)
       refine ⟨Int.natCast_nonneg _,Jh (b:=u16 ((2 ^ (l.getD i ins0).k:Nat):Int)) (congrArg (fun x:Int=> u16 x) hsh) ?_⟩
       refine stp ?_
       intro c b1;cases c
       case true=> exact absurd (Jl b1) Om
       refine stp ?_
       intro c b2;cases c
       case true=> exact absurd (Jl b2) Om
       refine stp ?_
       intro c b3;cases c
       case true=> exact absurd (Jl b3) Om
       refine stp ?_
       intro c b4;cases c
       case true=> exact absurd (Jl b4) Om
       refine stp ?_
       refine Jby rfl rfl (ECall.args (bs:= [int (i+1:Nat), .bp (0,_) 0, .bp (2,_) 0]) ⟨Jd (Jk Dm),Rf,Rf,trivial⟩
        (ECall.tell (JdK nx nx' nx3 (nx3+1) 3 (l.getD i ins0) now (i+1) (atI l i) (by have:=(hnx (i+1) (by rw [hnxt];simp)).2;omega) (by first | omega | (simp only [JbK];omega)) (hsm) hnow) ⟨rfl,OwnLe.of_eq (by rw [hor];rfl),rfl,OwnLe.refl _,rfl,OwnLe.refl _,trivial⟩ trivial rfl)) fun r h' hq=> ?_
       obtain ⟨kk,rfl⟩:=hq
       refine Named.same ?_
       refine stp ?_
       refine back (i+1,_) Dm Dm (Je [((0,_), .c ((goI now (atI l i) (i+1)).map uA))] [] rfl rfl (.cons _ (.cons _ (.cons_cons _ .slnil))) .slnil ⟨rfl,OwnLe.of_eq ?_,trivial⟩ trivial ⟨Rf,Rf,Rf,Rf,Jd (Jk Dm),trivial⟩)
       dsimp only
       rw [hstep];unfold JdW;rw [hnxt];(try rw [hnn]);rw [hnowd];rfl
   ·have h2:=Jl g2
    have hit:(0+(Int.toNat (i:Int)) * Tryz.prog.cellsOf 82)=i:=by rw [c49];omega
    refine stp ?_
    refine ⟨⟨by omega,by omega⟩,Jh (b:= .bp (0,nx) i) (congrArg (AV.bp (0,nx)) hit) ?_⟩
    obtain ⟨m,hm⟩:∃m,4096 - i=m+1:=⟨4096 - i - 1,by omega⟩
    have hsp:JN ((List.replicate i 65535++List.replicate (4096 - i) 0).map uA) i [AV.v (.int .u16 65535)]=(List.replicate (i+1) 65535++List.replicate (4096 - (i+1)) 0).map uA:=by
     refine (JaP (f:=uA) (x:=65535) (by simp;omega)).trans ?_
     have:=JsH (List.replicate i 65535) m 65535 0
     rw [List.length_replicate] at this
     rw [hm,this,show 4096 - (i+1)=m by omega,List.replicate_succ']
    (conv=> whnf)
    refine ⟨⟨rfl,by simp;omega⟩, ?_⟩
    rw [hsp]
    refine stp ?_
    exact back (i+1) Om Om (Je _ _ rfl rfl Sf .slnil ⟨rfl,OwnLe.refl _,trivial⟩ trivial ⟨Rf,Rf,Rf,Jd (Jk Om),trivial⟩)
 ·have g1:=Jbg g1
  refine stp ?_
  refine Ja rfl ?_
  unfold Jju
  rw [if_neg Om]
  exact AVle.os_sl0
end Go.Proofs.W

namespace Go.Proofs.W
open Go.Vl
set_option maxRecDepth 100000
theorem Jel {l:List Ins} (hf:Formed l):(JT l).length=l.length:=by
 unfold JT;rw [List.length_take,Jgv hf.le];have:=hf.le;omega
theorem JeS {l:List Ins} (hf:Formed l):JfC (JT l):=by
 intro k
 unfold JT
 simp only [List.getD,List.getElem?_take]
 split
 ·exact JkY hf.le l.length k
 ·simp
theorem Jrp {x k:Nat} (hx:x < 65536) (hk:k < 16):JU .and .u16 ((x:Int).fdiv (2 ^ (min (Int.toNat (k:Int)) IntKind.u16.bits))) 1=((x / 2 ^ k % 2:Nat):Int):=by
 have h1:min (Int.toNat (k:Int)) IntKind.u16.bits=k:=by show min _ 16=_;omega
 have h2:(x:Int).fdiv (2 ^ k)=((x / 2 ^ k:Nat):Int):=by
  rw [Int.fdiv_eq_ediv_of_nonneg _ (by exact_mod_cast Nat.zero_le _)];simp
 rw [h1,h2]
 have h3:=Jdy (a:=x / 2 ^ k) (b:=1) (Nat.lt_of_le_of_lt (Nat.div_le_self _ _) hx) Dc
 rw [Nat.and_one_is_mod] at h3
 exact h3
theorem Jjv (l:List Ins) (hok:okL l) (hl:l.length≤1000000000):Tells Tryz.prog 19 [Jan l] (.tup [int (checkI l).1,int (checkI l).2]):=by
 refine Jc Tryz.func19 rfl rfl fun nx=> ?_
 refine stp ?_
 refine Jb rfl rfl (Jif l hok hl) ⟨Rf,trivial⟩ fun nx=> ?_
 refine stp ?_
 intro c g1;cases c
 ·have g1:=JbD g1
  have hfz:(JV l).2=0:=by omega
  have hf:Formed l:=JfB hfz
  have hle:=hf.le
  have hpos:=hf.pos
  have hsl:=Jel hf
  have hss:=JeS hf
  refine stp ?_
  have hst:=JnW l hok hl
  unfold Jju at hst
  rw [if_pos hfz] at hst
  refine Jb rfl rfl hst ⟨Rf,trivial⟩ fun nx=> ?_
  refine stp ?_
  refine Jr (fun s:Nat×Nat=> mk 57 [(0,Jan l),(21,Jka (JT l)),(22,int (JT l).length),(23,int s.1)] ⟨[], [],s.2,0⟩) (fun s=> s.1≤l.length∧∀j,j < s.1→¬((kind l j=3∨kind l j=6)∧(JT l).getD j 0 / 2 ^ (l.getD j ins0).k % 2=0)) (fun s=> l.length - s.1) ?_ ?_
  ·exact ⟨(0,_),⟨by omega,by intro j hj;omega⟩,JH rfl rfl ⟨Rf,Rf,Rf,Rf,trivial⟩⟩
  ·rintro ⟨i,nx'⟩ ⟨h3,h4⟩
   dsimp only at h3 h4
   refine stp ?_
   intro c g2;cases c
   ·have h5:=Jm g2
    dsimp only at h5
    obtain rfl:i=l.length:=by omega
    refine stp ?_
    refine Ja rfl (AVle.of_eq ?_)
    have:checkI l=(0,0):=by
     unfold checkI
     rw [if_neg Om,Jca fun j hj=> by rw [decide_eq_false_iff_not];exact h4 j hj]
    rw [this];rfl
   ·have h5:=Jl g2
    dsimp only at h5
    have hi:i < l.length:=by omega
    have hki:(l.getD i ins0).ok:=hok.get hi
    have hpt:=Jbs (hf.ok i hi)
    refine stp ?_
    refine ⟨⟨by dsimp only;omega,by dsimp only;omega⟩, ?_⟩
    refine stp ?_
    refine ⟨⟨by dsimp only;omega,by dsimp only;omega⟩, ?_⟩
    refine stp ?_
    refine Jb rfl rfl (Jkb (l.getD i ins0).code hki.1) ⟨Rf,trivial⟩ fun nx3=> ?_
    refine stp ?_
    intro c a1;cases c
    ·have a1:=Jm a1
     refine stp ?_
     intro c a2;cases c
     ·have a2:=Jm a2
      refine stp ?_
      refine back (i+1,_) ⟨by dsimp only;omega,fun j hj=> ?_⟩ Dm (JH rfl rfl ⟨Rf,Rf,Rf,Jd (Jk Dm),trivial⟩)
      dsimp only at hj
      rcases Nat.lt_or_ge j i with h | h
      ·exact h4 j h
      ·obtain rfl:j=i:=by omega
       unfold kind;omega
     ·have a2:=Jl a2
      have hb:=Jrp (hss i) (k:=(l.getD i ins0).k) Om
      have hkd:kind l i=3∨kind l i=6:=by unfold kind;omega
      refine stp ?_
      (conv=> whnf)
      refine ⟨⟨by dsimp only;omega,by dsimp only;omega⟩, ?_⟩
      refine stp ?_
      (conv=> whnf)
      refine ⟨Int.natCast_nonneg _, ?_⟩
      refine stp ?_
      intro c a3;cases c
      ·have a3:=Jm a3
       have a4:¬(((JT l).getD i 0 / 2 ^ (l.getD i ins0).k % 2:Nat):Int)=0:=hb ▸ a3
       refine stp ?_
       refine back (i+1,_) ⟨by dsimp only;omega,fun j hj=> ?_⟩ Dm (JH rfl rfl ⟨Rf,Rf,Rf,Jd (Jk Dm),trivial⟩)
       dsimp only at hj
       rcases Nat.lt_or_ge j i with h | h
       ·exact h4 j h
       ·obtain rfl:j=i:=by omega
        unfold kind;omega
      ·have a3:=Jl a3
       have a4:(((JT l).getD i 0 / 2 ^ (l.getD i ins0).k % 2:Nat):Int)=0:=hb ▸ a3
       refine stp ?_
       refine Ja rfl (AVle.of_eq ?_)
       have:checkI l=(i,12):=by
        unfold checkI
        rw [if_neg Om,Jbu hi (by rw [decide_eq_true_eq];exact ⟨hkd,by omega⟩) (fun j hj=> by rw [decide_eq_false_iff_not];exact h4 j hj)]
       rw [this];rfl
    ·have a1:=Jl a1
     have hb:=Jrp (hss i) (k:=(l.getD i ins0).k) Om
     have hkd:kind l i=3∨kind l i=6:=by unfold kind;omega
     refine stp ?_
     (conv=> whnf)
     refine ⟨⟨by dsimp only;omega,by dsimp only;omega⟩, ?_⟩
     refine stp ?_
     (conv=> whnf)
     refine ⟨Int.natCast_nonneg _, ?_⟩
     refine stp ?_
     intro c a3;cases c
     ·have a3:=Jm a3
      have a4:¬(((JT l).getD i 0 / 2 ^ (l.getD i ins0).k % 2:Nat):Int)=0:=hb ▸ a3
      refine stp ?_
      refine back (i+1,_) ⟨by dsimp only;omega,fun j hj=> ?_⟩ Dm (JH rfl rfl ⟨Rf,Rf,Rf,Jd (Jk Dm),trivial⟩)
      dsimp only at hj
      rcases Nat.lt_or_ge j i with h | h
      ·exact h4 j h
      ·obtain rfl:j=i:=by omega
       unfold kind;omega
     ·have a3:=Jl a3
      have a4:(((JT l).getD i 0 / 2 ^ (l.getD i ins0).k % 2:Nat):Int)=0:=hb ▸ a3
      refine stp ?_
      refine Ja rfl (AVle.of_eq ?_)
      have:checkI l=(i,12):=by
       unfold checkI
       rw [if_neg Om,Jbu hi (by rw [decide_eq_true_eq];exact ⟨hkd,by omega⟩) (fun j hj=> by rw [decide_eq_false_iff_not];exact h4 j hj)]
      rw [this];rfl
 ·have g1:=Jbg g1
  refine stp ?_
  refine Ja rfl (AVle.of_eq ?_)
  have:checkI l=JV l:=by
   unfold checkI
   rw [if_pos Om]
  rw [this];rfl
end Go.Proofs.W

namespace Go.Proofs.W
open Go.Vl
set_option maxRecDepth 100000
def JL (n:Nat):AV:=u32 n
def JdB (l:List Nat) (k:Nat):AV:=int (l.getD k 0:Nat)
def Jdf (b:List Nat) (s:Rn) (oi:Option Nat):List AV:= [JI b,int s.at',u32 s.a,u32 s.x]++s.cells.map JL++ [u32 0,int s.steps, .os 1 s.loads.length (JdB s.loads) (nmN 1 oi)]
def opA (i:Ins) (f:AV):AV:= .ag [u16 i.code,u8 i.jt,u8 i.jf,u32 i.k,f,int (kof i.code).1,Jg (kof i.code).2]
def vmH (b:List Nat) (s0:Nat) (s:Rn) (oi:Option Nat) (nx nn:Nat):Heap:=⟨[((0,s0), .c (Jdf b s oi))],JaH (nmN 1 oi) (s.loads.length * 1),nx,nn⟩
def JpJ (v:Nat):AV:= .ifc 259 (.ag [u32 v])
def doQ (b:List Nat) (s0:Nat) (o:Option Nat×Rn):Res→Heap→Prop
 | .ret _,h'=> ∃oi' nx' nn',o.1=none∧(oi'=none→o.2.loads= [])∧h'=vmH b s0 o.2 oi' nx' nn'
 | .pan x,h'=> ∃v oi' nx' nn',o.1=some v∧x=JpJ v∧(oi'=none→o.2.loads= [])∧h'=vmH b s0 o.2 oi' nx' nn'
def wkR (Q:Res→Heap→Prop):Res→Heap→Prop
 | .ret r,h=> ∃r' h',AVle r r'∧HLe h h'∧Q (.ret r') h'
 | .pan x,h=> ∃x' h',AVle x x'∧HLe h h'∧Q (.pan x') h'
theorem Jas {P:Program} {f:FuncId} {xs:List AV} {h:Heap} {Q:Res→Heap→Prop} (hc:ECallR P f xs h (wkR Q)):ECallR P f xs h Q:=by
 refine ⟨hc.1,fun X w g vs h1 h2 h3 h4=> ?_⟩
 refine (Jfr P f).mono (hc.2 X w g vs h1 h2 h3 h4) fun e w' ⟨r,h',g',a1,a2,a3,a4,a5,a7,a8⟩=> ?_
 cases r with
 | pan x=>
   obtain ⟨x',h'',q1,q2,q3⟩:=a2
   obtain ⟨u,rfl,a1⟩:=a1
   exact ⟨.pan x',h'',g',⟨u,rfl,q1 _ _ _ _ (a1.stays (Stays.less (q2.ex X g')))⟩,q3,a3,q2.ok _ _ _ a4,fun b o hx i hi=> a5 b o hx i (q2.ids i hi),a7,fun b o hx hb=> a8 b o (q2.ex none2 g' b o hx) hb⟩
 | ret r=>
   obtain ⟨r',h'',q1,q2,q3⟩:=a2
   obtain ⟨u,rfl,a1⟩:=a1
   exact ⟨.ret r',h'',g',⟨u,rfl,q1 _ _ _ _ (a1.stays (Stays.less (q2.ex X g')))⟩,q3,a3,q2.ok _ _ _ a4,fun b o hx i hi=> a5 b o hx i (q2.ids i hi),a7,fun b o hx hb=> a8 b o (q2.ex none2 g' b o hx) hb⟩
theorem Jay {b:List Nat} {s0:Nat} {o:Option Nat×Rn} {r:AV} {h:Heap} (s':Rn) (oi':Option Nat) (nx' nn':Nat) (hd:o=(none,s')) (ho:oi'=none→s'.loads= []) (hl:HLe h (vmH b s0 s' oi' nx' nn')):wkR (doQ b s0 o) (.ret r) h:=by
 subst hd
 exact ⟨r,_,Rf,hl,oi',nx',nn',rfl,ho,rfl⟩
theorem JpK {b:List Nat} {s0:Nat} {o:Option Nat×Rn} {h:Heap} {x:AV} (v:Nat) (s':Rn) (oi':Option Nat) (nx' nn':Nat) (hd:o=(some v,s')) (hx:AVle x (JpJ v)) (ho:oi'=none→s'.loads= []) (hl:HLe h (vmH b s0 s' oi' nx' nn')):wkR (doQ b s0 o) (.pan x) h:=by
 subst hd
 exact ⟨_,_,hx,hl,v,oi',nx',nn',rfl,rfl,ho,rfl⟩
theorem JaQ {l:List Nat} (h:l.length=16):∃c0 c1 c2 c3 c4 c5 c6 c7 c8 c9 c10 c11 c12 c13 c14 c15,l= [c0,c1,c2,c3,c4,c5,c6,c7,c8,c9,c10,c11,c12,c13,c14,c15]:=by
 match l,h with
 | [c0,c1,c2,c3,c4,c5,c6,c7,c8,c9,c10,c11,c12,c13,c14,c15],_=> exact ⟨c0,c1,c2,c3,c4,c5,c6,c7,c8,c9,c10,c11,c12,c13,c14,c15,rfl⟩
theorem JmP {b:List Nat} {at' a x steps k:Nat} {loads:List Nat} {oi:Option Nat} {c0 c1 c2 c3 c4 c5 c6 c7 c8 c9 c10 c11 c12 c13 c14 c15:Nat} (hk:k < 16):
 (Jdf b ⟨at',a,x, [c0,c1,c2,c3,c4,c5,c6,c7,c8,c9,c10,c11,c12,c13,c14,c15],steps,loads⟩ oi).getD (4+k) .any=u32 ([c0,c1,c2,c3,c4,c5,c6,c7,c8,c9,c10,c11,c12,c13,c14,c15].getD k 0:Nat):=by
 match k,hk with
 | 0,_=> rfl
 | 1,_=> rfl
 | 2,_=> rfl
 | 3,_=> rfl
 | 4,_=> rfl
 | 5,_=> rfl
 | 6,_=> rfl
 | 7,_=> rfl
 | 8,_=> rfl
 | 9,_=> rfl
 | 10,_=> rfl
 | 11,_=> rfl
 | 12,_=> rfl
 | 13,_=> rfl
 | 14,_=> rfl
 | 15,_=> rfl
 | n+16,h=> omega
theorem JmQ {b:List Nat} {at' a x steps k v:Nat} {loads:List Nat} {oi:Option Nat} {c0 c1 c2 c3 c4 c5 c6 c7 c8 c9 c10 c11 c12 c13 c14 c15:Nat} (hk:k < 16):
 JN (Jdf b ⟨at',a,x, [c0,c1,c2,c3,c4,c5,c6,c7,c8,c9,c10,c11,c12,c13,c14,c15],steps,loads⟩ oi) (4+k) [u32 v]=Jdf b ⟨at',a,x,([c0,c1,c2,c3,c4,c5,c6,c7,c8,c9,c10,c11,c12,c13,c14,c15]).set k v,steps,loads⟩ oi:=by
 match k,hk with
 | 0,_=> rfl
 | 1,_=> rfl
 | 2,_=> rfl
 | 3,_=> rfl
 | 4,_=> rfl
 | 5,_=> rfl
 | 6,_=> rfl
 | 7,_=> rfl
 | 8,_=> rfl
 | 9,_=> rfl
 | 10,_=> rfl
 | 11,_=> rfl
 | 12,_=> rfl
 | 13,_=> rfl
 | 14,_=> rfl
 | 15,_=> rfl
 | n+16,h=> omega
theorem Jrq (b:List Nat) (i:Ins) (hk:(kof i.code).1=2) (s0:Nat) (s:Rn) (oi:Option Nat) (h0:oi=none→s.loads= []) (hs:s.ok) (nx:Nat):
 ECallR Tryz.prog 181 [.bp (0,s0) 0,opA i .any] (vmH b s0 s oi nx 2) (doQ b s0 (doV b i s)):=by
 obtain ⟨at',a,x,cells,steps,loads⟩:=s
 obtain ⟨c0,c1,c2,c3,c4,c5,c6,c7,c8,c9,c10,c11,c12,c13,c14,c15,rfl⟩:=JaQ hs.n
 refine Jas (J0 Tryz.func181 rfl rfl ?_)
 refine stp ?_
 exact Jz rfl (Jay ⟨at',i.k,x,_,steps,loads⟩ oi _ 2 (by unfold doV;rw [hk];rfl) h0 (Jp _ _ rfl (.cons _ Sf) Sf ⟨rfl,OwnLe.refl _,trivial⟩ Pf))
theorem JpL (b:List Nat) (i:Ins) (hk:(kof i.code).1=4) (s0:Nat) (s:Rn) (oi:Option Nat) (h0:oi=none→s.loads= []) (hs:s.ok) (nx:Nat):
 ECallR Tryz.prog 183 [.bp (0,s0) 0,opA i .any] (vmH b s0 s oi nx 2) (doQ b s0 (doV b i s)):=by
 obtain ⟨at',a,x,cells,steps,loads⟩:=s
 obtain ⟨c0,c1,c2,c3,c4,c5,c6,c7,c8,c9,c10,c11,c12,c13,c14,c15,rfl⟩:=JaQ hs.n
 refine Jas (J0 Tryz.func183 rfl rfl ?_)
 refine stp ?_
 exact Jz rfl (Jay ⟨at',64,x,_,steps,loads⟩ oi _ 2 (by unfold doV;rw [hk];rfl) h0 (Jp _ _ rfl (.cons _ Sf) Sf ⟨rfl,OwnLe.refl _,trivial⟩ Pf))
theorem JpM (b:List Nat) (i:Ins) (hk:(kof i.code).1=5) (s0:Nat) (s:Rn) (oi:Option Nat) (h0:oi=none→s.loads= []) (hs:s.ok) (nx:Nat):
 ECallR Tryz.prog 184 [.bp (0,s0) 0,opA i .any] (vmH b s0 s oi nx 2) (doQ b s0 (doV b i s)):=by
 obtain ⟨at',a,x,cells,steps,loads⟩:=s
 obtain ⟨c0,c1,c2,c3,c4,c5,c6,c7,c8,c9,c10,c11,c12,c13,c14,c15,rfl⟩:=JaQ hs.n
 refine Jas (J0 Tryz.func184 rfl rfl ?_)
 refine stp ?_
 exact Jz rfl (Jay ⟨at',a,i.k,_,steps,loads⟩ oi _ 2 (by unfold doV;rw [hk];rfl) h0 (Jp _ _ rfl (.cons _ Sf) Sf ⟨rfl,OwnLe.refl _,trivial⟩ Pf))
theorem JpN (b:List Nat) (i:Ins) (hk:(kof i.code).1=7) (s0:Nat) (s:Rn) (oi:Option Nat) (h0:oi=none→s.loads= []) (hs:s.ok) (nx:Nat):
 ECallR Tryz.prog 186 [.bp (0,s0) 0,opA i .any] (vmH b s0 s oi nx 2) (doQ b s0 (doV b i s)):=by
 obtain ⟨at',a,x,cells,steps,loads⟩:=s
 obtain ⟨c0,c1,c2,c3,c4,c5,c6,c7,c8,c9,c10,c11,c12,c13,c14,c15,rfl⟩:=JaQ hs.n
 refine Jas (J0 Tryz.func186 rfl rfl ?_)
 refine stp ?_
 exact Jz rfl (Jay ⟨at',a,64,_,steps,loads⟩ oi _ 2 (by unfold doV;rw [hk];rfl) h0 (Jp _ _ rfl (.cons _ Sf) Sf ⟨rfl,OwnLe.refl _,trivial⟩ Pf))
theorem Jrr (b:List Nat) (i:Ins) (hk:(kof i.code).1=10) (s0:Nat) (s:Rn) (oi:Option Nat) (h0:oi=none→s.loads= []) (hs:s.ok) (nx:Nat):
 ECallR Tryz.prog 189 [.bp (0,s0) 0,opA i .any] (vmH b s0 s oi nx 2) (doQ b s0 (doV b i s)):=by
 obtain ⟨at',a,x,cells,steps,loads⟩:=s
 obtain ⟨c0,c1,c2,c3,c4,c5,c6,c7,c8,c9,c10,c11,c12,c13,c14,c15,rfl⟩:=JaQ hs.n
 refine Jas (J0 Tryz.func189 rfl rfl ?_)
 refine stp ?_
 exact Jz rfl (Jay ⟨at',a,a,_,steps,loads⟩ oi _ 2 (by unfold doV;rw [hk];rfl) h0 (Jp _ _ rfl (.cons _ Sf) Sf ⟨rfl,OwnLe.refl _,trivial⟩ Pf))
theorem Jrs (b:List Nat) (i:Ins) (hk:(kof i.code).1=11) (s0:Nat) (s:Rn) (oi:Option Nat) (h0:oi=none→s.loads= []) (hs:s.ok) (nx:Nat):
 ECallR Tryz.prog 190 [.bp (0,s0) 0,opA i .any] (vmH b s0 s oi nx 2) (doQ b s0 (doV b i s)):=by
 obtain ⟨at',a,x,cells,steps,loads⟩:=s
 obtain ⟨c0,c1,c2,c3,c4,c5,c6,c7,c8,c9,c10,c11,c12,c13,c14,c15,rfl⟩:=JaQ hs.n
 refine Jas (J0 Tryz.func190 rfl rfl ?_)
 refine stp ?_
 exact Jz rfl (Jay ⟨at',x,x,_,steps,loads⟩ oi _ 2 (by unfold doV;rw [hk];rfl) h0 (Jp _ _ rfl (.cons _ Sf) Sf ⟨rfl,OwnLe.refl _,trivial⟩ Pf))
theorem JnX (b:List Nat) (i:Ins) (hk:(kof i.code).1=3) (h16:i.k < 16) (s0:Nat) (s:Rn) (oi:Option Nat) (h0:oi=none→s.loads= []) (hs:s.ok) (nx:Nat):
 ECallR Tryz.prog 182 [.bp (0,s0) 0,opA i .any] (vmH b s0 s oi nx 2) (doQ b s0 (doV b i s)):=by
 obtain ⟨at',a,x,cells,steps,loads⟩:=s
 obtain ⟨c0,c1,c2,c3,c4,c5,c6,c7,c8,c9,c10,c11,c12,c13,c14,c15,rfl⟩:=JaQ hs.n
 refine Jas (J0 Tryz.func182 rfl rfl ?_)
 refine stp ?_
 (refine Jy 9 ?_ ?_ ?_ ?_;(· kernel_rfl);(· kernel_rfl);(· kernel_rfl))
 refine stp ?_
 refine ⟨⟨by omega,by omega⟩,Jh (b:= .bp (0,s0) (4+i.k)) (congrArg (AV.bp (0,s0)) (by rw [show Tryz.prog.cellsOf 35=1 by kernel_rfl,Nat.mul_one];rfl)) ?_⟩
 (conv=> whnf)
 refine ⟨⟨rfl,by show 4+i.k < 23;omega⟩,Jh (JmP h16) ?_⟩
 refine stp ?_
 exact Jz rfl (Jay ⟨at',([c0,c1,c2,c3,c4,c5,c6,c7,c8,c9,c10,c11,c12,c13,c14,c15]).getD i.k 0,x,_,steps,loads⟩ oi _ 2 (by unfold doV;rw [hk];rfl) h0 (Jp _ _ rfl (.cons _ Sf) Sf ⟨rfl,OwnLe.refl _,trivial⟩ Pf))
theorem JnY (b:List Nat) (i:Ins) (hk:(kof i.code).1=6) (h16:i.k < 16) (s0:Nat) (s:Rn) (oi:Option Nat) (h0:oi=none→s.loads= []) (hs:s.ok) (nx:Nat):
 ECallR Tryz.prog 185 [.bp (0,s0) 0,opA i .any] (vmH b s0 s oi nx 2) (doQ b s0 (doV b i s)):=by
 obtain ⟨at',a,x,cells,steps,loads⟩:=s
 obtain ⟨c0,c1,c2,c3,c4,c5,c6,c7,c8,c9,c10,c11,c12,c13,c14,c15,rfl⟩:=JaQ hs.n
 refine Jas (J0 Tryz.func185 rfl rfl ?_)
 refine stp ?_
 (refine Jy 9 ?_ ?_ ?_ ?_;(· kernel_rfl);(· kernel_rfl);(· kernel_rfl))
 refine stp ?_
 refine ⟨⟨by omega,by omega⟩,Jh (b:= .bp (0,s0) (4+i.k)) (congrArg (AV.bp (0,s0)) (by rw [show Tryz.prog.cellsOf 35=1 by kernel_rfl,Nat.mul_one];rfl)) ?_⟩
 (conv=> whnf)
 refine ⟨⟨rfl,by show 4+i.k < 23;omega⟩,Jh (JmP h16) ?_⟩
 refine stp ?_
 exact Jz rfl (Jay ⟨at',a,([c0,c1,c2,c3,c4,c5,c6,c7,c8,c9,c10,c11,c12,c13,c14,c15]).getD i.k 0,_,steps,loads⟩ oi _ 2 (by unfold doV;rw [hk];rfl) h0 (Jp _ _ rfl (.cons _ Sf) Sf ⟨rfl,OwnLe.refl _,trivial⟩ Pf))
theorem JmR (b:List Nat) (i:Ins) (hk:(kof i.code).1=8) (h16:i.k < 16) (s0:Nat) (s:Rn) (oi:Option Nat) (h0:oi=none→s.loads= []) (hs:s.ok) (nx:Nat):
 ECallR Tryz.prog 187 [.bp (0,s0) 0,opA i .any] (vmH b s0 s oi nx 2) (doQ b s0 (doV b i s)):=by
 obtain ⟨at',a,x,cells,steps,loads⟩:=s
 obtain ⟨c0,c1,c2,c3,c4,c5,c6,c7,c8,c9,c10,c11,c12,c13,c14,c15,rfl⟩:=JaQ hs.n
 refine Jas (J0 Tryz.func187 rfl rfl ?_)
 refine stp ?_
 (refine Jy 10 ?_ ?_ ?_ ?_;(· kernel_rfl);(· kernel_rfl);(· kernel_rfl))
 refine stp ?_
 refine ⟨⟨by omega,by omega⟩,Jh (b:= .bp (0,s0) (4+i.k)) (congrArg (AV.bp (0,s0)) (by rw [show Tryz.prog.cellsOf 35=1 by kernel_rfl,Nat.mul_one];rfl)) ?_⟩
 (conv=> whnf)
 refine ⟨⟨rfl,by show 4+i.k+1≤23;omega⟩, ?_⟩
 refine stp ?_
 exact Jz rfl (Jay ⟨at',a,x,([c0,c1,c2,c3,c4,c5,c6,c7,c8,c9,c10,c11,c12,c13,c14,c15]).set i.k a,steps,loads⟩ oi _ 2 (by unfold doV;rw [hk];rfl) h0 (Jp _ _ rfl (.cons _ Sf) Sf ⟨rfl,OwnLe.of_eq (congrArg Own.c (JmQ h16)),trivial⟩ Pf))
theorem JmS (b:List Nat) (i:Ins) (hk:(kof i.code).1=9) (h16:i.k < 16) (s0:Nat) (s:Rn) (oi:Option Nat) (h0:oi=none→s.loads= []) (hs:s.ok) (nx:Nat):
 ECallR Tryz.prog 188 [.bp (0,s0) 0,opA i .any] (vmH b s0 s oi nx 2) (doQ b s0 (doV b i s)):=by
 obtain ⟨at',a,x,cells,steps,loads⟩:=s
 obtain ⟨c0,c1,c2,c3,c4,c5,c6,c7,c8,c9,c10,c11,c12,c13,c14,c15,rfl⟩:=JaQ hs.n
 refine Jas (J0 Tryz.func188 rfl rfl ?_)
 refine stp ?_
 (refine Jy 10 ?_ ?_ ?_ ?_;(· kernel_rfl);(· kernel_rfl);(· kernel_rfl))
 refine stp ?_
 refine ⟨⟨by omega,by omega⟩,Jh (b:= .bp (0,s0) (4+i.k)) (congrArg (AV.bp (0,s0)) (by rw [show Tryz.prog.cellsOf 35=1 by kernel_rfl,Nat.mul_one];rfl)) ?_⟩
 (conv=> whnf)
 refine ⟨⟨rfl,by show 4+i.k+1≤23;omega⟩, ?_⟩
 refine stp ?_
 exact Jz rfl (Jay ⟨at',a,x,([c0,c1,c2,c3,c4,c5,c6,c7,c8,c9,c10,c11,c12,c13,c14,c15]).set i.k x,steps,loads⟩ oi _ 2 (by unfold doV;rw [hk];rfl) h0 (Jp _ _ rfl (.cons _ Sf) Sf ⟨rfl,OwnLe.of_eq (congrArg Own.c (JmQ h16)),trivial⟩ Pf))
theorem Jrt (b:List Nat) (i:Ins) (hk:(kof i.code).1=12) (s0:Nat) (s:Rn) (oi:Option Nat) (h0:oi=none→s.loads= []) (hs:s.ok) (nx:Nat):
 ECallR Tryz.prog 191 [.bp (0,s0) 0,opA i .any] (vmH b s0 s oi nx 2) (doQ b s0 (doV b i s)):=by
 obtain ⟨at',a,x,cells,steps,loads⟩:=s
 obtain ⟨c0,c1,c2,c3,c4,c5,c6,c7,c8,c9,c10,c11,c12,c13,c14,c15,rfl⟩:=JaQ hs.n
 refine Jas (J0 Tryz.func191 rfl rfl ?_)
 refine stp ?_
 have hv:IntKind.u32.wrap (0 - (a:Int))=(((4294967296 - a) % 4294967296:Nat):Int):=by
  have:=hs.a
  dsimp only at this
  show (0 - (a:Int)) % 4294967296=_
  omega
 exact Jz rfl (Jay ⟨at',(4294967296 - a) % 4294967296,x,_,steps,loads⟩ oi _ 2 (by unfold doV;rw [hk];rfl) h0 (Jp _ _ rfl (.cons _ Sf) Sf ⟨rfl,⟨Rf,Rf,Jd hv,LeL.refl _⟩,trivial⟩ Pf))
theorem JpO (b:List Nat) (i:Ins) (hk:(kof i.code).1=13) (s0:Nat) (s:Rn) (oi:Option Nat) (h0:oi=none→s.loads= []) (hs:s.ok) (hj:s.at'+i.k≤1000000) (nx:Nat):
 ECallR Tryz.prog 192 [.bp (0,s0) 0,opA i .any] (vmH b s0 s oi nx 2) (doQ b s0 (doV b i s)):=by
 obtain ⟨at',a,x,cells,steps,loads⟩:=s
 obtain ⟨c0,c1,c2,c3,c4,c5,c6,c7,c8,c9,c10,c11,c12,c13,c14,c15,rfl⟩:=JaQ hs.n
 refine Jas (J0 Tryz.func192 rfl rfl ?_)
 refine stp ?_
 (refine Jy 9 ?_ ?_ ?_ ?_;(· kernel_rfl);(· kernel_rfl);(· kernel_rfl))
 refine stp ?_
 have hv:IntKind.i64.wrap ((at':Int)+IntKind.i64.wrap (i.k:Int))=((at'+i.k:Nat):Int):=by
  dsimp only at hj
  rw [show IntKind.i64.wrap (i.k:Int)=i.k from Jq Om Om,Jq Om Om];omega
 exact Jz rfl (Jay ⟨at'+i.k,a,x,_,steps,loads⟩ oi _ 2 (by unfold doV;rw [hk];rfl) h0 (Jp _ _ rfl (.cons _ Sf) Sf ⟨rfl,⟨Rf,Jd hv,Rf,LeL.refl _⟩,trivial⟩ Pf))
theorem JpP (b:List Nat) (i:Ins) (hk:(kof i.code).1=14) (s0:Nat) (s:Rn) (oi:Option Nat) (h0:oi=none→s.loads= []) (hs:s.ok) (nx:Nat):
 ECallR Tryz.prog 193 [.bp (0,s0) 0,opA i .any] (vmH b s0 s oi nx 2) (doQ b s0 (doV b i s)):=by
 obtain ⟨at',a,x,cells,steps,loads⟩:=s
 obtain ⟨c0,c1,c2,c3,c4,c5,c6,c7,c8,c9,c10,c11,c12,c13,c14,c15,rfl⟩:=JaQ hs.n
 refine Jas (J0 Tryz.func193 rfl rfl ?_)
 refine stp ?_
 exact JpK i.k ⟨at',a,x,_,steps,loads⟩ oi _ 2 (by unfold doV;rw [hk];rfl) Rf h0 (Jp _ _ rfl (.cons _ Sf) Sf ⟨rfl,OwnLe.refl _,trivial⟩ Pf)
theorem JpQ (b:List Nat) (i:Ins) (hk:(kof i.code).1=15) (s0:Nat) (s:Rn) (oi:Option Nat) (h0:oi=none→s.loads= []) (hs:s.ok) (nx:Nat):
 ECallR Tryz.prog 194 [.bp (0,s0) 0,opA i .any] (vmH b s0 s oi nx 2) (doQ b s0 (doV b i s)):=by
 obtain ⟨at',a,x,cells,steps,loads⟩:=s
 obtain ⟨c0,c1,c2,c3,c4,c5,c6,c7,c8,c9,c10,c11,c12,c13,c14,c15,rfl⟩:=JaQ hs.n
 refine Jas (J0 Tryz.func194 rfl rfl ?_)
 refine stp ?_
 exact JpK a ⟨at',a,x,_,steps,loads⟩ oi _ 2 (by unfold doV;rw [hk];rfl) Rf h0 (Jp _ _ rfl (.cons _ Sf) Sf ⟨rfl,OwnLe.refl _,trivial⟩ Pf)
theorem JmT {l:List Nat} {x:Int} {v s c:Nat} {f':Nat→AV} (hx:x=(v:Nat)) (hf:f' 0=int x):AVle (.os 1 (l.length+1) (JbH l.length (JdB l) f') (some (c,s))) (.os 1 (l++ [v]).length (JdB (l++ [v])) (some (1,s))):=by
 refine AVle.trans (b:= .os 1 (l.length+1) (JdB (l++ [v])) (some (c,s))) (AVle.os_fun (JaT (fun k hk=> ?_) ?_)) ?_
 ·simp [JdB,List.getD,List.getElem?_append_left hk,hk]
 ·rw [hf,hx];simp [JdB,List.getD]
 ·rw [List.length_append];exact AVle.os_nm rfl
theorem JuH {b:List Nat} {at' a x steps a':Nat} {loads loads':List Nat} {oi oi':Option Nat} {c0 c1 c2 c3 c4 c5 c6 c7 c8 c9 c10 c11 c12 c13 c14 c15:Nat} {V X:AV} (hV:AVle V (u32 a')) (hX:AVle X (.os 1 loads'.length (JdB loads') (nmN 1 oi'))):
 OwnLe (.c (JN (JN (Jdf b ⟨at',a,x, [c0,c1,c2,c3,c4,c5,c6,c7,c8,c9,c10,c11,c12,c13,c14,c15],steps,loads⟩ oi) 2 [V]) 22 [X])) (.c (Jdf b ⟨at',a',x, [c0,c1,c2,c3,c4,c5,c6,c7,c8,c9,c10,c11,c12,c13,c14,c15],steps,loads'⟩ oi')):=by
 show LeL [JI b,int at',V,u32 x,JL c0,JL c1,JL c2,JL c3,JL c4,JL c5,JL c6,JL c7,JL c8,JL c9,JL c10,JL c11,JL c12,JL c13,JL c14,JL c15,u32 0,int steps,X] [JI b,int at',u32 a',u32 x,JL c0,JL c1,JL c2,JL c3,JL c4,JL c5,JL c6,JL c7,JL c8,JL c9,JL c10,JL c11,JL c12,JL c13,JL c14,JL c15,u32 0,int steps, .os 1 loads'.length (JdB loads') (nmN 1 oi')]
 exact ⟨Rf,Rf,hV,Rf,Rf,Rf,Rf,Rf,Rf,Rf,Rf,Rf,Rf,Rf,Rf,Rf,Rf,Rf,Rf,Rf,Rf,Rf,hX,trivial⟩
theorem JpR (b:List Nat) (hb:okB b) (hbl:b.length=64) (i:Ins) (hk:(kof i.code).1=1) (h60:i.k≤60) (s0:Nat) (s:Rn) (oi:Option Nat) (h0:oi=none→s.loads= []) (hs:s.ok) (hl:s.loads.length≤1000000) (nx:Nat):
 ECallR Tryz.prog 180 [.bp (0,s0) 0,opA i .any] (vmH b s0 s oi nx 2) (doQ b s0 (doV b i s)):=by
 obtain ⟨at',a,x,cells,steps,loads⟩:=s
 obtain ⟨c0,c1,c2,c3,c4,c5,c6,c7,c8,c9,c10,c11,c12,c13,c14,c15,rfl⟩:=JaQ hs.n
 have hwk:IntKind.i64.wrap (i.k:Int)=(i.k:Nat):=Jq Om Om
 have hz:JbE b.length (i.k:Int) 4=0:=by unfold JbE;rw [if_pos ⟨by omega,by omega⟩]
 have hg:=JiD b hb Om (i.k:Int) ⟨by omega,by omega⟩ 4 (.inr (.inr (.inl rfl))) false
 rw [if_pos hz,hz] at hg
 have hg:Tells Tryz.prog 45 [JI b,int i.k,int 4,Jg false] (.tup [u64 (JdZ b i.k:Nat),int 0]):=hg
 have hw:=JmM hb i.k
 have hl2:loads.length≤1000000:=hl
 have hwv:IntKind.u32.wrap (JdZ b i.k:Nat)=(JdZ b i.k:Nat):=by show ((JdZ b i.k:Nat):Int) % 4294967296=_;omega
 refine Jas (J0 Tryz.func180 rfl rfl ?_)
 refine stp ?_
 (refine Jy 14 ?_ ?_ ?_ ?_;(· kernel_rfl);(· kernel_rfl);(· kernel_rfl))
 refine stp ?_
 refine Jb9 (JaG rfl rfl hg ⟨Rf,Jd hwk,Rf,Rf,trivial⟩ (NoId.tup fun c hc=> ?_)) ?_
 ·simp at hc;rcases hc with rfl | rfl <;> exact NoId.v _
 refine stp ?_
 refine Jha 12 _ (fun i=> match i with | 11=> true | _=> false) [0,1,2,3,4,5,6,7,8,9,10,11] (by kernel_rfl) (by kernel_rfl) (HB.refl _) ?_
 refine stp ?_
 refine ⟨_,Jaq (e:=3) (c:=1) (pm:= []) (HB.refl _) rfl rfl rfl (.inr ⟨_,rfl⟩) (by kernel_rfl) (by kernel_rfl) (by kernel_rfl) (.inr rfl) (by kernel_rfl) (List.append_nil _).symm (JZ rfl) (by show (loads.length+1) * 8≤_;omega) (by show loads.length+1≤_;omega),fun r h' hr=> ?_⟩
 obtain ⟨rfl,rfl⟩:=hr
 refine stp ?_
 exact Jz rfl (Jay ⟨at',JdZ b i.k,x,_,steps,loads++ [i.k]⟩ (some _) _ 2 (by unfold doV;rw [hk];rfl) (fun h=> by cases h) (Jp _ _ rfl (.cons _ Sf) Sf ⟨rfl,JuH (Jd hwv) (JmT hwk rfl),trivial⟩ ⟨rfl,by simp,trivial⟩))
end Go.Proofs.W

namespace Go.Proofs.W
open Go.Vl
set_option maxRecDepth 100000
theorem Jjw (b:List Nat) (i:Ins) (s:Rn) (oi:Option Nat):Tells Tryz.prog 195 [.rp (Jdf b s oi),opA i .any] (u32 (JeR i s:Nat)):=by
 refine Jc Tryz.func195 rfl rfl fun nx=> ?_
 refine stp ?_
 intro c hc
 refine stp ?_
 cases c
 ·refine stp ?_
  refine Ja rfl (Jd ?_)
  unfold JeR;rw [← hc];rfl
 ·refine stp ?_
  refine Ja rfl (Jd ?_)
  unfold JeR;rw [← hc];rfl
theorem w32 {n:Nat}:IntKind.u32.wrap (n:Int)=((n % 4294967296:Nat):Int):=by show (n:Int) % 4294967296=_;omega
theorem Jhn {n:Nat} (h:n < 4294967296):IntKind.u32.wrap (n:Int)=(n:Int):=by rw [w32,Nat.mod_eq_of_lt h]
theorem Jtk {a b:Nat} (ha:a < 4294967296) (hb:b < 4294967296):JU .xor .u32 a b=((a ^^^ b:Nat):Int):=by
 have hx:a ^^^ b < 2 ^ 32:=Nat.xor_lt_two_pow (n:=32) ha hb
 unfold JU
 simp only [BitVec.toNat_xor]
 rw [Jcz (by exact ha),Jcz (by exact hb)]
 exact Jhn hx
theorem Jgx {a b:Nat} (ha:a < 4294967296) (hb:b < 4294967296):JU .or .u32 a b=((a||| b:Nat):Int):=by
 have hx:a||| b < 2 ^ 32:=Nat.or_lt_two_pow (n:=32) ha hb
 exact JfZ (k:= .u32) ha hb (Jhn hx)
theorem JlH (a n:Nat):IntKind.u32.wrap ((a:Int)+n)=(((a+n) % 4294967296:Nat):Int):=by
 rw [← w32];rfl
theorem JpS {a n:Nat} (hn:n < 4294967296):IntKind.u32.wrap ((a:Int) - n)=(((a+4294967296 - n) % 4294967296:Nat):Int):=by
 show ((a:Int) - n) % 4294967296=_;omega
theorem JpT (a n:Nat):IntKind.u32.wrap ((a:Int) * n)=((a * n % 4294967296:Nat):Int):=by
 rw [← w32];rfl
theorem JlI {a n:Nat} (ha:a < 4294967296):IntKind.u32.wrap ((a:Int).tdiv n)=((a / n:Nat):Int):=by
 have:(a:Int).tdiv n=((a / n:Nat):Int):=rfl
 rw [this,Jhn (Nat.lt_of_le_of_lt (Nat.div_le_self _ _) ha)]
theorem Jud (n:Nat):Int.toNat ((n:Int).tmod 32)=n % 32:=rfl
theorem Jwy (a n:Nat):IntKind.u32.wrap ((a:Int) * 2 ^ (min (Int.toNat ((n:Int).tmod 32)) IntKind.u32.bits))=((a * 2 ^ (n % 32) % 4294967296:Nat):Int):=by
 have hm:min (Int.toNat ((n:Int).tmod 32)) IntKind.u32.bits=n % 32:=by
  rw [Jud];show min (n % 32) 32=_;omega
 rw [hm,← w32]
 push_cast
 rfl
theorem Jwz (a n:Nat):(a:Int).fdiv (2 ^ (min (Int.toNat ((n:Int).tmod 32)) IntKind.u32.bits))=((a / 2 ^ (n % 32):Nat):Int):=by
 have hm:min (Int.toNat ((n:Int).tmod 32)) IntKind.u32.bits=n % 32:=by
  rw [Jud];show min (n % 32) 32=_;omega
 rw [hm,Int.fdiv_eq_ediv_of_nonneg _ (by exact_mod_cast Nat.zero_le _)]
 simp
theorem JnZ (b:List Nat) (i:Ins) (hi:i.ok) (h16:16≤(kof i.code).1) (h25:(kof i.code).1 < 25) (s0:Nat) (s:Rn) (oi:Option Nat) (h0:oi=none→s.loads= []) (hs:s.ok) (nx:Nat):
 ECallR Tryz.prog 153 [.bp (0,s0) 0,opA i .any] (vmH b s0 s oi nx 2) (doQ b s0 (doV b i s)):=by
 have hn:=Jkf hi hs
 have ha:=hs.a
 have hoth:=Jjw b i s oi
 have hd:doV b i s=(match Jex (kof i.code).1 s.a (JeR i s) with | some v=> (none, { s with a:=v}) | none=> (some 0,s)):=by
  unfold doV
  split <;> first | (exfalso;omega) | skip
  rw [if_pos h25]
  try rfl
 generalize JeR i s = n at *
 obtain ⟨at',a,x,cells,steps,loads⟩:=s
 obtain ⟨c0,c1,c2,c3,c4,c5,c6,c7,c8,c9,c10,c11,c12,c13,c14,c15,rfl⟩:=JaQ hs.n
 dsimp only at ha
 rw [hd]
 have hk:=h16
 generalize hK : (kof i.code).1 = K at *
 refine Jas (J0 Tryz.func153 rfl rfl ?_)
 refine stp ?_
 refine AOp.of_yields (JfN rfl rfl hoth ⟨Frz.bp (.tail _ (.head _)) rfl,Frz.refl _,trivial⟩ (Flat.v _)) ?_
 refine stp ?_
 intro c t16;cases c
 ·have t16:=JO.1 t16
  refine stp ?_
  intro c t17;cases c
  ·have t17:=JO.1 t17
   refine stp ?_
   intro c t18;cases c
   ·have t18:=JO.1 t18
    refine stp ?_
    intro c t19;cases c
    ·have t19:=JO.1 t19
     refine stp ?_
     intro c t20;cases c
     ·have t20:=JO.1 t20
      refine stp ?_
      intro c t21;cases c
      ·have t21:=JO.1 t21
       refine stp ?_
       intro c t22;cases c
       ·have t22:=JO.1 t22
        refine stp ?_
        intro c t23;cases c
        ·have t23:=JO.1 t23
         refine stp ?_
         obtain rfl:K=24:=by omega
         refine stp ?_
         exact Jz rfl (Jay ⟨at',a ^^^ n,x,_,steps,loads⟩ oi _ 2 rfl h0 (Jp _ _ rfl (.cons _ Sf) Sf ⟨rfl,⟨Rf,Rf,Jd (Jtk ha hn),LeL.refl _⟩,trivial⟩ Pf))
        ·have t23:=JP.1 t23
         obtain rfl:K=23:=by omega
         refine stp ?_
         refine ⟨Int.natCast_nonneg _, ?_⟩
         refine stp ?_
         exact Jz rfl (Jay ⟨at',a / 2 ^ (n % 32),x,_,steps,loads⟩ oi _ 2 rfl h0 (Jp _ _ rfl (.cons _ Sf) Sf ⟨rfl,⟨Rf,Rf,Jd (Jwz a n),LeL.refl _⟩,trivial⟩ Pf))
       ·have t22:=JP.1 t22
        obtain rfl:K=22:=by omega
        refine stp ?_
        refine ⟨Int.natCast_nonneg _, ?_⟩
        refine stp ?_
        exact Jz rfl (Jay ⟨at',a * 2 ^ (n % 32) % 4294967296,x,_,steps,loads⟩ oi _ 2 rfl h0 (Jp _ _ rfl (.cons _ Sf) Sf ⟨rfl,⟨Rf,Rf,Jd (Jwy a n),LeL.refl _⟩,trivial⟩ Pf))
      ·have t21:=JP.1 t21
       obtain rfl:K=21:=by omega
       refine stp ?_
       exact Jz rfl (Jay ⟨at',a&&& n,x,_,steps,loads⟩ oi _ 2 rfl h0 (Jp _ _ rfl (.cons _ Sf) Sf ⟨rfl,⟨Rf,Rf,Jd (JcD ha hn),LeL.refl _⟩,trivial⟩ Pf))
     ·have t20:=JP.1 t20
      obtain rfl:K=20:=by omega
      refine stp ?_
      exact Jz rfl (Jay ⟨at',a||| n,x,_,steps,loads⟩ oi _ 2 rfl h0 (Jp _ _ rfl (.cons _ Sf) Sf ⟨rfl,⟨Rf,Rf,Jd (Jgx ha hn),LeL.refl _⟩,trivial⟩ Pf))
    ·have t19:=JP.1 t19
     obtain rfl:K=19:=by omega
     refine stp ?_
     intro c z;cases c
     ·have z:=JO.1 z
      refine stp ?_
      refine ⟨z, ?_⟩
      refine stp ?_
      have hr:Jex 19 a n=some (a / n):=by unfold Jex;exact if_neg Om
      rw [hr]
      exact Jz rfl (Jay ⟨at',a / n,x,_,steps,loads⟩ oi _ 2 rfl h0 (Jp _ _ rfl (.cons _ Sf) Sf ⟨rfl,⟨Rf,Rf,Jd (JlI ha),LeL.refl _⟩,trivial⟩ Pf))
     ·have z:=JP.1 z
      obtain rfl:n=0:=by omega
      refine stp ?_
      exact JpK 0 ⟨at',a,x,_,steps,loads⟩ oi _ 2 rfl Rf h0 (Jp _ _ rfl (.cons _ Sf) Sf ⟨rfl,OwnLe.refl _,trivial⟩ Pf)
   ·have t18:=JP.1 t18
    obtain rfl:K=18:=by omega
    refine stp ?_
    exact Jz rfl (Jay ⟨at',a * n % 4294967296,x,_,steps,loads⟩ oi _ 2 rfl h0 (Jp _ _ rfl (.cons _ Sf) Sf ⟨rfl,⟨Rf,Rf,Jd (JpT a n),LeL.refl _⟩,trivial⟩ Pf))
  ·have t17:=JP.1 t17
   obtain rfl:K=17:=by omega
   refine stp ?_
   exact Jz rfl (Jay ⟨at',(a+4294967296 - n) % 4294967296,x,_,steps,loads⟩ oi _ 2 rfl h0 (Jp _ _ rfl (.cons _ Sf) Sf ⟨rfl,⟨Rf,Rf,Jd (JpS hn),LeL.refl _⟩,trivial⟩ Pf))
 ·have t16:=JP.1 t16
  obtain rfl:K=16:=by omega
  refine stp ?_
  exact Jz rfl (Jay ⟨at',(a+n) % 4294967296,x,_,steps,loads⟩ oi _ 2 rfl h0 (Jp _ _ rfl (.cons _ Sf) Sf ⟨rfl,⟨Rf,Rf,Jd (JlH a n),LeL.refl _⟩,trivial⟩ Pf))
theorem JmU (b:List Nat) (i:Ins) (hi:i.ok) (h25:25≤(kof i.code).1) (s0:Nat) (s:Rn) (oi:Option Nat) (h0:oi=none→s.loads= []) (hs:s.ok) (hj:s.at'≤1000000) (nx:Nat):
 ECallR Tryz.prog 152 [.bp (0,s0) 0,opA i .any] (vmH b s0 s oi nx 2) (doQ b s0 (doV b i s)):=by
 have hn:=Jkf hi hs
 have ha:=hs.a
 have hoth:=Jjw b i s oi
 have hle:=Jf0 i.code
 have hd:doV b i s=(none, { s with at':=s.at'+if JC (kof i.code).1 s.a (JeR i s) then i.jt else i.jf}):=by
  unfold doV
  split <;> first | (exfalso;omega) | skip
  rw [if_neg Om]
 generalize JeR i s = n at *
 obtain ⟨at',a,x,cells,steps,loads⟩:=s
 obtain ⟨c0,c1,c2,c3,c4,c5,c6,c7,c8,c9,c10,c11,c12,c13,c14,c15,rfl⟩:=JaQ hs.n
 dsimp only at ha hj
 rw [hd]
 have hv:∀j:Nat,j < 256→IntKind.i64.wrap ((at':Int)+IntKind.i64.wrap (j:Int))=((at'+j:Nat):Int):=fun j hj2=> by
  rw [show IntKind.i64.wrap (j:Int)=j from Jq Om Om,Jq Om Om];omega
 have hand:JU .and .u32 (a:Int) (n:Int)=((a&&& n:Nat):Int):=JcD ha hn
 generalize hK : (kof i.code).1 = K at *
 refine Jas (J0 Tryz.func152 rfl rfl ?_)
 refine stp ?_
 refine AOp.of_yields (JfN rfl rfl hoth ⟨Frz.bp (.tail _ (.head _)) rfl,Frz.refl _,trivial⟩ (Flat.v _)) ?_
 refine stp ?_
 intro c t25;cases c
 ·have t25:=JO.1 t25
  refine stp ?_
  intro c t26;cases c
  ·have t26:=JO.1 t26
   refine stp ?_
   intro c t27;cases c
   ·have t27:=JO.1 t27
    refine stp ?_
    refine stp ?_
    intro c hc
    have hKK:K=28:=by omega
    have hb:JC K a n=c:=by subst hKK;rw [hc];unfold JC;rw [hand,Bool.eq_iff_iff];simp
    refine stp ?_
    cases c
    ·refine stp ?_
     (refine Jy 9 ?_ ?_ ?_ ?_;(· kernel_rfl);(· kernel_rfl);(· kernel_rfl))
     refine stp ?_
     have e:(if JC K a n then i.jt else i.jf)=i.jf:=by rw [hb];rfl
     exact Jz rfl (Jay ⟨at'+i.jf,a,x,_,steps,loads⟩ oi _ 2 (by dsimp only;rw [e]) h0 (Jp _ _ rfl (.cons _ Sf) Sf ⟨rfl,⟨Rf,Jd (hv i.jf hi.2.2.1),Rf,LeL.refl _⟩,trivial⟩ Pf))
    ·refine stp ?_
     (refine Jy 9 ?_ ?_ ?_ ?_;(· kernel_rfl);(· kernel_rfl);(· kernel_rfl))
     refine stp ?_
     have e:(if JC K a n then i.jt else i.jf)=i.jt:=by rw [hb];rfl
     exact Jz rfl (Jay ⟨at'+i.jt,a,x,_,steps,loads⟩ oi _ 2 (by dsimp only;rw [e]) h0 (Jp _ _ rfl (.cons _ Sf) Sf ⟨rfl,⟨Rf,Jd (hv i.jt hi.2.1),Rf,LeL.refl _⟩,trivial⟩ Pf))
   ·have t27:=JP.1 t27
    refine stp ?_
    intro c hc
    have hKK:K=27:=by omega
    have hb:JC K a n=c:=by subst hKK;rw [hc];unfold JC;rw [Bool.eq_iff_iff];simp
    refine stp ?_
    cases c
    ·refine stp ?_
     (refine Jy 9 ?_ ?_ ?_ ?_;(· kernel_rfl);(· kernel_rfl);(· kernel_rfl))
     refine stp ?_
     have e:(if JC K a n then i.jt else i.jf)=i.jf:=by rw [hb];rfl
     exact Jz rfl (Jay ⟨at'+i.jf,a,x,_,steps,loads⟩ oi _ 2 (by dsimp only;rw [e]) h0 (Jp _ _ rfl (.cons _ Sf) Sf ⟨rfl,⟨Rf,Jd (hv i.jf hi.2.2.1),Rf,LeL.refl _⟩,trivial⟩ Pf))
    ·refine stp ?_
     (refine Jy 9 ?_ ?_ ?_ ?_;(· kernel_rfl);(· kernel_rfl);(· kernel_rfl))
     refine stp ?_
     have e:(if JC K a n then i.jt else i.jf)=i.jt:=by rw [hb];rfl
     exact Jz rfl (Jay ⟨at'+i.jt,a,x,_,steps,loads⟩ oi _ 2 (by dsimp only;rw [e]) h0 (Jp _ _ rfl (.cons _ Sf) Sf ⟨rfl,⟨Rf,Jd (hv i.jt hi.2.1),Rf,LeL.refl _⟩,trivial⟩ Pf))
  ·have t26:=JP.1 t26
   refine stp ?_
   intro c hc
   have hKK:K=26:=by omega
   have hb:JC K a n=c:=by subst hKK;rw [hc];unfold JC;rw [Bool.eq_iff_iff];simp
   refine stp ?_
   cases c
   ·refine stp ?_
    (refine Jy 9 ?_ ?_ ?_ ?_;(· kernel_rfl);(· kernel_rfl);(· kernel_rfl))
    refine stp ?_
    have e:(if JC K a n then i.jt else i.jf)=i.jf:=by rw [hb];rfl
    exact Jz rfl (Jay ⟨at'+i.jf,a,x,_,steps,loads⟩ oi _ 2 (by dsimp only;rw [e]) h0 (Jp _ _ rfl (.cons _ Sf) Sf ⟨rfl,⟨Rf,Jd (hv i.jf hi.2.2.1),Rf,LeL.refl _⟩,trivial⟩ Pf))
   ·refine stp ?_
    (refine Jy 9 ?_ ?_ ?_ ?_;(· kernel_rfl);(· kernel_rfl);(· kernel_rfl))
    refine stp ?_
    have e:(if JC K a n then i.jt else i.jf)=i.jt:=by rw [hb];rfl
    exact Jz rfl (Jay ⟨at'+i.jt,a,x,_,steps,loads⟩ oi _ 2 (by dsimp only;rw [e]) h0 (Jp _ _ rfl (.cons _ Sf) Sf ⟨rfl,⟨Rf,Jd (hv i.jt hi.2.1),Rf,LeL.refl _⟩,trivial⟩ Pf))
 ·have t25:=JP.1 t25
  refine stp ?_
  intro c hc
  have hKK:K=25:=by omega
  have hb:JC K a n=c:=by subst hKK;rw [hc];unfold JC;rw [Bool.eq_iff_iff];simp;omega
  refine stp ?_
  cases c
  ·refine stp ?_
   (refine Jy 9 ?_ ?_ ?_ ?_;(· kernel_rfl);(· kernel_rfl);(· kernel_rfl))
   refine stp ?_
   have e:(if JC K a n then i.jt else i.jf)=i.jf:=by rw [hb];rfl
   exact Jz rfl (Jay ⟨at'+i.jf,a,x,_,steps,loads⟩ oi _ 2 (by dsimp only;rw [e]) h0 (Jp _ _ rfl (.cons _ Sf) Sf ⟨rfl,⟨Rf,Jd (hv i.jf hi.2.2.1),Rf,LeL.refl _⟩,trivial⟩ Pf))
  ·refine stp ?_
   (refine Jy 9 ?_ ?_ ?_ ?_;(· kernel_rfl);(· kernel_rfl);(· kernel_rfl))
   refine stp ?_
   have e:(if JC K a n then i.jt else i.jf)=i.jt:=by rw [hb];rfl
   exact Jz rfl (Jay ⟨at'+i.jt,a,x,_,steps,loads⟩ oi _ 2 (by dsimp only;rw [e]) h0 (Jp _ _ rfl (.cons _ Sf) Sf ⟨rfl,⟨Rf,Jd (hv i.jt hi.2.1),Rf,LeL.refl _⟩,trivial⟩ Pf))
end Go.Proofs.W

namespace Go.Proofs.W
open Go.Vl
set_option maxRecDepth 100000
def fnL:List (Nat×FuncId):= [(1,180),(2,181),(3,182),(4,183),(5,184),(6,185),(7,186),(8,187),(9,188),(10,189),(11,190),(12,191),(13,192),(14,193),(15,194)]
def Jbf (k:Nat):FuncId:=if k < 16 then (lk fnL k).getD 0 else if k < 25 then 153 else 152
def fnM (l:List (Nat×FuncId)):List (Value×AV):=l.map fun p=> (.int .i64 (p.1:Nat), .fn (.func p.2) [] [])
theorem Jtl (l:List (Nat×FuncId)) (c:Nat):Jba (.int .i64 (c:Nat)) (fnM l)=(lk l c).map fun k=> AV.fn (.func k) [] []:=by
 induction l with
 | nil=> rfl
 | cons p l ih=>
   unfold fnM at ih⊢
   simp only [List.map_cons,Jba]
   unfold lk at ih⊢
   rw [List.find?_cons]
   have:JcC (.int .i64 (c:Nat)) (.int .i64 (p.1:Nat))=(p.1 ==c):=by
    simp only [JcC,Jb5,Bool.true_and]
    rw [Bool.eq_iff_iff];simp;omega
   rw [this]
   cases h:p.1 ==c
   ·simpa using ih
   ·simp
theorem JpU:Tells Tryz.prog 151 [] (.fm (fnM fnL)):=by
 refine Jc Tryz.func151 rfl rfl fun nx=> ?_
 (repeat ((conv=>whnf);first|refine ω0 ?_|refine ω1 ?_|refine ω2 ?_|refine ω3 ?_|refine ω4 rfl ?_|refine ω5 rfl ?_|refine ω6 ?_|refine ω7 ?_|refine ⟨rfl,?_⟩|refine ⟨trivial,?_⟩|refine ⟨⟨rfl,Nat.le_of_ble_eq_true rfl⟩,?_⟩|refine ⟨⟨by kernel_rfl,by kernel_rfl⟩,?_⟩|refine ⟨by decide,?_⟩|refine Jcd ?_|refine JbO ?_))
 refine AW.le (JaO (L:= [(0, .fm (fnM fnL))]) (bx:= []) (pm:= []) (nn:=0) [((0,nx), .mp (fnM fnL))] rfl rfl Sf .slnil ⟨Frz.om (.head _),trivial⟩) ?_
 refine stp ?_
 refine Ja rfl Rf
theorem JvH:∀k,k < 16→k≠0→lk fnL k=some (Jbf k):=by decide
theorem JuI:∀k,k < 29→16≤k→lk fnL k=none:=by decide
theorem JuJ (b:List Nat) (hb:okB b) (hbl:b.length=64) (i:Ins) (hi:i.ok) (r:Nat) (hw:wrongI i r=0) (s0:Nat) (s:Rn) (oi:Option Nat) (h0:oi=none→s.loads= []) (hs:s.ok) (ha:s.at'≤500000) (hr:r≤5000) (hl:s.loads.length≤1000000) (nx:Nat):
 ECallR Tryz.prog (Jbf (kof i.code).1) [.bp (0,s0) 0,opA i .any] (vmH b s0 s oi nx 2) (doQ b s0 (doV b i s)):=by
 have hle:=Jf0 i.code
 obtain ⟨w1,w2,w3,w4⟩:=Jbs hw
 by_cases h16:16≤(kof i.code).1
 ·by_cases h25:(kof i.code).1 < 25
  ·rw [show Jbf (kof i.code).1=153 by unfold Jbf;rw [if_neg Om,if_pos h25]]
   exact JnZ b i hi h16 h25 s0 s oi h0 hs nx
  ·rw [show Jbf (kof i.code).1=152 by unfold Jbf;rw [if_neg Om,if_neg h25]]
   exact JmU b i hi Om s0 s oi h0 hs Om nx
 by_cases hk:(kof i.code).1=1
 ·rw [show Jbf (kof i.code).1=180 by rw [hk];rfl]
  exact JpR b hb hbl i hk Om s0 s oi h0 hs hl nx
 by_cases hk:(kof i.code).1=2
 ·rw [show Jbf (kof i.code).1=181 by rw [hk];rfl]
  exact Jrq b i hk s0 s oi h0 hs nx
 by_cases hk:(kof i.code).1=3
 ·rw [show Jbf (kof i.code).1=182 by rw [hk];rfl]
  exact JnX b i hk Om s0 s oi h0 hs nx
 by_cases hk:(kof i.code).1=4
 ·rw [show Jbf (kof i.code).1=183 by rw [hk];rfl]
  exact JpL b i hk s0 s oi h0 hs nx
 by_cases hk:(kof i.code).1=5
 ·rw [show Jbf (kof i.code).1=184 by rw [hk];rfl]
  exact JpM b i hk s0 s oi h0 hs nx
 by_cases hk:(kof i.code).1=6
 ·rw [show Jbf (kof i.code).1=185 by rw [hk];rfl]
  exact JnY b i hk Om s0 s oi h0 hs nx
 by_cases hk:(kof i.code).1=7
 ·rw [show Jbf (kof i.code).1=186 by rw [hk];rfl]
  exact JpN b i hk s0 s oi h0 hs nx
 by_cases hk:(kof i.code).1=8
 ·rw [show Jbf (kof i.code).1=187 by rw [hk];rfl]
  exact JmR b i hk Om s0 s oi h0 hs nx
 by_cases hk:(kof i.code).1=9
 ·rw [show Jbf (kof i.code).1=188 by rw [hk];rfl]
  exact JmS b i hk Om s0 s oi h0 hs nx
 by_cases hk:(kof i.code).1=10
 ·rw [show Jbf (kof i.code).1=189 by rw [hk];rfl]
  exact Jrr b i hk s0 s oi h0 hs nx
 by_cases hk:(kof i.code).1=11
 ·rw [show Jbf (kof i.code).1=190 by rw [hk];rfl]
  exact Jrs b i hk s0 s oi h0 hs nx
 by_cases hk:(kof i.code).1=12
 ·rw [show Jbf (kof i.code).1=191 by rw [hk];rfl]
  exact Jrt b i hk s0 s oi h0 hs nx
 by_cases hk:(kof i.code).1=13
 ·rw [show Jbf (kof i.code).1=192 by rw [hk];rfl]
  exact JpO b i hk s0 s oi h0 hs Om nx
 by_cases hk:(kof i.code).1=14
 ·rw [show Jbf (kof i.code).1=193 by rw [hk];rfl]
  exact JpP b i hk s0 s oi h0 hs nx
 by_cases hk:(kof i.code).1=15
 ·rw [show Jbf (kof i.code).1=194 by rw [hk];rfl]
  exact JpQ b i hk s0 s oi h0 hs nx
 omega
def opI (i:Ins):AV:=opA i (.fn (.func (Jbf (kof i.code).1)) [] [])
def opF (l:List Ins) (k:Nat):AV:=opI (l.getD k ins0)
def JiI (l:List Ins):AV:=Jai 7 opI ins0 l
def Jgy (l:List Ins):AV:=if (checkI l).2=0 then .tup [.rp [JiI l],int 0] else .tup [.v (.pointer none),int (checkI l).2]
set_option maxHeartbeats 1000000 in
theorem Jtm (l:List Ins) (hok:okL l) (hl:l.length≤1000000000):Tells Tryz.prog 104 [Jan l] (Jgy l):=by
 refine Jc Tryz.func104 rfl rfl fun nx0=> ?_
 refine stp ?_
 refine Jb rfl rfl (Jjv l hok hl) ⟨Rf,trivial⟩ fun nx=> ?_
 refine stp ?_
 intro c g1;cases c
 rotate_left
 ·have g1:=Jbg g1
  have hv:Jgy l= .tup [.v (.pointer none),int (checkI l).2]:=by unfold Jgy;rw [if_neg Om]
  rw [hv]
  refine stp ?_
  exact Ja rfl Rf
 have g1:=JbD g1
 have hc:(checkI l).2=0:=by omega
 have hf:Formed l:=(Jhm.1 hc).1
 have hle:=hf.le
 have hv:Jgy l= .tup [.rp [JiI l],int 0]:=by unfold Jgy;rw [if_pos hc]
 rw [hv]
 refine stp ?_
 refine Jb rfl rfl JpU trivial fun nx2=> ?_
 refine stp ?_
 refine Jr (fun s:Nat×Option Nat×Nat=> mk 63 [(6, .bp (0,nx) 0),(7, .fm (fnM fnL)),(25,Jan l),(26,int l.length),(27,int s.1)] ⟨[((0,nx), .c [.os 7 s.1 (opF l) (nmN 1 s.2.1)])],JaH (nmN 1 s.2.1) (s.1 * 7),s.2.2,2⟩)
  (fun s=> s.1≤l.length∧(s.2.1=none→s.1=0)) (fun s=> l.length - s.1) ?_ ?_
 ·exact ⟨(0,none,nx2),⟨by dsimp only;omega,fun _=> rfl⟩,Je _ _ rfl rfl Sf .slnil ⟨rfl,⟨AVle.os_nil,trivial⟩,trivial⟩ trivial ⟨Rf,Rf,Rf,Rf,Rf,trivial⟩⟩
 ·rintro ⟨i,oi,nx3⟩ ⟨h1,h2⟩
  dsimp only at h1 h2
  refine stp ?_
  intro c g3;cases c
  ·have g3:=Jm g3
   dsimp only at g3
   obtain rfl:i=l.length:=by omega
   refine Jt ?_
   refine AW.le (JaO (L:= [(6, .rp [JiI l])]) (bx:= []) (pm:= []) (nn:=0) [((0,nx), .c [.os 7 l.length (opF l) (nmN 1 oi)])] rfl rfl Sf (List.nil_sublist _) ⟨Frz.bpL (.head _) ⟨Frz.of_le AVle.os_sl,trivial⟩,trivial⟩) ?_
   refine stp ?_
   exact Ja rfl Rf
  ·have g3:=Jl g3
   dsimp only at g3
   have hi:i < l.length:=by omega
   have hki:(l.getD i ins0).ok:=hok.get hi
   have hK0:(kof (l.getD i ins0).code).1≠0:=(Jbs (hf.ok i hi)).1
   have hK29:=Jf0 (l.getD i ins0).code
   have e1:=Jtl fnL (kof (l.getD i ins0).code).1
   refine stp ?_
   refine ⟨Bd, ?_⟩
   refine stp ?_
   refine Jb rfl rfl (JoE (l.getD i ins0).code hki.1) ⟨Rf,trivial⟩ fun nx4=> ?_
   refine stp ?_
   intro xb hxb
   refine stp ?_
   by_cases k16:(kof (l.getD i ins0).code).1 < 16
   ·have hD:Jbf (kof (l.getD i ins0).code).1=Jbf (kof (l.getD i ins0).code).1:=rfl
    rw [JvH _ k16 hK0] at e1
    refine Jh (b:= .fn (.func (Jbf (kof (l.getD i ins0).code).1)) [] []) (by
     show Jdr (Jba (.int .i64 ((kof (l.getD i ins0).code).1:Nat)) (fnM fnL)) _ false=_
     rw [e1];rfl) ?_
    refine stp ?_
    intro c hc
    obtain rfl:c=false:=hc.trans (decide_eq_false Om)
    refine stp ?_
    intro c hc
    obtain rfl:c=false:=hc.trans (decide_eq_false Om)
    refine stp ?_
    refine Jha 12 _ (fun i=> match i with | 11=> true | _=> false) [0,1,2,3,4,5,6,7,8,9,10,11] (by kernel_rfl) (by kernel_rfl) (HB.refl _) ?_
    refine stp ?_
    refine ⟨_,Jaq (e:=255) (c:=7) (pm:= []) (HB.refl _) rfl rfl rfl (.inr ⟨_,rfl⟩) (by kernel_rfl) (by kernel_rfl) (by kernel_rfl) (.inr rfl) (by kernel_rfl) (List.append_nil _).symm (JZ rfl) (by show (i+1) * 32≤_;omega) Om,fun r h' hr=> ?_⟩
    obtain ⟨rfl,rfl⟩:=hr
    refine stp ?_
    exact back (i+1,some _,_) ⟨by dsimp only;omega,(fun h=> by cases h)⟩ Dm (Je _ _ rfl rfl (.cons _ Sf) Sf ⟨rfl,⟨AVle.trans (b:= .os 7 (i+1) (opF l) _) (AVle.os_fun (JaT (fun k hk=> rfl) (by subst hxb;unfold opF opI;rw [hD];rfl))) (AVle.os_nm rfl),trivial⟩,trivial⟩ ⟨rfl,rfl,trivial⟩ ⟨Rf,Rf,Rf,Rf,Jd (Jk Dm),trivial⟩)
   ·rw [JuI _ Om Om] at e1
    refine Jh (b:= .v .nilFunc) (by
     show Jdr (Jba (.int .i64 ((kof (l.getD i ins0).code).1:Nat)) (fnM fnL)) _ false=_
     rw [e1];rfl) ?_
    refine stp ?_
    intro c t25;cases c
    ·have t25:=Jm t25
     have hD:Jbf (kof (l.getD i ins0).code).1=153:=by unfold Jbf;rw [if_neg Om,if_pos Om]
     refine stp ?_
     intro c hc
     obtain rfl:c=true:=hc.trans (decide_eq_true Om)
     refine stp ?_
     refine Jha 12 _ (fun i=> match i with | 11=> true | _=> false) [0,1,2,3,4,5,6,7,8,9,10,11] (by kernel_rfl) (by kernel_rfl) (HB.refl _) ?_
     refine stp ?_
     refine ⟨_,Jaq (e:=255) (c:=7) (pm:= []) (HB.refl _) rfl rfl rfl (.inr ⟨_,rfl⟩) (by kernel_rfl) (by kernel_rfl) (by kernel_rfl) (.inr rfl) (by kernel_rfl) (List.append_nil _).symm (JZ rfl) (by show (i+1) * 32≤_;omega) Om,fun r h' hr=> ?_⟩
     obtain ⟨rfl,rfl⟩:=hr
     refine stp ?_
     exact back (i+1,some _,_) ⟨by dsimp only;omega,(fun h=> by cases h)⟩ Dm (Je _ _ rfl rfl (.cons _ Sf) Sf ⟨rfl,⟨AVle.trans (b:= .os 7 (i+1) (opF l) _) (AVle.os_fun (JaT (fun k hk=> rfl) (by subst hxb;unfold opF opI;rw [hD];rfl))) (AVle.os_nm rfl),trivial⟩,trivial⟩ ⟨rfl,rfl,trivial⟩ ⟨Rf,Rf,Rf,Rf,Jd (Jk Dm),trivial⟩)
    ·have t25:=Jl t25
     have hD:Jbf (kof (l.getD i ins0).code).1=152:=by unfold Jbf;rw [if_neg Om,if_neg Om]
     refine stp ?_
     refine Jha 12 _ (fun i=> match i with | 11=> true | _=> false) [0,1,2,3,4,5,6,7,8,9,10,11] (by kernel_rfl) (by kernel_rfl) (HB.refl _) ?_
     refine stp ?_
     refine ⟨_,Jaq (e:=255) (c:=7) (pm:= []) (HB.refl _) rfl rfl rfl (.inr ⟨_,rfl⟩) (by kernel_rfl) (by kernel_rfl) (by kernel_rfl) (.inr rfl) (by kernel_rfl) (List.append_nil _).symm (JZ rfl) (by show (i+1) * 32≤_;omega) Om,fun r h' hr=> ?_⟩
     obtain ⟨rfl,rfl⟩:=hr
     refine stp ?_
     exact back (i+1,some _,_) ⟨by dsimp only;omega,(fun h=> by cases h)⟩ Dm (Je _ _ rfl rfl (.cons _ Sf) Sf ⟨rfl,⟨AVle.trans (b:= .os 7 (i+1) (opF l) _) (AVle.os_fun (JaT (fun k hk=> rfl) (by subst hxb;unfold opF opI;rw [hD];rfl))) (AVle.os_nm rfl),trivial⟩,trivial⟩ ⟨rfl,rfl,trivial⟩ ⟨Rf,Rf,Rf,Rf,Jd (Jk Dm),trivial⟩)
end Go.Proofs.W

namespace Go.Proofs.W
open Go.Vl
set_option maxRecDepth 100000
def runI (b:List Nat) (l:List Ins):Nat×Rn:=runV b l l.length rn0
def Jkg (v:Nat) (s:Rn):AV:= .ag [u32 v,int s.steps,JiC s.loads]
theorem Jn0 (b:List Nat) (hl:b.length≤1000000):Tells Tryz.prog 103 [JI b] (JI b):=by
 refine Jc Tryz.func103 rfl rfl fun nx=> ?_
 refine stp ?_
 refine Jme (e:=5) rfl (.inl rfl) (by kernel_rfl) (.inl rfl) fun c hc=> ?_
 cases c
 ·refine stp ?_
  (conv=> whnf)
  refine Ji3 (fun hm=> ?_) fun hm=> ?_
  ·refine stp ?_
   refine Ja rfl ?_
   unfold JI Jai
   rw [hm]
   exact AVle.os_sl0
  ·refine ⟨fun k hk=> rfl,by show (0+b.length) * 1≤_;omega,by omega, ?_⟩
   refine stp ?_
   refine Ja rfl ?_
   have e5:0+b.length=b.length:=Nat.zero_add _
   refine AVle.os_sl.trans ?_
   refine AVle.trans (b:= .sl 1 (0+b.length) (fun k=> u8 (b.getD k 0:Nat))) (AVle.sl_fun fun k hk=> rfl) (AVle.of_eq (by rw [e5];rfl))
 ·have hm:=hc rfl
  refine stp ?_
  refine Ja rfl ?_
  unfold JI Jai
  rw [hm]
  exact AVle.os_sl0
theorem JpV (b:List Nat) (s:Rn) (hs:s.ok) (oi:Option Nat) (v:Nat) (s0 s1 s2 s3 s5 nx:Nat) (o5:List AV):
 DCall Tryz.prog 154 [.bp (3,s3) 0, .bp (0,s0) 0, .bp (1,s1) 0] (.panicking (JpJ v)) ⟨[((5,s5), .c o5),((3,s3), .c [.bp (2,s2) 0]),((2,s2), .c (Jdf b s oi)),((1,s1), .c [int 0]),((0,s0), .c [u32 0,int 0, .os 0 0 (fun _=> .any) none])],JaH (nmN 1 oi) (s.loads.length * 1),nx,6⟩
  fun u h'=> u= .returning∧∃x y pm nx' nn',h'=⟨x::y:: [((3,s3), .c [.bp (2,s2) 0]),((2,s2), .c (JN (Jdf b s oi) 20 [u32 v])),((1,s1), .c [int 0]),((0,s0), .c [u32 v,int s.steps, .os 1 s.loads.length (JdB s.loads) (nmN 1 oi)])],pm,nx',nn'⟩∧x.1.1=6∧y.1.1=5:=by
 obtain ⟨at',a,x,cells,steps,loads⟩:=s
 obtain ⟨c0,c1,c2,c3,c4,c5,c6,c7,c8,c9,c10,c11,c12,c13,c14,c15,rfl⟩:=JaQ hs.n
 refine JgP Tryz.func154 rfl rfl rfl rfl rfl rfl ?_
 refine stp ?_
 refine Jo9 rfl Tryz.underlying259 (fun m h=> by cases h) rfl ?_
 refine stp ?_
 refine Jz rfl ?_
 exact ⟨rfl,((6,nx), .c [u32 v]),((5,s5), .c o5),JaH (nmN 1 oi) (loads.length * 1),nx+1,7,rfl,rfl,rfl⟩
theorem JkZ {b:List Nat} {i:Ins} {s:Rn}:(doV b i s).2.loads.length≤s.loads.length+1:=by
 unfold doV
 split
 all_goals first
  | (dsimp only;simp;done)
  | (dsimp only;omega)
  | skip
 split
 ·split
  ·dsimp only;omega
  ·dsimp only;omega
 ·dsimp only;omega
theorem Jho {b:List Nat} {l:List Ins} (hf:Formed l):∀f g (s:Rn),s.at' < l.length→l.length≤s.at'+f→f≤g→runV b l g s=runV b l f s
 | 0,g,s,hs,hl,_=> by omega
 | f+1,0,s,hs,hl,hg=> by omega
 | f+1,g+1,s,hs,hl,hg=> by
   unfold runV
   cases h:Jda b l s with
   | mk o s'=>
     cases o with
     | some v=> rfl
     | none=>
       obtain ⟨h1,h2⟩:=Je0 h
       obtain ⟨h3,h4⟩:=JbT hf hs _ h1
       exact Jho hf f g s' h4 Om Om
theorem JuK {b:List Nat} {at' a x steps at2 st2:Nat} {loads:List Nat} {oi:Option Nat} {c0 c1 c2 c3 c4 c5 c6 c7 c8 c9 c10 c11 c12 c13 c14 c15:Nat} {V W:AV} (hV:AVle V (int at2)) (hW:AVle W (int st2)):
 OwnLe (.c (JN (JN (Jdf b ⟨at',a,x, [c0,c1,c2,c3,c4,c5,c6,c7,c8,c9,c10,c11,c12,c13,c14,c15],steps,loads⟩ oi) 1 [V]) 21 [W])) (.c (Jdf b ⟨at2,a,x, [c0,c1,c2,c3,c4,c5,c6,c7,c8,c9,c10,c11,c12,c13,c14,c15],st2,loads⟩ oi)):=by
 show LeL [JI b,V,u32 a,u32 x,JL c0,JL c1,JL c2,JL c3,JL c4,JL c5,JL c6,JL c7,JL c8,JL c9,JL c10,JL c11,JL c12,JL c13,JL c14,JL c15,u32 0,W, .os 1 loads.length (JdB loads) (nmN 1 oi)] [JI b,int at2,u32 a,u32 x,JL c0,JL c1,JL c2,JL c3,JL c4,JL c5,JL c6,JL c7,JL c8,JL c9,JL c10,JL c11,JL c12,JL c13,JL c14,JL c15,u32 0,int st2, .os 1 loads.length (JdB loads) (nmN 1 oi)]
 exact ⟨Rf,hV,Rf,Rf,Rf,Rf,Rf,Rf,Rf,Rf,Rf,Rf,Rf,Rf,Rf,Rf,Rf,Rf,Rf,Rf,Rf,hW,Rf,trivial⟩
def JwA (s0 s1 s3:Nat):List AV:= [.bp (3,s3) 0, .bp (0,s0) 0, .bp (1,s1) 0]
def Jue (b:List Nat) (s0 s1 s2 s3:Nat) (s:Rn) (oi:Option Nat):List (Vl.Id×Own):= [((3,s3), .c [.bp (2,s2) 0]),((2,s2), .c (Jdf b s oi)),((1,s1), .c [int 0]),((0,s0), .c [u32 0,int 0, .os 0 0 (fun _=> .any) none])]
theorem JuL {b:List Nat}:OwnLe (.c [JI b,int 0,u32 0,u32 0,u32 0,u32 0,u32 0,u32 0,u32 0,u32 0,u32 0,u32 0,u32 0,u32 0,u32 0,u32 0,u32 0,u32 0,u32 0,u32 0,u32 0,int 0, .os 0 0 (fun _=> .any) none]) (.c (Jdf b rn0 none)):=by
 show LeL [JI b,int 0,u32 0,u32 0,u32 0,u32 0,u32 0,u32 0,u32 0,u32 0,u32 0,u32 0,u32 0,u32 0,u32 0,u32 0,u32 0,u32 0,u32 0,u32 0,u32 0,int 0, .os 0 0 (fun _=> .any) none] [JI b,int 0,u32 0,u32 0,u32 0,u32 0,u32 0,u32 0,u32 0,u32 0,u32 0,u32 0,u32 0,u32 0,u32 0,u32 0,u32 0,u32 0,u32 0,u32 0,u32 0,int 0, .os 1 0 (JdB []) none]
 exact ⟨Rf,Rf,Rf,Rf,Rf,Rf,Rf,Rf,Rf,Rf,Rf,Rf,Rf,Rf,Rf,Rf,Rf,Rf,Rf,Rf,Rf,Rf,AVle.os_nil,trivial⟩
theorem Jxw:Jfb Tryz.prog 255=some [u16 0,u8 0,u8 0,u32 0, .v .nilFunc,int 0,Jg false]:=by kernel_rfl
structure RnI (b:List Nat) (l:List Ins) (s:Rn) (oi:Option Nat):Prop where
 lt:s.at' < l.length
 ok:s.ok
 nil:oi=none→s.loads= []
 steps:s.steps≤s.at'
 loads:s.loads.length≤s.at'
 res:runV b l (l.length - s.at') s=runI b l
set_option maxHeartbeats 1000000 in
theorem Jtn (l:List Ins) (hok:okL l) (hR:JpI l) (b:List Nat) (hb:okB b) (hbl:b.length=64):Tells Tryz.prog 105 [.rp [JiI l],JI b] (.tup [Jkg (runI b l).1 (runI b l).2,int 0]):=by
 have hf:=hR.1
 have hle:=hf.le
 have hpos:=hf.pos
 refine Jc Tryz.func105 rfl rfl fun nx=> ?_
 refine stp ?_
 refine Jje rfl (.inl rfl) Tryz.underlying205 rfl ?_
 refine stp ?_
 intro c hc
 obtain rfl:c=false:=hc.trans (decide_eq_false Om)
 refine stp ?_
 intro c hc
 obtain rfl:c=false:=hc.trans (decide_eq_false Om)
 refine stp ?_
 refine Jb rfl rfl (Jn0 b Om) ⟨Rf,trivial⟩ fun nx1=> ?_
 refine stp ?_
 refine Jg9 rfl rfl rfl ?_
 refine stp ?_
 refine Jr (fun y:Rn×Option Nat×Nat=> mk 58 [(0, .rp [JiI l]),(4, .bp (0,nx) 0),(5, .bp (1,nx+1) 0),(6, .bp (3,nx1+1) 0)] ⟨Jue b nx (nx+1) nx1 (nx1+1) y.1 y.2.1,JaH (nmN 1 y.2.1) (y.1.loads.length * 1),y.2.2,5⟩ (some [.fn 154 (JwA nx (nx+1) (nx1+1)) []]))
  (fun y=> RnI b l y.1 y.2.1) (fun y=> l.length - y.1.at') ?_ ?_
 ·exact ⟨(rn0,none,nx1+2),⟨hpos,JmN,fun _=> rfl,Nat.le_refl _,Nat.le_refl _,rfl⟩,Je _ _ rfl rfl Sf .slnil ⟨rfl,OwnLe.refl _,rfl,JuL,rfl,OwnLe.refl _,rfl,OwnLe.refl _,trivial⟩ trivial ⟨Rf,Rf,Rf,Rf,trivial⟩⟩
 ·rintro ⟨⟨at',a,x,cells,steps,loads⟩,oi,nx2⟩ hI
  obtain ⟨i1,i2,i3,i4,i5,i6⟩:=hI
  obtain ⟨c0,c1,c2,c3,c4,c5,c6,c7,c8,c9,c10,c11,c12,c13,c14,c15,rfl⟩:=JaQ i2.n
  dsimp only at i1 i3 i4 i5 i6
  have hki:(l.getD at' ins0).ok:=hok.get i1
  have hw:=hf.ok at' i1
  have hw1:IntKind.i64.wrap ((at':Int)+1)=((at'+1:Nat):Int):=Jk Om
  have hw2:IntKind.i64.wrap ((steps:Int)+1)=((steps+1:Nat):Int):=Jk Om
  have hok1:Rn.ok ⟨at'+1,a,x, [c0,c1,c2,c3,c4,c5,c6,c7,c8,c9,c10,c11,c12,c13,c14,c15],steps+1,loads⟩:=⟨i2.a,i2.x,i2.n,i2.c⟩
  have hcall:=JuJ b hb hbl (l.getD at' ins0) hki _ hw nx1 ⟨at'+1,a,x, [c0,c1,c2,c3,c4,c5,c6,c7,c8,c9,c10,c11,c12,c13,c14,c15],steps+1,loads⟩ oi i3 hok1 Dm Om Dm (nx2+1)
  have hstep:Jda b l ⟨at',a,x, [c0,c1,c2,c3,c4,c5,c6,c7,c8,c9,c10,c11,c12,c13,c14,c15],steps,loads⟩=doV b (l.getD at' ins0) ⟨at'+1,a,x, [c0,c1,c2,c3,c4,c5,c6,c7,c8,c9,c10,c11,c12,c13,c14,c15],steps+1,loads⟩:=rfl
  have hdok:=JmO hb hki hok1
  have hdl:=JkZ (b:=b) (i:=l.getD at' ins0) (s:=⟨at'+1,a,x, [c0,c1,c2,c3,c4,c5,c6,c7,c8,c9,c10,c11,c12,c13,c14,c15],steps+1,loads⟩)
  rw [← hstep] at hcall hdok hdl
  refine stp ?_
  refine Jha 11 (Jue b nx (nx+1) nx1 (nx1+1) ⟨at',a,x, [c0,c1,c2,c3,c4,c5,c6,c7,c8,c9,c10,c11,c12,c13,c14,c15],steps,loads⟩ oi) (fun i=> match i with | 10=> true | _=> false) [0,1,2,3,4,5,6,7,8,9,10] (by kernel_rfl) (by kernel_rfl) (HB.refl _) ?_
  refine stp ?_
  refine ⟨Bd, ?_⟩
  refine stp ?_
  refine ⟨_,JkI rfl rfl Jxw (HB.cons rfl (HB.cons rfl (HB.cons rfl (HB.one rfl)))),fun r h' hr=> ?_⟩
  obtain ⟨rfl,rfl⟩:=hr
  refine stp ?_
  have hc2:=(hcall.tell (h':=⟨[((2,nx1), .c (JN (JN (Jdf b ⟨at',a,x, [c0,c1,c2,c3,c4,c5,c6,c7,c8,c9,c10,c11,c12,c13,c14,c15],steps,loads⟩ oi) 1 [int (IntKind.i64.wrap ((at':Int)+1))]) 21 [int (IntKind.i64.wrap ((steps:Int)+1))]))],JaH (nmN 1 oi) (loads.length * 1),nx2+1,6⟩) ⟨rfl,JuK (Jd hw1) (Jd hw2),trivial⟩ Pf rfl)
  refine JkC rfl rfl (by exact ECallR.args (bs:= [.bp (0,nx1) 0,opA (l.getD at' ins0) .any]) ⟨AVle.bp_nm rfl,AVle.ags (cs:= [_,_,_,_,_,_,_]) ⟨Rf,Rf,Rf,Rf,AVle.any _,Rf,Rf,trivial⟩,trivial⟩ (hc2.frame [((5,_), .c _),((3,_), .c _),((1,_), .c _),((0,_), .c _)] [] (List.perm_middle (l₁:= [_,_])) (.of_eq (List.append_nil _).symm) rfl)) (fun r h' hq=> ?_) (fun xp h' hq=> ?_)
  ·obtain ⟨h1',⟨oi',nx',nn',r1,r2,rfl⟩,rfl⟩:=hq
   have hst:Jda b l ⟨at',a,x, [c0,c1,c2,c3,c4,c5,c6,c7,c8,c9,c10,c11,c12,c13,c14,c15],steps,loads⟩=(none,(Jda b l ⟨at',a,x, [c0,c1,c2,c3,c4,c5,c6,c7,c8,c9,c10,c11,c12,c13,c14,c15],steps,loads⟩).2):=by rw [← r1]
   generalize (Jda b l ⟨at', a, x, [c0, c1, c2, c3, c4, c5, c6, c7, c8, c9, c10, c11, c12, c13, c14, c15], steps, loads⟩).2 = s' at *
   obtain ⟨n1,n2⟩:=Je0 hst
   obtain ⟨n3,n4⟩:=JbT hf i1 _ n1
   dsimp only at n2 n3 hdl
   refine ⟨r,⟨[((5,_), .c _),((3,nx1+1), .c [.bp (2,nx1) 0]),((2,nx1), .c (Jdf b s' oi')),((1,nx+1), .c [int 0]),((0,nx), .c [u32 0,int 0, .os 0 0 (fun _=> .any) none])],JaH (nmN 1 oi') (s'.loads.length * 1)++ [],nx',6⟩,Rf,⟨(List.perm_middle (l₁:= [_,_])), .refl _,rfl⟩, ?_⟩
   refine stp ?_
   refine back (s',oi',nx') ⟨n4,hdok,r2,by dsimp only;omega,by dsimp only;omega, ?_⟩ Dm (Je _ _ rfl rfl (.cons _ Sf) Sf Bf (by rw [List.append_nil];exact Pf) ⟨Rf,Rf,Rf,Rf,trivial⟩)
   rw [← i6]
   obtain ⟨m,hm⟩:∃m,l.length - at'=m+1:=⟨l.length - at' - 1,by omega⟩
   rw [hm,runV,hst]
   dsimp only
   exact (Jho hf (l.length - s'.at') m s' n4 Om Om).symm
  ·obtain ⟨h1',⟨v,oi',nx',nn',r1,rfl,r2,rfl⟩,rfl⟩:=hq
   have hst:Jda b l ⟨at',a,x, [c0,c1,c2,c3,c4,c5,c6,c7,c8,c9,c10,c11,c12,c13,c14,c15],steps,loads⟩=(some v,(Jda b l ⟨at',a,x, [c0,c1,c2,c3,c4,c5,c6,c7,c8,c9,c10,c11,c12,c13,c14,c15],steps,loads⟩).2):=by rw [← r1]
   generalize (Jda b l ⟨at', a, x, [c0, c1, c2, c3, c4, c5, c6, c7, c8, c9, c10, c11, c12, c13, c14, c15], steps, loads⟩).2 = s' at *
   have hres:runI b l=(v,s'):=by
    rw [← i6]
    obtain ⟨m,hm⟩:∃m,l.length - at'=m+1:=⟨l.length - at' - 1,by omega⟩
    rw [hm,runV,hst]
   rw [hres]
   (conv=> whnf)
   refine DCall.like (h:=⟨[((5,_), .c _),((3,nx1+1), .c [.bp (2,nx1) 0]),((2,nx1), .c (Jdf b s' oi')),((1,nx+1), .c [int 0]),((0,nx), .c [u32 0,int 0, .os 0 0 (fun _=> .any) none])],JaH (nmN 1 oi') (s'.loads.length * 1),nx',6⟩) ⟨(List.perm_middle (l₁:= [_,_])).symm, .of_eq (by rw [List.append_nil];rfl),rfl⟩ ((JpV b s' hdok oi' v nx (nx+1) nx1 (nx1+1) _ nx' _).mono fun u h' hq=> ?_)
   obtain ⟨rfl,⟨⟨x1,x2⟩,x3⟩,⟨⟨y1,y2⟩,y3⟩,pm,nx7,nn7,rfl,hx,hy⟩:=hq
   dsimp only at hx hy
   subst hx
   subst hy
   refine Ji rfl ?_ ?_
   ·exact ⟨rfl,⟨rfl,by decide⟩,trivial⟩
   ·exact AVle.tups (cs:= [_,_]) ⟨AVle.ags (cs:= [_,_,_]) ⟨Rf,Rf,AVle.os_sl,trivial⟩,Rf,trivial⟩
theorem Jto (l:List Ins) (b:List Nat) (hbl:b.length≠64) (hl:b.length≤1000000):Tells Tryz.prog 105 [.rp [JiI l],JI b] (.tup [Jkg 0 rn0,int (if b.length < 64 then 2 else 3:Nat)]):=by
 refine Jc Tryz.func105 rfl rfl fun nx=> ?_
 refine stp ?_
 refine Jje rfl (.inl rfl) Tryz.underlying205 rfl ?_
 refine stp ?_
 intro c h;cases c
 ·have h:=Jm h
  refine stp ?_
  intro c hc
  obtain rfl:c=true:=hc.trans (decide_eq_true Om)
  refine stp ?_
  refine Ji rfl ?_ ?_
  ·exact ⟨rfl,⟨rfl,by decide⟩,trivial⟩
  ·rw [if_neg Om]
   exact AVle.tups (cs:= [_,_]) ⟨AVle.ags (cs:= [_,_,_]) ⟨Rf,Rf,AVle.os_sl0,trivial⟩,Rf,trivial⟩
 ·have h:=Jl h
  refine stp ?_
  refine Ji rfl ?_ ?_
  ·exact ⟨rfl,⟨rfl,by decide⟩,trivial⟩
  ·rw [if_pos Om]
   exact AVle.tups (cs:= [_,_]) ⟨AVle.ags (cs:= [_,_,_]) ⟨Rf,Rf,AVle.os_sl0,trivial⟩,Rf,trivial⟩
def vmI (l:List Ins) (b:List Nat):Nat×(Nat×Rn):=
 if (checkI l).2≠0 then ((checkI l).2,(0,rn0)) else if b.length < 64 then (2,(0,rn0)) else if 64 < b.length then (3,(0,rn0)) else (0,runI b l)
theorem JpW (l:List Ins) (hok:okL l) (hl:l.length≤1000000000) (b:List Nat) (hb:okB b) (hbl:b.length≤1000000):Tells Tryz.prog 55 [Jan l,JI b] (.tup [Jkg (vmI l b).2.1 (vmI l b).2.2,int (vmI l b).1]):=by
 refine Jc Tryz.func55 rfl rfl fun nx=> ?_
 refine stp ?_
 refine Jb rfl rfl (Jtm l hok hl) ⟨Rf,trivial⟩ fun nx1=> ?_
 by_cases hc:(checkI l).2=0
 ·have hv:Jgy l= .tup [.rp [JiI l],int 0]:=by unfold Jgy;rw [if_pos hc]
  rw [hv]
  refine stp ?_
  by_cases hn:b.length=64
  ·have hv:vmI l b=(0,runI b l):=by unfold vmI;rw [if_neg Om,if_neg Om,if_neg Om]
   rw [hv]
   refine Jb rfl rfl (Jtn l hok (Jhm.1 hc) b hb hn) ⟨Rf,Rf,trivial⟩ fun nx2=> ?_
   refine stp ?_
   refine Ji rfl ?_ ?_
   ·exact ⟨rfl,trivial⟩
   ·exact Rf
  ·have hv:vmI l b=((if b.length < 64 then 2 else 3),(0,rn0)):=by
    unfold vmI;rw [if_neg Om]
    split
    ·rfl
    ·rw [if_pos Om]
   rw [hv]
   refine Jb rfl rfl (Jto l b hn hbl) ⟨Rf,Rf,trivial⟩ fun nx2=> ?_
   refine stp ?_
   refine Ji rfl ?_ ?_
   ·exact ⟨rfl,trivial⟩
   ·exact Rf
 ·have hv:Jgy l= .tup [.v (.pointer none),int (checkI l).2]:=by unfold Jgy;rw [if_neg hc]
  have hw:vmI l b=((checkI l).2,(0,rn0)):=by unfold vmI;rw [if_pos hc]
  rw [hv,hw]
  refine stp ?_
  intro c hcc
  obtain rfl:c=true:=by rw [hcc];simp;omega
  refine stp ?_
  refine Ji rfl ?_ ?_
  ·exact ⟨rfl,trivial⟩
  ·exact AVle.tups (cs:= [_,_]) ⟨AVle.ags (cs:= [_,_,_]) ⟨Rf,Rf,AVle.os_sl0,trivial⟩,Rf,trivial⟩
end Go.Proofs.W

namespace Go.Proofs.W
open Go.Vl
set_option maxRecDepth 100000
theorem JmV {f:Nat→AV} {oi:Option Vl.Id} {a:Nat} {x:Int} (h:f 0=int x) (hx:x=(a:Nat)):AVle (.os 1 1 f oi) (JiC [a]):=
 AVle.os_sl.trans (AVle.sl_fun fun k hk=> by obtain rfl:k=0:=by omega
                                             rw [h,hx];rfl)
theorem Jtp {f:Nat→AV} {oi:Option Vl.Id} {a b:Nat} {x y:Int} (h:f 0=int x) (hx:x=(a:Nat)) (h':f 1=int y) (hy:y=(b:Nat)):AVle (.os 1 2 f oi) (JiC [a,b]):=
 AVle.os_sl.trans (AVle.sl_fun fun k hk=> by
  rcases k with _ | _ | k
  ·rw [h,hx];rfl
  ·rw [h',hy];rfl
  ·omega)
theorem Jal {n k:Nat} (h:n+1+k≤1000000000):IntKind.i64.wrap (IntKind.i64.wrap ((n:Int)+1)+IntKind.i64.wrap (k:Int))=((n+1+k:Nat):Int):=by
 rw [show IntKind.i64.wrap (k:Int)=k from Jq Om Om,show IntKind.i64.wrap ((n:Int)+1)=(n:Int)+1 from Jq Om Om,Jq Om Om];omega
end Go.Proofs.W

namespace Go.Proofs.W
open Go.Vl
set_option maxRecDepth 100000
def aloneC:List Nat:= [32,0,96,128,1,97,129,2,3,7,135,132,5,6,22]
def bothC:List Nat:= [4,20,36,52,68,84,100,116,164,21,37,53,69]
theorem JuM:JaA Tryz.prog 58 15 [(0,int 32),(1,int 0),(2,int 96),(3,int 128),(4,int 1),(5,int 97),(6,int 129),(7,int 2),(8,int 3),(9,int 7),(10,int 135),(11,int 132),(12,int 5),(13,int 6),(14,int 22)]=some (3, [int 32,int 0,int 96,int 128,int 1,int 97,int 129,int 2,int 3,int 7,int 135,int 132,int 5,int 6,int 22]):=by kernel_rfl
theorem JuN:JaA Tryz.prog 58 13 [(0,int 4),(1,int 20),(2,int 36),(3,int 52),(4,int 68),(5,int 84),(6,int 100),(7,int 116),(8,int 164),(9,int 21),(10,int 37),(11,int 53),(12,int 69)]=some (3, [int 4,int 20,int 36,int 52,int 68,int 84,int 100,int 116,int 164,int 21,int 37,int 53,int 69]):=by kernel_rfl
theorem Jhp {l:List Nat} {p:Nat→Bool} {i:Nat} (hi:i < l.length) (h:p (l.getD i 0)=true) (hb:∀j,j < i→p (l.getD j 0)=false):l.findIdx? p=some i:=by
 rw [List.findIdx?_eq_some_iff_getElem]
 refine ⟨hi, ?_,fun j hj=> ?_⟩
 ·simpa [List.getD,hi] using h
 ·have:=hb j hj
  simpa [List.getD,show j < l.length by omega] using this
theorem Jhq {l:List Nat} {p:Nat→Bool} (hb:∀j,j < l.length→p (l.getD j 0)=false):l.findIdx? p=none:=by
 rw [List.findIdx?_eq_none_iff]
 intro x hx
 obtain ⟨j,hj,rfl⟩:=List.getElem_of_mem hx
 have:=hb j hj
 simpa [List.getD,hj] using this
theorem Jn1 {c i:Nat} (hi:i < 15) (h:c=aloneC.getD i 0) (hb:∀j,j < i→(c ==aloneC.getD j 0)=false):Jgq c=(i+1,false):=by
 have e:aloneC.findIdx? (fun a=> c ==a)=some i:=Jhp hi (by rw [h];simp) hb
 show (match aloneC.findIdx? (fun a=> c ==a) with | some i=> (i+1,false) | none=> _)=_
 rw [e]
theorem Jru {c:Nat} (hb:∀j,j < 15→(c ==aloneC.getD j 0)=false):Jgq c=match bothC.findIdx? (fun a=> c ==a|| c ==a+8) with | some i=> (i+16,c !=bothC.getD i 0) | none=> (0,false):=by
 have e:aloneC.findIdx? (fun a=> c ==a)=none:=Jhq hb
 show (match aloneC.findIdx? (fun a=> c ==a) with | some i=> (i+1,false) | none=> (match bothC.findIdx? (fun a=> c ==a|| c ==a+8) with | some i=> (i+16,c !=bothC.getD i 0) | none=> (0,false)))=_
 rw [e]
theorem JuO:∀i,i < 13→bothC.getD i 0 < 200:=by decide
theorem Jdb (c:Nat) (hc:c < 65536):Tells Tryz.prog 28 [u16 c] (.tup [int (kof c).1,Jg (kof c).2]):=by
 rw [← Js0]
 have hw:IntKind.i64.wrap (c:Int)=(c:Int):=Jq Om Om
 refine Jc Tryz.func28 rfl rfl fun nx=> ?_
 (refine Jt ?_;refine Jv ?_;refine Jt ?_)
 refine J7 (fun n=> match n with | 0=> true | _=> false) 1 ?_
 refine JeE rfl JuM ?_
 refine stp ?_
 refine Jr (fun y:Nat×Nat=> mk 50 [(0,u16 c),(4, .os 1 15 (fun k=> int (aloneC.getD k 0:Nat)) none),(5,int y.1)] ⟨[], [],y.2,0⟩) (fun y=> y.1≤15∧∀j,j < y.1→(c ==aloneC.getD j 0)=false) (fun y=> 15 - y.1) ?_ ?_
 ·exact ⟨(0,nx),⟨Nat.zero_le _,fun j h=> absurd h (Nat.not_lt_zero _)⟩,Jaa rfl rfl (List.nil_sublist _) (List.nil_sublist _) ⟨Rf,AVle.os_fun (Jfg ⟨⟨⟨⟨⟨⟨⟨⟨⟨⟨⟨⟨⟨⟨⟨trivial,rfl⟩,rfl⟩,rfl⟩,rfl⟩,rfl⟩,rfl⟩,rfl⟩,rfl⟩,rfl⟩,rfl⟩,rfl⟩,rfl⟩,rfl⟩,rfl⟩,rfl⟩),Rf,trivial⟩⟩
 ·rintro ⟨i,nx1⟩ ⟨h1,h2⟩
  dsimp only at h1 h2
  refine stp ?_
  intro c g;cases c
  ·have g:=Jm g
   dsimp only at g
   obtain rfl:i=15:=by omega
   have hr:=Jru h2
   (refine Jt ?_)
   refine J7 (fun n=> match n with | 0=> true | _=> false) 1 ?_
   refine JeE rfl JuN ?_
   refine stp ?_
   refine Jr (fun y:Nat×Nat=> mk 50 [(0,u16 c),(6, .os 1 13 (fun k=> int (bothC.getD k 0:Nat)) none),(7,int y.1)] ⟨[], [],y.2,0⟩) (fun y=> y.1≤13∧∀j,j < y.1→(c ==bothC.getD j 0|| c ==bothC.getD j 0+8)=false) (fun y=> 13 - y.1) ?_ ?_
   ·exact ⟨(0,nx1),⟨Nat.zero_le _,fun j h=> absurd h (Nat.not_lt_zero _)⟩,Jaa rfl rfl (List.nil_sublist _) (List.nil_sublist _) ⟨Rf,AVle.os_fun (Jfg ⟨⟨⟨⟨⟨⟨⟨⟨⟨⟨⟨⟨⟨trivial,rfl⟩,rfl⟩,rfl⟩,rfl⟩,rfl⟩,rfl⟩,rfl⟩,rfl⟩,rfl⟩,rfl⟩,rfl⟩,rfl⟩,rfl⟩),Rf,trivial⟩⟩
   ·rintro ⟨i,nx2⟩ ⟨k1,k2⟩
    dsimp only at k1 k2
    refine stp ?_
    intro c g3;cases c
    ·have g3:=Jm g3
     dsimp only at g3
     obtain rfl:i=13:=by omega
     have hn:bothC.findIdx? (fun a=> c ==a|| c ==a+8)=none:=Jhq k2
     rw [hn] at hr
     rw [hr]
     refine stp ?_
     exact Ja rfl (AVle.tups (cs:= [_,_]) ⟨Rf,Rf,trivial⟩)
    ·have g3:=Jl g3
     dsimp only at g3
     have hi:i < 13:=by omega
     have hlt:=JuO i hi
     have hsucc:∀v,bothC.getD i 0=v→c≠v→c≠v+8→∀j,j < i+1→(c ==bothC.getD j 0|| c ==bothC.getD j 0+8)=false:=fun v hv e1 e2 j hj=> by
      rcases Nat.lt_or_ge j i with h | h
      ·exact k2 j h
      ·obtain rfl:j=i:=by omega
       rw [hv];simp [e1,e2]
     have hfound:∀v,bothC.getD i 0=v→(c=v∨c=v+8)→Jgq c=(i+16,c !=v):=fun v hv e=> by
      have hn:bothC.findIdx? (fun a=> c ==a|| c ==a+8)=some i:=Jhp hi (by rw [hv];rcases e with e | e <;> simp [e]) k2
      rw [hn] at hr
      rw [hr];dsimp only;rw [hv]
     generalize hv:bothC.getD i 0=v at hlt
     have hsucc:=hsucc v hv
     have hfound:=hfound v hv
     have hw8:IntKind.i64.wrap ((v:Int)+8)=((v+8:Nat):Int):=Jq Om Om
     refine stp ?_
     refine ⟨Bd, ?_⟩
     refine stp ?_
     intro c q1;cases c
     ·have q1:c≠v:=by
       have q1:=JO.1 q1
       intro h
       apply q1
       rw [hw]
       show ((c:Nat):Int)=((bothC.getD i 0:Nat):Int)
       rw [hv,h]
      refine stp ?_
      refine ⟨Bd, ?_⟩
      refine stp ?_
      intro c q2;cases c
      ·have q2:c≠v+8:=by
        have q2:=JO.1 q2
        intro h
        apply q2
        rw [hw]
        show ((c:Nat):Int)=IntKind.i64.wrap (((bothC.getD i 0:Nat):Int)+8)
        rw [hv,hw8,h]
       refine stp ?_
       exact back (i + 1, _) ⟨(by first | omega | (dsimp only at *; omega) | (simp; done) | (simp; omega)), hsucc q1 q2⟩ (by first | omega | (dsimp only at *; omega) | (simp; done) | (simp; omega)) (Jaa rfl rfl (List.nil_sublist _) (List.nil_sublist _) ⟨Rf, Rf, Jd (Jk (by first | omega | (dsimp only at *; omega) | (simp; done) | (simp; omega))), trivial⟩)
      ·have q2:c=v+8:=by
        have q2:=JP.1 q2
        rw [hw] at q2
        have q3:((c:Nat):Int)=IntKind.i64.wrap (((bothC.getD i 0:Nat):Int)+8):=q2
        rw [hv,hw8] at q3
        omega
       rw [hfound (.inr q2)]
       refine stp ?_
       refine Ja rfl (AVle.tups (cs := [_, _]) ⟨Jd (Jq (by first | omega | (dsimp only at *; omega) | (simp; done) | (simp; omega)) (by first | omega | (dsimp only at *; omega) | (simp; done) | (simp; omega))), Jn ?_, trivial⟩)
       rw [q2];simp
     ·have q1:c=v:=by
       have q1:=JP.1 q1
       rw [hw] at q1
       have q3:((c:Nat):Int)=((bothC.getD i 0:Nat):Int):=q1
       rw [hv] at q3
       omega
      rw [hfound (.inl q1)]
      refine stp ?_
      refine Ja rfl (AVle.tups (cs := [_, _]) ⟨Jd (Jq (by first | omega | (dsimp only at *; omega) | (simp; done) | (simp; omega)) (by first | omega | (dsimp only at *; omega) | (simp; done) | (simp; omega))), Jn ?_, trivial⟩)
      rw [q1];simp
  ·have g:=Jl g
   dsimp only at g
   have hi:i < 15:=by omega
   refine stp ?_
   refine ⟨Bd, ?_⟩
   refine stp ?_
   intro c q1;cases c
   ·have q1:(c ==aloneC.getD i 0)=false:=by
     have q1:=JO.1 q1
     rw [hw] at q1
     have q3:((c:Nat):Int)≠((aloneC.getD i 0:Nat):Int):=q1
     simp only [beq_eq_false_iff_ne]
     omega
    refine stp ?_
    refine back (i + 1, _) ⟨(by first | omega | (dsimp only at *; omega) | (simp; done) | (simp; omega)), fun j hj => ?_⟩ (by first | omega | (dsimp only at *; omega) | (simp; done) | (simp; omega)) (Jaa rfl rfl (List.nil_sublist _) (List.nil_sublist _) ⟨Rf, Rf, Jd (Jk (by first | omega | (dsimp only at *; omega) | (simp; done) | (simp; omega))), trivial⟩)
    rcases Nat.lt_or_ge j i with h | h
    ·exact h2 j h
    ·obtain rfl:j=i:=by omega
     exact q1
   ·have q1:c=aloneC.getD i 0:=by
     have q1:=JP.1 q1
     rw [hw] at q1
     have q3:((c:Nat):Int)=((aloneC.getD i 0:Nat):Int):=q1
     omega
    rw [Jn1 hi q1 h2]
    refine stp ?_
    exact Ja rfl (AVle.tups (cs := [_, _]) ⟨Jd (Jk (by first | omega | (dsimp only at *; omega) | (simp; done) | (simp; omega))), Rf, trivial⟩)
theorem Jgz (l:List Ins) (hok:okL l) (hf:Formed l) (n:Nat) (hn:n < l.length):Tells Tryz.prog 106 [Jan l,int n] (JiC (nextsI l n)):=by
 have hle:=hf.le
 have hki:(l.getD n ins0).ok:=hok.get hn
 have hnx:=JbT hf hn
 have hof:=Jdb (l.getD n ins0).code hki.1
 unfold nextsI at hnx⊢
 unfold kind at hnx⊢
 generalize hK:(kof (l.getD n ins0).code).1=K at hof hnx
 generalize (kof (l.getD n ins0).code).2=x at hof
 refine Jc Tryz.func106 rfl rfl fun nx=> ?_
 refine stp ?_
 refine ⟨Bd, ?_⟩
 refine stp ?_
 refine Jb rfl rfl hof ⟨Rf,trivial⟩ fun nx3=> ?_
 refine stp ?_
 intro cx hx
 refine stp ?_
 intro c a1;cases c
 ·have a1:=JO.1 a1
  refine stp ?_
  intro c a2;cases c
  ·have a2:=JO.1 a2
   rw [if_neg Om] at hnx⊢
   refine stp ?_
   intro c a3;cases c
   ·have a3:=JO.1 a3
    rw [if_neg Om] at hnx⊢
    refine stp ?_
    intro c a4;cases c
    ·have a4:=Jm a4
     rw [if_neg Om]
     refine stp ?_
     refine Ja rfl ?_
     exact JmV rfl (Jk Om)
    ·have a4:=Jl a4
     rw [if_pos Om] at hnx⊢
     have h1:=hnx (n+1+(l.getD n ins0).jt) (by simp)
     have h2:=hnx (n+1+(l.getD n ins0).jf) (by simp)
     refine stp ?_
     (refine Jy 20 ?_ ?_ ?_ ?_;(· kernel_rfl);(· kernel_rfl);(· kernel_rfl))
     refine stp ?_
     refine ⟨Bd, ?_⟩
     refine stp ?_
     refine ⟨Bd, ?_⟩
     refine stp ?_
     refine Ja rfl ?_
     exact Jtp rfl (Jal (n:=n) (k:=(l.getD n ins0).jt) Om) rfl (Jal (n:=n) (k:=(l.getD n ins0).jf) Om)
   ·have a3:=JP.1 a3
    rw [if_pos Om] at hnx⊢
    have h1:=hnx (n+1+(l.getD n ins0).k) (by simp)
    refine stp ?_
    refine ⟨Bd, ?_⟩
    refine stp ?_
    refine Ja rfl ?_
    exact JmV rfl (Jal (n:=n) (k:=(l.getD n ins0).k) Om)
  ·have a2:=JP.1 a2
   rw [if_pos Om]
   refine stp ?_
   refine Ja rfl ?_
   exact AVle.os_sl0
 ·have a1:=JP.1 a1
  rw [if_pos Om]
  refine stp ?_
  refine Ja rfl ?_
  exact AVle.os_sl0
end Go.Proofs.W

namespace Go.Proofs.W
open Go.Vl
set_option maxRecDepth 100000
set_option maxHeartbeats 4000000 in
theorem Jn2 (i:Ins) (hi:i.ok) (r:Nat):Tells Tryz.prog 57 [JfP i,int r] (int (wrongI i r)):=by
 have hof:=Jdb i.code hi.1
 have hle:=Jf0 i.code
 have w1:IntKind.i64.wrap (i.k:Int)=i.k:=Jq (by have:=hi.2.2.2;omega) (by have:=hi.2.2.2;omega)
 have w2:IntKind.i64.wrap (i.jt:Int)=i.jt:=Jq (by have:=hi.2.1;omega) (by have:=hi.2.1;omega)
 have w3:IntKind.i64.wrap (i.jf:Int)=i.jf:=Jq (by have:=hi.2.2.1;omega) (by have:=hi.2.2.1;omega)
 unfold wrongI
 generalize kof i.code=kk at hof hle
 obtain ⟨k,x⟩:=kk
 dsimp only at hle hof⊢
 revert hof
 refine Jfg (n:=29) (p:=fun k=> Tells Tryz.prog 28 [u16 i.code] (.tup [int k,Jg x])→Tells Tryz.prog 57 [JfP i,int r] (int ((if k=0 then 5 else if k=1∧(i.k % 4≠0∨64≤i.k) then 6 else if (k=3∨k=6∨k=8∨k=9)∧16≤i.k then 7 else if x=false∧k=19∧i.k=0 then 8 else if x=false∧(k=22∨k=23)∧31 < i.k then 9 else if (k=13∧r≤i.k)∨(25≤k∧(r≤i.jt∨r≤i.jf)) then 10 else 0:Nat)))) ?_ k Om
 repeat (first | exact trivial | refine And.intro ?_ ?_)
 all_goals
  intro hof
  cases x
 all_goals
  refine Jc Tryz.func57 rfl rfl fun nx=> ?_
  refine stp ?_
  refine Jb rfl rfl hof ⟨Rf,trivial⟩ fun nx3=> ?_
  (repeat' (refine stp ?_;intro c h;cases c))
  all_goals
   refine stp ?_
   refine Ja rfl (Jd ?_)
   (try rw [w1] at *)
   (try rw [w2] at *)
   (try rw [w3] at *)
   (try rw [show (i.k : Int).tmod 4 = ((i.k % 4 : Nat) : Int) from rfl] at *)
   (try simp only [JO, JP, JaJ, JaK, Jbd, Jbe] at *)
   simp
   try ((repeat' split) <;> omega)
end Go.Proofs.W

namespace Go.Proofs.W
open Go.Vl
structure Tst where
 at':Nat
 mask:Nat
 kind:Nat
 k:Nat
 is:Bool
structure Pth where
 tests:List Tst
 steps:Nat
 value:Nat
def asks (l:List Ins) (n:Nat):Prop:=kind l n=21∨25≤kind l n
instance (l:List Ins) (n:Nat):Decidable (asks l n):=by unfold asks;infer_instance
def JlJ (l:List Ins):Nat→List Bool
 | 0=> Jbi (List.replicate l.length false) 0
 | n+1=> if (JlJ l n).getD n false=true∧kind l n=13 then Jbi (JlJ l n) (n+1+(l.getD n ins0).k) else JlJ l n
def okP (l:List Ins) (n:Nat):Prop:=(asks l n∨kind l n=1∨kind l n=13∨kind l n=14)∧(kof (l.getD n ins0).code).2=false∧¬(asks l n∧(JlJ l n).getD n false=true)
instance (l:List Ins) (n:Nat):Decidable (okP l n):=by unfold okP;infer_instance
def Plain (l:List Ins):Prop:=(checkI l).2=0∧∀n,n < l.length→okP l n
end Go.Proofs.W

namespace Go.Proofs.W
structure Weak (n:Nat) (s:List Bool×List Nat):Prop where
 len:s.1.length=n
 few:s.2.length≤s.1.count true
structure Inv (l:List Ins) (s:List Bool×List Nat):Prop where
 weak:Weak l.length s
 zero:s.1.getD 0 false=true
 sound:∀x,s.1.getD x false=true→Reached l x
 mem:∀x∈s.2,s.1.getD x false=true
 full:∀x,s.1.getD x false=true→x∈s.2∨∀t∈nextsI l x,s.1.getD t false=true
theorem Jtq {o o':List Bool} (hl:o.length=o'.length) (h:∀k,o.getD k false=o'.getD k false):o=o':=by
 refine List.ext_getElem hl fun k h1 h2=> ?_
 have:=h k
 simpa [List.getD,h1,h2] using this
theorem Inv.done {l:List Ins} (hf:Formed l) {o:List Bool} (h:Inv l (o, [])):o=Jjr l:=by
 have hiff:∀x,o.getD x false=true↔Reached l x:=by
  intro x
  constructor
  ·exact h.sound x
  ·intro hx
   induction hx with
   | zero=> exact h.zero
   | step n t _ _ ht ih=>
     rcases h.full n ih with h1 | h1
     ·simp at h1
     ·exact h1 t ht
 refine Jtq (by rw [Jlq];exact h.weak.len) fun k=> ?_
 have:=(hiff k).trans (JpH hf k).symm
 exact Bool.eq_iff_iff.2 this
end Go.Proofs.W

namespace Go.Proofs.W
open Go.Vl
set_option maxRecDepth 100000
theorem u4:Tryz.prog.underlying 4=some .bool:=by kernel_rfl
theorem b4:Tryz.prog.bytesOf 4=1:=by kernel_rfl
theorem c4:Tryz.prog.cellsOf 4=1:=by kernel_rfl
end Go.Proofs.W

namespace Go.Proofs.W
open Go.Vl
set_option maxRecDepth 100000
theorem c3:Tryz.prog.cellsOf 3=1:=by kernel_rfl
end Go.Proofs.W

namespace Go.Proofs.W
open Go.Vl
set_option maxRecDepth 100000
end Go.Proofs.W

namespace Go.Proofs.W
open Go.Vl
set_option maxRecDepth 100000
end Go.Proofs.W

namespace Go.Proofs.W
open Go.Vl
set_option maxRecDepth 100000
theorem ix1 {c i:Nat} (h:c=1):0+Int.toNat ((i:Nat):Int) * c=i:=by subst h;omega
end Go.Proofs.W

namespace Go.Proofs.W
open Go.Vl
set_option maxRecDepth 100000
theorem JmW (l:List Ins) (hok:okL l) (hl:l.length≤1000000000):Tells Tryz.prog 26 [Jan l] (.tup [int (JV l).1,int (JV l).2]):=by
 refine Jc Tryz.func26 rfl rfl fun nx=> ?_
 refine stp ?_
 intro c g1;cases c
 ·have h1:=JO.1 g1
  refine stp ?_
  intro c g2;cases c
  ·have h2:=Jm g2
   refine stp ?_
   refine Jr (fun s:Nat×Nat=> mk 54 [(0,Jan l),(4,int s.1)] ⟨[], [],s.2,0⟩) (fun s=> s.1≤l.length∧∀j,j < s.1→wrongI (l.getD j ins0) (l.length - 1 - j)=0) (fun s=> l.length - s.1) ?_ ?_
   ·exact ⟨(0,nx),⟨by omega,by intro j hj;omega⟩,JH rfl rfl ⟨Rf,Rf,trivial⟩⟩
   ·rintro ⟨i,nx'⟩ ⟨h3,h4⟩
    dsimp only at h3 h4
    refine stp ?_
    intro c g3;cases c
    ·have h5:=Jm g3
     dsimp only at h5
     have hw:IntKind.i64.wrap ((l.length:Int) - 1)=((l.length - 1:Nat):Int):=by rw [Jq Om Om];omega
     have hof:=Jdb (l.getD (l.length - 1) ins0).code (hok.get Om).1
     have hnone:(List.range l.length).find? (fun n=> wrongI (l.getD n ins0) (l.length - 1 - n) !=0)=none:=Jca fun j hj=> by simpa using h4 j Om
     have hF:JV l=if (kof (l.getD (l.length - 1) ins0).code).1=14∨(kof (l.getD (l.length - 1) ins0).code).1=15 then (0,0) else (l.length - 1,11):=by
      unfold JV
      rw [if_neg Om,if_neg Om,hnone]
     rw [hF]
     refine stp ?_
     (conv=> whnf)
     rw [hw]
     refine ⟨⟨by omega,by omega⟩, ?_⟩
     refine stp ?_
     refine Jb rfl rfl hof ⟨Rf,trivial⟩ fun nx=> ?_
     refine stp ?_
     intro cx hx
     refine stp ?_
     intro c g4;cases c
     ·have h6:=JbD g4
      rw [if_pos Om]
      refine stp ?_
      exact Ja rfl Rf
     ·have h6:=Jbg g4
      refine stp ?_
      intro c g5;cases c
      ·have h7:=JbD g5
       rw [if_pos Om]
       refine stp ?_
       exact Ja rfl Rf
      ·have h7:=Jbg g5
       rw [if_neg Om]
       refine stp ?_
       exact Ja rfl (AVle.tups (cs:= [_,_]) ⟨Jd hw,Rf,trivial⟩)
    ·have h5:=Jl g3
     dsimp only at h5
     have hi:i < l.length:=by omega
     have hw:IntKind.i64.wrap (IntKind.i64.wrap ((l.length:Int) - 1) - (i:Int))=((l.length - 1 - i:Nat):Int):=by
      rw [Jq (n:=(l.length:Int) - 1) Om Om,Jq Om Om];omega
     have hal:=Jn2 (l.getD i ins0) (hok.get hi) (l.length - 1 - i)
     have hF:wrongI (l.getD i ins0) (l.length - 1 - i)≠0→JV l=(i,wrongI (l.getD i ins0) (l.length - 1 - i)):=fun hne=> by
      unfold JV
      rw [if_neg Om,if_neg Om,Jbu hi (by simpa using hne) (fun j hj=> by simpa using h4 j hj)]
     have hS:wrongI (l.getD i ins0) (l.length - 1 - i)=0→∀j,j < i+1→wrongI (l.getD j ins0) (l.length - 1 - j)=0:=fun h0 j hj=> by
      rcases Nat.lt_or_ge j i with h | h
      ·exact h4 j h
      ·obtain rfl:j=i:=by omega
       exact h0
     generalize wrongI (l.getD i ins0) (l.length - 1 - i)=e at hal hF hS
     refine stp ?_
     refine ⟨Bd, ?_⟩
     refine stp ?_
     refine Jb rfl rfl hal ⟨Rf,Jd hw,trivial⟩ fun nx3=> ?_
     refine stp ?_
     intro c g5;cases c
     ·have h7:=JbD g5
      refine stp ?_
      exact back (i + 1, _) ⟨(by first | omega | (dsimp only at *; omega) | (simp; done) | (simp; omega)), hS Om⟩ (by first | omega | (dsimp only at *; omega) | (simp; done) | (simp; omega)) (Jaa rfl rfl (List.nil_sublist _) (List.nil_sublist _) ⟨Rf, Jd (Jk (by first | omega | (dsimp only at *; omega) | (simp; done) | (simp; omega))), trivial⟩)
     ·have h7:=Jbg g5
      rw [hF Om]
      refine stp ?_
      exact Ja rfl Rf
  ·have h2:=Jl g2
   have hF:JV l=(0,3):=by unfold JV;rw [if_neg Om,if_pos Om]
   rw [hF]
   refine stp ?_
   exact Ja rfl Rf
 ·have h1:=JP.1 g1
  have hF:JV l=(0,4):=by unfold JV;rw [if_pos Om]
  rw [hF]
  refine stp ?_
  exact Ja rfl Rf
def Jd0 (l:List Ins) (z:Int) (n:Nat):Bool:=decide (isStore (kind l n))&& decide (((l.getD n ins0).k:Int)=z)
theorem Jrv (l:List Ins) (c:Nat):Jd0 l (c:Int)=Jbw l c:=by
 funext n
 unfold Jd0 Jbw
 congr 1
 exact decide_eq_decide.2 Om
theorem Jrw {l:List Ins} {st:Nat→Bool} {i:Nat} (h:(Jbl l st i).getD i false=false∨st i=true):Jbl l st (i+1)=Jbl l st i:=by
 rw [JdX]
 unfold Jc0
 rcases h with h | h <;> rw [h] <;> simp
theorem Jrx {l:List Ins} {st:Nat→Bool} {i:Nat} (h:(Jbl l st i).getD i false=true) (h2:st i=false):Jbl l st (i+1)=(nextsI l i).foldl Jbi (Jbl l st i):=by
 rw [JdX]
 unfold Jc0
 rw [h,h2];rfl
theorem Jry {bs:List (Nat×Own)} {s0:Nat} {o:List Bool} {n:Nat} (hn:o.length=n) (hm:(s0, .c (o.map Jg))∈bs):Frz bs (.hs (0,s0) 0 n n) (JlG o):=by
 subst hn
 refine Frz.hs1 (cs:=o.map Jg) hm (Nat.le_refl _) (by rw [List.length_map];exact Nat.le_refl _) (fun _ _=> rfl) fun k hk=> ?_
 rw [List.getElem?_map,List.getElem?_eq_getElem hk]
 simp [List.getD,hk]
theorem Jlr (l:List Ins) (hok:okL l) (hf:Formed l) (z:Int):Tells Tryz.prog 58 [Jan l,int z] (JlG (JbU l (Jd0 l z))):=by
 have hle:=hf.le
 have hpos:=hf.pos
 unfold JbU
 refine Jc Tryz.func58 rfl rfl fun nx=> ?_
 refine stp ?_
 (conv=> whnf)
 refine ⟨by omega,by omega,by rw [b4];omega,by omega, ?_⟩
 refine Jt ?_
 refine AW.le (E':=mk 70 [(0,Jan l),(1,int z),(5, .hs (0,nx) 0 l.length l.length)] ⟨[((0,nx), .c ((List.replicate l.length false).map Jg))], [],nx+1,1⟩) (by
  refine Je _ _ rfl rfl Sf .slnil ⟨rfl,OwnLe.of_eq ?_,trivial⟩ trivial ⟨Rf,Rf,Rf,trivial⟩
  rw [List.map_replicate];rfl) ?_
 refine stp ?_
 (refine ⟨Bd,Jh (b:= .bp (0,nx) (0)) (congrArg (AV.bp (0,nx)) (ix1 c4)) ?_⟩;(conv=> whnf);refine ⟨⟨rfl,(by first | omega | (simp only [List.length_map,List.length_set,List.length_cons,List.length_nil,List.length_replicate,List.length_append];omega))⟩, ?_⟩;rw [show JN ((List.replicate l.length false).map Jg) (0) [AV.v (.bool true)]=((List.replicate l.length false).set (0) (true)).map Jg from JaP (f:=Jg) (x:=true) (by first | omega | (simp only [List.length_map,List.length_set,List.length_cons,List.length_nil,List.length_replicate,List.length_append];omega))])
 refine stp ?_
 refine Jr (fun s:Nat×Nat=> mk 70 [(0,Jan l),(1,int z),(5, .hs (0,nx) 0 l.length l.length),(6,int s.1)] ⟨[((0,nx), .c ((Jbl l (Jd0 l z) s.1).map Jg))], [],s.2,1⟩) (fun s=> s.1≤l.length) (fun s=> l.length - s.1) ?_ ?_
 ·exact ⟨(0,nx+1),Nat.zero_le _,Je _ _ rfl rfl Sf .slnil ⟨rfl,OwnLe.of_eq rfl,trivial⟩ trivial ⟨Rf,Rf,Rf,Rf,trivial⟩⟩
 ·rintro ⟨i,nx'⟩ h1
  dsimp only at h1
  have hlen:=JdY l (Jd0 l z) i
  refine stp ?_
  intro c g2;cases c
  ·have g2:=Jm g2
   dsimp only at g2
   obtain rfl:i=l.length:=by omega
   (repeat ((conv=>whnf);first|refine ω0 ?_|refine ω1 ?_|refine ω2 ?_|refine ω3 ?_|refine ω4 rfl ?_|refine ω5 rfl ?_|refine ω6 ?_|refine ω7 ?_|refine ⟨rfl,?_⟩|refine ⟨trivial,?_⟩|refine ⟨⟨rfl,Nat.le_of_ble_eq_true rfl⟩,?_⟩|refine ⟨⟨by kernel_rfl,by kernel_rfl⟩,?_⟩|refine ⟨by decide,?_⟩|refine Jcd ?_|refine JbO ?_))
   refine AW.le (JaO (L:= [(4,JlG (Jbl l (Jd0 l z) l.length))]) (bx:= []) (pm:= []) (nn:=0) [((0,nx), .c ((Jbl l (Jd0 l z) l.length).map Jg))] rfl rfl Sf .slnil ⟨?_,trivial⟩) ?_
   ·exact Jry hlen (List.mem_cons_self ..)
   refine stp ?_
   exact Ja rfl Rf
  ·have g2:=Jl g2
   dsimp only at g2
   have hi:i < l.length:=by omega
   have hki:(l.getD i ins0).ok:=hok.get hi
   have hof:=Jdb (l.getD i ins0).code hki.1
   have hnx:=JbT hf hi
   have hkd:(kof (l.getD i ins0).code).1=kind l i:=rfl
   have wk:IntKind.i64.wrap ((l.getD i ins0).k:Int)=(l.getD i ins0).k:=Jq (by have:=hki.2.2.2;omega) (by have:=hki.2.2.2;omega)
   have hsame:=Jrw (l:=l) (st:=Jd0 l z) (i:=i)
   have hgoes:=Jrx (l:=l) (st:=Jd0 l z) (i:=i)
   have hst:Jd0 l z i=(decide (isStore (kind l i))&& decide (((l.getD i ins0).k:Int)=z)):=rfl
   generalize Jd0 l z = st at *
   generalize hO : Jbl l st i = o at *
   rw [hkd] at hof
   generalize kind l i=K at hof hst
   generalize (kof (l.getD i ins0).code).2=x at hof
   refine stp ?_
   refine ⟨Bd, ?_⟩
   refine stp ?_
   refine Jb rfl rfl hof ⟨Rf,trivial⟩ fun nx3=> ?_
   refine stp ?_
   intro cx hx
   refine stp ?_
   (refine ⟨Bd,Jh (b:= .bp (0,nx) (i)) (congrArg (AV.bp (0,nx)) (ix1 c4)) ?_⟩;(conv=> whnf);refine ⟨⟨rfl,(by first | omega | (simp only [List.length_map,List.length_set,List.length_cons,List.length_nil,List.length_replicate,List.length_append];omega))⟩,Jh (b:=Jg ((o).getD (i) false)) (Jce (by first | omega | (simp only [List.length_map,List.length_set,List.length_cons,List.length_nil,List.length_replicate,List.length_append];omega))) ?_⟩)
   refine stp ?_
   intro b hb
   cases b
   ·refine stp ?_
    exact back (i + 1, _) (by first | omega | (dsimp only at *; omega) | (simp; done) | (simp; omega)) (by first | omega | (dsimp only at *; omega) | (simp; done) | (simp; omega)) (Je _ _ rfl rfl Sf .slnil ⟨rfl, OwnLe.of_eq (by dsimp only; rw [hsame (.inl hb.symm)]), trivial⟩ trivial ⟨Rf, Rf, Rf, Jd (Jk (by first | omega | (dsimp only at *; omega) | (simp; done) | (simp; omega))), trivial⟩)
   ·have hb:o.getD i false=true:=hb.symm
    refine stp ?_
    intro c e1;cases c
    ·have e1:=JO.1 e1
     refine stp ?_
     intro c e2;cases c
     ·have e2:=JO.1 e2
      have hs:st i=false:=by rw [hst,decide_eq_false (show ¬isStore K by unfold isStore;omega)];rfl
      have hgo:=hgoes hb hs
      refine stp ?_
      refine Jb rfl rfl (Jgz l hok hf i hi) ⟨Rf,Rf,trivial⟩ fun nx5=> ?_
      have hts:(nextsI l i).length≤2:=by unfold nextsI;(repeat' split) <;> simp
      generalize nextsI l i = ts at *
      have hmem:∀j,j < ts.length→ts.getD j 0 < l.length:=fun j hj=> (hnx _ (by simp [List.getD,hj])).2
      refine stp ?_
      refine Jr (fun s:Nat×Nat=> mk 70 [(0,Jan l),(1,int z),(5, .hs (0,nx) 0 l.length l.length),(6,int i),(9,JiC ts),(10,int s.1)] ⟨[((0,nx), .c (((ts.take s.1).foldl Jbi o).map Jg))], [],s.2,1⟩) (fun s=> s.1≤ts.length) (fun s=> ts.length - s.1) ?_ ?_
      ·exact ⟨(0,nx5),Nat.zero_le _,Je _ _ rfl rfl Sf .slnil ⟨rfl,OwnLe.refl _,trivial⟩ trivial ⟨Rf,Rf,Rf,Rf,Rf,Rf,trivial⟩⟩
      ·rintro ⟨j,nx6⟩ k1
       dsimp only at k1
       refine stp ?_
       intro c g3;cases c
       ·have g3:=Jm g3
        dsimp only at g3
        have hj:ts.take j=ts:=List.take_of_length_le Om
        refine stp ?_
        exact back (i + 1, _) (by first | omega | (dsimp only at *; omega) | (simp; done) | (simp; omega)) (by first | omega | (dsimp only at *; omega) | (simp; done) | (simp; omega)) (Je _ _ rfl rfl Sf .slnil ⟨rfl, OwnLe.of_eq (by dsimp only; rw [hj, hgo]), trivial⟩ trivial ⟨Rf, Rf, Rf, Jd (Jk (by first | omega | (dsimp only at *; omega) | (simp; done) | (simp; omega))), trivial⟩)
       ·have g3:=Jl g3
        dsimp only at g3
        have hj:j < ts.length:=by omega
        have ht:=hmem j hj
        have hAl:((ts.take j).foldl Jbi o).length=l.length:=by rw [Jc1];exact hlen
        have hA2:(ts.take (j+1)).foldl Jbi o=((ts.take j).foldl Jbi o).set (ts.getD j 0) true:=by rw [Jcy 0 hj,List.foldl_append];rfl
        generalize (ts.take j).foldl Jbi o = A at *
        generalize hT:ts.getD j 0=t at ht hA2
        refine stp ?_
        refine ⟨Bd, ?_⟩
        refine stp ?_
        (refine ⟨⟨?_, ?_⟩,Jh (b:= .bp (0,nx) t) (congrArg (AV.bp (0,nx)) ?_) ?_⟩)
        ·exact Int.natCast_nonneg _
        ·show ((ts.getD j 0:Nat):Int) < _;rw [hT];omega
        ·rw [c4];show 0+ts.getD j 0 * 1=t;omega
        (conv=> whnf)
        refine ⟨⟨rfl,(by first | omega | (simp only [List.length_map,List.length_set,List.length_cons,List.length_nil,List.length_replicate,List.length_append];omega))⟩, ?_⟩
        rw [show JN (A.map Jg) t [AV.v (.bool true)]=(A.set t true).map Jg from JaP (f:=Jg) (x:=true) (by first | omega | (simp only [List.length_map,List.length_set,List.length_cons,List.length_nil,List.length_replicate,List.length_append];omega))]
        refine stp ?_
        exact back (j + 1, _) (by first | omega | (dsimp only at *; omega) | (simp; done) | (simp; omega)) (by first | omega | (dsimp only at *; omega) | (simp; done) | (simp; omega)) (Je _ _ rfl rfl Sf .slnil ⟨rfl, OwnLe.of_eq (by dsimp only; rw [hA2]), trivial⟩ trivial ⟨Rf, Rf, Rf, Rf, Rf, Jd (Jk (by first | omega | (dsimp only at *; omega) | (simp; done) | (simp; omega))), trivial⟩)
     ·have e2:=JP.1 e2
      refine stp ?_
      refine ⟨Bd, ?_⟩
      refine stp ?_
      intro c e3;cases c
      ·have e3:¬(((l.getD i ins0).k:Int)=z):=by
        have e3:=JO.1 e3
        rw [← wk];exact e3
       have hs:st i=false:=by rw [hst,decide_eq_false e3,Bool.and_false]
       have hgo:=hgoes hb hs
       refine stp ?_
       refine Jb rfl rfl (Jgz l hok hf i hi) ⟨Rf,Rf,trivial⟩ fun nx5=> ?_
       have hts:(nextsI l i).length≤2:=by unfold nextsI;(repeat' split) <;> simp
       generalize nextsI l i = ts at *
       have hmem:∀j,j < ts.length→ts.getD j 0 < l.length:=fun j hj=> (hnx _ (by simp [List.getD,hj])).2
       refine stp ?_
       refine Jr (fun s:Nat×Nat=> mk 70 [(0,Jan l),(1,int z),(5, .hs (0,nx) 0 l.length l.length),(6,int i),(9,JiC ts),(10,int s.1)] ⟨[((0,nx), .c (((ts.take s.1).foldl Jbi o).map Jg))], [],s.2,1⟩) (fun s=> s.1≤ts.length) (fun s=> ts.length - s.1) ?_ ?_
       ·exact ⟨(0,nx5),Nat.zero_le _,Je _ _ rfl rfl Sf .slnil ⟨rfl,OwnLe.refl _,trivial⟩ trivial ⟨Rf,Rf,Rf,Rf,Rf,Rf,trivial⟩⟩
       ·rintro ⟨j,nx6⟩ k1
        dsimp only at k1
        refine stp ?_
        intro c g3;cases c
        ·have g3:=Jm g3
         dsimp only at g3
         have hj:ts.take j=ts:=List.take_of_length_le Om
         refine stp ?_
         exact back (i + 1, _) (by first | omega | (dsimp only at *; omega) | (simp; done) | (simp; omega)) (by first | omega | (dsimp only at *; omega) | (simp; done) | (simp; omega)) (Je _ _ rfl rfl Sf .slnil ⟨rfl, OwnLe.of_eq (by dsimp only; rw [hj, hgo]), trivial⟩ trivial ⟨Rf, Rf, Rf, Jd (Jk (by first | omega | (dsimp only at *; omega) | (simp; done) | (simp; omega))), trivial⟩)
        ·have g3:=Jl g3
         dsimp only at g3
         have hj:j < ts.length:=by omega
         have ht:=hmem j hj
         have hAl:((ts.take j).foldl Jbi o).length=l.length:=by rw [Jc1];exact hlen
         have hA2:(ts.take (j+1)).foldl Jbi o=((ts.take j).foldl Jbi o).set (ts.getD j 0) true:=by rw [Jcy 0 hj,List.foldl_append];rfl
         generalize (ts.take j).foldl Jbi o = A at *
         generalize hT:ts.getD j 0=t at ht hA2
         refine stp ?_
         refine ⟨Bd, ?_⟩
         refine stp ?_
         (refine ⟨⟨?_, ?_⟩,Jh (b:= .bp (0,nx) t) (congrArg (AV.bp (0,nx)) ?_) ?_⟩)
         ·exact Int.natCast_nonneg _
         ·show ((ts.getD j 0:Nat):Int) < _;rw [hT];omega
         ·rw [c4];show 0+ts.getD j 0 * 1=t;omega
         (conv=> whnf)
         refine ⟨⟨rfl,(by first | omega | (simp only [List.length_map,List.length_set,List.length_cons,List.length_nil,List.length_replicate,List.length_append];omega))⟩, ?_⟩
         rw [show JN (A.map Jg) t [AV.v (.bool true)]=(A.set t true).map Jg from JaP (f:=Jg) (x:=true) (by first | omega | (simp only [List.length_map,List.length_set,List.length_cons,List.length_nil,List.length_replicate,List.length_append];omega))]
         refine stp ?_
         exact back (j + 1, _) (by first | omega | (dsimp only at *; omega) | (simp; done) | (simp; omega)) (by first | omega | (dsimp only at *; omega) | (simp; done) | (simp; omega)) (Je _ _ rfl rfl Sf .slnil ⟨rfl, OwnLe.of_eq (by dsimp only; rw [hA2]), trivial⟩ trivial ⟨Rf, Rf, Rf, Rf, Rf, Jd (Jk (by first | omega | (dsimp only at *; omega) | (simp; done) | (simp; omega))), trivial⟩)
      ·have e3:(((l.getD i ins0).k:Int)=z):=by
        have e3:=JP.1 e3
        rw [← wk];exact e3
       have hs:st i=true:=by rw [hst,decide_eq_true e3,decide_eq_true (show isStore K by unfold isStore;omega)];rfl
       refine stp ?_
       exact back (i + 1, _) (by first | omega | (dsimp only at *; omega) | (simp; done) | (simp; omega)) (by first | omega | (dsimp only at *; omega) | (simp; done) | (simp; omega)) (Je _ _ rfl rfl Sf .slnil ⟨rfl, OwnLe.of_eq (by dsimp only; rw [hsame (.inr hs)]), trivial⟩ trivial ⟨Rf, Rf, Rf, Jd (Jk (by first | omega | (dsimp only at *; omega) | (simp; done) | (simp; omega))), trivial⟩)
    ·have e1:=JP.1 e1
     refine stp ?_
     refine ⟨Bd, ?_⟩
     refine stp ?_
     intro c e3;cases c
     ·have e3:¬(((l.getD i ins0).k:Int)=z):=by
       have e3:=JO.1 e3
       rw [← wk];exact e3
      have hs:st i=false:=by rw [hst,decide_eq_false e3,Bool.and_false]
      have hgo:=hgoes hb hs
      refine stp ?_
      refine Jb rfl rfl (Jgz l hok hf i hi) ⟨Rf,Rf,trivial⟩ fun nx5=> ?_
      have hts:(nextsI l i).length≤2:=by unfold nextsI;(repeat' split) <;> simp
      generalize nextsI l i = ts at *
      have hmem:∀j,j < ts.length→ts.getD j 0 < l.length:=fun j hj=> (hnx _ (by simp [List.getD,hj])).2
      refine stp ?_
      refine Jr (fun s:Nat×Nat=> mk 70 [(0,Jan l),(1,int z),(5, .hs (0,nx) 0 l.length l.length),(6,int i),(9,JiC ts),(10,int s.1)] ⟨[((0,nx), .c (((ts.take s.1).foldl Jbi o).map Jg))], [],s.2,1⟩) (fun s=> s.1≤ts.length) (fun s=> ts.length - s.1) ?_ ?_
      ·exact ⟨(0,nx5),Nat.zero_le _,Je _ _ rfl rfl Sf .slnil ⟨rfl,OwnLe.refl _,trivial⟩ trivial ⟨Rf,Rf,Rf,Rf,Rf,Rf,trivial⟩⟩
      ·rintro ⟨j,nx6⟩ k1
       dsimp only at k1
       refine stp ?_
       intro c g3;cases c
       ·have g3:=Jm g3
        dsimp only at g3
        have hj:ts.take j=ts:=List.take_of_length_le Om
        refine stp ?_
        exact back (i + 1, _) (by first | omega | (dsimp only at *; omega) | (simp; done) | (simp; omega)) (by first | omega | (dsimp only at *; omega) | (simp; done) | (simp; omega)) (Je _ _ rfl rfl Sf .slnil ⟨rfl, OwnLe.of_eq (by dsimp only; rw [hj, hgo]), trivial⟩ trivial ⟨Rf, Rf, Rf, Jd (Jk (by first | omega | (dsimp only at *; omega) | (simp; done) | (simp; omega))), trivial⟩)
       ·have g3:=Jl g3
        dsimp only at g3
        have hj:j < ts.length:=by omega
        have ht:=hmem j hj
        have hAl:((ts.take j).foldl Jbi o).length=l.length:=by rw [Jc1];exact hlen
        have hA2:(ts.take (j+1)).foldl Jbi o=((ts.take j).foldl Jbi o).set (ts.getD j 0) true:=by rw [Jcy 0 hj,List.foldl_append];rfl
        generalize (ts.take j).foldl Jbi o = A at *
        generalize hT:ts.getD j 0=t at ht hA2
        refine stp ?_
        refine ⟨Bd, ?_⟩
        refine stp ?_
        (refine ⟨⟨?_, ?_⟩,Jh (b:= .bp (0,nx) t) (congrArg (AV.bp (0,nx)) ?_) ?_⟩)
        ·exact Int.natCast_nonneg _
        ·show ((ts.getD j 0:Nat):Int) < _;rw [hT];omega
        ·rw [c4];show 0+ts.getD j 0 * 1=t;omega
        (conv=> whnf)
        refine ⟨⟨rfl,(by first | omega | (simp only [List.length_map,List.length_set,List.length_cons,List.length_nil,List.length_replicate,List.length_append];omega))⟩, ?_⟩
        rw [show JN (A.map Jg) t [AV.v (.bool true)]=(A.set t true).map Jg from JaP (f:=Jg) (x:=true) (by first | omega | (simp only [List.length_map,List.length_set,List.length_cons,List.length_nil,List.length_replicate,List.length_append];omega))]
        refine stp ?_
        exact back (j + 1, _) (by first | omega | (dsimp only at *; omega) | (simp; done) | (simp; omega)) (by first | omega | (dsimp only at *; omega) | (simp; done) | (simp; omega)) (Je _ _ rfl rfl Sf .slnil ⟨rfl, OwnLe.of_eq (by dsimp only; rw [hA2]), trivial⟩ trivial ⟨Rf, Rf, Rf, Rf, Rf, Jd (Jk (by first | omega | (dsimp only at *; omega) | (simp; done) | (simp; omega))), trivial⟩)
     ·have e3:(((l.getD i ins0).k:Int)=z):=by
       have e3:=JP.1 e3
       rw [← wk];exact e3
      have hs:st i=true:=by rw [hst,decide_eq_true e3,decide_eq_true (show isStore K by unfold isStore;omega)];rfl
      refine stp ?_
      exact back (i + 1, _) (by first | omega | (dsimp only at *; omega) | (simp; done) | (simp; omega)) (by first | omega | (dsimp only at *; omega) | (simp; done) | (simp; omega)) (Je _ _ rfl rfl Sf .slnil ⟨rfl, OwnLe.of_eq (by dsimp only; rw [hsame (.inr hs)]), trivial⟩ trivial ⟨Rf, Rf, Rf, Jd (Jk (by first | omega | (dsimp only at *; omega) | (simp; done) | (simp; omega))), trivial⟩)
end Go.Proofs.W

namespace Go.Proofs.W
open Go.Vl
set_option maxRecDepth 100000
def Jbz (l:List Ins):Nat→Nat→Nat
 | 0,_=> 0
 | k+1,n=> if (JbU l (Jbw l k)).getD n false then Jbz l k n else Jbz l k n||| 2 ^ k
theorem JeJ (l:List Ins) (n c:Nat):∀k,(Jbz l k n).testBit c=(decide (c < k)&& !(JbU l (Jbw l c)).getD n false)
 | 0=> by simp [Jbz]
 | k+1=> by
   unfold Jbz
   by_cases hc:c=k
   ·subst hc
    split
    ·rename_i h
     rw [JeJ l n c c,h];simp
    ·rename_i h
     rw [Bool.not_eq_true] at h
     rw [Nat.testBit_or,Nat.testBit_two_pow_self,JeJ l n c c,h]
     simp
   ·have hd:decide (c < k+1)=decide (c < k):=decide_eq_decide.2 Om
    rw [hd]
    split
    ·exact JeJ l n c k
    ·rw [Nat.testBit_or,Nat.testBit_two_pow_of_ne (Ne.symm hc),Bool.or_false]
     exact JeJ l n c k
theorem JoL (l:List Ins) (n:Nat):∀k,Jbz l k n < 2 ^ k
 | 0=> by simp [Jbz]
 | k+1=> by
   have h:=JoL l n k
   have h2:(2:Nat) ^ k < 2 ^ (k+1):=Nat.pow_lt_pow_right Dc Om
   unfold Jbz
   split
   ·omega
   ·exact Nat.or_lt_two_pow Om h2
theorem JuP {l:List Ins} (hf:Formed l) {n:Nat} (hn:n < l.length):Jbz l 16 n=(JT l).getD n 0:=by
 refine Nat.eq_of_testBit_eq fun c=> ?_
 rw [JeJ]
 rcases Nat.lt_or_ge c 16 with hc | hc
 ·rw [decide_eq_true hc,Bool.true_and]
  have h1:=Jjt hf hc hn
  have h2:=Jgw hf (Jbw l c) n
  cases hb:(JbU l (Jbw l c)).getD n false
  ·exact (h1.2 fun h=> by rw [h2.2 h] at hb;cases hb).symm
  ·cases ht:((JT l).getD n 0).testBit c
   ·rfl
   ·exact absurd (h2.1 hb) (h1.1 ht)
 ·rw [decide_eq_false Om,Bool.false_and]
  have h1:=JeS hf n
  exact (Nat.testBit_lt_two_pow (Nat.lt_of_lt_of_le h1 (Nat.pow_le_pow_right Dc hc:2 ^ 16≤2 ^ c))).symm
def Jb1 (l:List Ins) (k j:Nat):List Nat:=(List.range l.length).map fun n=> if n < j then Jbz l (k+1) n else Jbz l k n
theorem JaB (l:List Ins) (k j:Nat):(Jb1 l k j).length=l.length:=by simp [Jb1]
theorem JdC {l:List Ins} {k j n:Nat} (hn:n < l.length):(Jb1 l k j).getD n 0=if n < j then Jbz l (k+1) n else Jbz l k n:=by
 simp [Jb1,List.getD,hn]
theorem Jrz (l:List Ins) (k:Nat):Jb1 l k l.length=Jb1 l (k+1) 0:=by
 refine List.map_congr_left fun n hn=> ?_
 rw [if_pos (List.mem_range.1 hn),if_neg Om]
theorem JgA {α:Type} {a b:List α} (d:α) (h:a.length=b.length) (hh:∀n,n < a.length→a.getD n d=b.getD n d):a=b:=by
 refine List.ext_getElem h fun n h1 h2=> ?_
 have:=hh n h1
 simpa [List.getD,h1,h2] using this
theorem Jtr {l:List Ins} {k j:Nat} (hj:j < l.length):Jb1 l k (j+1)=(Jb1 l k j).set j (Jbz l (k+1) j):=by
 refine JgA 0 (by rw [List.length_set,JaB,JaB]) fun n hn=> ?_
 rw [JaB] at hn
 rw [JqR,JdC hn,JdC hn,JaB]
 by_cases h:j=n
 ·subst h;rw [if_pos (show j < j+1 by omega),if_pos ⟨rfl,hn⟩]
 ·by_cases h3:n < j
  ·rw [if_pos (show n < j+1 by omega),if_neg (fun h2:j=n∧j < l.length=> h h2.1),if_pos h3]
  ·rw [if_neg (show ¬n < j+1 by omega),if_neg (fun h2:j=n∧j < l.length=> h h2.1),if_neg h3]
theorem JrA {l:List Ins} {k j:Nat} (hj:j < l.length) (h:(JbU l (Jbw l k)).getD j false=true):Jb1 l k (j+1)=Jb1 l k j:=by
 refine JgA 0 (by rw [JaB,JaB]) fun n hn=> ?_
 rw [JaB] at hn
 rw [JdC hn,JdC hn]
 by_cases h2:n=j
 ·subst h2
  rw [if_pos Om,if_neg Om,Jbz,if_pos h]
 ·by_cases h3:n < j
  ·rw [if_pos h3,if_pos Om]
  ·rw [if_neg h3,if_neg Om]
theorem JrB {l:List Ins} (hf:Formed l):Jb1 l 16 0=JT l:=by
 refine JgA 0 (by rw [JaB,Jel hf]) fun n h1=> ?_
 rw [JaB] at h1
 rw [JdC h1,if_neg Om,JuP hf h1]
theorem JrC (l:List Ins):Jb1 l 0 0=List.replicate l.length 0:=by
 refine JgA 0 (by simp [JaB]) fun n h1=> ?_
 rw [JaB] at h1
 rw [JdC h1,if_neg Om]
 simp [Jbz,List.getD,h1]
theorem JuQ {bs:List (Nat×Own)} {s0:Nat} {o:List Nat} {n:Nat} (hn:o.length=n) (hm:(s0, .c (o.map uA))∈bs):Frz bs (.hs (0,s0) 0 n n) (Jka o):=by
 subst hn
 refine Frz.hs1 (cs:=o.map uA) hm (Nat.le_refl _) (by rw [List.length_map];exact Nat.le_refl _) (fun _ _=> rfl) fun k hk=> ?_
 rw [List.getElem?_map,List.getElem?_eq_getElem hk]
 simp [List.getD,hk]
 rfl
theorem JpX {k:Nat} (hk:k < 16):IntKind.u16.wrap (1 * 2 ^ min (Int.toNat (k:Int)) IntKind.u16.bits)=((2 ^ k:Nat):Int):=by
 revert k;decide
theorem JhO {a b:Nat} (ha:a < 65536) (hb:b < 65536):JU .or .u16 a b=((a||| b:Nat):Int):=by
 have hx:a||| b < 2 ^ 16:=Nat.or_lt_two_pow (n:=16) ha hb
 refine JfZ (k:= .u16) ha hb ?_
 show ((a||| b:Nat):Int) % 65536=_
 omega
set_option maxHeartbeats 1000000 in
theorem JmX (l:List Ins) (hok:okL l) (hf:Formed l):Tells Tryz.prog 27 [Jan l] (Jka (JT l)):=by
 have hle:=hf.le
 have hpos:=hf.pos
 refine Jc Tryz.func27 rfl rfl fun nx=> ?_
 refine stp ?_
 (conv=> whnf)
 refine ⟨by omega,by omega,by rw [b49];omega,by omega, ?_⟩
 refine Jt ?_
 refine AW.le (E':=mk 37 [(0,Jan l),(3, .hs (0,nx) 0 l.length l.length)] ⟨[((0,nx), .c ((Jb1 l 0 0).map uA))], [],nx+1,1⟩) (by
  refine Je _ _ rfl rfl Sf .slnil ⟨rfl,OwnLe.of_eq ?_,trivial⟩ trivial ⟨Rf,Rf,trivial⟩
  rw [JrC,List.map_replicate];rfl) ?_
 refine stp ?_
 refine Jr (fun s:Nat×Nat=> mk 37 [(0,Jan l),(3, .hs (0,nx) 0 l.length l.length),(4,int s.1)] ⟨[((0,nx), .c ((Jb1 l s.1 0).map uA))], [],s.2,1⟩) (fun s=> s.1≤16) (fun s=> 16 - s.1) ?_ ?_
 ·exact ⟨(0,nx+1),Nat.zero_le _,Je _ _ rfl rfl Sf .slnil ⟨rfl,OwnLe.refl _,trivial⟩ trivial ⟨Rf,Rf,Rf,trivial⟩⟩
 ·rintro ⟨k,nx'⟩ h1
  dsimp only at h1
  refine stp ?_
  intro c g2;cases c
  ·have g2:=Jm g2
   dsimp only at g2
   obtain rfl:k=16:=by omega
   (repeat ((conv=>whnf);first|refine ω0 ?_|refine ω1 ?_|refine ω2 ?_|refine ω3 ?_|refine ω4 rfl ?_|refine ω5 rfl ?_|refine ω6 ?_|refine ω7 ?_|refine ⟨rfl,?_⟩|refine ⟨trivial,?_⟩|refine ⟨⟨rfl,Nat.le_of_ble_eq_true rfl⟩,?_⟩|refine ⟨⟨by kernel_rfl,by kernel_rfl⟩,?_⟩|refine ⟨by decide,?_⟩|refine Jcd ?_|refine JbO ?_))
   refine AW.le (JaO (L:= [(2,Jka (JT l))]) (bx:= []) (pm:= []) (nn:=0) [((0,nx), .c ((Jb1 l 16 0).map uA))] rfl rfl Sf .slnil ⟨?_,trivial⟩) ?_
   ·have:=JuQ (bs:= [(nx, .c ((Jb1 l 16 0).map uA))]) (JaB l 16 0) (List.mem_cons_self ..)
    rw [JrB hf] at this⊢
    exact this
   refine stp ?_
   exact Ja rfl Rf
  ·have g2:=Jl g2
   dsimp only at g2
   have hk:k < 16:=by omega
   have hre:=Jlr l hok hf (k:Int)
   rw [Jrv] at hre
   have hwl:=JgU l (Jbw l k)
   refine stp ?_
   refine Jb rfl rfl hre ⟨Rf,Rf,trivial⟩ fun nx3=> ?_
   refine stp ?_
   refine Jr (fun s:Nat×Nat=> mk 37 [(0,Jan l),(3, .hs (0,nx) 0 l.length l.length),(4,int k),(5,JlG (JbU l (Jbw l k))),(6,int s.1)] ⟨[((0,nx), .c ((Jb1 l k s.1).map uA))], [],s.2,1⟩) (fun s=> s.1≤l.length) (fun s=> l.length - s.1) ?_ ?_
   ·exact ⟨(0,nx3),Nat.zero_le _,Je _ _ rfl rfl Sf .slnil ⟨rfl,OwnLe.refl _,trivial⟩ trivial ⟨Rf,Rf,Rf,Rf,Rf,trivial⟩⟩
   ·rintro ⟨j,nx6⟩ k1
    dsimp only at k1
    refine stp ?_
    intro c g3;cases c
    ·have g3:=Jm g3
     dsimp only at g3
     obtain rfl:j=l.length:=by omega
     refine stp ?_
     exact back (k + 1, _) (by first | omega | (dsimp only at *; omega) | (simp; done) | (simp; omega)) (by first | omega | (dsimp only at *; omega) | (simp; done) | (simp; omega)) (Je _ _ rfl rfl Sf .slnil ⟨rfl, OwnLe.of_eq (by dsimp only; rw [Jrz]), trivial⟩ trivial ⟨Rf, Rf, Jd (Jk (by first | omega | (dsimp only at *; omega) | (simp; done) | (simp; omega))), trivial⟩)
    ·have g3:=Jl g3
     dsimp only at g3
     have hj:j < l.length:=by omega
     have hsame:=JrA (k:=k) hj
     have JbP:=Jtr (k:=k) hj
     have Jam:(Jb1 l k j).getD j 0=Jbz l k j:=by rw [JdC hj,if_neg Om]
     have hlt:Jbz l k j < 65536:=Nat.lt_of_lt_of_le (JoL l j k) (by have:=Nat.pow_le_pow_right (n:=2) Dc (show k≤16 by omega);omega)
     have hml:=JaB l k j
     have hgo:(JbU l (Jbw l k)).getD j false=false→Jbz l (k+1) j=Jbz l k j||| 2 ^ k:=fun h=> by rw [Jbz,h];rfl
     have h2k:2 ^ k < 65536:=by have:=Nat.pow_lt_pow_right (a:=2) Dc hk;omega
     generalize JbU l (Jbw l k) = w at *
     refine stp ?_
     refine ⟨Bd, ?_⟩
     refine stp ?_
     intro b hb
     cases b
     ·have hgo:=hgo hb.symm
      refine stp ?_
      (refine Jy 7 ?_ ?_ ?_ ?_;(· kernel_rfl);(· kernel_rfl);(· kernel_rfl))
      refine stp ?_
      (refine ⟨Bd,Jh (b:= .bp (0,nx) (j)) (congrArg (AV.bp (0,nx)) (ix1 c49)) ?_⟩;(conv=> whnf);refine ⟨⟨rfl,(by first | omega | (simp only [List.length_map,List.length_set,List.length_cons,List.length_nil,List.length_replicate,List.length_append];omega))⟩,Jh (b:=uA ((Jb1 l k j).getD (j) 0)) (Jce (by first | omega | (simp only [List.length_map,List.length_set,List.length_cons,List.length_nil,List.length_replicate,List.length_append];omega))) ?_⟩)
      refine stp ?_
      refine ⟨by omega,Jh (congrArg (fun x=> AV.v (.int .u16 x)) (JpX hk)) ?_⟩
      (conv=> whnf)
      refine ⟨Bd,Jh (b:= .bp (0,nx) j) (congrArg (AV.bp (0,nx)) (ix1 c49)) ?_⟩
      (conv=> whnf)
      refine ⟨⟨rfl,(by first | omega | (simp only [List.length_map,List.length_set,List.length_cons,List.length_nil,List.length_replicate,List.length_append];omega))⟩, ?_⟩
      rw [show (AV.v (.int .u16 (JU .or .u16 ((Jb1 l k j).getD j 0:Nat) ((2 ^ k:Nat):Int))))=uA (Jbz l (k+1) j) by rw [Jam,JhO hlt h2k,← hgo];rfl]
      rw [show JN ((Jb1 l k j).map uA) j [uA (Jbz l (k+1) j)]=((Jb1 l k j).set j (Jbz l (k+1) j)).map uA from JaP (f:=uA) (x:=Jbz l (k+1) j) (by first | omega | (simp only [List.length_map,List.length_set,List.length_cons,List.length_nil,List.length_replicate,List.length_append];omega)),← JbP]
      refine stp ?_
      exact back (j + 1, _) (by first | omega | (dsimp only at *; omega) | (simp; done) | (simp; omega)) (by first | omega | (dsimp only at *; omega) | (simp; done) | (simp; omega)) (Je _ _ rfl rfl Sf .slnil ⟨rfl, OwnLe.of_eq rfl, trivial⟩ trivial ⟨Rf, Rf, Rf, Rf, Jd (Jk (by first | omega | (dsimp only at *; omega) | (simp; done) | (simp; omega))), trivial⟩)
     ·refine stp ?_
      exact back (j + 1, _) (by first | omega | (dsimp only at *; omega) | (simp; done) | (simp; omega)) (by first | omega | (dsimp only at *; omega) | (simp; done) | (simp; omega)) (Je _ _ rfl rfl Sf .slnil ⟨rfl, OwnLe.of_eq (by dsimp only; rw [hsame hb.symm]), trivial⟩ trivial ⟨Rf, Rf, Rf, Rf, Jd (Jk (by first | omega | (dsimp only at *; omega) | (simp; done) | (simp; omega))), trivial⟩)
end Go.Proofs.W

namespace Go.Proofs.W
open Go.Vl
set_option maxRecDepth 100000
theorem JhU {s k:Nat}:s&&& 2 ^ k=0↔s / 2 ^ k % 2=0:=by
 have h2:=Nat.testBit_eq_decide_div_mod_eq (x:=s) (i:=k)
 cases h:s.testBit k
 ·rw [h] at h2
  have h3:¬(s / 2 ^ k % 2=1):=of_decide_eq_false h2.symm
  refine ⟨fun _=> by omega,fun _=> ?_⟩
  refine Nat.eq_of_testBit_eq fun j=> ?_
  rw [Nat.testBit_and,Nat.testBit_two_pow,Nat.zero_testBit]
  by_cases hj:k=j
  ·subst hj;rw [h];simp
  ·simp [hj]
 ·rw [h] at h2
  have h3:s / 2 ^ k % 2=1:=of_decide_eq_true h2.symm
  refine ⟨fun he=> ?_,fun h4=> by omega⟩
  have h5:(s&&& 2 ^ k).testBit k=true:=by rw [Nat.testBit_and,Nat.testBit_two_pow_self,h];rfl
  rw [he] at h5
  simp at h5
theorem Jn3 (l:List Ins) (hok:okL l) (hl:l.length≤1000000000):Tells Tryz.prog 11 [Jan l] (.tup [int (checkI l).1,int (checkI l).2]):=by
 refine Jc Tryz.func11 rfl rfl fun nx=> ?_
 refine stp ?_
 refine Jb rfl rfl (JmW l hok hl) ⟨Rf,trivial⟩ fun nx1=> ?_
 refine stp ?_
 intro c g1;cases c
 ·have g1:=JbD g1
  have hfz:(JV l).2=0:=by omega
  have hf:Formed l:=JfB hfz
  have hle:=hf.le
  have hsl:=Jel hf
  have hss:=JeS hf
  have hst:=JmX l hok hf
  refine stp ?_
  refine Jb rfl rfl hst ⟨Rf,trivial⟩ fun nx2=> ?_
  refine stp ?_
  refine Jr (fun s:Nat×Nat=> mk 57 [(0,Jan l),(6,Jka (JT l)),(7,int s.1)] ⟨[], [],s.2,0⟩) (fun s=> s.1≤l.length∧∀j,j < s.1→¬((kind l j=3∨kind l j=6)∧(JT l).getD j 0 / 2 ^ (l.getD j ins0).k % 2=0)) (fun s=> l.length - s.1) ?_ ?_
  ·exact ⟨(0,nx2),⟨Nat.zero_le _,fun j hj=> absurd hj (Nat.not_lt_zero _)⟩,Jaa rfl rfl (List.nil_sublist _) (List.nil_sublist _) ⟨Rf,Rf,Rf,trivial⟩⟩
  ·rintro ⟨i,nx'⟩ ⟨h3,h4⟩
   dsimp only at h3 h4
   refine stp ?_
   intro c g2;cases c
   ·have h5:=Jm g2
    dsimp only at h5
    have:checkI l=(0,0):=by
     unfold checkI
     rw [if_neg Om,Jca fun j hj=> by rw [decide_eq_false_iff_not];exact h4 j Om]
    rw [this]
    refine stp ?_
    exact Ja rfl Rf
   ·have h5:=Jl g2
    dsimp only at h5
    have hi:i < l.length:=by omega
    have hki:(l.getD i ins0).ok:=hok.get hi
    have hof:=Jdb (l.getD i ins0).code hki.1
    have hkd:(kof (l.getD i ins0).code).1=kind l i:=rfl
    have hk16:kind l i=3∨kind l i=6→(l.getD i ins0).k < 16:=fun h=> by
     have:=(Jbs (hf.ok i hi)).2.2.1
     omega
    have hfound:((kind l i=3∨kind l i=6)∧(JT l).getD i 0 / 2 ^ (l.getD i ins0).k % 2=0)→checkI l=(i,12):=fun h=> by
     unfold checkI
     rw [if_neg Om,Jbu hi (decide_eq_true h) (fun j hj=> by rw [decide_eq_false_iff_not];exact h4 j hj)]
    have hnext:¬((kind l i=3∨kind l i=6)∧(JT l).getD i 0 / 2 ^ (l.getD i ins0).k % 2=0)→∀j,j < i+1→¬((kind l j=3∨kind l j=6)∧(JT l).getD j 0 / 2 ^ (l.getD j ins0).k % 2=0):=fun h j hj=> by
     rcases Nat.lt_or_ge j i with h' | h'
     ·exact h4 j h'
     ·obtain rfl:j=i:=by omega
      exact h
    have hsx:=hss i
    rw [hkd] at hof
    generalize kind l i=K at hof hk16 hfound hnext
    generalize (kof (l.getD i ins0).code).2=x at hof
    refine stp ?_
    refine ⟨Bd, ?_⟩
    refine stp ?_
    refine Jb rfl rfl hof ⟨Rf,trivial⟩ fun nx3=> ?_
    refine stp ?_
    intro cx hx
    refine stp ?_
    by_cases e3:K=3
    ·subst e3
     have hk:=hk16 (.inl rfl)
     have h2k:2 ^ (l.getD i ins0).k < 65536:=by have:=Nat.pow_lt_pow_right (a:=2) Dc hk;omega
     (refine Jy 20 ?_ ?_ ?_ ?_;(· kernel_rfl);(· kernel_rfl);(· kernel_rfl))
     refine stp ?_
     refine ⟨Bd, ?_⟩
     refine stp ?_
     refine ⟨Bd, ?_⟩
     refine stp ?_
     (conv=> whnf)
     refine ⟨by omega,Jh (congrArg (fun x=> AV.v (.int .u16 x)) (JpX hk)) ?_⟩
     refine stp ?_
     intro c g5;cases c
     ·have g5:¬((JT l).getD i 0 / 2 ^ (l.getD i ins0).k % 2=0):=by
       have g5:=JO.1 g5
       rw [← JhU]
       intro h
       apply g5
       show JU .and .u16 (((JT l).getD i 0:Nat):Int) ((2 ^ (l.getD i ins0).k:Nat):Int)=0
       rw [Jdy hsx h2k,h];rfl
      refine stp ?_
      exact back (i + 1, _) ⟨(by first | omega | (dsimp only at *; omega) | (simp; done) | (simp; omega)), hnext (fun h => g5 h.2)⟩ (by first | omega | (dsimp only at *; omega) | (simp; done) | (simp; omega)) (Jaa rfl rfl (List.nil_sublist _) (List.nil_sublist _) ⟨Rf, Rf, Jd (Jk (by first | omega | (dsimp only at *; omega) | (simp; done) | (simp; omega))), trivial⟩)
     ·have g5:(JT l).getD i 0 / 2 ^ (l.getD i ins0).k % 2=0:=by
       have g5:=JP.1 g5
       rw [← JhU]
       have g6:JU .and .u16 (((JT l).getD i 0:Nat):Int) ((2 ^ (l.getD i ins0).k:Nat):Int)=0:=g5
       rw [Jdy hsx h2k] at g6
       omega
      rw [hfound ⟨(.inl rfl),g5⟩]
      refine stp ?_
      exact Ja rfl Rf
    ·have f3:((K:Int) ==3)=false:=by simp;omega
     by_cases e6:K=6
     ·subst e6
      have hk:=hk16 (.inr rfl)
      have h2k:2 ^ (l.getD i ins0).k < 65536:=by have:=Nat.pow_lt_pow_right (a:=2) Dc hk;omega
      (refine Jy 20 ?_ ?_ ?_ ?_;(· kernel_rfl);(· kernel_rfl);(· kernel_rfl))
      refine stp ?_
      refine ⟨Bd, ?_⟩
      refine stp ?_
      refine ⟨Bd, ?_⟩
      refine stp ?_
      (conv=> whnf)
      refine ⟨by omega,Jh (congrArg (fun x=> AV.v (.int .u16 x)) (JpX hk)) ?_⟩
      refine stp ?_
      intro c g5;cases c
      ·have g5:¬((JT l).getD i 0 / 2 ^ (l.getD i ins0).k % 2=0):=by
        have g5:=JO.1 g5
        rw [← JhU]
        intro h
        apply g5
        show JU .and .u16 (((JT l).getD i 0:Nat):Int) ((2 ^ (l.getD i ins0).k:Nat):Int)=0
        rw [Jdy hsx h2k,h];rfl
       refine stp ?_
       exact back (i + 1, _) ⟨(by first | omega | (dsimp only at *; omega) | (simp; done) | (simp; omega)), hnext (fun h => g5 h.2)⟩ (by first | omega | (dsimp only at *; omega) | (simp; done) | (simp; omega)) (Jaa rfl rfl (List.nil_sublist _) (List.nil_sublist _) ⟨Rf, Rf, Jd (Jk (by first | omega | (dsimp only at *; omega) | (simp; done) | (simp; omega))), trivial⟩)
      ·have g5:(JT l).getD i 0 / 2 ^ (l.getD i ins0).k % 2=0:=by
        have g5:=JP.1 g5
        rw [← JhU]
        have g6:JU .and .u16 (((JT l).getD i 0:Nat):Int) ((2 ^ (l.getD i ins0).k:Nat):Int)=0:=g5
        rw [Jdy hsx h2k] at g6
        omega
       rw [hfound ⟨(.inr rfl),g5⟩]
       refine stp ?_
       exact Ja rfl Rf
     ·have f6:((K:Int) ==6)=false:=by simp;omega
      (refine Jy 20 ?_ ?_ ?_ ?_;(· kernel_rfl);(· kernel_rfl);(· kernel_rfl))
      refine stp ?_
      (conv=> whnf)
      rw [f3]
      refine stp ?_
      (conv=> whnf)
      rw [f6]
      refine stp ?_
      exact back (i + 1, _) ⟨(by first | omega | (dsimp only at *; omega) | (simp; done) | (simp; omega)), hnext (fun h => by omega)⟩ (by first | omega | (dsimp only at *; omega) | (simp; done) | (simp; omega)) (Jaa rfl rfl (List.nil_sublist _) (List.nil_sublist _) ⟨Rf, Rf, Jd (Jk (by first | omega | (dsimp only at *; omega) | (simp; done) | (simp; omega))), trivial⟩)
 ·have g1:=Jbg g1
  have:checkI l=JV l:=by unfold checkI;rw [if_pos Om]
  rw [this]
  refine stp ?_
  exact Ja rfl Rf
end Go.Proofs.W

namespace Go.Proofs.W
open Go.Vl
set_option maxRecDepth 100000
def shF (left:Bool) (a i:Nat):Nat:=if left then a * 2 ^ i % 4294967296 else a / 2 ^ i
theorem Jts {left:Bool} {a:Nat} (ha:a < 4294967296):shF left a 0=a:=by
 unfold shF
 cases left
 ·simp
 ·simp;omega
theorem Jtt (a i:Nat):(shF true a i+shF true a i) % 4294967296=shF true a (i+1):=by
 show (a * 2 ^ i % 4294967296+a * 2 ^ i % 4294967296) % 4294967296=a * 2 ^ (i+1) % 4294967296
 rw [Nat.pow_succ,← Nat.mul_assoc]
 generalize a * 2 ^ i=x
 omega
theorem JrD (a i:Nat):shF false a i / 2=shF false a (i+1):=by
 show a / 2 ^ i / 2=a / 2 ^ (i+1)
 rw [Nat.div_div_eq_div_mul,Nat.pow_succ]
theorem JvI {left:Bool} {a:Nat} (ha:a < 4294967296) (i:Nat):shF left a i < 4294967296:=by
 cases left
 ·exact Nat.lt_of_le_of_lt (Nat.div_le_self _ _) ha
 ·exact Nat.mod_lt _ Dc
theorem Jey (a n:Nat) (ha:a < 4294967296) (hn:n < 4294967296) (left:Bool):Tells Tryz.prog 38 [u32 a,u32 n,Jg left] (u32 (shF left a (n % 32):Nat)):=by
 refine Jc Tryz.func38 rfl rfl fun nx=> ?_
 refine stp ?_
 refine Jr (fun s:Nat×Nat=> mk 21 [(0,u32 (shF left a s.1:Nat)),(1,u32 n),(2,Jg left),(7,u32 s.1)] ⟨[], [],s.2,0⟩) (fun s=> s.1≤n % 32) (fun s=> n % 32 - s.1) ?_ ?_
 ·exact ⟨(0,nx),Nat.zero_le _,JH rfl rfl ⟨Jd (by rw [Jts ha]),Rf,Rf,Rf,trivial⟩⟩
 ·rintro ⟨i,nx1⟩ h1
  dsimp only at h1
  have hr:((n:Int).tmod 32)=((n % 32:Nat):Int):=rfl
  refine stp ?_
  intro c g;cases c
  ·have g:=Jm g
   dsimp only at g
   rw [hr] at g
   obtain rfl:i=n % 32:=by omega
   refine stp ?_
   exact Ja rfl Rf
  ·have g:=Jl g
   dsimp only at g
   rw [hr] at g
   have hi:i < n % 32:=by omega
   have hl:=JvI (left:=left) ha i
   have hsu:IntKind.u32.wrap ((i:Int)+1)=((i+1:Nat):Int):=Jhn (n:=i+1) Om
   cases left
   ·refine stp ?_
    refine back (i + 1, _) (by first | omega | (dsimp only at *; omega) | (simp; done) | (simp; omega)) (by first | omega | (dsimp only at *; omega) | (simp; done) | (simp; omega)) (Jaa rfl rfl (List.nil_sublist _) (List.nil_sublist _) ⟨Jd ?_, Rf, Rf, Jd hsu, trivial⟩)
    rw [← JrD]
    exact JlI (n:=2) hl
   ·refine stp ?_
    refine back (i + 1, _) (by first | omega | (dsimp only at *; omega) | (simp; done) | (simp; omega)) (by first | omega | (dsimp only at *; omega) | (simp; done) | (simp; omega)) (Jaa rfl rfl (List.nil_sublist _) (List.nil_sublist _) ⟨Jd ?_, Rf, Rf, Jd hsu, trivial⟩)
    rw [← Jtt]
    exact JlH _ _
end Go.Proofs.W

namespace Go.Proofs.W
open Go.Vl
set_option maxRecDepth 100000
end Go.Proofs.W

namespace Go.Proofs.W
open Go.Vl
set_option maxRecDepth 100000
end Go.Proofs.W

namespace Go.Proofs.W
open Go.Vl
set_option maxRecDepth 100000
structure TstZ where
 at':Int
 mask:Nat
 kind:Int
 k:Nat
 is:Bool
def TstZ.ok (t:TstZ):Prop:=okI t.at'∧t.mask < 4294967296∧okI t.kind∧t.k < 4294967296
def Jjx (b:List Nat) (at':Int):Nat:=JbI b (Jx at'.toNat 4 false)
theorem Jtu {b:List Nat} (hb:okB b) (at':Int):Jjx b at' < 4294967296:=by
 have:=JhR hb (Jx at'.toNat 4 false)
 rw [Ja4] at this
 exact this
theorem Jn4 (b:List Nat) (hb:okB b) (hl:b.length≤8):Tells Tryz.prog 76 [JI b] (u64 (JbI b (Jx 0 b.length false):Nat)):=by
 refine Jc Tryz.func76 rfl rfl fun nx=> ?_
 refine stp ?_
 have hle:∀i,i≤b.length→∀n:Nat,(int ((b.length:Int) - 1 - i))=int ((b.length:Int) - 1 - i):=fun _ _ _=> rfl
 refine Jr (fun i:Nat=> mk 21 [(0,JI b),(3,u64 (JbI b ((Jx 0 b.length false).take i):Nat)),(4,int ((b.length:Int) - 1 - i))] ⟨[], [],nx,0⟩) (fun i=> i≤b.length) (fun i=> b.length - i) ?_ ?_
 ·exact ⟨0,by omega,JH rfl rfl ⟨Rf,Rf,Jd ((Jq Om Om).trans Om),trivial⟩⟩
 ·rintro i h1
  refine stp ?_
  intro c g;cases c
  ·have g:=Jm g
   refine stp ?_
   refine Ja rfl (AVle.of_eq ?_)
   rw [List.take_of_length_le (by rw [Ja4];omega)]
   rfl
  ·have g:=Jl g
   have hi:i < b.length:=by omega
   have hpl:=Ja4 0 b.length false
   have hgt:(Jx 0 b.length false).getD i 0=b.length - 1 - i:=by rw [Jig hi];simp
   have hst:(Jx 0 b.length false).take (i+1)=(Jx 0 b.length false).take i++ [b.length - 1 - i]:=by rw [← hgt];exact Jcy 0 (by rw [hpl];exact hi)
   have hacc:JbI b ((Jx 0 b.length false).take i) < 72057594037927936:=Nat.lt_of_lt_of_le (JhR hb _) (Nat.le_trans (Nat.pow_le_pow_right Dc (by rw [List.length_take,hpl];omega:((Jx 0 b.length false).take i).length≤7)) Dc)
   have hbx:=hb.get (b.length - 1 - i)
   have hix:Int.toNat ((b.length:Int) - 1 - i)=b.length - 1 - i:=by omega
   refine stp ?_
   refine ⟨Bd, ?_⟩
   refine stp ?_
   refine back (i+1) Om Om (JH rfl rfl ⟨Rf, ?_,Jd ((Jq Om Om).trans Om),trivial⟩)
   refine AVle.of_eq (congrArg u64 (?_:IntKind.u64.wrap (IntKind.u64.wrap (256 * (JbI b ((Jx 0 b.length false).take i):Nat))+IntKind.u64.wrap (b.getD (Int.toNat ((b.length:Int) - 1 - i)) 0:Nat))=_))
   rw [hix,hst,JkP]
   show ((256 * ((JbI b ((Jx 0 b.length false).take i):Nat):Int)) % 18446744073709551616+((b.getD (b.length - 1 - i) 0:Nat):Int) % 18446744073709551616) % 18446744073709551616=_
   omega
theorem Jf6 {b:List Nat} {a n k:Nat} (hk:k < n):((b.drop a).take n).getD k 0=b.getD (a+k) 0:=by
 simp [List.getD,List.getElem?_take,hk,List.getElem?_drop]
theorem JrE {b:List Nat} {a:Nat}:JbI ((b.drop a).take 4) (Jx 0 4 false)=Jjx b a:=by
 have h0:=Jf6 (b:=b) (a:=a) (n:=4) (k:=0) Dc
 have h1:=Jf6 (b:=b) (a:=a) (n:=4) (k:=1) Dc
 have h2:=Jf6 (b:=b) (a:=a) (n:=4) (k:=2) Dc
 have h3:=Jf6 (b:=b) (a:=a) (n:=4) (k:=3) Dc
 have e1:Jx 0 4 false= [3,2,1,0]:=by decide
 have e2:Jx (Int.toNat (a:Int)) 4 false= [a+3,a+2,a+1,a+0]:=by
  show (List.range 4).map (fun i=> a+4 - 1 - i)=_
  rw [show List.range 4= [0,1,2,3] from rfl]
  simp
 unfold Jjx JbI
 rw [e1,e2]
 simp only [List.foldl_cons,List.foldl_nil,h0,h1,h2,h3]
theorem Jjy (b:List Nat) (hb:okB b) (hl:b.length≤1000000) (at':Nat) (ha:at'+4≤b.length):Tells Tryz.prog 37 [JI b,int at'] (u32 (Jjx b at':Nat)):=by
 have hw:IntKind.i64.wrap ((at':Int)+4)=((at'+4:Nat):Int):=Jq Om Om
 have hlen:((b.drop at').take 4).length=4:=by simp;omega
 have hsub:okB ((b.drop at').take 4):=fun x hx=> hb x (List.mem_of_mem_drop (List.mem_of_mem_take hx))
 have hwl:=Jtu hb at'
 refine Jc Tryz.func37 rfl rfl fun nx=> ?_
 refine stp ?_
 (conv=> whnf)
 refine ⟨⟨by omega,by rw [hw];omega,by rw [hw];omega⟩, ?_⟩
 refine stp ?_
 refine Jb rfl rfl (Jn4 ((b.drop at').take 4) hsub Om) ⟨?_,trivial⟩ fun nx1=> ?_
 ·refine AVle.trans (b:= .sl 1 4 (fun k=> u8 (b.getD (at'+k) 0:Nat))) (AVle.of_eq ?_) ?_
  ·show AV.sl 1 ((IntKind.i64.wrap ((at':Int)+4)).toNat - at') _=_
   rw [hw,show Int.toNat ((at'+4:Nat):Int) - at'=4 by omega]
   rfl
  ·unfold JI Jai
   rw [hlen]
   exact AVle.sl_fun fun k hk=> by rw [Jf6 hk]
 rw [hlen,JrE]
 refine stp ?_
 refine Ja rfl (Jd ?_)
 show ((Jjx b at':Nat):Int) % 4294967296=_
 omega
end Go.Proofs.W

namespace Go.Proofs.W
open Go.Vl
set_option maxRecDepth 100000
def Jxx (s0 s1 s2:Nat) (s:Rn) (oi:Option Nat):List (Vl.Id×Own):= [((2,s2), .c (s.cells.map JL)),((1,s1), .c [u32 0,int s.steps, .os 1 s.loads.length (JdB s.loads) (nmN 3 oi)]),((0,s0), .c [u32 0,int 0, .os 0 0 (fun _=> .any) none])]
theorem c41:Tryz.prog.cellsOf 35=1:=by kernel_rfl
theorem JlK {l:List Nat} {x:Int} {v s c:Nat} {f':Nat→AV} (hx:x=(v:Nat)) (hf:f' 0=int x):AVle (.os 1 (l.length+1) (JbH l.length (JdB l) f') (some (c,s))) (.os 1 (l++ [v]).length (JdB (l++ [v])) (some (3,s))):=
 (JmT hx hf).trans (AVle.os_nm rfl)
theorem Juf {a:Nat} (ha:a < 4294967296):IntKind.u32.wrap (0 - (a:Int))=(((4294967296 - a) % 4294967296:Nat):Int):=by
 show (0 - (a:Int)) % 4294967296=_
 omega
theorem JvJ (a n:Nat):(a||| n) - (a&&& n)=a ^^^ n:=by
 have key:∀k a n:Nat,a < 2 ^ k→n < 2 ^ k→(a||| n)=(a ^^^ n)+(a&&& n):=by
  intro k
  induction k with
  | zero=> intro a n ha hn;obtain rfl:a=0:=by omega
           obtain rfl:n=0:=by omega
           rfl
  | succ k ih=>
    intro a n ha hn
    have h:=ih (a / 2) (n / 2) (by rw [Nat.pow_succ] at ha;omega) (by rw [Nat.pow_succ] at hn;omega)
    have e1:(a||| n) / 2=a / 2||| n / 2:=by simpa using Nat.or_div_two_pow (a:=a) (b:=n) (n:=1)
    have e2:(a ^^^ n) / 2=a / 2 ^^^ n / 2:=by simpa using Nat.xor_div_two_pow (a:=a) (b:=n) (n:=1)
    have e3:(a&&& n) / 2=a / 2&&& n / 2:=by simpa using Nat.and_div_two_pow (a:=a) (b:=n) (n:=1)
    have m1:(a||| n) % 2=max (a % 2) (n % 2):=by
     have:=Nat.or_mod_two_pow (a:=a) (b:=n) (n:=1)
     simp only [Nat.pow_one] at this
     rw [this]
     have ha2:a % 2=0∨a % 2=1:=by omega
     have hn2:n % 2=0∨n % 2=1:=by omega
     rcases ha2 with h1 | h1 <;> rcases hn2 with h2 | h2 <;> rw [h1,h2] <;> rfl
    have m2:(a ^^^ n) % 2+(a&&& n) % 2=max (a % 2) (n % 2):=by
     have q1:=Nat.xor_mod_two_pow (a:=a) (b:=n) (n:=1)
     have q2:=Nat.and_mod_two_pow (a:=a) (b:=n) (n:=1)
     simp only [Nat.pow_one] at q1 q2
     rw [q1,q2]
     have ha2:a % 2=0∨a % 2=1:=by omega
     have hn2:n % 2=0∨n % 2=1:=by omega
     rcases ha2 with h1 | h1 <;> rcases hn2 with h2 | h2 <;> rw [h1,h2] <;> rfl
    omega
 have:=key (a+n+1) a n (by have:= @Nat.lt_two_pow_self (a+n+1);omega) (by have:= @Nat.lt_two_pow_self (a+n+1);omega)
 omega
theorem Jug {a n:Nat} (ha:a < 4294967296) (hn:n < 4294967296):IntKind.u32.wrap (JU .or .u32 (a:Int) n - JU .and .u32 (a:Int) n)=((a ^^^ n:Nat):Int):=by
 rw [Jgx ha hn,JcD ha hn]
 have h1:=JvJ a n
 have h2:a&&& n≤a||| n:=Nat.le_trans Nat.and_le_left Nat.left_le_or
 have h3:a ^^^ n < 4294967296:=Nat.xor_lt_two_pow (n:=32) ha hn
 rw [show ((a||| n:Nat):Int) - ((a&&& n:Nat):Int)=((a ^^^ n:Nat):Int) by omega]
 exact Jhn h3
theorem Jjz {a n:Nat} (h:n≠0):Jex 19 a n=some (a / n):=by simp [Jex,h]
set_option maxHeartbeats 16000000 in
theorem Jn5 (l:List Ins) (hok:okL l) (hR:JpI l) (b:List Nat) (hb:okB b) (hbl:b.length=64):Tells Tryz.prog 15 [Jan l,JI b] (Jkg (runI b l).1 (runI b l).2):=by
 have hf:=hR.1
 have hle:=hf.le
 have hpos:=hf.pos
 refine Jc Tryz.func15 rfl rfl fun nx=> ?_
 refine stp ?_
 refine Jr (fun y:Rn×Option Nat×Nat=> mk 207 [(0,Jan l),(1,JI b),(4, .bp (0,nx) 0),(5, .bp (1,nx+1) 0),(6,u32 y.1.a),(7,u32 y.1.x),(8, .bp (2,nx+2) 0),(9,int y.1.at')] ⟨Jxx nx (nx+1) (nx+2) y.1 y.2.1,JaH (nmN 3 y.2.1) (y.1.loads.length * 1),y.2.2,4⟩)
  (fun y=> RnI b l y.1 y.2.1) (fun y=> l.length - y.1.at') ?_ ?_
 ·exact ⟨(rn0,none,nx+3),⟨hpos,JmN,fun _=> rfl,Nat.le_refl _,Nat.le_refl _,rfl⟩,Je _ _ rfl rfl Sf .slnil ⟨rfl,OwnLe.refl _,rfl,⟨Rf,Rf,AVle.os_nil,trivial⟩,rfl,OwnLe.refl _,trivial⟩ trivial ⟨Rf,Rf,Rf,Rf,Rf,Rf,Rf,Rf,trivial⟩⟩
 ·rintro ⟨⟨at',a,x,cells,steps,loads⟩,oi,nx2⟩ hI
  obtain ⟨i1,i2,i3,i4,i5,i6⟩:=hI
  dsimp only at i1 i3 i4 i5 i6
  have ha:a < 4294967296:=i2.a
  have hx:x < 4294967296:=i2.x
  have hcl:cells.length=16:=i2.n
  have hki:(l.getD at' ins0).ok:=hok.get i1
  have hw:=hf.ok at' i1
  obtain ⟨wp1,wp2,wp3,wp4⟩:=Jbs hw
  have hof:=Jdb (l.getD at' ins0).code hki.1
  have hK29:=Jf0 (l.getD at' ins0).code
  have hw1:IntKind.i64.wrap ((at':Int)+1)=((at'+1:Nat):Int):=Jk Om
  have hw2:IntKind.i64.wrap ((steps:Int)+1)=((steps+1:Nat):Int):=Jk Om
  have hok1:Rn.ok ⟨at'+1,a,x,cells,steps+1,loads⟩:=⟨i2.a,i2.x,i2.n,i2.c⟩
  have hstep:Jda b l ⟨at',a,x,cells,steps,loads⟩=doV b (l.getD at' ins0) ⟨at'+1,a,x,cells,steps+1,loads⟩:=rfl
  have hdok:=JmO hb hki hok1
  have hdl:=JkZ (b:=b) (i:=l.getD at' ins0) (s:=⟨at'+1,a,x,cells,steps+1,loads⟩)
  have hgo:∀s',doV b (l.getD at' ins0) ⟨at'+1,a,x,cells,steps+1,loads⟩=(none,s')→∀oi':Option Nat,(oi'=none→s'.loads= [])→RnI b l s' oi'∧l.length - s'.at' < l.length - at':=fun s' hd oi' ho=> by
   rw [← hstep] at hd hdok hdl
   obtain ⟨n1,n2⟩:=Je0 hd
   obtain ⟨n3,n4⟩:=JbT hf i1 _ n1
   rw [hd] at hdok hdl
   dsimp only at n2 n3 hdl hdok
   refine ⟨⟨n4,hdok,ho,by omega,by omega, ?_⟩,by omega⟩
   rw [← i6]
   obtain ⟨m,hm⟩:∃m,l.length - at'=m+1:=⟨l.length - at' - 1,by omega⟩
   rw [hm,runV,hd]
   dsimp only
   exact (Jho hf (l.length - s'.at') m s' n4 Om Om).symm
  have hover:∀v s',doV b (l.getD at' ins0) ⟨at'+1,a,x,cells,steps+1,loads⟩=(some v,s')→runI b l=(v,s'):=fun v s' hd=> by
   rw [← hstep] at hd
   rw [← i6]
   obtain ⟨m,hm⟩:∃m,l.length - at'=m+1:=⟨l.length - at' - 1,by omega⟩
   rw [hm,runV,hd]
  clear hdok hdl
  have halt:∀s:Rn,JeR (l.getD at' ins0) s=if (kof (l.getD at' ins0).code).2 then s.x else (l.getD at' ins0).k:=fun s=> rfl
  unfold doV at hgo hover
  simp only [halt] at hgo hover
  clear halt
  have hk32:(l.getD at' ins0).k < 4294967296:=hki.2.2.2
  have hjt:(l.getD at' ins0).jt < 256:=hki.2.1
  have hjf:(l.getD at' ins0).jf < 256:=hki.2.2.1
  have wk:IntKind.i64.wrap ((l.getD at' ins0).k:Int)=((l.getD at' ins0).k:Nat):=Jq Om Om
  have wjt:IntKind.i64.wrap ((l.getD at' ins0).jt:Int)=((l.getD at' ins0).jt:Nat):=Jq Om Om
  have wjf:IntKind.i64.wrap ((l.getD at' ins0).jf:Int)=((l.getD at' ins0).jf:Nat):=Jq Om Om
  generalize (kof (l.getD at' ins0).code).1 = K at *
  generalize (kof (l.getD at' ins0).code).2 = z at *
  refine stp ?_
  intro c g1;cases c
  ·exact absurd (Jm g1) Dm
  refine stp ?_
  refine ⟨Bd, ?_⟩
  refine stp ?_
  refine Jb rfl rfl hof ⟨Rf,trivial⟩ fun nx3=> ?_
  refine stp ?_
  intro cx hx
  obtain rfl:cx=z:=hx
  refine stp ?_
  (refine Jy 6 ?_ ?_ ?_ ?_;(· kernel_rfl);(· kernel_rfl);(· kernel_rfl))
  refine stp ?_
  cases cx
  ·rcases (by omega:K=0∨K=1∨K=2∨K=3∨K=4∨K=5∨K=6∨K=7∨K=8∨K=9∨K=10∨K=11∨K=12∨K=13∨K=14∨K=15∨K=16∨K=17∨K=18∨K=19∨K=20∨K=21∨K=22∨K=23∨K=24∨K=25∨K=26∨K=27∨K=28) with rfl | rfl | rfl | rfl | rfl | rfl | rfl | rfl | rfl | rfl | rfl | rfl | rfl | rfl | rfl | rfl | rfl | rfl | rfl | rfl | rfl | rfl | rfl | rfl | rfl | rfl | rfl | rfl | rfl
   ·exact absurd rfl wp1
   ·refine stp ?_
    refine Jb rfl rfl (Jjy b hb Om (l.getD at' ins0).k Om) ⟨Rf,Jd wk,trivial⟩ fun nx4=> ?_
    rcases oi with _ | id
    ·obtain rfl:=i3 rfl
     refine stp ?_
     refine ⟨JZ rfl,by show (0+1) * 8≤_;omega,by dsimp only;omega, ?_⟩
     refine stp ?_
     exact back (⟨at'+1,JdZ b (l.getD at' ins0).k,x,cells,steps+1, []++ [(l.getD at' ins0).k]⟩,some nx4,_) (hgo _ rfl _ (fun h=> by cases h)).1 (hgo _ rfl (some nx4) (fun h=> by cases h)).2 (Je _ _ rfl rfl (.cons _ Sf) Sf ⟨rfl,OwnLe.refl _,rfl,⟨Rf,Jd hw2,JlK (l:= []) wk rfl,trivial⟩,rfl,OwnLe.refl _,trivial⟩ ⟨rfl,by rw [c3];simp,trivial⟩ ⟨Rf,Rf,Rf,Rf,Rf,Rf,Rf,Jd hw1,trivial⟩)
    ·skip
     refine stp ?_
     refine ⟨JZ rfl,by show (loads.length+1) * 8≤_;omega,by dsimp only;omega, ?_⟩
     refine stp ?_
     exact back (⟨at'+1,JdZ b (l.getD at' ins0).k,x,cells,steps+1,loads++ [(l.getD at' ins0).k]⟩,some nx4,_) (hgo _ rfl _ (fun h=> by cases h)).1 (hgo _ rfl (some nx4) (fun h=> by cases h)).2 (Je _ _ rfl rfl (.cons _ Sf) Sf ⟨rfl,OwnLe.refl _,rfl,⟨Rf,Jd hw2,JlK (l:=loads) wk rfl,trivial⟩,rfl,OwnLe.refl _,trivial⟩ ⟨rfl,by rw [c3];simp,trivial⟩ ⟨Rf,Rf,Rf,Rf,Rf,Rf,Rf,Jd hw1,trivial⟩)
   ·refine stp ?_
    exact back (⟨at'+1,(l.getD at' ins0).k,x,cells,steps+1,loads⟩,oi,_) (hgo _ rfl _ i3).1 (hgo _ rfl (oi) i3).2 (Je _ _ rfl rfl (.cons _ Sf) Sf ⟨rfl,OwnLe.refl _,rfl,⟨Rf,Jd hw2,Rf,trivial⟩,rfl,OwnLe.refl _,trivial⟩ Pf ⟨Rf,Rf,Rf,Rf,Rf,Rf,Rf,Jd hw1,trivial⟩)
   ·refine stp ?_
    have h16:(l.getD at' ins0).k < 16:=by omega
    refine ⟨⟨Int.natCast_nonneg _,Int.ofNat_lt.2 h16⟩,Jh (b:= .bp (2,nx+2) ((l.getD at' ins0).k)) (congrArg (AV.bp (2,nx+2)) (ix1 c41)) ?_⟩
    (conv=> whnf)
    refine ⟨⟨rfl,(by first | omega | (simp only [List.length_map,List.length_set,List.length_cons,List.length_nil,List.length_replicate,List.length_append];omega))⟩,Jh (b:=JL (cells.getD ((l.getD at' ins0).k) 0)) (Jce (show (l.getD at' ins0).k < cells.length by omega)) ?_⟩
    refine stp ?_
    exact back (⟨at'+1,cells.getD (l.getD at' ins0).k 0,x,cells,steps+1,loads⟩,oi,_) (hgo _ rfl _ i3).1 (hgo _ rfl (oi) i3).2 (Je _ _ rfl rfl (.cons _ Sf) Sf ⟨rfl,OwnLe.refl _,rfl,⟨Rf,Jd hw2,Rf,trivial⟩,rfl,OwnLe.refl _,trivial⟩ Pf ⟨Rf,Rf,Rf,Rf,Rf,Rf,Rf,Jd hw1,trivial⟩)
   ·refine stp ?_
    exact back (⟨at'+1,64,x,cells,steps+1,loads⟩,oi,_) (hgo _ rfl _ i3).1 (hgo _ rfl (oi) i3).2 (Je _ _ rfl rfl (.cons _ Sf) Sf ⟨rfl,OwnLe.refl _,rfl,⟨Rf,Jd hw2,Rf,trivial⟩,rfl,OwnLe.refl _,trivial⟩ Pf ⟨Rf,Rf,Rf,Rf,Rf,Rf,Rf,Jd hw1,trivial⟩)
   ·refine stp ?_
    exact back (⟨at'+1,a,(l.getD at' ins0).k,cells,steps+1,loads⟩,oi,_) (hgo _ rfl _ i3).1 (hgo _ rfl (oi) i3).2 (Je _ _ rfl rfl (.cons _ Sf) Sf ⟨rfl,OwnLe.refl _,rfl,⟨Rf,Jd hw2,Rf,trivial⟩,rfl,OwnLe.refl _,trivial⟩ Pf ⟨Rf,Rf,Rf,Rf,Rf,Rf,Rf,Jd hw1,trivial⟩)
   ·refine stp ?_
    have h16:(l.getD at' ins0).k < 16:=by omega
    refine ⟨⟨Int.natCast_nonneg _,Int.ofNat_lt.2 h16⟩,Jh (b:= .bp (2,nx+2) ((l.getD at' ins0).k)) (congrArg (AV.bp (2,nx+2)) (ix1 c41)) ?_⟩
    (conv=> whnf)
    refine ⟨⟨rfl,(by first | omega | (simp only [List.length_map,List.length_set,List.length_cons,List.length_nil,List.length_replicate,List.length_append];omega))⟩,Jh (b:=JL (cells.getD ((l.getD at' ins0).k) 0)) (Jce (show (l.getD at' ins0).k < cells.length by omega)) ?_⟩
    refine stp ?_
    exact back (⟨at'+1,a,cells.getD (l.getD at' ins0).k 0,cells,steps+1,loads⟩,oi,_) (hgo _ rfl _ i3).1 (hgo _ rfl (oi) i3).2 (Je _ _ rfl rfl (.cons _ Sf) Sf ⟨rfl,OwnLe.refl _,rfl,⟨Rf,Jd hw2,Rf,trivial⟩,rfl,OwnLe.refl _,trivial⟩ Pf ⟨Rf,Rf,Rf,Rf,Rf,Rf,Rf,Jd hw1,trivial⟩)
   ·refine stp ?_
    exact back (⟨at'+1,a,64,cells,steps+1,loads⟩,oi,_) (hgo _ rfl _ i3).1 (hgo _ rfl (oi) i3).2 (Je _ _ rfl rfl (.cons _ Sf) Sf ⟨rfl,OwnLe.refl _,rfl,⟨Rf,Jd hw2,Rf,trivial⟩,rfl,OwnLe.refl _,trivial⟩ Pf ⟨Rf,Rf,Rf,Rf,Rf,Rf,Rf,Jd hw1,trivial⟩)
   ·refine stp ?_
    have h16:(l.getD at' ins0).k < 16:=by omega
    refine ⟨⟨Int.natCast_nonneg _,Int.ofNat_lt.2 h16⟩,Jh (b:= .bp (2,nx+2) ((l.getD at' ins0).k)) (congrArg (AV.bp (2,nx+2)) (ix1 c41)) ?_⟩
    (conv=> whnf)
    refine ⟨⟨rfl,(by first | omega | (simp only [List.length_map,List.length_set,List.length_cons,List.length_nil,List.length_replicate,List.length_append];omega))⟩, ?_⟩
    rw [show JN (cells.map JL) ((l.getD at' ins0).k) [AV.v (.int .u32 (a:Nat))]=(cells.set ((l.getD at' ins0).k) (a)).map JL from JaP (f:=JL) (x:=a) (show (l.getD at' ins0).k < cells.length by omega)]
    refine stp ?_
    exact back (⟨at'+1,a,x,cells.set (l.getD at' ins0).k a,steps+1,loads⟩,oi,_) (hgo _ rfl _ i3).1 (hgo _ rfl (oi) i3).2 (Je _ _ rfl rfl (.cons _ Sf) Sf ⟨rfl,OwnLe.refl _,rfl,⟨Rf,Jd hw2,Rf,trivial⟩,rfl,OwnLe.refl _,trivial⟩ Pf ⟨Rf,Rf,Rf,Rf,Rf,Rf,Rf,Jd hw1,trivial⟩)
   ·refine stp ?_
    have h16:(l.getD at' ins0).k < 16:=by omega
    refine ⟨⟨Int.natCast_nonneg _,Int.ofNat_lt.2 h16⟩,Jh (b:= .bp (2,nx+2) ((l.getD at' ins0).k)) (congrArg (AV.bp (2,nx+2)) (ix1 c41)) ?_⟩
    (conv=> whnf)
    refine ⟨⟨rfl,(by first | omega | (simp only [List.length_map,List.length_set,List.length_cons,List.length_nil,List.length_replicate,List.length_append];omega))⟩, ?_⟩
    rw [show JN (cells.map JL) ((l.getD at' ins0).k) [AV.v (.int .u32 (x:Nat))]=(cells.set ((l.getD at' ins0).k) (x)).map JL from JaP (f:=JL) (x:=x) (show (l.getD at' ins0).k < cells.length by omega)]
    refine stp ?_
    exact back (⟨at'+1,a,x,cells.set (l.getD at' ins0).k x,steps+1,loads⟩,oi,_) (hgo _ rfl _ i3).1 (hgo _ rfl (oi) i3).2 (Je _ _ rfl rfl (.cons _ Sf) Sf ⟨rfl,OwnLe.refl _,rfl,⟨Rf,Jd hw2,Rf,trivial⟩,rfl,OwnLe.refl _,trivial⟩ Pf ⟨Rf,Rf,Rf,Rf,Rf,Rf,Rf,Jd hw1,trivial⟩)
   ·refine stp ?_
    exact back (⟨at'+1,a,a,cells,steps+1,loads⟩,oi,_) (hgo _ rfl _ i3).1 (hgo _ rfl (oi) i3).2 (Je _ _ rfl rfl (.cons _ Sf) Sf ⟨rfl,OwnLe.refl _,rfl,⟨Rf,Jd hw2,Rf,trivial⟩,rfl,OwnLe.refl _,trivial⟩ Pf ⟨Rf,Rf,Rf,Rf,Rf,Rf,Rf,Jd hw1,trivial⟩)
   ·refine stp ?_
    exact back (⟨at'+1,x,x,cells,steps+1,loads⟩,oi,_) (hgo _ rfl _ i3).1 (hgo _ rfl (oi) i3).2 (Je _ _ rfl rfl (.cons _ Sf) Sf ⟨rfl,OwnLe.refl _,rfl,⟨Rf,Jd hw2,Rf,trivial⟩,rfl,OwnLe.refl _,trivial⟩ Pf ⟨Rf,Rf,Rf,Rf,Rf,Rf,Rf,Jd hw1,trivial⟩)
   ·refine stp ?_
    exact back (⟨at'+1,(4294967296 - a) % 4294967296,x,cells,steps+1,loads⟩,oi,_) (hgo _ rfl _ i3).1 (hgo _ rfl (oi) i3).2 (Je _ _ rfl rfl (.cons _ Sf) Sf ⟨rfl,OwnLe.refl _,rfl,⟨Rf,Jd hw2,Rf,trivial⟩,rfl,OwnLe.refl _,trivial⟩ Pf ⟨Rf,Rf,Rf,Rf,Jd (Juf ha),Rf,Rf,Jd hw1,trivial⟩)
   ·refine stp ?_
    exact back (⟨at'+1+(l.getD at' ins0).k,a,x,cells,steps+1,loads⟩,oi,_) (hgo _ rfl _ i3).1 (hgo _ rfl (oi) i3).2 (Je _ _ rfl rfl (.cons _ Sf) Sf ⟨rfl,OwnLe.refl _,rfl,⟨Rf,Jd hw2,Rf,trivial⟩,rfl,OwnLe.refl _,trivial⟩ Pf ⟨Rf,Rf,Rf,Rf,Rf,Rf,Rf,Jd (Jal (n:=at') (k:=(l.getD at' ins0).k) Om),trivial⟩)
   ·rw [hover _ _ rfl]
    refine stp ?_
    refine Ji rfl ?_ ?_
    ·exact ⟨rfl,trivial⟩
    ·exact AVle.ags (cs:= [_,_,_]) ⟨Rf,Jd hw2,AVle.os_sl,trivial⟩
   ·rw [hover _ _ rfl]
    refine stp ?_
    refine Ji rfl ?_ ?_
    ·exact ⟨rfl,trivial⟩
    ·exact AVle.ags (cs:= [_,_,_]) ⟨Rf,Jd hw2,AVle.os_sl,trivial⟩
   ·refine stp ?_
    exact back (⟨at'+1,(a+(l.getD at' ins0).k) % 4294967296,x,cells,steps+1,loads⟩,oi,_) (hgo _ rfl _ i3).1 (hgo _ rfl (oi) i3).2 (Je _ _ rfl rfl (.cons _ Sf) Sf ⟨rfl,OwnLe.refl _,rfl,⟨Rf,Jd hw2,Rf,trivial⟩,rfl,OwnLe.refl _,trivial⟩ Pf ⟨Rf,Rf,Rf,Rf,Jd (JlH _ _),Rf,Rf,Jd hw1,trivial⟩)
   ·refine stp ?_
    exact back (⟨at'+1,(a+4294967296 - (l.getD at' ins0).k) % 4294967296,x,cells,steps+1,loads⟩,oi,_) (hgo _ rfl _ i3).1 (hgo _ rfl (oi) i3).2 (Je _ _ rfl rfl (.cons _ Sf) Sf ⟨rfl,OwnLe.refl _,rfl,⟨Rf,Jd hw2,Rf,trivial⟩,rfl,OwnLe.refl _,trivial⟩ Pf ⟨Rf,Rf,Rf,Rf,Jd (JpS hk32),Rf,Rf,Jd hw1,trivial⟩)
   ·refine stp ?_
    exact back (⟨at'+1,a * (l.getD at' ins0).k % 4294967296,x,cells,steps+1,loads⟩,oi,_) (hgo _ rfl _ i3).1 (hgo _ rfl (oi) i3).2 (Je _ _ rfl rfl (.cons _ Sf) Sf ⟨rfl,OwnLe.refl _,rfl,⟨Rf,Jd hw2,Rf,trivial⟩,rfl,OwnLe.refl _,trivial⟩ Pf ⟨Rf,Rf,Rf,Rf,Jd (JpT _ _),Rf,Rf,Jd hw1,trivial⟩)
   ·refine stp ?_
    intro c e0;cases c
    ·have e0:=JO.1 e0
     have e0:(l.getD at' ins0).k≠0:=fun h=> e0 (by show (((l.getD at' ins0).k:Nat):Int)=0;rw [h];rfl)
     refine stp ?_
     refine ⟨fun h=> e0 (Int.ofNat_inj.1 (show (((l.getD at' ins0).k:Nat):Int)=((0:Nat):Int) from h)), ?_⟩
     refine stp ?_
     exact back (⟨at'+1,a / (l.getD at' ins0).k,x,cells,steps+1,loads⟩,oi,_) (hgo _ (congrArg (fun o:Option Nat=> match o with | some v=> ((none:Option Nat),({ (⟨at'+1,a,x,cells,steps+1,loads⟩:Rn) with a:=v}:Rn)) | none=> (some 0,(⟨at'+1,a,x,cells,steps+1,loads⟩:Rn))) (Jjz (a:=a) e0)) _ i3).1 (hgo _ (congrArg (fun o:Option Nat=> match o with | some v=> ((none:Option Nat),({ (⟨at'+1,a,x,cells,steps+1,loads⟩:Rn) with a:=v}:Rn)) | none=> (some 0,(⟨at'+1,a,x,cells,steps+1,loads⟩:Rn))) (Jjz (a:=a) e0)) (oi) i3).2 (Je _ _ rfl rfl (.cons _ Sf) Sf ⟨rfl,OwnLe.refl _,rfl,⟨Rf,Jd hw2,Rf,trivial⟩,rfl,OwnLe.refl _,trivial⟩ Pf ⟨Rf,Rf,Rf,Rf,Jd (JlI ha),Rf,Rf,Jd hw1,trivial⟩)
    ·have e0:=JP.1 e0
     have e0:(l.getD at' ins0).k=0:=Int.ofNat_inj.1 (show (((l.getD at' ins0).k:Nat):Int)=((0:Nat):Int) from e0)
     rw [hover 0 (⟨at'+1,a,x,cells,steps+1,loads⟩:Rn) (congrArg (fun n=> match Jex 19 a n with | some v=> ((none:Option Nat),({ (⟨at'+1,a,x,cells,steps+1,loads⟩:Rn) with a:=v}:Rn)) | none=> (some 0,(⟨at'+1,a,x,cells,steps+1,loads⟩:Rn))) e0)]
     refine stp ?_
     refine Ji rfl ?_ ?_
     ·exact ⟨rfl,trivial⟩
     ·exact AVle.ags (cs:= [_,_,_]) ⟨Rf,Jd hw2,AVle.os_sl,trivial⟩
   ·refine stp ?_
    exact back (⟨at'+1,a||| (l.getD at' ins0).k,x,cells,steps+1,loads⟩,oi,_) (hgo _ rfl _ i3).1 (hgo _ rfl (oi) i3).2 (Je _ _ rfl rfl (.cons _ Sf) Sf ⟨rfl,OwnLe.refl _,rfl,⟨Rf,Jd hw2,Rf,trivial⟩,rfl,OwnLe.refl _,trivial⟩ Pf ⟨Rf,Rf,Rf,Rf,Jd (Jgx ha hk32),Rf,Rf,Jd hw1,trivial⟩)
   ·refine stp ?_
    exact back (⟨at'+1,a&&& (l.getD at' ins0).k,x,cells,steps+1,loads⟩,oi,_) (hgo _ rfl _ i3).1 (hgo _ rfl (oi) i3).2 (Je _ _ rfl rfl (.cons _ Sf) Sf ⟨rfl,OwnLe.refl _,rfl,⟨Rf,Jd hw2,Rf,trivial⟩,rfl,OwnLe.refl _,trivial⟩ Pf ⟨Rf,Rf,Rf,Rf,Jd (JcD ha hk32),Rf,Rf,Jd hw1,trivial⟩)
   ·refine stp ?_
    refine Jb rfl rfl (Jey a (l.getD at' ins0).k ha hk32 true) ⟨Rf,Rf,Rf,trivial⟩ fun nx4=> ?_
    refine stp ?_
    exact back (⟨at'+1,a * 2 ^ ((l.getD at' ins0).k % 32) % 4294967296,x,cells,steps+1,loads⟩,oi,_) (hgo _ rfl _ i3).1 (hgo _ rfl (oi) i3).2 (Je _ _ rfl rfl (.cons _ Sf) Sf ⟨rfl,OwnLe.refl _,rfl,⟨Rf,Jd hw2,Rf,trivial⟩,rfl,OwnLe.refl _,trivial⟩ Pf ⟨Rf,Rf,Rf,Rf,Rf,Rf,Rf,Jd hw1,trivial⟩)
   ·refine stp ?_
    refine Jb rfl rfl (Jey a (l.getD at' ins0).k ha hk32 false) ⟨Rf,Rf,Rf,trivial⟩ fun nx4=> ?_
    refine stp ?_
    exact back (⟨at'+1,a / 2 ^ ((l.getD at' ins0).k % 32),x,cells,steps+1,loads⟩,oi,_) (hgo _ rfl _ i3).1 (hgo _ rfl (oi) i3).2 (Je _ _ rfl rfl (.cons _ Sf) Sf ⟨rfl,OwnLe.refl _,rfl,⟨Rf,Jd hw2,Rf,trivial⟩,rfl,OwnLe.refl _,trivial⟩ Pf ⟨Rf,Rf,Rf,Rf,Rf,Rf,Rf,Jd hw1,trivial⟩)
   ·refine stp ?_
    exact back (⟨at'+1,a ^^^ (l.getD at' ins0).k,x,cells,steps+1,loads⟩,oi,_) (hgo _ rfl _ i3).1 (hgo _ rfl (oi) i3).2 (Je _ _ rfl rfl (.cons _ Sf) Sf ⟨rfl,OwnLe.refl _,rfl,⟨Rf,Jd hw2,Rf,trivial⟩,rfl,OwnLe.refl _,trivial⟩ Pf ⟨Rf,Rf,Rf,Rf,Jd (Jug ha hk32),Rf,Rf,Jd hw1,trivial⟩)
   ·refine stp ?_
    intro c e0;cases c
    ·have e0:=JO.1 e0
     have e0:¬(a=(l.getD at' ins0).k):=fun h=> e0 (by show (a:Int)=(((l.getD at' ins0).k:Nat):Int);rw [← h])
     refine stp ?_
     exact back (⟨at'+1+(l.getD at' ins0).jf,a,x,cells,steps+1,loads⟩,oi,_) (hgo _ (congrArg (fun c:Bool=> ((none:Option Nat),({ (⟨at'+1,a,x,cells,steps+1,loads⟩:Rn) with at':=at'+1+if c then (l.getD at' ins0).jt else (l.getD at' ins0).jf}:Rn))) (show JC 25 a ((l.getD at' ins0).k)=false from decide_eq_false e0)) _ i3).1 (hgo _ (congrArg (fun c:Bool=> ((none:Option Nat),({ (⟨at'+1,a,x,cells,steps+1,loads⟩:Rn) with at':=at'+1+if c then (l.getD at' ins0).jt else (l.getD at' ins0).jf}:Rn))) (show JC 25 a ((l.getD at' ins0).k)=false from decide_eq_false e0)) (oi) i3).2 (Je _ _ rfl rfl (.cons _ Sf) Sf ⟨rfl,OwnLe.refl _,rfl,⟨Rf,Jd hw2,Rf,trivial⟩,rfl,OwnLe.refl _,trivial⟩ Pf ⟨Rf,Rf,Rf,Rf,Rf,Rf,Rf,Jd (Jal (n:=at') (k:=(l.getD at' ins0).jf) Om),trivial⟩)
    ·have e0:=JP.1 e0
     have e0:(a=(l.getD at' ins0).k):=Int.ofNat_inj.1 (show (a:Int)=(((l.getD at' ins0).k:Nat):Int) from e0)
     refine stp ?_
     exact back (⟨at'+1+(l.getD at' ins0).jt,a,x,cells,steps+1,loads⟩,oi,_) (hgo _ (congrArg (fun c:Bool=> ((none:Option Nat),({ (⟨at'+1,a,x,cells,steps+1,loads⟩:Rn) with at':=at'+1+if c then (l.getD at' ins0).jt else (l.getD at' ins0).jf}:Rn))) (show JC 25 a ((l.getD at' ins0).k)=true from decide_eq_true e0)) _ i3).1 (hgo _ (congrArg (fun c:Bool=> ((none:Option Nat),({ (⟨at'+1,a,x,cells,steps+1,loads⟩:Rn) with at':=at'+1+if c then (l.getD at' ins0).jt else (l.getD at' ins0).jf}:Rn))) (show JC 25 a ((l.getD at' ins0).k)=true from decide_eq_true e0)) (oi) i3).2 (Je _ _ rfl rfl (.cons _ Sf) Sf ⟨rfl,OwnLe.refl _,rfl,⟨Rf,Jd hw2,Rf,trivial⟩,rfl,OwnLe.refl _,trivial⟩ Pf ⟨Rf,Rf,Rf,Rf,Rf,Rf,Rf,Jd (Jal (n:=at') (k:=(l.getD at' ins0).jt) Om),trivial⟩)
   ·refine stp ?_
    intro c e0;cases c
    ·have e0:=JaJ.1 e0
     have e0:¬(a > (l.getD at' ins0).k):=fun h=> e0 (show (((l.getD at' ins0).k:Nat):Int) < (a:Int) from Int.ofNat_lt.2 h)
     refine stp ?_
     exact back (⟨at'+1+(l.getD at' ins0).jf,a,x,cells,steps+1,loads⟩,oi,_) (hgo _ (congrArg (fun c:Bool=> ((none:Option Nat),({ (⟨at'+1,a,x,cells,steps+1,loads⟩:Rn) with at':=at'+1+if c then (l.getD at' ins0).jt else (l.getD at' ins0).jf}:Rn))) (show JC 26 a ((l.getD at' ins0).k)=false from decide_eq_false e0)) _ i3).1 (hgo _ (congrArg (fun c:Bool=> ((none:Option Nat),({ (⟨at'+1,a,x,cells,steps+1,loads⟩:Rn) with at':=at'+1+if c then (l.getD at' ins0).jt else (l.getD at' ins0).jf}:Rn))) (show JC 26 a ((l.getD at' ins0).k)=false from decide_eq_false e0)) (oi) i3).2 (Je _ _ rfl rfl (.cons _ Sf) Sf ⟨rfl,OwnLe.refl _,rfl,⟨Rf,Jd hw2,Rf,trivial⟩,rfl,OwnLe.refl _,trivial⟩ Pf ⟨Rf,Rf,Rf,Rf,Rf,Rf,Rf,Jd (Jal (n:=at') (k:=(l.getD at' ins0).jf) Om),trivial⟩)
    ·have e0:=JaK.1 e0
     have e0:(a > (l.getD at' ins0).k):=Int.ofNat_lt.1 (show (((l.getD at' ins0).k:Nat):Int) < (a:Int) from e0)
     refine stp ?_
     exact back (⟨at'+1+(l.getD at' ins0).jt,a,x,cells,steps+1,loads⟩,oi,_) (hgo _ (congrArg (fun c:Bool=> ((none:Option Nat),({ (⟨at'+1,a,x,cells,steps+1,loads⟩:Rn) with at':=at'+1+if c then (l.getD at' ins0).jt else (l.getD at' ins0).jf}:Rn))) (show JC 26 a ((l.getD at' ins0).k)=true from decide_eq_true e0)) _ i3).1 (hgo _ (congrArg (fun c:Bool=> ((none:Option Nat),({ (⟨at'+1,a,x,cells,steps+1,loads⟩:Rn) with at':=at'+1+if c then (l.getD at' ins0).jt else (l.getD at' ins0).jf}:Rn))) (show JC 26 a ((l.getD at' ins0).k)=true from decide_eq_true e0)) (oi) i3).2 (Je _ _ rfl rfl (.cons _ Sf) Sf ⟨rfl,OwnLe.refl _,rfl,⟨Rf,Jd hw2,Rf,trivial⟩,rfl,OwnLe.refl _,trivial⟩ Pf ⟨Rf,Rf,Rf,Rf,Rf,Rf,Rf,Jd (Jal (n:=at') (k:=(l.getD at' ins0).jt) Om),trivial⟩)
   ·refine stp ?_
    intro c e0;cases c
    ·have e0:=JaJ.1 e0
     have e0:¬(a≥(l.getD at' ins0).k):=fun h=> e0 (show (((l.getD at' ins0).k:Nat):Int)≤(a:Int) from Int.ofNat_le.2 h)
     refine stp ?_
     exact back (⟨at'+1+(l.getD at' ins0).jf,a,x,cells,steps+1,loads⟩,oi,_) (hgo _ (congrArg (fun c:Bool=> ((none:Option Nat),({ (⟨at'+1,a,x,cells,steps+1,loads⟩:Rn) with at':=at'+1+if c then (l.getD at' ins0).jt else (l.getD at' ins0).jf}:Rn))) (show JC 27 a ((l.getD at' ins0).k)=false from decide_eq_false e0)) _ i3).1 (hgo _ (congrArg (fun c:Bool=> ((none:Option Nat),({ (⟨at'+1,a,x,cells,steps+1,loads⟩:Rn) with at':=at'+1+if c then (l.getD at' ins0).jt else (l.getD at' ins0).jf}:Rn))) (show JC 27 a ((l.getD at' ins0).k)=false from decide_eq_false e0)) (oi) i3).2 (Je _ _ rfl rfl (.cons _ Sf) Sf ⟨rfl,OwnLe.refl _,rfl,⟨Rf,Jd hw2,Rf,trivial⟩,rfl,OwnLe.refl _,trivial⟩ Pf ⟨Rf,Rf,Rf,Rf,Rf,Rf,Rf,Jd (Jal (n:=at') (k:=(l.getD at' ins0).jf) Om),trivial⟩)
    ·have e0:=JaK.1 e0
     have e0:(a≥(l.getD at' ins0).k):=Int.ofNat_le.1 (show (((l.getD at' ins0).k:Nat):Int)≤(a:Int) from e0)
     refine stp ?_
     exact back (⟨at'+1+(l.getD at' ins0).jt,a,x,cells,steps+1,loads⟩,oi,_) (hgo _ (congrArg (fun c:Bool=> ((none:Option Nat),({ (⟨at'+1,a,x,cells,steps+1,loads⟩:Rn) with at':=at'+1+if c then (l.getD at' ins0).jt else (l.getD at' ins0).jf}:Rn))) (show JC 27 a ((l.getD at' ins0).k)=true from decide_eq_true e0)) _ i3).1 (hgo _ (congrArg (fun c:Bool=> ((none:Option Nat),({ (⟨at'+1,a,x,cells,steps+1,loads⟩:Rn) with at':=at'+1+if c then (l.getD at' ins0).jt else (l.getD at' ins0).jf}:Rn))) (show JC 27 a ((l.getD at' ins0).k)=true from decide_eq_true e0)) (oi) i3).2 (Je _ _ rfl rfl (.cons _ Sf) Sf ⟨rfl,OwnLe.refl _,rfl,⟨Rf,Jd hw2,Rf,trivial⟩,rfl,OwnLe.refl _,trivial⟩ Pf ⟨Rf,Rf,Rf,Rf,Rf,Rf,Rf,Jd (Jal (n:=at') (k:=(l.getD at' ins0).jt) Om),trivial⟩)
   ·refine stp ?_
    intro c e0;cases c
    ·have e0:=Jbd.1 e0
     have e1:JU .and .u32 (a:Int) ((l.getD at' ins0).k:Int)=((a&&& (l.getD at' ins0).k:Nat):Int):=JcD ha hk32
     have e0:¬(a&&& (l.getD at' ins0).k≠0):=fun h=> h (Int.ofNat_inj.1 (e1.symm.trans e0))
     refine stp ?_
     exact back (⟨at'+1+(l.getD at' ins0).jf,a,x,cells,steps+1,loads⟩,oi,_) (hgo _ (congrArg (fun c:Bool=> ((none:Option Nat),({ (⟨at'+1,a,x,cells,steps+1,loads⟩:Rn) with at':=at'+1+if c then (l.getD at' ins0).jt else (l.getD at' ins0).jf}:Rn))) (show JC 28 a ((l.getD at' ins0).k)=false from decide_eq_false e0)) _ i3).1 (hgo _ (congrArg (fun c:Bool=> ((none:Option Nat),({ (⟨at'+1,a,x,cells,steps+1,loads⟩:Rn) with at':=at'+1+if c then (l.getD at' ins0).jt else (l.getD at' ins0).jf}:Rn))) (show JC 28 a ((l.getD at' ins0).k)=false from decide_eq_false e0)) (oi) i3).2 (Je _ _ rfl rfl (.cons _ Sf) Sf ⟨rfl,OwnLe.refl _,rfl,⟨Rf,Jd hw2,Rf,trivial⟩,rfl,OwnLe.refl _,trivial⟩ Pf ⟨Rf,Rf,Rf,Rf,Rf,Rf,Rf,Jd (Jal (n:=at') (k:=(l.getD at' ins0).jf) Om),trivial⟩)
    ·have e0:=Jbe.1 e0
     have e1:JU .and .u32 (a:Int) ((l.getD at' ins0).k:Int)=((a&&& (l.getD at' ins0).k:Nat):Int):=JcD ha hk32
     have e0:(a&&& (l.getD at' ins0).k≠0):=fun h=> e0 (e1.trans (by rw [h];rfl))
     refine stp ?_
     exact back (⟨at'+1+(l.getD at' ins0).jt,a,x,cells,steps+1,loads⟩,oi,_) (hgo _ (congrArg (fun c:Bool=> ((none:Option Nat),({ (⟨at'+1,a,x,cells,steps+1,loads⟩:Rn) with at':=at'+1+if c then (l.getD at' ins0).jt else (l.getD at' ins0).jf}:Rn))) (show JC 28 a ((l.getD at' ins0).k)=true from decide_eq_true e0)) _ i3).1 (hgo _ (congrArg (fun c:Bool=> ((none:Option Nat),({ (⟨at'+1,a,x,cells,steps+1,loads⟩:Rn) with at':=at'+1+if c then (l.getD at' ins0).jt else (l.getD at' ins0).jf}:Rn))) (show JC 28 a ((l.getD at' ins0).k)=true from decide_eq_true e0)) (oi) i3).2 (Je _ _ rfl rfl (.cons _ Sf) Sf ⟨rfl,OwnLe.refl _,rfl,⟨Rf,Jd hw2,Rf,trivial⟩,rfl,OwnLe.refl _,trivial⟩ Pf ⟨Rf,Rf,Rf,Rf,Rf,Rf,Rf,Jd (Jal (n:=at') (k:=(l.getD at' ins0).jt) Om),trivial⟩)
  ·rcases (by omega:K=0∨K=1∨K=2∨K=3∨K=4∨K=5∨K=6∨K=7∨K=8∨K=9∨K=10∨K=11∨K=12∨K=13∨K=14∨K=15∨K=16∨K=17∨K=18∨K=19∨K=20∨K=21∨K=22∨K=23∨K=24∨K=25∨K=26∨K=27∨K=28) with rfl | rfl | rfl | rfl | rfl | rfl | rfl | rfl | rfl | rfl | rfl | rfl | rfl | rfl | rfl | rfl | rfl | rfl | rfl | rfl | rfl | rfl | rfl | rfl | rfl | rfl | rfl | rfl | rfl
   ·exact absurd rfl wp1
   ·refine stp ?_
    refine Jb rfl rfl (Jjy b hb Om (l.getD at' ins0).k Om) ⟨Rf,Jd wk,trivial⟩ fun nx4=> ?_
    rcases oi with _ | id
    ·obtain rfl:=i3 rfl
     refine stp ?_
     refine ⟨JZ rfl,by show (0+1) * 8≤_;omega,by dsimp only;omega, ?_⟩
     refine stp ?_
     exact back (⟨at'+1,JdZ b (l.getD at' ins0).k,x,cells,steps+1, []++ [(l.getD at' ins0).k]⟩,some nx4,_) (hgo _ rfl _ (fun h=> by cases h)).1 (hgo _ rfl (some nx4) (fun h=> by cases h)).2 (Je _ _ rfl rfl (.cons _ Sf) Sf ⟨rfl,OwnLe.refl _,rfl,⟨Rf,Jd hw2,JlK (l:= []) wk rfl,trivial⟩,rfl,OwnLe.refl _,trivial⟩ ⟨rfl,by rw [c3];simp,trivial⟩ ⟨Rf,Rf,Rf,Rf,Rf,Rf,Rf,Jd hw1,trivial⟩)
    ·skip
     refine stp ?_
     refine ⟨JZ rfl,by show (loads.length+1) * 8≤_;omega,by dsimp only;omega, ?_⟩
     refine stp ?_
     exact back (⟨at'+1,JdZ b (l.getD at' ins0).k,x,cells,steps+1,loads++ [(l.getD at' ins0).k]⟩,some nx4,_) (hgo _ rfl _ (fun h=> by cases h)).1 (hgo _ rfl (some nx4) (fun h=> by cases h)).2 (Je _ _ rfl rfl (.cons _ Sf) Sf ⟨rfl,OwnLe.refl _,rfl,⟨Rf,Jd hw2,JlK (l:=loads) wk rfl,trivial⟩,rfl,OwnLe.refl _,trivial⟩ ⟨rfl,by rw [c3];simp,trivial⟩ ⟨Rf,Rf,Rf,Rf,Rf,Rf,Rf,Jd hw1,trivial⟩)
   ·refine stp ?_
    exact back (⟨at'+1,(l.getD at' ins0).k,x,cells,steps+1,loads⟩,oi,_) (hgo _ rfl _ i3).1 (hgo _ rfl (oi) i3).2 (Je _ _ rfl rfl (.cons _ Sf) Sf ⟨rfl,OwnLe.refl _,rfl,⟨Rf,Jd hw2,Rf,trivial⟩,rfl,OwnLe.refl _,trivial⟩ Pf ⟨Rf,Rf,Rf,Rf,Rf,Rf,Rf,Jd hw1,trivial⟩)
   ·refine stp ?_
    have h16:(l.getD at' ins0).k < 16:=by omega
    refine ⟨⟨Int.natCast_nonneg _,Int.ofNat_lt.2 h16⟩,Jh (b:= .bp (2,nx+2) ((l.getD at' ins0).k)) (congrArg (AV.bp (2,nx+2)) (ix1 c41)) ?_⟩
    (conv=> whnf)
    refine ⟨⟨rfl,(by first | omega | (simp only [List.length_map,List.length_set,List.length_cons,List.length_nil,List.length_replicate,List.length_append];omega))⟩,Jh (b:=JL (cells.getD ((l.getD at' ins0).k) 0)) (Jce (show (l.getD at' ins0).k < cells.length by omega)) ?_⟩
    refine stp ?_
    exact back (⟨at'+1,cells.getD (l.getD at' ins0).k 0,x,cells,steps+1,loads⟩,oi,_) (hgo _ rfl _ i3).1 (hgo _ rfl (oi) i3).2 (Je _ _ rfl rfl (.cons _ Sf) Sf ⟨rfl,OwnLe.refl _,rfl,⟨Rf,Jd hw2,Rf,trivial⟩,rfl,OwnLe.refl _,trivial⟩ Pf ⟨Rf,Rf,Rf,Rf,Rf,Rf,Rf,Jd hw1,trivial⟩)
   ·refine stp ?_
    exact back (⟨at'+1,64,x,cells,steps+1,loads⟩,oi,_) (hgo _ rfl _ i3).1 (hgo _ rfl (oi) i3).2 (Je _ _ rfl rfl (.cons _ Sf) Sf ⟨rfl,OwnLe.refl _,rfl,⟨Rf,Jd hw2,Rf,trivial⟩,rfl,OwnLe.refl _,trivial⟩ Pf ⟨Rf,Rf,Rf,Rf,Rf,Rf,Rf,Jd hw1,trivial⟩)
   ·refine stp ?_
    exact back (⟨at'+1,a,(l.getD at' ins0).k,cells,steps+1,loads⟩,oi,_) (hgo _ rfl _ i3).1 (hgo _ rfl (oi) i3).2 (Je _ _ rfl rfl (.cons _ Sf) Sf ⟨rfl,OwnLe.refl _,rfl,⟨Rf,Jd hw2,Rf,trivial⟩,rfl,OwnLe.refl _,trivial⟩ Pf ⟨Rf,Rf,Rf,Rf,Rf,Rf,Rf,Jd hw1,trivial⟩)
   ·refine stp ?_
    have h16:(l.getD at' ins0).k < 16:=by omega
    refine ⟨⟨Int.natCast_nonneg _,Int.ofNat_lt.2 h16⟩,Jh (b:= .bp (2,nx+2) ((l.getD at' ins0).k)) (congrArg (AV.bp (2,nx+2)) (ix1 c41)) ?_⟩
    (conv=> whnf)
    refine ⟨⟨rfl,(by first | omega | (simp only [List.length_map,List.length_set,List.length_cons,List.length_nil,List.length_replicate,List.length_append];omega))⟩,Jh (b:=JL (cells.getD ((l.getD at' ins0).k) 0)) (Jce (show (l.getD at' ins0).k < cells.length by omega)) ?_⟩
    refine stp ?_
    exact back (⟨at'+1,a,cells.getD (l.getD at' ins0).k 0,cells,steps+1,loads⟩,oi,_) (hgo _ rfl _ i3).1 (hgo _ rfl (oi) i3).2 (Je _ _ rfl rfl (.cons _ Sf) Sf ⟨rfl,OwnLe.refl _,rfl,⟨Rf,Jd hw2,Rf,trivial⟩,rfl,OwnLe.refl _,trivial⟩ Pf ⟨Rf,Rf,Rf,Rf,Rf,Rf,Rf,Jd hw1,trivial⟩)
   ·refine stp ?_
    exact back (⟨at'+1,a,64,cells,steps+1,loads⟩,oi,_) (hgo _ rfl _ i3).1 (hgo _ rfl (oi) i3).2 (Je _ _ rfl rfl (.cons _ Sf) Sf ⟨rfl,OwnLe.refl _,rfl,⟨Rf,Jd hw2,Rf,trivial⟩,rfl,OwnLe.refl _,trivial⟩ Pf ⟨Rf,Rf,Rf,Rf,Rf,Rf,Rf,Jd hw1,trivial⟩)
   ·refine stp ?_
    have h16:(l.getD at' ins0).k < 16:=by omega
    refine ⟨⟨Int.natCast_nonneg _,Int.ofNat_lt.2 h16⟩,Jh (b:= .bp (2,nx+2) ((l.getD at' ins0).k)) (congrArg (AV.bp (2,nx+2)) (ix1 c41)) ?_⟩
    (conv=> whnf)
    refine ⟨⟨rfl,(by first | omega | (simp only [List.length_map,List.length_set,List.length_cons,List.length_nil,List.length_replicate,List.length_append];omega))⟩, ?_⟩
    rw [show JN (cells.map JL) ((l.getD at' ins0).k) [AV.v (.int .u32 (a:Nat))]=(cells.set ((l.getD at' ins0).k) (a)).map JL from JaP (f:=JL) (x:=a) (show (l.getD at' ins0).k < cells.length by omega)]
    refine stp ?_
    exact back (⟨at'+1,a,x,cells.set (l.getD at' ins0).k a,steps+1,loads⟩,oi,_) (hgo _ rfl _ i3).1 (hgo _ rfl (oi) i3).2 (Je _ _ rfl rfl (.cons _ Sf) Sf ⟨rfl,OwnLe.refl _,rfl,⟨Rf,Jd hw2,Rf,trivial⟩,rfl,OwnLe.refl _,trivial⟩ Pf ⟨Rf,Rf,Rf,Rf,Rf,Rf,Rf,Jd hw1,trivial⟩)
   ·refine stp ?_
    have h16:(l.getD at' ins0).k < 16:=by omega
    refine ⟨⟨Int.natCast_nonneg _,Int.ofNat_lt.2 h16⟩,Jh (b:= .bp (2,nx+2) ((l.getD at' ins0).k)) (congrArg (AV.bp (2,nx+2)) (ix1 c41)) ?_⟩
    (conv=> whnf)
    refine ⟨⟨rfl,(by first | omega | (simp only [List.length_map,List.length_set,List.length_cons,List.length_nil,List.length_replicate,List.length_append];omega))⟩, ?_⟩
    rw [show JN (cells.map JL) ((l.getD at' ins0).k) [AV.v (.int .u32 (x:Nat))]=(cells.set ((l.getD at' ins0).k) (x)).map JL from JaP (f:=JL) (x:=x) (show (l.getD at' ins0).k < cells.length by omega)]
    refine stp ?_
    exact back (⟨at'+1,a,x,cells.set (l.getD at' ins0).k x,steps+1,loads⟩,oi,_) (hgo _ rfl _ i3).1 (hgo _ rfl (oi) i3).2 (Je _ _ rfl rfl (.cons _ Sf) Sf ⟨rfl,OwnLe.refl _,rfl,⟨Rf,Jd hw2,Rf,trivial⟩,rfl,OwnLe.refl _,trivial⟩ Pf ⟨Rf,Rf,Rf,Rf,Rf,Rf,Rf,Jd hw1,trivial⟩)
   ·refine stp ?_
    exact back (⟨at'+1,a,a,cells,steps+1,loads⟩,oi,_) (hgo _ rfl _ i3).1 (hgo _ rfl (oi) i3).2 (Je _ _ rfl rfl (.cons _ Sf) Sf ⟨rfl,OwnLe.refl _,rfl,⟨Rf,Jd hw2,Rf,trivial⟩,rfl,OwnLe.refl _,trivial⟩ Pf ⟨Rf,Rf,Rf,Rf,Rf,Rf,Rf,Jd hw1,trivial⟩)
   ·refine stp ?_
    exact back (⟨at'+1,x,x,cells,steps+1,loads⟩,oi,_) (hgo _ rfl _ i3).1 (hgo _ rfl (oi) i3).2 (Je _ _ rfl rfl (.cons _ Sf) Sf ⟨rfl,OwnLe.refl _,rfl,⟨Rf,Jd hw2,Rf,trivial⟩,rfl,OwnLe.refl _,trivial⟩ Pf ⟨Rf,Rf,Rf,Rf,Rf,Rf,Rf,Jd hw1,trivial⟩)
   ·refine stp ?_
    exact back (⟨at'+1,(4294967296 - a) % 4294967296,x,cells,steps+1,loads⟩,oi,_) (hgo _ rfl _ i3).1 (hgo _ rfl (oi) i3).2 (Je _ _ rfl rfl (.cons _ Sf) Sf ⟨rfl,OwnLe.refl _,rfl,⟨Rf,Jd hw2,Rf,trivial⟩,rfl,OwnLe.refl _,trivial⟩ Pf ⟨Rf,Rf,Rf,Rf,Jd (Juf ha),Rf,Rf,Jd hw1,trivial⟩)
   ·refine stp ?_
    exact back (⟨at'+1+(l.getD at' ins0).k,a,x,cells,steps+1,loads⟩,oi,_) (hgo _ rfl _ i3).1 (hgo _ rfl (oi) i3).2 (Je _ _ rfl rfl (.cons _ Sf) Sf ⟨rfl,OwnLe.refl _,rfl,⟨Rf,Jd hw2,Rf,trivial⟩,rfl,OwnLe.refl _,trivial⟩ Pf ⟨Rf,Rf,Rf,Rf,Rf,Rf,Rf,Jd (Jal (n:=at') (k:=(l.getD at' ins0).k) Om),trivial⟩)
   ·rw [hover _ _ rfl]
    refine stp ?_
    refine Ji rfl ?_ ?_
    ·exact ⟨rfl,trivial⟩
    ·exact AVle.ags (cs:= [_,_,_]) ⟨Rf,Jd hw2,AVle.os_sl,trivial⟩
   ·rw [hover _ _ rfl]
    refine stp ?_
    refine Ji rfl ?_ ?_
    ·exact ⟨rfl,trivial⟩
    ·exact AVle.ags (cs:= [_,_,_]) ⟨Rf,Jd hw2,AVle.os_sl,trivial⟩
   ·refine stp ?_
    exact back (⟨at'+1,(a+x) % 4294967296,x,cells,steps+1,loads⟩,oi,_) (hgo _ rfl _ i3).1 (hgo _ rfl (oi) i3).2 (Je _ _ rfl rfl (.cons _ Sf) Sf ⟨rfl,OwnLe.refl _,rfl,⟨Rf,Jd hw2,Rf,trivial⟩,rfl,OwnLe.refl _,trivial⟩ Pf ⟨Rf,Rf,Rf,Rf,Jd (JlH _ _),Rf,Rf,Jd hw1,trivial⟩)
   ·refine stp ?_
    exact back (⟨at'+1,(a+4294967296 - x) % 4294967296,x,cells,steps+1,loads⟩,oi,_) (hgo _ rfl _ i3).1 (hgo _ rfl (oi) i3).2 (Je _ _ rfl rfl (.cons _ Sf) Sf ⟨rfl,OwnLe.refl _,rfl,⟨Rf,Jd hw2,Rf,trivial⟩,rfl,OwnLe.refl _,trivial⟩ Pf ⟨Rf,Rf,Rf,Rf,Jd (JpS hx),Rf,Rf,Jd hw1,trivial⟩)
   ·refine stp ?_
    exact back (⟨at'+1,a * x % 4294967296,x,cells,steps+1,loads⟩,oi,_) (hgo _ rfl _ i3).1 (hgo _ rfl (oi) i3).2 (Je _ _ rfl rfl (.cons _ Sf) Sf ⟨rfl,OwnLe.refl _,rfl,⟨Rf,Jd hw2,Rf,trivial⟩,rfl,OwnLe.refl _,trivial⟩ Pf ⟨Rf,Rf,Rf,Rf,Jd (JpT _ _),Rf,Rf,Jd hw1,trivial⟩)
   ·refine stp ?_
    intro c e0;cases c
    ·have e0:=JO.1 e0
     have e0:x≠0:=fun h=> e0 (by show ((x:Nat):Int)=0;rw [h];rfl)
     refine stp ?_
     refine ⟨fun h=> e0 (Int.ofNat_inj.1 (show ((x:Nat):Int)=((0:Nat):Int) from h)), ?_⟩
     refine stp ?_
     exact back (⟨at'+1,a / x,x,cells,steps+1,loads⟩,oi,_) (hgo _ (congrArg (fun o:Option Nat=> match o with | some v=> ((none:Option Nat),({ (⟨at'+1,a,x,cells,steps+1,loads⟩:Rn) with a:=v}:Rn)) | none=> (some 0,(⟨at'+1,a,x,cells,steps+1,loads⟩:Rn))) (Jjz (a:=a) e0)) _ i3).1 (hgo _ (congrArg (fun o:Option Nat=> match o with | some v=> ((none:Option Nat),({ (⟨at'+1,a,x,cells,steps+1,loads⟩:Rn) with a:=v}:Rn)) | none=> (some 0,(⟨at'+1,a,x,cells,steps+1,loads⟩:Rn))) (Jjz (a:=a) e0)) (oi) i3).2 (Je _ _ rfl rfl (.cons _ Sf) Sf ⟨rfl,OwnLe.refl _,rfl,⟨Rf,Jd hw2,Rf,trivial⟩,rfl,OwnLe.refl _,trivial⟩ Pf ⟨Rf,Rf,Rf,Rf,Jd (JlI ha),Rf,Rf,Jd hw1,trivial⟩)
    ·have e0:=JP.1 e0
     have e0:x=0:=Int.ofNat_inj.1 (show ((x:Nat):Int)=((0:Nat):Int) from e0)
     rw [hover 0 (⟨at'+1,a,x,cells,steps+1,loads⟩:Rn) (congrArg (fun n=> match Jex 19 a n with | some v=> ((none:Option Nat),({ (⟨at'+1,a,x,cells,steps+1,loads⟩:Rn) with a:=v}:Rn)) | none=> (some 0,(⟨at'+1,a,x,cells,steps+1,loads⟩:Rn))) e0)]
     refine stp ?_
     refine Ji rfl ?_ ?_
     ·exact ⟨rfl,trivial⟩
     ·exact AVle.ags (cs:= [_,_,_]) ⟨Rf,Jd hw2,AVle.os_sl,trivial⟩
   ·refine stp ?_
    exact back (⟨at'+1,a||| x,x,cells,steps+1,loads⟩,oi,_) (hgo _ rfl _ i3).1 (hgo _ rfl (oi) i3).2 (Je _ _ rfl rfl (.cons _ Sf) Sf ⟨rfl,OwnLe.refl _,rfl,⟨Rf,Jd hw2,Rf,trivial⟩,rfl,OwnLe.refl _,trivial⟩ Pf ⟨Rf,Rf,Rf,Rf,Jd (Jgx ha hx),Rf,Rf,Jd hw1,trivial⟩)
   ·refine stp ?_
    exact back (⟨at'+1,a&&& x,x,cells,steps+1,loads⟩,oi,_) (hgo _ rfl _ i3).1 (hgo _ rfl (oi) i3).2 (Je _ _ rfl rfl (.cons _ Sf) Sf ⟨rfl,OwnLe.refl _,rfl,⟨Rf,Jd hw2,Rf,trivial⟩,rfl,OwnLe.refl _,trivial⟩ Pf ⟨Rf,Rf,Rf,Rf,Jd (JcD ha hx),Rf,Rf,Jd hw1,trivial⟩)
   ·refine stp ?_
    refine Jb rfl rfl (Jey a x ha hx true) ⟨Rf,Rf,Rf,trivial⟩ fun nx4=> ?_
    refine stp ?_
    exact back (⟨at'+1,a * 2 ^ (x % 32) % 4294967296,x,cells,steps+1,loads⟩,oi,_) (hgo _ rfl _ i3).1 (hgo _ rfl (oi) i3).2 (Je _ _ rfl rfl (.cons _ Sf) Sf ⟨rfl,OwnLe.refl _,rfl,⟨Rf,Jd hw2,Rf,trivial⟩,rfl,OwnLe.refl _,trivial⟩ Pf ⟨Rf,Rf,Rf,Rf,Rf,Rf,Rf,Jd hw1,trivial⟩)
   ·refine stp ?_
    refine Jb rfl rfl (Jey a x ha hx false) ⟨Rf,Rf,Rf,trivial⟩ fun nx4=> ?_
    refine stp ?_
    exact back (⟨at'+1,a / 2 ^ (x % 32),x,cells,steps+1,loads⟩,oi,_) (hgo _ rfl _ i3).1 (hgo _ rfl (oi) i3).2 (Je _ _ rfl rfl (.cons _ Sf) Sf ⟨rfl,OwnLe.refl _,rfl,⟨Rf,Jd hw2,Rf,trivial⟩,rfl,OwnLe.refl _,trivial⟩ Pf ⟨Rf,Rf,Rf,Rf,Rf,Rf,Rf,Jd hw1,trivial⟩)
   ·refine stp ?_
    exact back (⟨at'+1,a ^^^ x,x,cells,steps+1,loads⟩,oi,_) (hgo _ rfl _ i3).1 (hgo _ rfl (oi) i3).2 (Je _ _ rfl rfl (.cons _ Sf) Sf ⟨rfl,OwnLe.refl _,rfl,⟨Rf,Jd hw2,Rf,trivial⟩,rfl,OwnLe.refl _,trivial⟩ Pf ⟨Rf,Rf,Rf,Rf,Jd (Jug ha hx),Rf,Rf,Jd hw1,trivial⟩)
   ·refine stp ?_
    intro c e0;cases c
    ·have e0:=JO.1 e0
     have e0:¬(a=x):=fun h=> e0 (by show (a:Int)=((x:Nat):Int);rw [← h])
     refine stp ?_
     exact back (⟨at'+1+(l.getD at' ins0).jf,a,x,cells,steps+1,loads⟩,oi,_) (hgo _ (congrArg (fun c:Bool=> ((none:Option Nat),({ (⟨at'+1,a,x,cells,steps+1,loads⟩:Rn) with at':=at'+1+if c then (l.getD at' ins0).jt else (l.getD at' ins0).jf}:Rn))) (show JC 25 a (x)=false from decide_eq_false e0)) _ i3).1 (hgo _ (congrArg (fun c:Bool=> ((none:Option Nat),({ (⟨at'+1,a,x,cells,steps+1,loads⟩:Rn) with at':=at'+1+if c then (l.getD at' ins0).jt else (l.getD at' ins0).jf}:Rn))) (show JC 25 a (x)=false from decide_eq_false e0)) (oi) i3).2 (Je _ _ rfl rfl (.cons _ Sf) Sf ⟨rfl,OwnLe.refl _,rfl,⟨Rf,Jd hw2,Rf,trivial⟩,rfl,OwnLe.refl _,trivial⟩ Pf ⟨Rf,Rf,Rf,Rf,Rf,Rf,Rf,Jd (Jal (n:=at') (k:=(l.getD at' ins0).jf) Om),trivial⟩)
    ·have e0:=JP.1 e0
     have e0:(a=x):=Int.ofNat_inj.1 (show (a:Int)=((x:Nat):Int) from e0)
     refine stp ?_
     exact back (⟨at'+1+(l.getD at' ins0).jt,a,x,cells,steps+1,loads⟩,oi,_) (hgo _ (congrArg (fun c:Bool=> ((none:Option Nat),({ (⟨at'+1,a,x,cells,steps+1,loads⟩:Rn) with at':=at'+1+if c then (l.getD at' ins0).jt else (l.getD at' ins0).jf}:Rn))) (show JC 25 a (x)=true from decide_eq_true e0)) _ i3).1 (hgo _ (congrArg (fun c:Bool=> ((none:Option Nat),({ (⟨at'+1,a,x,cells,steps+1,loads⟩:Rn) with at':=at'+1+if c then (l.getD at' ins0).jt else (l.getD at' ins0).jf}:Rn))) (show JC 25 a (x)=true from decide_eq_true e0)) (oi) i3).2 (Je _ _ rfl rfl (.cons _ Sf) Sf ⟨rfl,OwnLe.refl _,rfl,⟨Rf,Jd hw2,Rf,trivial⟩,rfl,OwnLe.refl _,trivial⟩ Pf ⟨Rf,Rf,Rf,Rf,Rf,Rf,Rf,Jd (Jal (n:=at') (k:=(l.getD at' ins0).jt) Om),trivial⟩)
   ·refine stp ?_
    intro c e0;cases c
    ·have e0:=JaJ.1 e0
     have e0:¬(a > x):=fun h=> e0 (show ((x:Nat):Int) < (a:Int) from Int.ofNat_lt.2 h)
     refine stp ?_
     exact back (⟨at'+1+(l.getD at' ins0).jf,a,x,cells,steps+1,loads⟩,oi,_) (hgo _ (congrArg (fun c:Bool=> ((none:Option Nat),({ (⟨at'+1,a,x,cells,steps+1,loads⟩:Rn) with at':=at'+1+if c then (l.getD at' ins0).jt else (l.getD at' ins0).jf}:Rn))) (show JC 26 a (x)=false from decide_eq_false e0)) _ i3).1 (hgo _ (congrArg (fun c:Bool=> ((none:Option Nat),({ (⟨at'+1,a,x,cells,steps+1,loads⟩:Rn) with at':=at'+1+if c then (l.getD at' ins0).jt else (l.getD at' ins0).jf}:Rn))) (show JC 26 a (x)=false from decide_eq_false e0)) (oi) i3).2 (Je _ _ rfl rfl (.cons _ Sf) Sf ⟨rfl,OwnLe.refl _,rfl,⟨Rf,Jd hw2,Rf,trivial⟩,rfl,OwnLe.refl _,trivial⟩ Pf ⟨Rf,Rf,Rf,Rf,Rf,Rf,Rf,Jd (Jal (n:=at') (k:=(l.getD at' ins0).jf) Om),trivial⟩)
    ·have e0:=JaK.1 e0
     have e0:(a > x):=Int.ofNat_lt.1 (show ((x:Nat):Int) < (a:Int) from e0)
     refine stp ?_
     exact back (⟨at'+1+(l.getD at' ins0).jt,a,x,cells,steps+1,loads⟩,oi,_) (hgo _ (congrArg (fun c:Bool=> ((none:Option Nat),({ (⟨at'+1,a,x,cells,steps+1,loads⟩:Rn) with at':=at'+1+if c then (l.getD at' ins0).jt else (l.getD at' ins0).jf}:Rn))) (show JC 26 a (x)=true from decide_eq_true e0)) _ i3).1 (hgo _ (congrArg (fun c:Bool=> ((none:Option Nat),({ (⟨at'+1,a,x,cells,steps+1,loads⟩:Rn) with at':=at'+1+if c then (l.getD at' ins0).jt else (l.getD at' ins0).jf}:Rn))) (show JC 26 a (x)=true from decide_eq_true e0)) (oi) i3).2 (Je _ _ rfl rfl (.cons _ Sf) Sf ⟨rfl,OwnLe.refl _,rfl,⟨Rf,Jd hw2,Rf,trivial⟩,rfl,OwnLe.refl _,trivial⟩ Pf ⟨Rf,Rf,Rf,Rf,Rf,Rf,Rf,Jd (Jal (n:=at') (k:=(l.getD at' ins0).jt) Om),trivial⟩)
   ·refine stp ?_
    intro c e0;cases c
    ·have e0:=JaJ.1 e0
     have e0:¬(a≥x):=fun h=> e0 (show ((x:Nat):Int)≤(a:Int) from Int.ofNat_le.2 h)
     refine stp ?_
     exact back (⟨at'+1+(l.getD at' ins0).jf,a,x,cells,steps+1,loads⟩,oi,_) (hgo _ (congrArg (fun c:Bool=> ((none:Option Nat),({ (⟨at'+1,a,x,cells,steps+1,loads⟩:Rn) with at':=at'+1+if c then (l.getD at' ins0).jt else (l.getD at' ins0).jf}:Rn))) (show JC 27 a (x)=false from decide_eq_false e0)) _ i3).1 (hgo _ (congrArg (fun c:Bool=> ((none:Option Nat),({ (⟨at'+1,a,x,cells,steps+1,loads⟩:Rn) with at':=at'+1+if c then (l.getD at' ins0).jt else (l.getD at' ins0).jf}:Rn))) (show JC 27 a (x)=false from decide_eq_false e0)) (oi) i3).2 (Je _ _ rfl rfl (.cons _ Sf) Sf ⟨rfl,OwnLe.refl _,rfl,⟨Rf,Jd hw2,Rf,trivial⟩,rfl,OwnLe.refl _,trivial⟩ Pf ⟨Rf,Rf,Rf,Rf,Rf,Rf,Rf,Jd (Jal (n:=at') (k:=(l.getD at' ins0).jf) Om),trivial⟩)
    ·have e0:=JaK.1 e0
     have e0:(a≥x):=Int.ofNat_le.1 (show ((x:Nat):Int)≤(a:Int) from e0)
     refine stp ?_
     exact back (⟨at'+1+(l.getD at' ins0).jt,a,x,cells,steps+1,loads⟩,oi,_) (hgo _ (congrArg (fun c:Bool=> ((none:Option Nat),({ (⟨at'+1,a,x,cells,steps+1,loads⟩:Rn) with at':=at'+1+if c then (l.getD at' ins0).jt else (l.getD at' ins0).jf}:Rn))) (show JC 27 a (x)=true from decide_eq_true e0)) _ i3).1 (hgo _ (congrArg (fun c:Bool=> ((none:Option Nat),({ (⟨at'+1,a,x,cells,steps+1,loads⟩:Rn) with at':=at'+1+if c then (l.getD at' ins0).jt else (l.getD at' ins0).jf}:Rn))) (show JC 27 a (x)=true from decide_eq_true e0)) (oi) i3).2 (Je _ _ rfl rfl (.cons _ Sf) Sf ⟨rfl,OwnLe.refl _,rfl,⟨Rf,Jd hw2,Rf,trivial⟩,rfl,OwnLe.refl _,trivial⟩ Pf ⟨Rf,Rf,Rf,Rf,Rf,Rf,Rf,Jd (Jal (n:=at') (k:=(l.getD at' ins0).jt) Om),trivial⟩)
   ·refine stp ?_
    intro c e0;cases c
    ·have e0:=Jbd.1 e0
     have e1:JU .and .u32 (a:Int) (x:Int)=((a&&& x:Nat):Int):=JcD ha hx
     have e0:¬(a&&& x≠0):=fun h=> h (Int.ofNat_inj.1 (e1.symm.trans e0))
     refine stp ?_
     exact back (⟨at'+1+(l.getD at' ins0).jf,a,x,cells,steps+1,loads⟩,oi,_) (hgo _ (congrArg (fun c:Bool=> ((none:Option Nat),({ (⟨at'+1,a,x,cells,steps+1,loads⟩:Rn) with at':=at'+1+if c then (l.getD at' ins0).jt else (l.getD at' ins0).jf}:Rn))) (show JC 28 a (x)=false from decide_eq_false e0)) _ i3).1 (hgo _ (congrArg (fun c:Bool=> ((none:Option Nat),({ (⟨at'+1,a,x,cells,steps+1,loads⟩:Rn) with at':=at'+1+if c then (l.getD at' ins0).jt else (l.getD at' ins0).jf}:Rn))) (show JC 28 a (x)=false from decide_eq_false e0)) (oi) i3).2 (Je _ _ rfl rfl (.cons _ Sf) Sf ⟨rfl,OwnLe.refl _,rfl,⟨Rf,Jd hw2,Rf,trivial⟩,rfl,OwnLe.refl _,trivial⟩ Pf ⟨Rf,Rf,Rf,Rf,Rf,Rf,Rf,Jd (Jal (n:=at') (k:=(l.getD at' ins0).jf) Om),trivial⟩)
    ·have e0:=Jbe.1 e0
     have e1:JU .and .u32 (a:Int) (x:Int)=((a&&& x:Nat):Int):=JcD ha hx
     have e0:(a&&& x≠0):=fun h=> e0 (e1.trans (by rw [h];rfl))
     refine stp ?_
     exact back (⟨at'+1+(l.getD at' ins0).jt,a,x,cells,steps+1,loads⟩,oi,_) (hgo _ (congrArg (fun c:Bool=> ((none:Option Nat),({ (⟨at'+1,a,x,cells,steps+1,loads⟩:Rn) with at':=at'+1+if c then (l.getD at' ins0).jt else (l.getD at' ins0).jf}:Rn))) (show JC 28 a (x)=true from decide_eq_true e0)) _ i3).1 (hgo _ (congrArg (fun c:Bool=> ((none:Option Nat),({ (⟨at'+1,a,x,cells,steps+1,loads⟩:Rn) with at':=at'+1+if c then (l.getD at' ins0).jt else (l.getD at' ins0).jf}:Rn))) (show JC 28 a (x)=true from decide_eq_true e0)) (oi) i3).2 (Je _ _ rfl rfl (.cons _ Sf) Sf ⟨rfl,OwnLe.refl _,rfl,⟨Rf,Jd hw2,Rf,trivial⟩,rfl,OwnLe.refl _,trivial⟩ Pf ⟨Rf,Rf,Rf,Rf,Rf,Rf,Rf,Jd (Jal (n:=at') (k:=(l.getD at' ins0).jt) Om),trivial⟩)
end Go.Proofs.W

namespace Go.Proofs.W
open Go.Vl
section
variable {α:Type} [Inhabited α] {lt:α→α→Bool}
theorem JaE {K:Bool→Prop} {b b':Bool} (h:b=b') (hk:∀c,c=b'→K c):∀c,c=b→K c:=by subst h;exact hk
end
end Go.Proofs.W

namespace Go.Proofs.W
open Go.Vl
set_option maxRecDepth 100000
theorem Jk0 (l:List TRow) (p:TRow→Bool) (f:Nat) (x y:List AV) (hl:l.length≤1000000000) (hp:∀i,i < l.length→Tells Tryz.prog f [Jo (l.getD i Jf), .rp x, .rp y] (Jg (p (l.getD i Jf)))):
 Tells Tryz.prog 161 [Jai 8 Jo Jf l,(.fn (.func f) [] [.rp x, .rp y])] (int (JaV (l.findIdx? p))):=by
 refine Jc Tryz.func161 rfl rfl fun nx=> ?_
 refine stp ?_
 refine Jr (fun s:Nat×Nat=> mk 19 [(0,Jai 8 Jo Jf l),(1,(.fn (.func f) [] [.rp x, .rp y])),(7,int l.length),(8,int s.1)] ⟨[], [],s.2,0⟩) (fun s=> s.1≤l.length∧∀j,j < s.1→p (l.getD j Jf)=false) (fun s=> l.length - s.1) ?_ ?_
 ·exact ⟨(0,nx),⟨by simp,by intro j hj;simp at hj⟩,JH rfl rfl ⟨Rf,Rf,Rf,Rf,trivial⟩⟩
 ·rintro ⟨i,nx⟩ ⟨h1,h2⟩
  dsimp only at h1 h2
  refine stp ?_
  intro c h3;cases c
  ·have h3:=Jm h3
   dsimp only at h3
   refine stp ?_
   refine Ja rfl (Jd ?_)
   rw [JcE Jf (fun j hj=> h2 j Om)];rfl
  ·have h3:=Jl h3
   dsimp only at h3
   have hi:i < l.length:=by omega
   refine stp ?_
   refine ⟨⟨by dsimp only;omega,by dsimp only;omega⟩, ?_⟩
   refine stp ?_
   refine Jb rfl rfl (hp i hi) ⟨Rf,Rf,Rf,trivial⟩ fun nx'=> ?_
   intro c h4;cases c
   ·refine stp ?_
    refine back (i+1,nx') ⟨by dsimp only;omega,fun j hj=> ?_⟩ Dm (JH rfl rfl ⟨Rf,Rf,Rf,Jd (Jk Dm),trivial⟩)
    dsimp only at hj
    rcases Nat.lt_or_ge j i with h | h
    ·exact h2 j h
    ·obtain rfl:j=i:=by omega
     exact h4.symm
   ·refine stp ?_
    refine Ja rfl (Jd ?_)
    rw [JdS Jf hi h2 h4.symm];rfl
def Jc2 (mux sub:Int) (r:TRow):Bool:=decide (r.mux=mux)&& (decide (r.sub=sub)&& decide (mux≠0))
theorem JrF (r:TRow) (mux sub:Int):Tells Tryz.prog 162 [Jo r, .rp [int mux], .rp [int sub]] (Jg (Jc2 mux sub r)):=by
 refine Jc Tryz.func162 rfl rfl fun nx=> ?_
 refine stp ?_
 intro c t1;cases c
 ·have e:Jc2 mux sub r=false:=by unfold Jc2;rw [decide_eq_false (by simpa using t1.symm)];rfl
  rw [e]
  refine stp ?_
  exact Ja rfl Rf
 ·have t1:r.mux=mux:=by simpa using t1.symm
  have e:Jc2 mux sub r=(decide (r.sub=sub)&& decide (mux≠0)):=by unfold Jc2;rw [decide_eq_true t1];rfl
  rw [e]
  refine stp ?_
  intro c t2;cases c
  ·rw [decide_eq_false (show ¬r.sub=sub by simpa using t2.symm)]
   refine stp ?_
   exact Ja rfl Rf
  ·rw [decide_eq_true (show r.sub=sub by simpa using t2.symm)]
   refine stp ?_
   intro c t3;cases c
   all_goals
    refine stp ?_
    exact Ja rfl (Jn (t3.trans (by rw [Bool.true_and,Bool.eq_iff_iff];simp)))
def JvK (l:List TRow):Option Nat→AV
 | some i=> .tup [Jj (l.getD i Jf).name,Jg true]
 | none=> .tup [Jj ⟨#[]⟩,Jg false]
theorem JmY {l:List TRow} {p:TRow→Bool} {i:Nat} (h:l.findIdx? p=some i):i < l.length:=(List.findIdx?_eq_some_iff_getElem.1 h).1
theorem Jn6 (l:List TRow) (mux sub:Int) (hl:l.length≤1000000000):Tells Tryz.prog 119 [Js l,int mux,int sub] (JvK l (l.findIdx? (Jc2 mux sub))):=by
 have hi:=Jk0 l (Jc2 mux sub) 162 [int mux] [int sub] hl (fun i _=> JrF _ mux sub)
 have hlt:=fun i=> JmY (l:=l) (p:=Jc2 mux sub) (i:=i)
 generalize l.findIdx? (Jc2 mux sub)=o at hi hlt⊢
 refine Jc Tryz.func119 rfl rfl fun nx=> ?_
 (refine Jt ?_;refine Jv ?_;refine Jt ?_)
 refine J4 (n:=19) (nx:=nx+2) (nn:=2) (pm:= []) (bx:= []) (L:= [(0,Js l),(4, .rp [int mux]),(5, .rp [int sub])]) (df:=some []) [((1,nx+1), .c [int sub]),((0,nx), .c [int mux])] rfl rfl rfl (List.Perm.refl _) Sf ⟨Frz.refl _,Frz.bp (.tail _ (.head _)) rfl,Frz.bp (.head _) rfl,trivial⟩ ?_
 refine stp ?_
 refine Jb rfl rfl hi ⟨Rf,Rf,trivial⟩ fun nx2=> ?_
 rcases o with _ | i
 ·refine stp ?_
  exact Ja rfl Rf
 ·have hi:=hlt i rfl
  refine stp ?_
  refine ⟨⟨Int.natCast_nonneg i,show (i:Int) < (l.length:Int) by omega⟩, ?_⟩
  refine stp ?_
  exact Ja rfl Rf
def JbV (a:Nat) (n:Int) (r:TRow):Bool:=decide (r.num a=n)
theorem JpY (r:TRow) (a:Nat) (ha:a < 5) (n:Int) (hn:0≤n):Tells Tryz.prog 163 [Jo r, .rp [int a], .rp [int n]] (Jg (JbV a n r)):=by
 have hne:decide (n≠-1)=true:=decide_eq_true Om
 have hne2:(n !=-1)=true:=by simp;omega
 unfold JbV
 refine Jc Tryz.func163 rfl rfl fun nx=> ?_
 rcases (by omega:a=0∨a=1∨a=2∨a=3∨a=4) with rfl | rfl | rfl | rfl | rfl
 all_goals
  refine stp ?_
  (refine Jy 11 ?_ ?_ ?_ ?_;(· kernel_rfl);(· kernel_rfl);(· kernel_rfl))
  refine stp ?_
  intro c t1;cases c
  ·refine stp ?_
   exact Ja rfl (Jn (decide_eq_false (beq_eq_false_iff_ne.1 t1.symm)).symm)
  ·refine stp ?_
   (conv=> whnf)
   refine JaE hne2 ?_
   refine stp ?_
   exact Ja rfl (Jn (decide_eq_true (beq_iff_eq.1 t1.symm)).symm)
def JoM (l:List TRow):Option Nat→AV
 | some i=> .tup [Jj (l.getD i Jf).name,int 0]
 | none=> .tup [Jj ⟨#[]⟩,int 14]
theorem JmZ (l:List TRow) (a:Nat) (ha:a < 5) (n:Int) (hn:0≤n) (hl:l.length≤1000000000):Tells Tryz.prog 121 [Js l,int a,int n] (JoM l (l.findIdx? (JbV a n))):=by
 have hi:=Jk0 l (JbV a n) 163 [int a] [int n] hl (fun i _=> JpY _ a ha n hn)
 have hlt:=fun i=> JmY (l:=l) (p:=JbV a n) (i:=i)
 generalize l.findIdx? (JbV a n)=o at hi hlt⊢
 have hd1:decide ((a:Int) < 0)=false:=decide_eq_false Om
 have hd2:decide ((a:Int)≥5)=false:=decide_eq_false Om
 have hd3:decide (n < 0)=false:=decide_eq_false Om
 refine Jc Tryz.func121 rfl rfl fun nx=> ?_
 (refine Jt ?_;refine Jv ?_;refine Jt ?_)
 refine J4 (n:=47) (nx:=nx+2) (nn:=2) (pm:= []) (bx:= []) (L:= [(0,Js l),(4, .rp [int a]),(5, .rp [int n])]) (df:=some []) [((1,nx+1), .c [int n]),((0,nx), .c [int a])] rfl rfl rfl (List.Perm.refl _) Sf ⟨Frz.refl _,Frz.bp (.tail _ (.head _)) rfl,Frz.bp (.head _) rfl,trivial⟩ ?_
 refine stp ?_
 (conv=> whnf)
 refine JaE hd2 ?_
 refine stp ?_
 refine Jb rfl rfl hi ⟨Rf,Rf,trivial⟩ fun nx2=> ?_
 rcases o with _ | i
 ·refine stp ?_
  (refine Jy 20 ?_ ?_ ?_ ?_;(· kernel_rfl);(· kernel_rfl);(· kernel_rfl))
  refine stp ?_
  (conv=> whnf)
  refine JaE hd3 ?_
  refine stp ?_
  exact Ja rfl Rf
 ·have hi:=hlt i rfl
  refine stp ?_
  (refine Jy 20 ?_ ?_ ?_ ?_;(· kernel_rfl);(· kernel_rfl);(· kernel_rfl))
  refine stp ?_
  (conv=> whnf)
  refine JaE hd3 ?_
  refine stp ?_
  refine ⟨⟨Int.natCast_nonneg i,show (i:Int) < (l.length:Int) by omega⟩, ?_⟩
  refine stp ?_
  exact Ja rfl Rf
end Go.Proofs.W

namespace Go.Proofs.W
open Go.Vl
set_option maxRecDepth 100000
def JcF (a num:Nat):Nat:=if a=1∧num / 1073741824 % 2=1 then num - 1073741824 else num
theorem Jk1 {c lo d m i:Nat} (h:lo < 2 ^ i) (hm:m < 2 ^ i):(2 ^ i * c+lo)&&& (2 ^ i * d+m)=2 ^ i * (c&&& d)+(lo&&& m):=by
 apply Nat.eq_of_testBit_eq
 intro j
 have hlm:lo&&& m < 2 ^ i:=Nat.lt_of_le_of_lt Nat.and_le_left h
 rw [Nat.testBit_and,Nat.testBit_two_pow_mul_add _ h,Nat.testBit_two_pow_mul_add _ hm,Nat.testBit_two_pow_mul_add _ hlm]
 split <;> rw [Nat.testBit_and]
theorem JuR {num:Nat} (h:num < 4294967296):num&&& 3221225471=JcF 1 num:=by
 have hlo:num % 1073741824 < 2 ^ 30:=Nat.mod_lt _ Dc
 have e1:num=2 ^ 30 * (num / 1073741824)+num % 1073741824:=by have:=Nat.div_add_mod num 1073741824;show num=1073741824 * _+_;omega
 have hc:num / 1073741824 < 4:=by omega
 have hs:=Jk1 (c:=num / 1073741824) (lo:=num % 1073741824) (d:=2) (m:=1073741823) (i:=30) hlo Dc
 rw [← e1] at hs
 have e2:(2 ^ 30 * 2+1073741823:Nat)=3221225471:=by decide
 rw [e2] at hs
 have e3:num % 1073741824&&& 1073741823=num % 1073741824:=by
  have:=Nat.and_two_pow_sub_one_eq_mod (num % 1073741824) 30
  rw [show (2 ^ 30 - 1:Nat)=1073741823 by decide] at this
  rw [this];exact Nat.mod_eq_of_lt hlo
 rw [hs,e3]
 unfold JcF
 generalize hq:num / 1073741824=c at hc
 generalize num % 1073741824=lo at e1
 rw [hq] at e1
 have e4:(2 ^ 30:Nat)=1073741824:=by decide
 rw [e4] at e1⊢
 rcases (by omega:c=0∨c=1∨c=2∨c=3) with rfl | rfl | rfl | rfl
 ·rw [if_neg Dc,show (0&&& 2:Nat)=0 by decide];omega
 ·rw [if_pos Dc,show (1&&& 2:Nat)=0 by decide];omega
 ·rw [if_neg Dc,show (2&&& 2:Nat)=2 by decide];omega
 ·rw [if_pos Dc,show (3&&& 2:Nat)=2 by decide];omega
theorem JwB {num:Nat} (h:num < 4294967296):JU .andNot .u32 (num:Int) 1073741824=((JcF 1 num:Nat):Int):=by
 rw [← JuR h]
 exact Jid (k:= .u32) (b:=1073741824) h Dc (by
  have:num&&& (2 ^ IntKind.u32.bits - 1 - 1073741824)≤num:=Nat.and_le_left
  have:num&&& (2 ^ IntKind.u32.bits - 1 - 1073741824) < 4294967296:=by omega
  simp [IntKind.wrap,IntKind.signed,IntKind.bits] at this⊢
  omega)
theorem Jn7 (a num:Nat) (h:num < 4294967296):Tells Tryz.prog 122 [int a,u32 num] (u32 (JcF a num)):=by
 refine Jc Tryz.func122 rfl rfl fun nx=> ?_
 refine stp ?_
 intro c t;cases c
 ·have e:¬a=1:=fun e=> by subst e;simp at t
  have e2:JcF a num=num:=if_neg (fun q=> e q.1)
  rw [e2]
  refine stp ?_
  exact Ja rfl Rf
 ·have e:a=1:=by have:(a:Int)=1:=by simpa using t.symm
                 omega
  subst e
  refine stp ?_
  exact Ja rfl (AVle.of_eq (congrArg u32 (JwB h)))
def Jd1 (num:Nat):Nat:=if num=102 then 1 else if num=117 then 2 else 0
theorem Jct (num:Nat):Tells Tryz.prog 62 [u32 num] (int (Jd1 num)):=by
 refine Jc Tryz.func62 rfl rfl fun nx=> ?_
 refine stp ?_
 intro c t;cases c
 ·have e:¬num=102:=fun e=> by subst e;simp at t
  refine stp ?_
  intro c t2;cases c
  ·have e2:¬num=117:=fun e=> by subst e;simp at t2
   have e3:Jd1 num=0:=by unfold Jd1;rw [if_neg e,if_neg e2]
   rw [e3]
   refine stp ?_
   exact Ja rfl Rf
  ·have e2:num=117:=by have:(num:Int)=117:=by simpa using t2.symm
                       omega
   subst e2
   refine stp ?_
   exact Ja rfl Rf
 ·have e2:num=102:=by have:(num:Int)=102:=by simpa using t.symm
                      omega
  subst e2
  refine stp ?_
  exact Ja rfl Rf
def JgB (l:List TRow):Option Nat→ByteArray
 | some i=> (l.getD i Jf).name
 | none=> ⟨#[]⟩
theorem JvL {n:Nat}:IntKind.i64.wrap (IntKind.u32.wrap (n:Int))=((n % 4294967296:Nat):Int):=by
 simp [IntKind.wrap,IntKind.signed,IntKind.bits];omega
theorem JpZ (l:List TRow) (kind:Int) (r:Rec) (hl:l.length≤1000000000):Tells Tryz.prog 118 [.rp [Js l], .rp [int kind], .rp (Jaj r)] (Jj (JgB l (l.findIdx? (Jc2 kind ((r.a0 % 4294967296:Nat):Int))))):=by
 have hs:=Jn6 l kind ((r.a0 % 4294967296:Nat):Int) hl
 generalize l.findIdx? (Jc2 kind ((r.a0 % 4294967296:Nat):Int))=o at hs⊢
 refine Jc Tryz.func118 rfl rfl fun nx=> ?_
 refine stp ?_
 refine ⟨⟨by decide,by decide,by rw [show Int.toNat 0=0 from rfl,Nat.zero_mul];exact Nat.zero_le _⟩,Jh (b:= .rp [u64 r.a0,u64 r.a1,u64 r.a2,u64 r.a3,u64 r.a4,u64 r.a5]) (by rw [Jc9];rfl) ?_⟩
 refine stp ?_
 refine Jb rfl rfl hs ⟨Rf,Rf,Jd JvL,trivial⟩ fun nx2=> ?_
 rcases o with _ | i
 all_goals
  refine stp ?_
  exact Ja rfl Rf
theorem Jn8 (l:List TRow) (a:Nat) (ha:a < 5) (r:Rec) (hr:r.ok) (hl:l.length≤1000000000):Tells Tryz.prog 120 [.rp [Js l], .rp [int a], .rp (Jaj r)] (Jj (JgB l (l.findIdx? (JbV a ((JcF a r.num:Nat):Int))))):=by
 have hs:=JmZ l a ha ((JcF a r.num:Nat):Int) (Int.natCast_nonneg _) hl
 have ho:=Jn7 a r.num hr.1
 generalize l.findIdx? (JbV a ((JcF a r.num:Nat):Int))=o at hs⊢
 have hid:NoId (JoM l o):=by
  cases o <;> exact NoId.tup (by intro y hy;simp only [List.mem_cons,List.not_mem_nil,or_false] at hy;rcases hy with rfl | rfl <;> exact NoId.v _)
 have hw:IntKind.i64.wrap ((JcF a r.num:Nat):Int)=((JcF a r.num:Nat):Int):=by
  have h2:JcF a r.num≤r.num:=by unfold JcF;split <;> omega
  have:=hr.1
  exact Jq Om Om
 refine Jc Tryz.func120 rfl rfl fun nx=> ?_
 refine stp ?_
 refine Jah 12 _ (fun _=> false) (fun i=> match i with | 5=> true | 7=> true | _=> false) [0,1,2,3,4,5,6,7,8,9,10,11] (by kernel_rfl) (by kernel_rfl) (HB.refl _) ?_
 refine stp ?_
 refine ⟨_,JG rfl rfl rfl ho ⟨Rf,Rf,trivial⟩ (NoId.v _), ?_⟩
 refine stp ?_
 refine ⟨_,JG rfl rfl rfl hs ⟨Rf,Rf,Jd hw,trivial⟩ hid, ?_⟩
 rcases o with _ | i
 all_goals
  refine stp ?_
  exact Ja rfl Rf
end Go.Proofs.W

namespace Go.Proofs.W
open Go.Vl
set_option maxRecDepth 100000
structure CallR where
 some:Bool
 abi:Int
 name:ByteArray
 muxed:Bool
def Ja0 (c:CallR):List AV:= [Jg c.some,int c.abi,Jj c.name,Jg c.muxed]
def JgC (c:CallR):AV:= .ag (Ja0 c)
def JlL:CallR:=⟨false,0,⟨#[]⟩,false⟩
def JcG (arch num:Nat):Option Nat:=(infN.find? (Jcg arch (Jbv num))).map (·.1)
theorem JuS (arch num:Nat):JiF arch num=match JcG arch num with
 | some a=> .tup [int a,Jg true]
 | none=> .tup [int 0,Jg false]:=by
 unfold JiF JcG
 cases infN.find? (Jcg arch (Jbv num)) <;> rfl
theorem JhV {arch num a:Nat} (h:JcG arch num=some a):a < 5:=by
 unfold JcG at h
 obtain ⟨x,hx,rfl⟩:=Option.map_eq_some_iff.1 h
 have:=List.mem_of_find?_eq_some hx
 simp only [infN,List.mem_cons,List.not_mem_nil,or_false] at this
 rcases this with rfl | rfl | rfl | rfl | rfl <;> decide
def JfE (a num:Nat):Nat:=if a=2 then Jd1 num else 0
def ofI (l:List TRow) (r:Rec):CallR:=match JcG r.arch r.num with
 | none=> JlL
 | some a=> if 0 < JfE a r.num then ⟨true,a,JgB l (l.findIdx? (Jc2 (JfE a r.num) ((r.a0 % 4294967296:Nat):Int))),true⟩
   else ⟨true,a,JgB l (l.findIdx? (JbV a ((JcF a r.num:Nat):Int))),false⟩
theorem Jtv {a:Nat}:((a:Int) ==2)=decide (a=2):=by
 rw [Bool.eq_iff_iff];simp;omega
set_option maxHeartbeats 4000000 in
theorem JjA (l:List TRow) (r:Rec) (hr:r.ok) (hl:l.length≤1000000000):Tells Tryz.prog 61 [Js l,Jag r] (JgC (ofI l r)):=by
 have hs:=JnO r.arch r.num hr.2.1 hr.1
 rw [JuS] at hs
 unfold ofI
 cases hso:JcG r.arch r.num with
 | none=>
   rw [hso] at hs
   refine Jc Tryz.func61 rfl rfl fun nx=> ?_
   refine stp ?_
   refine Jb rfl rfl hs ⟨Rf,Rf,trivial⟩ fun nx2=> ?_
   refine stp ?_
   exact Ji rfl ⟨rfl,trivial⟩ Rf
 | some a=>
   rw [hso] at hs
   dsimp only at hs⊢
   have ha:=JhV hso
   have hk:=Jct r.num
   have hm:=fun k=> JpZ l k r hl
   have hd:=Jn8 l a ha r hr hl
   by_cases e:a=2
   ·have ek:JfE a r.num=Jd1 r.num:=if_pos e
    rw [ek]
    have hm:=hm (Jd1 r.num)
    generalize Jd1 r.num=k at hk hm⊢
    by_cases hk0:0 < k
    ·rw [if_pos hk0]
     have hd0:decide ((k:Int) > 0)=true:=decide_eq_true Om
     refine Jc Tryz.func61 rfl rfl fun nx=> ?_
     refine stp ?_
     refine Jb rfl rfl hs ⟨Rf,Rf,trivial⟩ fun nx2=> ?_
     refine stp ?_
     intro c hc
     have hc2:c=decide (a=2):=hc.trans Jtv
     clear hc
     have hc3:c=true:=hc2.trans (decide_eq_true e)
     clear hc2;subst hc3
     refine Jt ?_
     refine Jv ?_
     refine Jt ?_
     refine Jb rfl rfl hk ⟨Rf,trivial⟩ fun nx3=> ?_
     refine Jt ?_
     refine J4 (n:=41) (nx:=nx3) (nn:=6) (pm:= []) (bx:= [((4,nx2+1), .c (Ja0 ⟨true,a,⟨#[]⟩,false⟩)),((2,nx+2), .c (Ja0 JlL))]) (L:= [(2, .rp [Js l]),(3, .rp (Jaj r)),(4, .bp (2,nx+2) 0),(5, .rp [int a]),(7, .bp (4,nx2+1) 0),(8, .rp [int k])]) (df:=some []) [((5,nx2+2), .c [int k]),((3,nx2), .c [int a]),((1,nx+1), .c (Jaj r)),((0,nx), .c [Js l])] rfl rfl rfl (.cons _ ((List.Perm.swap _ _ _).trans (.cons _ (List.perm_append_comm (l₁:= [_,_]) (l₂:= [_,_]))))) Sf ⟨Frz.bp (.tail _ (.tail _ (.tail _ (.head _)))) rfl,Frz.bp (.tail _ (.tail _ (.head _))) rfl,Frz.refl _,Frz.bp (.tail _ (.head _)) rfl,Frz.refl _,Frz.bp (.head _) rfl,trivial⟩ ?_
     refine stp ?_
     (conv=> whnf)
     refine JaE hd0 ?_
     refine stp ?_
     refine Jb rfl rfl hm ⟨Rf,Rf,Rf,trivial⟩ fun nx4=> ?_
     refine stp ?_
     exact Ji rfl ⟨rfl,trivial⟩ Rf
    ·obtain rfl:k=0:=by omega
     rw [if_neg hk0]
     refine Jc Tryz.func61 rfl rfl fun nx=> ?_
     refine stp ?_
     refine Jb rfl rfl hs ⟨Rf,Rf,trivial⟩ fun nx2=> ?_
     refine stp ?_
     intro c hc
     have hc2:c=decide (a=2):=hc.trans Jtv
     clear hc
     have hc3:c=true:=hc2.trans (decide_eq_true e)
     clear hc2;subst hc3
     refine Jt ?_
     refine Jv ?_
     refine Jt ?_
     refine Jb rfl rfl hk ⟨Rf,trivial⟩ fun nx3=> ?_
     refine Jt ?_
     refine J4 (n:=41) (nx:=nx3) (nn:=6) (pm:= []) (bx:= [((4,nx2+1), .c (Ja0 ⟨true,a,⟨#[]⟩,false⟩)),((2,nx+2), .c (Ja0 JlL))]) (L:= [(2, .rp [Js l]),(3, .rp (Jaj r)),(4, .bp (2,nx+2) 0),(5, .rp [int a]),(7, .bp (4,nx2+1) 0),(8, .rp [int ((0:Nat):Int)])]) (df:=some []) [((5,nx2+2), .c [int ((0:Nat):Int)]),((3,nx2), .c [int a]),((1,nx+1), .c (Jaj r)),((0,nx), .c [Js l])] rfl rfl rfl (.cons _ ((List.Perm.swap _ _ _).trans (.cons _ (List.perm_append_comm (l₁:= [_,_]) (l₂:= [_,_]))))) Sf ⟨Frz.bp (.tail _ (.tail _ (.tail _ (.head _)))) rfl,Frz.bp (.tail _ (.tail _ (.head _))) rfl,Frz.refl _,Frz.bp (.tail _ (.head _)) rfl,Frz.refl _,Frz.bp (.head _) rfl,trivial⟩ ?_
     refine stp ?_
     refine Jb rfl rfl hd ⟨Rf,Rf,Rf,trivial⟩ fun nx4=> ?_
     refine stp ?_
     exact Ji rfl ⟨rfl,trivial⟩ Rf
   ·have ek:JfE a r.num=0:=if_neg e
    rw [ek,if_neg Dc]
    refine Jc Tryz.func61 rfl rfl fun nx=> ?_
    refine stp ?_
    refine Jb rfl rfl hs ⟨Rf,Rf,trivial⟩ fun nx2=> ?_
    refine stp ?_
    intro c hc
    have hc2:c=decide (a=2):=hc.trans Jtv
    clear hc
    have hc3:c=false:=hc2.trans (decide_eq_false e)
    clear hc2;subst hc3
    refine Jt ?_
    refine J4 (n:=41) (nx:=nx2+3) (nn:=6) (pm:= []) (bx:= [((4,nx2+1), .c (Ja0 ⟨true,a,⟨#[]⟩,false⟩)),((2,nx+2), .c (Ja0 JlL))]) (L:= [(2, .rp [Js l]),(3, .rp (Jaj r)),(4, .bp (2,nx+2) 0),(5, .rp [int a]),(7, .bp (4,nx2+1) 0),(8, .rp [int 0])]) (df:=some []) [((5,nx2+2), .c [int 0]),((3,nx2), .c [int a]),((1,nx+1), .c (Jaj r)),((0,nx), .c [Js l])] rfl rfl rfl (.cons _ ((List.Perm.swap _ _ _).trans (.cons _ (List.perm_append_comm (l₁:= [_,_]) (l₂:= [_,_]))))) Sf ⟨Frz.bp (.tail _ (.tail _ (.tail _ (.head _)))) rfl,Frz.bp (.tail _ (.tail _ (.head _))) rfl,Frz.refl _,Frz.bp (.tail _ (.head _)) rfl,Frz.refl _,Frz.bp (.head _) rfl,trivial⟩ ?_
    refine stp ?_
    refine Jb rfl rfl hd ⟨Rf,Rf,Rf,trivial⟩ fun nx4=> ?_
    refine stp ?_
    exact Ji rfl ⟨rfl,trivial⟩ Rf
end Go.Proofs.W

namespace Go.Proofs.W
open Go.Vl
set_option maxRecDepth 100000
theorem JaW {a b:AV} {K:AV→Prop} (h:a=b) (hk:JcJ b K):JcJ a K:=h ▸ hk
end Go.Proofs.W

namespace Go.Proofs.W
open Go.Vl
set_option maxRecDepth 100000
def kS (s t:ByteArray):Bool:=s.toList ==t.toList
theorem JwC {s t:ByteArray}:kS s t=true↔s=t:=by
 unfold kS
 rw [beq_iff_eq,Lib.toList_data,Lib.toList_data]
 constructor
 ·intro h
  obtain ⟨⟨a⟩⟩:=s
  obtain ⟨⟨b⟩⟩:=t
  simpa using h
 ·rintro rfl;rfl
section
variable {α:Type} {nm:α→ByteArray} {val:α→AV}
end
end Go.Proofs.W

namespace Go.Proofs.W
open Go.Vl
set_option maxRecDepth 100000
structure Ent where
 name:ByteArray
 m:Nat
 a:Nat→Nat
 b:Nat→Bool
 st:Nat
structure Gat where
 name:ByteArray
 m:Nat
 a:Nat→Nat
 b:Nat→Bool
end Go.Proofs.W

namespace Go.Proofs.W
open Go.Vl
set_option maxRecDepth 100000
theorem JwD {s:ByteArray}:(s.toList ==(⟨#[]⟩:ByteArray).toList)=decide (s.size=0):=by
 rw [Lib.toList_data,Lib.toList_data,Bool.eq_iff_iff,beq_iff_eq,decide_eq_true_iff]
 obtain ⟨⟨a⟩⟩:=s
 show a= []↔a.length=0
 exact List.length_eq_zero_iff.symm
theorem JuT {l:List TRow} {r:Rec} (h:¬(ofI l r).name.size=0):(ofI l r).abi.toNat < 5∧(ofI l r).abi=((ofI l r).abi.toNat:Int):=by
 unfold ofI at h⊢
 cases hs:JcG r.arch r.num with
 | none=> rw [hs] at h;exact absurd rfl h
 | some a=>
   have ha:=JhV hs
   dsimp only
   split
   ·exact ⟨by simpa using ha,by simp⟩
   ·exact ⟨by simpa using ha,by simp⟩
theorem Jtw {x:Nat→Nat}:NoId (Jfk x):=by unfold Jfk;exact NoId.ag (by intro y hy;simp at hy;rcases hy with rfl | rfl | rfl | rfl | rfl | rfl <;> exact NoId.v _)
end Go.Proofs.W

namespace Go.Proofs.W
open Go.Vl
set_option maxRecDepth 100000
end Go.Proofs.W

namespace Go.Proofs
open Go.Shelf
end Go.Proofs
namespace Go.Proofs.W
open Go.Vl Go.Shelf
set_option maxRecDepth 100000
end Go.Proofs.W
