import Derived.Test.YtmipfkagmedcnaaGreatDoorXF
import Derived.Test.YtmipfkagmedcnaaGreatDoorXC
set_option linter.unusedVariables false
set_option linter.unusedSimpArgs false
namespace Go.Proofs.W
open Go.Vl
set_option maxRecDepth 100000
theorem Ji7:∀ {l m:List Nat},l.Nodup→(∀x∈l,x∈m)→l.length≤m.length
 | [],m,_,_=> Nat.zero_le _
 | x::l,m,hn,h=> by
   obtain ⟨h1,h2⟩:=List.nodup_cons.1 hn
   have hx:=h x (.head _)
   have h3:=Ji7 (m:=m.erase x) h2 fun y hy=> (List.mem_erase_of_ne (fun e:y=x=> h1 (e ▸ hy))).2 (h y (.tail _ hy))
   rw [List.length_erase_of_mem hx] at h3
   have:=List.length_pos_of_mem hx
   rw [List.length_cons];omega
theorem Jt1 {A:List Nat} {n:Nat} {q:Nat→Bool} {f:Nat→Nat} (hA:A.Nodup) (hi:∀i j,i < n→j < n→q i=true→q j=true→f i=f j→i=j) (h:∀x,x∈A↔∃i,i < n∧q i=true∧x=f i):((List.range n).filter q).length=A.length:=by
 have hm:∀ {i},i∈(List.range n).filter q↔i < n∧q i=true:=fun {i}=> by rw [List.mem_filter,List.mem_range]
 have e1:(((List.range n).filter q).map f).length=((List.range n).filter q).length:=List.length_map ..
 rw [← e1]
 refine Nat.le_antisymm ?_ ?_
 ·skip
  refine Ji7 ?_ fun x hx=> ?_
  ·unfold List.Nodup
   rw [List.pairwise_map]
   exact (List.Pairwise.filter q List.nodup_range).imp_of_mem fun {i j} h1 h2 hne e=> hne (hi i j (hm.1 h1).1 (hm.1 h2).1 (hm.1 h1).2 (hm.1 h2).2 e)
  ·obtain ⟨i,h1,rfl⟩:=List.mem_map.1 hx
   exact (h _).2 ⟨i,(hm.1 h1).1,(hm.1 h1).2,rfl⟩
 ·refine Ji7 hA fun x hx=> ?_
  obtain ⟨i,h1,h2,rfl⟩:=(h x).1 hx
  exact List.mem_map_of_mem (hm.2 ⟨h1,h2⟩)
def Jgq (p:Pol) (l:List TRow) (i:Nat):List Rul:=p.rules.filter fun r=> kS r.name (l.getD i Jh).name
def Jgr (p:Pol) (l:List TRow) (a i:Nat):List PRul:=Jas a ((Jgq p l i).map J0) (Jr p.dflt)
def JhH (p:Pol) (l:List TRow) (a i:Nat):Bool:=decide (0≤(l.getD i Jh).num a)&& ((decide (a≠1)|| p.x32)&& decide (0 < (Jgr p l a i).length))
theorem Jfn {p:Pol} {l:List TRow} {a i:Nat}:JhH p l a i=true↔0≤(l.getD i Jh).num a∧¬(a=1∧p.x32=false)∧Jgr p l a i≠ []:=by
 unfold JhH
 simp only [Bool.and_eq_true,Bool.or_eq_true,decide_eq_true_eq]
 rw [List.length_pos_iff]
 refine and_congr_right fun _=> and_congr_left fun _=> ?_
 cases p.x32 <;> simp
theorem Jpq {p:Pol} {l:List TRow} {a:Nat} {e:PEnt} (hv:(Jae p l).2=0):e∈(JV p l).ents a↔∃i,i < l.length∧JhH (Jc p) l a i=true∧e=⟨Jam a ((l.getD i Jh).num a),Jgr (Jc p) l a i⟩:=by
 have ht:=(JaN.1 hv).2.1
 have hG:=Jei (p:=p) (JcZ hv)
 constructor
 ·intro he
  obtain ⟨g,hg,h2⟩:=JhF he
  obtain ⟨j,hj,r1,n1⟩:=hG g hg
  have hr:Jgq (Jc p) l j=g.2:=by unfold Jgq;rw [n1,← Jpp hg]
  refine ⟨j,hj, ?_⟩
  rw [r1] at h2
  unfold Jaa at h2
  split at h2
  ·cases h2
  ·rename_i q
   have hS:Jgr (Jc p) l a j=Jas a (g.2.map J0) (Jr p.dflt):=by unfold Jgr;rw [hr];rfl
   rw [List.mem_singleton.1 h2,hS]
   refine ⟨Jfn.2 ⟨?_,fun k=> q (.inr (.inl k)),fun k=> q (.inr (.inr (by rw [← hS];exact k)))⟩,rfl⟩
   have:¬(l.getD j Jh).num a < 0:=fun k=> q (.inl k)
   omega
 ·rintro ⟨i,hi,hb,rfl⟩
  obtain ⟨b1,b2,b3⟩:=Jfn.1 hb
  have hne:Jgq (Jc p) l i≠ []:=fun k=> b3 (by unfold Jgr;rw [k];rfl)
  obtain ⟨n,hn⟩:=List.exists_mem_of_ne_nil _ hne
  obtain ⟨hn1,hn2⟩:=List.mem_filter.1 hn
  obtain ⟨g,hg,hgn⟩:=(Je0 (Jfm p)).all n hn1
  have hg1:g.1=(l.getD i Jh).name:=hgn.trans (Jbh.1 hn2)
  have hg2:=Jpp hg
  rw [hg1] at hg2
  have hro:=JqR ht hi
  refine JsB hg ?_
  rw [hg1,hro,hg2]
  have:=JqS (a:=a) (d:=Jr p.dflt) (x:=p.x32) (row:=l.getD i Jh) (rs:=(Jgq (Jc p) l i).map J0) Om b2 b3
  unfold Jgq at this
  rw [this]
  exact .head _
theorem Jve {α:Type} {f:α→Nat} {l:List α} (h1:l.Pairwise fun a b=> f a≤f b) (h2:(l.map f).Nodup):l.Pairwise fun a b=> f a < f b:=by
 unfold List.Nodup at h2
 rw [List.pairwise_map] at h2
 exact (h1.and h2).imp fun {a b} h=> Nat.lt_of_le_of_ne h.1 h.2
theorem JsE {p:Pol} {l:List TRow} {a:Nat} (hv:(Jae p l).2=0) (ha:a < 5):((JV p l).ents a).Pairwise fun x y=> x.num < y.num:=
 Jve (JnE _) (((Jfk _).map _).nodup_iff.2 (JgQ (p:=Jc p) (JaN.1 hv).2.1 ha JfK (Jei (p:=p) (JcZ hv))))
theorem JqU {α:Type} {f:α→Nat} {l:List α} (h:l.Pairwise fun a b=> f a < f b):(l.map f).Nodup:=by
 unfold List.Nodup
 rw [List.pairwise_map]
 exact h.imp fun {a b} h=> Nat.ne_of_lt h
theorem JqV {p:Pol} {l:List TRow} {a:Nat} (hv:(Jae p l).2=0) (ha:a < 5):((List.range l.length).filter (JhH (Jc p) l a)).length=((JV p l).ents a).length:=by
 have ht:=(JaN.1 hv).2.1
 have e1:(((JV p l).ents a).map (·.num)).length=((JV p l).ents a).length:=List.length_map ..
 rw [← e1]
 refine Jt1 (f:=fun i=> Jam a ((l.getD i Jh).num a)) (JqU (JsE hv ha)) (fun i j hi hj h1 h2 e=> ?_) fun x=> ?_
 ·have b1:=(Jfn.1 h1).1
  have b2:=(Jfn.1 h2).1
  try dsimp only at e
  rw [Jeg b1 (Jd4 ht hi).1,Jeg b2 (Jd4 ht hj).1] at e
  exact Jpa ht ha hi hj b1 (by split at e <;> omega)
 ·constructor
  ·intro h
   obtain ⟨e,he,rfl⟩:=List.mem_map.1 h
   obtain ⟨i,hi,hb,rfl⟩:=(Jpq hv).1 he
   exact ⟨i,hi,hb,rfl⟩
  ·rintro ⟨i,hi,hb,rfl⟩
   exact List.mem_map.2 ⟨_,(Jpq hv).2 ⟨i,hi,hb,rfl⟩,rfl⟩
end Go.Proofs.W

namespace Go.Proofs.W
open Go.Vl
set_option maxRecDepth 100000
def plX (d:Nat) (b:Bool) (E0 E1 E2 E3 E4:List PEnt) (S0 S1:List PSub):List AV:= [u32 (d:Nat),Jb b,JF 2 Jai ent0 E0,JF 2 Jai ent0 E1,JF 2 Jai ent0 E2,JF 2 Jai ent0 E3,JF 2 Jai ent0 E4,JF 2 Je9 sub0 S0,JF 2 Je9 sub0 S1]
def JkW (a:Nat) (E:List PEnt):Prop:=E.length≤1000000∧∀e∈E,e.num < 2147483648∧(e.num / 1073741824=1↔a=1)
theorem Jt2 {p:Pol} (h:JeV p=true):∀r∈p.rules,r.conds.length≤12∧r.name.size≤1000000:=fun r hr=> by
 unfold JeV JdJ at h
 simp only [Bool.and_eq_true,decide_eq_true_eq,List.all_eq_true] at h
 have:=h.2 r hr
 exact ⟨this.2,by omega⟩
theorem Jkc (n:Nat):((n:Int).fdiv (2 ^ min (Int.toNat 30) IntKind.u32.bits) ==1)=decide (n / 1073741824=1):=by
 have:(2:Int) ^ min (Int.toNat 30) IntKind.u32.bits=((1073741824:Nat):Int):=by decide
 rw [this,← Int.ofNat_fdiv,Bool.eq_iff_iff]
 simp only [beq_iff_eq,decide_eq_true_eq]
 omega
theorem Je4 {E:List PEnt} {i:Nat} (h:i < E.length):E.getD i ent0∈E:=by simp [List.getD,h]
set_option maxHeartbeats 8000000 in
theorem Jv0 (k n:Int) (x32:Bool) (rs:List Rul) (l:List TRow) (d:Nat) (E0 E1 E2 E3 E4:List PEnt) (S0 S1:List PSub) (h0:JkW 0 E0) (h1:JkW 1 E1) (h2:JkW 2 E2) (h3:JkW 3 E3) (h4:JkW 4 E4)
 (hlt:Tells Tryz.prog 22 [JbN ⟨(k,n),x32,rs⟩] (Jb true)) (hfew:Tells Tryz.prog 23 [JN l] (Jb true)) (hof:∀b,Tells Tryz.prog 24 [JbN ⟨(k,n),b,rs⟩] (JbN ⟨(k,n),b,rs⟩)) (hrw:Tells Tryz.prog 25 [JN l] (JN l))
 (hr0:Tells Tryz.prog 12 [JbN ⟨(k,n),false,rs⟩,JN l] (.tup [.ag (plX d false E0 [] E2 E3 E4 S0 S1),int 0,int 0]))
 (hr1:Tells Tryz.prog 12 [JbN ⟨(k,n),true,rs⟩,JN l] (.tup [.ag (plX d true E0 E1 E2 E3 E4 S0 S1),int 0,int 0])):Tells Tryz.prog 6 [JbN ⟨(k,n),x32,rs⟩,JN l] (Jb true):=by
 have hawk:=JhE
 refine Jg Tryz.func6 rfl rfl fun nx=> ?_
 refine stp ?_
 refine Jd rfl rfl hlt ⟨Rf,trivial⟩ fun nx1=> ?_
 refine stp ?_
 refine Jd rfl rfl hfew ⟨Rf,trivial⟩ fun nx2=> ?_
 refine stp ?_
 refine Jd rfl rfl (hof false) ⟨Rf,trivial⟩ fun nx3=> ?_
 refine stp ?_
 refine Jd rfl rfl hrw ⟨Rf,trivial⟩ fun nx4=> ?_
 refine stp ?_
 refine Jd rfl rfl hr0 ⟨Rf,Rf,trivial⟩ fun nx5=> ?_
 refine stp ?_
 refine Jd rfl rfl (hof true) ⟨Rf,trivial⟩ fun nx6=> ?_
 refine stp ?_
 refine Jd rfl rfl hrw ⟨Rf,trivial⟩ fun nx7=> ?_
 refine stp ?_
 refine Jd rfl rfl hr1 ⟨Rf,Rf,trivial⟩ fun nx8=> ?_
 refine JU ?_
 refine AW.le (Jq (n:=126) (nx:=nx8+1) (nn:=6) (pm:= []) (bx:= [((1,nx8), .c (plX d true E0 E1 E2 E3 E4 S0 S1)),((0,nx5), .c (plX d false E0 [] E2 E3 E4 S0 S1))]) (L:= [(5, .bp (0,nx5) 0),(7,int 0),(8, .bp (1,nx8) 0),(10,int 0)]) _ _ rfl rfl (.cons_cons _ (.cons_cons _ (.cons _ .slnil))) Sf ⟨rfl,OwnLe.refl _,rfl,OwnLe.refl _,trivial⟩ trivial ⟨AVle.bp_nm rfl,Rf,AVle.bp_nm rfl,Rf,trivial⟩) ?_
 refine stp ?_
 refine JcX (fun y:Nat=> mk 126 [] ⟨[], [],y,6⟩) (fun _=> True) ?_ ?_
 ·refine Jy (fun y:Nat×Nat=> mk 126 [(5, .bp (0,nx5) 0),(8, .bp (1,nx8) 0),(11,int y.1)] ⟨[((1,nx8), .c (plX d true E0 E1 E2 E3 E4 S0 S1)),((0,nx5), .c (plX d false E0 [] E2 E3 E4 S0 S1))], [],y.2,6⟩) (fun y=> y.1≤5) (fun y=> 5 - y.1) ?_ ?_
  ·exact ⟨(0,nx8+1),Nat.zero_le _,Et (pm:= []) (bx:= [((1,nx8), .c (plX d true E0 E1 E2 E3 E4 S0 S1)),((0,nx5), .c (plX d false E0 [] E2 E3 E4 S0 S1))]) rfl rfl Bf trivial ⟨Rf,Rf,Rf,trivial⟩⟩
  ·rintro ⟨a,nx9⟩ ha
   dsimp only at ha
   rcases (by omega:a=0∨a=1∨a=2∨a=3∨a=4∨a=5) with rfl | rfl | rfl | rfl | rfl | rfl
   ·have hb:=h0.2
    have hle:=h0.1
    refine AW.le (Et (n:=126) (nn:=6) (pm:= []) (bx:= [((1,nx8), .c (plX d true E0 E1 E2 E3 E4 S0 S1)),((0,nx5), .c (plX d false E0 [] E2 E3 E4 S0 S1))]) (L:= [(5, .bp (0,nx5) 0),(8, .bp (1,nx8) 0),(11,int (0:Nat))]) rfl rfl Bf trivial ⟨Rf,Rf,Rf,trivial⟩) ?_
    refine stp ?_
    (refine J1 15 ?_ ?_ ?_ ?_;(· kernel_rfl);(· kernel_rfl);(· kernel_rfl))
    refine stp ?_
    intro c hc
    have hc2:c=false:=hc.trans (bne_self_eq_false _)
    clear hc
    cases hc2
    refine stp ?_
    refine Jy (fun y:Nat×Nat=> mk 126 [(5, .bp (0,nx5) 0),(8, .bp (1,nx8) 0),(11,int (0:Nat)),(12,int y.1)] ⟨[((1,nx8), .c (plX d true E0 E1 E2 E3 E4 S0 S1)),((0,nx5), .c (plX d false E0 [] E2 E3 E4 S0 S1))], [],y.2,6⟩) (fun y=> y.1≤E0.length) (fun y=> E0.length - y.1) ?_ ?_
    ·exact ⟨(0,nx9),Nat.zero_le _,Et (pm:= []) (bx:= [((1,nx8), .c (plX d true E0 E1 E2 E3 E4 S0 S1)),((0,nx5), .c (plX d false E0 [] E2 E3 E4 S0 S1))]) rfl rfl Bf trivial ⟨Rf,Rf,Rf,Rf,trivial⟩⟩
    ·rintro ⟨i,nx10⟩ hi
     dsimp only at hi
     refine stp ?_
     intro c g;cases c
     ·have g:=Ju g
      refine stp ?_
      exact back (1,nx10) Dm Dm (Et (pm:= []) (bx:= [((1,nx8), .c (plX d true E0 E1 E2 E3 E4 S0 S1)),((0,nx5), .c (plX d false E0 [] E2 E3 E4 S0 S1))]) rfl rfl Bf trivial ⟨Rf,Rf,Jk rfl,trivial⟩)
     ·have g:=Jv g
      try dsimp only at g
      have hi2:i < E0.length:=by omega
      refine stp ?_
      (refine J1 36 ?_ ?_ ?_ ?_;(· kernel_rfl);(· kernel_rfl);(· kernel_rfl))
      refine stp ?_
      refine ⟨Bd, ?_⟩
      refine stp ?_
      intro c hc
      have hc2:c=false:=hc.trans ((Jkc (E0.getD i ent0).num).trans (decide_eq_false (fun h=> absurd ((hb _ (Je4 hi2)).2.1 h) Dc)))
      clear hc
      cases hc2
      refine stp ?_
      refine ⟨Bd, ?_⟩
      refine stp ?_
      refine ⟨Bd, ?_⟩
      refine stp ?_
      intro c hc
      have hc2:c=false:=hc.trans (bne_self_eq_false _)
      clear hc
      cases hc2
      refine stp ?_
      exact back (i+1,nx10) hi2 Dm (Et (pm:= []) (bx:= [((1,nx8), .c (plX d true E0 E1 E2 E3 E4 S0 S1)),((0,nx5), .c (plX d false E0 [] E2 E3 E4 S0 S1))]) rfl rfl Bf trivial ⟨Rf,Rf,Rf,Lw,trivial⟩)
   ·have hb:=h1.2
    have hle:=h1.1
    refine AW.le (Et (n:=126) (nn:=6) (pm:= []) (bx:= [((1,nx8), .c (plX d true E0 E1 E2 E3 E4 S0 S1)),((0,nx5), .c (plX d false E0 [] E2 E3 E4 S0 S1))]) (L:= [(5, .bp (0,nx5) 0),(8, .bp (1,nx8) 0),(11,int (1:Nat))]) rfl rfl Bf trivial ⟨Rf,Rf,Rf,trivial⟩) ?_
    refine stp ?_
    (refine J1 15 ?_ ?_ ?_ ?_;(· kernel_rfl);(· kernel_rfl);(· kernel_rfl))
    refine stp ?_
    refine Jy (fun y:Nat×Nat=> mk 126 [(5, .bp (0,nx5) 0),(8, .bp (1,nx8) 0),(11,int (1:Nat)),(12,int y.1)] ⟨[((1,nx8), .c (plX d true E0 E1 E2 E3 E4 S0 S1)),((0,nx5), .c (plX d false E0 [] E2 E3 E4 S0 S1))], [],y.2,6⟩) (fun y=> y.1≤E1.length) (fun y=> E1.length - y.1) ?_ ?_
    ·exact ⟨(0,nx9),Nat.zero_le _,Et (pm:= []) (bx:= [((1,nx8), .c (plX d true E0 E1 E2 E3 E4 S0 S1)),((0,nx5), .c (plX d false E0 [] E2 E3 E4 S0 S1))]) rfl rfl Bf trivial ⟨Rf,Rf,Rf,Rf,trivial⟩⟩
    ·rintro ⟨i,nx10⟩ hi
     dsimp only at hi
     refine stp ?_
     intro c g;cases c
     ·have g:=Ju g
      refine stp ?_
      exact back (2,nx10) Dm Dm (Et (pm:= []) (bx:= [((1,nx8), .c (plX d true E0 E1 E2 E3 E4 S0 S1)),((0,nx5), .c (plX d false E0 [] E2 E3 E4 S0 S1))]) rfl rfl Bf trivial ⟨Rf,Rf,Jk rfl,trivial⟩)
     ·have g:=Jv g
      try dsimp only at g
      have hi2:i < E1.length:=by omega
      refine stp ?_
      (refine J1 36 ?_ ?_ ?_ ?_;(· kernel_rfl);(· kernel_rfl);(· kernel_rfl))
      refine stp ?_
      refine ⟨Bd, ?_⟩
      refine stp ?_
      intro c hc
      have hc2:c=true:=hc.trans ((Jkc (E1.getD i ent0).num).trans (decide_eq_true ((hb _ (Je4 hi2)).2.2 rfl)))
      clear hc
      cases hc2
      refine stp ?_
      exact back (i+1,nx10) hi2 Dm (Et (pm:= []) (bx:= [((1,nx8), .c (plX d true E0 E1 E2 E3 E4 S0 S1)),((0,nx5), .c (plX d false E0 [] E2 E3 E4 S0 S1))]) rfl rfl Bf trivial ⟨Rf,Rf,Rf,Lw,trivial⟩)
   ·have hb:=h2.2
    have hle:=h2.1
    refine AW.le (Et (n:=126) (nn:=6) (pm:= []) (bx:= [((1,nx8), .c (plX d true E0 E1 E2 E3 E4 S0 S1)),((0,nx5), .c (plX d false E0 [] E2 E3 E4 S0 S1))]) (L:= [(5, .bp (0,nx5) 0),(8, .bp (1,nx8) 0),(11,int (2:Nat))]) rfl rfl Bf trivial ⟨Rf,Rf,Rf,trivial⟩) ?_
    refine stp ?_
    (refine J1 15 ?_ ?_ ?_ ?_;(· kernel_rfl);(· kernel_rfl);(· kernel_rfl))
    refine stp ?_
    intro c hc
    have hc2:c=false:=hc.trans (bne_self_eq_false _)
    clear hc
    cases hc2
    refine stp ?_
    refine Jy (fun y:Nat×Nat=> mk 126 [(5, .bp (0,nx5) 0),(8, .bp (1,nx8) 0),(11,int (2:Nat)),(12,int y.1)] ⟨[((1,nx8), .c (plX d true E0 E1 E2 E3 E4 S0 S1)),((0,nx5), .c (plX d false E0 [] E2 E3 E4 S0 S1))], [],y.2,6⟩) (fun y=> y.1≤E2.length) (fun y=> E2.length - y.1) ?_ ?_
    ·exact ⟨(0,nx9),Nat.zero_le _,Et (pm:= []) (bx:= [((1,nx8), .c (plX d true E0 E1 E2 E3 E4 S0 S1)),((0,nx5), .c (plX d false E0 [] E2 E3 E4 S0 S1))]) rfl rfl Bf trivial ⟨Rf,Rf,Rf,Rf,trivial⟩⟩
    ·rintro ⟨i,nx10⟩ hi
     dsimp only at hi
     refine stp ?_
     intro c g;cases c
     ·have g:=Ju g
      refine stp ?_
      exact back (3,nx10) Dm Dm (Et (pm:= []) (bx:= [((1,nx8), .c (plX d true E0 E1 E2 E3 E4 S0 S1)),((0,nx5), .c (plX d false E0 [] E2 E3 E4 S0 S1))]) rfl rfl Bf trivial ⟨Rf,Rf,Jk rfl,trivial⟩)
     ·have g:=Jv g
      try dsimp only at g
      have hi2:i < E2.length:=by omega
      refine stp ?_
      (refine J1 36 ?_ ?_ ?_ ?_;(· kernel_rfl);(· kernel_rfl);(· kernel_rfl))
      refine stp ?_
      refine ⟨Bd, ?_⟩
      refine stp ?_
      intro c hc
      have hc2:c=false:=hc.trans ((Jkc (E2.getD i ent0).num).trans (decide_eq_false (fun h=> absurd ((hb _ (Je4 hi2)).2.1 h) Dc)))
      clear hc
      cases hc2
      refine stp ?_
      refine ⟨Bd, ?_⟩
      refine stp ?_
      refine ⟨Bd, ?_⟩
      refine stp ?_
      intro c hc
      have hc2:c=false:=hc.trans (bne_self_eq_false _)
      clear hc
      cases hc2
      refine stp ?_
      exact back (i+1,nx10) hi2 Dm (Et (pm:= []) (bx:= [((1,nx8), .c (plX d true E0 E1 E2 E3 E4 S0 S1)),((0,nx5), .c (plX d false E0 [] E2 E3 E4 S0 S1))]) rfl rfl Bf trivial ⟨Rf,Rf,Rf,Lw,trivial⟩)
   ·have hb:=h3.2
    have hle:=h3.1
    refine AW.le (Et (n:=126) (nn:=6) (pm:= []) (bx:= [((1,nx8), .c (plX d true E0 E1 E2 E3 E4 S0 S1)),((0,nx5), .c (plX d false E0 [] E2 E3 E4 S0 S1))]) (L:= [(5, .bp (0,nx5) 0),(8, .bp (1,nx8) 0),(11,int (3:Nat))]) rfl rfl Bf trivial ⟨Rf,Rf,Rf,trivial⟩) ?_
    refine stp ?_
    (refine J1 15 ?_ ?_ ?_ ?_;(· kernel_rfl);(· kernel_rfl);(· kernel_rfl))
    refine stp ?_
    intro c hc
    have hc2:c=false:=hc.trans (bne_self_eq_false _)
    clear hc
    cases hc2
    refine stp ?_
    refine Jy (fun y:Nat×Nat=> mk 126 [(5, .bp (0,nx5) 0),(8, .bp (1,nx8) 0),(11,int (3:Nat)),(12,int y.1)] ⟨[((1,nx8), .c (plX d true E0 E1 E2 E3 E4 S0 S1)),((0,nx5), .c (plX d false E0 [] E2 E3 E4 S0 S1))], [],y.2,6⟩) (fun y=> y.1≤E3.length) (fun y=> E3.length - y.1) ?_ ?_
    ·exact ⟨(0,nx9),Nat.zero_le _,Et (pm:= []) (bx:= [((1,nx8), .c (plX d true E0 E1 E2 E3 E4 S0 S1)),((0,nx5), .c (plX d false E0 [] E2 E3 E4 S0 S1))]) rfl rfl Bf trivial ⟨Rf,Rf,Rf,Rf,trivial⟩⟩
    ·rintro ⟨i,nx10⟩ hi
     dsimp only at hi
     refine stp ?_
     intro c g;cases c
     ·have g:=Ju g
      refine stp ?_
      exact back (4,nx10) Dm Dm (Et (pm:= []) (bx:= [((1,nx8), .c (plX d true E0 E1 E2 E3 E4 S0 S1)),((0,nx5), .c (plX d false E0 [] E2 E3 E4 S0 S1))]) rfl rfl Bf trivial ⟨Rf,Rf,Jk rfl,trivial⟩)
     ·have g:=Jv g
      try dsimp only at g
      have hi2:i < E3.length:=by omega
      refine stp ?_
      (refine J1 36 ?_ ?_ ?_ ?_;(· kernel_rfl);(· kernel_rfl);(· kernel_rfl))
      refine stp ?_
      refine ⟨Bd, ?_⟩
      refine stp ?_
      intro c hc
      have hc2:c=false:=hc.trans ((Jkc (E3.getD i ent0).num).trans (decide_eq_false (fun h=> absurd ((hb _ (Je4 hi2)).2.1 h) Dc)))
      clear hc
      cases hc2
      refine stp ?_
      refine ⟨Bd, ?_⟩
      refine stp ?_
      refine ⟨Bd, ?_⟩
      refine stp ?_
      intro c hc
      have hc2:c=false:=hc.trans (bne_self_eq_false _)
      clear hc
      cases hc2
      refine stp ?_
      exact back (i+1,nx10) hi2 Dm (Et (pm:= []) (bx:= [((1,nx8), .c (plX d true E0 E1 E2 E3 E4 S0 S1)),((0,nx5), .c (plX d false E0 [] E2 E3 E4 S0 S1))]) rfl rfl Bf trivial ⟨Rf,Rf,Rf,Lw,trivial⟩)
   ·have hb:=h4.2
    have hle:=h4.1
    refine AW.le (Et (n:=126) (nn:=6) (pm:= []) (bx:= [((1,nx8), .c (plX d true E0 E1 E2 E3 E4 S0 S1)),((0,nx5), .c (plX d false E0 [] E2 E3 E4 S0 S1))]) (L:= [(5, .bp (0,nx5) 0),(8, .bp (1,nx8) 0),(11,int (4:Nat))]) rfl rfl Bf trivial ⟨Rf,Rf,Rf,trivial⟩) ?_
    refine stp ?_
    (refine J1 15 ?_ ?_ ?_ ?_;(· kernel_rfl);(· kernel_rfl);(· kernel_rfl))
    refine stp ?_
    intro c hc
    have hc2:c=false:=hc.trans (bne_self_eq_false _)
    clear hc
    cases hc2
    refine stp ?_
    refine Jy (fun y:Nat×Nat=> mk 126 [(5, .bp (0,nx5) 0),(8, .bp (1,nx8) 0),(11,int (4:Nat)),(12,int y.1)] ⟨[((1,nx8), .c (plX d true E0 E1 E2 E3 E4 S0 S1)),((0,nx5), .c (plX d false E0 [] E2 E3 E4 S0 S1))], [],y.2,6⟩) (fun y=> y.1≤E4.length) (fun y=> E4.length - y.1) ?_ ?_
    ·exact ⟨(0,nx9),Nat.zero_le _,Et (pm:= []) (bx:= [((1,nx8), .c (plX d true E0 E1 E2 E3 E4 S0 S1)),((0,nx5), .c (plX d false E0 [] E2 E3 E4 S0 S1))]) rfl rfl Bf trivial ⟨Rf,Rf,Rf,Rf,trivial⟩⟩
    ·rintro ⟨i,nx10⟩ hi
     dsimp only at hi
     refine stp ?_
     intro c g;cases c
     ·have g:=Ju g
      refine stp ?_
      exact back (5,nx10) Dm Dm (Et (pm:= []) (bx:= [((1,nx8), .c (plX d true E0 E1 E2 E3 E4 S0 S1)),((0,nx5), .c (plX d false E0 [] E2 E3 E4 S0 S1))]) rfl rfl Bf trivial ⟨Rf,Rf,Jk rfl,trivial⟩)
     ·have g:=Jv g
      try dsimp only at g
      have hi2:i < E4.length:=by omega
      refine stp ?_
      (refine J1 36 ?_ ?_ ?_ ?_;(· kernel_rfl);(· kernel_rfl);(· kernel_rfl))
      refine stp ?_
      refine ⟨Bd, ?_⟩
      refine stp ?_
      intro c hc
      have hc2:c=false:=hc.trans ((Jkc (E4.getD i ent0).num).trans (decide_eq_false (fun h=> absurd ((hb _ (Je4 hi2)).2.1 h) Dc)))
      clear hc
      cases hc2
      refine stp ?_
      refine ⟨Bd, ?_⟩
      refine stp ?_
      refine ⟨Bd, ?_⟩
      refine stp ?_
      intro c hc
      have hc2:c=false:=hc.trans (bne_self_eq_false _)
      clear hc
      cases hc2
      refine stp ?_
      exact back (i+1,nx10) hi2 Dm (Et (pm:= []) (bx:= [((1,nx8), .c (plX d true E0 E1 E2 E3 E4 S0 S1)),((0,nx5), .c (plX d false E0 [] E2 E3 E4 S0 S1))]) rfl rfl Bf trivial ⟨Rf,Rf,Rf,Lw,trivial⟩)
   ·refine stp ?_
    exact ⟨nx9,trivial,Jq (pm:= []) _ _ rfl rfl (.cons _ (.cons _ .slnil)) Sf trivial trivial trivial⟩
 ·rintro nx9 -
  refine stp ?_
  refine Jd rfl rfl hawk trivial fun nx10=> ?_
  refine stp ?_
  exact Je rfl Rf
set_option maxHeartbeats 8000000 in
theorem JsF (k n:Int) (x32:Bool) (rs:List Rul) (l:List TRow) (i e:Int) (he:e≠0)
 (hlt:Tells Tryz.prog 22 [JbN ⟨(k,n),x32,rs⟩] (Jb true)) (hfew:Tells Tryz.prog 23 [JN l] (Jb true)) (hof:∀b,Tells Tryz.prog 24 [JbN ⟨(k,n),b,rs⟩] (JbN ⟨(k,n),b,rs⟩)) (hrw:Tells Tryz.prog 25 [JN l] (JN l))
 (hr:∀b,Tells Tryz.prog 12 [JbN ⟨(k,n),b,rs⟩,JN l] (.tup [.ag (JcA Jml),int i,int e])):Tells Tryz.prog 6 [JbN ⟨(k,n),x32,rs⟩,JN l] (Jb true):=by
 have hawk:=JhE
 refine Jg Tryz.func6 rfl rfl fun nx=> ?_
 refine stp ?_
 refine Jd rfl rfl hlt ⟨Rf,trivial⟩ fun nx1=> ?_
 refine stp ?_
 refine Jd rfl rfl hfew ⟨Rf,trivial⟩ fun nx2=> ?_
 refine stp ?_
 refine Jd rfl rfl (hof false) ⟨Rf,trivial⟩ fun nx3=> ?_
 refine stp ?_
 refine Jd rfl rfl hrw ⟨Rf,trivial⟩ fun nx4=> ?_
 refine stp ?_
 refine Jd rfl rfl (hr false) ⟨Rf,Rf,trivial⟩ fun nx5=> ?_
 refine stp ?_
 refine Jd rfl rfl (hof true) ⟨Rf,trivial⟩ fun nx6=> ?_
 refine stp ?_
 refine Jd rfl rfl hrw ⟨Rf,trivial⟩ fun nx7=> ?_
 refine stp ?_
 refine Jd rfl rfl (hr true) ⟨Rf,Rf,trivial⟩ fun nx8=> ?_
 refine JU ?_
 refine AW.le (Jq (n:=126) (nx:=nx8+1) (nn:=6) (pm:= []) (bx:= []) (L:= [(7,int e),(10,int e)]) _ _ rfl rfl (List.nil_sublist _) Sf trivial trivial ⟨Rf,Rf,trivial⟩) ?_
 refine stp ?_
 intro c hc
 have hc2:c=false:=hc.trans (bne_self_eq_false _)
 clear hc
 cases hc2
 refine stp ?_
 intro c hc
 have hc2:c=true:=hc.trans (bne_iff_ne.2 he)
 clear hc
 cases hc2
 refine stp ?_
 refine Jd rfl rfl hawk trivial fun nx9=> ?_
 refine stp ?_
 exact Je rfl Rf
theorem JkX (p:Pol) (l:List TRow) (hp:p.ok) (hl:l.length≤maxLen) (hn:∀q∈l,q.name.size≤maxLen):Tells Tryz.prog 6 [JbN p,JN l] (Jb true):=by
 have hlt:=JsD p hp.1
 have hfew:=JqT l hl hn
 obtain ⟨⟨k,n⟩,x32,rs⟩:=p
 cases hlp:JeV ⟨(k,n),x32,rs⟩ with
 | false=>
   rw [hlp] at hlt
   refine Jg Tryz.func6 rfl rfl fun nx=> ?_
   refine stp ?_
   refine Jd rfl rfl hlt ⟨Rf,trivial⟩ fun nx5=> ?_
   refine stp ?_
   exact Je rfl Rf
 | true=>
   rw [hlp] at hlt
   have hpo:=JtY hp hlp
   have hps:=Jt2 hlp
   cases hfl:JiV l with
   | false=>
     rw [hfl] at hfew
     refine Jg Tryz.func6 rfl rfl fun nx=> ?_
     refine stp ?_
     refine Jd rfl rfl hlt ⟨Rf,trivial⟩ fun nx5=> ?_
     refine stp ?_
     refine Jd rfl rfl hfew ⟨Rf,trivial⟩ fun nx6=> ?_
     refine stp ?_
     exact Je rfl Rf
   | true=>
     rw [hfl] at hfew
     obtain ⟨hl40,hn60⟩:=JvY hfl
     have hof:∀b,_:=fun b=> Jvd ⟨(k,n),b,rs⟩ hpo.1 (fun r hr=> (hpo.2 r hr).1)
     have hrw:=Jn1 l Om
     have hR:∀b,_:=fun b=> JhB ⟨(k,n),b,rs⟩ l hp hps Om hn
     unfold JkV at hR
     by_cases hv:(Jae ⟨(k,n),x32,rs⟩ l).2=0
     ·cases hx:rs.findIdx? (Jej l) with
      | some i=>
        exact JsF k n x32 rs l i 17 Dc hlt hfew hof hrw fun b=> by
         have:=hR b
         rw [if_neg (fun h=> h hv)] at this
         dsimp only at this
         rw [hx] at this
         exact this
      | none=>
        have hok:∀b,Tells Tryz.prog 12 [JbN ⟨(k,n),b,rs⟩,JN l] (.tup [Jf4 (JV (JbP ⟨(k,n),x32,rs⟩ b) l),int 0,int 0]):=fun b=> by
         have:=hR b
         rw [if_neg (fun h=> h hv)] at this
         dsimp only at this
         rw [hx] at this
         exact this
        have hbit:∀b a,a < 5→JkW a ((JV (JbP ⟨(k,n),x32,rs⟩ b) l).ents a):=fun b a ha=> ⟨by
         rw [← JqV (p:=JbP ⟨(k,n),x32,rs⟩ b) hv ha]
         have:=List.length_filter_le (JhH (Jc (JbP ⟨(k,n),x32,rs⟩ b)) l a) (List.range l.length)
         rw [List.length_range] at this
         omega,fun e he=> Jt0 (p:=JbP ⟨(k,n),x32,rs⟩ b) hv he⟩
        have e0:(JV (JbP ⟨(k,n),x32,rs⟩ false) l).ents 0=(JV (JbP ⟨(k,n),x32,rs⟩ true) l).ents 0:=(JcM (b:=false) Dc).trans (JcM (b:=true) Dc).symm
        have e2:(JV (JbP ⟨(k,n),x32,rs⟩ false) l).ents 2=(JV (JbP ⟨(k,n),x32,rs⟩ true) l).ents 2:=(JcM (b:=false) Dc).trans (JcM (b:=true) Dc).symm
        have e3:(JV (JbP ⟨(k,n),x32,rs⟩ false) l).ents 3=(JV (JbP ⟨(k,n),x32,rs⟩ true) l).ents 3:=(JcM (b:=false) Dc).trans (JcM (b:=true) Dc).symm
        have e4:(JV (JbP ⟨(k,n),x32,rs⟩ false) l).ents 4=(JV (JbP ⟨(k,n),x32,rs⟩ true) l).ents 4:=(JcM (b:=false) Dc).trans (JcM (b:=true) Dc).symm
        refine Jv0 k n x32 rs l (JV (JbP ⟨(k,n),x32,rs⟩ true) l).dflt ((JV (JbP ⟨(k,n),x32,rs⟩ true) l).ents 0) ((JV (JbP ⟨(k,n),x32,rs⟩ true) l).ents 1) ((JV (JbP ⟨(k,n),x32,rs⟩ true) l).ents 2) ((JV (JbP ⟨(k,n),x32,rs⟩ true) l).ents 3) ((JV (JbP ⟨(k,n),x32,rs⟩ true) l).ents 4) ((JV (JbP ⟨(k,n),x32,rs⟩ true) l).subs 0) ((JV (JbP ⟨(k,n),x32,rs⟩ true) l).subs 1)
         (hbit true 0 Dc) (hbit true 1 Dc) (hbit true 2 Dc) (hbit true 3 Dc) (hbit true 4 Dc) hlt hfew hof hrw ?_ (hok true)
        have h0:=hok false
        unfold Jf4 at h0
        rw [JtZ,e0,e2,e3,e4] at h0
        exact h0
     ·exact JsF k n x32 rs l (Jae ⟨(k,n),x32,rs⟩ l).1 (Jae ⟨(k,n),x32,rs⟩ l).2 hv hlt hfew hof hrw fun b=> by
       have:=hR b
       rw [if_pos (show (Jae ⟨(k,n),b,rs⟩ l).2≠0 from hv)] at this
       exact this
end Go.Proofs.W
