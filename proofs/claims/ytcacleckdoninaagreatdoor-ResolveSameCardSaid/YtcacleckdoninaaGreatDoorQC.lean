/- From what a row hands in to trees of values: a law whose function answers true, whatever comes in. -/
import Derived.Test.YtcacleckdoninaaGreatDoorQB
import Derived.ProofKit
import Derived.SizedLaws
import Derived.RangeFuncRecord
import Derived.RecoverIn
import Derived.Lib.AppendZerosOnto
import Derived.Laws.CopyRow
set_option linter.unusedVariables false
set_option linter.unusedSimpArgs false
set_option maxHeartbeats 16000000
namespace Go.Vl
open Go.RowKit Go.ChangeShapes
variable {P:Program}
def mkAV (P:Program) (t:TypeId) (cs:List AV):AV:=
 match P.underlying t with
 | some d=> bif agD d then .ag cs else cs.headD .any
 | none=> .any
def Jg3 (P:Program):List Field→Nat→Option Nat
 | [],off=> some off
 | f::fs,off=> bif Nat.beq f.offset off then Jg3 P fs (off+P.cellsOf f.type) else none
def Jfy (P:Program):Nat→TypeId→Bool
 | 0,_=> false
 | d+1,t=>
   match P.underlying t with
   | some .bool | some (.int _) | some .string=> Nat.beq (P.cellsOf t) 1
   | some (.slice e)=> Nat.beq (P.cellsOf t) 1&& (Nat.blt 0 (P.cellsOf e)&& Jfy P d e)
   | some (.struct fs)=> (match Jg3 P fs.toList 0 with | some n=> Nat.beq n (P.cellsOf t) | none=> false)&& fs.toList.all fun f=> Jfy P d f.type
   | some (.array n e)=> Nat.beq (P.cellsOf t) (n * P.cellsOf e)&& Jfy P d e
   | _=> false
def wtyP (P:Program) (w:TypeId→List AV→Prop):List TypeId→List AV→Prop
 | [],as=> as= []
 | t::ts,as=> ∃p q,as=p++q∧w t p∧wtyP P w ts q
def wty (P:Program):Nat→TypeId→List AV→Prop
 | 0,_,_=> False
 | d+1,t,as=>
   match P.underlying t with
   | some .bool=> ∃b,as= [.v (.bool b)]
   | some (.int k)=> ∃n,as= [.v (.int k n)]∧(Lit.int k n).wf=true
   | some .string=> ∃s,as= [.v (.string s)]∧s.size≤maxLen
   | some (.slice e)=> ∃n f,as= [.sl (P.cellsOf e) n f]∧n≤maxLen∧∀i,i < n→∃cs,f i=mkAV P e cs∧wty P d e cs
   | some (.struct fs)=> wtyP P (wty P d) (fs.toList.map (·.type)) as
   | some (.array n e)=> wtyP P (wty P d) (List.replicate n e) as
   | _=> False
section
variable {H:Type} {enc:TypeId×Value→H} {w:World} {X:Nat→Nat→Prop} {g:List Nat}
def RepL (w:World) (X:Nat→Nat→Prop) (g:List Nat) (as:List AV) (vs:List Value):Prop:=
 vs.length=as.length∧∀(k:Nat) (c:AV) (u:Value),as[k]? =some c→vs[k]? =some u→Rep w X g c u
theorem RepL.append {as bs:List AV} {us vs:List Value} (h:RepL w X g as us) (k:RepL w X g bs vs):RepL w X g (as++bs) (us++vs):=by
 refine ⟨by simp [h.1,k.1],fun i c u hc hu=> ?_⟩
 rw [List.getElem?_append] at hc hu
 rw [h.1] at hu
 split at hc
 ·rename_i hi;rw [if_pos hi] at hu;exact h.2 i c u hc hu
 ·rename_i hi;rw [if_neg hi] at hu;exact k.2 _ c u hc hu
theorem RepL.one {a:AV} {u:Value} (h:Rep w X g a u):RepL w X g [a] [u]:=⟨rfl,fun k c v hc hv=> by
 cases k with
 | zero=> simp at hc hv;subst hc;subst hv;exact h
 | succ k=> simp at hc⟩
theorem JkE {n d:Nat} (ih:∀(t:TypeId) (cs:List Value) (dat:DataW H) (ps:List MemPlace),Jfy P d t=true→DataW.trod enc P w 0 (fun _=> true) true n t cs=some (dat,ps)→cs.length=P.cellsOf t∧∃as,RepL w X g as cs∧wty P d t as) (cs:List Value):
 ∀(fs:List Field) (off e:Nat) (xs:List (DataW H×List MemPlace)),Jg3 P fs off=some e→fs.all (fun f=> Jfy P d f.type)=true→
  fs.mapM (fun f=> DataW.trod enc P w 0 (fun _=> true) true n f.type ((cs.drop f.offset).take (P.cellsOf f.type)))=some xs→off≤cs.length→
  e≤cs.length∧∃as,RepL w X g as ((cs.drop off).take (e - off))∧off≤e∧wtyP P (wty P d) (fs.map (·.type)) as
 | [],off,e,xs,hc,_,_,hle=> by
   simp only [Jg3,Option.some.injEq] at hc;subst hc;exact ⟨hle, [],by simp [RepL],Nat.le_refl _,rfl⟩
 | f::fs,off,e,xs,hc,hok,hm,hle=> by
   simp only [Jg3] at hc;cases hb:Nat.beq f.offset off with
   | false=> simp [hb] at hc
   | true=>
     simp only [hb,cond_true] at hc;have hoff:=Nat.eq_of_beq_eq_true hb;simp only [List.all_cons,Bool.and_eq_true] at hok;rw [List.mapM_cons] at hm;cases h1:DataW.trod enc P w 0 (fun _=> true) true n f.type ((cs.drop f.offset).take (P.cellsOf f.type)) with
     | none=> rw [h1] at hm;cases hm
     | some x=>
       rw [h1] at hm;cases h2:fs.mapM (fun f=> DataW.trod enc P w 0 (fun _=> true) true n f.type ((cs.drop f.offset).take (P.cellsOf f.type))) with
       | none=> rw [h2] at hm;cases hm
       | some ys=>
         obtain ⟨hl,as,ha,hw⟩:=ih f.type _ x.1 x.2 hok.1 h1;rw [hoff] at hl ha;have hsz:off+P.cellsOf f.type≤cs.length:=by
          rw [List.length_take,List.length_drop] at hl;omega
         obtain ⟨he,bs,hb,hle2,hwb⟩:=JkE ih cs fs (off+P.cellsOf f.type) e ys hc hok.2 h2 hsz;refine ⟨he,as++bs, ?_,by omega,as,bs,rfl,hw,hwb⟩;have e0:e - off=P.cellsOf f.type+(e - (off+P.cellsOf f.type)):=Om;have e1:(cs.drop off).take (e - off)=(cs.drop off).take (P.cellsOf f.type)++(cs.drop (off+P.cellsOf f.type)).take (e - (off+P.cellsOf f.type)):=by
          rw [e0,List.take_add,List.drop_drop]
         rw [e1];exact ha.append hb
theorem JqK {a:Addr} {n:Nat} {us:List Value} (h:w.cells? 0 a n=some us):us.length=n∧∀(k:Nat) (u:Value),us[k]? =some u→w.cell? (a.add k)=some u:=by
 unfold World.cells? at h
 simp only [Nat.zero_le,if_true] at h
 have key:∀(l:List Nat) (us:List Value),l.mapM (fun i=> w.cell? (a.add i))=some us→us.length=l.length∧∀(k i:Nat) (u:Value),l[k]? =some i→us[k]? =some u→w.cell? (a.add i)=some u:=by
  intro l
  induction l with
  | nil=> intro us h;simp at h;subst h;exact ⟨rfl,by simp⟩
  | cons x l ih=>
    intro us h;rw [List.mapM_cons] at h;cases h1:w.cell? (a.add x) with
    | none=> rw [h1] at h;cases h
    | some v=>
      rw [h1] at h;cases h2:l.mapM (fun i=> w.cell? (a.add i)) with
      | none=> rw [h2] at h;cases h
      | some vs=>
        rw [h2] at h;simp at h;subst h;obtain ⟨q1,q2⟩:=ih vs h2;refine ⟨by simp [q1],fun k i u hi hu=> ?_⟩;cases k with
        | zero=> simp at hi hu;subst hi;subst hu;exact h1
        | succ k=> simp at hi hu;exact q2 k i u hi hu
 obtain ⟨q1,q2⟩:=key _ _ h
 refine ⟨by simpa using q1,fun k u hu=> q2 k k u ?_ hu⟩
 have:k < n:=by have:=(List.getElem?_eq_some_iff.1 hu).1;rw [q1] at this;simpa using this
 simp [this]
theorem JmF {α β:Type} {f:α→Option β}:∀ {l:List α} {ys:List β},l.mapM f=some ys→ys.length=l.length∧∀(k:Nat) (x:α),l[k]? =some x→∃y,ys[k]? =some y∧f x=some y
 | [],ys,h=> by simp at h;subst h;exact ⟨rfl,by simp⟩
 | x::l,ys,h=> by
   rw [List.mapM_cons] at h;cases h1:f x with
   | none=> rw [h1] at h;cases h
   | some y=>
     rw [h1] at h;cases h2:l.mapM f with
     | none=> rw [h2] at h;cases h
     | some zs=>
       rw [h2] at h;simp at h;subst h;obtain ⟨q1,q2⟩:=JmF h2;refine ⟨by simp [q1],fun k z hk=> ?_⟩;cases k with
       | zero=> simp at hk;subst hk;exact ⟨y,rfl,h1⟩
       | succ k=> simp at hk;simpa using q2 k z hk
theorem Jhu {d:Nat} {t:TypeId} {as:List AV} (h:wty P d t as):(mkAV P t as).cells=as:=by
 cases d with
 | zero=> exact h.elim
 | succ d=>
   unfold wty at h;unfold mkAV;cases ht:P.underlying t with
   | none=> simp [ht] at h
   | some D=>
     simp only [ht] at h⊢;cases D <;> simp only [] at h <;> first | (exact h.elim) | skip
     ·obtain ⟨b,rfl⟩:=h;rfl
     ·obtain ⟨n,rfl,_⟩:=h;rfl
     ·obtain ⟨n,rfl,_⟩:=h;rfl
     ·obtain ⟨n,f,rfl,_⟩:=h;rfl
     ·rfl
     ·rfl
theorem JrF {n d:Nat} {e:TypeId} (ih:∀(t:TypeId) (cs:List Value) (dat:DataW H) (ps:List MemPlace),Jfy P d t=true→DataW.trod enc P w 0 (fun _=> true) true n t cs=some (dat,ps)→cs.length=P.cellsOf t∧∃as,RepL w X g as cs∧wty P d t as) (cs:List Value) (hok:Jfy P d e=true):
 ∀(m i:Nat) (xs:List (DataW H×List MemPlace)),(List.range' i m).mapM (fun i=> DataW.trod enc P w 0 (fun _=> true) true n e ((cs.drop (i * P.cellsOf e)).take (P.cellsOf e)))=some xs→(i+m) * P.cellsOf e≤cs.length→
  ∃as,RepL w X g as ((cs.drop (i * P.cellsOf e)).take (m * P.cellsOf e))∧wtyP P (wty P d) (List.replicate m e) as
 | 0,i,xs,_,_=> ⟨[],by simp [RepL],rfl⟩
 | m+1,i,xs,hm,hle=> by
   rw [List.range'_succ,List.mapM_cons] at hm;cases h1:DataW.trod enc P w 0 (fun _=> true) true n e ((cs.drop (i * P.cellsOf e)).take (P.cellsOf e)) with
   | none=> rw [h1] at hm;cases hm
   | some x=>
     rw [h1] at hm;cases h2:(List.range' (i+1) m).mapM (fun i=> DataW.trod enc P w 0 (fun _=> true) true n e ((cs.drop (i * P.cellsOf e)).take (P.cellsOf e))) with
     | none=> rw [h2] at hm;cases hm
     | some ys=>
       obtain ⟨hl,as,ha,hw⟩:=ih e _ x.1 x.2 hok h1;obtain ⟨bs,hb,hwb⟩:=JrF ih cs hok m (i+1) ys h2 (by rw [Nat.add_right_comm];exact hle);refine ⟨as++bs, ?_,as,bs,rfl,hw,hwb⟩;have e1:(cs.drop (i * P.cellsOf e)).take ((m+1) * P.cellsOf e)=(cs.drop (i * P.cellsOf e)).take (P.cellsOf e)++(cs.drop ((i+1) * P.cellsOf e)).take (m * P.cellsOf e):=by
        rw [show (m+1) * P.cellsOf e=P.cellsOf e+m * P.cellsOf e by rw [Nat.add_mul,Nat.one_mul,Nat.add_comm],List.take_add,List.drop_drop,Nat.add_mul i 1,Nat.one_mul]
       rw [e1];exact ha.append hb
theorem JoB (hx:∀b o,¬X b o):∀(n d:Nat) (t:TypeId) (cs:List Value) (dat:DataW H) (ps:List MemPlace),Jfy P d t=true→DataW.trod enc P w 0 (fun _=> true) true n t cs=some (dat,ps)→
 cs.length=P.cellsOf t∧∃as,RepL w X g as cs∧wty P d t as
 | 0,_,_,_,_,_,_,h=> by simp [DataW.trod] at h
 | n+1,0,_,_,_,_,hok,_=> by simp [Jfy] at hok
 | n+1,d+1,t,cs,dat,ps,hok,h=> by
   have ih:=fun t cs dat ps hok h=> JoB hx n d t cs dat ps hok h;unfold Jfy at hok;unfold wty;unfold DataW.trod at h;cases ht:P.underlying t with
   | none=> simp [ht] at hok
   | some D=>
     simp only [ht] at hok h⊢;cases D <;> simp only [] at hok <;> first | (cases hok;done) | skip
     case bool=>
      have h1:=Nat.eq_of_beq_eq_true hok;split at h <;> first | (cases h;done) | skip
      all_goals rename_i he
      all_goals first | (cases he;done) | skip
      ·exact ⟨by simp [h1], [.v (.bool _)],RepL.one (.v _),_,rfl⟩
     case int k=>
      have h1:=Nat.eq_of_beq_eq_true hok;split at h <;> first | (cases h;done) | skip
      all_goals rename_i he
      all_goals first | (cases he;done) | skip
      ·cases he;split at h
       ·rename_i hk
        obtain ⟨rfl,hwf⟩:=hk;exact ⟨by simp [h1], [.v (.int _ _)],RepL.one (.v _),_,rfl,hwf⟩
       ·cases h
     case string=>
      have h1:=Nat.eq_of_beq_eq_true hok;split at h <;> first | (cases h;done) | skip
      all_goals rename_i he
      all_goals first | (cases he;done) | skip
      ·split at h
       ·rename_i hk
        exact ⟨by simp [h1], [.v (.string _)],RepL.one (.v _),_,rfl,hk⟩
       ·cases h
     case slice e=>
      simp only [Bool.and_eq_true] at hok;have h1:=Nat.eq_of_beq_eq_true hok.1;have hpos:=JbF hok.2.1;split at h <;> first | (cases h;done) | skip
      all_goals rename_i he
      all_goals first | (cases he;done) | skip
      ·cases he;exact ⟨by simp [h1], [.sl (P.cellsOf e) 0 (fun _=> .any)],RepL.one (.sl0 _ _ _ _),0,_,rfl,Nat.zero_le _,fun i hi=> absurd hi Om⟩
      ·cases he
       rename_i a len cap
       refine ⟨by simp [h1], ?_⟩;split at h
       ·rename_i hcond
        cases hm:(List.range len).mapM (fun i=> (w.cells? 0 (a.add (i * P.cellsOf e)) (P.cellsOf e)).bind (DataW.trod enc P w 0 (fun _=> true) true n e)) with
        | none=> rw [hm] at h;cases h
        | some elems=>
          obtain ⟨hm1,hm2⟩:=JmF hm;have elem:∀i,i < len→∃us as,us.length=P.cellsOf e∧(∀(k:Nat) (u:Value),us[k]? =some u→w.cell? ((a.add (i * P.cellsOf e)).add k)=some u)∧RepL w X g as us∧wty P d e as:=by
           intro i hi;obtain ⟨y,_,hy⟩:=hm2 i i (by simp [hi]);obtain ⟨us,hu,htr⟩:=Option.bind_eq_some_iff.1 hy;obtain ⟨c1,c2⟩:=JqK hu;obtain ⟨q1,as,q2,q3⟩:=ih e us y.1 y.2 hok.2.2 htr;exact ⟨us,as,c1,c2,q2,q3⟩
          by_cases hlen:len=0
          ·subst hlen;exact ⟨[.sl (P.cellsOf e) 0 (fun _=> .any)],RepL.one (.sl0 _ _ _ _),0,_,rfl,Nat.zero_le _,fun i hi=> absurd hi Om⟩
          ·obtain ⟨b,off,spot⟩:=a;have hspot:spot=none:=by
            obtain ⟨us,as,c1,c2,_,_⟩:=elem 0 Om;have:=c2 0 us[0] (List.getElem?_eq_getElem Om);simp only [Nat.zero_mul] at this;have ha:((⟨b,off,spot⟩:Addr).add 0).add 0=⟨b,off,spot⟩:=rfl;rw [ha] at this;unfold World.cell? at this;split at this
            ·cases spot with
             | none=> rfl
             | some s=> simp at this
            ·cases this
           subst hspot;have elem':∀i:Fin len,∃us as,us.length=P.cellsOf e∧(∀(k:Nat) (u:Value),us[k]? =some u→w.cell? ⟨b,off+i * P.cellsOf e+k,none⟩=some u)∧RepL w X g as us∧wty P d e as:=fun i=> by
            obtain ⟨us,as,c1,c2,c3,c4⟩:=elem i i.2;exact ⟨us,as,c1,fun k u hk=> by have:=c2 k u hk;rw [J1,J1] at this;exact this,c3,c4⟩
           let us:Nat→List Value:=fun i=> if hi:i < len then Classical.choose (elem' ⟨i,hi⟩) else []
           have hus:∀i (hi:i < len),us i=Classical.choose (elem' ⟨i,hi⟩):=fun i hi=> by simp [us,hi]
           let as:Nat→List AV:=fun i=> if hi:i < len then Classical.choose (Classical.choose_spec (elem' ⟨i,hi⟩)) else []
           have has:∀i (hi:i < len),as i=Classical.choose (Classical.choose_spec (elem' ⟨i,hi⟩)):=fun i hi=> by simp [as,hi]
           have spec:∀i,i < len→(us i).length=P.cellsOf e∧(∀(k:Nat) (u:Value),(us i)[k]? =some u→w.cell? ⟨b,off+i * P.cellsOf e+k,none⟩=some u)∧RepL w X g (as i) (us i)∧wty P d e (as i):=fun i hi=> by
            rw [hus i hi,has i hi];exact Classical.choose_spec (Classical.choose_spec (elem' ⟨i,hi⟩))
           let vs:List Value:=(List.range (len * P.cellsOf e)).map fun k=> (w.cell? ⟨b,off+k,none⟩).getD undef
           have hvs:∀i j,i < len→j < P.cellsOf e→vs[i * P.cellsOf e+j]? =(us i)[j]? ∧w.cell? ⟨b,off+(i * P.cellsOf e+j),none⟩=(us i)[j]? :=by
            intro i j hi hj;obtain ⟨s1,s2,_,_⟩:=spec i hi;have hju:(us i)[j]? =some (us i)[j]:=List.getElem?_eq_getElem Om;have hc:=s2 j _ hju;rw [Nat.add_assoc] at hc;have hle:(i+1) * P.cellsOf e≤len * P.cellsOf e:=Nat.mul_le_mul_right _ hi;rw [Nat.add_mul,Nat.one_mul] at hle;have hlt:i * P.cellsOf e+j < len * P.cellsOf e:=Om;refine ⟨?_,by rw [hc,hju]⟩;simp only [vs,List.getElem?_map,List.getElem?_range hlt,Option.map_some,hc,Option.getD_some,hju]
           refine ⟨[.sl (P.cellsOf e) len (fun i=> mkAV P e (as i))],RepL.one ?_,len,_,rfl,by omega,fun i hi=> ⟨as i,rfl,(spec i hi).2.2.2⟩⟩;refine .sl _ _ _ b off cap vs (by simp [vs]) hcond.2.1 (fun k u hk=> ⟨?_,hx _ _⟩) (fun i hi=> ?_) (fun i j c u hi hj hu=> ?_)
           ·have hklt:k < len * P.cellsOf e:=(by simpa [vs] using (List.getElem?_eq_some_iff.1 hk).1);have hdm:=Nat.div_add_mod k (P.cellsOf e);have hdiv:k / P.cellsOf e < len:=(by rw [Nat.div_lt_iff_lt_mul hpos];exact hklt);obtain ⟨e1,e2⟩:=hvs (k / P.cellsOf e) (k % P.cellsOf e) hdiv (Nat.mod_lt _ hpos);rw [Nat.mul_comm,hdm] at e1 e2;rw [e2,← e1];exact hk
           ·rw [Jhu (spec i hi).2.2.2,← (spec i hi).2.2.1.1,(spec i hi).1]
           ·rw [Jhu (spec i hi).2.2.2] at hj;have hjl:j < P.cellsOf e:=(by rw [← (spec i hi).1,(spec i hi).2.2.1.1];exact (List.getElem?_eq_some_iff.1 hj).1);rw [(hvs i j hi hjl).1] at hu;exact (spec i hi).2.2.1.2 j c u hj hu
       ·cases h
     case array m e=>
      simp only [Bool.and_eq_true] at hok;have h1:=Nat.eq_of_beq_eq_true hok.1;change (if cs.length=P.cellsOf t then ((List.range m).mapM fun i=> DataW.trod enc P w 0 (fun _=> true) true n e ((cs.drop (i * P.cellsOf e)).take (P.cellsOf e))).map (fun xs=> (DataW.agg (xs.map (·.1)),xs.flatMap (·.2))) else none)=some (dat,ps) at h;split at h
      ·rename_i hcl
       cases hm:(List.range m).mapM (fun i=> DataW.trod enc P w 0 (fun _=> true) true n e ((cs.drop (i * P.cellsOf e)).take (P.cellsOf e))) with
       | none=> rw [hm] at h;cases h
       | some xs=>
         rw [List.range_eq_range'] at hm;obtain ⟨as,q1,q2⟩:=JrF ih cs hok.2 m 0 xs hm (by rw [Nat.zero_add];omega);refine ⟨hcl,as, ?_,q2⟩;rw [Nat.zero_mul,List.drop_zero,← h1,← hcl,List.take_length] at q1;exact q1
      ·cases h
     case struct fs=>
      simp only [Bool.and_eq_true] at hok;change (if cs.length=P.cellsOf t then (fs.toList.mapM fun f=> DataW.trod enc P w 0 (fun _=> true) true n f.type ((cs.drop f.offset).take (P.cellsOf f.type))).map (fun xs=> (DataW.agg (xs.map (·.1)),xs.flatMap (·.2))) else none)=some (dat,ps) at h;split at h
      ·rename_i hcl
       cases hm:fs.toList.mapM (fun f=> DataW.trod enc P w 0 (fun _=> true) true n f.type ((cs.drop f.offset).take (P.cellsOf f.type))) with
       | none=> rw [hm] at h;cases h
       | some xs=>
         cases hcg:Jg3 P fs.toList 0 with
         | none=> rw [hcg] at hok;cases hok.1
         | some m=>
           rw [hcg] at hok;have h1:=Nat.eq_of_beq_eq_true hok.1;obtain ⟨q0,as,q1,_,q2⟩:=JkE ih cs fs.toList 0 m xs hcg hok.2 hm (Nat.zero_le _);refine ⟨hcl,as, ?_,q2⟩;rw [List.drop_zero,Nat.sub_zero,h1,← hcl,List.take_length] at q1;exact q1
      ·cases h
def JkF (P:Program) (d:Nat):List TypeId→List AV→Prop
 | [], []=> True
 | t::ts,a::as=> (∃cs,a=mkAV P t cs∧wty P d t cs)∧JkF P d ts as
 | _,_=> False
theorem JwP {r:Reach} {base d:Nat} {t:TypeId} {v:Value} {as:List AV} (hok:Value.okWide P w r base t v) (hr:RepL w X g as v.cells.toList) (hw:wty P d t as):Rep w X g (mkAV P t as) v:=by
 cases d with
 | zero=> exact hw.elim
 | succ d=>
   unfold wty at hw;unfold mkAV;unfold Value.okWide Cell.okWide Cell.ok at hok;have one:∀ {a:AV},as= [a]→(∀cs,v≠ .agg cs)→Rep w X g a v:=by
    intro a ha hn;subst ha;have hc:v.cells.toList= [v]:=(by cases v <;> first | rfl | exact absurd rfl (hn _));rw [hc] at hr;exact hr.2 0 a v rfl rfl
   cases ht:P.underlying t with
   | none=> simp [ht] at hw
   | some D=>
     simp only [ht] at hw hok⊢;cases D <;> simp only [] at hw <;> first | (exact hw.elim) | skip
     ·obtain ⟨b,rfl⟩:=hw;exact one rfl (fun cs h=> by subst h;simp at hok)
     ·obtain ⟨n,rfl,_⟩:=hw;exact one rfl (fun cs h=> by subst h;simp at hok)
     ·obtain ⟨n,rfl,_⟩:=hw;exact one rfl (fun cs h=> by subst h;simp at hok)
     ·obtain ⟨n,f,rfl,_⟩:=hw;exact one rfl (fun cs h=> by subst h;simp at hok)
     ·obtain ⟨cs,rfl,_⟩:=hok;have:=Rep.ag (w:=w) (X:=X) (g:=g) as cs.toList hr.1 hr.2;simpa [agD] using this
     ·obtain ⟨cs,rfl,_⟩:=hok;have:=Rep.ag (w:=w) (X:=X) (g:=g) as cs.toList hr.1 hr.2;simpa [agD] using this
theorem JjA {d base:Nat} {r:Reach} (hx:∀b o,¬X b o):∀(ts:List TypeId) (vs:List Value) (ds:List (DataW H)) (ps:List MemPlace),ts.all (Jfy P d)=true→DataW.TrodAll enc P w 0 (fun _=> true) true ts vs ds ps→
 (∀(j:Nat) (t:TypeId) (v:Value),ts[j]? =some t→vs[j]? =some v→Value.okWide P w r base t v)→∃as,vs.length=as.length∧JkF P d ts as∧∀(k:Nat) (c:AV) (u:Value),as[k]? =some c→vs[k]? =some u→Rep w X g c u
 | [], [], [],_,_,_,_=> ⟨[],rfl,trivial,by simp⟩
 | t::ts,v::vs,x::ds,ps,hok,h,hv=> by
   obtain ⟨p,q,⟨n,h1⟩,h2,_⟩:=h;simp only [List.all_cons,Bool.and_eq_true] at hok;obtain ⟨as,q1,q2,q3⟩:=JjA hx ts vs ds q hok.2 h2 (fun j t v hj hj'=> hv (j+1) t v (by simpa using hj) (by simpa using hj'));obtain ⟨_,cs,q4,q5⟩:=JoB (X:=X) (g:=g) hx n d t _ x p hok.1 h1;refine ⟨mkAV P t cs::as,by simp [q1],⟨⟨cs,rfl,q5⟩,q2⟩,fun k c u hc hu=> ?_⟩;cases k with
   | zero=> simp at hc hu;subst hc;subst hu;exact JwP (hv 0 t v rfl rfl) q4 q5
   | succ k=> simp at hc hu;exact q3 k c u hc hu
 | [],_::_,_,_,_,h,_=> h.elim
 | [], [],_::_,_,_,h,_=> h.elim
 | _::_, [],_,_,_,h,_=> h.elim
 | _::_,_::_, [],_,_,h,_=> h.elim
theorem JuE {f:FuncId} {fn:Func} {args:Array Value} {ds:List (DataW H)} {ps:List MemPlace} {d base:Nat} {r:Reach} (hok:fn.params.toList.all (Jfy P d)=true)
 (hval:∀(j:Nat) (t:TypeId) (v:Value),fn.params[j]? =some t→args[j]? =some v→Value.okWide P w r base t v) (hA:DataW.TrodAll enc P w 0 (fun _=> true) true fn.params.toList args.toList ds ps)
 (hlaw:∀as:List AV,JkF P d fn.params.toList as→PCall P f as (fun r=> r= .v (.bool true))) (hkn:Kn w none2):
 Calls P f args w fun e w'=> e= .returned (.bool true)∧Below w.heap.size w w':=by
 have hX:∀b o,¬excl none2 [] ⟨[], [],0,0⟩ b o:=by
  rintro b o (h | ⟨p,hp,_⟩ | ⟨p,hp,_⟩)
  ·exact h
  ·cases hp
  ·cases hp
 obtain ⟨as,q1,q2,q3⟩:=JjA (X:=excl none2 [] ⟨[], [],0,0⟩) (g:= []) (base:=base) (r:=r) hX _ _ _ _ hok hA (fun j t v hj hj'=> hval j t v (by simpa using hj) (by simpa using hj'))
 obtain ⟨_,hc⟩:=hlaw as q2 0
 have:=hc none2 w [] args.toList ⟨by simp,by simp,by simp [Heap.ids],rfl,fun b o hx=> absurd hx (hX b o),fun p hp=> ⟨(hkn p hp).1,fun o hx=> hX _ o hx⟩⟩ (fun b o h=> h.elim) q1 q3
 rw [Array.toArray_toList] at this
 refine this.mono fun e w' ⟨r,h',g',a6,q,_,_,_,a7,_⟩=> ?_
 cases r with
 | pan x=> exact q.elim
 | ret r=>
 obtain ⟨a2,_,_⟩:=q
 obtain ⟨u,a1,a6⟩:=a6
 subst a2
 cases a6
 exact ⟨a1,(a7.mono fun b o _ hx=> (hX b o hx).elim).below⟩
theorem Jh3 (hl:laidOutB P=true) {W W':World} (hb:Below W.heap.size W W'):∀ {ts:List TypeId} {vs:List Value} {ds:List (DataW H)} {ps:List MemPlace},
 (∀t∈ts,P.readableRec t=true∧t < P.types.size)→DataW.TrodAll enc P W 0 (fun _=> true) true ts vs ds ps→DataW.TrodAll enc P W' 0 (fun b=> decide (b < W.heap.size)) true ts vs ds ps
 | [], [], [],_,_,h=> h
 | t::ts,v::vs,x::ds,ps,hr,h=> by
   have hlt:=h.lt;obtain ⟨p,q,h1,h2,rfl⟩:=h;obtain ⟨r1,r2⟩:=hr t Si;exact ⟨p,q,Below.trod hl r1 r2 h1 hb (fun x hx=> hlt x (List.mem_append_left _ hx)),Jh3 hl hb (fun t ht=> hr t (List.mem_cons_of_mem _ ht)) h2,rfl⟩
 | [],_::_,_,_,_,h=> h.elim
 | [], [],_::_,_,_,h=> h.elim
 | _::_, [],_,_,_,h=> h.elim
 | _::_,_::_, [],_,_,h=> h.elim
theorem JwQ {s:ChangeSpec} {fn:Func} {args:Array Value} {ds gs:List (DataW H)} {ps:List MemPlace} {tb:TypeId} {W W':World} (hvars:s.vars= []) (hres:fn.resultTypes= #[tb]) (htb:P.underlying tb=some .bool)
 (hfn:∀ds:List (DataW H),ds.length=fn.params.toList.length→(s.fn H (ds++ [])).results= [.lit (.bool true)]∧(s.fn H (ds++ [])).args=ds∧(s.fn H (ds++ [])).vars= [])
 (hw:DataW.Whole enc P fn.params.toList s.vars false W args.toList ds gs ps) (hl:laidOutB P=true) (hr:∀t∈fn.params.toList,P.readableRec t=true∧t < P.types.size)
 (hb:Below W.heap.size W W'):s.post enc P fn false true false false W args (.bool true) W':=by
 have hw':=hw
 obtain ⟨p,q,h1,h2,rfl,h3,h4⟩:=hw
 rw [hvars] at h2
 obtain ⟨rfl,rfl⟩:gs= []∧q= []:=by
  cases gs with
  | nil=> exact ⟨rfl,h2⟩
  | cons _ _=> exact h2.elim
 have hlen:ds.length=fn.params.toList.length:=by
  have:∀ {ts:List TypeId} {vs:List Value} {ds:List (DataW H)} {ps:List MemPlace},DataW.TrodAll enc P W 0 (fun _=> true) true ts vs ds ps→ds.length=ts.length:=by
   intro ts
   induction ts with
   | nil=> intro vs ds ps h;cases vs <;> cases ds <;> first | rfl | exact h.elim
   | cons t ts ih=>
     intro vs ds ps h;cases vs with
     | nil=> exact h.elim
     | cons v vs=>
       cases ds with
       | nil=> exact h.elim
       | cons x ds=> obtain ⟨p,q,_,h2,_⟩:=h;simp [ih h2]
  exact this h1
 obtain ⟨f1,f2,f3⟩:=hfn ds hlen
 refine ⟨ds, [],p++ [], [],p, [],hw', ?_, ?_, ?_,hb.frame _,fun h=> by cases h⟩
 ·rw [f1,hres];exact trodAll_mk1 (shut_bool htb true)
 ·rw [f2];exact Jh3 hl hb hr h1
 ·rw [f3,hvars];rfl
end
end Go.Vl

/- Data, as trees of values: what arguments a law may be handed, told by lists, numbers, tuples. Memory of one's own that is no more written. -/
namespace Go.Vl
open Go.RowKit
variable {P:Program}
structure Cov (P:Program) (d:Nat) (t:TypeId) {α:Type} (e:α→AV) (ok:α→Prop):Prop where
 h:∀cs,wty P d t cs→∃x,ok x∧LeL cs (e x).cells∧AVle (mkAV P t cs) (e x)
structure CovP (P:Program) (d:Nat) (ts:List TypeId) {α:Type} (e:α→List AV) (ok:α→Prop):Prop where
 h:∀cs,wtyP P (wty P d) ts cs→∃x,ok x∧LeL cs (e x)
theorem LeL.append:∀ {as bs cs ds:List AV},LeL as bs→LeL cs ds→LeL (as++cs) (bs++ds)
 | [], [],_,_,_,h=> h
 | _::_,_::_,_,_,h,k=> ⟨h.1,LeL.append h.2 k⟩
 | [],_::_,_,_,h,_=> h.elim
 | _::_, [],_,_,h,_=> h.elim
theorem Cov.map {d:Nat} {t:TypeId} {α β:Type} {e:α→AV} {e':β→AV} {ok:α→Prop} {ok':β→Prop} (h:Cov P d t e ok) (f:α→β) (he:∀x,e x=e' (f x)) (ho:∀x,ok x→ok' (f x)):Cov P d t e' ok':=
 ⟨fun cs hw=> let ⟨x,h1,h2,h3⟩:=h.h cs hw;⟨f x,ho x h1,by rw [← he];exact h2,by rw [← he];exact h3⟩⟩
theorem Cov.of_cell {d:Nat} {t:TypeId} {α:Type} {e:α→AV} {ok:α→Prop} {D:TypeDesc} (ht:P.underlying t=some D) (hD:agD D=false)
 (h:∀cs,wty P d t cs→∃x,ok x∧cs.length=1∧(e x).cells= [e x]∧AVle (cs.headD .any) (e x)):Cov P d t e ok:=by
 refine ⟨fun cs hw=> ?_⟩
 obtain ⟨x,h1,h2,h3,h4⟩:=h cs hw
 refine ⟨x,h1, ?_, ?_⟩
 ·match cs,h2 with
  | [c],_=> rw [h3];exact ⟨h4,trivial⟩
 ·simp only [mkAV,ht,hD,cond_false];exact h4
theorem Cov.bool {d:Nat} {t:TypeId} (ht:P.underlying t=some .bool):Cov P (d+1) t (fun b:Bool=> .v (.bool b)) (fun _=> True):=
 Cov.of_cell ht rfl fun cs hw=> by
  simp only [wty,ht] at hw;obtain ⟨b,rfl⟩:=hw;exact ⟨b,trivial,rfl,rfl,AVle.refl _⟩
theorem Cov.int {d:Nat} {t:TypeId} {k:IntKind} (ht:P.underlying t=some (.int k)):Cov P (d+1) t (fun n:Int=> .v (.int k n)) (fun n=> (Lit.int k n).wf=true):=
 Cov.of_cell ht rfl fun cs hw=> by
  simp only [wty,ht] at hw;obtain ⟨b,rfl,h⟩:=hw;exact ⟨b,h,rfl,rfl,AVle.refl _⟩
theorem Cov.str {d:Nat} {t:TypeId} (ht:P.underlying t=some .string):Cov P (d+1) t (fun s:ByteArray=> .v (.string s)) (fun s=> s.size≤maxLen):=
 Cov.of_cell ht rfl fun cs hw=> by
  simp only [wty,ht] at hw;obtain ⟨b,rfl,h⟩:=hw;exact ⟨b,h,rfl,rfl,AVle.refl _⟩
theorem Cov.slice {d:Nat} {t e:TypeId} {α:Type} {en:α→AV} {ok:α→Prop} (dflt:α) (ht:P.underlying t=some (.slice e)) (he:Cov P d e en ok) (hsz:∀x,(en x).cells.length=P.cellsOf e):
 Cov P (d+1) t (fun l:List α=> JF (P.cellsOf e) en dflt l) (fun l=> l.length≤maxLen∧∀x∈l,ok x):=
 Cov.of_cell ht rfl fun cs hw=> by
  simp only [wty,ht] at hw;obtain ⟨n,f,rfl,hn,hf⟩:=hw;have key:∀m,m≤n→∃l:List α,l.length=m∧(∀x∈l,ok x)∧∀(i:Nat) (x:α),l[i]? =some x→∃cs,f i=mkAV P e cs∧wty P d e cs∧LeL cs (en x).cells∧AVle (mkAV P e cs) (en x):=by
   intro m
   induction m with
   | zero=> intro _;exact ⟨[],rfl,by simp,by simp⟩
   | succ m ih=>
     intro hm;obtain ⟨l,h1,h2,h3⟩:=ih Om;obtain ⟨cs,h4,h5⟩:=hf m Om;obtain ⟨x,h6,h7,h8⟩:=he.h cs h5;refine ⟨l++ [x],by simp [h1],fun y hy=> ?_,fun i y hy=> ?_⟩
     ·rcases List.mem_append.1 hy with hy | hy
      ·exact h2 y hy
      ·simp at hy;subst hy;exact h6
     ·rw [List.getElem?_append] at hy;split at hy
      ·exact h3 i y hy
      ·rename_i hi
       have:i=m:=by
        have:=(List.getElem?_eq_some_iff.1 hy).1;simp at this;omega
       subst this;rw [h1,Nat.sub_self] at hy;simp at hy;subst hy;exact ⟨cs,h4,h5,h7,h8⟩
  obtain ⟨l,h1,h2,h3⟩:=key n (Nat.le_refl _);refine ⟨l,⟨by omega,h2⟩,rfl,rfl, ?_⟩;subst h1;refine AVle.sl_congr (fun k hk=> ?_) (fun k hk hc=> ?_)
  ·obtain ⟨cs,q1,q2,q3,q4⟩:=h3 k _ (List.getElem?_eq_getElem hk);rw [q1];simpa [List.getD,hk] using q4
  ·obtain ⟨cs,q1,q2,q3,q4⟩:=h3 k _ (List.getElem?_eq_getElem hk);refine ⟨hsz _,fun j c c' hj hj'=> ?_⟩;rw [q1,Jhu q2] at hj;exact q3.get.2 j c c' hj (by simpa [List.getD,hk] using hj')
theorem CovP.nil {d:Nat}:CovP P d [] (fun _:Unit=> []) (fun _=> True):=⟨fun cs h=> ⟨(),trivial,by rw [show cs= [] from h];trivial⟩⟩
theorem CovP.cons {d:Nat} {t:TypeId} {ts:List TypeId} {α β:Type} {e:α→AV} {es:β→List AV} {ok:α→Prop} {oks:β→Prop} (h:Cov P d t e ok) (k:CovP P d ts es oks):
 CovP P d (t::ts) (fun p:α×β=> (e p.1).cells++es p.2) (fun p=> ok p.1∧oks p.2):=⟨fun cs hw=> by
 obtain ⟨p,q,rfl,h1,h2⟩:=hw
 obtain ⟨x,a1,a2,_⟩:=h.h p h1
 obtain ⟨y,b1,b2⟩:=k.h q h2
 exact ⟨(x,y),⟨a1,b1⟩,a2.append b2⟩⟩
theorem CovP.rep {d:Nat} {t:TypeId} {α:Type} {e:α→AV} {ok:α→Prop} (h:Cov P d t e ok):∀n:Nat,CovP P d (List.replicate n t) (fun l:List α=> (l.map fun x=> (e x).cells).flatten) (fun l=> l.length=n∧∀x∈l,ok x)
 | 0=> ⟨fun cs hw=> ⟨[],⟨rfl,by simp⟩,by rw [show cs= [] from hw];trivial⟩⟩
 | n+1=> ⟨fun cs hw=> by
   obtain ⟨p,q,rfl,h1,h2⟩:=hw;obtain ⟨x,a1,a2,_⟩:=h.h p h1;obtain ⟨l,⟨b1,b2⟩,b3⟩:=(CovP.rep h n).h q h2;refine ⟨x::l,⟨by simp [b1],fun y hy=> ?_⟩,by simpa using a2.append b3⟩;rcases List.mem_cons.1 hy with rfl | hy
   ·exact a1
   ·exact b2 y hy⟩
theorem Cov.ag {d:Nat} {t:TypeId} {ts:List TypeId} {α:Type} {es:α→List AV} {ok:α→Prop} {D:TypeDesc} (ht:P.underlying t=some D) (hD:agD D=true) (hw:∀cs,wty P (d+1) t cs→wtyP P (wty P d) ts cs)
 (h:CovP P d ts es ok):Cov P (d+1) t (fun x=> .ag (es x)) ok:=⟨fun cs hc=> by
 obtain ⟨x,h1,h2⟩:=h.h cs (hw cs hc)
 exact ⟨x,h1,h2,by simp only [mkAV,ht,hD,cond_true];exact AVle.ags h2⟩⟩
theorem Cov.struct {d:Nat} {t:TypeId} {fs:Array Field} {ts:List TypeId} {α:Type} {es:α→List AV} {ok:α→Prop} (ht:P.underlying t=some (.struct fs)) (hts:fs.toList.map (·.type)=ts) (h:CovP P d ts es ok):
 Cov P (d+1) t (fun x=> .ag (es x)) ok:=Cov.ag ht rfl (fun cs hc=> by simp only [wty,ht,hts] at hc;exact hc) h
theorem Cov.array {d:Nat} {t e:TypeId} {n:Nat} {α:Type} {en:α→AV} {ok:α→Prop} (ht:P.underlying t=some (.array n e)) (h:Cov P d e en ok):
 Cov P (d+1) t (fun l:List α=> .ag ((l.map fun x=> (en x).cells).flatten)) (fun l=> l.length=n∧∀x∈l,ok x):=Cov.ag ht rfl (fun cs hc=> by simp only [wty,ht] at hc;exact hc) (CovP.rep h n)
theorem PCall.args {f:FuncId} {as bs:List AV} {R:AV→Prop} (hl:LeL as bs) (h:PCall P f bs R):PCall P f as R:=fun nx=> (h nx).args hl
theorem JsI {d:Nat} {t:TypeId} {α:Type} {e:α→AV} {ok:α→Prop} (h:Cov P d t e ok) {f:FuncId} {R:AV→Prop} (k:∀x,ok x→PCall P f [e x] R):∀as,JkF P d [t] as→PCall P f as R
 | [a],⟨⟨cs,ha,hw⟩,_⟩=> by
   obtain ⟨x,h1,_,h3⟩:=h.h cs hw;subst ha;exact PCall.args (bs:= [e x]) ⟨h3,trivial⟩ (k x h1)
 | [],h=> h.elim
 | _::_::_,h=> h.2.elim
def Frz (bs:List (Nat×Own)) (a a':AV):Prop:=
 ∀w X g u,(∀p∈bs,∃b,g[p.1]? =some b∧(∀o,¬X b o)∧OwnRep w X g b p.2)→Rep w X g a u→Rep w X g a' u
theorem Frz.of_le {bs:List (Nat×Own)} {a a':AV} (h:AVle a a'):Frz bs a a':=fun w X g u _ hr=> h w X g u hr
theorem Frz.refl {bs:List (Nat×Own)} (a:AV):Frz bs a a:= .of_le (AVle.refl a)
theorem Frz.bp {bs:List (Nat×Own)} {i:Id} {off:Nat} {cs cs':List AV} (hm:(i.2, .c cs)∈bs) (hc:cs.drop off=cs'):Frz bs (.bp i off) (.rp cs'):=fun w X g u h hr=> by
 obtain ⟨b,h1,h4,vs,e,h2,h3,h5⟩:=h _ hm
 cases hr with
 | bp _ _ b' hg=>
   dsimp only at h1;rw [h1] at hg;cases hg;subst hc;refine .rp _ b off (vs.toList.drop off) (by simp [h3]) (fun k u hk=> ?_) (fun k c u hk hu=> ?_)
   ·rw [List.getElem?_drop] at hk;exact ⟨by rw [Jz h2];simpa using hk,h4 _⟩
   ·rw [List.getElem?_drop] at hk hu;exact h5 _ c u hk (by simpa using hu)
theorem Frz.om {bs:List (Nat×Own)} {i:Id} {es:List (Value×AV)} (hm:(i.2, .mp es)∈bs):Frz bs (.om i) (.fm es):=fun w X g u h hr=> by
 obtain ⟨b,h1,h4,ents,h2,h3,h5⟩:=h _ hm
 cases hr with
 | om _ b' hg=>
   dsimp only at h1;rw [h1] at hg;cases hg;exact .fm es b ents h2 h4 h3 (fun k p e hp he=> ⟨(h5 k p e hp he).1,(h5 k p e hp he).2.1⟩) (fun k p e hp he=> (h5 k p e hp he).2.2)
theorem Frz.hs {bs:List (Nat×Own)} {i:Id} {off n cap sz:Nat} {f:Nat→AV} {cs:List AV} (hm:(i.2, .c cs)∈bs) (hcap:n≤cap) (hn:(off+n) * sz≤cs.length∨off+n * sz≤cs.length) (hsz:∀k,k < n→(f k).cells.length=sz)
 (hf:∀k,k < n→∀j c,(f k).cells[j]? =some c→∃c0,cs[off+(k * sz+j)]? =some c0∧AVle c0 c) (hle:off+n * sz≤cs.length):Frz bs (.hs i off n cap) (.sl sz n f):=fun w X g u h hr=> by
 obtain ⟨b,h1,h4,vs,e,h2,h3,h5⟩:=h _ hm
 cases hr with
 | hs _ _ _ _ b' hg=>
   dsimp only at h1 h3;rw [h1] at hg;cases hg;refine .sl _ _ _ b off cap ((vs.toList.drop off).take (n * sz)) (by simp;omega) hcap (fun k u hk=> ?_) hsz (fun k j c u hk hj hu=> ?_)
   ·rw [List.getElem?_take] at hk;split at hk
    ·rw [List.getElem?_drop] at hk;exact ⟨by rw [Jz h2];simpa using hk,h4 _⟩
    ·cases hk
   ·rw [List.getElem?_take] at hu;split at hu
    ·rw [List.getElem?_drop] at hu;obtain ⟨c0,q1,q2⟩:=hf k hk j c hj;exact q2 _ _ _ _ (h5 _ c0 u q1 (by simpa using hu))
    ·cases hu
theorem Frz.hs1 {bs:List (Nat×Own)} {i:Id} {n cap:Nat} {f:Nat→AV} {cs:List AV} (hm:(i.2, .c cs)∈bs) (hcap:n≤cap) (hn:n≤cs.length) (hsz:∀k,k < n→(f k).cells= [f k])
 (hf:∀k,k < n→cs[k]? =some (f k)):Frz bs (.hs i 0 n cap) (.sl 1 n f):=
 Frz.hs hm hcap (.inr Om) (fun k hk=> by rw [hsz k hk];rfl) (fun k hk j c hj=> by
  rw [hsz k hk] at hj;have:j=0:=by have:=(List.getElem?_eq_some_iff.1 hj).1;simpa using this
  subst this;simp at hj;subst hj;exact ⟨f k,by simpa using hf k hk,AVle.refl _⟩) Om
def FrzL (bs:List (Nat×Own)):List AV→List AV→Prop
 | [], []=> True
 | a::l,b::r=> Frz bs a b∧FrzL bs l r
 | _,_=> False
theorem FrzL.get {bs:List (Nat×Own)}:∀ {l r:List AV},FrzL bs l r→l.length=r.length∧∀(k:Nat) (a b:AV),l[k]? =some a→r[k]? =some b→Frz bs a b
 | [], [],_=> ⟨rfl,by simp⟩
 | a::l,b::r,h=> by
   obtain ⟨h1,h2⟩:=FrzL.get h.2;refine ⟨by simp [h1],fun k c d hc hd=> ?_⟩;cases k with
   | zero=> simp at hc hd;subst hc;subst hd;exact h.1
   | succ k=> simp at hc hd;exact h2 k c d hc hd
 | [],_::_,h=> h.elim
 | _::_, [],h=> h.elim
theorem Frz.fn {bs:List (Nat×Own)} {f:Fn} {a a' b b':List AV} (h1:FrzL bs a a') (h2:FrzL bs b b'):Frz bs (.fn f a b) (.fn f a' b'):=fun w X g u h hr=> by
 cases hr with
 | fn _ _ _ v1 v2 n1 n2 r1 r2=>
   obtain ⟨l1,q1⟩:=h1.get;obtain ⟨l2,q2⟩:=h2.get;refine .fn _ _ _ v1 v2 (n1.trans l1) (n2.trans l2) (fun k c u hc hu=> ?_) (fun k c u hc hu=> ?_)
   ·have hlt:k < a.length:=(by rw [l1];exact (List.getElem?_eq_some_iff.1 hc).1);exact q1 k _ c (List.getElem?_eq_getElem hlt) hc _ _ _ _ h (r1 k _ u (List.getElem?_eq_getElem hlt) hu)
   ·have hlt:k < b.length:=(by rw [l2];exact (List.getElem?_eq_some_iff.1 hc).1);exact q2 k _ c (List.getElem?_eq_getElem hlt) hc _ _ _ _ h (r2 k _ u (List.getElem?_eq_getElem hlt) hu)
theorem Frz.ag {bs:List (Nat×Own)} {a a':List AV} (h1:FrzL bs a a'):Frz bs (.ag a) (.ag a'):=fun w X g u h hr=> by
 cases hr with
 | ag _ vs hn hr=>
   obtain ⟨l1,q1⟩:=h1.get;refine .ag _ vs (hn.trans l1) fun k c u hc hu=> ?_;have hlt:k < a.length:=by rw [l1];exact (List.getElem?_eq_some_iff.1 hc).1
   exact q1 k _ c (List.getElem?_eq_getElem hlt) hc _ _ _ _ h (hr k _ u (List.getElem?_eq_getElem hlt) hu)
def FrzT (bs:List (Nat×Own)) (t:Nat→AV):List (Nat×AV)→Prop
 | []=> True
 | p::l=> Frz bs (t p.1) p.2∧FrzT bs t l
theorem FrzT.look {bs:List (Nat×Own)} {t:Nat→AV}:∀ {L:List (Nat×AV)},FrzT bs t L→∀k,Frz bs (t k) (Vl.look L k)
 | [],_,k=> .of_le (AVle.any _)
 | p::l,h,k=> by
   unfold Vl.look;cases hb:Nat.beq p.1 k with
   | true=> have:=Nat.eq_of_beq_eq_true hb;subst this;exact h.1
   | false=> exact FrzT.look h.2 k
theorem Frz.rp {bs:List (Nat×Own)} {a a':List AV} (h1:FrzL bs a a'):Frz bs (.rp a) (.rp a'):=fun w X g u h hr=> by
 cases hr with
 | rp _ b off vs hn hcell hr=>
   obtain ⟨l1,q1⟩:=h1.get;refine .rp _ b off vs (hn.trans l1) hcell fun k c u hc hu=> ?_;have hlt:k < a.length:=by rw [l1];exact (List.getElem?_eq_some_iff.1 hc).1
   exact q1 k _ c (List.getElem?_eq_getElem hlt) hc _ _ _ _ h (hr k _ u (List.getElem?_eq_getElem hlt) hu)
theorem Frz.trans {bs:List (Nat×Own)} {a b c:AV} (h:Frz bs a b) (k:Frz bs b c):Frz bs a c:=fun w X g u hb hr=> k w X g u hb (h w X g u hb hr)
theorem Jcw {E:Env} {n:Nat} {bx:List (Id×Own)} {pm:List (Id×Nat)} {nx nn:Nat} {L:List (Nat×AV)} (bs:List (Id×Own)) (hn:E.n=n) (hx:E.h.nx=nx)
 (hb:(bs++bx).Sublist E.h.bx) (hp:pm.Sublist E.h.pm) (hL:FrzT (bs.map fun p=> (p.1.2,p.2)) E.t L):ELe E (mk n L ⟨bx,pm,nx,nn⟩ E.df):=by
 subst hn;subst hx
 intro ro X M w0 a w g hs
 have hs':=JcZ (E:=E) (nn:=nn) ((List.sublist_append_right bs bx).trans hb) hp ro X M w0 a w g hs
 refine ⟨hs'.hok,fun k=> ?_,hs'.n,hs'.evo,hs'.loc,hs'.def_,hs'.sep,hs'.top,hs'.rnd⟩
 refine hL.look k w _ g _ (fun p hp'=> ?_) (hs'.tm k)
 obtain ⟨q,hq,rfl⟩:=List.mem_map.1 hp'
 obtain ⟨b,h1,h2⟩:=hs.hok.bx q (hb.subset (List.mem_append_left _ hq))
 have hex:∀b o,excl X g ⟨bx,pm,E.h.nx,nn⟩ b o→excl X g E.h b o:=by
  rintro b o (h | ⟨p,hp',hg⟩ | ⟨p,hp',hg⟩)
  ·exact .inl h
  ·exact .inr (.inl ⟨p,hb.subset (List.mem_append_right _ hp'),hg⟩)
  ·exact .inr (.inr ⟨p,hp.subset hp',hg⟩)
 refine ⟨b,h1, ?_,h2.stays (Stays.less hex) rfl⟩
 have hqI:q.1.2∈E.h.ids:=List.mem_append_left _ (List.mem_map.2 ⟨q,hb.subset (List.mem_append_left _ hq),rfl⟩)
 rintro o (hx | ⟨p,hp',hg⟩ | ⟨p,hp',hg,_⟩)
 ·exact hs.sep b o hx _ hqI h1
 ·have hnd:((bs++bx).map (fun p=> g[p.1.2]?)).Nodup:=by
   have h5:=hs.hok.nodup;unfold Heap.ids at h5;rw [List.map_append,List.map_map] at h5;exact ((List.nodup_append.1 h5).1).sublist (hb.map _)
  rw [List.map_append] at hnd;exact (List.nodup_append.1 hnd).2.2 _ (List.mem_map.2 ⟨q,hq,rfl⟩) _ (List.mem_map.2 ⟨p,hp',rfl⟩) (by rw [h1,hg])
 ·have h5:=hs.hok.nodup;unfold Heap.ids at h5;rw [List.map_append] at h5;exact (List.nodup_append.1 h5).2.2 _ (List.mem_map.2 ⟨q.1.2,List.mem_map.2 ⟨q,hb.subset (List.mem_append_left _ hq),rfl⟩,rfl⟩) _ (List.mem_map.2 ⟨p.1.2,List.mem_map.2 ⟨p,hp.subset hp',rfl⟩,rfl⟩) (by rw [h1,hg])
def Tells (P:Program) (f:FuncId) (as:List AV) (s:AV):Prop:=PCall P f as fun r=> AVle r s
theorem Tells.args {f:FuncId} {as bs:List AV} {s:AV} (hl:LeL as bs) (h:Tells P f bs s):Tells P f as s:=PCall.args hl h
theorem Tells.le {f:FuncId} {as:List AV} {s s':AV} (hl:AVle s s') (h:Tells P f as s):Tells P f as s':=PCall.mono h fun _ hr=> hr.trans hl
theorem Tells.of_eq {f:FuncId} {as:List AV} {s s':AV} (hl:s=s') (h:Tells P f as s):Tells P f as s':=hl ▸ h
theorem Jc {f : FuncId} {fn : Func} {c : Code} {args : List AV} {s : AV} (hf : P.funcs[f]? = some fn) (hb : fn.body = some c) (hn : (fn.name == "runtime.NumGoroutine") = false)
 (hw:∀nx,AW P c (entry fn args ⟨[], [],nx,0⟩) (JwO P fn fun r _=> AVle r s)):Tells P f args s:=JqJ hf hb hn hw
theorem Ja {o:Oper} {E:Env} {K:Env→Prop} {fo:Operand} {args:Array Operand} {tys:Array TypeId} {f:FuncId} {first caps as:List AV} {s:AV} {Kp:AV→Env→Prop}
 (ho:o.op= .call { callee:= .value fo,args:=args,argTypes:=tys}) (hf:E.ev fo= .fn (.func f) first caps)
 (hc:Tells P f as s) (hl:LeL (first++args.toList.map E.ev++caps) as)
 (hk:∀nx,Jkv s fun s=> K (({ E with h:= { E.h with nx:=nx}}:Env).set o.dst s)):AOp P o E K Kp:=
 Jea ho hf ((PCall.over hc E.h).args hl) fun r h' ⟨h1,h2,h3⟩=>
  ⟨s, { E.h with nx:=h'.nx},h1,⟨by rw [h2],by rw [h3],rfl⟩,Jkw (hk h'.nx)⟩
theorem JQ {o:Oper} {E:Env} {fo:Operand} {args:Array Operand} {tys:Array TypeId} {f:FuncId} {first caps as:List AV} {s:AV}
 (ho:o.op= .call { callee:= .value fo,args:=args,argTypes:=tys}) (hf:E.ev fo= .fn (.func f) first caps)
 (hc:Tells P f as s) (hl:LeL (first++args.toList.map E.ev++caps) as) (hid:NoId s):Yields P o E s:=
 JoA ho hf hc hl (fun _ h=> h) hid
theorem Jau {o:Oper} {E:Env} {s:AV} {K:AV→Prop} (h:Yields P o E s) (hk:Jew o.op s K):∃r,Yields P o E r∧Jew o.op r K:=⟨s,h,hk⟩
theorem Jb {fn:Func} {E:Env} {r s:AV} (h:Jif P fn E=some ([],r)) (hq:AVle r s):Jfx P fn (fun r _=> AVle r s) E:=Jad h hq
theorem Jf {fn:Func} {E:Env} {cs:List Prop} {r s:AV} (h:Jif P fn E=some (cs,r)) (hc:Jie cs) (hq:AVle r s):Jfx P fn (fun r _=> AVle r s) E:=Jc9 h hc hq
theorem NoId.fn {f:Fn} {a b:List AV} (h:∀c∈a,NoId c) (h':∀c∈b,NoId c):NoId (.fn f a b):=fun w X g g' u hr=> by
 cases hr with
 | fn _ _ _ v1 v2 n1 n2 r1 r2=> exact .fn _ _ _ v1 v2 n1 n2 (fun k c u hc hu=> h c (List.mem_of_getElem? hc) w X g g' u (r1 k c u hc hu)) (fun k c u hc hu=> h' c (List.mem_of_getElem? hc) w X g g' u (r2 k c u hc hu))
theorem NoId.rp {cs:List AV} (h:∀c∈cs,NoId c):NoId (.rp cs):=fun w X g g' u hr=> by
 cases hr with
 | rp _ b off vs hn hcell hr=> exact .rp _ b off vs hn hcell fun k c u hc hu=> h c (List.mem_of_getElem? hc) w X g g' u (hr k c u hc hu)
theorem Jf9 {E:Env} {n:Nat} {bx:List (Id×Own)} {pm:List (Id×Nat)} {nx nn:Nat} {L:List (Nat×AV)} (hn:E.n=n) (hx:E.h.nx=nx) (hb:bx.Sublist E.h.bx) (hp:pm.Sublist E.h.pm)
 (hL:LeT E.t L):ELe E (mk n L ⟨bx,pm,nx,nn⟩ E.df):=by
 subst hn;subst hx
 exact ELe.trans (JcZ hb hp) (Jax (E:= { E with h:=⟨bx,pm,E.h.nx,nn⟩}) rfl rfl hL)
theorem Ja9 {α:Type} {l:List α} {i:Nat} (d:α) (h:i < l.length):l.take (i+1)=l.take i++ [l.getD i d]:=by
 rw [List.take_add_one,List.getElem?_eq_getElem h]
 simp [List.getD,h]
theorem Jn {p:Prop} [Decidable p] (h:false=decide p):¬p:=of_decide_eq_false h.symm
theorem Jo {p:Prop} [Decidable p] (h:true=decide p):p:=of_decide_eq_true h.symm
def J2:Option Id→Nat→List (Id×Nat)
 | none,_=> []
 | some i,n=> [(i,n)]
theorem AVle.os_nm {sz n:Nat} {f:Nat→AV} {i j:Id} (h:i.2=j.2):AVle (.os sz n f (some i)) (.os sz n f (some j)):=fun w X g u hr=> by
 cases hr with
 | oss _ _ _ _ b cap vs hg hlen hcap hcell hroom hc hr=> exact .oss _ _ _ _ b cap vs (h ▸ hg) hlen hcap hcell hroom hc hr
theorem AVle.bp_nm {i j:Id} {off:Nat} (h:i.2=j.2):AVle (.bp i off) (.bp j off):=fun w X g u hr=> by
 cases hr with
 | bp _ _ b hg=> exact .bp _ _ b (h ▸ hg)
theorem AVle.hs_nm {i j:Id} {off n cap:Nat} (h:i.2=j.2):AVle (.hs i off n cap) (.hs j off n cap):=fun w X g u hr=> by
 cases hr with
 | hs _ _ _ _ b hg=> exact .hs _ _ _ _ b (h ▸ hg)
theorem JbW {n:Nat} {f f' h:Nat→AV} (h1:∀k,k < n→f k=h k) (h2:f' 0=h n):∀k,k < n+1→JcD n f f' k=h k:=fun k hk=> by
 unfold JcD
 cases hb:Nat.blt k n with
 | true=> simp only [cond_true];exact h1 k (JbF hb)
 | false=>
   have:k=n:=by
    rcases Nat.lt_or_ge k n with h' | h'
    ·rw [JiZ.2 h'] at hb;cases hb
    ·omega
   subst this;simp only [cond_false,Nat.sub_self];exact h2
def nmd:Option Nat→Option Id
 | none=> none
 | some k=> some (0,k)
theorem JwR {ts:List TypeId} (h:(ts.all fun t=> P.readableRec t&& decide (t < P.types.size))=true):∀t∈ts,P.readableRec t=true∧t < P.types.size:=fun t ht=> by
 have:=List.all_eq_true.1 h t ht
 simp only [Bool.and_eq_true,decide_eq_true_eq] at this
 exact this
theorem Jga {K:Bool→Prop} (h:K true):∀c,c=true→K c:=fun c hc=> hc ▸ h
theorem Jfg {K:Bool→Prop} (h:K false):∀c,c=false→K c:=fun c hc=> hc ▸ h
def JwS:Nat→(Nat→Prop)→Prop
 | 0,_=> True
 | n+1,p=> JwS n p∧p n
theorem JoC {p:Nat→Prop}:∀ {n:Nat},JwS n p→∀k,k < n→p k
 | 0,_,k,hk=> absurd hk Om
 | n+1,h,k,hk=> by
   rcases Nat.lt_or_ge k n with h' | h'
   ·exact JoC h.1 k h'
   ·obtain rfl:k=n:=Om;exact h.2
def Jco (l:List AV) (k:Nat):AV:=l.getD k .any
theorem JlS {sz n:Nat} {f:Nat→AV} {oi:Option Id} {l:List AV} (h:JwS n fun k=> f k=Jco l k):AVle (.os sz n f oi) (.sl sz n (Jco l)):=AVle.os_sl.trans (AVle.sl_fun (JoC h))
def MpLe:List (Value×AV)→List (Value×AV)→Prop
 | [], []=> True
 | p::l,q::r=> p.1=q.1∧AVle p.2 q.2∧MpLe l r
 | _,_=> False
theorem MpLe.refl:∀l:List (Value×AV),MpLe l l
 | []=> trivial
 | p::l=> ⟨rfl,AVle.refl _,MpLe.refl l⟩
theorem MpLe.get:∀ {l r:List (Value×AV)},MpLe l r→l.length=r.length∧∀(k:Nat) (a b:Value×AV),l[k]? =some a→r[k]? =some b→a.1=b.1∧AVle a.2 b.2
 | [], [],_=> ⟨rfl,by simp⟩
 | p::l,q::r,h=> by
   obtain ⟨h1,h2⟩:=MpLe.get h.2.2;refine ⟨by simp [h1],fun k c d hc hd=> ?_⟩;cases k with
   | zero=> simp at hc hd;subst hc;subst hd;exact ⟨h.1,h.2.1⟩
   | succ k=> simp at hc hd;exact h2 k c d hc hd
 | [],_::_,h=> h.elim
 | _::_, [],h=> h.elim
def OwnLe:Own→Own→Prop
 | .c a, .c b=> LeL a b
 | .mp a, .mp b=> MpLe a b
 | .ch c a, .ch d b=> c=d∧LeL a b
 | .it a s, .it b t=> MpLe a b∧s=t
 | .lp st pd n t ps asg body, .lp st' pd' n' t' ps' asg' body'=> st=st'∧pd=pd'∧n=n'∧(∀k,AVle (t k) (t' k))∧ps=ps'∧asg=asg'∧body=body'
 | .df, .df=> True
 | .si s n, .si t m=> s=t∧n=m
 | .kn b o, .kn b' o'=> b=b'∧o=o'
 | .sb t f, .sb t' f'=> t=t'∧f=f'
 | .bt e l c, .bt e' l' c'=> e=e'∧l=l'∧c=c'
 | _,_=> False
theorem OwnLe.refl:∀(a:Own),OwnLe a a
 | .c a=> LeL.refl a
 | .mp a=> MpLe.refl a
 | .ch _ a=> ⟨rfl,LeL.refl a⟩
 | .it a _=> ⟨MpLe.refl a,rfl⟩
 | .lp _ _ _ _ _ _ _=> ⟨rfl,rfl,rfl,fun _=> AVle.refl _,rfl,rfl,rfl⟩
 | .df=> trivial
 | .si _ _=> ⟨rfl,rfl⟩
 | .kn _ _=> ⟨rfl,rfl⟩
 | .sb _ _=> ⟨rfl,rfl⟩
 | .bt _ _ _=> ⟨rfl,rfl,rfl⟩
theorem OwnRep.le {w:World} {X:Nat→Nat→Prop} {g:List Nat} {i:Nat}:∀ {a b:Own},OwnLe a b→OwnRep w X g i a→OwnRep w X g i b
 | .c a, .c b,h,⟨vs,e,h1,h2,h3⟩=> by
   obtain ⟨l1,l2⟩:=LeL.get h;refine ⟨vs,e,h1,h2.trans l1,fun k c u hc hu=> ?_⟩;have hlt:k < a.length:=by rw [l1];exact (List.getElem?_eq_some_iff.1 hc).1
   exact l2 k _ c (List.getElem?_eq_getElem hlt) hc _ _ _ _ (h3 k _ u (List.getElem?_eq_getElem hlt) hu)
 | .mp a, .mp b,h,⟨ents,h1,h2,h3⟩=> by
   obtain ⟨l1,l2⟩:=MpLe.get h;refine ⟨ents,h1,h2.trans l1,fun k p e hp he=> ?_⟩;have hlt:k < a.length:=by rw [l1];exact (List.getElem?_eq_some_iff.1 hp).1
   obtain ⟨q1,q2⟩:=l2 k _ p (List.getElem?_eq_getElem hlt) hp;obtain ⟨r1,r2,r3⟩:=h3 k _ e (List.getElem?_eq_getElem hlt) he;exact ⟨r1.trans q1,r2,q2 _ _ _ _ r3⟩
 | .ch _ a, .ch _ b,⟨rfl,h⟩,⟨vs,s,k,h1,h2,h3⟩=> by
   obtain ⟨l1,l2⟩:=LeL.get h;refine ⟨vs,s,k,h1,h2.trans l1,fun k c u hc hu=> ?_⟩;have hlt:k < a.length:=by rw [l1];exact (List.getElem?_eq_some_iff.1 hc).1
   exact l2 k _ c (List.getElem?_eq_getElem hlt) hc _ _ _ _ (h3 k _ u (List.getElem?_eq_getElem hlt) hu)
 | .it a _, .it b _,⟨h,rfl⟩,⟨mb,ents,h1,h0,hx,h2,h3⟩=> by
   obtain ⟨l1,l2⟩:=MpLe.get h;refine ⟨mb,ents,h1,h0,hx,h2.trans l1,fun k p e hp he=> ?_⟩;have hlt:k < a.length:=by rw [l1];exact (List.getElem?_eq_some_iff.1 hp).1
   obtain ⟨q1,q2⟩:=l2 k _ p (List.getElem?_eq_getElem hlt) hp;obtain ⟨r1,r2,r3⟩:=h3 k _ e (List.getElem?_eq_getElem hlt) he;exact ⟨r1.trans q1,r2,q2 _ _ _ _ r3⟩
 | .lp _ _ _ _ _ _ _, .lp _ _ _ _ _ _ _,⟨rfl,rfl,rfl,h,rfl,rfl,rfl⟩,⟨fn,tmps,d,h1,h2,h3⟩=> ⟨fn,tmps,d,h1,h2,fun k=> h k _ _ _ _ (h3 k)⟩
 | .df, .df,_,h=> h
 | .si _ _, .si _ _,⟨rfl,rfl⟩,h=> h
 | .kn _ _, .kn _ _,⟨rfl,rfl⟩,h=> h
 | .sb _ _, .sb _ _,⟨rfl,rfl⟩,h=> h
 | .bt _ _ _, .bt _ _ _,⟨rfl,rfl,rfl⟩,h=> h
def BxLe:List (Id×Own)→List (Id×Own)→Prop
 | [], []=> True
 | p::l,q::r=> p.1.2=q.1.2∧OwnLe p.2 q.2∧BxLe l r
 | _,_=> False
def PmEq:List (Id×Nat)→List (Id×Nat)→Prop
 | [], []=> True
 | p::l,q::r=> p.1.2=q.1.2∧p.2=q.2∧PmEq l r
 | _,_=> False
theorem BxLe.mem:∀ {l r:List (Id×Own)},BxLe l r→∀q∈r,∃p∈l,p.1.2=q.1.2∧OwnLe p.2 q.2
 | [], [],_,q,hq=> by cases hq
 | p::l,q'::r,h,q,hq=> by
   rcases List.mem_cons.1 hq with rfl | hq
   ·exact ⟨p,by simp,h.1,h.2.1⟩
   ·obtain ⟨p',h1,h2⟩:=BxLe.mem h.2.2 q hq;exact ⟨p',List.mem_cons_of_mem _ h1,h2⟩
 | [],_::_,h,_,_=> h.elim
 | _::_, [],h,_,_=> h.elim
theorem BxLe.mem':∀ {l r:List (Id×Own)},BxLe l r→∀p∈l,∃q∈r,p.1.2=q.1.2
 | [], [],_,q,hq=> by cases hq
 | p'::l,q'::r,h,p,hp=> by
   rcases List.mem_cons.1 hp with rfl | hp
   ·exact ⟨q',by simp,h.1⟩
   ·obtain ⟨q,h1,h2⟩:=BxLe.mem' h.2.2 p hp;exact ⟨q,List.mem_cons_of_mem _ h1,h2⟩
 | [],_::_,h,_,_=> h.elim
 | _::_, [],h,_,_=> h.elim
theorem BxLe.stamps:∀ {l r:List (Id×Own)},BxLe l r→r.map (·.1.2)=l.map (·.1.2)
 | [], [],_=> rfl
 | p::l,q::r,h=> by simp [h.1,BxLe.stamps h.2.2]
 | [],_::_,h=> h.elim
 | _::_, [],h=> h.elim
theorem BxLe.refl:∀(l:List (Id×Own)),BxLe l l
 | []=> trivial
 | p::l=> ⟨rfl,OwnLe.refl _,BxLe.refl l⟩
theorem PmEq.map:∀ {l r:List (Id×Nat)},PmEq l r→r.map (fun p=> (p.1.2,p.2))=l.map (fun p=> (p.1.2,p.2))
 | [], [],_=> rfl
 | p::l,q::r,h=> by simp [h.1,h.2.1,PmEq.map h.2.2]
 | [],_::_,h=> h.elim
 | _::_, [],h=> h.elim
theorem JuF {E:Env} {bx:List (Id×Own)} (h:BxLe E.h.bx bx):ELe E { E with h:= { E.h with bx:=bx}}:=by
 intro ro X M w0 a w g hs
 have ids:Heap.ids { E.h with bx:=bx}=E.h.ids:=by unfold Heap.ids;dsimp only;rw [h.stamps]
 have ex:∀Y:Nat→Nat→Prop,excl Y g { E.h with bx:=bx}=excl Y g E.h:=fun Y=> by
  funext b o
  apply propext
  constructor
  ·rintro (hx | ⟨p,hp,hg⟩ | hx)
   ·exact .inl hx
   ·obtain ⟨q,h1,h2,_⟩:=h.mem p hp;exact .inr (.inl ⟨q,h1,h2 ▸ hg⟩)
   ·exact .inr (.inr hx)
  ·rintro (hx | ⟨p,hp,hg⟩ | hx)
   ·exact .inl hx
   ·obtain ⟨q,h1,h2⟩:=h.mem' p hp;exact .inr (.inl ⟨q,h1,h2 ▸ hg⟩)
   ·exact .inr (.inr hx)
 refine ⟨?_,fun k=> by show Rep w (excl X g { E.h with bx:=bx}) g _ _;rw [ex];exact hs.tm k,hs.n,hs.evo,fun b o hx=> hs.loc b o (by rw [← ex];exact hx),by show DOk w (excl X g { E.h with bx:=bx}) g _ _;rw [ex];exact hs.def_,fun b o hx i hi=> hs.sep b o hx i (by rw [← ids];exact hi),hs.top,hs.rnd⟩
 show HOk w (excl X g { E.h with bx:=bx}) g { E.h with bx:=bx}
 rw [ex]
 refine ⟨fun p hp=> ?_,hs.hok.pm,by rw [ids];exact hs.hok.nodup,hs.hok.nx,hs.hok.bd,hs.hok.kn⟩
 obtain ⟨q,h1,h2,h3⟩:=h.mem p hp
 obtain ⟨b,k1,k2⟩:=hs.hok.bx q h1
 exact ⟨b,h2 ▸ k1,k2.le h3⟩
theorem Jh {E:Env} {n:Nat} {bx:List (Id×Own)} {pm:List (Id×Nat)} {nx nn:Nat} {L:List (Nat×AV)} (bx':List (Id×Own)) (pm':List (Id×Nat)) (hn:E.n=n) (hx:E.h.nx=nx) (hb:bx'.Sublist E.h.bx) (hp:pm'.Sublist E.h.pm)
 (eb:BxLe bx' bx) (ep:PmEq pm' pm) (hL:LeT E.t L):ELe E (mk n L ⟨bx,pm,nx,nn⟩ E.df):=by
 subst hn;subst hx
 have e1:=JcZ (nn:=nn) hb hp
 have e2:ELe { E with h:=⟨bx',pm',E.h.nx,nn⟩} { E with h:=⟨bx,pm',E.h.nx,nn⟩}:=JuF (E:= { E with h:=⟨bx',pm',E.h.nx,nn⟩}) eb
 have e3:ELe { E with h:=⟨bx,pm',E.h.nx,nn⟩} { E with h:=⟨bx,pm,E.h.nx,nn⟩}:=Jdo (E:= { E with h:=⟨bx,pm',E.h.nx,nn⟩}) ⟨.refl _, .of_eq (PmEq.map ep),rfl⟩
 exact e1.trans (e2.trans (e3.trans (Jax (E:= { E with h:=⟨bx,pm,E.h.nx,nn⟩}) rfl rfl hL)))
theorem ECallG.like {C:Way} {args:List AV} {h h':Heap} {Q:Res→Heap→Prop} (l:Like h h') (hc:ECallG C args h Q):ECallG C args h' Q:=by
 refine fun X w g vs h1 h2 h3 h4=> ?_
 have h5:=hc X w g vs (by rw [← l.excl];exact h1.like ⟨l.bx.symm,l.pm.symm,l.nx.symm⟩) (fun b o hx i hi=> h2 b o hx i (l.ids.mem_iff.2 hi)) h3 (by rw [← l.excl];exact h4)
 refine C.mono h5 fun e w' ⟨r,k,g',a1,a2,a3,a4,a5,a7,a8⟩=> ⟨r,k,g',a1,a2,a3,a4,a5,by rw [l.excl];exact a7,by rw [l.excl];exact a8⟩
theorem ECall.like {f:FuncId} {args:List AV} {h h':Heap} {Q:AV→Heap→Prop} (l:Like h h') (hc:ECall P f args h Q):ECall P f args h' Q:=⟨hc.1,hc.2.like l⟩
theorem BxLe.ids {h:Heap} {bx:List (Id×Own)} (l:BxLe h.bx bx):Heap.ids { h with bx:=bx}=h.ids:=by unfold Heap.ids;dsimp only;rw [l.stamps]
theorem BxLe.excl {h:Heap} {bx:List (Id×Own)} (l:BxLe h.bx bx) (Y:Nat→Nat→Prop) (g:List Nat):Vl.excl Y g { h with bx:=bx}=Vl.excl Y g h:=by
 funext b o
 apply propext
 constructor
 ·rintro (hx | ⟨p,hp,hg⟩ | hx)
  ·exact .inl hx
  ·obtain ⟨q,h1,h2,_⟩:=l.mem p hp;exact .inr (.inl ⟨q,h1,h2 ▸ hg⟩)
  ·exact .inr (.inr hx)
 ·rintro (hx | ⟨p,hp,hg⟩ | hx)
  ·exact .inl hx
  ·obtain ⟨q,h1,h2⟩:=l.mem' p hp;exact .inr (.inl ⟨q,h1,h2 ▸ hg⟩)
  ·exact .inr (.inr hx)
theorem HOk.cells {w:World} {X:Nat→Nat→Prop} {g:List Nat} {h:Heap} {bx:List (Id×Own)} (hk:HOk w X g h) (l:BxLe h.bx bx):HOk w X g { h with bx:=bx}:=by
 refine ⟨fun p hp=> ?_,hk.pm,by rw [l.ids];exact hk.nodup,hk.nx,hk.bd,hk.kn⟩
 obtain ⟨q,h1,h2,h3⟩:=l.mem p hp
 obtain ⟨b,k1,k2⟩:=hk.bx q h1
 exact ⟨b,h2 ▸ k1,k2.le h3⟩
theorem ECallG.tell {C:Way} {args:List AV} {h h':Heap} {Q:Res→Heap→Prop} (hc:ECallG C args h Q) (hb:BxLe h'.bx h.bx) (hp:PmEq h'.pm h.pm) (hn:h.nx=h'.nx):ECallG C args h' Q:=by
 have l:Like { h' with bx:=h.bx} h:=⟨.refl _, .of_eq (PmEq.map hp),hn⟩
 have e1:∀Y g,Vl.excl Y g h=Vl.excl Y g h':=fun Y g=> (l.excl Y g).trans (hb.excl Y g)
 have e2:h.ids.Perm h'.ids:=l.ids.trans (.of_eq hb.ids)
 refine fun X w g vs h1 h2 h3 h4=> ?_
 have h5:=hc X w g vs (by rw [e1];exact (h1.cells hb).like l) (fun b o hx i hi=> h2 b o hx i (e2.mem_iff.1 hi)) h3 (by rw [e1];exact h4)
 exact C.mono h5 fun e w' ⟨r,k,g',a1,a2,a3,a4,a5,a7,a8⟩=> ⟨r,k,g',a1,a2,a3,a4,a5,by rw [← e1];exact a7,by rw [← e1];exact a8⟩
theorem ECall.tell {f:FuncId} {args:List AV} {h h':Heap} {Q:AV→Heap→Prop} (hc:ECall P f args h Q) (hb:BxLe h'.bx h.bx) (hp:PmEq h'.pm h.pm) (hn:h.nx=h'.nx):ECall P f args h' Q:=⟨hc.1,hc.2.tell hb hp hn⟩
theorem ECallR.tell {f:FuncId} {args:List AV} {h h':Heap} {Q:Res→Heap→Prop} (hc:ECallR P f args h Q) (hb:BxLe h'.bx h.bx) (hp:PmEq h'.pm h.pm) (hn:h.nx=h'.nx):ECallR P f args h' Q:=⟨hc.1,hc.2.tell hb hp hn⟩
theorem Ji {o:Op} {a b:AV} {K:AV→Prop} (h:a=b) (hk:Jew o b K):Jew o a K:=h ▸ hk
theorem LeL.of_eq {a b:List AV} (h:a=b):LeL a b:=h ▸ LeL.refl a
def Jn8 (ps:Array Tmp) (vs:Array Value) (tmps:Array Value):Array Value:=(ps.zip vs).foldl (fun tmps p=> tmps.setIfInBounds p.1 p.2) tmps
def JwT (P:Program) (i:Id):Way:=
 ⟨fun _ g vs w R=> ∃b q,g[i.2]? =some b∧w.heap[b]? =some (.loop q)∧vs.size=q.params.size∧RoundIn (Fr none) 0 P b q.fn (Jn8 q.params vs q.tmps) q.assign q.body w R,
  fun ⟨b,q,h1,h2,h3,h4⟩ hr=> ⟨b,q,h1,h2,h3,h4.mono hr⟩⟩
def JcF (n:Nat) (t:Nat→AV) (h:Heap):List (Tmp×AV)→Env
 | []=> ⟨n,t,h,none⟩
 | p::l=> (JcF n t h l).set (some p.1) p.2
def JlT (i:Id) (st:LoopState) (pd:Option Code) (c:Bool) (Q:AV→Heap→Prop) (E:Env):Prop:=
 match J6 i.1 E.h.bx with
 | some (s, .lp _ _ n t ps asg body)=> s=i.2∧Q (.v (.bool c)) { E.h with bx:=JaA i.1 (.lp st pd n t ps asg body) E.h.bx}
 | _=> False
def JzS (i:Id) (Q:AV→Heap→Prop):AExit→Env→Prop
 | .normal,E=> JlT i .ready none true Q E
 | .ret,E=> JlT i .done (some .ret) false Q E
 | .exit id,E=> JlT i .done (some (.exit id)) false Q E
 | .goto l,E=> JlT i .done (some (.goto l)) false Q E
 | .panic _,_=> False
def JoD (P:Program) (i:Id) (body0:Code) (Q:AV→Heap→Prop):AExit→Env→Prop
 | .normal,E=> match J6 i.1 E.h.bx with
   | some (s, .lp .ready pd n t ps asg body)=> s=i.2∧AW P body0 { E with h:= { E.h with bx:=JaA i.1 (.lp .busy pd n t ps asg body) E.h.bx}} (JzS i Q)
   | _=> False
 | _,_=> False
theorem JkG {n:Nat} {t:Nat→AV} {h:Heap}:∀ {l:List (Tmp×AV)},(JcF n t h l).h=h
 | []=> rfl
 | p::l=> by rw [JcF,Env.set_h];exact JkG
theorem St.round {ro:Option Nat} {X M:Nat→Nat→Prop} {w0:World} {n:Nat} {t:Nat→AV} {h:Heap} {tmps:Array Value} {w:World} {g:List Nat} (hs:St ro X M w0 ⟨n,t,h,none⟩ { tmps:=tmps,defers:= []} w g):
 ∀(ps:List Tmp) (as:List AV) (vs:List Value),as.length=vs.length→(∀(k:Nat) (c:AV) (u:Value),as[k]? =some c→vs[k]? =some u→Rep w (excl X g h) g c u)→
 St ro X M w0 (JcF n t h (ps.zip as).reverse) { tmps:=(ps.zip vs).foldl (fun tmps p=> tmps.setIfInBounds p.1 p.2) tmps,defers:= []} w g:=by
 have key:∀(l:List (Tmp×AV)) (m:List (Tmp×Value)),l.length=m.length→(∀(k:Nat) (p:Tmp×AV) (q:Tmp×Value),l[k]? =some p→m[k]? =some q→p.1=q.1∧Rep w (excl X g h) g p.2 q.2)→
  St ro X M w0 (JcF n t h l) { tmps:=m.foldr (fun p tmps=> tmps.setIfInBounds p.1 p.2) tmps,defers:= []} w g:=by
  intro l
  induction l with
  | nil=> intro m hl _;have:m= []:=List.eq_nil_of_length_eq_zero (by simpa using hl.symm);subst this;exact hs
  | cons p l ih=>
    intro m hl hr;cases m with
    | nil=> simp at hl
    | cons q m=>
      have h1:=ih m (by simpa using hl) (fun k p' q' h1 h2=> hr (k+1) p' q' (by simpa using h1) (by simpa using h2));obtain ⟨e,h2⟩:=hr 0 p q rfl rfl;have h3:=h1.put (some p.1) (r:=p.2) (u:=q.2) (by rw [JkG];exact h2);rw [e] at h3;simp only [List.foldr_cons,JcF];rw [e];exact h3
 intro ps as vs hl hr
 have:=key (ps.zip as).reverse (ps.zip vs).reverse (by simp [hl]) (fun k p q h1 h2=> by
  have hlen:(ps.zip as).length=(ps.zip vs).length:=by simp [hl]
  have hk:k < (ps.zip as).length:=by simpa using (List.getElem?_eq_some_iff.1 h1).1
  rw [List.getElem?_reverse hk] at h1;rw [List.getElem?_reverse Om,← hlen] at h2;rw [List.getElem?_zip_eq_some] at h1 h2;have e:p.1=q.1:=by have:=h1.1.symm.trans h2.1;simpa using this
  exact ⟨e,hr _ _ _ h1.2 h2.2⟩)
 rw [List.foldr_reverse] at this
 exact this
theorem Je5 {w:World} {b:Nat} {q:Loop} (h:w.heap[b]? =some (.loop q)):(Instr.getLoop b).run P w= .ok q w:=by
 simp only [Instr.getLoop,Sem.run_bind,Jcd h,Result.andThen_ok,Sem.run_pure]
theorem JlU {w:World} {b:Nat} {q:Loop} (h:w.heap[b]? =some (.loop q)) (hq:q.state= .ready):(Instr.beginRound b).run P w= .ok () (World.setO w b (.loop { q with state:= .busy})):=by
 simp only [Instr.beginRound,Sem.run_bind,Je5 h,Result.andThen_ok,JbK h,hq,Sem.run_pure]
theorem JoE {w:World} {b:Nat} {q:Loop} {j:Option Code} (h:w.heap[b]? =some (.loop q)):(Instr.endRound b j).run P w= .ok (.bool j.isNone) (World.setO w b (.loop { q with state:=if j.isNone then .ready else .done,pending:=j})):=by
 simp only [Instr.endRound,Sem.run_bind,Je5 h,Result.andThen_ok,JbK h,Sem.run_pure]
theorem JgN {i:Id} {h:Heap} {pd:Option Code} {n:Nat} {t:Nat→AV} {ps:Array Tmp} {asg body:Code} {as:List AV} {Q:AV→Heap→Prop} (hlp:J6 i.1 h.bx=some (i.2, .lp .ready pd n t ps asg body))
 (hlen:as.length=ps.size) (hw:AW P asg (JcF n t h (ps.toList.zip as).reverse) (JoD P i body Q)):ECallG (JwT P i) as h (JgL Q):=by
 intro X w g vs hk hsep hl hr
 obtain ⟨b,hgb,fn,tmps,d,hb,hsz,hrt⟩:=hk.bx _ (Jat hlp)
 dsimp only at hgb
 refine ⟨b,_,hgb,hb,by simp [hl,hlen], ?_⟩
 have hs0:St (some b) X (excl none2 g h) w ⟨n,t,h,none⟩ { tmps:=tmps,defers:= []} w g:=
  ⟨hk,hrt,hsz,Evo.refl _ _,fun _ _ hx _=> hx,rfl,hsep,⟨fun h0=> (by cases h0),fun _=> rfl⟩,fun l hl=> (by cases hl;exact ⟨_,hb⟩)⟩
 have hs:=hs0.round ps.toList as vs hl.symm hr
 have ey:Jn8 ps vs.toArray tmps=(ps.toList.zip vs).foldl (fun tmps p=> tmps.setIfInBounds p.1 p.2) tmps:=by
  unfold Jn8;rw [← Array.foldl_toList,Array.toList_zip]
 unfold AW at hw
 have h1:=hw (some b) X _ w _ w g g (fun _ _ h=> h) hs
 refine roundIn_of_wpIn (F:=Fr none) trivial (wpIn_mono (F:=Fr (some b)) (by dsimp only;rw [ey];exact h1) fun ex a1 w1 hq=> ?_)
 obtain ⟨ax,E1,g1,q,hx,hg1,s⟩:=hq
 cases ax with
 | normal=>
   cases (hx:ex= .normal);dsimp only [JoD] at q;split at q
   ·rename_i st pd1 n1 t1 ps1 asg1 body1 Jbm
    obtain ⟨rfl,q⟩:=q;obtain ⟨b1,hgb1,fn1,tmps1,d1,hb1,hsz1,hrt1⟩:=s.hok.bx _ (Jat Jbm);dsimp only at hgb1;have:b1=b:=(by have:=hg1 _ _ hgb;rw [hgb1] at this;cases this;rfl);subst this;refine ⟨_,JlU hb1 rfl, ?_⟩;have hev:=Jdq (o':= .loop ⟨.busy,pd1,fn1,tmps1,ps1,asg1,body1,d1⟩) hb1 rfl (fun _=> rfl);have s2:=s.setOwn (x:= .lp .busy pd1 n1 t1 ps1 asg1 body1) Jbm hgb1 hev (fun hst=> ⟨fn1,tmps1,d1,JcR hb1,hsz1,fun k=> (hrt1 k).stays hst⟩);unfold AW at q;refine wpIn_mono (F:=Fr (some b1)) (q (some b1) X _ w a1 _ g1 g hg1 s2) fun ex2 a2 w2 hq2=> ?_;obtain ⟨ax2,E2,g2,q2,hx2,hg2,s2⟩:=hq2;have fin:∀(st:LoopState) (j:Option Code),st=(if j.isNone then .ready else .done)→JlT i st j j.isNone Q E2→∃v w',(Instr.endRound b1 j).run P w2= .ok v w'∧
     ∃r h' g',ResRep w' (excl X g' h') g' r (.returned v)∧JgL Q r h'∧(∀(i b:Nat),g[i]? =some b→g'[i]? =some b)∧HOk w' (excl X g' h') g' h'∧(∀b o,X b o→∀i,i∈h'.ids→g'[i]? ≠some b)∧
     Evo (excl none2 g h) w w'∧(∀b o,excl none2 g' h' b o→b < w.heap.size→excl none2 g h b o):=by
     intro st j hst hf;unfold JlT at hf;split at hf
     ·rename_i s3 st3 pd3 n3 t3 ps3 asg3 body3 hget3
      obtain ⟨rfl,hf⟩:=hf;obtain ⟨b3,hgb3,fn3,tmps3,d3,hb3,hsz3,hrt3⟩:=s2.hok.bx _ (Jat hget3);dsimp only at hgb3;have:b3=b1:=(by have:=hg2 _ _ hgb;rw [hgb3] at this;cases this;rfl);subst this;have hev3:=Jdq (o':= .loop ⟨st,j,fn3,tmps3,ps3,asg3,body3,d3⟩) hb3 rfl (fun _=> rfl);have s4:=s2.setOwn (x:= .lp st j n3 t3 ps3 asg3 body3) hget3 hgb3 hev3 (fun hst=> ⟨fn3,tmps3,d3,JcR hb3,hsz3,fun k=> (hrt3 k).stays hst⟩);refine ⟨_,_,by rw [JoE hb3,← hst], .ret (.v (.bool j.isNone)),_,g2,⟨_,rfl, .v _⟩,hf,hg2,s4.hok,s4.sep,s4.evo,s4.loc⟩
     ·exact hf.elim
    cases ax2 with
    | normal=> cases (hx2:ex2= .normal);exact fin .ready none rfl q2
    | ret=> cases (hx2:ex2= .ret);exact fin .done (some .ret) rfl q2
    | exit id=> cases (hx2:ex2= .exit id);exact fin .done (some (.exit id)) rfl q2
    | goto l=> cases (hx2:ex2= .goto l);exact fin .done (some (.goto l)) rfl q2
    | panic x=> exact q2.elim
   ·exact q.elim
 | ret=> exact q.elim
 | exit id=> exact q.elim
 | goto l=> exact q.elim
 | panic x=> exact q.elim
theorem JuG {o:Oper} {E:Env} {K:Env→Prop} {Kp:AV→Env→Prop} {fo:Operand} {args:Array Operand} {tys:Array TypeId} {i:Id} {Q:AV→Heap→Prop}
 (ho:o.op= .call { callee:= .value fo,args:=args,argTypes:=tys}) (hf:E.ev fo= .yl i)
 (hc:ECallG (JwT P i) (args.toList.map E.ev) E.h (JgL Q)) (hk:∀r h',Q r h'→Named r h' fun r h'=> K (({ E with h:=h'}:Env).set o.dst r)):AOp P o E K Kp:=by
 intro ro X M w0 a w g hs next Q' hn hpan
 have hfr:=hs.ev fo
 rw [hf] at hfr
 generalize hu:a.eval fo=u at hfr
 cases hfr with
 | yl _ b' hgb'=>
   obtain ⟨b,q,hgb,hb,hsz,hround⟩:=hc X w g (args.toList.map a.eval) hs.hok hs.sep Si (fun k c u hc hu=> by
    rw [List.getElem?_map] at hc hu;cases hx:args.toList[k]? with
    | none=> simp [hx] at hc
    | some x=>
      simp only [hx,Option.map_some,Option.some.injEq] at hc hu;subst hc;subst hu;exact hs.ev x)
   obtain rfl:b=b':=by rw [hgb] at hgb';exact Option.some.inj hgb'
   have eargs:(args.toList.map a.eval).toArray=args.map a.eval:=by apply Array.ext';simp
   have hrun:(execOp a.eval o).run P w= .ok (.round b q.fn (Jn8 q.params (args.map a.eval) q.tmps) q.assign q.body) w:=by
    unfold execOp;simp only [ho,resolve,hu,Deferred.ofValue,pure_bind,invoke,Array.empty_append,Array.append_empty];rw [eargs] at hsz;have hne:¬((args.map a.eval).size≠q.params.size):=fun h=> h hsz;simp only [Instr.yield,Sem.run_bind,Je5 hb,Result.andThen_ok,if_neg hne,Sem.run_pure];rfl
   refine Jx (by rw [ho];intro c h;cases h) ?_;rw [hrun];rw [eargs] at hround;refine ⟨fun h0=> (by cases h0),RoundIn.mono (F:=Fr ro) (n:=0) (R':=_) (show RoundIn (Fr ro) 0 P b q.fn _ q.assign q.body w _ from hround) ?_⟩;rintro e w' ⟨r,h',g',a6,a2,a3,a4,a5,a7,a8⟩;have hst:Stays w (excl X g E.h) g w' (excl X g' h') g':=by
    refine a7.stays (fun b o _ hx=> Jas hx) (fun b o hb' hx=> ?_) a3;rcases hx with hx | hx | hx
    ·exact .inl hx
    ·exact Jas (a8 b o (.inr (.inl hx)) hb')
    ·exact Jas (a8 b o (.inr (.inr hx)) hb')
   have hnew:St ro X M w0 { E with h:=h'} a w' g':=
    ⟨a4,fun k=> (hs.tm k).stays hst,hs.n,hs.evo.and_then a7 (fun b o hb' hx=> hs.loc b o hx hb'),fun b o hx hb'=> hs.loc b o (a8 b o hx (Nat.lt_of_lt_of_le hb' hs.evo.size)) hb',hs.def_.stays hst,a5,hs.top,hs.rnd⟩
   cases r with
   | pan x=> exact a2.elim
   | ret r=>
     obtain ⟨u,rfl,a6⟩:=a6;obtain ⟨r',h'',l1,l2,hk'⟩:=hk r h' a2;have hnew':=hnew.like l2;refine hn _ _ _ g' hk' a3 (hnew'.put o.dst ?_);show Rep w' (excl X g' h'') g' r' u;rw [l2.excl];exact l1 _ _ _ _ a6
def Je6 (i:Id) (E:Env) (Q:AExit→Env→Prop) (h:Heap):Prop:=
 match J6 i.1 h.bx with
 | some (s, .lp st pd n t ps asg body)=> s=i.2∧st≠ .busy∧
   (let E2:Env:= { E with h:= { h with bx:=JaA i.1 (.lp .exhausted pd n t ps asg body) h.bx}}
    match pd with
    | none=> Q .normal E2
    | some .ret=> Q .ret E2
    | some (.exit id)=> Q (.exit id) E2
    | some (.goto l)=> Q (.goto l) E2
    | _=> False)
 | _=> False
theorem JqL {w:World} {b:Nat} {q:Loop} (h:w.heap[b]? =some (.loop q)) (hq:q.state≠ .busy):(Instr.endLoop b).run P w= .ok q.pending (World.setO w b (.loop { q with state:= .exhausted})):=by
 have:(q.state ==LoopState.busy)=false:=by cases hst:q.state <;> first | rfl | exact absurd hst hq
 simp only [Instr.endLoop,Sem.run_bind,Je5 h,Result.andThen_ok,JbK h,this,Bool.false_eq_true,if_false,Sem.run_pure]
theorem JnP {gop:Operand} {it:FuncId} {v1 v2:List Value} {a:Act} {b:Nat} {w:World} (hu:a.eval gop= .func (.func it) v1.toArray v2.toArray) (hc:Jbi P it):
 ∃d,(resolve a.eval (rangeCall gop b) 0).run P w= .ok d w∧(invoke d.target d.args).run P w= .ok (.enter it (v1++ [Value.func (.yield b) #[] #[]]++v2).toArray) w:=by
 obtain ⟨fn,hfn,hbody,hname⟩:=hc
 refine ⟨_,by simp only [rangeCall,resolve,hu,Deferred.ofValue,pure_bind];rfl, ?_⟩
 simp only [invoke,callFunc,Sem.run_bind,run_program,Result.andThen_ok,hfn,hname,hbody,Bool.false_eq_true,if_false,Sem.run_pure]
 congr 3
 apply Array.ext'
 simp
 rfl
theorem DOk.push {w:World} {X:Nat→Nat→Prop} {g:List Nat} {ds:List DA} {es:List Deferred} {d:DA} {e:Deferred} (h:DOk w X g (some ds) es) (h1:DRep w X g d e):DOk w X g (some (d::ds)) (e::es):=DReps.cons h1 h
theorem JuH {E:Env} {Q:AExit→Env→Prop} {i:Id} {ro:Option Nat} {X M:Nat→Nat→Prop} {w0:World} {g0 g:List Nat} {a:Act} {w:World} {b:Nat} {h:Heap} (hg0:∀(i b:Nat),g0[i]? =some b→g[i]? =some b)
 (hs:St ro X M w0 { E with h:=h} a w g) (hgb:g[i.2]? =some b) (hd:Je6 i E Q h):
 ∃jump w4,(Instr.endLoop b).run P w= .ok jump w4∧(match jump with | none=> Jd9 ro X M w0 g0 Q .normal a w4 | some c=> c.wpIn (Fr ro) 0 P (Jd9 ro X M w0 g0 Q) a w4):=by
 unfold Je6 at hd
 split at hd
 ·rename_i s st pd n t ps asg body Jbm
  obtain ⟨rfl,hst,hd⟩:=hd;obtain ⟨b3,hgb3,fn3,tmps3,d3,hb3,hsz3,hrt3⟩:=hs.hok.bx _ (Jat Jbm);dsimp only at hgb3;rw [hgb] at hgb3;obtain rfl:b=b3:=Option.some.inj hgb3;have hev:=Jdq (o':= .loop ⟨.exhausted,pd,fn3,tmps3,ps,asg,body,d3⟩) hb3 rfl (fun _=> rfl);have s4:=hs.setOwn (x:= .lp .exhausted pd n t ps asg body) Jbm hgb hev (fun hst=> ⟨fn3,tmps3,d3,JcR hb3,hsz3,fun k=> (hrt3 k).stays hst⟩);refine ⟨_,_,JqL hb3 hst, ?_⟩;dsimp only at hd⊢;cases pd with
  | none=> exact ⟨.normal,_,g,hd,rfl,hg0,s4⟩
  | some c=>
    cases c with
    | ret=> exact wpIn_ret ⟨.ret,_,g,hd,rfl,hg0,s4⟩
    | exit id=> exact wpIn_exit ⟨.exit id,_,g,hd,rfl,hg0,s4⟩
    | goto l=> exact wpIn_goto ⟨.goto l,_,g,hd,rfl,hg0,s4⟩
    | _=> exact hd.elim
 ·exact hd.elim
theorem JsJ {E1:Env} {Q:AExit→Env→Prop} {it:FuncId} {first caps:List AV} {i:Id} {ro:Option Nat} {X M:Nat→Nat→Prop} {w0:World} {g0 g1:List Nat} {a1:Act} {w1:World} {b:Nat} {v1 v2:List Value}
 (hg1:∀(i b:Nat),g0[i]? =some b→g1[i]? =some b) (hs1:St ro X M w0 E1 a1 w1 g1) (hgb:g1[i.2]? =some b)
 (hl1:v1.length=first.length) (hl2:v2.length=caps.length) (hr1:∀(k:Nat) (c:AV) (u:Value),first[k]? =some c→v1[k]? =some u→Rep w1 (excl X g1 E1.h) g1 c u)
 (hr2:∀(k:Nat) (c:AV) (u:Value),caps[k]? =some c→v2[k]? =some u→Rep w1 (excl X g1 E1.h) g1 c u)
 (hc:ECall P it (first++ [.yl i]++caps) E1.h fun _ h'=> Je6 i E1 Q h'):
 CallsIn (Fr ro) 0 P it (v1++ [Value.func (.yield b) #[] #[]]++v2).toArray w1 (rangePost (Fr ro) 0 P b (Jd9 ro X M w0 g0 Q) a1):=by
 refine JlO.2 (Calls.mono (hc.2 X w1 g1 (v1++ [Value.func (.yield b) #[] #[]]++v2) hs1.hok hs1.sep (by simp [hl1,hl2]) (fun k c u hc hu=> ?_)) ?_)
 ·rw [List.getElem?_append] at hc hu;simp only [List.length_append,List.length_cons,List.length_nil,hl1] at hc hu;split at hc
  ·rename_i h1
   rw [if_pos h1] at hu;rw [List.getElem?_append] at hc hu;rw [hl1] at hu;split at hc
   ·rename_i h2;rw [if_pos h2] at hu;exact hr1 k c u hc hu
   ·rename_i h2;rw [if_neg h2] at hu
    have:k - first.length=0:=Om;rw [this] at hc hu;simp at hc hu;subst hc;subst hu;exact .yl _ _ hgb
  ·rename_i h1
   rw [if_neg h1] at hu;exact hr2 _ c u hc hu
 ·rintro e w' ⟨r,h',g',a6,a2,a3,a4,a5,a7,a8⟩;have hst:Stays w1 (excl X g1 E1.h) g1 w' (excl X g' h') g':=by
   refine a7.stays (fun b o _ hx=> Jas hx) (fun b o hb' hx=> ?_) a3;rcases hx with hx | hx | hx
   ·exact .inl hx
   ·exact Jas (a8 b o (.inr (.inl hx)) hb')
   ·exact Jas (a8 b o (.inr (.inr hx)) hb')
  have hnew:St ro X M w0 { E1 with h:=h'} a1 w' g':=
   ⟨a4,fun k=> (hs1.tm k).stays hst,hs1.n,hs1.evo.and_then a7 (fun b o hb' hx=> hs1.loc b o hx hb'),fun b o hx hb'=> hs1.loc b o (a8 b o hx (Nat.lt_of_lt_of_le hb' hs1.evo.size)) hb',hs1.def_.stays hst,a5,hs1.top,hs1.rnd⟩
  cases r with
  | pan x=> exact a2.elim
  | ret r=>
    obtain ⟨u,rfl,a6⟩:=a6;obtain ⟨jump,w4,h1,h2⟩:=JuH (P:=P) (fun i b hi=> a3 i b (hg1 i b hi)) hnew (a3 _ _ hgb) a2;exact ⟨jump,w4,h1,h2⟩
theorem JjZ {gop:Operand} {ps:Array Tmp} {asg body:Code} {E:Env} {Q:AExit→Env→Prop} {it:FuncId} {first caps:List AV} {ds:List DA} (hd:E.df=some ds) (hf:E.ev gop= .fn (.func it) first caps)
 (hc:ECall P it (first++ [.yl (E.h.nn+1,E.h.nx+1)]++caps) ((E.h.addo .df).addo (.lp .ready none E.n E.t ps asg body)) fun _ h'=>
   Je6 (E.h.nn+1,E.h.nx+1) { E with h:=(E.h.addo .df).addo (.lp .ready none E.n E.t ps asg body),df:=some (.col (E.h.nn,E.h.nx)::ds)} Q h'):AW P (.rangeFunc gop ps asg body) E Q:=by
 unfold AW
 intro ro X M w0 a w g g0 hg hs
 obtain rfl:ro=none:=hs.top.1 (by rw [hd];rfl)
 refine wpIn_rangeFunc fun fn _=> ?_
 have hfr:=hs.ev gop
 rw [hf] at hfr
 generalize hu:a.eval gop=u at hfr
 cases hfr with
 | fn _ _ _ v1 v2 hl1 hl2 hr1 hr2=>
   obtain ⟨s1,q1,st1⟩:=hs.obj (x:= .df) (.deferred (some [])) (fun X' g' _ hnew=> hnew);obtain ⟨s2,q2,st2⟩:=s1.obj (x:= .lp .ready none E.n E.t ps asg body) (.loop ⟨.ready,none,fn,a.tmps,ps,asg,body,w.heap.size⟩) (fun X' g' hst hnew=> ⟨fn,a.tmps,w.heap.size,hnew,s1.n,fun k=> (s1.tm k).stays hst⟩);have hgi:∀(i b:Nat),g[i]? =some b→(g++ [w.heap.size]++ [(w.alloc (.deferred (some []))).heap.size])[i]? =some b:=fun i b h=> by
    have:=(List.getElem?_eq_some_iff.1 h).1;rw [List.getElem?_append_left (by simp;omega),List.getElem?_append_left this];exact h
   have hent:(Instr.enterLoop fn a.tmps ps asg body (Fr none).round).run P w= .ok ((w.alloc (.deferred (some []))).heap.size, [{ target:= .collected w.heap.size,args:= #[]}])
    ((w.alloc (.deferred (some []))).alloc (.loop ⟨.ready,none,fn,a.tmps,ps,asg,body,w.heap.size⟩)):=by
    simp only [Instr.enterLoop,Fr,Fence.wide];simp [newObj,Sem.run]
   obtain ⟨d,hres,hinv⟩:=JnP (P:=P) (b:=(w.alloc (.deferred (some []))).heap.size) (w:=(w.alloc (.deferred (some []))).alloc (.loop ⟨.ready,none,fn,a.tmps,ps,asg,body,w.heap.size⟩)) hu hc.1;have s3:St none X M w0 { E with h:=(E.h.addo .df).addo (.lp .ready none E.n E.t ps asg body),df:=some (.col (E.h.nn,E.h.nx)::ds)} { a with defers:= [{ target:= .collected w.heap.size,args:= #[]}]++a.defers}
    ((w.alloc (.deferred (some []))).alloc (.loop ⟨.ready,none,fn,a.tmps,ps,asg,body,w.heap.size⟩)) (g++ [w.heap.size]++ [(w.alloc (.deferred (some []))).heap.size]):=by
    have hdef:=s2.def_;dsimp only at hdef;rw [hd] at hdef;have hq1:(g++ [w.heap.size]++ [(w.alloc (.deferred (some []))).heap.size])[E.h.nx]? =some w.heap.size:=by
     rw [List.getElem?_append_left (by simp [hs.hok.nx])];exact q1
    exact ⟨s2.hok,s2.tm,s2.n,s2.evo,s2.loc,DOk.push hdef (.col _ _ hq1),s2.sep,⟨fun _=> rfl,fun h0=> (by cases h0)⟩,s2.rnd⟩
   exact ⟨_,_,_,d,_,it,_,_,hent,hres,fun _ _=> trivial,hinv,fun h0=> (by cases h0),
    JsJ (fun i b hi=> hgi i b (hg i b hi)) s3 q2 hl1 hl2 (fun k c u hc hu=> ((hr1 k c u hc hu).stays st1).stays st2) (fun k c u hc hu=> ((hr2 k c u hc hu).stays st1).stays st2) hc⟩
structure HLe (h h':Heap):Prop where
 ok:∀w X g,HOk w (excl X g h) g h→HOk w (excl X g h') g h'
 ex:∀Y g b o,excl Y g h' b o→excl Y g h b o
 ids:∀i,i∈h'.ids→i∈h.ids
theorem HLe.refl (h:Heap):HLe h h:=⟨fun _ _ _ h=> h,fun _ _ _ _ h=> h,fun _ h=> h⟩
theorem HLe.trans {a b c:Heap} (h:HLe a b) (k:HLe b c):HLe a c:=⟨fun w X g q=> k.ok w X g (h.ok w X g q),fun Y g b o q=> h.ex Y g b o (k.ex Y g b o q),fun i q=> h.ids i (k.ids i q)⟩
theorem Jj0 {h h':Heap} (l:Like h h'):HLe h h':=⟨fun w X g hk=> by rw [l.excl];exact hk.like l,fun Y g b o hx=> by rw [← l.excl];exact hx,fun i hi=> l.ids.mem_iff.1 hi⟩
theorem JuI {h:Heap} {bx:List (Id×Own)} (l:BxLe h.bx bx):HLe h { h with bx:=bx}:=
 ⟨fun w X g hk=> by rw [l.excl];exact hk.cells l,fun Y g b o hx=> by rw [← l.excl];exact hx,fun i hi=> by rw [← l.ids];exact hi⟩
theorem JwU {h:Heap} {bx:List (Id×Own)} {pm:List (Id×Nat)} {nn:Nat} (hb:bx.Sublist h.bx) (hp:pm.Sublist h.pm):HLe h ⟨bx,pm,h.nx,nn⟩:=by
 have hex:∀Y g b o,excl Y g ⟨bx,pm,h.nx,nn⟩ b o→excl Y g h b o:=by
  rintro Y g b o (hx | ⟨p,hp',hg⟩ | ⟨p,hp',hg⟩)
  ·exact .inl hx
  ·exact .inr (.inl ⟨p,hb.subset hp',hg⟩)
  ·exact .inr (.inr ⟨p,hp.subset hp',hg⟩)
 have hids:(Heap.ids ⟨bx,pm,h.nx,nn⟩).Sublist h.ids:=by
  unfold Heap.ids;exact (hb.map _).append (hp.map _)
 refine ⟨fun w X g hk=> ?_,hex,fun i hi=> hids.subset hi⟩
 have hst:=Stays.less (w:=w) (g:=g) (hex X g)
 refine ⟨fun p hp'=> ?_,fun p hp'=> hk.pm p (hp.subset hp'),hk.nodup.sublist (hids.map _),hk.nx,fun b o hx=> hk.bd b o (hex X g b o hx),hk.kn.stays hst⟩
 obtain ⟨b,h1,h2⟩:=hk.bx p (hb.subset hp')
 exact ⟨b,h1,h2.stays hst rfl⟩
theorem Jr {h:Heap} {bx:List (Id×Own)} {pm:List (Id×Nat)} {nx nn:Nat} (bx':List (Id×Own)) (pm':List (Id×Nat)) (hx:h.nx=nx) (hb:bx'.Sublist h.bx) (hp:pm'.Sublist h.pm) (eb:BxLe bx' bx) (ep:PmEq pm' pm):HLe h ⟨bx,pm,nx,nn⟩:=by
 subst hx
 have e1:HLe h ⟨bx',pm',h.nx,nn⟩:=JwU hb hp
 have e2:HLe ⟨bx',pm',h.nx,nn⟩ ⟨bx,pm',h.nx,nn⟩:=JuI (h:=⟨bx',pm',h.nx,nn⟩) eb
 have e3:HLe ⟨bx,pm',h.nx,nn⟩ ⟨bx,pm,h.nx,nn⟩:=Jj0 ⟨.refl _, .of_eq (PmEq.map ep),rfl⟩
 exact e1.trans (e2.trans e3)
def wk (Q:AV→Heap→Prop) (r:AV) (h:Heap):Prop:=∃r' h',AVle r r'∧HLe h h'∧Q r' h'
theorem ECallG.wk {C:Way} {as:List AV} {h:Heap} {Q:AV→Heap→Prop} (hc:ECallG C as h (JgL (wk Q))):ECallG C as h (JgL Q):=by
 intro X w g vs h1 h2 h3 h4
 refine C.mono (hc X w g vs h1 h2 h3 h4) fun e w' ⟨r,h',g',a1,a2,a3,a4,a5,a7,a8⟩=> ?_
 cases r with
 | pan x=> exact a2.elim
 | ret r=>
   obtain ⟨r',h'',q1,q2,q3⟩:=a2;obtain ⟨u,rfl,a1⟩:=a1;exact ⟨.ret r',h'',g',⟨u,rfl,q1 _ _ _ _ (a1.stays (Stays.less (q2.ex X g')))⟩,q3,a3,q2.ok _ _ _ a4,fun b o hx i hi=> a5 b o hx i (q2.ids i hi),a7,fun b o hx hb=> a8 b o (q2.ex none2 g' b o hx) hb⟩
theorem ECall.wk {f:FuncId} {as:List AV} {h:Heap} {Q:AV→Heap→Prop} (hc:ECall P f as h (Vl.wk Q)):ECall P f as h Q:=⟨hc.1,hc.2.wk⟩
def Jn9 {σ α:Type} (Cb:σ→List (Id×Own)) (Cp:σ→List (Id×Nat)) (I:List α→σ→Prop) (J:List α→α→σ→Prop) (pre:List α) (x:α) (r:AV) (h':Heap):Prop:=
 ∃s',((r= .v (.bool true)∧I (pre++ [x]) s')∨(r= .v (.bool false)∧J pre x s'))∧h'.bx=Cb s'∧h'.pm=Cp s'
def Jj1 (P:Program) (i:Id) {σ α:Type} (e:α→List AV) (xs:List α) (Cb:σ→List (Id×Own)) (Cp:σ→List (Id×Nat)) (I:List α→σ→Prop) (J:List α→α→σ→Prop):Prop:=
 ∀pre x post s nx nn,xs=pre++x::post→I pre s→ECallG (JwT P i) (e x) ⟨Cb s,Cp s,nx,nn⟩ (JgL (Jn9 Cb Cp I J pre x))
def JsK {σ α:Type} (xs:List α) (I:List α→σ→Prop) (J:List α→α→σ→Prop) (s':σ):Prop:=I xs s'∨∃pre x post,xs=pre++x::post∧J pre x s'
def IterSpec (P:Program) (it:FuncId) (first caps:List AV) {α:Type} (e:α→List AV) (xs:List α):Prop:=
 ∀(i:Id) (σ:Type) (Cb:σ→List (Id×Own)) (Cp:σ→List (Id×Nat)) (I:List α→σ→Prop) (J:List α→α→σ→Prop),Jj1 P i e xs Cb Cp I J→
  ∀s0 nx nn,I [] s0→ECall P it (first++ [.yl i]++caps) ⟨Cb s0,Cp s0,nx,nn⟩ (fun _ h'=> ∃s',JsK xs I J s'∧h'.bx=Cb s'∧h'.pm=Cp s')
theorem Jc0 {o:Oper} {E:Env} {K:Env→Prop} {Kp:AV→Env→Prop} {fo:Operand} {args:Array Operand} {tys:Array TypeId} {i:Id} {σ α:Type} {e:α→List AV} {xs:List α} {Cb:σ→List (Id×Own)} {Cp:σ→List (Id×Nat)}
 {I:List α→σ→Prop} {J:List α→α→σ→Prop} (own:List (Id×Own)) (ownp:List (Id×Nat)) {pre post:List α} {x:α} {s:σ} {nx nn:Nat}
 (ho:o.op= .call { callee:= .value fo,args:=args,argTypes:=tys}) (hf:E.ev fo= .yl i) (hE:E.h=⟨own++Cb s,ownp++Cp s,nx,nn⟩) (hc:Jj1 P i e xs Cb Cp I J) (hx:xs=pre++x::post) (hI:I pre s)
 (hl:LeL (args.toList.map E.ev) (e x)) (hk1:∀s' nx',I (pre++ [x]) s'→K (({ E with h:=⟨own++Cb s',ownp++Cp s',nx',nn⟩}:Env).set o.dst (.v (.bool true))))
 (hk0:∀s' nx',J pre x s'→K (({ E with h:=⟨own++Cb s',ownp++Cp s',nx',nn⟩}:Env).set o.dst (.v (.bool false)))):AOp P o E K Kp:=by
 have h1:=((hc pre x post s nx nn hx hI).args hl).frame (h:=E.h) own ownp (by rw [hE];exact List.perm_append_comm) (by rw [hE];exact List.perm_append_comm) (by rw [hE])
 refine JuG ho hf (Q:=fun r h'=> ∃h1',Jn9 Cb Cp I J pre x r h1'∧h'=⟨h1'.bx++own,h1'.pm++ownp,h1'.nx,h1'.nn⟩) (h1.mono fun r h' hq=> ?_) (fun r h' hq=> ?_)
 ·obtain ⟨h1',q1,q2⟩:=hq;cases r with
  | pan x=> exact q1.elim
  | ret r=> exact ⟨h1',q1,q2⟩
 ·obtain ⟨h1',⟨s',q1,q2,q3⟩,rfl⟩:=hq;refine ⟨r,⟨own++Cb s',ownp++Cp s',h1'.nx,nn⟩,AVle.refl _,⟨?_, ?_,rfl⟩, ?_⟩
  ·rw [q2];exact List.perm_append_comm.map _
  ·rw [q3];exact List.perm_append_comm.map _
  ·rcases q1 with ⟨rfl,q1⟩ | ⟨rfl,q1⟩
   ·exact hk1 s' _ q1
   ·exact hk0 s' _ q1
theorem JyG {gop:Operand} {ps:Array Tmp} {asg body:Code} {E:Env} {Q:AExit→Env→Prop} {it:FuncId} {first caps:List AV} {ds:List DA} {σ α:Type} {e:α→List AV} {xs:List α} {first' caps':List AV}
 (Cb:σ→List (Id×Own)) (Cp:σ→List (Id×Nat)) (I:List α→σ→Prop) (J:List α→α→σ→Prop) (s0:σ) (hd:E.df=some ds) (hf:E.ev gop= .fn (.func it) first caps) (hit:IterSpec P it first' caps' e xs) (hl1:LeL first first') (hl2:LeL caps caps')
 (hb:((E.h.addo .df).addo (.lp .ready none E.n E.t ps asg body)).bx=Cb s0) (hp:E.h.pm=Cp s0) (h0:I [] s0) (hc:Jj1 P (E.h.nn+1,E.h.nx+1) e xs Cb Cp I J)
 (hend:∀s' nx nn,JsK xs I J s'→Je6 (E.h.nn+1,E.h.nx+1) { E with h:=(E.h.addo .df).addo (.lp .ready none E.n E.t ps asg body),df:=some (.col (E.h.nn,E.h.nx)::ds)} Q ⟨Cb s',Cp s',nx,nn⟩):
 AW P (.rangeFunc gop ps asg body) E Q:=by
 refine JjZ hd hf ?_
 have h1:=hit (E.h.nn+1,E.h.nx+1) σ Cb Cp I J hc s0 (E.h.nx+2) (E.h.nn+2) h0
 have e1:(E.h.addo .df).addo (.lp .ready none E.n E.t ps asg body)=⟨Cb s0,Cp s0,E.h.nx+2,E.h.nn+2⟩:=by
  rw [← hb,← hp];rfl
 rw [← e1] at h1
 refine ((ECall.args (LeL.append (LeL.append hl1 (LeL.refl _)) hl2) h1)).mono fun r h' hq=> ?_
 obtain ⟨s',q1,q2,q3⟩:=hq
 obtain ⟨bx,pm,nx,nn⟩:=h'
 dsimp only at q2 q3
 subst q2;subst q3
 exact hend s' nx nn q1
theorem JlV (c:Nat):c&&& 8=(c % 16)&&& 8:=by
 have:c % 16=c&&& 15:=(Nat.and_two_pow_sub_one_eq_mod c 4).symm
 rw [this,Nat.and_assoc];rfl
theorem Jej {w a:Nat} (h:a < 2 ^ w):(BitVec.ofInt w (a:Int)).toNat=a:=by
 rw [BitVec.ofInt_natCast,BitVec.toNat_ofNat,Nat.mod_eq_of_lt h]
theorem JoF {k:IntKind} {a b:Nat} (ha:a < 2 ^ k.bits) (hb:b < 2 ^ k.bits) (hw:k.wrap ((a&&& b:Nat):Int)=((a&&& b:Nat):Int)):Jb2 .and k a b=((a&&& b:Nat):Int):=by
 unfold Jb2
 simp only [BitVec.toNat_and]
 rw [Jej ha,Jej hb]
 exact hw
theorem JyH {k:IntKind} {a b:Nat} (ha:a < 2 ^ k.bits) (hb:b < 2 ^ k.bits) (hw:k.wrap ((a||| b:Nat):Int)=((a||| b:Nat):Int)):Jb2 .or k a b=((a||| b:Nat):Int):=by
 unfold Jb2
 simp only [BitVec.toNat_or]
 rw [Jej ha,Jej hb]
 exact hw
theorem JqM {k:IntKind} {a b:Nat} (ha:a < 2 ^ k.bits) (hb:b < 2 ^ k.bits) (hw:k.wrap ((a&&& (2 ^ k.bits - 1 - b):Nat):Int)=((a&&& (2 ^ k.bits - 1 - b):Nat):Int)):Jb2 .andNot k a b=((a&&& (2 ^ k.bits - 1 - b):Nat):Int):=by
 unfold Jb2
 simp only [BitVec.toNat_and,BitVec.toNat_not]
 rw [Jej ha,Jej hb]
 exact hw
theorem Frz.bpL {bs:List (Nat×Own)} {i:Id} {off:Nat} {cs cs':List AV} (hm:(i.2, .c cs)∈bs) (hc:FrzL bs (cs.drop off) cs'):Frz bs (.bp i off) (.rp cs'):=(Frz.bp hm rfl).trans (Frz.rp hc)
def Flat (a:AV):Prop:=∀w X g w' X' g' u,Rep w X g a u→Rep w' X' g' a u
theorem Flat.v (x:Value):Flat (.v x):=fun _ _ _ _ _ _ _ h=> by cases h;exact .v _
theorem Flat.any:Flat .any:=fun _ _ _ _ _ _ _ _=> .any _
theorem JqN {o:Oper} {E:Env} {fo:Operand} {args:Array Operand} {tys:Array TypeId} {f:FuncId} {first caps as:List AV} {r:AV}
 (ho:o.op= .call { callee:= .value fo,args:=args,argTypes:=tys}) (hf:E.ev fo= .fn (.func f) first caps)
 (hc:Tells P f as r) (hl:FrzL (E.h.bx.map fun p=> (p.1.2,p.2)) (first++args.toList.map E.ev++caps) as) (hid:Flat r):Yields P o E r:=by
 refine ⟨(by rw [ho];intro c h0;cases h0), ?_⟩
 intro ρ w X g hk hx
 obtain ⟨⟨fn,hfn,hbody,hname⟩,hcall⟩:=hc E.h.nx
 have hfr:=hx fo (by simp [ho,Op.operands,Call.operands])
 rw [hf] at hfr
 generalize hu:ρ fo=u at hfr
 cases hfr with
 | fn _ _ _ v1 v2 hl1 hl2 hr1 hr2=>
   have hrun:(execOp ρ o).run P w= .ok (.enter f (v1++args.toList.map ρ++v2).toArray) w:=by
    have e:v1.toArray++args.map ρ++v2.toArray=(v1++args.toList.map ρ++v2).toArray:=by
     apply Array.ext';simp
    unfold execOp;simp only [ho,resolve,hu,Deferred.ofValue,pure_bind,invoke,e];simp only [callFunc,Sem.run_bind,run_program,Result.andThen_ok,hfn,hname,hbody,Bool.false_eq_true,if_false,Sem.run_pure]
   have hxs:∀x∈args.toList,Rep w (excl X g E.h) g (E.ev x) (ρ x):=fun x hm=> hx x (by
    rw [ho];simp only [Op.operands,Call.operands];exact Array.mem_append_right _ (Array.mem_toList_iff.1 hm))
   refine .inr ⟨f,_,w,hrun,Evo.refl _ _, ?_⟩
   let X0:Nat→Nat→Prop:=fun b o=> excl X g E.h b o∧¬∃p∈E.h.bx,g[p.1.2]? =some b
   have hless:∀b o,X0 b o→excl X g E.h b o:=fun b o h=> h.1;have hex:excl X0 g ⟨[], [],E.h.nx,0⟩=X0:=by
    funext b o
    apply propext
    constructor
    ·rintro (h | ⟨p,hp,_⟩ | ⟨p,hp,_⟩)
     ·exact h
     ·cases hp
     ·cases hp
    ·exact .inl
   have hbs:∀p∈E.h.bx.map (fun p=> (p.1.2,p.2)),∃b,g[p.1]? =some b∧(∀o,¬X0 b o)∧OwnRep w X0 g b p.2:=by
    intro p hp;obtain ⟨q,hq,rfl⟩:=List.mem_map.1 hp;obtain ⟨b,h1,h2⟩:=hk.bx q hq;exact ⟨b,h1,fun o h=> h.2 ⟨q,hq,h1⟩,h2.stays (Stays.less hless) rfl⟩
   have hcs:=hcall X0 w g (v1++args.toList.map ρ++v2) (by rw [hex];exact ⟨by simp,by simp,by simp [Heap.ids],hk.nx,fun b o h=> hk.bd b o h.1,fun p hp=> ⟨(hk.kn p hp).1,fun o h=> (hk.kn p hp).2 o h.1⟩⟩) (fun b o _ i hi=> by simp [Heap.ids] at hi) (by
    have:=hl.get.1;simp only [List.length_append,List.length_map] at this⊢;omega) (fun k c u hc hu=> by
    rw [hex];have hlt:k < (first++args.toList.map E.ev++caps).length:=(by rw [hl.get.1];exact (List.getElem?_eq_some_iff.1 hc).1);have hca:=List.getElem?_eq_getElem hlt;generalize (first++args.toList.map E.ev++caps)[k]=c0 at hca;refine hl.get.2 k c0 c hca hc w X0 g u hbs (Rep.stays (Stays.less hless) ?_);rw [List.getElem?_append] at hca hu;simp only [List.length_append,List.length_map,hl1,hl2] at hca hu;split at hca
    ·rename_i h1
     rw [if_pos h1] at hu;rw [List.getElem?_append] at hca hu;rw [hl1] at hu;split at hca
     ·rename_i h2;rw [if_pos h2] at hu;exact hr1 k c0 u hca hu
     ·rename_i h2;rw [if_neg h2] at hu
      exact JeP hxs _ c0 u hca hu
    ·rename_i h1
     rw [if_neg h1] at hu;exact hr2 _ c0 u hca hu)
   refine Calls.mono hcs fun e w' ⟨r',h',g',a6,q,a3,a4,a5,a7,a8⟩=> ?_;cases r' with
   | pan x=> exact q.elim
   | ret r'=>
   obtain ⟨a2,b1,b2⟩:=q;obtain ⟨u,a1,a6⟩:=a6;refine ⟨u,a1,a7.mono fun b o _ hx=> ?_,hid _ _ _ _ _ _ _ (a2 _ _ _ _ a6)⟩;rcases hx with hx | ⟨p,hp,_⟩ | ⟨p,hp,_⟩
   ·exact hx
   ·cases hp
   ·cases hp
end Go.Vl

/- A region that draws, in which one conversion may be late: it need not stand ahead of what is stored. -/
namespace Go.Vl
open Go.RowKit
variable {P:Program}
structure OrdOkZ (ops:Array Oper) (m z:Nat):Prop where
 lt:z < m
 back:∀(j:Nat) (o:Oper),ops[j]? =some o→∀e∈o.after,Region.binds .any e=true→e.on < j
 pair:∀(i j:Nat) (oi oj:Oper),ops[i]? =some oi→ops[j]? =some oj→i < j→j < m→((Region.before ops).getD j 0).testBit i=true∨oi.apart ops oj=true
 tail:∀(i j:Nat) (oj:Oper),ops[j]? =some oj→m≤j→i < j→i≠z→((Region.before ops).getD j 0).testBit i=true
 late:∀(j:Nat) (oj oz:Oper),ops[j]? =some oj→ops[z]? =some oz→m≤j→((Region.before ops).getD j 0).testBit z=true∨oz.apart ops oj=true
 quiet:∀(j:Nat) (oj:Oper),ops[j]? =some oj→m≤j→(∀c,oj.op≠ .defer c)∧(∀cs b,oj.op≠ .select cs b)
section
variable {ops:Array Oper} {m z:Nat} {Q:Exit→Act→World→Prop}
end
end Go.Vl

/- Calls that are put off, panics that are caught, values behind interfaces. -/
namespace Go.Vl
open Go.RowKit
variable {P:Program}
theorem Jih {o:Oper} {E:Env} {K:Env→Prop} {fo:Operand} {args:Array Operand} {tys:Array TypeId} {f:FuncId} {caps:List AV} {ds:List DA} {Kp:AV→Env→Prop}
 (ho:o.op= .defer { callee:= .value fo,args:=args,argTypes:=tys}) (hf:E.ev fo= .fn (.func f) [] caps) (hd:E.df=some ds)
 (hk:K (({ E with df:=some (.fn f caps (args.toList.map E.ev)::ds)}:Env).set o.dst .any)):AOp P o E K Kp:=by
 intro ro X M w0 a w g hs next Q hn hp
 have hro:ro=none:=hs.top.1 (by rw [hd];rfl)
 subst hro
 have hfr:=hs.ev fo
 rw [hf] at hfr
 generalize hu:a.eval fo=u at hfr
 cases hfr with
 | fn _ _ _ v1 v2 hn1 hn2 h1 h2=>
   obtain rfl:v1= []:=List.eq_nil_of_length_eq_zero hn1;have hrun:(execOp a.eval o).run P w= .ok (.defer ⟨.fn (.func f) v2.toArray,(args.toList.map a.eval).toArray⟩) w:=by
    have e:(#[]:Array Value)++args.map a.eval=(args.toList.map a.eval).toArray:=(by apply Array.ext';simp);unfold execOp;simp only [ho,resolve,hu,Deferred.ofValue,pure_bind];simp [e]
   refine ⟨fun _ _=> trivial, ?_⟩;show o.uponIn (Fr none) 0 P a next Q ((Oper.semAt none a.eval o).run P w)
   rw [Oper.semAt_none,hrun,Oper.uponIn_defer];have hs1:St none X M w0 { E with df:=some (.fn f caps (args.toList.map E.ev)::ds)} { a with defers:=⟨.fn (.func f) v2.toArray,(args.toList.map a.eval).toArray⟩::a.defers} w g:=by
    have hdef:=hs.def_;rw [hd] at hdef;exact ⟨hs.hok,hs.tm,hs.n,hs.evo,hs.loc,DReps.cons (.fn f caps _ v2 _ hn2 Si h2 (JeP fun x _=> hs.ev x)) hdef,hs.sep,⟨fun _=> rfl,fun h0=> (by cases h0)⟩,hs.rnd⟩
   exact hn _ _ _ _ hk (fun i b h=> h) (hs1.put o.dst (.any _))
theorem JeL {t:TypeId} {D:TypeDesc} (h:P.underlying t=some D) (w:World):(underlying t).run P w= .ok D w:=by
 obtain ⟨i,hi⟩:=Jjt h
 exact run_underlying h w
def JoG:AMode→AV
 | .returning=> .v .nilIface
 | .panicking x=> x
def JAX (P:Program) (fn:Func) (Q:Heap→Prop):AExit→Env→Prop
 | .normal,E=> E.df=some []∧Jfx P fn (fun _ h=> Q h) E
 | .ret,E=> E.df=some []∧Jfx P fn (fun _ h=> Q h) E
 | _,_=> False
theorem JnQ {f:FuncId} {fn:Func} {id:Nat} {rest:Code} {args:List AV} {u:AMode} {h:Heap} {Q:AMode→Heap→Prop} {o0 o1:Oper} {x:Operand}
 (hf : P.funcs[f]? = some fn) (hb : fn.body = some (.seq (.region id #[o0, o1] false) rest)) (hn : (fn.name == "runtime.NumGoroutine") = false)
 (h0:o0.op= .call { callee:= .builtin .recover,args:= #[],argTypes:= #[]}) (hg0:o0.guard=none) (h1:o1.op= .assign x) (hg1:o1.guard=none)
 (hw:AW P rest (((entry fn args h).set o0.dst (JoG u)).set o1.dst (((entry fn args h).set o0.dst (JoG u)).ev x)) (JAX P fn (Q .returning))):DCall P f args u h Q:=by
 refine ⟨⟨fn,hf,by rw [hb];rfl,hn⟩,fun X w g vs m hk hsep hl hr hm=> ?_⟩
 refine callsDIn_of_wpSIn hf hb trivial fun c₀ cs hc₀=> ?_
 have hs:St none X (excl none2 g h) w (entry fn args h) { tmps:=vs.toArray++Array.replicate (fn.ntmps - vs.toArray.size) undef,defers:= []} w g:=by
  refine ⟨hk,fun k=> ?_,by simp [entry,hl],Evo.refl _ _,fun b o hx _=> hx,DReps.nil,hsep,⟨fun _=> rfl,fun h0=> (by cases h0)⟩,fun _ h0=> (by cases h0)⟩;simp only [entry,List.getD];cases hc:args[k]? with
  | none=> exact .any _
  | some c=>
    have hlt:k < args.length:=(List.getElem?_eq_some_iff.1 hc).1;have hlv:k < vs.length:=Om;have hv:(vs.toArray++Array.replicate (fn.ntmps - vs.toArray.size) undef).getD k undef=vs[k]:=by
     rw [Array.getD_eq_getD_getElem?,Array.getElem?_append_left (by simpa using hlv)];simp [hlv]
    show Rep _ _ _ _ ((vs.toArray++Array.replicate (fn.ntmps - vs.toArray.size) undef).getD k undef);rw [hv];exact hr k c _ hc (List.getElem?_eq_getElem hlv)
 generalize ({ tmps:=vs.toArray++Array.replicate (fn.ntmps - vs.toArray.size) undef,defers:= []}:Act)=a0 at hs⊢
 refine wpSIn_seq (wpSIn_region ?_)
 generalize hR:(fun (e:Ending) (m':FrameMode) (w':World)=> ∃v u' h' g',e= .returned v∧DMRep w' (excl X g' h') g' u' (settle m')∧Q u' h'∧(∀(i b:Nat),g[i]? =some b→g'[i]? =some b)∧HOk w' (excl X g' h') g' h'∧(∀b o,X b o→∀i,i∈h'.ids→g'[i]? ≠some b)∧
  Evo (excl none2 g h) w w'∧(∀b o,excl none2 g' h' b o→b < w.heap.size→excl none2 g h b o))=R
 have fin:∀(m':FrameMode) (v:Value),settle m'= .returning→Rep w (excl X g h) g (JoG u) v→
  rest.wpSIn (Fr none) 0 P (bodyPostS P fn c₀ cs R) ((a0.put o0.dst v).put o1.dst ((a0.put o0.dst v).eval x)) ({ c₀ with mode:=m'}::cs) w:=by
  intro m' v hm' hv;have hs1:=hs.put o0.dst (r:=JoG u) (u:=v) hv;have hs2:=hs1.put o1.dst (hs1.ev x);refine wpSIn_of_wpIn rfl ?_;unfold AW at hw;refine wpIn_mono (hw none X _ w _ w g g (fun _ _ h=> h) hs2) fun ex a' w' hq=> ?_;obtain ⟨ax,E',g',q,hx,hg',s⟩:=hq;have done:(E'.df=some []∧Jfx P fn (fun _ h=> Q .returning h) E')→a'.defers= []∧∃u',({ c₀ with mode:=m'}::cs:List Frame)= { c₀ with mode:=u'}::cs∧∃v,(results fn a'.tmps).run P w'= .ok v w'∧R (.returned v) u' w':=by
   rintro ⟨hd,q⟩;have e0:a'.defers= []:=by have:=s.def_;rw [hd] at this;exact this.nil
   refine ⟨e0,m',rfl, ?_⟩;unfold Jfx at q;split at q
   ·rename_i cs' r hres
    obtain ⟨u1,q1,q2⟩:=JkD s hres q.1;refine ⟨u1,q1, ?_⟩;rw [← hR];exact ⟨u1, .returning,E'.h,g',rfl,hm',q.2,hg',s.hok,s.sep,s.evo,s.loc⟩
   ·exact q.elim
  cases ax with
  | normal=> cases (hx:ex= .normal);exact done q
  | ret=> cases (hx:ex= .ret);exact done q
  | panic x=> exact q.elim
  | exit i=> exact q.elim
  | goto i=> exact q.elim
 have hrun0:∀(a:Act),(execOp a.eval o0).run P w= .ok .recover w:=by
  intro a;unfold execOp;simp only [h0,resolve];simp [invoke,builtin]
 have hrun1:∀(a:Act),(execOp a.eval o1).run P w= .ok (.value (a.eval x)) w:=by
  intro a;unfold execOp;simp only [h1];simp
 have tail:∀(m':FrameMode) (v:Value),settle m'= .returning→Rep w (excl X g h) g (JoG u) v→
  wpOpsSIn (Fr none) 0 P #[o0,o1] (Exit.thenS (rest.wpSIn (Fr none) 0 P (bodyPostS P fn c₀ cs R)) (bodyPostS P fn c₀ cs R)) [1] (a0.put o0.dst v) ({ c₀ with mode:=m'}::cs) w:=by
  intro m' v hm' hv;have:=fin m' v hm' hv;simp only [wpOpsSIn];simp only [show (#[o0,o1]:Array Oper)[1]? =some o1 from rfl,Region.wanted,hg1,if_true,hrun1];exact ⟨fun _ _=> trivial,this⟩
 show wpOpsSIn (Fr none) 0 P #[o0,o1] _ [0,1] a0 (c₀::cs) w
 rw [wpOpsSIn]
 simp only [show (#[o0,o1]:Array Oper)[0]? =some o0 from rfl,Region.wanted,hg0,if_true,hrun0]
 refine ⟨fun _ _=> trivial, ?_⟩
 cases u with
 | returning=>
   have hm2:c₀.mode= .returning:=hc₀.trans hm;have:recoverD (c₀::cs)=none:=by simp [recoverD,hm2]
   rw [this];have e:c₀= { c₀ with mode:= .returning}:=by cases c₀;simp_all
   have:=tail .returning .nilIface rfl (.v _);rw [← e] at this;exact this
 | panicking y=>
   obtain ⟨v,hv,hrv⟩:=hm;have hm2:c₀.mode= .panicking [{ v,recovered:=false}]:=hc₀.trans hv;have:recoverD (c₀::cs)=some (v, { c₀ with mode:= .panicking [{ v,recovered:=true}]}::cs):=by simp [recoverD,hm2]
   rw [this];exact tail _ v (by simp [settle]) hrv
def HB (B bx:List (Id×Own)):Prop:=∀nm s o,J6 nm B=some (s,o)→J6 nm bx=some (s,o)
theorem HB.refl (B:List (Id×Own)):HB B B:=fun _ _ _ h=> h
def PureAll (P:Program) (ops:Array Oper) (B:List (Id×Own)) (o:Oper) (E:Env) (r:AV):Prop:=
 ∀E':Env,HB B E'.h.bx→(∀k,k∈o.looksAt ops→E'.t k=E.t k)→GY P ops o E' r
def Eff (P:Program) (ops:Array Oper) (B:List (Id×Own)) (o:Oper) (E:Env) (R:AV→Heap→Prop):Prop:=
 o.guard=none∧∀E':Env,E'.h=E.h→(∀k,k∈o.looksAt ops→E'.t k=E.t k)→AOp P o E' (fun E''=> ∃r h',R r h'∧HB B h'.bx∧E''=({ E' with h:=h'}:Env).set o.dst r)
theorem PureAll.congr {ops:Array Oper} {B:List (Id×Own)} {o:Oper} {E E':Env} {r:AV} (h:PureAll P ops B o E r) (ht:∀k,k∈o.looksAt ops→E'.t k=E.t k):PureAll P ops B o E' r:=
 fun E'' h1 h2=> h E'' h1 fun k hk=> (h2 k hk).trans (ht k hk)
theorem Eff.congr {ops:Array Oper} {B:List (Id×Own)} {o:Oper} {E E':Env} {R:AV→Heap→Prop} (h:Eff P ops B o E R) (hh:E'.h=E.h) (ht:∀k,k∈o.looksAt ops→E'.t k=E.t k):Eff P ops B o E' R:=
 ⟨h.1,fun E'' h1 h2=> h.2 E'' (h1.trans hh) fun k hk=> (h2 k hk).trans (ht k hk)⟩
def MixL (P:Program) (ops:Array Oper) (B:List (Id×Own)) (eff:Nat→Bool):List Nat→Env→(Env→Prop)→Prop
 | [],E,K=> K E
 | i::l,E,K=> ∃o,ops[i]? =some o∧(match eff i with
   | true=> ∃R,Eff P ops B o E R∧∀r h',R r h'→MixL P ops B eff l (({ E with h:=h'}:Env).set o.dst r) K
   | false=> ∃r,PureAll P ops B o E r∧MixL P ops B eff l (E.set o.dst r) K)
theorem JoH {E:Env} {d:Option Nat} {r:AV} {h:Heap}:({ E.set d r with h:=h}:Env)=({ E with h:=h}:Env).set d r:=by cases d <;> rfl
theorem MixL.front {ops:Array Oper} {B:List (Id×Own)} {eff:Nat→Bool} {K:Env→Prop} {j:Nat} {oj:Oper} (hj:ops[j]? =some oj):∀(l1 l2:List Nat) (E:Env),
 (∀i∈l1,eff i=false∧∀oi,ops[i]? =some oi→oi.apart ops oj=true)→MixL P ops B eff (l1++j::l2) E K→MixL P ops B eff (j::(l1++l2)) E K
 | [],l2,E,_,h=> h
 | i::l1,l2,E,hap,h=> by
   obtain ⟨oi,h1,h2⟩:=h;obtain ⟨he,ha⟩:=hap i Si;simp only [he] at h2;obtain ⟨ri,h3,h4⟩:=h2;obtain ⟨o,h5,h6⟩:=MixL.front hj l1 l2 _ (fun i' hi'=> hap i' (List.mem_cons_of_mem _ hi')) h4;rw [hj] at h5;cases h5;obtain ⟨a1,a2,a3⟩:=Oper.apart_spec (ha oi h1);refine ⟨oj,hj, ?_⟩;cases hej:eff j with
   | true=>
     simp only [hej] at h6⊢;obtain ⟨R,q1,q2⟩:=h6;refine ⟨R,q1.congr (by rw [Env.set_h]) fun k hk=> (Env.set_other (fun e=> a1 k e hk)).symm,fun r h' hr=> ?_⟩;have q3:=q2 r h' hr;refine ⟨oi,h1, ?_⟩;simp only [he];refine ⟨ri,h3.congr fun k hk=> Env.set_other (fun e=> a3 k e hk), ?_⟩;rw [JoH,Env.set_comm (d:=oi.dst) (d':=oj.dst) (fun k hk=> a2 k hk)] at q3;exact q3
   | false=>
     simp only [hej] at h6⊢;obtain ⟨rj,q1,q2⟩:=h6;refine ⟨rj,q1.congr fun k hk=> (Env.set_other (fun e=> a1 k e hk)).symm,oi,h1, ?_⟩;simp only [he];refine ⟨ri,h3.congr fun k hk=> Env.set_other (fun e=> a3 k e hk), ?_⟩;rw [Env.set_comm (d:=oi.dst) (d':=oj.dst) (fun k hk=> a2 k hk)] at q2;exact q2
def ordM (ops:Array Oper) (m:Nat) (eff:Nat→Bool) (L:List Nat):Bool:=
 let bf:=Region.before ops
 Nat.ble m ops.size&& (Jb1 ops m&& (L.all (fun i=> Nat.blt i m)&& ((List.range m).all (fun i=> L.contains i)&& (go bf L))))
where
 go (bf:Array Nat):List Nat→Bool
  | []=> true
  | i::l=> (l.all fun j=> match ops[i]?,ops[j]? with
    | some oi,some oj=> (!Nat.beq i j)&& ((oi.after.toList.all fun e=> !Region.binds .any e|| !Nat.beq e.on j)&& ((bf.getD j 0).testBit i|| (!eff i&& oi.apart ops oj)))
    | _,_=> false)&& ((match ops[i]? with | some oi=> oi.after.toList.all fun e=> !Region.binds .any e|| !Nat.beq e.on i | none=> false)&& go bf l)
def Jgw (ops:Array Oper) (eff:Nat→Bool) (i j:Nat):Prop:=
 i≠j∧∀oi oj,ops[i]? =some oi→ops[j]? =some oj→(∀e∈oi.after,Region.binds .any e=true→e.on≠j)∧(((Region.before ops).getD j 0).testBit i=true∨(eff i=false∧oi.apart ops oj=true))
theorem Jfh {a b:Nat} (h:(!Nat.beq a b)=true):a≠b:=fun e=> by subst e;simp at h
theorem Ji4 {ops:Array Oper} {eff:Nat→Bool}:∀ {L:List Nat},ordM.go ops eff (Region.before ops) L=true→
 L.Pairwise (Jgw ops eff)∧∀i∈L,∀oi,ops[i]? =some oi→∀e∈oi.after,Region.binds .any e=true→e.on≠i
 | [],_=> ⟨.nil,by simp⟩
 | i::l,h=> by
   simp only [ordM.go,Bool.and_eq_true] at h;obtain ⟨h1,h2,h3⟩:=h;obtain ⟨q1,q2⟩:=Ji4 h3;refine ⟨List.pairwise_cons.2 ⟨fun j hj=> ?_,q1⟩,fun k hk=> ?_⟩
   ·have:=List.all_eq_true.1 h1 j hj;split at this
    ·rename_i oi oj hi hj'
     simp only [Bool.and_eq_true,Bool.or_eq_true,List.all_eq_true] at this;obtain ⟨p1,p2,p3⟩:=this;refine ⟨Jfh p1,fun oi' oj' hi2 hj2=> ?_⟩;rw [hi] at hi2;rw [hj'] at hj2;cases hi2;cases hj2;refine ⟨fun e he hb=> ?_,p3.imp id fun h=> by simpa using h⟩;rcases p2 e (Array.mem_toList_iff.2 he) with h | h
     ·simp [hb] at h
     ·exact Jfh h
    ·cases this
   ·rcases List.mem_cons.1 hk with rfl | hk
    ·intro oi hi e he hb;rw [hi] at h2;have:=List.all_eq_true.1 h2 e (Array.mem_toList_iff.2 he);simp only [hb,Bool.not_true,Bool.false_or] at this;exact Jfh this
    ·exact q2 k hk
theorem JrG {ops:Array Oper} {m:Nat} {B:List (Id×Own)} {eff:Nat→Bool} {Q:Exit→Act→World→Prop} (hk:OrdOk ops m) (hm:m≤ops.size)
 {ro:Option Nat} {X M:Nat→Nat→Prop} {w0:World} {g0:List Nat} {K:Env→Prop}
 (hq:∀E a w g,K E→(∀(i b:Nat),g0[i]? =some b→g[i]? =some b)→St ro X M w0 E a w g→wpOpsIn (Fr ro) 0 P ops Q (List.range' m (ops.size - m)) a w):
 ∀(n:Nat) (L:List Nat) (listed:Array Bool) (E:Env) (a:Act) (w:World) (g:List Nat),L.length=n→L.Pairwise (Jgw ops eff)→(∀i∈L,i < m)→
  (∀i∈L,∀oi,ops[i]? =some oi→∀e∈oi.after,Region.binds .any e=true→e.on≠i)→listed.size=ops.size→DC ops listed→
 (∀i,i < ops.size→(listed.getD i true=false↔i∈L∨m≤i))→MixL P ops B eff L E K→HB B E.h.bx→(∀(i b:Nat),g0[i]? =some b→g[i]? =some b)→St ro X M w0 E a w g→wpAnyIn (Fr ro) 0 P .any ops Q (n+(ops.size - m)) listed a w:=by
 intro n
 induction n with
 | zero=>
   intro L listed E a w g hl _ _ _ hsz hd hun hrun _ hg hs;have:L= []:=List.eq_nil_of_length_eq_zero hl;subst this;rw [Nat.zero_add];exact Jhn hk _ m listed a w Om (Nat.le_refl _) hsz hd (fun i hi=> by simpa using hun i hi) (hq E a w g hrun hg hs)
 | succ n ih=>
   intro L listed E a w g hl hpw hlt hself hsz hd hun hrun hB hg hs;rw [Nat.add_right_comm];obtain ⟨k,L',rfl⟩:∃k L',L=k::L':=by cases L with | nil=> simp at hl | cons k L'=> exact ⟨k,L',rfl⟩
   have hkm:k < m:=hlt k Si;have hklt:k < ops.size:=by omega
   have hko:ops[k]? =some ops[k]:=Array.getElem?_eq_getElem hklt;have hkr:k∈Region.ready .any ops listed:=by
    refine Jaw.2 ⟨(hun k hklt).2 Si,_,hko,fun e he hb=> ?_⟩;have hb':=hk.back k _ hko e he hb;rw [Jaz Om];cases hl:listed.getD e.on true with
    | true=> simpa using hl
    | false=>
      rcases (hun e.on Om).1 hl with h' | h'
      ·rcases List.mem_cons.1 h' with h' | h'
       ·exact absurd h' (hself k Si _ hko e he hb)
       · exact absurd rfl (((List.pairwise_cons.1 hpw).1 _ h').2 _ _ hko (Array.getElem?_eq_getElem Om) |>.1 e he hb)
      ·omega
   refine ⟨fun h0=> (by rw [h0] at hkr;cases hkr),fun j hj=> ?_⟩;obtain ⟨h1,oj,hoj,h2⟩:=Jaw.1 hj;have hjlt:=(Array.getElem?_eq_some_iff.1 hoj).1;have hjL:j∈k::L':=by
    rcases (hun j hjlt).1 h1 with h' | h'
    ·exact h'
    ·have hb:=hk.tail k j oj hoj h' Om;have:=Jbd hd hsz hoj h2 hb;have h3:=(hun k Om).2 Si;rw [Jaz Om] at this;simp [h3] at this
   obtain ⟨l1,l2,hl12⟩:=List.append_of_mem hjL;rw [hl12] at hrun hpw hun hlt hl hself;have hl1:∀i∈l1,Jgw ops eff i j:=fun i hi=> (List.pairwise_append.1 hpw).2.2 i hi j Si;obtain ⟨o,ho,hrun'⟩:=MixL.front hoj l1 l2 E (fun i hi=> by
    obtain ⟨hne,hp⟩:=hl1 i hi;have hilt:i < ops.size:=Nat.lt_of_lt_of_le (hlt i (by simp [hi])) hm;rcases (hp _ _ (Array.getElem?_eq_getElem hilt) hoj).2 with hb | ⟨hb,hb'⟩
    ·have:=Jbd hd hsz hoj h2 hb;have h3:=(hun i hilt).2 (by simp [hi]);rw [Jaz Om] at this;simp [h3] at this
    ·exact ⟨hb,fun oi hoi=> by rw [Array.getElem?_eq_getElem hilt] at hoi;cases hoi;exact hb'⟩) hrun
   rw [hoj] at ho;cases ho;have hnext:∀E' a' w' g',MixL P ops B eff (l1++l2) E' K→HB B E'.h.bx→(∀(i b:Nat),g0[i]? =some b→g'[i]? =some b)→St ro X M w0 E' a' w' g'→wpAnyIn (Fr ro) 0 P .any ops Q (n+(ops.size - m)) (listed.setIfInBounds j true) a' w':=by
    intro E' a' w' g' hm' hB' hg' hs';have hsub:(l1++l2).Sublist (l1++j::l2):=List.Sublist.append (List.Sublist.refl _) (List.sublist_cons_self _ _);refine ih (l1++l2) _ E' a' w' g' (by simp at hl⊢;omega) (hpw.sublist hsub) (fun i hi=> hlt i (hsub.subset hi)) (fun i hi=> hself i (hsub.subset hi)) (by simp [hsz]) (hd.set hsz hk hj) (fun i hi=> ?_) hm' hB' hg' hs';rw [JdB Om];by_cases hij:i=j
    ·subst hij;simp only [if_true]
     constructor
     ·intro h;cases h
     ·intro h;exfalso
      have h5:=List.pairwise_append.1 hpw;rcases h with h | h
      ·rcases List.mem_append.1 h with h | h
       ·exact (h5.2.2 i h i Si).1 rfl
       ·exact ((List.pairwise_cons.1 h5.2.1).1 i h).1 rfl
      ·have:=hlt i Si;omega
    ·rw [if_neg hij,hun i hi];simp [hij]
   cases hej:eff j with
   | true=>
     simp only [hej] at hrun';obtain ⟨R,⟨q0,q1⟩,q2⟩:=hrun';unfold wpOpIn;simp only [hoj,Region.wanted,q0,if_true];exact q1 E rfl (fun _ _=> rfl) ro X M w0 a w g hs _ _ (fun E' a' w' g' hE hgg hs'=> by
      obtain ⟨r,h',p1,p2,rfl⟩:=hE;exact hnext _ a' w' g' (q2 r h' p1) (by rw [Env.set_h];exact p2) (fun i b hi=> hgg i b (hg i b hi)) hs') (fun x E' a' w' g' v hk'=> hk'.elim)
   | false=>
     simp only [hej] at hrun';obtain ⟨r,q1,q2⟩:=hrun';exact (q1 E hB fun _ _=> rfl).does hoj hs fun a' w' hs'=> hnext _ a' w' g q2 (by rw [Env.set_h];exact hB) hg hs'
theorem JbH {ops:Array Oper} {o:Oper} {E E':Env} (ht:∀k,k∈o.looksAt ops→E'.t k=E.t k):∀x∈o.op.operands,E'.ev x=E.ev x:=fun x hm=> by
 cases x with
 | tmp k=> exact ht k (Jes hm)
 | const c=> rfl
 | global c=> rfl
 | func c=> rfl
theorem Jek {E E':Env} {l:List Operand} (h:∀x∈l,E'.ev x=E.ev x):l.map E'.ev=l.map E.ev:=List.map_congr_left h
theorem JuJ {B bx:List (Id×Own)} (hb:HB B bx) {nm s:Nat} {cs:List AV} (h:Jbm nm B=some (s,cs)):Jbm nm bx=some (s,cs):=by
 unfold Jbm;rw [hb _ _ _ (Jh6 h)]
theorem JsL {t:TypeId} {h h':Heap} (hb:HB h.bx h'.bx) {a:AV} {x:Option Prop×AV} (hx:JdC P t h a=some x):JdC P t h' a=some x:=by
 unfold JdC at hx⊢
 cases a <;> simp only [] at hx⊢<;> first | exact hx | skip
 rename_i i off
 cases hg:Jbm i.1 h.bx with
 | none=> simp [hg] at hx
 | some p=> obtain ⟨s,cs⟩:=p;rw [hg] at hx;rw [JuJ hb hg];exact hx
theorem JoI {t:TypeId} {h h':Heap} (hb:HB h.bx h'.bx) {a ix:AV} {ok:Bool} {x:Option Prop×AV} (hx:JfV P t h a ix ok=some x):JfV P t h' a ix ok=some x:=by
 unfold JfV at hx⊢
 split at hx <;> try (cases hx;done)
 split at hx <;> try (cases hx;done)
 rename_i key _ _ _ d z _ _
 cases hk:JaO d key with
 | false=> simp [hk] at hx
 | true=>
   simp only [hk,cond_true] at hx⊢;cases a with
   | om i=>
     dsimp only at hx⊢;cases hg:J6 i.1 h.bx with
     | none=> simp [hg] at hx
     | some p=> obtain ⟨s,o⟩:=p;rw [hg] at hx;rw [hb _ _ _ hg];exact hx
   | v u=>
     cases u with
     | map b=> cases b <;> exact hx
     | _=> exact hx
   | _=> exact hx
theorem Jey {op:Op} {E E':Env} (hb:HB E.h.bx E'.h.bx) (hx:∀x∈op.operands,E'.ev x=E.ev x) {y:Option Prop×AV} (h:Jbe P op E=some y):Jbe P op E'=some y:=by
 have one:∀ {x:Operand},x∈op.operands→E'.ev x=E.ev x:=fun hm=> hx _ hm
 cases op <;> simp only [Jbe] at h⊢<;> try (first | exact h | (cases h;done))
 case move x=> rw [one (by simp [Op.operands])];exact h
 case assign x=> rw [one (by simp [Op.operands])];exact h
 case pick c a b=> rw [one (x:=c) (by simp [Op.operands]),one (x:=a) (by simp [Op.operands]),one (x:=b) (by simp [Op.operands])];exact h
 case build t ps=>
  rw [show (ps.toList.map fun p=> (p.1,E'.ev p.2))=ps.toList.map fun p=> (p.1,E.ev p.2) from List.map_congr_left fun p hp=> by
   rw [one (x:=p.2) (by simp [Op.operands];exact ⟨p.1,Array.mem_toList_iff.1 hp⟩)]]
  exact h
 case buildSlice t n ps=>
  rw [show (ps.toList.map fun p=> (p.1,E'.ev p.2))=ps.toList.map fun p=> (p.1,E.ev p.2) from List.map_congr_left fun p hp=> by
   rw [one (x:=p.2) (by simp [Op.operands];exact ⟨p.1,Array.mem_toList_iff.1 hp⟩)]]
  exact h
 case load t x=> rw [one (x:=x) (by simp [Op.operands])];exact JsL hb h
 case nilCheck x=> rw [one (x:=x) (by simp [Op.operands])];exact h
 case binOp o t x y t'=> rw [one (x:=x) (by simp [Op.operands]),one (x:=y) (by simp [Op.operands])];exact h
 case unOp o t x=> rw [one (x:=x) (by simp [Op.operands])];exact h
 case convert s d x=> rw [one (x:=x) (by simp [Op.operands])];exact h
 case makeFunc f l c=>
  rw [Jek (fun x hm=> one (by simp only [Op.operands];exact Array.mem_append_left _ (Array.mem_toList_iff.1 hm))),Jek (fun x hm=> one (by simp only [Op.operands];exact Array.mem_append_right _ (Array.mem_toList_iff.1 hm)))];exact h
 case makeInterface t x=> rw [one (x:=x) (by simp [Op.operands])];exact h
 case fieldAddr t x f=> rw [one (x:=x) (by simp [Op.operands])];exact h
 case field t x f=> rw [one (x:=x) (by simp [Op.operands])];exact h
 case indexAddr t x i=> rw [one (x:=x) (by simp [Op.operands]),one (x:=i) (by simp [Op.operands])];exact h
 case index t x i=> rw [one (x:=x) (by simp [Op.operands]),one (x:=i) (by simp [Op.operands])];exact h
 case lookup t x i ok=> rw [one (x:=x) (by simp [Op.operands]),one (x:=i) (by simp [Op.operands])];exact JoI hb h
 case slice t x lo hi mx=>
  rw [one (x:=x) (by simp [Op.operands])];have e1:lo.map E'.ev=lo.map E.ev:=by cases lo with | none=> rfl | some y=> simp [one (x:=y) (by simp [Op.operands])]
  have e2:hi.map E'.ev=hi.map E.ev:=by cases hi with | none=> rfl | some y=> simp [one (x:=y) (by simp [Op.operands])]
  have e3:mx.map E'.ev=mx.map E.ev:=by cases mx with | none=> rfl | some y=> simp [one (x:=y) (by simp [Op.operands])]
  rw [e1,e2,e3];exact h
 case extract t i=> rw [one (x:=t) (by simp [Op.operands])];exact h
 case call c=>
  obtain ⟨callee,args,tys⟩:=c;cases callee <;> simp only [] at h⊢<;> try (first | exact h | (cases h;done))
  rw [Jek (fun x hm=> one (by simp only [Op.operands,Call.operands];exact Array.mem_append_right _ (Array.mem_toList_iff.1 hm)))];exact h
theorem JwV {ops:Array Oper} {B:List (Id×Own)} {o:Oper} {E:Env} {fo:Operand} {args:Array Operand} {tys:Array TypeId} {f:FuncId} {first caps:List AV} {Q:AV→Heap→Prop} (hg:o.guard=none)
 (ho:o.op= .call { callee:= .value fo,args:=args,argTypes:=tys}) (hf:E.ev fo= .fn (.func f) first caps)
 (hc:ECall P f (first++args.toList.map E.ev++caps) E.h Q) {R:AV→Heap→Prop} (hk:∀r h',Q r h'→Named r h' fun r h'=> R r h'∧HB B h'.bx):Eff P ops B o E R:=by
 refine ⟨hg,fun E' hh ht=> ?_⟩
 have hev:=JbH ht
 have e1:args.toList.map E'.ev=args.toList.map E.ev:=Jek fun x hm=> hev x (by rw [ho];simp only [Op.operands,Call.operands];exact Array.mem_append_right _ (Array.mem_toList_iff.1 hm))
 have e2:E'.ev fo= .fn (.func f) first caps:=by rw [hev fo (by rw [ho];simp [Op.operands,Call.operands])];exact hf
 refine Jea ho e2 (by rw [e1,hh];exact hc) fun r h' hq=> ?_
 obtain ⟨r',h2,q1,q2,q3,q4⟩:=hk r h' hq
 exact ⟨r',h2,q1,q2,r',h2,q3,q4,rfl⟩
theorem JkH {ops:Array Oper} {B:List (Id×Own)} {o:Oper} {E:Env} {s x:Operand} {t e:TypeId} {sz n szx m:Nat} {f f':Nat→AV} {oi:Option Id} (hB:HB B E.h.bx) (hg:o.guard=none)
 (ho:o.op= .call { callee:= .builtin .append,args:= #[s,x],argTypes:= #[t,t]}) (hs:E.ev s= .os sz n f oi)
 (hx:E.ev x= .sl szx m f'∨∃oj,E.ev x= .os szx m f' oj)
 (ht:P.underlying t=some (.slice e)) (hgr:Jbc P e=true) (hsz:(n=0∧oi=none)∨sz=P.cellsOf e) (hszx:m=0∨szx=P.cellsOf e)
 (hperm:∀i,oi=some i→Jbb i.1 E.h.pm=some (i.2,n * P.cellsOf e)) (hone:Jcu m f')
 (hroom0:m≠0→(n+m) * P.bytesOf e≤140737488355328) (hlen0:m≠0→n+m≤9223372036854775807):
 Eff P ops B o E fun r h'=> (m=0∧r= .os sz n f oi∧h'=E.h)∨(m≠0∧r= .os (P.cellsOf e) (n+m) (JcD n f f') (some (E.h.nn,E.h.nx))∧h'=E.h.grow oi ((n+m) * P.cellsOf e)):=by
 refine ⟨hg,fun E' hh htt=> ?_⟩
 have hev:=JbH htt
 have es:E'.ev s=E.ev s:=hev s (by rw [ho];simp [Op.operands,Call.operands])
 have ex:E'.ev x=E.ev x:=hev x (by rw [ho];simp [Op.operands,Call.operands])
 refine Jcv ho (es.trans hs) (by rw [ex];exact hx) ht hgr hsz hszx (by rw [hh];exact hperm) hone hroom0 hlen0 (fun hm=> ?_) (fun hm=> ?_)
 ·exact ⟨_,E'.h, .inl ⟨hm,rfl,hh⟩,by rw [hh];exact hB,rfl⟩
 ·exact ⟨.os (P.cellsOf e) (n+m) (JcD n f f') (some (E'.h.nn,E'.h.nx)),E'.h.grow oi ((n+m) * P.cellsOf e), .inr ⟨hm,by rw [hh],by rw [hh]⟩,by rw [hh];exact hB,rfl⟩
theorem Jdr {ops:Array Oper} {B:List (Id×Own)} {o:Oper} {E:Env} {t:TypeId} {p x:Operand} {i:Id} {off:Nat} {cs:List AV} (hg:o.guard=none) (ho:o.op= .store t p x) (hd:o.dst=none) (hp:E.ev p= .bp i off) (hcs:Jbm i.1 E.h.bx=some (i.2,cs))
 (hc:Jct (E.ev x)=true) (h1:(E.ev x).cells.all Jb3=true) (ht:(P.underlying t).isSome=true) (hn:Nat.beq (E.ev x).cells.length (P.cellsOf t)=true) (hb:off+(E.ev x).cells.length≤cs.length) (hB:HB B (JeN i.1 (Jaa cs off (E.ev x).cells) E.h.bx)):
 Eff P ops B o E fun r h'=> h'= { E.h with bx:=JeN i.1 (Jaa cs off (E.ev x).cells) E.h.bx}:=by
 refine ⟨hg,fun E' hh htt=> ?_⟩
 have hev:=JbH htt
 have ep:E'.ev p=E.ev p:=hev p (by rw [ho];simp [Op.operands])
 have ex:E'.ev x=E.ev x:=hev x (by rw [ho];simp [Op.operands])
 refine Jia ho (ep.trans hp) (by rw [hh];exact hcs) (by rw [ex];exact hc) (by rw [ex];exact h1) ht (by rw [ex];exact hn) (by rw [ex];exact hb) ?_
 rw [ex]
 refine ⟨.any,_,by rw [hh], ?_,rfl⟩
 rw [hh]
 exact hB
theorem AOp.of_some {o:Oper} {E:Env} {K:Env→Prop} {Kp:AV→Env→Prop} (hd:∀c,o.op≠ .defer c) (h:∀(ρ:Operand→Value) (w:World) (X:Nat→Nat→Prop) (g:List Nat),(∀x,Rep w (excl X g E.h) g (E.ev x) (ρ x))→(∀x,ρ (.const x)=x)→
 ∃r u,(execOp ρ o).run P w= .ok (.value u) w∧Rep w (excl X g E.h) g r u∧K (E.set o.dst r)):AOp P o E K Kp:=by
 intro ro X M w0 a w g hs next Q hn hp
 refine Jx hd ?_
 obtain ⟨r,u,h1,h2,h3⟩:=h a.eval w X g (fun x=> hs.ev x) (fun _=> rfl)
 rw [h1]
 exact hn _ _ _ _ h3 (fun _ _ h=> h) (hs.put o.dst h2)
theorem JqO {op:BinOp} {t:TypeId} {a b:Operand} {u v:Value} (h:∀p q,(u,v)≠(Value.agg p,Value.agg q)) (h':(u,v)≠(.nilIface, .nilIface)) (w:World):(eqGuard op t a b u v).run P w= .ok () w:=by
 unfold eqGuard
 split
 all_goals first
  | rfl
  | (rw [if_neg Si]
     split
     ·exact absurd rfl h'
     ·exact absurd rfl (h _ _)
     ·rfl)
theorem JuK {op:BinOp} {t ty:TypeId} {o:Oper} {a b:Operand} {ρ:Operand→Value} {s:Bool} {u v:Value} {w:World} (ho:o.op= .binOp op t a b ty) (hu:ρ a=u) (hv:ρ b=v) (hg:(eqGuard op t a b u v).run P w= .ok () w)
 (hb:(binOp op t u v).run P w= .ok (.bool s) w):(execOp ρ o).run P w= .ok (.value (.bool s)) w:=by
 unfold execOp
 simp only [ho,hu,hv]
 refine Jce ?_
 simp only [Sem.run_bind,hg,Result.andThen_ok,hb]
theorem Jii (t:TypeId) (u v:Value):∃D,Op.equal t u v=Op.equalIn (D+1) t u v:=⟨9999,rfl⟩
theorem JoJ {op:BinOp} {t ty e:TypeId} {o:Oper} {x:Operand} {E:Env} {K:Env→Prop} {Kp:AV→Env→Prop} {sz n:Nat} {f:Nat→AV} (ho:o.op= .binOp op t x (.const (.slice none 0 0)) ty) (hop:op= .eql∨op= .neq)
 (hu:P.underlying t=some (.slice e)) (hx:E.ev x= .sl sz n f∨∃oi,E.ev x= .os sz n f oi)
 (hk:∀c:Bool,(c=true→n=0)→K (E.set o.dst (.v (.bool (if op= .eql then c else !c))))):AOp P o E K Kp:=by
 refine AOp.of_some (by rw [ho];intro c h;cases h) fun ρ w X g hr hc=> ?_
 have h1:Rep w (excl X g E.h) g (.sl sz n f) (ρ x):=by
  have:=hr x;rcases hx with hx | ⟨oi,hx⟩
  ·rw [hx] at this;exact this
  ·rw [hx] at this;exact Jdn this
 have h2:=hc (.slice none 0 0)
 generalize hv:ρ x=v at h1
 have key:∀(a:Option Addr) (l c:Nat),v= .slice a l c→(a.isNone=true→n=0)→∃r u,(execOp ρ o).run P w= .ok (.value u) w∧Rep w (excl X g E.h) g r u∧K (E.set o.dst r):=by
  intro a l c hv2 ha;subst hv2;obtain ⟨D,hD⟩:=Jii t (.slice a l c) (.slice none 0 0);refine ⟨_,_,JuK (s:=if op= .eql then a.isNone else !a.isNone) ho hv h2 (JqO Si Si w) ?_, .v _,hk _ ha⟩;rcases hop with rfl | rfl <;> simp only [binOp,hD,Op.equalIn,Sem.run_bind,run_underlying hu,Result.andThen_ok] <;> cases a <;> simp [run_underlying hu]
 cases h1 with
 | sl0 _ _ a cap=> exact key a 0 cap rfl fun _=> rfl
 | sl _ _ _ b off cap vs hlen hcap hcell hcs hr'=> exact key _ n cap rfl fun h=> by cases h
theorem Jgb {op:BinOp} {t ty:TypeId} {o:Oper} {x:Operand} {E:Env} {K:Env→Prop} {Kp:AV→Env→Prop} {ms:Array (String×TypeId)} (ho:o.op= .binOp op t x (.const .nilIface) ty) (hop:op= .eql∨op= .neq)
 (hu:P.underlying t=some (.interface ms)) (hx:E.ev x= .v .nilIface) (hk:K (E.set o.dst (.v (.bool (if op= .eql then true else false))))):AOp P o E K Kp:=by
 refine AOp.of_some (by rw [ho];intro c h;cases h) fun ρ w X g hr hc=> ?_
 have h1:=hr x
 rw [hx] at h1
 have hv:=JD h1
 have h2:=hc .nilIface
 obtain ⟨D,hD⟩:=Jii t .nilIface .nilIface
 refine ⟨_,_,JuK ho hv h2 ?_ ?_, .v _,hk⟩
 ·unfold eqGuard;rcases hop with rfl | rfl <;> simp
 ·rcases hop with rfl | rfl <;> simp [binOp,hD,Op.equalIn,run_underlying hu]
theorem JH {o:Oper} {E:Env} {K:Env→Prop} {Kp:AV→Env→Prop} {fo:Operand} {args:Array Operand} {tys:Array TypeId} {f:FuncId} {first caps xs:List AV} {h1:Heap} {Q:AV→Heap→Prop} {bx1:List (Id×Own)} {pm1:List (Id×Nat)}
 (rb:List (Id×Own)) (rp:List (Id×Nat)) (nn:Nat) (ho:o.op= .call { callee:= .value fo,args:=args,argTypes:=tys}) (hf:E.ev fo= .fn (.func f) first caps) (hbx:E.h.bx=rb++bx1) (hpm:E.h.pm=rp++pm1)
 (hl:LeL (first++args.toList.map E.ev++caps) xs) (hc:ECall P f xs h1 Q) (hbl:BxLe bx1 h1.bx) (hpe:PmEq pm1 h1.pm) (hn:h1.nx=E.h.nx)
 (hk:∀r h',Q r h'→K (({ E with h:=⟨rb++h'.bx,rp++h'.pm,h'.nx,nn⟩}:Env).set o.dst r)):AOp P o E K Kp:=by
 have h2:ECall P f xs ⟨bx1,pm1,h1.nx,h1.nn⟩ Q:=hc.tell hbl hpe rfl
 have h3:=(ECall.frame (h:=E.h) h2 rb rp (by rw [hbx];exact List.perm_append_comm) (by rw [hpm];exact List.perm_append_comm) hn).args hl
 refine Jea ho hf h3 fun r h' hq=> ?_
 obtain ⟨h1',q1,rfl⟩:=hq
 exact ⟨r,⟨rb++h1'.bx,rp++h1'.pm,h1'.nx,nn⟩,AVle.refl _,⟨List.perm_append_comm.map _,List.perm_append_comm.map _,rfl⟩,hk r h1' q1⟩
theorem PmEq.refl:∀l:List (Id×Nat),PmEq l l
 | []=> trivial
 | _::l=> ⟨rfl,rfl,PmEq.refl l⟩
theorem JqP {oi:Option Id} {n:Nat} {pm:List (Id×Nat)}:Joy oi n (J2 oi n++pm):=by
 cases oi with
 | none=> trivial
 | some i=> show Jbb i.1 ((i,n)::pm)=some (i.2,n);simp [Jbb]
theorem JnR {oi:Option Id} {n:Nat} {pm:List (Id×Nat)}:JeO oi (J2 oi n++pm)=pm:=by
 cases oi with
 | none=> rfl
 | some i=> show Jbv i.1 ((i,n)::pm)=pm;simp [Jbv]
theorem JoK {oi:Option Id} {n:Nat} {pm:List (Id×Nat)}:∀i,oi=some i→Jbb i.1 (J2 oi n++pm)=some (i.2,n):=fun i h=> by
 subst h
 show Jbb i.1 ((i,n)::pm)=some (i.2,n)
 simp [Jbb]
theorem JgO {o:Oper} {E:Env} {K:Env→Prop} {Kp:AV→Env→Prop} {s x:Operand} {t e:TypeId} {sz n szx c:Nat} {f f':Nat→AV} {oi:Option Id} {pm:List (Id×Nat)}
 (ho:o.op= .call { callee:= .builtin .append,args:= #[s,x],argTypes:= #[t,t]}) (hs:E.ev s= .os sz n f oi) (hx:E.ev x= .sl szx 1 f'∨∃oj,E.ev x= .os szx 1 f' oj)
 (ht:P.underlying t=some (.slice e)) (hgr:Jbc P e=true) (hc:P.cellsOf e=c) (hsz:(n=0∧oi=none)∨sz=c) (hszx:szx=c) (hpm:E.h.pm=J2 oi (n * c)++pm) (hone:Jcu 1 f')
 (hroom:(n+1) * P.bytesOf e≤140737488355328) (hlen:n+1≤9223372036854775807)
 (hk:K (({ E with h:=⟨E.h.bx,((E.h.nn,E.h.nx),(n+1) * c)::pm,E.h.nx+1,E.h.nn+1⟩}:Env).set o.dst (.os c (n+1) (JcD n f f') (some (E.h.nn,E.h.nx))))):AOp P o E K Kp:=by
 subst hc
 refine AOp.kp (Jcv ho hs hx ht hgr hsz (.inr hszx) (fun i hi=> by rw [hpm];exact JoK i hi) hone (fun _=> hroom) (fun _=> hlen) (fun h=> by cases h) fun _=> ?_)
 unfold Heap.grow
 rw [hpm,JnR]
 exact hk
theorem JaK {ops:Array Oper} {B:List (Id×Own)} {o:Oper} {E:Env} {s x:Operand} {t e:TypeId} {sz n szx c:Nat} {f f':Nat→AV} {oi:Option Id} {pm:List (Id×Nat)} (hB:HB B E.h.bx) (hg:o.guard=none)
 (ho:o.op= .call { callee:= .builtin .append,args:= #[s,x],argTypes:= #[t,t]}) (hs:E.ev s= .os sz n f oi) (hx:E.ev x= .sl szx 1 f'∨∃oj,E.ev x= .os szx 1 f' oj)
 (ht:P.underlying t=some (.slice e)) (hgr:Jbc P e=true) (hc:P.cellsOf e=c) (hsz:(n=0∧oi=none)∨sz=c) (hszx:szx=c) (hpm:E.h.pm=J2 oi (n * c)++pm) (hone:Jcu 1 f')
 (hroom:(n+1) * P.bytesOf e≤140737488355328) (hlen:n+1≤9223372036854775807):
 Eff P ops B o E fun r h'=> r= .os c (n+1) (JcD n f f') (some (E.h.nn,E.h.nx))∧h'=⟨E.h.bx,((E.h.nn,E.h.nx),(n+1) * c)::pm,E.h.nx+1,E.h.nn+1⟩:=by
 refine ⟨hg,fun E' hh htt=> ?_⟩
 have hev:=JbH htt
 have es:E'.ev s=E.ev s:=hev s (by rw [ho];simp [Op.operands,Call.operands])
 have ex:E'.ev x=E.ev x:=hev x (by rw [ho];simp [Op.operands,Call.operands])
 refine JgO ho (es.trans hs) (by rw [ex];exact hx) ht hgr hc hsz hszx (by rw [hh];exact hpm) hone hroom hlen ?_
 exact ⟨_,_,⟨by rw [hh],by rw [hh]⟩,by rw [hh];exact hB,rfl⟩
theorem HB.one {p:Id×Own} {bx:List (Id×Own)} (h:J6 p.1.1 bx=some (p.1.2,p.2)):HB [p] bx:=fun nm s o hg=> by
 unfold J6 at hg
 cases hb:Nat.beq p.1.1 nm with
 | true=>
   have:=Nat.eq_of_beq_eq_true hb;subst this;simp only [Nat.beq_refl,cond_true] at hg;rw [← hg];exact h
 | false=> simp [hb,J6] at hg
theorem HB.cons {p:Id×Own} {B bx:List (Id×Own)} (h:J6 p.1.1 bx=some (p.1.2,p.2)) (hB:HB B bx):HB (p::B) bx:=fun nm s o hg=> by
 unfold J6 at hg
 cases hb:Nat.beq p.1.1 nm with
 | true=>
   have:=Nat.eq_of_beq_eq_true hb;subst this;simp only [Nat.beq_refl,cond_true] at hg;rw [← hg];exact h
 | false=> simp only [hb,cond_false] at hg;exact hB _ _ _ hg
def nmN (nn:Nat):Option Nat→Option Id
 | none=> none
 | some s=> some (nn,s)
theorem JcS {ops:Array Oper} {B:List (Id×Own)} {o:Oper} {E:Env} {e:TypeId} {cs:List AV} (hg:o.guard=none) (ho:o.op= .alloc e) (hz:JgZ P e=some cs) (hB:HB B (E.h.add cs).bx):
 Eff P ops B o E fun r h'=> r= .bp (E.h.nn,E.h.nx) 0∧h'=E.h.add cs:=by
 refine ⟨hg,fun E' hh _=> Jmz ho hz ?_⟩
 exact ⟨_,_,⟨by rw [hh],by rw [hh]⟩,by rw [hh];exact hB,rfl⟩
theorem DCall.like {f:FuncId} {args:List AV} {u:AMode} {h h':Heap} {Q:AMode→Heap→Prop} (l:Like h h') (hc:DCall P f args u h Q):DCall P f args u h' Q:=by
 refine ⟨hc.1,fun X w g vs m h1 h2 h3 h4 h5=> ?_⟩
 have h6:=hc.2 X w g vs m (by rw [← l.excl];exact h1.like ⟨l.bx.symm,l.pm.symm,l.nx.symm⟩) (fun b o hx i hi=> h2 b o hx i (l.ids.mem_iff.2 hi)) h3 (by rw [← l.excl];exact h4) (by rw [← l.excl];exact h5)
 exact CallsDIn.mono h6 fun e m' w' ⟨v,u',k,g',a1,a2,a3,a4,a5,a6,a7,a8⟩=> ⟨v,u',k,g',a1,a2,a3,a4,a5,a6,by rw [l.excl];exact a7,by rw [l.excl];exact a8⟩
theorem DCall.mono {f:FuncId} {args:List AV} {u:AMode} {h:Heap} {Q Q':AMode→Heap→Prop} (hc:DCall P f args u h Q) (hq:∀u h,Q u h→Q' u h):DCall P f args u h Q':=
 ⟨hc.1,fun X w g vs m h1 h2 h3 h4 h5=> CallsDIn.mono (hc.2 X w g vs m h1 h2 h3 h4 h5) fun e m' w' ⟨v,u',k,g',a1,a2,a3,a4⟩=> ⟨v,u',k,g',a1,a2,hq _ _ a3,a4⟩⟩
def aN (P:Program) (ops:Array Oper) (B:List (Id×Own)) (eff tl:Nat→Bool):List Nat→Env→(Env→Prop)→Prop
 | [],E,K=> K E
 | i::l,E,K=> match ops[i]? with
   | none=> False
   | some o=> match eff i with
      | true=> ∃R,Eff P ops B o E R∧∀r h',R r h'→aN P ops B eff tl l (({ E with h:=h'}:Env).set o.dst r) K
      | false=> match tl i with
        | true=> ∃r,PureAll P ops B o E r∧Jci r fun r=> aN P ops B eff tl l (E.set o.dst r) K
        | false=> match o.guard with
        | some _=> ∃r,PureAll P ops B o E r∧Jci r fun r=> aN P ops B eff tl l (E.set o.dst r) K
        | none=> match o.op with
          | .buildSlice t n parts=> match JcE P t n (parts.toList.map fun p=> (p.1,E.ev p.2)) with
            | some (e,out)=> Jbq out fun out=> aN P ops B eff tl l (E.set o.dst (.os (P.cellsOf e) n (JdD P e out) none)) K
            | none=> False
          | _=> match Jbe P o.op { E with h:=⟨B, [],0,0⟩} with
            | some (C,r)=> Jn7 C (Jci r fun r=> aN P ops B eff tl l (E.set o.dst r) K)
            | none=> ∃r,PureAll P ops B o E r∧Jci r fun r=> aN P ops B eff tl l (E.set o.dst r) K
theorem JdY {ops:Array Oper} {B:List (Id×Own)} {eff tl:Nat→Bool} {K:Env→Prop}:∀ {L:List Nat} {E:Env},aN P ops B eff tl L E K→MixL P ops B eff L E K
 | [],E,h=> h
 | i::l,E,h=> by
   unfold aN at h;split at h
   ·exact h.elim
   ·rename_i o ho
    refine ⟨o,ho, ?_⟩;split at h
    ·rename_i he
     try rw [he]
     obtain ⟨R,q1,q2⟩:=h;exact ⟨R,q1,fun r h' hr=> JdY (q2 r h' hr)⟩
    ·rename_i he
     try rw [he]
     split at h
     ·obtain ⟨r,q1,q2⟩:=h;exact ⟨r,q1,JdY (JcX q2)⟩
     split at h
     ·obtain ⟨r,q1,q2⟩:=h;exact ⟨r,q1,JdY (JcX q2)⟩
     ·rename_i hg
      have pur:∀ {C:Option Prop} {r:AV},Jbe P o.op { E with h:=⟨B, [],0,0⟩}=some (C,r)→J9 C→PureAll P ops B o E r:=fun hp hC E' hb ht=> by
       unfold GY;simp only [hg];exact JbL (Jey (E:= { E with h:=⟨B, [],0,0⟩}) (E':=E') hb (JbH (E:= { E with h:=⟨B, [],0,0⟩}) ht) hp) hC
      split at h
      ·rename_i t n parts hop
       split at h
       ·rename_i e out hc
        refine ⟨_,pur (C:=none) (by rw [hop];simp only [Jbe];exact Jeb hc) trivial,JdY (JaQ h)⟩
       ·exact h.elim
      ·split at h
       ·rename_i C r hp
        obtain ⟨q1,q2⟩:=Jid h;exact ⟨r,pur hp q1,JdY (JcX q2)⟩
       ·obtain ⟨r,q1,q2⟩:=h;exact ⟨r,q1,JdY (JcX q2)⟩
theorem Jaf {id:Nat} {ops:Array Oper} {E:Env} {Q:AExit→Env→Prop} (m:Nat) (B:List (Id×Own)) (eff tl:Nat→Bool) (L:List Nat) (hf:P.follows .mixedOrders=true) (hb:ordM ops m eff L=true) (hB:HB B E.h.bx)
 (h:aN P ops B eff tl L E fun E'=> aK P ops (ops.toList.drop m) E' (Q .normal) (fun x E=> Q (.panic x) E)):AW P (.region id ops true) E Q:=by
 simp only [ordM,Bool.and_eq_true,List.all_eq_true] at hb
 obtain ⟨h0,h00,h1,h2,h3⟩:=hb
 have hm:=Jdl h0
 obtain ⟨h4,h5⟩:=Ji4 h3
 have hlt:∀i∈L,i < m:=fun i hi=> JbF (h1 i hi)
 have hall:∀i,i < m→i∈L:=fun i hi=> by simpa using h2 i (List.mem_range.2 hi)
 have hnd:L.Nodup:=h4.imp fun h=> h.1
 have hlen:L.length=m:=by
  have p:L.Perm (List.range m):=(List.perm_ext_iff_of_nodup hnd List.nodup_range).2 fun i=> ⟨fun hi=> List.mem_range.2 (hlt i hi),fun hi=> hall i (List.mem_range.1 hi)⟩;simpa using p.length_eq
 unfold AW
 intro ro X M w0 a w g g0 hg hs
 refine wpIn_region_any hf ?_
 have hs':St ro X M w0 E a { w with drawn:=w.drawn+1} g:=hs.drew
 have key:=JrG (eff:=eff) (g0:=g0) (K:=fun E'=> aK P ops (ops.toList.drop m) E' (Q .normal) (fun x E=> Q (.panic x) E)) (Q:=Jd9 ro X M w0 g0 Q) (P:=P) (X:=X) (M:=M) (w0:=w0) (ro:=ro) (B:=B) (Jn4 h00) hm (fun E' a' w' g' hk hg' hs''=> by
  have:=JcY (P:=P) (ops:=ops) (K:=Q .normal) (X:=X) (M:=M) (w0:=w0) (g0:=g0) (Kp:=fun x E=> Q (.panic x) E) (ro:=ro) (Q:=Jd9 ro X M w0 g0 Q) (fun E a w g hk hg hs=> ⟨.normal,E,g,hk,rfl,hg,hs⟩) (fun x E a w g v hk hg hs hr=> ⟨.panic x,E,g,hk,⟨v,rfl,hr⟩,hg,hs⟩) (ops.toList.drop m) m E' a' w' g' (fun j=> .inl Si) hg' hs'' hk;simpa using this) m L (Array.replicate ops.size false) E a _ g hlen h4 hlt h5 Si (fun k o ho hl=> by
  have hk:=(Array.getElem?_eq_some_iff.1 ho).1;simp [Array.getD_eq_getD_getElem?,hk] at hl) (fun i hi=> by
  have:(Array.replicate ops.size false).getD i true=false:=by simp [Array.getD_eq_getD_getElem?,hi]
  simp only [this,true_iff];rcases Nat.lt_or_ge i m with h | h
  ·exact .inl (hall i h)
  ·exact .inr h) (JdY h) hB hg hs'
 have e:m+(ops.size - m)=ops.size:=by omega
 rw [e] at key
 exact key
theorem JfI {ops:Array Oper} {B:List (Id×Own)} {o:Oper} {E:Env} {C:Option Prop} {r:AV} (hg:o.guard=none) (hp:Jbe P o.op { E with h:=⟨B, [],0,0⟩}=some (C,r)) (hC:J9 C):PureAll P ops B o E r:=fun E' hb ht=> by
 unfold GY
 simp only [hg]
 exact JbL (Jey (E:= { E with h:=⟨B, [],0,0⟩}) (E':=E') hb (JbH (E:= { E with h:=⟨B, [],0,0⟩}) ht) hp) hC
theorem Yields.less {o:Oper} {E:Env} {r r':AV} (h:Yields P o E r) (hl:AVle r r'):Yields P o E r':=by
 refine ⟨h.1,fun ρ w X g hk hx=> ?_⟩
 rcases h.2 ρ w X g hk hx with ⟨u,w',h1,h2,h3⟩ | ⟨f,vs,w1,h1,h2,h3⟩
 ·exact .inl ⟨u,w',h1,h2,hl _ _ _ _ h3⟩
 ·exact .inr ⟨f,vs,w1,h1,h2,Calls.mono h3 fun e w' ⟨u,a1,a2,a3⟩=> ⟨u,a1,a2,hl _ _ _ _ a3⟩⟩
theorem PureAll.less {ops:Array Oper} {B:List (Id×Own)} {o:Oper} {E:Env} {r r':AV} (hg:o.guard=none) (h:PureAll P ops B o E r) (hl:AVle r r'):PureAll P ops B o E r':=fun E' hb ht=> by
 have h1:=h E' hb ht
 unfold GY at h1⊢
 simp only [hg] at h1⊢
 exact h1.less hl
theorem Jao {ops:Array Oper} {B:List (Id×Own)} {o:Oper} {E:Env} {fo:Operand} {args:Array Operand} {tys:Array TypeId} {f:FuncId} {first caps as:List AV} {s:AV} (hg:o.guard=none)
 (ho:o.op= .call { callee:= .value fo,args:=args,argTypes:=tys}) (hf:E.ev fo= .fn (.func f) first caps)
 (hc:Tells P f as s) (hl:LeL (first++args.toList.map E.ev++caps) as) (hid:NoId s):PureAll P ops B o E s:=fun E' _ ht=> by
 unfold GY
 simp only [hg]
 have hev:=JbH ht
 refine JQ ho (by rw [hev fo (by rw [ho];simp [Op.operands,Call.operands])];exact hf) hc ?_ hid
 rw [Jek fun x hm=> hev x (by rw [ho];simp only [Op.operands,Call.operands];exact Array.mem_append_right _ (Array.mem_toList_iff.1 hm))]
 exact hl
def aY (P:Program) (ops:Array Oper) (tl:Nat→Bool):Nat→List Oper→Env→(Env→Prop)→(AV→Env→Prop)→Prop
 | 0,l,E,K,Kp=> aK P ops l E K Kp
 | _+1, [],E,K,_=> K E
 | n+1,o::l,E,K,Kp=> match o.guard with
   | none=> match tl n with
     | true=> AOp P o E (fun E'=> aY P ops tl n l E' K Kp) Kp
     | false=> Jf7 P o E (fun r=> aY P ops tl n l (E.set o.dst r) K Kp) (AOp P o E (fun E'=> aY P ops tl n l E' K Kp) Kp)
   | some _=> False
theorem JoL {ops:Array Oper} {tl:Nat→Bool} {K:Env→Prop} {Kp:AV→Env→Prop} {ro:Option Nat} {X M:Nat→Nat→Prop} {w0:World} {g0:List Nat} {Q:Exit→Act→World→Prop}
 (hQ:∀E a w g,K E→(∀(i b:Nat),g0[i]? =some b→g[i]? =some b)→St ro X M w0 E a w g→Q .normal a w)
 (hP:∀x E a w g v,Kp x E→(∀(i b:Nat),g0[i]? =some b→g[i]? =some b)→St ro X M w0 E a w g→Rep w (excl X g E.h) g x v→Q (.panic [{ v,recovered:=false}]) a w):∀(n:Nat) (l:List Oper) (k:Nat) (E:Env) (a:Act) (w:World) (g:List Nat),
 (∀j,l[j]? =ops[k+j]? ∨l.length≤j)→(∀(i b:Nat),g0[i]? =some b→g[i]? =some b)→St ro X M w0 E a w g→aY P ops tl n l E K Kp→wpOpsIn (Fr ro) 0 P ops Q (List.range' k l.length) a w
 | 0,l,k,E,a,w,g,hl,hg,hs,h=> JcY hQ hP l k E a w g hl hg hs h
 | n+1, [],k,E,a,w,g,_,hg,hs,h=> hQ E a w g h hg hs
 | n+1,o::l,k,E,a,w,g,hl,hg,hs,h=> by
   have h0:ops[k]? =some o:=by
    rcases hl 0 with h | h
    ·simpa using h.symm
    ·simp at h
   have hl':∀j,l[j]? =ops[k+1+j]? ∨l.length≤j:=fun j=> by
    have:=hl (j+1);simp only [List.getElem?_cons_succ,List.length_cons] at this;rcases this with h | h
    ·left;rw [h];congr 1;omega
    ·right;omega
   rw [List.length_cons,List.range'_succ,wpOpsIn_cons];unfold aY at h;cases hgd:o.guard with
   | some p=> simp only [hgd] at h
   | none=>
     simp only [hgd] at h;have ha:AOp P o E (fun E'=> aY P ops tl n l E' K Kp) Kp:=by
      cases ht:tl n with
      | true=> simp only [ht] at h;exact h
      | false=>
      simp only [ht] at h;rcases Jhs h with ⟨r,q1,q2⟩ | hg
      ·exact AOp.of_yields q1 q2
      ·exact hg
     unfold wpOpIn;simp only [h0,Region.wanted,hgd,if_true];exact ha ro X M w0 a w g hs _ _ (fun E' a' w' g' hk' hg' hs'=> JoL hQ hP n l (k+1) E' a' w' g' hl' (fun i b hi=> hg' i b (hg i b hi)) hs' hk') (fun x E' a' w' g' v hk' hg' hs' hr'=> hP x E' a' w' g' v hk' (fun i b hi=> hg' i b (hg i b hi)) hs' hr')
theorem JI {id:Nat} {ops:Array Oper} {E:Env} {Q:AExit→Env→Prop} (tl:Nat→Bool) (n:Nat) (h:aY P ops tl n ops.toList E (Q .normal) (fun x E=> Q (.panic x) E)):AW P (.region id ops false) E Q:=by
 unfold AW
 intro ro X M w0 a w g g0 hg hs
 refine wpIn_region ?_
 rw [List.range_eq_range']
 have:=JoL (P:=P) (ops:=ops) (K:=Q .normal) (X:=X) (M:=M) (w0:=w0) (g0:=g0) (Kp:=fun x E=> Q (.panic x) E) (ro:=ro) (Q:=Jd9 ro X M w0 g0 Q) (fun E a w g hk hg hs=> ⟨.normal,E,g,hk,rfl,hg,hs⟩) (fun x E a w g v hk hg hs hr=> ⟨.panic x,E,g,hk,⟨v,rfl,hr⟩,hg,hs⟩) n ops.toList 0 E a w g (fun j=> .inl Si) hg hs h
 simpa using this
theorem JaX {c:Code} {E:Env} {Q:AExit→Env→Prop} {n:Nat} {bx:List (Id×Own)} {pm:List (Id×Nat)} {nx nn:Nat} {L:List (Nat×AV)} {df:Option (List DA)} (bs:List (Id×Own)) (hn:E.n=n) (hx:E.h.nx=nx) (hd:E.df=df)
 (hb:E.h.bx.Perm (bs++bx)) (hp:pm.Sublist E.h.pm) (hL:FrzT (bs.map fun p=> (p.1.2,p.2)) E.t L) (h:AW P c (mk n L ⟨bx,pm,nx,nn⟩ df) Q):AW P c E Q:=by
 subst hd
 refine AW.le (Jdo (E:=E) (h':= { E.h with bx:=bs++bx}) ⟨(hb.map _).symm, .refl _,rfl⟩) ?_
 exact AW.le (Jcw (E:= { E with h:= { E.h with bx:=bs++bx}}) bs hn hx (List.Sublist.refl _) hp hL) h
theorem JmG {o:Oper} {E:Env} {K:Env→Prop} {Kp:AV→Env→Prop} {t e:TypeId} {n:Nat} {parts:Array (Nat×Operand)} {out:List AV} (ho:o.op= .buildSlice t n parts)
 (hc:JcE P t n (parts.toList.map fun p=> (p.1,E.ev p.2))=some (e,out)) (hk:K (E.set o.dst (.os (P.cellsOf e) n (JdD P e out) none))):AOp P o E K Kp:=
 AOp.of_yields (JbL (C:=none) (by rw [ho];simp only [Jbe];exact Jeb hc) trivial) hk
theorem ω0 {x y:Code} {E:Env} {Q:AExit→Env→Prop} (h:AW P x E (Jog P y Q)):AW P (.seq x y) E Q:=Jut h
theorem ω1 {id:Nat} {ops:Array Oper} {E:Env} {Q:AExit→Env→Prop} (h:aK P ops ops.toList E (Q .normal) (fun x E=> Q (.panic x) E)):AW P (.region id ops false) E Q:=JZ h
theorem ω2 {i:Nat} {c:Code} {E:Env} {Q:AExit→Env→Prop} (h:AW P c E (Jf2 i Q)):AW P (.block i c) E Q:=JwE h
theorem ω3 {E:Env} {Q:AExit→Env→Prop} (h:Q .normal E):AW P .skip E Q:=Jry h
theorem ω4 {c:Operand} {x y:Code} {E:Env} {Q:AExit→Env→Prop} (hc:E.ev c= .v (.bool true)) (h:AW P x E Q):AW P (.cond c x y) E Q:=JrB hc h
theorem ω5 {c:Operand} {x y:Code} {E:Env} {Q:AExit→Env→Prop} (hc:E.ev c= .v (.bool false)) (h:AW P y E Q):AW P (.cond c x y) E Q:=Joh hc h
theorem ω6 {E:Env} {Q:AExit→Env→Prop} {i:Nat} (h:Q (.exit i) E):AW P (.exit i) E Q:=Jrz h
theorem ω7 {E:Env} {Q:AExit→Env→Prop} {l:Nat} (h:Q .normal E):AW P (.label l) E Q:=Jof h
def JAv:Code→Option AExit
 | .skip=> some .normal
 | .exit i=> some (.exit i)
 | .label _=> some .normal
 | .ret=> some .ret
 | _=> none
theorem τ3 {c:Code} {x:AExit} {E:Env} {Q:AExit→Env→Prop} (hc:JAv c=some x) (h:Q x E):AW P c E Q:=by
 cases c <;> first | (cases hc;first | exact Jry h | exact Jrz h | exact Jof h | exact JzO h) | cases hc
theorem τ4 {c:Operand} {x y:Code} {E:Env} {Q:AExit→Env→Prop} {t:Bool} (hc:E.ev c= .v (.bool t)) (h:AW P (bif t then x else y) E Q):AW P (.cond c x y) E Q:=by
 cases t
 ·exact Joh hc h
 ·exact JrB hc h
theorem τa {K:Prop} (h:K):True∧K:=⟨trivial,h⟩
theorem τb {α:Sort _} {a:α} {b c:Nat} {K:Prop} (hb:Nat.ble b c=true) (h:K):(a=a∧b≤c)∧K:=⟨⟨rfl,Nat.le_of_ble_eq_true hb⟩,h⟩
theorem τt {K:Bool→Prop} (h:K true):∀c,c=true→K c:=Jga h
theorem τf {K:Bool→Prop} (h:K false):∀c,c=false→K c:=Jfg h
theorem Z {A B:Prop} (k:A) (f:A→B:=by (intro h;(repeat((conv=>whnf);first|apply ω0|apply ω1|apply ω2|refine τ3 rfl ?_|refine τ4 rfl ?_|refine ⟨rfl,?_⟩|apply τa|refine τb rfl ?_|refine ⟨⟨by kernel_rfl,by kernel_rfl⟩,?_⟩|refine ⟨by decide,?_⟩|apply τt|apply τf));exact h)):B:=f k
theorem JE {A B:Prop} (k:A) (f:A→B:=by (intro h;(repeat((conv=>whnf);first|apply ω0|apply ω2|refine τ3 rfl ?_|refine τ4 rfl ?_|refine ⟨rfl,?_⟩|apply τa|refine τb rfl ?_|refine ⟨⟨by kernel_rfl,by kernel_rfl⟩,?_⟩|refine ⟨by decide,?_⟩|apply τt|apply τf));exact h)):B:=f k
theorem Jby {A B:Prop} (k:A) (f:A→B:=by (intro h;(repeat((conv=>whnf);first|apply ω0|apply ω1|apply ω2|refine τ3 rfl ?_|refine τ4 rfl ?_|refine ⟨rfl,?_⟩|apply τa|refine τb rfl ?_|refine ⟨by decide,?_⟩|apply τt|apply τf));exact h)):B:=f k
end Go.Vl

namespace Go
open Go.Vl
open Go.RowKit
theorem Rf {a:AV}:AVle a a:=AVle.refl a
theorem Sf {α:Type} {l:List α}:l.Sublist l:=List.Sublist.refl l
theorem Bf {l:List (Vl.Id×Own)}:BxLe l l:=BxLe.refl l
theorem Pf {l:List (Vl.Id×Nat)}:PmEq l l:=PmEq.refl l
theorem Et {E:Env} {n:Nat} {bx:List (Vl.Id×Own)} {pm:List (Vl.Id×Nat)} {nx nn:Nat} {L:List (Nat×AV)} (hn:E.n=n) (hx:E.h.nx=nx) (hb:BxLe E.h.bx bx) (hp:PmEq E.h.pm pm) (hL:LeT E.t L):ELe E (mk n L ⟨bx,pm,nx,nn⟩ E.df):=Jh _ _ hn hx (List.Sublist.refl _) (List.Sublist.refl _) hb hp hL
theorem Es {E:Env} {n nx nn:Nat} {L:List (Nat×AV)} (hn:E.n=n) (hx:E.h.nx=nx) (hL:LeT E.t L):ELe E (mk n L ⟨E.h.bx, [],nx,nn⟩ E.df):=Jh _ _ hn hx (List.Sublist.refl _) (List.nil_sublist _) (BxLe.refl _) trivial hL
theorem Lw {i:Nat} (h:i < 9223372036854775807:=by first | omega | (dsimp only;omega)):AVle (.v (.int .i64 (IntKind.i64.wrap ((i:Int)+1)))) (.v (.int .i64 ((i+1:Nat):Int))):=Jk (JC h)
theorem Bd {p q:Prop} (h:p:=by first | omega | (dsimp only;omega)) (k:q:=by first | omega | (dsimp only;omega)):p∧q:=⟨h,k⟩
theorem Dm {p:Prop} (h:p:=by dsimp only;omega):p:=h
theorem Dc {p:Prop} (h:p:=by decide):p:=h
theorem Tt:True:=trivial
theorem Kr {p:Prop} (h:p:=by kernel_rfl):p:=h
theorem Bo {p:Prop} (h:p:=by first | omega | (dsimp only;omega)):p:=h
def Ef:List Nat→Nat→Bool
 | [],_=> false
 | a::l,i=> bif Nat.beq i a then true else Ef l i
theorem Y1 {a:AV}:AVle a a∧True:=⟨Rf,trivial⟩
theorem Y2 {a b:AV}:AVle a a∧AVle b b∧True:=⟨Rf,Y1⟩
theorem Y3 {a b c:AV}:AVle a a∧AVle b b∧AVle c c∧True:=⟨Rf,Y2⟩
theorem Y4 {a b c d:AV}:AVle a a∧AVle b b∧AVle c c∧AVle d d∧True:=⟨Rf,Y3⟩
theorem Y5 {a b c d e:AV}:AVle a a∧AVle b b∧AVle c c∧AVle d d∧AVle e e∧True:=⟨Rf,Y4⟩
theorem Y6 {a b c d e f:AV}:AVle a a∧AVle b b∧AVle c c∧AVle d d∧AVle e e∧AVle f f∧True:=⟨Rf,Y5⟩
theorem Y7 {a b c d e f g:AV}:AVle a a∧AVle b b∧AVle c c∧AVle d d∧AVle e e∧AVle f f∧AVle g g∧True:=⟨Rf,Y6⟩
theorem Y8 {a b c d e f g h:AV}:AVle a a∧AVle b b∧AVle c c∧AVle d d∧AVle e e∧AVle f f∧AVle g g∧AVle h h∧True:=⟨Rf,Y7⟩
theorem Y9 {a b c d e f g h i:AV}:AVle a a∧AVle b b∧AVle c c∧AVle d d∧AVle e e∧AVle f f∧AVle g g∧AVle h h∧AVle i i∧True:=⟨Rf,Y8⟩
theorem Y10 {a b c d e f g h i j:AV}:AVle a a∧AVle b b∧AVle c c∧AVle d d∧AVle e e∧AVle f f∧AVle g g∧AVle h h∧AVle i i∧AVle j j∧True:=⟨Rf,Y9⟩
end Go
