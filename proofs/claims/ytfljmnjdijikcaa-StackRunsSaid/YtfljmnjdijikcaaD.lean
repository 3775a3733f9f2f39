/- A part of a row, cut off behind its end. -/
import Derived.Test.YtfljmnjdijikcaaC
import Derived.KernelRfl
import Derived.Test.YtfljmnjdijikcaaProg
set_option linter.unusedVariables false
set_option linter.unusedSimpArgs false
namespace Go.Vl
open Go.RowKit
variable {P : Program}

theorem yields_slice3 {o : Oper} {E : Env} {t e : TypeId} {x lo hi mx : Operand} {sz n l n' : Nat} {f : Nat → AV} {k k' k'' : IntKind} {d : TypeDesc} (ho : o.op = .slice t x (some lo) (some hi) (some mx)) (hx : E.ev x = .sl sz n f)
    (hlo : E.ev lo = .v (.int k l)) (hhi : E.ev hi = .v (.int k' ((l + n' : Nat) : Int))) (hmx : E.ev mx = .v (.int k'' ((l + n' : Nat) : Int))) (ht : P.underlying t = some (.slice e)) (hd : P.underlying e = some d)
    (hsz : sz = P.cellsOf e) (hl : l + n' ≤ n) (hpos : 0 < n') : Yields P o E (.sl sz n' (fun j => f (l + j))) := by
  refine ⟨(by rw [ho]; intro c hc; cases hc), fun ρ w X g hk hr => .inl ?_⟩
  have r1 := hr x (by rw [ho]; simp [Op.operands])
  have r2 := hr lo (by rw [ho]; simp [Op.operands])
  have r3 := hr hi (by rw [ho]; simp [Op.operands])
  have r4 := hr mx (by rw [ho]; simp [Op.operands])
  rw [hx] at r1; rw [hlo] at r2; rw [hhi] at r3; rw [hmx] at r4
  have e2 := rep_v r2
  have e3 := rep_v r3
  have e4 := rep_v r4
  generalize hu : ρ x = u at r1
  cases r1 with
  | sl0 => omega
  | sl _ _ _ b off cap vs hlen hcap hcell hcs hrr =>
    have hN : (Instr.sliceBounds true n cap (some (.int k l)) (some (.int k' ((l + n' : Nat) : Int))) (some (.int k'' ((l + n' : Nat) : Int)))).run P w = .ok (l, l + n', l + n') w := by
      have e5 : (0 : Int) ≤ (l : Int) + (n' : Int) := by omega
      have e6 : (l : Int) + (n' : Int) ≤ (cap : Int) := by omega
      have e7 : ((l : Int) + (n' : Int)).toNat = l + n' := by omega
      have e8 : (l : Int) ≤ (l : Int) + (n' : Int) := by omega
      simp [Instr.sliceBounds, Instr.sliceBound, asIntOf, e5, e6, e7]
    have hcl : ¬ l + n' = l := by omega
    refine ⟨.slice (some ⟨b, off + l * sz, none⟩) n' (l + n' - l), w, ?_, Evo.refl _ _, rep_sl hlen hcell hcs hrr hl (by omega) (fun _ _ => rfl)⟩
    unfold execOp
    simp only [ho, hu, Option.map_some, e2, e3, e4]
    refine run_value ?_
    simp only [Instr.sliceAt, Sem.run_bind, run_underlying ht, Result.andThen_ok, Instr.slice, hN, run_sizeOf' hd, Sem.run_pure, if_neg hcl, Option.map_some, add_none, ← hsz, Nat.add_sub_cancel_left]
theorem aop_slice3 {o : Oper} {E : Env} {K : Env → Prop} {Kp : AV → Env → Prop} {t e : TypeId} {x lo hi mx : Operand} {sz n l n' : Nat} {f : Nat → AV} {k k' k'' : IntKind} {d : TypeDesc} (ho : o.op = .slice t x (some lo) (some hi) (some mx)) (hx : E.ev x = .sl sz n f)
    (hlo : E.ev lo = .v (.int k l)) (hhi : E.ev hi = .v (.int k' ((l + n' : Nat) : Int))) (hmx : E.ev mx = .v (.int k'' ((l + n' : Nat) : Int))) (ht : P.underlying t = some (.slice e)) (hd : P.underlying e = some d)
    (hsz : sz = P.cellsOf e) (hl : l + n' ≤ n) (hpos : 0 < n') (hk : K (E.set o.dst (.sl sz n' (fun j => f (l + j))))) : AOp P o E K Kp :=
  AOp.of_yields (yields_slice3 ho hx hlo hhi hmx ht hd hsz hl hpos) hk
end Go.Vl

/- As VlX, with operations that look at memory of one's own which effects turn: such a look stands ahead of every effect that comes behind it. -/
namespace Go.Vl
open Go.RowKit
variable {P : Program}

def PureNow (P : Program) (ops : Array Oper) (o : Oper) (E : Env) (r : AV) : Prop :=
  ∀ E' : Env, E'.h = E.h → (∀ k, k ∈ o.looksAt ops → E'.t k = E.t k) → GY P ops o E' r
theorem PureNow.congr {ops : Array Oper} {o : Oper} {E E' : Env} {r : AV} (h : PureNow P ops o E r) (hh : E'.h = E.h) (ht : ∀ k, k ∈ o.looksAt ops → E'.t k = E.t k) : PureNow P ops o E' r :=
  fun E'' h1 h2 => h E'' (h1.trans hh) fun k hk => (h2 k hk).trans (ht k hk)
def MixL3 (P : Program) (ops : Array Oper) (B : List (Id × Own)) (eff ld : Nat → Bool) : List Nat → Env → (Env → Prop) → Prop
  | [], E, K => K E
  | i :: l, E, K => ∃ o, ops[i]? = some o ∧ (match eff i with
    | true => ∃ R, Eff P ops B o E R ∧ ∀ r h', R r h' → MixL3 P ops B eff ld l (({ E with h := h' } : Env).set o.dst r) K
    | false => match ld i with
      | true => ∃ r, PureNow P ops o E r ∧ MixL3 P ops B eff ld l (E.set o.dst r) K
      | false => ∃ r, PureAll P ops B o E r ∧ MixL3 P ops B eff ld l (E.set o.dst r) K)
theorem MixL3.front {ops : Array Oper} {B : List (Id × Own)} {eff ld : Nat → Bool} {K : Env → Prop} {j : Nat} {oj : Oper} (hj : ops[j]? = some oj) : ∀ (l1 l2 : List Nat) (E : Env),
    (∀ i ∈ l1, eff i = false ∧ (ld i = true → eff j = false) ∧ ∀ oi, ops[i]? = some oi → oi.apart ops oj = true) → MixL3 P ops B eff ld (l1 ++ j :: l2) E K → MixL3 P ops B eff ld (j :: (l1 ++ l2)) E K
  | [], l2, E, _, h => h
  | i :: l1, l2, E, hap, h => by
    obtain ⟨oi, h1, h2⟩ := h
    obtain ⟨he, hld, ha⟩ := hap i (by simp)
    obtain ⟨a1, a2, a3⟩ := Oper.apart_spec (ha oi h1)
    have back : ∀ {ri : AV} {E1 : Env}, E1.h = E.h ∨ ld i = false → (∀ k, k ∈ oi.looksAt ops → E1.t k = E.t k) → (match ld i with | true => PureNow P ops oi E ri | false => PureAll P ops B oi E ri) →
        (match ld i with | true => PureNow P ops oi E1 ri | false => PureAll P ops B oi E1 ri) := fun hh ht hp => by
      cases hli : ld i with
      | true => simp only [hli] at hp ⊢; exact hp.congr (hh.resolve_right (by rw [hli]; simp)) ht
      | false => simp only [hli] at hp ⊢; exact hp.congr ht
    simp only [he] at h2
    have h2' : ∃ ri, (match ld i with | true => PureNow P ops oi E ri | false => PureAll P ops B oi E ri) ∧ MixL3 P ops B eff ld (l1 ++ j :: l2) (E.set oi.dst ri) K := by
      cases hli : ld i with
      | true => simp only [hli] at h2 ⊢; exact h2
      | false => simp only [hli] at h2 ⊢; exact h2
    obtain ⟨ri, h3, h4⟩ := h2'
    have close : ∀ {E1 : Env}, (match ld i with | true => PureNow P ops oi E1 ri | false => PureAll P ops B oi E1 ri) → MixL3 P ops B eff ld (l1 ++ l2) (E1.set oi.dst ri) K → MixL3 P ops B eff ld (i :: (l1 ++ l2)) E1 K := fun hp hk => by
      refine ⟨oi, h1, ?_⟩
      simp only [he]
      cases hli : ld i with
      | true => simp only [hli] at hp ⊢; exact ⟨ri, hp, hk⟩
      | false => simp only [hli] at hp ⊢; exact ⟨ri, hp, hk⟩
    obtain ⟨o, h5, h6⟩ := MixL3.front hj l1 l2 _ (fun i' hi' => hap i' (List.mem_cons_of_mem _ hi')) h4
    rw [hj] at h5
    cases h5
    refine ⟨oj, hj, ?_⟩
    cases hej : eff j with
    | true =>
      have hli : ld i = false := by
        cases h : ld i with
        | false => rfl
        | true => rw [hld h] at hej; cases hej
      simp only [hej] at h6 ⊢
      obtain ⟨R, q1, q2⟩ := h6
      refine ⟨R, q1.congr (by rw [Env.set_h]) fun k hk => (Env.set_other (fun e => a1 k e hk)).symm, fun r h' hr => ?_⟩
      have q3 := q2 r h' hr
      refine close (back (.inr hli) (fun k hk => Env.set_other (fun e => a3 k e hk)) h3) ?_
      rw [set_heap, Env.set_comm (d := oi.dst) (d' := oj.dst) (fun k hk => a2 k hk)] at q3
      exact q3
    | false =>
      simp only [hej] at h6 ⊢
      cases hlj : ld j with
      | true =>
        simp only [hlj] at h6 ⊢
        obtain ⟨rj, q1, q2⟩ := h6
        refine ⟨rj, q1.congr (by rw [Env.set_h]) fun k hk => (Env.set_other (fun e => a1 k e hk)).symm, close (back (.inl (by rw [Env.set_h])) (fun k hk => Env.set_other (fun e => a3 k e hk)) h3) ?_⟩
        rw [Env.set_comm (d := oi.dst) (d' := oj.dst) (fun k hk => a2 k hk)] at q2
        exact q2
      | false =>
        simp only [hlj] at h6 ⊢
        obtain ⟨rj, q1, q2⟩ := h6
        refine ⟨rj, q1.congr fun k hk => (Env.set_other (fun e => a1 k e hk)).symm, close (back (.inl (by rw [Env.set_h])) (fun k hk => Env.set_other (fun e => a3 k e hk)) h3) ?_⟩
        rw [Env.set_comm (d := oi.dst) (d' := oj.dst) (fun k hk => a2 k hk)] at q2
        exact q2
/-- What is looked up of an order: each operation once; none waits for one behind; each waits for those ahead, or they only yield and are apart. -/
def ordM3 (ops : Array Oper) (m : Nat) (eff ld : Nat → Bool) (L : List Nat) : Bool :=
  let bf := Region.before ops
  Nat.ble m ops.size && (ordB ops m && (L.all (fun i => Nat.blt i m) && ((List.range m).all (fun i => L.contains i) && (go bf L))))
where
  go (bf : Array Nat) : List Nat → Bool
    | [] => true
    | i :: l => (l.all fun j => match ops[i]?, ops[j]? with
      | some oi, some oj => (!Nat.beq i j) && ((oi.after.toList.all fun e => !Region.binds .any e || !Nat.beq e.on j) && ((bf.getD j 0).testBit i || (!eff i && (!(ld i && eff j) && oi.apart ops oj))))
      | _, _ => false) && ((match ops[i]? with | some oi => oi.after.toList.all fun e => !Region.binds .any e || !Nat.beq e.on i | none => false) && go bf l)
def PairM3 (ops : Array Oper) (eff ld : Nat → Bool) (i j : Nat) : Prop :=
  i ≠ j ∧ ∀ oi oj, ops[i]? = some oi → ops[j]? = some oj → (∀ e ∈ oi.after, Region.binds .any e = true → e.on ≠ j) ∧ (((Region.before ops).getD j 0).testBit i = true ∨ (eff i = false ∧ (ld i = true → eff j = false) ∧ oi.apart ops oj = true))
theorem ordM3_go {ops : Array Oper} {eff ld : Nat → Bool} : ∀ {L : List Nat}, ordM3.go ops eff ld (Region.before ops) L = true →
    L.Pairwise (PairM3 ops eff ld) ∧ ∀ i ∈ L, ∀ oi, ops[i]? = some oi → ∀ e ∈ oi.after, Region.binds .any e = true → e.on ≠ i
  | [], _ => ⟨.nil, by simp⟩
  | i :: l, h => by
    simp only [ordM3.go, Bool.and_eq_true] at h
    obtain ⟨h1, h2, h3⟩ := h
    obtain ⟨q1, q2⟩ := ordM3_go h3
    refine ⟨List.pairwise_cons.2 ⟨fun j hj => ?_, q1⟩, fun k hk => ?_⟩
    · have := List.all_eq_true.1 h1 j hj
      split at this
      · rename_i oi oj hi hj'
        simp only [Bool.and_eq_true, Bool.or_eq_true, List.all_eq_true] at this
        obtain ⟨p1, p2, p3⟩ := this
        refine ⟨beq_no p1, fun oi' oj' hi2 hj2 => ?_⟩
        rw [hi] at hi2; rw [hj'] at hj2
        cases hi2; cases hj2
        refine ⟨fun e he hb => ?_, p3.imp id fun h => by
          simp at h
          exact ⟨h.1, fun hl => h.2.1.resolve_left (by rw [hl]; simp), h.2.2⟩⟩
        rcases p2 e (Array.mem_toList_iff.2 he) with h | h
        · simp [hb] at h
        · exact beq_no h
      · cases this
    · rcases List.mem_cons.1 hk with rfl | hk
      · intro oi hi e he hb
        rw [hi] at h2
        have := List.all_eq_true.1 h2 e (Array.mem_toList_iff.2 he)
        simp only [hb, Bool.not_true, Bool.false_or] at this
        exact beq_no this
      · exact q2 k hk

theorem mix_any3 {ops : Array Oper} {m : Nat} {B : List (Id × Own)} {eff ld : Nat → Bool} {Q : Exit → Act → World → Prop} (hk : OrdOk ops m) (hm : m ≤ ops.size)
    {ro : Option Nat} {X M : Nat → Nat → Prop} {w0 : World} {g0 : List Nat} {K : Env → Prop}
    (hq : ∀ E a w g, K E → (∀ (i b : Nat), g0[i]? = some b → g[i]? = some b) → St ro X M w0 E a w g → wpOpsIn (Fr ro) 0 P ops Q (List.range' m (ops.size - m)) a w) :
    ∀ (n : Nat) (L : List Nat) (listed : Array Bool) (E : Env) (a : Act) (w : World) (g : List Nat), L.length = n → L.Pairwise (PairM3 ops eff ld) → (∀ i ∈ L, i < m) →
      (∀ i ∈ L, ∀ oi, ops[i]? = some oi → ∀ e ∈ oi.after, Region.binds .any e = true → e.on ≠ i) → listed.size = ops.size → DC ops listed →
    (∀ i, i < ops.size → (listed.getD i true = false ↔ i ∈ L ∨ m ≤ i)) → MixL3 P ops B eff ld L E K → HB B E.h.bx → (∀ (i b : Nat), g0[i]? = some b → g[i]? = some b) → St ro X M w0 E a w g → wpAnyIn (Fr ro) 0 P .any ops Q (n + (ops.size - m)) listed a w := by
  intro n
  induction n with
  | zero =>
    intro L listed E a w g hl _ _ _ hsz hd hun hrun _ hg hs
    have : L = [] := List.eq_nil_of_length_eq_zero hl
    subst this
    rw [Nat.zero_add]
    exact tail_any hk _ m listed a w (by omega) (Nat.le_refl _) hsz hd (fun i hi => by simpa using hun i hi) (hq E a w g hrun hg hs)
  | succ n ih =>
    intro L listed E a w g hl hpw hlt hself hsz hd hun hrun hB hg hs
    rw [Nat.add_right_comm]
    obtain ⟨k, L', rfl⟩ : ∃ k L', L = k :: L' := by cases L with | nil => simp at hl | cons k L' => exact ⟨k, L', rfl⟩
    have hkm : k < m := hlt k (by simp)
    have hklt : k < ops.size := by omega
    have hko : ops[k]? = some ops[k] := Array.getElem?_eq_getElem hklt
    have hkr : k ∈ Region.ready .any ops listed := by
      refine mem_ready_iff.2 ⟨(hun k hklt).2 (by simp), _, hko, fun e he hb => ?_⟩
      have hb' := hk.back k _ hko e he hb
      rw [listed_bool (by omega)]
      cases hl : listed.getD e.on true with
      | true => simpa using hl
      | false =>
        rcases (hun e.on (by omega)).1 hl with h' | h'
        · rcases List.mem_cons.1 h' with h' | h'
          · exact absurd h' (hself k (by simp) _ hko e he hb)
          · exact absurd rfl (((List.pairwise_cons.1 hpw).1 _ h').2 _ _ hko (Array.getElem?_eq_getElem (by omega)) |>.1 e he hb)
        · omega
    refine ⟨fun h0 => (by rw [h0] at hkr; cases hkr), fun j hj => ?_⟩
    obtain ⟨h1, oj, hoj, h2⟩ := mem_ready_iff.1 hj
    have hjlt := (Array.getElem?_eq_some_iff.1 hoj).1
    have hjL : j ∈ k :: L' := by
      rcases (hun j hjlt).1 h1 with h' | h'
      · exact h'
      · have hb := hk.tail k j oj hoj h' (by omega)
        have := before_listed hd hsz hoj h2 hb
        have h3 := (hun k (by omega)).2 (by simp)
        rw [listed_bool (by omega)] at this
        simp [h3] at this
    obtain ⟨l1, l2, hl12⟩ := List.append_of_mem hjL
    rw [hl12] at hrun hpw hun hlt hl hself
    have hl1 : ∀ i ∈ l1, PairM3 ops eff ld i j := fun i hi => (List.pairwise_append.1 hpw).2.2 i hi j (by simp)
    obtain ⟨o, ho, hrun'⟩ := MixL3.front hoj l1 l2 E (fun i hi => by
      obtain ⟨hne, hp⟩ := hl1 i hi
      have hilt : i < ops.size := Nat.lt_of_lt_of_le (hlt i (by simp [hi])) hm
      rcases (hp _ _ (Array.getElem?_eq_getElem hilt) hoj).2 with hb | ⟨hb, hb2, hb'⟩
      · have := before_listed hd hsz hoj h2 hb
        have h3 := (hun i hilt).2 (by simp [hi])
        rw [listed_bool (by omega)] at this
        simp [h3] at this
      · exact ⟨hb, hb2, fun oi hoi => by rw [Array.getElem?_eq_getElem hilt] at hoi; cases hoi; exact hb'⟩) hrun
    rw [hoj] at ho
    cases ho
    have hnext : ∀ E' a' w' g', MixL3 P ops B eff ld (l1 ++ l2) E' K → HB B E'.h.bx → (∀ (i b : Nat), g0[i]? = some b → g'[i]? = some b) → St ro X M w0 E' a' w' g' → wpAnyIn (Fr ro) 0 P .any ops Q (n + (ops.size - m)) (listed.setIfInBounds j true) a' w' := by
      intro E' a' w' g' hm' hB' hg' hs'
      have hsub : (l1 ++ l2).Sublist (l1 ++ j :: l2) := List.Sublist.append (List.Sublist.refl _) (List.sublist_cons_self _ _)
      refine ih (l1 ++ l2) _ E' a' w' g' (by simp at hl ⊢; omega) (hpw.sublist hsub) (fun i hi => hlt i (hsub.subset hi)) (fun i hi => hself i (hsub.subset hi)) (by simp [hsz]) (hd.set hsz hk hj) (fun i hi => ?_) hm' hB' hg' hs'
      rw [listed_set (by omega)]
      by_cases hij : i = j
      · subst hij
        simp only [if_true]
        constructor
        · intro h; cases h
        · intro h
          exfalso
          have h5 := List.pairwise_append.1 hpw
          rcases h with h | h
          · rcases List.mem_append.1 h with h | h
            · exact (h5.2.2 i h i (by simp)).1 rfl
            · exact ((List.pairwise_cons.1 h5.2.1).1 i h).1 rfl
          · have := hlt i (by simp); omega
      · rw [if_neg hij, hun i hi]
        simp [hij]
    cases hej : eff j with
    | true =>
      simp only [hej] at hrun'
      obtain ⟨R, ⟨q0, q1⟩, q2⟩ := hrun'
      unfold wpOpIn
      simp only [hoj, Region.wanted, q0, if_true]
      exact q1 E rfl (fun _ _ => rfl) ro X M w0 a w g hs _ _ (fun E' a' w' g' hE hgg hs' => by
        obtain ⟨r, h', p1, p2, rfl⟩ := hE
        exact hnext _ a' w' g' (q2 r h' p1) (by rw [Env.set_h]; exact p2) (fun i b hi => hgg i b (hg i b hi)) hs') (fun x E' a' w' g' v hk' => hk'.elim)
    | false =>
      simp only [hej] at hrun'
      cases hlj : ld j with
      | true =>
        simp only [hlj] at hrun'
        obtain ⟨r, q1, q2⟩ := hrun'
        exact (q1 E rfl fun _ _ => rfl).does hoj hs fun a' w' hs' => hnext _ a' w' g q2 (by rw [Env.set_h]; exact hB) hg hs'
      | false =>
        simp only [hlj] at hrun'
        obtain ⟨r, q1, q2⟩ := hrun'
        exact (q1 E hB fun _ _ => rfl).does hoj hs fun a' w' hs' => hnext _ a' w' g q2 (by rw [Env.set_h]; exact hB) hg hs'

/-- Reckoned: what the table tells (a look at the present memory, else without any), and effects as they come. -/
def aM3 (P : Program) (ops : Array Oper) (eff ld : Nat → Bool) : List Nat → Env → (Env → Prop) → Prop
  | [], E, K => K E
  | i :: l, E, K => match ops[i]? with
    | none => False
    | some o => match eff i with
        | true => ∃ R, Eff P ops [] o E R ∧ ∀ r h', R r h' → aM3 P ops eff ld l (({ E with h := h' } : Env).set o.dst r) K
        | false => match ld i with
          | true => ∃ r, PureNow P ops o E r ∧ splitV r fun r => aM3 P ops eff ld l (E.set o.dst r) K
          | false => match o.guard with
            | some _ => False
            | none => match apure P o.op { E with h := ⟨[], [], 0, 0⟩ } with
              | some (C, r) => condK C (splitV r fun r => aM3 P ops eff ld l (E.set o.dst r) K)
              | none => False
theorem aM3_use {ops : Array Oper} {eff ld : Nat → Bool} {K : Env → Prop} : ∀ {L : List Nat} {E : Env}, aM3 P ops eff ld L E K → MixL3 P ops [] eff ld L E K
  | [], E, h => h
  | i :: l, E, h => by
    unfold aM3 at h
    split at h
    · exact h.elim
    · rename_i o ho
      refine ⟨o, ho, ?_⟩
      cases he : eff i with
      | true =>
        simp only [he] at h ⊢
        obtain ⟨R, q1, q2⟩ := h
        exact ⟨R, q1, fun r h' hr => aM3_use (q2 r h' hr)⟩
      | false =>
        simp only [he] at h ⊢
        cases hl : ld i with
        | true =>
          simp only [hl] at h ⊢
          obtain ⟨r, q1, q2⟩ := h
          exact ⟨r, q1, aM3_use (splitV_use q2)⟩
        | false =>
          simp only [hl] at h ⊢
          split at h
          · exact h.elim
          · rename_i hg
            split at h
            · rename_i C r hp
              obtain ⟨q1, q2⟩ := condK_use h
              refine ⟨r, fun E' hb ht => ?_, aM3_use (splitV_use q2)⟩
              unfold GY
              simp only [hg]
              exact apure_sound (apure_more (E := { E with h := ⟨[], [], 0, 0⟩ }) (E' := E') hb (ev_congr (E := { E with h := ⟨[], [], 0, 0⟩ }) ht) hp) q1
            · exact h.elim
/-- A look that the table tells over the present memory. -/
theorem now_apure {ops : Array Oper} {o : Oper} {E : Env} {C : Option Prop} {r : AV} (hg : o.guard = none) (hp : apure P o.op E = some (C, r)) (hC : condP C) : PureNow P ops o E r := fun E' hh ht => by
  unfold GY
  simp only [hg]
  exact apure_sound (apure_more (E := E) (E' := E') (by rw [hh]; exact HB.refl _) (ev_congr ht) hp) hC
/-- A region that draws, effects among what it does; from m on it is forced. -/
theorem aw_mix3 {id : Nat} {ops : Array Oper} {E : Env} {Q : AExit → Env → Prop} (m : Nat) (eff ld : Nat → Bool) (L : List Nat) (hf : P.follows .mixedOrders = true) (hb : ordM3 ops m eff ld L = true)
    (h : aM3 P ops eff ld L E fun E' => aK P ops (ops.toList.drop m) E' (Q .normal) (fun x E => Q (.panic x) E)) : AW P (.region id ops true) E Q := by
  simp only [ordM3, Bool.and_eq_true, List.all_eq_true] at hb
  obtain ⟨h0, h00, h1, h2, h3⟩ := hb
  have hm := ble_true h0
  obtain ⟨h4, h5⟩ := ordM3_go h3
  have hlt : ∀ i ∈ L, i < m := fun i hi => blt_true (h1 i hi)
  have hall : ∀ i, i < m → i ∈ L := fun i hi => by simpa using h2 i (List.mem_range.2 hi)
  have hnd : L.Nodup := h4.imp fun h => h.1
  have hlen : L.length = m := by
    have p : L.Perm (List.range m) := (List.perm_ext_iff_of_nodup hnd List.nodup_range).2 fun i => ⟨fun hi => List.mem_range.2 (hlt i hi), fun hi => hall i (List.mem_range.1 hi)⟩
    simpa using p.length_eq
  unfold AW
  intro ro X M w0 a w g g0 hg hs
  refine wpIn_region_any hf ?_
  have hs' : St ro X M w0 E a { w with drawn := w.drawn + 1 } g := hs.drew
  have key := mix_any3 (eff := eff) (ld := ld) (g0 := g0) (K := fun E' => aK P ops (ops.toList.drop m) E' (Q .normal) (fun x E => Q (.panic x) E)) (Q := lift ro X M w0 g0 Q) (P := P) (X := X) (M := M) (w0 := w0) (ro := ro) (B := []) (ordOk h00) hm (fun E' a' w' g' hk hg' hs'' => by
      have := aK_sound (P := P) (ops := ops) (K := Q .normal) (X := X) (M := M) (w0 := w0) (g0 := g0) (Kp := fun x E => Q (.panic x) E) (ro := ro) (Q := lift ro X M w0 g0 Q) (fun E a w g hk hg hs => ⟨.normal, E, g, hk, rfl, hg, hs⟩) (fun x E a w g v hk hg hs hr => ⟨.panic x, E, g, hk, ⟨v, rfl, hr⟩, hg, hs⟩) (ops.toList.drop m) m E' a' w' g' (fun j => .inl (by simp)) hg' hs'' hk
      simpa using this) m L (Array.replicate ops.size false) E a _ g hlen h4 hlt h5 (by simp) (fun k o ho hl => by
      have hk := (Array.getElem?_eq_some_iff.1 ho).1
      simp [Array.getD_eq_getD_getElem?, hk] at hl) (fun i hi => by
      have : (Array.replicate ops.size false).getD i true = false := by simp [Array.getD_eq_getD_getElem?, hi]
      simp only [this, true_iff]
      rcases Nat.lt_or_ge i m with h | h
      · exact .inl (hall i h)
      · exact .inr h) (aM3_use h) (fun _ _ _ h => by cases h) hg hs'
  have e : m + (ops.size - m) = ops.size := by omega
  rw [e] at key
  exact key

end Go.Vl

/- What is told is what comes back. -/
namespace Go.Vl
open Go.RowKit
variable {P : Program}

theorem pcall_of_tells {f : FuncId} {ars : List AV} {s : AV} (h : Tells P f ars s) : PCall P f ars (fun r => r = s) := fun nx => by
  refine ⟨(h nx).1, fun X w g us h1 h2 h3 h4 => ?_⟩
  refine (fnWay P f).mono (w0 := w) (g := g) ((h nx).2 X w g us h1 h2 h3 h4) fun e w' ⟨r, h', g', a1, a2, a3⟩ => ?_
  cases r with
  | pan x => exact a2.elim
  | ret r =>
    obtain ⟨u, e1, e2⟩ := a1
    exact ⟨.ret s, h', g', ⟨u, e1, a2.1 _ _ _ _ e2⟩, ⟨rfl, a2.2⟩, a3⟩
end Go.Vl

namespace Go.Proofs.W
open Go.Vl

/-- An instruction. -/
structure Ins where
  code : Nat
  jt : Nat
  jf : Nat
  k : Nat
deriving DecidableEq
def ins0 : Ins := ⟨0, 0, 0, 0⟩
def Ins.ok (i : Ins) : Prop := i.code < 65536 ∧ i.jt < 256 ∧ i.jf < 256 ∧ i.k < 4294967296
def aloneL : List (Nat × Nat) := [(32, 1), (0, 2), (96, 3), (128, 4), (1, 5), (97, 6), (129, 7), (2, 8), (3, 9), (7, 10), (135, 11), (132, 12), (5, 13), (6, 14), (22, 15)]
def bothL : List (Nat × Nat) := [(4, 16), (20, 17), (36, 18), (52, 19), (68, 20), (84, 21), (100, 22), (116, 23), (164, 24), (21, 25), (37, 26), (53, 27), (69, 28)]
def lk (l : List (Nat × Nat)) (c : Nat) : Option Nat := (l.find? (fun p => p.1 == c)).map (·.2)
def clr8 (c : Nat) : Nat := c - 8 * ((c / 8) % 2)
/-- What a code means: its kind (0: none), is its other side X? -/
def kof (c : Nat) : Nat × Bool := match lk aloneL c with
  | some k => (k, false)
  | none => match lk bothL (clr8 c) with
    | some k => (k, (c / 8) % 2 == 1)
    | none => (0, false)
theorem lk_some {l : List (Nat × Nat)} {c k : Nat} (h : lk l c = some k) : (c, k) ∈ l := by
  unfold lk at h
  rw [Option.map_eq_some_iff] at h
  obtain ⟨p, h1, h2⟩ := h
  have := List.find?_some h1
  have hm := List.mem_of_find?_eq_some h1
  simp at this
  obtain ⟨a, b⟩ := p
  dsimp only at this h2
  subst this; subst h2
  exact hm
theorem kof_le (c : Nat) : (kof c).1 ≤ 28 := by
  unfold kof
  split
  · rename_i k h
    have := lk_some h
    have hd : ∀ p ∈ aloneL, p.2 ≤ 28 := by decide
    exact hd _ this
  · split
    · rename_i k h
      have := lk_some h
      have hd : ∀ p ∈ bothL, p.2 ≤ 28 := by decide
      exact hd _ this
    · simp
/-- As the reference asks. -/
def refOf (c : Nat) : Nat × Bool :=
  match [32, 0, 96, 128, 1, 97, 129, 2, 3, 7, 135, 132, 5, 6, 22].findIdx? (fun a => c == a) with
  | some i => (i + 1, false)
  | none => match [4, 20, 36, 52, 68, 84, 100, 116, 164, 21, 37, 53, 69].findIdx? (fun a => c == a || c == a + 8) with
    | some i => (i + 16, c != [4, 20, 36, 52, 68, 84, 100, 116, 164, 21, 37, 53, 69].getD i 0)
    | none => (0, false)
theorem refOf_small : ∀ c, c < 256 → refOf c = kof c := by decide +kernel
theorem kof_big {c : Nat} (h : 256 ≤ c) : kof c = (0, false) := by
  have h1 : lk aloneL c = none := by
    cases hl : lk aloneL c with
    | none => rfl
    | some k =>
      have := lk_some hl
      have hd : ∀ p ∈ aloneL, p.1 < 256 := by decide
      have := hd _ this; dsimp only at this; omega
  have h2 : lk bothL (clr8 c) = none := by
    cases hl : lk bothL (clr8 c) with
    | none => rfl
    | some k =>
      have := lk_some hl
      have hd : ∀ p ∈ bothL, p.1 < 200 := by decide
      have := hd _ this; unfold clr8 at this; dsimp only at this; omega
  simp [kof, h1, h2]
theorem refOf_big {c : Nat} (h : 256 ≤ c) : refOf c = (0, false) := by
  have h1 : [32, 0, 96, 128, 1, 97, 129, 2, 3, 7, 135, 132, 5, 6, 22].findIdx? (fun a => c == a) = none := by
    rw [List.findIdx?_eq_none_iff]
    have hd : ∀ a ∈ [32, 0, 96, 128, 1, 97, 129, 2, 3, 7, 135, 132, 5, 6, 22], a < 256 := by decide
    intro a ha
    have := hd a ha
    simp; omega
  have h2 : [4, 20, 36, 52, 68, 84, 100, 116, 164, 21, 37, 53, 69].findIdx? (fun a => c == a || c == a + 8) = none := by
    rw [List.findIdx?_eq_none_iff]
    have hd : ∀ a ∈ [4, 20, 36, 52, 68, 84, 100, 116, 164, 21, 37, 53, 69], a < 200 := by decide
    intro a ha
    have := hd a ha
    simp; omega
  simp [refOf, h1, h2]
theorem refOf_eq (c : Nat) : refOf c = kof c := by
  rcases Nat.lt_or_ge c 256 with h | h
  · exact refOf_small c h
  · rw [refOf_big h, kof_big h]

/-- What is wrong with an instruction alone; rest: how many stand behind it. -/
def wrongI (i : Ins) (rest : Nat) : Nat :=
  let (kind, x) := kof i.code
  if kind = 0 then 5
  else if kind = 1 ∧ (i.k % 4 ≠ 0 ∨ 64 ≤ i.k) then 6
  else if (kind = 3 ∨ kind = 6 ∨ kind = 8 ∨ kind = 9) ∧ 16 ≤ i.k then 7
  else if x = false ∧ kind = 19 ∧ i.k = 0 then 8
  else if x = false ∧ (kind = 22 ∨ kind = 23) ∧ 31 < i.k then 9
  else if (kind = 13 ∧ rest ≤ i.k) ∨ (25 ≤ kind ∧ (rest ≤ i.jt ∨ rest ≤ i.jf)) then 10
  else 0
/-- The list's first three points: where, and what. -/
def formedI (l : List Ins) : Nat × Nat :=
  if l.length = 0 then (0, 4)
  else if 4096 < l.length then (0, 3)
  else match (List.range l.length).find? (fun n => wrongI (l.getD n ins0) (l.length - 1 - n) != 0) with
    | some n => (n, wrongI (l.getD n ins0) (l.length - 1 - n))
    | none => if (kof (l.getD (l.length - 1) ins0).code).1 = 14 ∨ (kof (l.getD (l.length - 1) ins0).code).1 = 15 then (0, 0) else (l.length - 1, 11)
end Go.Proofs.W

namespace Go.Proofs.W
open Go.Vl
set_option maxRecDepth 100000

def int (n : Int) : AV := .v (.int .i64 n)
def u8 (n : Int) : AV := .v (.int .u8 n)
def u16 (n : Int) : AV := .v (.int .u16 n)
def u32 (n : Int) : AV := .v (.int .u32 n)
def boolA (b : Bool) : AV := .v (.bool b)
def insA (i : Ins) : AV := .ag [u16 i.code, u8 i.jt, u8 i.jf, u32 i.k]
def inss (l : List Ins) : AV := slOf 4 insA ins0 l
def ints (l : List Nat) : AV := slOf 1 (fun n : Nat => int n) 0 l
def bools (l : List Bool) : AV := slOf 1 boolA false l
def u16s (l : List Nat) : AV := slOf 1 (fun n : Nat => u16 n) 0 l

def codeM (l : List (Nat × Nat)) : List (Value × AV) := l.map fun p => (.int .u16 (p.1 : Nat), int (p.2 : Nat))
theorem alook_code (l : List (Nat × Nat)) (c : Nat) : alook (.int .u16 (c : Nat)) (codeM l) = (lk l c).map fun k => int (k : Nat) := by
  induction l with
  | nil => rfl
  | cons p l ih =>
    unfold codeM at ih ⊢
    simp only [List.map_cons, alook]
    unfold lk at ih ⊢
    rw [List.find?_cons]
    have : keyIs (.int .u16 (c : Nat)) (.int .u16 (p.1 : Nat)) = (p.1 == c) := by
      simp only [keyIs, kindEq, Bool.true_and]
      rw [Bool.eq_iff_iff]; simp; omega
    rw [this]
    cases h : p.1 == c
    · simpa using ih
    · simp
theorem alone_spec : Tells Try.prog 127 [] (.fm (codeM aloneL)) := by
  refine tells_of_aw Try.func127 rfl rfl fun nx => ?_
  (repeat ((conv=>whnf);first|refine ω0 ?_|refine ω1 ?_|refine ω2 ?_|refine ω3 ?_|refine ω4 rfl ?_|refine ω5 rfl ?_|refine ω6 ?_|refine ω7 ?_|refine ⟨rfl,?_⟩|refine ⟨trivial,?_⟩|refine ⟨⟨rfl,Nat.le_of_ble_eq_true rfl⟩,?_⟩|refine ⟨⟨by kernel_rfl,by kernel_rfl⟩,?_⟩|refine ⟨by decide,?_⟩|refine lit_true ?_|refine lit_false ?_))
  refine AW.le (ele_freeze (L := [(0, .fm (codeM aloneL))]) (bx := []) (pm := []) (nn := 0) [((0, nx), .mp (codeM aloneL))] rfl rfl (List.Sublist.refl _) .slnil ⟨Frz.om (.head _), trivial⟩) ?_
  (repeat ((conv=>whnf);first|refine ω0 ?_|refine ω1 ?_|refine ω2 ?_|refine ω3 ?_|refine ω4 rfl ?_|refine ω5 rfl ?_|refine ω6 ?_|refine ω7 ?_|refine ω8 ?_|refine ⟨rfl,?_⟩|refine ⟨trivial,?_⟩|refine ⟨⟨rfl,Nat.le_of_ble_eq_true rfl⟩,?_⟩|refine ⟨⟨by kernel_rfl,by kernel_rfl⟩,?_⟩|refine ⟨by decide,?_⟩|refine lit_true ?_|refine lit_false ?_))
  refine ret_tells rfl (AVle.refl _)
theorem both_spec : Tells Try.prog 128 [] (.fm (codeM bothL)) := by
  refine tells_of_aw Try.func128 rfl rfl fun nx => ?_
  (repeat ((conv=>whnf);first|refine ω0 ?_|refine ω1 ?_|refine ω2 ?_|refine ω3 ?_|refine ω4 rfl ?_|refine ω5 rfl ?_|refine ω6 ?_|refine ω7 ?_|refine ⟨rfl,?_⟩|refine ⟨trivial,?_⟩|refine ⟨⟨rfl,Nat.le_of_ble_eq_true rfl⟩,?_⟩|refine ⟨⟨by kernel_rfl,by kernel_rfl⟩,?_⟩|refine ⟨by decide,?_⟩|refine lit_true ?_|refine lit_false ?_))
  refine AW.le (ele_freeze (L := [(0, .fm (codeM bothL))]) (bx := []) (pm := []) (nn := 0) [((0, nx), .mp (codeM bothL))] rfl rfl (List.Sublist.refl _) .slnil ⟨Frz.om (.head _), trivial⟩) ?_
  (repeat ((conv=>whnf);first|refine ω0 ?_|refine ω1 ?_|refine ω2 ?_|refine ω3 ?_|refine ω4 rfl ?_|refine ω5 rfl ?_|refine ω6 ?_|refine ω7 ?_|refine ω8 ?_|refine ⟨rfl,?_⟩|refine ⟨trivial,?_⟩|refine ⟨⟨rfl,Nat.le_of_ble_eq_true rfl⟩,?_⟩|refine ⟨⟨by kernel_rfl,by kernel_rfl⟩,?_⟩|refine ⟨by decide,?_⟩|refine lit_true ?_|refine lit_false ?_))
  refine ret_tells rfl (AVle.refl _)
theorem of_spec (c : Nat) (hc : c < 65536) : Tells Try.prog 100 [u16 c] (.tup [int (kof c).1, boolA (kof c).2, boolA ((kof c).1 != 0)]) := by
  refine tells_of_aw Try.func100 rfl rfl fun nx => ?_
  (repeat ((conv=>whnf);first|refine ω0 ?_|refine ω1 ?_|refine ω2 ?_|refine ω3 ?_|refine ω4 rfl ?_|refine ω5 rfl ?_|refine ω6 ?_|refine ω7 ?_|refine ω8 ?_|refine ⟨rfl,?_⟩|refine ⟨trivial,?_⟩|refine ⟨⟨rfl,Nat.le_of_ble_eq_true rfl⟩,?_⟩|refine ⟨⟨by kernel_rfl,by kernel_rfl⟩,?_⟩|refine ⟨by decide,?_⟩|refine lit_true ?_|refine lit_false ?_))
  refine aop_tells rfl rfl alone_spec trivial fun nx => ?_
  (repeat ((conv=>whnf);first|refine ω0 ?_|refine ω1 ?_|refine ω2 ?_|refine ω3 ?_|refine ω4 rfl ?_|refine ω5 rfl ?_|refine ω6 ?_|refine ω7 ?_|refine ω8 ?_|refine ⟨rfl,?_⟩|refine ⟨trivial,?_⟩|refine ⟨⟨rfl,Nat.le_of_ble_eq_true rfl⟩,?_⟩|refine ⟨⟨by kernel_rfl,by kernel_rfl⟩,?_⟩|refine ⟨by decide,?_⟩|refine lit_true ?_|refine lit_false ?_))
  have e1 := alook_code aloneL c
  cases h1 : lk aloneL c with
  | some k =>
    have hk : kof c = (k, false) := by simp [kof, h1]
    have hk0 : (k != 0) = true := by
      have hd : ∀ p ∈ aloneL, (p.2 != 0) = true := by decide
      exact hd _ (lk_some h1)
    rw [h1] at e1
    refine splitO_eq (b := .tup [int k, boolA true]) (by
      show lookR (alook (.int .u16 (c : Nat)) (codeM aloneL)) _ true = _
      rw [e1]; rfl) ?_
    (repeat ((conv=>whnf);first|refine ω0 ?_|refine ω1 ?_|refine ω2 ?_|refine ω3 ?_|refine ω4 rfl ?_|refine ω5 rfl ?_|refine ω6 ?_|refine ω7 ?_|refine ω8 ?_|refine ⟨rfl,?_⟩|refine ⟨trivial,?_⟩|refine ⟨⟨rfl,Nat.le_of_ble_eq_true rfl⟩,?_⟩|refine ⟨⟨by kernel_rfl,by kernel_rfl⟩,?_⟩|refine ⟨by decide,?_⟩|refine lit_true ?_|refine lit_false ?_))
    refine ret_tells rfl ?_
    rw [hk, hk0]
    exact AVle.refl _
  | none =>
    rw [h1] at e1
    refine splitO_eq (b := .tup [int 0, boolA false]) (by
      show lookR (alook (.int .u16 (c : Nat)) (codeM aloneL)) _ true = _
      rw [e1]; rfl) ?_
    have hb : bitsI .andNot .u16 (c : Int) 8 = ((clr8 c : Nat) : Int) := by
      have := u16_andNot (a := c) (b := 8) hc (by decide)
      rw [clr8, ← andnot8 c hc]; exact this
    have hx : bitsI .and .u16 (c : Int) 8 = ((8 * ((c / 8) % 2) : Nat) : Int) := by
      have := u16_and (a := c) (b := 8) hc (by decide)
      rw [← and8 c]; exact this
    (repeat ((conv=>whnf);first|refine ω0 ?_|refine ω1 ?_|refine ω2 ?_|refine ω3 ?_|refine ω4 rfl ?_|refine ω5 rfl ?_|refine ω6 ?_|refine ω7 ?_|refine ω8 ?_|refine ⟨rfl,?_⟩|refine ⟨trivial,?_⟩|refine ⟨⟨rfl,Nat.le_of_ble_eq_true rfl⟩,?_⟩|refine ⟨⟨by kernel_rfl,by kernel_rfl⟩,?_⟩|refine ⟨by decide,?_⟩|refine lit_true ?_|refine lit_false ?_))
    refine aop_tells rfl rfl both_spec trivial fun nx => ?_
    (repeat ((conv=>whnf);first|refine ω0 ?_|refine ω1 ?_|refine ω2 ?_|refine ω3 ?_|refine ω4 rfl ?_|refine ω5 rfl ?_|refine ω6 ?_|refine ω7 ?_|refine ω8 ?_|refine ⟨rfl,?_⟩|refine ⟨trivial,?_⟩|refine ⟨⟨rfl,Nat.le_of_ble_eq_true rfl⟩,?_⟩|refine ⟨⟨by kernel_rfl,by kernel_rfl⟩,?_⟩|refine ⟨by decide,?_⟩|refine lit_true ?_|refine lit_false ?_))
    have e2 := alook_code bothL (clr8 c)
    cases h2 : lk bothL (clr8 c) with
    | some k =>
      have hk : kof c = (k, (c / 8) % 2 == 1) := by simp [kof, h1, h2]
      have hk0 : (k != 0) = true := by
        have hd : ∀ p ∈ bothL, (p.2 != 0) = true := by decide
        exact hd _ (lk_some h2)
      rw [h2] at e2
      refine splitO_eq (b := .tup [int k, boolA true]) (by
        show lookR (alook (.int .u16 (bitsI .andNot .u16 (c : Int) 8)) (codeM bothL)) _ true = _
        rw [hb, e2]; rfl) ?_
      (repeat ((conv=>whnf);first|refine ω0 ?_|refine ω1 ?_|refine ω2 ?_|refine ω3 ?_|refine ω4 rfl ?_|refine ω5 rfl ?_|refine ω6 ?_|refine ω7 ?_|refine ω8 ?_|refine ⟨rfl,?_⟩|refine ⟨trivial,?_⟩|refine ⟨⟨rfl,Nat.le_of_ble_eq_true rfl⟩,?_⟩|refine ⟨⟨by kernel_rfl,by kernel_rfl⟩,?_⟩|refine ⟨by decide,?_⟩|refine lit_true ?_|refine lit_false ?_))
      intro c h3; cases c
      all_goals
        (repeat ((conv=>whnf);first|refine ω0 ?_|refine ω1 ?_|refine ω2 ?_|refine ω3 ?_|refine ω4 rfl ?_|refine ω5 rfl ?_|refine ω6 ?_|refine ω7 ?_|refine ω8 ?_|refine ⟨rfl,?_⟩|refine ⟨trivial,?_⟩|refine ⟨⟨rfl,Nat.le_of_ble_eq_true rfl⟩,?_⟩|refine ⟨⟨by kernel_rfl,by kernel_rfl⟩,?_⟩|refine ⟨by decide,?_⟩|refine lit_true ?_|refine lit_false ?_))
        refine ret_tells rfl ?_
        rw [hk, hk0]
        refine AVle.of_eq ?_
        rw [show ((c / 8) % 2 == 1) = (bitsI .and .u16 (c : Int) 8 != 0) by
          rw [hx, Bool.eq_iff_iff]; simp; omega, ← h3]
        rfl
    | none =>
      have hk : kof c = (0, false) := by simp [kof, h1, h2]
      rw [h2] at e2
      refine splitO_eq (b := .tup [int 0, boolA false]) (by
        show lookR (alook (.int .u16 (bitsI .andNot .u16 (c : Int) 8)) (codeM bothL)) _ true = _
        rw [hb, e2]; rfl) ?_
      (repeat ((conv=>whnf);first|refine ω0 ?_|refine ω1 ?_|refine ω2 ?_|refine ω3 ?_|refine ω4 rfl ?_|refine ω5 rfl ?_|refine ω6 ?_|refine ω7 ?_|refine ω8 ?_|refine ⟨rfl,?_⟩|refine ⟨trivial,?_⟩|refine ⟨⟨rfl,Nat.le_of_ble_eq_true rfl⟩,?_⟩|refine ⟨⟨by kernel_rfl,by kernel_rfl⟩,?_⟩|refine ⟨by decide,?_⟩|refine lit_true ?_|refine lit_false ?_))
      refine ret_tells rfl ?_
      rw [hk]
      exact AVle.refl _
end Go.Proofs.W

namespace Go.Proofs.W
open Go.Vl
set_option maxRecDepth 100000

theorem bne_no {a b : Int} (h : false = (a != b)) : a = b := by simpa using h.symm
theorem bne_yes {a b : Int} (h : true = (a != b)) : a ≠ b := by simpa using h.symm
def looked (i : Ins) (k : Nat) (x : Bool) (r : Nat) : AV := .ag [u16 i.code, u8 i.jt, u8 i.jf, u32 i.k, int k, boolA x, int r]
theorem fct_b0 {a b : Int} : (false = (a == b)) ↔ a ≠ b := by rw [eq_comm]; simp
theorem fct_b1 {a b : Int} : (true = (a == b)) ↔ a = b := by rw [eq_comm]; simp
theorem fct_n0 {a b : Int} : (false = (a != b)) ↔ a = b := by rw [eq_comm]; simp
theorem fct_n1 {a b : Int} : (true = (a != b)) ↔ a ≠ b := by rw [eq_comm]; simp
theorem fct_d0 {p : Prop} [Decidable p] : (false = decide p) ↔ ¬ p := by rw [eq_comm]; simp
theorem fct_d1 {p : Prop} [Decidable p] : (true = decide p) ↔ p := by rw [eq_comm]; simp
theorem code_spec (i : Ins) (k : Nat) (x : Bool) (r : Nat) : Tells Try.prog 164 [looked i k x r] (int (if k = 0 then 5 else 0)) := by
  refine tells_of_aw Try.func164 rfl rfl fun nx => ?_
  (repeat' ((repeat ((conv=>whnf);first|refine ω0 ?_|refine ω1 ?_|refine ω2 ?_|refine ω3 ?_|refine ω4 rfl ?_|refine ω5 rfl ?_|refine ω6 ?_|refine ω7 ?_|refine ω8 ?_|refine ⟨rfl,?_⟩|refine ⟨trivial,?_⟩|refine ⟨⟨rfl,Nat.le_of_ble_eq_true rfl⟩,?_⟩|refine ⟨⟨by kernel_rfl,by kernel_rfl⟩,?_⟩|refine ⟨by decide,?_⟩|refine lit_true ?_|refine lit_false ?_)); intro c h; cases c))
  all_goals
    (repeat ((conv=>whnf);first|refine ω0 ?_|refine ω1 ?_|refine ω2 ?_|refine ω3 ?_|refine ω4 rfl ?_|refine ω5 rfl ?_|refine ω6 ?_|refine ω7 ?_|refine ω8 ?_|refine ⟨rfl,?_⟩|refine ⟨trivial,?_⟩|refine ⟨⟨rfl,Nat.le_of_ble_eq_true rfl⟩,?_⟩|refine ⟨⟨by kernel_rfl,by kernel_rfl⟩,?_⟩|refine ⟨by decide,?_⟩|refine lit_true ?_|refine lit_false ?_))
    refine ret_tells rfl (le_int ?_)
    (try simp only [fct_b0, fct_b1, fct_d0, fct_d1, fct_n0, fct_n1] at *)
    split <;> omega
theorem load_spec (i : Ins) (k : Nat) (x : Bool) (r : Nat) : Tells Try.prog 165 [looked i k x r] (int (if k = 1 ∧ (i.k % 4 ≠ 0 ∨ 64 ≤ i.k) then 6 else 0)) := by
  refine tells_of_aw Try.func165 rfl rfl fun nx => ?_
  (repeat' ((repeat ((conv=>whnf);first|refine ω0 ?_|refine ω1 ?_|refine ω2 ?_|refine ω3 ?_|refine ω4 rfl ?_|refine ω5 rfl ?_|refine ω6 ?_|refine ω7 ?_|refine ω8 ?_|refine ⟨rfl,?_⟩|refine ⟨trivial,?_⟩|refine ⟨⟨rfl,Nat.le_of_ble_eq_true rfl⟩,?_⟩|refine ⟨⟨by kernel_rfl,by kernel_rfl⟩,?_⟩|refine ⟨by decide,?_⟩|refine lit_true ?_|refine lit_false ?_)); intro c h; cases c))
  all_goals
    (repeat ((conv=>whnf);first|refine ω0 ?_|refine ω1 ?_|refine ω2 ?_|refine ω3 ?_|refine ω4 rfl ?_|refine ω5 rfl ?_|refine ω6 ?_|refine ω7 ?_|refine ω8 ?_|refine ⟨rfl,?_⟩|refine ⟨trivial,?_⟩|refine ⟨⟨rfl,Nat.le_of_ble_eq_true rfl⟩,?_⟩|refine ⟨⟨by kernel_rfl,by kernel_rfl⟩,?_⟩|refine ⟨by decide,?_⟩|refine lit_true ?_|refine lit_false ?_))
    refine ret_tells rfl (le_int ?_)
    try rw [show (i.k : Int).tmod 4 = ((i.k % 4 : Nat) : Int) from rfl] at *
    (try simp only [fct_b0, fct_b1, fct_d0, fct_d1, fct_n0, fct_n1] at *)
    split <;> omega
theorem cells_spec (k : Nat) : Tells Try.prog 193 [int k] (boolA (decide (k = 3 ∨ k = 6 ∨ k = 8 ∨ k = 9))) := by
  refine tells_of_aw Try.func193 rfl rfl fun nx => ?_
  (repeat' ((repeat ((conv=>whnf);first|refine ω0 ?_|refine ω1 ?_|refine ω2 ?_|refine ω3 ?_|refine ω4 rfl ?_|refine ω5 rfl ?_|refine ω6 ?_|refine ω7 ?_|refine ω8 ?_|refine ⟨rfl,?_⟩|refine ⟨trivial,?_⟩|refine ⟨⟨rfl,Nat.le_of_ble_eq_true rfl⟩,?_⟩|refine ⟨⟨by kernel_rfl,by kernel_rfl⟩,?_⟩|refine ⟨by decide,?_⟩|refine lit_true ?_|refine lit_false ?_)); intro c h; cases c))
  all_goals
    (repeat ((conv=>whnf);first|refine ω0 ?_|refine ω1 ?_|refine ω2 ?_|refine ω3 ?_|refine ω4 rfl ?_|refine ω5 rfl ?_|refine ω6 ?_|refine ω7 ?_|refine ω8 ?_|refine ⟨rfl,?_⟩|refine ⟨trivial,?_⟩|refine ⟨⟨rfl,Nat.le_of_ble_eq_true rfl⟩,?_⟩|refine ⟨⟨by kernel_rfl,by kernel_rfl⟩,?_⟩|refine ⟨by decide,?_⟩|refine lit_true ?_|refine lit_false ?_))
    refine ret_tells rfl (le_bool ?_)
    (try simp only [fct_b0, fct_b1, fct_d0, fct_d1, fct_n0, fct_n1] at *)
    omega
theorem cell_spec (i : Ins) (k : Nat) (x : Bool) (r : Nat) : Tells Try.prog 166 [looked i k x r] (int (if (k = 3 ∨ k = 6 ∨ k = 8 ∨ k = 9) ∧ 16 ≤ i.k then 7 else 0)) := by
  refine tells_of_aw Try.func166 rfl rfl fun nx => ?_
  (repeat ((conv=>whnf);first|refine ω0 ?_|refine ω1 ?_|refine ω2 ?_|refine ω3 ?_|refine ω4 rfl ?_|refine ω5 rfl ?_|refine ω6 ?_|refine ω7 ?_|refine ω8 ?_|refine ⟨rfl,?_⟩|refine ⟨trivial,?_⟩|refine ⟨⟨rfl,Nat.le_of_ble_eq_true rfl⟩,?_⟩|refine ⟨⟨by kernel_rfl,by kernel_rfl⟩,?_⟩|refine ⟨by decide,?_⟩|refine lit_true ?_|refine lit_false ?_))
  refine aop_tells rfl rfl (cells_spec k) ⟨AVle.refl _, trivial⟩ fun nx => ?_
  (repeat' ((repeat ((conv=>whnf);first|refine ω0 ?_|refine ω1 ?_|refine ω2 ?_|refine ω3 ?_|refine ω4 rfl ?_|refine ω5 rfl ?_|refine ω6 ?_|refine ω7 ?_|refine ω8 ?_|refine ⟨rfl,?_⟩|refine ⟨trivial,?_⟩|refine ⟨⟨rfl,Nat.le_of_ble_eq_true rfl⟩,?_⟩|refine ⟨⟨by kernel_rfl,by kernel_rfl⟩,?_⟩|refine ⟨by decide,?_⟩|refine lit_true ?_|refine lit_false ?_)); intro c h; cases c))
  all_goals
    (repeat ((conv=>whnf);first|refine ω0 ?_|refine ω1 ?_|refine ω2 ?_|refine ω3 ?_|refine ω4 rfl ?_|refine ω5 rfl ?_|refine ω6 ?_|refine ω7 ?_|refine ω8 ?_|refine ⟨rfl,?_⟩|refine ⟨trivial,?_⟩|refine ⟨⟨rfl,Nat.le_of_ble_eq_true rfl⟩,?_⟩|refine ⟨⟨by kernel_rfl,by kernel_rfl⟩,?_⟩|refine ⟨by decide,?_⟩|refine lit_true ?_|refine lit_false ?_))
    refine ret_tells rfl (le_int ?_)
    (try simp only [fct_b0, fct_b1, fct_d0, fct_d1, fct_n0, fct_n1] at *)
    split <;> omega
theorem number_spec (i : Ins) (k : Nat) (x : Bool) (r : Nat) : Tells Try.prog 167 [looked i k x r]
    (int (if x = false ∧ k = 19 ∧ i.k = 0 then 8 else if x = false ∧ (k = 22 ∨ k = 23) ∧ 31 < i.k then 9 else 0)) := by
  refine tells_of_aw Try.func167 rfl rfl fun nx => ?_
  cases x
  all_goals
    (repeat' ((repeat ((conv=>whnf);first|refine ω0 ?_|refine ω1 ?_|refine ω2 ?_|refine ω3 ?_|refine ω4 rfl ?_|refine ω5 rfl ?_|refine ω6 ?_|refine ω7 ?_|refine ω8 ?_|refine ⟨rfl,?_⟩|refine ⟨trivial,?_⟩|refine ⟨⟨rfl,Nat.le_of_ble_eq_true rfl⟩,?_⟩|refine ⟨⟨by kernel_rfl,by kernel_rfl⟩,?_⟩|refine ⟨by decide,?_⟩|refine lit_true ?_|refine lit_false ?_)); intro c h; cases c))
    all_goals
      (repeat ((conv=>whnf);first|refine ω0 ?_|refine ω1 ?_|refine ω2 ?_|refine ω3 ?_|refine ω4 rfl ?_|refine ω5 rfl ?_|refine ω6 ?_|refine ω7 ?_|refine ω8 ?_|refine ⟨rfl,?_⟩|refine ⟨trivial,?_⟩|refine ⟨⟨rfl,Nat.le_of_ble_eq_true rfl⟩,?_⟩|refine ⟨⟨by kernel_rfl,by kernel_rfl⟩,?_⟩|refine ⟨by decide,?_⟩|refine lit_true ?_|refine lit_false ?_))
      refine ret_tells rfl (le_int ?_)
      (try simp only [fct_b0, fct_b1, fct_d0, fct_d1, fct_n0, fct_n1] at *)
      simp
      try omega
theorem jump_spec (i : Ins) (hi : i.ok) (k : Nat) (x : Bool) (r : Nat) : Tells Try.prog 168 [looked i k x r]
    (int (if (k = 13 ∧ r ≤ i.k) ∨ (25 ≤ k ∧ (r ≤ i.jt ∨ r ≤ i.jf)) then 10 else 0)) := by
  obtain ⟨h1, h2, h3, h4⟩ := hi
  have w1 : IntKind.i64.wrap (i.k : Int) = i.k := wrap_id (by omega) (by omega)
  have w2 : IntKind.i64.wrap (if (i.jf : Int) > i.jt then (i.jf : Int) else i.jt) = ((max i.jt i.jf : Nat) : Int) := by
    split
    · rw [wrap_id (by omega) (by omega)]; omega
    · rw [wrap_id (by omega) (by omega)]; omega
  refine tells_of_aw Try.func168 rfl rfl fun nx => ?_
  (repeat' ((repeat ((conv=>whnf);first|refine ω0 ?_|refine ω1 ?_|refine ω2 ?_|refine ω3 ?_|refine ω4 rfl ?_|refine ω5 rfl ?_|refine ω6 ?_|refine ω7 ?_|refine ω8 ?_|refine ⟨rfl,?_⟩|refine ⟨trivial,?_⟩|refine ⟨⟨rfl,Nat.le_of_ble_eq_true rfl⟩,?_⟩|refine ⟨⟨by kernel_rfl,by kernel_rfl⟩,?_⟩|refine ⟨by decide,?_⟩|refine lit_true ?_|refine lit_false ?_)); intro c h; cases c))
  all_goals
    (repeat ((conv=>whnf);first|refine ω0 ?_|refine ω1 ?_|refine ω2 ?_|refine ω3 ?_|refine ω4 rfl ?_|refine ω5 rfl ?_|refine ω6 ?_|refine ω7 ?_|refine ω8 ?_|refine ⟨rfl,?_⟩|refine ⟨trivial,?_⟩|refine ⟨⟨rfl,Nat.le_of_ble_eq_true rfl⟩,?_⟩|refine ⟨⟨by kernel_rfl,by kernel_rfl⟩,?_⟩|refine ⟨by decide,?_⟩|refine lit_true ?_|refine lit_false ?_))
    refine ret_tells rfl (le_int ?_)
    (try simp only [fct_b0, fct_b1, fct_d0, fct_d1, fct_n0, fct_n1] at *)
    (try rw [w1] at *)
    (try rw [w2] at *)
    split <;> omega
def fnsA (L : AV) : List AV := [.fn (.func 164) [L] [], .fn (.func 165) [L] [], .fn (.func 166) [L] [], .fn (.func 167) [L] [], .fn (.func 168) [L] []]
theorem wrong_spec (i : Ins) (hi : i.ok) (r : Nat) : Tells Try.prog 125 [looked i (kof i.code).1 (kof i.code).2 r] (int (wrongI i r)) := by
  have hk := kof_le i.code
  generalize hw : wrongI i r = w
  unfold wrongI at hw
  generalize kof i.code = kk at *
  obtain ⟨k, x⟩ := kk
  dsimp only at hw hk ⊢
  generalize he1 : (if k = 0 then 5 else 0 : Int) = e1
  generalize he2 : (if k = 1 ∧ (i.k % 4 ≠ 0 ∨ 64 ≤ i.k) then 6 else 0 : Int) = e2
  generalize he3 : (if (k = 3 ∨ k = 6 ∨ k = 8 ∨ k = 9) ∧ 16 ≤ i.k then 7 else 0 : Int) = e3
  generalize he4 : (if x = false ∧ k = 19 ∧ i.k = 0 then 8 else if x = false ∧ (k = 22 ∨ k = 23) ∧ 31 < i.k then 9 else 0 : Int) = e4
  generalize he5 : (if (k = 13 ∧ r ≤ i.k) ∨ (25 ≤ k ∧ (r ≤ i.jt ∨ r ≤ i.jf)) then 10 else 0 : Int) = e5
  have s1 := code_spec i k x r
  have s2 := load_spec i k x r
  have s3 := cell_spec i k x r
  have s4 := number_spec i k x r
  have s5 := jump_spec i hi k x r
  rw [he1] at s1; rw [he2] at s2; rw [he3] at s3; rw [he4] at s4; rw [he5] at s5
  have hw' : (w : Int) = if e1 ≠ 0 then e1 else if e2 ≠ 0 then e2 else if e3 ≠ 0 then e3 else if e4 ≠ 0 then e4 else e5 := by
    subst hw he1 he2 he3 he4 he5
    clear s1 s2 s3 s4 s5
    repeat' split
    all_goals first | rfl | omega
  clear hw he1 he2 he3 he4 he5
  refine tells_of_aw Try.func125 rfl rfl fun nx => ?_
  (repeat ((conv=>whnf);first|refine ω0 ?_|refine ω1 ?_|refine ω2 ?_|refine ω3 ?_|refine ω4 rfl ?_|refine ω5 rfl ?_|refine ω6 ?_|refine ω7 ?_|refine ω8 ?_|refine ⟨rfl,?_⟩|refine ⟨trivial,?_⟩|refine ⟨⟨rfl,Nat.le_of_ble_eq_true rfl⟩,?_⟩|refine ⟨⟨by kernel_rfl,by kernel_rfl⟩,?_⟩|refine ⟨by decide,?_⟩|refine lit_true ?_|refine lit_false ?_))
  refine aw_loop (fun s : Nat × Nat => mk 28 [(16, .sl 1 5 (rowF (fnsA (looked i k x r)))), (17, int 5), (18, int s.1)] ⟨[], [], s.2, 0⟩)
    (fun s => s.1 ≤ 5 ∧ (0 < s.1 → e1 = 0) ∧ (1 < s.1 → e2 = 0) ∧ (2 < s.1 → e3 = 0) ∧ (3 < s.1 → e4 = 0) ∧ (4 < s.1 → e5 = 0)) (fun s => 5 - s.1) ?_ ?_
  · refine ⟨(0, _), ⟨by omega, by simp, by simp, by simp, by simp, by simp⟩, ele_keep rfl rfl (.cons _ .slnil) .slnil ⟨?_, AVle.refl _, AVle.refl _, trivial⟩⟩
    exact le_rowF ⟨⟨⟨⟨⟨trivial, rfl⟩, rfl⟩, rfl⟩, rfl⟩, rfl⟩
  · rintro ⟨j, nx'⟩ ⟨h1, h2, h3, h4, h5, h6⟩
    dsimp only at h1 h2 h3 h4 h5 h6
    rcases j with _ | _ | _ | _ | _ | _ | j
    · (repeat ((conv=>whnf);first|refine ω0 ?_|refine ω1 ?_|refine ω2 ?_|refine ω3 ?_|refine ω4 rfl ?_|refine ω5 rfl ?_|refine ω6 ?_|refine ω7 ?_|refine ω8 ?_|refine ⟨rfl,?_⟩|refine ⟨trivial,?_⟩|refine ⟨⟨rfl,Nat.le_of_ble_eq_true rfl⟩,?_⟩|refine ⟨⟨by kernel_rfl,by kernel_rfl⟩,?_⟩|refine ⟨by decide,?_⟩|refine lit_true ?_|refine lit_false ?_))
      refine ⟨⟨by dsimp only; omega, by dsimp only; omega⟩, ?_⟩
      (repeat ((conv=>whnf);first|refine ω0 ?_|refine ω1 ?_|refine ω2 ?_|refine ω3 ?_|refine ω4 rfl ?_|refine ω5 rfl ?_|refine ω6 ?_|refine ω7 ?_|refine ω8 ?_|refine ⟨rfl,?_⟩|refine ⟨trivial,?_⟩|refine ⟨⟨rfl,Nat.le_of_ble_eq_true rfl⟩,?_⟩|refine ⟨⟨by kernel_rfl,by kernel_rfl⟩,?_⟩|refine ⟨by decide,?_⟩|refine lit_true ?_|refine lit_false ?_))
      refine aop_tells rfl rfl s1 ⟨AVle.refl _, trivial⟩ fun nx => ?_
      (repeat ((conv=>whnf);first|refine ω0 ?_|refine ω1 ?_|refine ω2 ?_|refine ω3 ?_|refine ω4 rfl ?_|refine ω5 rfl ?_|refine ω6 ?_|refine ω7 ?_|refine ω8 ?_|refine ⟨rfl,?_⟩|refine ⟨trivial,?_⟩|refine ⟨⟨rfl,Nat.le_of_ble_eq_true rfl⟩,?_⟩|refine ⟨⟨by kernel_rfl,by kernel_rfl⟩,?_⟩|refine ⟨by decide,?_⟩|refine lit_true ?_|refine lit_false ?_))
      intro c h; cases c
      · have h0 := bne_no h
        (repeat ((conv=>whnf);first|refine ω0 ?_|refine ω1 ?_|refine ω2 ?_|refine ω3 ?_|refine ω4 rfl ?_|refine ω5 rfl ?_|refine ω6 ?_|refine ω7 ?_|refine ω8 ?_|refine ⟨rfl,?_⟩|refine ⟨trivial,?_⟩|refine ⟨⟨rfl,Nat.le_of_ble_eq_true rfl⟩,?_⟩|refine ⟨⟨by kernel_rfl,by kernel_rfl⟩,?_⟩|refine ⟨by decide,?_⟩|refine lit_true ?_|refine lit_false ?_))
        refine back (1, _) ⟨by dsimp only; omega, fun _ => h0, fun h => absurd h (by dsimp only; omega), fun h => absurd h (by dsimp only; omega), fun h => absurd h (by dsimp only; omega), fun h => absurd h (by dsimp only; omega)⟩ (by dsimp only; omega) (ele_keep rfl rfl .slnil .slnil ⟨AVle.refl _, AVle.refl _, AVle.refl _, trivial⟩)
      · have h0 := bne_yes h
        (repeat ((conv=>whnf);first|refine ω0 ?_|refine ω1 ?_|refine ω2 ?_|refine ω3 ?_|refine ω4 rfl ?_|refine ω5 rfl ?_|refine ω6 ?_|refine ω7 ?_|refine ω8 ?_|refine ⟨rfl,?_⟩|refine ⟨trivial,?_⟩|refine ⟨⟨rfl,Nat.le_of_ble_eq_true rfl⟩,?_⟩|refine ⟨⟨by kernel_rfl,by kernel_rfl⟩,?_⟩|refine ⟨by decide,?_⟩|refine lit_true ?_|refine lit_false ?_))
        refine ret_tells rfl (le_int ?_)
        rw [hw', if_pos h0]
    · (repeat ((conv=>whnf);first|refine ω0 ?_|refine ω1 ?_|refine ω2 ?_|refine ω3 ?_|refine ω4 rfl ?_|refine ω5 rfl ?_|refine ω6 ?_|refine ω7 ?_|refine ω8 ?_|refine ⟨rfl,?_⟩|refine ⟨trivial,?_⟩|refine ⟨⟨rfl,Nat.le_of_ble_eq_true rfl⟩,?_⟩|refine ⟨⟨by kernel_rfl,by kernel_rfl⟩,?_⟩|refine ⟨by decide,?_⟩|refine lit_true ?_|refine lit_false ?_))
      refine ⟨⟨by dsimp only; omega, by dsimp only; omega⟩, ?_⟩
      (repeat ((conv=>whnf);first|refine ω0 ?_|refine ω1 ?_|refine ω2 ?_|refine ω3 ?_|refine ω4 rfl ?_|refine ω5 rfl ?_|refine ω6 ?_|refine ω7 ?_|refine ω8 ?_|refine ⟨rfl,?_⟩|refine ⟨trivial,?_⟩|refine ⟨⟨rfl,Nat.le_of_ble_eq_true rfl⟩,?_⟩|refine ⟨⟨by kernel_rfl,by kernel_rfl⟩,?_⟩|refine ⟨by decide,?_⟩|refine lit_true ?_|refine lit_false ?_))
      refine aop_tells rfl rfl s2 ⟨AVle.refl _, trivial⟩ fun nx => ?_
      (repeat ((conv=>whnf);first|refine ω0 ?_|refine ω1 ?_|refine ω2 ?_|refine ω3 ?_|refine ω4 rfl ?_|refine ω5 rfl ?_|refine ω6 ?_|refine ω7 ?_|refine ω8 ?_|refine ⟨rfl,?_⟩|refine ⟨trivial,?_⟩|refine ⟨⟨rfl,Nat.le_of_ble_eq_true rfl⟩,?_⟩|refine ⟨⟨by kernel_rfl,by kernel_rfl⟩,?_⟩|refine ⟨by decide,?_⟩|refine lit_true ?_|refine lit_false ?_))
      intro c h; cases c
      · have h0 := bne_no h
        (repeat ((conv=>whnf);first|refine ω0 ?_|refine ω1 ?_|refine ω2 ?_|refine ω3 ?_|refine ω4 rfl ?_|refine ω5 rfl ?_|refine ω6 ?_|refine ω7 ?_|refine ω8 ?_|refine ⟨rfl,?_⟩|refine ⟨trivial,?_⟩|refine ⟨⟨rfl,Nat.le_of_ble_eq_true rfl⟩,?_⟩|refine ⟨⟨by kernel_rfl,by kernel_rfl⟩,?_⟩|refine ⟨by decide,?_⟩|refine lit_true ?_|refine lit_false ?_))
        refine back (2, _) ⟨by dsimp only; omega, fun _ => h2 (by omega), fun _ => h0, fun h => absurd h (by dsimp only; omega), fun h => absurd h (by dsimp only; omega), fun h => absurd h (by dsimp only; omega)⟩ (by dsimp only; omega) (ele_keep rfl rfl .slnil .slnil ⟨AVle.refl _, AVle.refl _, AVle.refl _, trivial⟩)
      · have h0 := bne_yes h
        (repeat ((conv=>whnf);first|refine ω0 ?_|refine ω1 ?_|refine ω2 ?_|refine ω3 ?_|refine ω4 rfl ?_|refine ω5 rfl ?_|refine ω6 ?_|refine ω7 ?_|refine ω8 ?_|refine ⟨rfl,?_⟩|refine ⟨trivial,?_⟩|refine ⟨⟨rfl,Nat.le_of_ble_eq_true rfl⟩,?_⟩|refine ⟨⟨by kernel_rfl,by kernel_rfl⟩,?_⟩|refine ⟨by decide,?_⟩|refine lit_true ?_|refine lit_false ?_))
        refine ret_tells rfl (le_int ?_)
        rw [hw', if_neg (by simp [h2 (by omega)]), if_pos h0]
    · (repeat ((conv=>whnf);first|refine ω0 ?_|refine ω1 ?_|refine ω2 ?_|refine ω3 ?_|refine ω4 rfl ?_|refine ω5 rfl ?_|refine ω6 ?_|refine ω7 ?_|refine ω8 ?_|refine ⟨rfl,?_⟩|refine ⟨trivial,?_⟩|refine ⟨⟨rfl,Nat.le_of_ble_eq_true rfl⟩,?_⟩|refine ⟨⟨by kernel_rfl,by kernel_rfl⟩,?_⟩|refine ⟨by decide,?_⟩|refine lit_true ?_|refine lit_false ?_))
      refine ⟨⟨by dsimp only; omega, by dsimp only; omega⟩, ?_⟩
      (repeat ((conv=>whnf);first|refine ω0 ?_|refine ω1 ?_|refine ω2 ?_|refine ω3 ?_|refine ω4 rfl ?_|refine ω5 rfl ?_|refine ω6 ?_|refine ω7 ?_|refine ω8 ?_|refine ⟨rfl,?_⟩|refine ⟨trivial,?_⟩|refine ⟨⟨rfl,Nat.le_of_ble_eq_true rfl⟩,?_⟩|refine ⟨⟨by kernel_rfl,by kernel_rfl⟩,?_⟩|refine ⟨by decide,?_⟩|refine lit_true ?_|refine lit_false ?_))
      refine aop_tells rfl rfl s3 ⟨AVle.refl _, trivial⟩ fun nx => ?_
      (repeat ((conv=>whnf);first|refine ω0 ?_|refine ω1 ?_|refine ω2 ?_|refine ω3 ?_|refine ω4 rfl ?_|refine ω5 rfl ?_|refine ω6 ?_|refine ω7 ?_|refine ω8 ?_|refine ⟨rfl,?_⟩|refine ⟨trivial,?_⟩|refine ⟨⟨rfl,Nat.le_of_ble_eq_true rfl⟩,?_⟩|refine ⟨⟨by kernel_rfl,by kernel_rfl⟩,?_⟩|refine ⟨by decide,?_⟩|refine lit_true ?_|refine lit_false ?_))
      intro c h; cases c
      · have h0 := bne_no h
        (repeat ((conv=>whnf);first|refine ω0 ?_|refine ω1 ?_|refine ω2 ?_|refine ω3 ?_|refine ω4 rfl ?_|refine ω5 rfl ?_|refine ω6 ?_|refine ω7 ?_|refine ω8 ?_|refine ⟨rfl,?_⟩|refine ⟨trivial,?_⟩|refine ⟨⟨rfl,Nat.le_of_ble_eq_true rfl⟩,?_⟩|refine ⟨⟨by kernel_rfl,by kernel_rfl⟩,?_⟩|refine ⟨by decide,?_⟩|refine lit_true ?_|refine lit_false ?_))
        refine back (3, _) ⟨by dsimp only; omega, fun _ => h2 (by omega), fun _ => h3 (by omega), fun _ => h0, fun h => absurd h (by dsimp only; omega), fun h => absurd h (by dsimp only; omega)⟩ (by dsimp only; omega) (ele_keep rfl rfl .slnil .slnil ⟨AVle.refl _, AVle.refl _, AVle.refl _, trivial⟩)
      · have h0 := bne_yes h
        (repeat ((conv=>whnf);first|refine ω0 ?_|refine ω1 ?_|refine ω2 ?_|refine ω3 ?_|refine ω4 rfl ?_|refine ω5 rfl ?_|refine ω6 ?_|refine ω7 ?_|refine ω8 ?_|refine ⟨rfl,?_⟩|refine ⟨trivial,?_⟩|refine ⟨⟨rfl,Nat.le_of_ble_eq_true rfl⟩,?_⟩|refine ⟨⟨by kernel_rfl,by kernel_rfl⟩,?_⟩|refine ⟨by decide,?_⟩|refine lit_true ?_|refine lit_false ?_))
        refine ret_tells rfl (le_int ?_)
        rw [hw', if_neg (by simp [h2 (by omega)]), if_neg (by simp [h3 (by omega)]), if_pos h0]
    · (repeat ((conv=>whnf);first|refine ω0 ?_|refine ω1 ?_|refine ω2 ?_|refine ω3 ?_|refine ω4 rfl ?_|refine ω5 rfl ?_|refine ω6 ?_|refine ω7 ?_|refine ω8 ?_|refine ⟨rfl,?_⟩|refine ⟨trivial,?_⟩|refine ⟨⟨rfl,Nat.le_of_ble_eq_true rfl⟩,?_⟩|refine ⟨⟨by kernel_rfl,by kernel_rfl⟩,?_⟩|refine ⟨by decide,?_⟩|refine lit_true ?_|refine lit_false ?_))
      refine ⟨⟨by dsimp only; omega, by dsimp only; omega⟩, ?_⟩
      (repeat ((conv=>whnf);first|refine ω0 ?_|refine ω1 ?_|refine ω2 ?_|refine ω3 ?_|refine ω4 rfl ?_|refine ω5 rfl ?_|refine ω6 ?_|refine ω7 ?_|refine ω8 ?_|refine ⟨rfl,?_⟩|refine ⟨trivial,?_⟩|refine ⟨⟨rfl,Nat.le_of_ble_eq_true rfl⟩,?_⟩|refine ⟨⟨by kernel_rfl,by kernel_rfl⟩,?_⟩|refine ⟨by decide,?_⟩|refine lit_true ?_|refine lit_false ?_))
      refine aop_tells rfl rfl s4 ⟨AVle.refl _, trivial⟩ fun nx => ?_
      (repeat ((conv=>whnf);first|refine ω0 ?_|refine ω1 ?_|refine ω2 ?_|refine ω3 ?_|refine ω4 rfl ?_|refine ω5 rfl ?_|refine ω6 ?_|refine ω7 ?_|refine ω8 ?_|refine ⟨rfl,?_⟩|refine ⟨trivial,?_⟩|refine ⟨⟨rfl,Nat.le_of_ble_eq_true rfl⟩,?_⟩|refine ⟨⟨by kernel_rfl,by kernel_rfl⟩,?_⟩|refine ⟨by decide,?_⟩|refine lit_true ?_|refine lit_false ?_))
      intro c h; cases c
      · have h0 := bne_no h
        (repeat ((conv=>whnf);first|refine ω0 ?_|refine ω1 ?_|refine ω2 ?_|refine ω3 ?_|refine ω4 rfl ?_|refine ω5 rfl ?_|refine ω6 ?_|refine ω7 ?_|refine ω8 ?_|refine ⟨rfl,?_⟩|refine ⟨trivial,?_⟩|refine ⟨⟨rfl,Nat.le_of_ble_eq_true rfl⟩,?_⟩|refine ⟨⟨by kernel_rfl,by kernel_rfl⟩,?_⟩|refine ⟨by decide,?_⟩|refine lit_true ?_|refine lit_false ?_))
        refine back (4, _) ⟨by dsimp only; omega, fun _ => h2 (by omega), fun _ => h3 (by omega), fun _ => h4 (by omega), fun _ => h0, fun h => absurd h (by dsimp only; omega)⟩ (by dsimp only; omega) (ele_keep rfl rfl .slnil .slnil ⟨AVle.refl _, AVle.refl _, AVle.refl _, trivial⟩)
      · have h0 := bne_yes h
        (repeat ((conv=>whnf);first|refine ω0 ?_|refine ω1 ?_|refine ω2 ?_|refine ω3 ?_|refine ω4 rfl ?_|refine ω5 rfl ?_|refine ω6 ?_|refine ω7 ?_|refine ω8 ?_|refine ⟨rfl,?_⟩|refine ⟨trivial,?_⟩|refine ⟨⟨rfl,Nat.le_of_ble_eq_true rfl⟩,?_⟩|refine ⟨⟨by kernel_rfl,by kernel_rfl⟩,?_⟩|refine ⟨by decide,?_⟩|refine lit_true ?_|refine lit_false ?_))
        refine ret_tells rfl (le_int ?_)
        rw [hw', if_neg (by simp [h2 (by omega)]), if_neg (by simp [h3 (by omega)]), if_neg (by simp [h4 (by omega)]), if_pos h0]
    · (repeat ((conv=>whnf);first|refine ω0 ?_|refine ω1 ?_|refine ω2 ?_|refine ω3 ?_|refine ω4 rfl ?_|refine ω5 rfl ?_|refine ω6 ?_|refine ω7 ?_|refine ω8 ?_|refine ⟨rfl,?_⟩|refine ⟨trivial,?_⟩|refine ⟨⟨rfl,Nat.le_of_ble_eq_true rfl⟩,?_⟩|refine ⟨⟨by kernel_rfl,by kernel_rfl⟩,?_⟩|refine ⟨by decide,?_⟩|refine lit_true ?_|refine lit_false ?_))
      refine ⟨⟨by dsimp only; omega, by dsimp only; omega⟩, ?_⟩
      (repeat ((conv=>whnf);first|refine ω0 ?_|refine ω1 ?_|refine ω2 ?_|refine ω3 ?_|refine ω4 rfl ?_|refine ω5 rfl ?_|refine ω6 ?_|refine ω7 ?_|refine ω8 ?_|refine ⟨rfl,?_⟩|refine ⟨trivial,?_⟩|refine ⟨⟨rfl,Nat.le_of_ble_eq_true rfl⟩,?_⟩|refine ⟨⟨by kernel_rfl,by kernel_rfl⟩,?_⟩|refine ⟨by decide,?_⟩|refine lit_true ?_|refine lit_false ?_))
      refine aop_tells rfl rfl s5 ⟨AVle.refl _, trivial⟩ fun nx => ?_
      (repeat ((conv=>whnf);first|refine ω0 ?_|refine ω1 ?_|refine ω2 ?_|refine ω3 ?_|refine ω4 rfl ?_|refine ω5 rfl ?_|refine ω6 ?_|refine ω7 ?_|refine ω8 ?_|refine ⟨rfl,?_⟩|refine ⟨trivial,?_⟩|refine ⟨⟨rfl,Nat.le_of_ble_eq_true rfl⟩,?_⟩|refine ⟨⟨by kernel_rfl,by kernel_rfl⟩,?_⟩|refine ⟨by decide,?_⟩|refine lit_true ?_|refine lit_false ?_))
      intro c h; cases c
      · have h0 := bne_no h
        (repeat ((conv=>whnf);first|refine ω0 ?_|refine ω1 ?_|refine ω2 ?_|refine ω3 ?_|refine ω4 rfl ?_|refine ω5 rfl ?_|refine ω6 ?_|refine ω7 ?_|refine ω8 ?_|refine ⟨rfl,?_⟩|refine ⟨trivial,?_⟩|refine ⟨⟨rfl,Nat.le_of_ble_eq_true rfl⟩,?_⟩|refine ⟨⟨by kernel_rfl,by kernel_rfl⟩,?_⟩|refine ⟨by decide,?_⟩|refine lit_true ?_|refine lit_false ?_))
        refine back (5, _) ⟨by dsimp only; omega, fun _ => h2 (by omega), fun _ => h3 (by omega), fun _ => h4 (by omega), fun _ => h5 (by omega), fun _ => h0⟩ (by dsimp only; omega) (ele_keep rfl rfl .slnil .slnil ⟨AVle.refl _, AVle.refl _, AVle.refl _, trivial⟩)
      · have h0 := bne_yes h
        (repeat ((conv=>whnf);first|refine ω0 ?_|refine ω1 ?_|refine ω2 ?_|refine ω3 ?_|refine ω4 rfl ?_|refine ω5 rfl ?_|refine ω6 ?_|refine ω7 ?_|refine ω8 ?_|refine ⟨rfl,?_⟩|refine ⟨trivial,?_⟩|refine ⟨⟨rfl,Nat.le_of_ble_eq_true rfl⟩,?_⟩|refine ⟨⟨by kernel_rfl,by kernel_rfl⟩,?_⟩|refine ⟨by decide,?_⟩|refine lit_true ?_|refine lit_false ?_))
        refine ret_tells rfl (le_int ?_)
        rw [hw', if_neg (by simp [h2 (by omega)]), if_neg (by simp [h3 (by omega)]), if_neg (by simp [h4 (by omega)]), if_neg (by simp [h5 (by omega)])]
    · (repeat ((conv=>whnf);first|refine ω0 ?_|refine ω1 ?_|refine ω2 ?_|refine ω3 ?_|refine ω4 rfl ?_|refine ω5 rfl ?_|refine ω6 ?_|refine ω7 ?_|refine ω8 ?_|refine ⟨rfl,?_⟩|refine ⟨trivial,?_⟩|refine ⟨⟨rfl,Nat.le_of_ble_eq_true rfl⟩,?_⟩|refine ⟨⟨by kernel_rfl,by kernel_rfl⟩,?_⟩|refine ⟨by decide,?_⟩|refine lit_true ?_|refine lit_false ?_))
      refine ret_tells rfl (le_int ?_)
      rw [hw', if_neg (by simp [h2 (by omega)]), if_neg (by simp [h3 (by omega)]), if_neg (by simp [h4 (by omega)]), if_neg (by simp [h5 (by omega)]), h6 (by omega)]
    · omega
end Go.Proofs.W

namespace Go.Proofs.W
open Go.Vl
set_option maxRecDepth 100000

def okL (l : List Ins) : Prop := ∀ i ∈ l, i.ok
theorem okL.get {l : List Ins} (h : okL l) {n : Nat} (hn : n < l.length) : (l.getD n ins0).ok := by
  have : l.getD n ins0 ∈ l := by simp [List.getD, hn]
  exact h _ this
theorem find_range_some {n i : Nat} {p : Nat → Bool} (hi : i < n) (h : p i = true) (hb : ∀ j, j < i → p j = false) : (List.range n).find? p = some i := by
  rw [List.find?_range_eq_some]
  exact ⟨h, by simpa using hi, by simpa using hb⟩
theorem find_range_none {n : Nat} {p : Nat → Bool} (hb : ∀ j, j < n → p j = false) : (List.range n).find? p = none := by
  rw [List.find?_range_eq_none]
  simpa using hb
theorem of_kind (c : Nat) (hc : c < 65536) : Tells Try.prog 100 [u16 c] (.tup [int (kof c).1, .any, .any]) := (of_spec c hc).le (AVle.tups (cs := [_, _, _]) ⟨AVle.refl _, AVle.any _, AVle.any _, trivial⟩)
theorem of_both (c : Nat) (hc : c < 65536) : Tells Try.prog 100 [u16 c] (.tup [int (kof c).1, boolA (kof c).2, .any]) := (of_spec c hc).le (AVle.tups (cs := [_, _, _]) ⟨AVle.refl _, AVle.refl _, AVle.any _, trivial⟩)
theorem formed_spec (l : List Ins) (hok : okL l) (hl : l.length ≤ 1000000000) : Tells Try.prog 98 [inss l] (.tup [int (formedI l).1, int (formedI l).2]) := by
  refine tells_of_aw Try.func98 rfl rfl fun nx => ?_
  (repeat ((conv=>whnf);first|refine ω0 ?_|refine ω1 ?_|refine ω2 ?_|refine ω3 ?_|refine ω4 rfl ?_|refine ω5 rfl ?_|refine ω6 ?_|refine ω7 ?_|refine ω8 ?_|refine ⟨rfl,?_⟩|refine ⟨trivial,?_⟩|refine ⟨⟨rfl,Nat.le_of_ble_eq_true rfl⟩,?_⟩|refine ⟨⟨by kernel_rfl,by kernel_rfl⟩,?_⟩|refine ⟨by decide,?_⟩|refine lit_true ?_|refine lit_false ?_))
  intro c g1; cases c
  · have h1 := not_of g1
    (repeat ((conv=>whnf);first|refine ω0 ?_|refine ω1 ?_|refine ω2 ?_|refine ω3 ?_|refine ω4 rfl ?_|refine ω5 rfl ?_|refine ω6 ?_|refine ω7 ?_|refine ω8 ?_|refine ⟨rfl,?_⟩|refine ⟨trivial,?_⟩|refine ⟨⟨rfl,Nat.le_of_ble_eq_true rfl⟩,?_⟩|refine ⟨⟨by kernel_rfl,by kernel_rfl⟩,?_⟩|refine ⟨by decide,?_⟩|refine lit_true ?_|refine lit_false ?_))
    intro c g2; cases c
    · have h2 := not_of g2
      (repeat ((conv=>whnf);first|refine ω0 ?_|refine ω1 ?_|refine ω2 ?_|refine ω3 ?_|refine ω4 rfl ?_|refine ω5 rfl ?_|refine ω6 ?_|refine ω7 ?_|refine ω8 ?_|refine ⟨rfl,?_⟩|refine ⟨trivial,?_⟩|refine ⟨⟨rfl,Nat.le_of_ble_eq_true rfl⟩,?_⟩|refine ⟨⟨by kernel_rfl,by kernel_rfl⟩,?_⟩|refine ⟨by decide,?_⟩|refine lit_true ?_|refine lit_false ?_))
      refine aw_loop (fun s : Nat × Nat => mk 71 [(0, inss l), (22, inss l), (23, int l.length), (24, int s.1)] ⟨[], [], s.2, 0⟩) (fun s => s.1 ≤ l.length ∧ ∀ j, j < s.1 → wrongI (l.getD j ins0) (l.length - 1 - j) = 0) (fun s => l.length - s.1) ?_ ?_
      · exact ⟨(0, nx), ⟨by omega, by intro j hj; omega⟩, ele_mk rfl rfl ⟨AVle.refl _, AVle.refl _, AVle.refl _, AVle.refl _, trivial⟩⟩
      · rintro ⟨i, nx'⟩ ⟨h3, h4⟩
        dsimp only at h3 h4
        (repeat ((conv=>whnf);first|refine ω0 ?_|refine ω1 ?_|refine ω2 ?_|refine ω3 ?_|refine ω4 rfl ?_|refine ω5 rfl ?_|refine ω6 ?_|refine ω7 ?_|refine ω8 ?_|refine ⟨rfl,?_⟩|refine ⟨trivial,?_⟩|refine ⟨⟨rfl,Nat.le_of_ble_eq_true rfl⟩,?_⟩|refine ⟨⟨by kernel_rfl,by kernel_rfl⟩,?_⟩|refine ⟨by decide,?_⟩|refine lit_true ?_|refine lit_false ?_))
        intro c g3; cases c
        · have h5 := not_of g3
          (repeat ((conv=>whnf);first|refine ω0 ?_|refine ω1 ?_|refine ω2 ?_|refine ω3 ?_|refine ω4 rfl ?_|refine ω5 rfl ?_|refine ω6 ?_|refine ω7 ?_|refine ω8 ?_|refine ⟨rfl,?_⟩|refine ⟨trivial,?_⟩|refine ⟨⟨rfl,Nat.le_of_ble_eq_true rfl⟩,?_⟩|refine ⟨⟨by kernel_rfl,by kernel_rfl⟩,?_⟩|refine ⟨by decide,?_⟩|refine lit_true ?_|refine lit_false ?_))
          have hw : IntKind.i64.wrap ((l.length : Int) - 1) = ((l.length - 1 : Nat) : Int) := by rw [wrap_id (by omega) (by omega)]; omega
          (conv => whnf)
          rw [hw]
          refine ⟨⟨by omega, by omega⟩, ?_⟩
          (repeat ((conv=>whnf);first|refine ω0 ?_|refine ω1 ?_|refine ω2 ?_|refine ω3 ?_|refine ω4 rfl ?_|refine ω5 rfl ?_|refine ω6 ?_|refine ω7 ?_|refine ω8 ?_|refine ⟨rfl,?_⟩|refine ⟨trivial,?_⟩|refine ⟨⟨rfl,Nat.le_of_ble_eq_true rfl⟩,?_⟩|refine ⟨⟨by kernel_rfl,by kernel_rfl⟩,?_⟩|refine ⟨by decide,?_⟩|refine lit_true ?_|refine lit_false ?_))
          have hlast : (Int.toNat ((l.length - 1 : Nat) : Int)) = l.length - 1 := by omega
          refine aop_tells rfl rfl (of_kind (l.getD (l.length - 1) ins0).code (hok.get (by omega)).1) ⟨AVle.refl _, trivial⟩ fun nx => ?_
          have hnone : (List.range l.length).find? (fun n => wrongI (l.getD n ins0) (l.length - 1 - n) != 0) = none := find_range_none fun j hj => by simpa using h4 j (by omega)
          (repeat ((conv=>whnf);first|refine ω0 ?_|refine ω1 ?_|refine ω2 ?_|refine ω3 ?_|refine ω4 rfl ?_|refine ω5 rfl ?_|refine ω6 ?_|refine ω7 ?_|refine ω8 ?_|refine ⟨rfl,?_⟩|refine ⟨trivial,?_⟩|refine ⟨⟨rfl,Nat.le_of_ble_eq_true rfl⟩,?_⟩|refine ⟨⟨by kernel_rfl,by kernel_rfl⟩,?_⟩|refine ⟨by decide,?_⟩|refine lit_true ?_|refine lit_false ?_))
          intro c g4; cases c
          · have h6 := bne_no g4
            (repeat ((conv=>whnf);first|refine ω0 ?_|refine ω1 ?_|refine ω2 ?_|refine ω3 ?_|refine ω4 rfl ?_|refine ω5 rfl ?_|refine ω6 ?_|refine ω7 ?_|refine ω8 ?_|refine ⟨rfl,?_⟩|refine ⟨trivial,?_⟩|refine ⟨⟨rfl,Nat.le_of_ble_eq_true rfl⟩,?_⟩|refine ⟨⟨by kernel_rfl,by kernel_rfl⟩,?_⟩|refine ⟨by decide,?_⟩|refine lit_true ?_|refine lit_false ?_))
            refine ret_tells rfl (AVle.of_eq ?_)
            have : formedI l = (0, 0) := by
              unfold formedI
              rw [if_neg (by omega), if_neg (by omega), hnone]
              dsimp only
              rw [if_pos (by omega)]
            rw [this]; rfl
          · have h6 := bne_yes g4
            (repeat ((conv=>whnf);first|refine ω0 ?_|refine ω1 ?_|refine ω2 ?_|refine ω3 ?_|refine ω4 rfl ?_|refine ω5 rfl ?_|refine ω6 ?_|refine ω7 ?_|refine ω8 ?_|refine ⟨rfl,?_⟩|refine ⟨trivial,?_⟩|refine ⟨⟨rfl,Nat.le_of_ble_eq_true rfl⟩,?_⟩|refine ⟨⟨by kernel_rfl,by kernel_rfl⟩,?_⟩|refine ⟨by decide,?_⟩|refine lit_true ?_|refine lit_false ?_))
            intro c g5; cases c
            · have h7 := bne_no g5
              (repeat ((conv=>whnf);first|refine ω0 ?_|refine ω1 ?_|refine ω2 ?_|refine ω3 ?_|refine ω4 rfl ?_|refine ω5 rfl ?_|refine ω6 ?_|refine ω7 ?_|refine ω8 ?_|refine ⟨rfl,?_⟩|refine ⟨trivial,?_⟩|refine ⟨⟨rfl,Nat.le_of_ble_eq_true rfl⟩,?_⟩|refine ⟨⟨by kernel_rfl,by kernel_rfl⟩,?_⟩|refine ⟨by decide,?_⟩|refine lit_true ?_|refine lit_false ?_))
              refine ret_tells rfl (AVle.of_eq ?_)
              have : formedI l = (0, 0) := by
                unfold formedI
                rw [if_neg (by omega), if_neg (by omega), hnone]
                dsimp only
                rw [if_pos (by omega)]
              rw [this]; rfl
            · have h7 := bne_yes g5
              (repeat ((conv=>whnf);first|refine ω0 ?_|refine ω1 ?_|refine ω2 ?_|refine ω3 ?_|refine ω4 rfl ?_|refine ω5 rfl ?_|refine ω6 ?_|refine ω7 ?_|refine ω8 ?_|refine ⟨rfl,?_⟩|refine ⟨trivial,?_⟩|refine ⟨⟨rfl,Nat.le_of_ble_eq_true rfl⟩,?_⟩|refine ⟨⟨by kernel_rfl,by kernel_rfl⟩,?_⟩|refine ⟨by decide,?_⟩|refine lit_true ?_|refine lit_false ?_))
              refine ret_tells rfl (AVle.of_eq ?_)
              have : formedI l = (l.length - 1, 11) := by
                unfold formedI
                rw [if_neg (by omega), if_neg (by omega), hnone]
                dsimp only
                rw [if_neg (by omega)]
              rw [this]; rfl
        · have h5 := yes_of g3
          dsimp only at h5
          have hi : i < l.length := by omega
          (repeat ((conv=>whnf);first|refine ω0 ?_|refine ω1 ?_|refine ω2 ?_|refine ω3 ?_|refine ω4 rfl ?_|refine ω5 rfl ?_|refine ω6 ?_|refine ω7 ?_|refine ω8 ?_|refine ⟨rfl,?_⟩|refine ⟨trivial,?_⟩|refine ⟨⟨rfl,Nat.le_of_ble_eq_true rfl⟩,?_⟩|refine ⟨⟨by kernel_rfl,by kernel_rfl⟩,?_⟩|refine ⟨by decide,?_⟩|refine lit_true ?_|refine lit_false ?_))
          refine ⟨⟨by dsimp only; omega, by dsimp only; omega⟩, ?_⟩
          (repeat ((conv=>whnf);first|refine ω0 ?_|refine ω1 ?_|refine ω2 ?_|refine ω3 ?_|refine ω4 rfl ?_|refine ω5 rfl ?_|refine ω6 ?_|refine ω7 ?_|refine ω8 ?_|refine ⟨rfl,?_⟩|refine ⟨trivial,?_⟩|refine ⟨⟨rfl,Nat.le_of_ble_eq_true rfl⟩,?_⟩|refine ⟨⟨by kernel_rfl,by kernel_rfl⟩,?_⟩|refine ⟨by decide,?_⟩|refine lit_true ?_|refine lit_false ?_))
          refine aop_tells rfl rfl (of_both (l.getD i ins0).code (hok.get hi).1) ⟨AVle.refl _, trivial⟩ fun nx => ?_
          have hsx := wrong_spec (l.getD i ins0) (hok.get hi) (l.length - 1 - i)
          generalize hx : (kof (l.getD i ins0).code).2 = x at hsx ⊢
          cases x
          all_goals
            (repeat ((conv=>whnf);first|refine ω0 ?_|refine ω1 ?_|refine ω2 ?_|refine ω3 ?_|refine ω4 rfl ?_|refine ω5 rfl ?_|refine ω6 ?_|refine ω7 ?_|refine ω8 ?_|refine ⟨rfl,?_⟩|refine ⟨trivial,?_⟩|refine ⟨⟨rfl,Nat.le_of_ble_eq_true rfl⟩,?_⟩|refine ⟨⟨by kernel_rfl,by kernel_rfl⟩,?_⟩|refine ⟨by decide,?_⟩|refine lit_true ?_|refine lit_false ?_))
            have hw : IntKind.i64.wrap (IntKind.i64.wrap ((l.length : Int) - 1) - (i : Int)) = ((l.length - 1 - i : Nat) : Int) := by
              rw [wrap_id (n := (l.length : Int) - 1) (by omega) (by omega), wrap_id (by omega) (by omega)]; omega
            refine aop_tells rfl rfl hsx ⟨AVle.of_eq ?_, trivial⟩ fun nx => ?_
            · unfold looked; rw [← hw]; rfl
            (repeat ((conv=>whnf);first|refine ω0 ?_|refine ω1 ?_|refine ω2 ?_|refine ω3 ?_|refine ω4 rfl ?_|refine ω5 rfl ?_|refine ω6 ?_|refine ω7 ?_|refine ω8 ?_|refine ⟨rfl,?_⟩|refine ⟨trivial,?_⟩|refine ⟨⟨rfl,Nat.le_of_ble_eq_true rfl⟩,?_⟩|refine ⟨⟨by kernel_rfl,by kernel_rfl⟩,?_⟩|refine ⟨by decide,?_⟩|refine lit_true ?_|refine lit_false ?_))
            intro c g4; cases c
            · have h6 := bne_no g4
              (repeat ((conv=>whnf);first|refine ω0 ?_|refine ω1 ?_|refine ω2 ?_|refine ω3 ?_|refine ω4 rfl ?_|refine ω5 rfl ?_|refine ω6 ?_|refine ω7 ?_|refine ω8 ?_|refine ⟨rfl,?_⟩|refine ⟨trivial,?_⟩|refine ⟨⟨rfl,Nat.le_of_ble_eq_true rfl⟩,?_⟩|refine ⟨⟨by kernel_rfl,by kernel_rfl⟩,?_⟩|refine ⟨by decide,?_⟩|refine lit_true ?_|refine lit_false ?_))
              refine back (i + 1, _) ⟨by dsimp only; omega, fun j hj => ?_⟩ (by dsimp only; omega) (ele_keep rfl rfl (.cons _ .slnil) .slnil ⟨AVle.refl _, AVle.refl _, AVle.refl _, le_int (wrap_succ (by dsimp only; omega)), trivial⟩)
              dsimp only at hj
              rcases Nat.lt_or_ge j i with h | h
              · exact h4 j h
              · obtain rfl : j = i := by omega
                omega
            · have h6 := bne_yes g4
              (repeat ((conv=>whnf);first|refine ω0 ?_|refine ω1 ?_|refine ω2 ?_|refine ω3 ?_|refine ω4 rfl ?_|refine ω5 rfl ?_|refine ω6 ?_|refine ω7 ?_|refine ω8 ?_|refine ⟨rfl,?_⟩|refine ⟨trivial,?_⟩|refine ⟨⟨rfl,Nat.le_of_ble_eq_true rfl⟩,?_⟩|refine ⟨⟨by kernel_rfl,by kernel_rfl⟩,?_⟩|refine ⟨by decide,?_⟩|refine lit_true ?_|refine lit_false ?_))
              refine ret_tells rfl (AVle.of_eq ?_)
              have : formedI l = (i, wrongI (l.getD i ins0) (l.length - 1 - i)) := by
                unfold formedI
                rw [if_neg (by omega), if_neg (by omega), find_range_some hi (by simp only [bne_iff_ne]; omega) (fun j hj => by simpa using h4 j hj)]
              rw [this]; rfl
    · have h2 := yes_of g2
      (repeat ((conv=>whnf);first|refine ω0 ?_|refine ω1 ?_|refine ω2 ?_|refine ω3 ?_|refine ω4 rfl ?_|refine ω5 rfl ?_|refine ω6 ?_|refine ω7 ?_|refine ω8 ?_|refine ⟨rfl,?_⟩|refine ⟨trivial,?_⟩|refine ⟨⟨rfl,Nat.le_of_ble_eq_true rfl⟩,?_⟩|refine ⟨⟨by kernel_rfl,by kernel_rfl⟩,?_⟩|refine ⟨by decide,?_⟩|refine lit_true ?_|refine lit_false ?_))
      refine ret_tells rfl (AVle.of_eq ?_)
      have : formedI l = (0, 3) := by
        unfold formedI
        rw [if_neg (by omega), if_pos (by omega)]
      rw [this]; rfl
  · have h1 := yes_of g1
    (repeat ((conv=>whnf);first|refine ω0 ?_|refine ω1 ?_|refine ω2 ?_|refine ω3 ?_|refine ω4 rfl ?_|refine ω5 rfl ?_|refine ω6 ?_|refine ω7 ?_|refine ω8 ?_|refine ⟨rfl,?_⟩|refine ⟨trivial,?_⟩|refine ⟨⟨rfl,Nat.le_of_ble_eq_true rfl⟩,?_⟩|refine ⟨⟨by kernel_rfl,by kernel_rfl⟩,?_⟩|refine ⟨by decide,?_⟩|refine lit_true ?_|refine lit_false ?_))
    refine ret_tells rfl (AVle.of_eq ?_)
    have : formedI l = (0, 4) := by
      unfold formedI
      rw [if_pos (by omega)]
    rw [this]; rfl
end Go.Proofs.W

namespace Go.Proofs.W
open Go.Vl
set_option maxRecDepth 100000

def u64 (n : Int) : AV := .v (.int .u64 n)
def bytesA (l : List Nat) : AV := slOf 1 (fun n : Nat => u8 n) 0 l
def okB (b : List Nat) : Prop := ∀ x ∈ b, x < 256
def intsZ (l : List Int) : AV := slOf 1 int 0 l
/-- The first place where p holds; -1: none. -/
def idxOf (n : Nat) (p : Nat → Bool) : Int := match (List.range n).find? p with | some i => (i : Nat) | none => -1
theorem idxOf_some {n i : Nat} {p : Nat → Bool} (hi : i < n) (h : p i = true) (hb : ∀ j, j < i → p j = false) : idxOf n p = (i : Nat) := by
  unfold idxOf; rw [find_range_some hi h hb]
theorem idxOf_none {n : Nat} {p : Nat → Bool} (hb : ∀ j, j < n → p j = false) : idxOf n p = -1 := by
  unfold idxOf; rw [find_range_none hb]
theorem idxOf_cases (n : Nat) (p : Nat → Bool) : (∃ i, i < n ∧ p i = true ∧ (∀ j, j < i → p j = false) ∧ idxOf n p = (i : Nat)) ∨ ((∀ j, j < n → p j = false) ∧ idxOf n p = -1) := by
  cases h : (List.range n).find? p with
  | some i =>
    have h1 := List.find?_some h
    have hi : i < n := List.mem_range.1 (List.mem_of_find?_eq_some h)
    refine .inl ⟨i, hi, h1, fun j hj => ?_, by unfold idxOf; rw [h]⟩
    have := List.find?_range_eq_some.1 h
    have h4 := this.2.2 j hj
    simpa using h4
  | none =>
    refine .inr ⟨fun j hj => ?_, by unfold idxOf; rw [h]⟩
    have := List.find?_eq_none.1 h j (List.mem_range.2 hj)
    simpa using this

theorem index_spec (l : List Int) (x : Int) (hl : l.length ≤ 1000000000) : Tells Try.prog 187 [intsZ l, int x] (int (idxOf l.length fun i => decide (x = l.getD i 0))) := by
  refine tells_of_aw Try.func187 rfl rfl fun nx => ?_
  (repeat ((conv=>whnf);first|refine ω0 ?_|refine ω1 ?_|refine ω2 ?_|refine ω3 ?_|refine ω4 rfl ?_|refine ω5 rfl ?_|refine ω6 ?_|refine ω7 ?_|refine ω8 ?_|refine ⟨rfl,?_⟩|refine ⟨trivial,?_⟩|refine ⟨⟨rfl,Nat.le_of_ble_eq_true rfl⟩,?_⟩|refine ⟨⟨by kernel_rfl,by kernel_rfl⟩,?_⟩|refine ⟨by decide,?_⟩|refine lit_true ?_|refine lit_false ?_))
  refine aw_loop (fun i : Nat => mk 19 [(0, intsZ l), (1, int x), (7, int l.length), (8, int i)] ⟨[], [], nx, 0⟩) (fun i => i ≤ l.length ∧ ∀ j, j < i → x ≠ l.getD j 0) (fun i => l.length - i) ?_ ?_
  · exact ⟨0, ⟨by omega, by intro j hj; omega⟩, ele_mk rfl rfl ⟨AVle.refl _, AVle.refl _, AVle.refl _, AVle.refl _, trivial⟩⟩
  · rintro i ⟨h1, h2⟩
    (repeat ((conv=>whnf);first|refine ω0 ?_|refine ω1 ?_|refine ω2 ?_|refine ω3 ?_|refine ω4 rfl ?_|refine ω5 rfl ?_|refine ω6 ?_|refine ω7 ?_|refine ω8 ?_|refine ⟨rfl,?_⟩|refine ⟨trivial,?_⟩|refine ⟨⟨rfl,Nat.le_of_ble_eq_true rfl⟩,?_⟩|refine ⟨⟨by kernel_rfl,by kernel_rfl⟩,?_⟩|refine ⟨by decide,?_⟩|refine lit_true ?_|refine lit_false ?_))
    intro c g; cases c
    · have g := not_of g
      (repeat ((conv=>whnf);first|refine ω0 ?_|refine ω1 ?_|refine ω2 ?_|refine ω3 ?_|refine ω4 rfl ?_|refine ω5 rfl ?_|refine ω6 ?_|refine ω7 ?_|refine ω8 ?_|refine ⟨rfl,?_⟩|refine ⟨trivial,?_⟩|refine ⟨⟨rfl,Nat.le_of_ble_eq_true rfl⟩,?_⟩|refine ⟨⟨by kernel_rfl,by kernel_rfl⟩,?_⟩|refine ⟨by decide,?_⟩|refine lit_true ?_|refine lit_false ?_))
      refine ret_tells rfl (le_int ?_)
      rw [idxOf_none fun j hj => decide_eq_false (h2 j (by omega))]
    · have g := yes_of g
      (repeat ((conv=>whnf);first|refine ω0 ?_|refine ω1 ?_|refine ω2 ?_|refine ω3 ?_|refine ω4 rfl ?_|refine ω5 rfl ?_|refine ω6 ?_|refine ω7 ?_|refine ω8 ?_|refine ⟨rfl,?_⟩|refine ⟨trivial,?_⟩|refine ⟨⟨rfl,Nat.le_of_ble_eq_true rfl⟩,?_⟩|refine ⟨⟨by kernel_rfl,by kernel_rfl⟩,?_⟩|refine ⟨by decide,?_⟩|refine lit_true ?_|refine lit_false ?_))
      refine ⟨⟨by first | omega | (dsimp only; omega), by first | omega | (dsimp only; omega)⟩, ?_⟩
      (repeat ((conv=>whnf);first|refine ω0 ?_|refine ω1 ?_|refine ω2 ?_|refine ω3 ?_|refine ω4 rfl ?_|refine ω5 rfl ?_|refine ω6 ?_|refine ω7 ?_|refine ω8 ?_|refine ⟨rfl,?_⟩|refine ⟨trivial,?_⟩|refine ⟨⟨rfl,Nat.le_of_ble_eq_true rfl⟩,?_⟩|refine ⟨⟨by kernel_rfl,by kernel_rfl⟩,?_⟩|refine ⟨by decide,?_⟩|refine lit_true ?_|refine lit_false ?_))
      intro c g2; cases c
      · have g2 := fct_b0.1 g2
        (repeat ((conv=>whnf);first|refine ω0 ?_|refine ω1 ?_|refine ω2 ?_|refine ω3 ?_|refine ω4 rfl ?_|refine ω5 rfl ?_|refine ω6 ?_|refine ω7 ?_|refine ω8 ?_|refine ⟨rfl,?_⟩|refine ⟨trivial,?_⟩|refine ⟨⟨rfl,Nat.le_of_ble_eq_true rfl⟩,?_⟩|refine ⟨⟨by kernel_rfl,by kernel_rfl⟩,?_⟩|refine ⟨by decide,?_⟩|refine lit_true ?_|refine lit_false ?_))
        refine back (i + 1) ⟨by omega, fun j hj => ?_⟩ (by omega) (ele_mk rfl rfl ⟨AVle.refl _, AVle.refl _, AVle.refl _, le_int (wrap_succ (by omega)), trivial⟩)
        rcases Nat.lt_or_ge j i with h | h
        · exact h2 j h
        · obtain rfl : j = i := by omega
          exact g2
      · have g2 := fct_b1.1 g2
        (repeat ((conv=>whnf);first|refine ω0 ?_|refine ω1 ?_|refine ω2 ?_|refine ω3 ?_|refine ω4 rfl ?_|refine ω5 rfl ?_|refine ω6 ?_|refine ω7 ?_|refine ω8 ?_|refine ⟨rfl,?_⟩|refine ⟨trivial,?_⟩|refine ⟨⟨rfl,Nat.le_of_ble_eq_true rfl⟩,?_⟩|refine ⟨⟨by kernel_rfl,by kernel_rfl⟩,?_⟩|refine ⟨by decide,?_⟩|refine lit_true ?_|refine lit_false ?_))
        refine ret_tells rfl (le_int ?_)
        rw [idxOf_some (i := i) (by omega) (decide_eq_true g2) fun j hj => decide_eq_false (h2 j hj)]
theorem contains_spec (l : List Int) (x : Int) (hl : l.length ≤ 1000000000) : Tells Try.prog 133 [intsZ l, int x] (boolA (l.contains x)) := by
  refine tells_of_aw Try.func133 rfl rfl fun nx => ?_
  (repeat ((conv=>whnf);first|refine ω0 ?_|refine ω1 ?_|refine ω2 ?_|refine ω3 ?_|refine ω4 rfl ?_|refine ω5 rfl ?_|refine ω6 ?_|refine ω7 ?_|refine ω8 ?_|refine ⟨rfl,?_⟩|refine ⟨trivial,?_⟩|refine ⟨⟨rfl,Nat.le_of_ble_eq_true rfl⟩,?_⟩|refine ⟨⟨by kernel_rfl,by kernel_rfl⟩,?_⟩|refine ⟨by decide,?_⟩|refine lit_true ?_|refine lit_false ?_))
  refine aop_tells rfl rfl (index_spec l x hl) ⟨AVle.refl _, AVle.refl _, trivial⟩ fun nx => ?_
  (repeat ((conv=>whnf);first|refine ω0 ?_|refine ω1 ?_|refine ω2 ?_|refine ω3 ?_|refine ω4 rfl ?_|refine ω5 rfl ?_|refine ω6 ?_|refine ω7 ?_|refine ω8 ?_|refine ⟨rfl,?_⟩|refine ⟨trivial,?_⟩|refine ⟨⟨rfl,Nat.le_of_ble_eq_true rfl⟩,?_⟩|refine ⟨⟨by kernel_rfl,by kernel_rfl⟩,?_⟩|refine ⟨by decide,?_⟩|refine lit_true ?_|refine lit_false ?_))
  intro c hc
  (repeat ((conv=>whnf);first|refine ω0 ?_|refine ω1 ?_|refine ω2 ?_|refine ω3 ?_|refine ω4 rfl ?_|refine ω5 rfl ?_|refine ω6 ?_|refine ω7 ?_|refine ω8 ?_|refine ⟨rfl,?_⟩|refine ⟨trivial,?_⟩|refine ⟨⟨rfl,Nat.le_of_ble_eq_true rfl⟩,?_⟩|refine ⟨⟨by kernel_rfl,by kernel_rfl⟩,?_⟩|refine ⟨by decide,?_⟩|refine lit_true ?_|refine lit_false ?_))
  refine ret_tells rfl (le_bool (hc.trans ?_))
  rcases idxOf_cases l.length (fun i => decide (x = l.getD i 0)) with ⟨i, h1, h2, h3, h4⟩ | ⟨h1, h2⟩
  · rw [h4]
    have h2 := of_decide_eq_true h2
    have : x ∈ l := by rw [h2]; simp [List.getD, h1]
    simp [this]
  · rw [h2]
    have : ¬ x ∈ l := fun hm => by
      obtain ⟨i, hi, he⟩ := List.getElem_of_mem hm
      have := of_decide_eq_false (h1 i hi)
      exact this (by simp [List.getD, hi, he])
    simp [this]

def okW (w : Nat) : Prop := w = 1 ∨ w = 2 ∨ w = 4 ∨ w = 8
def okI (n : Int) : Prop := -9223372036854775808 ≤ n ∧ n ≤ 9223372036854775807
def thereI (n : Nat) (at' : Int) (w : Nat) : Nat := if 0 ≤ at' ∧ at' + w ≤ n then 0 else 2
theorem there_spec (b : List Nat) (at' : Int) (w : Nat) (hw : okW w) (hl : b.length ≤ 1000000000) (ha : okI at') : Tells Try.prog 109 [bytesA b, int at', int w] (int (thereI b.length at' w)) := by
  refine tells_of_aw Try.func109 rfl rfl fun nx => ?_
  (repeat ((conv=>whnf);first|refine ω0 ?_|refine ω1 ?_|refine ω2 ?_|refine ω3 ?_|refine ω4 rfl ?_|refine ω5 rfl ?_|refine ω6 ?_|refine ω7 ?_|refine ω8 ?_|refine ⟨rfl,?_⟩|refine ⟨trivial,?_⟩|refine ⟨⟨rfl,Nat.le_of_ble_eq_true rfl⟩,?_⟩|refine ⟨⟨by kernel_rfl,by kernel_rfl⟩,?_⟩|refine ⟨by decide,?_⟩|refine lit_true ?_|refine lit_false ?_))
  refine aop_tells rfl rfl (contains_spec [1, 2, 4, 8] w (by decide)) ⟨?_, AVle.refl _, trivial⟩ fun nx => ?_
  · refine AVle.os_sl.trans (AVle.sl_fun fun k hk => ?_)
    match k, hk with
    | 0, _ => rfl
    | 1, _ => rfl
    | 2, _ => rfl
    | 3, _ => rfl
  intro c hc
  obtain rfl : c = true := by rw [hc]; rcases hw with rfl | rfl | rfl | rfl <;> rfl
  (repeat ((conv=>whnf);first|refine ω0 ?_|refine ω1 ?_|refine ω2 ?_|refine ω3 ?_|refine ω4 rfl ?_|refine ω5 rfl ?_|refine ω6 ?_|refine ω7 ?_|refine ω8 ?_|refine ⟨rfl,?_⟩|refine ⟨trivial,?_⟩|refine ⟨⟨rfl,Nat.le_of_ble_eq_true rfl⟩,?_⟩|refine ⟨⟨by kernel_rfl,by kernel_rfl⟩,?_⟩|refine ⟨by decide,?_⟩|refine lit_true ?_|refine lit_false ?_))
  intro c g; cases c
  · have g := not_of g
    (repeat ((conv=>whnf);first|refine ω0 ?_|refine ω1 ?_|refine ω2 ?_|refine ω3 ?_|refine ω4 rfl ?_|refine ω5 rfl ?_|refine ω6 ?_|refine ω7 ?_|refine ω8 ?_|refine ⟨rfl,?_⟩|refine ⟨trivial,?_⟩|refine ⟨⟨rfl,Nat.le_of_ble_eq_true rfl⟩,?_⟩|refine ⟨⟨by kernel_rfl,by kernel_rfl⟩,?_⟩|refine ⟨by decide,?_⟩|refine lit_true ?_|refine lit_false ?_))
    intro c g2; cases c
    · have g2 := not_of g2
      rw [wrap_id (by rcases hw with rfl | rfl | rfl | rfl <;> omega) (by omega)] at g2
      (repeat ((conv=>whnf);first|refine ω0 ?_|refine ω1 ?_|refine ω2 ?_|refine ω3 ?_|refine ω4 rfl ?_|refine ω5 rfl ?_|refine ω6 ?_|refine ω7 ?_|refine ω8 ?_|refine ⟨rfl,?_⟩|refine ⟨trivial,?_⟩|refine ⟨⟨rfl,Nat.le_of_ble_eq_true rfl⟩,?_⟩|refine ⟨⟨by kernel_rfl,by kernel_rfl⟩,?_⟩|refine ⟨by decide,?_⟩|refine lit_true ?_|refine lit_false ?_))
      refine ret_tells rfl (le_int ?_)
      unfold thereI; rw [if_pos (by omega)]; rfl
    · have g2 := yes_of g2
      rw [wrap_id (by rcases hw with rfl | rfl | rfl | rfl <;> omega) (by omega)] at g2
      (repeat ((conv=>whnf);first|refine ω0 ?_|refine ω1 ?_|refine ω2 ?_|refine ω3 ?_|refine ω4 rfl ?_|refine ω5 rfl ?_|refine ω6 ?_|refine ω7 ?_|refine ω8 ?_|refine ⟨rfl,?_⟩|refine ⟨trivial,?_⟩|refine ⟨⟨rfl,Nat.le_of_ble_eq_true rfl⟩,?_⟩|refine ⟨⟨by kernel_rfl,by kernel_rfl⟩,?_⟩|refine ⟨by decide,?_⟩|refine lit_true ?_|refine lit_false ?_))
      refine ret_tells rfl (le_int ?_)
      unfold thereI; rw [if_neg (by omega)]; rfl
  · have g := yes_of g
    (repeat ((conv=>whnf);first|refine ω0 ?_|refine ω1 ?_|refine ω2 ?_|refine ω3 ?_|refine ω4 rfl ?_|refine ω5 rfl ?_|refine ω6 ?_|refine ω7 ?_|refine ω8 ?_|refine ⟨rfl,?_⟩|refine ⟨trivial,?_⟩|refine ⟨⟨rfl,Nat.le_of_ble_eq_true rfl⟩,?_⟩|refine ⟨⟨by kernel_rfl,by kernel_rfl⟩,?_⟩|refine ⟨by decide,?_⟩|refine lit_true ?_|refine lit_false ?_))
    refine ret_tells rfl (le_int ?_)
    unfold thereI; rw [if_neg (by omega)]; rfl

def placesI (at' w : Nat) (big : Bool) : List Nat := (List.range w).map fun i => if big then at' + i else at' + w - 1 - i
theorem placesI_length (at' w : Nat) (big : Bool) : (placesI at' w big).length = w := by simp [placesI]
theorem placesI_get {at' w i : Nat} {big : Bool} (h : i < w) : (placesI at' w big).getD i 0 = if big then at' + i else at' + w - 1 - i := by
  simp [placesI, List.getD, List.getElem?_map, List.getElem?_range h]
theorem places_spec (at' : Int) (w : Int) (big : Bool) : Tells Try.prog 110 [int at', int w, boolA big] (.fn (.func 134) [] [.rp [int w], .rp [int at'], .rp [boolA big]]) := by
  refine tells_of_aw Try.func110 rfl rfl fun nx => ?_
  (repeat ((conv=>whnf);first|refine ω0 ?_|refine ω1 ?_|refine ω2 ?_|refine ω3 ?_|refine ω4 rfl ?_|refine ω5 rfl ?_|refine ω6 ?_|refine ω7 ?_|refine ⟨rfl,?_⟩|refine ⟨trivial,?_⟩|refine ⟨⟨rfl,Nat.le_of_ble_eq_true rfl⟩,?_⟩|refine ⟨⟨by kernel_rfl,by kernel_rfl⟩,?_⟩|refine ⟨by decide,?_⟩|refine lit_true ?_|refine lit_false ?_))
  refine AW.le (ele_freeze (L := [(6, .fn (.func 134) [] [.rp [int w], .rp [int at'], .rp [boolA big]])]) (bx := []) (pm := []) (nn := 3) [((2, nx + 2), .c [boolA big]), ((1, nx + 1), .c [int w]), ((0, nx), .c [int at'])] rfl rfl (List.Sublist.refl _) .slnil ⟨Frz.fn trivial ⟨Frz.bp (.tail _ (.head _)) rfl, Frz.bp (.tail _ (.tail _ (.head _))) rfl, Frz.bp (.head _) rfl, trivial⟩, trivial⟩) ?_
  (repeat ((conv=>whnf);first|refine ω0 ?_|refine ω1 ?_|refine ω2 ?_|refine ω3 ?_|refine ω4 rfl ?_|refine ω5 rfl ?_|refine ω6 ?_|refine ω7 ?_|refine ω8 ?_|refine ⟨rfl,?_⟩|refine ⟨trivial,?_⟩|refine ⟨⟨rfl,Nat.le_of_ble_eq_true rfl⟩,?_⟩|refine ⟨⟨by kernel_rfl,by kernel_rfl⟩,?_⟩|refine ⟨by decide,?_⟩|refine lit_true ?_|refine lit_false ?_))
  exact ret_tells rfl (AVle.refl _)
theorem places_iter (at' w : Nat) (big : Bool) (hw : w ≤ 8) (ha : at' ≤ 1000000000) : IterSpec Try.prog 134 [] [.rp [int w], .rp [int at'], .rp [boolA big]] (fun k : Nat => [int k]) (placesI at' w big) := by
  intro i σ Cb Cp I J hc s0 nx nn h0
  refine ecall_of_aw Try.func134 rfl rfl ?_
  (repeat ((conv=>whnf);first|refine ω0 ?_|refine ω1 ?_|refine ω2 ?_|refine ω3 ?_|refine ω4 rfl ?_|refine ω5 rfl ?_|refine ω6 ?_|refine ω7 ?_|refine ω8 ?_|refine ⟨rfl,?_⟩|refine ⟨trivial,?_⟩|refine ⟨⟨rfl,Nat.le_of_ble_eq_true rfl⟩,?_⟩|refine ⟨⟨by kernel_rfl,by kernel_rfl⟩,?_⟩|refine ⟨by decide,?_⟩|refine lit_true ?_|refine lit_false ?_))
  refine aw_loop (fun x : Nat × σ × Nat => mk 26 [(0, .yl i), (1, .rp [int w]), (2, .rp [int at']), (3, .rp [boolA big]), (7, int w), (8, int x.1)] ⟨Cb x.2.1, Cp x.2.1, x.2.2, nn⟩) (fun x => x.1 ≤ w ∧ I ((placesI at' w big).take x.1) x.2.1) (fun x => w - x.1) ?_ ?_
  · exact ⟨(0, s0, nx), ⟨by dsimp only; omega, by simpa using h0⟩, ele_mk rfl rfl ⟨AVle.refl _, AVle.refl _, AVle.refl _, AVle.refl _, AVle.refl _, AVle.refl _, trivial⟩⟩
  · rintro ⟨j, s, nx'⟩ ⟨h1, h2⟩
    dsimp only at h1 h2
    (repeat ((conv=>whnf);first|refine ω0 ?_|refine ω1 ?_|refine ω2 ?_|refine ω3 ?_|refine ω4 rfl ?_|refine ω5 rfl ?_|refine ω6 ?_|refine ω7 ?_|refine ω8 ?_|refine ⟨rfl,?_⟩|refine ⟨trivial,?_⟩|refine ⟨⟨rfl,Nat.le_of_ble_eq_true rfl⟩,?_⟩|refine ⟨⟨by kernel_rfl,by kernel_rfl⟩,?_⟩|refine ⟨by decide,?_⟩|refine lit_true ?_|refine lit_false ?_))
    intro c g; cases c
    · have g := not_of g
      dsimp only at g
      (repeat ((conv=>whnf);first|refine ω0 ?_|refine ω1 ?_|refine ω2 ?_|refine ω3 ?_|refine ω4 rfl ?_|refine ω5 rfl ?_|refine ω6 ?_|refine ω7 ?_|refine ω8 ?_|refine ⟨rfl,?_⟩|refine ⟨trivial,?_⟩|refine ⟨⟨rfl,Nat.le_of_ble_eq_true rfl⟩,?_⟩|refine ⟨⟨by kernel_rfl,by kernel_rfl⟩,?_⟩|refine ⟨by decide,?_⟩|refine lit_true ?_|refine lit_false ?_))
      refine ret_is rfl ⟨s, .inl ?_, rfl, rfl⟩
      rw [List.take_of_length_le (by rw [placesI_length]; omega)] at h2
      exact h2
    · have g := yes_of g
      dsimp only at g
      have hj : j < w := by omega
      have hsp : placesI at' w big = (placesI at' w big).take j ++ (placesI at' w big).getD j 0 :: (placesI at' w big).drop (j + 1) := by
        have hlt : j < (placesI at' w big).length := by rw [placesI_length]; exact hj
        simp [List.getD, hlt]
      have hst : (placesI at' w big).take (j + 1) = (placesI at' w big).take j ++ [(placesI at' w big).getD j 0] := take_getD 0 (by rw [placesI_length]; exact hj)
      have hgt := placesI_get (at' := at') (w := w) (i := j) (big := big) hj
      generalize placesI at' w big = xs at *
      (repeat ((conv=>whnf);first|refine ω0 ?_|refine ω1 ?_|refine ω2 ?_|refine ω3 ?_|refine ω4 rfl ?_|refine ω5 rfl ?_|refine ω6 ?_|refine ω7 ?_|refine ω8 ?_|refine ⟨rfl,?_⟩|refine ⟨trivial,?_⟩|refine ⟨⟨rfl,Nat.le_of_ble_eq_true rfl⟩,?_⟩|refine ⟨⟨by kernel_rfl,by kernel_rfl⟩,?_⟩|refine ⟨by decide,?_⟩|refine lit_true ?_|refine lit_false ?_))
      cases big
      all_goals (repeat ((conv=>whnf);first|refine ω0 ?_|refine ω1 ?_|refine ω2 ?_|refine ω3 ?_|refine ω4 rfl ?_|refine ω5 rfl ?_|refine ω6 ?_|refine ω7 ?_|refine ω8 ?_|refine ⟨rfl,?_⟩|refine ⟨trivial,?_⟩|refine ⟨⟨rfl,Nat.le_of_ble_eq_true rfl⟩,?_⟩|refine ⟨⟨by kernel_rfl,by kernel_rfl⟩,?_⟩|refine ⟨by decide,?_⟩|refine lit_true ?_|refine lit_false ?_))
      · simp only [Bool.false_eq_true, if_false] at hgt
        refine aop_hand (pre := xs.take j) (post := xs.drop (j + 1)) (x := xs.getD j 0) (s := s) [] [] rfl rfl rfl hc hsp h2 ⟨le_int ?_, trivial⟩ (fun s' nx5 hI => ?_) (fun s' nx5 hJ => ?_)
        · rw [hgt]
          dsimp only
          rw [wrap_id (n := (at' : Int) + w) (by omega) (by omega), wrap_id (n := (at' : Int) + w - 1) (by omega) (by omega), wrap_id (by omega) (by omega)]
          omega
        · (repeat ((conv=>whnf);first|refine ω0 ?_|refine ω1 ?_|refine ω2 ?_|refine ω3 ?_|refine ω4 rfl ?_|refine ω5 rfl ?_|refine ω6 ?_|refine ω7 ?_|refine ω8 ?_|refine ⟨rfl,?_⟩|refine ⟨trivial,?_⟩|refine ⟨⟨rfl,Nat.le_of_ble_eq_true rfl⟩,?_⟩|refine ⟨⟨by kernel_rfl,by kernel_rfl⟩,?_⟩|refine ⟨by decide,?_⟩|refine lit_true ?_|refine lit_false ?_))
          exact back (j + 1, s', nx5) ⟨by dsimp only; omega, by dsimp only; rw [hst]; exact hI⟩ (by dsimp only; omega) (ele_mk rfl rfl ⟨AVle.refl _, AVle.refl _, AVle.refl _, AVle.refl _, AVle.refl _, le_int (wrap_succ (by dsimp only; omega)), trivial⟩)
        · (repeat ((conv=>whnf);first|refine ω0 ?_|refine ω1 ?_|refine ω2 ?_|refine ω3 ?_|refine ω4 rfl ?_|refine ω5 rfl ?_|refine ω6 ?_|refine ω7 ?_|refine ω8 ?_|refine ⟨rfl,?_⟩|refine ⟨trivial,?_⟩|refine ⟨⟨rfl,Nat.le_of_ble_eq_true rfl⟩,?_⟩|refine ⟨⟨by kernel_rfl,by kernel_rfl⟩,?_⟩|refine ⟨by decide,?_⟩|refine lit_true ?_|refine lit_false ?_))
          exact ret_is rfl ⟨s', .inr ⟨_, _, _, hsp, hJ⟩, rfl, rfl⟩
      · simp only [if_true] at hgt
        refine aop_hand (pre := xs.take j) (post := xs.drop (j + 1)) (x := xs.getD j 0) (s := s) [] [] rfl rfl rfl hc hsp h2 ⟨le_int ?_, trivial⟩ (fun s' nx5 hI => ?_) (fun s' nx5 hJ => ?_)
        · rw [hgt]
          dsimp only
          rw [wrap_id (by omega) (by omega)]
          omega
        · (repeat ((conv=>whnf);first|refine ω0 ?_|refine ω1 ?_|refine ω2 ?_|refine ω3 ?_|refine ω4 rfl ?_|refine ω5 rfl ?_|refine ω6 ?_|refine ω7 ?_|refine ω8 ?_|refine ⟨rfl,?_⟩|refine ⟨trivial,?_⟩|refine ⟨⟨rfl,Nat.le_of_ble_eq_true rfl⟩,?_⟩|refine ⟨⟨by kernel_rfl,by kernel_rfl⟩,?_⟩|refine ⟨by decide,?_⟩|refine lit_true ?_|refine lit_false ?_))
          exact back (j + 1, s', nx5) ⟨by dsimp only; omega, by dsimp only; rw [hst]; exact hI⟩ (by dsimp only; omega) (ele_mk rfl rfl ⟨AVle.refl _, AVle.refl _, AVle.refl _, AVle.refl _, AVle.refl _, le_int (wrap_succ (by dsimp only; omega)), trivial⟩)
        · (repeat ((conv=>whnf);first|refine ω0 ?_|refine ω1 ?_|refine ω2 ?_|refine ω3 ?_|refine ω4 rfl ?_|refine ω5 rfl ?_|refine ω6 ?_|refine ω7 ?_|refine ω8 ?_|refine ⟨rfl,?_⟩|refine ⟨trivial,?_⟩|refine ⟨⟨rfl,Nat.le_of_ble_eq_true rfl⟩,?_⟩|refine ⟨⟨by kernel_rfl,by kernel_rfl⟩,?_⟩|refine ⟨by decide,?_⟩|refine lit_true ?_|refine lit_false ?_))
          exact ret_is rfl ⟨s', .inr ⟨_, _, _, hsp, hJ⟩, rfl, rfl⟩

/-- Bytes put together, in this order. -/
def accB (b : List Nat) (ks : List Nat) : Nat := ks.foldl (fun n k => n * 256 + b.getD k 0) 0
theorem accB_snoc (b ks : List Nat) (k : Nat) : accB b (ks ++ [k]) = accB b ks * 256 + b.getD k 0 := by simp [accB]
theorem okB.get {b : List Nat} (h : okB b) (k : Nat) : b.getD k 0 < 256 := by
  rcases Nat.lt_or_ge k b.length with hk | hk
  · have e : b.getD k 0 = b[k] := by simp [List.getD, hk]
    rw [e]; exact h _ (List.getElem_mem hk)
  · simp [List.getD, List.getElem?_eq_none hk]
theorem accB_go {b : List Nat} (h : okB b) : ∀ (ks : List Nat) (n : Nat), ks.foldl (fun n k => n * 256 + b.getD k 0) n + 1 ≤ (n + 1) * 256 ^ ks.length
  | [], n => by simp
  | k :: ks, n => by
    have h1 := accB_go h ks (n * 256 + b.getD k 0)
    have h2 := h.get k
    rw [List.foldl_cons, List.length_cons, Nat.pow_succ]
    refine Nat.le_trans h1 ?_
    rw [Nat.mul_comm (256 ^ ks.length) 256, ← Nat.mul_assoc]
    exact Nat.mul_le_mul_right _ (by omega)
theorem accB_lt {b : List Nat} (h : okB b) (ks : List Nat) : accB b ks < 256 ^ ks.length := by
  have := accB_go h ks 0
  simp only [Nat.zero_add, Nat.one_mul] at this
  exact this
theorem shl_or {n x : Nat} (hn : n < 72057594037927936) (hx : x < 256) : bitsI .or .u64 (IntKind.u64.wrap ((n : Int) * 2 ^ 8)) (IntKind.u64.wrap (x : Int)) = ((n * 256 + x : Nat) : Int) := by
  have h1 : IntKind.u64.wrap ((n : Int) * 2 ^ 8) = ((n * 256 : Nat) : Int) := by
    have : ((n : Int) * 2 ^ 8) = ((n * 256 : Nat) : Int) := by push_cast; rfl
    rw [this]
    show ((n * 256 : Nat) : Int) % 18446744073709551616 = _
    omega
  have h2 : IntKind.u64.wrap (x : Int) = (x : Int) := by show (x : Int) % 18446744073709551616 = _; omega
  rw [h1, h2]
  have h3 : n * 256 ||| x = n * 256 + x := by
    have := Nat.two_pow_add_eq_or_of_lt (i := 8) (b := x) (by omega) n
    rw [Nat.mul_comm] at this
    exact this.symm
  have := bits_or (k := .u64) (a := n * 256) (b := x) (by show _ < 2 ^ 64; omega) (by show _ < 2 ^ 64; omega) (by rw [h3]; show ((n * 256 + x : Nat) : Int) % 18446744073709551616 = _; omega)
  rw [h3] at this
  exact this
theorem get_spec (b : List Nat) (hb : okB b) (hl : b.length ≤ 1000000000) (at' : Int) (ha : okI at') (w : Nat) (hw : okW w) (big : Bool) :
    Tells Try.prog 67 [bytesA b, int at', int w, boolA big] (.tup [u64 (if thereI b.length at' w = 0 then accB b (placesI at'.toNat w big) else 0 : Nat), int (thereI b.length at' w)]) := by
  have hw8 : w ≤ 8 := by rcases hw with rfl | rfl | rfl | rfl <;> omega
  refine tells_of_aw Try.func67 rfl rfl fun nx => ?_
  (repeat ((conv=>whnf);first|refine ω0 ?_|refine ω1 ?_|refine ω2 ?_|refine ω3 ?_|refine ω4 rfl ?_|refine ω5 rfl ?_|refine ω6 ?_|refine ω7 ?_|refine ω8 ?_|refine ⟨rfl,?_⟩|refine ⟨trivial,?_⟩|refine ⟨⟨rfl,Nat.le_of_ble_eq_true rfl⟩,?_⟩|refine ⟨⟨by kernel_rfl,by kernel_rfl⟩,?_⟩|refine ⟨by decide,?_⟩|refine lit_true ?_|refine lit_false ?_))
  refine aop_tells rfl rfl (there_spec b at' w hw hl ha) ⟨AVle.refl _, AVle.refl _, AVle.refl _, trivial⟩ fun nx1 => ?_
  (repeat ((conv=>whnf);first|refine ω0 ?_|refine ω1 ?_|refine ω2 ?_|refine ω3 ?_|refine ω4 rfl ?_|refine ω5 rfl ?_|refine ω6 ?_|refine ω7 ?_|refine ω8 ?_|refine ⟨rfl,?_⟩|refine ⟨trivial,?_⟩|refine ⟨⟨rfl,Nat.le_of_ble_eq_true rfl⟩,?_⟩|refine ⟨⟨by kernel_rfl,by kernel_rfl⟩,?_⟩|refine ⟨by decide,?_⟩|refine lit_true ?_|refine lit_false ?_))
  intro c g1; cases c
  · have g1 := bne_no g1
    have hz : thereI b.length at' w = 0 := by omega
    obtain ⟨n, rfl⟩ : ∃ n : Nat, at' = n := ⟨at'.toNat, by unfold thereI at hz; split at hz <;> omega⟩
    have hn : n + w ≤ b.length := by unfold thereI at hz; split at hz <;> omega
    (repeat ((conv=>whnf);first|refine ω0 ?_|refine ω1 ?_|refine ω2 ?_|refine ω3 ?_|refine ω4 rfl ?_|refine ω5 rfl ?_|refine ω6 ?_|refine ω7 ?_|refine ω8 ?_|refine ⟨rfl,?_⟩|refine ⟨trivial,?_⟩|refine ⟨⟨rfl,Nat.le_of_ble_eq_true rfl⟩,?_⟩|refine ⟨⟨by kernel_rfl,by kernel_rfl⟩,?_⟩|refine ⟨by decide,?_⟩|refine lit_true ?_|refine lit_false ?_))
    refine aop_tells rfl rfl (places_spec n w big) ⟨AVle.refl _, AVle.refl _, AVle.refl _, trivial⟩ fun nx2 => ?_
    (repeat ((conv=>whnf);first|refine ω0 ?_|refine ω1 ?_|refine ω2 ?_|refine ω3 ?_|refine ω4 rfl ?_|refine ω5 rfl ?_|refine ω6 ?_|refine ω7 ?_|refine ω8 ?_|refine ⟨rfl,?_⟩|refine ⟨trivial,?_⟩|refine ⟨⟨rfl,Nat.le_of_ble_eq_true rfl⟩,?_⟩|refine ⟨⟨by kernel_rfl,by kernel_rfl⟩,?_⟩|refine ⟨by decide,?_⟩|refine lit_true ?_|refine lit_false ?_))
    refine AW.le (ele_mk (L := [(4, .bp (0, nx) 0), (11, .bp (1, nx1) 0), (23, .fn (.func 134) [] [.rp [int w], .rp [int n], .rp [boolA big]])]) rfl rfl ⟨AVle.refl _, AVle.refl _, AVle.refl _, trivial⟩) ?_
    refine aw_for (σ := Nat) (α := Nat) (e := fun k : Nat => [int k]) (xs := placesI n w big) (first' := []) (caps' := [.rp [int w], .rp [int n], .rp [boolA big]]) (fun x : Nat => [((1, nx1), .c [u64 x]), ((0, nx), .c [bytesA b])]) (fun _ => [])
      (fun pre x => x = accB b pre) (fun _ _ _ => False) 0 rfl rfl (places_iter n w big hw8 (by omega)) trivial (LeL.refl _) rfl rfl rfl (fun _ => rfl) ?_ ?_
    · intro pre x post s nx3 nn3 hx hs
      subst hs
      have hlen : pre.length < w := by rw [← placesI_length n w big, hx]; simp
      have hxb : x < b.length := by
        have : x ∈ placesI n w big := by rw [hx]; simp
        obtain ⟨i, hi, rfl⟩ := List.mem_map.1 this
        have := List.mem_range.1 hi
        split <;> omega
      have hacc : accB b pre < 72057594037927936 := Nat.lt_of_lt_of_le (accB_lt hb pre) (Nat.le_trans (Nat.pow_le_pow_right (by decide) (by omega : pre.length ≤ 7)) (by decide))
      (repeat ((conv=>whnf);first|refine ω0 ?_|refine ω1 ?_|refine ω2 ?_|refine ω3 ?_|refine ω4 rfl ?_|refine ω5 rfl ?_|refine ω6 ?_|refine ω7 ?_|refine ω8 ?_|refine ⟨rfl,?_⟩|refine ⟨trivial,?_⟩|refine ⟨⟨rfl,Nat.le_of_ble_eq_true rfl⟩,?_⟩|refine ⟨⟨by kernel_rfl,by kernel_rfl⟩,?_⟩|refine ⟨by decide,?_⟩|refine lit_true ?_|refine lit_false ?_))
      (refine aw_draw 8 ?_ ?_ ?_ ?_; (· kernel_rfl); (· kernel_rfl); (· kernel_rfl))
      (repeat ((conv=>whnf);first|refine ω0 ?_|refine ω1 ?_|refine ω2 ?_|refine ω3 ?_|refine ω4 rfl ?_|refine ω5 rfl ?_|refine ω6 ?_|refine ω7 ?_|refine ω8 ?_|refine ⟨rfl,?_⟩|refine ⟨trivial,?_⟩|refine ⟨⟨rfl,Nat.le_of_ble_eq_true rfl⟩,?_⟩|refine ⟨⟨by kernel_rfl,by kernel_rfl⟩,?_⟩|refine ⟨by decide,?_⟩|refine lit_true ?_|refine lit_false ?_))
      refine ⟨⟨by first | omega | (dsimp only; omega), by first | omega | (dsimp only; omega)⟩, ?_⟩
      (repeat ((conv=>whnf);first|refine ω0 ?_|refine ω1 ?_|refine ω2 ?_|refine ω3 ?_|refine ω4 rfl ?_|refine ω5 rfl ?_|refine ω6 ?_|refine ω7 ?_|refine ω8 ?_|refine ⟨rfl,?_⟩|refine ⟨trivial,?_⟩|refine ⟨⟨rfl,Nat.le_of_ble_eq_true rfl⟩,?_⟩|refine ⟨⟨by kernel_rfl,by kernel_rfl⟩,?_⟩|refine ⟨by decide,?_⟩|refine lit_true ?_|refine lit_false ?_))
      have hv : bitsI .or .u64 (IntKind.u64.wrap ((accB b pre : Nat) * 2 ^ 8)) (IntKind.u64.wrap (b.getD x 0 : Nat)) = ((accB b (pre ++ [x]) : Nat) : Int) := by rw [accB_snoc]; exact shl_or hacc (hb.get x)
      exact ⟨accB b (pre ++ [x]), .inl ⟨rfl, rfl⟩, congrArg (fun v : Int => _ :: _ :: ((1, nx1), Own.c [u64 v]) :: _) hv, rfl⟩
    · intro s' nx3 nn3 hs
      subst hs
      (repeat ((conv=>whnf);first|refine ω0 ?_|refine ω1 ?_|refine ω2 ?_|refine ω3 ?_|refine ω4 rfl ?_|refine ω5 rfl ?_|refine ω6 ?_|refine ω7 ?_|refine ω8 ?_|refine ⟨rfl,?_⟩|refine ⟨trivial,?_⟩|refine ⟨⟨rfl,Nat.le_of_ble_eq_true rfl⟩,?_⟩|refine ⟨⟨by kernel_rfl,by kernel_rfl⟩,?_⟩|refine ⟨by decide,?_⟩|refine lit_true ?_|refine lit_false ?_))
      have hv : (if thereI b.length (n : Int) w = 0 then accB b (placesI (Int.toNat (n : Int)) w big) else 0) = accB b (placesI n w big) := if_pos hz
      refine ret_tells (r := AV.tup [u64 (accB b (placesI n w big) : Nat), int (0 : Nat)]) rfl (AVle.of_eq ?_)
      rw [hv, hz]
  · have g1 := bne_yes g1
    (repeat ((conv=>whnf);first|refine ω0 ?_|refine ω1 ?_|refine ω2 ?_|refine ω3 ?_|refine ω4 rfl ?_|refine ω5 rfl ?_|refine ω6 ?_|refine ω7 ?_|refine ω8 ?_|refine ⟨rfl,?_⟩|refine ⟨trivial,?_⟩|refine ⟨⟨rfl,Nat.le_of_ble_eq_true rfl⟩,?_⟩|refine ⟨⟨by kernel_rfl,by kernel_rfl⟩,?_⟩|refine ⟨by decide,?_⟩|refine lit_true ?_|refine lit_false ?_))
    refine ret_tells rfl (AVle.of_eq ?_)
    rw [if_neg (by omega)]
    rfl
end Go.Proofs.W

namespace Go.Proofs.W
open Go.Vl
set_option maxRecDepth 100000

def byI (i : Ins) (j : Nat) : Nat := [i.code % 256, i.code / 256, i.jt, i.jf, i.k % 256, i.k / 256 % 256, i.k / 65536 % 256, i.k / 16777216].getD j 0
def byteAt (l : List Ins) (k : Nat) : Nat := byI (l.getD (k / 8) ins0) (k % 8)
/-- Instructions' bytes. -/
def writeB (l : List Ins) : List Nat := (List.range (8 * l.length)).map (byteAt l)
theorem writeB_length (l : List Ins) : (writeB l).length = 8 * l.length := by simp [writeB]
theorem writeB_get (l : List Ins) (k : Nat) (h : k < 8 * l.length) : (writeB l).getD k 0 = byteAt l k := by
  simp [writeB, List.getD, h]
theorem opure_build {P : Program} {ops : Array Oper} {B : List (Vl.Id × Own)} {o : Oper} {E : Env} {t e : TypeId} {n : Nat} {parts : Array (Nat × Operand)} {out : List AV} (hg : o.guard = none) (ho : o.op = .buildSlice t n parts)
    (hc : abuildCells P t n (parts.toList.map fun p => (p.1, E.ev p.2)) = some (e, out)) : PureAll P ops B o E (.os (P.cellsOf e) n (aelem P e out) none) :=
  pure_apure (C := none) hg (by rw [ho]; simp only [apure]; exact abuildCells_spec hc) trivial
theorem obuild8 (a0 a1 a2 a3 a4 a5 a6 a7 : Int) : abuildCells Try.prog 28 8 [(0, u8 a0), (1, u8 a1), (2, u8 a2), (3, u8 a3), (4, u8 a4), (5, u8 a5), (6, u8 a6), (7, u8 a7)] = some (5, [u8 a0, u8 a1, u8 a2, u8 a3, u8 a4, u8 a5, u8 a6, u8 a7]) := by kernel_rfl
theorem cells_u8' : Try.prog.cellsOf 5 = 1 := by kernel_rfl
theorem bytes_u8' : Try.prog.bytesOf 5 = 1 := by kernel_rfl
theorem ow64 {x : Nat} (h : x < 4294967296) : IntKind.i64.wrap (x : Int) = (x : Int) := wrap_id (by omega) (by omega)
theorem ow8 {x : Nat} (h : x < 256) : IntKind.u8.wrap (x : Int) = (x : Int) := by simp [IntKind.wrap, IntKind.signed, IntKind.bits]; omega
theorem otm {x y : Nat} : ((x : Int).tmod (y : Int)) = ((x % y : Nat) : Int) := rfl
theorem otd {x y : Nat} : ((x : Int).tdiv (y : Int)) = ((x / y : Nat) : Int) := rfl
def byV (x : Ins) : List AV := [u8 (IntKind.u8.wrap ((IntKind.i64.wrap (x.code : Int)).tmod 256)), u8 (IntKind.u8.wrap (IntKind.i64.wrap ((IntKind.i64.wrap (x.code : Int)).tdiv 256))), u8 x.jt, u8 x.jf,
  u8 (IntKind.u8.wrap ((IntKind.i64.wrap (x.k : Int)).tmod 256)), u8 (IntKind.u8.wrap ((IntKind.i64.wrap ((IntKind.i64.wrap (x.k : Int)).tdiv 256)).tmod 256)),
  u8 (IntKind.u8.wrap ((IntKind.i64.wrap ((IntKind.i64.wrap (x.k : Int)).tdiv 65536)).tmod 256)), u8 (IntKind.u8.wrap (IntKind.i64.wrap ((IntKind.i64.wrap (x.k : Int)).tdiv 16777216)))]
theorem byV_eq {x : Ins} (h : x.ok) : byV x = [u8 (byI x 0 : Nat), u8 (byI x 1 : Nat), u8 (byI x 2 : Nat), u8 (byI x 3 : Nat), u8 (byI x 4 : Nat), u8 (byI x 5 : Nat), u8 (byI x 6 : Nat), u8 (byI x 7 : Nat)] := by
  obtain ⟨c1, c2, c3, c4⟩ := h
  unfold byV
  rw [ow64 (show x.code < 4294967296 by omega), ow64 c4]
  rw [show (256 : Int) = ((256 : Nat) : Int) from rfl, show (65536 : Int) = ((65536 : Nat) : Int) from rfl, show (16777216 : Int) = ((16777216 : Nat) : Int) from rfl]
  rw [otm, otd, otm, otd, otd, otd, ow64 (show x.code / 256 < 4294967296 by omega), ow64 (show x.k / 256 < 4294967296 by omega), ow64 (show x.k / 65536 < 4294967296 by omega), ow64 (show x.k / 16777216 < 4294967296 by omega), otm, otm]
  rw [ow8 (by omega), ow8 (by omega), ow8 (by omega), ow8 (by omega), ow8 (by omega), ow8 (by omega)]
  rfl
theorem oaelem8 (x : Ins) (k : Nat) (hk : k < 8) : aelem Try.prog 5 (byV x) k = (byV x).getD k .any := by
  match k, hk with
  | 0, _ | 1, _ | 2, _ | 3, _ | 4, _ | 5, _ | 6, _ | 7, _ => rfl
theorem oaelem_one (x : Ins) : oneRow 8 (aelem Try.prog 5 (byV x)) := fun k hk => by
  match k, hk with
  | 0, _ | 1, _ | 2, _ | 3, _ | 4, _ | 5, _ | 6, _ | 7, _ => rfl
theorem oapp8 (l : List Ins) (i : Nat) (hk : (l.getD i ins0).ok) (f : Nat → AV) (hf : ∀ k, k < i * 8 → f k = u8 (byteAt l k : Nat)) : ∀ k, k < (i + 1) * 8 → appF (i * 8) f (aelem Try.prog 5 (byV (l.getD i ins0))) k = u8 (byteAt l k : Nat) := fun k h => by
  unfold appF
  cases hb : Nat.blt k (i * 8) with
  | true => exact hf k (Nat.le_of_ble_eq_true hb)
  | false =>
    have hge : i * 8 ≤ k := by
      rcases Nat.lt_or_ge k (i * 8) with h1 | h1
      · rw [show Nat.blt k (i * 8) = true from Nat.ble_eq_true_of_le h1] at hb; cases hb
      · exact h1
    obtain ⟨j, rfl⟩ : ∃ j, k = i * 8 + j := ⟨k - i * 8, by omega⟩
    have hj : j < 8 := by omega
    show aelem Try.prog 5 (byV (l.getD i ins0)) (i * 8 + j - i * 8) = _
    rw [Nat.add_sub_cancel_left, oaelem8 _ _ hj, byV_eq hk, byteAt, show (i * 8 + j) / 8 = i by omega, show (i * 8 + j) % 8 = j by omega]
    match j, hj with
    | 0, _ | 1, _ | 2, _ | 3, _ | 4, _ | 5, _ | 6, _ | 7, _ => rfl
set_option maxHeartbeats 1000000 in
theorem write_spec (l : List Ins) (hok : okL l) (hl : l.length ≤ 1000000) : Tells Try.prog 7 [inss l] (bytesA (writeB l)) := by
  refine tells_of_aw Try.func7 rfl rfl fun nx => ?_
  (repeat ((conv=>whnf);first|refine ω0 ?_|refine ω1 ?_|refine ω2 ?_|refine ω3 ?_|refine ω4 rfl ?_|refine ω5 rfl ?_|refine ω6 ?_|refine ω7 ?_|refine ω8 ?_|refine ⟨rfl,?_⟩|refine ⟨trivial,?_⟩|refine ⟨⟨rfl,Nat.le_of_ble_eq_true rfl⟩,?_⟩|refine ⟨⟨by kernel_rfl,by kernel_rfl⟩,?_⟩|refine ⟨by decide,?_⟩|refine lit_true ?_|refine lit_false ?_))
  refine aw_loop (fun s : Nat × Option Nat × Nat => mk 59 [(0, inss l), (3, .os 1 (s.1 * 8) (fun k => u8 (byteAt l k : Nat)) (nmd s.2.1)), (4, int s.1)] ⟨[], pmOf (nmd s.2.1) (s.1 * 8), s.2.2, 0⟩) (fun s => s.1 ≤ l.length ∧ (s.2.1 = none → s.1 = 0)) (fun s => l.length - s.1) ?_ ?_
  · exact ⟨(0, none, nx), ⟨by simp, fun _ => rfl⟩, ele_mk rfl rfl ⟨AVle.refl _, AVle.os_nil, AVle.refl _, trivial⟩⟩
  · rintro ⟨i, oi, nx2⟩ ⟨h3, h4⟩
    dsimp only at h3 h4
    (repeat ((conv=>whnf);first|refine ω0 ?_|refine ω1 ?_|refine ω2 ?_|refine ω3 ?_|refine ω4 rfl ?_|refine ω5 rfl ?_|refine ω6 ?_|refine ω7 ?_|refine ω8 ?_|refine ⟨rfl,?_⟩|refine ⟨trivial,?_⟩|refine ⟨⟨rfl,Nat.le_of_ble_eq_true rfl⟩,?_⟩|refine ⟨⟨by kernel_rfl,by kernel_rfl⟩,?_⟩|refine ⟨by decide,?_⟩|refine lit_true ?_|refine lit_false ?_))
    intro c h5; cases c
    · have h6 := not_of h5
      dsimp only at h6
      obtain rfl : i = l.length := by omega
      (repeat ((conv=>whnf);first|refine ω0 ?_|refine ω1 ?_|refine ω2 ?_|refine ω3 ?_|refine ω4 rfl ?_|refine ω5 rfl ?_|refine ω6 ?_|refine ω7 ?_|refine ω8 ?_|refine ⟨rfl,?_⟩|refine ⟨trivial,?_⟩|refine ⟨⟨rfl,Nat.le_of_ble_eq_true rfl⟩,?_⟩|refine ⟨⟨by kernel_rfl,by kernel_rfl⟩,?_⟩|refine ⟨by decide,?_⟩|refine lit_true ?_|refine lit_false ?_))
      refine ret_tells rfl ?_
      unfold bytesA slOf
      rw [writeB_length, Nat.mul_comm]
      exact AVle.os_sl.trans (AVle.sl_fun fun k hk => by rw [writeB_get l k hk])
    · have h6 := yes_of h5
      dsimp only at h6
      have hi : i < l.length := by omega
      have hk := hok.get hi
      have c1 := hk.1
      have c2 := hk.2.1
      have c3 := hk.2.2.1
      have c4 := hk.2.2.2
      (repeat ((conv=>whnf);first|refine ω0 ?_|refine ω1 ?_|refine ω2 ?_|refine ω3 ?_|refine ω4 rfl ?_|refine ω5 rfl ?_|refine ω6 ?_|refine ω7 ?_|refine ω8 ?_|refine ⟨rfl,?_⟩|refine ⟨trivial,?_⟩|refine ⟨⟨rfl,Nat.le_of_ble_eq_true rfl⟩,?_⟩|refine ⟨⟨by kernel_rfl,by kernel_rfl⟩,?_⟩|refine ⟨by decide,?_⟩|refine lit_true ?_|refine lit_false ?_))
      (refine aw_draw 14 ?_ ?_ ?_ ?_; (· kernel_rfl); (· kernel_rfl); (· kernel_rfl))
      (repeat ((conv=>whnf);first|refine ω0 ?_|refine ω1 ?_|refine ω2 ?_|refine ω3 ?_|refine ω4 rfl ?_|refine ω5 rfl ?_|refine ω6 ?_|refine ω7 ?_|refine ω8 ?_|refine ⟨rfl,?_⟩|refine ⟨trivial,?_⟩|refine ⟨⟨rfl,Nat.le_of_ble_eq_true rfl⟩,?_⟩|refine ⟨⟨by kernel_rfl,by kernel_rfl⟩,?_⟩|refine ⟨by decide,?_⟩|refine lit_true ?_|refine lit_false ?_))
      refine ⟨⟨by dsimp only; omega, by dsimp only; omega⟩, ?_⟩
      (repeat ((conv=>whnf);first|refine ω0 ?_|refine ω1 ?_|refine ω2 ?_|refine ω3 ?_|refine ω4 rfl ?_|refine ω5 rfl ?_|refine ω6 ?_|refine ω7 ?_|refine ω8 ?_|refine ⟨rfl,?_⟩|refine ⟨trivial,?_⟩|refine ⟨⟨rfl,Nat.le_of_ble_eq_true rfl⟩,?_⟩|refine ⟨⟨by kernel_rfl,by kernel_rfl⟩,?_⟩|refine ⟨by decide,?_⟩|refine lit_true ?_|refine lit_false ?_))
      refine ⟨⟨by dsimp only; omega, by dsimp only; omega⟩, ?_⟩
      (repeat ((conv=>whnf);first|refine ω0 ?_|refine ω1 ?_|refine ω2 ?_|refine ω3 ?_|refine ω4 rfl ?_|refine ω5 rfl ?_|refine ω6 ?_|refine ω7 ?_|refine ω8 ?_|refine ⟨rfl,?_⟩|refine ⟨trivial,?_⟩|refine ⟨⟨rfl,Nat.le_of_ble_eq_true rfl⟩,?_⟩|refine ⟨⟨by kernel_rfl,by kernel_rfl⟩,?_⟩|refine ⟨by decide,?_⟩|refine lit_true ?_|refine lit_false ?_))
      refine aw_mixN 33 [] (fun i => match i with | 32 => true | _ => false) (fun i => match i with | 31 => true | _ => false) [0, 1, 2, 3, 4, 5, 6, 7, 8, 9, 10, 11, 12, 13, 14, 15, 16, 17, 18, 19, 20, 21, 22, 23, 24, 25, 26, 27, 28, 29, 30, 31, 32] (by kernel_rfl) (by kernel_rfl) (fun _ _ _ h => by cases h) ?_
      (repeat ((conv=>whnf);first|refine ω0 ?_|refine ω1 ?_|refine ω2 ?_|refine ω3 ?_|refine ω4 rfl ?_|refine ω5 rfl ?_|refine ω6 ?_|refine ω7 ?_|refine ω8 ?_|refine ⟨rfl,?_⟩|refine ⟨trivial,?_⟩|refine ⟨⟨rfl,Nat.le_of_ble_eq_true rfl⟩,?_⟩|refine ⟨⟨by kernel_rfl,by kernel_rfl⟩,?_⟩|refine ⟨by decide,?_⟩|refine lit_true ?_|refine lit_false ?_))
      refine ⟨⟨by dsimp only; omega, by dsimp only; omega⟩, ?_⟩
      (repeat ((conv=>whnf);first|refine ω0 ?_|refine ω1 ?_|refine ω2 ?_|refine ω3 ?_|refine ω4 rfl ?_|refine ω5 rfl ?_|refine ω6 ?_|refine ω7 ?_|refine ω8 ?_|refine ⟨rfl,?_⟩|refine ⟨trivial,?_⟩|refine ⟨⟨rfl,Nat.le_of_ble_eq_true rfl⟩,?_⟩|refine ⟨⟨by kernel_rfl,by kernel_rfl⟩,?_⟩|refine ⟨by decide,?_⟩|refine lit_true ?_|refine lit_false ?_))
      refine ⟨⟨by dsimp only; omega, by dsimp only; omega⟩, ?_⟩
      (repeat ((conv=>whnf);first|refine ω0 ?_|refine ω1 ?_|refine ω2 ?_|refine ω3 ?_|refine ω4 rfl ?_|refine ω5 rfl ?_|refine ω6 ?_|refine ω7 ?_|refine ω8 ?_|refine ⟨rfl,?_⟩|refine ⟨trivial,?_⟩|refine ⟨⟨rfl,Nat.le_of_ble_eq_true rfl⟩,?_⟩|refine ⟨⟨by kernel_rfl,by kernel_rfl⟩,?_⟩|refine ⟨by decide,?_⟩|refine lit_true ?_|refine lit_false ?_))
      refine ⟨_, opure_build rfl rfl (obuild8 _ _ _ _ _ _ _ _), ?_⟩
      (repeat ((conv=>whnf);first|refine ω0 ?_|refine ω1 ?_|refine ω2 ?_|refine ω3 ?_|refine ω4 rfl ?_|refine ω5 rfl ?_|refine ω6 ?_|refine ω7 ?_|refine ω8 ?_|refine ⟨rfl,?_⟩|refine ⟨trivial,?_⟩|refine ⟨⟨rfl,Nat.le_of_ble_eq_true rfl⟩,?_⟩|refine ⟨⟨by kernel_rfl,by kernel_rfl⟩,?_⟩|refine ⟨by decide,?_⟩|refine lit_true ?_|refine lit_false ?_))
      rcases oi with _ | id
      · obtain rfl := h4 rfl
        refine ⟨_, eff_append (fun _ _ _ h => by cases h) rfl rfl rfl (.inr ⟨_, rfl⟩) Try.underlying28 (by kernel_rfl) (.inl ⟨rfl, rfl⟩) (.inr cells_u8'.symm) (fun _ h => by cases h) (oaelem_one (l.getD 0 ins0)) (fun _ => by rw [bytes_u8']; omega) (fun _ => by omega), fun r h' hr => ?_⟩
        obtain ⟨-, rfl, rfl⟩ := hr.resolve_left (fun h => absurd h.1 (by decide))
        (repeat ((conv=>whnf);first|refine ω0 ?_|refine ω1 ?_|refine ω2 ?_|refine ω3 ?_|refine ω4 rfl ?_|refine ω5 rfl ?_|refine ω6 ?_|refine ω7 ?_|refine ω8 ?_|refine ⟨rfl,?_⟩|refine ⟨trivial,?_⟩|refine ⟨⟨rfl,Nat.le_of_ble_eq_true rfl⟩,?_⟩|refine ⟨⟨by kernel_rfl,by kernel_rfl⟩,?_⟩|refine ⟨by decide,?_⟩|refine lit_true ?_|refine lit_false ?_))
        exact back (0 + 1, some nx2, nx2 + 1) ⟨by dsimp only; omega, (fun h => by cases h)⟩ (by dsimp only; omega) (ele_tell (pm := [((0, nx2), (0 + 1) * 8)]) [] _ rfl rfl (List.Sublist.refl _) (List.Sublist.refl _) trivial ⟨rfl, rfl, trivial⟩ ⟨AVle.refl _, AVle.os_fun (oapp8 l 0 hk _ (fun k h => absurd h (by omega))), le_int (wrap_succ (by dsimp only; omega)), trivial⟩)
      · refine ⟨_, eff_append (fun _ _ _ h => by cases h) rfl rfl rfl (.inr ⟨_, rfl⟩) Try.underlying28 (by kernel_rfl) (.inr cells_u8'.symm) (.inr cells_u8'.symm) (fun j hj => by cases hj; show some (id, i * 8) = some (id, i * 8 * Try.prog.cellsOf 5); rw [cells_u8', Nat.mul_one]) (oaelem_one (l.getD i ins0)) (fun _ => by rw [bytes_u8']; dsimp only; omega) (fun _ => by dsimp only; omega), fun r h' hr => ?_⟩
        obtain ⟨-, rfl, rfl⟩ := hr.resolve_left (fun h => absurd h.1 (by decide))
        (repeat ((conv=>whnf);first|refine ω0 ?_|refine ω1 ?_|refine ω2 ?_|refine ω3 ?_|refine ω4 rfl ?_|refine ω5 rfl ?_|refine ω6 ?_|refine ω7 ?_|refine ω8 ?_|refine ⟨rfl,?_⟩|refine ⟨trivial,?_⟩|refine ⟨⟨rfl,Nat.le_of_ble_eq_true rfl⟩,?_⟩|refine ⟨⟨by kernel_rfl,by kernel_rfl⟩,?_⟩|refine ⟨by decide,?_⟩|refine lit_true ?_|refine lit_false ?_))
        refine back (i + 1, some nx2, nx2 + 1) ⟨by dsimp only; omega, (fun h => by cases h)⟩ (by dsimp only; omega) (ele_tell (pm := [((0, nx2), (i + 1) * 8)]) [] _ rfl rfl (List.Sublist.refl _) (List.Sublist.refl _) trivial ⟨rfl, ?_, trivial⟩ ⟨AVle.refl _, (AVle.of_eq (by show AV.os _ (i * 8 + 8) _ _ = AV.os 1 ((i + 1) * 8) _ _; rw [cells_u8', show i * 8 + 8 = (i + 1) * 8 by omega]; rfl)).trans (AVle.os_fun (oapp8 l i hk _ (fun k _ => rfl))), le_int (wrap_succ (by dsimp only; omega)), trivial⟩)
        show (i * 8 + 8) * Try.prog.cellsOf 5 = (i + 1) * 8
        rw [cells_u8']; omega
end Go.Proofs.W

namespace Go.Proofs.W
open Go.Vl
set_option maxRecDepth 100000

theorem rdB (l : List Ins) (i j : Nat) (hi : i < l.length) (hj : j < 8) {z : Int} (hz : z = ((8 * i + j : Nat) : Int)) : AV.rp ((fun k => u8 ((writeB l).getD k 0 : Nat)) (Int.toNat z)).cells = .rp [u8 (byI (l.getD i ins0) j : Nat)] := by
  subst hz
  show AV.rp [u8 ((writeB l).getD (8 * i + j) 0 : Nat)] = _
  rw [writeB_get l _ (by omega), byteAt, show (8 * i + j) / 8 = i by omega, show (8 * i + j) % 8 = j by omega]
theorem byI_lt {x : Ins} (h : x.ok) (j : Nat) : byI x j < 256 := by
  obtain ⟨c1, c2, c3, c4⟩ := h
  unfold byI
  match j with
  | 0 => show x.code % 256 < 256; omega
  | 1 => show x.code / 256 < 256; omega
  | 2 => exact c2
  | 3 => exact c3
  | 4 => show x.k % 256 < 256; omega
  | 5 => show x.k / 256 % 256 < 256; omega
  | 6 => show x.k / 65536 % 256 < 256; omega
  | 7 => show x.k / 16777216 < 256; omega
  | j + 8 => show 0 < 256; decide
theorem ow16 {x : Nat} (h : x < 65536) : IntKind.u16.wrap (x : Int) = (x : Int) := by simp [IntKind.wrap, IntKind.signed, IntKind.bits]; omega
theorem ow32 {x : Nat} (h : x < 4294967296) : IntKind.u32.wrap (x : Int) = (x : Int) := by simp [IntKind.wrap, IntKind.signed, IntKind.bits]; omega
theorem rd_code {x : Ins} (h : x.ok) : IntKind.u16.wrap (IntKind.u16.wrap (byI x 0 : Nat) + IntKind.u16.wrap (256 * IntKind.u16.wrap (byI x 1 : Nat))) = (x.code : Int) := by
  have h0 := byI_lt h 0
  have h1 := byI_lt h 1
  obtain ⟨c1, c2, c3, c4⟩ := h
  rw [ow16 (show byI x 0 < 65536 by omega), ow16 (show byI x 1 < 65536 by omega), show (256 : Int) * ((byI x 1 : Nat) : Int) = ((256 * byI x 1 : Nat) : Int) by omega, ow16 (show 256 * byI x 1 < 65536 by omega),
    show ((byI x 0 : Nat) : Int) + ((256 * byI x 1 : Nat) : Int) = ((byI x 0 + 256 * byI x 1 : Nat) : Int) by omega, ow16 (by omega)]
  show ((x.code % 256 + 256 * (x.code / 256) : Nat) : Int) = _
  omega
theorem rd_k {x : Ins} (h : x.ok) : IntKind.u32.wrap (IntKind.u32.wrap (byI x 4 : Nat) + IntKind.u32.wrap (256 * IntKind.u32.wrap (IntKind.u32.wrap (byI x 5 : Nat) + IntKind.u32.wrap (256 * IntKind.u32.wrap (IntKind.u32.wrap (byI x 6 : Nat) + IntKind.u32.wrap (256 * IntKind.u32.wrap (byI x 7 : Nat))))))) = (x.k : Int) := by
  have h4 := byI_lt h 4
  have h5 := byI_lt h 5
  have h6 := byI_lt h 6
  have h7 := byI_lt h 7
  obtain ⟨c1, c2, c3, c4⟩ := h
  have e : byI x 4 + 256 * (byI x 5 + 256 * (byI x 6 + 256 * byI x 7)) = x.k := by
    show x.k % 256 + 256 * (x.k / 256 % 256 + 256 * (x.k / 65536 % 256 + 256 * (x.k / 16777216))) = x.k
    omega
  generalize byI x 4 = a at *
  generalize byI x 5 = b at *
  generalize byI x 6 = c at *
  generalize byI x 7 = d at *
  rw [ow32 (show a < 4294967296 by omega), ow32 (show b < 4294967296 by omega), ow32 (show c < 4294967296 by omega), ow32 (show d < 4294967296 by omega)]
  rw [show (256 : Int) * (d : Int) = ((256 * d : Nat) : Int) by omega, ow32 (show 256 * d < 4294967296 by omega), show (c : Int) + ((256 * d : Nat) : Int) = ((c + 256 * d : Nat) : Int) by omega, ow32 (show c + 256 * d < 4294967296 by omega)]
  rw [show (256 : Int) * ((c + 256 * d : Nat) : Int) = ((256 * (c + 256 * d) : Nat) : Int) by omega, ow32 (show 256 * (c + 256 * d) < 4294967296 by omega), show (b : Int) + ((256 * (c + 256 * d) : Nat) : Int) = ((b + 256 * (c + 256 * d) : Nat) : Int) by omega, ow32 (show b + 256 * (c + 256 * d) < 4294967296 by omega)]
  rw [show (256 : Int) * ((b + 256 * (c + 256 * d) : Nat) : Int) = ((256 * (b + 256 * (c + 256 * d)) : Nat) : Int) by omega, ow32 (show 256 * (b + 256 * (c + 256 * d)) < 4294967296 by omega), show (a : Int) + ((256 * (b + 256 * (c + 256 * d)) : Nat) : Int) = ((a + 256 * (b + 256 * (c + 256 * d)) : Nat) : Int) by omega, ow32 (by omega), e]
theorem rd_ins {x : Ins} (h : x.ok) : AV.ag [u16 (IntKind.u16.wrap (IntKind.u16.wrap (byI x 0 : Nat) + IntKind.u16.wrap (256 * IntKind.u16.wrap (byI x 1 : Nat)))), u8 (byI x 2 : Nat), u8 (byI x 3 : Nat),
    u32 (IntKind.u32.wrap (IntKind.u32.wrap (byI x 4 : Nat) + IntKind.u32.wrap (256 * IntKind.u32.wrap (IntKind.u32.wrap (byI x 5 : Nat) + IntKind.u32.wrap (256 * IntKind.u32.wrap (IntKind.u32.wrap (byI x 6 : Nat) + IntKind.u32.wrap (256 * IntKind.u32.wrap (byI x 7 : Nat)))))))) ] = insA x := by
  rw [rd_code h, rd_k h]; rfl
set_option maxHeartbeats 2000000 in
theorem read02_spec (l : List Ins) (hok : okL l) (hl : l.length ≤ 4096) : Tells Try.prog 37 [bytesA (writeB l)] (.tup [inss l, int 0]) := by
  refine tells_of_aw Try.func37 rfl rfl fun nx => ?_
  have hlen := writeB_length l
  (repeat ((conv=>whnf);first|refine ω0 ?_|refine ω1 ?_|refine ω2 ?_|refine ω3 ?_|refine ω4 rfl ?_|refine ω5 rfl ?_|refine ω6 ?_|refine ω7 ?_|refine ω8 ?_|refine ⟨rfl,?_⟩|refine ⟨trivial,?_⟩|refine ⟨⟨rfl,Nat.le_of_ble_eq_true rfl⟩,?_⟩|refine ⟨⟨by kernel_rfl,by kernel_rfl⟩,?_⟩|refine ⟨by decide,?_⟩|refine lit_true ?_|refine lit_false ?_))
  intro c g1; cases c
  rotate_left
  · exact absurd (yes_of g1) (by rw [hlen]; omega)
  (repeat ((conv=>whnf);first|refine ω0 ?_|refine ω1 ?_|refine ω2 ?_|refine ω3 ?_|refine ω4 rfl ?_|refine ω5 rfl ?_|refine ω6 ?_|refine ω7 ?_|refine ω8 ?_|refine ⟨rfl,?_⟩|refine ⟨trivial,?_⟩|refine ⟨⟨rfl,Nat.le_of_ble_eq_true rfl⟩,?_⟩|refine ⟨⟨by kernel_rfl,by kernel_rfl⟩,?_⟩|refine ⟨by decide,?_⟩|refine lit_true ?_|refine lit_false ?_))
  intro c hc
  obtain rfl : c = false := hc.trans (by rw [hlen]; show (((8 * l.length : Nat) : Int).tmod ((8 : Nat) : Int) != 0) = false; rw [otm]; simp)
  (repeat ((conv=>whnf);first|refine ω0 ?_|refine ω1 ?_|refine ω2 ?_|refine ω3 ?_|refine ω4 rfl ?_|refine ω5 rfl ?_|refine ω6 ?_|refine ω7 ?_|refine ω8 ?_|refine ⟨rfl,?_⟩|refine ⟨trivial,?_⟩|refine ⟨⟨rfl,Nat.le_of_ble_eq_true rfl⟩,?_⟩|refine ⟨⟨by kernel_rfl,by kernel_rfl⟩,?_⟩|refine ⟨by decide,?_⟩|refine lit_true ?_|refine lit_false ?_))
  refine aw_loop (fun s : Nat × Option Nat × Nat => mk 77 [(0, bytesA (writeB l)), (4, .os 4 s.1 (fun k => insA (l.getD k ins0)) (nmd s.2.1)), (5, int (8 * s.1 : Nat))] ⟨[], pmOf (nmd s.2.1) (s.1 * 4), s.2.2, 0⟩) (fun s => s.1 ≤ l.length ∧ (s.2.1 = none → s.1 = 0)) (fun s => l.length - s.1) ?_ ?_
  · exact ⟨(0, none, nx), ⟨by simp, fun _ => rfl⟩, ele_mk rfl rfl ⟨AVle.refl _, AVle.os_nil, AVle.refl _, trivial⟩⟩
  · rintro ⟨i, oi, nx2⟩ ⟨h3, h4⟩
    dsimp only at h3 h4
    (repeat ((conv=>whnf);first|refine ω0 ?_|refine ω1 ?_|refine ω2 ?_|refine ω3 ?_|refine ω4 rfl ?_|refine ω5 rfl ?_|refine ω6 ?_|refine ω7 ?_|refine ω8 ?_|refine ⟨rfl,?_⟩|refine ⟨trivial,?_⟩|refine ⟨⟨rfl,Nat.le_of_ble_eq_true rfl⟩,?_⟩|refine ⟨⟨by kernel_rfl,by kernel_rfl⟩,?_⟩|refine ⟨by decide,?_⟩|refine lit_true ?_|refine lit_false ?_))
    intro c h5; cases c
    · have h6 := not_of h5
      rw [hlen] at h6
      dsimp only at h6
      obtain rfl : i = l.length := by omega
      (repeat ((conv=>whnf);first|refine ω0 ?_|refine ω1 ?_|refine ω2 ?_|refine ω3 ?_|refine ω4 rfl ?_|refine ω5 rfl ?_|refine ω6 ?_|refine ω7 ?_|refine ω8 ?_|refine ⟨rfl,?_⟩|refine ⟨trivial,?_⟩|refine ⟨⟨rfl,Nat.le_of_ble_eq_true rfl⟩,?_⟩|refine ⟨⟨by kernel_rfl,by kernel_rfl⟩,?_⟩|refine ⟨by decide,?_⟩|refine lit_true ?_|refine lit_false ?_))
      exact ret_tells rfl (AVle.tups ⟨AVle.os_sl, AVle.refl _, trivial⟩)
    · have h6 := yes_of h5
      rw [hlen] at h6
      dsimp only at h6
      have hi : i < l.length := by omega
      have hk := hok.get hi
      have hz0 : ((8 * i : Nat) : Int) = ((8 * i + 0 : Nat) : Int) := rfl
      have hz1 : IntKind.i64.wrap (((8 * i : Nat) : Int) + 1) = ((8 * i + 1 : Nat) : Int) := by rw [wrap_id (by omega) (by omega)]; omega
      have hz2 : IntKind.i64.wrap (((8 * i : Nat) : Int) + 2) = ((8 * i + 2 : Nat) : Int) := by rw [wrap_id (by omega) (by omega)]; omega
      have hz3 : IntKind.i64.wrap (((8 * i : Nat) : Int) + 3) = ((8 * i + 3 : Nat) : Int) := by rw [wrap_id (by omega) (by omega)]; omega
      have hz4 : IntKind.i64.wrap (((8 * i : Nat) : Int) + 4) = ((8 * i + 4 : Nat) : Int) := by rw [wrap_id (by omega) (by omega)]; omega
      have hz5 : IntKind.i64.wrap (((8 * i : Nat) : Int) + 5) = ((8 * i + 5 : Nat) : Int) := by rw [wrap_id (by omega) (by omega)]; omega
      have hz6 : IntKind.i64.wrap (((8 * i : Nat) : Int) + 6) = ((8 * i + 6 : Nat) : Int) := by rw [wrap_id (by omega) (by omega)]; omega
      have hz7 : IntKind.i64.wrap (((8 * i : Nat) : Int) + 7) = ((8 * i + 7 : Nat) : Int) := by rw [wrap_id (by omega) (by omega)]; omega
      rcases oi with _ | id
      · have hi0 : i = 0 := h4 rfl
        cases hi0
        (repeat ((conv=>whnf);first|refine ω0 ?_|refine ω1 ?_|refine ω2 ?_|refine ω3 ?_|refine ω4 rfl ?_|refine ω5 rfl ?_|refine ω6 ?_|refine ω7 ?_|refine ω8 ?_|refine ⟨rfl,?_⟩|refine ⟨trivial,?_⟩|refine ⟨⟨rfl,Nat.le_of_ble_eq_true rfl⟩,?_⟩|refine ⟨⟨by kernel_rfl,by kernel_rfl⟩,?_⟩|refine ⟨by decide,?_⟩|refine lit_true ?_|refine lit_false ?_))
        (refine aw_draw 56 ?_ ?_ ?_ ?_; (· kernel_rfl); (· kernel_rfl); (· kernel_rfl))
        (repeat ((conv=>whnf);first|refine ω0 ?_|refine ω1 ?_|refine ω2 ?_|refine ω3 ?_|refine ω4 rfl ?_|refine ω5 rfl ?_|refine ω6 ?_|refine ω7 ?_|refine ω8 ?_|refine ⟨rfl,?_⟩|refine ⟨trivial,?_⟩|refine ⟨⟨rfl,Nat.le_of_ble_eq_true rfl⟩,?_⟩|refine ⟨⟨by kernel_rfl,by kernel_rfl⟩,?_⟩|refine ⟨by decide,?_⟩|refine lit_true ?_|refine lit_false ?_))
        refine ⟨⟨by show (0 : Int) ≤ ((8 * 0 : Nat) : Int); rw [hz0]; omega, by show ((8 * 0 : Nat) : Int) < ((writeB l).length : Int); rw [hz0, writeB_length]; omega⟩, splitO_eq (b := .rp [u8 (byI (l.getD 0 ins0) 0 : Nat)]) (rdB l 0 0 hi (by decide) hz0) ?_⟩
        (repeat ((conv=>whnf);first|refine ω0 ?_|refine ω1 ?_|refine ω2 ?_|refine ω3 ?_|refine ω4 rfl ?_|refine ω5 rfl ?_|refine ω6 ?_|refine ω7 ?_|refine ω8 ?_|refine ⟨rfl,?_⟩|refine ⟨trivial,?_⟩|refine ⟨⟨rfl,Nat.le_of_ble_eq_true rfl⟩,?_⟩|refine ⟨⟨by kernel_rfl,by kernel_rfl⟩,?_⟩|refine ⟨by decide,?_⟩|refine lit_true ?_|refine lit_false ?_))
        refine ⟨⟨by show (0 : Int) ≤ IntKind.i64.wrap (((8 * 0 : Nat) : Int) + 1); rw [hz1]; omega, by show IntKind.i64.wrap (((8 * 0 : Nat) : Int) + 1) < ((writeB l).length : Int); rw [hz1, writeB_length]; omega⟩, splitO_eq (b := .rp [u8 (byI (l.getD 0 ins0) 1 : Nat)]) (rdB l 0 1 hi (by decide) hz1) ?_⟩
        (repeat ((conv=>whnf);first|refine ω0 ?_|refine ω1 ?_|refine ω2 ?_|refine ω3 ?_|refine ω4 rfl ?_|refine ω5 rfl ?_|refine ω6 ?_|refine ω7 ?_|refine ω8 ?_|refine ⟨rfl,?_⟩|refine ⟨trivial,?_⟩|refine ⟨⟨rfl,Nat.le_of_ble_eq_true rfl⟩,?_⟩|refine ⟨⟨by kernel_rfl,by kernel_rfl⟩,?_⟩|refine ⟨by decide,?_⟩|refine lit_true ?_|refine lit_false ?_))
        refine ⟨⟨by show (0 : Int) ≤ IntKind.i64.wrap (((8 * 0 : Nat) : Int) + 2); rw [hz2]; omega, by show IntKind.i64.wrap (((8 * 0 : Nat) : Int) + 2) < ((writeB l).length : Int); rw [hz2, writeB_length]; omega⟩, splitO_eq (b := .rp [u8 (byI (l.getD 0 ins0) 2 : Nat)]) (rdB l 0 2 hi (by decide) hz2) ?_⟩
        (repeat ((conv=>whnf);first|refine ω0 ?_|refine ω1 ?_|refine ω2 ?_|refine ω3 ?_|refine ω4 rfl ?_|refine ω5 rfl ?_|refine ω6 ?_|refine ω7 ?_|refine ω8 ?_|refine ⟨rfl,?_⟩|refine ⟨trivial,?_⟩|refine ⟨⟨rfl,Nat.le_of_ble_eq_true rfl⟩,?_⟩|refine ⟨⟨by kernel_rfl,by kernel_rfl⟩,?_⟩|refine ⟨by decide,?_⟩|refine lit_true ?_|refine lit_false ?_))
        refine ⟨⟨by show (0 : Int) ≤ IntKind.i64.wrap (((8 * 0 : Nat) : Int) + 3); rw [hz3]; omega, by show IntKind.i64.wrap (((8 * 0 : Nat) : Int) + 3) < ((writeB l).length : Int); rw [hz3, writeB_length]; omega⟩, splitO_eq (b := .rp [u8 (byI (l.getD 0 ins0) 3 : Nat)]) (rdB l 0 3 hi (by decide) hz3) ?_⟩
        (repeat ((conv=>whnf);first|refine ω0 ?_|refine ω1 ?_|refine ω2 ?_|refine ω3 ?_|refine ω4 rfl ?_|refine ω5 rfl ?_|refine ω6 ?_|refine ω7 ?_|refine ω8 ?_|refine ⟨rfl,?_⟩|refine ⟨trivial,?_⟩|refine ⟨⟨rfl,Nat.le_of_ble_eq_true rfl⟩,?_⟩|refine ⟨⟨by kernel_rfl,by kernel_rfl⟩,?_⟩|refine ⟨by decide,?_⟩|refine lit_true ?_|refine lit_false ?_))
        refine ⟨⟨by show (0 : Int) ≤ IntKind.i64.wrap (((8 * 0 : Nat) : Int) + 4); rw [hz4]; omega, by show IntKind.i64.wrap (((8 * 0 : Nat) : Int) + 4) < ((writeB l).length : Int); rw [hz4, writeB_length]; omega⟩, splitO_eq (b := .rp [u8 (byI (l.getD 0 ins0) 4 : Nat)]) (rdB l 0 4 hi (by decide) hz4) ?_⟩
        (repeat ((conv=>whnf);first|refine ω0 ?_|refine ω1 ?_|refine ω2 ?_|refine ω3 ?_|refine ω4 rfl ?_|refine ω5 rfl ?_|refine ω6 ?_|refine ω7 ?_|refine ω8 ?_|refine ⟨rfl,?_⟩|refine ⟨trivial,?_⟩|refine ⟨⟨rfl,Nat.le_of_ble_eq_true rfl⟩,?_⟩|refine ⟨⟨by kernel_rfl,by kernel_rfl⟩,?_⟩|refine ⟨by decide,?_⟩|refine lit_true ?_|refine lit_false ?_))
        refine ⟨⟨by show (0 : Int) ≤ IntKind.i64.wrap (((8 * 0 : Nat) : Int) + 5); rw [hz5]; omega, by show IntKind.i64.wrap (((8 * 0 : Nat) : Int) + 5) < ((writeB l).length : Int); rw [hz5, writeB_length]; omega⟩, splitO_eq (b := .rp [u8 (byI (l.getD 0 ins0) 5 : Nat)]) (rdB l 0 5 hi (by decide) hz5) ?_⟩
        (repeat ((conv=>whnf);first|refine ω0 ?_|refine ω1 ?_|refine ω2 ?_|refine ω3 ?_|refine ω4 rfl ?_|refine ω5 rfl ?_|refine ω6 ?_|refine ω7 ?_|refine ω8 ?_|refine ⟨rfl,?_⟩|refine ⟨trivial,?_⟩|refine ⟨⟨rfl,Nat.le_of_ble_eq_true rfl⟩,?_⟩|refine ⟨⟨by kernel_rfl,by kernel_rfl⟩,?_⟩|refine ⟨by decide,?_⟩|refine lit_true ?_|refine lit_false ?_))
        refine ⟨⟨by show (0 : Int) ≤ IntKind.i64.wrap (((8 * 0 : Nat) : Int) + 6); rw [hz6]; omega, by show IntKind.i64.wrap (((8 * 0 : Nat) : Int) + 6) < ((writeB l).length : Int); rw [hz6, writeB_length]; omega⟩, splitO_eq (b := .rp [u8 (byI (l.getD 0 ins0) 6 : Nat)]) (rdB l 0 6 hi (by decide) hz6) ?_⟩
        (repeat ((conv=>whnf);first|refine ω0 ?_|refine ω1 ?_|refine ω2 ?_|refine ω3 ?_|refine ω4 rfl ?_|refine ω5 rfl ?_|refine ω6 ?_|refine ω7 ?_|refine ω8 ?_|refine ⟨rfl,?_⟩|refine ⟨trivial,?_⟩|refine ⟨⟨rfl,Nat.le_of_ble_eq_true rfl⟩,?_⟩|refine ⟨⟨by kernel_rfl,by kernel_rfl⟩,?_⟩|refine ⟨by decide,?_⟩|refine lit_true ?_|refine lit_false ?_))
        refine ⟨⟨by show (0 : Int) ≤ IntKind.i64.wrap (((8 * 0 : Nat) : Int) + 7); rw [hz7]; omega, by show IntKind.i64.wrap (((8 * 0 : Nat) : Int) + 7) < ((writeB l).length : Int); rw [hz7, writeB_length]; omega⟩, splitO_eq (b := .rp [u8 (byI (l.getD 0 ins0) 7 : Nat)]) (rdB l 0 7 hi (by decide) hz7) ?_⟩
        (repeat ((conv=>whnf);first|refine ω0 ?_|refine ω1 ?_|refine ω2 ?_|refine ω3 ?_|refine ω4 rfl ?_|refine ω5 rfl ?_|refine ω6 ?_|refine ω7 ?_|refine ω8 ?_|refine ⟨rfl,?_⟩|refine ⟨trivial,?_⟩|refine ⟨⟨rfl,Nat.le_of_ble_eq_true rfl⟩,?_⟩|refine ⟨⟨by kernel_rfl,by kernel_rfl⟩,?_⟩|refine ⟨by decide,?_⟩|refine lit_true ?_|refine lit_false ?_))
        refine ⟨oneRow_one rfl, by show (0 + 1) * 8 ≤ _; omega, by dsimp only; omega, ?_⟩
        (repeat ((conv=>whnf);first|refine ω0 ?_|refine ω1 ?_|refine ω2 ?_|refine ω3 ?_|refine ω4 rfl ?_|refine ω5 rfl ?_|refine ω6 ?_|refine ω7 ?_|refine ω8 ?_|refine ⟨rfl,?_⟩|refine ⟨trivial,?_⟩|refine ⟨⟨rfl,Nat.le_of_ble_eq_true rfl⟩,?_⟩|refine ⟨⟨by kernel_rfl,by kernel_rfl⟩,?_⟩|refine ⟨by decide,?_⟩|refine lit_true ?_|refine lit_false ?_))
        exact back (0 + 1, some nx2, nx2 + 1) ⟨by dsimp only; omega, (fun h => by cases h)⟩ (by dsimp only; omega) (ele_keep rfl rfl .slnil (.cons_cons _ .slnil) ⟨AVle.refl _, AVle.os_fun (appF_one (fun k hk => absurd hk (by omega)) (rd_ins hk)), le_int (by show IntKind.i64.wrap (((8 * 0 : Nat) : Int) + 8) = ((8 * (0 + 1) : Nat) : Int); rw [wrap_id (by omega) (by omega)]; omega), trivial⟩)
      · (repeat ((conv=>whnf);first|refine ω0 ?_|refine ω1 ?_|refine ω2 ?_|refine ω3 ?_|refine ω4 rfl ?_|refine ω5 rfl ?_|refine ω6 ?_|refine ω7 ?_|refine ω8 ?_|refine ⟨rfl,?_⟩|refine ⟨trivial,?_⟩|refine ⟨⟨rfl,Nat.le_of_ble_eq_true rfl⟩,?_⟩|refine ⟨⟨by kernel_rfl,by kernel_rfl⟩,?_⟩|refine ⟨by decide,?_⟩|refine lit_true ?_|refine lit_false ?_))
        (refine aw_draw 56 ?_ ?_ ?_ ?_; (· kernel_rfl); (· kernel_rfl); (· kernel_rfl))
        (repeat ((conv=>whnf);first|refine ω0 ?_|refine ω1 ?_|refine ω2 ?_|refine ω3 ?_|refine ω4 rfl ?_|refine ω5 rfl ?_|refine ω6 ?_|refine ω7 ?_|refine ω8 ?_|refine ⟨rfl,?_⟩|refine ⟨trivial,?_⟩|refine ⟨⟨rfl,Nat.le_of_ble_eq_true rfl⟩,?_⟩|refine ⟨⟨by kernel_rfl,by kernel_rfl⟩,?_⟩|refine ⟨by decide,?_⟩|refine lit_true ?_|refine lit_false ?_))
        refine ⟨⟨by show (0 : Int) ≤ ((8 * i : Nat) : Int); rw [hz0]; omega, by show ((8 * i : Nat) : Int) < ((writeB l).length : Int); rw [hz0, writeB_length]; omega⟩, splitO_eq (b := .rp [u8 (byI (l.getD i ins0) 0 : Nat)]) (rdB l i 0 hi (by decide) hz0) ?_⟩
        (repeat ((conv=>whnf);first|refine ω0 ?_|refine ω1 ?_|refine ω2 ?_|refine ω3 ?_|refine ω4 rfl ?_|refine ω5 rfl ?_|refine ω6 ?_|refine ω7 ?_|refine ω8 ?_|refine ⟨rfl,?_⟩|refine ⟨trivial,?_⟩|refine ⟨⟨rfl,Nat.le_of_ble_eq_true rfl⟩,?_⟩|refine ⟨⟨by kernel_rfl,by kernel_rfl⟩,?_⟩|refine ⟨by decide,?_⟩|refine lit_true ?_|refine lit_false ?_))
        refine ⟨⟨by show (0 : Int) ≤ IntKind.i64.wrap (((8 * i : Nat) : Int) + 1); rw [hz1]; omega, by show IntKind.i64.wrap (((8 * i : Nat) : Int) + 1) < ((writeB l).length : Int); rw [hz1, writeB_length]; omega⟩, splitO_eq (b := .rp [u8 (byI (l.getD i ins0) 1 : Nat)]) (rdB l i 1 hi (by decide) hz1) ?_⟩
        (repeat ((conv=>whnf);first|refine ω0 ?_|refine ω1 ?_|refine ω2 ?_|refine ω3 ?_|refine ω4 rfl ?_|refine ω5 rfl ?_|refine ω6 ?_|refine ω7 ?_|refine ω8 ?_|refine ⟨rfl,?_⟩|refine ⟨trivial,?_⟩|refine ⟨⟨rfl,Nat.le_of_ble_eq_true rfl⟩,?_⟩|refine ⟨⟨by kernel_rfl,by kernel_rfl⟩,?_⟩|refine ⟨by decide,?_⟩|refine lit_true ?_|refine lit_false ?_))
        refine ⟨⟨by show (0 : Int) ≤ IntKind.i64.wrap (((8 * i : Nat) : Int) + 2); rw [hz2]; omega, by show IntKind.i64.wrap (((8 * i : Nat) : Int) + 2) < ((writeB l).length : Int); rw [hz2, writeB_length]; omega⟩, splitO_eq (b := .rp [u8 (byI (l.getD i ins0) 2 : Nat)]) (rdB l i 2 hi (by decide) hz2) ?_⟩
        (repeat ((conv=>whnf);first|refine ω0 ?_|refine ω1 ?_|refine ω2 ?_|refine ω3 ?_|refine ω4 rfl ?_|refine ω5 rfl ?_|refine ω6 ?_|refine ω7 ?_|refine ω8 ?_|refine ⟨rfl,?_⟩|refine ⟨trivial,?_⟩|refine ⟨⟨rfl,Nat.le_of_ble_eq_true rfl⟩,?_⟩|refine ⟨⟨by kernel_rfl,by kernel_rfl⟩,?_⟩|refine ⟨by decide,?_⟩|refine lit_true ?_|refine lit_false ?_))
        refine ⟨⟨by show (0 : Int) ≤ IntKind.i64.wrap (((8 * i : Nat) : Int) + 3); rw [hz3]; omega, by show IntKind.i64.wrap (((8 * i : Nat) : Int) + 3) < ((writeB l).length : Int); rw [hz3, writeB_length]; omega⟩, splitO_eq (b := .rp [u8 (byI (l.getD i ins0) 3 : Nat)]) (rdB l i 3 hi (by decide) hz3) ?_⟩
        (repeat ((conv=>whnf);first|refine ω0 ?_|refine ω1 ?_|refine ω2 ?_|refine ω3 ?_|refine ω4 rfl ?_|refine ω5 rfl ?_|refine ω6 ?_|refine ω7 ?_|refine ω8 ?_|refine ⟨rfl,?_⟩|refine ⟨trivial,?_⟩|refine ⟨⟨rfl,Nat.le_of_ble_eq_true rfl⟩,?_⟩|refine ⟨⟨by kernel_rfl,by kernel_rfl⟩,?_⟩|refine ⟨by decide,?_⟩|refine lit_true ?_|refine lit_false ?_))
        refine ⟨⟨by show (0 : Int) ≤ IntKind.i64.wrap (((8 * i : Nat) : Int) + 4); rw [hz4]; omega, by show IntKind.i64.wrap (((8 * i : Nat) : Int) + 4) < ((writeB l).length : Int); rw [hz4, writeB_length]; omega⟩, splitO_eq (b := .rp [u8 (byI (l.getD i ins0) 4 : Nat)]) (rdB l i 4 hi (by decide) hz4) ?_⟩
        (repeat ((conv=>whnf);first|refine ω0 ?_|refine ω1 ?_|refine ω2 ?_|refine ω3 ?_|refine ω4 rfl ?_|refine ω5 rfl ?_|refine ω6 ?_|refine ω7 ?_|refine ω8 ?_|refine ⟨rfl,?_⟩|refine ⟨trivial,?_⟩|refine ⟨⟨rfl,Nat.le_of_ble_eq_true rfl⟩,?_⟩|refine ⟨⟨by kernel_rfl,by kernel_rfl⟩,?_⟩|refine ⟨by decide,?_⟩|refine lit_true ?_|refine lit_false ?_))
        refine ⟨⟨by show (0 : Int) ≤ IntKind.i64.wrap (((8 * i : Nat) : Int) + 5); rw [hz5]; omega, by show IntKind.i64.wrap (((8 * i : Nat) : Int) + 5) < ((writeB l).length : Int); rw [hz5, writeB_length]; omega⟩, splitO_eq (b := .rp [u8 (byI (l.getD i ins0) 5 : Nat)]) (rdB l i 5 hi (by decide) hz5) ?_⟩
        (repeat ((conv=>whnf);first|refine ω0 ?_|refine ω1 ?_|refine ω2 ?_|refine ω3 ?_|refine ω4 rfl ?_|refine ω5 rfl ?_|refine ω6 ?_|refine ω7 ?_|refine ω8 ?_|refine ⟨rfl,?_⟩|refine ⟨trivial,?_⟩|refine ⟨⟨rfl,Nat.le_of_ble_eq_true rfl⟩,?_⟩|refine ⟨⟨by kernel_rfl,by kernel_rfl⟩,?_⟩|refine ⟨by decide,?_⟩|refine lit_true ?_|refine lit_false ?_))
        refine ⟨⟨by show (0 : Int) ≤ IntKind.i64.wrap (((8 * i : Nat) : Int) + 6); rw [hz6]; omega, by show IntKind.i64.wrap (((8 * i : Nat) : Int) + 6) < ((writeB l).length : Int); rw [hz6, writeB_length]; omega⟩, splitO_eq (b := .rp [u8 (byI (l.getD i ins0) 6 : Nat)]) (rdB l i 6 hi (by decide) hz6) ?_⟩
        (repeat ((conv=>whnf);first|refine ω0 ?_|refine ω1 ?_|refine ω2 ?_|refine ω3 ?_|refine ω4 rfl ?_|refine ω5 rfl ?_|refine ω6 ?_|refine ω7 ?_|refine ω8 ?_|refine ⟨rfl,?_⟩|refine ⟨trivial,?_⟩|refine ⟨⟨rfl,Nat.le_of_ble_eq_true rfl⟩,?_⟩|refine ⟨⟨by kernel_rfl,by kernel_rfl⟩,?_⟩|refine ⟨by decide,?_⟩|refine lit_true ?_|refine lit_false ?_))
        refine ⟨⟨by show (0 : Int) ≤ IntKind.i64.wrap (((8 * i : Nat) : Int) + 7); rw [hz7]; omega, by show IntKind.i64.wrap (((8 * i : Nat) : Int) + 7) < ((writeB l).length : Int); rw [hz7, writeB_length]; omega⟩, splitO_eq (b := .rp [u8 (byI (l.getD i ins0) 7 : Nat)]) (rdB l i 7 hi (by decide) hz7) ?_⟩
        (repeat ((conv=>whnf);first|refine ω0 ?_|refine ω1 ?_|refine ω2 ?_|refine ω3 ?_|refine ω4 rfl ?_|refine ω5 rfl ?_|refine ω6 ?_|refine ω7 ?_|refine ω8 ?_|refine ⟨rfl,?_⟩|refine ⟨trivial,?_⟩|refine ⟨⟨rfl,Nat.le_of_ble_eq_true rfl⟩,?_⟩|refine ⟨⟨by kernel_rfl,by kernel_rfl⟩,?_⟩|refine ⟨by decide,?_⟩|refine lit_true ?_|refine lit_false ?_))
        refine ⟨oneRow_one rfl, by show (i + 1) * 8 ≤ _; omega, by dsimp only; omega, ?_⟩
        (repeat ((conv=>whnf);first|refine ω0 ?_|refine ω1 ?_|refine ω2 ?_|refine ω3 ?_|refine ω4 rfl ?_|refine ω5 rfl ?_|refine ω6 ?_|refine ω7 ?_|refine ω8 ?_|refine ⟨rfl,?_⟩|refine ⟨trivial,?_⟩|refine ⟨⟨rfl,Nat.le_of_ble_eq_true rfl⟩,?_⟩|refine ⟨⟨by kernel_rfl,by kernel_rfl⟩,?_⟩|refine ⟨by decide,?_⟩|refine lit_true ?_|refine lit_false ?_))
        exact back (i + 1, some nx2, nx2 + 1) ⟨by dsimp only; omega, (fun h => by cases h)⟩ (by dsimp only; omega) (ele_keep rfl rfl .slnil (.cons_cons _ .slnil) ⟨AVle.refl _, AVle.os_fun (appF_one (fun k hk => rfl) (rd_ins hk)), le_int (by show IntKind.i64.wrap (((8 * i : Nat) : Int) + 8) = ((8 * (i + 1) : Nat) : Int); rw [wrap_id (by omega) (by omega)]; omega), trivial⟩)
end Go.Proofs.W

namespace Go.Proofs.W
open Go.Vl
set_option maxRecDepth 100000

def chk (b : List Nat) (k : Nat) : AV := .sl 1 8 (fun j => u8 (b.getD (8 * k + j) 0 : Nat))
theorem chunk_iter (b : List Nat) (n : Nat) (hb : b.length = 8 * n) (hn : n ≤ 100000) : IterSpec Try.prog 108 [] [.rp [bytesA b], .rp [int 8]] (fun k : Nat => [chk b k]) (List.range n) := by
  intro i σ Cb Cp I J hc s0 nx nn h0
  refine ecall_of_aw Try.func108 rfl rfl ?_
  (repeat ((conv=>whnf);first|refine ω0 ?_|refine ω1 ?_|refine ω2 ?_|refine ω3 ?_|refine ω4 rfl ?_|refine ω5 rfl ?_|refine ω6 ?_|refine ω7 ?_|refine ω8 ?_|refine ⟨rfl,?_⟩|refine ⟨trivial,?_⟩|refine ⟨⟨rfl,Nat.le_of_ble_eq_true rfl⟩,?_⟩|refine ⟨⟨by kernel_rfl,by kernel_rfl⟩,?_⟩|refine ⟨by decide,?_⟩|refine lit_true ?_|refine lit_false ?_))
  refine aw_loop (fun x : Nat × σ × Nat => mk 31 [(0, .yl i), (1, .rp [bytesA b]), (2, .rp [int 8]), (4, int (8 * x.1 : Nat))] ⟨Cb x.2.1, Cp x.2.1, x.2.2, nn⟩) (fun x => x.1 ≤ n ∧ I (List.range x.1) x.2.1) (fun x => n - x.1) ?_ ?_
  · exact ⟨(0, s0, nx), ⟨Nat.zero_le _, h0⟩, ele_mk rfl rfl ⟨AVle.refl _, AVle.refl _, AVle.refl _, AVle.refl _, trivial⟩⟩
  · rintro ⟨j, s, nx'⟩ ⟨h1, h2⟩
    dsimp only at h1 h2
    (repeat ((conv=>whnf);first|refine ω0 ?_|refine ω1 ?_|refine ω2 ?_|refine ω3 ?_|refine ω4 rfl ?_|refine ω5 rfl ?_|refine ω6 ?_|refine ω7 ?_|refine ω8 ?_|refine ⟨rfl,?_⟩|refine ⟨trivial,?_⟩|refine ⟨⟨rfl,Nat.le_of_ble_eq_true rfl⟩,?_⟩|refine ⟨⟨by kernel_rfl,by kernel_rfl⟩,?_⟩|refine ⟨by decide,?_⟩|refine lit_true ?_|refine lit_false ?_))
    intro c g; cases c
    · have g := not_of g
      rw [hb] at g
      dsimp only at g
      obtain rfl : j = n := by omega
      (repeat ((conv=>whnf);first|refine ω0 ?_|refine ω1 ?_|refine ω2 ?_|refine ω3 ?_|refine ω4 rfl ?_|refine ω5 rfl ?_|refine ω6 ?_|refine ω7 ?_|refine ω8 ?_|refine ⟨rfl,?_⟩|refine ⟨trivial,?_⟩|refine ⟨⟨rfl,Nat.le_of_ble_eq_true rfl⟩,?_⟩|refine ⟨⟨by kernel_rfl,by kernel_rfl⟩,?_⟩|refine ⟨by decide,?_⟩|refine lit_true ?_|refine lit_false ?_))
      exact ret_is rfl ⟨s, .inl h2, rfl, rfl⟩
    · have g := yes_of g
      rw [hb] at g
      dsimp only at g
      have hj : j < n := by omega
      have hsp : List.range n = List.range j ++ j :: (List.range' (j + 1) (n - j - 1)) := by
        rw [List.range_eq_range', List.range_eq_range', show n = j + (n - j) by omega, List.range'_append_1.symm, Nat.zero_add, show n - j = (n - j - 1) + 1 by omega, List.range'_succ]
        simp
      have hmin : min (8 : Int) ((b.length - 8 * j : Nat) : Int) = 8 := by omega
      (repeat ((conv=>whnf);first|refine ω0 ?_|refine ω1 ?_|refine ω2 ?_|refine ω3 ?_|refine ω4 rfl ?_|refine ω5 rfl ?_|refine ω6 ?_|refine ω7 ?_|refine ω8 ?_|refine ⟨rfl,?_⟩|refine ⟨trivial,?_⟩|refine ⟨⟨rfl,Nat.le_of_ble_eq_true rfl⟩,?_⟩|refine ⟨⟨by kernel_rfl,by kernel_rfl⟩,?_⟩|refine ⟨by decide,?_⟩|refine lit_true ?_|refine lit_false ?_))
      (refine aw_draw 6 ?_ ?_ ?_ ?_; (· kernel_rfl); (· kernel_rfl); (· kernel_rfl))
      (repeat ((conv=>whnf);first|refine ω0 ?_|refine ω1 ?_|refine ω2 ?_|refine ω3 ?_|refine ω4 rfl ?_|refine ω5 rfl ?_|refine ω6 ?_|refine ω7 ?_|refine ω8 ?_|refine ⟨rfl,?_⟩|refine ⟨trivial,?_⟩|refine ⟨⟨rfl,Nat.le_of_ble_eq_true rfl⟩,?_⟩|refine ⟨⟨by kernel_rfl,by kernel_rfl⟩,?_⟩|refine ⟨by decide,?_⟩|refine lit_true ?_|refine lit_false ?_))
      refine ⟨⟨by dsimp only; omega, by dsimp only; omega⟩, ?_⟩
      (repeat ((conv=>whnf);first|refine ω0 ?_|refine ω2 ?_|refine ω3 ?_|refine ω4 rfl ?_|refine ω5 rfl ?_|refine ω6 ?_|refine ω7 ?_|refine ω8 ?_|refine ⟨rfl,?_⟩|refine ⟨trivial,?_⟩|refine ⟨⟨rfl,Nat.le_of_ble_eq_true rfl⟩,?_⟩|refine ⟨⟨by kernel_rfl,by kernel_rfl⟩,?_⟩|refine ⟨by decide,?_⟩|refine lit_true ?_|refine lit_false ?_))
      refine AW.le (ele_mk (n := 31) (h := ⟨Cb s, Cp s, nx', nn⟩) (L := [(0, .yl i), (1, .rp [bytesA b]), (2, .rp [int 8]), (4, int (8 * j : Nat)), (5, int 8)]) rfl rfl ⟨AVle.refl _, AVle.refl _, AVle.refl _, AVle.refl _, le_int ?_, trivial⟩) ?_
      · show (if (((b.length - (((8 * j : Nat) : Int)).toNat : Nat) : Int)) < 8 then _ else (8 : Int)) = 8
        rw [if_neg (by rw [Int.toNat_natCast]; omega)]
      have hw1 : IntKind.i64.wrap (((8 * j : Nat) : Int) + 8) = ((8 * j + 8 : Nat) : Int) := by rw [wrap_id (by omega) (by omega)]; omega
      refine aw_regionY (fun n => match n with | 0 => true | _ => false) 10 ?_
      (repeat ((conv=>whnf);first|refine ω0 ?_|refine ω1 ?_|refine ω2 ?_|refine ω3 ?_|refine ω4 rfl ?_|refine ω5 rfl ?_|refine ω6 ?_|refine ω7 ?_|refine ω8 ?_|refine ⟨rfl,?_⟩|refine ⟨trivial,?_⟩|refine ⟨⟨rfl,Nat.le_of_ble_eq_true rfl⟩,?_⟩|refine ⟨⟨by kernel_rfl,by kernel_rfl⟩,?_⟩|refine ⟨by decide,?_⟩|refine lit_true ?_|refine lit_false ?_))
      refine aop_slice3 (sz := 1) (n := b.length) (l := 8 * j) (n' := 8) (f := fun k => u8 (b.getD k 0 : Nat)) (k := .i64) (k' := .i64) (k'' := .i64) rfl rfl rfl (congrArg (fun z => AV.v (.int .i64 z)) hw1) (congrArg (fun z => AV.v (.int .i64 z)) hw1) Try.underlying28 Try.underlying5 cells_u8'.symm (by omega) (by decide) ?_
      (repeat ((conv=>whnf);first|refine ω0 ?_|refine ω1 ?_|refine ω2 ?_|refine ω3 ?_|refine ω4 rfl ?_|refine ω5 rfl ?_|refine ω6 ?_|refine ω7 ?_|refine ω8 ?_|refine ⟨rfl,?_⟩|refine ⟨trivial,?_⟩|refine ⟨⟨rfl,Nat.le_of_ble_eq_true rfl⟩,?_⟩|refine ⟨⟨by kernel_rfl,by kernel_rfl⟩,?_⟩|refine ⟨by decide,?_⟩|refine lit_true ?_|refine lit_false ?_))
      refine aop_hand (pre := List.range j) (post := List.range' (j + 1) (n - j - 1)) (x := j) (s := s) [] [] rfl rfl rfl hc hsp h2 ⟨AVle.refl _, trivial⟩ (fun s' nx5 hI => ?_) (fun s' nx5 hJ => ?_)
      · (repeat ((conv=>whnf);first|refine ω0 ?_|refine ω1 ?_|refine ω2 ?_|refine ω3 ?_|refine ω4 rfl ?_|refine ω5 rfl ?_|refine ω6 ?_|refine ω7 ?_|refine ω8 ?_|refine ⟨rfl,?_⟩|refine ⟨trivial,?_⟩|refine ⟨⟨rfl,Nat.le_of_ble_eq_true rfl⟩,?_⟩|refine ⟨⟨by kernel_rfl,by kernel_rfl⟩,?_⟩|refine ⟨by decide,?_⟩|refine lit_true ?_|refine lit_false ?_))
        exact back (j + 1, s', nx5) ⟨by dsimp only; omega, by dsimp only; rw [List.range_succ]; exact hI⟩ (by dsimp only; omega) (ele_mk rfl rfl ⟨AVle.refl _, AVle.refl _, AVle.refl _, le_int (hw1.trans (by omega)), trivial⟩)
      · (repeat ((conv=>whnf);first|refine ω0 ?_|refine ω1 ?_|refine ω2 ?_|refine ω3 ?_|refine ω4 rfl ?_|refine ω5 rfl ?_|refine ω6 ?_|refine ω7 ?_|refine ω8 ?_|refine ⟨rfl,?_⟩|refine ⟨trivial,?_⟩|refine ⟨⟨rfl,Nat.le_of_ble_eq_true rfl⟩,?_⟩|refine ⟨⟨by kernel_rfl,by kernel_rfl⟩,?_⟩|refine ⟨by decide,?_⟩|refine lit_true ?_|refine lit_false ?_))
        exact ret_is rfl ⟨s', .inr ⟨_, _, _, hsp, hJ⟩, rfl, rfl⟩
theorem chunk_spec (b : List Nat) : Tells Try.prog 66 [bytesA b, int 8] (.fn (.func 108) [] [.rp [bytesA b], .rp [int 8]]) := by
  refine tells_of_aw Try.func66 rfl rfl fun nx => ?_
  (repeat ((conv=>whnf);first|refine ω0 ?_|refine ω1 ?_|refine ω2 ?_|refine ω3 ?_|refine ω4 rfl ?_|refine ω5 rfl ?_|refine ω6 ?_|refine ω7 ?_|refine ⟨rfl,?_⟩|refine ⟨trivial,?_⟩|refine ⟨⟨rfl,Nat.le_of_ble_eq_true rfl⟩,?_⟩|refine ⟨⟨by kernel_rfl,by kernel_rfl⟩,?_⟩|refine ⟨by decide,?_⟩|refine lit_true ?_|refine lit_false ?_))
  refine AW.le (ele_freeze (L := [(4, .fn (.func 108) [] [.rp [bytesA b], .rp [int 8]])]) (bx := []) (pm := []) (nn := 2) [((1, nx + 1), .c [int 8]), ((0, nx), .c [bytesA b])] rfl rfl (List.Sublist.refl _) .slnil ⟨Frz.fn trivial ⟨Frz.bp (.tail _ (.head _)) rfl, Frz.bp (.head _) rfl, trivial⟩, trivial⟩) ?_
  (repeat ((conv=>whnf);first|refine ω0 ?_|refine ω1 ?_|refine ω2 ?_|refine ω3 ?_|refine ω4 rfl ?_|refine ω5 rfl ?_|refine ω6 ?_|refine ω7 ?_|refine ω8 ?_|refine ⟨rfl,?_⟩|refine ⟨trivial,?_⟩|refine ⟨⟨rfl,Nat.le_of_ble_eq_true rfl⟩,?_⟩|refine ⟨⟨by kernel_rfl,by kernel_rfl⟩,?_⟩|refine ⟨by decide,?_⟩|refine lit_true ?_|refine lit_false ?_))
  exact ret_tells rfl (AVle.refl _)
end Go.Proofs.W

namespace Go.Proofs.W
open Go.Vl
set_option maxRecDepth 100000

def b8 (l : List Ins) (i : Nat) : List Nat := (List.range 8).map fun j => (writeB l).getD (8 * i + j) 0
theorem b8_get (l : List Ins) (i j : Nat) (hi : i < l.length) (hj : j < 8) : (b8 l i).getD j 0 = byI (l.getD i ins0) j := by
  have : (b8 l i).getD j 0 = (writeB l).getD (8 * i + j) 0 := by simp [b8, List.getD, hj]
  rw [this, writeB_get l _ (by omega), byteAt, show (8 * i + j) / 8 = i by omega, show (8 * i + j) % 8 = j by omega]
theorem chk_le (l : List Ins) (i : Nat) : AVle (chk (writeB l) i) (bytesA (b8 l i)) := by
  unfold chk bytesA slOf
  rw [show (b8 l i).length = 8 by simp [b8]]
  exact AVle.sl_fun fun j hj => by
    show u8 _ = u8 _
    simp [b8, List.getD, hj]
theorem b8_ok (l : List Ins) (hok : okL l) (i : Nat) (hi : i < l.length) : okB (b8 l i) := by
  intro x hx
  obtain ⟨j, hj, rfl⟩ := List.mem_map.1 hx
  have hj := List.mem_range.1 hj
  rw [writeB_get l _ (by omega), byteAt, show (8 * i + j) / 8 = i by omega, show (8 * i + j) % 8 = j by omega]
  exact byI_lt (hok.get hi) j
theorem getC (l : List Ins) (hok : okL l) (i : Nat) (hi : i < l.length) : Tells Try.prog 67 [bytesA (b8 l i), int 0, int 2, boolA false] (.tup [u64 (l.getD i ins0).code, int 0]) := by
  have h := get_spec (b8 l i) (b8_ok l hok i hi) (by simp [b8]) 0 (by unfold okI; omega) 2 (by unfold okW; omega) false
  have h0 : thereI (b8 l i).length 0 2 = 0 := by rw [show (b8 l i).length = 8 by simp [b8]]; decide
  rw [h0, if_pos rfl] at h
  have e : accB (b8 l i) (placesI (Int.toNat 0) 2 false) = (l.getD i ins0).code := by
    show (0 * 256 + (b8 l i).getD 1 0) * 256 + (b8 l i).getD 0 0 = _
    rw [b8_get l i 1 hi (by decide), b8_get l i 0 hi (by decide)]
    show (0 * 256 + (l.getD i ins0).code / 256) * 256 + (l.getD i ins0).code % 256 = _
    omega
  rw [e] at h
  exact h
theorem getK (l : List Ins) (hok : okL l) (i : Nat) (hi : i < l.length) : Tells Try.prog 67 [bytesA (b8 l i), int 4, int 4, boolA false] (.tup [u64 (l.getD i ins0).k, int 0]) := by
  have h := get_spec (b8 l i) (b8_ok l hok i hi) (by simp [b8]) 4 (by unfold okI; omega) 4 (by unfold okW; omega) false
  have h0 : thereI (b8 l i).length 4 4 = 0 := by rw [show (b8 l i).length = 8 by simp [b8]]; decide
  rw [h0, if_pos rfl] at h
  have e : accB (b8 l i) (placesI (Int.toNat 4) 4 false) = (l.getD i ins0).k := by
    show (((0 * 256 + (b8 l i).getD 7 0) * 256 + (b8 l i).getD 6 0) * 256 + (b8 l i).getD 5 0) * 256 + (b8 l i).getD 4 0 = _
    rw [b8_get l i 4 hi (by decide), b8_get l i 5 hi (by decide), b8_get l i 6 hi (by decide), b8_get l i 7 hi (by decide)]
    show (((0 * 256 + (l.getD i ins0).k / 16777216) * 256 + (l.getD i ins0).k / 65536 % 256) * 256 + (l.getD i ins0).k / 256 % 256) * 256 + (l.getD i ins0).k % 256 = _
    omega
  rw [e] at h
  exact h
theorem rd_el (l : List Ins) (i : Nat) (hi : i < l.length) (h : (l.getD i ins0).ok) : AV.ag [u16 (IntKind.u16.wrap ((l.getD i ins0).code : Int)), u8 ((writeB l).getD (8 * i + 2) 0 : Nat), u8 ((writeB l).getD (8 * i + 3) 0 : Nat), u32 (IntKind.u32.wrap ((l.getD i ins0).k : Int))] = insA (l.getD i ins0) := by
  rw [ow16 h.1, ow32 h.2.2.2, writeB_get l _ (by omega), writeB_get l _ (by omega)]
  unfold byteAt
  rw [show (8 * i + 2) / 8 = i by omega, show (8 * i + 2) % 8 = 2 by omega, show (8 * i + 3) / 8 = i by omega, show (8 * i + 3) % 8 = 3 by omega]
  rfl
theorem ob_inst : Try.prog.bytesOf 111 = 8 := by kernel_rfl
set_option maxHeartbeats 1000000 in
theorem read_spec (l : List Ins) (hok : okL l) (hl : l.length ≤ 4096) : Tells Try.prog 35 [bytesA (writeB l)] (.tup [inss l, int 0]) := by
  have hlen := writeB_length l
  refine tells_of_aw Try.func35 rfl rfl fun nx => ?_
  (repeat ((conv=>whnf);first|refine ω0 ?_|refine ω1 ?_|refine ω2 ?_|refine ω3 ?_|refine ω4 rfl ?_|refine ω5 rfl ?_|refine ω6 ?_|refine ω7 ?_|refine ω8 ?_|refine ⟨rfl,?_⟩|refine ⟨trivial,?_⟩|refine ⟨⟨rfl,Nat.le_of_ble_eq_true rfl⟩,?_⟩|refine ⟨⟨by kernel_rfl,by kernel_rfl⟩,?_⟩|refine ⟨by decide,?_⟩|refine lit_true ?_|refine lit_false ?_))
  intro c g1; cases c
  rotate_left
  · exact absurd (yes_of g1) (by rw [hlen]; omega)
  (repeat ((conv=>whnf);first|refine ω0 ?_|refine ω1 ?_|refine ω2 ?_|refine ω3 ?_|refine ω4 rfl ?_|refine ω5 rfl ?_|refine ω6 ?_|refine ω7 ?_|refine ω8 ?_|refine ⟨rfl,?_⟩|refine ⟨trivial,?_⟩|refine ⟨⟨rfl,Nat.le_of_ble_eq_true rfl⟩,?_⟩|refine ⟨⟨by kernel_rfl,by kernel_rfl⟩,?_⟩|refine ⟨by decide,?_⟩|refine lit_true ?_|refine lit_false ?_))
  intro c hc
  obtain rfl : c = false := hc.trans (by rw [hlen]; show (((8 * l.length : Nat) : Int).tmod ((8 : Nat) : Int) != 0) = false; rw [otm]; simp)
  (repeat ((conv=>whnf);first|refine ω0 ?_|refine ω1 ?_|refine ω2 ?_|refine ω3 ?_|refine ω4 rfl ?_|refine ω5 rfl ?_|refine ω6 ?_|refine ω7 ?_|refine ω8 ?_|refine ⟨rfl,?_⟩|refine ⟨trivial,?_⟩|refine ⟨⟨rfl,Nat.le_of_ble_eq_true rfl⟩,?_⟩|refine ⟨⟨by kernel_rfl,by kernel_rfl⟩,?_⟩|refine ⟨by decide,?_⟩|refine lit_true ?_|refine lit_false ?_))
  refine aop_tells rfl rfl (chunk_spec (writeB l)) ⟨AVle.refl _, AVle.refl _, trivial⟩ fun nx1 => ?_
  (repeat ((conv=>whnf);first|refine ω0 ?_|refine ω1 ?_|refine ω2 ?_|refine ω3 ?_|refine ω4 rfl ?_|refine ω5 rfl ?_|refine ω6 ?_|refine ω7 ?_|refine ω8 ?_|refine ⟨rfl,?_⟩|refine ⟨trivial,?_⟩|refine ⟨⟨rfl,Nat.le_of_ble_eq_true rfl⟩,?_⟩|refine ⟨⟨by kernel_rfl,by kernel_rfl⟩,?_⟩|refine ⟨by decide,?_⟩|refine lit_true ?_|refine lit_false ?_))
  refine AW.le (ele_tell (n := 47) (nx := nx1) (nn := 1) (L := [(4, .bp (0, nx) 0), (20, .fn (.func 108) [] [.rp [bytesA (writeB l)], .rp [int 8]])]) (pm := []) (bx := [((0, nx), .c [.os 4 0 (fun k => insA (l.getD k ins0)) none])]) _ [] rfl rfl (List.Sublist.refl _) (List.Sublist.refl _) ⟨rfl, ⟨AVle.os_nil, trivial⟩, trivial⟩ trivial ⟨AVle.refl _, AVle.refl _, trivial⟩) ?_
  refine aw_for (σ := Nat × (Nat → AV) × Option Vl.Id) (α := Nat) (e := fun k : Nat => [chk (writeB l) k]) (xs := List.range l.length) (first' := []) (caps' := [.rp [bytesA (writeB l)], .rp [int 8]])
    (fun x : Nat × (Nat → AV) × Option Vl.Id => [((0, nx), .c [.os 4 x.1 x.2.1 x.2.2])]) (fun x => pmOf x.2.2 (x.1 * 4))
    (fun pre x => x.1 = pre.length ∧ (∀ k, k < x.1 → x.2.1 k = insA (l.getD k ins0)) ∧ (x.2.2 = none → x.1 = 0)) (fun _ _ _ => False) (0, (fun k => insA (l.getD k ins0)), none) rfl rfl (chunk_iter (writeB l) l.length hlen (by omega)) trivial (LeL.refl _) rfl rfl ⟨rfl, (fun _ _ => rfl), fun _ => rfl⟩ (fun _ => rfl) ?_ ?_
  · rintro pre x post ⟨i, f, oi⟩ nx3 nn3 hx ⟨hs1, hs3, hs2⟩
    dsimp only at hs1 hs2 hs3
    have hxi : x = i ∧ i < l.length := by
      have h1 : (List.range l.length)[i]? = some x := by rw [hx, hs1]; simp
      have h2 := (List.getElem?_eq_some_iff.1 h1).1
      rw [List.getElem?_range (by simpa using h2)] at h1
      simp at h1 h2
      exact ⟨h1.symm, h2⟩
    obtain ⟨rfl, hi⟩ := hxi
    have hk := hok.get hi
    (repeat ((conv=>whnf);first|refine ω0 ?_|refine ω1 ?_|refine ω2 ?_|refine ω3 ?_|refine ω4 rfl ?_|refine ω5 rfl ?_|refine ω6 ?_|refine ω7 ?_|refine ω8 ?_|refine ⟨rfl,?_⟩|refine ⟨trivial,?_⟩|refine ⟨⟨rfl,Nat.le_of_ble_eq_true rfl⟩,?_⟩|refine ⟨⟨by kernel_rfl,by kernel_rfl⟩,?_⟩|refine ⟨by decide,?_⟩|refine lit_true ?_|refine lit_false ?_))
    refine aop_tells rfl rfl (getC l hok x hi) ⟨chk_le l x, AVle.refl _, AVle.refl _, AVle.refl _, trivial⟩ fun nx4 => ?_
    (repeat ((conv=>whnf);first|refine ω0 ?_|refine ω1 ?_|refine ω2 ?_|refine ω3 ?_|refine ω4 rfl ?_|refine ω5 rfl ?_|refine ω6 ?_|refine ω7 ?_|refine ω8 ?_|refine ⟨rfl,?_⟩|refine ⟨trivial,?_⟩|refine ⟨⟨rfl,Nat.le_of_ble_eq_true rfl⟩,?_⟩|refine ⟨⟨by kernel_rfl,by kernel_rfl⟩,?_⟩|refine ⟨by decide,?_⟩|refine lit_true ?_|refine lit_false ?_))
    refine aop_tells rfl rfl (getK l hok x hi) ⟨chk_le l x, AVle.refl _, AVle.refl _, AVle.refl _, trivial⟩ fun nx5 => ?_
    (repeat ((conv=>whnf);first|refine ω0 ?_|refine ω1 ?_|refine ω2 ?_|refine ω3 ?_|refine ω4 rfl ?_|refine ω5 rfl ?_|refine ω6 ?_|refine ω7 ?_|refine ω8 ?_|refine ⟨rfl,?_⟩|refine ⟨trivial,?_⟩|refine ⟨⟨rfl,Nat.le_of_ble_eq_true rfl⟩,?_⟩|refine ⟨⟨by kernel_rfl,by kernel_rfl⟩,?_⟩|refine ⟨by decide,?_⟩|refine lit_true ?_|refine lit_false ?_))
    rcases oi with _ | id
    · obtain rfl := hs2 rfl
      (refine aw_draw 13 ?_ ?_ ?_ ?_; (· kernel_rfl); (· kernel_rfl); (· kernel_rfl))
      (repeat ((conv=>whnf);first|refine ω0 ?_|refine ω1 ?_|refine ω2 ?_|refine ω3 ?_|refine ω4 rfl ?_|refine ω5 rfl ?_|refine ω6 ?_|refine ω7 ?_|refine ω8 ?_|refine ⟨rfl,?_⟩|refine ⟨trivial,?_⟩|refine ⟨⟨rfl,Nat.le_of_ble_eq_true rfl⟩,?_⟩|refine ⟨⟨by kernel_rfl,by kernel_rfl⟩,?_⟩|refine ⟨by decide,?_⟩|refine lit_true ?_|refine lit_false ?_))
      refine ⟨oneRow_one rfl, by show (0 + 1) * 8 ≤ _; omega, by dsimp only; omega, ?_⟩
      (repeat ((conv=>whnf);first|refine ω0 ?_|refine ω1 ?_|refine ω2 ?_|refine ω3 ?_|refine ω4 rfl ?_|refine ω5 rfl ?_|refine ω6 ?_|refine ω7 ?_|refine ω8 ?_|refine ⟨rfl,?_⟩|refine ⟨trivial,?_⟩|refine ⟨⟨rfl,Nat.le_of_ble_eq_true rfl⟩,?_⟩|refine ⟨⟨by kernel_rfl,by kernel_rfl⟩,?_⟩|refine ⟨by decide,?_⟩|refine lit_true ?_|refine lit_false ?_))
      refine ⟨(0 + 1, _, some _), .inl ⟨rfl, by simp [← hs1], ?_, fun h => by cases h⟩, rfl, rfl⟩
      intro k hk2
      obtain rfl : k = 0 := Nat.lt_one_iff.1 hk2
      exact rd_el l 0 hi hk
    · refine aw_mix3 15 (fun i => match i with | 13 => true | 14 => true | _ => false) (fun i => match i with | 0 => true | _ => false) [0, 1, 2, 3, 4, 5, 6, 7, 8, 9, 10, 11, 12, 13, 14] (by kernel_rfl) (by kernel_rfl) ?_
      (repeat ((conv=>whnf);first|refine ω0 ?_|refine ω1 ?_|refine ω2 ?_|refine ω3 ?_|refine ω4 rfl ?_|refine ω5 rfl ?_|refine ω6 ?_|refine ω7 ?_|refine ω8 ?_|refine ⟨rfl,?_⟩|refine ⟨trivial,?_⟩|refine ⟨⟨rfl,Nat.le_of_ble_eq_true rfl⟩,?_⟩|refine ⟨⟨by kernel_rfl,by kernel_rfl⟩,?_⟩|refine ⟨by decide,?_⟩|refine lit_true ?_|refine lit_false ?_))
      refine ⟨_, now_apure rfl rfl ⟨rfl, Nat.zero_lt_one⟩, ?_⟩
      (repeat ((conv=>whnf);first|refine ω0 ?_|refine ω1 ?_|refine ω2 ?_|refine ω3 ?_|refine ω4 rfl ?_|refine ω5 rfl ?_|refine ω6 ?_|refine ω7 ?_|refine ω8 ?_|refine ⟨rfl,?_⟩|refine ⟨trivial,?_⟩|refine ⟨⟨rfl,Nat.le_of_ble_eq_true rfl⟩,?_⟩|refine ⟨⟨by kernel_rfl,by kernel_rfl⟩,?_⟩|refine ⟨by decide,?_⟩|refine lit_true ?_|refine lit_false ?_))
      refine ⟨_, eff_append1 (e := 111) (c := 4) (pm := []) (n := x) (oi := some id) (sz := 4) (f := f) (fun _ _ _ h => by cases h) rfl rfl rfl (.inr ⟨_, rfl⟩) (by kernel_rfl) (by kernel_rfl) (by kernel_rfl) (.inr rfl) (by kernel_rfl) (List.append_nil _).symm (oneRow_one rfl) (by rw [ob_inst]; omega) (by omega), fun r h' hr => ?_⟩
      obtain ⟨rfl, rfl⟩ := hr
      (repeat ((conv=>whnf);first|refine ω0 ?_|refine ω1 ?_|refine ω2 ?_|refine ω3 ?_|refine ω4 rfl ?_|refine ω5 rfl ?_|refine ω6 ?_|refine ω7 ?_|refine ω8 ?_|refine ⟨rfl,?_⟩|refine ⟨trivial,?_⟩|refine ⟨⟨rfl,Nat.le_of_ble_eq_true rfl⟩,?_⟩|refine ⟨⟨by kernel_rfl,by kernel_rfl⟩,?_⟩|refine ⟨by decide,?_⟩|refine lit_true ?_|refine lit_false ?_))
      refine ⟨_, eff_store (i := (0, nx)) (off := 0) (cs := [.os 4 x f (some id)]) rfl rfl rfl rfl rfl rfl rfl (by kernel_rfl) (by kernel_rfl) (by show 0 + 1 ≤ 1; omega) (fun _ _ _ h => by cases h), fun r h' hr => ?_⟩
      subst hr
      (repeat ((conv=>whnf);first|refine ω0 ?_|refine ω1 ?_|refine ω2 ?_|refine ω3 ?_|refine ω4 rfl ?_|refine ω5 rfl ?_|refine ω6 ?_|refine ω7 ?_|refine ω8 ?_|refine ⟨rfl,?_⟩|refine ⟨trivial,?_⟩|refine ⟨⟨rfl,Nat.le_of_ble_eq_true rfl⟩,?_⟩|refine ⟨⟨by kernel_rfl,by kernel_rfl⟩,?_⟩|refine ⟨by decide,?_⟩|refine lit_true ?_|refine lit_false ?_))
      refine ⟨(x + 1, _, some _), .inl ⟨rfl, by simp [← hs1], appF_one hs3 (rd_el l x hi hk), fun h => by cases h⟩, rfl, rfl⟩
  · rintro ⟨i, f, oi⟩ nx3 nn3 ⟨hs1, hs3, hs2⟩
    dsimp only at hs1 hs3
    obtain rfl : i = l.length := by simpa using hs1
    (repeat ((conv=>whnf);first|refine ω0 ?_|refine ω1 ?_|refine ω2 ?_|refine ω3 ?_|refine ω4 rfl ?_|refine ω5 rfl ?_|refine ω6 ?_|refine ω7 ?_|refine ω8 ?_|refine ⟨rfl,?_⟩|refine ⟨trivial,?_⟩|refine ⟨⟨rfl,Nat.le_of_ble_eq_true rfl⟩,?_⟩|refine ⟨⟨by kernel_rfl,by kernel_rfl⟩,?_⟩|refine ⟨by decide,?_⟩|refine lit_true ?_|refine lit_false ?_))
    exact ret_tells rfl (AVle.tups ⟨AVle.os_sl.trans (AVle.sl_fun hs3), AVle.refl _, trivial⟩)
end Go.Proofs.W

namespace Go.Proofs.W

def kind (l : List Ins) (n : Nat) : Nat := (kof (l.getD n ins0).code).1
structure Formed (l : List Ins) : Prop where
  pos : 0 < l.length
  le : l.length ≤ 4096
  ok : ∀ n, n < l.length → wrongI (l.getD n ins0) (l.length - 1 - n) = 0
  last : kind l (l.length - 1) = 14 ∨ kind l (l.length - 1) = 15
theorem formed_of {l : List Ins} (h : (formedI l).2 = 0) : Formed l := by
  unfold formedI at h
  split at h
  · cases h
  split at h
  · cases h
  split at h
  · rename_i n hn
    have := List.find?_some hn
    dsimp only at h this
    simp only [bne_iff_ne] at this
    exact absurd h this
  · rename_i hn
    split at h
    · rename_i hk
      refine ⟨by omega, by omega, fun n h1 => ?_, hk⟩
      rw [List.find?_range_eq_none] at hn
      simpa using hn n h1
    · cases h
theorem formed_fail {l : List Ins} (h : (formedI l).2 ≠ 0) : ¬ Formed l := fun hf => h (by
  unfold formedI
  rw [if_neg (by have := hf.pos; omega), if_neg (by have := hf.le; omega), List.find?_range_eq_none.2 (fun i hi => by simpa using hf.ok i hi)]
  dsimp only
  have := hf.last
  unfold kind at this
  rw [if_pos this])
def nextsI (l : List Ins) (n : Nat) : List Nat :=
  if kind l n = 14 ∨ kind l n = 15 then [] else if kind l n = 13 then [n + 1 + (l.getD n ins0).k] else if 25 ≤ kind l n then [n + 1 + (l.getD n ins0).jt, n + 1 + (l.getD n ins0).jf] else [n + 1]
theorem wrong_parts {i : Ins} {r : Nat} (h : wrongI i r = 0) : (kof i.code).1 ≠ 0 ∧ ¬ ((kof i.code).1 = 1 ∧ (i.k % 4 ≠ 0 ∨ 64 ≤ i.k)) ∧ ¬ (((kof i.code).1 = 3 ∨ (kof i.code).1 = 6 ∨ (kof i.code).1 = 8 ∨ (kof i.code).1 = 9) ∧ 16 ≤ i.k) ∧
    ¬ (((kof i.code).1 = 13 ∧ r ≤ i.k) ∨ (25 ≤ (kof i.code).1 ∧ (r ≤ i.jt ∨ r ≤ i.jf))) := by
  unfold wrongI at h
  generalize kof i.code = kk at *
  obtain ⟨k, x⟩ := kk
  dsimp only at h ⊢
  split at h
  · cases h
  split at h
  · cases h
  split at h
  · cases h
  split at h
  · cases h
  split at h
  · cases h
  split at h
  · cases h
  exact ⟨by assumption, by assumption, by assumption, by assumption⟩
theorem nexts_lt {l : List Ins} (hf : Formed l) {n : Nat} (hn : n < l.length) : ∀ t ∈ nextsI l n, n < t ∧ t < l.length := by
  have hw := wrong_parts (hf.ok n hn)
  have hl : n = l.length - 1 → kind l n = 14 ∨ kind l n = 15 := fun h => h ▸ hf.last
  have hk : (kof (l.getD n ins0).code).1 = kind l n := rfl
  rw [hk] at hw
  intro t ht
  unfold nextsI at ht
  split at ht
  · simp at ht
  split at ht
  · simp only [List.mem_singleton] at ht; omega
  split at ht
  · simp only [List.mem_cons, List.not_mem_nil, or_false] at ht; omega
  · simp only [List.mem_singleton] at ht; omega
def isStore (k : Nat) : Prop := k = 8 ∨ k = 9
instance (k : Nat) : Decidable (isStore k) := inferInstanceAs (Decidable (_ ∨ _))
def nowI (i : Ins) (a : Nat) : Nat := if isStore (kof i.code).1 then a ||| 2 ^ i.k else a
def goI (now : Nat) (l : List Nat) (to : Nat) : List Nat := l.set to (l.getD to 0 &&& now)
def stepS (l : List Ins) (a : List Nat) (n : Nat) : List Nat := (nextsI l n).foldl (goI (nowI (l.getD n ins0) (a.getD n 0))) a
def initS (n : Nat) : List Nat := (List.replicate n 65535 ++ List.replicate (4096 - n) 0).set 0 0
def atI (l : List Ins) (n : Nat) : List Nat := (List.range n).foldl (stepS l) (initS l.length)
def storedI (l : List Ins) : List Nat := (atI l l.length).take l.length
theorem atI_succ (l : List Ins) (n : Nat) : atI l (n + 1) = stepS l (atI l n) n := by simp [atI, List.range_succ]
theorem goI_length (now to : Nat) (l : List Nat) : (goI now l to).length = l.length := by simp [goI]
theorem foldgo_length (now : Nat) : ∀ (ts : List Nat) (l : List Nat), (ts.foldl (goI now) l).length = l.length
  | [], _ => rfl
  | t :: ts, l => by rw [List.foldl_cons, foldgo_length now ts, goI_length]
theorem initS_length {n : Nat} (h : n ≤ 4096) : (initS n).length = 4096 := by simp [initS]; omega
theorem atI_length {l : List Ins} (hf : l.length ≤ 4096) (n : Nat) : (atI l n).length = 4096 := by
  induction n with
  | zero => exact initS_length hf
  | succ n ih => rw [atI_succ, stepS, foldgo_length, ih]
theorem goI_get (now to : Nat) (l : List Nat) (k : Nat) : (goI now l to).getD k 0 = if to = k ∧ to < l.length then l.getD to 0 &&& now else l.getD k 0 := by
  simp only [goI, List.getD, List.getElem?_set]
  by_cases h1 : to = k
  · subst h1
    by_cases h2 : to < l.length
    · simp [h2]
    · simp [h2, List.getElem?_eq_none (Nat.le_of_not_lt h2)]
  · simp [h1]
def small (l : List Nat) : Prop := ∀ k, l.getD k 0 < 65536
theorem goI_small {now to : Nat} {l : List Nat} (h : small l) : small (goI now l to) := by
  intro k
  rw [goI_get]
  split
  · exact Nat.lt_of_le_of_lt Nat.and_le_left (h to)
  · exact h k
theorem foldgo_small {now : Nat} : ∀ {ts : List Nat} {l : List Nat}, small l → small (ts.foldl (goI now) l)
  | [], _, h => h
  | t :: ts, l, h => by rw [List.foldl_cons]; exact foldgo_small (goI_small h)
theorem initS_get {n k : Nat} (h : n ≤ 4096) : (initS n).getD k 0 = if 0 < k ∧ k < n then 65535 else 0 := by
  simp only [initS, List.getD, List.getElem?_set]
  by_cases h1 : 0 = k
  · subst h1; simp; split <;> simp
  · rw [if_neg h1]
    by_cases h2 : k < n
    · rw [List.getElem?_append_left (by simpa using h2)]
      simp [h2]; omega
    · rw [List.getElem?_append_right (by simpa using h2)]
      rw [if_neg (by omega)]
      simp [List.getElem?_replicate]
      split <;> simp
theorem initS_small {n : Nat} (h : n ≤ 4096) : small (initS n) := by
  intro k; rw [initS_get h]; split <;> omega
theorem atI_small {l : List Ins} (hf : l.length ≤ 4096) (n : Nat) : small (atI l n) := by
  induction n with
  | zero => exact initS_small hf
  | succ n ih => rw [atI_succ]; exact foldgo_small ih
theorem now_small {i : Ins} {a r : Nat} (ha : a < 65536) (hw : wrongI i r = 0) : nowI i a < 65536 := by
  unfold nowI
  split
  · rename_i h
    have h2 := (wrong_parts hw).2.2.1
    unfold isStore at h
    have h3 : i.k < 16 := by omega
    exact Nat.or_lt_two_pow (n := 16) ha (Nat.pow_lt_pow_right (by decide) h3)
  · exact ha
/-- Cells stored: the given text's check. -/
def checkI (l : List Ins) : Nat × Nat :=
  if (formedI l).2 ≠ 0 then formedI l
  else match (List.range l.length).find? (fun n => decide ((kind l n = 3 ∨ kind l n = 6) ∧ (storedI l).getD n 0 / 2 ^ (l.getD n ins0).k % 2 = 0)) with
    | some n => (n, 12)
    | none => (0, 0)
end Go.Proofs.W

namespace Go.Proofs.W

/-- Reached, where nothing goes on behind what stops. -/
inductive Rch (l : List Ins) (stop : Nat → Bool) : Nat → Prop
  | zero : Rch l stop 0
  | step (n t : Nat) (h : Rch l stop n) (hs : stop n = false) (ht : t ∈ nextsI l n) : Rch l stop t
theorem Rch.lt {l : List Ins} {stop : Nat → Bool} (hf : Formed l) {n : Nat} (h : Rch l stop n) : n < l.length := by
  induction h with
  | zero => exact hf.pos
  | step n t _ _ ht ih => exact (nexts_lt hf ih t ht).2
def setT (o : List Bool) (t : Nat) : List Bool := o.set t true
def scanStep (l : List Ins) (stop : Nat → Bool) (o : List Bool) (n : Nat) : List Bool := if o.getD n false && !stop n then (nextsI l n).foldl setT o else o
def scan0 (n : Nat) : List Bool := setT (List.replicate n false) 0
def scanN (l : List Ins) (stop : Nat → Bool) (k : Nat) : List Bool := (List.range k).foldl (scanStep l stop) (scan0 l.length)
def reachC (l : List Ins) (stop : Nat → Bool) : List Bool := scanN l stop l.length
def reachI (l : List Ins) : List Bool := reachC l fun _ => false
theorem setT_get (o : List Bool) (t k : Nat) : (setT o t).getD k false = (o.getD k false || (decide (t = k) && decide (t < o.length))) := by
  simp only [setT, List.getD, List.getElem?_set]
  by_cases h1 : t = k
  · subst h1
    by_cases h2 : t < o.length
    · simp [h2]
    · simp [h2, List.getElem?_eq_none (Nat.le_of_not_lt h2)]
  · simp [h1]
theorem setT_length (o : List Bool) (t : Nat) : (setT o t).length = o.length := by simp [setT]
theorem foldT_length : ∀ (ts : List Nat) (o : List Bool), (ts.foldl setT o).length = o.length
  | [], _ => rfl
  | t :: ts, o => by rw [List.foldl_cons, foldT_length ts, setT_length]
theorem foldT_get : ∀ (ts : List Nat) (o : List Bool) (k : Nat), (∀ t ∈ ts, t < o.length) → ((ts.foldl setT o).getD k false = true ↔ o.getD k false = true ∨ k ∈ ts)
  | [], o, k, _ => by simp
  | t :: ts, o, k, h => by
    rw [List.foldl_cons, foldT_get ts (setT o t) k (fun x hx => by rw [setT_length]; exact h x (by simp [hx])), setT_get]
    have ht := h t (by simp)
    rw [show (decide (t = k)) = decide (k = t) from decide_eq_decide.2 eq_comm]
    simp [ht, or_assoc]
theorem scanN_succ (l : List Ins) (stop : Nat → Bool) (k : Nat) : scanN l stop (k + 1) = scanStep l stop (scanN l stop k) k := by simp [scanN, List.range_succ]
theorem scanStep_length (l : List Ins) (stop : Nat → Bool) (o : List Bool) (n : Nat) : (scanStep l stop o n).length = o.length := by
  unfold scanStep; split
  · exact foldT_length _ _
  · rfl
theorem scanN_length (l : List Ins) (stop : Nat → Bool) (k : Nat) : (scanN l stop k).length = l.length := by
  induction k with
  | zero => simp [scanN, scan0, setT_length]
  | succ k ih => rw [scanN_succ, scanStep_length, ih]
theorem scan0_get {n : Nat} (hn : 0 < n) (k : Nat) : (scan0 n).getD k false = true ↔ k = 0 := by
  rw [scan0, setT_get]
  have : (List.replicate n false).getD k false = false := by
    simp only [List.getD, List.getElem?_replicate]; split <;> rfl
  rw [this]
  simp [hn, eq_comm]
theorem scan_iff {l : List Ins} (hf : Formed l) (stop : Nat → Bool) : ∀ k, k ≤ l.length → ∀ n, (scanN l stop k).getD n false = true ↔ n = 0 ∨ ∃ m, m < k ∧ Rch l stop m ∧ stop m = false ∧ n ∈ nextsI l m := by
  intro k
  induction k with
  | zero => intro _ n; rw [show scanN l stop 0 = scan0 l.length from rfl, scan0_get hf.pos]; simp
  | succ k ih =>
    intro hk n
    have hR : (scanN l stop k).getD k false = true ↔ Rch l stop k := by
      rw [ih (by omega)]
      constructor
      · rintro (h | ⟨m, _, h1, h2, h3⟩)
        · subst h; exact .zero
        · exact .step m k h1 h2 h3
      · intro h
        cases h with
        | zero => exact .inl rfl
        | step m _ h1 h2 h3 => exact .inr ⟨m, (nexts_lt hf (h1.lt hf) k h3).1, h1, h2, h3⟩
    rw [scanN_succ, scanStep]
    split
    · rename_i h
      simp only [Bool.and_eq_true, Bool.not_eq_true'] at h
      rw [foldT_get _ _ _ (fun t ht => by rw [scanN_length]; exact (nexts_lt hf (by omega) t ht).2), ih (by omega)]
      constructor
      · rintro ((h1 | ⟨m, h1, h2⟩) | h1)
        · exact .inl h1
        · exact .inr ⟨m, by omega, h2⟩
        · exact .inr ⟨k, by omega, hR.1 h.1, h.2, h1⟩
      · rintro (h1 | ⟨m, h1, h2, h3, h4⟩)
        · exact .inl (.inl h1)
        · rcases Nat.lt_or_ge m k with h5 | h5
          · exact .inl (.inr ⟨m, h5, h2, h3, h4⟩)
          · obtain rfl : m = k := by omega
            exact .inr h4
    · rename_i h
      simp only [Bool.and_eq_true, Bool.not_eq_true'] at h
      rw [ih (by omega)]
      constructor
      · rintro (h1 | ⟨m, h1, h2⟩)
        · exact .inl h1
        · exact .inr ⟨m, by omega, h2⟩
      · rintro (h1 | ⟨m, h1, h2, h3, h4⟩)
        · exact .inl h1
        · rcases Nat.lt_or_ge m k with h5 | h5
          · exact .inr ⟨m, h5, h2, h3, h4⟩
          · obtain rfl : m = k := by omega
            exact absurd ⟨hR.2 h2, h3⟩ h
theorem reachC_iff {l : List Ins} (hf : Formed l) (stop : Nat → Bool) (n : Nat) : (reachC l stop).getD n false = true ↔ Rch l stop n := by
  rw [reachC, scan_iff hf stop l.length (Nat.le_refl _)]
  constructor
  · rintro (h | ⟨m, _, h1, h2, h3⟩)
    · subst h; exact .zero
    · exact .step m n h1 h2 h3
  · intro h
    cases h with
    | zero => exact .inl rfl
    | step m _ h1 h2 h3 => exact .inr ⟨m, h1.lt hf, h1, h2, h3⟩
theorem reachC_length (l : List Ins) (stop : Nat → Bool) : (reachC l stop).length = l.length := scanN_length l stop l.length
theorem reachI_length (l : List Ins) : (reachI l).length = l.length := reachC_length l _
abbrev Reached (l : List Ins) (n : Nat) : Prop := Rch l (fun _ => false) n
theorem reachI_iff {l : List Ins} (hf : Formed l) (n : Nat) : (reachI l).getD n false = true ↔ Reached l n := reachC_iff hf _ n
end Go.Proofs.W

namespace Go.Proofs.W

def stopC (l : List Ins) (c : Nat) (n : Nat) : Bool := decide (isStore (kind l n)) && decide ((l.getD n ins0).k = c)
theorem fold_bit (now c : Nat) : ∀ (ts : List Nat) (a : List Nat) (n : Nat), (∀ t ∈ ts, t < a.length) → ((ts.foldl (goI now) a).getD n 0).testBit c = ((a.getD n 0).testBit c && (!decide (n ∈ ts) || now.testBit c))
  | [], a, n, _ => by simp
  | t :: ts, a, n, h => by
    rw [List.foldl_cons, fold_bit now c ts (goI now a t) n (fun x hx => by rw [goI_length]; exact h x (by simp [hx])), goI_get]
    have ht := h t (by simp)
    by_cases h1 : t = n
    · subst h1
      rw [if_pos ⟨rfl, ht⟩, Nat.testBit_and]
      by_cases h2 : t ∈ ts <;> cases (a.getD t 0).testBit c <;> cases now.testBit c <;> simp [h2]
    · rw [if_neg (fun h => h1 h.1)]
      have h3 : decide (n ∈ t :: ts) = decide (n ∈ ts) := decide_eq_decide.2 (by rw [List.mem_cons]; exact ⟨fun h => h.resolve_left fun h2 => h1 h2.symm, .inr⟩)
      rw [h3]
theorem foldT_bit : ∀ (ts : List Nat) (o : List Bool) (k : Nat), (∀ t ∈ ts, t < o.length) → (ts.foldl setT o).getD k false = (o.getD k false || decide (k ∈ ts)) := fun ts o k h => by
  rw [Bool.eq_iff_iff, foldT_get ts o k h]; simp
theorem init_bit {n k c : Nat} (hn : n ≤ 4096) (hk : k < n) (hc : c < 16) : ((initS n).getD k 0).testBit c = !(scan0 n).getD k false := by
  rw [initS_get hn]
  by_cases h : k = 0
  · subst h
    rw [(scan0_get hk 0).2 rfl]; simp
  · have h1 : (scan0 n).getD k false = false := by
      cases h2 : (scan0 n).getD k false
      · rfl
      · exact absurd ((scan0_get (by omega) k).1 h2) h
    rw [h1, if_pos ⟨by omega, hk⟩]
    show (2 ^ 16 - 1).testBit c = _
    rw [Nat.testBit_two_pow_sub_one]; simp [hc]
theorem now_bit {l : List Ins} (n c a : Nat) : (nowI (l.getD n ins0) a).testBit c = (a.testBit c || stopC l c n) := by
  unfold nowI stopC
  have hk : (kof (l.getD n ins0).code).1 = kind l n := rfl
  rw [hk]
  by_cases h : isStore (kind l n)
  · rw [if_pos h, Nat.testBit_or, Nat.testBit_two_pow]; simp [h]
  · rw [if_neg h]; simp [h]
/-- What is stored on every way, bit by bit: the cells without which nothing leads there. -/
theorem at_scan {l : List Ins} (hf : Formed l) {c : Nat} (hc : c < 16) : ∀ k, k ≤ l.length → ∀ n, n < l.length → ((atI l k).getD n 0).testBit c = !(scanN l (stopC l c) k).getD n false := by
  intro k
  induction k with
  | zero => intro _ n hn; exact init_bit hf.le hn hc
  | succ k ih =>
    intro hk n hn
    have hnx := nexts_lt hf (n := k) (by omega)
    rw [atI_succ, scanN_succ, stepS, scanStep, fold_bit _ _ _ _ _ (fun t ht => by rw [atI_length hf.le]; have := hnx t ht; have := hf.le; omega), now_bit, ih (by omega) n hn, ih (by omega) k (by omega)]
    split
    · rename_i h
      rw [foldT_bit _ _ _ (fun t ht => by rw [scanN_length]; exact (hnx t ht).2)]
      simp only [Bool.and_eq_true, Bool.not_eq_true'] at h
      rw [h.1, h.2]
      cases (scanN l (stopC l c) k).getD n false <;> cases decide (n ∈ nextsI l k) <;> rfl
    · rename_i h
      cases h1 : (scanN l (stopC l c) k).getD k false <;> cases h2 : stopC l c k
      · simp
      · simp
      · rw [h1, h2] at h; exact absurd rfl h
      · simp
theorem stored_bit {l : List Ins} (hf : Formed l) {c n : Nat} (hc : c < 16) (hn : n < l.length) : ((storedI l).getD n 0).testBit c = true ↔ ¬ Rch l (stopC l c) n := by
  have h1 : (storedI l).getD n 0 = (atI l l.length).getD n 0 := by
    unfold storedI; simp only [List.getD, List.getElem?_take]; rw [if_pos hn]
  rw [h1, at_scan hf hc l.length (Nat.le_refl _) n hn, Bool.not_eq_true', ← reachC_iff hf]
  show reachC l _ |>.getD n false |> fun x => x = false ↔ _
  simp [reachC]
def Right (l : List Ins) : Prop := Formed l ∧ ∀ n, n < l.length → kind l n = 3 ∨ kind l n = 6 → ¬ Rch l (stopC l (l.getD n ins0).k) n
theorem check_iff {l : List Ins} : (checkI l).2 = 0 ↔ Right l := by
  have key : ∀ (hf : Formed l) n, n < l.length → kind l n = 3 ∨ kind l n = 6 → ((storedI l).getD n 0 / 2 ^ (l.getD n ins0).k % 2 = 0 ↔ Rch l (stopC l (l.getD n ins0).k) n) := by
    intro hf n hn hk
    have hk16 : (l.getD n ins0).k < 16 := by
      have := (wrong_parts (hf.ok n hn)).2.2.1
      have hkd : (kof (l.getD n ins0).code).1 = kind l n := rfl
      omega
    have h1 := stored_bit hf hk16 hn
    rw [Nat.testBit_eq_decide_div_mod_eq, decide_eq_true_eq] at h1
    constructor
    · intro h
      refine Classical.byContradiction fun h2 => ?_
      have := h1.2 h2
      omega
    · intro h
      have h3 : ¬ ((storedI l).getD n 0 / 2 ^ (l.getD n ins0).k % 2 = 1) := fun h2 => h1.1 h2 h
      omega
  constructor
  · intro h
    unfold checkI at h
    split at h
    · exact absurd h (by assumption)
    · rename_i h0
      have hf : Formed l := formed_of (by omega)
      split at h
      · cases h
      · rename_i hn
        rw [List.find?_range_eq_none] at hn
        refine ⟨hf, fun n hnl hk hr => ?_⟩
        have := hn n hnl
        simp only [Bool.not_eq_true', decide_eq_false_iff_not] at this
        exact this ⟨hk, (key hf n hnl hk).2 hr⟩
  · rintro ⟨hf, h⟩
    unfold checkI
    rw [if_neg (fun h0 => formed_fail h0 hf)]
    rw [List.find?_range_eq_none.2 (fun i hi => by
      simp only [Bool.not_eq_true', decide_eq_false_iff_not]
      rintro ⟨h1, h2⟩
      exact h i hi h1 ((key hf i hi h1).1 h2))]
end Go.Proofs.W

namespace Go.Proofs.W
open Go.Vl

/-- What a run has: where it is, A, X, its cells, its steps, what it loaded. -/
structure Rn where
  at' : Nat
  a : Nat
  x : Nat
  cells : List Nat
  steps : Nat
  loads : List Nat
def rn0 : Rn := ⟨0, 0, 0, List.replicate 16 0, 0, []⟩
def wordL (b : List Nat) (k : Nat) : Nat := accB b (placesI k 4 false)
theorem wordL_lt {b : List Nat} (hb : okB b) (k : Nat) : wordL b k < 4294967296 := by
  have := accB_lt hb (placesI k 4 false)
  rw [placesI_length] at this
  exact this
def altV (i : Ins) (s : Rn) : Nat := if (kof i.code).2 then s.x else i.k
def reckV (k a n : Nat) : Option Nat :=
  match k with
  | 16 => some ((a + n) % 4294967296)
  | 17 => some ((a + 4294967296 - n) % 4294967296)
  | 18 => some (a * n % 4294967296)
  | 19 => if n = 0 then none else some (a / n)
  | 20 => some (a ||| n)
  | 21 => some (a &&& n)
  | 22 => some (a * 2 ^ (n % 32) % 4294967296)
  | 23 => some (a / 2 ^ (n % 32))
  | _ => some (a ^^^ n)
def branchV (k a n : Nat) : Bool :=
  match k with
  | 25 => decide (a = n)
  | 26 => decide (a > n)
  | 27 => decide (a ≥ n)
  | _ => decide (a &&& n ≠ 0)
/-- What an instruction does (it is already counted); a value: the run is over. -/
def doV (b : List Nat) (i : Ins) (s : Rn) : Option Nat × Rn :=
  match (kof i.code).1 with
  | 1 => (none, { s with a := wordL b i.k, loads := s.loads ++ [i.k] })
  | 2 => (none, { s with a := i.k })
  | 3 => (none, { s with a := s.cells.getD i.k 0 })
  | 4 => (none, { s with a := 64 })
  | 5 => (none, { s with x := i.k })
  | 6 => (none, { s with x := s.cells.getD i.k 0 })
  | 7 => (none, { s with x := 64 })
  | 8 => (none, { s with cells := s.cells.set i.k s.a })
  | 9 => (none, { s with cells := s.cells.set i.k s.x })
  | 10 => (none, { s with x := s.a })
  | 11 => (none, { s with a := s.x })
  | 12 => (none, { s with a := (4294967296 - s.a) % 4294967296 })
  | 13 => (none, { s with at' := s.at' + i.k })
  | 14 => (some i.k, s)
  | 15 => (some s.a, s)
  | k => if k < 25 then (match reckV k s.a (altV i s) with | some v => (none, { s with a := v }) | none => (some 0, s))
    else (none, { s with at' := s.at' + if branchV k s.a (altV i s) then i.jt else i.jf })
/-- One step. -/
def stepV (b : List Nat) (l : List Ins) (s : Rn) : Option Nat × Rn := doV b (l.getD s.at' ins0) { s with at' := s.at' + 1, steps := s.steps + 1 }
/-- A run. -/
def runV (b : List Nat) (l : List Ins) : Nat → Rn → Nat × Rn
  | 0, s => (0, s)
  | f + 1, s => match stepV b l s with
    | (some v, s') => (v, s')
    | (none, s') => runV b l f s'
structure Rn.ok (s : Rn) : Prop where
  a : s.a < 4294967296
  x : s.x < 4294967296
  n : s.cells.length = 16
  c : ∀ v ∈ s.cells, v < 4294967296
theorem rn0_ok : rn0.ok := ⟨by decide, by decide, by decide, by simp [rn0]⟩
theorem Rn.ok.get {s : Rn} (h : s.ok) (k : Nat) : s.cells.getD k 0 < 4294967296 := by
  rcases Nat.lt_or_ge k s.cells.length with hk | hk
  · have e : s.cells.getD k 0 = s.cells[k] := by simp [List.getD, hk]
    rw [e]; exact h.c _ (List.getElem_mem hk)
  · simp [List.getD, List.getElem?_eq_none hk]
theorem altV_lt {i : Ins} {s : Rn} (hi : i.ok) (hs : s.ok) : altV i s < 4294967296 := by
  unfold altV
  split
  · exact hs.x
  · exact hi.2.2.2
theorem reckV_lt {k a n v : Nat} (ha : a < 4294967296) (hn : n < 4294967296) (h : reckV k a n = some v) : v < 4294967296 := by
  unfold reckV at h
  split at h <;> first | (cases h; done) | skip
  all_goals first
    | (split at h <;> first | (cases h; done) | skip; cases h; exact Nat.lt_of_le_of_lt (Nat.div_le_self _ _) ha)
    | (cases h; exact Nat.mod_lt _ (by decide))
    | (cases h; exact Nat.lt_of_le_of_lt Nat.and_le_left ha)
    | (cases h; exact Nat.lt_of_le_of_lt (Nat.div_le_self _ _) ha)
    | (cases h; exact Nat.or_lt_two_pow (n := 32) ha hn)
    | (cases h; exact Nat.xor_lt_two_pow (n := 32) ha hn)
theorem doV_ok {b : List Nat} (hb : okB b) {i : Ins} (hi : i.ok) {s : Rn} (hs : s.ok) : (doV b i s).2.ok := by
  unfold doV
  split
  all_goals first
    | exact ⟨wordL_lt hb _, hs.x, hs.n, hs.c⟩
    | exact ⟨hi.2.2.2, hs.x, hs.n, hs.c⟩
    | exact ⟨hs.get _, hs.x, hs.n, hs.c⟩
    | exact ⟨(by show 64 < 4294967296; decide), hs.x, hs.n, hs.c⟩
    | exact ⟨hs.a, hi.2.2.2, hs.n, hs.c⟩
    | exact ⟨hs.a, hs.get _, hs.n, hs.c⟩
    | exact ⟨hs.a, (by show 64 < 4294967296; decide), hs.n, hs.c⟩
    | exact ⟨hs.a, hs.x, by simp [hs.n], fun v hv => (List.mem_or_eq_of_mem_set hv).elim (hs.c v) (fun e => e ▸ hs.a)⟩
    | exact ⟨hs.a, hs.x, by simp [hs.n], fun v hv => (List.mem_or_eq_of_mem_set hv).elim (hs.c v) (fun e => e ▸ hs.x)⟩
    | exact ⟨hs.a, hs.a, hs.n, hs.c⟩
    | exact ⟨hs.x, hs.x, hs.n, hs.c⟩
    | exact ⟨Nat.mod_lt _ (by decide), hs.x, hs.n, hs.c⟩
    | exact ⟨hs.a, hs.x, hs.n, hs.c⟩
    | exact hs
    | skip
  split
  · split
    · rename_i v h
      exact ⟨reckV_lt hs.a (altV_lt hi hs) h, hs.x, hs.n, hs.c⟩
    · exact hs
  · exact ⟨hs.a, hs.x, hs.n, hs.c⟩
theorem doV_at {b : List Nat} {i : Ins} {s s' : Rn} (h : doV b i s = (none, s')) : s'.steps = s.steps ∧ ((s'.at' = s.at' ∧ (kof i.code).1 ≠ 13 ∧ (kof i.code).1 ≠ 14 ∧ (kof i.code).1 ≠ 15 ∧ (kof i.code).1 < 25) ∨
    ((kof i.code).1 = 13 ∧ s'.at' = s.at' + i.k) ∨ (25 ≤ (kof i.code).1 ∧ (s'.at' = s.at' + i.jt ∨ s'.at' = s.at' + i.jf))) := by
  unfold doV at h
  split at h
  all_goals first
    | (cases h; done)
    | (cases h; refine ⟨rfl, .inl ⟨rfl, ?_⟩⟩; omega)
    | (cases h; refine ⟨rfl, .inr (.inl ⟨?_, rfl⟩)⟩; assumption)
    | skip
  split at h
  · split at h
    · cases h
      exact ⟨rfl, .inl ⟨rfl, by assumption, by assumption, by assumption, by assumption⟩⟩
    · cases h
  · cases h
    refine ⟨rfl, .inr (.inr ⟨by omega, ?_⟩)⟩
    dsimp only
    split
    · exact .inl rfl
    · exact .inr rfl
/-- An instruction goes on where it may. -/
theorem stepV_next {b : List Nat} {l : List Ins} {s s' : Rn} (h : stepV b l s = (none, s')) : s'.at' ∈ nextsI l s.at' ∧ s'.steps = s.steps + 1 := by
  have hk0 : kind l s.at' = (kof (l.getD s.at' ins0).code).1 := rfl
  obtain ⟨h1, h2⟩ := doV_at h
  refine ⟨?_, h1⟩
  dsimp only at h2
  unfold nextsI
  rw [hk0]
  rcases h2 with ⟨h3, h4, h5, h6, h7⟩ | ⟨h3, h4⟩ | ⟨h3, h4⟩
  · rw [if_neg (by omega), if_neg (by omega), if_neg (by omega), h3]; simp
  · rw [if_neg (by omega), if_pos h3, h4]; simp
  · rw [if_neg (by omega), if_neg (by omega), if_pos h3]
    rcases h4 with h4 | h4 <;> rw [h4] <;> simp
end Go.Proofs.W

namespace Go.Proofs.W
open Go.Vl
set_option maxRecDepth 100000

def uA (n : Nat) : AV := u16 n
theorem u49 : Try.prog.underlying 80 = some (.int .u16) := by kernel_rfl
theorem b49 : Try.prog.bytesOf 80 = 2 := by kernel_rfl
theorem c49 : Try.prog.cellsOf 80 = 1 := by kernel_rfl
theorem goes_spec (s0 s1 s2 nx nn : Nat) (i : Ins) (now to : Nat) (a : List Nat) (ht : to < a.length) (hl : a.length = 4096) (ha : small a) (hn : now < 65536) :
    ECall Try.prog 126 [int to, .bp (0, s0) 0, .bp (2, s2) 0] ⟨[((2, s2), .c [u16 now]), ((1, s1), .c (insA i).cells), ((0, s0), .c (a.map uA))], [], nx, nn⟩ fun _ h' =>
      ∃ k, h' = ⟨[((2, s2), .c [u16 now]), ((1, s1), .c (insA i).cells), ((0, s0), .c ((goI now a to).map uA))], [], nx, k⟩ := by
  refine ecall_of_aw Try.func126 rfl rfl ?_
  (repeat ((conv=>whnf);first|refine ω0 ?_|refine ω1 ?_|refine ω2 ?_|refine ω3 ?_|refine ω4 rfl ?_|refine ω5 rfl ?_|refine ω6 ?_|refine ω7 ?_|refine ω8 ?_|refine ⟨rfl,?_⟩|refine ⟨trivial,?_⟩|refine ⟨⟨rfl,Nat.le_of_ble_eq_true rfl⟩,?_⟩|refine ⟨⟨by kernel_rfl,by kernel_rfl⟩,?_⟩|refine ⟨by decide,?_⟩|refine lit_true ?_|refine lit_false ?_))
  (refine aw_draw 6 ?_ ?_ ?_ ?_; (· kernel_rfl); (· kernel_rfl); (· kernel_rfl))
  (conv => whnf)
  refine ⟨⟨by omega, by omega⟩, ?_⟩
  have he : (0 + (Int.toNat (to : Int)) * Try.prog.cellsOf 80) = to := by rw [c49]; omega
  refine splitO_eq (b := .bp (0, s0) to) (congrArg (AV.bp (0, s0)) he) ?_
  (repeat ((conv=>whnf);first|refine ω0 ?_|refine ω1 ?_|refine ω2 ?_|refine ω3 ?_|refine ω4 rfl ?_|refine ω5 rfl ?_|refine ω6 ?_|refine ω7 ?_|refine ω8 ?_|refine ⟨rfl,?_⟩|refine ⟨trivial,?_⟩|refine ⟨⟨rfl,Nat.le_of_ble_eq_true rfl⟩,?_⟩|refine ⟨⟨by kernel_rfl,by kernel_rfl⟩,?_⟩|refine ⟨by decide,?_⟩|refine lit_true ?_|refine lit_false ?_))
  (conv => whnf)
  refine ⟨⟨rfl, by simpa using ht⟩, splitO_eq (b := u16 (a.getD to 0)) (getD_map ht) ?_⟩
  (repeat ((conv=>whnf);first|refine ω0 ?_|refine ω1 ?_|refine ω2 ?_|refine ω3 ?_|refine ω4 rfl ?_|refine ω5 rfl ?_|refine ω6 ?_|refine ω7 ?_|refine ω8 ?_|refine ⟨rfl,?_⟩|refine ⟨trivial,?_⟩|refine ⟨⟨rfl,Nat.le_of_ble_eq_true rfl⟩,?_⟩|refine ⟨⟨by kernel_rfl,by kernel_rfl⟩,?_⟩|refine ⟨by decide,?_⟩|refine lit_true ?_|refine lit_false ?_))
  (conv => whnf)
  refine ⟨⟨by omega, by omega⟩, splitO_eq (b := .bp (0, s0) to) (congrArg (AV.bp (0, s0)) he) ?_⟩
  (repeat ((conv=>whnf);first|refine ω0 ?_|refine ω1 ?_|refine ω2 ?_|refine ω3 ?_|refine ω4 rfl ?_|refine ω5 rfl ?_|refine ω6 ?_|refine ω7 ?_|refine ω8 ?_|refine ⟨rfl,?_⟩|refine ⟨trivial,?_⟩|refine ⟨⟨rfl,Nat.le_of_ble_eq_true rfl⟩,?_⟩|refine ⟨⟨by kernel_rfl,by kernel_rfl⟩,?_⟩|refine ⟨by decide,?_⟩|refine lit_true ?_|refine lit_false ?_))
  have hb : bitsI .and .u16 (a.getD to 0 : Nat) now = ((a.getD to 0 &&& now : Nat) : Int) := u16_and (ha to) hn
  have hsp : splice (a.map uA) to [AV.v (.int .u16 (bitsI .and .u16 (a.getD to 0 : Nat) now))] = (goI now a to).map uA := by rw [hb]; exact splice_one ht
  (conv => whnf)
  refine ⟨⟨rfl, by simp; omega⟩, ?_⟩
  rw [hsp]
  (repeat ((conv=>whnf);first|refine ω0 ?_|refine ω1 ?_|refine ω2 ?_|refine ω3 ?_|refine ω4 rfl ?_|refine ω5 rfl ?_|refine ω6 ?_|refine ω7 ?_|refine ω8 ?_|refine ⟨rfl,?_⟩|refine ⟨trivial,?_⟩|refine ⟨⟨rfl,Nat.le_of_ble_eq_true rfl⟩,?_⟩|refine ⟨⟨by kernel_rfl,by kernel_rfl⟩,?_⟩|refine ⟨by decide,?_⟩|refine lit_true ?_|refine lit_false ?_))
  exact ret_is rfl ⟨_, rfl⟩
theorem OwnLe.of_eq {a b : Own} (h : a = b) : OwnLe a b := h ▸ OwnLe.refl a
theorem sl_cat0 {n m : Nat} {f g g' : Nat → AV} {oi : Option Vl.Id} (h : m = n) (hg : ∀ k, k < n → g k = g' k) : AVle (.os 1 (0 + n) (appF 0 f g) oi) (.sl 1 m g') := by
  subst h
  rw [Nat.zero_add]
  exact AVle.os_sl.trans (AVle.sl_fun fun k hk => by rw [← hg k hk]; rfl)
theorem z151 : zcells Try.prog 204 = some (List.replicate 4096 (u16 0)) := by kernel_rfl
def foundS (l : List Ins) : AV := u16s (if (formedI l).2 = 0 then storedI l else [])
theorem stored_spec (l : List Ins) (hok : okL l) (hl : l.length ≤ 1000000000) : Tells Try.prog 99 [inss l] (foundS l) := by
  refine tells_of_aw Try.func99 rfl rfl fun nx => ?_
  (repeat ((conv=>whnf);first|refine ω0 ?_|refine ω1 ?_|refine ω2 ?_|refine ω3 ?_|refine ω4 rfl ?_|refine ω5 rfl ?_|refine ω6 ?_|refine ω7 ?_|refine ω8 ?_|refine ⟨rfl,?_⟩|refine ⟨trivial,?_⟩|refine ⟨⟨rfl,Nat.le_of_ble_eq_true rfl⟩,?_⟩|refine ⟨⟨by kernel_rfl,by kernel_rfl⟩,?_⟩|refine ⟨by decide,?_⟩|refine lit_true ?_|refine lit_false ?_))
  refine aop_tells rfl rfl (formed_spec l hok hl) ⟨AVle.refl _, trivial⟩ fun nx => ?_
  (repeat ((conv=>whnf);first|refine ω0 ?_|refine ω1 ?_|refine ω2 ?_|refine ω3 ?_|refine ω4 rfl ?_|refine ω5 rfl ?_|refine ω6 ?_|refine ω7 ?_|refine ω8 ?_|refine ⟨rfl,?_⟩|refine ⟨trivial,?_⟩|refine ⟨⟨rfl,Nat.le_of_ble_eq_true rfl⟩,?_⟩|refine ⟨⟨by kernel_rfl,by kernel_rfl⟩,?_⟩|refine ⟨by decide,?_⟩|refine lit_true ?_|refine lit_false ?_))
  intro c g1; cases c
  · have g1 := bne_no g1
    have hf : Formed l := formed_of (by omega)
    have hpos := hf.pos
    have hle := hf.le
    (repeat ((conv=>whnf);first|refine ω0 ?_|refine ω2 ?_|refine ω3 ?_|refine ω4 rfl ?_|refine ω5 rfl ?_|refine ω6 ?_|refine ω7 ?_|refine ω8 ?_|refine ⟨rfl,?_⟩|refine ⟨trivial,?_⟩|refine ⟨⟨rfl,Nat.le_of_ble_eq_true rfl⟩,?_⟩|refine ⟨⟨by kernel_rfl,by kernel_rfl⟩,?_⟩|refine ⟨by decide,?_⟩|refine lit_true ?_|refine lit_false ?_))
    refine aw_region ?_
    refine aK_alloc rfl rfl z151 ?_
    (repeat ((conv=>whnf);first|refine ω0 ?_|refine ω1 ?_|refine ω2 ?_|refine ω3 ?_|refine ω4 rfl ?_|refine ω5 rfl ?_|refine ω6 ?_|refine ω7 ?_|refine ω8 ?_|refine ⟨rfl,?_⟩|refine ⟨trivial,?_⟩|refine ⟨⟨rfl,Nat.le_of_ble_eq_true rfl⟩,?_⟩|refine ⟨⟨by kernel_rfl,by kernel_rfl⟩,?_⟩|refine ⟨by decide,?_⟩|refine lit_true ?_|refine lit_false ?_))
    refine aw_loop (fun i : Nat => mk 105 [(0, inss l), (5, .bp (0, nx) 0), (22, int l.length), (23, int i)] ⟨[((0, nx), .c ((List.replicate i 65535 ++ List.replicate (4096 - i) 0).map uA))], [], nx + 1, 1⟩) (fun i => i ≤ l.length) (fun i => l.length - i) ?_ ?_
    · exact ⟨0, by omega, ele_tell _ _ rfl rfl (List.Sublist.refl _) .slnil ⟨rfl, OwnLe.of_eq (by simp [uA]), trivial⟩ trivial ⟨AVle.refl _, AVle.refl _, AVle.refl _, AVle.refl _, trivial⟩⟩
    · rintro i h1
      (repeat ((conv=>whnf);first|refine ω0 ?_|refine ω1 ?_|refine ω2 ?_|refine ω3 ?_|refine ω4 rfl ?_|refine ω5 rfl ?_|refine ω6 ?_|refine ω7 ?_|refine ω8 ?_|refine ⟨rfl,?_⟩|refine ⟨trivial,?_⟩|refine ⟨⟨rfl,Nat.le_of_ble_eq_true rfl⟩,?_⟩|refine ⟨⟨by kernel_rfl,by kernel_rfl⟩,?_⟩|refine ⟨by decide,?_⟩|refine lit_true ?_|refine lit_false ?_))
      intro c g2; cases c
      · have h2 := not_of g2
        obtain rfl : i = l.length := by omega
        have he : (0 + (Int.toNat 0) * Try.prog.cellsOf 80) = 0 := by rw [c49]; rfl
        (repeat ((conv=>whnf);first|refine ω0 ?_|refine ω1 ?_|refine ω2 ?_|refine ω3 ?_|refine ω4 rfl ?_|refine ω5 rfl ?_|refine ω6 ?_|refine ω7 ?_|refine ω8 ?_|refine ⟨rfl,?_⟩|refine ⟨trivial,?_⟩|refine ⟨⟨rfl,Nat.le_of_ble_eq_true rfl⟩,?_⟩|refine ⟨⟨by kernel_rfl,by kernel_rfl⟩,?_⟩|refine ⟨by decide,?_⟩|refine lit_true ?_|refine lit_false ?_))
        refine splitO_eq (b := .bp (0, nx) 0) (congrArg (AV.bp (0, nx)) he) ?_
        have hsp : splice ((List.replicate l.length 65535 ++ List.replicate (4096 - l.length) 0).map uA) 0 [AV.v (.int .u16 0)] = (atI l 0).map uA := splice_one (f := uA) (x := 0) (by simp; omega)
        (conv => whnf)
        refine ⟨⟨rfl, by simp; omega⟩, ?_⟩
        rw [hsp]
        (repeat ((conv=>whnf);first|refine ω0 ?_|refine ω1 ?_|refine ω2 ?_|refine ω3 ?_|refine ω4 rfl ?_|refine ω5 rfl ?_|refine ω6 ?_|refine ω7 ?_|refine ω8 ?_|refine ⟨rfl,?_⟩|refine ⟨trivial,?_⟩|refine ⟨⟨rfl,Nat.le_of_ble_eq_true rfl⟩,?_⟩|refine ⟨⟨by kernel_rfl,by kernel_rfl⟩,?_⟩|refine ⟨by decide,?_⟩|refine lit_true ?_|refine lit_false ?_))
        refine aw_loop (fun s : Nat × Nat => mk 105 [(0, inss l), (5, .bp (0, nx) 0), (30, inss l), (31, int l.length), (32, int s.1)] ⟨[((0, nx), .c ((atI l s.1).map uA))], [], s.2, 1⟩) (fun s => s.1 ≤ l.length) (fun s => l.length - s.1) ?_ ?_
        · exact ⟨(0, _), by dsimp only; omega, ele_tell _ _ rfl rfl (List.Sublist.refl _) .slnil ⟨rfl, OwnLe.refl _, trivial⟩ trivial ⟨AVle.refl _, AVle.refl _, AVle.refl _, AVle.refl _, AVle.refl _, trivial⟩⟩
        · rintro ⟨i, nx'⟩ h3
          dsimp only at h3
          have hlen := atI_length hle i
          have hsm := atI_small hle i
          (repeat ((conv=>whnf);first|refine ω0 ?_|refine ω1 ?_|refine ω2 ?_|refine ω3 ?_|refine ω4 rfl ?_|refine ω5 rfl ?_|refine ω6 ?_|refine ω7 ?_|refine ω8 ?_|refine ⟨rfl,?_⟩|refine ⟨trivial,?_⟩|refine ⟨⟨rfl,Nat.le_of_ble_eq_true rfl⟩,?_⟩|refine ⟨⟨by kernel_rfl,by kernel_rfl⟩,?_⟩|refine ⟨by decide,?_⟩|refine lit_true ?_|refine lit_false ?_))
          intro c g3; cases c
          · have h4 := not_of g3
            dsimp only at h4
            obtain rfl : i = l.length := by omega
            (repeat ((conv=>whnf);first|refine ω0 ?_|refine ω2 ?_|refine ω3 ?_|refine ω4 rfl ?_|refine ω5 rfl ?_|refine ω6 ?_|refine ω7 ?_|refine ω8 ?_|refine ⟨rfl,?_⟩|refine ⟨trivial,?_⟩|refine ⟨⟨rfl,Nat.le_of_ble_eq_true rfl⟩,?_⟩|refine ⟨⟨by kernel_rfl,by kernel_rfl⟩,?_⟩|refine ⟨by decide,?_⟩|refine lit_true ?_|refine lit_false ?_))
            refine AW.le (ele_freeze (L := [(0, inss l), (5, .rp ((atI l l.length).map uA))]) (bx := []) (pm := []) (nn := 1) [((0, nx), .c ((atI l l.length).map uA))] rfl rfl (List.Sublist.refl _) .slnil ⟨.refl _, .bp (.head _) rfl, trivial⟩) ?_
            (repeat ((conv=>whnf);first|refine ω0 ?_|refine ω1 ?_|refine ω2 ?_|refine ω3 ?_|refine ω4 rfl ?_|refine ω5 rfl ?_|refine ω6 ?_|refine ω7 ?_|refine ω8 ?_|refine ⟨rfl,?_⟩|refine ⟨trivial,?_⟩|refine ⟨⟨rfl,Nat.le_of_ble_eq_true rfl⟩,?_⟩|refine ⟨⟨by kernel_rfl,by kernel_rfl⟩,?_⟩|refine ⟨by decide,?_⟩|refine lit_true ?_|refine lit_false ?_))
            (conv => whnf)
            refine ⟨⟨⟨by rw [c49, List.length_map]; omega, oneOk_map u49 rfl c49 fun _ => rfl⟩, by omega, by omega⟩, splitO_eq (b := .sl 1 l.length fun k => ((atI l l.length).map uA).getD k .any) (by rw [c49, aelem_one u49 rfl]; rfl) ?_⟩
            obtain ⟨m, hm⟩ : ∃ m, l.length = m + 1 := ⟨l.length - 1, by omega⟩
            have hst : storedI l = (atI l l.length).take l.length := rfl
            (repeat ((conv=>whnf);first|refine ω0 ?_|refine ω1 ?_|refine ω2 ?_|refine ω3 ?_|refine ω4 rfl ?_|refine ω5 rfl ?_|refine ω6 ?_|refine ω7 ?_|refine ω8 ?_|refine ⟨rfl,?_⟩|refine ⟨trivial,?_⟩|refine ⟨⟨rfl,Nat.le_of_ble_eq_true rfl⟩,?_⟩|refine ⟨⟨by kernel_rfl,by kernel_rfl⟩,?_⟩|refine ⟨by decide,?_⟩|refine lit_true ?_|refine lit_false ?_))
            (conv => whnf)
            rw [hm]
            (repeat ((conv=>whnf);first|refine ω0 ?_|refine ω1 ?_|refine ω2 ?_|refine ω3 ?_|refine ω4 rfl ?_|refine ω5 rfl ?_|refine ω6 ?_|refine ω7 ?_|refine ω8 ?_|refine ⟨rfl,?_⟩|refine ⟨trivial,?_⟩|refine ⟨⟨rfl,Nat.le_of_ble_eq_true rfl⟩,?_⟩|refine ⟨⟨by kernel_rfl,by kernel_rfl⟩,?_⟩|refine ⟨by decide,?_⟩|refine lit_true ?_|refine lit_false ?_))
            (conv => whnf)
            have hone : oneRow (m + 1) fun k => ((atI l (m + 1)).map uA).getD k .any := fun k hk => by
              dsimp only; rw [getD_map (d := 0) (by rw [hm] at hlen; omega)]; rfl
            refine ⟨hone, by rw [b49]; omega, by omega, ?_⟩
            (repeat ((conv=>whnf);first|refine ω0 ?_|refine ω1 ?_|refine ω2 ?_|refine ω3 ?_|refine ω4 rfl ?_|refine ω5 rfl ?_|refine ω6 ?_|refine ω7 ?_|refine ω8 ?_|refine ⟨rfl,?_⟩|refine ⟨trivial,?_⟩|refine ⟨⟨rfl,Nat.le_of_ble_eq_true rfl⟩,?_⟩|refine ⟨⟨by kernel_rfl,by kernel_rfl⟩,?_⟩|refine ⟨by decide,?_⟩|refine lit_true ?_|refine lit_false ?_))
            refine ret_tells rfl ?_
            unfold foundS
            rw [if_pos (by omega)]
            have hsl : (storedI l).length = m + 1 := by rw [hst, List.length_take, hlen]; omega
            refine sl_cat0 hsl fun k hk => ?_
            dsimp only
            have hkm : (atI l l.length).getD k 0 = (storedI l).getD k 0 := by
              rw [hst]; simp only [List.getD, List.getElem?_take]; rw [if_pos (by omega)]
            rw [← hkm, hm, getD_map (d := 0) (by rw [hm] at hlen; omega)]; rfl
          · have h4 := yes_of g3
            dsimp only at h4
            have hi : i < l.length := by omega
            have hit : (0 + (Int.toNat (i : Int)) * Try.prog.cellsOf 80) = i := by rw [c49]; omega
            have hki : (l.getD i ins0).ok := hok.get hi
            have hwr := hf.ok i hi
            have hpt := wrong_parts hwr
            have hnx := nexts_lt hf hi
            have hnow := now_small (hsm i) hwr
            have hstep := atI_succ l i
            (repeat ((conv=>whnf);first|refine ω0 ?_|refine ω1 ?_|refine ω2 ?_|refine ω3 ?_|refine ω4 rfl ?_|refine ω5 rfl ?_|refine ω6 ?_|refine ω7 ?_|refine ω8 ?_|refine ⟨rfl,?_⟩|refine ⟨trivial,?_⟩|refine ⟨⟨rfl,Nat.le_of_ble_eq_true rfl⟩,?_⟩|refine ⟨⟨by kernel_rfl,by kernel_rfl⟩,?_⟩|refine ⟨by decide,?_⟩|refine lit_true ?_|refine lit_false ?_))
            refine ⟨⟨by dsimp only; omega, by dsimp only; omega⟩, ?_⟩
            (repeat ((conv=>whnf);first|refine ω0 ?_|refine ω1 ?_|refine ω2 ?_|refine ω3 ?_|refine ω4 rfl ?_|refine ω5 rfl ?_|refine ω6 ?_|refine ω7 ?_|refine ω8 ?_|refine ⟨rfl,?_⟩|refine ⟨trivial,?_⟩|refine ⟨⟨rfl,Nat.le_of_ble_eq_true rfl⟩,?_⟩|refine ⟨⟨by kernel_rfl,by kernel_rfl⟩,?_⟩|refine ⟨by decide,?_⟩|refine lit_true ?_|refine lit_false ?_))
            refine aop_tells rfl rfl (of_kind (l.getD i ins0).code hki.1) ⟨AVle.refl _, trivial⟩ fun nx3 => ?_
            (repeat ((conv=>whnf);first|refine ω0 ?_|refine ω1 ?_|refine ω2 ?_|refine ω3 ?_|refine ω4 rfl ?_|refine ω5 rfl ?_|refine ω6 ?_|refine ω7 ?_|refine ω8 ?_|refine ⟨rfl,?_⟩|refine ⟨trivial,?_⟩|refine ⟨⟨rfl,Nat.le_of_ble_eq_true rfl⟩,?_⟩|refine ⟨⟨by kernel_rfl,by kernel_rfl⟩,?_⟩|refine ⟨by decide,?_⟩|refine lit_true ?_|refine lit_false ?_))
            refine ⟨⟨by dsimp only; omega, by dsimp only; omega⟩, splitO_eq (b := .bp (0, _) i) (congrArg (AV.bp (0, _)) hit) ?_⟩
            (conv => whnf)
            refine ⟨⟨rfl, by simp; omega⟩, splitO_eq (b := u16 ((atI l i).getD i 0 : Nat)) (getD_map (by dsimp only; omega)) ?_⟩
            (repeat ((conv=>whnf);first|refine ω0 ?_|refine ω1 ?_|refine ω2 ?_|refine ω3 ?_|refine ω4 rfl ?_|refine ω5 rfl ?_|refine ω6 ?_|refine ω7 ?_|refine ω8 ?_|refine ⟨rfl,?_⟩|refine ⟨trivial,?_⟩|refine ⟨⟨rfl,Nat.le_of_ble_eq_true rfl⟩,?_⟩|refine ⟨⟨by kernel_rfl,by kernel_rfl⟩,?_⟩|refine ⟨by decide,?_⟩|refine lit_true ?_|refine lit_false ?_))
            intro c a1; cases c
            · have a1 := not_of a1
              (repeat ((conv=>whnf);first|refine ω0 ?_|refine ω1 ?_|refine ω2 ?_|refine ω3 ?_|refine ω4 rfl ?_|refine ω5 rfl ?_|refine ω6 ?_|refine ω7 ?_|refine ω8 ?_|refine ⟨rfl,?_⟩|refine ⟨trivial,?_⟩|refine ⟨⟨rfl,Nat.le_of_ble_eq_true rfl⟩,?_⟩|refine ⟨⟨by kernel_rfl,by kernel_rfl⟩,?_⟩|refine ⟨by decide,?_⟩|refine lit_true ?_|refine lit_false ?_))
              intro c a2; cases c
              · have a2 := not_of a2
                have hnowd : nowI (l.getD i ins0) ((atI l i).getD i 0) = (atI l i).getD i 0 := if_neg (by unfold isStore; omega)
                generalize hnn : (atI l i).getD i 0 = now at hnowd ⊢
                rw [hnn, hnowd] at hnow
                (repeat ((conv=>whnf);first|refine ω0 ?_|refine ω1 ?_|refine ω2 ?_|refine ω3 ?_|refine ω4 rfl ?_|refine ω5 rfl ?_|refine ω6 ?_|refine ω7 ?_|refine ω8 ?_|refine ⟨rfl,?_⟩|refine ⟨trivial,?_⟩|refine ⟨⟨rfl,Nat.le_of_ble_eq_true rfl⟩,?_⟩|refine ⟨⟨by kernel_rfl,by kernel_rfl⟩,?_⟩|refine ⟨by decide,?_⟩|refine lit_true ?_|refine lit_false ?_))
                intro c b1; cases c
                · have b1 := not_of b1
                  (repeat ((conv=>whnf);first|refine ω0 ?_|refine ω1 ?_|refine ω2 ?_|refine ω3 ?_|refine ω4 rfl ?_|refine ω5 rfl ?_|refine ω6 ?_|refine ω7 ?_|refine ω8 ?_|refine ⟨rfl,?_⟩|refine ⟨trivial,?_⟩|refine ⟨⟨rfl,Nat.le_of_ble_eq_true rfl⟩,?_⟩|refine ⟨⟨by kernel_rfl,by kernel_rfl⟩,?_⟩|refine ⟨by decide,?_⟩|refine lit_true ?_|refine lit_false ?_))
                  intro c b2; cases c
                  · have b2 := not_of b2
                    (repeat ((conv=>whnf);first|refine ω0 ?_|refine ω1 ?_|refine ω2 ?_|refine ω3 ?_|refine ω4 rfl ?_|refine ω5 rfl ?_|refine ω6 ?_|refine ω7 ?_|refine ω8 ?_|refine ⟨rfl,?_⟩|refine ⟨trivial,?_⟩|refine ⟨⟨rfl,Nat.le_of_ble_eq_true rfl⟩,?_⟩|refine ⟨⟨by kernel_rfl,by kernel_rfl⟩,?_⟩|refine ⟨by decide,?_⟩|refine lit_true ?_|refine lit_false ?_))
                    intro c b3; cases c
                    · have b3 := not_of b3
                      (repeat ((conv=>whnf);first|refine ω0 ?_|refine ω1 ?_|refine ω2 ?_|refine ω3 ?_|refine ω4 rfl ?_|refine ω5 rfl ?_|refine ω6 ?_|refine ω7 ?_|refine ω8 ?_|refine ⟨rfl,?_⟩|refine ⟨trivial,?_⟩|refine ⟨⟨rfl,Nat.le_of_ble_eq_true rfl⟩,?_⟩|refine ⟨⟨by kernel_rfl,by kernel_rfl⟩,?_⟩|refine ⟨by decide,?_⟩|refine lit_true ?_|refine lit_false ?_))
                      intro c b4; cases c
                      · have b4 := not_of b4
                        have hnxt : nextsI l i = [i + 1] := by unfold nextsI kind; rw [if_neg (by omega), if_neg (by omega), if_neg (by omega)]
                        (repeat ((conv=>whnf);first|refine ω0 ?_|refine ω1 ?_|refine ω2 ?_|refine ω3 ?_|refine ω4 rfl ?_|refine ω5 rfl ?_|refine ω6 ?_|refine ω7 ?_|refine ω8 ?_|refine ⟨rfl,?_⟩|refine ⟨trivial,?_⟩|refine ⟨⟨rfl,Nat.le_of_ble_eq_true rfl⟩,?_⟩|refine ⟨⟨by kernel_rfl,by kernel_rfl⟩,?_⟩|refine ⟨by decide,?_⟩|refine lit_true ?_|refine lit_false ?_))
                        refine aop_call rfl rfl (ECall.args (bs := [int (i + 1 : Nat), .bp (0, _) 0, .bp (2, _) 0]) ⟨le_int (wrap_succ (by dsimp only; omega)), AVle.refl _, AVle.refl _, trivial⟩
                          (goes_spec nx nx' nx3 _ _ (l.getD i ins0) now (i + 1) (atI l i) (by have := (hnx (i + 1) (by rw [hnxt]; simp)).2; omega) (by first | omega | (simp only [goI_length]; omega)) (hsm) hnow)) fun r h' hq => ?_
                        obtain ⟨kk, rfl⟩ := hq
                        refine Named.same ?_
                        (repeat ((conv=>whnf);first|refine ω0 ?_|refine ω1 ?_|refine ω2 ?_|refine ω3 ?_|refine ω4 rfl ?_|refine ω5 rfl ?_|refine ω6 ?_|refine ω7 ?_|refine ω8 ?_|refine ⟨rfl,?_⟩|refine ⟨trivial,?_⟩|refine ⟨⟨rfl,Nat.le_of_ble_eq_true rfl⟩,?_⟩|refine ⟨⟨by kernel_rfl,by kernel_rfl⟩,?_⟩|refine ⟨by decide,?_⟩|refine lit_true ?_|refine lit_false ?_))
                        refine back (i + 1, _) (by dsimp only; omega) (by dsimp only; omega) (ele_tell [((0, _), .c ((goI now (atI l i) (i + 1)).map uA))] [] rfl rfl (.cons _ (.cons _ (.cons_cons _ .slnil))) .slnil ⟨rfl, OwnLe.of_eq ?_, trivial⟩ trivial ⟨AVle.refl _, AVle.refl _, AVle.refl _, AVle.refl _, le_int (wrap_succ (by dsimp only; omega)), trivial⟩)
                        dsimp only
                        rw [hstep]; unfold stepS; rw [hnxt]; (try rw [hnn]); rw [hnowd]; rfl
                      · have b4 := yes_of b4
                        have hnxt : nextsI l i = [i + 1 + (l.getD i ins0).jt, i + 1 + (l.getD i ins0).jf] := by unfold nextsI kind; rw [if_neg (by omega), if_neg (by omega), if_pos (by omega)]
                        (repeat ((conv=>whnf);first|refine ω0 ?_|refine ω1 ?_|refine ω2 ?_|refine ω3 ?_|refine ω4 rfl ?_|refine ω5 rfl ?_|refine ω6 ?_|refine ω7 ?_|refine ω8 ?_|refine ⟨rfl,?_⟩|refine ⟨trivial,?_⟩|refine ⟨⟨rfl,Nat.le_of_ble_eq_true rfl⟩,?_⟩|refine ⟨⟨by kernel_rfl,by kernel_rfl⟩,?_⟩|refine ⟨by decide,?_⟩|refine lit_true ?_|refine lit_false ?_))
                        refine aop_call rfl rfl (ECall.args (bs := [int (i + 1 + (l.getD i ins0).jt : Nat), .bp (0, _) 0, .bp (2, _) 0]) ⟨le_int (by show IntKind.i64.wrap (IntKind.i64.wrap ((i : Int) + 1) + IntKind.i64.wrap (((l.getD i ins0).jt : Nat) : Int)) = _; rw [show IntKind.i64.wrap (((l.getD i ins0).jt : Nat) : Int) = ((l.getD i ins0).jt : Nat) from wrap_id (by omega) (by omega), show IntKind.i64.wrap ((i : Int) + 1) = (i : Int) + 1 from wrap_id (by omega) (by omega), wrap_id (by omega) (by omega)]; omega), AVle.refl _, AVle.refl _, trivial⟩
                          (goes_spec nx nx' nx3 _ _ (l.getD i ins0) now (i + 1 + (l.getD i ins0).jt) (atI l i) (by have := (hnx (i + 1 + (l.getD i ins0).jt) (by rw [hnxt]; simp)).2; omega) (by first | omega | (simp only [goI_length]; omega)) (hsm) hnow)) fun r h' hq => ?_
                        obtain ⟨kk, rfl⟩ := hq
                        refine Named.same ?_
                        (repeat ((conv=>whnf);first|refine ω0 ?_|refine ω1 ?_|refine ω2 ?_|refine ω3 ?_|refine ω4 rfl ?_|refine ω5 rfl ?_|refine ω6 ?_|refine ω7 ?_|refine ω8 ?_|refine ⟨rfl,?_⟩|refine ⟨trivial,?_⟩|refine ⟨⟨rfl,Nat.le_of_ble_eq_true rfl⟩,?_⟩|refine ⟨⟨by kernel_rfl,by kernel_rfl⟩,?_⟩|refine ⟨by decide,?_⟩|refine lit_true ?_|refine lit_false ?_))
                        refine aop_call rfl rfl (ECall.args (bs := [int (i + 1 + (l.getD i ins0).jf : Nat), .bp (0, _) 0, .bp (2, _) 0]) ⟨le_int (by show IntKind.i64.wrap (IntKind.i64.wrap ((i : Int) + 1) + IntKind.i64.wrap (((l.getD i ins0).jf : Nat) : Int)) = _; rw [show IntKind.i64.wrap (((l.getD i ins0).jf : Nat) : Int) = ((l.getD i ins0).jf : Nat) from wrap_id (by omega) (by omega), show IntKind.i64.wrap ((i : Int) + 1) = (i : Int) + 1 from wrap_id (by omega) (by omega), wrap_id (by omega) (by omega)]; omega), AVle.refl _, AVle.refl _, trivial⟩
                          (goes_spec nx nx' nx3 _ _ (l.getD i ins0) now (i + 1 + (l.getD i ins0).jf) (goI now (atI l i) (i + 1 + (l.getD i ins0).jt)) (by have := (hnx (i + 1 + (l.getD i ins0).jf) (by rw [hnxt]; simp)).2; simp only [goI_length]; omega) (by first | omega | (simp only [goI_length]; omega)) (goI_small hsm) hnow)) fun r h' hq => ?_
                        obtain ⟨kk, rfl⟩ := hq
                        refine Named.same ?_
                        (repeat ((conv=>whnf);first|refine ω0 ?_|refine ω1 ?_|refine ω2 ?_|refine ω3 ?_|refine ω4 rfl ?_|refine ω5 rfl ?_|refine ω6 ?_|refine ω7 ?_|refine ω8 ?_|refine ⟨rfl,?_⟩|refine ⟨trivial,?_⟩|refine ⟨⟨rfl,Nat.le_of_ble_eq_true rfl⟩,?_⟩|refine ⟨⟨by kernel_rfl,by kernel_rfl⟩,?_⟩|refine ⟨by decide,?_⟩|refine lit_true ?_|refine lit_false ?_))
                        refine back (i + 1, _) (by dsimp only; omega) (by dsimp only; omega) (ele_tell [((0, _), .c ((goI now (goI now (atI l i) (i + 1 + (l.getD i ins0).jt)) (i + 1 + (l.getD i ins0).jf)).map uA))] [] rfl rfl (.cons _ (.cons _ (.cons_cons _ .slnil))) .slnil ⟨rfl, OwnLe.of_eq ?_, trivial⟩ trivial ⟨AVle.refl _, AVle.refl _, AVle.refl _, AVle.refl _, le_int (wrap_succ (by dsimp only; omega)), trivial⟩)
                        dsimp only
                        rw [hstep]; unfold stepS; rw [hnxt]; (try rw [hnn]); rw [hnowd]; rfl
                    · have b3 := yes_of b3
                      have hnxt : nextsI l i = [i + 1 + (l.getD i ins0).k] := by unfold nextsI kind; rw [if_neg (by omega), if_pos (by omega)]
                      (repeat ((conv=>whnf);first|refine ω0 ?_|refine ω1 ?_|refine ω2 ?_|refine ω3 ?_|refine ω4 rfl ?_|refine ω5 rfl ?_|refine ω6 ?_|refine ω7 ?_|refine ω8 ?_|refine ⟨rfl,?_⟩|refine ⟨trivial,?_⟩|refine ⟨⟨rfl,Nat.le_of_ble_eq_true rfl⟩,?_⟩|refine ⟨⟨by kernel_rfl,by kernel_rfl⟩,?_⟩|refine ⟨by decide,?_⟩|refine lit_true ?_|refine lit_false ?_))
                      refine aop_call rfl rfl (ECall.args (bs := [int (i + 1 + (l.getD i ins0).k : Nat), .bp (0, _) 0, .bp (2, _) 0]) ⟨le_int (by show IntKind.i64.wrap (IntKind.i64.wrap ((i : Int) + 1) + IntKind.i64.wrap (((l.getD i ins0).k : Nat) : Int)) = _; rw [show IntKind.i64.wrap (((l.getD i ins0).k : Nat) : Int) = ((l.getD i ins0).k : Nat) from wrap_id (by omega) (by omega), show IntKind.i64.wrap ((i : Int) + 1) = (i : Int) + 1 from wrap_id (by omega) (by omega), wrap_id (by omega) (by omega)]; omega), AVle.refl _, AVle.refl _, trivial⟩
                        (goes_spec nx nx' nx3 _ _ (l.getD i ins0) now (i + 1 + (l.getD i ins0).k) (atI l i) (by have := (hnx (i + 1 + (l.getD i ins0).k) (by rw [hnxt]; simp)).2; omega) (by first | omega | (simp only [goI_length]; omega)) (hsm) hnow)) fun r h' hq => ?_
                      obtain ⟨kk, rfl⟩ := hq
                      refine Named.same ?_
                      (repeat ((conv=>whnf);first|refine ω0 ?_|refine ω1 ?_|refine ω2 ?_|refine ω3 ?_|refine ω4 rfl ?_|refine ω5 rfl ?_|refine ω6 ?_|refine ω7 ?_|refine ω8 ?_|refine ⟨rfl,?_⟩|refine ⟨trivial,?_⟩|refine ⟨⟨rfl,Nat.le_of_ble_eq_true rfl⟩,?_⟩|refine ⟨⟨by kernel_rfl,by kernel_rfl⟩,?_⟩|refine ⟨by decide,?_⟩|refine lit_true ?_|refine lit_false ?_))
                      refine back (i + 1, _) (by dsimp only; omega) (by dsimp only; omega) (ele_tell [((0, _), .c ((goI now (atI l i) (i + 1 + (l.getD i ins0).k)).map uA))] [] rfl rfl (.cons _ (.cons _ (.cons_cons _ .slnil))) .slnil ⟨rfl, OwnLe.of_eq ?_, trivial⟩ trivial ⟨AVle.refl _, AVle.refl _, AVle.refl _, AVle.refl _, le_int (wrap_succ (by dsimp only; omega)), trivial⟩)
                      dsimp only
                      rw [hstep]; unfold stepS; rw [hnxt]; (try rw [hnn]); rw [hnowd]; rfl
                  · have b2 := yes_of b2
                    have hnxt : nextsI l i = [] := by unfold nextsI kind; rw [if_pos (by omega)]
                    (repeat ((conv=>whnf);first|refine ω0 ?_|refine ω1 ?_|refine ω2 ?_|refine ω3 ?_|refine ω4 rfl ?_|refine ω5 rfl ?_|refine ω6 ?_|refine ω7 ?_|refine ω8 ?_|refine ⟨rfl,?_⟩|refine ⟨trivial,?_⟩|refine ⟨⟨rfl,Nat.le_of_ble_eq_true rfl⟩,?_⟩|refine ⟨⟨by kernel_rfl,by kernel_rfl⟩,?_⟩|refine ⟨by decide,?_⟩|refine lit_true ?_|refine lit_false ?_))
                    refine back (i + 1, _) (by dsimp only; omega) (by dsimp only; omega) (ele_tell [((0, _), .c ((atI l i).map uA))] [] rfl rfl (.cons _ (.cons _ (.cons_cons _ .slnil))) .slnil ⟨rfl, OwnLe.of_eq ?_, trivial⟩ trivial ⟨AVle.refl _, AVle.refl _, AVle.refl _, AVle.refl _, le_int (wrap_succ (by dsimp only; omega)), trivial⟩)
                    dsimp only
                    rw [hstep]; unfold stepS; rw [hnxt]; (try rw [hnn]); rw [hnowd]; rfl
                · have b1 := yes_of b1
                  have hnxt : nextsI l i = [] := by unfold nextsI kind; rw [if_pos (by omega)]
                  (repeat ((conv=>whnf);first|refine ω0 ?_|refine ω1 ?_|refine ω2 ?_|refine ω3 ?_|refine ω4 rfl ?_|refine ω5 rfl ?_|refine ω6 ?_|refine ω7 ?_|refine ω8 ?_|refine ⟨rfl,?_⟩|refine ⟨trivial,?_⟩|refine ⟨⟨rfl,Nat.le_of_ble_eq_true rfl⟩,?_⟩|refine ⟨⟨by kernel_rfl,by kernel_rfl⟩,?_⟩|refine ⟨by decide,?_⟩|refine lit_true ?_|refine lit_false ?_))
                  refine back (i + 1, _) (by dsimp only; omega) (by dsimp only; omega) (ele_tell [((0, _), .c ((atI l i).map uA))] [] rfl rfl (.cons _ (.cons _ (.cons_cons _ .slnil))) .slnil ⟨rfl, OwnLe.of_eq ?_, trivial⟩ trivial ⟨AVle.refl _, AVle.refl _, AVle.refl _, AVle.refl _, le_int (wrap_succ (by dsimp only; omega)), trivial⟩)
                  dsimp only
                  rw [hstep]; unfold stepS; rw [hnxt]; (try rw [hnn]); rw [hnowd]; rfl
              · have a2 := yes_of a2
                have hnowd : nowI (l.getD i ins0) ((atI l i).getD i 0) = (atI l i).getD i 0 ||| 2 ^ (l.getD i ins0).k := if_pos (by unfold isStore; omega)
                have hk16 : (l.getD i ins0).k < 16 := by omega
                have hp16 : 2 ^ (l.getD i ins0).k < 65536 := Nat.pow_lt_pow_right (n := 16) (by decide) hk16
                have hsh : IntKind.u16.wrap (1 * 2 ^ (min (Int.toNat ((l.getD i ins0).k : Nat)) IntKind.u16.bits)) = ((2 ^ (l.getD i ins0).k : Nat) : Int) := by
                  have : min (Int.toNat ((l.getD i ins0).k : Nat)) IntKind.u16.bits = (l.getD i ins0).k := by show min _ 16 = _; omega
                  have h2 : ((1 : Int) * 2 ^ (l.getD i ins0).k) = ((2 ^ (l.getD i ins0).k : Nat) : Int) := by simp
                  rw [this, h2]
                  refine IntWalk.u16_in _ ?_
                  generalize 2 ^ (l.getD i ins0).k = q at hp16
                  omega
                have hor : bitsI .or .u16 ((atI l i).getD i 0 : Nat) ((2 ^ (l.getD i ins0).k : Nat) : Int) = (((atI l i).getD i 0 ||| 2 ^ (l.getD i ins0).k : Nat) : Int) := u16_or (hsm i) hp16
                have hnxt : nextsI l i = [i + 1] := by unfold nextsI kind; rw [if_neg (by omega), if_neg (by omega), if_neg (by omega)]
                generalize hnn : (atI l i).getD i 0 ||| 2 ^ (l.getD i ins0).k = now at hnowd hor
                rw [hnowd] at hnow
                (repeat ((conv=>whnf);first|refine ω0 ?_|refine ω1 ?_|refine ω2 ?_|refine ω3 ?_|refine ω4 rfl ?_|refine ω5 rfl ?_|refine ω6 ?_|refine ω7 ?_|refine ω8 ?_|refine ⟨rfl,?_⟩|refine ⟨trivial,?_⟩|refine ⟨⟨rfl,Nat.le_of_ble_eq_true rfl⟩,?_⟩|refine ⟨⟨by kernel_rfl,by kernel_rfl⟩,?_⟩|refine ⟨by decide,?_⟩|refine lit_true ?_|refine lit_false ?_))
                (conv => whnf)
                refine ⟨Int.natCast_nonneg _, splitO_eq (b := u16 ((2 ^ (l.getD i ins0).k : Nat) : Int)) (congrArg (fun x : Int => u16 x) hsh) ?_⟩
                (repeat ((conv=>whnf);first|refine ω0 ?_|refine ω1 ?_|refine ω2 ?_|refine ω3 ?_|refine ω4 rfl ?_|refine ω5 rfl ?_|refine ω6 ?_|refine ω7 ?_|refine ω8 ?_|refine ⟨rfl,?_⟩|refine ⟨trivial,?_⟩|refine ⟨⟨rfl,Nat.le_of_ble_eq_true rfl⟩,?_⟩|refine ⟨⟨by kernel_rfl,by kernel_rfl⟩,?_⟩|refine ⟨by decide,?_⟩|refine lit_true ?_|refine lit_false ?_))
                intro c b1; cases c
                case true => exact absurd (yes_of b1) (by omega)
                (repeat ((conv=>whnf);first|refine ω0 ?_|refine ω1 ?_|refine ω2 ?_|refine ω3 ?_|refine ω4 rfl ?_|refine ω5 rfl ?_|refine ω6 ?_|refine ω7 ?_|refine ω8 ?_|refine ⟨rfl,?_⟩|refine ⟨trivial,?_⟩|refine ⟨⟨rfl,Nat.le_of_ble_eq_true rfl⟩,?_⟩|refine ⟨⟨by kernel_rfl,by kernel_rfl⟩,?_⟩|refine ⟨by decide,?_⟩|refine lit_true ?_|refine lit_false ?_))
                intro c b2; cases c
                case true => exact absurd (yes_of b2) (by omega)
                (repeat ((conv=>whnf);first|refine ω0 ?_|refine ω1 ?_|refine ω2 ?_|refine ω3 ?_|refine ω4 rfl ?_|refine ω5 rfl ?_|refine ω6 ?_|refine ω7 ?_|refine ω8 ?_|refine ⟨rfl,?_⟩|refine ⟨trivial,?_⟩|refine ⟨⟨rfl,Nat.le_of_ble_eq_true rfl⟩,?_⟩|refine ⟨⟨by kernel_rfl,by kernel_rfl⟩,?_⟩|refine ⟨by decide,?_⟩|refine lit_true ?_|refine lit_false ?_))
                intro c b3; cases c
                case true => exact absurd (yes_of b3) (by omega)
                (repeat ((conv=>whnf);first|refine ω0 ?_|refine ω1 ?_|refine ω2 ?_|refine ω3 ?_|refine ω4 rfl ?_|refine ω5 rfl ?_|refine ω6 ?_|refine ω7 ?_|refine ω8 ?_|refine ⟨rfl,?_⟩|refine ⟨trivial,?_⟩|refine ⟨⟨rfl,Nat.le_of_ble_eq_true rfl⟩,?_⟩|refine ⟨⟨by kernel_rfl,by kernel_rfl⟩,?_⟩|refine ⟨by decide,?_⟩|refine lit_true ?_|refine lit_false ?_))
                intro c b4; cases c
                case true => exact absurd (yes_of b4) (by omega)
                (repeat ((conv=>whnf);first|refine ω0 ?_|refine ω1 ?_|refine ω2 ?_|refine ω3 ?_|refine ω4 rfl ?_|refine ω5 rfl ?_|refine ω6 ?_|refine ω7 ?_|refine ω8 ?_|refine ⟨rfl,?_⟩|refine ⟨trivial,?_⟩|refine ⟨⟨rfl,Nat.le_of_ble_eq_true rfl⟩,?_⟩|refine ⟨⟨by kernel_rfl,by kernel_rfl⟩,?_⟩|refine ⟨by decide,?_⟩|refine lit_true ?_|refine lit_false ?_))
                refine aop_call rfl rfl (ECall.args (bs := [int (i + 1 : Nat), .bp (0, _) 0, .bp (2, _) 0]) ⟨le_int (wrap_succ (by dsimp only; omega)), AVle.refl _, AVle.refl _, trivial⟩
                  (ECall.tell (goes_spec nx nx' nx3 (nx3 + 1) 3 (l.getD i ins0) now (i + 1) (atI l i) (by have := (hnx (i + 1) (by rw [hnxt]; simp)).2; omega) (by first | omega | (simp only [goI_length]; omega)) (hsm) hnow) ⟨rfl, OwnLe.of_eq (by rw [hor]; rfl), rfl, OwnLe.refl _, rfl, OwnLe.refl _, trivial⟩ trivial rfl)) fun r h' hq => ?_
                obtain ⟨kk, rfl⟩ := hq
                refine Named.same ?_
                (repeat ((conv=>whnf);first|refine ω0 ?_|refine ω1 ?_|refine ω2 ?_|refine ω3 ?_|refine ω4 rfl ?_|refine ω5 rfl ?_|refine ω6 ?_|refine ω7 ?_|refine ω8 ?_|refine ⟨rfl,?_⟩|refine ⟨trivial,?_⟩|refine ⟨⟨rfl,Nat.le_of_ble_eq_true rfl⟩,?_⟩|refine ⟨⟨by kernel_rfl,by kernel_rfl⟩,?_⟩|refine ⟨by decide,?_⟩|refine lit_true ?_|refine lit_false ?_))
                refine back (i + 1, _) (by dsimp only; omega) (by dsimp only; omega) (ele_tell [((0, _), .c ((goI now (atI l i) (i + 1)).map uA))] [] rfl rfl (.cons _ (.cons _ (.cons_cons _ .slnil))) .slnil ⟨rfl, OwnLe.of_eq ?_, trivial⟩ trivial ⟨AVle.refl _, AVle.refl _, AVle.refl _, AVle.refl _, le_int (wrap_succ (by dsimp only; omega)), trivial⟩)
                dsimp only
                rw [hstep]; unfold stepS; rw [hnxt]; (try rw [hnn]); rw [hnowd]; rfl
            · have a1 := yes_of a1
              have hnowd : nowI (l.getD i ins0) ((atI l i).getD i 0) = (atI l i).getD i 0 ||| 2 ^ (l.getD i ins0).k := if_pos (by unfold isStore; omega)
              have hk16 : (l.getD i ins0).k < 16 := by omega
              have hp16 : 2 ^ (l.getD i ins0).k < 65536 := Nat.pow_lt_pow_right (n := 16) (by decide) hk16
              have hsh : IntKind.u16.wrap (1 * 2 ^ (min (Int.toNat ((l.getD i ins0).k : Nat)) IntKind.u16.bits)) = ((2 ^ (l.getD i ins0).k : Nat) : Int) := by
                have : min (Int.toNat ((l.getD i ins0).k : Nat)) IntKind.u16.bits = (l.getD i ins0).k := by show min _ 16 = _; omega
                have h2 : ((1 : Int) * 2 ^ (l.getD i ins0).k) = ((2 ^ (l.getD i ins0).k : Nat) : Int) := by simp
                rw [this, h2]
                refine IntWalk.u16_in _ ?_
                generalize 2 ^ (l.getD i ins0).k = q at hp16
                omega
              have hor : bitsI .or .u16 ((atI l i).getD i 0 : Nat) ((2 ^ (l.getD i ins0).k : Nat) : Int) = (((atI l i).getD i 0 ||| 2 ^ (l.getD i ins0).k : Nat) : Int) := u16_or (hsm i) hp16
              have hnxt : nextsI l i = [i + 1] := by unfold nextsI kind; rw [if_neg (by omega), if_neg (by omega), if_neg (by omega)]
              generalize hnn : (atI l i).getD i 0 ||| 2 ^ (l.getD i ins0).k = now at hnowd hor
              rw [hnowd] at hnow
              (repeat ((conv=>whnf);first|refine ω0 ?_|refine ω1 ?_|refine ω2 ?_|refine ω3 ?_|refine ω4 rfl ?_|refine ω5 rfl ?_|refine ω6 ?_|refine ω7 ?_|refine ω8 ?_|refine ⟨rfl,?_⟩|refine ⟨trivial,?_⟩|refine ⟨⟨rfl,Nat.le_of_ble_eq_true rfl⟩,?_⟩|refine ⟨⟨by kernel_rfl,by kernel_rfl⟩,?_⟩|refine ⟨by decide,?_⟩|refine lit_true ?_|refine lit_false ?_))
              (conv => whnf)
              refine ⟨Int.natCast_nonneg _, splitO_eq (b := u16 ((2 ^ (l.getD i ins0).k : Nat) : Int)) (congrArg (fun x : Int => u16 x) hsh) ?_⟩
              (repeat ((conv=>whnf);first|refine ω0 ?_|refine ω1 ?_|refine ω2 ?_|refine ω3 ?_|refine ω4 rfl ?_|refine ω5 rfl ?_|refine ω6 ?_|refine ω7 ?_|refine ω8 ?_|refine ⟨rfl,?_⟩|refine ⟨trivial,?_⟩|refine ⟨⟨rfl,Nat.le_of_ble_eq_true rfl⟩,?_⟩|refine ⟨⟨by kernel_rfl,by kernel_rfl⟩,?_⟩|refine ⟨by decide,?_⟩|refine lit_true ?_|refine lit_false ?_))
              intro c b1; cases c
              case true => exact absurd (yes_of b1) (by omega)
              (repeat ((conv=>whnf);first|refine ω0 ?_|refine ω1 ?_|refine ω2 ?_|refine ω3 ?_|refine ω4 rfl ?_|refine ω5 rfl ?_|refine ω6 ?_|refine ω7 ?_|refine ω8 ?_|refine ⟨rfl,?_⟩|refine ⟨trivial,?_⟩|refine ⟨⟨rfl,Nat.le_of_ble_eq_true rfl⟩,?_⟩|refine ⟨⟨by kernel_rfl,by kernel_rfl⟩,?_⟩|refine ⟨by decide,?_⟩|refine lit_true ?_|refine lit_false ?_))
              intro c b2; cases c
              case true => exact absurd (yes_of b2) (by omega)
              (repeat ((conv=>whnf);first|refine ω0 ?_|refine ω1 ?_|refine ω2 ?_|refine ω3 ?_|refine ω4 rfl ?_|refine ω5 rfl ?_|refine ω6 ?_|refine ω7 ?_|refine ω8 ?_|refine ⟨rfl,?_⟩|refine ⟨trivial,?_⟩|refine ⟨⟨rfl,Nat.le_of_ble_eq_true rfl⟩,?_⟩|refine ⟨⟨by kernel_rfl,by kernel_rfl⟩,?_⟩|refine ⟨by decide,?_⟩|refine lit_true ?_|refine lit_false ?_))
              intro c b3; cases c
              case true => exact absurd (yes_of b3) (by omega)
              (repeat ((conv=>whnf);first|refine ω0 ?_|refine ω1 ?_|refine ω2 ?_|refine ω3 ?_|refine ω4 rfl ?_|refine ω5 rfl ?_|refine ω6 ?_|refine ω7 ?_|refine ω8 ?_|refine ⟨rfl,?_⟩|refine ⟨trivial,?_⟩|refine ⟨⟨rfl,Nat.le_of_ble_eq_true rfl⟩,?_⟩|refine ⟨⟨by kernel_rfl,by kernel_rfl⟩,?_⟩|refine ⟨by decide,?_⟩|refine lit_true ?_|refine lit_false ?_))
              intro c b4; cases c
              case true => exact absurd (yes_of b4) (by omega)
              (repeat ((conv=>whnf);first|refine ω0 ?_|refine ω1 ?_|refine ω2 ?_|refine ω3 ?_|refine ω4 rfl ?_|refine ω5 rfl ?_|refine ω6 ?_|refine ω7 ?_|refine ω8 ?_|refine ⟨rfl,?_⟩|refine ⟨trivial,?_⟩|refine ⟨⟨rfl,Nat.le_of_ble_eq_true rfl⟩,?_⟩|refine ⟨⟨by kernel_rfl,by kernel_rfl⟩,?_⟩|refine ⟨by decide,?_⟩|refine lit_true ?_|refine lit_false ?_))
              refine aop_call rfl rfl (ECall.args (bs := [int (i + 1 : Nat), .bp (0, _) 0, .bp (2, _) 0]) ⟨le_int (wrap_succ (by dsimp only; omega)), AVle.refl _, AVle.refl _, trivial⟩
                (ECall.tell (goes_spec nx nx' nx3 (nx3 + 1) 3 (l.getD i ins0) now (i + 1) (atI l i) (by have := (hnx (i + 1) (by rw [hnxt]; simp)).2; omega) (by first | omega | (simp only [goI_length]; omega)) (hsm) hnow) ⟨rfl, OwnLe.of_eq (by rw [hor]; rfl), rfl, OwnLe.refl _, rfl, OwnLe.refl _, trivial⟩ trivial rfl)) fun r h' hq => ?_
              obtain ⟨kk, rfl⟩ := hq
              refine Named.same ?_
              (repeat ((conv=>whnf);first|refine ω0 ?_|refine ω1 ?_|refine ω2 ?_|refine ω3 ?_|refine ω4 rfl ?_|refine ω5 rfl ?_|refine ω6 ?_|refine ω7 ?_|refine ω8 ?_|refine ⟨rfl,?_⟩|refine ⟨trivial,?_⟩|refine ⟨⟨rfl,Nat.le_of_ble_eq_true rfl⟩,?_⟩|refine ⟨⟨by kernel_rfl,by kernel_rfl⟩,?_⟩|refine ⟨by decide,?_⟩|refine lit_true ?_|refine lit_false ?_))
              refine back (i + 1, _) (by dsimp only; omega) (by dsimp only; omega) (ele_tell [((0, _), .c ((goI now (atI l i) (i + 1)).map uA))] [] rfl rfl (.cons _ (.cons _ (.cons_cons _ .slnil))) .slnil ⟨rfl, OwnLe.of_eq ?_, trivial⟩ trivial ⟨AVle.refl _, AVle.refl _, AVle.refl _, AVle.refl _, le_int (wrap_succ (by dsimp only; omega)), trivial⟩)
              dsimp only
              rw [hstep]; unfold stepS; rw [hnxt]; (try rw [hnn]); rw [hnowd]; rfl
      · have h2 := yes_of g2
        have hit : (0 + (Int.toNat (i : Int)) * Try.prog.cellsOf 80) = i := by rw [c49]; omega
        (repeat ((conv=>whnf);first|refine ω0 ?_|refine ω1 ?_|refine ω2 ?_|refine ω3 ?_|refine ω4 rfl ?_|refine ω5 rfl ?_|refine ω6 ?_|refine ω7 ?_|refine ω8 ?_|refine ⟨rfl,?_⟩|refine ⟨trivial,?_⟩|refine ⟨⟨rfl,Nat.le_of_ble_eq_true rfl⟩,?_⟩|refine ⟨⟨by kernel_rfl,by kernel_rfl⟩,?_⟩|refine ⟨by decide,?_⟩|refine lit_true ?_|refine lit_false ?_))
        refine ⟨⟨by omega, by omega⟩, splitO_eq (b := .bp (0, nx) i) (congrArg (AV.bp (0, nx)) hit) ?_⟩
        obtain ⟨m, hm⟩ : ∃ m, 4096 - i = m + 1 := ⟨4096 - i - 1, by omega⟩
        have hsp : splice ((List.replicate i 65535 ++ List.replicate (4096 - i) 0).map uA) i [AV.v (.int .u16 65535)] = (List.replicate (i + 1) 65535 ++ List.replicate (4096 - (i + 1)) 0).map uA := by
          refine (splice_one (f := uA) (x := 65535) (by simp; omega)).trans ?_
          have := fill_set (List.replicate i 65535) m 65535 0
          rw [List.length_replicate] at this
          rw [hm, this, show 4096 - (i + 1) = m by omega, List.replicate_succ']
        (conv => whnf)
        refine ⟨⟨rfl, by simp; omega⟩, ?_⟩
        rw [hsp]
        (repeat ((conv=>whnf);first|refine ω0 ?_|refine ω1 ?_|refine ω2 ?_|refine ω3 ?_|refine ω4 rfl ?_|refine ω5 rfl ?_|refine ω6 ?_|refine ω7 ?_|refine ω8 ?_|refine ⟨rfl,?_⟩|refine ⟨trivial,?_⟩|refine ⟨⟨rfl,Nat.le_of_ble_eq_true rfl⟩,?_⟩|refine ⟨⟨by kernel_rfl,by kernel_rfl⟩,?_⟩|refine ⟨by decide,?_⟩|refine lit_true ?_|refine lit_false ?_))
        exact back (i + 1) (by omega) (by omega) (ele_tell _ _ rfl rfl (List.Sublist.refl _) .slnil ⟨rfl, OwnLe.refl _, trivial⟩ trivial ⟨AVle.refl _, AVle.refl _, AVle.refl _, le_int (wrap_succ (by omega)), trivial⟩)
  · have g1 := bne_yes g1
    (repeat ((conv=>whnf);first|refine ω0 ?_|refine ω1 ?_|refine ω2 ?_|refine ω3 ?_|refine ω4 rfl ?_|refine ω5 rfl ?_|refine ω6 ?_|refine ω7 ?_|refine ω8 ?_|refine ⟨rfl,?_⟩|refine ⟨trivial,?_⟩|refine ⟨⟨rfl,Nat.le_of_ble_eq_true rfl⟩,?_⟩|refine ⟨⟨by kernel_rfl,by kernel_rfl⟩,?_⟩|refine ⟨by decide,?_⟩|refine lit_true ?_|refine lit_false ?_))
    refine ret_tells rfl ?_
    unfold foundS
    rw [if_neg (by omega)]
    exact AVle.os_sl0
end Go.Proofs.W

namespace Go.Proofs.W
open Go.Vl
set_option maxRecDepth 100000

theorem storedI_length {l : List Ins} (hf : Formed l) : (storedI l).length = l.length := by
  unfold storedI; rw [List.length_take, atI_length hf.le]; have := hf.le; omega
theorem storedI_small {l : List Ins} (hf : Formed l) : small (storedI l) := by
  intro k
  unfold storedI
  simp only [List.getD, List.getElem?_take]
  split
  · exact atI_small hf.le l.length k
  · simp
theorem bit_of {x k : Nat} (hx : x < 65536) (hk : k < 16) : bitsI .and .u16 ((x : Int).fdiv (2 ^ (min (Int.toNat (k : Int)) IntKind.u16.bits))) 1 = ((x / 2 ^ k % 2 : Nat) : Int) := by
  have h1 : min (Int.toNat (k : Int)) IntKind.u16.bits = k := by show min _ 16 = _; omega
  have h2 : (x : Int).fdiv (2 ^ k) = ((x / 2 ^ k : Nat) : Int) := by
    rw [Int.fdiv_eq_ediv_of_nonneg _ (by exact_mod_cast Nat.zero_le _)]; simp
  rw [h1, h2]
  have h3 := u16_and (a := x / 2 ^ k) (b := 1) (Nat.lt_of_le_of_lt (Nat.div_le_self _ _) hx) (by decide)
  rw [Nat.and_one_is_mod] at h3
  exact h3
theorem check_spec (l : List Ins) (hok : okL l) (hl : l.length ≤ 1000000000) : Tells Try.prog 48 [inss l] (.tup [int (checkI l).1, int (checkI l).2]) := by
  refine tells_of_aw Try.func48 rfl rfl fun nx => ?_
  (repeat ((conv=>whnf);first|refine ω0 ?_|refine ω1 ?_|refine ω2 ?_|refine ω3 ?_|refine ω4 rfl ?_|refine ω5 rfl ?_|refine ω6 ?_|refine ω7 ?_|refine ω8 ?_|refine ⟨rfl,?_⟩|refine ⟨trivial,?_⟩|refine ⟨⟨rfl,Nat.le_of_ble_eq_true rfl⟩,?_⟩|refine ⟨⟨by kernel_rfl,by kernel_rfl⟩,?_⟩|refine ⟨by decide,?_⟩|refine lit_true ?_|refine lit_false ?_))
  refine aop_tells rfl rfl (formed_spec l hok hl) ⟨AVle.refl _, trivial⟩ fun nx => ?_
  (repeat ((conv=>whnf);first|refine ω0 ?_|refine ω1 ?_|refine ω2 ?_|refine ω3 ?_|refine ω4 rfl ?_|refine ω5 rfl ?_|refine ω6 ?_|refine ω7 ?_|refine ω8 ?_|refine ⟨rfl,?_⟩|refine ⟨trivial,?_⟩|refine ⟨⟨rfl,Nat.le_of_ble_eq_true rfl⟩,?_⟩|refine ⟨⟨by kernel_rfl,by kernel_rfl⟩,?_⟩|refine ⟨by decide,?_⟩|refine lit_true ?_|refine lit_false ?_))
  intro c g1; cases c
  · have g1 := bne_no g1
    have hfz : (formedI l).2 = 0 := by omega
    have hf : Formed l := formed_of hfz
    have hle := hf.le
    have hpos := hf.pos
    have hsl := storedI_length hf
    have hss := storedI_small hf
    (repeat ((conv=>whnf);first|refine ω0 ?_|refine ω1 ?_|refine ω2 ?_|refine ω3 ?_|refine ω4 rfl ?_|refine ω5 rfl ?_|refine ω6 ?_|refine ω7 ?_|refine ω8 ?_|refine ⟨rfl,?_⟩|refine ⟨trivial,?_⟩|refine ⟨⟨rfl,Nat.le_of_ble_eq_true rfl⟩,?_⟩|refine ⟨⟨by kernel_rfl,by kernel_rfl⟩,?_⟩|refine ⟨by decide,?_⟩|refine lit_true ?_|refine lit_false ?_))
    have hst := stored_spec l hok hl
    unfold foundS at hst
    rw [if_pos hfz] at hst
    refine aop_tells rfl rfl hst ⟨AVle.refl _, trivial⟩ fun nx => ?_
    (repeat ((conv=>whnf);first|refine ω0 ?_|refine ω1 ?_|refine ω2 ?_|refine ω3 ?_|refine ω4 rfl ?_|refine ω5 rfl ?_|refine ω6 ?_|refine ω7 ?_|refine ω8 ?_|refine ⟨rfl,?_⟩|refine ⟨trivial,?_⟩|refine ⟨⟨rfl,Nat.le_of_ble_eq_true rfl⟩,?_⟩|refine ⟨⟨by kernel_rfl,by kernel_rfl⟩,?_⟩|refine ⟨by decide,?_⟩|refine lit_true ?_|refine lit_false ?_))
    refine aw_loop (fun s : Nat × Nat => mk 57 [(0, inss l), (21, u16s (storedI l)), (22, int (storedI l).length), (23, int s.1)] ⟨[], [], s.2, 0⟩) (fun s => s.1 ≤ l.length ∧ ∀ j, j < s.1 → ¬ ((kind l j = 3 ∨ kind l j = 6) ∧ (storedI l).getD j 0 / 2 ^ (l.getD j ins0).k % 2 = 0)) (fun s => l.length - s.1) ?_ ?_
    · exact ⟨(0, _), ⟨by omega, by intro j hj; omega⟩, ele_mk rfl rfl ⟨AVle.refl _, AVle.refl _, AVle.refl _, AVle.refl _, trivial⟩⟩
    · rintro ⟨i, nx'⟩ ⟨h3, h4⟩
      dsimp only at h3 h4
      (repeat ((conv=>whnf);first|refine ω0 ?_|refine ω1 ?_|refine ω2 ?_|refine ω3 ?_|refine ω4 rfl ?_|refine ω5 rfl ?_|refine ω6 ?_|refine ω7 ?_|refine ω8 ?_|refine ⟨rfl,?_⟩|refine ⟨trivial,?_⟩|refine ⟨⟨rfl,Nat.le_of_ble_eq_true rfl⟩,?_⟩|refine ⟨⟨by kernel_rfl,by kernel_rfl⟩,?_⟩|refine ⟨by decide,?_⟩|refine lit_true ?_|refine lit_false ?_))
      intro c g2; cases c
      · have h5 := not_of g2
        dsimp only at h5
        obtain rfl : i = l.length := by omega
        (repeat ((conv=>whnf);first|refine ω0 ?_|refine ω1 ?_|refine ω2 ?_|refine ω3 ?_|refine ω4 rfl ?_|refine ω5 rfl ?_|refine ω6 ?_|refine ω7 ?_|refine ω8 ?_|refine ⟨rfl,?_⟩|refine ⟨trivial,?_⟩|refine ⟨⟨rfl,Nat.le_of_ble_eq_true rfl⟩,?_⟩|refine ⟨⟨by kernel_rfl,by kernel_rfl⟩,?_⟩|refine ⟨by decide,?_⟩|refine lit_true ?_|refine lit_false ?_))
        refine ret_tells rfl (AVle.of_eq ?_)
        have : checkI l = (0, 0) := by
          unfold checkI
          rw [if_neg (by omega), find_range_none fun j hj => by rw [decide_eq_false_iff_not]; exact h4 j hj]
        rw [this]; rfl
      · have h5 := yes_of g2
        dsimp only at h5
        have hi : i < l.length := by omega
        have hki : (l.getD i ins0).ok := hok.get hi
        have hpt := wrong_parts (hf.ok i hi)
        (repeat ((conv=>whnf);first|refine ω0 ?_|refine ω1 ?_|refine ω2 ?_|refine ω3 ?_|refine ω4 rfl ?_|refine ω5 rfl ?_|refine ω6 ?_|refine ω7 ?_|refine ω8 ?_|refine ⟨rfl,?_⟩|refine ⟨trivial,?_⟩|refine ⟨⟨rfl,Nat.le_of_ble_eq_true rfl⟩,?_⟩|refine ⟨⟨by kernel_rfl,by kernel_rfl⟩,?_⟩|refine ⟨by decide,?_⟩|refine lit_true ?_|refine lit_false ?_))
        refine ⟨⟨by dsimp only; omega, by dsimp only; omega⟩, ?_⟩
        (repeat ((conv=>whnf);first|refine ω0 ?_|refine ω1 ?_|refine ω2 ?_|refine ω3 ?_|refine ω4 rfl ?_|refine ω5 rfl ?_|refine ω6 ?_|refine ω7 ?_|refine ω8 ?_|refine ⟨rfl,?_⟩|refine ⟨trivial,?_⟩|refine ⟨⟨rfl,Nat.le_of_ble_eq_true rfl⟩,?_⟩|refine ⟨⟨by kernel_rfl,by kernel_rfl⟩,?_⟩|refine ⟨by decide,?_⟩|refine lit_true ?_|refine lit_false ?_))
        refine ⟨⟨by dsimp only; omega, by dsimp only; omega⟩, ?_⟩
        (repeat ((conv=>whnf);first|refine ω0 ?_|refine ω1 ?_|refine ω2 ?_|refine ω3 ?_|refine ω4 rfl ?_|refine ω5 rfl ?_|refine ω6 ?_|refine ω7 ?_|refine ω8 ?_|refine ⟨rfl,?_⟩|refine ⟨trivial,?_⟩|refine ⟨⟨rfl,Nat.le_of_ble_eq_true rfl⟩,?_⟩|refine ⟨⟨by kernel_rfl,by kernel_rfl⟩,?_⟩|refine ⟨by decide,?_⟩|refine lit_true ?_|refine lit_false ?_))
        refine aop_tells rfl rfl (of_kind (l.getD i ins0).code hki.1) ⟨AVle.refl _, trivial⟩ fun nx3 => ?_
        (repeat ((conv=>whnf);first|refine ω0 ?_|refine ω1 ?_|refine ω2 ?_|refine ω3 ?_|refine ω4 rfl ?_|refine ω5 rfl ?_|refine ω6 ?_|refine ω7 ?_|refine ω8 ?_|refine ⟨rfl,?_⟩|refine ⟨trivial,?_⟩|refine ⟨⟨rfl,Nat.le_of_ble_eq_true rfl⟩,?_⟩|refine ⟨⟨by kernel_rfl,by kernel_rfl⟩,?_⟩|refine ⟨by decide,?_⟩|refine lit_true ?_|refine lit_false ?_))
        intro c a1; cases c
        · have a1 := not_of a1
          (repeat ((conv=>whnf);first|refine ω0 ?_|refine ω1 ?_|refine ω2 ?_|refine ω3 ?_|refine ω4 rfl ?_|refine ω5 rfl ?_|refine ω6 ?_|refine ω7 ?_|refine ω8 ?_|refine ⟨rfl,?_⟩|refine ⟨trivial,?_⟩|refine ⟨⟨rfl,Nat.le_of_ble_eq_true rfl⟩,?_⟩|refine ⟨⟨by kernel_rfl,by kernel_rfl⟩,?_⟩|refine ⟨by decide,?_⟩|refine lit_true ?_|refine lit_false ?_))
          intro c a2; cases c
          · have a2 := not_of a2
            (repeat ((conv=>whnf);first|refine ω0 ?_|refine ω1 ?_|refine ω2 ?_|refine ω3 ?_|refine ω4 rfl ?_|refine ω5 rfl ?_|refine ω6 ?_|refine ω7 ?_|refine ω8 ?_|refine ⟨rfl,?_⟩|refine ⟨trivial,?_⟩|refine ⟨⟨rfl,Nat.le_of_ble_eq_true rfl⟩,?_⟩|refine ⟨⟨by kernel_rfl,by kernel_rfl⟩,?_⟩|refine ⟨by decide,?_⟩|refine lit_true ?_|refine lit_false ?_))
            refine back (i + 1, _) ⟨by dsimp only; omega, fun j hj => ?_⟩ (by dsimp only; omega) (ele_mk rfl rfl ⟨AVle.refl _, AVle.refl _, AVle.refl _, le_int (wrap_succ (by dsimp only; omega)), trivial⟩)
            dsimp only at hj
            rcases Nat.lt_or_ge j i with h | h
            · exact h4 j h
            · obtain rfl : j = i := by omega
              unfold kind; omega
          · have a2 := yes_of a2
            have hb := bit_of (hss i) (k := (l.getD i ins0).k) (by omega)
            have hkd : kind l i = 3 ∨ kind l i = 6 := by unfold kind; omega
            (repeat ((conv=>whnf);first|refine ω0 ?_|refine ω1 ?_|refine ω2 ?_|refine ω3 ?_|refine ω4 rfl ?_|refine ω5 rfl ?_|refine ω6 ?_|refine ω7 ?_|refine ω8 ?_|refine ⟨rfl,?_⟩|refine ⟨trivial,?_⟩|refine ⟨⟨rfl,Nat.le_of_ble_eq_true rfl⟩,?_⟩|refine ⟨⟨by kernel_rfl,by kernel_rfl⟩,?_⟩|refine ⟨by decide,?_⟩|refine lit_true ?_|refine lit_false ?_))
            (conv => whnf)
            refine ⟨⟨by dsimp only; omega, by dsimp only; omega⟩, ?_⟩
            (repeat ((conv=>whnf);first|refine ω0 ?_|refine ω1 ?_|refine ω2 ?_|refine ω3 ?_|refine ω4 rfl ?_|refine ω5 rfl ?_|refine ω6 ?_|refine ω7 ?_|refine ω8 ?_|refine ⟨rfl,?_⟩|refine ⟨trivial,?_⟩|refine ⟨⟨rfl,Nat.le_of_ble_eq_true rfl⟩,?_⟩|refine ⟨⟨by kernel_rfl,by kernel_rfl⟩,?_⟩|refine ⟨by decide,?_⟩|refine lit_true ?_|refine lit_false ?_))
            (conv => whnf)
            refine ⟨Int.natCast_nonneg _, ?_⟩
            (repeat ((conv=>whnf);first|refine ω0 ?_|refine ω1 ?_|refine ω2 ?_|refine ω3 ?_|refine ω4 rfl ?_|refine ω5 rfl ?_|refine ω6 ?_|refine ω7 ?_|refine ω8 ?_|refine ⟨rfl,?_⟩|refine ⟨trivial,?_⟩|refine ⟨⟨rfl,Nat.le_of_ble_eq_true rfl⟩,?_⟩|refine ⟨⟨by kernel_rfl,by kernel_rfl⟩,?_⟩|refine ⟨by decide,?_⟩|refine lit_true ?_|refine lit_false ?_))
            intro c a3; cases c
            · have a3 := not_of a3
              have a4 : ¬ (((storedI l).getD i 0 / 2 ^ (l.getD i ins0).k % 2 : Nat) : Int) = 0 := hb ▸ a3
              (repeat ((conv=>whnf);first|refine ω0 ?_|refine ω1 ?_|refine ω2 ?_|refine ω3 ?_|refine ω4 rfl ?_|refine ω5 rfl ?_|refine ω6 ?_|refine ω7 ?_|refine ω8 ?_|refine ⟨rfl,?_⟩|refine ⟨trivial,?_⟩|refine ⟨⟨rfl,Nat.le_of_ble_eq_true rfl⟩,?_⟩|refine ⟨⟨by kernel_rfl,by kernel_rfl⟩,?_⟩|refine ⟨by decide,?_⟩|refine lit_true ?_|refine lit_false ?_))
              refine back (i + 1, _) ⟨by dsimp only; omega, fun j hj => ?_⟩ (by dsimp only; omega) (ele_mk rfl rfl ⟨AVle.refl _, AVle.refl _, AVle.refl _, le_int (wrap_succ (by dsimp only; omega)), trivial⟩)
              dsimp only at hj
              rcases Nat.lt_or_ge j i with h | h
              · exact h4 j h
              · obtain rfl : j = i := by omega
                unfold kind; omega
            · have a3 := yes_of a3
              have a4 : (((storedI l).getD i 0 / 2 ^ (l.getD i ins0).k % 2 : Nat) : Int) = 0 := hb ▸ a3
              (repeat ((conv=>whnf);first|refine ω0 ?_|refine ω1 ?_|refine ω2 ?_|refine ω3 ?_|refine ω4 rfl ?_|refine ω5 rfl ?_|refine ω6 ?_|refine ω7 ?_|refine ω8 ?_|refine ⟨rfl,?_⟩|refine ⟨trivial,?_⟩|refine ⟨⟨rfl,Nat.le_of_ble_eq_true rfl⟩,?_⟩|refine ⟨⟨by kernel_rfl,by kernel_rfl⟩,?_⟩|refine ⟨by decide,?_⟩|refine lit_true ?_|refine lit_false ?_))
              refine ret_tells rfl (AVle.of_eq ?_)
              have : checkI l = (i, 12) := by
                unfold checkI
                rw [if_neg (by omega), find_range_some hi (by rw [decide_eq_true_eq]; exact ⟨hkd, by omega⟩) (fun j hj => by rw [decide_eq_false_iff_not]; exact h4 j hj)]
              rw [this]; rfl
        · have a1 := yes_of a1
          have hb := bit_of (hss i) (k := (l.getD i ins0).k) (by omega)
          have hkd : kind l i = 3 ∨ kind l i = 6 := by unfold kind; omega
          (repeat ((conv=>whnf);first|refine ω0 ?_|refine ω1 ?_|refine ω2 ?_|refine ω3 ?_|refine ω4 rfl ?_|refine ω5 rfl ?_|refine ω6 ?_|refine ω7 ?_|refine ω8 ?_|refine ⟨rfl,?_⟩|refine ⟨trivial,?_⟩|refine ⟨⟨rfl,Nat.le_of_ble_eq_true rfl⟩,?_⟩|refine ⟨⟨by kernel_rfl,by kernel_rfl⟩,?_⟩|refine ⟨by decide,?_⟩|refine lit_true ?_|refine lit_false ?_))
          (conv => whnf)
          refine ⟨⟨by dsimp only; omega, by dsimp only; omega⟩, ?_⟩
          (repeat ((conv=>whnf);first|refine ω0 ?_|refine ω1 ?_|refine ω2 ?_|refine ω3 ?_|refine ω4 rfl ?_|refine ω5 rfl ?_|refine ω6 ?_|refine ω7 ?_|refine ω8 ?_|refine ⟨rfl,?_⟩|refine ⟨trivial,?_⟩|refine ⟨⟨rfl,Nat.le_of_ble_eq_true rfl⟩,?_⟩|refine ⟨⟨by kernel_rfl,by kernel_rfl⟩,?_⟩|refine ⟨by decide,?_⟩|refine lit_true ?_|refine lit_false ?_))
          (conv => whnf)
          refine ⟨Int.natCast_nonneg _, ?_⟩
          (repeat ((conv=>whnf);first|refine ω0 ?_|refine ω1 ?_|refine ω2 ?_|refine ω3 ?_|refine ω4 rfl ?_|refine ω5 rfl ?_|refine ω6 ?_|refine ω7 ?_|refine ω8 ?_|refine ⟨rfl,?_⟩|refine ⟨trivial,?_⟩|refine ⟨⟨rfl,Nat.le_of_ble_eq_true rfl⟩,?_⟩|refine ⟨⟨by kernel_rfl,by kernel_rfl⟩,?_⟩|refine ⟨by decide,?_⟩|refine lit_true ?_|refine lit_false ?_))
          intro c a3; cases c
          · have a3 := not_of a3
            have a4 : ¬ (((storedI l).getD i 0 / 2 ^ (l.getD i ins0).k % 2 : Nat) : Int) = 0 := hb ▸ a3
            (repeat ((conv=>whnf);first|refine ω0 ?_|refine ω1 ?_|refine ω2 ?_|refine ω3 ?_|refine ω4 rfl ?_|refine ω5 rfl ?_|refine ω6 ?_|refine ω7 ?_|refine ω8 ?_|refine ⟨rfl,?_⟩|refine ⟨trivial,?_⟩|refine ⟨⟨rfl,Nat.le_of_ble_eq_true rfl⟩,?_⟩|refine ⟨⟨by kernel_rfl,by kernel_rfl⟩,?_⟩|refine ⟨by decide,?_⟩|refine lit_true ?_|refine lit_false ?_))
            refine back (i + 1, _) ⟨by dsimp only; omega, fun j hj => ?_⟩ (by dsimp only; omega) (ele_mk rfl rfl ⟨AVle.refl _, AVle.refl _, AVle.refl _, le_int (wrap_succ (by dsimp only; omega)), trivial⟩)
            dsimp only at hj
            rcases Nat.lt_or_ge j i with h | h
            · exact h4 j h
            · obtain rfl : j = i := by omega
              unfold kind; omega
          · have a3 := yes_of a3
            have a4 : (((storedI l).getD i 0 / 2 ^ (l.getD i ins0).k % 2 : Nat) : Int) = 0 := hb ▸ a3
            (repeat ((conv=>whnf);first|refine ω0 ?_|refine ω1 ?_|refine ω2 ?_|refine ω3 ?_|refine ω4 rfl ?_|refine ω5 rfl ?_|refine ω6 ?_|refine ω7 ?_|refine ω8 ?_|refine ⟨rfl,?_⟩|refine ⟨trivial,?_⟩|refine ⟨⟨rfl,Nat.le_of_ble_eq_true rfl⟩,?_⟩|refine ⟨⟨by kernel_rfl,by kernel_rfl⟩,?_⟩|refine ⟨by decide,?_⟩|refine lit_true ?_|refine lit_false ?_))
            refine ret_tells rfl (AVle.of_eq ?_)
            have : checkI l = (i, 12) := by
              unfold checkI
              rw [if_neg (by omega), find_range_some hi (by rw [decide_eq_true_eq]; exact ⟨hkd, by omega⟩) (fun j hj => by rw [decide_eq_false_iff_not]; exact h4 j hj)]
            rw [this]; rfl
  · have g1 := bne_yes g1
    (repeat ((conv=>whnf);first|refine ω0 ?_|refine ω1 ?_|refine ω2 ?_|refine ω3 ?_|refine ω4 rfl ?_|refine ω5 rfl ?_|refine ω6 ?_|refine ω7 ?_|refine ω8 ?_|refine ⟨rfl,?_⟩|refine ⟨trivial,?_⟩|refine ⟨⟨rfl,Nat.le_of_ble_eq_true rfl⟩,?_⟩|refine ⟨⟨by kernel_rfl,by kernel_rfl⟩,?_⟩|refine ⟨by decide,?_⟩|refine lit_true ?_|refine lit_false ?_))
    refine ret_tells rfl (AVle.of_eq ?_)
    have : checkI l = formedI l := by
      unfold checkI
      rw [if_pos (by omega)]
    rw [this]; rfl
end Go.Proofs.W
